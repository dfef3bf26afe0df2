/-
  Texts of this claim, joined: CorL, CorLz.
-/
import Derived.Test.YtmiaabpnolebhaaGreatDoorJ8546efe5
import Derived.Test.YtmiaabpnolebhaaGreatDoorJdd68b7ba
set_option maxHeartbeats 4000000
set_option maxRecDepth 100000
set_option linter.unusedSimpArgs false
set_option linter.unusedVariables false
namespace Go.Proofs.YtmiaabpnolebhaaGreatDoor
open Go.RowKit

namespace Core
open Otp Sha R1 Spc Grant
structure Ly (w : World) (B g m b1 b2 b4 : Nat) (v : SpV) (st : Int) (p : List Nat) (l1 : List Nat) : Prop where
 sp : Sp w g v
 ok : v.Ok
 vs : v.st = st
 vr : v.ram = splice (List.replicate 8192 0) 0 p
 vp : v.prt = z64
 ms : Ms w B m b1 b2 b4 l1 st
 hg : B ≤ g
 ng : g ≠ b1
theorem Ly.old {w w' : World} {B g m b1 b2 b4 : Nat} {v : SpV} {st : Int} {p l1 : List Nat} (h : Ly w B g m b1 b2 b4 v st p l1) (hb : Below w.heap.size w w') : Ly w' B g m b1 b2 b4 v st p l1 :=
 ⟨h.sp.old hb, h.ok, h.vs, h.vr, h.vp, h.ms.old hb, h.hg, h.ng⟩
def LayOut (st : Int) (p : List Nat) (w : World) (e : Ending) (w' : World) : Prop := ∃ g m b1 b2 b4 v, e = .returned (.tuple #[.pointer (some ⟨g, 0, none⟩), .pointer (some ⟨m, 0, none⟩)]) ∧ Ly w' w.heap.size g m b1 b2 b4 v st p (splice z4k 0 p) ∧ Below w.heap.size w w'
theorem lay_any (stage : Nat) (hst : stage < 256) (A : Option Addr) (len cap : Nat) (p : List Nat) (w : World) (hS : Spans w) (hl : p.length = len) (hm : len ≤ maxLen) (hp : Nats .u8 256 w w.heap.size A p) :
  Calls Tryz.prog 23 #[.int .u8 (stage : Int), .slice A len cap] w (LayOut ((stage % 3 : Nat) : Int) (p.take 1024) w) := by
 have HS := wall hS
 have HP := wall hp
 have HL := wall (And.intro hl hm)
 have hst' : (stage : Int) % 3 = ((stage % 3 : Nat) : Int) := by simp
 have hs3 : stage % 3 < 3 := Nat.mod_lt _ (by decide)
 obtain ⟨st, hse⟩ : ∃ y, stage % 3 = y := ⟨_, rfl⟩
 rw [hse] at hst' hs3 ⊢
 obtain ⟨q, hqe⟩ : ∃ y, p.take 1024 = y := ⟨_, rfl⟩
 have HQE := wall hqe
 rw [hqe]
 clear hqe
 clear hS hp hl hm hst hse
 go_enter Tryz.func23, Tryz.ntmps23
 go_wp2_with fail
 (with_reducible refine (Fla.flash_new _).mono ?_); rintro e w1 ⟨f, pf, rfl, hf, hpf, hFl, hB1⟩
 have HB1 := wall hB1
 clear hf hpf hFl hB1
 try simp only [Act.put, rpA, rpB, rpC]
 go_wp2_with fail
 (with_reducible refine (new_chip _).mono ?_); rintro e w2 ⟨c, pc, bc, rfl, hC, hc, hp, hb, hB2⟩
 have HB2 := wall (below_then HB1.out hB2 (Nat.le_refl _))
 clear hC hc hp hb hB2 HB1
 try simp only [Act.put, rpA, rpB, rpC]
 go_wp2_with fail
 (with_reducible refine (newspace_any _ _ _).mono ?_); rintro e w3 ⟨g, rfl, hg, hSp, hB3⟩
 have HG := wall (show w.heap.size ≤ g ∧ g < w3.heap.size from ⟨Nat.le_trans HB2.out.size hg, Blk.lt hSp⟩)
 have HSP := wall hSp
 have HB3 := wall (below_then HB2.out hB3 (Nat.le_refl _))
 clear hg hSp hB3 HB2
 try simp only [Act.put, rpA, rpB, rpC]
 go_wp2_with fail
 (with_reducible refine (mem_new _ _).mono ?_); rintro e w4 ⟨m, b1, b2, b4, rfl, hMs, hB4⟩
 have HMS := wall hMs
 have HSP4 := wall (HSP.out.old hB4)
 have HB4 := wall (below_then HB3.out hB4 (Nat.le_refl _))
 have HG4 := wall (show g < w4.heap.size from Blk.lt HSP4.out)
 have HP4 := wall (nats_step (w' := w4) HP.out HB4.out)
 have HLL := wall HL.out
 have HW34 := wall (show w.heap.size ≤ w3.heap.size from HB3.out.size)
 have HB14 := wall (show b1 < w4.heap.size from HMS.out.mm.k1.lt)
 clear hMs hB4 HSP HB3
 try simp only [Act.put, rpA, rpB, rpC]
 go_wp2_with fail
 (with_reducible refine (cut_any A len cap p 1024 1024 _ HLL.out.1 HLL.out.2 rfl (by decide) HP4.out).mono ?_); rintro e w5 ⟨v5, rfl, hO, hB5⟩
 have hq : ∀ y ∈ p.take 1024, y < 256 := fun y hy => by
  obtain ⟨j, hj⟩ := List.mem_iff_getElem?.1 (List.mem_of_mem_take hy)
  exact (HP.out j y hj).1
 obtain ⟨A5, c5, rfl, hc5, hN5, hA5⟩ := own_nats hO hq
 have HQ := wall hq
 have HQL := wall (show (p.take 1024).length ≤ 1024 from List.length_take_le _ _)
 rw [HQE.out] at hc5 hN5 HQ HQL ⊢
 obtain ⟨n, hn⟩ : ∃ y, q.length = y := ⟨_, rfl⟩
 have HN := wall hn
 rw [hn] at hc5 HQL ⊢
 have HS5 := wall (HS.out.old (below_then HB4.out hB5 (Nat.le_refl _)))
 have HSP5 := wall (HSP4.out.old hB5)
 have HMS5 := wall (HMS.out.old hB5)
 have HB5 := wall (below_then HB4.out hB5 (Nat.le_refl _))
 have HN5 := wall hN5
 have HA5 := wall (fun (ad : Addr) (h : A5 = some ad) => show ad.block ∉ [g] from by
  have := hA5 ad h
  have := HG4.out
  simp
  omega)
 have HST := wall (store_code g _ A5 n c5 q w5 (spN_ok _ _) rfl HSP5.out HS5.out hn HQL.out hN5)
 have HA5' := wall (fun (ad : Addr) (h : A5 = some ad) => hA5 ad h)
 clear hO hB5 hq hn hN5 hA5 HSP4 HMS HB4 HP4 HLL HL HP HS HS5 HG4
 unfold StoreOut at HST
 try simp only [Act.put, rpA, rpB, rpC]
 go_wp2_with fail
 (with_reducible refine (HST.out).mono ?_); rintro e w6 ⟨rfl, hSp6, hF6⟩
 obtain ⟨v6, hv6, hok6, hr6, hp6⟩ : ∃ v6 : SpV, Sp w6 g v6 ∧ v6.Ok ∧ v6.ram = splice (List.replicate 8192 0) 0 q ∧ v6.prt = List.replicate 64 0 :=
  ⟨_, hSp6, (spN_ok _ _).ram 0 q (by have := HN.out; have := HQL.out; omega) HQ.out, rfl, rfl⟩
 have hgB := HG.out.1
 have c0 : w6.cell? ⟨g, 0, none⟩ = some (.int .i64 v6.st) := hv6.st
 have f0 : w6.frozen? ⟨g, 0, none⟩ = false := Blk.frozen hv6 0
 have HMS6 := wall (HMS5.out.frm hF6 HG.out.2)
 have HN6 := wall (nats_frm' HN5.out hF6 HA5.out)
 have HB6 := wall (Below.frm HB5.out hF6 (Nat.le_refl _) (by simp; exact hgB))
 have HV6 := wall (And.intro hv6 (And.intro hok6 (And.intro hr6 hp6)))
 clear hSp6 hF6 hv6 hok6 hr6 hp6 HST HSP5 HMS5 HB5 HN5 hgB
 try simp only [Act.put, rpA, rpB, rpC]
 go_upto_region 8 with fail
 refine wp_any (fun w' => Sp w' g { v6 with st := (st : Int) } ∧ Ms w' w3.heap.size m b1 b2 b4 z4k (st : Int) ∧ Nats .u8 256 w' w'.heap.size A5 q ∧ Below w.heap.size w w') ?_ ?_
 ·have f : Frm [g] w6 (w6.setCell ⟨g, 0, none⟩ (.int .i64 (st : Int))) := (Frm.refl _ _).setCell (p := ⟨g, 0, none⟩) (.inl (by simp)) _
  refine ⟨?_, HMS6.out.frm f HG.out.2, nats_frm' HN6.out f HA5.out, HB6.out.setCell (p := ⟨g, 0, none⟩) HG.out.1 _⟩
  have := HV6.out.1.set 0 (.int .i64 (st : Int))
  simp only [List.setIfInBounds_toArray] at this
  exact this
 intro w7 h7
 have HI := wall (And.intro HV6.out.2.1 (And.intro HV6.out.2.2.1 HV6.out.2.2.2))
 have H7 := wall h7
 have HQQ := wall HQ.out
 clear hst' h7 c0 f0 HMS6 HN6 HB6 HV6 HQ
 go_wp2_with fail
 go_loopg [38] n (fun gg s38 wr => ∃ i : Nat, i + gg = n ∧ s38 = .int .i64 (i : Int) ∧ Wall (Sp wr g { v6 with st := (st : Int) } ∧ Ms wr w3.heap.size m b1 b2 b4 (splice z4k 0 (q.take i)) (st : Int) ∧ Nats .u8 256 wr wr.heap.size A5 q ∧ Below w.heap.size w wr))
 case atStart => exact ⟨0, by omega, rfl, H7⟩
 case round =>
  obtain ⟨i, hg, rfl, HR⟩ := hrel
  clear H7
  have HGK := wall hg
  have hi : i ≤ n := by omega
  clear hg
  by_cases hlt : i < n
  ·have hlt' : (i : Int) < (n : Int) := by omega
   obtain ⟨x, hx⟩ : ∃ x, q[i]? = some x := ⟨_, List.getElem?_eq_getElem (by rw [HN.out]; exact hlt)⟩
   obtain ⟨hxl, xb, xo, rfl, hxb, hxc⟩ := HR.out.2.2.1 i x hx
   have m1 := HR.out.2.1.mm.c1
   have hsl : (splice z4k 0 (q.take i)).length = 4096 := HR.out.2.1.mm.n1.1
   have hi4 : i < 4096 := by have := HQL.out; omega
   obtain ⟨y, hy⟩ : ∃ y, (splice z4k 0 (q.take i))[i]? = some y := ⟨_, List.getElem?_eq_getElem (by rw [hsl]; exact hi4)⟩
   have kc : wr.cell? ⟨b1, i, none⟩ = some (.int .u8 (y : Int)) := by rw [HR.out.2.1.mm.k1.cell, b8_at hy]
   have kf : wr.frozen? ⟨b1, i, none⟩ = false := HR.out.2.1.mm.k1.frozen i
   have hi4' : (i : Int) < 4096 := by omega
   have HX := wall (And.intro hx hxl)
   have hml : m < wr.heap.size := HR.out.2.1.mm.lt
   clear hx hy hsl
   go_wp2_with fail
   go_light
   have HRN := wall (show Sp (wr.setCell ⟨b1, i, none⟩ (.int .u8 (x : Int))) g { v6 with st := (st : Int) } ∧ Ms (wr.setCell ⟨b1, i, none⟩ (.int .u8 (x : Int))) w3.heap.size m b1 b2 b4 (splice z4k 0 (q.take (i + 1))) (st : Int) ∧ Nats .u8 256 (wr.setCell ⟨b1, i, none⟩ (.int .u8 (x : Int))) (wr.setCell ⟨b1, i, none⟩ (.int .u8 (x : Int))).heap.size (some ⟨xb, xo, none⟩) q ∧ Below w.heap.size w (wr.setCell ⟨b1, i, none⟩ (.int .u8 (x : Int))) from by
    have hms := HR.out.2.1.put i x HX.out.2
    rw [splice_snoc HX.out.1 (by rw [HN.out]; have := HQL.out; show n ≤ (List.replicate 4096 0).length; rw [List.length_replicate]; omega)] at hms
    have hb1 := HR.out.2.1.h1
    have hg3 := HG.out.2
    have hw3 := HW34.out
    have f : Frm [b1] wr (wr.setCell ⟨b1, i, none⟩ (.int .u8 (x : Int))) := (Frm.refl _ _).setCell (p := ⟨b1, i, none⟩) (.inl (by simp)) _
    refine ⟨Blk.frm HR.out.1 f (by simp; omega), hms, nats_frm' HR.out.2.2.1 f (fun ad h => ?_), HR.out.2.2.2.setCell (p := ⟨b1, i, none⟩) (by show w.heap.size ≤ b1; omega) _⟩
    have h1 := HA5'.out ad h
    have h2 := HB14.out
    simp
    omega)
   go_roundg (n - (i + 1))
   case measure => have := HGK.out; omega
   case rel => exact ⟨i + 1, by have := HGK.out; omega, congrArg (Value.int .i64) (by have := HQL.out; first | (unfold wrap64; omega) | omega), HRN⟩
  ·obtain rfl : i = n := by omega
   go_wp2_with fail
   go_light
   go_ret2
   refine ⟨g, m, b1, b2, b4, { v6 with st := (st : Int) }, rfl, ⟨HR.out.1, HI.out.1.stage _, rfl, HI.out.2.1, HI.out.2.2, ?_, HG.out.1, ?_⟩, HR.out.2.2.2⟩
   ·have h := HR.out.2.1
    rw [List.take_of_length_le (by rw [HN.out]; exact Nat.le_refl _)] at h
    have hw3 := HW34.out
    exact ⟨h.mm, Nat.le_trans hw3 h.hm, Nat.le_trans hw3 h.h1, Nat.le_trans hw3 h.h2, Nat.le_trans hw3 h.h4, h.n12, h.n14, h.n1m, by obtain ⟨b3, b5, hf, h3, h5⟩ := h.full; exact ⟨b3, b5, hf, Nat.le_trans hw3 h3, Nat.le_trans hw3 h5⟩⟩
   ·have h := HR.out.2.1.h1
    have := HG.out.2
    omega
end Core
end Go.Proofs.YtmiaabpnolebhaaGreatDoor
namespace Go.Proofs.YtmiaabpnolebhaaGreatDoor
open Go.RowKit

namespace Core
open Otp Sha R1 Spc Grant Fla
def LayOut2 (st : Int) (p : List Nat) (w : World) (e : Ending) (w' : World) : Prop := ∃ g m b1 b2 b4 v, e = .returned (.tuple #[.pointer (some ⟨g, 0, none⟩), .pointer (some ⟨m, 0, none⟩)]) ∧ Ly w' w.heap.size g m b1 b2 b4 v st p (splice z4k 0 p) ∧ Below w.heap.size w w' ∧ ∃ f pf cc pp bb, Sw w' g f pf cc pp bb v erased z64 f64 false
theorem lay2_any (stage : Nat) (hst : stage < 256) (A : Option Addr) (len cap : Nat) (p : List Nat) (w : World) (hS : Spans w) (hl : p.length = len) (hm : len ≤ maxLen) (hp : Nats .u8 256 w w.heap.size A p) :
  Calls Tryz.prog 23 #[.int .u8 (stage : Int), .slice A len cap] w (LayOut2 ((stage % 3 : Nat) : Int) (p.take 1024) w) := by
 have HS := wall hS
 have HP := wall hp
 have HL := wall (And.intro hl hm)
 have hst' : (stage : Int) % 3 = ((stage % 3 : Nat) : Int) := by simp
 have hs3 : stage % 3 < 3 := Nat.mod_lt _ (by decide)
 obtain ⟨st, hse⟩ : ∃ y, stage % 3 = y := ⟨_, rfl⟩
 rw [hse] at hst' hs3 ⊢
 obtain ⟨q, hqe⟩ : ∃ y, p.take 1024 = y := ⟨_, rfl⟩
 have HQE := wall hqe
 rw [hqe]
 clear hqe
 clear hS hp hl hm hst hse
 go_enter Tryz.func23, Tryz.ntmps23
 go_wp2_with fail
 (with_reducible refine (Fla.flash_new _).mono ?_); rintro e w1 ⟨f, pf, rfl, hf, hpf, hFl, hB1⟩
 have HB1 := wall hB1
 have HFL := wall hFl
 clear hf hpf hFl hB1
 try simp only [Act.put, rpA, rpB, rpC]
 go_wp2_with fail
 (with_reducible refine (new_chip _).mono ?_); rintro e w2 ⟨c, pc, bc, rfl, hC, hc, hp, hb, hB2⟩
 have HB2 := wall (below_then HB1.out hB2 (Nat.le_refl _))
 have HFC2 := wall (And.intro (HFL.out.old hB2) hC)
 clear hC hc hp hb hB2 HB1 HFL
 try simp only [Act.put, rpA, rpB, rpC]
 go_wp2_with fail
 (with_reducible refine (newspace_any _ _ _).mono ?_); rintro e w3 ⟨g, rfl, hg, hSp, hB3⟩
 have HG := wall (show w.heap.size ≤ g ∧ g < w3.heap.size from ⟨Nat.le_trans HB2.out.size hg, Blk.lt hSp⟩)
 have HSP := wall hSp
 have HFC3 := wall (And.intro (HFC2.out.1.old hB3) (HFC2.out.2.old hB3))
 have HGF := wall (show f < g ∧ pf < g ∧ c < g ∧ pc < g ∧ bc < g from ⟨Nat.lt_of_lt_of_le HFC2.out.1.lt.1 hg, Nat.lt_of_lt_of_le HFC2.out.1.lt.2 hg, Nat.lt_of_lt_of_le HFC2.out.2.head.lt hg, Nat.lt_of_lt_of_le HFC2.out.2.fz.ltp hg, Nat.lt_of_lt_of_le HFC2.out.2.fz.ltb hg⟩)
 have HB3 := wall (below_then HB2.out hB3 (Nat.le_refl _))
 clear hg hSp hB3 HB2
 try simp only [Act.put, rpA, rpB, rpC]
 go_wp2_with fail
 (with_reducible refine (mem_new _ _).mono ?_); rintro e w4 ⟨m, b1, b2, b4, rfl, hMs, hB4⟩
 have HMS := wall hMs
 have HSP4 := wall (HSP.out.old hB4)
 have HB4 := wall (below_then HB3.out hB4 (Nat.le_refl _))
 have HG4 := wall (show g < w4.heap.size from Blk.lt HSP4.out)
 have HP4 := wall (nats_step (w' := w4) HP.out HB4.out)
 have HLL := wall HL.out
 have HW34 := wall (show w.heap.size ≤ w3.heap.size from HB3.out.size)
 have HB14 := wall (show b1 < w4.heap.size from HMS.out.mm.k1.lt)
 have HX4 := wall (show Frm [g] w3 w4 from Frm.of_below hB4)
 clear hMs hB4 HSP HB3
 try simp only [Act.put, rpA, rpB, rpC]
 go_wp2_with fail
 (with_reducible refine (cut_any A len cap p 1024 1024 _ HLL.out.1 HLL.out.2 rfl (by decide) HP4.out).mono ?_); rintro e w5 ⟨v5, rfl, hO, hB5⟩
 have hq : ∀ y ∈ p.take 1024, y < 256 := fun y hy => by
  obtain ⟨j, hj⟩ := List.mem_iff_getElem?.1 (List.mem_of_mem_take hy)
  exact (HP.out j y hj).1
 obtain ⟨A5, c5, rfl, hc5, hN5, hA5⟩ := own_nats hO hq
 have HQ := wall hq
 have HQL := wall (show (p.take 1024).length ≤ 1024 from List.length_take_le _ _)
 rw [HQE.out] at hc5 hN5 HQ HQL ⊢
 obtain ⟨n, hn⟩ : ∃ y, q.length = y := ⟨_, rfl⟩
 have HN := wall hn
 rw [hn] at hc5 HQL ⊢
 have HS5 := wall (HS.out.old (below_then HB4.out hB5 (Nat.le_refl _)))
 have HSP5 := wall (HSP4.out.old hB5)
 have HMS5 := wall (HMS.out.old hB5)
 have HB5 := wall (below_then HB4.out hB5 (Nat.le_refl _))
 have HN5 := wall hN5
 have HA5 := wall (fun (ad : Addr) (h : A5 = some ad) => show ad.block ∉ [g] from by
  have := hA5 ad h
  have := HG4.out
  simp
  omega)
 have HST := wall (store_code g _ A5 n c5 q w5 (spN_ok _ _) rfl HSP5.out HS5.out hn HQL.out hN5)
 have HA5' := wall (fun (ad : Addr) (h : A5 = some ad) => hA5 ad h)
 have HX5 := wall (show Frm [g] w3 w5 from HX4.out.trans (Frm.of_below hB5))
 clear hO hB5 hq hn hN5 hA5 HSP4 HMS HB4 HP4 HLL HL HP HS HS5 HG4
 unfold StoreOut at HST
 try simp only [Act.put, rpA, rpB, rpC]
 go_wp2_with fail
 (with_reducible refine (HST.out).mono ?_); rintro e w6 ⟨rfl, hSp6, hF6⟩
 obtain ⟨v6, hv6, hok6, hr6, hp6⟩ : ∃ v6 : SpV, Sp w6 g v6 ∧ v6.Ok ∧ v6.ram = splice (List.replicate 8192 0) 0 q ∧ v6.prt = List.replicate 64 0 ∧ v6.fl = some ⟨f, 0, none⟩ ∧ v6.ch = some ⟨c, 0, none⟩ :=
  ⟨_, hSp6, (spN_ok _ _).ram 0 q (by have := HN.out; have := HQL.out; omega) HQ.out, rfl, rfl, rfl, rfl⟩
 have hgB := HG.out.1
 have c0 : w6.cell? ⟨g, 0, none⟩ = some (.int .i64 v6.st) := hv6.st
 have f0 : w6.frozen? ⟨g, 0, none⟩ = false := Blk.frozen hv6 0
 have HMS6 := wall (HMS5.out.frm hF6 HG.out.2)
 have HN6 := wall (nats_frm' HN5.out hF6 HA5.out)
 have HB6 := wall (Below.frm HB5.out hF6 (Nat.le_refl _) (by simp; exact hgB))
 have HV6 := wall (And.intro hv6 (And.intro hok6 (And.intro hr6 hp6)))
 have HX6 := wall (show Frm [g] w3 w6 from HX5.out.trans hF6)
 clear hSp6 hF6 hv6 hok6 hr6 hp6 HST HSP5 HMS5 HB5 HN5 hgB
 try simp only [Act.put, rpA, rpB, rpC]
 go_upto_region 8 with fail
 refine wp_any (fun w' => Sp w' g { v6 with st := (st : Int) } ∧ Ms w' w3.heap.size m b1 b2 b4 z4k (st : Int) ∧ Nats .u8 256 w' w'.heap.size A5 q ∧ Below w.heap.size w w' ∧ Frm [g] w3 w') ?_ ?_
 ·have f : Frm [g] w6 (w6.setCell ⟨g, 0, none⟩ (.int .i64 (st : Int))) := (Frm.refl _ _).setCell (p := ⟨g, 0, none⟩) (.inl (by simp)) _
  refine ⟨?_, HMS6.out.frm f HG.out.2, nats_frm' HN6.out f HA5.out, HB6.out.setCell (p := ⟨g, 0, none⟩) HG.out.1 _, HX6.out.trans f⟩
  have := HV6.out.1.set 0 (.int .i64 (st : Int))
  simp only [List.setIfInBounds_toArray] at this
  exact this
 intro w7 h7
 have HI := wall (And.intro HV6.out.2.1 (And.intro HV6.out.2.2.1 HV6.out.2.2.2))
 have H7 := wall h7
 have HQQ := wall HQ.out
 clear hst' h7 c0 f0 HMS6 HN6 HB6 HV6 HQ
 go_wp2_with fail
 go_loopg [38] n (fun gg s38 wr => ∃ i : Nat, i + gg = n ∧ s38 = .int .i64 (i : Int) ∧ Wall (Sp wr g { v6 with st := (st : Int) } ∧ Ms wr w3.heap.size m b1 b2 b4 (splice z4k 0 (q.take i)) (st : Int) ∧ Nats .u8 256 wr wr.heap.size A5 q ∧ Below w.heap.size w wr ∧ Frm [g] w3 wr))
 case atStart => exact ⟨0, by omega, rfl, H7⟩
 case round =>
  obtain ⟨i, hg, rfl, HR⟩ := hrel
  clear H7
  have HGK := wall hg
  have hi : i ≤ n := by omega
  clear hg
  by_cases hlt : i < n
  ·have hlt' : (i : Int) < (n : Int) := by omega
   obtain ⟨x, hx⟩ : ∃ x, q[i]? = some x := ⟨_, List.getElem?_eq_getElem (by rw [HN.out]; exact hlt)⟩
   obtain ⟨hxl, xb, xo, rfl, hxb, hxc⟩ := HR.out.2.2.1 i x hx
   have m1 := HR.out.2.1.mm.c1
   have hsl : (splice z4k 0 (q.take i)).length = 4096 := HR.out.2.1.mm.n1.1
   have hi4 : i < 4096 := by have := HQL.out; omega
   obtain ⟨y, hy⟩ : ∃ y, (splice z4k 0 (q.take i))[i]? = some y := ⟨_, List.getElem?_eq_getElem (by rw [hsl]; exact hi4)⟩
   have kc : wr.cell? ⟨b1, i, none⟩ = some (.int .u8 (y : Int)) := by rw [HR.out.2.1.mm.k1.cell, b8_at hy]
   have kf : wr.frozen? ⟨b1, i, none⟩ = false := HR.out.2.1.mm.k1.frozen i
   have hi4' : (i : Int) < 4096 := by omega
   have HX := wall (And.intro hx hxl)
   have hml : m < wr.heap.size := HR.out.2.1.mm.lt
   clear hx hy hsl
   go_wp2_with fail
   go_light
   have HRN := wall (show Sp (wr.setCell ⟨b1, i, none⟩ (.int .u8 (x : Int))) g { v6 with st := (st : Int) } ∧ Ms (wr.setCell ⟨b1, i, none⟩ (.int .u8 (x : Int))) w3.heap.size m b1 b2 b4 (splice z4k 0 (q.take (i + 1))) (st : Int) ∧ Nats .u8 256 (wr.setCell ⟨b1, i, none⟩ (.int .u8 (x : Int))) (wr.setCell ⟨b1, i, none⟩ (.int .u8 (x : Int))).heap.size (some ⟨xb, xo, none⟩) q ∧ Below w.heap.size w (wr.setCell ⟨b1, i, none⟩ (.int .u8 (x : Int))) ∧ Frm [g] w3 (wr.setCell ⟨b1, i, none⟩ (.int .u8 (x : Int))) from by
    have hms := HR.out.2.1.put i x HX.out.2
    rw [splice_snoc HX.out.1 (by rw [HN.out]; have := HQL.out; show n ≤ (List.replicate 4096 0).length; rw [List.length_replicate]; omega)] at hms
    have hb1 := HR.out.2.1.h1
    have hg3 := HG.out.2
    have hw3 := HW34.out
    have f : Frm [b1] wr (wr.setCell ⟨b1, i, none⟩ (.int .u8 (x : Int))) := (Frm.refl _ _).setCell (p := ⟨b1, i, none⟩) (.inl (by simp)) _
    refine ⟨Blk.frm HR.out.1 f (by simp; omega), hms, nats_frm' HR.out.2.2.1 f (fun ad h => ?_), HR.out.2.2.2.1.setCell (p := ⟨b1, i, none⟩) (by show w.heap.size ≤ b1; omega) _, HR.out.2.2.2.2.trans' f (by intro y hy; simp at hy; omega)⟩
    have h1 := HA5'.out ad h
    have h2 := HB14.out
    simp
    omega)
   go_roundg (n - (i + 1))
   case measure => have := HGK.out; omega
   case rel => exact ⟨i + 1, by have := HGK.out; omega, congrArg (Value.int .i64) (by have := HQL.out; first | (unfold wrap64; omega) | omega), HRN⟩
  ·obtain rfl : i = n := by omega
   go_wp2_with fail
   go_light
   go_ret2
   refine ⟨g, m, b1, b2, b4, { v6 with st := (st : Int) }, rfl, ⟨HR.out.1, HI.out.1.stage _, rfl, HI.out.2.1, HI.out.2.2.1, ?_, HG.out.1, ?_⟩, HR.out.2.2.2.1, f, pf, c, pc, bc, ?_⟩
   ·have h := HR.out.2.1
    rw [List.take_of_length_le (by rw [HN.out]; exact Nat.le_refl _)] at h
    have hw3 := HW34.out
    exact ⟨h.mm, Nat.le_trans hw3 h.hm, Nat.le_trans hw3 h.h1, Nat.le_trans hw3 h.h2, Nat.le_trans hw3 h.h4, h.n12, h.n14, h.n1m, by obtain ⟨b3, b5, hf, h3, h5⟩ := h.full; exact ⟨b3, b5, hf, Nat.le_trans hw3 h3, Nat.le_trans hw3 h5⟩⟩
   ·have h := HR.out.2.1.h1
    have := HG.out.2
    omega
   ·have hgf := HGF.out
    have hx := HR.out.2.2.2.2
    obtain ⟨T, k1, k2⟩ := HFC3.out.1
    exact ⟨HI.out.1.stage _, HR.out.1, HI.out.2.2.2.1, HI.out.2.2.2.2, ⟨T, k1.frm hx (by simp; omega), k2.frm hx (by simp; omega)⟩, fun y hy => by rw [List.eq_of_mem_replicate hy]; decide, erased_len, HFC3.out.2.frm hx (by simp; omega) (by simp; omega) (by simp; omega)⟩
end Core
end Go.Proofs.YtmiaabpnolebhaaGreatDoor
