/-
  Texts of this claim, joined: EngS, EngAw.
-/
import Derived.Test.YtmiaabpnolebhaaGreatDoorJ3b91fb3c
import Derived.Test.YtmiaabpnolebhaaGreatDoorJ7ef1060b
import Derived.Test.YtmiaabpnolebhaaGreatDoorJ2be5e6e8
set_option linter.unusedSimpArgs false
set_option linter.unusedVariables false
/-
  Law 18: plain facts on the data; slices of bytes that came in.
-/
namespace Go.Proofs.YtmiaabpnolebhaaGreatDoor
open Go.RowKit

namespace Eng
open Otp Sha R1 Slot Spc Grant
theorem ld_data {v : SpV} {F vs : List Nat} {ls : List Bool} {who : Int} {a n off : Nat} (hn : n ≠ 0) (h : wth who v.st a n false = (2, off, 0)) : ldR v F vs ls who a n = (0, ((v.ram.drop 4096).drop off).take n) := by
  unfold ldR
  rw [if_neg hn, h]
  rfl
theorem st_data {v : SpV} {who : Int} {a off : Nat} {p : List Nat} (hn : p.length ≠ 0) (h : wth who v.st a p.length true = (2, off, 0)) : Spc.stR v who a p = (0, { v with ram := splice v.ram (4096 + off) p }) := by
  unfold Spc.stR
  rw [if_neg hn, h]
  rfl
theorem splice_read (l p : List Nat) (o : Nat) (h : o + p.length ≤ l.length) : ((splice l o p).drop o).take p.length = p := by
  unfold splice
  first | rw [List.append_assoc] | skip
  rw [List.drop_append, List.drop_of_length_le (by rw [List.length_take]; omega), List.nil_append, List.length_take, Nat.min_eq_left (by omega), Nat.sub_self, List.drop_zero, List.take_append, List.take_of_length_le (Nat.le_refl _), Nat.sub_self, List.take_zero, List.append_nil]
theorem data_at {a off n : Nat} {who st : Int} (wr : Bool) (ha : a = 536875008 + off) (hs : who = 0 ∧ st = 0 ∨ who = 2 ∧ (st = 0 ∨ st = 1 ∨ st = 2)) (h : off + n ≤ 4096) (ho : off < 4096) : wth who st a n wr = (2, off, 0) := by
  have hwh : whereN a = (2, off) := by
    unfold whereN
    refine (if_neg (by omega)).trans ((if_pos (by omega)).trans ?_)
    exact congrArg (Prod.mk 2) (by omega)
  have hc : chk who st a 1 wr false = (2, off, 0) := by
    unfold chk
    rw [hwh]
    dsimp only
    rw [if_neg (show ¬ a % (1 : Int).toNat ≠ 0 by show ¬ a % 1 ≠ 0; omega)]
    rcases hs with ⟨rfl, rfl⟩ | ⟨rfl, rfl | rfl | rfl⟩ <;> cases wr <;> rw [if_neg (by decide), if_neg (by decide), if_neg (by decide +kernel)]
  unfold wth
  rw [hc]
  dsimp only
  have hn : ¬ 4096 < n + off := by omega
  rw [if_neg (by decide), if_neg (show ¬ (sp.getD 2 (0, 0)).2 < n + off from hn)]
theorem sw_put {w w' : World} {g f pf cc p b : Nat} {v v' : SpV} {F vs : List Nat} {ls : List Bool} {sd : Bool} (h : Sw w g f pf cc p b v F vs ls sd) (hs : Sp w' g v') (hf : Frm [g] w w') (ho : v'.Ok) (h1 : v'.fl = v.fl) (h2 : v'.ch = v.ch) : Sw w' g f pf cc p b v' F vs ls sd := by
  obtain ⟨T, k1, k2⟩ := h.hF
  obtain ⟨_, _, k3⟩ := h.hC.fz.head
  obtain ⟨_, k4, _⟩ := h.hC.fz.row
  have n1 : g ≠ f := Blk.ne h.sp k1 (by decide)
  have n2 : g ≠ pf := Blk.ne h.sp k2 (by decide)
  have n3 : g ≠ cc := Blk.ne h.sp h.hC.head (by decide)
  have n4 : g ≠ p := Blk.ne h.sp k3 (by decide)
  have n5 : g ≠ b := Blk.ne h.sp k4 (by decide)
  exact ⟨ho, hs, h1.trans h.fl, h2.trans h.ch, ⟨T, k1.frm hf (by simp; omega), k2.frm hf (by simp; omega)⟩, h.fb, h.fn, h.hC.frm hf (by simp; omega) (by simp; omega) (by simp; omega)⟩
theorem out3 {x a b c : Nat} (h1 : a ≠ x) (h2 : x ≠ b) (h3 : x ≠ c) : x ∉ [a, b, c] := by
  simp
  exact ⟨fun e => h1 e.symm, h2, h3⟩
theorem sw_do {w w' : World} {g f pf cc p b ge s : Nat} {v v' : SpV} {F vs : List Nat} {ls : List Bool} {sd : Bool} (h : Sw w g f pf cc p b v F vs ls sd) (hs : Sp w' g v') (hf : Frm [g, ge, s] w w') (ha : Far g f pf cc p b ge s) (ho : v'.Ok) (h1 : v'.fl = v.fl) (h2 : v'.ch = v.ch) : Sw w' g f pf cc p b v' F vs ls sd := by
  obtain ⟨T, k1, k2⟩ := h.hF
  obtain ⟨_, _, k3⟩ := h.hC.fz.head
  obtain ⟨_, k4, _⟩ := h.hC.fz.row
  have n1 : g ≠ f := Blk.ne h.sp k1 (by decide)
  have n2 : g ≠ pf := Blk.ne h.sp k2 (by decide)
  have n3 : g ≠ cc := Blk.ne h.sp h.hC.head (by decide)
  have n4 : g ≠ p := Blk.ne h.sp k3 (by decide)
  have n5 : g ≠ b := Blk.ne h.sp k4 (by decide)
  have a1 := ha.f
  have a2 := ha.pf
  have a3 := ha.c
  have a4 := ha.p
  have a5 := ha.b
  exact ⟨ho, hs, h1.trans h.fl, h2.trans h.ch, ⟨T, k1.frm hf (out3 n1 a1.1 a1.2), k2.frm hf (out3 n2 a2.1 a2.2)⟩, h.fb, h.fn, h.hC.frm hf (out3 n3 a3.1 a3.2) (out3 n4 a4.1 a4.2) (out3 n5 a5.1 a5.2)⟩
/-- Slices of bytes. -/
def Sls (w : World) (B : Nat) (a : Option Addr) (ps : List (List Nat)) : Prop := ∀ (i : Nat) (p : List Nat), ps[i]? = some p → ∃ b off A n c, a = some ⟨b, off, none⟩ ∧ b < B ∧ w.cell? ⟨b, off + i, none⟩ = some (.slice A n c) ∧ p.length = n ∧ n ≤ maxLen ∧ Nats .u8 256 w B A p
theorem Sls.next {w w' : World} {a : Option Addr} {ps : List (List Nat)} (h : Sls w w.heap.size a ps) (hb : Below w.heap.size w w') : Sls w' w'.heap.size a ps := fun i p hp => by
  obtain ⟨b, off, A, n, c, h1, h2, h3, h4, h5, h6⟩ := h i p hp
  exact ⟨b, off, A, n, c, h1, Nat.lt_of_lt_of_le h2 hb.size, (hb.cell (p := ⟨b, off + i, none⟩) h2).trans h3, h4, h5, nats_step h6 hb⟩
theorem rows_sls {w : World} {a : Option Addr} {len cap : Nat} {rows : List (List Value)} (h : RowsW w 1 [.sl .u8] a len cap rows) : ∃ ps : List (List Nat), ps.length = len ∧ len ≤ cap ∧ cap ≤ maxLen ∧ Sls w w.heap.size a ps := by
  obtain ⟨h1, h2, h3, h4⟩ := h
  have hone : ∀ i, i < len → ∃ p : List Nat, ∃ b off A n c, a = some ⟨b, off, none⟩ ∧ b < w.heap.size ∧ w.cell? ⟨b, off + i, none⟩ = some (.slice A n c) ∧ p.length = n ∧ n ≤ maxLen ∧ Nats .u8 256 w w.heap.size A p := fun i hi => by
    obtain ⟨hf, b, off, e, hc⟩ := h4 i (rows[i]'(by omega)) (List.getElem?_eq_getElem _)
    obtain ⟨v, vs, e1, ⟨A, n, c, zs, rfl, hz, hnc, hcm, hi⟩, _⟩ := FitsW.cons hf
    obtain ⟨hlt, hcell⟩ := hc 0 (.slice A n c) (by rw [e1]; rfl)
    refine ⟨zs.map Int.toNat, b, off, A, n, c, e, hlt, by simpa using hcell, by rw [List.length_map]; exact hz, Nat.le_trans hnc hcm, ints_nats (fun z hz => by have := bounds_u8 hz; omega) hi⟩
  have hone' : ∀ i, ∃ p : List Nat, i < len → ∃ b off A n c, a = some ⟨b, off, none⟩ ∧ b < w.heap.size ∧ w.cell? ⟨b, off + i, none⟩ = some (.slice A n c) ∧ p.length = n ∧ n ≤ maxLen ∧ Nats .u8 256 w w.heap.size A p := fun i => by
    rcases Nat.lt_or_ge i len with h | h
    · obtain ⟨p, hp⟩ := hone i h
      exact ⟨p, fun _ => hp⟩
    · exact ⟨[], fun h' => absurd h' (by omega)⟩
  refine ⟨(List.range len).map fun i => Classical.choose (hone' i), by simp, h2, h3, fun i p hp => ?_⟩
  have hi : i < len := by have := (List.getElem?_eq_some_iff.1 hp).1; simpa using this
  rw [List.getElem?_map, List.getElem?_range hi] at hp
  obtain rfl := Option.some.inj hp
  exact Classical.choose_spec (hone' i) hi
end Eng
end Go.Proofs.YtmiaabpnolebhaaGreatDoor

/-
  Law 18: awake.
-/
namespace Go.Proofs.YtmiaabpnolebhaaGreatDoor
open Go.RowKit

namespace Eng
open Otp Sha R1 Slot Spc Grant Fla
def abc : List Nat := [97, 98, 99]
def jAw : Jb := ⟨1, 0, 0, 0, 536875008, 536875072, 3, 0, 0⟩
theorem jAw_ok : jAw.Ok := ⟨by decide, by decide, by decide, by decide, by decide, by decide, by decide, by decide, by decide⟩
theorem aw_inp {v : SpV} {F vs : List Nat} {ls : List Bool} (h0 : v.st = 0) {r : List Nat} (hl : r.length = 8192) (hr : v.ram = splice r 4096 abc) : inpR v F vs ls jAw = (0, abc, zb) := by
  have h1 : ldR v F vs ls 2 536875008 3 = (0, ((v.ram.drop 4096).drop 0).take 3) := ld_data (by decide) (by rw [h0]; exact data_at (off := 0) false rfl (.inr ⟨rfl, .inl rfl⟩) (by decide) (by decide))
  have h2 : ((v.ram.drop 4096).drop 0).take 3 = abc := by
    rw [List.drop_zero, hr]
    exact splice_read r abc 4096 (by rw [hl]; decide)
  rw [h2] at h1
  unfold inpR
  rw [if_neg (by decide)]
  show (if (ldR v F vs ls 2 536875008 3).1 ≠ 0 ∨ (1 : Nat) ≠ 3 then _ else _) = _
  rw [if_pos (.inr (by decide))]
  show ((ldR v F vs ls 2 536875008 3).1, (ldR v F vs ls 2 536875008 3).2, zb) = _
  rw [h1]
theorem aw_do {v : SpV} {F vs : List Nat} {ls : List Bool} (ev : EnV) (h0 : v.st = 0) {r D : List Nat} (hl : r.length = 8192) (hr : v.ram = splice r 4096 abc) (hD : D.length = 32) : doR v F vs ls ev jAw (0, D, ev) = (0, { v with ram := splice v.ram (4096 + 64) D }, ev) := by
  have hs : Spc.stR v 2 536875072 D = (0, { v with ram := splice v.ram (4096 + 64) D }) := st_data (by rw [hD]; decide) (by rw [h0, hD]; exact data_at (off := 64) true rfl (.inr ⟨rfl, .inl rfl⟩) (by decide) (by decide))
  unfold doR
  rw [if_neg (show ¬ rightE jAw ≠ 0 by decide), aw_inp h0 hl hr, if_neg (show ¬ (0 : Nat) ≠ 0 by decide), if_neg (show ¬ (0 : Nat) ≠ 0 by decide)]
  show ((Spc.stR v 2 536875072 D).1, (Spc.stR v 2 536875072 D).2, if (Spc.stR v 2 536875072 D).1 = 0 ∧ keyedJ jAw = true then _ else ev) = _
  rw [hs, if_neg (fun h => absurd h.2 (by decide))]
set_option maxRecDepth 100000 in
set_option maxHeartbeats 8000000 in
theorem awake_any (w : World) (hT : STab w) (hS : Spans w) : Calls Tryz.prog 42 #[] w (TrueBelow w) := by
  have HT := wall hT
  have HS := wall hS
  have HLY := wall (show Calls Tryz.prog 49 #[.int .u8 0] w (LayE 0 w) from elay_any 0 (by decide) w)
  clear hT hS
  go_enter Tryz.func42, Tryz.ntmps42
  go_wp2_with fail
  (with_reducible refine (HLY.out).mono ?_); rintro e w1 ⟨N, g, f, pf, c, p, b, m, b1, b2, b3, b4, b5, v, rfl, hBo, hst, hram, -, hB1⟩
  have HBO := wall hBo
  have HV := wall (And.intro hst hram)
  have HB1 := wall hB1
  clear hBo hst hram hB1 HLY
  try simp only [Act.put, List.setIfInBounds_toArray, List.set_cons_zero, List.set_cons_succ]
  go_wp2_with fail
  (with_reducible refine (enew_any w1).mono ?_); rintro e w2 ⟨ge, s, rfl, hge, hs, hE, hB2⟩
  have HE2 := wall hE
  have HB2 := wall (below_then HB1.out hB2 (Nat.le_refl _))
  have HBO2 := wall (HBO.out.old hB2)
  have HLO := wall (show w1.heap.size ≤ ge ∧ w1.heap.size ≤ s ∧ w.heap.size ≤ w1.heap.size ∧ g < w1.heap.size ∧ f < w1.heap.size ∧ pf < w1.heap.size ∧ c < w1.heap.size ∧ p < w1.heap.size ∧ b < w1.heap.size from by
    have h := HBO.out
    have hh := h.hi
    have hm := h.mm
    have hl := h.sm.mf.k.lt
    have := HB1.out.size
    refine ⟨hge, hs, this, ?_, ?_, ?_, ?_, ?_, ?_⟩ <;> omega)
  clear hge hs hE hB2 HB1 HBO
  try simp only [Act.put, List.setIfInBounds_toArray, List.set_cons_zero, List.set_cons_succ]
  obtain ⟨W3, hW3⟩ : ∃ W, W = w2.alloc (.cells (b8 abc) 5 (3, 4)) := ⟨_, rfl⟩
  have hb3 : Below w2.heap.size w2 W3 := by rw [hW3]; exact (Below.refl _ _).alloc (Nat.le_refl _) _
  have HB3 := wall (below_then HB2.out hb3 (Nat.le_refl _))
  have HE3 := wall (HE2.out.old hb3)
  have HBO3 := wall (HBO2.out.old hb3)
  have HN3 := wall (show Nats .u8 256 W3 W3.heap.size (some ⟨w2.heap.size, 0, none⟩) abc by
    obtain ⟨A, cc, h1, h2, h3, h4⟩ := bytesN_mk (t := 5) w2 abc (by decide) (3, 4)
    cases h1
    rw [hW3]
    exact h4)
  have HW3 := wall hW3
  have HS3 := wall (HS.out.old HB3.out)
  have HT3 := wall (HT.out.old HB3.out)
  have HST := wall (store_any g v 0 536875008 536875008 (some ⟨w2.heap.size, 0, none⟩) 3 3 abc W3 HBO3.out.sw.ok HBO3.out.sw.sp rfl (by decide) rfl (by decide) HN3.out (by decide) (by rw [HV.out.1]; decide) HS3.out (fun _ => .inr (.inl (by rw [HV.out.1, data_at (off := 0) true rfl (.inl ⟨rfl, rfl⟩) (by decide) (by decide)]))))
  rw [st_data (off := 0) (by decide) (by rw [HV.out.1]; exact data_at (off := 0) true rfl (.inl ⟨rfl, rfl⟩) (by decide) (by decide))] at HST
  unfold StOut at HST
  simp only at HST
  have kc := fun (w : World) (C : Array Value) (n c : Nat) => Lib.run_convert_bytes_const (P := Tryz.prog) w 24 5 C n c Tryz.underlying24 Tryz.underlying5
  clear hW3 hb3 HB2 HE2 HBO2 HN3
  go_wp2_with fail
  change Calls _ _ _ (w2.alloc (.cells (b8 abc) 5 (3, 4))) _
  rw [← HW3.out]
  (with_reducible refine HST.out.mono ?_); rintro e w4 ⟨rfl, hS4, hF4⟩
  have HGW := wall (show w.heap.size ≤ g from HBO3.out.lo.1)
  have HB4 := wall (Below.frm HB3.out hF4 (Nat.le_refl _) (by have := HBO3.out.lo; simp; omega))
  have hlo := HLO.out
  have HE4 := wall (HE3.out.frm hF4 (by simp; omega) (by simp; omega))
  have hok : SpV.Ok { v with ram := splice v.ram (4096 + 0) abc } := HBO3.out.sw.ok.ram _ abc (by decide) (by decide)
  have hsw := sw_put HBO3.out.sw hS4 hF4 hok rfl rfl
  obtain ⟨v2, hv2⟩ : ∃ y : SpV, { v with ram := splice v.ram (4096 + 0) abc } = y := ⟨_, rfl⟩
  rw [hv2] at hsw
  have HSW4 := wall hsw
  have HV2 := wall (show v2.st = 0 ∧ v2.ram = splice (List.replicate 8192 0) 4096 abc by rw [← hv2]; exact ⟨HV.out.1, by rw [← HV.out.2]⟩)
  have HS4 := wall (HS.out.old HB4.out)
  have HT4 := wall (HT.out.old HB4.out)
  have HFAR := wall (show Far g f pf c p b ge s from by
    have hsv := HS.out.lt
    exact ⟨⟨by omega, by omega⟩, ⟨by omega, by omega⟩, ⟨by omega, by omega⟩, ⟨by omega, by omega⟩, ⟨by omega, by omega⟩, ⟨by omega, by omega⟩, ⟨by omega, by omega⟩⟩)
  have HDL := wall (show (sumB abc).length = 32 ∧ ∀ x ∈ sumB abc, x < 256 from ⟨sumB_length _, sumB_byte _⟩)
  have HMS := wall (fun W A n cc (hT : STab W) (hE : Eg W ge s enN) (hp : abc.length = n) (hc : n ≤ cc) (hnil : A = none → cc = 0) (hm : n ≤ 1024) (hz : Nats .u8 256 W W.heap.size A abc) (hv : zb.length = 16) => made_sum ge s enN jAw A n cc abc zb W hT hE jAw_ok rfl hp hc hnil hm hz hv)
  unfold madeSum at HMS
  obtain ⟨D, hD⟩ : ∃ y, sumB abc = y := ⟨_, rfl⟩
  have HDE := wall hD
  rw [hD] at HDL HMS
  have HDO := wall (fun (q : ∀ W A n cc, STab W → Eg W ge s enN → abc.length = n → n ≤ cc → (A = none → cc = 0) → n ≤ 1024 → Nats .u8 256 W W.heap.size A abc → zb.length = 16 → Calls Tryz.prog 121 #[.pointer (some ⟨ge, 0, none⟩), .agg (jbC jAw), .slice A n cc, .agg (b8 zb)] W (MadeOut W ge s (0, D, enN))) => do_of g f pf c p b v2 erased Otp.z64 f64 false ge s enN jAw (0, D, enN) w4 HT4.out HS4.out HSW4.out HE4.out jAw_ok (.inl HV2.out.1) HFAR.out (by show D.length ≤ 1000000; rw [HDL.out.1]; decide) (show (0 : Nat) ≤ 1000 by decide) (fun _ _ => by
    rw [aw_inp HV2.out.1 List.length_replicate HV2.out.2]
    exact fun W A n cc h1 h2 h3 h4 h5 h6 h7 h8 _ => q W A n cc h1 h2 h3 h4 h5 h6 h7 h8))
  have HDO2 := wall (HDO.out HMS.out)
  rw [aw_do enN HV2.out.1 List.length_replicate HV2.out.2 HDL.out.1] at HDO2
  unfold DoE at HDO2
  simp only at HDO2
  clear hS4 hF4 HST kc HW3 HE3 HBO3 HT3 HS3 HB3 HT4 HDO HMS hok hsw hD
  try simp only [Act.put, List.setIfInBounds_toArray, List.set_cons_zero, List.set_cons_succ]
  go_wp2_with fail
  change Calls _ _ #[.pointer (some ⟨ge, 0, none⟩), .pointer (some ⟨g, 0, none⟩), .agg (jbC jAw)] _ _
  (with_reducible refine HDO2.out.mono ?_); rintro e w5 ⟨rfl, hS5, -, hF5⟩
  have HB5 := wall (Below.frm HB4.out hF5 (Nat.le_refl _) (by
    have h1 := HLO.out
    have h2 := HSW4.out.sp
    have h3 := HGW.out
    simp
    omega))
  have hok5 : SpV.Ok { v2 with ram := splice v2.ram (4096 + 64) D } := HSW4.out.ok.ram _ D (by rw [HDL.out.1]; decide) HDL.out.2
  have HSW5 := wall (sw_do HSW4.out hS5 hF5 HFAR.out hok5 rfl rfl)
  have HRD := wall (show ((((splice v2.ram (4096 + 64) D).drop 4096).drop 64).take 32) = D from by
    rw [List.drop_drop]
    have := splice_read v2.ram D (4096 + 64) (by rw [HSW4.out.ok.rl, HDL.out.1]; decide)
    rw [HDL.out.1] at this
    exact this)
  have HS5 := wall (HS.out.old HB5.out)
  have HLD := wall (load_any g f pf c p b { v2 with ram := splice v2.ram (4096 + 64) D } erased Otp.z64 f64 false 0 536875072 32 536875072 32 w5 HSW5.out rfl (by decide) rfl (by decide) (by decide) (by show (Lit.int .i64 v2.st).wf = true; rw [HV2.out.1]; decide) HS5.out)
  rw [ld_data (by decide) (by show wth 0 v2.st 536875072 32 false = (2, 64, 0); rw [HV2.out.1]; exact data_at (off := 64) false rfl (.inl ⟨rfl, rfl⟩) (by decide) (by decide))] at HLD
  unfold LdOut at HLD
  simp only at HLD
  rw [HRD.out] at HLD
  clear hS5 hF5 hok5 HDO2 HSW4 HB4 HE4 HS4 hlo
  try simp only [Act.put, List.setIfInBounds_toArray, List.set_cons_zero, List.set_cons_succ]
  go_wp2_with fail
  (with_reducible refine HLD.out.mono ?_); rintro e w6 ⟨u, rfl, hO6, hB6⟩
  have HB6 := wall (below_then HB5.out hB6 (Nat.le_refl _))
  obtain ⟨A6, c6, rfl, -, hN6, -⟩ := own_nats hO6 HDL.out.2
  rw [HDL.out.1]
  have HN6 := wall hN6
  clear hO6 hB6 HLD HSW5 HS5 HB5 hN6
  try simp only [Act.put, List.setIfInBounds_toArray, List.set_cons_zero, List.set_cons_succ]
  obtain ⟨W7, hW7⟩ : ∃ W, W = w6.alloc (.cells (b8 abc) 5 (3, 4)) := ⟨_, rfl⟩
  have hb7 : Below w6.heap.size w6 W7 := by rw [hW7]; exact (Below.refl _ _).alloc (Nat.le_refl _) _
  have HB7 := wall (below_then HB6.out hb7 (Nat.le_refl _))
  have HN7 := wall (nats_step HN6.out hb7)
  have HSM := wall (rsum_any (some ⟨w6.heap.size, 0, none⟩) 3 3 abc W7 rfl (by decide) (by
    obtain ⟨A, cc, h1, h2, h3, h4⟩ := bytesN_mk (t := 5) w6 abc (by decide) (3, 4)
    cases h1
    rw [hW7]
    exact h4))
  rw [HDE.out] at HSM
  have HW7 := wall hW7
  have kc := fun (w : World) (C : Array Value) (n c : Nat) => Lib.run_convert_bytes_const (P := Tryz.prog) w 24 5 C n c Tryz.underlying24 Tryz.underlying5
  clear hW7 hb7 HN6 HB6
  go_wp2_with fail
  change Calls _ _ _ (w6.alloc (.cells (b8 abc) 5 (3, 4))) _
  rw [← HW7.out]
  (with_reducible refine HSM.out.mono ?_); rintro e w8 ⟨rfl, hB8⟩
  have HB8 := wall (below_then HB7.out hB8 (Nat.le_refl _))
  have HN8 := wall (nats_step HN7.out hB8)
  have HSD := wall (show (Tryz.prog.info? 23).map (·.size) = some (b8 D).size by rw [b8_size, HDL.out.1]; exact dig_info)
  have HZD := wall (show (b8 zp).size = (b8 D).size by rw [b8_size, b8_size, HDL.out.1]; rfl)
  have hsl := run_slice_arr_all' (P := Tryz.prog) 23 5 32 Tryz.underlying23 (fun _ => by kernel_rfl)
  clear hB8 HSM kc HW7 HB7 HN7
  try simp only [Act.put, List.setIfInBounds_toArray, List.set_cons_zero, List.set_cons_succ]
  go_upto_region 8 with (refine wpList_new_row rfl 23 (.tmp 7) (.tmp 37) rfl w8.heap.size (b8 D) rfl rfl 23 (b8 zp) (Blk.new _ _ _) HSD.out HZD.out (b8_one _) w8.heap.size w8 ((Below.refl _ w8).alloc (Nat.le_refl _) _) (Nat.le_refl _) ?_; intro w9 K9 B9)
  have HB9 := wall (below_then HB8.out B9.out (Nat.le_refl _))
  have HN9 := wall (nats_step HN8.out B9.out)
  have HQ := wall (R1.same_any A6 (some ⟨w8.heap.size, 0, none⟩) 32 32 c6 32 D D true w9 _ _ HDL.out.1 HDL.out.1 (by decide) (by decide) HN9.out (nats_b8 K9.out HDL.out.2) (by simp))
  unfold SameOut at HQ
  clear B9 K9 HB8 HN8 HN9
  try simp only [Act.put, List.setIfInBounds_toArray, List.set_cons_zero, List.set_cons_succ]
  go_wp2_with fail
  (with_reducible refine HQ.out.mono ?_); rintro e w10 ⟨rfl, nq, rfl⟩
  clear HQ
  try simp only [Act.put, List.setIfInBounds_toArray, List.set_cons_zero, List.set_cons_succ]
  go_wp2_with fail
  go_light
  go_ret
  exact ⟨rfl, Below.drewN HB9.out _⟩
end Eng
end Go.Proofs.YtmiaabpnolebhaaGreatDoor
