/-
  Texts of this claim, joined: SpcD, SpcS.
-/
import Derived.Test.YtmiaabpnolebhaaGreatDoorJ44370d77
set_option linter.unusedSimpArgs false
set_option linter.unusedVariables false
/-
  A space (package engine): kept, Store of the ROM's into the code.
-/
namespace Go.Proofs.YtmiaabpnolebhaaGreatDoor
open Go.RowKit

namespace Spc
open Otp Sha Grant
set_option maxRecDepth 100000 in
set_option maxHeartbeats 2000000 in
theorem kept_code (g : Nat) (w : World) : Calls Tryz.prog 92 #[.pointer (some ⟨g, 0, none⟩), .int .i64 1] w fun e w' => e = .returned (.slice (some ⟨g, 1, none⟩) 4096 8192) ∧ w = w' := by
  have s1 := Big.run_arr_h (P := Tryz.prog) 192 5 8192 Tryz.underlying192 (fun _ => by kernel_rfl) g 1 4096 .i64 4096 rfl (by decide) (by decide)
  go_enter Tryz.func92, Tryz.ntmps92
  go_wp2_with fail
  go_light
  go_ret
  exact ⟨rfl, rfl⟩
theorem code_at : chk 0 0 536870912 1 true false = (1, 0, 0) := by decide +kernel
theorem wth_code (n : Nat) (h : n ≤ 4096) : wth 0 0 536870912 n true = (1, 0, 0) := by
  unfold wth
  rw [code_at]
  simp only
  rw [if_neg (by decide), if_neg (by show ¬ 4096 < n + 0; omega)]
def StoreOut (g : Nat) (v : SpV) (w : World) (e : Ending) (w' : World) : Prop := e = .returned (.int .i64 0) ∧ Sp w' g v ∧ Frm [g] w w'
set_option maxRecDepth 100000 in
set_option maxHeartbeats 4000000 in
theorem store_code (g : Nat) (v : SpV) (A : Option Addr) (n c : Nat) (p : List Nat) (w : World) (hv : v.Ok) (h0 : v.st = 0) (hg : Sp w g v) (hS : Spans w) (hl : p.length = n) (hn : n ≤ 1024) (hp : Nats .u8 256 w w.heap.size A p) :
    Calls Tryz.prog 25 #[.pointer (some ⟨g, 0, none⟩), .int .i64 0, .int .u32 536870912, .slice A n c] w (StoreOut g { v with ram := splice v.ram 0 p } w) := by
  have HV := wall hv
  have HG := wall hg
  have HP := wall hp
  have HL := wall (And.intro hl hn)
  have hst : w.cell? ⟨g, 0, none⟩ = some (.int .i64 0) := by rw [← h0]; exact hg.st
  have HWI := wall (within_any g 0 0 536870912 n 536870912 true w rfl (by decide) (by decide) (by decide) (by omega) hS hst)
  rw [wth_code n (by omega)] at HWI
  unfold W3 at HWI
  simp only at HWI
  obtain ⟨v', hv'⟩ : ∃ y : SpV, { v with ram := splice v.ram 0 p } = y := ⟨_, rfl⟩
  have HVE := wall hv'
  rw [hv']
  by_cases hz : n = 0
  · have HE := wall (show v' = v by
      rw [← hv']
      have : p = [] := List.eq_nil_of_length_eq_zero (by omega)
      subst this
      rfl)
    subst hz
    clear hv hg hp hl hn hst h0 hv' HWI hS
    go_enter Tryz.func25, Tryz.ntmps25
    go_wp2_with fail
    go_light
    go_ret
    exact ⟨rfl, by rw [HE.out]; exact HG.out, Frm.refl _ _⟩
  · have hz' : ((n : Int) == 0) = false := by rw [beq_eq_false_iff_ne]; omega
    have hnn : (n : Int) ≤ 1024 := by omega
    clear hv hg hp hl hst h0 hv' hS
    go_enter Tryz.func25, Tryz.ntmps25
    go_wp2_with fail
    (with_reducible refine (HWI.out).mono ?_); rintro e w1 ⟨rfl, hB1⟩
    have HB1 := wall hB1
    clear hB1 HWI
    try simp only [Act.put, List.setIfInBounds_toArray, List.set_cons_zero, List.set_cons_succ]
    go_wp2_with fail
    (with_reducible refine (kept_code g _).mono ?_); rintro e w2 ⟨rfl, rfl⟩
    have hs0 : ∀ W, (Instr.sliceAt 24 (.slice (some ⟨g, 1, none⟩) 4096 8192) (some (.int .i64 0)) none none).run Tryz.prog W = .ok (.slice (some ⟨g, 1, none⟩) 4096 8192) W := fun W => by
      have h := run_slice_l1 (P := Tryz.prog) 24 5 Tryz.underlying24 (fun _ => by kernel_rfl) (some ⟨g, 1, none⟩) 4096 8192 0 .i64 0 rfl (by decide) W
      rw [h]
      simp [slA, Go.WideShapes.add_plain]
    have HG1 := wall (HG.out.old HB1.out)
    have HSR := wall (Rep.nats_src (HP.out.below HB1.out) (by rw [HL.out.1]; omega))
    have HMI := wall (show n = Nat.min n 4096 from (Nat.min_eq_left (by omega)).symm)
    go_wp2_with (refine wpList_copy_frm rfl (.tmp 54) (.tmp 55) 24 24 rfl 5 Tryz.underlying24 (by kernel_rfl) (some ⟨g, 1, none⟩) A 4096 8192 n c rfl rfl g 1 195 (spL v) HG1.out (v8 p) n (by rw [v8_length]; exact HL.out.1) HMI.out (fun _ => ⟨rfl, HSR.out⟩) (by rw [spL_length HV.out]; have := HL.out.2; omega) (Rep.v8_one' _) ?_; intro w3 K3 F3)
    have K3' := wall K3
    have F3' := wall F3
    clear K3 F3
    go_light
    go_ret
    refine ⟨rfl, ?_, (Frm.of_below HB1.out).trans F3'.out⟩
    have h := spL_ram HV.out 0 p (by have := HL.out; omega)
    show Blk _ _ _ (spL v').toArray
    rw [← HVE.out, ← h]
    exact K3'.out
end Spc
end Go.Proofs.YtmiaabpnolebhaaGreatDoor

/-
  A space (package engine): Store, where bytes are kept as bytes.
-/
namespace Go.Proofs.YtmiaabpnolebhaaGreatDoor
open Go.RowKit

namespace Spc
open Otp Sha Grant R1 Fla
/-- A region behind some bytes. -/
def putB (v : SpV) (r o : Nat) (p : List Nat) : SpV := if r = 1 then { v with ram := splice v.ram o p } else if r = 2 then { v with ram := splice v.ram (4096 + o) p } else { v with prt := splice v.prt o p }
theorem putB_ok {v : SpV} (h : v.Ok) {r o : Nat} {p : List Nat} (hr : r = 1 ∨ r = 2 ∨ r = 4) (hp : o + p.length ≤ (memO r).2.1) (hb : ∀ x ∈ p, x < 256) : (putB v r o p).Ok := by
  rcases hr with rfl | rfl | rfl
  · have hp' : o + p.length ≤ 4096 := hp
    exact h.ram o p (by omega) hb
  · have hp' : o + p.length ≤ 4096 := hp
    exact h.ram (4096 + o) p (by omega) hb
  · exact h.prt o p hp hb
theorem putB_row {v : SpV} (h : v.Ok) {r o : Nat} {p : List Nat} (hr : r = 1 ∨ r = 2 ∨ r = 4) (hp : o + p.length ≤ (memO r).2.1) : splice (spL v) ((memO r).1 + o) (v8 p) = spL (putB v r o p) := by
  rcases hr with rfl | rfl | rfl
  · have hp' : o + p.length ≤ 4096 := hp
    exact spL_ram h o p (by omega)
  · have hp' : o + p.length ≤ 4096 := hp
    have := spL_ram h (4096 + o) p (by omega)
    rw [← Nat.add_assoc] at this
    exact this
  · exact spL_prt h o p hp
theorem putB_same (v : SpV) (r o : Nat) (p : List Nat) : (putB v r o p).st = v.st ∧ (putB v r o p).fl = v.fl ∧ (putB v r o p).ch = v.ch := by
  unfold putB
  split
  · exact ⟨rfl, rfl, rfl⟩
  · split <;> exact ⟨rfl, rfl, rfl⟩
/-- What Store gives: the error, the space. -/
def stR (v : SpV) (who : Int) (a : Nat) (p : List Nat) : Nat × SpV :=
  if p.length = 0 then (0, v)
  else if (wth who v.st a p.length true).2.2 ≠ 0 then ((wth who v.st a p.length true).2.2, v)
  else (0, putB v (wth who v.st a p.length true).1 (wth who v.st a p.length true).2.1 p)
theorem st_ok {v : SpV} (h : v.Ok) (who : Int) (a : Nat) (p : List Nat) (hb : ∀ x ∈ p, x < 256)
    (hreg : (wth who v.st a p.length true).2.2 = 0 → (wth who v.st a p.length true).1 = 1 ∨ (wth who v.st a p.length true).1 = 2 ∨ (wth who v.st a p.length true).1 = 4) : (stR v who a p).2.Ok := by
  unfold stR
  split
  · exact h
  · split
    · exact h
    · rename_i h1 h2
      have he : (wth who v.st a p.length true).2.2 = 0 := by omega
      have hr := hreg he
      have hi := (wth_in he).2
      have hrs : regS (wth who v.st a p.length true).1 = (memO (wth who v.st a p.length true).1).2.1 := by
        rcases hr with e | e | e <;> rw [e] <;> rfl
      exact putB_ok h hr (by omega) hb
theorem st_same (v : SpV) (who : Int) (a : Nat) (p : List Nat) : (stR v who a p).2.st = v.st ∧ (stR v who a p).2.fl = v.fl ∧ (stR v who a p).2.ch = v.ch := by
  unfold stR
  split
  · exact ⟨rfl, rfl, rfl⟩
  · split
    · exact ⟨rfl, rfl, rfl⟩
    · exact putB_same _ _ _ _
def StOut (g : Nat) (R : Nat × SpV) (w : World) (e : Ending) (w' : World) : Prop := e = .returned (.int .i64 (R.1 : Int)) ∧ Sp w' g R.2 ∧ Frm [g] w w'
set_option maxRecDepth 100000 in
set_option maxHeartbeats 4000000 in
theorem store_any (g : Nat) (v : SpV) (who at_ : Int) (a : Nat) (A : Option Addr) (n c : Nat) (p : List Nat) (w : World) (hv : v.Ok) (hg : Sp w g v) (ha : at_ = a) (hm : at_ < 4294967296) (hl : p.length = n) (hn : n ≤ 1000000) (hp : Nats .u8 256 w w.heap.size A p)
    (hw : (Lit.int .i64 who).wf = true) (hs : (Lit.int .i64 v.st).wf = true) (hS : Spans w)
    (hreg : (wth who v.st a n true).2.2 = 0 → (wth who v.st a n true).1 = 1 ∨ (wth who v.st a n true).1 = 2 ∨ (wth who v.st a n true).1 = 4) :
    Calls Tryz.prog 25 #[.pointer (some ⟨g, 0, none⟩), .int .i64 who, .int .u32 at_, .slice A n c] w (StOut g (stR v who a p) w) := by
  subst hl
  have HV := wall hv
  have HG := wall hg
  have HP := wall hp
  have HWI := wall (within_any g v.st who a p.length at_ true w ha hm hw hs hn hS hg.st)
  unfold W3 at HWI
  obtain ⟨R, hR⟩ : ∃ R, stR v who a p = R := ⟨_, rfl⟩
  rw [hR]
  have HR := wall hR
  have HIN := wall (fun h => And.intro (hreg h) (wth_in (who := who) (st := v.st) (a := a) (n := p.length) (wr := true) h).2)
  unfold stR at HR
  obtain ⟨⟨r, o, e⟩, hre⟩ : ∃ y, wth who v.st a p.length true = y := ⟨_, rfl⟩
  rw [hre] at HWI HR HIN
  simp only at HWI HR HIN
  obtain ⟨n, hpn⟩ : ∃ n, p.length = n := ⟨_, rfl⟩
  have HL := wall hpn
  rw [hpn] at HWI HR HIN hn ⊢
  have hnn : (n : Int) ≤ 1000000 := by omega
  clear hv hg hp ha hm hw hs hS hR hre hn hreg hpn
  by_cases h0 : n = 0
  · have HE := wall (show R = (0, v) by rw [← HR.out, if_pos h0])
    subst h0
    clear HWI HIN HR
    go_enter Tryz.func25, Tryz.ntmps25
    go_wp2_with fail
    go_light
    go_ret
    rw [HE.out]
    exact ⟨rfl, HG.out, Frm.refl _ _⟩
  · have hz0 : ((n : Int) == 0) = false := by rw [beq_eq_false_iff_ne]; omega
    by_cases he : e = 0
    · obtain ⟨hrc, hro⟩ := HIN.out he
      have he' : (((e : Nat) : Int) != 0) = false := by rw [he]; rfl
      have HE := wall (show R = (0, putB v r o p) by rw [← HR.out, if_neg h0, if_neg (by simpa using he)])
      have h3' : ((r : Int) == 3) = false := by rw [beq_eq_false_iff_ne]; omega
      have h5' : ((r : Int) == 5) = false := by rw [beq_eq_false_iff_ne]; omega
      have HKE := wall (fun W => kept_any g r (r : Int) W rfl hrc)
      unfold KeptOut at HKE
      have hrs : regS r = (memO r).2.1 := by rcases hrc with rfl | rfl | rfl <;> rfl
      rw [hrs] at hro
      have HROW := wall (putB_row HV.out (r := r) (o := o) (p := p) hrc (by rw [HL.out]; exact hro))
      have hlc : (memO r).2.1 ≤ (memO r).2.2 ∧ (memO r).1 + (memO r).2.1 ≤ 8259 ∧ (memO r).2.2 ≤ 8192 := by rcases hrc with rfl | rfl | rfl <;> decide
      obtain ⟨⟨k1, k2, k3⟩, hk⟩ : ∃ y, memO r = y := ⟨_, rfl⟩
      rw [hk] at hlc hro HKE HROW
      simp only at hlc hro HKE HROW
      have ho2 : o < k3 := by omega
      have hs0 : ∀ W, (Instr.sliceAt 24 (.slice (some ⟨g, k1, none⟩) k2 k3) (some (.int .i64 (o : Int))) none none).run Tryz.prog W = .ok (.slice (some ⟨g, k1 + o, none⟩) (k2 - o) (k3 - o)) W := fun W => by
        have h := run_slice_l1 (P := Tryz.prog) 24 5 Tryz.underlying24 (fun _ => by kernel_rfl) (some ⟨g, k1, none⟩) k2 k3 o .i64 (o : Int) rfl (by omega) W
        rw [h]
        have hne : ¬ k3 = o := by omega
        simp [slA, hne, Go.WideShapes.add_plain]
      have HNU := wall (show n = Nat.min n (k2 - o) ∧ k1 + o + n ≤ 8259 ∧ 0 < p.length from ⟨(Nat.min_eq_left (by omega)).symm, by omega, by rw [HL.out]; omega⟩)
      have i1 : (o : Int) ≤ (k2 : Int) := by omega
      have i2 : (k2 : Int) ≤ 8192 := by omega
      clear HR HIN h0 he hrc hro hrs hlc hk ho2
      go_enter Tryz.func25, Tryz.ntmps25
      go_wp2_with fail
      (with_reducible refine (HWI.out).mono ?_); rintro ee w1 ⟨rfl, hB1⟩
      have HB1 := wall hB1
      clear hB1 HWI
      try simp only [Act.put, List.setIfInBounds_toArray, List.set_cons_zero, List.set_cons_succ]
      go_wp2_with fail
      (with_reducible refine (HKE.out _).mono ?_); rintro ee w2 ⟨rfl, rfl⟩
      have HG1 := wall (HG.out.old HB1.out)
      have HSR := wall (Rep.nats_src (HP.out.below HB1.out) HNU.out.2.2)
      go_wp2_with (refine wpList_copy_frm rfl (.tmp 54) (.tmp 55) 24 24 rfl 5 Tryz.underlying24 (by kernel_rfl) (some ⟨g, k1 + o, none⟩) A (k2 - o) (k3 - o) n c rfl rfl g (k1 + o) 195 (spL v) HG1.out (v8 p) n (by rw [v8_length]; exact HL.out) HNU.out.1 (fun _ => ⟨rfl, HSR.out⟩) (by rw [spL_length HV.out]; exact HNU.out.2.1) (Rep.v8_one' _) ?_; intro w3 K3 F3)
      have K3' := wall K3
      have F3' := wall F3
      clear K3 F3
      go_light
      go_ret
      rw [HE.out]
      refine ⟨rfl, ?_, (Frm.of_below HB1.out).trans F3'.out⟩
      show Blk _ _ _ (spL (putB v r o p)).toArray
      rw [← HROW.out]
      exact K3'.out
    · have HE := wall (show R = (e, v) by rw [← HR.out, if_neg h0, if_pos (by simpa using he)])
      have he' : (((e : Nat) : Int) != 0) = true := by rw [bne_iff_ne]; omega
      clear HR HIN he h0
      go_enter Tryz.func25, Tryz.ntmps25
      go_wp2_with fail
      (with_reducible refine (HWI.out).mono ?_); rintro ee w1 ⟨rfl, hB1⟩
      have HB1 := wall hB1
      clear hB1 HWI
      try simp only [Act.put, List.setIfInBounds_toArray, List.set_cons_zero, List.set_cons_succ]
      go_wp2_with fail
      go_light
      go_ret
      rw [HE.out]
      exact ⟨rfl, HG.out.old HB1.out, Frm.of_below HB1.out⟩
end Spc
end Go.Proofs.YtmiaabpnolebhaaGreatDoor
