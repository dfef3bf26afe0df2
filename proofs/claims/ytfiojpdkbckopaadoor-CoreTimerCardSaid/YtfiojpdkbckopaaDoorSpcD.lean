/-
  A space (package engine): kept, Store of the ROM's into the code.
-/
import Derived.Test.YtfiojpdkbckopaaDoorJ4517c364
import Derived.Test.YtfiojpdkbckopaaDoorRep
set_option linter.unusedSimpArgs false
set_option linter.unusedVariables false
namespace Go.Proofs.YtfiojpdkbckopaaDoor
open Go.RowKit

namespace Spc
open Otp Sha Grant
set_option maxRecDepth 100000 in
set_option maxHeartbeats 2000000 in
theorem kept_code (g : Nat) (w : World) : Calls Tryd.prog 38 #[.pointer (some ⟨g, 0, none⟩), .int .i64 1] w fun e w' => e = .returned (.slice (some ⟨g, 1, none⟩) 4096 8192) ∧ w = w' := by
  have s1 := Big.run_arr_h (P := Tryd.prog) 52 5 8192 Tryd.underlying52 (fun _ => by kernel_rfl) g 1 4096 .i64 4096 rfl (by decide) (by decide)
  go_enter Tryd.func38, Tryd.ntmps38
  go_wp2_with fail
  go_light
  go_ret
  exact ⟨rfl, rfl⟩
theorem code_at : chk 0 0 536870912 1 true false = (1, 0, 0) := by decide +kernel
theorem wth_code (n : Nat) (h : n ≤ 4096) : wth 0 0 536870912 n true = (1, 0, 0) := by
  unfold wth
  rw [code_at]
  simp only
  rw [if_neg (by decide), if_neg (by show ¬ 4096 < n + 0; omega)]
def StoreOut (g : Nat) (v : SpV) (w : World) (e : Ending) (w' : World) : Prop := e = .returned (.int .i64 0) ∧ Sp w' g v ∧ Frm [g] w w'
set_option maxRecDepth 100000 in
set_option maxHeartbeats 4000000 in
theorem store_code (g : Nat) (v : SpV) (A : Option Addr) (n c : Nat) (p : List Nat) (w : World) (hv : v.Ok) (h0 : v.st = 0) (hg : Sp w g v) (hS : Spans w) (hl : p.length = n) (hn : n ≤ 1024) (hp : Nats .u8 256 w w.heap.size A p) :
    Calls Tryd.prog 24 #[.pointer (some ⟨g, 0, none⟩), .int .i64 0, .int .u32 536870912, .slice A n c] w (StoreOut g { v with ram := splice v.ram 0 p } w) := by
  have HV := wall hv
  have HG := wall hg
  have HP := wall hp
  have HL := wall (And.intro hl hn)
  have hst : w.cell? ⟨g, 0, none⟩ = some (.int .i64 0) := by rw [← h0]; exact hg.st
  have HWI := wall (within_any g 0 0 536870912 n 536870912 true w rfl (by decide) (by decide) (by decide) (by omega) hS hst)
  rw [wth_code n (by omega)] at HWI
  unfold W3 at HWI
  simp only at HWI
  obtain ⟨v', hv'⟩ : ∃ y : SpV, { v with ram := splice v.ram 0 p } = y := ⟨_, rfl⟩
  have HVE := wall hv'
  rw [hv']
  by_cases hz : n = 0
  · have HE := wall (show v' = v by
      rw [← hv']
      have : p = [] := List.eq_nil_of_length_eq_zero (by omega)
      subst this
      rfl)
    subst hz
    clear hv hg hp hl hn hst h0 hv' HWI hS
    go_enter Tryd.func24, Tryd.ntmps24
    go_wp2_with fail
    go_light
    go_ret
    exact ⟨rfl, by rw [HE.out]; exact HG.out, Frm.refl _ _⟩
  · have hz' : ((n : Int) == 0) = false := by rw [beq_eq_false_iff_ne]; omega
    have hnn : (n : Int) ≤ 1024 := by omega
    clear hv hg hp hl hst h0 hv' hS
    go_enter Tryd.func24, Tryd.ntmps24
    go_wp2_with fail
    (with_reducible refine (HWI.out).mono ?_); rintro e w1 ⟨rfl, hB1⟩
    have HB1 := wall hB1
    clear hB1 HWI
    try simp only [Act.put, List.setIfInBounds_toArray, List.set_cons_zero, List.set_cons_succ]
    go_wp2_with fail
    (with_reducible refine (kept_code g _).mono ?_); rintro e w2 ⟨rfl, rfl⟩
    have hs0 : ∀ W, (Instr.sliceAt 22 (.slice (some ⟨g, 1, none⟩) 4096 8192) (some (.int .i64 0)) none none).run Tryd.prog W = .ok (.slice (some ⟨g, 1, none⟩) 4096 8192) W := fun W => by
      have h := run_slice_l1 (P := Tryd.prog) 22 5 Tryd.underlying22 (fun _ => by kernel_rfl) (some ⟨g, 1, none⟩) 4096 8192 0 .i64 0 rfl (by decide) W
      rw [h]
      simp [slA, Go.WideShapes.add_plain]
    have HG1 := wall (HG.out.old HB1.out)
    have HSR := wall (Rep.nats_src (HP.out.below HB1.out) (by rw [HL.out.1]; omega))
    have HMI := wall (show n = Nat.min n 4096 from (Nat.min_eq_left (by omega)).symm)
    go_wp2_with (refine wpList_copy_frm rfl (.tmp 54) (.tmp 55) 22 22 rfl 5 Tryd.underlying22 (by kernel_rfl) (some ⟨g, 1, none⟩) A 4096 8192 n c rfl rfl g 1 57 (spL v) HG1.out (v8 p) n (by rw [v8_length]; exact HL.out.1) HMI.out (fun _ => ⟨rfl, HSR.out⟩) (by rw [spL_length HV.out]; have := HL.out.2; omega) (Rep.v8_one' _) ?_; intro w3 K3 F3)
    have K3' := wall K3
    have F3' := wall F3
    clear K3 F3
    go_light
    go_ret
    refine ⟨rfl, ?_, (Frm.of_below HB1.out).trans F3'.out⟩
    have h := spL_ram HV.out 0 p (by have := HL.out; omega)
    show Blk _ _ _ (spL v').toArray
    rw [← HVE.out, ← h]
    exact K3'.out
end Spc
end Go.Proofs.YtfiojpdkbckopaaDoor
