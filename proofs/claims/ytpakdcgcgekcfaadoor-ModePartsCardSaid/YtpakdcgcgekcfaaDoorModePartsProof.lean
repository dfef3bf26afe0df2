/-
  ModePartsCardSaid: the law ModeParts returns true at every input, and each argument reads as it did. The frame by program (wip/law.py); the walk stands in the texts that it imports.
-/
import Derived.Test.YtpakdcgcgekcfaaDoorCards
import Derived.Test.YtpakdcgcgekcfaaDoorTie
import Derived.Test.YtpakdcgcgekcfaaDoorJ58ec439f
import Derived.WalkKit
import Derived.ProofKit
import Derived.OpenShut
import Derived.ShutString
import Derived.ChangeOld
import Derived.Below
import Derived.Deep.DeepHandedRow
import Derived.Lib.LaidTab
namespace Go.Proofs.YtpakdcgcgekcfaaDoor.modeParts
open Go.ChangeShapes Go.WideShapes Go.ChangeAt Go.RowKit
open Go.ChangeMaps (open_string shut_string)
set_option linter.unusedVariables false

theorem own : ownKnob Tryd.prog.godebug = none := by kernel_rfl
theorem laidOut : laidOutB Tryd.prog = true := by kernel_rfl

set_option maxRecDepth 100000 in
theorem contract (H : Type) (enc : TypeId × Value → H) (W : World) (base : Nat) (args : Array Value) (ds gs : List (DataW H)) (before : List MemPlace)
    (hval : ∀ (j : Nat) t v, Tryd.f11.params[j]? = some t → args[j]? = some v → Value.okWide Tryd.prog W .any base t v)
    (hW : DataW.Whole enc Tryd.prog Tryd.f11.params.toList Rows.modePartsSpec.vars false W args.toList ds gs before) (hL : laidMetH Tryd.prog Rows.modePartsRow.laid W) :
    Calls Tryd.prog 11 args W fun e W' => ∃ v, e = .returned v ∧ Rows.modePartsSpec.post enc Tryd.prog Tryd.f11 false true false false W args v W' := by
  have hW' := hW
  obtain ⟨p, q, hA0, hV, rfl, hfz, hnd⟩ := hW
  have hA : DataW.TrodAll enc Tryd.prog W 0 (fun _ => true) true Tryd.f11.params.toList args.toList ds p := hA0
  rw [Tryd.params11] at hA hval
  obtain ⟨v0, vs0, d0, ds0, p0, q0, hargs, rfl, rfl, h0, r0⟩ := trodAll_cons hA
  obtain ⟨v1, vs1, d1, ds1, p1, q1, rfl, rfl, rfl, h1, r1⟩ := trodAll_cons r0
  obtain ⟨v2, vs2, d2, ds2, p2, q2, rfl, rfl, rfl, h2, r2⟩ := trodAll_cons r1
  obtain ⟨v3, vs3, d3, ds3, p3, q3, rfl, rfl, rfl, h3, r3⟩ := trodAll_cons r2
  obtain ⟨v4, vs4, d4, ds4, p4, q4, rfl, rfl, rfl, h4, r4⟩ := trodAll_cons r3
  obtain ⟨v5, vs5, d5, ds5, p5, q5, rfl, rfl, rfl, h5, r5⟩ := trodAll_cons r4
  obtain ⟨rfl, rfl, rfl⟩ := trodAll_nil r5
  obtain rfl : args = #[v0, v1, v2, v3, v4, v5] := by cases args; simp_all
  obtain ⟨rfl, rfl⟩ := trodVars_none hV
  obtain ⟨cs0, rfl, g0⟩ := open_flat (m := 8) (ks := List.replicate 32 (some .u8)) (by kernel_rfl) (.inr ⟨_, _, Tryd.underlying22⟩) (hval 0 22 v0 rfl rfl) h0
  obtain ⟨zs0, e0, hl0, w0⟩ := Fits.all_int g0
  obtain rfl : cs0 = (zs0.map (Value.int .u8)).toArray := by apply Array.toList_inj.1; simpa using e0
  clear e0 g0
  obtain ⟨cs1, rfl, g1⟩ := open_flat (m := 8) (ks := List.replicate 16 (some .u8)) (by kernel_rfl) (.inr ⟨_, _, Tryd.underlying90⟩) (hval 1 90 v1 rfl rfl) h1
  obtain ⟨zs1, e1, hl1, w1⟩ := Fits.all_int g1
  obtain rfl : cs1 = (zs1.map (Value.int .u8)).toArray := by apply Array.toList_inj.1; simpa using e1
  clear e1 g1
  obtain ⟨o2, len2, cap2, rfl⟩ := okWide_slice Tryd.underlying53 (hval 2 53 v2 rfl rfl)
  obtain ⟨rows2, ro2⟩ : ∃ rows, RowsOf W 1 ([some .u8]) o2 len2 cap2 rows := by
    obtain ⟨fuel, hf⟩ := h2
    exact open_rows Tryd.underlying53 (m := 8) (by kernel_rfl) (by kernel_rfl) (by simpa [Value.cells] using hf)
  obtain ⟨a3, rfl, rfl, rfl, w3⟩ := open_int Tryd.underlying5 (hval 3 5 v3 rfl rfl) h3
  obtain ⟨a4, rfl, rfl, rfl⟩ := open_bool Tryd.underlying4 (hval 4 4 v4 rfl rfl) h4
  obtain ⟨a5, rfl, rfl, rfl, w5⟩ := open_int Tryd.underlying5 (hval 5 5 v5 rfl rfl) h5
  clear hA0 hval
  obtain ⟨zs2, hl2, hlc2, hcm2, hi2⟩ := rows_ints ro2
  refine (Aes.parts_frame zs0 zs1 o2 len2 cap2 (zs2.map Int.toNat) a3 a4 a5 W hl0 w0 hl1 w1 w3 w5 (by simpa using hl2) (Nat.le_trans hlc2 hcm2) (ints_nats (fun z hz => by have := bounds_u8 hz; omega) hi2)).mono fun e W' h => ?_
  exact law_end laidOut (by kernel_rfl) hW' rfl (by kernel_rfl) Tryd.underlying4 (fun _ => rfl) h.1 h.2

def witA : Array Value := #[.agg #[.int .u8 0, .int .u8 0, .int .u8 0, .int .u8 0, .int .u8 0, .int .u8 0, .int .u8 0, .int .u8 0, .int .u8 0, .int .u8 0, .int .u8 0, .int .u8 0, .int .u8 0, .int .u8 0, .int .u8 0, .int .u8 0, .int .u8 0, .int .u8 0, .int .u8 0, .int .u8 0, .int .u8 0, .int .u8 0, .int .u8 0, .int .u8 0, .int .u8 0, .int .u8 0, .int .u8 0, .int .u8 0, .int .u8 0, .int .u8 0, .int .u8 0, .int .u8 0], .agg #[.int .u8 0, .int .u8 0, .int .u8 0, .int .u8 0, .int .u8 0, .int .u8 0, .int .u8 0, .int .u8 0, .int .u8 0, .int .u8 0, .int .u8 0, .int .u8 0, .int .u8 0, .int .u8 0, .int .u8 0, .int .u8 0], .slice none 0 0, .int .u8 0, .bool false, .int .u8 0]

noncomputable def laidWorld (os : Os) : World :=
  { World.holding Tryd.prog os ⟨#[.cells #[.string ⟨#[98, 121, 116, 101, 115, 46, 66, 117, 102, 102, 101, 114, 58, 32, 116, 111, 111, 32, 108, 97, 114, 103, 101]⟩] 224 (0, 0)], #[], []⟩ with heap := ((World.holding Tryd.prog os ⟨#[.cells #[.string ⟨#[98, 121, 116, 101, 115, 46, 66, 117, 102, 102, 101, 114, 58, 32, 116, 111, 111, 32, 108, 97, 114, 103, 101]⟩] 224 (0, 0)], #[], []⟩).heap).modify 1 (fun | .cells _ t frozen => .cells #[.iface 207 (.pointer (some ⟨Tryd.prog.globals.size + (begin Tryd.prog (fun _ _ => 0) default).world.heap.size - Tryd.prog.globals.size + 0, 0, none⟩))] t frozen | o => o) }
theorem laid_met (os : Os) : laidMet Tryd.prog Rows.modePartsRow.laid ((laidWorld os).forCall (fun _ _ => 0) ⟨#[], witA, []⟩).memory :=
  laidMet_of_run' 8 (by kernel_rfl) (by kernel_rfl)
theorem reads (os : Os) {H : Type} (enc : TypeId × Value → H) : (DataW.whole enc Tryd.prog ((laidWorld os).forCall (fun _ _ => 0) ⟨#[], witA, []⟩).memory Tryd.f11.params.toList Rows.modePartsSpec.vars false (witA : Array Value).toList 8).isSome = true := by kernel_rfl

set_option maxRecDepth 100000 in
theorem lifted (os : Os) (started : os.Started) (H : Type) (enc : TypeId × Value → H) (F : Stop.Interp) :
    ReturnsInHanded {} Tryd.checked os 11 .any ((OpenSpec.ofChange Rows.modePartsSpec).preRow enc Tryd.prog Tryd.f11 Rows.modePartsRow.domain false Rows.modePartsRow.laid) (((OpenSpec.ofChange Rows.modePartsSpec).at F).post enc Tryd.prog Tryd.f11 false true false false) := by
  obtain ⟨x, hx⟩ := Option.isSome_iff_exists.1 (reads os enc)
  refine returnsInHanded_of_row (C := Tryd.checked) (s := OpenSpec.ofChange Rows.modePartsSpec) own started (by kernel_rfl) Tryd.func11
    (witness_row_at (enc := enc) (C := Tryd.checked) false (laidWorld os) witA rfl (by kernel_rfl) (by kernel_rfl) (by kernel_rfl)
      (OpenSpec.preRow_of_cond 8 hx (by kernel_rfl) (fun k hk => by cases hk) (by kernel_rfl) (laid_met os))) ?_
  intro W base args ds gs before hval hW _ _ _ hL _ _
  exact contract H enc W base args ds gs before hval hW hL

theorem said : Rows.ModePartsSaid :=
  OpenClaim.holds_of_cond 11 Tryd.f11 rfl rfl rfl rfl rfl rfl rfl ⟨rfl, rfl, rfl, rfl, rfl⟩ rfl rfl rfl rfl rfl (by kernel_rfl) Tryd.func11 (by kernel_rfl)
    (of_decide_eq_true (by kernel_rfl)) (by unfold Func.isWrapper; first | (rw [if_pos (by decide +kernel)]; kernel_rfl) | (rw [if_neg (by decide +kernel)]; exact ⟨rfl, rfl⟩))
    (fun os started H enc _ F => by rw [OpenClaim.pre_eq_preRow]; exact lifted os started H enc F)

theorem plain (f : FuncId) (fn : Func) (hf : Tryd.pinned.checked.prog.funcNamed "curtilage/curtilagelaw04.ModeParts" = some f) (hfn : Tryd.pinned.checked.prog.funcs[f]? = some fn) :
    false = Tryd.pinned.checked.prog.looks [] ∧ ∀ (j : Nat) t, fn.params[j]? = some t → Tryd.pinned.checked.prog.wantsStandIn t = false := by
  obtain rfl : f = 11 := Option.some.inj ((show Tryd.prog.funcNamed "curtilage/curtilagelaw04.ModeParts" = some 11 by kernel_rfl).symm.trans hf) |>.symm
  obtain rfl : fn = Tryd.f11 := (Option.some.inj (Tryd.func11.symm.trans hfn)).symm
  refine ⟨by kernel_rfl, fun j t ht => ?_⟩
  rw [Tryd.params11] at ht
  have hm := Array.mem_of_getElem? ht
  have hm2 : t = 4 ∨ t = 5 ∨ t = 22 ∨ t = 53 ∨ t = 90 := by
    first | (simp at hm; omega) | (simp at hm; simp [hm]; done) | (simp at hm; rcases hm with h | h <;> simp [h]; done) | (simp at hm; rcases hm with h | h | h <;> simp [h]; done) | (simp at hm; rcases hm with h | h | h | h <;> simp [h]; done) | (simp at hm; rcases hm with h | h | h | h | h <;> simp [h]; done) | (simp at hm; rcases hm with h | h | h | h | h | h <;> simp [h]; done) | (simp at hm; rcases hm with h | h | h | h | h | h | h <;> simp [h]; done) | (simp at hm; rcases hm with h | h | h | h | h | h | h | h <;> simp [h]; done)
  rcases hm2 with rfl | rfl | rfl | rfl | rfl
  · exact (show Tryd.prog.wantsStandIn 4 = false by kernel_rfl)
  · exact (show Tryd.prog.wantsStandIn 5 = false by kernel_rfl)
  · exact (show Tryd.prog.wantsStandIn 22 = false by kernel_rfl)
  · exact (show Tryd.prog.wantsStandIn 53 = false by kernel_rfl)
  · exact (show Tryd.prog.wantsStandIn 90 = false by kernel_rfl)

theorem proved : Rows.ModePartsCardSaid :=
  Claim7.holds_tied_plain_at .later [] _ _ _ _ said (fun _ h => by cases h) (by kernel_rfl) (fun _ h => by cases h) modeParts_row_tie rfl ⟨rfl, rfl⟩ (by kernel_rfl) rfl plain (by kernel_rfl)
#print axioms proved
end Go.Proofs.YtpakdcgcgekcfaaDoor.modeParts
