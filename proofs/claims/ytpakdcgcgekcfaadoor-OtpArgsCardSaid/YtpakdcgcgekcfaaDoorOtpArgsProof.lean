/-
  OtpArgsCardSaid: the law OtpArgs returns true at every input, and each argument reads as it did. The frame by program (wip/law.py); the walk stands in the texts that it imports.
-/
import Derived.Test.YtpakdcgcgekcfaaDoorCards
import Derived.Test.YtpakdcgcgekcfaaDoorTie
import Derived.Test.YtpakdcgcgekcfaaDoorOtpArgsF
import Derived.Test.YtpakdcgcgekcfaaDoorOtpTab
import Derived.Test.YtpakdcgcgekcfaaDoorFrame
import Derived.WalkKit
import Derived.ProofKit
import Derived.OpenShut
import Derived.ShutString
import Derived.ChangeOld
import Derived.Below
import Derived.Deep.DeepHandedRow
import Derived.Lib.LaidTab
namespace Go.Proofs.YtpakdcgcgekcfaaDoor.otpArgs
open Go.ChangeShapes Go.WideShapes Go.ChangeAt Go.RowKit
open Go.ChangeMaps (open_string shut_string)
set_option linter.unusedVariables false

theorem own : ownKnob Tryd.prog.godebug = none := by kernel_rfl
theorem laidOut : laidOutB Tryd.prog = true := by kernel_rfl

set_option maxRecDepth 100000 in
theorem contract (H : Type) (enc : TypeId × Value → H) (W : World) (base : Nat) (args : Array Value) (ds gs : List (DataW H)) (before : List MemPlace)
    (hval : ∀ (j : Nat) t v, Tryd.f5.params[j]? = some t → args[j]? = some v → Value.okWide Tryd.prog W .any base t v)
    (hW : DataW.Whole enc Tryd.prog Tryd.f5.params.toList Rows.otpArgsSpec.vars false W args.toList ds gs before) (hL : laidMetH Tryd.prog Rows.otpArgsRow.laid W) :
    Calls Tryd.prog 5 args W fun e W' => ∃ v, e = .returned v ∧ Rows.otpArgsSpec.post enc Tryd.prog Tryd.f5 false true false false W args v W' := by
  have hW' := hW
  obtain ⟨p, q, hA0, hV, rfl, hfz, hnd⟩ := hW
  have hA : DataW.TrodAll enc Tryd.prog W 0 (fun _ => true) true Tryd.f5.params.toList args.toList ds p := hA0
  rw [Tryd.params5] at hA hval
  obtain ⟨v0, vs0, d0, ds0, p0, q0, hargs, rfl, rfl, h0, r0⟩ := trodAll_cons hA
  obtain ⟨v1, vs1, d1, ds1, p1, q1, rfl, rfl, rfl, h1, r1⟩ := trodAll_cons r0
  obtain ⟨rfl, rfl, rfl⟩ := trodAll_nil r1
  obtain rfl : args = #[v0, v1] := by cases args; simp_all
  obtain ⟨rfl, rfl⟩ := trodVars_none hV
  obtain ⟨o0, len0, cap0, rfl⟩ := okWide_slice Tryd.underlying37 (hval 0 37 v0 rfl rfl)
  obtain ⟨rows0, ro0⟩ : ∃ rows, RowsOf W 1 ([some .u32]) o0 len0 cap0 rows := by
    obtain ⟨fuel, hf⟩ := h0
    exact open_rows Tryd.underlying37 (m := 8) (by kernel_rfl) (by kernel_rfl) (by simpa [Value.cells] using hf)
  obtain ⟨cs1, rfl, g1⟩ := open_flat (m := 8) (ks := [some .u8, some .i64, some .u8, some .u8, some .u8, some .u8, some .u8, some .u8, some .u8, some .u8, some .u8, some .u8, some .u8, some .u8, some .u8, some .u8, some .u8, some .u8, some .u8, some .u8, some .u8, some .u8, some .u8, some .u8, some .u8, some .u8, some .u8, some .u8, some .u8, some .u8, some .u8, some .u8, some .u8, some .u8, some .u8, none, some .u32]) (by kernel_rfl) (.inl ⟨_, Tryd.underlying46⟩) (hval 1 46 v1 rfl rfl) h1
  obtain ⟨cs1⟩ := cs1
  have g1_0 := g1
  clear g1
  obtain ⟨x1_0, l1_0, rfl, e1_0, g1_1⟩ := Fits.cons g1_0
  obtain ⟨x1_1, l1_1, rfl, e1_1, g1_2⟩ := Fits.cons g1_1
  obtain ⟨x1_2, l1_2, rfl, e1_2, g1_3⟩ := Fits.cons g1_2
  obtain ⟨x1_3, l1_3, rfl, e1_3, g1_4⟩ := Fits.cons g1_3
  obtain ⟨x1_4, l1_4, rfl, e1_4, g1_5⟩ := Fits.cons g1_4
  obtain ⟨x1_5, l1_5, rfl, e1_5, g1_6⟩ := Fits.cons g1_5
  obtain ⟨x1_6, l1_6, rfl, e1_6, g1_7⟩ := Fits.cons g1_6
  obtain ⟨x1_7, l1_7, rfl, e1_7, g1_8⟩ := Fits.cons g1_7
  obtain ⟨x1_8, l1_8, rfl, e1_8, g1_9⟩ := Fits.cons g1_8
  obtain ⟨x1_9, l1_9, rfl, e1_9, g1_10⟩ := Fits.cons g1_9
  obtain ⟨x1_10, l1_10, rfl, e1_10, g1_11⟩ := Fits.cons g1_10
  obtain ⟨x1_11, l1_11, rfl, e1_11, g1_12⟩ := Fits.cons g1_11
  obtain ⟨x1_12, l1_12, rfl, e1_12, g1_13⟩ := Fits.cons g1_12
  obtain ⟨x1_13, l1_13, rfl, e1_13, g1_14⟩ := Fits.cons g1_13
  obtain ⟨x1_14, l1_14, rfl, e1_14, g1_15⟩ := Fits.cons g1_14
  obtain ⟨x1_15, l1_15, rfl, e1_15, g1_16⟩ := Fits.cons g1_15
  obtain ⟨x1_16, l1_16, rfl, e1_16, g1_17⟩ := Fits.cons g1_16
  obtain ⟨x1_17, l1_17, rfl, e1_17, g1_18⟩ := Fits.cons g1_17
  obtain ⟨x1_18, l1_18, rfl, e1_18, g1_19⟩ := Fits.cons g1_18
  obtain ⟨x1_19, l1_19, rfl, e1_19, g1_20⟩ := Fits.cons g1_19
  obtain ⟨x1_20, l1_20, rfl, e1_20, g1_21⟩ := Fits.cons g1_20
  obtain ⟨x1_21, l1_21, rfl, e1_21, g1_22⟩ := Fits.cons g1_21
  obtain ⟨x1_22, l1_22, rfl, e1_22, g1_23⟩ := Fits.cons g1_22
  obtain ⟨x1_23, l1_23, rfl, e1_23, g1_24⟩ := Fits.cons g1_23
  obtain ⟨x1_24, l1_24, rfl, e1_24, g1_25⟩ := Fits.cons g1_24
  obtain ⟨x1_25, l1_25, rfl, e1_25, g1_26⟩ := Fits.cons g1_25
  obtain ⟨x1_26, l1_26, rfl, e1_26, g1_27⟩ := Fits.cons g1_26
  obtain ⟨x1_27, l1_27, rfl, e1_27, g1_28⟩ := Fits.cons g1_27
  obtain ⟨x1_28, l1_28, rfl, e1_28, g1_29⟩ := Fits.cons g1_28
  obtain ⟨x1_29, l1_29, rfl, e1_29, g1_30⟩ := Fits.cons g1_29
  obtain ⟨x1_30, l1_30, rfl, e1_30, g1_31⟩ := Fits.cons g1_30
  obtain ⟨x1_31, l1_31, rfl, e1_31, g1_32⟩ := Fits.cons g1_31
  obtain ⟨x1_32, l1_32, rfl, e1_32, g1_33⟩ := Fits.cons g1_32
  obtain ⟨x1_33, l1_33, rfl, e1_33, g1_34⟩ := Fits.cons g1_33
  obtain ⟨x1_34, l1_34, rfl, e1_34, g1_35⟩ := Fits.cons g1_34
  obtain ⟨x1_35, l1_35, rfl, e1_35, g1_36⟩ := Fits.cons g1_35
  obtain ⟨x1_36, l1_36, rfl, e1_36, g1_37⟩ := Fits.cons g1_36
  obtain rfl := Fits.nil g1_37
  obtain ⟨f1_0, rfl, w1_0⟩ := e1_0
  obtain ⟨f1_1, rfl, w1_1⟩ := e1_1
  obtain ⟨f1_2, rfl, w1_2⟩ := e1_2
  obtain ⟨f1_3, rfl, w1_3⟩ := e1_3
  obtain ⟨f1_4, rfl, w1_4⟩ := e1_4
  obtain ⟨f1_5, rfl, w1_5⟩ := e1_5
  obtain ⟨f1_6, rfl, w1_6⟩ := e1_6
  obtain ⟨f1_7, rfl, w1_7⟩ := e1_7
  obtain ⟨f1_8, rfl, w1_8⟩ := e1_8
  obtain ⟨f1_9, rfl, w1_9⟩ := e1_9
  obtain ⟨f1_10, rfl, w1_10⟩ := e1_10
  obtain ⟨f1_11, rfl, w1_11⟩ := e1_11
  obtain ⟨f1_12, rfl, w1_12⟩ := e1_12
  obtain ⟨f1_13, rfl, w1_13⟩ := e1_13
  obtain ⟨f1_14, rfl, w1_14⟩ := e1_14
  obtain ⟨f1_15, rfl, w1_15⟩ := e1_15
  obtain ⟨f1_16, rfl, w1_16⟩ := e1_16
  obtain ⟨f1_17, rfl, w1_17⟩ := e1_17
  obtain ⟨f1_18, rfl, w1_18⟩ := e1_18
  obtain ⟨f1_19, rfl, w1_19⟩ := e1_19
  obtain ⟨f1_20, rfl, w1_20⟩ := e1_20
  obtain ⟨f1_21, rfl, w1_21⟩ := e1_21
  obtain ⟨f1_22, rfl, w1_22⟩ := e1_22
  obtain ⟨f1_23, rfl, w1_23⟩ := e1_23
  obtain ⟨f1_24, rfl, w1_24⟩ := e1_24
  obtain ⟨f1_25, rfl, w1_25⟩ := e1_25
  obtain ⟨f1_26, rfl, w1_26⟩ := e1_26
  obtain ⟨f1_27, rfl, w1_27⟩ := e1_27
  obtain ⟨f1_28, rfl, w1_28⟩ := e1_28
  obtain ⟨f1_29, rfl, w1_29⟩ := e1_29
  obtain ⟨f1_30, rfl, w1_30⟩ := e1_30
  obtain ⟨f1_31, rfl, w1_31⟩ := e1_31
  obtain ⟨f1_32, rfl, w1_32⟩ := e1_32
  obtain ⟨f1_33, rfl, w1_33⟩ := e1_33
  obtain ⟨f1_34, rfl, w1_34⟩ := e1_34
  obtain ⟨f1_35, rfl⟩ := e1_35
  obtain ⟨f1_36, rfl, w1_36⟩ := e1_36
  clear hA0 hval
  obtain ⟨zs0, hl0, hlc, hcm, hi0⟩ := rows_ints ro0
  refine (Otp.args_frame o0 len0 cap0 (zs0.map Int.toNat) f1_0 f1_1 f1_2 f1_3 f1_4 f1_5 f1_6 f1_7 f1_8 f1_9 f1_10 f1_11 f1_12 f1_13 f1_14 f1_15 f1_16 f1_17 f1_18 f1_19 f1_20 f1_21 f1_22 f1_23 f1_24 f1_25 f1_26 f1_27 f1_28 f1_29 f1_30 f1_31 f1_32 f1_33 f1_34 f1_35 f1_36 W (Otp.tab_of hL) (by simpa using hl0) hlc hcm (ints_nats (fun z hz => by have := bounds_u32 hz; omega) hi0) w1_0 w1_2 w1_3 w1_4 w1_5 w1_6 w1_7 w1_8 w1_9 w1_10 w1_11 w1_12 w1_13 w1_14 w1_15 w1_16 w1_17 w1_18 w1_19 w1_20 w1_21 w1_22 w1_23 w1_24 w1_25 w1_26 w1_27 w1_28 w1_29 w1_30 w1_31 w1_32 w1_33 w1_34 w1_36).mono fun e W' h => ?_
  exact law_end laidOut (by kernel_rfl) hW' rfl (by kernel_rfl) Tryd.underlying4 (fun _ => rfl) h.1 h.2

def witA : Array Value := #[.slice none 0 0, .agg #[.int .u8 0, .int .i64 0, .int .u8 0, .int .u8 0, .int .u8 0, .int .u8 0, .int .u8 0, .int .u8 0, .int .u8 0, .int .u8 0, .int .u8 0, .int .u8 0, .int .u8 0, .int .u8 0, .int .u8 0, .int .u8 0, .int .u8 0, .int .u8 0, .int .u8 0, .int .u8 0, .int .u8 0, .int .u8 0, .int .u8 0, .int .u8 0, .int .u8 0, .int .u8 0, .int .u8 0, .int .u8 0, .int .u8 0, .int .u8 0, .int .u8 0, .int .u8 0, .int .u8 0, .int .u8 0, .int .u8 0, .bool false, .int .u32 0]]

noncomputable def laidWorld (os : Os) : World :=
  { World.holding Tryd.prog os ⟨#[], #[], []⟩ with heap := ((World.holding Tryd.prog os ⟨#[], #[], []⟩).heap).modify 0 fun
      | .cells _ t frozen => .cells #[.int .u8 0, .int .u8 1, .int .u8 28, .int .u8 2, .int .u8 29, .int .u8 14, .int .u8 24, .int .u8 3, .int .u8 30, .int .u8 22, .int .u8 20, .int .u8 15, .int .u8 25, .int .u8 17, .int .u8 4, .int .u8 8, .int .u8 31, .int .u8 27, .int .u8 13, .int .u8 23, .int .u8 21, .int .u8 19, .int .u8 16, .int .u8 7, .int .u8 26, .int .u8 12, .int .u8 18, .int .u8 6, .int .u8 11, .int .u8 5, .int .u8 10, .int .u8 9] t frozen
      | o => o }
theorem laid_met (os : Os) : laidMet Tryd.prog Rows.otpArgsRow.laid ((laidWorld os).forCall (fun _ _ => 0) ⟨#[], witA, []⟩).memory :=
  laidMet_of_run' 8 (by kernel_rfl) (by kernel_rfl)
theorem reads (os : Os) {H : Type} (enc : TypeId × Value → H) : (DataW.whole enc Tryd.prog ((laidWorld os).forCall (fun _ _ => 0) ⟨#[], witA, []⟩).memory Tryd.f5.params.toList Rows.otpArgsSpec.vars false (witA : Array Value).toList 8).isSome = true := by kernel_rfl

set_option maxRecDepth 100000 in
theorem lifted (os : Os) (started : os.Started) (H : Type) (enc : TypeId × Value → H) (F : Stop.Interp) :
    ReturnsInHanded {} Tryd.checked os 5 .any ((OpenSpec.ofChange Rows.otpArgsSpec).preRow enc Tryd.prog Tryd.f5 Rows.otpArgsRow.domain false Rows.otpArgsRow.laid) (((OpenSpec.ofChange Rows.otpArgsSpec).at F).post enc Tryd.prog Tryd.f5 false true false false) := by
  obtain ⟨x, hx⟩ := Option.isSome_iff_exists.1 (reads os enc)
  refine returnsInHanded_of_row (C := Tryd.checked) (s := OpenSpec.ofChange Rows.otpArgsSpec) own started (by kernel_rfl) Tryd.func5
    (witness_row_at (enc := enc) (C := Tryd.checked) false (laidWorld os) witA rfl (by kernel_rfl) (by kernel_rfl) (by kernel_rfl)
      (OpenSpec.preRow_of_cond 8 hx (by kernel_rfl) (fun k hk => by cases hk) (by kernel_rfl) (laid_met os))) ?_
  intro W base args ds gs before hval hW _ _ _ hL _ _
  exact contract H enc W base args ds gs before hval hW hL

theorem said : Rows.OtpArgsSaid :=
  OpenClaim.holds_of_cond 5 Tryd.f5 rfl rfl rfl rfl rfl rfl rfl ⟨rfl, rfl, rfl, rfl, rfl⟩ rfl rfl rfl rfl rfl (by kernel_rfl) Tryd.func5 (by kernel_rfl)
    (of_decide_eq_true (by kernel_rfl)) (by unfold Func.isWrapper; first | (rw [if_pos (by decide +kernel)]; kernel_rfl) | (rw [if_neg (by decide +kernel)]; exact ⟨rfl, rfl⟩))
    (fun os started H enc _ F => by rw [OpenClaim.pre_eq_preRow]; exact lifted os started H enc F)

theorem plain (f : FuncId) (fn : Func) (hf : Tryd.pinned.checked.prog.funcNamed "curtilage/curtilagelaw11.OtpArgs" = some f) (hfn : Tryd.pinned.checked.prog.funcs[f]? = some fn) :
    false = Tryd.pinned.checked.prog.looks [] ∧ ∀ (j : Nat) t, fn.params[j]? = some t → Tryd.pinned.checked.prog.wantsStandIn t = false := by
  obtain rfl : f = 5 := Option.some.inj ((show Tryd.prog.funcNamed "curtilage/curtilagelaw11.OtpArgs" = some 5 by kernel_rfl).symm.trans hf) |>.symm
  obtain rfl : fn = Tryd.f5 := (Option.some.inj (Tryd.func5.symm.trans hfn)).symm
  refine ⟨by kernel_rfl, fun j t ht => ?_⟩
  rw [Tryd.params5] at ht
  have hm := Array.mem_of_getElem? ht
  have hm2 : t = 37 ∨ t = 46 := by
    first | (simp at hm; omega) | (simp at hm; simp [hm]; done) | (simp at hm; rcases hm with h | h <;> simp [h]; done) | (simp at hm; rcases hm with h | h | h <;> simp [h]; done) | (simp at hm; rcases hm with h | h | h | h <;> simp [h]; done) | (simp at hm; rcases hm with h | h | h | h | h <;> simp [h]; done)
  rcases hm2 with rfl | rfl
  · exact (show Tryd.prog.wantsStandIn 37 = false by kernel_rfl)
  · exact (show Tryd.prog.wantsStandIn 46 = false by kernel_rfl)

theorem proved : Rows.OtpArgsCardSaid :=
  Claim7.holds_tied_plain_at .later [] _ _ _ _ said (fun _ h => by cases h) (by kernel_rfl) (fun _ h => by cases h) otpArgs_row_tie rfl ⟨rfl, rfl⟩ (by kernel_rfl) rfl plain (by kernel_rfl)
#print axioms proved
end Go.Proofs.YtpakdcgcgekcfaaDoor.otpArgs
