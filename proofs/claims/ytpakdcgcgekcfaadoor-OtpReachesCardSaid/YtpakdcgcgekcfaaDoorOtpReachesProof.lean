/-
  OtpReachesCardSaid: the law OtpReaches returns true at every input, and each argument reads as it did. The frame by program (wip/law.py); the walk stands in the texts that it imports.
-/
import Derived.Test.YtpakdcgcgekcfaaDoorCards
import Derived.Test.YtpakdcgcgekcfaaDoorTie
import Derived.Test.YtpakdcgcgekcfaaDoorOtpReachesF
import Derived.Test.YtpakdcgcgekcfaaDoorOtpTab
import Derived.Test.YtpakdcgcgekcfaaDoorFrame
import Derived.WalkKit
import Derived.ProofKit
import Derived.OpenShut
import Derived.ShutString
import Derived.ChangeOld
import Derived.Below
import Derived.Deep.DeepHandedRow
import Derived.Lib.LaidTab
namespace Go.Proofs.YtpakdcgcgekcfaaDoor.otpReaches
open Go.ChangeShapes Go.WideShapes Go.ChangeAt Go.RowKit
open Go.ChangeMaps (open_string shut_string)
set_option linter.unusedVariables false

theorem own : ownKnob Tryd.prog.godebug = none := by kernel_rfl
theorem laidOut : laidOutB Tryd.prog = true := by kernel_rfl

set_option maxRecDepth 100000 in
theorem contract (H : Type) (enc : TypeId × Value → H) (W : World) (base : Nat) (args : Array Value) (ds gs : List (DataW H)) (before : List MemPlace)
    (hval : ∀ (j : Nat) t v, Tryd.f4.params[j]? = some t → args[j]? = some v → Value.okWide Tryd.prog W .any base t v)
    (hW : DataW.Whole enc Tryd.prog Tryd.f4.params.toList Rows.otpReachesSpec.vars false W args.toList ds gs before) (hL : laidMetH Tryd.prog Rows.otpReachesRow.laid W) :
    Calls Tryd.prog 4 args W fun e W' => ∃ v, e = .returned v ∧ Rows.otpReachesSpec.post enc Tryd.prog Tryd.f4 false true false false W args v W' := by
  have hW' := hW
  obtain ⟨p, q, hA0, hV, rfl, hfz, hnd⟩ := hW
  have hA : DataW.TrodAll enc Tryd.prog W 0 (fun _ => true) true Tryd.f4.params.toList args.toList ds p := hA0
  rw [Tryd.params4] at hA hval
  obtain ⟨v0, vs0, d0, ds0, p0, q0, hargs, rfl, rfl, h0, r0⟩ := trodAll_cons hA
  obtain ⟨v1, vs1, d1, ds1, p1, q1, rfl, rfl, rfl, h1, r1⟩ := trodAll_cons r0
  obtain ⟨v2, vs2, d2, ds2, p2, q2, rfl, rfl, rfl, h2, r2⟩ := trodAll_cons r1
  obtain ⟨rfl, rfl, rfl⟩ := trodAll_nil r2
  obtain rfl : args = #[v0, v1, v2] := by cases args; simp_all
  obtain ⟨rfl, rfl⟩ := trodVars_none hV
  obtain ⟨cs0, rfl, g0⟩ := open_flat (m := 8) (ks := List.replicate 64 (some .u32)) (by kernel_rfl) (.inr ⟨_, _, Tryd.underlying44⟩) (hval 0 44 v0 rfl rfl) h0
  obtain ⟨zs0, e0, hl0, w0⟩ := Fits.all_int g0
  obtain rfl : cs0 = (zs0.map (Value.int .u32)).toArray := by apply Array.toList_inj.1; simpa using e0
  clear e0 g0
  obtain ⟨a1, rfl, rfl, rfl⟩ := open_bool Tryd.underlying4 (hval 1 4 v1 rfl rfl) h1
  obtain ⟨cs2, rfl, g2⟩ := open_flat (m := 8) (ks := [some .u8, some .i64, some .u8, some .u8, some .u8, some .u8, some .u8, some .u8, some .u8, some .u8, some .u8, some .u8, some .u8, some .u8, some .u8, some .u8, some .u8, some .u8, some .u8, some .u8, some .u8, some .u8, some .u8, some .u8, some .u8, some .u8, some .u8, some .u8, some .u8, some .u8, some .u8, some .u8, some .u8, some .u8, some .u8, none, some .u32]) (by kernel_rfl) (.inl ⟨_, Tryd.underlying46⟩) (hval 2 46 v2 rfl rfl) h2
  obtain ⟨cs2⟩ := cs2
  have g2_0 := g2
  clear g2
  obtain ⟨x2_0, l2_0, rfl, e2_0, g2_1⟩ := Fits.cons g2_0
  obtain ⟨x2_1, l2_1, rfl, e2_1, g2_2⟩ := Fits.cons g2_1
  obtain ⟨x2_2, l2_2, rfl, e2_2, g2_3⟩ := Fits.cons g2_2
  obtain ⟨x2_3, l2_3, rfl, e2_3, g2_4⟩ := Fits.cons g2_3
  obtain ⟨x2_4, l2_4, rfl, e2_4, g2_5⟩ := Fits.cons g2_4
  obtain ⟨x2_5, l2_5, rfl, e2_5, g2_6⟩ := Fits.cons g2_5
  obtain ⟨x2_6, l2_6, rfl, e2_6, g2_7⟩ := Fits.cons g2_6
  obtain ⟨x2_7, l2_7, rfl, e2_7, g2_8⟩ := Fits.cons g2_7
  obtain ⟨x2_8, l2_8, rfl, e2_8, g2_9⟩ := Fits.cons g2_8
  obtain ⟨x2_9, l2_9, rfl, e2_9, g2_10⟩ := Fits.cons g2_9
  obtain ⟨x2_10, l2_10, rfl, e2_10, g2_11⟩ := Fits.cons g2_10
  obtain ⟨x2_11, l2_11, rfl, e2_11, g2_12⟩ := Fits.cons g2_11
  obtain ⟨x2_12, l2_12, rfl, e2_12, g2_13⟩ := Fits.cons g2_12
  obtain ⟨x2_13, l2_13, rfl, e2_13, g2_14⟩ := Fits.cons g2_13
  obtain ⟨x2_14, l2_14, rfl, e2_14, g2_15⟩ := Fits.cons g2_14
  obtain ⟨x2_15, l2_15, rfl, e2_15, g2_16⟩ := Fits.cons g2_15
  obtain ⟨x2_16, l2_16, rfl, e2_16, g2_17⟩ := Fits.cons g2_16
  obtain ⟨x2_17, l2_17, rfl, e2_17, g2_18⟩ := Fits.cons g2_17
  obtain ⟨x2_18, l2_18, rfl, e2_18, g2_19⟩ := Fits.cons g2_18
  obtain ⟨x2_19, l2_19, rfl, e2_19, g2_20⟩ := Fits.cons g2_19
  obtain ⟨x2_20, l2_20, rfl, e2_20, g2_21⟩ := Fits.cons g2_20
  obtain ⟨x2_21, l2_21, rfl, e2_21, g2_22⟩ := Fits.cons g2_21
  obtain ⟨x2_22, l2_22, rfl, e2_22, g2_23⟩ := Fits.cons g2_22
  obtain ⟨x2_23, l2_23, rfl, e2_23, g2_24⟩ := Fits.cons g2_23
  obtain ⟨x2_24, l2_24, rfl, e2_24, g2_25⟩ := Fits.cons g2_24
  obtain ⟨x2_25, l2_25, rfl, e2_25, g2_26⟩ := Fits.cons g2_25
  obtain ⟨x2_26, l2_26, rfl, e2_26, g2_27⟩ := Fits.cons g2_26
  obtain ⟨x2_27, l2_27, rfl, e2_27, g2_28⟩ := Fits.cons g2_27
  obtain ⟨x2_28, l2_28, rfl, e2_28, g2_29⟩ := Fits.cons g2_28
  obtain ⟨x2_29, l2_29, rfl, e2_29, g2_30⟩ := Fits.cons g2_29
  obtain ⟨x2_30, l2_30, rfl, e2_30, g2_31⟩ := Fits.cons g2_30
  obtain ⟨x2_31, l2_31, rfl, e2_31, g2_32⟩ := Fits.cons g2_31
  obtain ⟨x2_32, l2_32, rfl, e2_32, g2_33⟩ := Fits.cons g2_32
  obtain ⟨x2_33, l2_33, rfl, e2_33, g2_34⟩ := Fits.cons g2_33
  obtain ⟨x2_34, l2_34, rfl, e2_34, g2_35⟩ := Fits.cons g2_34
  obtain ⟨x2_35, l2_35, rfl, e2_35, g2_36⟩ := Fits.cons g2_35
  obtain ⟨x2_36, l2_36, rfl, e2_36, g2_37⟩ := Fits.cons g2_36
  obtain rfl := Fits.nil g2_37
  obtain ⟨f2_0, rfl, w2_0⟩ := e2_0
  obtain ⟨f2_1, rfl, w2_1⟩ := e2_1
  obtain ⟨f2_2, rfl, w2_2⟩ := e2_2
  obtain ⟨f2_3, rfl, w2_3⟩ := e2_3
  obtain ⟨f2_4, rfl, w2_4⟩ := e2_4
  obtain ⟨f2_5, rfl, w2_5⟩ := e2_5
  obtain ⟨f2_6, rfl, w2_6⟩ := e2_6
  obtain ⟨f2_7, rfl, w2_7⟩ := e2_7
  obtain ⟨f2_8, rfl, w2_8⟩ := e2_8
  obtain ⟨f2_9, rfl, w2_9⟩ := e2_9
  obtain ⟨f2_10, rfl, w2_10⟩ := e2_10
  obtain ⟨f2_11, rfl, w2_11⟩ := e2_11
  obtain ⟨f2_12, rfl, w2_12⟩ := e2_12
  obtain ⟨f2_13, rfl, w2_13⟩ := e2_13
  obtain ⟨f2_14, rfl, w2_14⟩ := e2_14
  obtain ⟨f2_15, rfl, w2_15⟩ := e2_15
  obtain ⟨f2_16, rfl, w2_16⟩ := e2_16
  obtain ⟨f2_17, rfl, w2_17⟩ := e2_17
  obtain ⟨f2_18, rfl, w2_18⟩ := e2_18
  obtain ⟨f2_19, rfl, w2_19⟩ := e2_19
  obtain ⟨f2_20, rfl, w2_20⟩ := e2_20
  obtain ⟨f2_21, rfl, w2_21⟩ := e2_21
  obtain ⟨f2_22, rfl, w2_22⟩ := e2_22
  obtain ⟨f2_23, rfl, w2_23⟩ := e2_23
  obtain ⟨f2_24, rfl, w2_24⟩ := e2_24
  obtain ⟨f2_25, rfl, w2_25⟩ := e2_25
  obtain ⟨f2_26, rfl, w2_26⟩ := e2_26
  obtain ⟨f2_27, rfl, w2_27⟩ := e2_27
  obtain ⟨f2_28, rfl, w2_28⟩ := e2_28
  obtain ⟨f2_29, rfl, w2_29⟩ := e2_29
  obtain ⟨f2_30, rfl, w2_30⟩ := e2_30
  obtain ⟨f2_31, rfl, w2_31⟩ := e2_31
  obtain ⟨f2_32, rfl, w2_32⟩ := e2_32
  obtain ⟨f2_33, rfl, w2_33⟩ := e2_33
  obtain ⟨f2_34, rfl, w2_34⟩ := e2_34
  obtain ⟨f2_35, rfl⟩ := e2_35
  obtain ⟨f2_36, rfl, w2_36⟩ := e2_36
  clear hA0 hval
  refine (Otp.reaches_frame zs0 a1 f2_0 f2_1 f2_2 f2_3 f2_4 f2_5 f2_6 f2_7 f2_8 f2_9 f2_10 f2_11 f2_12 f2_13 f2_14 f2_15 f2_16 f2_17 f2_18 f2_19 f2_20 f2_21 f2_22 f2_23 f2_24 f2_25 f2_26 f2_27 f2_28 f2_29 f2_30 f2_31 f2_32 f2_33 f2_34 f2_35 f2_36 W (Otp.tab_of hL) hl0 w0 w2_0 w2_1 w2_2 w2_3 w2_4 w2_5 w2_6 w2_7 w2_8 w2_9 w2_10 w2_11 w2_12 w2_13 w2_14 w2_15 w2_16 w2_17 w2_18 w2_19 w2_20 w2_21 w2_22 w2_23 w2_24 w2_25 w2_26 w2_27 w2_28 w2_29 w2_30 w2_31 w2_32 w2_33 w2_34 w2_36).mono fun e W' h => ?_
  exact law_end laidOut (by kernel_rfl) hW' rfl (by kernel_rfl) Tryd.underlying4 (fun _ => rfl) h.1 h.2

def witA : Array Value := #[.agg #[.int .u32 0, .int .u32 0, .int .u32 0, .int .u32 0, .int .u32 0, .int .u32 0, .int .u32 0, .int .u32 0, .int .u32 0, .int .u32 0, .int .u32 0, .int .u32 0, .int .u32 0, .int .u32 0, .int .u32 0, .int .u32 0, .int .u32 0, .int .u32 0, .int .u32 0, .int .u32 0, .int .u32 0, .int .u32 0, .int .u32 0, .int .u32 0, .int .u32 0, .int .u32 0, .int .u32 0, .int .u32 0, .int .u32 0, .int .u32 0, .int .u32 0, .int .u32 0, .int .u32 0, .int .u32 0, .int .u32 0, .int .u32 0, .int .u32 0, .int .u32 0, .int .u32 0, .int .u32 0, .int .u32 0, .int .u32 0, .int .u32 0, .int .u32 0, .int .u32 0, .int .u32 0, .int .u32 0, .int .u32 0, .int .u32 0, .int .u32 0, .int .u32 0, .int .u32 0, .int .u32 0, .int .u32 0, .int .u32 0, .int .u32 0, .int .u32 0, .int .u32 0, .int .u32 0, .int .u32 0, .int .u32 0, .int .u32 0, .int .u32 0, .int .u32 0], .bool false, .agg #[.int .u8 0, .int .i64 0, .int .u8 0, .int .u8 0, .int .u8 0, .int .u8 0, .int .u8 0, .int .u8 0, .int .u8 0, .int .u8 0, .int .u8 0, .int .u8 0, .int .u8 0, .int .u8 0, .int .u8 0, .int .u8 0, .int .u8 0, .int .u8 0, .int .u8 0, .int .u8 0, .int .u8 0, .int .u8 0, .int .u8 0, .int .u8 0, .int .u8 0, .int .u8 0, .int .u8 0, .int .u8 0, .int .u8 0, .int .u8 0, .int .u8 0, .int .u8 0, .int .u8 0, .int .u8 0, .int .u8 0, .bool false, .int .u32 0]]

noncomputable def laidWorld (os : Os) : World :=
  { World.holding Tryd.prog os ⟨#[], #[], []⟩ with heap := ((World.holding Tryd.prog os ⟨#[], #[], []⟩).heap).modify 0 fun
      | .cells _ t frozen => .cells #[.int .u8 0, .int .u8 1, .int .u8 28, .int .u8 2, .int .u8 29, .int .u8 14, .int .u8 24, .int .u8 3, .int .u8 30, .int .u8 22, .int .u8 20, .int .u8 15, .int .u8 25, .int .u8 17, .int .u8 4, .int .u8 8, .int .u8 31, .int .u8 27, .int .u8 13, .int .u8 23, .int .u8 21, .int .u8 19, .int .u8 16, .int .u8 7, .int .u8 26, .int .u8 12, .int .u8 18, .int .u8 6, .int .u8 11, .int .u8 5, .int .u8 10, .int .u8 9] t frozen
      | o => o }
theorem laid_met (os : Os) : laidMet Tryd.prog Rows.otpReachesRow.laid ((laidWorld os).forCall (fun _ _ => 0) ⟨#[], witA, []⟩).memory :=
  laidMet_of_run' 8 (by kernel_rfl) (by kernel_rfl)
theorem reads (os : Os) {H : Type} (enc : TypeId × Value → H) : (DataW.whole enc Tryd.prog ((laidWorld os).forCall (fun _ _ => 0) ⟨#[], witA, []⟩).memory Tryd.f4.params.toList Rows.otpReachesSpec.vars false (witA : Array Value).toList 8).isSome = true := by kernel_rfl

set_option maxRecDepth 100000 in
theorem lifted (os : Os) (started : os.Started) (H : Type) (enc : TypeId × Value → H) (F : Stop.Interp) :
    ReturnsInHanded {} Tryd.checked os 4 .any ((OpenSpec.ofChange Rows.otpReachesSpec).preRow enc Tryd.prog Tryd.f4 Rows.otpReachesRow.domain false Rows.otpReachesRow.laid) (((OpenSpec.ofChange Rows.otpReachesSpec).at F).post enc Tryd.prog Tryd.f4 false true false false) := by
  obtain ⟨x, hx⟩ := Option.isSome_iff_exists.1 (reads os enc)
  refine returnsInHanded_of_row (C := Tryd.checked) (s := OpenSpec.ofChange Rows.otpReachesSpec) own started (by kernel_rfl) Tryd.func4
    (witness_row_at (enc := enc) (C := Tryd.checked) false (laidWorld os) witA rfl (by kernel_rfl) (by kernel_rfl) (by kernel_rfl)
      (OpenSpec.preRow_of_cond 8 hx (by kernel_rfl) (fun k hk => by cases hk) (by kernel_rfl) (laid_met os))) ?_
  intro W base args ds gs before hval hW _ _ _ hL _ _
  exact contract H enc W base args ds gs before hval hW hL

theorem said : Rows.OtpReachesSaid :=
  OpenClaim.holds_of_cond 4 Tryd.f4 rfl rfl rfl rfl rfl rfl rfl ⟨rfl, rfl, rfl, rfl, rfl⟩ rfl rfl rfl rfl rfl (by kernel_rfl) Tryd.func4 (by kernel_rfl)
    (of_decide_eq_true (by kernel_rfl)) (by unfold Func.isWrapper; first | (rw [if_pos (by decide +kernel)]; kernel_rfl) | (rw [if_neg (by decide +kernel)]; exact ⟨rfl, rfl⟩))
    (fun os started H enc _ F => by rw [OpenClaim.pre_eq_preRow]; exact lifted os started H enc F)

theorem plain (f : FuncId) (fn : Func) (hf : Tryd.pinned.checked.prog.funcNamed "curtilage/curtilagelaw11.OtpReaches" = some f) (hfn : Tryd.pinned.checked.prog.funcs[f]? = some fn) :
    false = Tryd.pinned.checked.prog.looks [] ∧ ∀ (j : Nat) t, fn.params[j]? = some t → Tryd.pinned.checked.prog.wantsStandIn t = false := by
  obtain rfl : f = 4 := Option.some.inj ((show Tryd.prog.funcNamed "curtilage/curtilagelaw11.OtpReaches" = some 4 by kernel_rfl).symm.trans hf) |>.symm
  obtain rfl : fn = Tryd.f4 := (Option.some.inj (Tryd.func4.symm.trans hfn)).symm
  refine ⟨by kernel_rfl, fun j t ht => ?_⟩
  rw [Tryd.params4] at ht
  have hm := Array.mem_of_getElem? ht
  have hm2 : t = 4 ∨ t = 44 ∨ t = 46 := by
    first | (simp at hm; omega) | (simp at hm; simp [hm]; done) | (simp at hm; rcases hm with h | h <;> simp [h]; done) | (simp at hm; rcases hm with h | h | h <;> simp [h]; done) | (simp at hm; rcases hm with h | h | h | h <;> simp [h]; done) | (simp at hm; rcases hm with h | h | h | h | h <;> simp [h]; done)
  rcases hm2 with rfl | rfl | rfl
  · exact (show Tryd.prog.wantsStandIn 4 = false by kernel_rfl)
  · exact (show Tryd.prog.wantsStandIn 44 = false by kernel_rfl)
  · exact (show Tryd.prog.wantsStandIn 46 = false by kernel_rfl)

theorem proved : Rows.OtpReachesCardSaid :=
  Claim7.holds_tied_plain_at .later [] _ _ _ _ said (fun _ h => by cases h) (by kernel_rfl) (fun _ h => by cases h) otpReaches_row_tie rfl ⟨rfl, rfl⟩ (by kernel_rfl) rfl plain (by kernel_rfl)
#print axioms proved
end Go.Proofs.YtpakdcgcgekcfaaDoor.otpReaches
