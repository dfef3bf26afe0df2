/-
  ChooseFallsSaid: the law ChooseFalls returns true at every input, and each argument reads as it did. The frame by program (wip/law.py); the walk stands in the texts that it imports.
-/
import Derived.Test.YtmcpppgnfmopoaaRows
import Derived.Test.YtmcpppgnfmopoaaFalls2
import Derived.Test.YtmcpppgnfmopoaaFrame
import Derived.WalkKit
import Derived.ProofKit
import Derived.OpenShut
import Derived.ShutString
import Derived.ChangeOld
import Derived.Below
namespace Go.Proofs.Ytmcpppgnfmopoaa.chooseFalls
open Go.ChangeShapes Go.WideShapes Go.ChangeAt Go.RowKit
open Go.ChangeMaps (open_string shut_string)
set_option linter.unusedVariables false

theorem own : ownKnob Try.prog.godebug = none := by kernel_rfl
theorem laidOut : laidOutB Try.prog = true := by kernel_rfl

set_option maxRecDepth 100000 in
theorem contract (H : Type) (enc : TypeId × Value → H) (W : World) (base : Nat) (args : Array Value) (ds gs : List (DataW H)) (before : List MemPlace)
    (hval : ∀ (j : Nat) t v, Try.f3.params[j]? = some t → args[j]? = some v → Value.okWide Try.prog W .any base t v)
    (hW : DataW.Whole enc Try.prog Try.f3.params.toList Rows.chooseFallsSpec.vars false W args.toList ds gs before) :
    Calls Try.prog 3 args W fun e W' => ∃ v, e = .returned v ∧ Rows.chooseFallsSpec.post enc Try.prog Try.f3 false true false false W args v W' := by
  have hW' := hW
  obtain ⟨p, q, hA0, hV, rfl, hfz, hnd⟩ := hW
  have hA : DataW.TrodAll enc Try.prog W 0 (fun _ => true) true Try.f3.params.toList args.toList ds p := hA0
  rw [Try.params3] at hA hval
  obtain ⟨v0, vs0, d0, ds0, p0, q0, hargs, rfl, rfl, h0, r0⟩ := trodAll_cons hA
  obtain ⟨v1, vs1, d1, ds1, p1, q1, rfl, rfl, rfl, h1, r1⟩ := trodAll_cons r0
  obtain ⟨v2, vs2, d2, ds2, p2, q2, rfl, rfl, rfl, h2, r2⟩ := trodAll_cons r1
  obtain ⟨v3, vs3, d3, ds3, p3, q3, rfl, rfl, rfl, h3, r3⟩ := trodAll_cons r2
  obtain ⟨rfl, rfl, rfl⟩ := trodAll_nil r3
  obtain rfl : args = #[v0, v1, v2, v3] := by cases args; simp_all
  obtain ⟨rfl, rfl⟩ := trodVars_none hV
  obtain ⟨cs0, rfl, g0⟩ := open_flat (m := 8) (ks := [some .u32, some .i64, some .i64, some .i64]) (by kernel_rfl) (.inl ⟨_, Try.underlying24⟩) (hval 0 24 v0 rfl rfl) h0
  obtain ⟨cs0⟩ := cs0
  have g0_0 := g0
  clear g0
  obtain ⟨x0_0, l0_0, rfl, e0_0, g0_1⟩ := Fits.cons g0_0
  obtain ⟨x0_1, l0_1, rfl, e0_1, g0_2⟩ := Fits.cons g0_1
  obtain ⟨x0_2, l0_2, rfl, e0_2, g0_3⟩ := Fits.cons g0_2
  obtain ⟨x0_3, l0_3, rfl, e0_3, g0_4⟩ := Fits.cons g0_3
  obtain rfl := Fits.nil g0_4
  obtain ⟨f0_0, rfl, w0_0⟩ := e0_0
  obtain ⟨f0_1, rfl, w0_1⟩ := e0_1
  obtain ⟨f0_2, rfl, w0_2⟩ := e0_2
  obtain ⟨f0_3, rfl, w0_3⟩ := e0_3
  obtain ⟨a1, rfl, rfl, rfl, w1⟩ := open_int Try.underlying25 (hval 1 25 v1 rfl rfl) h1
  obtain ⟨a2, rfl, rfl, rfl, w2⟩ := open_int Try.underlying25 (hval 2 25 v2 rfl rfl) h2
  obtain ⟨a3, rfl, rfl, rfl, w3⟩ := open_int Try.underlying5 (hval 3 5 v3 rfl rfl) h3
  clear hA0 hval
  have hb3 := bounds_u8 w3
  refine (Choose.falls_any f0_0 f0_1 f0_2 f0_3 a1 a2 a3 W hb3.1 (by omega)).mono fun e W' h => ?_
  exact law_end laidOut (by kernel_rfl) hW' rfl (by kernel_rfl) Try.underlying4 (fun _ => rfl) h.1 h.2

set_option maxRecDepth 100000 in
theorem lifted (os : Os) (started : os.Started) (H : Type) (enc : TypeId × Value → H) :
    ReturnsInHanded {} Try.checked os 3 .any (Rows.chooseFallsSpec.pre6 enc Try.prog Try.f3 Rows.chooseFallsRow.domain false) (Rows.chooseFallsSpec.post enc Try.prog Try.f3 false true false false) := by
  refine returnsInHanded_of_change (C := Try.checked) own started (by kernel_rfl) Try.func3
    (ChangeSpec.witness6 (enc := enc) (C := Try.checked) false ⟨#[], #[.agg #[.int .u32 0, .int .i64 0, .int .i64 0, .int .i64 0], .int .i64 0, .int .i64 0, .int .u8 0], []⟩ 8 (by kernel_rfl) (by kernel_rfl) (by kernel_rfl) (by kernel_rfl)) ?_
  intro W base args ds gs before hval hW _ _
  exact contract H enc W base args ds gs before hval hW

theorem over : Rows.chooseFallsRow.holds Try.pinned (OpenSpec.ofChange Rows.chooseFallsSpec) :=
  OpenClaim.holds_of_wide 3 Try.f3 rfl rfl rfl rfl rfl rfl rfl ⟨rfl, rfl, rfl, rfl, rfl⟩ rfl rfl rfl rfl rfl (by kernel_rfl) Try.func3 (by kernel_rfl)
    (of_decide_eq_true (by kernel_rfl)) (by unfold Func.isWrapper; first | (rw [if_pos (by decide +kernel)]; kernel_rfl) | (rw [if_neg (by decide +kernel)]; exact ⟨rfl, rfl⟩))
    (fun os started H enc _ => lifted os started H enc)

theorem proved : Rows.ChooseFallsSaid := over
#print axioms proved
end Go.Proofs.Ytmcpppgnfmopoaa.chooseFalls
