import Derived.Test.YtmiaabpnolebhaaGreatDoorCards
import Derived.Test.YtmiaabpnolebhaaGreatDoorTie
import Derived.Test.YtmiaabpnolebhaaGreatDoorJ1d451ec1
import Derived.Below
import Derived.Deep.DeepHandedRow
import Derived.Lib.LaidTab
set_option maxRecDepth 100000
set_option linter.unusedVariables false
namespace Go.Proofs.YtmiaabpnolebhaaGreatDoor.coreOne
open Go.ChangeShapes Go.WideShapes Go.ChangeAt Go.RowKit
open Go.ChangeMaps (open_string shut_string)

theorem own : ownKnob Tryz.prog.godebug = none := by kernel_rfl
theorem laidOut : laidOutB Tryz.prog = true := by kernel_rfl

theorem contract (H : Type) (enc : TypeId × Value → H) (W : World) (base : Nat) (args : Array Value) (ds gs : List (DataW H)) (before : List MemPlace)
  (hval : ∀ (j : Nat) t v, Tryz.f4.params[j]? = some t → args[j]? = some v → Value.okWide Tryz.prog W .any base t v)
  (hW : DataW.Whole enc Tryz.prog Tryz.f4.params.toList Rows.coreOneSpec.vars false W args.toList ds gs before) (hL : laidMetH Tryz.prog Rows.coreOneRow.laid W) :
  Calls Tryz.prog 4 args W fun e W' => ∃ v, e = .returned v ∧ Rows.coreOneSpec.post enc Tryz.prog Tryz.f4 false true false false W args v W' := by
 have hW' := hW
 obtain ⟨p, q, hA0, hV, rfl, hfz, hnd⟩ := hW
 have hA : DataW.TrodAll enc Tryz.prog W 0 (fun _ => true) true Tryz.f4.params.toList args.toList ds p := hA0
 rw [Tryz.params4] at hA hval
 obtain ⟨v0, vs0, d0, ds0, p0, q0, hargs, rfl, rfl, h0, r0⟩ := trodAll_cons hA
 obtain ⟨v1, vs1, d1, ds1, p1, q1, rfl, rfl, rfl, h1, r1⟩ := trodAll_cons r0
 obtain ⟨v2, vs2, d2, ds2, p2, q2, rfl, rfl, rfl, h2, r2⟩ := trodAll_cons r1
 obtain ⟨v3, vs3, d3, ds3, p3, q3, rfl, rfl, rfl, h3, r3⟩ := trodAll_cons r2
 obtain ⟨v4, vs4, d4, ds4, p4, q4, rfl, rfl, rfl, h4, r4⟩ := trodAll_cons r3
 obtain ⟨v5, vs5, d5, ds5, p5, q5, rfl, rfl, rfl, h5, r5⟩ := trodAll_cons r4
 obtain ⟨rfl, rfl, rfl⟩ := trodAll_nil r5
 obtain rfl : args = #[v0, v1, v2, v3, v4, v5] := by cases args; simp_all
 obtain ⟨rfl, rfl⟩ := trodVars_none hV
 obtain ⟨cs0, rfl, g0⟩ := open_flat (m := 8) (ks := [some .u8, some .u8, some .u8, some .u8, some .u32, some .u16]) (by kernel_rfl) (.inl ⟨_, Tryz.underlying54⟩) (hval 0 54 v0 rfl rfl) h0
 obtain ⟨cs0⟩ := cs0
 have g0_0 := g0
 clear g0
 obtain ⟨x0_0, l0_0, rfl, e0_0, g0_1⟩ := Fits.cons g0_0
 obtain ⟨x0_1, l0_1, rfl, e0_1, g0_2⟩ := Fits.cons g0_1
 obtain ⟨x0_2, l0_2, rfl, e0_2, g0_3⟩ := Fits.cons g0_2
 obtain ⟨x0_3, l0_3, rfl, e0_3, g0_4⟩ := Fits.cons g0_3
 obtain ⟨x0_4, l0_4, rfl, e0_4, g0_5⟩ := Fits.cons g0_4
 obtain ⟨x0_5, l0_5, rfl, e0_5, g0_6⟩ := Fits.cons g0_5
 obtain rfl := Fits.nil g0_6
 obtain ⟨f0_0, rfl, w0_0⟩ := e0_0
 obtain ⟨f0_1, rfl, w0_1⟩ := e0_1
 obtain ⟨f0_2, rfl, w0_2⟩ := e0_2
 obtain ⟨f0_3, rfl, w0_3⟩ := e0_3
 obtain ⟨f0_4, rfl, w0_4⟩ := e0_4
 obtain ⟨f0_5, rfl, w0_5⟩ := e0_5
 obtain ⟨a1, rfl, rfl, rfl, w1⟩ := open_int Tryz.underlying52 (hval 1 52 v1 rfl rfl) h1
 obtain ⟨a2, rfl, rfl, rfl⟩ := open_bool Tryz.underlying4 (hval 2 4 v2 rfl rfl) h2
 obtain ⟨o3, len3, cap3, rfl⟩ := okWide_slice Tryz.underlying55 (hval 3 55 v3 rfl rfl)
 obtain ⟨rows3, ro3⟩ : ∃ rows, RowsOf W 1 ([some .u32]) o3 len3 cap3 rows := by
  obtain ⟨fuel, hf⟩ := h3
  exact open_rows Tryz.underlying55 (m := 8) (by kernel_rfl) (by kernel_rfl) (by simpa [Value.cells] using hf)
 obtain ⟨o4, len4, cap4, rfl⟩ := okWide_slice Tryz.underlying55 (hval 4 55 v4 rfl rfl)
 obtain ⟨rows4, ro4⟩ : ∃ rows, RowsOf W 1 ([some .u32]) o4 len4 cap4 rows := by
  obtain ⟨fuel, hf⟩ := h4
  exact open_rows Tryz.underlying55 (m := 8) (by kernel_rfl) (by kernel_rfl) (by simpa [Value.cells] using hf)
 obtain ⟨o5, len5, cap5, rfl⟩ := okWide_slice Tryz.underlying55 (hval 5 55 v5 rfl rfl)
 obtain ⟨rows5, ro5⟩ : ∃ rows, RowsOf W 1 ([some .u32]) o5 len5 cap5 rows := by
  obtain ⟨fuel, hf⟩ := h5
  exact open_rows Tryz.underlying55 (m := 8) (by kernel_rfl) (by kernel_rfl) (by simpa [Value.cells] using hf)
 clear hA0 hval
 obtain ⟨zs3, hl3, hlc3, hcm3, hi3⟩ := rows_ints ro3
 obtain ⟨zs4, hl4, hlc4, hcm4, hi4⟩ := rows_ints ro4
 obtain ⟨zs5, hl5, hlc5, hcm5, hi5⟩ := rows_ints ro5
 refine (Core.one_frame f0_0 f0_1 f0_2 f0_3 f0_4 f0_5 a1 a2 o3 len3 cap3 (zs3.map Int.toNat) o4 len4 cap4 (zs4.map Int.toNat) o5 len5 cap5 (zs5.map Int.toNat) W (Grant.spans_of hL rfl (List.Mem.head _)) w0_0 w0_1 w0_2 w0_3 w0_4 w0_5 w1 (by simpa using hl3) (Nat.le_trans hlc3 hcm3) (ints_nats (fun z hz => by have := bounds_u32 hz; omega) hi3) (by simpa using hl4) (Nat.le_trans hlc4 hcm4) (ints_nats (fun z hz => by have := bounds_u32 hz; omega) hi4) (by simpa using hl5) (Nat.le_trans hlc5 hcm5) (ints_nats (fun z hz => by have := bounds_u32 hz; omega) hi5)).mono fun e W' h => ?_
 exact law_end laidOut (by kernel_rfl) hW' rfl (by kernel_rfl) Tryz.underlying4 (fun _ => rfl) h.1 h.2

def witA : Array Value := #[.agg #[.int .u8 0, .int .u8 0, .int .u8 0, .int .u8 0, .int .u32 0, .int .u16 0], .int .u32 0, .bool false, .slice none 0 0, .slice none 0 0, .slice none 0 0]

noncomputable def laidWorld (os : Os) : World :=
 { World.holding Tryz.prog os ⟨#[], #[], []⟩ with heap := ((World.holding Tryz.prog os ⟨#[], #[], []⟩).heap).modify 3 (fun | .cells _ t frozen => .cells #[.int .u32 0, .int .i64 0, .int .u32 536870912, .int .i64 4096, .int .u32 536875008, .int .i64 4096, .int .u32 268435456, .int .i64 10240, .int .u32 1073741824, .int .i64 64, .int .u32 1610612736, .int .i64 256] t frozen | o => o) }
theorem laid_met (os : Os) : laidMet Tryz.prog Rows.coreOneRow.laid ((laidWorld os).forCall (fun _ _ => 0) ⟨#[], witA, []⟩).memory :=
 laidMet_of_run' 8 (by kernel_rfl) (by kernel_rfl)
theorem reads (os : Os) {H : Type} (enc : TypeId × Value → H) : (DataW.whole enc Tryz.prog ((laidWorld os).forCall (fun _ _ => 0) ⟨#[], witA, []⟩).memory Tryz.f4.params.toList Rows.coreOneSpec.vars false (witA : Array Value).toList 8).isSome = true := by kernel_rfl

theorem lifted (os : Os) (started : os.Started) (H : Type) (enc : TypeId × Value → H) (F : Stop.Interp) :
  ReturnsInHanded {} Tryz.checked os 4 .any ((OpenSpec.ofChange Rows.coreOneSpec).preRow enc Tryz.prog Tryz.f4 Rows.coreOneRow.domain false Rows.coreOneRow.laid) (((OpenSpec.ofChange Rows.coreOneSpec).at F).post enc Tryz.prog Tryz.f4 false true false false) := by
 obtain ⟨x, hx⟩ := Option.isSome_iff_exists.1 (reads os enc)
 refine returnsInHanded_of_row (C := Tryz.checked) (s := OpenSpec.ofChange Rows.coreOneSpec) own started (by kernel_rfl) Tryz.func4
  (witness_row_at (enc := enc) (C := Tryz.checked) false (laidWorld os) witA rfl (by kernel_rfl) (by kernel_rfl) (by kernel_rfl)
   (OpenSpec.preRow_of_cond 8 hx (by kernel_rfl) (fun k hk => by cases hk) (by kernel_rfl) (laid_met os))) ?_
 intro W base args ds gs before hval hW _ _ _ hL _ _
 exact contract H enc W base args ds gs before hval hW hL

theorem and_both {a b : Bool} (h1 : a = true) (h2 : b = true) : (a && b) = true := by rw [h1, h2]; rfl
theorem j0 : (Rows.coreOneRow.wf (OpenSpec.ofChange (OpenSpec.ofChange Rows.coreOneSpec).bare)) = true := by kernel_rfl
theorem j1 : (laidOutB Tryz.pinned.checked.prog) = true := by kernel_rfl
theorem j2 : (mapsRowed Tryz.pinned.checked.prog) = true := by kernel_rfl
theorem j3 : (Tryz.f4.params.all (Tryz.pinned.checked.prog.readableRec ·)) = true := by kernel_rfl
theorem j4 : (namedTie Tryz.pinned.checked.prog Rows.coreOneRow.named (OpenSpec.ofChange Rows.coreOneSpec).bare.vars) = true := by kernel_rfl
theorem j5 : (Rows.coreOneRow.inPlace == Tryz.pinned.checked.prog.inPlace 4) = true := by kernel_rfl
theorem j6 : (Rows.coreOneRow.unfollowed == Tryz.pinned.checked.prog.unfollowed 4) = true := by kernel_rfl
theorem j7 : (Rows.coreOneRow.recurses == Tryz.pinned.checked.prog.recurses 4) = true := by kernel_rfl
theorem j8 : (Rows.coreOneRow.named == Tryz.pinned.checked.prog.varsNamed 4) = true := by kernel_rfl
theorem j9 : (Rows.coreOneRow.maps == (Tryz.f4.params.toList ++ (OpenSpec.ofChange Rows.coreOneSpec).bare.plain.varTypes Tryz.pinned.checked.prog).any (Tryz.pinned.checked.prog.mapsRec ·)) = true := by kernel_rfl
theorem j10 : (Rows.coreOneRow.ifaces == (Tryz.f4.params.toList ++ (OpenSpec.ofChange Rows.coreOneSpec).bare.plain.varTypes Tryz.pinned.checked.prog).any (Tryz.pinned.checked.prog.ifacesRec ·)) = true := by kernel_rfl
theorem j11 : (Rows.coreOneRow.mapsOut == Tryz.pinned.checked.prog.mapsAmong Tryz.f4.resultTypes.toList) = true := by kernel_rfl
theorem j12 : (Rows.coreOneRow.loops == (Tryz.f4.params.toList ++ (OpenSpec.ofChange Rows.coreOneSpec).bare.plain.varTypes Tryz.pinned.checked.prog).any (Tryz.pinned.checked.prog.loopsFrom ·)) = true := by kernel_rfl
theorem j13 : (Rows.coreOneRow.wideKeys == (Tryz.f4.params.toList ++ (OpenSpec.ofChange Rows.coreOneSpec).bare.plain.varTypes Tryz.pinned.checked.prog ++ Tryz.f4.resultTypes.toList).any (Tryz.pinned.checked.prog.wideKeysFrom ·)) = true := by kernel_rfl
theorem j14 : (Rows.coreOneRow.plainKeys == Tryz.pinned.checked.prog.plainKeys) = true := by kernel_rfl
theorem j15 : (Tryz.pinned.checked.prog.stopsHeard) = true := by kernel_rfl
theorem j16 : (Tryz.pinned.checked.prog.mayEnter) = true := by kernel_rfl
theorem j17 : (Rows.coreOneRow.lifted == Tryz.pinned.checked.prog.liftsFinal) = true := by kernel_rfl
theorem j18 : (Tryz.pinned.checked.prog.make == some Rows.coreOneRow.make) = true := by kernel_rfl
theorem j19 : (Rows.coreOneRow.pinned == Rows.coreOneRow.pinnedBy) = true := by kernel_rfl
theorem closed : joinedFacts Tryz.pinned.checked.prog 4 Tryz.f4 (OpenSpec.ofChange Rows.coreOneSpec).bare Rows.coreOneRow = true := by
  unfold joinedFacts
  repeat' (with_reducible refine and_both ?_ ?_)
  all_goals first | with_reducible first | exact j0 | exact j1 | exact j2 | exact j3 | exact j4 | exact j5 | exact j6 | exact j7 | exact j8 | exact j9 | exact j10 | exact j11 | exact j12 | exact j13 | exact j14 | exact j15 | exact j16 | exact j17 | exact j18 | exact j19 | kernel_rfl

theorem said : Rows.CoreOneSaid :=
 OpenClaim.holds_of_cond 4 Tryz.f4 rfl rfl rfl rfl rfl rfl rfl ⟨rfl, rfl, rfl, rfl, rfl⟩ rfl rfl rfl rfl rfl (by kernel_rfl) Tryz.func4 closed
  (of_decide_eq_true (by kernel_rfl)) (by unfold Func.isWrapper; first | (rw [if_pos (by decide +kernel)]; kernel_rfl) | (rw [if_neg (by decide +kernel)]; exact ⟨rfl, rfl⟩))
  (fun os started H enc _ F => by rw [OpenClaim.pre_eq_preRow]; exact lifted os started H enc F)

theorem plain (f : FuncId) (fn : Func) (hf : Tryz.pinned.checked.prog.funcNamed "curtilage/curtilagelaw20.CoreOne" = some f) (hfn : Tryz.pinned.checked.prog.funcs[f]? = some fn) :
  false = Tryz.pinned.checked.prog.looks [] ∧ ∀ (j : Nat) t, fn.params[j]? = some t → Tryz.pinned.checked.prog.wantsStandIn t = false := by
 obtain rfl : f = 4 := Option.some.inj ((show Tryz.prog.funcNamed "curtilage/curtilagelaw20.CoreOne" = some 4 by kernel_rfl).symm.trans hf) |>.symm
 obtain rfl : fn = Tryz.f4 := (Option.some.inj (Tryz.func4.symm.trans hfn)).symm
 refine ⟨by kernel_rfl, fun j t ht => ?_⟩
 rw [Tryz.params4] at ht
 have hm := Array.mem_of_getElem? ht
 have hm2 : t = 4 ∨ t = 52 ∨ t = 54 ∨ t = 55 := by
  first | (simp at hm; omega) | (simp at hm; simp [hm]; done) | (simp at hm; rcases hm with h | h <;> simp [h]; done) | (simp at hm; rcases hm with h | h | h <;> simp [h]; done) | (simp at hm; rcases hm with h | h | h | h <;> simp [h]; done) | (simp at hm; rcases hm with h | h | h | h | h <;> simp [h]; done) | (simp at hm; rcases hm with h | h | h | h | h | h <;> simp [h]; done) | (simp at hm; rcases hm with h | h | h | h | h | h | h <;> simp [h]; done) | (simp at hm; rcases hm with h | h | h | h | h | h | h | h <;> simp [h]; done)
 rcases hm2 with rfl | rfl | rfl | rfl
 ·exact (show Tryz.prog.wantsStandIn 4 = false by kernel_rfl)
 ·exact (show Tryz.prog.wantsStandIn 52 = false by kernel_rfl)
 ·exact (show Tryz.prog.wantsStandIn 54 = false by kernel_rfl)
 ·exact (show Tryz.prog.wantsStandIn 55 = false by kernel_rfl)

theorem proved : Rows.CoreOneCardSaid :=
 Claim7.holds_tied_plain_at .later [] _ _ _ _ said (fun _ h => by cases h) (by kernel_rfl) (fun _ h => by cases h) coreOne_row_tie rfl ⟨rfl, rfl⟩ (by kernel_rfl) rfl plain (by kernel_rfl)
#print axioms proved
end Go.Proofs.YtmiaabpnolebhaaGreatDoor.coreOne
