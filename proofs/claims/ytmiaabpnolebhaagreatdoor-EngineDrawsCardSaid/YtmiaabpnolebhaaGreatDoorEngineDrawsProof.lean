/-
  EngineDrawsCardSaid: the law EngineDraws returns true at every input, and each argument reads as it did. The frame by program (wip/law.py); the walk stands in the texts that it imports.
-/
import Derived.Test.YtmiaabpnolebhaaGreatDoorCards
import Derived.Test.YtmiaabpnolebhaaGreatDoorTie
import Derived.Test.YtmiaabpnolebhaaGreatDoorEngDr
import Derived.Test.YtmiaabpnolebhaaGreatDoorJa1b5d71e
import Derived.Below
import Derived.Deep.DeepHandedRow
namespace Go.Proofs.YtmiaabpnolebhaaGreatDoor.engineDraws
open Go.ChangeShapes Go.WideShapes Go.ChangeAt Go.RowKit
open Go.ChangeMaps (open_string shut_string)
set_option linter.unusedVariables false

theorem own : ownKnob Tryz.prog.godebug = none := by kernel_rfl
theorem laidOut : laidOutB Tryz.prog = true := by kernel_rfl

set_option maxRecDepth 100000 in
theorem contract (H : Type) (enc : TypeId × Value → H) (W : World) (base : Nat) (args : Array Value) (ds gs : List (DataW H)) (before : List MemPlace)
    (hval : ∀ (j : Nat) t v, Tryz.f6.params[j]? = some t → args[j]? = some v → Value.okWide Tryz.prog W .any base t v)
    (hW : DataW.Whole enc Tryz.prog Tryz.f6.params.toList Rows.engineDrawsSpec.vars false W args.toList ds gs before) (hL : laidMetH Tryz.prog Rows.engineDrawsRow.laid W) :
    Calls Tryz.prog 6 args W fun e W' => ∃ v, e = .returned v ∧ Rows.engineDrawsSpec.post enc Tryz.prog Tryz.f6 false true false false W args v W' := by
  have hW' := hW
  obtain ⟨p, q, hA0, hV, rfl, hfz, hnd⟩ := hW
  have hA : DataW.TrodAll enc Tryz.prog W 0 (fun _ => true) true Tryz.f6.params.toList args.toList ds p := hA0
  rw [Tryz.params6] at hA hval
  obtain ⟨v0, vs0, d0, ds0, p0, q0, hargs, rfl, rfl, h0, r0⟩ := trodAll_cons hA
  obtain ⟨v1, vs1, d1, ds1, p1, q1, rfl, rfl, rfl, h1, r1⟩ := trodAll_cons r0
  obtain ⟨rfl, rfl, rfl⟩ := trodAll_nil r1
  obtain rfl : args = #[v0, v1] := by cases args; simp_all
  obtain ⟨rfl, rfl⟩ := trodVars_none hV
  obtain ⟨o0, len0, cap0, rfl⟩ := okWide_slice Tryz.underlying109 (hval 0 109 v0 rfl rfl)
  obtain ⟨rows0, ro0⟩ : ∃ rows, RowsW W 1 ([.sl .u8]) o0 len0 cap0 rows := by
    obtain ⟨fuel, hf⟩ := h0
    exact open_rowsW Tryz.underlying109 (m := 8) (by kernel_rfl) (by kernel_rfl) (by simp) (by simpa [Value.cells] using hf)
  obtain ⟨o1, len1, cap1, rfl⟩ := okWide_slice Tryz.underlying43 (hval 1 43 v1 rfl rfl)
  obtain ⟨rows1, ro1⟩ : ∃ rows, RowsOf W 1 ([some .i64]) o1 len1 cap1 rows := by
    obtain ⟨fuel, hf⟩ := h1
    exact open_rows Tryz.underlying43 (m := 8) (by kernel_rfl) (by kernel_rfl) (by simpa [Value.cells] using hf)
  clear hA0 hval
  obtain ⟨ps0, hp0, hc0, hm0, hP0⟩ := Eng.rows_sls ro0
  obtain ⟨zs1, hl1, hlc1, hcm1, hi1⟩ := rows_ints ro1
  obtain ⟨hT, hS⟩ := Eng.laid4 hL
  refine (Eng.draws_any o0 len0 cap0 ps0 o1 len1 cap1 zs1 W hT hS hp0 (Nat.le_trans hc0 hm0) hP0 hl1 (Nat.le_trans hlc1 hcm1) hi1).mono fun e W' h => ?_
  exact law_end laidOut (by kernel_rfl) hW' rfl (by kernel_rfl) Tryz.underlying4 (fun _ => rfl) h.1 h.2

def witA : Array Value := #[.slice none 0 0, .slice none 0 0]

noncomputable def laidWorld (os : Os) : World :=
  { World.holding Tryz.prog os ⟨#[.cells #[.string ⟨#[98, 121, 116, 101, 115, 46, 66, 117, 102, 102, 101, 114, 58, 32, 116, 111, 111, 32, 108, 97, 114, 103, 101]⟩] 458 (0, 0)], #[], []⟩ with heap := (((((World.holding Tryz.prog os ⟨#[.cells #[.string ⟨#[98, 121, 116, 101, 115, 46, 66, 117, 102, 102, 101, 114, 58, 32, 116, 111, 111, 32, 108, 97, 114, 103, 101]⟩] 458 (0, 0)], #[], []⟩).heap).modify 6 (fun | .cells _ t frozen => .cells #[.iface 442 (.pointer (some ⟨Tryz.prog.globals.size + (begin Tryz.prog (fun _ _ => 0) default).world.heap.size - Tryz.prog.globals.size + 0, 0, none⟩))] t frozen | o => o)).modify 1 (fun | .cells _ t frozen => .cells #[.int .u32 1779033703, .int .u32 3144134277, .int .u32 1013904242, .int .u32 2773480762, .int .u32 1359893119, .int .u32 2600822924, .int .u32 528734635, .int .u32 1541459225] t frozen | o => o)).modify 5 (fun | .cells _ t frozen => .cells #[.int .u32 1116352408, .int .u32 1899447441, .int .u32 3049323471, .int .u32 3921009573, .int .u32 961987163, .int .u32 1508970993, .int .u32 2453635748, .int .u32 2870763221, .int .u32 3624381080, .int .u32 310598401, .int .u32 607225278, .int .u32 1426881987, .int .u32 1925078388, .int .u32 2162078206, .int .u32 2614888103, .int .u32 3248222580, .int .u32 3835390401, .int .u32 4022224774, .int .u32 264347078, .int .u32 604807628, .int .u32 770255983, .int .u32 1249150122, .int .u32 1555081692, .int .u32 1996064986, .int .u32 2554220882, .int .u32 2821834349, .int .u32 2952996808, .int .u32 3210313671, .int .u32 3336571891, .int .u32 3584528711, .int .u32 113926993, .int .u32 338241895, .int .u32 666307205, .int .u32 773529912, .int .u32 1294757372, .int .u32 1396182291, .int .u32 1695183700, .int .u32 1986661051, .int .u32 2177026350, .int .u32 2456956037, .int .u32 2730485921, .int .u32 2820302411, .int .u32 3259730800, .int .u32 3345764771, .int .u32 3516065817, .int .u32 3600352804, .int .u32 4094571909, .int .u32 275423344, .int .u32 430227734, .int .u32 506948616, .int .u32 659060556, .int .u32 883997877, .int .u32 958139571, .int .u32 1322822218, .int .u32 1537002063, .int .u32 1747873779, .int .u32 1955562222, .int .u32 2024104815, .int .u32 2227730452, .int .u32 2361852424, .int .u32 2428436474, .int .u32 2756734187, .int .u32 3204031479, .int .u32 3329325298] t frozen | o => o)).modify 3 (fun | .cells _ t frozen => .cells #[.int .u32 0, .int .i64 0, .int .u32 536870912, .int .i64 4096, .int .u32 536875008, .int .i64 4096, .int .u32 268435456, .int .i64 10240, .int .u32 1073741824, .int .i64 64, .int .u32 1610612736, .int .i64 256] t frozen | o => o) }
theorem laid_met (os : Os) : laidMet Tryz.prog Rows.engineDrawsRow.laid ((laidWorld os).forCall (fun _ _ => 0) ⟨#[], witA, []⟩).memory :=
  laidMet_of_run' 8 (by kernel_rfl) (by kernel_rfl)
theorem reads (os : Os) {H : Type} (enc : TypeId × Value → H) : (DataW.whole enc Tryz.prog ((laidWorld os).forCall (fun _ _ => 0) ⟨#[], witA, []⟩).memory Tryz.f6.params.toList Rows.engineDrawsSpec.vars false (witA : Array Value).toList 8).isSome = true := by kernel_rfl

set_option maxRecDepth 100000 in
theorem lifted (os : Os) (started : os.Started) (H : Type) (enc : TypeId × Value → H) (F : Stop.Interp) :
    ReturnsInHanded {} Tryz.checked os 6 .any ((OpenSpec.ofChange Rows.engineDrawsSpec).preRow enc Tryz.prog Tryz.f6 Rows.engineDrawsRow.domain false Rows.engineDrawsRow.laid) (((OpenSpec.ofChange Rows.engineDrawsSpec).at F).post enc Tryz.prog Tryz.f6 false true false false) := by
  obtain ⟨x, hx⟩ := Option.isSome_iff_exists.1 (reads os enc)
  refine returnsInHanded_of_row (C := Tryz.checked) (s := OpenSpec.ofChange Rows.engineDrawsSpec) own started (by kernel_rfl) Tryz.func6
    (witness_row_at (enc := enc) (C := Tryz.checked) false (laidWorld os) witA rfl (by kernel_rfl) (by kernel_rfl) (by kernel_rfl)
      (OpenSpec.preRow_of_cond 8 hx (by kernel_rfl) (fun k hk => by cases hk) (by kernel_rfl) (laid_met os))) ?_
  intro W base args ds gs before hval hW _ _ _ hL _ _
  exact contract H enc W base args ds gs before hval hW hL

theorem and_both {a b : Bool} (h1 : a = true) (h2 : b = true) : (a && b) = true := by rw [h1, h2]; rfl
theorem j0 : (Rows.engineDrawsRow.wf (OpenSpec.ofChange (OpenSpec.ofChange Rows.engineDrawsSpec).bare)) = true := by kernel_rfl
theorem j1 : (laidOutB Tryz.pinned.checked.prog) = true := by kernel_rfl
theorem j2 : (mapsRowed Tryz.pinned.checked.prog) = true := by kernel_rfl
theorem j3 : (Tryz.f6.params.all (Tryz.pinned.checked.prog.readableRec ·)) = true := by kernel_rfl
theorem j4 : (namedTie Tryz.pinned.checked.prog Rows.engineDrawsRow.named (OpenSpec.ofChange Rows.engineDrawsSpec).bare.vars) = true := by kernel_rfl
theorem j5 : (Rows.engineDrawsRow.inPlace == Tryz.pinned.checked.prog.inPlace 6) = true := by kernel_rfl
theorem j6 : (Rows.engineDrawsRow.unfollowed == Tryz.pinned.checked.prog.unfollowed 6) = true := by kernel_rfl
theorem j7 : (Rows.engineDrawsRow.recurses == Tryz.pinned.checked.prog.recurses 6) = true := by kernel_rfl
theorem j8 : (Rows.engineDrawsRow.named == Tryz.pinned.checked.prog.varsNamed 6) = true := by kernel_rfl
theorem j9 : (Rows.engineDrawsRow.maps == (Tryz.f6.params.toList ++ (OpenSpec.ofChange Rows.engineDrawsSpec).bare.plain.varTypes Tryz.pinned.checked.prog).any (Tryz.pinned.checked.prog.mapsRec ·)) = true := by kernel_rfl
theorem j10 : (Rows.engineDrawsRow.ifaces == (Tryz.f6.params.toList ++ (OpenSpec.ofChange Rows.engineDrawsSpec).bare.plain.varTypes Tryz.pinned.checked.prog).any (Tryz.pinned.checked.prog.ifacesRec ·)) = true := by kernel_rfl
theorem j11 : (Rows.engineDrawsRow.mapsOut == Tryz.pinned.checked.prog.mapsAmong Tryz.f6.resultTypes.toList) = true := by kernel_rfl
theorem j12 : (Rows.engineDrawsRow.loops == (Tryz.f6.params.toList ++ (OpenSpec.ofChange Rows.engineDrawsSpec).bare.plain.varTypes Tryz.pinned.checked.prog).any (Tryz.pinned.checked.prog.loopsFrom ·)) = true := by kernel_rfl
theorem j13 : (Rows.engineDrawsRow.wideKeys == (Tryz.f6.params.toList ++ (OpenSpec.ofChange Rows.engineDrawsSpec).bare.plain.varTypes Tryz.pinned.checked.prog ++ Tryz.f6.resultTypes.toList).any (Tryz.pinned.checked.prog.wideKeysFrom ·)) = true := by kernel_rfl
theorem j14 : (Rows.engineDrawsRow.plainKeys == Tryz.pinned.checked.prog.plainKeys) = true := by kernel_rfl
theorem j15 : (Tryz.pinned.checked.prog.stopsHeard) = true := by kernel_rfl
theorem j16 : (Tryz.pinned.checked.prog.mayEnter) = true := by kernel_rfl
theorem j17 : (Rows.engineDrawsRow.lifted == Tryz.pinned.checked.prog.liftsFinal) = true := by kernel_rfl
theorem j18 : (Tryz.pinned.checked.prog.make == some Rows.engineDrawsRow.make) = true := by kernel_rfl
theorem j19 : (Rows.engineDrawsRow.pinned == Rows.engineDrawsRow.pinnedBy) = true := by kernel_rfl
theorem closed : joinedFacts Tryz.pinned.checked.prog 6 Tryz.f6 (OpenSpec.ofChange Rows.engineDrawsSpec).bare Rows.engineDrawsRow = true := by
  unfold joinedFacts
  repeat' (with_reducible refine and_both ?_ ?_)
  all_goals first | with_reducible first | exact j0 | exact j1 | exact j2 | exact j3 | exact j4 | exact j5 | exact j6 | exact j7 | exact j8 | exact j9 | exact j10 | exact j11 | exact j12 | exact j13 | exact j14 | exact j15 | exact j16 | exact j17 | exact j18 | exact j19 | kernel_rfl

theorem said : Rows.EngineDrawsSaid :=
  OpenClaim.holds_of_cond 6 Tryz.f6 rfl rfl rfl rfl rfl rfl rfl ⟨rfl, rfl, rfl, rfl, rfl⟩ rfl rfl rfl rfl rfl (by kernel_rfl) Tryz.func6 closed
    (of_decide_eq_true (by kernel_rfl)) (by unfold Func.isWrapper; first | (rw [if_pos (by decide +kernel)]; kernel_rfl) | (rw [if_neg (by decide +kernel)]; exact ⟨rfl, rfl⟩))
    (fun os started H enc _ F => by rw [OpenClaim.pre_eq_preRow]; exact lifted os started H enc F)

theorem plain (f : FuncId) (fn : Func) (hf : Tryz.pinned.checked.prog.funcNamed "curtilage/curtilagelaw18.EngineDraws" = some f) (hfn : Tryz.pinned.checked.prog.funcs[f]? = some fn) :
    false = Tryz.pinned.checked.prog.looks [] ∧ ∀ (j : Nat) t, fn.params[j]? = some t → Tryz.pinned.checked.prog.wantsStandIn t = false := by
  obtain rfl : f = 6 := Option.some.inj ((show Tryz.prog.funcNamed "curtilage/curtilagelaw18.EngineDraws" = some 6 by kernel_rfl).symm.trans hf) |>.symm
  obtain rfl : fn = Tryz.f6 := (Option.some.inj (Tryz.func6.symm.trans hfn)).symm
  refine ⟨by kernel_rfl, fun j t ht => ?_⟩
  rw [Tryz.params6] at ht
  have hm := Array.mem_of_getElem? ht
  have hm2 : t = 43 ∨ t = 109 := by
    first | (simp at hm; omega) | (simp at hm; simp [hm]; done) | (simp at hm; rcases hm with h | h <;> simp [h]; done) | (simp at hm; rcases hm with h | h | h <;> simp [h]; done) | (simp at hm; rcases hm with h | h | h | h <;> simp [h]; done) | (simp at hm; rcases hm with h | h | h | h | h <;> simp [h]; done) | (simp at hm; rcases hm with h | h | h | h | h | h <;> simp [h]; done) | (simp at hm; rcases hm with h | h | h | h | h | h | h <;> simp [h]; done) | (simp at hm; rcases hm with h | h | h | h | h | h | h | h <;> simp [h]; done)
  rcases hm2 with rfl | rfl
  · exact (show Tryz.prog.wantsStandIn 43 = false by kernel_rfl)
  · exact (show Tryz.prog.wantsStandIn 109 = false by kernel_rfl)

theorem proved : Rows.EngineDrawsCardSaid :=
  Claim7.holds_tied_plain_at .later [] _ _ _ _ said (fun _ h => by cases h) (by kernel_rfl) (fun _ h => by cases h) engineDraws_row_tie rfl ⟨rfl, rfl⟩ (by kernel_rfl) rfl plain (by kernel_rfl)
#print axioms proved
end Go.Proofs.YtmiaabpnolebhaaGreatDoor.engineDraws
