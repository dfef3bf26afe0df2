/-
  NARROWER THAN 'FOR EVERY INPUT', by the rows' own cells (each row's printed sentence says how): CoreHeld: laid · CoreRuns: laid · CoreTraps: laid · CoreTimer: laid · CoreAdds: laid.
  DERIVED. THE GIVEN ROWS OF THIS SEAT. 5 by the template 'for every input the law returns true; each argument reads behind the call as it read before'; 0 by the template 'total and deterministic' (their statements: YtfiojpdkbckopaaDoorTotals.lean).
  GIVEN WITH THE SEED: the statements are not yours to turn. If you find one false, say at which input.
  Laid BY PROGRAM, IN A SANDBOX (cutbox-rows.mjs): the forced cells as the released guide's own fill.sh prints them over the translation ba19742a739cb6c3… (all of the seat's roots in one cut). By AI agents, Wed Nov 11 2026. No macro, syntax, notation, axiom, sorry.
-/
import Derived.Test.YtfiojpdkbckopaaDoorChecked
import GoSem.Claim
import GoSem.ClaimJoined
import GoSem.ClaimMapViews
import Derived.JoinedTies
import Derived.KernelRfl
namespace Go.Proofs.YtfiojpdkbckopaaDoor
/- THE CELL 'sum', in the pinned program and in every row, IS THE sha256 OF THE DUMP (.gsa) THAT YtfiojpdkbckopaaDoorProg.lean LOADS. Nothing in Lean hashes anything: it is a label: what it is worth is what the hold of that sum in a sandbox is worth. -/
noncomputable def Tryd.pinned : Pinned := { name := "ytfiojpdkbckopaadoor", sum := "ba19742a739cb6c3b3ca2a52fcf95e012577edf053acabbd3be4604632ab66a3", checked := Tryd.checked }
namespace Rows
def none {H : Type} : Left H := { results := [], args := [] }

/- WHAT THE LISTED PACKAGE-LEVEL VARIABLES READ AS WHEN THE CALL BEGINS. Each datum BY PROGRAM (the guide's laid-datum.mjs) off the statement by which the dump's own 'gosem.cut.vars' lays the variable. In a bare row this is a premise. The card (YtfiojpdkbckopaaDoorCards.lean) ties it to the program's text. -/
def laid_curtilage_grant_spans {H : Type} : DataW H := .agg [.agg [.lit (.int .u32 0), .lit (.int .i64 0)], .agg [.lit (.int .u32 536870912), .lit (.int .i64 4096)], .agg [.lit (.int .u32 536875008), .lit (.int .i64 4096)], .agg [.lit (.int .u32 268435456), .lit (.int .i64 10240)], .agg [.lit (.int .u32 1073741824), .lit (.int .i64 64)], .agg [.lit (.int .u32 1610612736), .lit (.int .i64 256)]]

/-- 'curtilagelaw20.CoreHeld': WHATEVER THE INPUT: true; the input reads as it did. -/
def coreHeldSpec : ChangeSpec := { name := "coreHeld", fn := fun _ => fun
  | [d1, d2, d3] => { results := [.lit (.bool true)], args := [d1, d2, d3] }
  | _ => none }
def coreHeldRow : OpenClaim := { program := "ytfiojpdkbckopaadoor", sum := "ba19742a739cb6c3b3ca2a52fcf95e012577edf053acabbd3be4604632ab66a3", func := "curtilage/curtilagelaw20.CoreHeld", spec := "coreHeld", inPlace := ["internal/bytealg.MakeNoZero", "internal/bytealg.IndexByteString", "internal/bytealg.IndexString"], named := ["curtilage/grant.spans", "internal/bytealg.MaxLen"], plainKeys := false, apart := false, laid := [("curtilage/grant.spans", laid_curtilage_grant_spans)] }
def CoreHeldSaid : Prop := coreHeldRow.holds Tryd.pinned (OpenSpec.ofChange coreHeldSpec)

/-- ITS FALSE NEIGHBOUR: 'it returns false'. Refute it at one input. -/
def coreHeldWrong : ChangeSpec := { name := "coreHeld", fn := fun _ => fun
  | [d1, d2, d3] => { results := [.lit (.bool false)], args := [d1, d2, d3] }
  | _ => none }
def CoreHeldWrongFalsely : Prop := coreHeldRow.holds Tryd.pinned (OpenSpec.ofChange coreHeldWrong)

/-- 'curtilagelaw20.CoreRuns': WHATEVER THE INPUT: true; the input reads as it did. -/
def coreRunsSpec : ChangeSpec := { name := "coreRuns", fn := fun _ => fun
  | [d1, d2, d3] => { results := [.lit (.bool true)], args := [d1, d2, d3] }
  | _ => none }
def coreRunsRow : OpenClaim := { program := "ytfiojpdkbckopaadoor", sum := "ba19742a739cb6c3b3ca2a52fcf95e012577edf053acabbd3be4604632ab66a3", func := "curtilage/curtilagelaw20.CoreRuns", spec := "coreRuns", inPlace := ["internal/bytealg.MakeNoZero", "internal/bytealg.IndexByteString", "internal/bytealg.IndexString"], named := ["curtilage/grant.spans", "internal/bytealg.MaxLen"], plainKeys := false, apart := false, laid := [("curtilage/grant.spans", laid_curtilage_grant_spans)] }
def CoreRunsSaid : Prop := coreRunsRow.holds Tryd.pinned (OpenSpec.ofChange coreRunsSpec)

/-- ITS FALSE NEIGHBOUR: 'it returns false'. Refute it at one input. -/
def coreRunsWrong : ChangeSpec := { name := "coreRuns", fn := fun _ => fun
  | [d1, d2, d3] => { results := [.lit (.bool false)], args := [d1, d2, d3] }
  | _ => none }
def CoreRunsWrongFalsely : Prop := coreRunsRow.holds Tryd.pinned (OpenSpec.ofChange coreRunsWrong)

/-- 'curtilagelaw20.CoreTraps': WHATEVER THE INPUT: true; the input reads as it did. -/
def coreTrapsSpec : ChangeSpec := { name := "coreTraps", fn := fun _ => fun
  | [d1, d2, d3, d4] => { results := [.lit (.bool true)], args := [d1, d2, d3, d4] }
  | _ => none }
def coreTrapsRow : OpenClaim := { program := "ytfiojpdkbckopaadoor", sum := "ba19742a739cb6c3b3ca2a52fcf95e012577edf053acabbd3be4604632ab66a3", func := "curtilage/curtilagelaw20.CoreTraps", spec := "coreTraps", inPlace := ["internal/bytealg.MakeNoZero", "internal/bytealg.IndexByteString", "internal/bytealg.IndexString"], named := ["curtilage/grant.spans", "internal/bytealg.MaxLen"], plainKeys := false, apart := false, laid := [("curtilage/grant.spans", laid_curtilage_grant_spans)] }
def CoreTrapsSaid : Prop := coreTrapsRow.holds Tryd.pinned (OpenSpec.ofChange coreTrapsSpec)

/-- ITS FALSE NEIGHBOUR: 'it returns false'. Refute it at one input. -/
def coreTrapsWrong : ChangeSpec := { name := "coreTraps", fn := fun _ => fun
  | [d1, d2, d3, d4] => { results := [.lit (.bool false)], args := [d1, d2, d3, d4] }
  | _ => none }
def CoreTrapsWrongFalsely : Prop := coreTrapsRow.holds Tryd.pinned (OpenSpec.ofChange coreTrapsWrong)

/-- 'curtilagelaw20.CoreTimer': WHATEVER THE INPUT: true; the input reads as it did. -/
def coreTimerSpec : ChangeSpec := { name := "coreTimer", fn := fun _ => fun
  | [d1, d2, d3, d4] => { results := [.lit (.bool true)], args := [d1, d2, d3, d4] }
  | _ => none }
def coreTimerRow : OpenClaim := { program := "ytfiojpdkbckopaadoor", sum := "ba19742a739cb6c3b3ca2a52fcf95e012577edf053acabbd3be4604632ab66a3", func := "curtilage/curtilagelaw20.CoreTimer", spec := "coreTimer", inPlace := ["internal/bytealg.MakeNoZero", "internal/bytealg.IndexByteString", "internal/bytealg.IndexString"], named := ["curtilage/grant.spans", "internal/bytealg.MaxLen"], plainKeys := false, apart := false, laid := [("curtilage/grant.spans", laid_curtilage_grant_spans)] }
def CoreTimerSaid : Prop := coreTimerRow.holds Tryd.pinned (OpenSpec.ofChange coreTimerSpec)

/-- ITS FALSE NEIGHBOUR: 'it returns false'. Refute it at one input. -/
def coreTimerWrong : ChangeSpec := { name := "coreTimer", fn := fun _ => fun
  | [d1, d2, d3, d4] => { results := [.lit (.bool false)], args := [d1, d2, d3, d4] }
  | _ => none }
def CoreTimerWrongFalsely : Prop := coreTimerRow.holds Tryd.pinned (OpenSpec.ofChange coreTimerWrong)

/-- 'curtilagelaw20.CoreAdds': WHATEVER THE INPUT: true; the input reads as it did. -/
def coreAddsSpec : ChangeSpec := { name := "coreAdds", fn := fun _ => fun
  | [d1, d2] => { results := [.lit (.bool true)], args := [d1, d2] }
  | _ => none }
def coreAddsRow : OpenClaim := { program := "ytfiojpdkbckopaadoor", sum := "ba19742a739cb6c3b3ca2a52fcf95e012577edf053acabbd3be4604632ab66a3", func := "curtilage/curtilagelaw20.CoreAdds", spec := "coreAdds", inPlace := ["internal/bytealg.MakeNoZero", "internal/bytealg.IndexByteString", "internal/bytealg.IndexString"], named := ["curtilage/grant.spans", "internal/bytealg.MaxLen"], plainKeys := false, apart := false, laid := [("curtilage/grant.spans", laid_curtilage_grant_spans)] }
def CoreAddsSaid : Prop := coreAddsRow.holds Tryd.pinned (OpenSpec.ofChange coreAddsSpec)

/-- ITS FALSE NEIGHBOUR: 'it returns false'. Refute it at one input. -/
def coreAddsWrong : ChangeSpec := { name := "coreAdds", fn := fun _ => fun
  | [d1, d2] => { results := [.lit (.bool false)], args := [d1, d2] }
  | _ => none }
def CoreAddsWrongFalsely : Prop := coreAddsRow.holds Tryd.pinned (OpenSpec.ofChange coreAddsWrong)

/- THE SECOND FORM. 'bulk': how many values and letters a reading holds, each counted each time it is reached (what is shared counts as often as it is met; a slice's spare places count too). A statement '..UptoSaid' is the law's where the arguments, and the package variables that the reading takes, are together of bulk at most 1048576: NARROWER than '..Said'. Prove '..Said' where nothing that the law and all that it calls make is longer than what came in: it says more and counts as full. Else prove '..UptoSaid'. A law counts once. -/
mutual
def uptoBulk {H : Type} : DataW H → Nat
  | .lit (.string bytes) => bytes.length + 1
  | .lit _ => 1
  | .nil => 1
  | .ptr d => uptoBulk d + 1
  | .slice elems spare => uptoBulkAll elems + uptoBulkAll spare + 1
  | .agg parts => uptoBulkAll parts + 1
  | .iface _ d => uptoBulk d + 1
  | .map entries => uptoBulkEntries entries + 1
  | .held _ => 1
def uptoBulkAll {H : Type} : List (DataW H) → Nat
  | [] => 0
  | d :: r => uptoBulk d + uptoBulkAll r
def uptoBulkEntries {H : Type} : List (Lit × DataW H) → Nat
  | [] => 0
  | x :: r => uptoBulkEntry x + uptoBulkEntries r
def uptoBulkEntry {H : Type} : Lit × DataW H → Nat
  | (.string bytes, d) => bytes.length + uptoBulk d + 1
  | (_, d) => uptoBulk d + 1
 end
def uptoSmall : (H : Type) → List (DataW H) → Bool := fun _ ds => decide (uptoBulkAll ds ≤ 1048576)
def OpenSpec.upto (s : _root_.Go.ChangeSpec) : _root_.Go.OpenSpec := { _root_.Go.OpenSpec.ofChange s with cond := some uptoSmall }

/-- 'curtilagelaw20.CoreHeld', WHERE WHAT IT READS IS OF BULK AT MOST 1048576: true; the input reads as it did. -/
def coreHeldUptoRow : OpenClaim := { program := "ytfiojpdkbckopaadoor", sum := "ba19742a739cb6c3b3ca2a52fcf95e012577edf053acabbd3be4604632ab66a3", func := "curtilage/curtilagelaw20.CoreHeld", spec := "coreHeld", inPlace := ["internal/bytealg.MakeNoZero", "internal/bytealg.IndexByteString", "internal/bytealg.IndexString"], named := ["curtilage/grant.spans", "internal/bytealg.MaxLen"], plainKeys := false, apart := false, laid := [("curtilage/grant.spans", laid_curtilage_grant_spans)], narrowed := true }
def CoreHeldUptoSaid : Prop := coreHeldUptoRow.holds Tryd.pinned (OpenSpec.upto coreHeldSpec)

/-- 'curtilagelaw20.CoreRuns', WHERE WHAT IT READS IS OF BULK AT MOST 1048576: true; the input reads as it did. -/
def coreRunsUptoRow : OpenClaim := { program := "ytfiojpdkbckopaadoor", sum := "ba19742a739cb6c3b3ca2a52fcf95e012577edf053acabbd3be4604632ab66a3", func := "curtilage/curtilagelaw20.CoreRuns", spec := "coreRuns", inPlace := ["internal/bytealg.MakeNoZero", "internal/bytealg.IndexByteString", "internal/bytealg.IndexString"], named := ["curtilage/grant.spans", "internal/bytealg.MaxLen"], plainKeys := false, apart := false, laid := [("curtilage/grant.spans", laid_curtilage_grant_spans)], narrowed := true }
def CoreRunsUptoSaid : Prop := coreRunsUptoRow.holds Tryd.pinned (OpenSpec.upto coreRunsSpec)

/-- 'curtilagelaw20.CoreTraps', WHERE WHAT IT READS IS OF BULK AT MOST 1048576: true; the input reads as it did. -/
def coreTrapsUptoRow : OpenClaim := { program := "ytfiojpdkbckopaadoor", sum := "ba19742a739cb6c3b3ca2a52fcf95e012577edf053acabbd3be4604632ab66a3", func := "curtilage/curtilagelaw20.CoreTraps", spec := "coreTraps", inPlace := ["internal/bytealg.MakeNoZero", "internal/bytealg.IndexByteString", "internal/bytealg.IndexString"], named := ["curtilage/grant.spans", "internal/bytealg.MaxLen"], plainKeys := false, apart := false, laid := [("curtilage/grant.spans", laid_curtilage_grant_spans)], narrowed := true }
def CoreTrapsUptoSaid : Prop := coreTrapsUptoRow.holds Tryd.pinned (OpenSpec.upto coreTrapsSpec)

/-- 'curtilagelaw20.CoreTimer', WHERE WHAT IT READS IS OF BULK AT MOST 1048576: true; the input reads as it did. -/
def coreTimerUptoRow : OpenClaim := { program := "ytfiojpdkbckopaadoor", sum := "ba19742a739cb6c3b3ca2a52fcf95e012577edf053acabbd3be4604632ab66a3", func := "curtilage/curtilagelaw20.CoreTimer", spec := "coreTimer", inPlace := ["internal/bytealg.MakeNoZero", "internal/bytealg.IndexByteString", "internal/bytealg.IndexString"], named := ["curtilage/grant.spans", "internal/bytealg.MaxLen"], plainKeys := false, apart := false, laid := [("curtilage/grant.spans", laid_curtilage_grant_spans)], narrowed := true }
def CoreTimerUptoSaid : Prop := coreTimerUptoRow.holds Tryd.pinned (OpenSpec.upto coreTimerSpec)

/-- 'curtilagelaw20.CoreAdds', WHERE WHAT IT READS IS OF BULK AT MOST 1048576: true; the input reads as it did. -/
def coreAddsUptoRow : OpenClaim := { program := "ytfiojpdkbckopaadoor", sum := "ba19742a739cb6c3b3ca2a52fcf95e012577edf053acabbd3be4604632ab66a3", func := "curtilage/curtilagelaw20.CoreAdds", spec := "coreAdds", inPlace := ["internal/bytealg.MakeNoZero", "internal/bytealg.IndexByteString", "internal/bytealg.IndexString"], named := ["curtilage/grant.spans", "internal/bytealg.MaxLen"], plainKeys := false, apart := false, laid := [("curtilage/grant.spans", laid_curtilage_grant_spans)], narrowed := true }
def CoreAddsUptoSaid : Prop := coreAddsUptoRow.holds Tryd.pinned (OpenSpec.upto coreAddsSpec)

end Rows
end Go.Proofs.YtfiojpdkbckopaaDoor
