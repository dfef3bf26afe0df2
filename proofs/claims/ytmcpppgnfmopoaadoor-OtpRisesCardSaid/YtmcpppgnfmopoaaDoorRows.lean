/-
  NARROWER THAN 'FOR EVERY INPUT', by the rows' own cells (each row's printed sentence says how): OtpCounts: laid · GrantLocks: laid · GrantPlaces: laid · GrantWays: laid · GrantChecks: laid · OtpRefuses: laid · OtpRises: laid.
  DERIVED. THE GIVEN ROWS OF THIS SEAT. 7 by the template 'for every input the law returns true; each argument reads behind the call as it read before'; 0 by the template 'total and deterministic' (their statements: YtmcpppgnfmopoaaDoorTotals.lean).
  GIVEN WITH THE SEED: the statements are not yours to turn. If you find one false, say at which input.
  Laid BY PROGRAM, IN A SANDBOX (cutbox-rows.mjs): the forced cells as the released guide's own fill.sh prints them over the translation 586f899b2788d775… (all of the seat's roots in one cut). By AI agents, Wed Nov 11 2026. No macro, syntax, notation, axiom, sorry.
-/
import Derived.Test.YtmcpppgnfmopoaaDoorChecked
import GoSem.Claim
import GoSem.ClaimJoined
import GoSem.ClaimMapViews
import Derived.JoinedTies
import Derived.KernelRfl
namespace Go.Proofs.YtmcpppgnfmopoaaDoor
/- THE CELL 'sum', in the pinned program and in every row, IS THE sha256 OF THE DUMP (.gsa) THAT YtmcpppgnfmopoaaDoorProg.lean LOADS. Nothing in Lean hashes anything: it is a label: what it is worth is what the hold of that sum in a sandbox is worth. -/
noncomputable def Tryd.pinned : Pinned := { name := "ytmcpppgnfmopoaadoor", sum := "586f899b2788d775438f59041eb36d6bfb386f89c0fa60c53bd94aebda14a896", checked := Tryd.checked }
namespace Rows
def none {H : Type} : Left H := { results := [], args := [] }

/- WHAT THE LISTED PACKAGE-LEVEL VARIABLES READ AS WHEN THE CALL BEGINS. Each datum BY PROGRAM (the guide's laid-datum.mjs) off the statement by which the dump's own 'gosem.cut.vars' lays the variable. In a bare row this is a premise. The card (YtmcpppgnfmopoaaDoorCards.lean) ties it to the program's text. -/
def laid_math_bits_deBruijn32tab {H : Type} : DataW H := .agg [.lit (.int .u8 0), .lit (.int .u8 1), .lit (.int .u8 28), .lit (.int .u8 2), .lit (.int .u8 29), .lit (.int .u8 14), .lit (.int .u8 24), .lit (.int .u8 3), .lit (.int .u8 30), .lit (.int .u8 22), .lit (.int .u8 20), .lit (.int .u8 15), .lit (.int .u8 25), .lit (.int .u8 17), .lit (.int .u8 4), .lit (.int .u8 8), .lit (.int .u8 31), .lit (.int .u8 27), .lit (.int .u8 13), .lit (.int .u8 23), .lit (.int .u8 21), .lit (.int .u8 19), .lit (.int .u8 16), .lit (.int .u8 7), .lit (.int .u8 26), .lit (.int .u8 12), .lit (.int .u8 18), .lit (.int .u8 6), .lit (.int .u8 11), .lit (.int .u8 5), .lit (.int .u8 10), .lit (.int .u8 9)]
def laid_curtilage_grant_spans {H : Type} : DataW H := .agg [.agg [.lit (.int .u32 0), .lit (.int .i64 0)], .agg [.lit (.int .u32 536870912), .lit (.int .i64 4096)], .agg [.lit (.int .u32 536875008), .lit (.int .i64 4096)], .agg [.lit (.int .u32 268435456), .lit (.int .i64 10240)], .agg [.lit (.int .u32 1073741824), .lit (.int .i64 64)], .agg [.lit (.int .u32 1610612736), .lit (.int .i64 256)]]

/-- 'curtilagelaw11.OtpCounts': WHATEVER THE INPUT: true; the input reads as it did. -/
def otpCountsSpec : ChangeSpec := { name := "otpCounts", fn := fun _ => fun
  | [d] => { results := [.lit (.bool true)], args := [d] }
  | _ => none }
def otpCountsRow : OpenClaim := { program := "ytmcpppgnfmopoaadoor", sum := "586f899b2788d775438f59041eb36d6bfb386f89c0fa60c53bd94aebda14a896", func := "curtilage/curtilagelaw11.OtpCounts", spec := "otpCounts", named := ["math/bits.deBruijn32tab"], plainKeys := false, apart := false, laid := [("math/bits.deBruijn32tab", laid_math_bits_deBruijn32tab)] }
def OtpCountsSaid : Prop := otpCountsRow.holds Tryd.pinned (OpenSpec.ofChange otpCountsSpec)

/-- ITS FALSE NEIGHBOUR: 'it returns false'. Refute it at one input. -/
def otpCountsWrong : ChangeSpec := { name := "otpCounts", fn := fun _ => fun
  | [d] => { results := [.lit (.bool false)], args := [d] }
  | _ => none }
def OtpCountsWrongFalsely : Prop := otpCountsRow.holds Tryd.pinned (OpenSpec.ofChange otpCountsWrong)

/-- 'curtilagelaw14.GrantLocks': WHATEVER THE INPUT: true; the input reads as it did. -/
def grantLocksSpec : ChangeSpec := { name := "grantLocks", fn := fun _ => fun
  | [d] => { results := [.lit (.bool true)], args := [d] }
  | _ => none }
def grantLocksRow : OpenClaim := { program := "ytmcpppgnfmopoaadoor", sum := "586f899b2788d775438f59041eb36d6bfb386f89c0fa60c53bd94aebda14a896", func := "curtilage/curtilagelaw14.GrantLocks", spec := "grantLocks", inPlace := ["internal/bytealg.IndexByteString", "internal/bytealg.IndexString"], named := ["curtilage/grant.spans", "internal/bytealg.MaxLen"], plainKeys := false, apart := false, laid := [("curtilage/grant.spans", laid_curtilage_grant_spans)] }
def GrantLocksSaid : Prop := grantLocksRow.holds Tryd.pinned (OpenSpec.ofChange grantLocksSpec)

/-- ITS FALSE NEIGHBOUR: 'it returns false'. Refute it at one input. -/
def grantLocksWrong : ChangeSpec := { name := "grantLocks", fn := fun _ => fun
  | [d] => { results := [.lit (.bool false)], args := [d] }
  | _ => none }
def GrantLocksWrongFalsely : Prop := grantLocksRow.holds Tryd.pinned (OpenSpec.ofChange grantLocksWrong)

/-- 'curtilagelaw14.GrantPlaces': WHATEVER THE INPUT: true; the input reads as it did. -/
def grantPlacesSpec : ChangeSpec := { name := "grantPlaces", fn := fun _ => fun
  | [d1, d2, d3, d4] => { results := [.lit (.bool true)], args := [d1, d2, d3, d4] }
  | _ => none }
def grantPlacesRow : OpenClaim := { program := "ytmcpppgnfmopoaadoor", sum := "586f899b2788d775438f59041eb36d6bfb386f89c0fa60c53bd94aebda14a896", func := "curtilage/curtilagelaw14.GrantPlaces", spec := "grantPlaces", inPlace := ["internal/bytealg.IndexByteString", "internal/bytealg.IndexString"], named := ["curtilage/grant.spans", "internal/bytealg.MaxLen"], plainKeys := false, apart := false, laid := [("curtilage/grant.spans", laid_curtilage_grant_spans)] }
def GrantPlacesSaid : Prop := grantPlacesRow.holds Tryd.pinned (OpenSpec.ofChange grantPlacesSpec)

/-- ITS FALSE NEIGHBOUR: 'it returns false'. Refute it at one input. -/
def grantPlacesWrong : ChangeSpec := { name := "grantPlaces", fn := fun _ => fun
  | [d1, d2, d3, d4] => { results := [.lit (.bool false)], args := [d1, d2, d3, d4] }
  | _ => none }
def GrantPlacesWrongFalsely : Prop := grantPlacesRow.holds Tryd.pinned (OpenSpec.ofChange grantPlacesWrong)

/-- 'curtilagelaw14.GrantWays': WHATEVER THE INPUT: true; the input reads as it did. -/
def grantWaysSpec : ChangeSpec := { name := "grantWays", fn := fun _ => fun
  | [d1, d2, d3] => { results := [.lit (.bool true)], args := [d1, d2, d3] }
  | _ => none }
def grantWaysRow : OpenClaim := { program := "ytmcpppgnfmopoaadoor", sum := "586f899b2788d775438f59041eb36d6bfb386f89c0fa60c53bd94aebda14a896", func := "curtilage/curtilagelaw14.GrantWays", spec := "grantWays", inPlace := ["internal/bytealg.IndexByteString", "internal/bytealg.IndexString"], named := ["curtilage/grant.spans", "internal/bytealg.MaxLen"], plainKeys := false, apart := false, laid := [("curtilage/grant.spans", laid_curtilage_grant_spans)] }
def GrantWaysSaid : Prop := grantWaysRow.holds Tryd.pinned (OpenSpec.ofChange grantWaysSpec)

/-- ITS FALSE NEIGHBOUR: 'it returns false'. Refute it at one input. -/
def grantWaysWrong : ChangeSpec := { name := "grantWays", fn := fun _ => fun
  | [d1, d2, d3] => { results := [.lit (.bool false)], args := [d1, d2, d3] }
  | _ => none }
def GrantWaysWrongFalsely : Prop := grantWaysRow.holds Tryd.pinned (OpenSpec.ofChange grantWaysWrong)

/-- 'curtilagelaw14.GrantChecks': WHATEVER THE INPUT: true; the input reads as it did. -/
def grantChecksSpec : ChangeSpec := { name := "grantChecks", fn := fun _ => fun
  | [d] => { results := [.lit (.bool true)], args := [d] }
  | _ => none }
def grantChecksRow : OpenClaim := { program := "ytmcpppgnfmopoaadoor", sum := "586f899b2788d775438f59041eb36d6bfb386f89c0fa60c53bd94aebda14a896", func := "curtilage/curtilagelaw14.GrantChecks", spec := "grantChecks", inPlace := ["internal/bytealg.IndexByteString", "internal/bytealg.IndexString"], unfollowed := true, recurses := true, named := ["curtilage/grant.spans", "internal/bytealg.MaxLen"], plainKeys := false, apart := false, laid := [("curtilage/grant.spans", laid_curtilage_grant_spans)] }
def GrantChecksSaid : Prop := grantChecksRow.holds Tryd.pinned (OpenSpec.ofChange grantChecksSpec)

/-- ITS FALSE NEIGHBOUR: 'it returns false'. Refute it at one input. -/
def grantChecksWrong : ChangeSpec := { name := "grantChecks", fn := fun _ => fun
  | [d] => { results := [.lit (.bool false)], args := [d] }
  | _ => none }
def GrantChecksWrongFalsely : Prop := grantChecksRow.holds Tryd.pinned (OpenSpec.ofChange grantChecksWrong)

/-- 'curtilagelaw11.OtpRefuses': WHATEVER THE INPUT: true; the input reads as it did. -/
def otpRefusesSpec : ChangeSpec := { name := "otpRefuses", fn := fun _ => fun
  | [d1, d2, d3] => { results := [.lit (.bool true)], args := [d1, d2, d3] }
  | _ => none }
def otpRefusesRow : OpenClaim := { program := "ytmcpppgnfmopoaadoor", sum := "586f899b2788d775438f59041eb36d6bfb386f89c0fa60c53bd94aebda14a896", func := "curtilage/curtilagelaw11.OtpRefuses", spec := "otpRefuses", named := ["math/bits.deBruijn32tab"], plainKeys := false, apart := false, laid := [("math/bits.deBruijn32tab", laid_math_bits_deBruijn32tab)] }
def OtpRefusesSaid : Prop := otpRefusesRow.holds Tryd.pinned (OpenSpec.ofChange otpRefusesSpec)

/-- ITS FALSE NEIGHBOUR: 'it returns false'. Refute it at one input. -/
def otpRefusesWrong : ChangeSpec := { name := "otpRefuses", fn := fun _ => fun
  | [d1, d2, d3] => { results := [.lit (.bool false)], args := [d1, d2, d3] }
  | _ => none }
def OtpRefusesWrongFalsely : Prop := otpRefusesRow.holds Tryd.pinned (OpenSpec.ofChange otpRefusesWrong)

/-- 'curtilagelaw11.OtpRises': WHATEVER THE INPUT: true; the input reads as it did. -/
def otpRisesSpec : ChangeSpec := { name := "otpRises", fn := fun _ => fun
  | [d1, d2, d3] => { results := [.lit (.bool true)], args := [d1, d2, d3] }
  | _ => none }
def otpRisesRow : OpenClaim := { program := "ytmcpppgnfmopoaadoor", sum := "586f899b2788d775438f59041eb36d6bfb386f89c0fa60c53bd94aebda14a896", func := "curtilage/curtilagelaw11.OtpRises", spec := "otpRises", named := ["math/bits.deBruijn32tab"], plainKeys := false, apart := false, laid := [("math/bits.deBruijn32tab", laid_math_bits_deBruijn32tab)] }
def OtpRisesSaid : Prop := otpRisesRow.holds Tryd.pinned (OpenSpec.ofChange otpRisesSpec)

/-- ITS FALSE NEIGHBOUR: 'it returns false'. Refute it at one input. -/
def otpRisesWrong : ChangeSpec := { name := "otpRises", fn := fun _ => fun
  | [d1, d2, d3] => { results := [.lit (.bool false)], args := [d1, d2, d3] }
  | _ => none }
def OtpRisesWrongFalsely : Prop := otpRisesRow.holds Tryd.pinned (OpenSpec.ofChange otpRisesWrong)

/- THE SECOND FORM. 'bulk': how many values and letters a reading holds, each counted each time it is reached (what is shared counts as often as it is met; a slice's spare places count too). A statement '..UptoSaid' is the law's where the arguments, and the package variables that the reading takes, are together of bulk at most 1048576: NARROWER than '..Said'. Prove '..Said' where nothing that the law and all that it calls make is longer than what came in: it says more and counts as full. Else prove '..UptoSaid'. A law counts once. -/
mutual
def uptoBulk {H : Type} : DataW H → Nat
  | .lit (.string bytes) => bytes.length + 1
  | .lit _ => 1
  | .nil => 1
  | .ptr d => uptoBulk d + 1
  | .slice elems spare => uptoBulkAll elems + uptoBulkAll spare + 1
  | .agg parts => uptoBulkAll parts + 1
  | .iface _ d => uptoBulk d + 1
  | .map entries => uptoBulkEntries entries + 1
  | .held _ => 1
def uptoBulkAll {H : Type} : List (DataW H) → Nat
  | [] => 0
  | d :: r => uptoBulk d + uptoBulkAll r
def uptoBulkEntries {H : Type} : List (Lit × DataW H) → Nat
  | [] => 0
  | x :: r => uptoBulkEntry x + uptoBulkEntries r
def uptoBulkEntry {H : Type} : Lit × DataW H → Nat
  | (.string bytes, d) => bytes.length + uptoBulk d + 1
  | (_, d) => uptoBulk d + 1
 end
def uptoSmall : (H : Type) → List (DataW H) → Bool := fun _ ds => decide (uptoBulkAll ds ≤ 1048576)
def OpenSpec.upto (s : _root_.Go.ChangeSpec) : _root_.Go.OpenSpec := { _root_.Go.OpenSpec.ofChange s with cond := some uptoSmall }

/-- 'curtilagelaw11.OtpCounts', WHERE WHAT IT READS IS OF BULK AT MOST 1048576: true; the input reads as it did. -/
def otpCountsUptoRow : OpenClaim := { program := "ytmcpppgnfmopoaadoor", sum := "586f899b2788d775438f59041eb36d6bfb386f89c0fa60c53bd94aebda14a896", func := "curtilage/curtilagelaw11.OtpCounts", spec := "otpCounts", named := ["math/bits.deBruijn32tab"], plainKeys := false, apart := false, laid := [("math/bits.deBruijn32tab", laid_math_bits_deBruijn32tab)], narrowed := true }
def OtpCountsUptoSaid : Prop := otpCountsUptoRow.holds Tryd.pinned (OpenSpec.upto otpCountsSpec)

/-- 'curtilagelaw14.GrantLocks', WHERE WHAT IT READS IS OF BULK AT MOST 1048576: true; the input reads as it did. -/
def grantLocksUptoRow : OpenClaim := { program := "ytmcpppgnfmopoaadoor", sum := "586f899b2788d775438f59041eb36d6bfb386f89c0fa60c53bd94aebda14a896", func := "curtilage/curtilagelaw14.GrantLocks", spec := "grantLocks", inPlace := ["internal/bytealg.IndexByteString", "internal/bytealg.IndexString"], named := ["curtilage/grant.spans", "internal/bytealg.MaxLen"], plainKeys := false, apart := false, laid := [("curtilage/grant.spans", laid_curtilage_grant_spans)], narrowed := true }
def GrantLocksUptoSaid : Prop := grantLocksUptoRow.holds Tryd.pinned (OpenSpec.upto grantLocksSpec)

/-- 'curtilagelaw14.GrantPlaces', WHERE WHAT IT READS IS OF BULK AT MOST 1048576: true; the input reads as it did. -/
def grantPlacesUptoRow : OpenClaim := { program := "ytmcpppgnfmopoaadoor", sum := "586f899b2788d775438f59041eb36d6bfb386f89c0fa60c53bd94aebda14a896", func := "curtilage/curtilagelaw14.GrantPlaces", spec := "grantPlaces", inPlace := ["internal/bytealg.IndexByteString", "internal/bytealg.IndexString"], named := ["curtilage/grant.spans", "internal/bytealg.MaxLen"], plainKeys := false, apart := false, laid := [("curtilage/grant.spans", laid_curtilage_grant_spans)], narrowed := true }
def GrantPlacesUptoSaid : Prop := grantPlacesUptoRow.holds Tryd.pinned (OpenSpec.upto grantPlacesSpec)

/-- 'curtilagelaw14.GrantWays', WHERE WHAT IT READS IS OF BULK AT MOST 1048576: true; the input reads as it did. -/
def grantWaysUptoRow : OpenClaim := { program := "ytmcpppgnfmopoaadoor", sum := "586f899b2788d775438f59041eb36d6bfb386f89c0fa60c53bd94aebda14a896", func := "curtilage/curtilagelaw14.GrantWays", spec := "grantWays", inPlace := ["internal/bytealg.IndexByteString", "internal/bytealg.IndexString"], named := ["curtilage/grant.spans", "internal/bytealg.MaxLen"], plainKeys := false, apart := false, laid := [("curtilage/grant.spans", laid_curtilage_grant_spans)], narrowed := true }
def GrantWaysUptoSaid : Prop := grantWaysUptoRow.holds Tryd.pinned (OpenSpec.upto grantWaysSpec)

/-- 'curtilagelaw14.GrantChecks', WHERE WHAT IT READS IS OF BULK AT MOST 1048576: true; the input reads as it did. -/
def grantChecksUptoRow : OpenClaim := { program := "ytmcpppgnfmopoaadoor", sum := "586f899b2788d775438f59041eb36d6bfb386f89c0fa60c53bd94aebda14a896", func := "curtilage/curtilagelaw14.GrantChecks", spec := "grantChecks", inPlace := ["internal/bytealg.IndexByteString", "internal/bytealg.IndexString"], unfollowed := true, recurses := true, named := ["curtilage/grant.spans", "internal/bytealg.MaxLen"], plainKeys := false, apart := false, laid := [("curtilage/grant.spans", laid_curtilage_grant_spans)], narrowed := true }
def GrantChecksUptoSaid : Prop := grantChecksUptoRow.holds Tryd.pinned (OpenSpec.upto grantChecksSpec)

/-- 'curtilagelaw11.OtpRefuses', WHERE WHAT IT READS IS OF BULK AT MOST 1048576: true; the input reads as it did. -/
def otpRefusesUptoRow : OpenClaim := { program := "ytmcpppgnfmopoaadoor", sum := "586f899b2788d775438f59041eb36d6bfb386f89c0fa60c53bd94aebda14a896", func := "curtilage/curtilagelaw11.OtpRefuses", spec := "otpRefuses", named := ["math/bits.deBruijn32tab"], plainKeys := false, apart := false, laid := [("math/bits.deBruijn32tab", laid_math_bits_deBruijn32tab)], narrowed := true }
def OtpRefusesUptoSaid : Prop := otpRefusesUptoRow.holds Tryd.pinned (OpenSpec.upto otpRefusesSpec)

/-- 'curtilagelaw11.OtpRises', WHERE WHAT IT READS IS OF BULK AT MOST 1048576: true; the input reads as it did. -/
def otpRisesUptoRow : OpenClaim := { program := "ytmcpppgnfmopoaadoor", sum := "586f899b2788d775438f59041eb36d6bfb386f89c0fa60c53bd94aebda14a896", func := "curtilage/curtilagelaw11.OtpRises", spec := "otpRises", named := ["math/bits.deBruijn32tab"], plainKeys := false, apart := false, laid := [("math/bits.deBruijn32tab", laid_math_bits_deBruijn32tab)], narrowed := true }
def OtpRisesUptoSaid : Prop := otpRisesUptoRow.holds Tryd.pinned (OpenSpec.upto otpRisesSpec)

end Rows
end Go.Proofs.YtmcpppgnfmopoaaDoor
