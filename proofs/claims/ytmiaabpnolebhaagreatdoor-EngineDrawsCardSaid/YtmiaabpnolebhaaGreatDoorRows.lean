/-
  NARROWER THAN 'FOR EVERY INPUT', by the rows' own cells (each row's printed sentence says how): ChooseLooks: laid · CoreOne: laid · ChooseAll: laid · EngineDraws: laid · EngineBack: laid · EngineDoes: laid.
  DERIVED. THE GIVEN ROWS OF THIS SEAT. 6 by the template 'for every input the law returns true; each argument reads behind the call as it read before'; 0 by the template 'total and deterministic' (their statements: YtmiaabpnolebhaaGreatDoorTotals.lean).
  GIVEN WITH THE SEED: the statements are not yours to turn. If you find one false, say at which input.
  Laid BY PROGRAM, IN A SANDBOX (cutbox-rows.mjs): the forced cells as the released guide's own fill.sh prints them over the translation cdaa0b7fd34371a2… (all of the seat's roots in one cut). By AI agents, Wed Nov 11 2026. No macro, syntax, notation, axiom, sorry.
-/
import Derived.Test.YtmiaabpnolebhaaGreatDoorChecked
import GoSem.Claim
import GoSem.ClaimJoined
import GoSem.ClaimMapViews
import Derived.JoinedTies
import Derived.KernelRfl
namespace Go.Proofs.YtmiaabpnolebhaaGreatDoor
/- THE CELL 'sum', in the pinned program and in every row, IS THE sha256 OF THE DUMP (.gsa) THAT YtmiaabpnolebhaaGreatDoorProg.lean LOADS. Nothing in Lean hashes anything: it is a label: what it is worth is what the hold of that sum in a sandbox is worth. -/
noncomputable def Tryz.pinned : Pinned := { name := "ytmiaabpnolebhaagreatdoor", sum := "cdaa0b7fd34371a269abbefd35f5196ec573b02f648ca48a5ed5fe27983f6d2b", checked := Tryz.checked }
namespace Rows
def none {H : Type} : Left H := { results := [], args := [] }

/- WHAT THE LISTED PACKAGE-LEVEL VARIABLES READ AS WHEN THE CALL BEGINS. Each datum BY PROGRAM (the guide's laid-datum.mjs) off the statement by which the dump's own 'gosem.cut.vars' lays the variable. In a bare row this is a premise. The card (YtmiaabpnolebhaaGreatDoorCards.lean) ties it to the program's text. -/
def laid_math_bits_deBruijn32tab {H : Type} : DataW H := .agg [.lit (.int .u8 0), .lit (.int .u8 1), .lit (.int .u8 28), .lit (.int .u8 2), .lit (.int .u8 29), .lit (.int .u8 14), .lit (.int .u8 24), .lit (.int .u8 3), .lit (.int .u8 30), .lit (.int .u8 22), .lit (.int .u8 20), .lit (.int .u8 15), .lit (.int .u8 25), .lit (.int .u8 17), .lit (.int .u8 4), .lit (.int .u8 8), .lit (.int .u8 31), .lit (.int .u8 27), .lit (.int .u8 13), .lit (.int .u8 23), .lit (.int .u8 21), .lit (.int .u8 19), .lit (.int .u8 16), .lit (.int .u8 7), .lit (.int .u8 26), .lit (.int .u8 12), .lit (.int .u8 18), .lit (.int .u8 6), .lit (.int .u8 11), .lit (.int .u8 5), .lit (.int .u8 10), .lit (.int .u8 9)]
def laid_curtilage_sha_first {H : Type} : DataW H := .agg [.lit (.int .u32 1779033703), .lit (.int .u32 3144134277), .lit (.int .u32 1013904242), .lit (.int .u32 2773480762), .lit (.int .u32 1359893119), .lit (.int .u32 2600822924), .lit (.int .u32 528734635), .lit (.int .u32 1541459225)]
def laid_curtilage_sha_rounds {H : Type} : DataW H := .agg [.lit (.int .u32 1116352408), .lit (.int .u32 1899447441), .lit (.int .u32 3049323471), .lit (.int .u32 3921009573), .lit (.int .u32 961987163), .lit (.int .u32 1508970993), .lit (.int .u32 2453635748), .lit (.int .u32 2870763221), .lit (.int .u32 3624381080), .lit (.int .u32 310598401), .lit (.int .u32 607225278), .lit (.int .u32 1426881987), .lit (.int .u32 1925078388), .lit (.int .u32 2162078206), .lit (.int .u32 2614888103), .lit (.int .u32 3248222580), .lit (.int .u32 3835390401), .lit (.int .u32 4022224774), .lit (.int .u32 264347078), .lit (.int .u32 604807628), .lit (.int .u32 770255983), .lit (.int .u32 1249150122), .lit (.int .u32 1555081692), .lit (.int .u32 1996064986), .lit (.int .u32 2554220882), .lit (.int .u32 2821834349), .lit (.int .u32 2952996808), .lit (.int .u32 3210313671), .lit (.int .u32 3336571891), .lit (.int .u32 3584528711), .lit (.int .u32 113926993), .lit (.int .u32 338241895), .lit (.int .u32 666307205), .lit (.int .u32 773529912), .lit (.int .u32 1294757372), .lit (.int .u32 1396182291), .lit (.int .u32 1695183700), .lit (.int .u32 1986661051), .lit (.int .u32 2177026350), .lit (.int .u32 2456956037), .lit (.int .u32 2730485921), .lit (.int .u32 2820302411), .lit (.int .u32 3259730800), .lit (.int .u32 3345764771), .lit (.int .u32 3516065817), .lit (.int .u32 3600352804), .lit (.int .u32 4094571909), .lit (.int .u32 275423344), .lit (.int .u32 430227734), .lit (.int .u32 506948616), .lit (.int .u32 659060556), .lit (.int .u32 883997877), .lit (.int .u32 958139571), .lit (.int .u32 1322822218), .lit (.int .u32 1537002063), .lit (.int .u32 1747873779), .lit (.int .u32 1955562222), .lit (.int .u32 2024104815), .lit (.int .u32 2227730452), .lit (.int .u32 2361852424), .lit (.int .u32 2428436474), .lit (.int .u32 2756734187), .lit (.int .u32 3204031479), .lit (.int .u32 3329325298)]
def laid_curtilage_ots_types {H : Type} : DataW H := .agg [.agg [.lit (.int .i64 1), .lit (.int .i64 265), .lit (.int .i64 7)], .agg [.lit (.int .i64 2), .lit (.int .i64 133), .lit (.int .i64 6)], .agg [.lit (.int .i64 4), .lit (.int .i64 67), .lit (.int .i64 4)], .agg [.lit (.int .i64 8), .lit (.int .i64 34), .lit (.int .i64 0)]]
def laid_curtilage_grant_spans {H : Type} : DataW H := .agg [.agg [.lit (.int .u32 0), .lit (.int .i64 0)], .agg [.lit (.int .u32 536870912), .lit (.int .i64 4096)], .agg [.lit (.int .u32 536875008), .lit (.int .i64 4096)], .agg [.lit (.int .u32 268435456), .lit (.int .i64 10240)], .agg [.lit (.int .u32 1073741824), .lit (.int .i64 64)], .agg [.lit (.int .u32 1610612736), .lit (.int .i64 256)]]
def laid_bytes_ErrTooLarge {H : Type} : DataW H := .iface "*errors.errorString" (.ptr (.agg [.lit (.string [98, 121, 116, 101, 115, 46, 66, 117, 102, 102, 101, 114, 58, 32, 116, 111, 111, 32, 108, 97, 114, 103, 101])]))

/-- 'curtilagelaw23.ChooseLooks': WHATEVER THE INPUT: true; the input reads as it did. -/
def chooseLooksSpec : ChangeSpec := { name := "chooseLooks", fn := fun _ => fun
  | [d1, d2, d3, d4, d5, d6, d7, d8] => { results := [.lit (.bool true)], args := [d1, d2, d3, d4, d5, d6, d7, d8] }
  | _ => none }
def chooseLooksRow : OpenClaim := { program := "ytmiaabpnolebhaagreatdoor", sum := "cdaa0b7fd34371a269abbefd35f5196ec573b02f648ca48a5ed5fe27983f6d2b", func := "curtilage/curtilagelaw23.ChooseLooks", spec := "chooseLooks", inPlace := ["internal/bytealg.MakeNoZero"], unfollowed := true, recurses := true, named := ["curtilage/ots.types", "curtilage/sha.first", "curtilage/sha.rounds", "math/bits.deBruijn32tab"], plainKeys := false, apart := false, laid := [("math/bits.deBruijn32tab", laid_math_bits_deBruijn32tab), ("curtilage/sha.first", laid_curtilage_sha_first), ("curtilage/sha.rounds", laid_curtilage_sha_rounds), ("curtilage/ots.types", laid_curtilage_ots_types)] }
def ChooseLooksSaid : Prop := chooseLooksRow.holds Tryz.pinned (OpenSpec.ofChange chooseLooksSpec)

/-- ITS FALSE NEIGHBOUR: 'it returns false'. Refute it at one input. -/
def chooseLooksWrong : ChangeSpec := { name := "chooseLooks", fn := fun _ => fun
  | [d1, d2, d3, d4, d5, d6, d7, d8] => { results := [.lit (.bool false)], args := [d1, d2, d3, d4, d5, d6, d7, d8] }
  | _ => none }
def ChooseLooksWrongFalsely : Prop := chooseLooksRow.holds Tryz.pinned (OpenSpec.ofChange chooseLooksWrong)

/-- 'curtilagelaw20.CoreOne': WHATEVER THE INPUT: true; the input reads as it did. -/
def coreOneSpec : ChangeSpec := { name := "coreOne", fn := fun _ => fun
  | [d1, d2, d3, d4, d5, d6] => { results := [.lit (.bool true)], args := [d1, d2, d3, d4, d5, d6] }
  | _ => none }
def coreOneRow : OpenClaim := { program := "ytmiaabpnolebhaagreatdoor", sum := "cdaa0b7fd34371a269abbefd35f5196ec573b02f648ca48a5ed5fe27983f6d2b", func := "curtilage/curtilagelaw20.CoreOne", spec := "coreOne", inPlace := ["internal/bytealg.MakeNoZero", "internal/bytealg.IndexByteString", "internal/bytealg.IndexString"], named := ["curtilage/grant.spans", "internal/bytealg.MaxLen"], plainKeys := false, apart := false, laid := [("curtilage/grant.spans", laid_curtilage_grant_spans)] }
def CoreOneSaid : Prop := coreOneRow.holds Tryz.pinned (OpenSpec.ofChange coreOneSpec)

/-- ITS FALSE NEIGHBOUR: 'it returns false'. Refute it at one input. -/
def coreOneWrong : ChangeSpec := { name := "coreOne", fn := fun _ => fun
  | [d1, d2, d3, d4, d5, d6] => { results := [.lit (.bool false)], args := [d1, d2, d3, d4, d5, d6] }
  | _ => none }
def CoreOneWrongFalsely : Prop := coreOneRow.holds Tryz.pinned (OpenSpec.ofChange coreOneWrong)

/-- 'curtilagelaw23.ChooseAll': WHATEVER THE INPUT: true; the input reads as it did. -/
def chooseAllSpec : ChangeSpec := { name := "chooseAll", fn := fun _ => fun
  | [d1, d2, d3, d4, d5, d6] => { results := [.lit (.bool true)], args := [d1, d2, d3, d4, d5, d6] }
  | _ => none }
def chooseAllRow : OpenClaim := { program := "ytmiaabpnolebhaagreatdoor", sum := "cdaa0b7fd34371a269abbefd35f5196ec573b02f648ca48a5ed5fe27983f6d2b", func := "curtilage/curtilagelaw23.ChooseAll", spec := "chooseAll", inPlace := ["internal/bytealg.MakeNoZero"], unfollowed := true, recurses := true, named := ["curtilage/ots.types", "curtilage/sha.first", "curtilage/sha.rounds", "math/bits.deBruijn32tab"], plainKeys := false, apart := false, laid := [("math/bits.deBruijn32tab", laid_math_bits_deBruijn32tab), ("curtilage/sha.first", laid_curtilage_sha_first), ("curtilage/sha.rounds", laid_curtilage_sha_rounds), ("curtilage/ots.types", laid_curtilage_ots_types)] }
def ChooseAllSaid : Prop := chooseAllRow.holds Tryz.pinned (OpenSpec.ofChange chooseAllSpec)

/-- ITS FALSE NEIGHBOUR: 'it returns false'. Refute it at one input. -/
def chooseAllWrong : ChangeSpec := { name := "chooseAll", fn := fun _ => fun
  | [d1, d2, d3, d4, d5, d6] => { results := [.lit (.bool false)], args := [d1, d2, d3, d4, d5, d6] }
  | _ => none }
def ChooseAllWrongFalsely : Prop := chooseAllRow.holds Tryz.pinned (OpenSpec.ofChange chooseAllWrong)

/-- 'curtilagelaw18.EngineDraws': WHATEVER THE INPUT: true; the input reads as it did. -/
def engineDrawsSpec : ChangeSpec := { name := "engineDraws", fn := fun _ => fun
  | [d1, d2] => { results := [.lit (.bool true)], args := [d1, d2] }
  | _ => none }
def engineDrawsRow : OpenClaim := { program := "ytmiaabpnolebhaagreatdoor", sum := "cdaa0b7fd34371a269abbefd35f5196ec573b02f648ca48a5ed5fe27983f6d2b", func := "curtilage/curtilagelaw18.EngineDraws", spec := "engineDraws", inPlace := ["internal/bytealg.MakeNoZero", "internal/bytealg.IndexByteString", "internal/bytealg.IndexString"], named := ["curtilage/grant.spans", "internal/bytealg.MaxLen", "curtilage/sha.first", "curtilage/sha.rounds", "bytes.ErrTooLarge"], plainKeys := false, apart := false, laid := [("bytes.ErrTooLarge", laid_bytes_ErrTooLarge), ("curtilage/sha.first", laid_curtilage_sha_first), ("curtilage/sha.rounds", laid_curtilage_sha_rounds), ("curtilage/grant.spans", laid_curtilage_grant_spans)] }
def EngineDrawsSaid : Prop := engineDrawsRow.holds Tryz.pinned (OpenSpec.ofChange engineDrawsSpec)

/-- ITS FALSE NEIGHBOUR: 'it returns false'. Refute it at one input. -/
def engineDrawsWrong : ChangeSpec := { name := "engineDraws", fn := fun _ => fun
  | [d1, d2] => { results := [.lit (.bool false)], args := [d1, d2] }
  | _ => none }
def EngineDrawsWrongFalsely : Prop := engineDrawsRow.holds Tryz.pinned (OpenSpec.ofChange engineDrawsWrong)

/-- 'curtilagelaw18.EngineBack': WHATEVER THE INPUT: true; the input reads as it did. -/
def engineBackSpec : ChangeSpec := { name := "engineBack", fn := fun _ => fun
  | [d1, d2, d3, d4] => { results := [.lit (.bool true)], args := [d1, d2, d3, d4] }
  | _ => none }
def engineBackRow : OpenClaim := { program := "ytmiaabpnolebhaagreatdoor", sum := "cdaa0b7fd34371a269abbefd35f5196ec573b02f648ca48a5ed5fe27983f6d2b", func := "curtilage/curtilagelaw18.EngineBack", spec := "engineBack", inPlace := ["internal/bytealg.MakeNoZero", "internal/bytealg.IndexByteString", "internal/bytealg.IndexString"], named := ["curtilage/grant.spans", "internal/bytealg.MaxLen", "curtilage/sha.first", "curtilage/sha.rounds", "bytes.ErrTooLarge"], plainKeys := false, apart := false, laid := [("bytes.ErrTooLarge", laid_bytes_ErrTooLarge), ("curtilage/sha.first", laid_curtilage_sha_first), ("curtilage/sha.rounds", laid_curtilage_sha_rounds), ("curtilage/grant.spans", laid_curtilage_grant_spans)] }
def EngineBackSaid : Prop := engineBackRow.holds Tryz.pinned (OpenSpec.ofChange engineBackSpec)

/-- ITS FALSE NEIGHBOUR: 'it returns false'. Refute it at one input. -/
def engineBackWrong : ChangeSpec := { name := "engineBack", fn := fun _ => fun
  | [d1, d2, d3, d4] => { results := [.lit (.bool false)], args := [d1, d2, d3, d4] }
  | _ => none }
def EngineBackWrongFalsely : Prop := engineBackRow.holds Tryz.pinned (OpenSpec.ofChange engineBackWrong)

/-- 'curtilagelaw18.EngineDoes': WHATEVER THE INPUT: true; the input reads as it did. -/
def engineDoesSpec : ChangeSpec := { name := "engineDoes", fn := fun _ => fun
  | [d1, d2, d3, d4, d5, d6] => { results := [.lit (.bool true)], args := [d1, d2, d3, d4, d5, d6] }
  | _ => none }
def engineDoesRow : OpenClaim := { program := "ytmiaabpnolebhaagreatdoor", sum := "cdaa0b7fd34371a269abbefd35f5196ec573b02f648ca48a5ed5fe27983f6d2b", func := "curtilage/curtilagelaw18.EngineDoes", spec := "engineDoes", inPlace := ["internal/bytealg.MakeNoZero", "internal/bytealg.IndexByteString", "internal/bytealg.IndexString"], named := ["curtilage/grant.spans", "internal/bytealg.MaxLen", "curtilage/sha.first", "curtilage/sha.rounds", "bytes.ErrTooLarge"], plainKeys := false, apart := false, laid := [("bytes.ErrTooLarge", laid_bytes_ErrTooLarge), ("curtilage/sha.first", laid_curtilage_sha_first), ("curtilage/sha.rounds", laid_curtilage_sha_rounds), ("curtilage/grant.spans", laid_curtilage_grant_spans)] }
def EngineDoesSaid : Prop := engineDoesRow.holds Tryz.pinned (OpenSpec.ofChange engineDoesSpec)

/-- ITS FALSE NEIGHBOUR: 'it returns false'. Refute it at one input. -/
def engineDoesWrong : ChangeSpec := { name := "engineDoes", fn := fun _ => fun
  | [d1, d2, d3, d4, d5, d6] => { results := [.lit (.bool false)], args := [d1, d2, d3, d4, d5, d6] }
  | _ => none }
def EngineDoesWrongFalsely : Prop := engineDoesRow.holds Tryz.pinned (OpenSpec.ofChange engineDoesWrong)

/- THE SECOND FORM. 'bulk': how many values and letters a reading holds, each counted each time it is reached (what is shared counts as often as it is met; a slice's spare places count too). A statement '..UptoSaid' is the law's where the arguments, and the package variables that the reading takes, are together of bulk at most 1048576: NARROWER than '..Said'. Prove '..Said' where nothing that the law and all that it calls make is longer than what came in: it says more and counts as full. Else prove '..UptoSaid'. A law counts once. -/
mutual
def uptoBulk {H : Type} : DataW H → Nat
  | .lit (.string bytes) => bytes.length + 1
  | .lit _ => 1
  | .nil => 1
  | .ptr d => uptoBulk d + 1
  | .slice elems spare => uptoBulkAll elems + uptoBulkAll spare + 1
  | .agg parts => uptoBulkAll parts + 1
  | .iface _ d => uptoBulk d + 1
  | .map entries => uptoBulkEntries entries + 1
  | .held _ => 1
def uptoBulkAll {H : Type} : List (DataW H) → Nat
  | [] => 0
  | d :: r => uptoBulk d + uptoBulkAll r
def uptoBulkEntries {H : Type} : List (Lit × DataW H) → Nat
  | [] => 0
  | x :: r => uptoBulkEntry x + uptoBulkEntries r
def uptoBulkEntry {H : Type} : Lit × DataW H → Nat
  | (.string bytes, d) => bytes.length + uptoBulk d + 1
  | (_, d) => uptoBulk d + 1
 end
def uptoSmall : (H : Type) → List (DataW H) → Bool := fun _ ds => decide (uptoBulkAll ds ≤ 1048576)
def OpenSpec.upto (s : _root_.Go.ChangeSpec) : _root_.Go.OpenSpec := { _root_.Go.OpenSpec.ofChange s with cond := some uptoSmall }

/-- 'curtilagelaw23.ChooseLooks', WHERE WHAT IT READS IS OF BULK AT MOST 1048576: true; the input reads as it did. -/
def chooseLooksUptoRow : OpenClaim := { program := "ytmiaabpnolebhaagreatdoor", sum := "cdaa0b7fd34371a269abbefd35f5196ec573b02f648ca48a5ed5fe27983f6d2b", func := "curtilage/curtilagelaw23.ChooseLooks", spec := "chooseLooks", inPlace := ["internal/bytealg.MakeNoZero"], unfollowed := true, recurses := true, named := ["curtilage/ots.types", "curtilage/sha.first", "curtilage/sha.rounds", "math/bits.deBruijn32tab"], plainKeys := false, apart := false, laid := [("math/bits.deBruijn32tab", laid_math_bits_deBruijn32tab), ("curtilage/sha.first", laid_curtilage_sha_first), ("curtilage/sha.rounds", laid_curtilage_sha_rounds), ("curtilage/ots.types", laid_curtilage_ots_types)], narrowed := true }
def ChooseLooksUptoSaid : Prop := chooseLooksUptoRow.holds Tryz.pinned (OpenSpec.upto chooseLooksSpec)

/-- 'curtilagelaw20.CoreOne', WHERE WHAT IT READS IS OF BULK AT MOST 1048576: true; the input reads as it did. -/
def coreOneUptoRow : OpenClaim := { program := "ytmiaabpnolebhaagreatdoor", sum := "cdaa0b7fd34371a269abbefd35f5196ec573b02f648ca48a5ed5fe27983f6d2b", func := "curtilage/curtilagelaw20.CoreOne", spec := "coreOne", inPlace := ["internal/bytealg.MakeNoZero", "internal/bytealg.IndexByteString", "internal/bytealg.IndexString"], named := ["curtilage/grant.spans", "internal/bytealg.MaxLen"], plainKeys := false, apart := false, laid := [("curtilage/grant.spans", laid_curtilage_grant_spans)], narrowed := true }
def CoreOneUptoSaid : Prop := coreOneUptoRow.holds Tryz.pinned (OpenSpec.upto coreOneSpec)

/-- 'curtilagelaw23.ChooseAll', WHERE WHAT IT READS IS OF BULK AT MOST 1048576: true; the input reads as it did. -/
def chooseAllUptoRow : OpenClaim := { program := "ytmiaabpnolebhaagreatdoor", sum := "cdaa0b7fd34371a269abbefd35f5196ec573b02f648ca48a5ed5fe27983f6d2b", func := "curtilage/curtilagelaw23.ChooseAll", spec := "chooseAll", inPlace := ["internal/bytealg.MakeNoZero"], unfollowed := true, recurses := true, named := ["curtilage/ots.types", "curtilage/sha.first", "curtilage/sha.rounds", "math/bits.deBruijn32tab"], plainKeys := false, apart := false, laid := [("math/bits.deBruijn32tab", laid_math_bits_deBruijn32tab), ("curtilage/sha.first", laid_curtilage_sha_first), ("curtilage/sha.rounds", laid_curtilage_sha_rounds), ("curtilage/ots.types", laid_curtilage_ots_types)], narrowed := true }
def ChooseAllUptoSaid : Prop := chooseAllUptoRow.holds Tryz.pinned (OpenSpec.upto chooseAllSpec)

/-- 'curtilagelaw18.EngineDraws', WHERE WHAT IT READS IS OF BULK AT MOST 1048576: true; the input reads as it did. -/
def engineDrawsUptoRow : OpenClaim := { program := "ytmiaabpnolebhaagreatdoor", sum := "cdaa0b7fd34371a269abbefd35f5196ec573b02f648ca48a5ed5fe27983f6d2b", func := "curtilage/curtilagelaw18.EngineDraws", spec := "engineDraws", inPlace := ["internal/bytealg.MakeNoZero", "internal/bytealg.IndexByteString", "internal/bytealg.IndexString"], named := ["curtilage/grant.spans", "internal/bytealg.MaxLen", "curtilage/sha.first", "curtilage/sha.rounds", "bytes.ErrTooLarge"], plainKeys := false, apart := false, laid := [("bytes.ErrTooLarge", laid_bytes_ErrTooLarge), ("curtilage/sha.first", laid_curtilage_sha_first), ("curtilage/sha.rounds", laid_curtilage_sha_rounds), ("curtilage/grant.spans", laid_curtilage_grant_spans)], narrowed := true }
def EngineDrawsUptoSaid : Prop := engineDrawsUptoRow.holds Tryz.pinned (OpenSpec.upto engineDrawsSpec)

/-- 'curtilagelaw18.EngineBack', WHERE WHAT IT READS IS OF BULK AT MOST 1048576: true; the input reads as it did. -/
def engineBackUptoRow : OpenClaim := { program := "ytmiaabpnolebhaagreatdoor", sum := "cdaa0b7fd34371a269abbefd35f5196ec573b02f648ca48a5ed5fe27983f6d2b", func := "curtilage/curtilagelaw18.EngineBack", spec := "engineBack", inPlace := ["internal/bytealg.MakeNoZero", "internal/bytealg.IndexByteString", "internal/bytealg.IndexString"], named := ["curtilage/grant.spans", "internal/bytealg.MaxLen", "curtilage/sha.first", "curtilage/sha.rounds", "bytes.ErrTooLarge"], plainKeys := false, apart := false, laid := [("bytes.ErrTooLarge", laid_bytes_ErrTooLarge), ("curtilage/sha.first", laid_curtilage_sha_first), ("curtilage/sha.rounds", laid_curtilage_sha_rounds), ("curtilage/grant.spans", laid_curtilage_grant_spans)], narrowed := true }
def EngineBackUptoSaid : Prop := engineBackUptoRow.holds Tryz.pinned (OpenSpec.upto engineBackSpec)

/-- 'curtilagelaw18.EngineDoes', WHERE WHAT IT READS IS OF BULK AT MOST 1048576: true; the input reads as it did. -/
def engineDoesUptoRow : OpenClaim := { program := "ytmiaabpnolebhaagreatdoor", sum := "cdaa0b7fd34371a269abbefd35f5196ec573b02f648ca48a5ed5fe27983f6d2b", func := "curtilage/curtilagelaw18.EngineDoes", spec := "engineDoes", inPlace := ["internal/bytealg.MakeNoZero", "internal/bytealg.IndexByteString", "internal/bytealg.IndexString"], named := ["curtilage/grant.spans", "internal/bytealg.MaxLen", "curtilage/sha.first", "curtilage/sha.rounds", "bytes.ErrTooLarge"], plainKeys := false, apart := false, laid := [("bytes.ErrTooLarge", laid_bytes_ErrTooLarge), ("curtilage/sha.first", laid_curtilage_sha_first), ("curtilage/sha.rounds", laid_curtilage_sha_rounds), ("curtilage/grant.spans", laid_curtilage_grant_spans)], narrowed := true }
def EngineDoesUptoSaid : Prop := engineDoesUptoRow.holds Tryz.pinned (OpenSpec.upto engineDoesSpec)

end Rows
end Go.Proofs.YtmiaabpnolebhaaGreatDoor
