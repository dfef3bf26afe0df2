/-
  NARROWER THAN 'FOR EVERY INPUT', by the rows' own cells (each row's printed sentence says how): OtpRows: laid · OtpReaches: laid · OtpArgs: laid · SlotChains: laid · SlotHides: laid · SlotNil: laid · ModeReach: laid · ModeRuns: laid · ModeParts: laid · ModeBack: laid · ModeArgs: laid · SlotCiphers: laid.
  DERIVED. THE GIVEN ROWS OF THIS SEAT. 12 by the template 'for every input the law returns true; each argument reads behind the call as it read before'; 0 by the template 'total and deterministic' (their statements: YtpakdcgcgekcfaaDoorTotals.lean).
  GIVEN WITH THE SEED: the statements are not yours to turn. If you find one false, say at which input.
  Laid BY PROGRAM, IN A SANDBOX (cutbox-rows.mjs): the forced cells as the released guide's own fill.sh prints them over the translation fd4a911bb82dbad5… (all of the seat's roots in one cut). By AI agents, Wed Nov 11 2026. No macro, syntax, notation, axiom, sorry.
-/
import Derived.Test.YtpakdcgcgekcfaaDoorChecked
import GoSem.Claim
import GoSem.ClaimJoined
import GoSem.ClaimMapViews
import Derived.JoinedTies
import Derived.KernelRfl
namespace Go.Proofs.YtpakdcgcgekcfaaDoor
/- THE CELL 'sum', in the pinned program and in every row, IS THE sha256 OF THE DUMP (.gsa) THAT YtpakdcgcgekcfaaDoorProg.lean LOADS. Nothing in Lean hashes anything: it is a label: what it is worth is what the hold of that sum in a sandbox is worth. -/
noncomputable def Tryd.pinned : Pinned := { name := "ytpakdcgcgekcfaadoor", sum := "fd4a911bb82dbad5ceaf2f93fb1157ff2d53d17924edafe70cb48f9af57d26ac", checked := Tryd.checked }
namespace Rows
def none {H : Type} : Left H := { results := [], args := [] }

/- WHAT THE LISTED PACKAGE-LEVEL VARIABLES READ AS WHEN THE CALL BEGINS. Each datum BY PROGRAM (the guide's laid-datum.mjs) off the statement by which the dump's own 'gosem.cut.vars' lays the variable. In a bare row this is a premise. The card (YtpakdcgcgekcfaaDoorCards.lean) ties it to the program's text. -/
def laid_math_bits_deBruijn32tab {H : Type} : DataW H := .agg [.lit (.int .u8 0), .lit (.int .u8 1), .lit (.int .u8 28), .lit (.int .u8 2), .lit (.int .u8 29), .lit (.int .u8 14), .lit (.int .u8 24), .lit (.int .u8 3), .lit (.int .u8 30), .lit (.int .u8 22), .lit (.int .u8 20), .lit (.int .u8 15), .lit (.int .u8 25), .lit (.int .u8 17), .lit (.int .u8 4), .lit (.int .u8 8), .lit (.int .u8 31), .lit (.int .u8 27), .lit (.int .u8 13), .lit (.int .u8 23), .lit (.int .u8 21), .lit (.int .u8 19), .lit (.int .u8 16), .lit (.int .u8 7), .lit (.int .u8 26), .lit (.int .u8 12), .lit (.int .u8 18), .lit (.int .u8 6), .lit (.int .u8 11), .lit (.int .u8 5), .lit (.int .u8 10), .lit (.int .u8 9)]
def laid_curtilage_sha_first {H : Type} : DataW H := .agg [.lit (.int .u32 1779033703), .lit (.int .u32 3144134277), .lit (.int .u32 1013904242), .lit (.int .u32 2773480762), .lit (.int .u32 1359893119), .lit (.int .u32 2600822924), .lit (.int .u32 528734635), .lit (.int .u32 1541459225)]
def laid_curtilage_sha_rounds {H : Type} : DataW H := .agg [.lit (.int .u32 1116352408), .lit (.int .u32 1899447441), .lit (.int .u32 3049323471), .lit (.int .u32 3921009573), .lit (.int .u32 961987163), .lit (.int .u32 1508970993), .lit (.int .u32 2453635748), .lit (.int .u32 2870763221), .lit (.int .u32 3624381080), .lit (.int .u32 310598401), .lit (.int .u32 607225278), .lit (.int .u32 1426881987), .lit (.int .u32 1925078388), .lit (.int .u32 2162078206), .lit (.int .u32 2614888103), .lit (.int .u32 3248222580), .lit (.int .u32 3835390401), .lit (.int .u32 4022224774), .lit (.int .u32 264347078), .lit (.int .u32 604807628), .lit (.int .u32 770255983), .lit (.int .u32 1249150122), .lit (.int .u32 1555081692), .lit (.int .u32 1996064986), .lit (.int .u32 2554220882), .lit (.int .u32 2821834349), .lit (.int .u32 2952996808), .lit (.int .u32 3210313671), .lit (.int .u32 3336571891), .lit (.int .u32 3584528711), .lit (.int .u32 113926993), .lit (.int .u32 338241895), .lit (.int .u32 666307205), .lit (.int .u32 773529912), .lit (.int .u32 1294757372), .lit (.int .u32 1396182291), .lit (.int .u32 1695183700), .lit (.int .u32 1986661051), .lit (.int .u32 2177026350), .lit (.int .u32 2456956037), .lit (.int .u32 2730485921), .lit (.int .u32 2820302411), .lit (.int .u32 3259730800), .lit (.int .u32 3345764771), .lit (.int .u32 3516065817), .lit (.int .u32 3600352804), .lit (.int .u32 4094571909), .lit (.int .u32 275423344), .lit (.int .u32 430227734), .lit (.int .u32 506948616), .lit (.int .u32 659060556), .lit (.int .u32 883997877), .lit (.int .u32 958139571), .lit (.int .u32 1322822218), .lit (.int .u32 1537002063), .lit (.int .u32 1747873779), .lit (.int .u32 1955562222), .lit (.int .u32 2024104815), .lit (.int .u32 2227730452), .lit (.int .u32 2361852424), .lit (.int .u32 2428436474), .lit (.int .u32 2756734187), .lit (.int .u32 3204031479), .lit (.int .u32 3329325298)]
def laid_bytes_ErrTooLarge {H : Type} : DataW H := .iface "*errors.errorString" (.ptr (.agg [.lit (.string [98, 121, 116, 101, 115, 46, 66, 117, 102, 102, 101, 114, 58, 32, 116, 111, 111, 32, 108, 97, 114, 103, 101])]))

/-- 'curtilagelaw11.OtpRows': WHATEVER THE INPUT: true; the input reads as it did. -/
def otpRowsSpec : ChangeSpec := { name := "otpRows", fn := fun _ => fun
  | [d1, d2, d3, d4, d5] => { results := [.lit (.bool true)], args := [d1, d2, d3, d4, d5] }
  | _ => none }
def otpRowsRow : OpenClaim := { program := "ytpakdcgcgekcfaadoor", sum := "fd4a911bb82dbad5ceaf2f93fb1157ff2d53d17924edafe70cb48f9af57d26ac", func := "curtilage/curtilagelaw11.OtpRows", spec := "otpRows", named := ["math/bits.deBruijn32tab"], apart := false, laid := [("math/bits.deBruijn32tab", laid_math_bits_deBruijn32tab)] }
def OtpRowsSaid : Prop := otpRowsRow.holds Tryd.pinned (OpenSpec.ofChange otpRowsSpec)

/-- ITS FALSE NEIGHBOUR: 'it returns false'. Refute it at one input. -/
def otpRowsWrong : ChangeSpec := { name := "otpRows", fn := fun _ => fun
  | [d1, d2, d3, d4, d5] => { results := [.lit (.bool false)], args := [d1, d2, d3, d4, d5] }
  | _ => none }
def OtpRowsWrongFalsely : Prop := otpRowsRow.holds Tryd.pinned (OpenSpec.ofChange otpRowsWrong)

/-- 'curtilagelaw11.OtpReaches': WHATEVER THE INPUT: true; the input reads as it did. -/
def otpReachesSpec : ChangeSpec := { name := "otpReaches", fn := fun _ => fun
  | [d1, d2, d3] => { results := [.lit (.bool true)], args := [d1, d2, d3] }
  | _ => none }
def otpReachesRow : OpenClaim := { program := "ytpakdcgcgekcfaadoor", sum := "fd4a911bb82dbad5ceaf2f93fb1157ff2d53d17924edafe70cb48f9af57d26ac", func := "curtilage/curtilagelaw11.OtpReaches", spec := "otpReaches", named := ["math/bits.deBruijn32tab"], apart := false, laid := [("math/bits.deBruijn32tab", laid_math_bits_deBruijn32tab)] }
def OtpReachesSaid : Prop := otpReachesRow.holds Tryd.pinned (OpenSpec.ofChange otpReachesSpec)

/-- ITS FALSE NEIGHBOUR: 'it returns false'. Refute it at one input. -/
def otpReachesWrong : ChangeSpec := { name := "otpReaches", fn := fun _ => fun
  | [d1, d2, d3] => { results := [.lit (.bool false)], args := [d1, d2, d3] }
  | _ => none }
def OtpReachesWrongFalsely : Prop := otpReachesRow.holds Tryd.pinned (OpenSpec.ofChange otpReachesWrong)

/-- 'curtilagelaw11.OtpArgs': WHATEVER THE INPUT: true; the input reads as it did. -/
def otpArgsSpec : ChangeSpec := { name := "otpArgs", fn := fun _ => fun
  | [d1, d2] => { results := [.lit (.bool true)], args := [d1, d2] }
  | _ => none }
def otpArgsRow : OpenClaim := { program := "ytpakdcgcgekcfaadoor", sum := "fd4a911bb82dbad5ceaf2f93fb1157ff2d53d17924edafe70cb48f9af57d26ac", func := "curtilage/curtilagelaw11.OtpArgs", spec := "otpArgs", named := ["math/bits.deBruijn32tab"], apart := false, laid := [("math/bits.deBruijn32tab", laid_math_bits_deBruijn32tab)] }
def OtpArgsSaid : Prop := otpArgsRow.holds Tryd.pinned (OpenSpec.ofChange otpArgsSpec)

/-- ITS FALSE NEIGHBOUR: 'it returns false'. Refute it at one input. -/
def otpArgsWrong : ChangeSpec := { name := "otpArgs", fn := fun _ => fun
  | [d1, d2] => { results := [.lit (.bool false)], args := [d1, d2] }
  | _ => none }
def OtpArgsWrongFalsely : Prop := otpArgsRow.holds Tryd.pinned (OpenSpec.ofChange otpArgsWrong)

/-- 'curtilagelaw15.SlotChains': WHATEVER THE INPUT: true; the input reads as it did. -/
def slotChainsSpec : ChangeSpec := { name := "slotChains", fn := fun _ => fun
  | [d1, d2] => { results := [.lit (.bool true)], args := [d1, d2] }
  | _ => none }
def slotChainsRow : OpenClaim := { program := "ytpakdcgcgekcfaadoor", sum := "fd4a911bb82dbad5ceaf2f93fb1157ff2d53d17924edafe70cb48f9af57d26ac", func := "curtilage/curtilagelaw15.SlotChains", spec := "slotChains", inPlace := ["internal/bytealg.MakeNoZero"], named := ["curtilage/sha.first", "curtilage/sha.rounds"], apart := false, laid := [("curtilage/sha.first", laid_curtilage_sha_first), ("curtilage/sha.rounds", laid_curtilage_sha_rounds)] }
def SlotChainsSaid : Prop := slotChainsRow.holds Tryd.pinned (OpenSpec.ofChange slotChainsSpec)

/-- ITS FALSE NEIGHBOUR: 'it returns false'. Refute it at one input. -/
def slotChainsWrong : ChangeSpec := { name := "slotChains", fn := fun _ => fun
  | [d1, d2] => { results := [.lit (.bool false)], args := [d1, d2] }
  | _ => none }
def SlotChainsWrongFalsely : Prop := slotChainsRow.holds Tryd.pinned (OpenSpec.ofChange slotChainsWrong)

/-- 'curtilagelaw15.SlotHides': WHATEVER THE INPUT: true; the input reads as it did. -/
def slotHidesSpec : ChangeSpec := { name := "slotHides", fn := fun _ => fun
  | [d1, d2, d3] => { results := [.lit (.bool true)], args := [d1, d2, d3] }
  | _ => none }
def slotHidesRow : OpenClaim := { program := "ytpakdcgcgekcfaadoor", sum := "fd4a911bb82dbad5ceaf2f93fb1157ff2d53d17924edafe70cb48f9af57d26ac", func := "curtilage/curtilagelaw15.SlotHides", spec := "slotHides", inPlace := ["internal/bytealg.MakeNoZero"], named := ["curtilage/sha.first", "curtilage/sha.rounds"], apart := false, laid := [("curtilage/sha.first", laid_curtilage_sha_first), ("curtilage/sha.rounds", laid_curtilage_sha_rounds)] }
def SlotHidesSaid : Prop := slotHidesRow.holds Tryd.pinned (OpenSpec.ofChange slotHidesSpec)

/-- ITS FALSE NEIGHBOUR: 'it returns false'. Refute it at one input. -/
def slotHidesWrong : ChangeSpec := { name := "slotHides", fn := fun _ => fun
  | [d1, d2, d3] => { results := [.lit (.bool false)], args := [d1, d2, d3] }
  | _ => none }
def SlotHidesWrongFalsely : Prop := slotHidesRow.holds Tryd.pinned (OpenSpec.ofChange slotHidesWrong)

/-- 'curtilagelaw15.SlotNil': WHATEVER THE INPUT: true; the input reads as it did. -/
def slotNilSpec : ChangeSpec := { name := "slotNil", fn := fun _ => fun
  | [d1, d2, d3, d4] => { results := [.lit (.bool true)], args := [d1, d2, d3, d4] }
  | _ => none }
def slotNilRow : OpenClaim := { program := "ytpakdcgcgekcfaadoor", sum := "fd4a911bb82dbad5ceaf2f93fb1157ff2d53d17924edafe70cb48f9af57d26ac", func := "curtilage/curtilagelaw15.SlotNil", spec := "slotNil", inPlace := ["internal/bytealg.MakeNoZero"], named := ["curtilage/sha.first", "curtilage/sha.rounds", "bytes.ErrTooLarge"], apart := false, laid := [("bytes.ErrTooLarge", laid_bytes_ErrTooLarge), ("curtilage/sha.first", laid_curtilage_sha_first), ("curtilage/sha.rounds", laid_curtilage_sha_rounds)] }
def SlotNilSaid : Prop := slotNilRow.holds Tryd.pinned (OpenSpec.ofChange slotNilSpec)

/-- ITS FALSE NEIGHBOUR: 'it returns false'. Refute it at one input. -/
def slotNilWrong : ChangeSpec := { name := "slotNil", fn := fun _ => fun
  | [d1, d2, d3, d4] => { results := [.lit (.bool false)], args := [d1, d2, d3, d4] }
  | _ => none }
def SlotNilWrongFalsely : Prop := slotNilRow.holds Tryd.pinned (OpenSpec.ofChange slotNilWrong)

/-- 'curtilagelaw04.ModeReach': WHATEVER THE INPUT: true; the input reads as it did. -/
def modeReachSpec : ChangeSpec := { name := "modeReach", fn := fun _ => fun
  | [d1, d2, d3, d4, d5, d6] => { results := [.lit (.bool true)], args := [d1, d2, d3, d4, d5, d6] }
  | _ => none }
def modeReachRow : OpenClaim := { program := "ytpakdcgcgekcfaadoor", sum := "fd4a911bb82dbad5ceaf2f93fb1157ff2d53d17924edafe70cb48f9af57d26ac", func := "curtilage/curtilagelaw04.ModeReach", spec := "modeReach", named := ["bytes.ErrTooLarge"], apart := false, laid := [("bytes.ErrTooLarge", laid_bytes_ErrTooLarge)] }
def ModeReachSaid : Prop := modeReachRow.holds Tryd.pinned (OpenSpec.ofChange modeReachSpec)

/-- ITS FALSE NEIGHBOUR: 'it returns false'. Refute it at one input. -/
def modeReachWrong : ChangeSpec := { name := "modeReach", fn := fun _ => fun
  | [d1, d2, d3, d4, d5, d6] => { results := [.lit (.bool false)], args := [d1, d2, d3, d4, d5, d6] }
  | _ => none }
def ModeReachWrongFalsely : Prop := modeReachRow.holds Tryd.pinned (OpenSpec.ofChange modeReachWrong)

/-- 'curtilagelaw04.ModeRuns': WHATEVER THE INPUT: true; the input reads as it did. -/
def modeRunsSpec : ChangeSpec := { name := "modeRuns", fn := fun _ => fun
  | [d1, d2, d3, d4, d5] => { results := [.lit (.bool true)], args := [d1, d2, d3, d4, d5] }
  | _ => none }
def modeRunsRow : OpenClaim := { program := "ytpakdcgcgekcfaadoor", sum := "fd4a911bb82dbad5ceaf2f93fb1157ff2d53d17924edafe70cb48f9af57d26ac", func := "curtilage/curtilagelaw04.ModeRuns", spec := "modeRuns", named := ["bytes.ErrTooLarge"], apart := false, laid := [("bytes.ErrTooLarge", laid_bytes_ErrTooLarge)] }
def ModeRunsSaid : Prop := modeRunsRow.holds Tryd.pinned (OpenSpec.ofChange modeRunsSpec)

/-- ITS FALSE NEIGHBOUR: 'it returns false'. Refute it at one input. -/
def modeRunsWrong : ChangeSpec := { name := "modeRuns", fn := fun _ => fun
  | [d1, d2, d3, d4, d5] => { results := [.lit (.bool false)], args := [d1, d2, d3, d4, d5] }
  | _ => none }
def ModeRunsWrongFalsely : Prop := modeRunsRow.holds Tryd.pinned (OpenSpec.ofChange modeRunsWrong)

/-- 'curtilagelaw04.ModeParts': WHATEVER THE INPUT: true; the input reads as it did. -/
def modePartsSpec : ChangeSpec := { name := "modeParts", fn := fun _ => fun
  | [d1, d2, d3, d4, d5, d6] => { results := [.lit (.bool true)], args := [d1, d2, d3, d4, d5, d6] }
  | _ => none }
def modePartsRow : OpenClaim := { program := "ytpakdcgcgekcfaadoor", sum := "fd4a911bb82dbad5ceaf2f93fb1157ff2d53d17924edafe70cb48f9af57d26ac", func := "curtilage/curtilagelaw04.ModeParts", spec := "modeParts", named := ["bytes.ErrTooLarge"], apart := false, laid := [("bytes.ErrTooLarge", laid_bytes_ErrTooLarge)] }
def ModePartsSaid : Prop := modePartsRow.holds Tryd.pinned (OpenSpec.ofChange modePartsSpec)

/-- ITS FALSE NEIGHBOUR: 'it returns false'. Refute it at one input. -/
def modePartsWrong : ChangeSpec := { name := "modeParts", fn := fun _ => fun
  | [d1, d2, d3, d4, d5, d6] => { results := [.lit (.bool false)], args := [d1, d2, d3, d4, d5, d6] }
  | _ => none }
def ModePartsWrongFalsely : Prop := modePartsRow.holds Tryd.pinned (OpenSpec.ofChange modePartsWrong)

/-- 'curtilagelaw04.ModeBack': WHATEVER THE INPUT: true; the input reads as it did. -/
def modeBackSpec : ChangeSpec := { name := "modeBack", fn := fun _ => fun
  | [d1, d2, d3, d4, d5] => { results := [.lit (.bool true)], args := [d1, d2, d3, d4, d5] }
  | _ => none }
def modeBackRow : OpenClaim := { program := "ytpakdcgcgekcfaadoor", sum := "fd4a911bb82dbad5ceaf2f93fb1157ff2d53d17924edafe70cb48f9af57d26ac", func := "curtilage/curtilagelaw04.ModeBack", spec := "modeBack", named := ["bytes.ErrTooLarge"], apart := false, laid := [("bytes.ErrTooLarge", laid_bytes_ErrTooLarge)] }
def ModeBackSaid : Prop := modeBackRow.holds Tryd.pinned (OpenSpec.ofChange modeBackSpec)

/-- ITS FALSE NEIGHBOUR: 'it returns false'. Refute it at one input. -/
def modeBackWrong : ChangeSpec := { name := "modeBack", fn := fun _ => fun
  | [d1, d2, d3, d4, d5] => { results := [.lit (.bool false)], args := [d1, d2, d3, d4, d5] }
  | _ => none }
def ModeBackWrongFalsely : Prop := modeBackRow.holds Tryd.pinned (OpenSpec.ofChange modeBackWrong)

/-- 'curtilagelaw04.ModeArgs': WHATEVER THE INPUT: true; the input reads as it did. -/
def modeArgsSpec : ChangeSpec := { name := "modeArgs", fn := fun _ => fun
  | [d1, d2, d3] => { results := [.lit (.bool true)], args := [d1, d2, d3] }
  | _ => none }
def modeArgsRow : OpenClaim := { program := "ytpakdcgcgekcfaadoor", sum := "fd4a911bb82dbad5ceaf2f93fb1157ff2d53d17924edafe70cb48f9af57d26ac", func := "curtilage/curtilagelaw04.ModeArgs", spec := "modeArgs", named := ["bytes.ErrTooLarge"], apart := false, laid := [("bytes.ErrTooLarge", laid_bytes_ErrTooLarge)] }
def ModeArgsSaid : Prop := modeArgsRow.holds Tryd.pinned (OpenSpec.ofChange modeArgsSpec)

/-- ITS FALSE NEIGHBOUR: 'it returns false'. Refute it at one input. -/
def modeArgsWrong : ChangeSpec := { name := "modeArgs", fn := fun _ => fun
  | [d1, d2, d3] => { results := [.lit (.bool false)], args := [d1, d2, d3] }
  | _ => none }
def ModeArgsWrongFalsely : Prop := modeArgsRow.holds Tryd.pinned (OpenSpec.ofChange modeArgsWrong)

/-- 'curtilagelaw15.SlotCiphers': WHATEVER THE INPUT: true; the input reads as it did. -/
def slotCiphersSpec : ChangeSpec := { name := "slotCiphers", fn := fun _ => fun
  | [d1, d2, d3, d4, d5, d6] => { results := [.lit (.bool true)], args := [d1, d2, d3, d4, d5, d6] }
  | _ => none }
def slotCiphersRow : OpenClaim := { program := "ytpakdcgcgekcfaadoor", sum := "fd4a911bb82dbad5ceaf2f93fb1157ff2d53d17924edafe70cb48f9af57d26ac", func := "curtilage/curtilagelaw15.SlotCiphers", spec := "slotCiphers", inPlace := ["internal/bytealg.MakeNoZero"], named := ["curtilage/sha.first", "curtilage/sha.rounds", "bytes.ErrTooLarge"], apart := false, laid := [("bytes.ErrTooLarge", laid_bytes_ErrTooLarge), ("curtilage/sha.first", laid_curtilage_sha_first), ("curtilage/sha.rounds", laid_curtilage_sha_rounds)] }
def SlotCiphersSaid : Prop := slotCiphersRow.holds Tryd.pinned (OpenSpec.ofChange slotCiphersSpec)

/-- ITS FALSE NEIGHBOUR: 'it returns false'. Refute it at one input. -/
def slotCiphersWrong : ChangeSpec := { name := "slotCiphers", fn := fun _ => fun
  | [d1, d2, d3, d4, d5, d6] => { results := [.lit (.bool false)], args := [d1, d2, d3, d4, d5, d6] }
  | _ => none }
def SlotCiphersWrongFalsely : Prop := slotCiphersRow.holds Tryd.pinned (OpenSpec.ofChange slotCiphersWrong)

/- THE SECOND FORM. 'bulk': how many values and letters a reading holds, each counted each time it is reached (what is shared counts as often as it is met; a slice's spare places count too). A statement '..UptoSaid' is the law's where the arguments, and the package variables that the reading takes, are together of bulk at most 1048576: NARROWER than '..Said'. Prove '..Said' where nothing that the law and all that it calls make is longer than what came in: it says more and counts as full. Else prove '..UptoSaid'. A law counts once. -/
mutual
def uptoBulk {H : Type} : DataW H → Nat
  | .lit (.string bytes) => bytes.length + 1
  | .lit _ => 1
  | .nil => 1
  | .ptr d => uptoBulk d + 1
  | .slice elems spare => uptoBulkAll elems + uptoBulkAll spare + 1
  | .agg parts => uptoBulkAll parts + 1
  | .iface _ d => uptoBulk d + 1
  | .map entries => uptoBulkEntries entries + 1
  | .held _ => 1
def uptoBulkAll {H : Type} : List (DataW H) → Nat
  | [] => 0
  | d :: r => uptoBulk d + uptoBulkAll r
def uptoBulkEntries {H : Type} : List (Lit × DataW H) → Nat
  | [] => 0
  | x :: r => uptoBulkEntry x + uptoBulkEntries r
def uptoBulkEntry {H : Type} : Lit × DataW H → Nat
  | (.string bytes, d) => bytes.length + uptoBulk d + 1
  | (_, d) => uptoBulk d + 1
 end
def uptoSmall : (H : Type) → List (DataW H) → Bool := fun _ ds => decide (uptoBulkAll ds ≤ 1048576)
def OpenSpec.upto (s : _root_.Go.ChangeSpec) : _root_.Go.OpenSpec := { _root_.Go.OpenSpec.ofChange s with cond := some uptoSmall }

/-- 'curtilagelaw11.OtpRows', WHERE WHAT IT READS IS OF BULK AT MOST 1048576: true; the input reads as it did. -/
def otpRowsUptoRow : OpenClaim := { program := "ytpakdcgcgekcfaadoor", sum := "fd4a911bb82dbad5ceaf2f93fb1157ff2d53d17924edafe70cb48f9af57d26ac", func := "curtilage/curtilagelaw11.OtpRows", spec := "otpRows", named := ["math/bits.deBruijn32tab"], apart := false, laid := [("math/bits.deBruijn32tab", laid_math_bits_deBruijn32tab)], narrowed := true }
def OtpRowsUptoSaid : Prop := otpRowsUptoRow.holds Tryd.pinned (OpenSpec.upto otpRowsSpec)

/-- 'curtilagelaw11.OtpReaches', WHERE WHAT IT READS IS OF BULK AT MOST 1048576: true; the input reads as it did. -/
def otpReachesUptoRow : OpenClaim := { program := "ytpakdcgcgekcfaadoor", sum := "fd4a911bb82dbad5ceaf2f93fb1157ff2d53d17924edafe70cb48f9af57d26ac", func := "curtilage/curtilagelaw11.OtpReaches", spec := "otpReaches", named := ["math/bits.deBruijn32tab"], apart := false, laid := [("math/bits.deBruijn32tab", laid_math_bits_deBruijn32tab)], narrowed := true }
def OtpReachesUptoSaid : Prop := otpReachesUptoRow.holds Tryd.pinned (OpenSpec.upto otpReachesSpec)

/-- 'curtilagelaw11.OtpArgs', WHERE WHAT IT READS IS OF BULK AT MOST 1048576: true; the input reads as it did. -/
def otpArgsUptoRow : OpenClaim := { program := "ytpakdcgcgekcfaadoor", sum := "fd4a911bb82dbad5ceaf2f93fb1157ff2d53d17924edafe70cb48f9af57d26ac", func := "curtilage/curtilagelaw11.OtpArgs", spec := "otpArgs", named := ["math/bits.deBruijn32tab"], apart := false, laid := [("math/bits.deBruijn32tab", laid_math_bits_deBruijn32tab)], narrowed := true }
def OtpArgsUptoSaid : Prop := otpArgsUptoRow.holds Tryd.pinned (OpenSpec.upto otpArgsSpec)

/-- 'curtilagelaw15.SlotChains', WHERE WHAT IT READS IS OF BULK AT MOST 1048576: true; the input reads as it did. -/
def slotChainsUptoRow : OpenClaim := { program := "ytpakdcgcgekcfaadoor", sum := "fd4a911bb82dbad5ceaf2f93fb1157ff2d53d17924edafe70cb48f9af57d26ac", func := "curtilage/curtilagelaw15.SlotChains", spec := "slotChains", inPlace := ["internal/bytealg.MakeNoZero"], named := ["curtilage/sha.first", "curtilage/sha.rounds"], apart := false, laid := [("curtilage/sha.first", laid_curtilage_sha_first), ("curtilage/sha.rounds", laid_curtilage_sha_rounds)], narrowed := true }
def SlotChainsUptoSaid : Prop := slotChainsUptoRow.holds Tryd.pinned (OpenSpec.upto slotChainsSpec)

/-- 'curtilagelaw15.SlotHides', WHERE WHAT IT READS IS OF BULK AT MOST 1048576: true; the input reads as it did. -/
def slotHidesUptoRow : OpenClaim := { program := "ytpakdcgcgekcfaadoor", sum := "fd4a911bb82dbad5ceaf2f93fb1157ff2d53d17924edafe70cb48f9af57d26ac", func := "curtilage/curtilagelaw15.SlotHides", spec := "slotHides", inPlace := ["internal/bytealg.MakeNoZero"], named := ["curtilage/sha.first", "curtilage/sha.rounds"], apart := false, laid := [("curtilage/sha.first", laid_curtilage_sha_first), ("curtilage/sha.rounds", laid_curtilage_sha_rounds)], narrowed := true }
def SlotHidesUptoSaid : Prop := slotHidesUptoRow.holds Tryd.pinned (OpenSpec.upto slotHidesSpec)

/-- 'curtilagelaw15.SlotNil', WHERE WHAT IT READS IS OF BULK AT MOST 1048576: true; the input reads as it did. -/
def slotNilUptoRow : OpenClaim := { program := "ytpakdcgcgekcfaadoor", sum := "fd4a911bb82dbad5ceaf2f93fb1157ff2d53d17924edafe70cb48f9af57d26ac", func := "curtilage/curtilagelaw15.SlotNil", spec := "slotNil", inPlace := ["internal/bytealg.MakeNoZero"], named := ["curtilage/sha.first", "curtilage/sha.rounds", "bytes.ErrTooLarge"], apart := false, laid := [("bytes.ErrTooLarge", laid_bytes_ErrTooLarge), ("curtilage/sha.first", laid_curtilage_sha_first), ("curtilage/sha.rounds", laid_curtilage_sha_rounds)], narrowed := true }
def SlotNilUptoSaid : Prop := slotNilUptoRow.holds Tryd.pinned (OpenSpec.upto slotNilSpec)

/-- 'curtilagelaw04.ModeReach', WHERE WHAT IT READS IS OF BULK AT MOST 1048576: true; the input reads as it did. -/
def modeReachUptoRow : OpenClaim := { program := "ytpakdcgcgekcfaadoor", sum := "fd4a911bb82dbad5ceaf2f93fb1157ff2d53d17924edafe70cb48f9af57d26ac", func := "curtilage/curtilagelaw04.ModeReach", spec := "modeReach", named := ["bytes.ErrTooLarge"], apart := false, laid := [("bytes.ErrTooLarge", laid_bytes_ErrTooLarge)], narrowed := true }
def ModeReachUptoSaid : Prop := modeReachUptoRow.holds Tryd.pinned (OpenSpec.upto modeReachSpec)

/-- 'curtilagelaw04.ModeRuns', WHERE WHAT IT READS IS OF BULK AT MOST 1048576: true; the input reads as it did. -/
def modeRunsUptoRow : OpenClaim := { program := "ytpakdcgcgekcfaadoor", sum := "fd4a911bb82dbad5ceaf2f93fb1157ff2d53d17924edafe70cb48f9af57d26ac", func := "curtilage/curtilagelaw04.ModeRuns", spec := "modeRuns", named := ["bytes.ErrTooLarge"], apart := false, laid := [("bytes.ErrTooLarge", laid_bytes_ErrTooLarge)], narrowed := true }
def ModeRunsUptoSaid : Prop := modeRunsUptoRow.holds Tryd.pinned (OpenSpec.upto modeRunsSpec)

/-- 'curtilagelaw04.ModeParts', WHERE WHAT IT READS IS OF BULK AT MOST 1048576: true; the input reads as it did. -/
def modePartsUptoRow : OpenClaim := { program := "ytpakdcgcgekcfaadoor", sum := "fd4a911bb82dbad5ceaf2f93fb1157ff2d53d17924edafe70cb48f9af57d26ac", func := "curtilage/curtilagelaw04.ModeParts", spec := "modeParts", named := ["bytes.ErrTooLarge"], apart := false, laid := [("bytes.ErrTooLarge", laid_bytes_ErrTooLarge)], narrowed := true }
def ModePartsUptoSaid : Prop := modePartsUptoRow.holds Tryd.pinned (OpenSpec.upto modePartsSpec)

/-- 'curtilagelaw04.ModeBack', WHERE WHAT IT READS IS OF BULK AT MOST 1048576: true; the input reads as it did. -/
def modeBackUptoRow : OpenClaim := { program := "ytpakdcgcgekcfaadoor", sum := "fd4a911bb82dbad5ceaf2f93fb1157ff2d53d17924edafe70cb48f9af57d26ac", func := "curtilage/curtilagelaw04.ModeBack", spec := "modeBack", named := ["bytes.ErrTooLarge"], apart := false, laid := [("bytes.ErrTooLarge", laid_bytes_ErrTooLarge)], narrowed := true }
def ModeBackUptoSaid : Prop := modeBackUptoRow.holds Tryd.pinned (OpenSpec.upto modeBackSpec)

/-- 'curtilagelaw04.ModeArgs', WHERE WHAT IT READS IS OF BULK AT MOST 1048576: true; the input reads as it did. -/
def modeArgsUptoRow : OpenClaim := { program := "ytpakdcgcgekcfaadoor", sum := "fd4a911bb82dbad5ceaf2f93fb1157ff2d53d17924edafe70cb48f9af57d26ac", func := "curtilage/curtilagelaw04.ModeArgs", spec := "modeArgs", named := ["bytes.ErrTooLarge"], apart := false, laid := [("bytes.ErrTooLarge", laid_bytes_ErrTooLarge)], narrowed := true }
def ModeArgsUptoSaid : Prop := modeArgsUptoRow.holds Tryd.pinned (OpenSpec.upto modeArgsSpec)

/-- 'curtilagelaw15.SlotCiphers', WHERE WHAT IT READS IS OF BULK AT MOST 1048576: true; the input reads as it did. -/
def slotCiphersUptoRow : OpenClaim := { program := "ytpakdcgcgekcfaadoor", sum := "fd4a911bb82dbad5ceaf2f93fb1157ff2d53d17924edafe70cb48f9af57d26ac", func := "curtilage/curtilagelaw15.SlotCiphers", spec := "slotCiphers", inPlace := ["internal/bytealg.MakeNoZero"], named := ["curtilage/sha.first", "curtilage/sha.rounds", "bytes.ErrTooLarge"], apart := false, laid := [("bytes.ErrTooLarge", laid_bytes_ErrTooLarge), ("curtilage/sha.first", laid_curtilage_sha_first), ("curtilage/sha.rounds", laid_curtilage_sha_rounds)], narrowed := true }
def SlotCiphersUptoSaid : Prop := slotCiphersUptoRow.holds Tryd.pinned (OpenSpec.upto slotCiphersSpec)

end Rows
end Go.Proofs.YtpakdcgcgekcfaaDoor
