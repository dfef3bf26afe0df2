/-
  No cell of these rows narrows 'for every input' (looked for: loops, veiled, ifaces, maps, wideKeys, modest, calm, conditions, laid).
  DERIVED. THE GIVEN ROWS OF THIS SEAT. 5 by the template 'for every input the law returns true; each argument reads behind the call as it read before'; 0 by the template 'total and deterministic' (their statements: YtmcpppgnfmopoaaTotals.lean).
  GIVEN WITH THE SEED: the statements are not yours to turn. If you find one false, say at which input.
  Laid BY PROGRAM, IN A SANDBOX (cutbox-rows.mjs): the forced cells as the released guide's own fill.sh prints them over the translation cc34baa4b74cf0fa… (all of the seat's roots in one cut). By AI agents, Wed Nov 11 2026. No macro, syntax, notation, axiom, sorry.
-/
import Derived.Test.YtmcpppgnfmopoaaChecked
import GoSem.Claim
import GoSem.ClaimJoined
import GoSem.ClaimMapViews
import Derived.JoinedTies
import Derived.KernelRfl
namespace Go.Proofs.Ytmcpppgnfmopoaa
/- THE CELL 'sum', in the pinned program and in every row, IS THE sha256 OF THE DUMP (.gsa) THAT YtmcpppgnfmopoaaProg.lean LOADS. Nothing in Lean hashes anything: it is a label: what it is worth is what the hold of that sum in a sandbox is worth. -/
noncomputable def Try.pinned : Pinned := { name := "ytmcpppgnfmopoaa", sum := "cc34baa4b74cf0fa01e27d0069b1fb1fc4f12f6731e1e837101990652c72f873", checked := Try.checked }
namespace Rows
def none {H : Type} : Left H := { results := [], args := [] }

/-- 'curtilagelaw23.ChooseFalls': WHATEVER THE INPUT: true; the input reads as it did. -/
def chooseFallsSpec : ChangeSpec := { name := "chooseFalls", fn := fun _ => fun
  | [d1, d2, d3, d4] => { results := [.lit (.bool true)], args := [d1, d2, d3, d4] }
  | _ => none }
def chooseFallsRow : OpenClaim := { program := "ytmcpppgnfmopoaa", sum := "cc34baa4b74cf0fa01e27d0069b1fb1fc4f12f6731e1e837101990652c72f873", func := "curtilage/curtilagelaw23.ChooseFalls", spec := "chooseFalls", unfollowed := true, recurses := true, apart := false }
def ChooseFallsSaid : Prop := chooseFallsRow.holds Try.pinned (OpenSpec.ofChange chooseFallsSpec)

/-- ITS FALSE NEIGHBOUR: 'it returns false'. Refute it at one input. -/
def chooseFallsWrong : ChangeSpec := { name := "chooseFalls", fn := fun _ => fun
  | [d1, d2, d3, d4] => { results := [.lit (.bool false)], args := [d1, d2, d3, d4] }
  | _ => none }
def ChooseFallsWrongFalsely : Prop := chooseFallsRow.holds Try.pinned (OpenSpec.ofChange chooseFallsWrong)

/-- 'curtilagelaw10.FuseCuts': WHATEVER THE INPUT: true; the input reads as it did. -/
def fuseCutsSpec : ChangeSpec := { name := "fuseCuts", fn := fun _ => fun
  | [d1, d2] => { results := [.lit (.bool true)], args := [d1, d2] }
  | _ => none }
def fuseCutsRow : OpenClaim := { program := "ytmcpppgnfmopoaa", sum := "cc34baa4b74cf0fa01e27d0069b1fb1fc4f12f6731e1e837101990652c72f873", func := "curtilage/curtilagelaw10.FuseCuts", spec := "fuseCuts", apart := false }
def FuseCutsSaid : Prop := fuseCutsRow.holds Try.pinned (OpenSpec.ofChange fuseCutsSpec)

/-- ITS FALSE NEIGHBOUR: 'it returns false'. Refute it at one input. -/
def fuseCutsWrong : ChangeSpec := { name := "fuseCuts", fn := fun _ => fun
  | [d1, d2] => { results := [.lit (.bool false)], args := [d1, d2] }
  | _ => none }
def FuseCutsWrongFalsely : Prop := fuseCutsRow.holds Try.pinned (OpenSpec.ofChange fuseCutsWrong)

/-- 'curtilagelaw10.FuseSets': WHATEVER THE INPUT: true; the input reads as it did. -/
def fuseSetsSpec : ChangeSpec := { name := "fuseSets", fn := fun _ => fun
  | [d1, d2] => { results := [.lit (.bool true)], args := [d1, d2] }
  | _ => none }
def fuseSetsRow : OpenClaim := { program := "ytmcpppgnfmopoaa", sum := "cc34baa4b74cf0fa01e27d0069b1fb1fc4f12f6731e1e837101990652c72f873", func := "curtilage/curtilagelaw10.FuseSets", spec := "fuseSets", unfollowed := true, recurses := true, apart := false }
def FuseSetsSaid : Prop := fuseSetsRow.holds Try.pinned (OpenSpec.ofChange fuseSetsSpec)

/-- ITS FALSE NEIGHBOUR: 'it returns false'. Refute it at one input. -/
def fuseSetsWrong : ChangeSpec := { name := "fuseSets", fn := fun _ => fun
  | [d1, d2] => { results := [.lit (.bool false)], args := [d1, d2] }
  | _ => none }
def FuseSetsWrongFalsely : Prop := fuseSetsRow.holds Try.pinned (OpenSpec.ofChange fuseSetsWrong)

/-- 'curtilagelaw10.FusePlays': WHATEVER THE INPUT: true; the input reads as it did. -/
def fusePlaysSpec : ChangeSpec := { name := "fusePlays", fn := fun _ => fun
  | [d1, d2] => { results := [.lit (.bool true)], args := [d1, d2] }
  | _ => none }
def fusePlaysRow : OpenClaim := { program := "ytmcpppgnfmopoaa", sum := "cc34baa4b74cf0fa01e27d0069b1fb1fc4f12f6731e1e837101990652c72f873", func := "curtilage/curtilagelaw10.FusePlays", spec := "fusePlays", unfollowed := true, recurses := true, apart := false }
def FusePlaysSaid : Prop := fusePlaysRow.holds Try.pinned (OpenSpec.ofChange fusePlaysSpec)

/-- ITS FALSE NEIGHBOUR: 'it returns false'. Refute it at one input. -/
def fusePlaysWrong : ChangeSpec := { name := "fusePlays", fn := fun _ => fun
  | [d1, d2] => { results := [.lit (.bool false)], args := [d1, d2] }
  | _ => none }
def FusePlaysWrongFalsely : Prop := fusePlaysRow.holds Try.pinned (OpenSpec.ofChange fusePlaysWrong)

/-- 'curtilagelaw10.FuseArgs': WHATEVER THE INPUT: true; the input reads as it did. -/
def fuseArgsSpec : ChangeSpec := { name := "fuseArgs", fn := fun _ => fun
  | [d1, d2, d3, d4] => { results := [.lit (.bool true)], args := [d1, d2, d3, d4] }
  | _ => none }
def fuseArgsRow : OpenClaim := { program := "ytmcpppgnfmopoaa", sum := "cc34baa4b74cf0fa01e27d0069b1fb1fc4f12f6731e1e837101990652c72f873", func := "curtilage/curtilagelaw10.FuseArgs", spec := "fuseArgs", unfollowed := true, recurses := true, apart := false }
def FuseArgsSaid : Prop := fuseArgsRow.holds Try.pinned (OpenSpec.ofChange fuseArgsSpec)

/-- ITS FALSE NEIGHBOUR: 'it returns false'. Refute it at one input. -/
def fuseArgsWrong : ChangeSpec := { name := "fuseArgs", fn := fun _ => fun
  | [d1, d2, d3, d4] => { results := [.lit (.bool false)], args := [d1, d2, d3, d4] }
  | _ => none }
def FuseArgsWrongFalsely : Prop := fuseArgsRow.holds Try.pinned (OpenSpec.ofChange fuseArgsWrong)

/- THE SECOND FORM. 'bulk': how many values and letters a reading holds, each counted each time it is reached (what is shared counts as often as it is met; a slice's spare places count too). A statement '..UptoSaid' is the law's where the arguments, and the package variables that the reading takes, are together of bulk at most 1048576: NARROWER than '..Said'. Prove '..Said' where nothing that the law and all that it calls make is longer than what came in: it says more and counts as full. Else prove '..UptoSaid'. A law counts once. -/
mutual
def uptoBulk {H : Type} : DataW H → Nat
  | .lit (.string bytes) => bytes.length + 1
  | .lit _ => 1
  | .nil => 1
  | .ptr d => uptoBulk d + 1
  | .slice elems spare => uptoBulkAll elems + uptoBulkAll spare + 1
  | .agg parts => uptoBulkAll parts + 1
  | .iface _ d => uptoBulk d + 1
  | .map entries => uptoBulkEntries entries + 1
  | .held _ => 1
def uptoBulkAll {H : Type} : List (DataW H) → Nat
  | [] => 0
  | d :: r => uptoBulk d + uptoBulkAll r
def uptoBulkEntries {H : Type} : List (Lit × DataW H) → Nat
  | [] => 0
  | x :: r => uptoBulkEntry x + uptoBulkEntries r
def uptoBulkEntry {H : Type} : Lit × DataW H → Nat
  | (.string bytes, d) => bytes.length + uptoBulk d + 1
  | (_, d) => uptoBulk d + 1
 end
def uptoSmall : (H : Type) → List (DataW H) → Bool := fun _ ds => decide (uptoBulkAll ds ≤ 1048576)
def OpenSpec.upto (s : _root_.Go.ChangeSpec) : _root_.Go.OpenSpec := { _root_.Go.OpenSpec.ofChange s with cond := some uptoSmall }

/-- 'curtilagelaw23.ChooseFalls', WHERE WHAT IT READS IS OF BULK AT MOST 1048576: true; the input reads as it did. -/
def chooseFallsUptoRow : OpenClaim := { program := "ytmcpppgnfmopoaa", sum := "cc34baa4b74cf0fa01e27d0069b1fb1fc4f12f6731e1e837101990652c72f873", func := "curtilage/curtilagelaw23.ChooseFalls", spec := "chooseFalls", unfollowed := true, recurses := true, apart := false, narrowed := true }
def ChooseFallsUptoSaid : Prop := chooseFallsUptoRow.holds Try.pinned (OpenSpec.upto chooseFallsSpec)

/-- 'curtilagelaw10.FuseCuts', WHERE WHAT IT READS IS OF BULK AT MOST 1048576: true; the input reads as it did. -/
def fuseCutsUptoRow : OpenClaim := { program := "ytmcpppgnfmopoaa", sum := "cc34baa4b74cf0fa01e27d0069b1fb1fc4f12f6731e1e837101990652c72f873", func := "curtilage/curtilagelaw10.FuseCuts", spec := "fuseCuts", apart := false, narrowed := true }
def FuseCutsUptoSaid : Prop := fuseCutsUptoRow.holds Try.pinned (OpenSpec.upto fuseCutsSpec)

/-- 'curtilagelaw10.FuseSets', WHERE WHAT IT READS IS OF BULK AT MOST 1048576: true; the input reads as it did. -/
def fuseSetsUptoRow : OpenClaim := { program := "ytmcpppgnfmopoaa", sum := "cc34baa4b74cf0fa01e27d0069b1fb1fc4f12f6731e1e837101990652c72f873", func := "curtilage/curtilagelaw10.FuseSets", spec := "fuseSets", unfollowed := true, recurses := true, apart := false, narrowed := true }
def FuseSetsUptoSaid : Prop := fuseSetsUptoRow.holds Try.pinned (OpenSpec.upto fuseSetsSpec)

/-- 'curtilagelaw10.FusePlays', WHERE WHAT IT READS IS OF BULK AT MOST 1048576: true; the input reads as it did. -/
def fusePlaysUptoRow : OpenClaim := { program := "ytmcpppgnfmopoaa", sum := "cc34baa4b74cf0fa01e27d0069b1fb1fc4f12f6731e1e837101990652c72f873", func := "curtilage/curtilagelaw10.FusePlays", spec := "fusePlays", unfollowed := true, recurses := true, apart := false, narrowed := true }
def FusePlaysUptoSaid : Prop := fusePlaysUptoRow.holds Try.pinned (OpenSpec.upto fusePlaysSpec)

/-- 'curtilagelaw10.FuseArgs', WHERE WHAT IT READS IS OF BULK AT MOST 1048576: true; the input reads as it did. -/
def fuseArgsUptoRow : OpenClaim := { program := "ytmcpppgnfmopoaa", sum := "cc34baa4b74cf0fa01e27d0069b1fb1fc4f12f6731e1e837101990652c72f873", func := "curtilage/curtilagelaw10.FuseArgs", spec := "fuseArgs", unfollowed := true, recurses := true, apart := false, narrowed := true }
def FuseArgsUptoSaid : Prop := fuseArgsUptoRow.holds Try.pinned (OpenSpec.upto fuseArgsSpec)

end Rows
end Go.Proofs.Ytmcpppgnfmopoaa
