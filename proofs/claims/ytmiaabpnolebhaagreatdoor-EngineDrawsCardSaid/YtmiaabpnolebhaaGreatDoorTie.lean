/-
  DERIVED. GIVEN WITH THE SEED: THE PROGRAM's TIES (one call each: nine closed facts by the kernel) AND EACH ROW's TIE, after the 31st guide's Derived/Test/Toyas{Tie, Card}.lean. No idea stands in it: it is a product of the set-up. Laid BY PROGRAM, IN A SANDBOX (cutbox-door.mjs). By AI agents, Wed Nov 11 2026. No macro, syntax, notation, axiom, sorry.
-/
import Derived.Test.YtmiaabpnolebhaaGreatDoorRows
import Derived.LaidByTextLater
import Derived.SevenTiedAt
import Derived.LaidSub
import Derived.LaidOnce
namespace Go.Proofs.YtmiaabpnolebhaaGreatDoor
open Go
set_option maxRecDepth 100000
theorem seatTie1 : Tryz.prog.laidByTextLater [("math/bits.deBruijn32tab", Rows.laid_math_bits_deBruijn32tab), ("bytes.ErrTooLarge", Rows.laid_bytes_ErrTooLarge), ("curtilage/sha.first", Rows.laid_curtilage_sha_first), ("curtilage/sha.rounds", Rows.laid_curtilage_sha_rounds), ("curtilage/ots.types", Rows.laid_curtilage_ots_types), ("curtilage/grant.spans", Rows.laid_curtilage_grant_spans)] [.data, .sentinel, .data, .data, .data, .data] true :=
  Program.laidByTextLater_by_one 62 8 65 (by kernel_rfl) (by kernel_rfl) (by kernel_rfl) (by kernel_rfl) (by kernel_rfl) (by kernel_rfl) (fun _ _ => by kernel_rfl)
theorem noOwnUnsafe : Tryz.pinned.checked.prog.headLifts.contains "ownunsafe" = false := by kernel_rfl
theorem tie : Tryz.prog.laidByTextLater [("math/bits.deBruijn32tab", Rows.laid_math_bits_deBruijn32tab), ("curtilage/sha.first", Rows.laid_curtilage_sha_first), ("curtilage/sha.rounds", Rows.laid_curtilage_sha_rounds), ("curtilage/ots.types", Rows.laid_curtilage_ots_types)] [.data, .data, .data, .data] true :=
  Program.laidByTextLater.sub seatTie1 ["math/bits.deBruijn32tab", "curtilage/sha.first", "curtilage/sha.rounds", "curtilage/ots.types"] (by kernel_rfl) (by kernel_rfl)
theorem chooseLooks_row_tie : Rows.chooseLooksRow.laidByTextAt .later Tryz.pinned [.data, .data, .data, .data] true :=
  OpenClaim.laidByTextAt_later rfl rfl tie noOwnUnsafe
theorem chooseAll_row_tie : Rows.chooseAllRow.laidByTextAt .later Tryz.pinned [.data, .data, .data, .data] true :=
  OpenClaim.laidByTextAt_later rfl rfl tie noOwnUnsafe
theorem tie2 : Tryz.prog.laidByTextLater [("curtilage/grant.spans", Rows.laid_curtilage_grant_spans)] [.data] true :=
  Program.laidByTextLater.sub seatTie1 ["curtilage/grant.spans"] (by kernel_rfl) (by kernel_rfl)
theorem coreOne_row_tie : Rows.coreOneRow.laidByTextAt .later Tryz.pinned [.data] true :=
  OpenClaim.laidByTextAt_later rfl rfl tie2 noOwnUnsafe
theorem tie3 : Tryz.prog.laidByTextLater [("bytes.ErrTooLarge", Rows.laid_bytes_ErrTooLarge), ("curtilage/sha.first", Rows.laid_curtilage_sha_first), ("curtilage/sha.rounds", Rows.laid_curtilage_sha_rounds), ("curtilage/grant.spans", Rows.laid_curtilage_grant_spans)] [.sentinel, .data, .data, .data] true :=
  Program.laidByTextLater.sub seatTie1 ["bytes.ErrTooLarge", "curtilage/sha.first", "curtilage/sha.rounds", "curtilage/grant.spans"] (by kernel_rfl) (by kernel_rfl)
theorem engineDraws_row_tie : Rows.engineDrawsRow.laidByTextAt .later Tryz.pinned [.sentinel, .data, .data, .data] true :=
  OpenClaim.laidByTextAt_later rfl rfl tie3 noOwnUnsafe
theorem engineBack_row_tie : Rows.engineBackRow.laidByTextAt .later Tryz.pinned [.sentinel, .data, .data, .data] true :=
  OpenClaim.laidByTextAt_later rfl rfl tie3 noOwnUnsafe
theorem engineDoes_row_tie : Rows.engineDoesRow.laidByTextAt .later Tryz.pinned [.sentinel, .data, .data, .data] true :=
  OpenClaim.laidByTextAt_later rfl rfl tie3 noOwnUnsafe
theorem chooseLooksUpto_row_tie : Rows.chooseLooksUptoRow.laidByTextAt .later Tryz.pinned [.data, .data, .data, .data] true :=
  OpenClaim.laidByTextAt_later rfl rfl tie noOwnUnsafe
theorem coreOneUpto_row_tie : Rows.coreOneUptoRow.laidByTextAt .later Tryz.pinned [.data] true :=
  OpenClaim.laidByTextAt_later rfl rfl tie2 noOwnUnsafe
theorem chooseAllUpto_row_tie : Rows.chooseAllUptoRow.laidByTextAt .later Tryz.pinned [.data, .data, .data, .data] true :=
  OpenClaim.laidByTextAt_later rfl rfl tie noOwnUnsafe
theorem engineDrawsUpto_row_tie : Rows.engineDrawsUptoRow.laidByTextAt .later Tryz.pinned [.sentinel, .data, .data, .data] true :=
  OpenClaim.laidByTextAt_later rfl rfl tie3 noOwnUnsafe
theorem engineBackUpto_row_tie : Rows.engineBackUptoRow.laidByTextAt .later Tryz.pinned [.sentinel, .data, .data, .data] true :=
  OpenClaim.laidByTextAt_later rfl rfl tie3 noOwnUnsafe
theorem engineDoesUpto_row_tie : Rows.engineDoesUptoRow.laidByTextAt .later Tryz.pinned [.sentinel, .data, .data, .data] true :=
  OpenClaim.laidByTextAt_later rfl rfl tie3 noOwnUnsafe
end Go.Proofs.YtmiaabpnolebhaaGreatDoor
