/-
  DERIVED. GIVEN WITH THE SEED: THE PROGRAM's TIES (one call each: nine closed facts by the kernel) AND EACH ROW's TIE, after the 31st guide's Derived/Test/Toyas{Tie, Card}.lean. No idea stands in it: it is a product of the set-up. Laid BY PROGRAM, IN A SANDBOX (cutbox-door.mjs). By AI agents, Wed Nov 11 2026. No macro, syntax, notation, axiom, sorry.
-/
import Derived.Test.YtffoddpjfgjelaaGreatDoorRows
import Derived.LaidByTextLater
import Derived.SevenTiedAt
import Derived.LaidSub
import Derived.LaidOnce
namespace Go.Proofs.YtffoddpjfgjelaaGreatDoor
open Go
set_option maxRecDepth 100000
theorem seatTie1 : Tryz.prog.laidByTextLater [("math/bits.deBruijn32tab", Rows.laid_math_bits_deBruijn32tab), ("math/bits.deBruijn64tab", Rows.laid_math_bits_deBruijn64tab), ("internal/strconv.uint64pow10", Rows.laid_internal_strconv_uint64pow10), ("pith/state.afterLit", Rows.laid_pith_state_afterLit), ("pith/state.afterMatch", Rows.laid_pith_state_afterMatch), ("pith/state.afterRep", Rows.laid_pith_state_afterRep), ("pith/state.afterShort", Rows.laid_pith_state_afterShort), ("pith/varint.bounds", Rows.laid_pith_varint_bounds), ("pith/chunk.moves", Rows.laid_pith_chunk_moves)] [.data, .data, .data, .data, .data, .data, .data, .data, .data] true :=
  Program.laidByTextLater_by_one 58 8 65 (by kernel_rfl) (by kernel_rfl) (by kernel_rfl) (by kernel_rfl) (by kernel_rfl) (by kernel_rfl) (fun _ _ => by kernel_rfl)
theorem noOwnUnsafe : Tryz.pinned.checked.prog.headLifts.contains "ownunsafe" = false := by kernel_rfl
theorem tie : Tryz.prog.laidByTextLater [("math/bits.deBruijn32tab", Rows.laid_math_bits_deBruijn32tab), ("math/bits.deBruijn64tab", Rows.laid_math_bits_deBruijn64tab), ("internal/strconv.uint64pow10", Rows.laid_internal_strconv_uint64pow10), ("pith/state.afterLit", Rows.laid_pith_state_afterLit), ("pith/state.afterMatch", Rows.laid_pith_state_afterMatch), ("pith/state.afterRep", Rows.laid_pith_state_afterRep), ("pith/state.afterShort", Rows.laid_pith_state_afterShort), ("pith/chunk.moves", Rows.laid_pith_chunk_moves)] [.data, .data, .data, .data, .data, .data, .data, .data] true :=
  Program.laidByTextLater.sub seatTie1 ["math/bits.deBruijn32tab", "math/bits.deBruijn64tab", "internal/strconv.uint64pow10", "pith/state.afterLit", "pith/state.afterMatch", "pith/state.afterRep", "pith/state.afterShort", "pith/chunk.moves"] (by kernel_rfl) (by kernel_rfl)
theorem lzma2Makes_row_tie : Rows.lzma2MakesRow.laidByTextAt .later Tryz.pinned [.data, .data, .data, .data, .data, .data, .data, .data] true :=
  OpenClaim.laidByTextAt_later rfl rfl tie noOwnUnsafe
theorem tie2 : Tryz.prog.laidByTextLater [("pith/state.afterLit", Rows.laid_pith_state_afterLit), ("pith/state.afterMatch", Rows.laid_pith_state_afterMatch), ("pith/state.afterRep", Rows.laid_pith_state_afterRep), ("pith/state.afterShort", Rows.laid_pith_state_afterShort), ("pith/chunk.moves", Rows.laid_pith_chunk_moves)] [.data, .data, .data, .data, .data] true :=
  Program.laidByTextLater.sub seatTie1 ["pith/state.afterLit", "pith/state.afterMatch", "pith/state.afterRep", "pith/state.afterShort", "pith/chunk.moves"] (by kernel_rfl) (by kernel_rfl)
theorem lzma2Back_row_tie : Rows.lzma2BackRow.laidByTextAt .later Tryz.pinned [.data, .data, .data, .data, .data] true :=
  OpenClaim.laidByTextAt_later rfl rfl tie2 noOwnUnsafe
theorem tie3 : Tryz.prog.laidByTextLater [("math/bits.deBruijn32tab", Rows.laid_math_bits_deBruijn32tab), ("math/bits.deBruijn64tab", Rows.laid_math_bits_deBruijn64tab), ("internal/strconv.uint64pow10", Rows.laid_internal_strconv_uint64pow10), ("pith/state.afterLit", Rows.laid_pith_state_afterLit), ("pith/state.afterMatch", Rows.laid_pith_state_afterMatch), ("pith/state.afterRep", Rows.laid_pith_state_afterRep), ("pith/state.afterShort", Rows.laid_pith_state_afterShort), ("pith/varint.bounds", Rows.laid_pith_varint_bounds), ("pith/chunk.moves", Rows.laid_pith_chunk_moves)] [.data, .data, .data, .data, .data, .data, .data, .data, .data] true :=
  Program.laidByTextLater.sub seatTie1 ["math/bits.deBruijn32tab", "math/bits.deBruijn64tab", "internal/strconv.uint64pow10", "pith/state.afterLit", "pith/state.afterMatch", "pith/state.afterRep", "pith/state.afterShort", "pith/varint.bounds", "pith/chunk.moves"] (by kernel_rfl) (by kernel_rfl)
theorem chainRuns_row_tie : Rows.chainRunsRow.laidByTextAt .later Tryz.pinned [.data, .data, .data, .data, .data, .data, .data, .data, .data] true :=
  OpenClaim.laidByTextAt_later rfl rfl tie3 noOwnUnsafe
theorem tie4 : Tryz.prog.laidByTextLater [("pith/state.afterLit", Rows.laid_pith_state_afterLit), ("pith/state.afterMatch", Rows.laid_pith_state_afterMatch), ("pith/state.afterRep", Rows.laid_pith_state_afterRep), ("pith/state.afterShort", Rows.laid_pith_state_afterShort), ("pith/varint.bounds", Rows.laid_pith_varint_bounds), ("pith/chunk.moves", Rows.laid_pith_chunk_moves)] [.data, .data, .data, .data, .data, .data] true :=
  Program.laidByTextLater.sub seatTie1 ["pith/state.afterLit", "pith/state.afterMatch", "pith/state.afterRep", "pith/state.afterShort", "pith/varint.bounds", "pith/chunk.moves"] (by kernel_rfl) (by kernel_rfl)
theorem chainBack_row_tie : Rows.chainBackRow.laidByTextAt .later Tryz.pinned [.data, .data, .data, .data, .data, .data] true :=
  OpenClaim.laidByTextAt_later rfl rfl tie4 noOwnUnsafe
theorem chainLists_row_tie : Rows.chainListsRow.laidByTextAt .later Tryz.pinned [.data, .data, .data, .data, .data, .data] true :=
  OpenClaim.laidByTextAt_later rfl rfl tie4 noOwnUnsafe
theorem lzma2MakesUpto_row_tie : Rows.lzma2MakesUptoRow.laidByTextAt .later Tryz.pinned [.data, .data, .data, .data, .data, .data, .data, .data] true :=
  OpenClaim.laidByTextAt_later rfl rfl tie noOwnUnsafe
theorem lzma2BackUpto_row_tie : Rows.lzma2BackUptoRow.laidByTextAt .later Tryz.pinned [.data, .data, .data, .data, .data] true :=
  OpenClaim.laidByTextAt_later rfl rfl tie2 noOwnUnsafe
theorem chainRunsUpto_row_tie : Rows.chainRunsUptoRow.laidByTextAt .later Tryz.pinned [.data, .data, .data, .data, .data, .data, .data, .data, .data] true :=
  OpenClaim.laidByTextAt_later rfl rfl tie3 noOwnUnsafe
theorem chainBackUpto_row_tie : Rows.chainBackUptoRow.laidByTextAt .later Tryz.pinned [.data, .data, .data, .data, .data, .data] true :=
  OpenClaim.laidByTextAt_later rfl rfl tie4 noOwnUnsafe
theorem chainListsUpto_row_tie : Rows.chainListsUptoRow.laidByTextAt .later Tryz.pinned [.data, .data, .data, .data, .data, .data] true :=
  OpenClaim.laidByTextAt_later rfl rfl tie4 noOwnUnsafe
end Go.Proofs.YtffoddpjfgjelaaGreatDoor
