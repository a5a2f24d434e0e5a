/- Part 21 of 54: lemmas of the last part, each under the conditions that it names. -/
import Derived.IntWalk
import Derived.Test.YtffoddpjfgjelaaGreatDoorRows
import Derived.LoopN
import Derived.Test.YtffoddpjfgjelaaGreatDoorK01
set_option linter.unusedVariables false
set_option linter.unusedSimpArgs false
set_option maxRecDepth 1500
namespace Go.Proofs.YtffoddpjfgjelaaGreatDoor
namespace Vi
end Vi
end Go.Proofs.YtffoddpjfgjelaaGreatDoor
namespace Go.Proofs.YtffoddpjfgjelaaGreatDoor
open Go.RowKit
namespace Vi
open Mem
end Vi
end Go.Proofs.YtffoddpjfgjelaaGreatDoor
