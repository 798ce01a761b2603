/- What a machine of the document is made of. By an AI agent. -/
import Derived.Test.YtbepbcjklgfmjaaGreatDoorZ1
namespace Go.Proofs.YtbepbcjklgfmjaaGreatDoor
open Go.RowKit
set_option linter.unusedSimpArgs false
set_option linter.unusedVariables false
/-- What a machine of the document is made of; all else is nought. -/
abbrev mAgg (what P T th pg cl ps gn hd sz mo mk : Int) : Value := .agg #[.int .i64 what, .int .i64 P, .int .i64 T, .int .i64 th, .int .i64 pg, .int .i64 cl, .int .i64 ps, .int .i64 gn, .int .i64 hd, .int .i64 sz, .int .i64 mo, .int .u64 mk, .bool false, .slice none 0 0, .slice none 0 0, .bool false, .int .i64 0, .bool false, .pointer none, .int .i64 0, .int .i64 0, .int .u64 0, .int .u64 0, .int .i64 0, .int .i64 0, .int .i64 0, .int .i64 0, .int .u64 0, .slice none 0 0, .slice none 0 0, .int .i64 0, .int .i64 0]
end Go.Proofs.YtbepbcjklgfmjaaGreatDoor
