/- What the evaluator asks of the program's types: written by a program (wip/gen_ty.py). -/
import Derived.Test.YtagmohpafjncfaaProg
import Derived.Test.YtagmohpafjncfaaEngP
set_option maxRecDepth 100000
namespace Go.Proofs.Ytagmohpafjncfaa
namespace Eng
theorem ty0 : (tk Try.prog 2 = .int .i64) ∧
    (tsz Try.prog 2 = 1) ∧
    (tby Try.prog 2 = 8) ∧
    (tplain Try.prog 2 = true) ∧
    (isAggT Try.prog 2 = false) ∧
    (tz Try.prog 2 = [.i .i64 0]) ∧
    (tk Try.prog 3 = .int .i64) ∧
    (tsz Try.prog 3 = 1) ∧
    (tby Try.prog 3 = 8) ∧
    (tplain Try.prog 3 = true) ∧
    (isAggT Try.prog 3 = false) ∧
    (tz Try.prog 3 = [.i .i64 0]) ∧
    (tk Try.prog 4 = .bool) ∧
    (tsz Try.prog 4 = 1) ∧
    (tby Try.prog 4 = 1) ∧
    (tplain Try.prog 4 = true) ∧
    (isAggT Try.prog 4 = false) ∧
    (tz Try.prog 4 = [.b false]) ∧
    (tk Try.prog 5 = .int .u8) ∧
    (tsz Try.prog 5 = 1) ∧
    (tby Try.prog 5 = 1) ∧
    (tplain Try.prog 5 = true) ∧
    (isAggT Try.prog 5 = false) ∧
    (tz Try.prog 5 = [.i .u8 0]) ∧
    (tk Try.prog 6 = .int .u8) ∧
    (tsz Try.prog 6 = 1) ∧
    (tby Try.prog 6 = 1) ∧
    (tplain Try.prog 6 = true) ∧
    (isAggT Try.prog 6 = false) ∧
    (tz Try.prog 6 = [.i .u8 0]) ∧
    (tk Try.prog 7 = .struct [(0, 2), (1, 3), (2, 4), (3, 6)]) ∧
    (tsz Try.prog 7 = 4) ∧
    (tby Try.prog 7 = 24) ∧
    (tplain Try.prog 7 = false) ∧
    (isAggT Try.prog 7 = true) ∧
    (tz Try.prog 7 = [.i .i64 0, .i .i64 0, .b false, .i .u8 0]) ∧
    (arrOf Try.prog 7 = none) ∧
    (fieldOf Try.prog 7 0 = some (0, 2)) ∧
    (fieldOf Try.prog 7 1 = some (1, 3)) ∧
    (fieldOf Try.prog 7 2 = some (2, 4)) :=
  by and_intros <;> kernel_rfl
theorem ty1 : (fieldOf Try.prog 7 3 = some (3, 6)) ∧
    (fieldsFull Try.prog 7 = true) ∧
    (tk Try.prog 8 = .struct [(0, 2), (1, 3), (2, 4), (3, 6)]) ∧
    (tsz Try.prog 8 = 4) ∧
    (tby Try.prog 8 = 24) ∧
    (tplain Try.prog 8 = false) ∧
    (isAggT Try.prog 8 = true) ∧
    (tz Try.prog 8 = [.i .i64 0, .i .i64 0, .b false, .i .u8 0]) ∧
    (arrOf Try.prog 8 = none) ∧
    (fieldOf Try.prog 8 0 = some (0, 2)) ∧
    (fieldOf Try.prog 8 1 = some (1, 3)) ∧
    (fieldOf Try.prog 8 2 = some (2, 4)) ∧
    (fieldOf Try.prog 8 3 = some (3, 6)) ∧
    (fieldsFull Try.prog 8 = true) ∧
    (tk Try.prog 9 = .str) ∧
    (tsz Try.prog 9 = 1) ∧
    (tby Try.prog 9 = 16) ∧
    (tplain Try.prog 9 = true) ∧
    (isAggT Try.prog 9 = false) ∧
    (tz Try.prog 9 = [.v (.string ByteArray.empty)]) ∧
    (tk Try.prog 10 = .str) ∧
    (tsz Try.prog 10 = 1) ∧
    (tby Try.prog 10 = 16) ∧
    (tplain Try.prog 10 = true) ∧
    (isAggT Try.prog 10 = false) ∧
    (tz Try.prog 10 = [.v (.string ByteArray.empty)]) ∧
    (tk Try.prog 11 = .str) ∧
    (tsz Try.prog 11 = 1) ∧
    (tby Try.prog 11 = 16) ∧
    (tplain Try.prog 11 = true) ∧
    (isAggT Try.prog 11 = false) ∧
    (tz Try.prog 11 = [.v (.string ByteArray.empty)]) ∧
    (tk Try.prog 12 = .int .u64) ∧
    (tsz Try.prog 12 = 1) ∧
    (tby Try.prog 12 = 8) ∧
    (tplain Try.prog 12 = true) ∧
    (isAggT Try.prog 12 = false) ∧
    (tz Try.prog 12 = [.i .u64 0]) ∧
    (tk Try.prog 13 = .struct [(0, 9), (1, 12)]) ∧
    (tsz Try.prog 13 = 2) :=
  by and_intros <;> kernel_rfl
theorem ty2 : (tby Try.prog 13 = 24) ∧
    (tplain Try.prog 13 = false) ∧
    (isAggT Try.prog 13 = true) ∧
    (tz Try.prog 13 = [.v (.string ByteArray.empty), .i .u64 0]) ∧
    (arrOf Try.prog 13 = none) ∧
    (fieldOf Try.prog 13 0 = some (0, 9)) ∧
    (fieldOf Try.prog 13 1 = some (1, 12)) ∧
    (fieldsFull Try.prog 13 = true) ∧
    (tk Try.prog 14 = .struct [(0, 9), (1, 12)]) ∧
    (tsz Try.prog 14 = 2) ∧
    (tby Try.prog 14 = 24) ∧
    (tplain Try.prog 14 = false) ∧
    (isAggT Try.prog 14 = true) ∧
    (tz Try.prog 14 = [.v (.string ByteArray.empty), .i .u64 0]) ∧
    (arrOf Try.prog 14 = none) ∧
    (fieldOf Try.prog 14 0 = some (0, 9)) ∧
    (fieldOf Try.prog 14 1 = some (1, 12)) ∧
    (fieldsFull Try.prog 14 = true) ∧
    (tsz Try.prog 15 = 1) ∧
    (tsz Try.prog 16 = 1) ∧
    (tsz Try.prog 17 = 1) ∧
    (tk Try.prog 18 = .struct [(0, 17)]) ∧
    (tsz Try.prog 18 = 1) ∧
    (tby Try.prog 18 = 8) ∧
    (tplain Try.prog 18 = false) ∧
    (isAggT Try.prog 18 = true) ∧
    (tz Try.prog 18 = [.v (.pointer none)]) ∧
    (arrOf Try.prog 18 = none) ∧
    (fieldOf Try.prog 18 0 = some (0, 17)) ∧
    (fieldsFull Try.prog 18 = true) ∧
    (tk Try.prog 19 = .struct [(0, 17)]) ∧
    (tsz Try.prog 19 = 1) ∧
    (tby Try.prog 19 = 8) ∧
    (tplain Try.prog 19 = false) ∧
    (isAggT Try.prog 19 = true) ∧
    (tz Try.prog 19 = [.v (.pointer none)]) ∧
    (arrOf Try.prog 19 = none) ∧
    (fieldOf Try.prog 19 0 = some (0, 17)) ∧
    (fieldsFull Try.prog 19 = true) ∧
    (isIf Try.prog 20 = true) :=
  by and_intros <;> kernel_rfl
theorem ty3 : (tk Try.prog 21 = .int .i32) ∧
    (tsz Try.prog 21 = 1) ∧
    (tby Try.prog 21 = 4) ∧
    (tplain Try.prog 21 = true) ∧
    (isAggT Try.prog 21 = false) ∧
    (tz Try.prog 21 = [.i .i32 0]) ∧
    (tk Try.prog 22 = .slice 5) ∧
    (tsz Try.prog 22 = 1) ∧
    (tby Try.prog 22 = 24) ∧
    (tplain Try.prog 22 = true) ∧
    (isAggT Try.prog 22 = false) ∧
    (tz Try.prog 22 = [.sl none 0 0 0 (fun _ _ => .v undef)]) ∧
    (tsz Try.prog 24 = 1) ∧
    (tk Try.prog 27 = .slice 3) ∧
    (tsz Try.prog 27 = 1) ∧
    (tby Try.prog 27 = 24) ∧
    (tplain Try.prog 27 = true) ∧
    (isAggT Try.prog 27 = false) ∧
    (tz Try.prog 27 = [.sl none 0 0 0 (fun _ _ => .v undef)]) ∧
    (tk Try.prog 28 = .slice 3) ∧
    (tsz Try.prog 28 = 1) ∧
    (tby Try.prog 28 = 24) ∧
    (tplain Try.prog 28 = true) ∧
    (isAggT Try.prog 28 = false) ∧
    (tz Try.prog 28 = [.sl none 0 0 0 (fun _ _ => .v undef)]) ∧
    (tk Try.prog 29 = .struct [(0, 4), (1, 28), (2, 28)]) ∧
    (tsz Try.prog 29 = 3) ∧
    (tby Try.prog 29 = 56) ∧
    (tplain Try.prog 29 = false) ∧
    (isAggT Try.prog 29 = true) ∧
    (tz Try.prog 29 = [.b false, .sl none 0 0 0 (fun _ _ => .v undef), .sl none 0 0 0 (fun _ _ => .v undef)]) ∧
    (arrOf Try.prog 29 = none) ∧
    (fieldOf Try.prog 29 0 = some (0, 4)) ∧
    (fieldOf Try.prog 29 1 = some (1, 28)) ∧
    (fieldOf Try.prog 29 2 = some (2, 28)) ∧
    (fieldsFull Try.prog 29 = true) ∧
    (tk Try.prog 30 = .struct [(0, 4), (1, 28), (2, 28)]) ∧
    (tsz Try.prog 30 = 3) ∧
    (tby Try.prog 30 = 56) ∧
    (tplain Try.prog 30 = false) :=
  by and_intros <;> kernel_rfl
theorem ty4 : (isAggT Try.prog 30 = true) ∧
    (tz Try.prog 30 = [.b false, .sl none 0 0 0 (fun _ _ => .v undef), .sl none 0 0 0 (fun _ _ => .v undef)]) ∧
    (arrOf Try.prog 30 = none) ∧
    (fieldOf Try.prog 30 0 = some (0, 4)) ∧
    (fieldOf Try.prog 30 1 = some (1, 28)) ∧
    (fieldOf Try.prog 30 2 = some (2, 28)) ∧
    (fieldsFull Try.prog 30 = true) ∧
    (tk Try.prog 32 = .int .i64) ∧
    (tsz Try.prog 32 = 1) ∧
    (tby Try.prog 32 = 8) ∧
    (tplain Try.prog 32 = true) ∧
    (isAggT Try.prog 32 = false) ∧
    (tz Try.prog 32 = [.i .i64 0]) ∧
    (tk Try.prog 49 = .array 4 3) ∧
    (tsz Try.prog 49 = 4) ∧
    (tby Try.prog 49 = 32) ∧
    (tplain Try.prog 49 = false) ∧
    (isAggT Try.prog 49 = true) ∧
    (tz Try.prog 49 = [.i .i64 0, .i .i64 0, .i .i64 0, .i .i64 0]) ∧
    (arrOf Try.prog 49 = some 3) ∧
    (fieldsFull Try.prog 49 = true) ∧
    (tk Try.prog 53 = .struct [(0, 22), (1, 3)]) ∧
    (tsz Try.prog 53 = 2) ∧
    (tby Try.prog 53 = 32) ∧
    (tplain Try.prog 53 = false) ∧
    (isAggT Try.prog 53 = true) ∧
    (tz Try.prog 53 = [.sl none 0 0 0 (fun _ _ => .v undef), .i .i64 0]) ∧
    (arrOf Try.prog 53 = none) ∧
    (fieldOf Try.prog 53 0 = some (0, 22)) ∧
    (fieldOf Try.prog 53 1 = some (1, 3)) ∧
    (fieldsFull Try.prog 53 = true) ∧
    (tk Try.prog 54 = .struct [(0, 22), (1, 3)]) ∧
    (tsz Try.prog 54 = 2) ∧
    (tby Try.prog 54 = 32) ∧
    (tplain Try.prog 54 = false) ∧
    (isAggT Try.prog 54 = true) ∧
    (tz Try.prog 54 = [.sl none 0 0 0 (fun _ _ => .v undef), .i .i64 0]) ∧
    (arrOf Try.prog 54 = none) ∧
    (fieldOf Try.prog 54 0 = some (0, 22)) ∧
    (fieldOf Try.prog 54 1 = some (1, 3)) :=
  by and_intros <;> kernel_rfl
theorem ty5 : (fieldsFull Try.prog 54 = true) ∧
    (tk Try.prog 62 = .int .u64) ∧
    (tsz Try.prog 62 = 1) ∧
    (tby Try.prog 62 = 8) ∧
    (tplain Try.prog 62 = true) ∧
    (isAggT Try.prog 62 = false) ∧
    (tz Try.prog 62 = [.i .u64 0]) ∧
    (tk Try.prog 67 = .slice 28) ∧
    (tsz Try.prog 67 = 1) ∧
    (tby Try.prog 67 = 24) ∧
    (tplain Try.prog 67 = true) ∧
    (isAggT Try.prog 67 = false) ∧
    (tz Try.prog 67 = [.sl none 0 0 0 (fun _ _ => .v undef)]) ∧
    (tk Try.prog 70 = .int .u64) ∧
    (tsz Try.prog 70 = 1) ∧
    (tby Try.prog 70 = 8) ∧
    (tplain Try.prog 70 = true) ∧
    (isAggT Try.prog 70 = false) ∧
    (tz Try.prog 70 = [.i .u64 0]) ∧
    (tk Try.prog 93 = .int .u32) ∧
    (tsz Try.prog 93 = 1) ∧
    (tby Try.prog 93 = 4) ∧
    (tplain Try.prog 93 = true) ∧
    (isAggT Try.prog 93 = false) ∧
    (tz Try.prog 93 = [.i .u32 0]) ∧
    (tk Try.prog 96 = .struct [(0, 17), (1, 17), (2, 17), (3, 9)]) ∧
    (tsz Try.prog 96 = 4) ∧
    (tby Try.prog 96 = 40) ∧
    (tplain Try.prog 96 = false) ∧
    (isAggT Try.prog 96 = true) ∧
    (tz Try.prog 96 = [.v (.pointer none), .v (.pointer none), .v (.pointer none), .v (.string ByteArray.empty)]) ∧
    (arrOf Try.prog 96 = none) ∧
    (fieldOf Try.prog 96 0 = some (0, 17)) ∧
    (fieldOf Try.prog 96 1 = some (1, 17)) ∧
    (fieldOf Try.prog 96 2 = some (2, 17)) ∧
    (fieldOf Try.prog 96 3 = some (3, 9)) ∧
    (fieldsFull Try.prog 96 = true) ∧
    (tk Try.prog 97 = .struct [(0, 17), (1, 17), (2, 17), (3, 9)]) ∧
    (tsz Try.prog 97 = 4) ∧
    (tby Try.prog 97 = 40) :=
  by and_intros <;> kernel_rfl
theorem ty6 : (tplain Try.prog 97 = false) ∧
    (isAggT Try.prog 97 = true) ∧
    (tz Try.prog 97 = [.v (.pointer none), .v (.pointer none), .v (.pointer none), .v (.string ByteArray.empty)]) ∧
    (arrOf Try.prog 97 = none) ∧
    (fieldOf Try.prog 97 0 = some (0, 17)) ∧
    (fieldOf Try.prog 97 1 = some (1, 17)) ∧
    (fieldOf Try.prog 97 2 = some (2, 17)) ∧
    (fieldOf Try.prog 97 3 = some (3, 9)) ∧
    (fieldsFull Try.prog 97 = true) ∧
    (tk Try.prog 98 = .array 0 16) ∧
    (tsz Try.prog 98 = 0) ∧
    (tby Try.prog 98 = 0) ∧
    (tplain Try.prog 98 = false) ∧
    (isAggT Try.prog 98 = true) ∧
    (tz Try.prog 98 = []) ∧
    (arrOf Try.prog 98 = some 16) ∧
    (fieldsFull Try.prog 98 = true) ∧
    (tk Try.prog 99 = .struct [(0, 98)]) ∧
    (tsz Try.prog 99 = 0) ∧
    (tby Try.prog 99 = 0) ∧
    (tplain Try.prog 99 = false) ∧
    (isAggT Try.prog 99 = true) ∧
    (tz Try.prog 99 = []) ∧
    (arrOf Try.prog 99 = none) ∧
    (fieldOf Try.prog 99 0 = some (0, 98)) ∧
    (tk Try.prog 100 = .struct [(0, 98)]) ∧
    (tsz Try.prog 100 = 0) ∧
    (tby Try.prog 100 = 0) ∧
    (tplain Try.prog 100 = false) ∧
    (isAggT Try.prog 100 = true) ∧
    (tz Try.prog 100 = []) ∧
    (arrOf Try.prog 100 = none) ∧
    (fieldOf Try.prog 100 0 = some (0, 98)) ∧
    (tk Try.prog 102 = .int .u8) ∧
    (tsz Try.prog 102 = 1) ∧
    (tby Try.prog 102 = 1) ∧
    (tplain Try.prog 102 = true) ∧
    (isAggT Try.prog 102 = false) ∧
    (tz Try.prog 102 = [.i .u8 0]) ∧
    (tk Try.prog 103 = .int .u8) :=
  by and_intros <;> kernel_rfl
theorem ty7 : (tsz Try.prog 103 = 1) ∧
    (tby Try.prog 103 = 1) ∧
    (tplain Try.prog 103 = true) ∧
    (isAggT Try.prog 103 = false) ∧
    (tz Try.prog 103 = [.i .u8 0]) ∧
    (tsz Try.prog 105 = 1) ∧
    (tk Try.prog 106 = .int .i32) ∧
    (tsz Try.prog 106 = 1) ∧
    (tby Try.prog 106 = 4) ∧
    (tplain Try.prog 106 = true) ∧
    (isAggT Try.prog 106 = false) ∧
    (tz Try.prog 106 = [.i .i32 0]) ∧
    (tk Try.prog 107 = .int .i32) ∧
    (tsz Try.prog 107 = 1) ∧
    (tby Try.prog 107 = 4) ∧
    (tplain Try.prog 107 = true) ∧
    (isAggT Try.prog 107 = false) ∧
    (tz Try.prog 107 = [.i .i32 0]) ∧
    (tk Try.prog 108 = .struct [(0, 12), (1, 12), (2, 93), (3, 102), (4, 5), (5, 5), (6, 103), (7, 104), (8, 105), (9, 106), (10, 107)]) ∧
    (tsz Try.prog 108 = 11) ∧
    (tby Try.prog 108 = 48) ∧
    (tplain Try.prog 108 = false) ∧
    (isAggT Try.prog 108 = true) ∧
    (tz Try.prog 108 = [.i .u64 0, .i .u64 0, .i .u32 0, .i .u8 0, .i .u8 0, .i .u8 0, .i .u8 0, .v .nilFunc, .v (.pointer none), .i .i32 0, .i .i32 0]) ∧
    (arrOf Try.prog 108 = none) ∧
    (fieldOf Try.prog 108 0 = some (0, 12)) ∧
    (fieldOf Try.prog 108 1 = some (1, 12)) ∧
    (fieldOf Try.prog 108 2 = some (2, 93)) ∧
    (fieldOf Try.prog 108 3 = some (3, 102)) ∧
    (fieldOf Try.prog 108 4 = some (4, 5)) ∧
    (fieldOf Try.prog 108 5 = some (5, 5)) ∧
    (fieldOf Try.prog 108 6 = some (6, 103)) ∧
    (fieldOf Try.prog 108 7 = some (7, 104)) ∧
    (fieldOf Try.prog 108 8 = some (8, 105)) ∧
    (fieldOf Try.prog 108 9 = some (9, 106)) ∧
    (fieldOf Try.prog 108 10 = some (10, 107)) ∧
    (tk Try.prog 109 = .struct [(0, 12), (1, 12), (2, 93), (3, 102), (4, 5), (5, 5), (6, 103), (7, 104), (8, 105), (9, 106), (10, 107)]) ∧
    (tsz Try.prog 109 = 11) ∧
    (tby Try.prog 109 = 48) ∧
    (tplain Try.prog 109 = false) :=
  by and_intros <;> kernel_rfl
theorem ty8 : (isAggT Try.prog 109 = true) ∧
    (tz Try.prog 109 = [.i .u64 0, .i .u64 0, .i .u32 0, .i .u8 0, .i .u8 0, .i .u8 0, .i .u8 0, .v .nilFunc, .v (.pointer none), .i .i32 0, .i .i32 0]) ∧
    (arrOf Try.prog 109 = none) ∧
    (fieldOf Try.prog 109 0 = some (0, 12)) ∧
    (fieldOf Try.prog 109 1 = some (1, 12)) ∧
    (fieldOf Try.prog 109 2 = some (2, 93)) ∧
    (fieldOf Try.prog 109 3 = some (3, 102)) ∧
    (fieldOf Try.prog 109 4 = some (4, 5)) ∧
    (fieldOf Try.prog 109 5 = some (5, 5)) ∧
    (fieldOf Try.prog 109 6 = some (6, 103)) ∧
    (fieldOf Try.prog 109 7 = some (7, 104)) ∧
    (fieldOf Try.prog 109 8 = some (8, 105)) ∧
    (fieldOf Try.prog 109 9 = some (9, 106)) ∧
    (fieldOf Try.prog 109 10 = some (10, 107)) :=
  by and_intros <;> kernel_rfl
set_option linter.defProp false
def ty := And.intro ty0 (And.intro ty1 (And.intro ty2 (And.intro ty3 (And.intro ty4 (And.intro ty5 (And.intro ty6 (And.intro ty7 (ty8))))))))
end Eng
end Go.Proofs.Ytagmohpafjncfaa
