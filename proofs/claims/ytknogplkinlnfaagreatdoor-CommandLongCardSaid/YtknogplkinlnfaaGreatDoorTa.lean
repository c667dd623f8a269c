/- The program's functions that are walked, as the machine reads them, and the table that ucd.New gives. -/
import Derived.Test.YtknogplkinlnfaaGreatDoorShC
import Derived.Test.YtknogplkinlnfaaGreatDoorProg
import Derived.KernelRfl
set_option linter.unusedVariables false
set_option linter.unusedSimpArgs false
set_option linter.unusedSectionVars false
namespace Go.Shadow.T17
open Go Go.Shadow Go.Proofs
set_option maxRecDepth 100000

def wl : List (List UInt8) := [[69, 72, 76, 79], [72, 69, 76, 79], [77, 65, 73, 76], [82, 67, 80, 84], [68, 65, 84, 65], [82, 83, 69, 84], [78, 79, 79, 80], [81, 85, 73, 84]]
def words : List AVal := wl.map .str
def glob (g : Nat) : Option (List AVal) := if Nat.beq g 0 then some words else none
def prims (k : Nat) : Option Prim := if Nat.beq k 125 then some .indexByte else if Nat.beq k 123 then some .countByte else none
noncomputable def C : Ctx := ctxOf Tryz.prog glob prims (fun _ => false)

/-- pillarbox/pillarboxlaw17.CommandLong -/
def b5 : ACode :=
  (.seq (.region [⟨some 4, .mov (.c (.bool false)), none, 0, none⟩])
  (.seq (.region [⟨some 12, .call 6 [], none, 0, none⟩,
    ⟨some 5, .mov (.t 12), none, 1, none⟩])
  (.seq (.seq (.region [⟨some 13, .mov (.t 0), none, 0, none⟩,
    ⟨some 14, .len 0 (.t 13), none, 1, none⟩,
    ⟨some 15, .bin .gtr (.t 14) (.c (.int .i64 300)), none, 2, none⟩,
    ⟨some 16, .mov (.t 15), none, 3, none⟩,
    ⟨some 17, .mov (.t 1), some (16, false), 4, none⟩,
    ⟨some 18, .bin .lss (.t 17) (.c (.int .i64 0)), some (16, false), 5, none⟩,
    ⟨some 19, .pick (.t 16) (.c (.bool true)) (.t 18), none, 6, none⟩,
    ⟨some 20, .mov (.t 19), none, 7, none⟩,
    ⟨some 21, .mov (.t 1), some (20, false), 8, none⟩,
    ⟨some 22, .bin .gtr (.t 21) (.c (.int .i64 600)), some (20, false), 9, none⟩,
    ⟨some 23, .pick (.t 20) (.c (.bool true)) (.t 22), none, 10, none⟩])
  (.cond (.t 23)
    (.seq (.region [⟨some 24, .mov (.t 5), none, 0, none⟩,
      ⟨some 4, .mov (.t 24), none, 1, none⟩])
    .ret)
    .skip))
  (.seq (.region [⟨some 25, .call 8 [], none, 0, none⟩,
    ⟨some 6, .alloc [.nilSlice, .nilSlice, .nilSlice, .nilMap, .nilMap], none, 1, none⟩,
    ⟨none, .store 5 (.t 6) (.t 25), none, 2, none⟩])
  (.seq (.region [⟨some 26, .mov (.t 1), none, 0, none⟩,
    ⟨some 27, .mkSlice 1 1 [(.int .u8 0)] (.t 26) (.t 26), none, 1, none⟩,
    ⟨some 28, .bytesStr (.t 27), none, 2, none⟩,
    ⟨some 29, .bin .add (.c (.str [78, 79, 79, 80, 32])) (.t 28), none, 3, none⟩,
    ⟨some 30, .mov (.t 0), none, 4, none⟩,
    ⟨some 31, .bin .add (.t 29) (.t 30), none, 5, none⟩,
    ⟨some 7, .mov (.t 31), none, 6, none⟩])
  (.seq (.region [⟨some 33, .load (some 5) (.t 6), none, 0, none⟩,
    ⟨some 34, .mov (.t 7), none, 1, none⟩,
    ⟨some 35, .call 12 [(.t 33), (.t 34)], none, 2, none⟩,
    ⟨some 32, .mov (.t 35), none, 3, none⟩,
    ⟨some 36, .extract (.t 32) 0, none, 4, none⟩,
    ⟨some 37, .extract (.t 32) 1, none, 5, none⟩,
    ⟨some 8, .alloc [(.int .i64 0), (.str []), (.bool false), (.str []), (.str []), (.int .i64 0), (.bool false), (.bool false)], none, 6, none⟩,
    ⟨none, .store 8 (.t 8) (.t 36), none, 7, none⟩,
    ⟨some 9, .mov (.t 37), none, 8, none⟩])
  (.seq (.region [⟨some 39, .load (some 5) (.t 6), none, 0, none⟩,
    ⟨some 40, .mov (.t 0), none, 1, none⟩,
    ⟨some 41, .bin .add (.c (.str [88])) (.t 40), none, 2, none⟩,
    ⟨some 42, .call 12 [(.t 39), (.t 41)], none, 3, none⟩,
    ⟨some 38, .mov (.t 42), none, 4, none⟩,
    ⟨some 43, .extract (.t 38) 0, none, 5, none⟩,
    ⟨some 44, .extract (.t 38) 1, none, 6, none⟩,
    ⟨some 10, .alloc [(.int .i64 0), (.str []), (.bool false), (.str []), (.str []), (.int .i64 0), (.bool false), (.bool false)], none, 7, none⟩,
    ⟨none, .store 8 (.t 10) (.t 43), none, 8, none⟩,
    ⟨some 11, .mov (.t 44), none, 9, none⟩])
  (.seq (.region [⟨some 45, .mov (.t 5), none, 0, none⟩,
    ⟨some 46, .mov (.t 45), none, 1, none⟩,
    ⟨some 47, .mov (.t 9), some (46, true), 2, none⟩,
    ⟨some 48, .bin .eql (.t 47) (.c (.int .i64 500)), some (46, true), 3, none⟩,
    ⟨some 49, .mov (.t 7), some (46, true), 4, none⟩,
    ⟨some 50, .len 0 (.t 49), some (46, true), 5, none⟩,
    ⟨some 51, .bin .gtr (.t 50) (.c (.int .i64 510)), some (46, true), 6, none⟩,
    ⟨some 52, .eq1 .bool false (.t 48) (.t 51), some (46, true), 7, none⟩,
    ⟨some 53, .pick (.t 46) (.t 52) (.c (.bool false)), none, 8, none⟩,
    ⟨some 54, .mov (.t 53), none, 9, none⟩,
    ⟨some 55, .mov (.t 9), some (54, true), 10, none⟩,
    ⟨some 56, .bin .eql (.t 55) (.c (.int .i64 0)), some (54, true), 11, none⟩,
    ⟨some 57, .mov (.t 7), some (54, true), 12, none⟩,
    ⟨some 58, .len 0 (.t 57), some (54, true), 13, none⟩,
    ⟨some 59, .bin .leq (.t 58) (.c (.int .i64 510)), some (54, true), 14, none⟩,
    ⟨some 60, .eq1 .bool false (.t 56) (.t 59), some (54, true), 15, none⟩,
    ⟨some 61, .pick (.t 54) (.t 60) (.c (.bool false)), none, 16, none⟩,
    ⟨some 62, .mov (.t 61), none, 17, none⟩,
    ⟨some 63, .mov (.t 11), some (62, true), 18, none⟩,
    ⟨some 64, .bin .eql (.t 63) (.c (.int .i64 500)), some (62, true), 19, none⟩,
    ⟨some 65, .pick (.t 62) (.t 64) (.c (.bool false)), none, 20, none⟩,
    ⟨some 4, .mov (.t 65), none, 21, none⟩])
  .ret))))))))
theorem f5 : C.funcs 5 = some ⟨66, [.tmp 4], b5⟩ := by kernel_rfl

/-- pillarbox/pillarboxlaw17.small -/
def b6 : ACode :=
  (.seq (.region [⟨some 0, .mov (.c (.bool false)), none, 0, none⟩])
  (.seq (.region [⟨some 26, .call 8 [], none, 0, none⟩,
    ⟨some 1, .alloc [.nilSlice, .nilSlice, .nilSlice, .nilMap, .nilMap], none, 1, none⟩,
    ⟨none, .store 5 (.t 1) (.t 26), none, 2, none⟩])
  (.seq (.region [⟨some 28, .load (some 5) (.t 1), none, 0, none⟩,
    ⟨some 29, .call 12 [(.t 28), (.c (.str [109, 97, 105, 108, 32, 102, 114, 111, 109, 58, 60, 62, 32, 115, 105, 122, 101, 61, 57, 32, 66, 111, 100, 121, 61, 56, 98, 105, 116, 77, 73, 77, 69]))], none, 1, none⟩,
    ⟨some 27, .mov (.t 29), none, 2, none⟩,
    ⟨some 30, .extract (.t 27) 0, none, 3, none⟩,
    ⟨some 31, .extract (.t 27) 1, none, 4, none⟩,
    ⟨some 2, .alloc [(.int .i64 0), (.str []), (.bool false), (.str []), (.str []), (.int .i64 0), (.bool false), (.bool false)], none, 5, none⟩,
    ⟨none, .store 8 (.t 2) (.t 30), none, 6, none⟩,
    ⟨some 3, .mov (.t 31), none, 7, none⟩])
  (.seq (.region [⟨some 33, .load (some 5) (.t 1), none, 0, none⟩,
    ⟨some 34, .call 12 [(.t 33), (.c (.str [82, 67, 80, 84, 32, 84, 79, 58, 60, 34, 97, 62, 98, 34, 64, 91, 99, 62, 100, 93, 62]))], none, 1, none⟩,
    ⟨some 32, .mov (.t 34), none, 2, none⟩,
    ⟨some 35, .extract (.t 32) 0, none, 3, none⟩,
    ⟨some 36, .extract (.t 32) 1, none, 4, none⟩,
    ⟨some 4, .alloc [(.int .i64 0), (.str []), (.bool false), (.str []), (.str []), (.int .i64 0), (.bool false), (.bool false)], none, 5, none⟩,
    ⟨none, .store 8 (.t 4) (.t 35), none, 6, none⟩,
    ⟨some 5, .mov (.t 36), none, 7, none⟩])
  (.seq (.region [⟨some 38, .load (some 5) (.t 1), none, 0, none⟩,
    ⟨some 39, .call 12 [(.t 38), (.c (.str [82, 67, 80, 84, 32, 84, 79, 58, 60, 62]))], none, 1, none⟩,
    ⟨some 37, .mov (.t 39), none, 2, none⟩,
    ⟨some 40, .extract (.t 37) 0, none, 3, none⟩,
    ⟨some 41, .extract (.t 37) 1, none, 4, none⟩,
    ⟨some 6, .alloc [(.int .i64 0), (.str []), (.bool false), (.str []), (.str []), (.int .i64 0), (.bool false), (.bool false)], none, 5, none⟩,
    ⟨none, .store 8 (.t 6) (.t 40), none, 6, none⟩,
    ⟨some 7, .mov (.t 41), none, 7, none⟩])
  (.seq (.region [⟨some 43, .load (some 5) (.t 1), none, 0, none⟩,
    ⟨some 44, .call 12 [(.t 43), (.c (.str [77, 65, 73, 76, 32, 70, 82, 79, 77, 58, 60, 97, 64, 98, 62, 32, 88, 61, 49]))], none, 1, none⟩,
    ⟨some 42, .mov (.t 44), none, 2, none⟩,
    ⟨some 45, .extract (.t 42) 0, none, 3, none⟩,
    ⟨some 46, .extract (.t 42) 1, none, 4, none⟩,
    ⟨some 8, .alloc [(.int .i64 0), (.str []), (.bool false), (.str []), (.str []), (.int .i64 0), (.bool false), (.bool false)], none, 5, none⟩,
    ⟨none, .store 8 (.t 8) (.t 45), none, 6, none⟩,
    ⟨some 9, .mov (.t 46), none, 7, none⟩])
  (.seq (.region [⟨some 48, .load (some 5) (.t 1), none, 0, none⟩,
    ⟨some 49, .call 12 [(.t 48), (.c (.str [77, 65, 73, 76, 32, 70, 82, 79, 77, 58, 60, 97, 64, 98, 62, 32, 83, 73, 90, 69, 61, 49, 32, 83, 73, 90, 69, 61, 49]))], none, 1, none⟩,
    ⟨some 47, .mov (.t 49), none, 2, none⟩,
    ⟨some 50, .extract (.t 47) 0, none, 3, none⟩,
    ⟨some 51, .extract (.t 47) 1, none, 4, none⟩,
    ⟨some 10, .alloc [(.int .i64 0), (.str []), (.bool false), (.str []), (.str []), (.int .i64 0), (.bool false), (.bool false)], none, 5, none⟩,
    ⟨none, .store 8 (.t 10) (.t 50), none, 6, none⟩,
    ⟨some 11, .mov (.t 51), none, 7, none⟩])
  (.seq (.region [⟨some 53, .load (some 5) (.t 1), none, 0, none⟩,
    ⟨some 54, .call 12 [(.t 53), (.c (.str [77, 65, 73, 76, 32, 70, 82, 79, 77, 58, 60, 195, 164, 64, 98, 62]))], none, 1, none⟩,
    ⟨some 52, .mov (.t 54), none, 2, none⟩,
    ⟨some 55, .extract (.t 52) 0, none, 3, none⟩,
    ⟨some 56, .extract (.t 52) 1, none, 4, none⟩,
    ⟨some 12, .alloc [(.int .i64 0), (.str []), (.bool false), (.str []), (.str []), (.int .i64 0), (.bool false), (.bool false)], none, 5, none⟩,
    ⟨none, .store 8 (.t 12) (.t 55), none, 6, none⟩,
    ⟨some 13, .mov (.t 56), none, 7, none⟩])
  (.seq (.region [⟨some 58, .load (some 5) (.t 1), none, 0, none⟩,
    ⟨some 59, .call 12 [(.t 58), (.c (.str [68, 65, 84, 65, 32, 120]))], none, 1, none⟩,
    ⟨some 57, .mov (.t 59), none, 2, none⟩,
    ⟨some 60, .extract (.t 57) 0, none, 3, none⟩,
    ⟨some 61, .extract (.t 57) 1, none, 4, none⟩,
    ⟨some 14, .alloc [(.int .i64 0), (.str []), (.bool false), (.str []), (.str []), (.int .i64 0), (.bool false), (.bool false)], none, 5, none⟩,
    ⟨none, .store 8 (.t 14) (.t 60), none, 6, none⟩,
    ⟨some 15, .mov (.t 61), none, 7, none⟩])
  (.seq (.region [⟨some 63, .load (some 5) (.t 1), none, 0, none⟩,
    ⟨some 64, .call 12 [(.t 63), (.c (.str [101, 104, 108, 111, 32, 120, 46, 121]))], none, 1, none⟩,
    ⟨some 62, .mov (.t 64), none, 2, none⟩,
    ⟨some 65, .extract (.t 62) 0, none, 3, none⟩,
    ⟨some 66, .extract (.t 62) 1, none, 4, none⟩,
    ⟨some 16, .alloc [(.int .i64 0), (.str []), (.bool false), (.str []), (.str []), (.int .i64 0), (.bool false), (.bool false)], none, 5, none⟩,
    ⟨none, .store 8 (.t 16) (.t 65), none, 6, none⟩,
    ⟨some 17, .mov (.t 66), none, 7, none⟩])
  (.seq (.region [⟨some 68, .load (some 5) (.t 1), none, 0, none⟩,
    ⟨some 69, .call 12 [(.t 68), (.c (.str [69, 72, 76, 79]))], none, 1, none⟩,
    ⟨some 67, .mov (.t 69), none, 2, none⟩,
    ⟨some 70, .extract (.t 67) 0, none, 3, none⟩,
    ⟨some 71, .extract (.t 67) 1, none, 4, none⟩,
    ⟨some 18, .alloc [(.int .i64 0), (.str []), (.bool false), (.str []), (.str []), (.int .i64 0), (.bool false), (.bool false)], none, 5, none⟩,
    ⟨none, .store 8 (.t 18) (.t 70), none, 6, none⟩,
    ⟨some 19, .mov (.t 71), none, 7, none⟩])
  (.seq (.region [⟨some 73, .load (some 5) (.t 1), none, 0, none⟩,
    ⟨some 74, .call 12 [(.t 73), (.c (.str [72, 69, 76, 80]))], none, 1, none⟩,
    ⟨some 72, .mov (.t 74), none, 2, none⟩,
    ⟨some 75, .extract (.t 72) 0, none, 3, none⟩,
    ⟨some 76, .extract (.t 72) 1, none, 4, none⟩,
    ⟨some 20, .alloc [(.int .i64 0), (.str []), (.bool false), (.str []), (.str []), (.int .i64 0), (.bool false), (.bool false)], none, 5, none⟩,
    ⟨none, .store 8 (.t 20) (.t 75), none, 6, none⟩,
    ⟨some 21, .mov (.t 76), none, 7, none⟩])
  (.seq (.region [⟨some 78, .load (some 5) (.t 1), none, 0, none⟩,
    ⟨some 79, .call 12 [(.t 78), (.c (.str [77, 65, 73, 76, 32, 70, 82, 79, 77, 58, 60, 97, 64, 98, 62, 32, 83, 73, 90, 69, 61, 57, 57, 57, 57, 57, 57, 57, 57]))], none, 1, none⟩,
    ⟨some 77, .mov (.t 79), none, 2, none⟩,
    ⟨some 80, .extract (.t 77) 0, none, 3, none⟩,
    ⟨some 81, .extract (.t 77) 1, none, 4, none⟩,
    ⟨some 22, .alloc [(.int .i64 0), (.str []), (.bool false), (.str []), (.str []), (.int .i64 0), (.bool false), (.bool false)], none, 5, none⟩,
    ⟨none, .store 8 (.t 22) (.t 80), none, 6, none⟩,
    ⟨some 23, .mov (.t 81), none, 7, none⟩])
  (.seq (.region [⟨some 83, .load (some 5) (.t 1), none, 0, none⟩,
    ⟨some 84, .call 12 [(.t 83), (.c (.str [110, 111, 111, 112, 32, 119, 104, 97, 116, 101, 118, 101, 114]))], none, 1, none⟩,
    ⟨some 82, .mov (.t 84), none, 2, none⟩,
    ⟨some 85, .extract (.t 82) 0, none, 3, none⟩,
    ⟨some 86, .extract (.t 82) 1, none, 4, none⟩,
    ⟨some 24, .alloc [(.int .i64 0), (.str []), (.bool false), (.str []), (.str []), (.int .i64 0), (.bool false), (.bool false)], none, 5, none⟩,
    ⟨none, .store 8 (.t 24) (.t 85), none, 6, none⟩,
    ⟨some 25, .mov (.t 86), none, 7, none⟩])
  (.seq (.region [⟨some 87, .mov (.t 3), none, 0, none⟩,
    ⟨some 88, .bin .eql (.t 87) (.c (.int .i64 0)), none, 1, none⟩,
    ⟨some 89, .mov (.t 88), none, 2, none⟩,
    ⟨some 90, .fieldAddr 2 (.t 2), some (89, true), 3, none⟩,
    ⟨some 91, .fieldAddr 0 (.t 90), some (89, true), 4, none⟩,
    ⟨some 92, .load none (.t 91), some (89, true), 5, none⟩,
    ⟨some 93, .pick (.t 89) (.t 92) (.c (.bool false)), none, 6, none⟩,
    ⟨some 94, .mov (.t 93), none, 7, none⟩,
    ⟨some 95, .fieldAddr 5 (.t 2), some (94, true), 8, none⟩,
    ⟨some 96, .load none (.t 95), some (94, true), 9, none⟩,
    ⟨some 97, .bin .eql (.t 96) (.c (.int .i64 9)), some (94, true), 10, none⟩,
    ⟨some 98, .pick (.t 94) (.t 97) (.c (.bool false)), none, 11, none⟩,
    ⟨some 99, .mov (.t 98), none, 12, none⟩,
    ⟨some 100, .fieldAddr 6 (.t 2), some (99, true), 13, none⟩,
    ⟨some 101, .load none (.t 100), some (99, true), 14, none⟩,
    ⟨some 102, .pick (.t 99) (.t 101) (.c (.bool false)), none, 15, none⟩,
    ⟨some 103, .mov (.t 102), none, 16, none⟩,
    ⟨some 104, .fieldAddr 7 (.t 2), some (103, true), 17, none⟩,
    ⟨some 105, .load none (.t 104), some (103, true), 18, none⟩,
    ⟨some 106, .un .not (.t 105), some (103, true), 19, none⟩,
    ⟨some 107, .pick (.t 103) (.t 106) (.c (.bool false)), none, 20, none⟩,
    ⟨some 108, .mov (.t 107), none, 21, none⟩,
    ⟨some 109, .fieldAddr 0 (.t 2), some (108, true), 22, none⟩,
    ⟨some 110, .load none (.t 109), some (108, true), 23, none⟩,
    ⟨some 111, .bin .eql (.t 110) (.c (.int .i64 2)), some (108, true), 24, none⟩,
    ⟨some 112, .pick (.t 108) (.t 111) (.c (.bool false)), none, 25, none⟩,
    ⟨some 113, .mov (.t 112), none, 26, none⟩,
    ⟨some 114, .mov (.t 5), some (113, true), 27, none⟩,
    ⟨some 115, .bin .eql (.t 114) (.c (.int .i64 0)), some (113, true), 28, none⟩,
    ⟨some 116, .pick (.t 113) (.t 115) (.c (.bool false)), none, 29, none⟩,
    ⟨some 117, .mov (.t 116), none, 30, none⟩,
    ⟨some 118, .fieldAddr 2 (.t 4), some (117, true), 31, none⟩,
    ⟨some 119, .fieldAddr 1 (.t 118), some (117, true), 32, none⟩,
    ⟨some 120, .load (some 2) (.t 119), some (117, true), 33, none⟩,
    ⟨some 121, .build [(.str []), (.str [])] [(0, 1, (.c (.str [97, 62, 98]))), (1, 1, (.c (.str [91, 99, 62, 100, 93])))], some (117, true), 34, none⟩,
    ⟨some 122, .eqAgg [.str, .str] false (.t 120) (.t 121), some (117, true), 35, none⟩,
    ⟨some 123, .pick (.t 117) (.t 122) (.c (.bool false)), none, 36, none⟩,
    ⟨some 124, .mov (.t 123), none, 37, none⟩,
    ⟨some 125, .mov (.t 7), some (124, true), 38, none⟩,
    ⟨some 126, .bin .eql (.t 125) (.c (.int .i64 553)), some (124, true), 39, none⟩,
    ⟨some 127, .pick (.t 124) (.t 126) (.c (.bool false)), none, 40, none⟩,
    ⟨some 128, .mov (.t 127), none, 41, none⟩,
    ⟨some 129, .mov (.t 9), some (128, true), 42, none⟩,
    ⟨some 130, .bin .eql (.t 129) (.c (.int .i64 555)), some (128, true), 43, none⟩,
    ⟨some 131, .pick (.t 128) (.t 130) (.c (.bool false)), none, 44, none⟩,
    ⟨some 132, .mov (.t 131), none, 45, none⟩,
    ⟨some 133, .mov (.t 11), some (132, true), 46, none⟩,
    ⟨some 134, .bin .eql (.t 133) (.c (.int .i64 501)), some (132, true), 47, none⟩,
    ⟨some 135, .pick (.t 132) (.t 134) (.c (.bool false)), none, 48, none⟩,
    ⟨some 136, .mov (.t 135), none, 49, none⟩,
    ⟨some 137, .mov (.t 13), some (136, true), 50, none⟩,
    ⟨some 138, .bin .eql (.t 137) (.c (.int .i64 553)), some (136, true), 51, none⟩,
    ⟨some 139, .pick (.t 136) (.t 138) (.c (.bool false)), none, 52, none⟩,
    ⟨some 140, .mov (.t 139), none, 53, none⟩,
    ⟨some 141, .mov (.t 15), some (140, true), 54, none⟩,
    ⟨some 142, .bin .eql (.t 141) (.c (.int .i64 501)), some (140, true), 55, none⟩,
    ⟨some 143, .pick (.t 140) (.t 142) (.c (.bool false)), none, 56, none⟩,
    ⟨some 144, .mov (.t 143), none, 57, none⟩,
    ⟨some 145, .mov (.t 17), some (144, true), 58, none⟩,
    ⟨some 146, .bin .eql (.t 145) (.c (.int .i64 0)), some (144, true), 59, none⟩,
    ⟨some 147, .pick (.t 144) (.t 146) (.c (.bool false)), none, 60, none⟩,
    ⟨some 148, .mov (.t 147), none, 61, none⟩,
    ⟨some 149, .fieldAddr 1 (.t 16), some (148, true), 62, none⟩,
    ⟨some 150, .load none (.t 149), some (148, true), 63, none⟩,
    ⟨some 151, .bin .eql (.t 150) (.c (.str [120, 46, 121])), some (148, true), 64, none⟩,
    ⟨some 152, .pick (.t 148) (.t 151) (.c (.bool false)), none, 65, none⟩,
    ⟨some 153, .mov (.t 152), none, 66, none⟩,
    ⟨some 154, .mov (.t 19), some (153, true), 67, none⟩,
    ⟨some 155, .bin .eql (.t 154) (.c (.int .i64 501)), some (153, true), 68, none⟩,
    ⟨some 156, .pick (.t 153) (.t 155) (.c (.bool false)), none, 69, none⟩,
    ⟨some 157, .mov (.t 156), none, 70, none⟩,
    ⟨some 158, .mov (.t 21), some (157, true), 71, none⟩,
    ⟨some 159, .bin .eql (.t 158) (.c (.int .i64 500)), some (157, true), 72, none⟩,
    ⟨some 160, .pick (.t 157) (.t 159) (.c (.bool false)), none, 73, none⟩,
    ⟨some 161, .mov (.t 160), none, 74, none⟩,
    ⟨some 162, .mov (.t 23), some (161, true), 75, none⟩,
    ⟨some 163, .bin .eql (.t 162) (.c (.int .i64 552)), some (161, true), 76, none⟩,
    ⟨some 164, .pick (.t 161) (.t 163) (.c (.bool false)), none, 77, none⟩,
    ⟨some 165, .mov (.t 164), none, 78, none⟩,
    ⟨some 166, .mov (.t 25), some (165, true), 79, none⟩,
    ⟨some 167, .bin .eql (.t 166) (.c (.int .i64 0)), some (165, true), 80, none⟩,
    ⟨some 168, .pick (.t 165) (.t 167) (.c (.bool false)), none, 81, none⟩,
    ⟨some 169, .mov (.t 168), none, 82, none⟩,
    ⟨some 170, .load (some 8) (.t 24), some (169, true), 83, none⟩,
    ⟨some 171, .build [(.int .i64 0), (.str []), (.bool false), (.str []), (.str []), (.int .i64 0), (.bool false), (.bool false)] [(0, 1, (.c (.int .i64 6))), (5, 1, (.c (.int .i64 (-1))))], some (169, true), 84, none⟩,
    ⟨some 172, .eqAgg [.int, .str, .bool, .str, .str, .int, .bool, .bool] false (.t 170) (.t 171), some (169, true), 85, none⟩,
    ⟨some 173, .pick (.t 169) (.t 172) (.c (.bool false)), none, 86, none⟩,
    ⟨some 174, .mov (.t 173), none, 87, none⟩,
    ⟨some 175, .load (some 8) (.t 2), some (174, true), 88, none⟩,
    ⟨some 176, .call 9 [(.t 175)], some (174, true), 89, none⟩,
    ⟨some 177, .bin .eql (.t 176) (.c (.str [77, 65, 73, 76, 32, 70, 82, 79, 77, 58, 60, 62, 32, 83, 73, 90, 69, 61, 57, 32, 66, 79, 68, 89, 61, 56, 66, 73, 84, 77, 73, 77, 69])), some (174, true), 90, none⟩,
    ⟨some 178, .pick (.t 174) (.t 177) (.c (.bool false)), none, 91, none⟩,
    ⟨some 179, .mov (.t 178), none, 92, none⟩,
    ⟨some 180, .load (some 5) (.t 1), some (179, true), 93, none⟩,
    ⟨some 181, .load (some 8) (.t 2), some (179, true), 94, none⟩,
    ⟨some 182, .call 10 [(.t 180), (.t 181)], some (179, true), 95, none⟩,
    ⟨some 183, .pick (.t 179) (.t 182) (.c (.bool false)), none, 96, none⟩,
    ⟨some 184, .mov (.t 183), none, 97, none⟩,
    ⟨some 185, .call 14 [(.c (.int .i64 7))], some (184, true), 98, none⟩,
    ⟨some 186, .bin .eql (.t 185) (.c (.str [81, 85, 73, 84])), some (184, true), 99, none⟩,
    ⟨some 187, .pick (.t 184) (.t 186) (.c (.bool false)), none, 100, none⟩,
    ⟨some 188, .mov (.t 187), none, 101, none⟩,
    ⟨some 189, .call 14 [(.c (.int .i64 8))], some (188, true), 102, none⟩,
    ⟨some 190, .bin .eql (.t 189) (.c (.str [])), some (188, true), 103, none⟩,
    ⟨some 191, .pick (.t 188) (.t 190) (.c (.bool false)), none, 104, none⟩,
    ⟨some 0, .mov (.t 191), none, 105, none⟩])
  .ret)))))))))))))))
theorem f6 : C.funcs 6 = some ⟨192, [.tmp 0], b6⟩ := by kernel_rfl

/-- pillarbox/ucd.New -/
def b8l0 : ACode :=
  (.loop [12, 11, 13, 10, 1, 3, 28, 0]
    (.seq (.region [⟨some 13, .bin .lss (.t 12) (.t 11), none, 0, none⟩])
    (.seq (.cond (.t 13)
      .skip
      (.exit 0))
    (.seq (.block 1 (.seq (.region [⟨some 14, .idxAddr 5 (.t 10) (.t 12), none, 0, none⟩,
        ⟨some 15, .load (some 5) (.t 14), none, 1, none⟩,
        ⟨some 3, .alloc [(.int .i32 0), (.int .i32 0), (.int .i32 0), (.bool false), (.bool false)], none, 2, none⟩,
        ⟨none, .store 5 (.t 3) (.t 15), none, 3, none⟩])
      (.seq (.region [⟨some 16, .fieldAddr 3 (.t 1), none, 0, none⟩,
        ⟨some 17, .load none (.t 16), none, 1, none⟩,
        ⟨some 18, .fieldAddr 0 (.t 3), none, 2, none⟩,
        ⟨some 19, .load none (.t 18), none, 3, none⟩,
        ⟨some 20, .load (some 5) (.t 3), none, 4, none⟩,
        ⟨none, .update (.one .int) (.t 17) (.t 19) (.t 20), none, 5, none⟩])
      (.seq (.region [⟨some 21, .fieldAddr 3 (.t 3), none, 0, none⟩,
        ⟨some 22, .load none (.t 21), none, 1, none⟩,
        ⟨some 23, .un .not (.t 22), none, 2, none⟩,
        ⟨some 24, .mov (.t 23), none, 3, none⟩,
        ⟨some 25, .fieldAddr 4 (.t 3), some (24, true), 4, none⟩,
        ⟨some 26, .load none (.t 25), some (24, true), 5, none⟩,
        ⟨some 27, .un .not (.t 26), some (24, true), 6, none⟩,
        ⟨some 28, .pick (.t 24) (.t 27) (.c (.bool false)), none, 7, none⟩])
      (.cond (.t 28)
        (.region [⟨some 29, .fieldAddr 4 (.t 1), none, 0, none⟩,
          ⟨some 30, .load none (.t 29), none, 1, none⟩,
          ⟨some 31, .fieldAddr 1 (.t 3), none, 2, none⟩,
          ⟨some 32, .load none (.t 31), none, 3, none⟩,
          ⟨some 33, .fieldAddr 2 (.t 3), none, 4, none⟩,
          ⟨some 34, .load none (.t 33), none, 5, none⟩,
          ⟨some 35, .build [(.int .i32 0), (.int .i32 0)] [(0, 1, (.t 32)), (1, 1, (.t 34))], none, 6, none⟩,
          ⟨some 36, .fieldAddr 0 (.t 3), none, 7, none⟩,
          ⟨some 37, .load none (.t 36), none, 8, none⟩,
          ⟨none, .update (.many [.int, .int]) (.t 30) (.t 35) (.t 37), none, 9, none⟩])
        .skip)))))
    (.region [⟨some 38, .bin .add (.t 12) (.c (.int .i64 1)), none, 0, none⟩,
      ⟨some 12, .mov (.t 38), none, 1, none⟩])))))

def b8 : ACode :=
  (.seq (.region [⟨some 0, .alloc [.nilSlice, .nilSlice, .nilSlice, .nilMap, .nilMap], none, 0, none⟩])
  (.seq (.region [⟨some 4, .call 16 [], none, 0, none⟩,
    ⟨some 5, .call 17 [], none, 1, none⟩,
    ⟨some 6, .call 18 [], none, 2, none⟩,
    ⟨some 7, .mkMap, none, 3, none⟩,
    ⟨some 8, .mkMap, none, 4, none⟩,
    ⟨some 9, .build [.nilSlice, .nilSlice, .nilSlice, .nilMap, .nilMap] [(0, 1, (.t 4)), (1, 1, (.t 5)), (2, 1, (.t 6)), (3, 1, (.t 7)), (4, 1, (.t 8))], none, 5, none⟩,
    ⟨some 1, .alloc [.nilSlice, .nilSlice, .nilSlice, .nilMap, .nilMap], none, 6, none⟩,
    ⟨none, .store 5 (.t 1) (.t 9), none, 7, none⟩])
  (.seq (.seq (.region [⟨some 10, .call 19 [], none, 0, none⟩,
    ⟨some 11, .len 1 (.t 10), none, 1, none⟩,
    ⟨some 12, .mov (.c (.int .i64 0)), none, 2, none⟩])
  (.block 0 b8l0))
  (.seq (.region [⟨some 39, .load (some 5) (.t 1), none, 0, none⟩,
    ⟨none, .store 5 (.t 0) (.t 39), none, 1, none⟩])
  .ret))))
theorem f8 : C.funcs 8 = some ⟨40, [.cell 0 (some 5)], b8⟩ := by kernel_rfl

/-- pillarbox/command.Parse -/
def b12 : ACode :=
  (.seq (.region [⟨some 2, .box (.t 0), none, 0, none⟩,
    ⟨some 4, .alloc [(.int .i64 0), (.str []), (.bool false), (.str []), (.str []), (.int .i64 0), (.bool false), (.bool false)], none, 1, none⟩,
    ⟨some 5, .mov (.c (.int .i64 0)), none, 2, none⟩])
  (.seq (.region [⟨some 9, .mov (.t 1), none, 0, none⟩,
    ⟨some 10, .call 24 [(.t 9)], none, 1, none⟩,
    ⟨some 6, .mov (.t 10), none, 2, none⟩])
  (.seq (.seq (.region [⟨some 11, .mov (.t 1), none, 0, none⟩,
    ⟨some 12, .len 0 (.t 11), none, 1, none⟩,
    ⟨some 13, .bin .gtr (.t 12) (.c (.int .i64 510)), none, 2, none⟩,
    ⟨some 14, .mov (.t 13), none, 3, none⟩,
    ⟨some 15, .mov (.t 6), some (14, false), 4, none⟩,
    ⟨some 16, .bin .lss (.t 15) (.c (.int .i64 0)), some (14, false), 5, none⟩,
    ⟨some 17, .pick (.t 14) (.c (.bool true)) (.t 16), none, 6, none⟩])
  (.cond (.t 17)
    (.seq (.region [⟨some 18, .build [(.int .i64 0), (.str []), (.bool false), (.str []), (.str []), (.int .i64 0), (.bool false), (.bool false)] [(5, 1, (.c (.int .i64 (-1))))], none, 0, none⟩,
      ⟨none, .store 8 (.t 4) (.t 18), none, 1, none⟩,
      ⟨some 5, .mov (.c (.int .i64 500)), none, 2, none⟩])
    .ret)
    .skip))
  (.seq (.region [⟨some 19, .mov (.t 6), none, 0, none⟩,
    ⟨some 20, .build [(.int .i64 0), (.str []), (.bool false), (.str []), (.str []), (.int .i64 0), (.bool false), (.bool false)] [(0, 1, (.t 19)), (5, 1, (.c (.int .i64 (-1))))], none, 1, none⟩,
    ⟨some 7, .alloc [(.int .i64 0), (.str []), (.bool false), (.str []), (.str []), (.int .i64 0), (.bool false), (.bool false)], none, 2, none⟩,
    ⟨none, .store 8 (.t 7) (.t 20), none, 3, none⟩])
  (.seq (.seq (.draw [⟨some 21, .call 25 [], none, 0, none⟩,
    ⟨some 22, .mov (.t 6), none, 1, none⟩,
    ⟨some 23, .idxArr 8 1 false (.t 21) (.t 22), none, 2, none⟩,
    ⟨some 24, .load (some 5) (.t 2), none, 3, none⟩,
    ⟨some 25, .mov (.t 1), none, 4, none⟩,
    ⟨some 26, .sliceStr (.t 25) (some (.c (.int .i64 4))) none, none, 5, none⟩,
    ⟨some 27, .callv (.t 23) [(.t 24), (.t 7), (.t 26)], none, 6, none⟩,
    ⟨some 8, .mov (.t 27), none, 7, none⟩] [(0, 3), (3, 0)] 0)
  (.seq (.region [⟨some 28, .mov (.t 8), none, 0, none⟩,
    ⟨some 29, .bin .neq (.t 28) (.c (.int .i64 0)), none, 1, none⟩])
  (.cond (.t 29)
    (.seq (.region [⟨some 30, .build [(.int .i64 0), (.str []), (.bool false), (.str []), (.str []), (.int .i64 0), (.bool false), (.bool false)] [(5, 1, (.c (.int .i64 (-1))))], none, 0, none⟩,
      ⟨some 31, .mov (.t 8), none, 1, none⟩,
      ⟨none, .store 8 (.t 4) (.t 30), none, 2, none⟩,
      ⟨some 5, .mov (.t 31), none, 3, none⟩])
    .ret)
    .skip)))
  (.seq (.region [⟨some 32, .load (some 8) (.t 7), none, 0, none⟩,
    ⟨none, .store 8 (.t 4) (.t 32), none, 1, none⟩,
    ⟨some 5, .mov (.c (.int .i64 0)), none, 2, none⟩])
  .ret))))))
theorem f12 : C.funcs 12 = some ⟨33, [.cell 4 (some 8), .tmp 5], b12⟩ := by kernel_rfl

/-- pillarbox/fold.Plain -/
def b13 : ACode :=
  (.seq (.region [⟨some 2, .mov (.c (.str [])), none, 0, none⟩])
  (.seq (.region [⟨some 3, .mov (.t 0), none, 0, none⟩,
    ⟨some 4, .strBytes (.t 3), none, 1, none⟩,
    ⟨some 5, .call 26 [(.t 4), (.f 27)], none, 2, none⟩,
    ⟨some 6, .bytesStr (.t 5), none, 3, none⟩,
    ⟨some 2, .mov (.t 6), none, 4, none⟩])
  .ret))
theorem f13 : C.funcs 13 = some ⟨7, [.tmp 2], b13⟩ := by kernel_rfl

/-- pillarbox/command.verb -/
def b24l0 : ACode :=
  (.loop [8, 9, 7, 0, 4, 6, 5, 26, 3, 2]
    (.seq (.region [⟨some 9, .bin .lss (.t 8) (.c (.int .i64 8)), none, 0, none⟩])
    (.seq (.cond (.t 9)
      .skip
      (.exit 0))
    (.seq (.block 1 (.seq (.region [⟨some 10, .mov (.t 8), none, 0, none⟩,
        ⟨some 11, .idxArr 8 1 false (.t 7) (.t 8), none, 1, none⟩,
        ⟨some 3, .mov (.t 10), none, 2, none⟩,
        ⟨some 4, .mov (.t 11), none, 3, none⟩])
      (.seq (.region [⟨some 13, .mov (.t 0), none, 0, none⟩,
        ⟨some 14, .mov (.t 4), none, 1, none⟩,
        ⟨some 15, .call 34 [(.t 13), (.t 14)], none, 2, none⟩,
        ⟨some 12, .mov (.t 15), none, 3, none⟩,
        ⟨some 16, .extract (.t 12) 0, none, 4, none⟩,
        ⟨some 17, .extract (.t 12) 1, none, 5, none⟩,
        ⟨some 5, .mov (.t 16), none, 6, none⟩,
        ⟨some 6, .mov (.t 17), none, 7, none⟩])
      (.seq (.region [⟨some 18, .mov (.t 6), none, 0, none⟩,
        ⟨some 19, .mov (.t 18), none, 1, none⟩,
        ⟨some 20, .mov (.t 5), some (19, true), 2, none⟩,
        ⟨some 21, .bin .eql (.t 20) (.c (.str [])), some (19, true), 3, none⟩,
        ⟨some 22, .mov (.t 21), some (19, true), 4, none⟩,
        ⟨some 23, .mov (.t 5), some (22, false), 5, none⟩,
        ⟨some 24, .call 35 [(.t 23), (.c (.str [32]))], some (22, false), 6, none⟩,
        ⟨some 25, .pick (.t 22) (.c (.bool true)) (.t 24), some (19, true), 7, none⟩,
        ⟨some 26, .pick (.t 19) (.t 25) (.c (.bool false)), none, 8, none⟩])
      (.cond (.t 26)
        (.seq (.region [⟨some 27, .mov (.t 3), none, 0, none⟩,
          ⟨some 2, .mov (.t 27), none, 1, none⟩])
        .ret)
        .skip)))))
    (.region [⟨some 28, .bin .add (.t 8) (.c (.int .i64 1)), none, 0, none⟩,
      ⟨some 8, .mov (.t 28), none, 1, none⟩])))))

def b24 : ACode :=
  (.seq (.region [⟨some 2, .mov (.c (.int .i64 0)), none, 0, none⟩])
  (.seq (.seq (.region [⟨some 7, .load (some 8) (.g 0), none, 0, none⟩,
    ⟨some 8, .mov (.c (.int .i64 0)), none, 1, none⟩])
  (.block 0 b24l0))
  (.seq (.region [⟨some 2, .mov (.c (.int .i64 (-1))), none, 0, none⟩])
  .ret)))
theorem f24 : C.funcs 24 = some ⟨29, [.tmp 2], b24⟩ := by kernel_rfl

/-- pillarbox/command.readers -/
def b25 : ACode :=
  (.seq (.region [⟨some 0, .alloc [.nilFunc, .nilFunc, .nilFunc, .nilFunc, .nilFunc, .nilFunc, .nilFunc, .nilFunc], none, 0, none⟩])
  (.seq (.region [⟨some 1, .build [.nilFunc, .nilFunc, .nilFunc, .nilFunc, .nilFunc, .nilFunc, .nilFunc, .nilFunc] [(0, 1, (.f 36)), (1, 1, (.f 36)), (2, 1, (.f 37)), (3, 1, (.f 38)), (4, 1, (.f 39)), (5, 1, (.f 39)), (6, 1, (.f 40)), (7, 1, (.f 39))], none, 0, none⟩,
    ⟨none, .store 8 (.t 0) (.t 1), none, 1, none⟩])
  .ret))
theorem f25 : C.funcs 25 = some ⟨2, [.cell 0 (some 8)], b25⟩ := by kernel_rfl

/-- pillarbox/fold.each[byte] -/
def b26l0 : ACode :=
  (.loop [0, 10, 9, 11, 8, 5, 1, 7, 4]
    (.seq (.region [⟨some 11, .bin .lss (.t 10) (.t 9), none, 0, none⟩])
    (.seq (.cond (.t 11)
      .skip
      (.exit 0))
    (.seq (.block 1 (.seq (.region [⟨some 12, .idxAddr 1 (.t 8) (.t 10), none, 0, none⟩,
        ⟨some 13, .load none (.t 12), none, 1, none⟩,
        ⟨some 7, .mov (.t 13), none, 2, none⟩])
      (.region [⟨some 14, .mov (.t 5), none, 0, none⟩,
        ⟨some 15, .mov (.t 1), none, 1, none⟩,
        ⟨some 16, .mov (.t 7), none, 2, none⟩,
        ⟨some 17, .callv (.t 15) [(.t 16)], none, 3, none⟩,
        ⟨some 18, .buildSlice 1 1 [(.int .u8 0)] [(0, 1, (.t 17))], none, 4, none⟩,
        ⟨some 19, .append 1 1 (.t 14) (.t 18), none, 5, none⟩,
        ⟨some 5, .mov (.t 19), none, 6, none⟩])))
    (.region [⟨some 20, .bin .add (.t 10) (.c (.int .i64 1)), none, 0, none⟩,
      ⟨some 10, .mov (.t 20), none, 1, none⟩])))))

def b26 : ACode :=
  (.seq (.region [⟨some 4, .mov (.c .nilSlice), none, 0, none⟩])
  (.seq (.region [⟨some 5, .mov (.c .nilSlice), none, 0, none⟩])
  (.seq (.seq (.region [⟨some 8, .mov (.t 0), none, 0, none⟩,
    ⟨some 9, .len 1 (.t 8), none, 1, none⟩,
    ⟨some 10, .mov (.c (.int .i64 0)), none, 2, none⟩])
  (.block 0 b26l0))
  (.seq (.region [⟨some 21, .mov (.t 5), none, 0, none⟩,
    ⟨some 4, .mov (.t 21), none, 1, none⟩])
  .ret))))
theorem f26 : C.funcs 26 = some ⟨22, [.tmp 4], b26⟩ := by kernel_rfl

/-- pillarbox/fold.Plain$1 -/
def b27 : ACode :=
  (.seq (.region [⟨some 2, .mov (.c (.int .u8 0)), none, 0, none⟩])
  (.seq (.seq (.region [⟨some 3, .mov (.t 0), none, 0, none⟩,
    ⟨some 4, .bin .geq (.t 3) (.c (.int .u8 65)), none, 1, none⟩,
    ⟨some 5, .mov (.t 4), none, 2, none⟩,
    ⟨some 6, .mov (.t 0), some (5, true), 3, none⟩,
    ⟨some 7, .bin .leq (.t 6) (.c (.int .u8 90)), some (5, true), 4, none⟩,
    ⟨some 8, .pick (.t 5) (.t 7) (.c (.bool false)), none, 5, none⟩])
  (.cond (.t 8)
    (.seq (.region [⟨some 9, .mov (.t 0), none, 0, none⟩,
      ⟨some 10, .bin .sub (.t 9) (.c (.int .u8 65)), none, 1, none⟩,
      ⟨some 11, .bin .add (.t 10) (.c (.int .u8 97)), none, 2, none⟩,
      ⟨some 2, .mov (.t 11), none, 3, none⟩])
    .ret)
    .skip))
  (.seq (.region [⟨some 12, .mov (.t 0), none, 0, none⟩,
    ⟨some 2, .mov (.t 12), none, 1, none⟩])
  .ret)))
theorem f27 : C.funcs 27 = some ⟨13, [.tmp 2], b27⟩ := by kernel_rfl

/-- pillarbox/command.cut -/
def b34 : ACode :=
  (.seq (.region [⟨some 4, .mov (.c (.str [])), none, 0, none⟩,
    ⟨some 5, .mov (.c (.bool false)), none, 1, none⟩])
  (.seq (.seq (.region [⟨some 6, .mov (.t 0), none, 0, none⟩,
    ⟨some 7, .len 0 (.t 6), none, 1, none⟩,
    ⟨some 8, .mov (.t 1), none, 2, none⟩,
    ⟨some 9, .len 0 (.t 8), none, 3, none⟩,
    ⟨some 10, .bin .lss (.t 7) (.t 9), none, 4, none⟩,
    ⟨some 11, .mov (.t 10), none, 5, none⟩,
    ⟨some 12, .mov (.t 0), some (11, false), 6, none⟩,
    ⟨some 13, .mov (.t 1), some (11, false), 7, none⟩,
    ⟨some 14, .len 0 (.t 13), some (11, false), 8, none⟩,
    ⟨some 15, .sliceStr (.t 12) none (some (.t 14)), some (11, false), 9, none⟩,
    ⟨some 16, .call 13 [(.t 15)], some (11, false), 10, none⟩,
    ⟨some 17, .mov (.t 1), some (11, false), 11, none⟩,
    ⟨some 18, .call 13 [(.t 17)], some (11, false), 12, none⟩,
    ⟨some 19, .bin .neq (.t 16) (.t 18), some (11, false), 13, none⟩,
    ⟨some 20, .pick (.t 11) (.c (.bool true)) (.t 19), none, 14, none⟩])
  (.cond (.t 20)
    (.seq (.region [⟨some 4, .mov (.c (.str [])), none, 0, none⟩,
      ⟨some 5, .mov (.c (.bool false)), none, 1, none⟩])
    .ret)
    .skip))
  (.seq (.region [⟨some 21, .mov (.t 0), none, 0, none⟩,
    ⟨some 22, .mov (.t 1), none, 1, none⟩,
    ⟨some 23, .len 0 (.t 22), none, 2, none⟩,
    ⟨some 24, .sliceStr (.t 21) (some (.t 23)) none, none, 3, none⟩,
    ⟨some 4, .mov (.t 24), none, 4, none⟩,
    ⟨some 5, .mov (.c (.bool true)), none, 5, none⟩])
  .ret)))
theorem f34 : C.funcs 34 = some ⟨25, [.tmp 4, .tmp 5], b34⟩ := by kernel_rfl

/-- strings.HasPrefix -/
def b35 : ACode :=
  (.seq (.region [⟨some 4, .mov (.c (.bool false)), none, 0, none⟩])
  (.seq (.region [⟨some 5, .mov (.t 0), none, 0, none⟩,
    ⟨some 6, .mov (.t 1), none, 1, none⟩,
    ⟨some 7, .call 50 [(.t 5), (.t 6)], none, 2, none⟩,
    ⟨some 4, .mov (.t 7), none, 3, none⟩])
  .ret))
theorem f35 : C.funcs 35 = some ⟨8, [.tmp 4], b35⟩ := by kernel_rfl

/-- pillarbox/command.any -/
def b40 : ACode :=
  (.seq (.region [⟨some 3, .box (.t 0), none, 0, none⟩,
    ⟨some 6, .mov (.c (.int .i64 0)), none, 1, none⟩])
  (.seq (.region [⟨some 6, .mov (.c (.int .i64 0)), none, 0, none⟩])
  .ret))
theorem f40 : C.funcs 40 = some ⟨7, [.tmp 6], b40⟩ := by kernel_rfl

/-- internal/stringslite.HasPrefix -/
def b50 : ACode :=
  (.seq (.region [⟨some 4, .mov (.c (.bool false)), none, 0, none⟩])
  (.seq (.region [⟨some 5, .mov (.t 0), none, 0, none⟩,
    ⟨some 6, .len 0 (.t 5), none, 1, none⟩,
    ⟨some 7, .mov (.t 1), none, 2, none⟩,
    ⟨some 8, .len 0 (.t 7), none, 3, none⟩,
    ⟨some 9, .bin .geq (.t 6) (.t 8), none, 4, none⟩,
    ⟨some 10, .mov (.t 9), none, 5, none⟩,
    ⟨some 11, .mov (.t 0), some (10, true), 6, none⟩,
    ⟨some 12, .mov (.t 1), some (10, true), 7, none⟩,
    ⟨some 13, .len 0 (.t 12), some (10, true), 8, none⟩,
    ⟨some 14, .sliceStr (.t 11) none (some (.t 13)), some (10, true), 9, none⟩,
    ⟨some 15, .mov (.t 1), some (10, true), 10, none⟩,
    ⟨some 16, .bin .eql (.t 14) (.t 15), some (10, true), 11, none⟩,
    ⟨some 17, .pick (.t 10) (.t 16) (.c (.bool false)), none, 12, none⟩,
    ⟨some 4, .mov (.t 17), none, 13, none⟩])
  .ret))
theorem f50 : C.funcs 50 = some ⟨18, [.tmp 4], b50⟩ := by kernel_rfl

end Go.Shadow.T17

namespace Go.Shadow.T17
open Go Go.Shadow Go.Proofs
set_option maxRecDepth 1000000
def ranges : AVal := (.islice 74 true [(.int .i32 0), (.int .i32 31), (.int .i64 9), (.int .i64 0), (.int .i64 0), (.int .i64 0), (.int .i32 32), (.int .i32 32), (.int .i64 8), (.int .i64 0), (.int .i64 0), (.int .i64 0), (.int .i32 33), (.int .i32 44), (.int .i64 6), (.int .i64 0), (.int .i64 0), (.int .i64 0), (.int .i32 45), (.int .i32 47), (.int .i64 6), (.int .i64 7), (.int .i64 0), (.int .i64 0), (.int .i32 48), (.int .i32 57), (.int .i64 5), (.int .i64 4), (.int .i64 0), (.int .i64 0), (.int .i32 58), (.int .i32 64), (.int .i64 6), (.int .i64 0), (.int .i64 0), (.int .i64 0), (.int .i32 65), (.int .i32 90), (.int .i64 1), (.int .i64 1), (.int .i64 0), (.int .i64 1), (.int .i32 91), (.int .i32 96), (.int .i64 6), (.int .i64 0), (.int .i64 0), (.int .i64 0), (.int .i32 97), (.int .i32 122), (.int .i64 2), (.int .i64 1), (.int .i64 0), (.int .i64 1), (.int .i32 123), (.int .i32 126), (.int .i64 7), (.int .i64 0), (.int .i64 0), (.int .i64 0), (.int .i32 127), (.int .i32 127), (.int .i64 9), (.int .i64 0), (.int .i64 0), (.int .i64 0), (.int .i32 160), (.int .i32 160), (.int .i64 8), (.int .i64 0), (.int .i64 0), (.int .i64 0), (.int .i32 178), (.int .i32 179), (.int .i64 7), (.int .i64 4), (.int .i64 0), (.int .i64 0), (.int .i32 183), (.int .i32 183), (.int .i64 6), (.int .i64 0), (.int .i64 0), (.int .i64 0), (.int .i32 192), (.int .i32 214), (.int .i64 1), (.int .i64 1), (.int .i64 0), (.int .i64 1), (.int .i32 215), (.int .i32 215), (.int .i64 7), (.int .i64 0), (.int .i64 0), (.int .i64 0), (.int .i32 216), (.int .i32 222), (.int .i64 1), (.int .i64 1), (.int .i64 0), (.int .i64 1), (.int .i32 223), (.int .i32 246), (.int .i64 2), (.int .i64 1), (.int .i64 0), (.int .i64 1), (.int .i32 247), (.int .i32 247), (.int .i64 7), (.int .i64 0), (.int .i64 0), (.int .i64 0), (.int .i32 248), (.int .i32 255), (.int .i64 2), (.int .i64 1), (.int .i64 0), (.int .i64 1), (.int .i32 768), (.int .i32 772), (.int .i64 4), (.int .i64 6), (.int .i64 3), (.int .i64 0), (.int .i32 774), (.int .i32 776), (.int .i64 4), (.int .i64 6), (.int .i64 3), (.int .i64 0), (.int .i32 778), (.int .i32 778), (.int .i64 4), (.int .i64 6), (.int .i64 3), (.int .i64 0), (.int .i32 803), (.int .i32 803), (.int .i64 4), (.int .i64 6), (.int .i64 3), (.int .i64 0), (.int .i32 807), (.int .i32 807), (.int .i64 4), (.int .i64 6), (.int .i64 3), (.int .i64 0), (.int .i32 885), (.int .i32 885), (.int .i64 7), (.int .i64 0), (.int .i64 0), (.int .i64 2), (.int .i32 913), (.int .i32 929), (.int .i64 1), (.int .i64 1), (.int .i64 0), (.int .i64 2), (.int .i32 931), (.int .i32 937), (.int .i64 1), (.int .i64 1), (.int .i64 0), (.int .i64 2), (.int .i32 945), (.int .i32 969), (.int .i64 2), (.int .i64 1), (.int .i64 0), (.int .i64 2), (.int .i32 1040), (.int .i32 1071), (.int .i64 1), (.int .i64 1), (.int .i64 0), (.int .i64 3), (.int .i32 1072), (.int .i32 1103), (.int .i64 2), (.int .i64 1), (.int .i64 0), (.int .i64 3), (.int .i32 1456), (.int .i32 1465), (.int .i64 4), (.int .i64 6), (.int .i64 3), (.int .i64 4), (.int .i32 1488), (.int .i32 1514), (.int .i64 3), (.int .i64 2), (.int .i64 0), (.int .i64 4), (.int .i32 1523), (.int .i32 1524), (.int .i64 6), (.int .i64 2), (.int .i64 0), (.int .i64 4), (.int .i32 1575), (.int .i32 1575), (.int .i64 3), (.int .i64 3), (.int .i64 2), (.int .i64 5), (.int .i32 1576), (.int .i32 1576), (.int .i64 3), (.int .i64 3), (.int .i64 1), (.int .i64 5), (.int .i32 1577), (.int .i32 1577), (.int .i64 3), (.int .i64 3), (.int .i64 2), (.int .i64 5), (.int .i32 1578), (.int .i32 1582), (.int .i64 3), (.int .i64 3), (.int .i64 1), (.int .i64 5), (.int .i32 1583), (.int .i32 1586), (.int .i64 3), (.int .i64 3), (.int .i64 2), (.int .i64 5), (.int .i32 1587), (.int .i32 1594), (.int .i64 3), (.int .i64 3), (.int .i64 1), (.int .i64 5), (.int .i32 1601), (.int .i32 1607), (.int .i64 3), (.int .i64 3), (.int .i64 1), (.int .i64 5), (.int .i32 1608), (.int .i32 1608), (.int .i64 3), (.int .i64 3), (.int .i64 2), (.int .i64 5), (.int .i32 1610), (.int .i32 1610), (.int .i64 3), (.int .i64 3), (.int .i64 1), (.int .i64 5), (.int .i32 1611), (.int .i32 1618), (.int .i64 4), (.int .i64 6), (.int .i64 3), (.int .i64 0), (.int .i32 1632), (.int .i32 1641), (.int .i64 5), (.int .i64 5), (.int .i64 0), (.int .i64 5), (.int .i32 1776), (.int .i32 1785), (.int .i64 5), (.int .i64 4), (.int .i64 0), (.int .i64 5), (.int .i32 2325), (.int .i32 2361), (.int .i64 3), (.int .i64 1), (.int .i64 0), (.int .i64 6), (.int .i32 2364), (.int .i32 2364), (.int .i64 4), (.int .i64 6), (.int .i64 3), (.int .i64 6), (.int .i32 2381), (.int .i32 2381), (.int .i64 4), (.int .i64 6), (.int .i64 3), (.int .i64 6), (.int .i32 2392), (.int .i32 2392), (.int .i64 3), (.int .i64 1), (.int .i64 0), (.int .i64 6), (.int .i32 4352), (.int .i32 4370), (.int .i64 3), (.int .i64 1), (.int .i64 0), (.int .i64 9), (.int .i32 4449), (.int .i32 4469), (.int .i64 3), (.int .i64 1), (.int .i64 0), (.int .i64 9), (.int .i32 4520), (.int .i32 4546), (.int .i64 3), (.int .i64 1), (.int .i64 0), (.int .i64 9), (.int .i32 7844), (.int .i32 7844), (.int .i64 1), (.int .i64 1), (.int .i64 0), (.int .i64 1), (.int .i32 7845), (.int .i32 7845), (.int .i64 2), (.int .i64 1), (.int .i64 0), (.int .i64 1), (.int .i32 8204), (.int .i32 8205), (.int .i64 10), (.int .i64 0), (.int .i64 0), (.int .i64 0), (.int .i32 8490), (.int .i32 8491), (.int .i64 1), (.int .i64 1), (.int .i64 0), (.int .i64 1), (.int .i32 12290), (.int .i32 12290), (.int .i64 6), (.int .i64 0), (.int .i64 0), (.int .i64 0), (.int .i32 12353), (.int .i32 12438), (.int .i64 3), (.int .i64 1), (.int .i64 0), (.int .i64 7), (.int .i32 12441), (.int .i32 12441), (.int .i64 4), (.int .i64 6), (.int .i64 3), (.int .i64 0), (.int .i32 12449), (.int .i32 12538), (.int .i64 3), (.int .i64 1), (.int .i64 0), (.int .i64 7), (.int .i32 12539), (.int .i32 12539), (.int .i64 6), (.int .i64 0), (.int .i64 0), (.int .i64 0), (.int .i32 19968), (.int .i32 40959), (.int .i64 3), (.int .i64 1), (.int .i64 0), (.int .i64 8), (.int .i32 44032), (.int .i32 55203), (.int .i64 3), (.int .i64 1), (.int .i64 0), (.int .i64 9), (.int .i32 64257), (.int .i32 64258), (.int .i64 2), (.int .i64 1), (.int .i64 0), (.int .i64 1), (.int .i32 65281), (.int .i32 65295), (.int .i64 6), (.int .i64 0), (.int .i64 0), (.int .i64 0), (.int .i32 65296), (.int .i32 65305), (.int .i64 5), (.int .i64 4), (.int .i64 0), (.int .i64 0), (.int .i32 65306), (.int .i32 65312), (.int .i64 6), (.int .i64 0), (.int .i64 0), (.int .i64 0), (.int .i32 65313), (.int .i32 65338), (.int .i64 1), (.int .i64 1), (.int .i64 0), (.int .i64 1), (.int .i32 65339), (.int .i32 65344), (.int .i64 6), (.int .i64 0), (.int .i64 0), (.int .i64 0), (.int .i32 65345), (.int .i32 65370), (.int .i64 2), (.int .i64 1), (.int .i64 0), (.int .i64 1), (.int .i32 65371), (.int .i32 65374), (.int .i64 7), (.int .i64 0), (.int .i64 0), (.int .i64 0), (.int .i32 66560), (.int .i32 66599), (.int .i64 1), (.int .i64 1), (.int .i64 0), (.int .i64 10), (.int .i32 66600), (.int .i32 66639), (.int .i64 2), (.int .i64 1), (.int .i64 0), (.int .i64 10)])
def classes : AVal := (.islice 10 true [(.int .i32 768), (.int .i32 772), (.int .i64 230), (.int .i64 0), (.int .i32 774), (.int .i32 776), (.int .i64 230), (.int .i64 0), (.int .i32 778), (.int .i32 778), (.int .i64 230), (.int .i64 0), (.int .i32 803), (.int .i32 803), (.int .i64 220), (.int .i64 0), (.int .i32 807), (.int .i32 807), (.int .i64 202), (.int .i64 0), (.int .i32 1456), (.int .i32 1465), (.int .i64 10), (.int .i64 1), (.int .i32 1611), (.int .i32 1618), (.int .i64 27), (.int .i64 1), (.int .i32 2364), (.int .i32 2364), (.int .i64 7), (.int .i64 0), (.int .i32 2381), (.int .i32 2381), (.int .i64 9), (.int .i64 0), (.int .i32 12441), (.int .i32 12441), (.int .i64 8), (.int .i64 0)])
def lowers : AVal := (.islice 11 true [(.int .i32 65), (.int .i32 90), (.int .i32 32), (.int .i32 192), (.int .i32 214), (.int .i32 32), (.int .i32 216), (.int .i32 222), (.int .i32 32), (.int .i32 913), (.int .i32 929), (.int .i32 32), (.int .i32 931), (.int .i32 937), (.int .i32 32), (.int .i32 1040), (.int .i32 1071), (.int .i32 32), (.int .i32 7844), (.int .i32 7844), (.int .i32 1), (.int .i32 8490), (.int .i32 8490), (.int .i32 (-8383)), (.int .i32 8491), (.int .i32 8491), (.int .i32 (-8262)), (.int .i32 65313), (.int .i32 65338), (.int .i32 32), (.int .i32 66560), (.int .i32 66599), (.int .i32 40)])
def blk0 : ABlk := (.row 5 [(.islice 74 true [(.int .i32 0), (.int .i32 31), (.int .i64 9), (.int .i64 0), (.int .i64 0), (.int .i64 0), (.int .i32 32), (.int .i32 32), (.int .i64 8), (.int .i64 0), (.int .i64 0), (.int .i64 0), (.int .i32 33), (.int .i32 44), (.int .i64 6), (.int .i64 0), (.int .i64 0), (.int .i64 0), (.int .i32 45), (.int .i32 47), (.int .i64 6), (.int .i64 7), (.int .i64 0), (.int .i64 0), (.int .i32 48), (.int .i32 57), (.int .i64 5), (.int .i64 4), (.int .i64 0), (.int .i64 0), (.int .i32 58), (.int .i32 64), (.int .i64 6), (.int .i64 0), (.int .i64 0), (.int .i64 0), (.int .i32 65), (.int .i32 90), (.int .i64 1), (.int .i64 1), (.int .i64 0), (.int .i64 1), (.int .i32 91), (.int .i32 96), (.int .i64 6), (.int .i64 0), (.int .i64 0), (.int .i64 0), (.int .i32 97), (.int .i32 122), (.int .i64 2), (.int .i64 1), (.int .i64 0), (.int .i64 1), (.int .i32 123), (.int .i32 126), (.int .i64 7), (.int .i64 0), (.int .i64 0), (.int .i64 0), (.int .i32 127), (.int .i32 127), (.int .i64 9), (.int .i64 0), (.int .i64 0), (.int .i64 0), (.int .i32 160), (.int .i32 160), (.int .i64 8), (.int .i64 0), (.int .i64 0), (.int .i64 0), (.int .i32 178), (.int .i32 179), (.int .i64 7), (.int .i64 4), (.int .i64 0), (.int .i64 0), (.int .i32 183), (.int .i32 183), (.int .i64 6), (.int .i64 0), (.int .i64 0), (.int .i64 0), (.int .i32 192), (.int .i32 214), (.int .i64 1), (.int .i64 1), (.int .i64 0), (.int .i64 1), (.int .i32 215), (.int .i32 215), (.int .i64 7), (.int .i64 0), (.int .i64 0), (.int .i64 0), (.int .i32 216), (.int .i32 222), (.int .i64 1), (.int .i64 1), (.int .i64 0), (.int .i64 1), (.int .i32 223), (.int .i32 246), (.int .i64 2), (.int .i64 1), (.int .i64 0), (.int .i64 1), (.int .i32 247), (.int .i32 247), (.int .i64 7), (.int .i64 0), (.int .i64 0), (.int .i64 0), (.int .i32 248), (.int .i32 255), (.int .i64 2), (.int .i64 1), (.int .i64 0), (.int .i64 1), (.int .i32 768), (.int .i32 772), (.int .i64 4), (.int .i64 6), (.int .i64 3), (.int .i64 0), (.int .i32 774), (.int .i32 776), (.int .i64 4), (.int .i64 6), (.int .i64 3), (.int .i64 0), (.int .i32 778), (.int .i32 778), (.int .i64 4), (.int .i64 6), (.int .i64 3), (.int .i64 0), (.int .i32 803), (.int .i32 803), (.int .i64 4), (.int .i64 6), (.int .i64 3), (.int .i64 0), (.int .i32 807), (.int .i32 807), (.int .i64 4), (.int .i64 6), (.int .i64 3), (.int .i64 0), (.int .i32 885), (.int .i32 885), (.int .i64 7), (.int .i64 0), (.int .i64 0), (.int .i64 2), (.int .i32 913), (.int .i32 929), (.int .i64 1), (.int .i64 1), (.int .i64 0), (.int .i64 2), (.int .i32 931), (.int .i32 937), (.int .i64 1), (.int .i64 1), (.int .i64 0), (.int .i64 2), (.int .i32 945), (.int .i32 969), (.int .i64 2), (.int .i64 1), (.int .i64 0), (.int .i64 2), (.int .i32 1040), (.int .i32 1071), (.int .i64 1), (.int .i64 1), (.int .i64 0), (.int .i64 3), (.int .i32 1072), (.int .i32 1103), (.int .i64 2), (.int .i64 1), (.int .i64 0), (.int .i64 3), (.int .i32 1456), (.int .i32 1465), (.int .i64 4), (.int .i64 6), (.int .i64 3), (.int .i64 4), (.int .i32 1488), (.int .i32 1514), (.int .i64 3), (.int .i64 2), (.int .i64 0), (.int .i64 4), (.int .i32 1523), (.int .i32 1524), (.int .i64 6), (.int .i64 2), (.int .i64 0), (.int .i64 4), (.int .i32 1575), (.int .i32 1575), (.int .i64 3), (.int .i64 3), (.int .i64 2), (.int .i64 5), (.int .i32 1576), (.int .i32 1576), (.int .i64 3), (.int .i64 3), (.int .i64 1), (.int .i64 5), (.int .i32 1577), (.int .i32 1577), (.int .i64 3), (.int .i64 3), (.int .i64 2), (.int .i64 5), (.int .i32 1578), (.int .i32 1582), (.int .i64 3), (.int .i64 3), (.int .i64 1), (.int .i64 5), (.int .i32 1583), (.int .i32 1586), (.int .i64 3), (.int .i64 3), (.int .i64 2), (.int .i64 5), (.int .i32 1587), (.int .i32 1594), (.int .i64 3), (.int .i64 3), (.int .i64 1), (.int .i64 5), (.int .i32 1601), (.int .i32 1607), (.int .i64 3), (.int .i64 3), (.int .i64 1), (.int .i64 5), (.int .i32 1608), (.int .i32 1608), (.int .i64 3), (.int .i64 3), (.int .i64 2), (.int .i64 5), (.int .i32 1610), (.int .i32 1610), (.int .i64 3), (.int .i64 3), (.int .i64 1), (.int .i64 5), (.int .i32 1611), (.int .i32 1618), (.int .i64 4), (.int .i64 6), (.int .i64 3), (.int .i64 0), (.int .i32 1632), (.int .i32 1641), (.int .i64 5), (.int .i64 5), (.int .i64 0), (.int .i64 5), (.int .i32 1776), (.int .i32 1785), (.int .i64 5), (.int .i64 4), (.int .i64 0), (.int .i64 5), (.int .i32 2325), (.int .i32 2361), (.int .i64 3), (.int .i64 1), (.int .i64 0), (.int .i64 6), (.int .i32 2364), (.int .i32 2364), (.int .i64 4), (.int .i64 6), (.int .i64 3), (.int .i64 6), (.int .i32 2381), (.int .i32 2381), (.int .i64 4), (.int .i64 6), (.int .i64 3), (.int .i64 6), (.int .i32 2392), (.int .i32 2392), (.int .i64 3), (.int .i64 1), (.int .i64 0), (.int .i64 6), (.int .i32 4352), (.int .i32 4370), (.int .i64 3), (.int .i64 1), (.int .i64 0), (.int .i64 9), (.int .i32 4449), (.int .i32 4469), (.int .i64 3), (.int .i64 1), (.int .i64 0), (.int .i64 9), (.int .i32 4520), (.int .i32 4546), (.int .i64 3), (.int .i64 1), (.int .i64 0), (.int .i64 9), (.int .i32 7844), (.int .i32 7844), (.int .i64 1), (.int .i64 1), (.int .i64 0), (.int .i64 1), (.int .i32 7845), (.int .i32 7845), (.int .i64 2), (.int .i64 1), (.int .i64 0), (.int .i64 1), (.int .i32 8204), (.int .i32 8205), (.int .i64 10), (.int .i64 0), (.int .i64 0), (.int .i64 0), (.int .i32 8490), (.int .i32 8491), (.int .i64 1), (.int .i64 1), (.int .i64 0), (.int .i64 1), (.int .i32 12290), (.int .i32 12290), (.int .i64 6), (.int .i64 0), (.int .i64 0), (.int .i64 0), (.int .i32 12353), (.int .i32 12438), (.int .i64 3), (.int .i64 1), (.int .i64 0), (.int .i64 7), (.int .i32 12441), (.int .i32 12441), (.int .i64 4), (.int .i64 6), (.int .i64 3), (.int .i64 0), (.int .i32 12449), (.int .i32 12538), (.int .i64 3), (.int .i64 1), (.int .i64 0), (.int .i64 7), (.int .i32 12539), (.int .i32 12539), (.int .i64 6), (.int .i64 0), (.int .i64 0), (.int .i64 0), (.int .i32 19968), (.int .i32 40959), (.int .i64 3), (.int .i64 1), (.int .i64 0), (.int .i64 8), (.int .i32 44032), (.int .i32 55203), (.int .i64 3), (.int .i64 1), (.int .i64 0), (.int .i64 9), (.int .i32 64257), (.int .i32 64258), (.int .i64 2), (.int .i64 1), (.int .i64 0), (.int .i64 1), (.int .i32 65281), (.int .i32 65295), (.int .i64 6), (.int .i64 0), (.int .i64 0), (.int .i64 0), (.int .i32 65296), (.int .i32 65305), (.int .i64 5), (.int .i64 4), (.int .i64 0), (.int .i64 0), (.int .i32 65306), (.int .i32 65312), (.int .i64 6), (.int .i64 0), (.int .i64 0), (.int .i64 0), (.int .i32 65313), (.int .i32 65338), (.int .i64 1), (.int .i64 1), (.int .i64 0), (.int .i64 1), (.int .i32 65339), (.int .i32 65344), (.int .i64 6), (.int .i64 0), (.int .i64 0), (.int .i64 0), (.int .i32 65345), (.int .i32 65370), (.int .i64 2), (.int .i64 1), (.int .i64 0), (.int .i64 1), (.int .i32 65371), (.int .i32 65374), (.int .i64 7), (.int .i64 0), (.int .i64 0), (.int .i64 0), (.int .i32 66560), (.int .i32 66599), (.int .i64 1), (.int .i64 1), (.int .i64 0), (.int .i64 10), (.int .i32 66600), (.int .i32 66639), (.int .i64 2), (.int .i64 1), (.int .i64 0), (.int .i64 10)]), (.islice 10 true [(.int .i32 768), (.int .i32 772), (.int .i64 230), (.int .i64 0), (.int .i32 774), (.int .i32 776), (.int .i64 230), (.int .i64 0), (.int .i32 778), (.int .i32 778), (.int .i64 230), (.int .i64 0), (.int .i32 803), (.int .i32 803), (.int .i64 220), (.int .i64 0), (.int .i32 807), (.int .i32 807), (.int .i64 202), (.int .i64 0), (.int .i32 1456), (.int .i32 1465), (.int .i64 10), (.int .i64 1), (.int .i32 1611), (.int .i32 1618), (.int .i64 27), (.int .i64 1), (.int .i32 2364), (.int .i32 2364), (.int .i64 7), (.int .i64 0), (.int .i32 2381), (.int .i32 2381), (.int .i64 9), (.int .i64 0), (.int .i32 12441), (.int .i32 12441), (.int .i64 8), (.int .i64 0)]), (.islice 11 true [(.int .i32 65), (.int .i32 90), (.int .i32 32), (.int .i32 192), (.int .i32 214), (.int .i32 32), (.int .i32 216), (.int .i32 222), (.int .i32 32), (.int .i32 913), (.int .i32 929), (.int .i32 32), (.int .i32 931), (.int .i32 937), (.int .i32 32), (.int .i32 1040), (.int .i32 1071), (.int .i32 32), (.int .i32 7844), (.int .i32 7844), (.int .i32 1), (.int .i32 8490), (.int .i32 8490), (.int .i32 (-8383)), (.int .i32 8491), (.int .i32 8491), (.int .i32 (-8262)), (.int .i32 65313), (.int .i32 65338), (.int .i32 32), (.int .i32 66560), (.int .i32 66599), (.int .i32 40)]), (.map 1), (.map 2)])
def blk1 : ABlk := (.map [((.int .i32 160), (.agg [(.int .i32 160), (.int .i32 32), (.int .i32 0), (.bool true), (.bool true)])), ((.int .i32 178), (.agg [(.int .i32 178), (.int .i32 50), (.int .i32 0), (.bool true), (.bool true)])), ((.int .i32 179), (.agg [(.int .i32 179), (.int .i32 51), (.int .i32 0), (.bool true), (.bool true)])), ((.int .i32 192), (.agg [(.int .i32 192), (.int .i32 65), (.int .i32 768), (.bool false), (.bool false)])), ((.int .i32 193), (.agg [(.int .i32 193), (.int .i32 65), (.int .i32 769), (.bool false), (.bool false)])), ((.int .i32 194), (.agg [(.int .i32 194), (.int .i32 65), (.int .i32 770), (.bool false), (.bool false)])), ((.int .i32 195), (.agg [(.int .i32 195), (.int .i32 65), (.int .i32 771), (.bool false), (.bool false)])), ((.int .i32 196), (.agg [(.int .i32 196), (.int .i32 65), (.int .i32 776), (.bool false), (.bool false)])), ((.int .i32 197), (.agg [(.int .i32 197), (.int .i32 65), (.int .i32 778), (.bool false), (.bool false)])), ((.int .i32 199), (.agg [(.int .i32 199), (.int .i32 67), (.int .i32 807), (.bool false), (.bool false)])), ((.int .i32 200), (.agg [(.int .i32 200), (.int .i32 69), (.int .i32 768), (.bool false), (.bool false)])), ((.int .i32 201), (.agg [(.int .i32 201), (.int .i32 69), (.int .i32 769), (.bool false), (.bool false)])), ((.int .i32 202), (.agg [(.int .i32 202), (.int .i32 69), (.int .i32 770), (.bool false), (.bool false)])), ((.int .i32 203), (.agg [(.int .i32 203), (.int .i32 69), (.int .i32 776), (.bool false), (.bool false)])), ((.int .i32 209), (.agg [(.int .i32 209), (.int .i32 78), (.int .i32 771), (.bool false), (.bool false)])), ((.int .i32 214), (.agg [(.int .i32 214), (.int .i32 79), (.int .i32 776), (.bool false), (.bool false)])), ((.int .i32 220), (.agg [(.int .i32 220), (.int .i32 85), (.int .i32 776), (.bool false), (.bool false)])), ((.int .i32 224), (.agg [(.int .i32 224), (.int .i32 97), (.int .i32 768), (.bool false), (.bool false)])), ((.int .i32 225), (.agg [(.int .i32 225), (.int .i32 97), (.int .i32 769), (.bool false), (.bool false)])), ((.int .i32 226), (.agg [(.int .i32 226), (.int .i32 97), (.int .i32 770), (.bool false), (.bool false)])), ((.int .i32 227), (.agg [(.int .i32 227), (.int .i32 97), (.int .i32 771), (.bool false), (.bool false)])), ((.int .i32 228), (.agg [(.int .i32 228), (.int .i32 97), (.int .i32 776), (.bool false), (.bool false)])), ((.int .i32 229), (.agg [(.int .i32 229), (.int .i32 97), (.int .i32 778), (.bool false), (.bool false)])), ((.int .i32 231), (.agg [(.int .i32 231), (.int .i32 99), (.int .i32 807), (.bool false), (.bool false)])), ((.int .i32 232), (.agg [(.int .i32 232), (.int .i32 101), (.int .i32 768), (.bool false), (.bool false)])), ((.int .i32 233), (.agg [(.int .i32 233), (.int .i32 101), (.int .i32 769), (.bool false), (.bool false)])), ((.int .i32 234), (.agg [(.int .i32 234), (.int .i32 101), (.int .i32 770), (.bool false), (.bool false)])), ((.int .i32 235), (.agg [(.int .i32 235), (.int .i32 101), (.int .i32 776), (.bool false), (.bool false)])), ((.int .i32 241), (.agg [(.int .i32 241), (.int .i32 110), (.int .i32 771), (.bool false), (.bool false)])), ((.int .i32 246), (.agg [(.int .i32 246), (.int .i32 111), (.int .i32 776), (.bool false), (.bool false)])), ((.int .i32 252), (.agg [(.int .i32 252), (.int .i32 117), (.int .i32 776), (.bool false), (.bool false)])), ((.int .i32 1049), (.agg [(.int .i32 1049), (.int .i32 1048), (.int .i32 774), (.bool false), (.bool false)])), ((.int .i32 1081), (.agg [(.int .i32 1081), (.int .i32 1080), (.int .i32 774), (.bool false), (.bool false)])), ((.int .i32 2392), (.agg [(.int .i32 2392), (.int .i32 2325), (.int .i32 2364), (.bool false), (.bool true)])), ((.int .i32 7844), (.agg [(.int .i32 7844), (.int .i32 194), (.int .i32 769), (.bool false), (.bool false)])), ((.int .i32 7845), (.agg [(.int .i32 7845), (.int .i32 226), (.int .i32 769), (.bool false), (.bool false)])), ((.int .i32 8490), (.agg [(.int .i32 8490), (.int .i32 75), (.int .i32 0), (.bool false), (.bool true)])), ((.int .i32 8491), (.agg [(.int .i32 8491), (.int .i32 197), (.int .i32 0), (.bool false), (.bool true)])), ((.int .i32 12460), (.agg [(.int .i32 12460), (.int .i32 12459), (.int .i32 12441), (.bool false), (.bool false)])), ((.int .i32 12468), (.agg [(.int .i32 12468), (.int .i32 12467), (.int .i32 12441), (.bool false), (.bool false)])), ((.int .i32 64257), (.agg [(.int .i32 64257), (.int .i32 102), (.int .i32 105), (.bool true), (.bool true)])), ((.int .i32 64258), (.agg [(.int .i32 64258), (.int .i32 102), (.int .i32 108), (.bool true), (.bool true)]))])
def blk2 : ABlk := (.map [((.agg [(.int .i32 65), (.int .i32 768)]), (.int .i32 192)), ((.agg [(.int .i32 65), (.int .i32 769)]), (.int .i32 193)), ((.agg [(.int .i32 65), (.int .i32 770)]), (.int .i32 194)), ((.agg [(.int .i32 65), (.int .i32 771)]), (.int .i32 195)), ((.agg [(.int .i32 65), (.int .i32 776)]), (.int .i32 196)), ((.agg [(.int .i32 65), (.int .i32 778)]), (.int .i32 197)), ((.agg [(.int .i32 67), (.int .i32 807)]), (.int .i32 199)), ((.agg [(.int .i32 69), (.int .i32 768)]), (.int .i32 200)), ((.agg [(.int .i32 69), (.int .i32 769)]), (.int .i32 201)), ((.agg [(.int .i32 69), (.int .i32 770)]), (.int .i32 202)), ((.agg [(.int .i32 69), (.int .i32 776)]), (.int .i32 203)), ((.agg [(.int .i32 78), (.int .i32 771)]), (.int .i32 209)), ((.agg [(.int .i32 79), (.int .i32 776)]), (.int .i32 214)), ((.agg [(.int .i32 85), (.int .i32 776)]), (.int .i32 220)), ((.agg [(.int .i32 97), (.int .i32 768)]), (.int .i32 224)), ((.agg [(.int .i32 97), (.int .i32 769)]), (.int .i32 225)), ((.agg [(.int .i32 97), (.int .i32 770)]), (.int .i32 226)), ((.agg [(.int .i32 97), (.int .i32 771)]), (.int .i32 227)), ((.agg [(.int .i32 97), (.int .i32 776)]), (.int .i32 228)), ((.agg [(.int .i32 97), (.int .i32 778)]), (.int .i32 229)), ((.agg [(.int .i32 99), (.int .i32 807)]), (.int .i32 231)), ((.agg [(.int .i32 101), (.int .i32 768)]), (.int .i32 232)), ((.agg [(.int .i32 101), (.int .i32 769)]), (.int .i32 233)), ((.agg [(.int .i32 101), (.int .i32 770)]), (.int .i32 234)), ((.agg [(.int .i32 101), (.int .i32 776)]), (.int .i32 235)), ((.agg [(.int .i32 110), (.int .i32 771)]), (.int .i32 241)), ((.agg [(.int .i32 111), (.int .i32 776)]), (.int .i32 246)), ((.agg [(.int .i32 117), (.int .i32 776)]), (.int .i32 252)), ((.agg [(.int .i32 1048), (.int .i32 774)]), (.int .i32 1049)), ((.agg [(.int .i32 1080), (.int .i32 774)]), (.int .i32 1081)), ((.agg [(.int .i32 194), (.int .i32 769)]), (.int .i32 7844)), ((.agg [(.int .i32 226), (.int .i32 769)]), (.int .i32 7845)), ((.agg [(.int .i32 12459), (.int .i32 12441)]), (.int .i32 12460)), ((.agg [(.int .i32 12467), (.int .i32 12441)]), (.int .i32 12468))])
def blk3 : ABlk := (.row 5 [(.islice 74 true [(.int .i32 0), (.int .i32 31), (.int .i64 9), (.int .i64 0), (.int .i64 0), (.int .i64 0), (.int .i32 32), (.int .i32 32), (.int .i64 8), (.int .i64 0), (.int .i64 0), (.int .i64 0), (.int .i32 33), (.int .i32 44), (.int .i64 6), (.int .i64 0), (.int .i64 0), (.int .i64 0), (.int .i32 45), (.int .i32 47), (.int .i64 6), (.int .i64 7), (.int .i64 0), (.int .i64 0), (.int .i32 48), (.int .i32 57), (.int .i64 5), (.int .i64 4), (.int .i64 0), (.int .i64 0), (.int .i32 58), (.int .i32 64), (.int .i64 6), (.int .i64 0), (.int .i64 0), (.int .i64 0), (.int .i32 65), (.int .i32 90), (.int .i64 1), (.int .i64 1), (.int .i64 0), (.int .i64 1), (.int .i32 91), (.int .i32 96), (.int .i64 6), (.int .i64 0), (.int .i64 0), (.int .i64 0), (.int .i32 97), (.int .i32 122), (.int .i64 2), (.int .i64 1), (.int .i64 0), (.int .i64 1), (.int .i32 123), (.int .i32 126), (.int .i64 7), (.int .i64 0), (.int .i64 0), (.int .i64 0), (.int .i32 127), (.int .i32 127), (.int .i64 9), (.int .i64 0), (.int .i64 0), (.int .i64 0), (.int .i32 160), (.int .i32 160), (.int .i64 8), (.int .i64 0), (.int .i64 0), (.int .i64 0), (.int .i32 178), (.int .i32 179), (.int .i64 7), (.int .i64 4), (.int .i64 0), (.int .i64 0), (.int .i32 183), (.int .i32 183), (.int .i64 6), (.int .i64 0), (.int .i64 0), (.int .i64 0), (.int .i32 192), (.int .i32 214), (.int .i64 1), (.int .i64 1), (.int .i64 0), (.int .i64 1), (.int .i32 215), (.int .i32 215), (.int .i64 7), (.int .i64 0), (.int .i64 0), (.int .i64 0), (.int .i32 216), (.int .i32 222), (.int .i64 1), (.int .i64 1), (.int .i64 0), (.int .i64 1), (.int .i32 223), (.int .i32 246), (.int .i64 2), (.int .i64 1), (.int .i64 0), (.int .i64 1), (.int .i32 247), (.int .i32 247), (.int .i64 7), (.int .i64 0), (.int .i64 0), (.int .i64 0), (.int .i32 248), (.int .i32 255), (.int .i64 2), (.int .i64 1), (.int .i64 0), (.int .i64 1), (.int .i32 768), (.int .i32 772), (.int .i64 4), (.int .i64 6), (.int .i64 3), (.int .i64 0), (.int .i32 774), (.int .i32 776), (.int .i64 4), (.int .i64 6), (.int .i64 3), (.int .i64 0), (.int .i32 778), (.int .i32 778), (.int .i64 4), (.int .i64 6), (.int .i64 3), (.int .i64 0), (.int .i32 803), (.int .i32 803), (.int .i64 4), (.int .i64 6), (.int .i64 3), (.int .i64 0), (.int .i32 807), (.int .i32 807), (.int .i64 4), (.int .i64 6), (.int .i64 3), (.int .i64 0), (.int .i32 885), (.int .i32 885), (.int .i64 7), (.int .i64 0), (.int .i64 0), (.int .i64 2), (.int .i32 913), (.int .i32 929), (.int .i64 1), (.int .i64 1), (.int .i64 0), (.int .i64 2), (.int .i32 931), (.int .i32 937), (.int .i64 1), (.int .i64 1), (.int .i64 0), (.int .i64 2), (.int .i32 945), (.int .i32 969), (.int .i64 2), (.int .i64 1), (.int .i64 0), (.int .i64 2), (.int .i32 1040), (.int .i32 1071), (.int .i64 1), (.int .i64 1), (.int .i64 0), (.int .i64 3), (.int .i32 1072), (.int .i32 1103), (.int .i64 2), (.int .i64 1), (.int .i64 0), (.int .i64 3), (.int .i32 1456), (.int .i32 1465), (.int .i64 4), (.int .i64 6), (.int .i64 3), (.int .i64 4), (.int .i32 1488), (.int .i32 1514), (.int .i64 3), (.int .i64 2), (.int .i64 0), (.int .i64 4), (.int .i32 1523), (.int .i32 1524), (.int .i64 6), (.int .i64 2), (.int .i64 0), (.int .i64 4), (.int .i32 1575), (.int .i32 1575), (.int .i64 3), (.int .i64 3), (.int .i64 2), (.int .i64 5), (.int .i32 1576), (.int .i32 1576), (.int .i64 3), (.int .i64 3), (.int .i64 1), (.int .i64 5), (.int .i32 1577), (.int .i32 1577), (.int .i64 3), (.int .i64 3), (.int .i64 2), (.int .i64 5), (.int .i32 1578), (.int .i32 1582), (.int .i64 3), (.int .i64 3), (.int .i64 1), (.int .i64 5), (.int .i32 1583), (.int .i32 1586), (.int .i64 3), (.int .i64 3), (.int .i64 2), (.int .i64 5), (.int .i32 1587), (.int .i32 1594), (.int .i64 3), (.int .i64 3), (.int .i64 1), (.int .i64 5), (.int .i32 1601), (.int .i32 1607), (.int .i64 3), (.int .i64 3), (.int .i64 1), (.int .i64 5), (.int .i32 1608), (.int .i32 1608), (.int .i64 3), (.int .i64 3), (.int .i64 2), (.int .i64 5), (.int .i32 1610), (.int .i32 1610), (.int .i64 3), (.int .i64 3), (.int .i64 1), (.int .i64 5), (.int .i32 1611), (.int .i32 1618), (.int .i64 4), (.int .i64 6), (.int .i64 3), (.int .i64 0), (.int .i32 1632), (.int .i32 1641), (.int .i64 5), (.int .i64 5), (.int .i64 0), (.int .i64 5), (.int .i32 1776), (.int .i32 1785), (.int .i64 5), (.int .i64 4), (.int .i64 0), (.int .i64 5), (.int .i32 2325), (.int .i32 2361), (.int .i64 3), (.int .i64 1), (.int .i64 0), (.int .i64 6), (.int .i32 2364), (.int .i32 2364), (.int .i64 4), (.int .i64 6), (.int .i64 3), (.int .i64 6), (.int .i32 2381), (.int .i32 2381), (.int .i64 4), (.int .i64 6), (.int .i64 3), (.int .i64 6), (.int .i32 2392), (.int .i32 2392), (.int .i64 3), (.int .i64 1), (.int .i64 0), (.int .i64 6), (.int .i32 4352), (.int .i32 4370), (.int .i64 3), (.int .i64 1), (.int .i64 0), (.int .i64 9), (.int .i32 4449), (.int .i32 4469), (.int .i64 3), (.int .i64 1), (.int .i64 0), (.int .i64 9), (.int .i32 4520), (.int .i32 4546), (.int .i64 3), (.int .i64 1), (.int .i64 0), (.int .i64 9), (.int .i32 7844), (.int .i32 7844), (.int .i64 1), (.int .i64 1), (.int .i64 0), (.int .i64 1), (.int .i32 7845), (.int .i32 7845), (.int .i64 2), (.int .i64 1), (.int .i64 0), (.int .i64 1), (.int .i32 8204), (.int .i32 8205), (.int .i64 10), (.int .i64 0), (.int .i64 0), (.int .i64 0), (.int .i32 8490), (.int .i32 8491), (.int .i64 1), (.int .i64 1), (.int .i64 0), (.int .i64 1), (.int .i32 12290), (.int .i32 12290), (.int .i64 6), (.int .i64 0), (.int .i64 0), (.int .i64 0), (.int .i32 12353), (.int .i32 12438), (.int .i64 3), (.int .i64 1), (.int .i64 0), (.int .i64 7), (.int .i32 12441), (.int .i32 12441), (.int .i64 4), (.int .i64 6), (.int .i64 3), (.int .i64 0), (.int .i32 12449), (.int .i32 12538), (.int .i64 3), (.int .i64 1), (.int .i64 0), (.int .i64 7), (.int .i32 12539), (.int .i32 12539), (.int .i64 6), (.int .i64 0), (.int .i64 0), (.int .i64 0), (.int .i32 19968), (.int .i32 40959), (.int .i64 3), (.int .i64 1), (.int .i64 0), (.int .i64 8), (.int .i32 44032), (.int .i32 55203), (.int .i64 3), (.int .i64 1), (.int .i64 0), (.int .i64 9), (.int .i32 64257), (.int .i32 64258), (.int .i64 2), (.int .i64 1), (.int .i64 0), (.int .i64 1), (.int .i32 65281), (.int .i32 65295), (.int .i64 6), (.int .i64 0), (.int .i64 0), (.int .i64 0), (.int .i32 65296), (.int .i32 65305), (.int .i64 5), (.int .i64 4), (.int .i64 0), (.int .i64 0), (.int .i32 65306), (.int .i32 65312), (.int .i64 6), (.int .i64 0), (.int .i64 0), (.int .i64 0), (.int .i32 65313), (.int .i32 65338), (.int .i64 1), (.int .i64 1), (.int .i64 0), (.int .i64 1), (.int .i32 65339), (.int .i32 65344), (.int .i64 6), (.int .i64 0), (.int .i64 0), (.int .i64 0), (.int .i32 65345), (.int .i32 65370), (.int .i64 2), (.int .i64 1), (.int .i64 0), (.int .i64 1), (.int .i32 65371), (.int .i32 65374), (.int .i64 7), (.int .i64 0), (.int .i64 0), (.int .i64 0), (.int .i32 66560), (.int .i32 66599), (.int .i64 1), (.int .i64 1), (.int .i64 0), (.int .i64 10), (.int .i32 66600), (.int .i32 66639), (.int .i64 2), (.int .i64 1), (.int .i64 0), (.int .i64 10)]), (.islice 10 true [(.int .i32 768), (.int .i32 772), (.int .i64 230), (.int .i64 0), (.int .i32 774), (.int .i32 776), (.int .i64 230), (.int .i64 0), (.int .i32 778), (.int .i32 778), (.int .i64 230), (.int .i64 0), (.int .i32 803), (.int .i32 803), (.int .i64 220), (.int .i64 0), (.int .i32 807), (.int .i32 807), (.int .i64 202), (.int .i64 0), (.int .i32 1456), (.int .i32 1465), (.int .i64 10), (.int .i64 1), (.int .i32 1611), (.int .i32 1618), (.int .i64 27), (.int .i64 1), (.int .i32 2364), (.int .i32 2364), (.int .i64 7), (.int .i64 0), (.int .i32 2381), (.int .i32 2381), (.int .i64 9), (.int .i64 0), (.int .i32 12441), (.int .i32 12441), (.int .i64 8), (.int .i64 0)]), (.islice 11 true [(.int .i32 65), (.int .i32 90), (.int .i32 32), (.int .i32 192), (.int .i32 214), (.int .i32 32), (.int .i32 216), (.int .i32 222), (.int .i32 32), (.int .i32 913), (.int .i32 929), (.int .i32 32), (.int .i32 931), (.int .i32 937), (.int .i32 32), (.int .i32 1040), (.int .i32 1071), (.int .i32 32), (.int .i32 7844), (.int .i32 7844), (.int .i32 1), (.int .i32 8490), (.int .i32 8490), (.int .i32 (-8383)), (.int .i32 8491), (.int .i32 8491), (.int .i32 (-8262)), (.int .i32 65313), (.int .i32 65338), (.int .i32 32), (.int .i32 66560), (.int .i32 66599), (.int .i32 40)]), (.map 1), (.map 2)])
def blk4 : ABlk := (.row 5 [(.int .i32 160), (.int .i32 32), (.int .i32 0), (.bool true), (.bool true)])
def blk5 : ABlk := (.row 5 [(.int .i32 178), (.int .i32 50), (.int .i32 0), (.bool true), (.bool true)])
def blk6 : ABlk := (.row 5 [(.int .i32 179), (.int .i32 51), (.int .i32 0), (.bool true), (.bool true)])
def blk7 : ABlk := (.row 5 [(.int .i32 192), (.int .i32 65), (.int .i32 768), (.bool false), (.bool false)])
def blk8 : ABlk := (.row 5 [(.int .i32 193), (.int .i32 65), (.int .i32 769), (.bool false), (.bool false)])
def blk9 : ABlk := (.row 5 [(.int .i32 194), (.int .i32 65), (.int .i32 770), (.bool false), (.bool false)])
def blk10 : ABlk := (.row 5 [(.int .i32 195), (.int .i32 65), (.int .i32 771), (.bool false), (.bool false)])
def blk11 : ABlk := (.row 5 [(.int .i32 196), (.int .i32 65), (.int .i32 776), (.bool false), (.bool false)])
def blk12 : ABlk := (.row 5 [(.int .i32 197), (.int .i32 65), (.int .i32 778), (.bool false), (.bool false)])
def blk13 : ABlk := (.row 5 [(.int .i32 199), (.int .i32 67), (.int .i32 807), (.bool false), (.bool false)])
def blk14 : ABlk := (.row 5 [(.int .i32 200), (.int .i32 69), (.int .i32 768), (.bool false), (.bool false)])
def blk15 : ABlk := (.row 5 [(.int .i32 201), (.int .i32 69), (.int .i32 769), (.bool false), (.bool false)])
def blk16 : ABlk := (.row 5 [(.int .i32 202), (.int .i32 69), (.int .i32 770), (.bool false), (.bool false)])
def blk17 : ABlk := (.row 5 [(.int .i32 203), (.int .i32 69), (.int .i32 776), (.bool false), (.bool false)])
def blk18 : ABlk := (.row 5 [(.int .i32 209), (.int .i32 78), (.int .i32 771), (.bool false), (.bool false)])
def blk19 : ABlk := (.row 5 [(.int .i32 214), (.int .i32 79), (.int .i32 776), (.bool false), (.bool false)])
def blk20 : ABlk := (.row 5 [(.int .i32 220), (.int .i32 85), (.int .i32 776), (.bool false), (.bool false)])
def blk21 : ABlk := (.row 5 [(.int .i32 224), (.int .i32 97), (.int .i32 768), (.bool false), (.bool false)])
def blk22 : ABlk := (.row 5 [(.int .i32 225), (.int .i32 97), (.int .i32 769), (.bool false), (.bool false)])
def blk23 : ABlk := (.row 5 [(.int .i32 226), (.int .i32 97), (.int .i32 770), (.bool false), (.bool false)])
def blk24 : ABlk := (.row 5 [(.int .i32 227), (.int .i32 97), (.int .i32 771), (.bool false), (.bool false)])
def blk25 : ABlk := (.row 5 [(.int .i32 228), (.int .i32 97), (.int .i32 776), (.bool false), (.bool false)])
def blk26 : ABlk := (.row 5 [(.int .i32 229), (.int .i32 97), (.int .i32 778), (.bool false), (.bool false)])
def blk27 : ABlk := (.row 5 [(.int .i32 231), (.int .i32 99), (.int .i32 807), (.bool false), (.bool false)])
def blk28 : ABlk := (.row 5 [(.int .i32 232), (.int .i32 101), (.int .i32 768), (.bool false), (.bool false)])
def blk29 : ABlk := (.row 5 [(.int .i32 233), (.int .i32 101), (.int .i32 769), (.bool false), (.bool false)])
def blk30 : ABlk := (.row 5 [(.int .i32 234), (.int .i32 101), (.int .i32 770), (.bool false), (.bool false)])
def blk31 : ABlk := (.row 5 [(.int .i32 235), (.int .i32 101), (.int .i32 776), (.bool false), (.bool false)])
def blk32 : ABlk := (.row 5 [(.int .i32 241), (.int .i32 110), (.int .i32 771), (.bool false), (.bool false)])
def blk33 : ABlk := (.row 5 [(.int .i32 246), (.int .i32 111), (.int .i32 776), (.bool false), (.bool false)])
def blk34 : ABlk := (.row 5 [(.int .i32 252), (.int .i32 117), (.int .i32 776), (.bool false), (.bool false)])
def blk35 : ABlk := (.row 5 [(.int .i32 1049), (.int .i32 1048), (.int .i32 774), (.bool false), (.bool false)])
def blk36 : ABlk := (.row 5 [(.int .i32 1081), (.int .i32 1080), (.int .i32 774), (.bool false), (.bool false)])
def blk37 : ABlk := (.row 5 [(.int .i32 2392), (.int .i32 2325), (.int .i32 2364), (.bool false), (.bool true)])
def blk38 : ABlk := (.row 5 [(.int .i32 7844), (.int .i32 194), (.int .i32 769), (.bool false), (.bool false)])
def blk39 : ABlk := (.row 5 [(.int .i32 7845), (.int .i32 226), (.int .i32 769), (.bool false), (.bool false)])
def blk40 : ABlk := (.row 5 [(.int .i32 8490), (.int .i32 75), (.int .i32 0), (.bool false), (.bool true)])
def blk41 : ABlk := (.row 5 [(.int .i32 8491), (.int .i32 197), (.int .i32 0), (.bool false), (.bool true)])
def blk42 : ABlk := (.row 5 [(.int .i32 12460), (.int .i32 12459), (.int .i32 12441), (.bool false), (.bool false)])
def blk43 : ABlk := (.row 5 [(.int .i32 12468), (.int .i32 12467), (.int .i32 12441), (.bool false), (.bool false)])
def blk44 : ABlk := (.row 5 [(.int .i32 64257), (.int .i32 102), (.int .i32 105), (.bool true), (.bool true)])
def blk45 : ABlk := (.row 5 [(.int .i32 64258), (.int .i32 102), (.int .i32 108), (.bool true), (.bool true)])
def newH : List ABlk := [blk0, blk1, blk2, blk3, blk4, blk5, blk6, blk7, blk8, blk9, blk10, blk11, blk12, blk13, blk14, blk15, blk16, blk17, blk18, blk19, blk20, blk21, blk22, blk23, blk24, blk25, blk26, blk27, blk28, blk29, blk30, blk31, blk32, blk33, blk34, blk35, blk36, blk37, blk38, blk39, blk40, blk41, blk42, blk43, blk44, blk45]
def newD : List Nat := [0, 1, 45, 1, 44, 2, 1, 43, 2, 1, 42, 1, 41, 1, 40, 2, 1, 39, 2, 1, 38, 1, 37, 2, 1, 36, 2, 1, 35, 2, 1, 34, 2, 1, 33, 2, 1, 32, 2, 1, 31, 2, 1, 30, 2, 1, 29, 2, 1, 28, 2, 1, 27, 2, 1, 26, 2, 1, 25, 2, 1, 24, 2, 1, 23, 2, 1, 22, 2, 1, 21, 2, 1, 20, 2, 1, 19, 2, 1, 18, 2, 1, 17, 2, 1, 16, 2, 1, 15, 2, 1, 14, 2, 1, 13, 2, 1, 12, 2, 1, 11, 2, 1, 10, 2, 1, 9, 2, 1, 8, 2, 1, 7, 1, 6, 1, 5, 1, 4, 3]
def table : AVal := .agg [ranges, classes, lowers, .map 1, .map 2]
theorem new_eq : (ev C 300).call 8 [] ⟨[], []⟩ = some (table, ⟨newH, newD⟩) := by kernel_rfl
end Go.Shadow.T17
