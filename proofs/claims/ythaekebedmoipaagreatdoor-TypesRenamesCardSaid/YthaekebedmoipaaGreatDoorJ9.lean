/- Part 9 of the proof: C3 M1 N1 X5 N2 M2 N3 N4 N5 N6 N7. -/
import Derived.Test.YthaekebedmoipaaGreatDoorJ6
import Derived.Test.YthaekebedmoipaaGreatDoorJ8
import Derived.Test.YthaekebedmoipaaGreatDoorProg
import Derived.RowKit
import Derived.ChangeSame
import Derived.ChangeSlices
import Derived.SizedLaws
import Derived.Test.YthaekebedmoipaaGreatDoorJ7
set_option linter.unusedVariables false
set_option linter.unusedSimpArgs false
set_option linter.unusedSectionVars false
set_option maxRecDepth 100000
namespace Go.Proofs.YthaekebedmoipaaGreatDoor.AM
open Go Go.RowKit
section
def b26 : SCode := (.seq (.reg [pE 2 (.mov (i 0))]) (.seq (.reg [m 3 0, pE 4 (.nilck (t 3)), pE 5 (.fldA 1 (t 4)), oS 6 (.load 1 false (t 5)), pE 7 (.bin .int .add (t 6) (i 1)), pE 8 (.nilck (t 3)), pE 9 (.fldA 1 (t 8)), ⟨none, none, (.store 1 (t 9) (t 7))⟩]) (.seq (.seq (.draw [0, 1, 3, 7, 0, 16, 48, 112, 240, 511] [0, 1, 2, 3, 4, 5, 6, 7, 8, 9] [m 10 0, pE 11 (.nilck (t 10)), pE 12 (.fldA 1 (t 11)), oS 13 (.load 1 false (t 12)), m 14 0, pE 15 (.nilck (t 14)), pE 16 (.fldA 0 (t 15)), oS 17 (.load 1 false (t 16)), pE 18 (.lenL (t 17)), pE 19 (.bin .int .gtr (t 13) (t 18))]) (.cond (t 19) (.seq (.reg [pE 2 (.mov (i 0))]) .ret) .skip)) (.seq (.draw [0, 1, 3, 7, 0, 16, 48, 112, 240, 511, 1023, 2047, 4095] [0, 1, 2, 3, 4, 5, 6, 7, 8, 9, 10, 11, 12] [m 20 0, pE 21 (.nilck (t 20)), pE 22 (.fldA 0 (t 21)), oS 23 (.load 1 false (t 22)), m 24 0, pE 25 (.nilck (t 24)), pE 26 (.fldA 1 (t 25)), oS 27 (.load 1 false (t 26)), pE 28 (.bin .int .sub (t 27) (i 1)), pE 29 (.idxA 1 (t 23) (t 28)), oS 30 (.load 1 false (t 29)), pE 31 (.conv (.toInt .i64) (t 30)), m 2 31]) .ret))))
theorem r26 : resFunc Tryz.prog Tryz.f26 = some ⟨32, [(.tmp 2)], b26.strip⟩ := by kernel_rfl
def b27 : SCode := (.seq (.reg [pE 0 (.mov (.lit (.sl [] 0 .full)))]) (.seq (.reg [pE 1 (.build [(.str []), (.int .i64 0), (.int .i64 0), (.int .i64 0)] [(0, (1, (.lit (.str [97])))), (1, (1, (i 1))), (2, (1, (i 1))), (3, (1, (i 8)))]), pE 2 (.build [(.str []), (.int .i64 0), (.int .i64 0), (.int .i64 0)] [(0, (1, (.lit (.str [102])))), (1, (1, (i 1))), (2, (1, (i 2))), (3, (1, (i 4)))]), pE 3 (.build [(.str []), (.int .i64 0), (.int .i64 0), (.int .i64 0)] [(0, (1, (.lit (.str [115])))), (1, (1, (i 2))), (2, (1, (i 1))), (3, (1, (i 8)))]), pE 4 (.build [(.str []), (.int .i64 0), (.int .i64 0), (.int .i64 0)] [(0, (1, (.lit (.str [112])))), (1, (1, (i 3))), (2, (1, (i 1))), (3, (1, (i 4)))]), pE 5 (.build [(.str []), (.int .i64 0), (.int .i64 0), (.int .i64 0)] [(0, (1, (.lit (.str [98])))), (1, (1, (i 2))), (2, (1, (i 3))), (3, (1, (i 4)))]), pE 6 (.lits 4 [(t 1), (t 2), (t 3), (t 4), (t 5)]), m 0 6]) .ret))
theorem r27 : resFunc Tryz.prog Tryz.f27 = some ⟨7, [(.tmp 0)], b27.strip⟩ := by kernel_rfl
def b86 : SCode := (.seq (.reg [oS 4 (.alloc 31 (.agg [(.int .i64 0), (.int .i64 0), (.int .i64 0), (.str []), (.int .i32 0), (.sl [] 0 .full)]) 0)]) (.seq (.reg [m 5 0, m 6 1, pE 7 (.build [(.int .i64 0), (.int .i64 0), (.int .i64 0), (.str []), (.int .i32 0), (.sl [] 0 .full)] [(0, (1, (i 1))), (2, (1, (t 5))), (4, (1, (t 6)))]), ⟨none, none, (.store 6 (t 4) (t 7))⟩]) .ret))
theorem r86 : resFunc Tryz.prog Tryz.f86 = some ⟨8, [(.cell 4 6 true)], b86.strip⟩ := by kernel_rfl
def l87_0 : SCode := (.seq (.seq (.reg [m 9 7, m 10 0, pE 11 (.nilck (t 10)), pE 12 (.fldA 2 (t 11)), oS 13 (.load 1 false (t 12)), pE 14 (.lenL (t 13)), pE 15 (.bin .int .lss (t 9) (t 14))]) (.cond (t 15) .skip (.exit 0))) (.seq (.block 1 (.seq (.reg [m 18 0, pE 19 (.nilck (t 18)), pE 20 (.fldA 2 (t 19)), oS 21 (.load 1 false (t 20)), m 22 7, pE 23 (.idxA 2 (t 21) (t 22)), pE 24 (.fldA 1 (t 23)), oS 25 (.load 1 false (t 24)), m 26 1, pE 27 (.bin .int .eql (t 25) (t 26))]) (.cond (t 27) (.reg [m 28 6, m 29 0, pE 30 (.nilck (t 29)), pE 31 (.fldA 2 (t 30)), oS 32 (.load 1 false (t 31)), m 33 7, pE 34 (.idxA 2 (t 32) (t 33)), pE 35 (.fldA 0 (t 34)), oS 36 (.load 1 false (t 35)), pE 37 (.lits 1 [(t 36)]), oS 38 (.append false 9 1 16 (t 28) (t 37) 10), m 6 38]) .skip))) (.reg [m 16 7, pE 17 (.bin .int .add (t 16) (i 1)), m 7 17])))
def b87 : SCode := (.seq (.reg [pE 4 (.mov (.lit (.str []))), pE 5 (.mov (.lit (.bool false)))]) (.seq (.reg [pE 8 (.lits 1 []), m 6 8]) (.seq (.seq (.reg [pE 7 (.mov (i 0))]) (.block 0 (.loop l87_0))) (.seq (.seq (.reg [m 39 6, pE 40 (.lenL (t 39)), pE 41 (.bin .int .eql (t 40) (i 0))]) (.cond (t 41) (.seq (.reg [pE 4 (.mov (.lit (.str []))), pE 5 (.mov (.lit (.bool false)))]) .ret) .skip)) (.seq (.reg [m 42 6, m 43 0, oS 44 (.call 26 [(t 43)]), m 45 6, pE 46 (.lenL (t 45)), pE 47 (.bin .int .rem (t 44) (t 46)), pE 48 (.idxA 1 (t 42) (t 47)), oS 49 (.load 1 false (t 48)), m 4 49, pE 5 (.mov (.lit (.bool true)))]) .ret)))))
theorem r87 : resFunc Tryz.prog Tryz.f87 = some ⟨50, [(.tmp 4), (.tmp 5)], b87.strip⟩ := by kernel_rfl
def b58 : SCode := (.seq (.reg [oS 4 (.alloc 31 (.agg [(.int .i64 0), (.int .i64 0), (.int .i64 0), (.str []), (.int .i32 0), (.sl [] 0 .full)]) 0)]) (.seq (.reg [m 8 0, oS 9 (.call 26 [(t 8)]), m 5 9]) (.seq (.reg [m 11 0, m 12 1, oS 13 (.call 87 [(t 11), (t 12)]), m 10 13, pE 14 (.ext (t 10) 0), pE 15 (.ext (t 10) 1), m 6 14, m 7 15]) (.seq (.seq (.reg [m 16 7, m 17 16, pG 18 17 true (.mov (t 5)), pG 19 17 true (.bin .int .rem (t 18) (i 2)), pG 20 17 true (.bin .int .eql (t 19) (i 0)), pE 21 (.pick (t 17) (t 20) (.lit (.bool false)))]) (.cond (t 21) (.seq (.reg [m 22 6, pE 23 (.build [(.int .i64 0), (.int .i64 0), (.int .i64 0), (.str []), (.int .i32 0), (.sl [] 0 .full)] [(0, (1, (i 2))), (3, (1, (t 22)))]), ⟨none, none, (.store 6 (t 4) (t 23))⟩]) .ret) .skip)) (.seq (.seq (.reg [m 24 1, pE 25 (.bin .int .eql (t 24) (i 1)), m 26 25, pG 27 26 true (.mov (t 5)), pG 28 26 true (.bin .int .rem (t 27) (i 4)), pG 29 26 true (.bin .int .eql (t 28) (i 1)), pE 30 (.pick (t 26) (t 29) (.lit (.bool false)))]) (.cond (t 30) (.seq (.reg [m 31 5, pE 32 (.bin .int .quo (t 31) (i 4)), pE 33 (.bin .int .rem (t 32) (i 7)), pE 34 (.bin .int .add (i 1) (t 33)), pE 35 (.build [(.int .i64 0), (.int .i64 0), (.int .i64 0), (.str []), (.int .i32 0), (.sl [] 0 .full)] [(0, (1, (i 3))), (1, (1, (t 34)))]), ⟨none, none, (.store 6 (t 4) (t 35))⟩]) .ret) .skip)) (.seq (.seq (.reg [m 36 1, pE 37 (.bin .int .eql (t 36) (i 1))]) (.cond (t 37) (.seq (.reg [m 38 1, m 39 5, pE 40 (.bin .int .rem (t 39) (i 16)), pE 41 (.conv (.toInt .i32) (t 40)), pE 42 (.bin .int .sub (t 41) (.lit (.int .i32 4))), oS 43 (.call 86 [(t 38), (t 42)]), ⟨none, none, (.store 6 (t 4) (t 43))⟩]) .ret) .skip)) (.seq (.seq (.reg [m 44 1, pE 45 (.bin .int .eql (t 44) (i 2))]) (.cond (t 45) (.seq (.reg [m 46 1, m 47 5, pE 48 (.conv (.toInt .i32) (t 47)), pE 49 (.bin .int .mul (t 48) (.lit (.int .i32 16384))), pE 50 (.bin .int .sub (t 49) (.lit (.int .i32 100000))), oS 51 (.call 86 [(t 46), (t 50)]), ⟨none, none, (.store 6 (t 4) (t 51))⟩]) .ret) .skip)) (.seq (.reg [m 52 1, m 53 5, pE 54 (.bin .int .quo (t 53) (i 4)), pE 55 (.bin .int .rem (t 54) (i 2)), pE 56 (.conv (.toInt .i32) (t 55)), oS 57 (.call 86 [(t 52), (t 56)]), ⟨none, none, (.store 6 (t 4) (t 57))⟩]) .ret))))))))
theorem r58 : resFunc Tryz.prog Tryz.f58 = some ⟨58, [(.cell 4 6 true)], b58.strip⟩ := by kernel_rfl
def b85 : SCode := (.seq (.frz [4, 5] (.reg [oS 4 (.box 31 (t 1) 0), oS 5 (.box 31 (t 2) 1), oS 6 (.alloc 31 (.agg [(.int .i64 0), (.int .i64 0), (.int .i64 0), (.str []), (.int .i32 0), (.sl [] 0 .full)]) 2)])) (.seq (.reg [m 7 0, oS 8 (.load 6 true (t 4)), oS 9 (.load 6 true (t 5)), pE 10 (.lits 6 [(t 8), (t 9)]), pE 11 (.build [(.int .i64 0), (.int .i64 0), (.int .i64 0), (.str []), (.int .i32 0), (.sl [] 0 .full)] [(0, (1, (i 5))), (1, (1, (t 7))), (5, (1, (t 10)))]), ⟨none, none, (.store 6 (t 6) (t 11))⟩]) .ret))
theorem r85 : resFunc Tryz.prog Tryz.f85 = some ⟨12, [(.cell 6 6 true)], b85.strip⟩ := by kernel_rfl
def b88 : SCode := (.seq (.frz [3] (.reg [oS 3 (.box 31 (t 1) 0), oS 4 (.alloc 31 (.agg [(.int .i64 0), (.int .i64 0), (.int .i64 0), (.str []), (.int .i32 0), (.sl [] 0 .full)]) 1)])) (.seq (.reg [m 5 0, oS 6 (.load 6 true (t 3)), pE 7 (.lits 6 [(t 6)]), pE 8 (.build [(.int .i64 0), (.int .i64 0), (.int .i64 0), (.str []), (.int .i32 0), (.sl [] 0 .full)] [(0, (1, (i 4))), (1, (1, (t 5))), (5, (1, (t 7)))]), ⟨none, none, (.store 6 (t 4) (t 8))⟩]) .ret))
theorem r88 : resFunc Tryz.prog Tryz.f88 = some ⟨9, [(.cell 4 6 true)], b88.strip⟩ := by kernel_rfl
def b56 : SCode := (.seq (.reg [oS 6 (.alloc 31 (.agg [(.int .i64 0), (.int .i64 0), (.int .i64 0), (.str []), (.int .i32 0), (.sl [] 0 .full)]) 0)]) (.seq (.reg [m 7 0, m 8 2, pE 9 (.bin .int .sub (t 8) (i 1)), oS 10 (.call 30 [(t 7), (i 1), (t 9)]), m 11 1, pE 12 (.bin .int .sub (t 11) (i 1)), pE 13 (.conv (.toInt .i32) (t 12)), oS 14 (.call 86 [(i 1), (t 13)]), oS 15 (.call 85 [(i 17), (t 10), (t 14)]), ⟨none, none, (.store 6 (t 6) (t 15))⟩]) .ret))
theorem r56 : resFunc Tryz.prog Tryz.f56 = some ⟨16, [(.cell 6 6 true)], b56.strip⟩ := by kernel_rfl
def b89 : SCode := (.seq (.reg [oS 8 (.alloc 31 (.agg [(.int .i64 0), (.int .i64 0), (.int .i64 0), (.str []), (.int .i32 0), (.sl [] 0 .full)]) 0)]) (.seq (.reg [m 9 1, m 10 0, m 11 2, m 12 3, oS 13 (.call 56 [(t 10), (t 11), (t 12)]), pE 14 (.lits 6 [(t 13)]), pE 15 (.build [(.int .i64 0), (.int .i64 0), (.int .i64 0), (.str []), (.int .i32 0), (.sl [] 0 .full)] [(0, (1, (i 7))), (3, (1, (t 9))), (5, (1, (t 14)))]), ⟨none, none, (.store 6 (t 8) (t 15))⟩]) .ret))
theorem r89 : resFunc Tryz.prog Tryz.f89 = some ⟨16, [(.cell 8 6 true)], b89.strip⟩ := by kernel_rfl
def b59 : SCode := (.seq (.reg [oS 6 (.alloc 31 (.agg [(.int .i64 0), (.int .i64 0), (.int .i64 0), (.str []), (.int .i32 0), (.sl [] 0 .full)]) 0)]) (.seq (.reg [pE 8 (.lits 1 [(i 10), (i 11), (i 12), (i 13), (i 14), (i 17), (i 18), (i 19), (i 20), (i 21), (i 22), (i 23)]), m 7 8]) (.seq (.seq (.reg [m 9 1, pE 10 (.bin .int .rem (t 9) (i 18)), pE 11 (.bin .int .lss (t 10) (i 12))]) (.cond (t 11) (.seq (.draw [0, 0, 2, 7, 15, 0, 0, 64, 224, 0, 0, 1024, 4064, 8191, 16383] [0, 1, 2, 3, 4, 5, 6, 7, 8, 9, 10, 11, 12, 13, 14] [m 12 7, m 13 1, pE 14 (.bin .int .rem (t 13) (i 18)), pE 15 (.idxA 1 (t 12) (t 14)), oS 16 (.load 1 false (t 15)), m 17 0, m 18 2, pE 19 (.bin .int .sub (t 18) (i 1)), oS 20 (.call 30 [(t 17), (i 1), (t 19)]), m 21 0, m 22 2, pE 23 (.bin .int .sub (t 22) (i 1)), oS 24 (.call 30 [(t 21), (i 1), (t 23)]), oS 25 (.call 85 [(t 16), (t 20), (t 24)]), ⟨none, none, (.store 6 (t 6) (t 25))⟩]) .ret) .skip)) (.seq (.seq (.reg [m 26 1, pE 27 (.bin .int .rem (t 26) (i 18)), pE 28 (.bin .int .eql (t 27) (i 12))]) (.cond (t 28) (.seq (.reg [m 29 0, m 30 2, pE 31 (.bin .int .sub (t 30) (i 1)), oS 32 (.call 30 [(t 29), (i 2), (t 31)]), oS 33 (.call 88 [(i 5), (t 32)]), ⟨none, none, (.store 6 (t 6) (t 33))⟩]) .ret) .skip)) (.seq (.seq (.reg [m 34 1, pE 35 (.bin .int .rem (t 34) (i 18)), pE 36 (.bin .int .eql (t 35) (i 13))]) (.cond (t 36) (.seq (.draw [0, 0, 2, 6, 15, 31, 0, 0, 128, 454, 1023, 2047] [0, 1, 2, 3, 4, 5, 6, 7, 8, 9, 10, 11] [pE 37 (.lits 1 [(i 1), (i 2), (i 3)]), m 38 0, oS 39 (.call 26 [(t 38)]), pE 40 (.bin .int .rem (t 39) (i 3)), pE 41 (.idxA 1 (t 37) (t 40)), oS 42 (.load 1 false (t 41)), m 43 0, m 44 2, pE 45 (.bin .int .sub (t 44) (i 1)), oS 46 (.call 30 [(t 43), (i 1), (t 45)]), oS 47 (.call 88 [(t 42), (t 46)]), ⟨none, none, (.store 6 (t 6) (t 47))⟩]) .ret) .skip)) (.seq (.seq (.reg [m 48 1, pE 49 (.bin .int .rem (t 48) (i 18)), pE 50 (.bin .int .eql (t 49) (i 14)), m 51 50, pG 52 51 true (.mov (t 0)), pG 53 51 true (.nilck (t 52)), pG 54 51 true (.fldA 5 (t 53)), oG 55 51 true (.load 1 false (t 54)), pE 56 (.pick (t 51) (t 55) (.lit (.bool false)))]) (.cond (t 56) (.seq (.reg [m 57 0, m 58 2, pE 59 (.bin .int .sub (t 58) (i 1)), oS 60 (.call 30 [(t 57), (i 1), (t 59)]), m 61 0, m 62 2, pE 63 (.bin .int .sub (t 62) (i 1)), oS 64 (.call 30 [(t 61), (i 1), (t 63)]), pE 65 (.lits 6 [(t 60), (t 64)]), pE 66 (.build [(.int .i64 0), (.int .i64 0), (.int .i64 0), (.str []), (.int .i32 0), (.sl [] 0 .full)] [(0, (1, (i 8))), (3, (1, (.lit (.str [104])))), (5, (1, (t 65)))]), ⟨none, none, (.store 6 (t 6) (t 66))⟩]) .ret) .skip)) (.seq (.seq (.reg [m 67 0, pE 68 (.nilck (t 67)), pE 69 (.fldA 6 (t 68)), oS 70 (.load 1 false (t 69)), pE 71 (.un .not (t 70))]) (.cond (t 71) (.seq (.reg [m 72 0, oS 73 (.call 58 [(t 72), (i 1)]), ⟨none, none, (.store 6 (t 6) (t 73))⟩]) .ret) .skip)) (.seq (.seq (.reg [m 74 1, pE 75 (.bin .int .rem (t 74) (i 3)), pE 76 (.bin .int .eql (t 75) (i 0))]) (.cond (t 76) (.seq (.reg [m 77 0, m 78 2, oS 79 (.call 89 [(t 77), (.lit (.str [112])), (i 4), (t 78)]), ⟨none, none, (.store 6 (t 6) (t 79))⟩]) .ret) .skip)) (.seq (.reg [m 80 0, pE 81 (.lits 1 [(.lit (.str [97])), (.lit (.str [115]))]), m 82 1, pE 83 (.bin .int .rem (t 82) (i 2)), pE 84 (.idxA 1 (t 81) (t 83)), oS 85 (.load 1 false (t 84)), m 86 2, oS 87 (.call 89 [(t 80), (t 85), (i 8), (t 86)]), ⟨none, none, (.store 6 (t 6) (t 87))⟩]) .ret)))))))))
theorem r59 : resFunc Tryz.prog Tryz.f59 = some ⟨88, [(.cell 6 6 true)], b59.strip⟩ := by kernel_rfl
def b60 : SCode := (.seq (.reg [oS 6 (.alloc 31 (.agg [(.int .i64 0), (.int .i64 0), (.int .i64 0), (.str []), (.int .i32 0), (.sl [] 0 .full)]) 0)]) (.seq (.reg [pE 8 (.lits 1 [(i 10), (i 11), (i 15), (i 16), (i 22), (i 23)]), m 7 8]) (.seq (.seq (.reg [m 9 1, pE 10 (.bin .int .rem (t 9) (i 9)), pE 11 (.bin .int .lss (t 10) (i 6))]) (.cond (t 11) (.seq (.draw [0, 0, 2, 7, 15, 0, 0, 64, 224, 0, 0, 1024, 4064, 8191, 16383] [0, 1, 2, 3, 4, 5, 6, 7, 8, 9, 10, 11, 12, 13, 14] [m 12 7, m 13 1, pE 14 (.bin .int .rem (t 13) (i 9)), pE 15 (.idxA 1 (t 12) (t 14)), oS 16 (.load 1 false (t 15)), m 17 0, m 18 2, pE 19 (.bin .int .sub (t 18) (i 1)), oS 20 (.call 30 [(t 17), (i 2), (t 19)]), m 21 0, m 22 2, pE 23 (.bin .int .sub (t 22) (i 1)), oS 24 (.call 30 [(t 21), (i 2), (t 23)]), oS 25 (.call 85 [(t 16), (t 20), (t 24)]), ⟨none, none, (.store 6 (t 6) (t 25))⟩]) .ret) .skip)) (.seq (.seq (.reg [m 26 1, pE 27 (.bin .int .rem (t 26) (i 9)), pE 28 (.bin .int .eql (t 27) (i 6))]) (.cond (t 28) (.seq (.reg [m 29 0, m 30 2, pE 31 (.bin .int .sub (t 30) (i 1)), oS 32 (.call 30 [(t 29), (i 1), (t 31)]), oS 33 (.call 88 [(i 4), (t 32)]), ⟨none, none, (.store 6 (t 6) (t 33))⟩]) .ret) .skip)) (.seq (.seq (.reg [m 34 1, pE 35 (.bin .int .rem (t 34) (i 9)), pE 36 (.bin .int .eql (t 35) (i 7)), m 37 36, pG 38 37 false (.mov (t 0)), pG 39 37 false (.nilck (t 38)), pG 40 37 false (.fldA 6 (t 39)), oG 41 37 false (.load 1 false (t 40)), pG 42 37 false (.un .not (t 41)), pE 43 (.pick (t 37) (.lit (.bool true)) (t 42))]) (.cond (t 43) (.seq (.draw [0, 0, 2, 6, 15, 31, 0, 0, 128, 454, 1023, 2047] [0, 1, 2, 3, 4, 5, 6, 7, 8, 9, 10, 11] [pE 44 (.lits 1 [(i 1), (i 3)]), m 45 0, oS 46 (.call 26 [(t 45)]), pE 47 (.bin .int .rem (t 46) (i 2)), pE 48 (.idxA 1 (t 44) (t 47)), oS 49 (.load 1 false (t 48)), m 50 0, m 51 2, pE 52 (.bin .int .sub (t 51) (i 1)), oS 53 (.call 30 [(t 50), (i 2), (t 52)]), oS 54 (.call 88 [(t 49), (t 53)]), ⟨none, none, (.store 6 (t 6) (t 54))⟩]) .ret) .skip)) (.seq (.reg [m 55 0, m 56 2, oS 57 (.call 89 [(t 55), (.lit (.str [102])), (i 4), (t 56)]), ⟨none, none, (.store 6 (t 6) (t 57))⟩]) .ret))))))
theorem r60 : resFunc Tryz.prog Tryz.f60 = some ⟨58, [(.cell 6 6 true)], b60.strip⟩ := by kernel_rfl
def b61 : SCode := (.seq (.reg [oS 6 (.alloc 31 (.agg [(.int .i64 0), (.int .i64 0), (.int .i64 0), (.str []), (.int .i32 0), (.sl [] 0 .full)]) 0)]) (.seq (.seq (.reg [m 9 1, pE 10 (.bin .int .rem (t 9) (i 9)), pE 11 (.bin .int .lss (t 10) (i 4))]) (.cond (t 11) (.seq (.reg [pE 12 (.lits 1 [(i 24), (i 25), (i 26), (i 27), (i 28), (i 29)]), m 7 12]) (.seq (.reg [m 13 0, oS 14 (.call 26 [(t 13)]), pE 15 (.bin .int .rem (t 14) (i 2)), pE 16 (.bin .int .add (i 1) (t 15)), m 8 16]) (.seq (.draw [0, 0, 2, 6, 15, 31, 0, 0, 0, 256, 966, 0, 0, 0, 8192, 32710, 65535, 131071] [0, 1, 2, 3, 4, 5, 6, 7, 8, 9, 10, 11, 12, 13, 14, 15, 16, 17] [m 17 7, m 18 0, oS 19 (.call 26 [(t 18)]), pE 20 (.bin .int .rem (t 19) (i 6)), pE 21 (.idxA 1 (t 17) (t 20)), oS 22 (.load 1 false (t 21)), m 23 0, m 24 8, m 25 2, pE 26 (.bin .int .sub (t 25) (i 1)), oS 27 (.call 30 [(t 23), (t 24), (t 26)]), m 28 0, m 29 8, m 30 2, pE 31 (.bin .int .sub (t 30) (i 1)), oS 32 (.call 30 [(t 28), (t 29), (t 31)]), oS 33 (.call 85 [(t 22), (t 27), (t 32)]), ⟨none, none, (.store 6 (t 6) (t 33))⟩]) .ret))) .skip)) (.seq (.seq (.reg [m 34 1, pE 35 (.bin .int .rem (t 34) (i 9)), pE 36 (.bin .int .lss (t 35) (i 6))]) (.cond (t 36) (.seq (.draw [0, 0, 2, 6, 15, 31, 0, 0, 128, 454, 0, 0, 2048, 8134, 16383, 32767] [0, 1, 2, 3, 4, 5, 6, 7, 8, 9, 10, 11, 12, 13, 14, 15] [pE 37 (.lits 1 [(i 17), (i 18), (i 19), (i 24), (i 25)]), m 38 0, oS 39 (.call 26 [(t 38)]), pE 40 (.bin .int .rem (t 39) (i 5)), pE 41 (.idxA 1 (t 37) (t 40)), oS 42 (.load 1 false (t 41)), m 43 0, m 44 2, pE 45 (.bin .int .sub (t 44) (i 1)), oS 46 (.call 30 [(t 43), (i 3), (t 45)]), m 47 0, m 48 2, pE 49 (.bin .int .sub (t 48) (i 1)), oS 50 (.call 30 [(t 47), (i 3), (t 49)]), oS 51 (.call 85 [(t 42), (t 46), (t 50)]), ⟨none, none, (.store 6 (t 6) (t 51))⟩]) .ret) .skip)) (.seq (.seq (.reg [m 52 1, pE 53 (.bin .int .rem (t 52) (i 9)), pE 54 (.bin .int .lss (t 53) (i 8)), m 55 54, pG 56 55 false (.mov (t 0)), pG 57 55 false (.nilck (t 56)), pG 58 55 false (.fldA 6 (t 57)), oG 59 55 false (.load 1 false (t 58)), pG 60 55 false (.un .not (t 59)), pE 61 (.pick (t 55) (.lit (.bool true)) (t 60))]) (.cond (t 61) (.seq (.reg [m 62 0, m 63 2, pE 64 (.bin .int .sub (t 63) (i 1)), oS 65 (.call 30 [(t 62), (i 3), (t 64)]), oS 66 (.call 88 [(i 2), (t 65)]), ⟨none, none, (.store 6 (t 6) (t 66))⟩]) .ret) .skip)) (.seq (.reg [m 67 0, m 68 2, oS 69 (.call 89 [(t 67), (.lit (.str [98])), (i 4), (t 68)]), ⟨none, none, (.store 6 (t 6) (t 69))⟩]) .ret)))))
theorem r61 : resFunc Tryz.prog Tryz.f61 = some ⟨70, [(.cell 6 6 true)], b61.strip⟩ := by kernel_rfl
def b30 : SCode := (.seq (.reg [oS 6 (.alloc 31 (.agg [(.int .i64 0), (.int .i64 0), (.int .i64 0), (.str []), (.int .i32 0), (.sl [] 0 .full)]) 0)]) (.seq (.reg [m 9 0, oS 10 (.call 26 [(t 9)]), m 7 10]) (.seq (.seq (.reg [m 11 2, pE 12 (.bin .int .leq (t 11) (i 1)), m 13 12, pG 14 13 false (.mov (t 7)), pG 15 13 false (.bin .int .rem (t 14) (i 5)), pG 16 13 false (.bin .int .eql (t 15) (i 0)), pE 17 (.pick (t 13) (.lit (.bool true)) (t 16))]) (.cond (t 17) (.seq (.reg [m 18 0, m 19 1, oS 20 (.call 58 [(t 18), (t 19)]), ⟨none, none, (.store 6 (t 6) (t 20))⟩]) .ret) .skip)) (.seq (.seq (.reg [m 21 7, pE 22 (.bin .int .rem (t 21) (i 5)), pE 23 (.bin .int .eql (t 22) (i 1))]) (.cond (t 23) (.seq (.reg [m 24 0, m 25 2, pE 26 (.bin .int .sub (t 25) (i 1)), oS 27 (.call 30 [(t 24), (i 3), (t 26)]), m 28 0, m 29 1, m 30 2, pE 31 (.bin .int .sub (t 30) (i 1)), oS 32 (.call 30 [(t 28), (t 29), (t 31)]), m 33 0, m 34 1, m 35 2, pE 36 (.bin .int .sub (t 35) (i 1)), oS 37 (.call 30 [(t 33), (t 34), (t 36)]), pE 38 (.lits 6 [(t 27), (t 32), (t 37)]), pE 39 (.build [(.int .i64 0), (.int .i64 0), (.int .i64 0), (.str []), (.int .i32 0), (.sl [] 0 .full)] [(0, (1, (i 6))), (5, (1, (t 38)))]), ⟨none, none, (.store 6 (t 6) (t 39))⟩]) .ret) .skip)) (.seq (.reg [m 40 7, pE 41 (.bin .int .quo (t 40) (i 5)), m 8 41]) (.seq (.seq (.reg [m 42 1, pE 43 (.bin .int .eql (t 42) (i 1))]) (.cond (t 43) (.seq (.reg [m 44 0, m 45 8, m 46 2, oS 47 (.call 59 [(t 44), (t 45), (t 46)]), ⟨none, none, (.store 6 (t 6) (t 47))⟩]) .ret) .skip)) (.seq (.seq (.reg [m 48 1, pE 49 (.bin .int .eql (t 48) (i 2))]) (.cond (t 49) (.seq (.reg [m 50 0, m 51 8, m 52 2, oS 53 (.call 60 [(t 50), (t 51), (t 52)]), ⟨none, none, (.store 6 (t 6) (t 53))⟩]) .ret) .skip)) (.seq (.reg [m 54 0, m 55 8, m 56 2, oS 57 (.call 61 [(t 54), (t 55), (t 56)]), ⟨none, none, (.store 6 (t 6) (t 57))⟩]) .ret))))))))
theorem r30 : resFunc Tryz.prog Tryz.f30 = some ⟨58, [(.cell 6 6 true)], b30.strip⟩ := by kernel_rfl
def b31 : SCode := (.seq (.reg [oS 2 (.alloc 54 (.agg [(.int .i64 0), (.int .i64 0), (.int .i64 0), (.int .i64 0), (.str []), (.int .i64 0), (.int .i64 0), (.int .i64 0), (.str []), (.int .i32 0), (.sl [] 0 .full), (.int .i64 0), (.int .i64 0), (.int .i64 0), (.str []), (.int .i32 0), (.sl [] 0 .full), (.sl [] 0 .full), (.sl [] 0 .full)]) 0)]) (.seq (.reg [m 8 0, oS 9 (.call 26 [(t 8)]), pE 10 (.bin .int .rem (t 9) (i 6)), m 3 10]) (.seq (.reg [pE 11 (.lits 1 [(.lit (.str [97])), (.lit (.str [97])), (.lit (.str [115])), (.lit (.str [102])), (.lit (.str [112])), (.lit (.str [98]))]), m 12 3, pE 13 (.idxA 1 (t 11) (t 12)), oS 14 (.load 1 false (t 13)), m 4 14]) (.seq (.reg [pE 15 (.lits 1 [(i 1), (i 1), (i 1), (i 2), (i 1), (i 3)]), m 16 3, pE 17 (.idxA 1 (t 15) (t 16)), oS 18 (.load 1 false (t 17)), m 5 18]) (.seq (.reg [pE 19 (.lits 1 [(i 8), (i 8), (i 8), (i 4), (i 4), (i 4)]), m 20 3, pE 21 (.idxA 1 (t 19) (t 20)), oS 22 (.load 1 false (t 21)), m 6 22]) (.seq (.frz [7] (.reg [m 23 0, m 24 6, oS 25 (.call 56 [(t 23), (t 24), (i 3)]), oS 7 (.alloc 31 (.agg [(.int .i64 0), (.int .i64 0), (.int .i64 0), (.str []), (.int .i32 0), (.sl [] 0 .full)]) 3), ⟨none, none, (.store 6 (t 7) (t 25))⟩])) (.seq (.draw [0, 0, 0, 0, 12, 31, 63] [0, 1, 2, 3, 4, 5, 6] [m 26 4, oS 27 (.load 6 true (t 7)), m 28 0, m 29 5, oS 30 (.call 30 [(t 28), (t 29), (i 3)]), pE 31 (.build [(.int .i64 0), (.int .i64 0), (.int .i64 0), (.int .i64 0), (.str []), (.int .i64 0), (.int .i64 0), (.int .i64 0), (.str []), (.int .i32 0), (.sl [] 0 .full), (.int .i64 0), (.int .i64 0), (.int .i64 0), (.str []), (.int .i32 0), (.sl [] 0 .full), (.sl [] 0 .full), (.sl [] 0 .full)] [(0, (1, (i 3))), (4, (1, (t 26))), (5, (6, (t 27))), (11, (6, (t 30)))]), ⟨none, none, (.store 19 (t 2) (t 31))⟩]) .ret)))))))
theorem r31 : resFunc Tryz.prog Tryz.f31 = some ⟨32, [(.cell 2 19 true)], b31.strip⟩ := by kernel_rfl
def b135 : SCode := (.seq (.reg [pE 2 (.mov (.lit (.str [])))]) (.seq (.reg [m 5 0, pE 6 (.bin .int .rem (t 5) (i 10)), m 3 6]) (.seq (.seq (.reg [m 7 3, pE 8 (.bin .int .lss (t 7) (i 0))]) (.cond (t 8) (.reg [m 9 3, pE 10 (.un .neg (t 9)), m 3 10]) .skip)) (.seq (.reg [m 11 3, pE 12 (.bin .int .add (i 48) (t 11)), pE 13 (.conv (.toInt .u8) (t 12)), pE 14 (.lits 1 [(t 13)]), pE 15 (.conv .bytesStr (t 14)), m 4 15]) (.seq (.seq (.reg [m 16 0, pE 17 (.bin .int .quo (t 16) (i 10)), pE 18 (.bin .int .neq (t 17) (i 0))]) (.cond (t 18) (.seq (.reg [m 19 0, pE 20 (.bin .int .quo (t 19) (i 10)), oS 21 (.call 135 [(t 20)]), m 22 4, pE 23 (.bin .str .add (t 21) (t 22)), m 2 23]) .ret) .skip)) (.seq (.reg [m 24 4, m 2 24]) .ret))))))
theorem r135 : resFunc Tryz.prog Tryz.f135 = some ⟨25, [(.tmp 2)], b135.strip⟩ := by kernel_rfl
def b84 : SCode := (.seq (.reg [pE 2 (.mov (.lit (.str [])))]) (.seq (.seq (.reg [m 3 0, pE 4 (.bin .int .lss (t 3) (i 0))]) (.cond (t 4) (.seq (.reg [m 5 0, oS 6 (.call 135 [(t 5)]), pE 7 (.bin .str .add (.lit (.str [45])) (t 6)), m 2 7]) .ret) .skip)) (.seq (.reg [m 8 0, oS 9 (.call 135 [(t 8)]), m 2 9]) .ret)))
theorem r84 : resFunc Tryz.prog Tryz.f84 = some ⟨10, [(.tmp 2)], b84.strip⟩ := by kernel_rfl
def b52 : SCode := (.seq (.reg [oS 2 (.alloc 54 (.agg [(.int .i64 0), (.int .i64 0), (.int .i64 0), (.int .i64 0), (.str []), (.int .i64 0), (.int .i64 0), (.int .i64 0), (.str []), (.int .i32 0), (.sl [] 0 .full), (.int .i64 0), (.int .i64 0), (.int .i64 0), (.str []), (.int .i32 0), (.sl [] 0 .full), (.sl [] 0 .full), (.sl [] 0 .full)]) 0)]) (.seq (.reg [m 6 0, oS 7 (.call 26 [(t 6)]), pE 8 (.bin .int .rem (t 7) (i 3)), pE 9 (.bin .int .add (i 1) (t 8)), m 3 9]) (.seq (.frz [4] (.reg [m 10 0, m 11 3, oS 12 (.call 30 [(t 10), (t 11), (i 3)]), oS 4 (.alloc 31 (.agg [(.int .i64 0), (.int .i64 0), (.int .i64 0), (.str []), (.int .i32 0), (.sl [] 0 .full)]) 3), ⟨none, none, (.store 6 (t 4) (t 12))⟩])) (.seq (.reg [m 13 0, pE 14 (.nilck (t 13)), pE 15 (.fldA 3 (t 14)), oS 16 (.load 1 false (t 15)), oS 17 (.call 84 [(t 16)]), pE 18 (.bin .str .add (.lit (.str [118])) (t 17)), m 5 18]) (.seq (.reg [m 19 0, pE 20 (.nilck (t 19)), pE 21 (.fldA 3 (t 20)), oS 22 (.load 1 false (t 21)), pE 23 (.bin .int .add (t 22) (i 1)), pE 24 (.nilck (t 19)), pE 25 (.fldA 3 (t 24)), ⟨none, none, (.store 1 (t 25) (t 23))⟩]) (.seq (.reg [m 26 0, m 27 0, pE 28 (.nilck (t 27)), pE 29 (.fldA 2 (t 28)), oS 30 (.load 1 false (t 29)), m 31 5, m 32 3, pE 33 (.build [(.str []), (.int .i64 0)] [(0, (1, (t 31))), (1, (1, (t 32)))]), pE 34 (.lits 2 [(t 33)]), oS 35 (.appendR 45 2 24 (t 30) (t 34) 9), pE 36 (.nilck (t 26)), pE 37 (.fldA 2 (t 36)), ⟨none, none, (.store 1 (t 37) (t 35))⟩]) (.seq (.reg [m 38 5, m 39 3, oS 40 (.load 6 true (t 4)), pE 41 (.build [(.int .i64 0), (.int .i64 0), (.int .i64 0), (.int .i64 0), (.str []), (.int .i64 0), (.int .i64 0), (.int .i64 0), (.str []), (.int .i32 0), (.sl [] 0 .full), (.int .i64 0), (.int .i64 0), (.int .i64 0), (.str []), (.int .i32 0), (.sl [] 0 .full), (.sl [] 0 .full), (.sl [] 0 .full)] [(0, (1, (i 1))), (4, (1, (t 38))), (2, (1, (t 39))), (5, (6, (t 40)))]), ⟨none, none, (.store 19 (t 2) (t 41))⟩]) .ret)))))))
theorem r52 : resFunc Tryz.prog Tryz.f52 = some ⟨42, [(.cell 2 19 true)], b52.strip⟩ := by kernel_rfl
def b53 : SCode := (.seq (.reg [oS 4 (.alloc 54 (.agg [(.int .i64 0), (.int .i64 0), (.int .i64 0), (.int .i64 0), (.str []), (.int .i64 0), (.int .i64 0), (.int .i64 0), (.str []), (.int .i32 0), (.sl [] 0 .full), (.int .i64 0), (.int .i64 0), (.int .i64 0), (.str []), (.int .i32 0), (.sl [] 0 .full), (.sl [] 0 .full), (.sl [] 0 .full)]) 0)]) (.seq (.seq (.reg [m 6 0, pE 7 (.nilck (t 6)), pE 8 (.fldA 2 (t 7)), oS 9 (.load 1 false (t 8)), pE 10 (.lenL (t 9)), m 11 1, pE 12 (.bin .int .leq (t 10) (t 11))]) (.cond (t 12) (.seq (.reg [m 13 0, oS 14 (.call 52 [(t 13)]), ⟨none, none, (.store 19 (t 4) (t 14))⟩]) .ret) .skip)) (.seq (.frz [5] (.draw [0, 1, 3, 7, 0, 0, 32, 0, 128, 384, 896, 1920, 0, 8064, 16352, 32752, 65535, 131071, 0, 524287] [0, 1, 2, 3, 4, 5, 6, 7, 8, 9, 10, 11, 12, 13, 14, 15, 16, 17, 18, 19] [m 15 0, pE 16 (.nilck (t 15)), pE 17 (.fldA 2 (t 16)), oS 18 (.load 1 false (t 17)), m 19 1, m 20 0, oS 21 (.call 26 [(t 20)]), m 22 0, pE 23 (.nilck (t 22)), pE 24 (.fldA 2 (t 23)), oS 25 (.load 1 false (t 24)), pE 26 (.lenL (t 25)), m 27 1, pE 28 (.bin .int .sub (t 26) (t 27)), pE 29 (.bin .int .rem (t 21) (t 28)), pE 30 (.bin .int .add (t 19) (t 29)), pE 31 (.idxA 2 (t 18) (t 30)), oS 32 (.load 2 true (t 31)), oS 5 (.alloc 45 (.agg [(.str []), (.int .i64 0)]) 18), ⟨none, none, (.store 2 (t 5) (t 32))⟩])) (.seq (.draw [0, 1, 0, 0, 8, 28, 63, 127] [0, 1, 2, 3, 4, 5, 6, 7] [pE 33 (.fldA 0 (t 5)), oS 34 (.load 1 false (t 33)), m 35 0, pE 36 (.fldA 1 (t 5)), oS 37 (.load 1 false (t 36)), oS 38 (.call 30 [(t 35), (t 37), (i 3)]), pE 39 (.build [(.int .i64 0), (.int .i64 0), (.int .i64 0), (.int .i64 0), (.str []), (.int .i64 0), (.int .i64 0), (.int .i64 0), (.str []), (.int .i32 0), (.sl [] 0 .full), (.int .i64 0), (.int .i64 0), (.int .i64 0), (.str []), (.int .i32 0), (.sl [] 0 .full), (.sl [] 0 .full), (.sl [] 0 .full)] [(0, (1, (i 2))), (4, (1, (t 34))), (5, (6, (t 38)))]), ⟨none, none, (.store 19 (t 4) (t 39))⟩]) .ret))))
theorem r53 : resFunc Tryz.prog Tryz.f53 = some ⟨40, [(.cell 4 19 true)], b53.strip⟩ := by kernel_rfl
def l54_0 : SCode := (.seq (.seq (.reg [m 24 13, pE 25 (.bin .int .gtr (t 24) (i 0)), m 26 25, pG 27 26 true (.mov (t 0)), pG 28 26 true (.nilck (t 27)), pG 29 26 true (.fldA 4 (t 28)), oG 30 26 true (.load 1 false (t 29)), pG 31 26 true (.bin .int .gtr (t 30) (i 0)), pE 32 (.pick (t 26) (t 31) (.lit (.bool false)))]) (.cond (t 32) .skip (.exit 0))) (.seq (.block 1 (.reg [m 35 12, m 36 0, m 37 1, m 38 2, m 39 3, m 40 4, oS 41 (.call 29 [(t 36), (t 37), (t 38), (.lit (.bool false)), (t 39), (t 40)]), pE 42 (.lits 19 [(t 41)]), oS 43 (.append false 54 19 240 (t 35) (t 42) 8), m 12 43])) (.reg [m 33 13, pE 34 (.bin .int .sub (t 33) (i 1)), m 13 34])))
def b54 : SCode := (.seq (.reg [pE 10 (.mov (.lit (.sl [] 0 .full)))]) (.seq (.reg [m 14 0, pE 15 (.nilck (t 14)), pE 16 (.fldA 2 (t 15)), oS 17 (.load 1 false (t 16)), pE 18 (.lenL (t 17)), m 11 18]) (.seq (.reg [pE 19 (.lits 19 []), m 12 19]) (.seq (.seq (.reg [m 20 0, oS 21 (.call 26 [(t 20)]), pE 22 (.bin .int .rem (t 21) (i 3)), pE 23 (.bin .int .add (i 1) (t 22)), m 13 23]) (.block 0 (.loop l54_0))) (.seq (.reg [m 44 0, m 45 0, pE 46 (.nilck (t 45)), pE 47 (.fldA 2 (t 46)), oS 48 (.load 1 false (t 47)), m 49 11, pE 50 (.slcL 2 (t 48) none (some (t 49))), pE 51 (.nilck (t 44)), pE 52 (.fldA 2 (t 51)), ⟨none, none, (.store 1 (t 52) (t 50))⟩]) (.seq (.reg [m 53 12, m 10 53]) .ret))))))
theorem r54 : resFunc Tryz.prog Tryz.f54 = some ⟨54, [(.tmp 10)], b54.strip⟩ := by kernel_rfl
def b55 : SCode := (.seq (.reg [oS 4 (.alloc 54 (.agg [(.int .i64 0), (.int .i64 0), (.int .i64 0), (.int .i64 0), (.str []), (.int .i64 0), (.int .i64 0), (.int .i64 0), (.str []), (.int .i32 0), (.sl [] 0 .full), (.int .i64 0), (.int .i64 0), (.int .i64 0), (.str []), (.int .i32 0), (.sl [] 0 .full), (.sl [] 0 .full), (.sl [] 0 .full)]) 0)]) (.seq (.seq (.reg [m 7 0, pE 8 (.nilck (t 7)), pE 9 (.fldA 2 (t 8)), oS 10 (.load 1 false (t 9)), pE 11 (.lenL (t 10)), m 12 1, pE 13 (.bin .int .leq (t 11) (t 12))]) (.cond (t 13) (.seq (.reg [m 14 0, oS 15 (.call 52 [(t 14)]), ⟨none, none, (.store 19 (t 4) (t 15))⟩]) .ret) .skip)) (.seq (.frz [5] (.draw [0, 1, 3, 7, 0, 0, 32, 0, 128, 384, 896, 1920, 0, 8064, 16352, 32752, 65535, 131071, 0, 524287] [0, 1, 2, 3, 4, 5, 6, 7, 8, 9, 10, 11, 12, 13, 14, 15, 16, 17, 18, 19] [m 16 0, pE 17 (.nilck (t 16)), pE 18 (.fldA 2 (t 17)), oS 19 (.load 1 false (t 18)), m 20 1, m 21 0, oS 22 (.call 26 [(t 21)]), m 23 0, pE 24 (.nilck (t 23)), pE 25 (.fldA 2 (t 24)), oS 26 (.load 1 false (t 25)), pE 27 (.lenL (t 26)), m 28 1, pE 29 (.bin .int .sub (t 27) (t 28)), pE 30 (.bin .int .rem (t 22) (t 29)), pE 31 (.bin .int .add (t 20) (t 30)), pE 32 (.idxA 2 (t 19) (t 31)), oS 33 (.load 2 true (t 32)), oS 5 (.alloc 45 (.agg [(.str []), (.int .i64 0)]) 18), ⟨none, none, (.store 2 (t 5) (t 33))⟩])) (.seq (.seq (.reg [pE 34 (.fldA 1 (t 5)), oS 35 (.load 1 false (t 34)), pE 36 (.bin .int .eql (t 35) (i 3))]) (.cond (t 36) (.seq (.draw [0, 1, 0, 4, 12, 28, 0, 76, 255, 511] [0, 1, 2, 3, 4, 5, 6, 7, 8, 9] [pE 37 (.fldA 0 (t 5)), oS 38 (.load 1 false (t 37)), m 39 0, oS 40 (.call 26 [(t 39)]), pE 41 (.bin .int .rem (t 40) (i 2)), pE 42 (.bin .int .add (i 2) (t 41)), m 43 0, oS 44 (.call 30 [(t 43), (i 3), (i 3)]), pE 45 (.build [(.int .i64 0), (.int .i64 0), (.int .i64 0), (.int .i64 0), (.str []), (.int .i64 0), (.int .i64 0), (.int .i64 0), (.str []), (.int .i32 0), (.sl [] 0 .full), (.int .i64 0), (.int .i64 0), (.int .i64 0), (.str []), (.int .i32 0), (.sl [] 0 .full), (.sl [] 0 .full), (.sl [] 0 .full)] [(0, (1, (i 12))), (4, (1, (t 38))), (1, (1, (t 42))), (5, (6, (t 44)))]), ⟨none, none, (.store 19 (t 4) (t 45))⟩]) .ret) .skip)) (.seq (.reg [pE 46 (.lits 1 [(i 5), (i 6), (i 4), (i 1)]), m 47 0, oS 48 (.call 26 [(t 47)]), pE 49 (.bin .int .rem (t 48) (i 4)), pE 50 (.idxA 1 (t 46) (t 49)), oS 51 (.load 1 false (t 50)), m 6 51]) (.seq (.seq (.reg [m 52 6, pE 53 (.bin .int .eql (t 52) (i 1)), m 54 53, pG 55 54 true (.fldA 1 (t 5)), oG 56 54 true (.load 1 false (t 55)), pG 57 54 true (.bin .int .eql (t 56) (i 1)), pE 58 (.pick (t 54) (t 57) (.lit (.bool false)))]) (.cond (t 58) (.seq (.draw [0, 1, 0, 0, 8, 31, 63] [0, 1, 2, 3, 4, 5, 6] [pE 59 (.fldA 0 (t 5)), oS 60 (.load 1 false (t 59)), m 61 6, m 62 0, oS 63 (.call 30 [(t 62), (i 3), (i 3)]), pE 64 (.build [(.int .i64 0), (.int .i64 0), (.int .i64 0), (.int .i64 0), (.str []), (.int .i64 0), (.int .i64 0), (.int .i64 0), (.str []), (.int .i32 0), (.sl [] 0 .full), (.int .i64 0), (.int .i64 0), (.int .i64 0), (.str []), (.int .i32 0), (.sl [] 0 .full), (.sl [] 0 .full), (.sl [] 0 .full)] [(0, (1, (i 12))), (4, (1, (t 60))), (1, (1, (t 61))), (5, (6, (t 63)))]), ⟨none, none, (.store 19 (t 4) (t 64))⟩]) .ret) .skip)) (.seq (.seq (.reg [m 65 6, pE 66 (.bin .int .eql (t 65) (i 4))]) (.cond (t 66) (.seq (.draw [0, 1, 0, 0, 0, 16, 56, 0, 248, 511, 1023] [0, 1, 2, 3, 4, 5, 6, 7, 8, 9, 10] [pE 67 (.fldA 0 (t 5)), oS 68 (.load 1 false (t 67)), m 69 6, m 70 0, pE 71 (.fldA 1 (t 5)), oS 72 (.load 1 false (t 71)), oS 73 (.call 30 [(t 70), (t 72), (i 2)]), m 74 0, oS 75 (.call 30 [(t 74), (i 1), (i 2)]), pE 76 (.build [(.int .i64 0), (.int .i64 0), (.int .i64 0), (.int .i64 0), (.str []), (.int .i64 0), (.int .i64 0), (.int .i64 0), (.str []), (.int .i32 0), (.sl [] 0 .full), (.int .i64 0), (.int .i64 0), (.int .i64 0), (.str []), (.int .i32 0), (.sl [] 0 .full), (.sl [] 0 .full), (.sl [] 0 .full)] [(0, (1, (i 12))), (4, (1, (t 68))), (1, (1, (t 69))), (5, (6, (t 73))), (11, (6, (t 75)))]), ⟨none, none, (.store 19 (t 4) (t 76))⟩]) .ret) .skip)) (.seq (.draw [0, 1, 0, 0, 8, 24, 60, 124, 0, 0, 512, 1816, 4095, 8191] [0, 1, 2, 3, 4, 5, 6, 7, 8, 9, 10, 11, 12, 13] [pE 77 (.fldA 0 (t 5)), oS 78 (.load 1 false (t 77)), pE 79 (.lits 1 [(i 5), (i 6)]), m 80 0, oS 81 (.call 26 [(t 80)]), pE 82 (.bin .int .rem (t 81) (i 2)), pE 83 (.idxA 1 (t 79) (t 82)), oS 84 (.load 1 false (t 83)), m 85 0, pE 86 (.fldA 1 (t 5)), oS 87 (.load 1 false (t 86)), oS 88 (.call 30 [(t 85), (t 87), (i 3)]), pE 89 (.build [(.int .i64 0), (.int .i64 0), (.int .i64 0), (.int .i64 0), (.str []), (.int .i64 0), (.int .i64 0), (.int .i64 0), (.str []), (.int .i32 0), (.sl [] 0 .full), (.int .i64 0), (.int .i64 0), (.int .i64 0), (.str []), (.int .i32 0), (.sl [] 0 .full), (.sl [] 0 .full), (.sl [] 0 .full)] [(0, (1, (i 12))), (4, (1, (t 78))), (1, (1, (t 84))), (5, (6, (t 88)))]), ⟨none, none, (.store 19 (t 4) (t 89))⟩]) .ret))))))))
theorem r55 : resFunc Tryz.prog Tryz.f55 = some ⟨90, [(.cell 4 19 true)], b55.strip⟩ := by kernel_rfl
def b57 : SCode := (.seq (.reg [pE 0 (.mov (.lit (.sl [] 0 .full)))]) (.seq (.reg [pE 1 (.lits 1 [(i 10), (i 22), (i 23), (i 17), (i 18), (i 19)]), m 0 1]) .ret))
theorem r57 : resFunc Tryz.prog Tryz.f57 = some ⟨2, [(.tmp 0)], b57.strip⟩ := by kernel_rfl
def b29 : SCode := (.seq (.reg [oS 12 (.alloc 54 (.agg [(.int .i64 0), (.int .i64 0), (.int .i64 0), (.int .i64 0), (.str []), (.int .i64 0), (.int .i64 0), (.int .i64 0), (.str []), (.int .i32 0), (.sl [] 0 .full), (.int .i64 0), (.int .i64 0), (.int .i64 0), (.str []), (.int .i32 0), (.sl [] 0 .full), (.sl [] 0 .full), (.sl [] 0 .full)]) 0)]) (.seq (.reg [m 17 0, pE 18 (.nilck (t 17)), pE 19 (.fldA 4 (t 18)), oS 20 (.load 1 false (t 19)), pE 21 (.bin .int .sub (t 20) (i 1)), pE 22 (.nilck (t 17)), pE 23 (.fldA 4 (t 22)), ⟨none, none, (.store 1 (t 23) (t 21))⟩]) (.seq (.reg [m 24 0, oS 25 (.call 26 [(t 24)]), pE 26 (.bin .int .rem (t 25) (i 14)), m 13 26]) (.seq (.seq (.reg [m 27 13, pE 28 (.bin .int .eql (t 27) (i 0))]) (.cond (t 28) (.seq (.reg [m 29 0, oS 30 (.call 52 [(t 29)]), ⟨none, none, (.store 19 (t 12) (t 30))⟩]) .ret) .skip)) (.seq (.seq (.reg [m 31 13, pE 32 (.bin .int .lss (t 31) (i 4))]) (.cond (t 32) (.seq (.reg [m 33 0, m 34 1, oS 35 (.call 53 [(t 33), (t 34)]), ⟨none, none, (.store 19 (t 12) (t 35))⟩]) .ret) .skip)) (.seq (.seq (.reg [m 36 13, pE 37 (.bin .int .eql (t 36) (i 4)), m 38 37, pG 39 38 true (.mov (t 2)), pG 40 38 true (.bin .int .gtr (t 39) (i 0)), pE 41 (.pick (t 38) (t 40) (.lit (.bool false)))]) (.cond (t 41) (.seq (.reg [m 42 0, oS 43 (.call 30 [(t 42), (i 3), (i 3)]), pE 44 (.build [(.int .i64 0), (.int .i64 0), (.int .i64 0), (.int .i64 0), (.str []), (.int .i64 0), (.int .i64 0), (.int .i64 0), (.str []), (.int .i32 0), (.sl [] 0 .full), (.int .i64 0), (.int .i64 0), (.int .i64 0), (.str []), (.int .i32 0), (.sl [] 0 .full), (.sl [] 0 .full), (.sl [] 0 .full)] [(0, (1, (i 5))), (5, (6, (t 43)))]), oS 14 (.alloc 54 (.agg [(.int .i64 0), (.int .i64 0), (.int .i64 0), (.int .i64 0), (.str []), (.int .i64 0), (.int .i64 0), (.int .i64 0), (.str []), (.int .i32 0), (.sl [] 0 .full), (.int .i64 0), (.int .i64 0), (.int .i64 0), (.str []), (.int .i32 0), (.sl [] 0 .full), (.sl [] 0 .full), (.sl [] 0 .full)]) 3), ⟨none, none, (.store 19 (t 14) (t 44))⟩]) (.seq (.reg [m 45 0, m 46 1, m 47 2, pE 48 (.bin .int .sub (t 47) (i 1)), m 49 4, m 50 5, oS 51 (.call 54 [(t 45), (t 46), (t 48), (t 49), (t 50)]), pE 52 (.fldA 17 (t 14)), ⟨none, none, (.store 1 (t 52) (t 51))⟩]) (.seq (.seq (.reg [m 53 0, oS 54 (.call 26 [(t 53)]), pE 55 (.bin .int .rem (t 54) (i 2)), pE 56 (.bin .int .eql (t 55) (i 0))]) (.cond (t 56) (.frz [14] (.reg [m 57 0, m 58 1, m 59 2, pE 60 (.bin .int .sub (t 59) (i 1)), m 61 4, m 62 5, oS 63 (.call 54 [(t 57), (t 58), (t 60), (t 61), (t 62)]), pE 64 (.fldA 18 (t 14)), ⟨none, none, (.store 1 (t 64) (t 63))⟩])) .skip)) (.seq (.reg [oS 65 (.load 19 true (t 14)), ⟨none, none, (.store 19 (t 12) (t 65))⟩]) .ret)))) .skip)) (.seq (.seq (.reg [m 66 13, pE 67 (.bin .int .eql (t 66) (i 5)), m 68 67, pG 69 68 true (.mov (t 2)), pG 70 68 true (.bin .int .gtr (t 69) (i 0)), pE 71 (.pick (t 68) (t 70) (.lit (.bool false)))]) (.cond (t 71) (.seq (.reg [m 72 0, oS 73 (.call 30 [(t 72), (i 3), (i 3)]), m 74 0, oS 75 (.call 26 [(t 74)]), pE 76 (.bin .int .rem (t 75) (i 4)), pE 77 (.bin .int .add (i 1) (t 76)), pE 78 (.build [(.int .i64 0), (.int .i64 0), (.int .i64 0), (.int .i64 0), (.str []), (.int .i64 0), (.int .i64 0), (.int .i64 0), (.str []), (.int .i32 0), (.sl [] 0 .full), (.int .i64 0), (.int .i64 0), (.int .i64 0), (.str []), (.int .i32 0), (.sl [] 0 .full), (.sl [] 0 .full), (.sl [] 0 .full)] [(0, (1, (i 6))), (5, (6, (t 73))), (3, (1, (t 77)))]), oS 15 (.alloc 54 (.agg [(.int .i64 0), (.int .i64 0), (.int .i64 0), (.int .i64 0), (.str []), (.int .i64 0), (.int .i64 0), (.int .i64 0), (.str []), (.int .i32 0), (.sl [] 0 .full), (.int .i64 0), (.int .i64 0), (.int .i64 0), (.str []), (.int .i32 0), (.sl [] 0 .full), (.sl [] 0 .full), (.sl [] 0 .full)]) 7), ⟨none, none, (.store 19 (t 15) (t 78))⟩]) (.seq (.frz [15] (.reg [m 79 0, m 80 1, m 81 2, pE 82 (.bin .int .sub (t 81) (i 1)), m 83 5, oS 84 (.call 54 [(t 79), (t 80), (t 82), (.lit (.bool true)), (t 83)]), pE 85 (.fldA 17 (t 15)), ⟨none, none, (.store 1 (t 85) (t 84))⟩])) (.seq (.reg [oS 86 (.load 19 true (t 15)), ⟨none, none, (.store 19 (t 12) (t 86))⟩]) .ret))) .skip)) (.seq (.seq (.reg [m 87 13, pE 88 (.bin .int .eql (t 87) (i 6)), m 89 88, pG 90 89 true (.mov (t 4)), pE 91 (.pick (t 89) (t 90) (.lit (.bool false)))]) (.cond (t 91) (.seq (.reg [m 92 0, oS 93 (.call 26 [(t 92)]), pE 94 (.bin .int .rem (t 93) (i 2)), pE 95 (.bin .int .add (i 7) (t 94)), pE 96 (.build [(.int .i64 0), (.int .i64 0), (.int .i64 0), (.int .i64 0), (.str []), (.int .i64 0), (.int .i64 0), (.int .i64 0), (.str []), (.int .i32 0), (.sl [] 0 .full), (.int .i64 0), (.int .i64 0), (.int .i64 0), (.str []), (.int .i32 0), (.sl [] 0 .full), (.sl [] 0 .full), (.sl [] 0 .full)] [(0, (1, (t 95)))]), ⟨none, none, (.store 19 (t 12) (t 96))⟩]) .ret) .skip)) (.seq (.seq (.reg [m 97 5]) (.cond (t 97) (.seq (.reg [m 98 0, m 99 1, oS 100 (.call 53 [(t 98), (t 99)]), ⟨none, none, (.store 19 (t 12) (t 100))⟩]) .ret) .skip)) (.seq (.seq (.reg [m 101 13, pE 102 (.bin .int .eql (t 101) (i 7)), m 103 102, pG 104 103 true (.mov (t 3)), pE 105 (.pick (t 103) (t 104) (.lit (.bool false)))]) (.cond (t 105) (.seq (.reg [pE 106 (.build [(.int .i64 0), (.int .i64 0), (.int .i64 0), (.int .i64 0), (.str []), (.int .i64 0), (.int .i64 0), (.int .i64 0), (.str []), (.int .i32 0), (.sl [] 0 .full), (.int .i64 0), (.int .i64 0), (.int .i64 0), (.str []), (.int .i32 0), (.sl [] 0 .full), (.sl [] 0 .full), (.sl [] 0 .full)] [(0, (1, (i 10)))]), ⟨none, none, (.store 19 (t 12) (t 106))⟩]) .ret) .skip)) (.seq (.seq (.reg [m 107 13, pE 108 (.bin .int .eql (t 107) (i 8)), m 109 108, pG 110 109 true (.mov (t 3)), pE 111 (.pick (t 109) (t 110) (.lit (.bool false)))]) (.cond (t 111) (.seq (.reg [m 112 0, m 113 1, oS 114 (.call 55 [(t 112), (t 113)]), ⟨none, none, (.store 19 (t 12) (t 114))⟩]) .ret) .skip)) (.seq (.seq (.reg [m 115 13, pE 116 (.bin .int .eql (t 115) (i 9))]) (.cond (t 116) (.seq (.frz [16] (.reg [m 117 0, oS 118 (.call 56 [(t 117), (i 8), (i 3)]), oS 16 (.alloc 31 (.agg [(.int .i64 0), (.int .i64 0), (.int .i64 0), (.str []), (.int .i32 0), (.sl [] 0 .full)]) 2), ⟨none, none, (.store 6 (t 16) (t 118))⟩])) (.seq (.draw [0, 0, 2, 6, 15, 31, 0, 6, 0, 390, 902, 1926, 3974, 0, 9094, 32767, 65535] [0, 1, 2, 3, 4, 5, 6, 7, 8, 9, 10, 11, 12, 13, 14, 15, 16] [pE 119 (.lits 1 [(.lit (.str [97])), (.lit (.str [115]))]), m 120 0, oS 121 (.call 26 [(t 120)]), pE 122 (.bin .int .rem (t 121) (i 2)), pE 123 (.idxA 1 (t 119) (t 122)), oS 124 (.load 1 false (t 123)), oS 125 (.load 6 true (t 16)), oS 126 (.call 57 []), m 127 0, oS 128 (.call 26 [(t 127)]), pE 129 (.bin .int .rem (t 128) (i 6)), pE 130 (.idxA 1 (t 126) (t 129)), oS 131 (.load 1 false (t 130)), m 132 0, oS 133 (.call 30 [(t 132), (i 1), (i 3)]), pE 134 (.build [(.int .i64 0), (.int .i64 0), (.int .i64 0), (.int .i64 0), (.str []), (.int .i64 0), (.int .i64 0), (.int .i64 0), (.str []), (.int .i32 0), (.sl [] 0 .full), (.int .i64 0), (.int .i64 0), (.int .i64 0), (.str []), (.int .i32 0), (.sl [] 0 .full), (.sl [] 0 .full), (.sl [] 0 .full)] [(0, (1, (i 4))), (4, (1, (t 124))), (5, (6, (t 125))), (1, (1, (t 131))), (11, (6, (t 133)))]), ⟨none, none, (.store 19 (t 12) (t 134))⟩]) .ret)) .skip)) (.seq (.seq (.reg [m 135 13, pE 136 (.bin .int .eql (t 135) (i 10))]) (.cond (t 136) (.seq (.reg [m 137 0, oS 138 (.call 26 [(t 137)]), pE 139 (.bin .int .rem (t 138) (i 2)), pE 140 (.bin .int .add (i 1) (t 139)), pE 141 (.build [(.int .i64 0), (.int .i64 0), (.int .i64 0), (.int .i64 0), (.str []), (.int .i64 0), (.int .i64 0), (.int .i64 0), (.str []), (.int .i32 0), (.sl [] 0 .full), (.int .i64 0), (.int .i64 0), (.int .i64 0), (.str []), (.int .i32 0), (.sl [] 0 .full), (.sl [] 0 .full), (.sl [] 0 .full)] [(0, (1, (i 11))), (1, (1, (t 140)))]), ⟨none, none, (.store 19 (t 12) (t 141))⟩]) .ret) .skip)) (.seq (.reg [m 142 0, oS 143 (.call 31 [(t 142)]), ⟨none, none, (.store 19 (t 12) (t 143))⟩]) .ret))))))))))))))
theorem r29 : resFunc Tryz.prog Tryz.f29 = some ⟨144, [(.cell 12 19 true)], b29.strip⟩ := by kernel_rfl
def l28_0 : SCode := (.seq (.seq (.reg [m 22 4, pE 23 (.bin .int .gtr (t 22) (i 0)), m 24 23, pG 25 24 true (.mov (t 0)), pG 26 24 true (.nilck (t 25)), pG 27 24 true (.fldA 4 (t 26)), oG 28 24 true (.load 1 false (t 27)), pG 29 24 true (.bin .int .gtr (t 28) (i 0)), pE 30 (.pick (t 24) (t 29) (.lit (.bool false)))]) (.cond (t 30) .skip (.exit 0))) (.seq (.block 1 (.draw [0, 1, 0, 4, 12, 31, 63, 127] [0, 1, 2, 3, 4, 5, 6, 7] [pE 33 (.fldA 3 (t 3)), oS 34 (.load 1 false (t 33)), m 35 0, oS 36 (.call 29 [(t 35), (i 2), (i 1), (.lit (.bool false)), (.lit (.bool false)), (.lit (.bool true))]), pE 37 (.lits 19 [(t 36)]), oS 38 (.append false 54 19 240 (t 34) (t 37) 5), pE 39 (.fldA 3 (t 3)), ⟨none, none, (.store 1 (t 39) (t 38))⟩])) (.reg [m 31 4, pE 32 (.bin .int .sub (t 31) (i 1)), m 4 32])))
def b28 : SCode := (.seq (.reg [oS 2 (.alloc 69 (.agg [(.str []), (.sl [] 0 .full), (.int .i64 0), (.sl [] 0 .full), (.int .i64 0), (.int .i64 0), (.int .i64 0), (.str []), (.int .i32 0), (.sl [] 0 .full)]) 0)]) (.seq (.reg [m 5 0, pE 6 (.build [(.str []), (.int .i64 0)] [(0, (1, (.lit (.str [120])))), (1, (1, (i 1)))]), pE 7 (.build [(.str []), (.int .i64 0)] [(0, (1, (.lit (.str [121])))), (1, (1, (i 1)))]), pE 8 (.lits 2 [(t 6), (t 7)]), pE 9 (.nilck (t 5)), pE 10 (.fldA 2 (t 9)), ⟨none, none, (.store 1 (t 10) (t 8))⟩]) (.seq (.reg [m 11 0, pE 12 (.nilck (t 11)), pE 13 (.fldA 4 (t 12)), ⟨none, none, (.store 1 (t 13) (i 4))⟩]) (.seq (.reg [m 14 0, pE 15 (.nilck (t 14)), pE 16 (.fldA 2 (t 15)), oS 17 (.load 1 false (t 16)), pE 18 (.build [(.str []), (.sl [] 0 .full), (.int .i64 0), (.sl [] 0 .full), (.int .i64 0), (.int .i64 0), (.int .i64 0), (.str []), (.int .i32 0), (.sl [] 0 .full)] [(0, (1, (.lit (.str [104])))), (1, (1, (t 17))), (2, (1, (i 1)))]), oS 3 (.alloc 69 (.agg [(.str []), (.sl [] 0 .full), (.int .i64 0), (.sl [] 0 .full), (.int .i64 0), (.int .i64 0), (.int .i64 0), (.str []), (.int .i32 0), (.sl [] 0 .full)]) 5), ⟨none, none, (.store 10 (t 3) (t 18))⟩]) (.seq (.seq (.reg [m 19 0, oS 20 (.call 26 [(t 19)]), pE 21 (.bin .int .rem (t 20) (i 4)), m 4 21]) (.block 0 (.loop l28_0))) (.seq (.frz [3] (.reg [m 40 0, oS 41 (.call 30 [(t 40), (i 1), (i 3)]), pE 42 (.fldA 4 (t 3)), ⟨none, none, (.store 6 (t 42) (t 41))⟩])) (.seq (.reg [oS 43 (.load 10 true (t 3)), ⟨none, none, (.store 10 (t 2) (t 43))⟩]) .ret)))))))
theorem r28 : resFunc Tryz.prog Tryz.f28 = some ⟨44, [(.cell 2 10 true)], b28.strip⟩ := by kernel_rfl
def l12_0 : SCode := (.seq (.seq (.reg [m 71 6, pE 72 (.bin .int .gtr (t 71) (i 0)), m 73 72, pG 74 73 true (.mov (t 3)), pG 75 73 true (.nilck (t 74)), pG 76 73 true (.fldA 4 (t 75)), oG 77 73 true (.load 1 false (t 76)), pG 78 73 true (.bin .int .gtr (t 77) (i 0)), pE 79 (.pick (t 73) (t 78) (.lit (.bool false)))]) (.cond (t 79) .skip (.exit 2))) (.seq (.block 3 (.draw [0, 1, 0, 4, 12, 31, 63, 127] [0, 1, 2, 3, 4, 5, 6, 7] [pE 82 (.fldA 6 (t 4)), oS 83 (.load 1 false (t 82)), m 84 3, oS 85 (.call 29 [(t 84), (i 3), (i 2), (.lit (.bool true)), (.lit (.bool false)), (.lit (.bool false))]), pE 86 (.lits 19 [(t 85)]), oS 87 (.append false 54 19 240 (t 83) (t 86) 5), pE 88 (.fldA 6 (t 4)), ⟨none, none, (.store 1 (t 88) (t 87))⟩])) (.reg [m 80 6, pE 81 (.bin .int .sub (t 80) (i 1)), m 6 81])))
def l12_1 : SCode := (.seq (.seq (.reg [m 26 5, pE 27 (.bin .int .gtr (t 26) (i 0)), m 28 27, pG 29 28 true (.fldA 1 (t 4)), oG 30 28 true (.load 1 false (t 29)), pG 31 28 true (.fldA 2 (t 4)), oG 32 28 true (.load 1 false (t 31)), pG 33 28 true (.bin .int .mul (i 2) (t 32)), pG 34 28 true (.bin .int .rem (t 30) (t 33)), pG 35 28 true (.bin .int .eql (t 34) (i 0)), pE 36 (.pick (t 28) (t 35) (.lit (.bool false)))]) (.cond (t 36) .skip (.exit 0))) (.seq (.block 1 (.reg [pE 39 (.fldA 2 (t 4)), oS 40 (.load 1 false (t 39)), pE 41 (.bin .int .mul (i 2) (t 40)), pE 42 (.fldA 2 (t 4)), ⟨none, none, (.store 1 (t 42) (t 41))⟩])) (.reg [m 37 5, pE 38 (.bin .int .sub (t 37) (i 1)), m 5 38])))
def b12 : SCode := (.seq (.frz [1] (.reg [oS 1 (.box 24 (t 0) 0), oS 2 (.alloc 38 (.agg [(.str []), (.int .i64 0), (.int .i64 0), (.sl [] 0 .full), (.sl [] 0 .full), (.sl [] 0 .full), (.sl [] 0 .full)]) 1)])) (.seq (.reg [pE 7 (.fldA 0 (t 1)), oS 8 (.load 1 false (t 7)), pE 9 (.build [(.sl [] 0 .full), (.int .i64 0), (.sl [] 0 .full), (.int .i64 0), (.int .i64 0), (.bool false), (.bool false)] [(0, (1, (t 8)))]), oS 10 (.box 75 (t 9) 3), m 3 10]) (.seq (.draw [0, 0, 2, 6, 15, 31, 6, 0, 0, 0, 896, 2047, 0, 8191] [0, 1, 2, 3, 4, 5, 6, 7, 8, 9, 10, 11, 12, 13] [pE 11 (.lits 1 [(i 4), (i 1), (i 2), (i 8), (i 6)]), m 12 3, oS 13 (.call 26 [(t 12)]), pE 14 (.bin .int .rem (t 13) (i 5)), pE 15 (.idxA 1 (t 11) (t 14)), oS 16 (.load 1 false (t 15)), oS 17 (.call 27 []), pE 18 (.build [(.str []), (.int .i64 0)] [(0, (1, (.lit (.str [110])))), (1, (1, (i 1)))]), pE 19 (.build [(.str []), (.int .i64 0)] [(0, (1, (.lit (.str [116])))), (1, (1, (i 2)))]), pE 20 (.build [(.str []), (.int .i64 0)] [(0, (1, (.lit (.str [99])))), (1, (1, (i 3)))]), pE 21 (.lits 2 [(t 18), (t 19), (t 20)]), pE 22 (.build [(.str []), (.int .i64 0), (.int .i64 0), (.sl [] 0 .full), (.sl [] 0 .full), (.sl [] 0 .full), (.sl [] 0 .full)] [(0, (1, (.lit (.str [107])))), (1, (1, (t 16))), (2, (1, (i 1))), (3, (1, (t 17))), (4, (1, (t 21)))]), oS 4 (.alloc 38 (.agg [(.str []), (.int .i64 0), (.int .i64 0), (.sl [] 0 .full), (.sl [] 0 .full), (.sl [] 0 .full), (.sl [] 0 .full)]) 12), ⟨none, none, (.store 7 (t 4) (t 22))⟩]) (.seq (.seq (.reg [m 23 3, oS 24 (.call 26 [(t 23)]), pE 25 (.bin .int .rem (t 24) (i 3)), m 5 25]) (.block 0 (.loop l12_1))) (.seq (.seq (.reg [m 43 3, oS 44 (.call 26 [(t 43)]), pE 45 (.bin .int .rem (t 44) (i 3)), pE 46 (.bin .int .eql (t 45) (i 0))]) (.cond (t 46) (.seq (.reg [m 47 3, oS 48 (.call 28 [(t 47)]), pE 49 (.lits 10 [(t 48)]), pE 50 (.fldA 5 (t 4)), ⟨none, none, (.store 1 (t 50) (t 49))⟩]) (.reg [m 51 3, pE 52 (.nilck (t 51)), pE 53 (.fldA 5 (t 52)), ⟨none, none, (.store 1 (t 53) (.lit (.bool true)))⟩])) .skip)) (.seq (.reg [m 54 3, pE 55 (.lits 2 []), pE 56 (.fldA 4 (t 4)), oS 57 (.load 1 false (t 56)), oS 58 (.appendR 45 2 24 (t 55) (t 57) 4), pE 59 (.nilck (t 54)), pE 60 (.fldA 2 (t 59)), ⟨none, none, (.store 1 (t 60) (t 58))⟩]) (.seq (.reg [m 61 3, pE 62 (.nilck (t 61)), pE 63 (.fldA 6 (t 62)), ⟨none, none, (.store 1 (t 63) (.lit (.bool true)))⟩]) (.seq (.reg [m 64 3, pE 65 (.nilck (t 64)), pE 66 (.fldA 4 (t 65)), ⟨none, none, (.store 1 (t 66) (i 12))⟩]) (.seq (.seq (.reg [m 67 3, oS 68 (.call 26 [(t 67)]), pE 69 (.bin .int .rem (t 68) (i 8)), pE 70 (.bin .int .add (i 1) (t 69)), m 6 70]) (.block 2 (.loop l12_0))) (.seq (.seq (.reg [m 89 3, oS 90 (.call 26 [(t 89)]), pE 91 (.bin .int .rem (t 90) (i 4)), pE 92 (.bin .int .eql (t 91) (i 0))]) (.cond (t 92) (.frz [4] (.draw [0, 1, 0, 4, 0, 16, 60, 0, 140, 508, 1023, 2047, 4095] [0, 1, 2, 3, 4, 5, 6, 7, 8, 9, 10, 11, 12] [pE 93 (.fldA 6 (t 4)), oS 94 (.load 1 false (t 93)), m 95 3, oS 96 (.call 30 [(t 95), (i 3), (i 3)]), pE 97 (.build [(.int .i64 0), (.int .i64 0), (.int .i64 0), (.int .i64 0), (.str []), (.int .i64 0), (.int .i64 0), (.int .i64 0), (.str []), (.int .i32 0), (.sl [] 0 .full), (.int .i64 0), (.int .i64 0), (.int .i64 0), (.str []), (.int .i32 0), (.sl [] 0 .full), (.sl [] 0 .full), (.sl [] 0 .full)] [(0, (1, (i 9)))]), pE 98 (.lits 19 [(t 97)]), pE 99 (.build [(.int .i64 0), (.int .i64 0), (.int .i64 0), (.int .i64 0), (.str []), (.int .i64 0), (.int .i64 0), (.int .i64 0), (.str []), (.int .i32 0), (.sl [] 0 .full), (.int .i64 0), (.int .i64 0), (.int .i64 0), (.str []), (.int .i32 0), (.sl [] 0 .full), (.sl [] 0 .full), (.sl [] 0 .full)] [(0, (1, (i 5))), (5, (6, (t 96))), (17, (1, (t 98)))]), m 100 3, oS 101 (.call 31 [(t 100)]), pE 102 (.lits 19 [(t 99), (t 101)]), oS 103 (.append false 54 19 240 (t 94) (t 102) 10), pE 104 (.fldA 6 (t 4)), ⟨none, none, (.store 1 (t 104) (t 103))⟩])) .skip)) (.seq (.reg [oS 105 (.load 7 true (t 4)), ⟨none, none, (.store 7 (t 2) (t 105))⟩]) .ret)))))))))))
theorem r12 : resFunc Tryz.prog Tryz.f12 = some ⟨106, [(.cell 2 7 true)], b12.strip⟩ := by kernel_rfl
end
section
structure MS where
 at_ : Nat
 vars : List Pa
 count : Nat
 left : Int
 call : Bool
 loads : Bool
def nextM (bs : List UInt8) (s : MS) : Nat × MS := ((match bs[s.at_]? with | some b => b.toNat | none => 0), { s with at_ := s.at_ + 1 })
def ofL (t : Int) (l : List Pa) : List Str := (l.filter (fun p => p.typ == t)).map (·.name)
def ofM (bs : List UInt8) (t : Int) (s : MS) : (Str × Bool) × MS :=
 if ofL t s.vars = [] then (([], false), s) else
  let r := nextM bs s
  (((ofL t s.vars)[r.1 % (ofL t s.vars).length]?.getD [], true), r.2)
def numX (t v : Int) : Ex := .mk 1 0 t [] v []
def varX (n : Str) : Ex := .mk 2 0 0 n 0 []
def idX (op : Int) : Ex := .mk 3 op 0 [] 0 []
def unX (op : Int) (a : Ex) : Ex := .mk 4 op 0 [] 0 [a]
def binX (op : Int) (a b : Ex) : Ex := .mk 5 op 0 [] 0 [a, b]
def condX (a b c : Ex) : Ex := .mk 6 0 0 [] 0 [a, b, c]
def loadX (n : Str) (a : Ex) : Ex := .mk 7 0 0 n 0 [a]
def callX (n : Str) (l : List Ex) : Ex := .mk 8 0 0 n 0 l
def leafX (x : Nat) (t : Int) (o : Str × Bool) : Ex :=
 if o.2 = true ∧ x % 2 = 0 then varX o.1 else
 if t = 1 ∧ x % 4 = 1 then idX (1 + (x / 4 % 7 : Nat)) else
 if t = 1 then numX t ((x % 16 : Nat) - 4) else
 if t = 2 then numX t (x * 16384 - 100000) else numX t (x / 4 % 2 : Nat)
def leafM (bs : List UInt8) (t : Int) (s : MS) : Ex × MS :=
 let r := nextM bs s
 let o := ofM bs t r.2
 (leafX r.1 t o.1, o.2)
abbrev EM := Int → MS → Ex × MS
def placeM (E : EM) (n : Int) (s : MS) : Ex × MS :=
 let e := E 1 s
 (binX 17 e.1 (numX 1 (n - 1)), e.2)
def loadM (E : EM) (name : Str) (n : Int) (s : MS) : Ex × MS :=
 let e := placeM E n s
 (loadX name e.1, e.2)
def binM (E : EM) (op t : Int) (s : MS) : Ex × MS :=
 let a := E t s
 let b := E t a.2
 (binX op a.1 b.1, b.2)
def unM (E : EM) (op t : Int) (s : MS) : Ex × MS :=
 let a := E t s
 (unX op a.1, a.2)
def opsI : List Int := [10, 11, 12, 13, 14, 17, 18, 19, 20, 21, 22, 23]
def integerM (bs : List UInt8) (E : EM) (k : Nat) (s : MS) : Ex × MS :=
 if k % 18 < 12 then binM E (opsI[k % 18]?.getD 0) 1 s else
 if k % 18 = 12 then unM E 5 2 s else
 if k % 18 = 13 then (let r := nextM bs s; unM E (([1, 2, 3] : List Int)[r.1 % 3]?.getD 0) 1 r.2) else
 if k % 18 = 14 ∧ s.call = true then (let a := E 1 s; let b := E 1 a.2; (callX [104] [a.1, b.1], b.2)) else
 if s.loads = false then leafM bs 1 s else
 if k % 3 = 0 then loadM E [112] 4 s else loadM E (([[97], [115]] : List Str)[k % 2]?.getD []) 8 s
def opsF : List Int := [10, 11, 15, 16, 22, 23]
def fixedM (bs : List UInt8) (E : EM) (k : Nat) (s : MS) : Ex × MS :=
 if k % 9 < 6 then binM E (opsF[k % 9]?.getD 0) 2 s else
 if k % 9 = 6 then unM E 4 1 s else
 if k % 9 = 7 ∨ s.loads = false then (let r := nextM bs s; unM E (([1, 3] : List Int)[r.1 % 2]?.getD 0) 2 r.2) else
 loadM E [102] 4 s
def truthM (bs : List UInt8) (E : EM) (k : Nat) (s : MS) : Ex × MS :=
  if k % 9 < 4 then
    (let r := nextM bs s
     let q := nextM bs r.2
     binM E (([24, 25, 26, 27, 28, 29] : List Int)[q.1 % 6]?.getD 0) (1 + (r.1 % 2 : Nat)) q.2) else
  if k % 9 < 6 then (let r := nextM bs s; binM E (([17, 18, 19, 24, 25] : List Int)[r.1 % 5]?.getD 0) 3 r.2) else
  if k % 9 < 8 ∨ s.loads = false then unM E 2 3 s else
  loadM E [98] 4 s
def nodeM (bs : List UInt8) (E : EM) (t : Int) (x : Nat) (s : MS) : Ex × MS :=
 if x % 5 = 0 then leafM bs t s else
 if x % 5 = 1 then (let a := E 3 s; let b := E t a.2; let c := E t b.2; (condX a.1 b.1 c.1, c.2)) else
 if t = 1 then integerM bs E (x / 5) s else
 if t = 2 then fixedM bs E (x / 5) s else truthM bs E (x / 5) s
def exprM (bs : List UInt8) : Nat → EM
 | 0, t, s => leafM bs t (nextM bs s).2
 | 1, t, s => leafM bs t (nextM bs s).2
 | d + 2, t, s => let r := nextM bs s; nodeM bs (exprM bs (d + 1)) t r.1 r.2
def digitsP (n : Nat) : Str := if h : n / 10 = 0 then [UInt8.ofNat (48 + n % 10)] else digitsP (n / 10) ++ [UInt8.ofNat (48 + n % 10)]
termination_by n
decreasing_by omega
def zE : Ex := .mk 0 0 0 [] 0 []
def declareM (bs : List UInt8) (s : MS) : Sm × MS :=
 let r := nextM bs s
 let t : Int := 1 + (r.1 % 3 : Nat)
 let e := exprM bs 3 t r.2
 let n : Str := 118 :: digitsP e.2.count
 (.mk 1 0 t 0 n e.1 zE [] [], { e.2 with count := e.2.count + 1, vars := e.2.vars ++ [⟨n, t⟩] })
def varAt (l : List Pa) (i : Nat) : Pa := l[i]?.getD ⟨[], 0⟩
def setM (bs : List UInt8) (first : Nat) (s : MS) : Sm × MS :=
 if s.vars.length ≤ first then declareM bs s else
  let r := nextM bs s
  let v := varAt s.vars (first + r.1 % (s.vars.length - first))
  let e := exprM bs 3 v.typ r.2
  (.mk 2 0 0 0 v.name e.1 zE [] [], e.2)
def storeM (bs : List UInt8) (s : MS) : Sm × MS :=
 let r := nextM bs s
 let k := r.1 % 6
 let i := placeM (exprM bs 2) (([8, 8, 8, 4, 4, 4] : List Int)[k]?.getD 0) r.2
 let e := exprM bs 3 (([1, 1, 1, 2, 1, 3] : List Int)[k]?.getD 0) i.2
 (.mk 3 0 0 0 (([[97], [97], [115], [102], [112], [98]] : List Str)[k]?.getD []) i.1 e.1 [] [], e.2)
def collectedM (bs : List UInt8) (first : Nat) (s : MS) : Sm × MS :=
  if s.vars.length ≤ first then declareM bs s else
    let r := nextM bs s
    let v := varAt s.vars (first + r.1 % (s.vars.length - first))
    if v.typ = 3 then
      (let q := nextM bs r.2
       let e := exprM bs 3 3 q.2
       (.mk 12 (2 + (q.1 % 2 : Nat)) 0 0 v.name e.1 zE [] [], e.2)) else
    let q := nextM bs r.2
    let op : Int := ([5, 6, 4, 1] : List Int)[q.1 % 4]?.getD 0
    if op = 1 ∧ v.typ = 1 then
      (let e := exprM bs 3 3 q.2
       (.mk 12 op 0 0 v.name e.1 zE [] [], e.2)) else
    if op = 4 then
      (let e := exprM bs 2 v.typ q.2
       let f := exprM bs 2 1 e.2
       (.mk 12 op 0 0 v.name e.1 f.1 [] [], f.2)) else
    let p := nextM bs q.2
    let e := exprM bs 3 v.typ p.2
    (.mk 12 (([5, 6] : List Int)[p.1 % 2]?.getD 0) 0 0 v.name e.1 zE [] [], e.2)
def stmtsM (S : MS → Sm × MS) : Nat → MS → List Sm × MS
  | 0, s => ([], s)
  | n + 1, s => if 0 < s.left then
      (let r := S s
       let q := stmtsM S n r.2
       (r.1 :: q.1, q.2)) else ([], s)
def blockM (bs : List UInt8) (S : MS → Sm × MS) (s : MS) : List Sm × MS :=
 let r := nextM bs s
 let q := stmtsM S (1 + r.1 % 3) r.2
 (q.1, { q.2 with vars := q.2.vars.take s.vars.length })
def atomM (bs : List UInt8) (s : MS) : Sm × MS :=
 let i := placeM (exprM bs 2) 8 s
 let r := nextM bs i.2
 let q := nextM bs r.2
 let e := exprM bs 3 1 q.2
 (.mk 4 (([10, 22, 23, 17, 18, 19] : List Int)[q.1 % 6]?.getD 0) 0 0 (([[97], [115]] : List Str)[r.1 % 2]?.getD []) i.1 e.1 [] [], e.2)
def plainM (bs : List UInt8) (first : Nat) (top loop pure : Bool) (k : Nat) (s : MS) : Sm × MS :=
 if k = 6 ∧ loop = true then (let r := nextM bs s; (.mk (7 + (r.1 % 2 : Nat)) 0 0 0 [] zE zE [] [], r.2)) else
 if pure = true then setM bs first s else
 if k = 7 ∧ top = true then (.mk 10 0 0 0 [] zE zE [] [], s) else
 if k = 8 ∧ top = true then collectedM bs first s else
 if k = 9 then atomM bs s else
 if k = 10 then (let r := nextM bs s; (.mk 11 (1 + (r.1 % 2 : Nat)) 0 0 [] zE zE [] [], r.2)) else
 storeM bs s
def stmtM (bs : List UInt8) (first : Nat) (pure : Bool) : Nat → Bool → Bool → MS → Sm × MS
  | 0, top, loop, s =>
    let r := nextM bs { s with left := s.left - 1 }
    let k := r.1 % 14
    if k = 0 then declareM bs r.2 else
    if k < 4 then setM bs first r.2 else plainM bs first top loop pure k r.2
  | d + 1, top, loop, s =>
    let r := nextM bs { s with left := s.left - 1 }
    let k := r.1 % 14
    if k = 0 then declareM bs r.2 else
    if k < 4 then setM bs first r.2 else
    if k = 4 then
      (let e := exprM bs 3 3 r.2
       let b := blockM bs (stmtM bs first pure d false loop) e.2
       let q := nextM bs b.2
       if q.1 % 2 = 0 then
         (let c := blockM bs (stmtM bs first pure d false loop) q.2
          (.mk 5 0 0 0 [] e.1 zE b.1 c.1, c.2)) else (.mk 5 0 0 0 [] e.1 zE b.1 [], q.2)) else
    if k = 5 then
      (let e := exprM bs 3 3 r.2
       let q := nextM bs e.2
       let b := blockM bs (stmtM bs first pure d false true) q.2
       (.mk 6 0 0 (1 + (q.1 % 4 : Nat)) [] e.1 zE b.1 [], b.2)) else plainM bs first top loop pure k r.2
def hPars : List Pa := [⟨[120], 1⟩, ⟨[121], 1⟩]
def funM (bs : List UInt8) (s : MS) : Fu × MS :=
 let r := nextM bs { s with vars := hPars, left := 4 }
 let q := stmtsM (stmtM bs 2 true 1 false false) (r.1 % 4) r.2
 let e := exprM bs 3 1 q.2
 (⟨[104], hPars, 1, q.1, e.1⟩, e.2)
def arrsM : List Ar := [⟨[97], 1, 1, 8⟩, ⟨[102], 1, 2, 4⟩, ⟨[115], 2, 1, 8⟩, ⟨[112], 3, 1, 4⟩, ⟨[98], 2, 3, 4⟩]
def parsM : List Pa := [⟨[110], 1⟩, ⟨[116], 2⟩, ⟨[99], 3⟩]
def subM (g : Int) : Nat → Int → Int
 | 0, s => s
 | n + 1, s => if g % (2 * s) = 0 then subM g n (2 * s) else s
def headM (bs : List UInt8) (s : MS) : List Fu × MS :=
 let r := nextM bs s
 if r.1 % 3 = 0 then (let f := funM bs r.2; ([f.1], { f.2 with call := true })) else ([], r.2)
def tailM (bs : List UInt8) (s : MS) : List Sm × MS :=
  let r := nextM bs s
  if r.1 % 4 = 0 then
    (let e := exprM bs 3 3 r.2
     let t := storeM bs e.2
     ([.mk 5 0 0 0 [] e.1 zE [.mk 9 0 0 0 [] zE zE [] []] [], t.1], t.2)) else ([], r.2)
def startM : MS := ⟨0, [], 0, 0, false, false⟩
def madeM (bs : List UInt8) : Ke :=
 let r := nextM bs startM
 let g : Int := ([4, 1, 2, 8, 6] : List Int)[r.1 % 5]?.getD 0
 let q := nextM bs r.2
 let f := headM bs q.2
 let p := nextM bs { f.2 with vars := parsM, loads := true, left := 12 }
 let b := stmtsM (stmtM bs 3 false 2 true false) (1 + p.1 % 8) p.2
 let t := tailM bs b.2
 ⟨[107], g, subM g (q.1 % 3) 1, arrsM, parsM, f.1, b.1 ++ t.1⟩
end
section
variable {w0 : World} {base : Nat}
def bytesV (bs : List UInt8) : AV := .sl (bs.map vb) bs.length .no
def Mo (bs : List UInt8) (vv : AV) (s : MS) : AObj := .cells 75 [bytesV bs, vi s.at_, vv, vi s.count, vi s.left, .bool s.call, .bool s.loads]
theorem yj (bs : List UInt8) (s : MS) : (nextM bs s).1 < 256 := by
 simp only [nextM]
 split
 ·exact UInt8.toNat_lt _
 ·omega
theorem under_bytes (U : Nat → Prop) : ∀ bs : List UInt8, AV.underL U (bs.map vb)
 | [] => trivial
 | b :: bs => ⟨trivial, under_bytes U bs⟩
theorem Mo.under {bs : List UInt8} {vv : AV} {s : MS} {U : Nat → Prop} (h : vv.under U) : (Mo bs vv s).under U := by
 simp only [Mo, AObj.under, AV.underL, AV.under, bytesV, and_true, true_and]
 exact ⟨⟨under_bytes U bs, fun t h => by cases h⟩, h⟩
mutual
theorem Ex.erase_cells (n : Nat) : ∀ e : Ex, eraseL n e.cells = some e.cells
 | .mk k o t m v a => by simp [Ex.cells, eraseL, eraseA, Ex.erase_cellsL n a]
theorem Ex.erase_cellsL (n : Nat) : ∀ l : List Ex, eraseL n (Ex.cellsL l) = some (Ex.cellsL l)
 | [] => by simp [Ex.cellsL, eraseL]
 | e :: l => by simp [Ex.cellsL, ym, Ex.erase_cells n e, Ex.erase_cellsL n l]
end
theorem vm {n : Nat} (h : n < 4611686018427387904) : IntKind.i64.wrap (n : Int) = n := yy (by omega) (by omega)
theorem Mo_def (bs : List UInt8) (vv : AV) (s : MS) : Mo bs vv s = .cells 75 [.sl (bs.map vb) bs.length .no, vi s.at_, vv, vi s.count, vi s.left, .bool s.call, .bool s.loads] := rfl
theorem Mo_next (bs : List UInt8) (vv : AV) (s : MS) : Mo bs vv (nextM bs s).2 = .cells 75 [.sl (bs.map vb) bs.length .no, .int .i64 ((s.at_ : Int) + 1), vv, vi s.count, vi s.left, .bool s.call, .bool s.loads] := rfl
theorem d26 {st : St} {o : Nat} {bs : List UInt8} {vv : AV} {s : MS} (ho : st.objs o = some (Mo bs vv s)) (hat : s.at_ < 4611686018427387904) (hbs : bs.length ≤ big) (hvv : st.wf → vv.under (· < st.next)) :
  Det Tryz.prog w0 base 26 [.ptr o 0] st (vi (nextM bs s).1) (st.put o (Mo bs vv (nextM bs s).2)) := by
 refine wq (zp Tryz.func26 r26) ho fun hwf hfit => z6 Tryz.func26 r26 rfl ?_
 have hO := xy hwf ho
 have hU : (Mo bs vv (nextM bs s).2).under (· < st.next) := Mo.under (hvv hwf)
 have hlt := hwf _ _ ho
 have hn0 := zj hwf
 have hn := zf hwf
 unfold big at hbs
 have hw : IntKind.i64.wrap ((s.at_ : Int) + 1) = (s.at_ : Int) + 1 := yy (by omega) (by omega)
 have hw2 : IntKind.i64.wrap (s.at_ : Int) = (s.at_ : Int) := vm hat
 rw [Mo_def] at ho
 rw [Mo_next] at hU ⊢
 clear hfit
 have hm : (bs.map vb).length = bs.length := by simp
 unfold b26
 simp -dsimp -implicitDefEqProofs [hn0, hn, zz, ho, hlt, zx, zy, zu, zw, hw]
 refine Br_iff (fun hb => ?_) (fun hb => ?_)
 ·simp -dsimp -implicitDefEqProofs [hn0, hn, zz, ho, hlt, zx, zy, zu, zw, hw]
  refine vy hwf (x8 (z8 hO _) _) hU ?_
  have : bs[s.at_]? = none := List.getElem?_eq_none (by simp at hb; omega)
  simp [eraseA, nextM, this]
 ·have hlt' : s.at_ < bs.length := by simp at hb; omega
  have hg : bs[s.at_]? = some bs[s.at_] := List.getElem?_eq_getElem hlt'
  have hgv : (bs.map vb)[s.at_]? = some (.int .u8 (bs[s.at_].toNat : Nat)) := by simp [hg, vb]
  have hv : IntKind.i64.wrap (bs[s.at_].toNat : Int) = (bs[s.at_].toNat : Int) := vm (by have := bs[s.at_].toNat_lt; omega)
  have hlt2 : (s.at_ : Int) < bs.length := by omega
  generalize bs.map vb = cb at *
  simp -dsimp -implicitDefEqProofs [hn0, hn, zz, ho, hlt, zx, zy, zu, zw, hw, hw2, hlt', hlt2, hgv, hv, loadA, oblR, oblQ, oblE]
  refine vy hwf (x8 (z8 hO _) _) hU ?_
  simp [eraseA, nextM, hg]
theorem d86 (st : St) (t v : Int) : Det Tryz.prog w0 base 86 [vi t, .int .i32 v] st (.agg (numX t v).cells) st := by
 refine det_res (r := .agg [vi 1, vi 0, vi t, .str [], .int .i32 v, .sl [] 0 .full]) ?_ (by simp [AV.bare, AV.bareL, numX, Ex.cells, Ex.cellsL])
 refine zh (zp Tryz.func86 r86) fun hwf hfit => z6 Tryz.func86 r86 rfl ?_
 have hn0 := zj hwf
 have hn := zf hwf
 unfold b86
 simp -dsimp -implicitDefEqProofs [hn0, hn, zz]
 refine zg hwf (fun p hp => by simp [hp, zx, zy]) (by simp [eraseA, eraseL])
theorem d85 (st : St) (op : Int) (a b : Ex) : Det Tryz.prog w0 base 85 [vi op, .agg a.cells, .agg b.cells] st (.agg (binX op a b).cells) st := by
 refine det_res (r := .agg [vi 5, vi op, vi 0, .str [], .int .i32 0, .sl (a.cells ++ b.cells) 2 .full]) ?_ (by simp [AV.bare, AV.bareL, binX, Ex.cells, Ex.cellsL, zm, Ex.bare_cells])
 refine zh (zp Tryz.func85 r85) fun hwf hfit => z6 Tryz.func85 r85 rfl ?_
 have hn0 := zj hwf
 have hn := zf hwf
 have la := Ex.cells_len a
 have lb := Ex.cells_len b
 have ea := fun n => Ex.erase_cells n a
 have eb := fun n => Ex.erase_cells n b
 have ta : a.cells.take 6 = a.cells := List.take_of_length_le (by omega)
 have tb : b.cells.take 6 = b.cells := List.take_of_length_le (by omega)
 generalize a.cells = ca at *
 generalize b.cells = cb at *
 clear hfit
 unfold b85
 simp -dsimp -implicitDefEqProofs [hn0, hn, zz, la, lb, ta, tb, loadA]
 refine zg hwf (fun p hp => by simp [hp, zx, zy]) (by simp [eraseA, eraseL, ym, ea, eb])
theorem d88 (st : St) (op : Int) (a : Ex) : Det Tryz.prog w0 base 88 [vi op, .agg a.cells] st (.agg (unX op a).cells) st := by
 refine det_res (r := .agg [vi 4, vi op, vi 0, .str [], .int .i32 0, .sl a.cells 1 .full]) ?_ (by simp [AV.bare, AV.bareL, unX, Ex.cells, Ex.cellsL, zm, Ex.bare_cells])
 refine zh (zp Tryz.func88 r88) fun hwf hfit => z6 Tryz.func88 r88 rfl ?_
 have hn0 := zj hwf
 have hn := zf hwf
 have la := Ex.cells_len a
 have ea := fun n => Ex.erase_cells n a
 have ta : a.cells.take 6 = a.cells := List.take_of_length_le (by omega)
 generalize a.cells = ca at *
 clear hfit
 unfold b88
 simp -dsimp -implicitDefEqProofs [hn0, hn, zz, la, ta, loadA]
 refine zg hwf (fun p hp => by simp [hp, zx, zy]) (by simp [eraseA, eraseL, ym, ea])
end
section
open Go Go.ChangeShapes Go.WideShapes Go.ChangeAt Go.RowKit
def Gh.upto (n L : Nat) : Gh := ⟨fun _ => False, fun _ => none, fun _ => none, fun _ => 0, fun _ => 0, fun _ => 0, fun _ => none, fun b => if b < n then L else 0⟩
theorem inv_upto (W : World) (L : Nat) : Inv W W.heap.size (Gh.upto W.heap.size L) (St.nil.add fun _ => none) W :=
 ⟨Below.refl _ _, fun _ h => h.elim, fun _ _ h => by simp [St.add, St.nil] at h, fun b hb => ⟨if_neg (by omega), rfl⟩, Nat.le_refl _⟩
theorem law_of_det_upto {P : Program} {W : World} {f : FuncId} {args : List AV} {us : List Value} {st' : St} {L : Nat} (h : Det P W W.heap.size f args St.nil (.bool true) st') (hR : RepL (Gh.upto W.heap.size L) W args us) :
  Calls P f ⟨us⟩ W fun e W' => e = .returned (.bool true) ∧ Below W.heap.size W W' := by
 refine (h.calls (fun _ => none) (Gh.upto W.heap.size L) W us (fun _ h => (h rfl).elim) (inv_upto W L) hR).mono ?_
 rintro e w' ⟨v, G', rfl, he, _, hI, hr⟩
 have : v = .bool true := hr
 subst this
 exact ⟨rfl, hI.old⟩
theorem cells24 : Tryz.prog.cellsOf 24 = 1 := by kernel_rfl
theorem cells22 : Tryz.prog.cellsOf 22 = 1 := by kernel_rfl
theorem cells5 : Tryz.prog.cellsOf 5 = 1 := by kernel_rfl
theorem bytes5 : Tryz.prog.bytesOf 5 = 1 := by kernel_rfl
theorem u8_of {n : Int} (h : (Lit.int .u8 n).wf = true) : Value.int .u8 n = .int .u8 ((UInt8.ofNat n.toNat).toNat : Int) := by
 have := bounds_u8 h
 have h2 : (UInt8.ofNat n.toNat).toNat = n.toNat := by
  rw [UInt8.toNat_ofNat']
  exact Nat.mod_eq_of_lt (by omega)
 rw [h2, Int.toNat_of_nonneg this.1]
theorem repC_raw {G : Gh} {W : World} (bs : List UInt8) : RepC G W (bs.map vb) (bs.map fun c => .int .u8 (c.toNat : Int)) := by
 induction bs with
 | nil => simp [RepC]
 | cons c bs ih => exact ⟨_, _, rfl, rfl, rfl, ih⟩
theorem open_raw {H : Type} {enc : TypeId × Value → H} {W : World} {base0 : Nat} {v : Value} {d : DataW H} {ps : List MemPlace} (hval : Value.okWide Tryz.prog W .any base0 24 v)
  (hd : DataW.Trod enc Tryz.prog W 0 (fun _ => true) true 24 v d ps) (hsz : ∀ n ∈ d.weights Tryz.prog 24, n ≤ reachBytes) :
  ∃ (bs : List UInt8) (L : Nat), Rep (Gh.upto W.heap.size L) W (.agg [bytesV bs]) v ∧ ∀ W', Below W.heap.size W W' → DataW.Trod enc Tryz.prog W' 0 (fun b => decide (b < W.heap.size)) true 24 v d ps := by
 have hstay : ∀ W', Below W.heap.size W W' → (∀ p ∈ ps, p.block < W.heap.size) → DataW.Trod enc Tryz.prog W' 0 (fun b => decide (b < W.heap.size)) true 24 v d ps := by
  intro W' hB hlt
  refine WideElems.Trod_stays (by kernel_rfl) (by kernel_rfl) (of_decide_eq_true (by kernel_rfl)) hd (fun p hp => ?_) (fun p hp => by simpa using hlt p hp)
  have h1 := hlt p hp
  have h2 := hB.block p.block h1
  cases p with
  | cell b off => simp only [World.sameAt, World.cell?, MemPlace.block] at h2 ⊢; rw [h2]
  | map b => exact h2
 simp only [Value.okWide, Tryz.underlying24] at hval
 obtain ⟨cs, rfl, hcs, _⟩ := hval
 rw [cells24] at hcs
 obtain ⟨c0, rfl⟩ : ∃ c0, cs = #[c0] := by
  match cs, hcs with
  | ⟨[c0]⟩, _ => exact ⟨c0, rfl⟩
  | ⟨[]⟩, h => simp at h
  | ⟨_ :: _ :: _⟩, h => simp at h
 have hd0 := hd
 obtain ⟨fuel, hf⟩ := hd
 obtain ⟨y0, n, hx, _, hy⟩ := trod_struct1 Tryz.underlying24 hf
 simp only [Prod.mk.injEq] at hx
 obtain ⟨rfl, rfl⟩ := hx
 simp only [cells22, Value.cells, List.drop_zero] at hy
 rcases open_ints Tryz.underlying22 Tryz.underlying5 cells5 hy with ⟨hcs, rfl⟩ | ⟨a, len, cap, zs, hcs, _, hlc, hcm, hzl, rfl, hcell, hwf⟩
 ·simp only [List.take_succ_cons, List.take_zero, List.cons.injEq, and_true] at hcs
  subst hcs
  refine ⟨[], 0, ⟨_, rfl, _, _, rfl, rfl, ⟨[], none, 0, rfl, .inl rfl, rfl, by simp, by simp, by simp, by simp, by simp, by simp⟩, rfl⟩, fun W' hB => hstay W' hB (by simp)⟩
 ·simp only [List.take_succ_cons, List.take_zero, List.cons.injEq, and_true] at hcs
  subst hcs
  simp only [if_true] at hzl
  have hlen : len ≤ big := by
   have := hsz ((lits (H := H) .u8 (zs.take len)).length + (lits (H := H) .u8 (zs.drop len)).length |>.mul (Tryz.prog.bytesOf 5)) (by
    simp only [DataW.weights, Tryz.underlying24, List.map_cons, List.map_nil, DataW.weightsEach, Tryz.underlying22]
    simp)
   rw [bytes5] at this
   simp only [lits, List.length_map, List.length_take, List.length_drop, reachBytes] at this
   unfold big
   have h2 : (min len zs.length + (zs.length - len)) * 1 ≤ _ := this
   omega
  have hblk : 0 < zs.length → a.block < W.heap.size ∧ a.spot = none := by
   intro h0
   have h1 := hcell 0 h0
   have h2 := World.cell?_spot h1
   have h3 : a.spot = none := by simpa [Addr.add] using h2
   refine ⟨?_, h3⟩
   rcases Nat.lt_or_ge a.block W.heap.size with h | h
   ·exact h
   ·exfalso
    have h4 : W.heap[a.block]? = none := Array.getElem?_eq_none h
    have h5 : (a.add 0).block = a.block := add_block a 0
    simp [World.cell?, h5, h4] at h1
  refine ⟨(zs.take len).map fun n => UInt8.ofNat n.toNat, a.off + zs.length, ?_, fun W' hB => hstay W' hB fun p hp => ?_⟩
  ·have hl : ((zs.take len).map fun n => UInt8.ofNat n.toNat).length = len := by simp; omega
   refine ⟨_, rfl, _, _, rfl, rfl, ?_, rfl⟩
   unfold bytesV
   rw [hl]
   refine ⟨((zs.take len).map fun n => UInt8.ofNat n.toNat).map fun c => .int .u8 (c.toNat : Int), some a, cap, repC_raw _, ?_, rfl, hlc, hcm, hlen, by simp, by simp, by simp⟩
   by_cases h0 : zs.length = 0
   ·refine .inl ?_
    have : zs = [] := List.eq_nil_of_length_eq_zero h0
    simp [this]
   ·refine .inr ⟨a, rfl, fun j u hj => ?_⟩
    simp only [List.getElem?_map, Option.map_eq_some_iff] at hj
    obtain ⟨c, ⟨m, hm, rfl⟩, rfl⟩ := hj
    rw [List.getElem?_take] at hm
    split at hm
    ·have hj2 : j < zs.length := (List.getElem?_eq_some_iff.1 hm).1
     have h1 := hcell j hj2
     rw [List.getD_eq_getElem?_getD, hm, Option.getD_some] at h1
     refine ⟨?_, ?_⟩
     ·rw [h1, u8_of (hwf m (List.mem_of_getElem? hm))]
     ·have := (hblk (by omega)).1
      simp only [Gh.upto, if_pos this]; omega
    ·cases hm
  ·simp only [MemPlace.row, List.mem_map, List.mem_range] at hp
   obtain ⟨i, hi, rfl⟩ := hp
   exact (hblk (by omega)).1
end
section
variable {w0 : World} {base : Nat}
inductive TipG (e size : Nat) (st : St) : Nat → Perm → St → Prop
 | none {s : St} (h : Akin st s) : TipG e size st 0 .full s
 | some {s : St} {n t : Nat} (le : st.next ≤ t) (lt : t < s.next) (old : ∀ q, q < st.next → s.objs q = st.objs q) (at_ : s.objs t = .some (.tip e size n)) (no : ∀ q, q ≠ t → st.next ≤ q → s.objs q = .none) (hn : n ≠ 0) : TipG e size st n (.tok t) s
section
variable {e size : Nat} {st s : St} {n : Nat} {p : Perm}
theorem TipG.bump (h : TipG e size st n p s) (k : Nat) : TipG e size st n p (s.bump k) := by
 cases h with
 | none h => exact .none (h.bump k)
 | some le lt old at_ no hn => exact .some le (Nat.lt_of_lt_of_le lt (Nat.le_add_right _ _)) old at_ no hn
theorem TipG.old (h : TipG e size st n p s) : ∀ q, q < st.next → s.objs q = st.objs q := by
 cases h with
 | none h => intro q _; rw [h.objs]
 | some le lt old at_ no => exact old
theorem TipG.fresh (hwf : st.wf) (h : TipG e size st n p s) (k : Nat) : s.objs (s.next + k) = .none := by
 cases h with
 | none h => exact h.fresh hwf k
 | some le lt old at_ no => exact no _ (by omega) (by omega)
theorem TipG.le (h : TipG e size st n p s) : st.next ≤ s.next := by
 cases h with
 | none h => exact h.le
 | some le lt old at_ no => omega
theorem TipG.wf (hwf : st.wf) (h : TipG e size st n p s) : s.wf := by
 intro q x hq
 rcases Nat.lt_or_ge q s.next with h1 | h1
 ·exact h1
 ·obtain ⟨k, rfl⟩ := Nat.exists_eq_add_of_le h1
  rw [h.fresh hwf k] at hq; cases hq
end
theorem TipG.own {e size : Nat} {st s : St} {n : Nat} {p : Perm} (hwf : st.wf) (h : TipG e size st n p s) {o : Nat} {x : AObj} (ho : st.objs o = Option.some x) : Own st o x s :=
 ⟨h.wf hwf, h.le, hwf _ _ ho, by rw [h.old o (hwf _ _ ho)]; exact ho, fun p hp _ => h.old p hp⟩
theorem yz (a b : Nat) : (a : Int).tmod (b : Int) = ((a % b : Nat) : Int) := by
 rw [Int.tmod_eq_emod_of_nonneg (by omega), Int.natCast_emod]
theorem nat_tdiv (a b : Nat) : (a : Int).tdiv (b : Int) = ((a / b : Nat) : Int) := by
 rw [Int.tdiv_eq_ediv_of_nonneg (by omega), Int.natCast_ediv]
def VarsR (st : St) (vv : AV) (l : List Pa) : Prop := (∃ p, vv = .sl (rowOf Pa.cells l) l.length p) ∨ ∃ q cs, vv = .row q l.length ∧ st.objs q = some (.row 45 2 (rowOf Pa.cells l ++ cs))
theorem pa_cells (l : List Pa) (cs : List AV) (j : Nat) (x : Pa) (h : l[j]? = some x) : (rowOf Pa.cells l ++ cs)[j * 2]? = some (.str x.name) ∧ (rowOf Pa.cells l ++ cs)[j * 2 + 1]? = some (vi x.typ) ∧ j * 2 + 2 ≤ (rowOf Pa.cells l ++ cs).length ∧ ((rowOf Pa.cells l ++ cs).drop (j * 2)).take 2 = [.str x.name, vi x.typ] := by
 have h0 := @rowOf_get _ Pa.cells 2 Pa.cells_len l j 0 x h (by omega)
 have h1 := @rowOf_get _ Pa.cells 2 Pa.cells_len l j 1 x h (by omega)
 have h2 := @ye _ Pa.cells 2 Pa.cells_len l j x h
 have h3 := @yg _ Pa.cells 2 Pa.cells_len l j x h
 refine ⟨?_, ?_, by rw [List.length_append]; omega, ?_⟩
 ·rw [List.getElem?_append_left (by omega)]; simpa [Pa.cells] using h0
 ·rw [List.getElem?_append_left (by omega)]; simpa [Pa.cells] using h1
 ·rw [List.drop_append_of_le_length (by omega), List.take_append_of_le_length (by rw [List.length_drop]; omega)]; simpa [Pa.cells] using h3
theorem ofL_take (t : Int) (l : List Pa) (j : Nat) (x : Pa) (h : l[j]? = some x) : ofL t (l.take (j + 1)) = if x.typ = t then ofL t (l.take j) ++ [x.name] else ofL t (l.take j) := by
 have ht : l.take (j + 1) = l.take j ++ [x] := by rw [List.take_add_one, h]; rfl
 rw [ht]
 simp only [ofL, List.filter_append, List.map_append]
 by_cases e : x.typ = t
 ·simp [e]
 ·simp [e]
theorem vars_read {st : St} {vv : AV} {l : List Pa} (hv : VarsR st vv l) : ∃ cv, (∀ j x, l[j]? = some x → cv[j * 2]? = some (.str x.name) ∧ cv[j * 2 + 1]? = some (vi x.typ) ∧ j * 2 + 2 ≤ cv.length ∧ (cv.drop (j * 2)).take 2 = [.str x.name, vi x.typ]) ∧
  ((∃ p, vv = .sl cv l.length p) ∨ ∃ q, vv = .row q l.length ∧ st.objs q = some (.row 45 2 cv)) := by
 rcases hv with ⟨p, rfl⟩ | ⟨q, cs, rfl, hq⟩
 ·exact ⟨_, fun j x h => by have := pa_cells l [] j x h; simpa using this, .inl ⟨p, rfl⟩⟩
 ·exact ⟨_, fun j x h => pa_cells l cs j x h, .inr ⟨q, rfl, hq⟩⟩
theorem d87 {st : St} {o : Nat} {bs : List UInt8} {vv : AV} {s : MS} {t : Int} (ho : st.objs o = some (Mo bs vv s)) (hv : VarsR st vv s.vars) (hl : s.vars.length ≤ 1000000) (hat : s.at_ < 4611686018427387904) (hbs : bs.length ≤ big) (hvv : st.wf → vv.under (· < st.next)) :
  Det Tryz.prog w0 base 87 [.ptr o 0, vi t] st (.tuple [.str (ofM bs t s).1.1, .bool (ofM bs t s).1.2]) (st.put o (Mo bs vv (ofM bs t s).2)) := by
 refine wq (zp Tryz.func87 r87) ho fun hwf hfit => z6 Tryz.func87 r87 rfl ?_
 clear hfit
 have hlt := hwf _ _ ho
 have hnx := fun {st' : St} (ho : st'.objs o = some (Mo bs vv s)) (hvv : st'.wf → vv.under (· < st'.next)) => d26 (w0 := w0) (base := base) ho hat hbs hvv
 have hO := xy hwf ho
 have hU : (Mo bs vv (ofM bs t s).2).under (· < st.next) := Mo.under (hvv hwf)
 have hvu := hvv hwf
 obtain ⟨cv, hcell, hv⟩ := vars_read hv
 have hread : ∀ z : St, (∀ p, p < st.next → z.objs p = st.objs p) → (∃ p, vv = .sl cv s.vars.length p ∧ z.objs o = some (Mo bs vv s)) ∨ ∃ q, vv = .row q s.vars.length ∧ z.objs q = some (.row 45 2 cv) := by
  intro z hz
  rcases hv with ⟨p, h⟩ | ⟨q, h, hq⟩
  ·exact .inl ⟨p, h, by rw [hz o hlt]; exact ho⟩
  ·exact .inr ⟨q, h, by rw [hz q (hwf _ _ hq)]; exact hq⟩
 unfold b87
 simp -dsimp -implicitDefEqProofs
 refine loop_by (fun k e z => ∃ j p, j + k = s.vars.length ∧ e 7 = vi j ∧ e 6 = .sl (strs (ofL t (s.vars.take j))) (ofL t (s.vars.take j)).length p ∧ TipG 9 1 st (ofL t (s.vars.take j)).length p z) s.vars.length ⟨0, .full, by omega, by simp, by simp [ofL, strs], by simpa [ofL] using TipG.none (Akin.refl _ _)⟩ (by decide) ?_
 rintro k e z hf ⟨j, p, hjk, e7, e6, hI⟩
 have e0 : e 0 = .ptr o 0 := by rw [hf 0 rfl]; simp
 have e1 : e 1 = vi t := by rw [hf 1 rfl]; simp
 have hoz : z.objs o = some (Mo bs vv s) := by rw [hI.old o hlt]; exact ho
 have fr := hI.fresh hwf
 have fr0 := fr 0
 simp only [Nat.add_zero] at fr0
 have hz := hread z hI.old
 unfold l87_0
 rcases hz with ⟨p0, rfl, hqz⟩ | ⟨q, rfl, hqz⟩
 all_goals
  rw [Mo_def] at hoz
  try rw [Mo_def] at hqz
  simp -dsimp -implicitDefEqProofs [e0, e7, hoz, hqz]
  refine Br_iff (fun hb => ?_) (fun hb => ?_)
  ·have hjl : j < s.vars.length := by simpa using hb
   obtain ⟨x, hx⟩ : ∃ x, s.vars[j]? = some x := ⟨_, List.getElem?_eq_getElem hjl⟩
   obtain ⟨c1, c2, c3, -⟩ := hcell j x hx
   have htk := ofL_take t s.vars j x hx
   simp -dsimp -implicitDefEqProofs [e0, e1, e7, e6, hoz, hqz, hjl, loadA, c1, c2]
   refine Br_iff (fun hb => ?_) (fun hb => ?_)
   ·have hxt : x.typ = t := by simpa using hb
    rw [if_pos hxt] at htk
    have hll : (ofL t (s.vars.take j)).length ≤ 1000000 := by
     have h1 : (ofL t (s.vars.take j)).length ≤ (s.vars.take j).length := by simp only [ofL, List.length_map]; exact List.length_filter_le _ _
     rw [List.length_take] at h1; omega
    have hsl : (strs (ofL t (s.vars.take j))).length = (ofL t (s.vars.take j)).length := by simp [strs]
    have hsa : strs (ofL t (s.vars.take (j + 1))) = strs (ofL t (s.vars.take j)) ++ [.str x.name] := by rw [htk]; simp [strs]
    have hna : (ofL t (s.vars.take (j + 1))).length = (ofL t (s.vars.take j)).length + 1 := by rw [htk]; simp
    generalize strs (ofL t (s.vars.take j)) = cs at *
    generalize (ofL t (s.vars.take j)).length = n at *
    have hj1 : ((j : Int) + 1) = ((j + 1 : Nat) : Int) := by omega
    have hwj : IntKind.i64.wrap ((j : Int) + 1) = (j : Int) + 1 := yy (by omega) (by omega)
    simp -dsimp -implicitDefEqProofs [e0, e1, e7, e6, hoz, hqz, hjl, loadA, c1, c2]
    rw [if_pos ⟨hsl, by unfold big; omega, by unfold big; omega⟩]
    cases hI with
    | none hI =>
     simp -dsimp -implicitDefEqProofs [e7, hwj]
     refine hold ⟨k - 1, by omega, j + 1, .tok (z.next + 27), by omega, by simp, by simp [hsa, hna], ?_⟩
     rw [hna]
     have hle := hI.le
     refine .some (by omega) (by simp) (fun q hq => ?_) (by simp) (fun q hq hq' => ?_) (by simp)
     ·have : q ≠ z.next + 27 := by omega
      simp [this, hI.objs]
     ·simp [hq, hI.objs]
      exact none_from hwf hq'
    | @some _ _ t' le lt old at_ no hn =>
     simp -dsimp -implicitDefEqProofs [at_, e7, hwj]
     refine hold ⟨k - 1, by omega, j + 1, .tok t', by omega, by simp, by simp [hsa, hna], ?_⟩
     rw [hna]
     refine .some le (by simp; omega) (fun q hq => ?_) (by simp) (fun q hq hq' => ?_) (by simp)
     ·have : q ≠ t' := by omega
      simp [this, old q hq]
     ·simp [hq, no q hq hq']
   ·have hxt : ¬ x.typ = t := by simpa using hb
    rw [if_neg hxt] at htk
    have hwj : IntKind.i64.wrap ((j : Int) + 1) = (j : Int) + 1 := yy (by omega) (by omega)
    simp -dsimp -implicitDefEqProofs [e7, hwj]
    refine hold ⟨k - 1, by omega, j + 1, p, by omega, by simp, by simp [htk, e6], ?_⟩
    rw [htk]
    exact (hI.bump _).bump _
  ·have hjl : j = s.vars.length := by simp at hb; omega
   subst hjl
   rw [List.take_length] at *
   have hsl : (strs (ofL t s.vars)).length = (ofL t s.vars).length := by simp [strs]
   have hlist : ∀ n : Nat, n < (ofL t s.vars).length → (strs (ofL t s.vars))[n]? = some (.str ((ofL t s.vars)[n]?.getD [])) := fun n hn => by
    simp [strs, hn]
   have hne : (ofL t s.vars).length = 0 ↔ ofL t s.vars = [] := List.length_eq_zero_iff
   simp -dsimp -implicitDefEqProofs [e7, e6]
   have hoI := hI.own hwf ho
   by_cases hem : ofL t s.vars = []
   ·have h0 : ((ofL t s.vars).length : Int) == 0 := by simp [hem]
    have hof : ofM bs t s = (([], false), s) := by simp [ofM, hem]
    rw [hof] at hU ⊢
    simp -dsimp -implicitDefEqProofs [h0]
    exact vy hwf (z8 hoI _) hU (by simp [eraseA, eraseL])
   ·have hpos : 0 < (ofL t s.vars).length := List.length_pos_iff.2 hem
    have h0 : (((ofL t s.vars).length : Int) == 0) = false := by simp; omega
    have hof : ofM bs t s = (((ofL t s.vars)[(nextM bs s).1 % (ofL t s.vars).length]?.getD [], true), (nextM bs s).2) := by simp [ofM, hem]
    have hat2 := hlist _ (Nat.mod_lt (nextM bs s).1 hpos)
    have hrem := yz (nextM bs s).1 (ofL t s.vars).length
    have hidx : (nextM bs s).1 % (ofL t s.vars).length < (ofL t s.vars).length := Nat.mod_lt _ hpos
    have hz0 : ¬ (ofL t s.vars).length = 0 := by omega
    rw [hof] at hU ⊢
    generalize strs (ofL t s.vars) = cs at *
    generalize hn : (ofL t s.vars).length = n at *
    generalize (ofL t s.vars)[(nextM bs s).1 % n]?.getD [] = r at *
    have hxn : (nextM bs s).1 < 256 := yj bs s
    simp -dsimp -implicitDefEqProofs [h0, e0, e6]
    refine zt (hnx (by simp; rw [hI.old o hlt]; exact ho) (fun _ => ws (fun q hq => by have := hI.le; simp; omega) _ hvu)) ?_
    generalize nextM bs s = R at *
    obtain ⟨x, s'⟩ := R
    simp only at *
    generalize x % n = y at *
    simp -dsimp -implicitDefEqProofs [h0, e0, e6, hrem, hz0, hidx, hat2, loadA]
    refine vy hwf (x8 (z8 hoI _) _) hU ?_
    simp [eraseA, eraseL]
end
section
structure Kc (c : Nat) (s s' : MS) : Prop where
 vars : s'.vars = s.vars
 count : s'.count = s.count
 left : s'.left = s.left
 call : s'.call = s.call
 loads : s'.loads = s.loads
 at_ : s'.at_ ≤ s.at_ + c
theorem Kc.refl (c : Nat) (s : MS) : Kc c s s := ⟨rfl, rfl, rfl, rfl, rfl, by omega⟩
theorem Kc.trans {a b c : Nat} {s s1 s2 : MS} (h : Kc a s s1) (k : Kc b s1 s2) (hc : a + b ≤ c) : Kc c s s2 :=
 ⟨k.vars.trans h.vars, k.count.trans h.count, k.left.trans h.left, k.call.trans h.call, k.loads.trans h.loads, by have := h.at_; have := k.at_; omega⟩
theorem Kc.mono {a b : Nat} {s s1 : MS} (h : Kc a s s1) (hc : a ≤ b) : Kc b s s1 := ⟨h.vars, h.count, h.left, h.call, h.loads, by have := h.at_; omega⟩
section
variable {bs : List UInt8}
theorem zi (s : MS) : Kc 1 s (nextM bs s).2 := ⟨rfl, rfl, rfl, rfl, rfl, Nat.le_refl _⟩
theorem ofM_kc (t : Int) (s : MS) : Kc 1 s (ofM bs t s).2 := by
 unfold ofM
 split
 ·exact Kc.refl _ _
 ·exact zi (bs := bs) s
theorem leafM_kc (t : Int) (s : MS) : Kc 2 s (leafM bs t s).2 := (zi s).trans (ofM_kc t _) (by omega)
def EKc (c : Nat) (E : EM) : Prop := ∀ t s, Kc c s (E t s).2
section
variable {c : Nat} {E : EM} (h : EKc c E)
include h
theorem placeM_kc (n : Int) (s : MS) : Kc c s (placeM E n s).2 := h 1 s
theorem loadM_kc (nm : Str) (n : Int) (s : MS) : Kc c s (loadM E nm n s).2 := placeM_kc h n s
theorem binM_kc (op t : Int) (s : MS) : Kc (c + c) s (binM E op t s).2 := (h t s).trans (h t _) (Nat.le_refl _)
theorem unM_kc (op t : Int) (s : MS) : Kc c s (unM E op t s).2 := h t s
theorem integerM_kc (k : Nat) (s : MS) (hc : 1 ≤ c) : Kc (3 * c + 2) s (integerM bs E k s).2 := by
 unfold integerM
 split
 ·exact (binM_kc h _ _ s).mono (by omega)
 split
 ·exact (unM_kc h _ _ s).mono (by omega)
 split
 ·exact (zi s).trans (unM_kc h _ _ _) (by omega)
 split
 ·exact (h 1 s).trans (h 1 _) (by omega)
 split
 ·exact (leafM_kc 1 s).mono (by omega)
 split <;> exact (loadM_kc h _ _ s).mono (by omega)
theorem fixedM_kc (k : Nat) (s : MS) (hc : 1 ≤ c) : Kc (3 * c + 2) s (fixedM bs E k s).2 := by
 unfold fixedM
 split
 ·exact (binM_kc h _ _ s).mono (by omega)
 split
 ·exact (unM_kc h _ _ s).mono (by omega)
 split
 ·exact (zi s).trans (unM_kc h _ _ _) (by omega)
 exact (loadM_kc h _ _ s).mono (by omega)
theorem truthM_kc (k : Nat) (s : MS) (hc : 1 ≤ c) : Kc (3 * c + 2) s (truthM bs E k s).2 := by
 unfold truthM
 split
 ·exact (zi s).trans ((zi _).trans (binM_kc h _ _ _) (Nat.le_refl _)) (by omega)
 split
 ·exact (zi s).trans (binM_kc h _ _ _) (by omega)
 split
 ·exact (unM_kc h _ _ s).mono (by omega)
 exact (loadM_kc h _ _ s).mono (by omega)
theorem nodeM_kc (t : Int) (x : Nat) (s : MS) (hc : 1 ≤ c) : Kc (3 * c + 2) s (nodeM bs E t x s).2 := by
 unfold nodeM
 split
 ·exact (leafM_kc t s).mono (by omega)
 split
 ·exact (h 3 s).trans ((h t _).trans (h t _) (Nat.le_refl _)) (by omega)
 split
 ·exact integerM_kc h _ s hc
 split
 ·exact fixedM_kc h _ s hc
 ·exact truthM_kc h _ s hc
end
def cE : Nat → Nat
 | 0 => 3
 | 1 => 3
 | d + 2 => 3 * cE (d + 1) + 3
theorem cE_pos : ∀ d, 1 ≤ cE d
 | 0 => by simp [cE]
 | 1 => by simp [cE]
 | d + 2 => by simp [cE]
theorem xw : ∀ d, EKc (cE d) (exprM bs d)
 | 0, t, s => (zi s).trans (leafM_kc t _) (by simp [cE])
 | 1, t, s => (zi s).trans (leafM_kc t _) (by simp [cE])
 | d + 2, t, s => (zi s).trans (nodeM_kc (xw (d + 1)) t _ _ (cE_pos _)) (by simp [cE]; omega)
end
end
section
variable {w0 : World} {base : Nat}
structure Mk (bs : List UInt8) (st : St) (o : Nat) (vv : AV) (s : MS) (c : Nat) : Prop where
 obj : st.objs o = some (Mo bs vv s)
 vars : VarsR st vv s.vars
 len : s.vars.length + c ≤ 1000000
 typ : ∀ p ∈ s.vars, p.typ = 1 ∨ p.typ = 2 ∨ p.typ = 3
 cnt : s.count + c ≤ 1000000
 lft : (c : Int) - 1000000 ≤ s.left ∧ s.left ≤ 1000000
 at_ : s.at_ + c < 4611686018427387904
 bs : bs.length ≤ big
 und : st.wf → vv.under (· < st.next)
theorem VarsR.of {st s : St} {bs : List UInt8} {vv : AV} {m : MS} {l : List Pa} {o : Nat} (h : VarsR st vv l) (ho : st.objs o = some (Mo bs vv m)) (hs : ∀ q, q ≠ o → (∃ x, st.objs q = some x) → s.objs q = st.objs q) : VarsR s vv l := by
 rcases h with ⟨p, rfl⟩ | ⟨q, cs, rfl, hq⟩
 ·exact .inl ⟨p, rfl⟩
 ·refine .inr ⟨q, cs, rfl, ?_⟩
  rw [hs q (fun e => by rw [e, ho] at hq; cases hq) ⟨_, hq⟩]; exact hq
theorem Mk.to {bs : List UInt8} {st z : St} {o : Nat} {vv : AV} {s s' : MS} {c c' k : Nat} (h : Mk bs st o vv s c) (hwf : st.wf) (ho : z.objs o = some (Mo bs vv s')) (hz : ∀ q, q < st.next → q ≠ o → z.objs q = st.objs q) (hn : st.next ≤ z.next) (hk : Kc k s s') (hc : k + c' ≤ c) : Mk bs z o vv s' c' :=
 ⟨ho, by rw [hk.vars]; exact h.vars.of h.obj fun q hq ⟨x, hx⟩ => hz q (hwf _ _ hx) hq, by rw [hk.vars]; have := h.len; omega, by rw [hk.vars]; exact h.typ, by rw [hk.count]; have := h.cnt; omega, by rw [hk.left]; have := h.lft; omega, by have := hk.at_; have := h.at_; omega, h.bs, fun _ => ws (fun q hq => Nat.lt_of_lt_of_le hq hn) _ (h.und hwf)⟩
theorem Mk.own {bs : List UInt8} {st z : St} {o : Nat} {vv : AV} {s s' : MS} {c c' k : Nat} (h : Mk bs st o vv s c) (hwf : st.wf) (hO : Own st o (Mo bs vv s') z) (hk : Kc k s s') (hc : k + c' ≤ c) : Mk bs z o vv s' c' :=
 h.to hwf hO.at_ hO.old hO.next hk hc
theorem Mk.U {bs : List UInt8} {st : St} {o : Nat} {vv : AV} {s : MS} {c : Nat} (h : Mk bs st o vv s c) (hwf : st.wf) (s' : MS) : (Mo bs vv s').under (· < st.next) := Mo.under (h.und hwf)
theorem m26 {st : St} {o : Nat} {bs : List UInt8} {vv : AV} {s : MS} (h : Mk bs st o vv s 1) : Det Tryz.prog w0 base 26 [.ptr o 0] st (vi (nextM bs s).1) (st.put o (Mo bs vv (nextM bs s).2)) :=
 d26 h.obj (by have := h.at_; omega) h.bs h.und
theorem m87 {st : St} {o : Nat} {bs : List UInt8} {vv : AV} {s : MS} (h : Mk bs st o vv s 1) (t : Int) : Det Tryz.prog w0 base 87 [.ptr o 0, vi t] st (.tuple [.str (ofM bs t s).1.1, .bool (ofM bs t s).1.2]) (st.put o (Mo bs vv (ofM bs t s).2)) :=
 d87 h.obj h.vars (by have := h.len; omega) (by have := h.at_; omega) h.bs h.und
theorem Ex.take6 (e : Ex) : e.cells.take 6 = e.cells := List.take_of_length_le (by simp)
theorem d58 {st : St} {o : Nat} {bs : List UInt8} {vv : AV} {s : MS} (h : Mk bs st o vv s 2) (t : Int) :
  Det Tryz.prog w0 base 58 [.ptr o 0, vi t] st (.agg (leafM bs t s).1.cells) (st.put o (Mo bs vv (leafM bs t s).2)) := by
 refine wq (zp Tryz.func58 r58) h.obj fun hwf hfit => uh Tryz.func58 r58 rfl ?_
 clear hfit
 have hlt := hwf _ _ h.obj
 have hO := xy hwf h.obj
 have hn0 := zj hwf
 have hn := zf hwf
 have hU := h.U hwf
 have k1 := zi (bs := bs) s
 have k2 := ofM_kc (bs := bs) t (nextM bs s).2
 have hx := yj bs s
 unfold b58 leafM
 simp -dsimp -implicitDefEqProofs [hn0, hn, zz]
 refine zt (m26 (h.own hwf (own_new hO _ (by simp) (by simp)) (Kc.refl 0 s) (by omega))) ?_
 simp -dsimp -implicitDefEqProofs [hn0, hn, zz]
 have hO1 := x8 (z8 (own_new (k := 1) (q := st.next) hO (.cells 31 [.int .i64 0, .int .i64 0, .int .i64 0, .str [], .int .i32 0, .sl [] 0 .full]) (by simp) (by simp)) 11) (Mo bs vv (nextM bs s).2)
 refine zt (m87 (h.own hwf hO1 k1 (by omega)) t) ?_
 generalize nextM bs s = R at *
 obtain ⟨x, s1⟩ := R
 simp only at *
 generalize ofM bs t s1 = Q at *
 obtain ⟨⟨n, has⟩, s2⟩ := Q
 simp only at *
 have w1 : IntKind.i64.wrap (1 + ((x / 4 % 7 : Nat) : Int)) = 1 + ((x / 4 % 7 : Nat) : Int) := yy (by omega) (by omega)
 have r2 : (x : Int).tmod 2 = ((x % 2 : Nat) : Int) := yz x 2
 have r4 : (x : Int).tmod 4 = ((x % 4 : Nat) : Int) := yz x 4
 have r16 : (x : Int).tmod 16 = ((x % 16 : Nat) : Int) := yz x 16
 have q4 : (x : Int).tdiv 4 = ((x / 4 : Nat) : Int) := nat_tdiv x 4
 have r7 : ((x / 4 : Nat) : Int).tmod 7 = ((x / 4 % 7 : Nat) : Int) := yz (x / 4) 7
 have r42 : ((x / 4 : Nat) : Int).tmod 2 = ((x / 4 % 2 : Nat) : Int) := yz (x / 4) 2
 have v1 : IntKind.i32.wrap (((x % 16 : Nat) : Int)) = ((x % 16 : Nat) : Int) := by simp [IntKind.wrap, IntKind.signed, IntKind.bits]; omega
 have v2 : IntKind.i32.wrap (((x % 16 : Nat) : Int) - 4) = ((x % 16 : Nat) : Int) - 4 := by simp [IntKind.wrap, IntKind.signed, IntKind.bits]; omega
 have v3 : IntKind.i32.wrap (x : Int) = (x : Int) := by simp [IntKind.wrap, IntKind.signed, IntKind.bits]; omega
 have v4 : IntKind.i32.wrap ((x : Int) * 16384) = (x : Int) * 16384 := by simp [IntKind.wrap, IntKind.signed, IntKind.bits]; omega
 have v5 : IntKind.i32.wrap ((x : Int) * 16384 - 100000) = (x : Int) * 16384 - 100000 := by simp [IntKind.wrap, IntKind.signed, IntKind.bits]; omega
 have v6 : IntKind.i32.wrap (((x / 4 % 2 : Nat) : Int)) = ((x / 4 % 2 : Nat) : Int) := by simp [IntKind.wrap, IntKind.signed, IntKind.bits]; omega
 have wx : IntKind.i64.wrap ((x / 4 : Nat) : Int) = ((x / 4 : Nat) : Int) := vm (by omega)
 generalize hx2 : x % 2 = x2 at *
 generalize hx4 : x % 4 = x4 at *
 generalize hx16 : x % 16 = x16 at *
 generalize hq4 : x / 4 = y at *
 generalize hy7 : y % 7 = y7 at *
 generalize hy2 : y % 2 = y2 at *
 by_cases hv : has = true ∧ x2 = 0
 ·obtain ⟨rfl, rfl⟩ := hv
  simp -dsimp -implicitDefEqProofs [hn0, hn, zz, hlt, zw, zu, zy, zx, r2, loadA]
  refine hold (yq hwf hlt (fun p hp => by simp [hp, zx, zy]) (hU _) ?_)
  simp [eraseA, eraseL, leafX, hx2, varX, Ex.cells, Ex.cellsL, AV.bare, AV.bareL]
 ·have hlf : leafX x t (n, has) = if t = 1 ∧ x4 = 1 then idX (1 + (y7 : Int)) else if t = 1 then numX t ((x16 : Int) - 4) else if t = 2 then numX t (x * 16384 - 100000) else numX t (y2 : Int) := by
   simp only [leafX, hx2, hx4, hx16, hq4, hy7, hy2]
   rw [if_neg hv]
  rw [hlf]
  clear hlf
  have hb2 : has = true → ((x2 : Int) == 0) = false := fun h => by
   have : ¬ x2 = 0 := fun e => hv ⟨h, e⟩
   simp; omega
  have hb2' : has = true → ((x2 : Int) == 0) = false := hb2
  cases has
  all_goals
   try simp only [reduceCtorEq, false_implies, forall_const] at hb2'
   by_cases h1 : t = 1
   ·subst h1
    have b1 : ((1 : Int) == 1) = true := rfl
    by_cases h4 : x4 = 1
    ·have b4 : ((x4 : Int) == 1) = true := by simp; omega
     rw [if_pos ⟨rfl, h4⟩]
     simp -dsimp -implicitDefEqProofs [hn0, hn, zz, hlt, zw, zu, zy, zx, r2, r4, q4, r7, r42, r16, v1, v2, v3, v4, v5, v6, w1, wx, loadA, b1, b4, hb2']
     refine hold (yq hwf hlt (fun p hp => by simp [hp, zx, zy]) (hU _) ?_)
     simp [eraseA, eraseL, idX, Ex.cells, Ex.cellsL, AV.bare, AV.bareL]
    ·have b4 : ((x4 : Int) == 1) = false := by simp; omega
     rw [if_neg (fun h => h4 h.2), if_pos rfl]
     simp -dsimp -implicitDefEqProofs [hn0, hn, zz, hlt, zw, zu, zy, zx, r2, r4, q4, r7, r42, r16, v1, v2, v3, v4, v5, v6, w1, wx, loadA, b1, b4, hb2']
     refine zt (d86 _ _ _) ?_
     simp -dsimp -implicitDefEqProofs [hn0, hn, zz, hlt, zw, zu, zy, zx, r2, r4, q4, r7, r42, r16, v1, v2, v3, v4, v5, v6, w1, wx, loadA, b1, b4, hb2']
     refine hold (yq hwf hlt (fun p hp => by simp [hp, zx, zy]) (hU _) (by simp [eraseA, Ex.take6, Ex.erase_cells, AV.bare, Ex.bare_cells]))
   ·have b1 : (t == 1) = false := by simpa using h1
    have b4 : True := trivial
    rw [if_neg (fun h => h1 h.1), if_neg h1]
    by_cases h2 : t = 2
    ·subst h2
     rw [if_pos rfl]
     simp -dsimp -implicitDefEqProofs [hn0, hn, zz, hlt, zw, zu, zy, zx, r2, r4, q4, r7, r42, r16, v1, v2, v3, v4, v5, v6, w1, wx, loadA, b1, b4, hb2']
     refine zt (d86 _ _ _) ?_
     simp -dsimp -implicitDefEqProofs [hn0, hn, zz, hlt, zw, zu, zy, zx, r2, r4, q4, r7, r42, r16, v1, v2, v3, v4, v5, v6, w1, wx, loadA, b1, b4, hb2']
     refine hold (yq hwf hlt (fun p hp => by simp [hp, zx, zy]) (hU _) (by simp [eraseA, Ex.take6, Ex.erase_cells, AV.bare, Ex.bare_cells]))
    ·rw [if_neg h2]
     have b4 : (t == 2) = false := by simpa using h2
     simp -dsimp -implicitDefEqProofs [hn0, hn, zz, hlt, zw, zu, zy, zx, r2, r4, q4, r7, r42, r16, v1, v2, v3, v4, v5, v6, w1, wx, loadA, b1, b4, hb2']
     refine zt (d86 _ _ _) ?_
     simp -dsimp -implicitDefEqProofs [hn0, hn, zz, hlt, zw, zu, zy, zx, r2, r4, q4, r7, r42, r16, v1, v2, v3, v4, v5, v6, w1, wx, loadA, b1, b4, hb2']
     refine hold (yq hwf hlt (fun p hp => by simp [hp, zx, zy]) (hU _) (by simp [eraseA, Ex.take6, Ex.erase_cells, AV.bare, Ex.bare_cells]))
end
section
variable {w0 : World} {base : Nat}
def EC (w0 : World) (base : Nat) (bs : List UInt8) (E : EM) (c : Nat) (d : Int) : Prop :=
 ∀ (st : St) (o : Nat) (vv : AV) (s : MS) (t : Int), Mk bs st o vv s c → t = 1 ∨ t = 2 ∨ t = 3 → Det Tryz.prog w0 base 30 [.ptr o 0, vi t, vi d] st (.agg (E t s).1.cells) (st.put o (Mo bs vv (E t s).2))
section
variable {bs : List UInt8} {E : EM} {c : Nat} {d D : Int} {st : St} {o : Nat} {vv : AV} {s : MS}
theorem d56 (hE : EC w0 base bs E c d) (hk : EKc c E) (h : Mk bs st o vv s c) (hD : IntKind.i64.wrap (D - 1) = d) (n : Int) (hn : n = 4 ∨ n = 8) :
  Det Tryz.prog w0 base 56 [.ptr o 0, vi n, vi D] st (.agg (placeM E n s).1.cells) (st.put o (Mo bs vv (placeM E n s).2)) := by
 refine wq (zp Tryz.func56 r56) h.obj fun hwf hfit => uh Tryz.func56 r56 rfl ?_
 clear hfit
 have hlt := hwf _ _ h.obj
 have hn0 := zj hwf
 have hnn := zf hwf
 have hU := h.U hwf
 have w1 : IntKind.i64.wrap (n - 1) = n - 1 := yy (by omega) (by omega)
 have w2 : IntKind.i32.wrap (n - 1) = n - 1 := by rcases hn with rfl | rfl <;> rfl
 clear hn
 unfold b56 placeM
 simp -dsimp -implicitDefEqProofs [hn0, hnn, zz, hD]
 refine zt (hE _ _ _ s _ (h.to hwf (by simp [hlt, zy, h.obj]) (fun q h1 h2 => by simp [h1, h2, zx, zy]) (by simp) (Kc.refl 0 s) (by omega)) (.inl rfl)) ?_
 generalize E 1 s = R at *
 obtain ⟨e, s1⟩ := R
 simp only
 have la := Ex.cells_len e
 simp -dsimp -implicitDefEqProofs [hn0, hnn, zz, w1, w2, hlt, zw, zu]
 refine zt (d86 _ _ _) ?_
 simp -dsimp -implicitDefEqProofs [hn0, hnn, zz, w1, w2, hlt, zw, zu]
 refine zt (d85 _ _ _ _) ?_
 simp -dsimp -implicitDefEqProofs [hn0, hnn, zz, w1, w2, hlt, zw, zu, loadA]
 refine hold (yq hwf hlt (fun p hp => by simp [hp, zx, zy]) (hU _) (by simp [eraseA, Ex.take6, Ex.erase_cells, AV.bare, Ex.bare_cells]))
theorem d89 (hE : EC w0 base bs E c d) (hk : EKc c E) (h : Mk bs st o vv s c) (hD : IntKind.i64.wrap (D - 1) = d) (nm : Str) (n : Int) (hn : n = 4 ∨ n = 8) :
  Det Tryz.prog w0 base 89 [.ptr o 0, .str nm, vi n, vi D] st (.agg (loadM E nm n s).1.cells) (st.put o (Mo bs vv (loadM E nm n s).2)) := by
 refine wq (zp Tryz.func89 r89) h.obj fun hwf hfit => uh Tryz.func89 r89 rfl ?_
 clear hfit
 have hlt := hwf _ _ h.obj
 have hn0 := zj hwf
 have hnn := zf hwf
 have hU := h.U hwf
 unfold b89 loadM
 simp -dsimp -implicitDefEqProofs [hn0, hnn, zz, hD]
 refine zt (d56 hE hk (h.to hwf (by simp [hlt, zy, h.obj]) (fun q h1 h2 => by simp [h1, h2, zx, zy]) (by simp) (Kc.refl 0 s) (by omega)) hD n hn) ?_
 generalize placeM E n s = R at *
 obtain ⟨e, s1⟩ := R
 simp only
 have la := Ex.cells_len e
 have ea := fun n => Ex.erase_cells n e
 have be := Ex.bare_cells e
 have hx : (loadX nm e).cells = [vi 7, vi 0, vi 0, .str nm, .int .i32 0, .sl e.cells 1 .no] := by simp [loadX, Ex.cells, Ex.cellsL]
 rw [hx]
 generalize e.cells = ca at *
 simp -dsimp -implicitDefEqProofs [hn0, hnn, zz, hlt, zw, zu, la, loadA]
 refine hold (yq hwf hlt (fun p hp => by simp [hp, zx, zy]) (hU _) (by simp [eraseA, eraseL, ea, AV.bare, AV.bareL, be]))
end
end
section
variable {w0 : World} {base : Nat}
theorem get_ints (l : List Int) (y : Nat) (h : y < l.length) : (l.map vi)[y]? = some (vi (l[y]?.getD 0)) := by
 rw [List.getElem?_map, List.getElem?_eq_getElem h]; rfl
theorem get_strs (l : List Str) (y : Nat) (h : y < l.length) : (l.map AV.str)[y]? = some (.str (l[y]?.getD [])) := by
 rw [List.getElem?_map, List.getElem?_eq_getElem h]; rfl
theorem vx (l : List Int) (y : Nat) (h : y < (l.map vi).length) : (l.map vi)[y]'h = vi (l[y]?.getD 0) := by
 have h' : y < l.length := by simpa using h
 have := get_ints l y h'
 rw [List.getElem?_eq_getElem h] at this
 exact Option.some.inj this
theorem get_str (l : List Str) (y : Nat) (h : y < (l.map AV.str).length) : (l.map AV.str)[y]'h = AV.str (l[y]?.getD []) := by
 have h' : y < l.length := by simpa using h
 have := get_strs l y h'
 rw [List.getElem?_eq_getElem h] at this
 exact Option.some.inj this
section
variable {bs : List UInt8} {E : EM} {c : Nat} {d D : Int} {st : St} {o : Nat} {vv : AV} {s : MS}
theorem d59 (hE : EC w0 base bs E c d) (hk : EKc c E) (h : Mk bs st o vv s (3 * c + 2)) (hc : 1 ≤ c) (hD : IntKind.i64.wrap (D - 1) = d) (k : Nat) :
  Det Tryz.prog w0 base 59 [.ptr o 0, vi k, vi D] st (.agg (integerM bs E k s).1.cells) (st.put o (Mo bs vv (integerM bs E k s).2)) := by
 refine wq (zp Tryz.func59 r59) h.obj fun hwf hfit => uh Tryz.func59 r59 rfl ?_
 clear hfit
 have hlt := hwf _ _ h.obj
 have hn0 := zj hwf
 have hnn := zf hwf
 have hU := h.U hwf
 have e18 : (k : Int).tmod 18 = ((k % 18 : Nat) : Int) := yz k 18
 have e3 : (k : Int).tmod 3 = ((k % 3 : Nat) : Int) := yz k 3
 have e2 : (k : Int).tmod 2 = ((k % 2 : Nat) : Int) := yz k 2
 have hg12 : ∀ y, ∀ h, ([vi 10, vi 11, vi 12, vi 13, vi 14, vi 17, vi 18, vi 19, vi 20, vi 21, vi 22, vi 23] : List AV)[y]'h = (vi (opsI[y]?.getD 0)) := fun y hy => vx opsI y hy
 have hg3 : ∀ y, ∀ h, ([vi 1, vi 2, vi 3] : List AV)[y]'h = (vi (([1, 2, 3] : List Int)[y]?.getD 0)) := fun y hy => vx [1, 2, 3] y hy
 have hg2 : ∀ y, ∀ h, ([.str [97], .str [115]] : List AV)[y]'h = (AV.str (([[97], [115]] : List Str)[y]?.getD [])) := fun y hy => get_str [[97], [115]] y hy
 unfold integerM
 have y18 : k % 18 < 18 := Nat.mod_lt _ (by omega)
 have y2 : k % 2 < 2 := Nat.mod_lt _ (by omega)
 generalize k % 18 = y at *
 generalize k % 3 = z at *
 generalize k % 2 = v at *
 unfold b59
 simp -dsimp -implicitDefEqProofs [hn0, hnn, zz, hlt, zy, zx, zw, zu, loadA, oblR, oblQ, oblE, hD, e18]
 refine Br_iff (fun hb => ?_) (fun hb => ?_)
 ·have hy : y < 12 := by simp at hb; omega
  have hyi : (y : Int) < 12 := by omega
  have hgy := hg12 y
  rw [if_pos hy]
  unfold binM
  generalize opsI[y]?.getD 0 = op at *
  simp -dsimp -implicitDefEqProofs [hn0, hnn, zz, hlt, zy, zx, zw, zu, loadA, oblR, oblQ, oblE, hD, e18, hy, hyi, hgy]
  refine zt (hE _ _ _ s 1 (h.to hwf (by simp [hlt, zy, zw, zu, h.obj]) (fun q h1 h2 => by simp [h1, h2, zx, zy]) (by simp) (Kc.refl 0 s) (by omega)) (.inl rfl)) ?_
  have k1 := hk 1 s
  generalize E 1 s = R1 at *
  obtain ⟨e1, s1⟩ := R1
  simp only at k1 ⊢
  have l1 := Ex.cells_len e1
  simp -dsimp -implicitDefEqProofs [hn0, hnn, zz, hlt, zy, zx, zw, zu, loadA, oblR, oblQ, oblE, hD, e18, l1]
  refine zt (hE _ _ _ s1 1 (h.to hwf (by simp [hlt, zy, zw, zu, h.obj]) (fun q h1 h2 => by simp [h1, h2, zx, zy]) (by simp) k1 (by omega)) (.inl rfl)) ?_
  have k2 := hk 1 s1
  generalize E 1 s1 = R2 at *
  obtain ⟨e2, s2⟩ := R2
  simp only at k2 ⊢
  have l2 := Ex.cells_len e2
  simp -dsimp -implicitDefEqProofs [hn0, hnn, zz, hlt, zy, zx, zw, zu, loadA, oblR, oblQ, oblE, hD, e18, l1, l2]
  refine zt (d85 _ _ _ _) ?_
  simp -dsimp -implicitDefEqProofs [hn0, hnn, zz, hlt, zy, zx, zw, zu, loadA, oblR, oblQ, oblE, hD, e18, l1]
  refine hold (yq hwf hlt (fun p hp => by simp [hp, zx, zy]) (hU _) (by simp [eraseA, Ex.take6, Ex.erase_cells, AV.bare, Ex.bare_cells]))
 have hy12 : ¬ y < 12 := by simp at hb; omega
 rw [if_neg hy12]
 simp -dsimp -implicitDefEqProofs [hn0, hnn, zz, hlt, zy, zx, zw, zu, loadA, oblR, oblQ, oblE, hD, e18]
 refine Br_iff (fun hb => ?_) (fun hb => ?_)
 ·have hy : y = 12 := by simp at hb; omega
  rw [if_pos hy]
  unfold unM
  simp -dsimp -implicitDefEqProofs [hn0, hnn, zz, hlt, zy, zx, zw, zu, loadA, oblR, oblQ, oblE, hD, e18]
  refine zt (hE _ _ _ s 2 (h.to hwf (by simp [hlt, zy, zw, zu, h.obj]) (fun q h1 h2 => by simp [h1, h2, zx, zy]) (by simp) (Kc.refl 0 s) (by omega)) (.inr (.inl rfl))) ?_
  have k1 := hk 2 s
  generalize E 2 s = R1 at *
  obtain ⟨e1, s1⟩ := R1
  simp only at k1 ⊢
  have l1 := Ex.cells_len e1
  simp -dsimp -implicitDefEqProofs [hn0, hnn, zz, hlt, zy, zx, zw, zu, loadA, oblR, oblQ, oblE, hD, e18, l1]
  refine zt (d88 _ _ _) ?_
  simp -dsimp -implicitDefEqProofs [hn0, hnn, zz, hlt, zy, zx, zw, zu, loadA, oblR, oblQ, oblE, hD, e18, l1]
  refine hold (yq hwf hlt (fun p hp => by simp [hp, zx, zy]) (hU _) (by simp [eraseA, Ex.take6, Ex.erase_cells, AV.bare, Ex.bare_cells]))
 have hy13 : ¬ y = 12 := by simp at hb; omega
 rw [if_neg hy13]
 simp -dsimp -implicitDefEqProofs [hn0, hnn, zz, hlt, zy, zx, zw, zu, loadA, oblR, oblQ, oblE, hD, e18]
 refine Br_iff (fun hb => ?_) (fun hb => ?_)
 ·have hy : y = 13 := by simp at hb; omega
  rw [if_pos hy]
  unfold unM
  simp -dsimp -implicitDefEqProofs [hn0, hnn, zz, hlt, zy, zx, zw, zu, loadA, oblR, oblQ, oblE, hD, e18]
  refine zt (m26 (h.to hwf (by simp [hlt, zy, zw, zu, h.obj]) (fun q h1 h2 => by simp [h1, h2, zx, zy]) (by simp) (Kc.refl 0 s) (by omega))) ?_
  have kx := zi (bs := bs) s
  have hx := yj bs s
  generalize nextM bs s = Rx at *
  obtain ⟨x, sx⟩ := Rx
  simp only at kx hx ⊢
  have e3x : (x : Int).tmod 3 = ((x % 3 : Nat) : Int) := yz x 3
  have y3 : x % 3 < 3 := Nat.mod_lt _ (by omega)
  generalize x % 3 = u at *
  have hyi : (u : Int) < 3 := by omega
  have hgy := hg3 u
  generalize ([1, 2, 3] : List Int)[u]?.getD 0 = op at *
  simp -dsimp -implicitDefEqProofs [hn0, hnn, zz, hlt, zy, zx, zw, zu, loadA, oblR, oblQ, oblE, hD, e3x, y3, hyi, hgy]
  refine zt (hE _ _ _ sx 1 (h.to hwf (by simp [hlt, zy, zw, zu, h.obj]) (fun q h1 h2 => by simp [h1, h2, zx, zy]) (by simp) kx (by omega)) (.inl rfl)) ?_
  have k1 := hk 1 sx
  generalize E 1 sx = R1 at *
  obtain ⟨e1, s1⟩ := R1
  simp only at k1 ⊢
  have l1 := Ex.cells_len e1
  simp -dsimp -implicitDefEqProofs [hn0, hnn, zz, hlt, zy, zx, zw, zu, loadA, oblR, oblQ, oblE, hD, e18, l1, hgy]
  refine zt (d88 _ _ _) ?_
  simp -dsimp -implicitDefEqProofs [hn0, hnn, zz, hlt, zy, zx, zw, zu, loadA, oblR, oblQ, oblE, hD, e18, l1, hgy]
  refine hold (yq hwf hlt (fun p hp => by simp [hp, zx, zy]) (hU _) (by simp [eraseA, Ex.take6, Ex.erase_cells, AV.bare, Ex.bare_cells]))
 have hy14 : ¬ y = 13 := by simp at hb; omega
 rw [if_neg hy14]
 have ho := h.obj
 rw [Mo_def] at ho
 by_cases h14 : y = 14 ∧ s.call = true
 ·have by14 : ((y : Int) == 14) = true := by simp; omega
  have bc := h14.2
  rw [if_pos h14]
  simp -dsimp -implicitDefEqProofs [hn0, hnn, zz, hlt, zy, zx, zw, zu, loadA, oblR, oblQ, oblE, hD, e18, ho, by14, bc]
  refine zt (hE _ _ _ s 1 (h.to hwf (by simp [hlt, zy, zw, zu, h.obj]) (fun q h1 h2 => by simp [h1, h2, zx, zy]) (by simp) (Kc.refl 0 s) (by omega)) (.inl rfl)) ?_
  have k1 := hk 1 s
  generalize E 1 s = R1 at *
  obtain ⟨e1, s1⟩ := R1
  simp only at k1 ⊢
  have l1 := Ex.cells_len e1
  simp -dsimp -implicitDefEqProofs [hn0, hnn, zz, hlt, zy, zx, zw, zu, loadA, oblR, oblQ, oblE, hD, l1]
  refine zt (hE _ _ _ s1 1 (h.to hwf (by simp [hlt, zy, zw, zu, h.obj]) (fun q h1 h2 => by simp [h1, h2, zx, zy]) (by simp) k1 (by omega)) (.inl rfl)) ?_
  have k2 := hk 1 s1
  generalize E 1 s1 = R2 at *
  obtain ⟨e2, s2⟩ := R2
  simp only at k2 ⊢
  have l2 := Ex.cells_len e2
  have hx : (callX [104] [e1, e2]).cells = [vi 8, vi 0, vi 0, .str [104], .int .i32 0, .sl (e1.cells ++ e2.cells) 2 .no] := by simp [callX, Ex.cells, Ex.cellsL]
  rw [hx]
  have x1 := fun n => Ex.erase_cells n e1
  have x2 := fun n => Ex.erase_cells n e2
  have z1 := Ex.bare_cells e1
  have z2 := Ex.bare_cells e2
  generalize e1.cells = c1 at *
  generalize e2.cells = c2 at *
  simp -dsimp -implicitDefEqProofs [hn0, hnn, zz, hlt, zy, zx, zw, zu, loadA, oblR, oblQ, oblE, hD, l1, l2]
  refine hold (yq hwf hlt (fun p hp => by simp [hp, zx, zy]) (hU _) (by simp [eraseA, eraseL, ym, x1, x2, AV.bare, AV.bareL, zm, z1, z2]))
 rw [if_neg h14]
 by_cases hy14' : y = 14
 ·have by14 : ((y : Int) == 14) = true := by simp; omega
  have bc : s.call = false := by cases hcc : s.call with
   | false => rfl
   | true => exact absurd ⟨hy14', hcc⟩ h14
  simp -dsimp -implicitDefEqProofs [hn0, hnn, zz, hlt, zy, zx, zw, zu, loadA, oblR, oblQ, oblE, hD, e18, ho, by14, bc]
  cases hl : s.loads
  ·rw [if_pos rfl]
   simp -dsimp -implicitDefEqProofs [hn0, hnn, zz, hlt, zy, zx, zw, zu, loadA, oblR, oblQ, oblE, hD, ho, hl]
   refine zt (d58 (h.to hwf (by simp [hlt, zy, zw, zu, h.obj]) (fun q h1 h2 => by simp [h1, h2, zx, zy]) (by simp) (Kc.refl 0 s) (by omega)) 1) ?_
   generalize leafM bs 1 s = R1 at *
   obtain ⟨e1, s1⟩ := R1
   simp only
   have l1 := Ex.cells_len e1
   simp -dsimp -implicitDefEqProofs [hn0, hnn, zz, hlt, zy, zx, zw, zu, loadA, oblR, oblQ, oblE, hD, l1]
   refine hold (yq hwf hlt (fun p hp => by simp [hp, zx, zy]) (hU _) (by simp [eraseA, Ex.take6, Ex.erase_cells, AV.bare, Ex.bare_cells]))
  ·rw [if_neg (by simp)]
   by_cases hz : z = 0
   ·have bz : ((z : Int) == 0) = true := by simp; omega
    rw [if_pos hz]
    simp -dsimp -implicitDefEqProofs [hn0, hnn, zz, hlt, zy, zx, zw, zu, loadA, oblR, oblQ, oblE, hD, ho, hl, e3, bz]
    refine zt (d89 hE hk (h.to hwf (by simp [hlt, zy, zw, zu, h.obj]) (fun q h1 h2 => by simp [h1, h2, zx, zy]) (by simp) (Kc.refl 0 s) (by omega)) hD [112] 4 (.inl rfl)) ?_
    generalize loadM E [112] 4 s = R1 at *
    obtain ⟨e1, s1⟩ := R1
    simp only
    have l1 := Ex.cells_len e1
    simp -dsimp -implicitDefEqProofs [hn0, hnn, zz, hlt, zy, zx, zw, zu, loadA, oblR, oblQ, oblE, hD, l1]
    refine hold (yq hwf hlt (fun p hp => by simp [hp, zx, zy]) (hU _) (by simp [eraseA, Ex.take6, Ex.erase_cells, AV.bare, Ex.bare_cells]))
   ·have bz : ((z : Int) == 0) = false := by simp; omega
    have hvi : (v : Int) < 2 := by omega
    have hgy := hg2 v
    rw [if_neg hz]
    generalize ([[97], [115]] : List Str)[v]?.getD [] = nm at *
    simp -dsimp -implicitDefEqProofs [hn0, hnn, zz, hlt, zy, zx, zw, zu, loadA, oblR, oblQ, oblE, hD, ho, hl, e3, bz, e2, hvi, y2, hgy]
    refine zt (d89 hE hk (h.to hwf (by simp [hlt, zy, zw, zu, h.obj]) (fun q h1 h2 => by simp [h1, h2, zx, zy]) (by simp) (Kc.refl 0 s) (by omega)) hD nm 8 (.inr rfl)) ?_
    generalize loadM E nm 8 s = R1 at *
    obtain ⟨e1, s1⟩ := R1
    simp only
    have l1 := Ex.cells_len e1
    simp -dsimp -implicitDefEqProofs [hn0, hnn, zz, hlt, zy, zx, zw, zu, loadA, oblR, oblQ, oblE, hD, l1]
    refine hold (yq hwf hlt (fun p hp => by simp [hp, zx, zy]) (hU _) (by simp [eraseA, Ex.take6, Ex.erase_cells, AV.bare, Ex.bare_cells]))
 ·have by14 : ((y : Int) == 14) = false := by simp; omega
  have bc : True := trivial
  simp -dsimp -implicitDefEqProofs [hn0, hnn, zz, hlt, zy, zx, zw, zu, loadA, oblR, oblQ, oblE, hD, e18, ho, by14, bc]
  cases hl : s.loads
  ·rw [if_pos rfl]
   simp -dsimp -implicitDefEqProofs [hn0, hnn, zz, hlt, zy, zx, zw, zu, loadA, oblR, oblQ, oblE, hD, ho, hl]
   refine zt (d58 (h.to hwf (by simp [hlt, zy, zw, zu, h.obj]) (fun q h1 h2 => by simp [h1, h2, zx, zy]) (by simp) (Kc.refl 0 s) (by omega)) 1) ?_
   generalize leafM bs 1 s = R1 at *
   obtain ⟨e1, s1⟩ := R1
   simp only
   have l1 := Ex.cells_len e1
   simp -dsimp -implicitDefEqProofs [hn0, hnn, zz, hlt, zy, zx, zw, zu, loadA, oblR, oblQ, oblE, hD, l1]
   refine hold (yq hwf hlt (fun p hp => by simp [hp, zx, zy]) (hU _) (by simp [eraseA, Ex.take6, Ex.erase_cells, AV.bare, Ex.bare_cells]))
  ·rw [if_neg (by simp)]
   by_cases hz : z = 0
   ·have bz : ((z : Int) == 0) = true := by simp; omega
    rw [if_pos hz]
    simp -dsimp -implicitDefEqProofs [hn0, hnn, zz, hlt, zy, zx, zw, zu, loadA, oblR, oblQ, oblE, hD, ho, hl, e3, bz]
    refine zt (d89 hE hk (h.to hwf (by simp [hlt, zy, zw, zu, h.obj]) (fun q h1 h2 => by simp [h1, h2, zx, zy]) (by simp) (Kc.refl 0 s) (by omega)) hD [112] 4 (.inl rfl)) ?_
    generalize loadM E [112] 4 s = R1 at *
    obtain ⟨e1, s1⟩ := R1
    simp only
    have l1 := Ex.cells_len e1
    simp -dsimp -implicitDefEqProofs [hn0, hnn, zz, hlt, zy, zx, zw, zu, loadA, oblR, oblQ, oblE, hD, l1]
    refine hold (yq hwf hlt (fun p hp => by simp [hp, zx, zy]) (hU _) (by simp [eraseA, Ex.take6, Ex.erase_cells, AV.bare, Ex.bare_cells]))
   ·have bz : ((z : Int) == 0) = false := by simp; omega
    have hvi : (v : Int) < 2 := by omega
    have hgy := hg2 v
    rw [if_neg hz]
    generalize ([[97], [115]] : List Str)[v]?.getD [] = nm at *
    simp -dsimp -implicitDefEqProofs [hn0, hnn, zz, hlt, zy, zx, zw, zu, loadA, oblR, oblQ, oblE, hD, ho, hl, e3, bz, e2, hvi, y2, hgy]
    refine zt (d89 hE hk (h.to hwf (by simp [hlt, zy, zw, zu, h.obj]) (fun q h1 h2 => by simp [h1, h2, zx, zy]) (by simp) (Kc.refl 0 s) (by omega)) hD nm 8 (.inr rfl)) ?_
    generalize loadM E nm 8 s = R1 at *
    obtain ⟨e1, s1⟩ := R1
    simp only
    have l1 := Ex.cells_len e1
    simp -dsimp -implicitDefEqProofs [hn0, hnn, zz, hlt, zy, zx, zw, zu, loadA, oblR, oblQ, oblE, hD, l1]
    refine hold (yq hwf hlt (fun p hp => by simp [hp, zx, zy]) (hU _) (by simp [eraseA, Ex.take6, Ex.erase_cells, AV.bare, Ex.bare_cells]))
theorem d60 (hE : EC w0 base bs E c d) (hk : EKc c E) (h : Mk bs st o vv s (3 * c + 2)) (hc : 1 ≤ c) (hD : IntKind.i64.wrap (D - 1) = d) (k : Nat) :
  Det Tryz.prog w0 base 60 [.ptr o 0, vi k, vi D] st (.agg (fixedM bs E k s).1.cells) (st.put o (Mo bs vv (fixedM bs E k s).2)) := by
 refine wq (zp Tryz.func60 r60) h.obj fun hwf hfit => uh Tryz.func60 r60 rfl ?_
 clear hfit
 have hlt := hwf _ _ h.obj
 have hn0 := zj hwf
 have hnn := zf hwf
 have hU := h.U hwf
 have e9 : (k : Int).tmod 9 = ((k % 9 : Nat) : Int) := yz k 9
 have hg6 : ∀ y, ∀ h, ([vi 10, vi 11, vi 15, vi 16, vi 22, vi 23] : List AV)[y]'h = (vi (opsF[y]?.getD 0)) := fun y hy => vx opsF y hy
 have hg2 : ∀ y, ∀ h, ([vi 1, vi 3] : List AV)[y]'h = (vi (([1, 3] : List Int)[y]?.getD 0)) := fun y hy => vx [1, 3] y hy
 have ho := h.obj
 rw [Mo_def] at ho
 unfold fixedM
 have y9 : k % 9 < 9 := Nat.mod_lt _ (by omega)
 generalize k % 9 = y at *
 unfold b60
 simp -dsimp -implicitDefEqProofs [hn0, hnn, zz, hlt, zy, zx, zw, zu, loadA, oblR, oblQ, oblE, hD, e9]
 refine Br_iff (fun hb => ?_) (fun hb => ?_)
 ·have hy : y < 6 := by simp at hb; omega
  have hyi : (y : Int) < 6 := by omega
  have hgy := hg6 y
  rw [if_pos hy]
  unfold binM
  generalize opsF[y]?.getD 0 = op at *
  simp -dsimp -implicitDefEqProofs [hn0, hnn, zz, hlt, zy, zx, zw, zu, loadA, oblR, oblQ, oblE, hD, e9, hy, hyi, hgy]
  refine zt (hE _ _ _ s 2 (h.to hwf (by simp [hlt, zy, zw, zu, h.obj]) (fun q h1 h2 => by simp [h1, h2, zx, zy]) (by simp) (Kc.refl 0 s) (by omega)) (.inr (.inl rfl))) ?_
  have k1 := hk 2 s
  generalize E 2 s = R1 at *
  obtain ⟨e1, s1⟩ := R1
  simp only at k1 ⊢
  have l1 := Ex.cells_len e1
  simp -dsimp -implicitDefEqProofs [hn0, hnn, zz, hlt, zy, zx, zw, zu, loadA, oblR, oblQ, oblE, hD, e9, l1, hy, hyi, hgy]
  refine zt (hE _ _ _ s1 2 (h.to hwf (by simp [hlt, zy, zw, zu, h.obj]) (fun q h1 h2 => by simp [h1, h2, zx, zy]) (by simp) k1 (by omega)) (.inr (.inl rfl))) ?_
  have k2 := hk 2 s1
  generalize E 2 s1 = R2 at *
  obtain ⟨e2, s2⟩ := R2
  simp only at k2 ⊢
  have l2 := Ex.cells_len e2
  simp -dsimp -implicitDefEqProofs [hn0, hnn, zz, hlt, zy, zx, zw, zu, loadA, oblR, oblQ, oblE, hD, e9, l1, l2, hy, hyi, hgy]
  refine zt (d85 _ _ _ _) ?_
  simp -dsimp -implicitDefEqProofs [hn0, hnn, zz, hlt, zy, zx, zw, zu, loadA, oblR, oblQ, oblE, hD, e9, l1, hy, hyi, hgy]
  refine hold (yq hwf hlt (fun p hp => by simp [hp, zx, zy]) (hU _) (by simp [eraseA, Ex.take6, Ex.erase_cells, AV.bare, Ex.bare_cells]))
 have hy6 : ¬ y < 6 := by simp at hb; omega
 rw [if_neg hy6]
 simp -dsimp -implicitDefEqProofs [hn0, hnn, zz, hlt, zy, zx, zw, zu, loadA, oblR, oblQ, oblE, hD, e9]
 refine Br_iff (fun hb => ?_) (fun hb => ?_)
 ·have hy : y = 6 := by simp at hb; omega
  rw [if_pos hy]
  unfold unM
  simp -dsimp -implicitDefEqProofs [hn0, hnn, zz, hlt, zy, zx, zw, zu, loadA, oblR, oblQ, oblE, hD, e9]
  refine zt (hE _ _ _ s 1 (h.to hwf (by simp [hlt, zy, zw, zu, h.obj]) (fun q h1 h2 => by simp [h1, h2, zx, zy]) (by simp) (Kc.refl 0 s) (by omega)) (.inl rfl)) ?_
  have k1 := hk 1 s
  generalize E 1 s = R1 at *
  obtain ⟨e1, s1⟩ := R1
  simp only at k1 ⊢
  have l1 := Ex.cells_len e1
  simp -dsimp -implicitDefEqProofs [hn0, hnn, zz, hlt, zy, zx, zw, zu, loadA, oblR, oblQ, oblE, hD, e9, l1]
  refine zt (d88 _ _ _) ?_
  simp -dsimp -implicitDefEqProofs [hn0, hnn, zz, hlt, zy, zx, zw, zu, loadA, oblR, oblQ, oblE, hD, e9, l1]
  refine hold (yq hwf hlt (fun p hp => by simp [hp, zx, zy]) (hU _) (by simp [eraseA, Ex.take6, Ex.erase_cells, AV.bare, Ex.bare_cells]))
 have hy7 : ¬ y = 6 := by simp at hb; omega
 rw [if_neg hy7]
 by_cases h7 : y = 7
 ·have by7 : ((y : Int) == 7) = true := by simp; omega
  have bl : True := trivial
  rw [if_pos (.inl h7)]
  unfold unM
  simp -dsimp -implicitDefEqProofs [hn0, hnn, zz, hlt, zy, zx, zw, zu, loadA, oblR, oblQ, oblE, hD, e9, ho, by7, bl]
  refine zt (m26 (h.to hwf (by simp [hlt, zy, zw, zu, h.obj]) (fun q h1 h2 => by simp [h1, h2, zx, zy]) (by simp) (Kc.refl 0 s) (by omega))) ?_
  have kx := zi (bs := bs) s
  have hx := yj bs s
  generalize nextM bs s = Rx at *
  obtain ⟨x, sx⟩ := Rx
  simp only at kx hx ⊢
  have e2x : (x : Int).tmod 2 = ((x % 2 : Nat) : Int) := yz x 2
  have y3 : x % 2 < 2 := Nat.mod_lt _ (by omega)
  generalize x % 2 = u at *
  have hyi : (u : Int) < 2 := by omega
  have hgy := hg2 u
  generalize ([1, 3] : List Int)[u]?.getD 0 = op at *
  simp -dsimp -implicitDefEqProofs [hn0, hnn, zz, hlt, zy, zx, zw, zu, loadA, oblR, oblQ, oblE, hD, e2x, y3, hyi, hgy]
  refine zt (hE _ _ _ sx 2 (h.to hwf (by simp [hlt, zy, zw, zu, h.obj]) (fun q h1 h2 => by simp [h1, h2, zx, zy]) (by simp) kx (by omega)) (.inr (.inl rfl))) ?_
  have k1 := hk 2 sx
  generalize E 2 sx = R1 at *
  obtain ⟨e1, s1⟩ := R1
  simp only at k1 ⊢
  have l1 := Ex.cells_len e1
  simp -dsimp -implicitDefEqProofs [hn0, hnn, zz, hlt, zy, zx, zw, zu, loadA, oblR, oblQ, oblE, hD, l1, hgy]
  refine zt (d88 _ _ _) ?_
  simp -dsimp -implicitDefEqProofs [hn0, hnn, zz, hlt, zy, zx, zw, zu, loadA, oblR, oblQ, oblE, hD, l1, hgy]
  refine hold (yq hwf hlt (fun p hp => by simp [hp, zx, zy]) (hU _) (by simp [eraseA, Ex.take6, Ex.erase_cells, AV.bare, Ex.bare_cells]))
 have by7 : ((y : Int) == 7) = false := by simp; omega
 cases bl : s.loads
 ·rw [if_pos (.inr rfl)]
  unfold unM
  simp -dsimp -implicitDefEqProofs [hn0, hnn, zz, hlt, zy, zx, zw, zu, loadA, oblR, oblQ, oblE, hD, e9, ho, by7, bl]
  refine zt (m26 (h.to hwf (by simp [hlt, zy, zw, zu, h.obj]) (fun q h1 h2 => by simp [h1, h2, zx, zy]) (by simp) (Kc.refl 0 s) (by omega))) ?_
  have kx := zi (bs := bs) s
  have hx := yj bs s
  generalize nextM bs s = Rx at *
  obtain ⟨x, sx⟩ := Rx
  simp only at kx hx ⊢
  have e2x : (x : Int).tmod 2 = ((x % 2 : Nat) : Int) := yz x 2
  have y3 : x % 2 < 2 := Nat.mod_lt _ (by omega)
  generalize x % 2 = u at *
  have hyi : (u : Int) < 2 := by omega
  have hgy := hg2 u
  generalize ([1, 3] : List Int)[u]?.getD 0 = op at *
  simp -dsimp -implicitDefEqProofs [hn0, hnn, zz, hlt, zy, zx, zw, zu, loadA, oblR, oblQ, oblE, hD, e2x, y3, hyi, hgy]
  refine zt (hE _ _ _ sx 2 (h.to hwf (by simp [hlt, zy, zw, zu, h.obj]) (fun q h1 h2 => by simp [h1, h2, zx, zy]) (by simp) kx (by omega)) (.inr (.inl rfl))) ?_
  have k1 := hk 2 sx
  generalize E 2 sx = R1 at *
  obtain ⟨e1, s1⟩ := R1
  simp only at k1 ⊢
  have l1 := Ex.cells_len e1
  simp -dsimp -implicitDefEqProofs [hn0, hnn, zz, hlt, zy, zx, zw, zu, loadA, oblR, oblQ, oblE, hD, l1, hgy]
  refine zt (d88 _ _ _) ?_
  simp -dsimp -implicitDefEqProofs [hn0, hnn, zz, hlt, zy, zx, zw, zu, loadA, oblR, oblQ, oblE, hD, l1, hgy]
  refine hold (yq hwf hlt (fun p hp => by simp [hp, zx, zy]) (hU _) (by simp [eraseA, Ex.take6, Ex.erase_cells, AV.bare, Ex.bare_cells]))
 ·rw [if_neg (by simp [h7])]
  simp -dsimp -implicitDefEqProofs [hn0, hnn, zz, hlt, zy, zx, zw, zu, loadA, oblR, oblQ, oblE, hD, e9, ho, by7, bl]
  refine zt (d89 hE hk (h.to hwf (by simp [hlt, zy, zw, zu, h.obj]) (fun q h1 h2 => by simp [h1, h2, zx, zy]) (by simp) (Kc.refl 0 s) (by omega)) hD [102] 4 (.inl rfl)) ?_
  generalize loadM E [102] 4 s = R1 at *
  obtain ⟨e1, s1⟩ := R1
  simp only
  have l1 := Ex.cells_len e1
  simp -dsimp -implicitDefEqProofs [hn0, hnn, zz, hlt, zy, zx, zw, zu, loadA, oblR, oblQ, oblE, hD, l1]
  refine hold (yq hwf hlt (fun p hp => by simp [hp, zx, zy]) (hU _) (by simp [eraseA, Ex.take6, Ex.erase_cells, AV.bare, Ex.bare_cells]))
end
end
section
variable {w0 : World} {base : Nat}
section
variable {bs : List UInt8} {E : EM} {c : Nat} {d D : Int} {st : St} {o : Nat} {vv : AV} {s : MS}
theorem d61 (hE : EC w0 base bs E c d) (hk : EKc c E) (h : Mk bs st o vv s (3 * c + 2)) (hc : 1 ≤ c) (hD : IntKind.i64.wrap (D - 1) = d) (k : Nat) :
  Det Tryz.prog w0 base 61 [.ptr o 0, vi k, vi D] st (.agg (truthM bs E k s).1.cells) (st.put o (Mo bs vv (truthM bs E k s).2)) := by
 refine wq (zp Tryz.func61 r61) h.obj fun hwf hfit => uh Tryz.func61 r61 rfl ?_
 clear hfit
 have hlt := hwf _ _ h.obj
 have hn0 := zj hwf
 have hnn := zf hwf
 have hU := h.U hwf
 have e9 : (k : Int).tmod 9 = ((k % 9 : Nat) : Int) := yz k 9
 have hg6 : ∀ y, ∀ h, ([vi 24, vi 25, vi 26, vi 27, vi 28, vi 29] : List AV)[y]'h = (vi (([24, 25, 26, 27, 28, 29] : List Int)[y]?.getD 0)) := fun y hy => vx [24, 25, 26, 27, 28, 29] y hy
 have hg5 : ∀ y, ∀ h, ([vi 17, vi 18, vi 19, vi 24, vi 25] : List AV)[y]'h = (vi (([17, 18, 19, 24, 25] : List Int)[y]?.getD 0)) := fun y hy => vx [17, 18, 19, 24, 25] y hy
 have ho := h.obj
 rw [Mo_def] at ho
 unfold truthM
 have y9 : k % 9 < 9 := Nat.mod_lt _ (by omega)
 generalize k % 9 = y at *
 unfold b61
 simp -dsimp -implicitDefEqProofs [hn0, hnn, zz, hlt, zy, zx, zw, zu, loadA, oblR, oblQ, oblE, hD, e9]
 refine Br_iff (fun hb => ?_) (fun hb => ?_)
 ·have hy : y < 4 := by simp at hb; omega
  rw [if_pos hy]
  unfold binM
  simp -dsimp -implicitDefEqProofs [hn0, hnn, zz, hlt, zy, zx, zw, zu, loadA, oblR, oblQ, oblE, hD, e9]
  refine zt (m26 (h.to hwf (by simp [hlt, zy, zw, zu, h.obj]) (fun q h1 h2 => by simp [h1, h2, zx, zy]) (by simp) (Kc.refl 0 s) (by omega))) ?_
  have kx := zi (bs := bs) s
  have hx := yj bs s
  generalize nextM bs s = Rx at *
  obtain ⟨x, sx⟩ := Rx
  simp only at kx hx ⊢
  have e2x : (x : Int).tmod 2 = ((x % 2 : Nat) : Int) := yz x 2
  have y2 : x % 2 < 2 := Nat.mod_lt _ (by omega)
  generalize x % 2 = u at *
  have wu : IntKind.i64.wrap (1 + (u : Int)) = 1 + (u : Int) := yy (by omega) (by omega)
  have ht : 1 + (u : Int) = 1 ∨ 1 + (u : Int) = 2 ∨ 1 + (u : Int) = 3 := by omega
  simp -dsimp -implicitDefEqProofs [hn0, hnn, zz, hlt, zy, zx, zw, zu, loadA, oblR, oblQ, oblE, hD, e9, e2x, wu]
  generalize 1 + (u : Int) = T at *
  refine zt (m26 (h.to hwf (by simp [hlt, zy, zw, zu, h.obj]) (fun q h1 h2 => by simp [h1, h2, zx, zy]) (by simp) kx (by omega))) ?_
  have ky := zi (bs := bs) sx
  have hx1 := yj bs sx
  generalize nextM bs sx = Rx1 at *
  obtain ⟨x1, sy⟩ := Rx1
  simp only at ky hx1 ⊢
  have kxy : Kc 2 s sy := kx.trans ky (by omega)
  have e6x : (x1 : Int).tmod 6 = ((x1 % 6 : Nat) : Int) := yz x1 6
  have y6 : x1 % 6 < 6 := Nat.mod_lt _ (by omega)
  generalize x1 % 6 = v at *
  have hyi : (v : Int) < 6 := by omega
  have hgy := hg6 v
  generalize ([24, 25, 26, 27, 28, 29] : List Int)[v]?.getD 0 = op at *
  simp -dsimp -implicitDefEqProofs [hn0, hnn, zz, hlt, zy, zx, zw, zu, loadA, oblR, oblQ, oblE, hD, e9, e6x, y6, hyi, hgy]
  refine zt (hE _ _ _ sy T (h.to hwf (by simp [hlt, zy, zw, zu, h.obj]) (fun q h1 h2 => by simp [h1, h2, zx, zy]) (by simp) kxy (by omega)) ht) ?_
  have k1 := hk T sy
  generalize E T sy = R1 at *
  obtain ⟨e1, s1⟩ := R1
  simp only at k1 ⊢
  have l1 := Ex.cells_len e1
  simp -dsimp -implicitDefEqProofs [hn0, hnn, zz, hlt, zy, zx, zw, zu, loadA, oblR, oblQ, oblE, hD, l1, hgy, y6, hyi]
  refine zt (hE _ _ _ s1 T (h.to hwf (by simp [hlt, zy, zw, zu, h.obj]) (fun q h1 h2 => by simp [h1, h2, zx, zy]) (by simp) (kxy.trans k1 (Nat.le_refl _)) (by omega)) ht) ?_
  have k2 := hk T s1
  generalize E T s1 = R2 at *
  obtain ⟨e2, s2⟩ := R2
  simp only at k2 ⊢
  have l2 := Ex.cells_len e2
  simp -dsimp -implicitDefEqProofs [hn0, hnn, zz, hlt, zy, zx, zw, zu, loadA, oblR, oblQ, oblE, hD, l1, l2, hgy, y6, hyi]
  refine zt (d85 _ _ _ _) ?_
  simp -dsimp -implicitDefEqProofs [hn0, hnn, zz, hlt, zy, zx, zw, zu, loadA, oblR, oblQ, oblE, hD, l1, hgy, y6, hyi]
  refine hold (yq hwf hlt (fun p hp => by simp [hp, zx, zy]) (hU _) (by simp [eraseA, Ex.take6, Ex.erase_cells, AV.bare, Ex.bare_cells]))
 have hy4 : ¬ y < 4 := by simp at hb; omega
 rw [if_neg hy4]
 simp -dsimp -implicitDefEqProofs [hn0, hnn, zz, hlt, zy, zx, zw, zu, loadA, oblR, oblQ, oblE, hD, e9]
 refine Br_iff (fun hb => ?_) (fun hb => ?_)
 ·have hy : y < 6 := by simp at hb; omega
  rw [if_pos hy]
  unfold binM
  simp -dsimp -implicitDefEqProofs [hn0, hnn, zz, hlt, zy, zx, zw, zu, loadA, oblR, oblQ, oblE, hD, e9]
  refine zt (m26 (h.to hwf (by simp [hlt, zy, zw, zu, h.obj]) (fun q h1 h2 => by simp [h1, h2, zx, zy]) (by simp) (Kc.refl 0 s) (by omega))) ?_
  have kx := zi (bs := bs) s
  have hx := yj bs s
  generalize nextM bs s = Rx at *
  obtain ⟨x, sx⟩ := Rx
  simp only at kx hx ⊢
  have e5x : (x : Int).tmod 5 = ((x % 5 : Nat) : Int) := yz x 5
  have y5 : x % 5 < 5 := Nat.mod_lt _ (by omega)
  generalize x % 5 = v at *
  have hyi : (v : Int) < 5 := by omega
  have hgy := hg5 v
  generalize ([17, 18, 19, 24, 25] : List Int)[v]?.getD 0 = op at *
  simp -dsimp -implicitDefEqProofs [hn0, hnn, zz, hlt, zy, zx, zw, zu, loadA, oblR, oblQ, oblE, hD, e9, e5x, y5, hyi, hgy]
  refine zt (hE _ _ _ sx 3 (h.to hwf (by simp [hlt, zy, zw, zu, h.obj]) (fun q h1 h2 => by simp [h1, h2, zx, zy]) (by simp) kx (by omega)) (.inr (.inr rfl))) ?_
  have k1 := hk 3 sx
  generalize E 3 sx = R1 at *
  obtain ⟨e1, s1⟩ := R1
  simp only at k1 ⊢
  have l1 := Ex.cells_len e1
  simp -dsimp -implicitDefEqProofs [hn0, hnn, zz, hlt, zy, zx, zw, zu, loadA, oblR, oblQ, oblE, hD, l1, hgy, y5, hyi]
  refine zt (hE _ _ _ s1 3 (h.to hwf (by simp [hlt, zy, zw, zu, h.obj]) (fun q h1 h2 => by simp [h1, h2, zx, zy]) (by simp) (kx.trans k1 (Nat.le_refl _)) (by omega)) (.inr (.inr rfl))) ?_
  have k2 := hk 3 s1
  generalize E 3 s1 = R2 at *
  obtain ⟨e2, s2⟩ := R2
  simp only at k2 ⊢
  have l2 := Ex.cells_len e2
  simp -dsimp -implicitDefEqProofs [hn0, hnn, zz, hlt, zy, zx, zw, zu, loadA, oblR, oblQ, oblE, hD, l1, l2, hgy, y5, hyi]
  refine zt (d85 _ _ _ _) ?_
  simp -dsimp -implicitDefEqProofs [hn0, hnn, zz, hlt, zy, zx, zw, zu, loadA, oblR, oblQ, oblE, hD, l1, hgy, y5, hyi]
  refine hold (yq hwf hlt (fun p hp => by simp [hp, zx, zy]) (hU _) (by simp [eraseA, Ex.take6, Ex.erase_cells, AV.bare, Ex.bare_cells]))
 have hy6 : ¬ y < 6 := by simp at hb; omega
 rw [if_neg hy6]
 by_cases h8 : y < 8
 ·have by8 : (y : Int) < 8 := by omega
  have bl : True := trivial
  rw [if_pos (.inl h8)]
  unfold unM
  simp -dsimp -implicitDefEqProofs [hn0, hnn, zz, hlt, zy, zx, zw, zu, loadA, oblR, oblQ, oblE, hD, e9, ho, by8, h8, bl]
  refine zt (hE _ _ _ s 3 (h.to hwf (by simp [hlt, zy, zw, zu, h.obj]) (fun q h1 h2 => by simp [h1, h2, zx, zy]) (by simp) (Kc.refl 0 s) (by omega)) (.inr (.inr rfl))) ?_
  have k1 := hk 3 s
  generalize E 3 s = R1 at *
  obtain ⟨e1, s1⟩ := R1
  simp only at k1 ⊢
  have l1 := Ex.cells_len e1
  simp -dsimp -implicitDefEqProofs [hn0, hnn, zz, hlt, zy, zx, zw, zu, loadA, oblR, oblQ, oblE, hD, l1]
  refine zt (d88 _ _ _) ?_
  simp -dsimp -implicitDefEqProofs [hn0, hnn, zz, hlt, zy, zx, zw, zu, loadA, oblR, oblQ, oblE, hD, l1]
  refine hold (yq hwf hlt (fun p hp => by simp [hp, zx, zy]) (hU _) (by simp [eraseA, Ex.take6, Ex.erase_cells, AV.bare, Ex.bare_cells]))
 have by8 : ¬ (y : Int) < 8 := by omega
 cases bl : s.loads
 ·rw [if_pos (.inr rfl)]
  unfold unM
  simp -dsimp -implicitDefEqProofs [hn0, hnn, zz, hlt, zy, zx, zw, zu, loadA, oblR, oblQ, oblE, hD, e9, ho, by8, h8, bl]
  refine zt (hE _ _ _ s 3 (h.to hwf (by simp [hlt, zy, zw, zu, h.obj]) (fun q h1 h2 => by simp [h1, h2, zx, zy]) (by simp) (Kc.refl 0 s) (by omega)) (.inr (.inr rfl))) ?_
  have k1 := hk 3 s
  generalize E 3 s = R1 at *
  obtain ⟨e1, s1⟩ := R1
  simp only at k1 ⊢
  have l1 := Ex.cells_len e1
  simp -dsimp -implicitDefEqProofs [hn0, hnn, zz, hlt, zy, zx, zw, zu, loadA, oblR, oblQ, oblE, hD, l1]
  refine zt (d88 _ _ _) ?_
  simp -dsimp -implicitDefEqProofs [hn0, hnn, zz, hlt, zy, zx, zw, zu, loadA, oblR, oblQ, oblE, hD, l1]
  refine hold (yq hwf hlt (fun p hp => by simp [hp, zx, zy]) (hU _) (by simp [eraseA, Ex.take6, Ex.erase_cells, AV.bare, Ex.bare_cells]))
 ·rw [if_neg (by simp [h8])]
  simp -dsimp -implicitDefEqProofs [hn0, hnn, zz, hlt, zy, zx, zw, zu, loadA, oblR, oblQ, oblE, hD, e9, ho, by8, h8, bl]
  refine zt (d89 hE hk (h.to hwf (by simp [hlt, zy, zw, zu, h.obj]) (fun q h1 h2 => by simp [h1, h2, zx, zy]) (by simp) (Kc.refl 0 s) (by omega)) hD [98] 4 (.inl rfl)) ?_
  generalize loadM E [98] 4 s = R1 at *
  obtain ⟨e1, s1⟩ := R1
  simp only
  have l1 := Ex.cells_len e1
  simp -dsimp -implicitDefEqProofs [hn0, hnn, zz, hlt, zy, zx, zw, zu, loadA, oblR, oblQ, oblE, hD, l1]
  refine hold (yq hwf hlt (fun p hp => by simp [hp, zx, zy]) (hU _) (by simp [eraseA, Ex.take6, Ex.erase_cells, AV.bare, Ex.bare_cells]))
end
section
variable {bs : List UInt8} {st : St} {o : Nat} {vv : AV} {s : MS}
theorem m30leaf (d : Int) (hd : d ≤ 1) (t : Int) (h : Mk bs st o vv s 3) :
  Det Tryz.prog w0 base 30 [.ptr o 0, vi t, vi d] st (.agg (leafM bs t (nextM bs s).2).1.cells) (st.put o (Mo bs vv (leafM bs t (nextM bs s).2).2)) := by
 refine wq (zp Tryz.func30 r30) h.obj fun hwf hfit => uh Tryz.func30 r30 rfl ?_
 clear hfit
 have hlt := hwf _ _ h.obj
 have hn0 := zj hwf
 have hnn := zf hwf
 have hU := h.U hwf
 unfold b30
 simp -dsimp -implicitDefEqProofs [hn0, hnn, zz, hlt, zy, zx, zw, zu, loadA, oblR, oblQ, oblE, hd]
 refine zt (m26 (h.to hwf (by simp [hlt, zy, zw, zu, h.obj]) (fun q h1 h2 => by simp [h1, h2, zx, zy]) (by simp) (Kc.refl 0 s) (by omega))) ?_
 have kx := zi (bs := bs) s
 have hx := yj bs s
 generalize nextM bs s = Rx at *
 obtain ⟨x, sx⟩ := Rx
 simp only at kx hx ⊢
 simp -dsimp -implicitDefEqProofs [hn0, hnn, zz, hlt, zy, zx, zw, zu, loadA, oblR, oblQ, oblE, hd]
 refine zt (d58 (h.to hwf (by simp [hlt, zy, zw, zu, h.obj]) (fun q h1 h2 => by simp [h1, h2, zx, zy]) (by simp) kx (by omega)) t) ?_
 generalize leafM bs t sx = R1 at *
 obtain ⟨e1, s1⟩ := R1
 simp only
 have l1 := Ex.cells_len e1
 simp -dsimp -implicitDefEqProofs [hn0, hnn, zz, hlt, zy, zx, zw, zu, loadA, oblR, oblQ, oblE, l1]
 refine hold (yq hwf hlt (fun p hp => by simp [hp, zx, zy]) (hU _) (by simp [eraseA, Ex.take6, Ex.erase_cells, AV.bare, Ex.bare_cells]))
theorem m30node {E : EM} {c : Nat} {d D : Int} (hE : EC w0 base bs E c d) (hk : EKc c E) (hc : 1 ≤ c) (hD : IntKind.i64.wrap (D - 1) = d) (hD1 : 1 < D) (t : Int) (ht : t = 1 ∨ t = 2 ∨ t = 3) (h : Mk bs st o vv s (3 * c + 3)) :
  Det Tryz.prog w0 base 30 [.ptr o 0, vi t, vi D] st (.agg (nodeM bs E t (nextM bs s).1 (nextM bs s).2).1.cells) (st.put o (Mo bs vv (nodeM bs E t (nextM bs s).1 (nextM bs s).2).2)) := by
 refine wq (zp Tryz.func30 r30) h.obj fun hwf hfit => uh Tryz.func30 r30 rfl ?_
 clear hfit
 have hlt := hwf _ _ h.obj
 have hn0 := zj hwf
 have hnn := zf hwf
 have hU := h.U hwf
 have hD2 : ¬ D ≤ 1 := by omega
 unfold b30
 simp -dsimp -implicitDefEqProofs [hn0, hnn, zz, hlt, zy, zx, zw, zu, loadA, oblR, oblQ, oblE, hD2]
 refine zt (m26 (h.to hwf (by simp [hlt, zy, zw, zu, h.obj]) (fun q h1 h2 => by simp [h1, h2, zx, zy]) (by simp) (Kc.refl 0 s) (by omega))) ?_
 have kx := zi (bs := bs) s
 have hx := yj bs s
 generalize nextM bs s = Rx at *
 obtain ⟨x, sx⟩ := Rx
 simp only at kx hx ⊢
 have e5 : (x : Int).tmod 5 = ((x % 5 : Nat) : Int) := yz x 5
 have q5 : (x : Int).tdiv 5 = ((x / 5 : Nat) : Int) := nat_tdiv x 5
 have hk256 : x / 5 < 256 := by omega
 unfold nodeM
 generalize x / 5 = k at *
 generalize x % 5 = y at *
 by_cases h0 : y = 0
 ·have b0 : ((y : Int) == 0) = true := by simp; omega
  rw [if_pos h0]
  simp -dsimp -implicitDefEqProofs [hn0, hnn, zz, hlt, zy, zx, zw, zu, loadA, oblR, oblQ, oblE, hD2, e5, b0]
  refine zt (d58 (h.to hwf (by simp [hlt, zy, zw, zu, h.obj]) (fun q h1 h2 => by simp [h1, h2, zx, zy]) (by simp) kx (by omega)) t) ?_
  generalize leafM bs t sx = R1 at *
  obtain ⟨e1, s1⟩ := R1
  simp only
  have l1 := Ex.cells_len e1
  simp -dsimp -implicitDefEqProofs [hn0, hnn, zz, hlt, zy, zx, zw, zu, loadA, oblR, oblQ, oblE, l1]
  refine hold (yq hwf hlt (fun p hp => by simp [hp, zx, zy]) (hU _) (by simp [eraseA, Ex.take6, Ex.erase_cells, AV.bare, Ex.bare_cells]))
 have b0 : ((y : Int) == 0) = false := by simp; omega
 rw [if_neg h0]
 by_cases h1 : y = 1
 ·have b1 : ((y : Int) == 1) = true := by simp; omega
  rw [if_pos h1]
  simp -dsimp -implicitDefEqProofs [hn0, hnn, zz, hlt, zy, zx, zw, zu, loadA, oblR, oblQ, oblE, hD2, e5, b0, b1, hD]
  refine zt (hE _ _ _ sx 3 (h.to hwf (by simp [hlt, zy, zw, zu, h.obj]) (fun q h1 h2 => by simp [h1, h2, zx, zy]) (by simp) kx (by omega)) (.inr (.inr rfl))) ?_
  have k1 := hk 3 sx
  generalize E 3 sx = R1 at *
  obtain ⟨e1, s1⟩ := R1
  simp only at k1 ⊢
  have l1 := Ex.cells_len e1
  simp -dsimp -implicitDefEqProofs [hn0, hnn, zz, hlt, zy, zx, zw, zu, loadA, oblR, oblQ, oblE, hD, l1]
  refine zt (hE _ _ _ s1 t (h.to hwf (by simp [hlt, zy, zw, zu, h.obj]) (fun q h1 h2 => by simp [h1, h2, zx, zy]) (by simp) (kx.trans k1 (Nat.le_refl _)) (by omega)) ht) ?_
  have k2 := hk t s1
  generalize E t s1 = R2 at *
  obtain ⟨e2, s2⟩ := R2
  simp only at k2 ⊢
  have l2 := Ex.cells_len e2
  simp -dsimp -implicitDefEqProofs [hn0, hnn, zz, hlt, zy, zx, zw, zu, loadA, oblR, oblQ, oblE, hD, l1, l2]
  refine zt (hE _ _ _ s2 t (h.to hwf (by simp [hlt, zy, zw, zu, h.obj]) (fun q h1 h2 => by simp [h1, h2, zx, zy]) (by simp) (kx.trans (k1.trans k2 (Nat.le_refl _)) (Nat.le_refl _)) (by omega)) ht) ?_
  generalize E t s2 = R3 at *
  obtain ⟨e3, s3⟩ := R3
  simp only
  have l3 := Ex.cells_len e3
  have hx : (condX e1 e2 e3).cells = [vi 6, vi 0, vi 0, .str [], .int .i32 0, .sl (e1.cells ++ (e2.cells ++ e3.cells)) 3 .no] := by simp [condX, Ex.cells, Ex.cellsL]
  rw [hx]
  have x1 := fun n => Ex.erase_cells n e1
  have x2 := fun n => Ex.erase_cells n e2
  have x3 := fun n => Ex.erase_cells n e3
  have z1 := Ex.bare_cells e1
  have z2 := Ex.bare_cells e2
  have z3 := Ex.bare_cells e3
  generalize e1.cells = c1 at *
  generalize e2.cells = c2 at *
  generalize e3.cells = c3 at *
  simp -dsimp -implicitDefEqProofs [hn0, hnn, zz, hlt, zy, zx, zw, zu, loadA, oblR, oblQ, oblE, hD, l1, l2, l3]
  refine hold (yq hwf hlt (fun p hp => by simp [hp, zx, zy]) (hU _) (by simp [eraseA, eraseL, ym, x1, x2, x3, AV.bare, AV.bareL, zm, z1, z2, z3]))
 have b1 : ((y : Int) == 1) = false := by simp; omega
 rw [if_neg h1]
 have wk : IntKind.i64.wrap (k : Int) = k := vm (by omega)
 by_cases t1 : t = 1
 ·have bt : (t == 1) = true := by simpa using t1
  have bt2 : True := trivial
  rw [if_pos t1]
  simp -dsimp -implicitDefEqProofs [hn0, hnn, zz, hlt, zy, zx, zw, zu, loadA, oblR, oblQ, oblE, hD2, e5, b0, b1, q5, wk, bt, bt2]
  refine zt (d59 hE hk (h.to hwf (by simp [hlt, zy, zw, zu, h.obj]) (fun q h1 h2 => by simp [h1, h2, zx, zy]) (by simp) kx (by omega)) hc hD k) ?_
  generalize integerM bs E k sx = R1 at *
  obtain ⟨e1, s1⟩ := R1
  simp only
  have l1 := Ex.cells_len e1
  simp -dsimp -implicitDefEqProofs [hn0, hnn, zz, hlt, zy, zx, zw, zu, loadA, oblR, oblQ, oblE, l1]
  refine hold (yq hwf hlt (fun p hp => by simp [hp, zx, zy]) (hU _) (by simp [eraseA, Ex.take6, Ex.erase_cells, AV.bare, Ex.bare_cells]))
 have bt : (t == 1) = false := by simpa using t1
 rw [if_neg t1]
 by_cases t2 : t = 2
 ·have bt2 : (t == 2) = true := by simpa using t2
  rw [if_pos t2]
  simp -dsimp -implicitDefEqProofs [hn0, hnn, zz, hlt, zy, zx, zw, zu, loadA, oblR, oblQ, oblE, hD2, e5, b0, b1, q5, wk, bt, bt2]
  refine zt (d60 hE hk (h.to hwf (by simp [hlt, zy, zw, zu, h.obj]) (fun q h1 h2 => by simp [h1, h2, zx, zy]) (by simp) kx (by omega)) hc hD k) ?_
  generalize fixedM bs E k sx = R1 at *
  obtain ⟨e1, s1⟩ := R1
  simp only
  have l1 := Ex.cells_len e1
  simp -dsimp -implicitDefEqProofs [hn0, hnn, zz, hlt, zy, zx, zw, zu, loadA, oblR, oblQ, oblE, l1]
  refine hold (yq hwf hlt (fun p hp => by simp [hp, zx, zy]) (hU _) (by simp [eraseA, Ex.take6, Ex.erase_cells, AV.bare, Ex.bare_cells]))
 have bt2 : (t == 2) = false := by simpa using t2
 rw [if_neg t2]
 simp -dsimp -implicitDefEqProofs [hn0, hnn, zz, hlt, zy, zx, zw, zu, loadA, oblR, oblQ, oblE, hD2, e5, b0, b1, q5, wk, bt, bt2]
 refine zt (d61 hE hk (h.to hwf (by simp [hlt, zy, zw, zu, h.obj]) (fun q h1 h2 => by simp [h1, h2, zx, zy]) (by simp) kx (by omega)) hc hD k) ?_
 generalize truthM bs E k sx = R1 at *
 obtain ⟨e1, s1⟩ := R1
 simp only
 have l1 := Ex.cells_len e1
 simp -dsimp -implicitDefEqProofs [hn0, hnn, zz, hlt, zy, zx, zw, zu, loadA, oblR, oblQ, oblE, l1]
 refine hold (yq hwf hlt (fun p hp => by simp [hp, zx, zy]) (hU _) (by simp [eraseA, Ex.take6, Ex.erase_cells, AV.bare, Ex.bare_cells]))
theorem d30 : ∀ d : Nat, d ≤ 1000 → EC w0 base bs (exprM bs d) (cE d) d
 | 0, _ => fun st o vv s t h ht => m30leaf 0 (by omega) t h
 | 1, _ => fun st o vv s t h ht => m30leaf 1 (by omega) t h
 | d + 2, hd => fun st o vv s t h ht =>
  m30node (c := cE (d + 1)) (d30 (d + 1) (by omega)) (xw (d + 1)) (cE_pos _) (by rw [yy (by omega) (by omega)]; omega) (by omega) t ht h
end
end
section
variable {w0 : World} {base : Nat}
theorem digitsP_eq (n : Nat) : digitsP n = if n / 10 = 0 then [UInt8.ofNat (48 + n % 10)] else digitsP (n / 10) ++ [UInt8.ofNat (48 + n % 10)] := by
 rw [digitsP]
 split <;> simp_all
theorem digitsP_len (n : Nat) : (digitsP n).length ≤ n + 1 := by
 induction n using Nat.strongRecOn with
 | _ n ih =>
  rw [digitsP_eq]
  split
  ·simp
  ·have := ih (n / 10) (by omega)
   simp; omega
theorem d135 (n : Nat) : n ≤ 1000000 → ∀ st, Det Tryz.prog w0 base 135 [vi n] st (.str (digitsP n)) st := by
 induction n using Nat.strongRecOn with
 | _ n ih =>
  intro hn st
  refine zh (zp Tryz.func135 r135) fun hwf hfit => z6 Tryz.func135 r135 rfl ?_
  clear hfit
  have e10 : (n : Int).tmod 10 = ((n % 10 : Nat) : Int) := yz n 10
  have q10 : (n : Int).tdiv 10 = ((n / 10 : Nat) : Int) := nat_tdiv n 10
  have hlen := digitsP_len (n / 10)
  rw [digitsP_eq]
  have y10 : n % 10 < 10 := Nat.mod_lt _ (by omega)
  have hz : n / 10 ≤ n := Nat.div_le_self _ _
  have ihz : ¬ n / 10 = 0 → ∀ st, Det Tryz.prog w0 base 135 [vi ((n / 10 : Nat) : Int)] st (.str (digitsP (n / 10))) st := fun h => ih (n / 10) (by omega) (by omega)
  generalize n / 10 = z at *
  generalize n % 10 = y at *
  have n0 : ¬ (y : Int) < 0 := by omega
  have w1 : IntKind.i64.wrap (48 + (y : Int)) = 48 + (y : Int) := yy (by omega) (by omega)
  have w2 : IntKind.u8.wrap (48 + (y : Int)) = ((48 + y : Nat) : Int) := by simp [IntKind.wrap, IntKind.signed, IntKind.bits]; omega
  have w3 : IntKind.i64.wrap (z : Int) = z := vm (by omega)
  have hn2 : (48 + (y : Int)).toNat = 48 + y := by omega
  unfold b135
  by_cases h0 : z = 0
  ·have b0 : ((z : Int) != 0) = false := by simp; omega
   rw [if_pos h0]
   simp -dsimp -implicitDefEqProofs [e10, q10, n0, w1, w2, w3, b0, bytesA, cvA, hn2]
   exact zn hwf (by simp [eraseA])
  ·have b0 : ((z : Int) != 0) = true := by simp; omega
   rw [if_neg h0]
   have hl2 : (digitsP z).length + 1 ≤ 9223372036854775807 := by omega
   simp -dsimp -implicitDefEqProofs [e10, q10, n0, w1, w2, w3, b0, bytesA, cvA, hn2]
   refine zt (ihz h0 _) ?_
   have hl3 : (digitsP z).length + 0 + 1 ≤ 9223372036854775807 := by omega
   generalize digitsP z = dz at *
   have hl4 : dz.length ≤ 9223372036854775806 := by omega
   simp -dsimp -implicitDefEqProofs [e10, q10, n0, w1, w2, w3, b0, bytesA, cvA, hn2, strA, hl2, hl4]
   exact zn hwf (by simp [eraseA])
theorem d84 (n : Nat) (hn : n ≤ 1000000) (st : St) : Det Tryz.prog w0 base 84 [vi n] st (.str (digitsP n)) st := by
 refine zh (zp Tryz.func84 r84) fun hwf hfit => z6 Tryz.func84 r84 rfl ?_
 clear hfit
 have n0 : ¬ (n : Int) < 0 := by omega
 unfold b84
 simp -dsimp -implicitDefEqProofs [n0]
 refine zt (d135 n hn _) ?_
 simp -dsimp -implicitDefEqProofs
 exact zn hwf (by simp [eraseA])
theorem d57 (st : St) : Det Tryz.prog w0 base 57 [] st (.sl [vi 10, vi 22, vi 23, vi 17, vi 18, vi 19] 6 .full) st := by
 refine zh (zp Tryz.func57 r57) fun hwf hfit => z6 Tryz.func57 r57 rfl ?_
 unfold b57
 simp -dsimp -implicitDefEqProofs
 exact zn hwf (by simp [eraseA, eraseL])
end
end Go.Proofs.YthaekebedmoipaaGreatDoor.AM
