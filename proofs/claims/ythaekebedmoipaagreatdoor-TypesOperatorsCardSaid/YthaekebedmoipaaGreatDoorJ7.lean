/- Part 7 of the proof: C2 Sh1 F1 F2 F3 P1 P2 F4 F5 F6 F7 F8 P3. -/
import Derived.Test.YthaekebedmoipaaGreatDoorJ6
import Derived.Test.YthaekebedmoipaaGreatDoorProg
import Derived.RowKit
import Derived.Shelf.Strconv.Itoa3
import Derived.Test.YthaekebedmoipaaGreatDoorJ5
import Derived.Shelf.Strings.Builder1
import Derived.Below
set_option maxRecDepth 100000
namespace Go.Proofs.YthaekebedmoipaaGreatDoor.AM
open Go Go.RowKit
def b10 : SCode := (.seq (.frz [5] (.reg [⟨(some 5), none, (.box 71 (t 2) 0)⟩, ⟨(some 6), none, (.pe (.mov (.lit (.bool false))))⟩])) (.seq (.reg [⟨(some 15), none, (.call 11 [])⟩, m 7 15]) (.seq (.seq (.reg [m 16 7, ⟨(some 17), none, (.pe (.un .not (t 16)))⟩]) (.cond (t 17) (.seq (.reg [⟨(some 6), none, (.pe (.mov (.lit (.bool false))))⟩]) .ret) .skip)) (.seq (.reg [⟨(some 18), none, (.call 22 [(.lit (.sl [] 0 .full))])⟩, ⟨(some 8), none, (.alloc 38 (.agg [(.str []), (.int .i64 0), (.int .i64 0), (.sl [] 0 .full), (.sl [] 0 .full), (.sl [] 0 .full), (.sl [] 0 .full)]) 1)⟩, ⟨none, none, (.store 7 (t 8) (t 18))⟩]) (.seq (.frz [8] (.reg [m 19 0, m 20 1, ⟨(some 21), none, (.pe (.fldA 1 (t 8)))⟩, ⟨none, none, (.store 1 (t 21) (t 19))⟩, ⟨(some 22), none, (.pe (.fldA 2 (t 8)))⟩, ⟨none, none, (.store 1 (t 22) (t 20))⟩])) (.seq (.reg [m 23 0, ⟨(some 24), none, (.pe (.bin .int .geq (t 23) (i 1)))⟩, m 25 24, ⟨(some 26), (some (25, true)), (.pe (.mov (t 0)))⟩, ⟨(some 27), (some (25, true)), (.pe (.bin .int .leq (t 26) (i 256)))⟩, ⟨(some 28), none, (.pe (.pick (t 25) (t 27) (.lit (.bool false))))⟩, m 29 28, ⟨(some 30), (some (29, true)), (.pe (.mov (t 1)))⟩, ⟨(some 31), (some (29, true)), (.pe (.bin .int .geq (t 30) (i 1)))⟩, ⟨(some 32), none, (.pe (.pick (t 29) (t 31) (.lit (.bool false))))⟩, m 33 32, ⟨(some 34), (some (33, true)), (.pe (.mov (t 1)))⟩, ⟨(some 35), (some (33, true)), (.pe (.bin .int .leq (t 34) (i 32)))⟩, ⟨(some 36), none, (.pe (.pick (t 33) (t 35) (.lit (.bool false))))⟩, m 37 36, ⟨(some 38), (some (37, true)), (.pe (.mov (t 1)))⟩, ⟨(some 39), (some (37, true)), (.pe (.mov (t 1)))⟩, ⟨(some 40), (some (37, true)), (.pe (.bin .int .sub (t 39) (i 1)))⟩, ⟨(some 41), (some (37, true)), (.pe (.bin .int .and (t 38) (t 40)))⟩, ⟨(some 42), (some (37, true)), (.pe (.bin .int .eql (t 41) (i 0)))⟩, ⟨(some 43), none, (.pe (.pick (t 37) (t 42) (.lit (.bool false))))⟩, m 44 43, ⟨(some 45), (some (44, true)), (.pe (.mov (t 0)))⟩, ⟨(some 46), (some (44, true)), (.pe (.mov (t 1)))⟩, ⟨(some 47), (some (44, true)), (.pe (.max2 (t 46) (i 1)))⟩, ⟨(some 48), (some (44, true)), (.pe (.bin .int .rem (t 45) (t 47)))⟩, ⟨(some 49), (some (44, true)), (.pe (.bin .int .eql (t 48) (i 0)))⟩, ⟨(some 50), none, (.pe (.pick (t 44) (t 49) (.lit (.bool false))))⟩, m 9 50]) (.seq (.frz [11] (.draw [0, 0, 0, 4, 0, 16, 62, 126, 255, 0, 0, 2047, 4095] [0, 1, 2, 3, 4, 5, 6, 7, 8, 9, 10, 11, 12] [⟨(some 51), none, (.call 22 [(.lit (.sl [] 0 .full))])⟩, ⟨(some 52), none, (.pe (.build [(.int .i64 0), (.int .i64 0), (.int .i64 0), (.str []), (.int .i32 0), (.sl [] 0 .full)] [(0, (1, (i 1))), (2, (1, (i 3)))]))⟩, ⟨(some 53), none, (.pe (.idxArr 1 2 (t 5) (i 1)))⟩, ⟨(some 54), none, (.load 1 false (t 53))⟩, ⟨(some 55), none, (.pe (.build [(.int .i64 0), (.int .i64 0), (.int .i64 0), (.int .i64 0), (.str []), (.int .i64 0), (.int .i64 0), (.int .i64 0), (.str []), (.int .i32 0), (.sl [] 0 .full), (.int .i64 0), (.int .i64 0), (.int .i64 0), (.str []), (.int .i32 0), (.sl [] 0 .full), (.sl [] 0 .full), (.sl [] 0 .full)] [(0, (1, (i 8)))]))⟩, ⟨(some 56), none, (.pe (.lits 19 [(t 55)]))⟩, ⟨(some 57), none, (.pe (.build [(.int .i64 0), (.int .i64 0), (.int .i64 0), (.int .i64 0), (.str []), (.int .i64 0), (.int .i64 0), (.int .i64 0), (.str []), (.int .i32 0), (.sl [] 0 .full), (.int .i64 0), (.int .i64 0), (.int .i64 0), (.str []), (.int .i32 0), (.sl [] 0 .full), (.sl [] 0 .full), (.sl [] 0 .full)] [(0, (1, (i 6))), (5, (6, (t 52))), (3, (1, (t 54))), (17, (1, (t 56)))]))⟩, ⟨(some 58), none, (.pe (.lits 19 [(t 57)]))⟩, ⟨(some 59), none, (.call 22 [(t 58)])⟩, ⟨(some 10), none, (.alloc 38 (.agg [(.str []), (.int .i64 0), (.int .i64 0), (.sl [] 0 .full), (.sl [] 0 .full), (.sl [] 0 .full), (.sl [] 0 .full)]) 9)⟩, ⟨(some 11), none, (.alloc 38 (.agg [(.str []), (.int .i64 0), (.int .i64 0), (.sl [] 0 .full), (.sl [] 0 .full), (.sl [] 0 .full), (.sl [] 0 .full)]) 10)⟩, ⟨none, none, (.store 7 (t 10) (t 51))⟩, ⟨none, none, (.store 7 (t 11) (t 59))⟩])) (.seq (.frz [10] (.reg [⟨(some 60), none, (.pe (.idxArr 1 2 (t 5) (i 0)))⟩, ⟨(some 61), none, (.load 1 false (t 60))⟩, ⟨(some 62), none, (.pe (.build [(.str []), (.int .i64 0), (.int .i64 0), (.int .i64 0)] [(0, (1, (.lit (.str [97])))), (1, (1, (i 1))), (2, (1, (i 1))), (3, (1, (t 61)))]))⟩, ⟨(some 63), none, (.pe (.lits 4 [(t 62)]))⟩, ⟨(some 64), none, (.pe (.fldA 3 (t 10)))⟩, ⟨none, none, (.store 1 (t 64) (t 63))⟩])) (.seq (.draw [0, 1, 0, 7, 0, 31, 63, 127, 255] [0, 1, 2, 3, 4, 5, 6, 7, 8] [⟨(some 65), none, (.load 7 true (t 8))⟩, ⟨(some 66), none, (.call 14 [(t 65)])⟩, ⟨(some 67), none, (.load 7 true (t 10))⟩, ⟨(some 68), none, (.call 14 [(t 67)])⟩, ⟨(some 69), none, (.load 7 true (t 11))⟩, ⟨(some 70), none, (.call 14 [(t 69)])⟩, m 12 66, m 13 68, m 14 70]) (.seq (.seq (.reg [m 71 12, ⟨(some 72), none, (.pe (.bin .int .eql (t 71) (i 0)))⟩, m 73 9, ⟨(some 74), none, (.pe (.bin .bool .neq (t 72) (t 73)))⟩, m 75 74, ⟨(some 76), (some (75, false)), (.pe (.mov (t 13)))⟩, ⟨(some 77), (some (75, false)), (.pe (.bin .int .eql (t 76) (i 0)))⟩, ⟨(some 78), (some (75, false)), (.pe (.idxArr 1 2 (t 5) (i 0)))⟩, ⟨(some 79), (some (75, false)), (.load 1 false (t 78))⟩, ⟨(some 80), (some (75, false)), (.pe (.bin .int .geq (t 79) (i 1)))⟩, ⟨(some 81), (some (75, false)), (.pe (.mov (t 80)))⟩, ⟨(some 82), (some (81, true)), (.pe (.idxArr 1 2 (t 5) (i 0)))⟩, ⟨(some 83), (some (81, true)), (.load 1 false (t 82))⟩, ⟨(some 84), (some (81, true)), (.pe (.bin .int .leq (t 83) (i 4096)))⟩, ⟨(some 85), (some (75, false)), (.pe (.pick (t 81) (t 84) (.lit (.bool false))))⟩, ⟨(some 86), (some (75, false)), (.pe (.bin .bool .neq (t 77) (t 85)))⟩, ⟨(some 87), none, (.pe (.pick (t 75) (.lit (.bool true)) (t 86)))⟩, m 88 87, ⟨(some 89), (some (88, false)), (.pe (.mov (t 14)))⟩, ⟨(some 90), (some (88, false)), (.pe (.bin .int .eql (t 89) (i 0)))⟩, ⟨(some 91), (some (88, false)), (.pe (.idxArr 1 2 (t 5) (i 1)))⟩, ⟨(some 92), (some (88, false)), (.load 1 false (t 91))⟩, ⟨(some 93), (some (88, false)), (.pe (.bin .int .geq (t 92) (i 1)))⟩, ⟨(some 94), (some (88, false)), (.pe (.mov (t 93)))⟩, ⟨(some 95), (some (94, true)), (.pe (.idxArr 1 2 (t 5) (i 1)))⟩, ⟨(some 96), (some (94, true)), (.load 1 false (t 95))⟩, ⟨(some 97), (some (94, true)), (.pe (.bin .int .leq (t 96) (i 1024)))⟩, ⟨(some 98), (some (88, false)), (.pe (.pick (t 94) (t 97) (.lit (.bool false))))⟩, ⟨(some 99), (some (88, false)), (.pe (.bin .bool .neq (t 90) (t 98)))⟩, ⟨(some 100), none, (.pe (.pick (t 88) (.lit (.bool true)) (t 99)))⟩]) (.cond (t 100) (.seq (.reg [⟨(some 6), none, (.pe (.mov (.lit (.bool false))))⟩]) .ret) .skip)) (.seq (.reg [m 101 12, ⟨(some 102), none, (.pe (.bin .int .eql (t 101) (i 0)))⟩, m 103 102, ⟨(some 104), (some (103, false)), (.pe (.mov (t 12)))⟩, ⟨(some 105), (some (103, false)), (.pe (.bin .int .eql (t 104) (i 1)))⟩, ⟨(some 106), none, (.pe (.pick (t 103) (.lit (.bool true)) (t 105)))⟩, m 107 106, ⟨(some 108), (some (107, true)), (.pe (.mov (t 13)))⟩, ⟨(some 109), (some (107, true)), (.pe (.bin .int .eql (t 108) (i 0)))⟩, ⟨(some 110), (some (107, true)), (.pe (.mov (t 109)))⟩, ⟨(some 111), (some (110, false)), (.pe (.mov (t 13)))⟩, ⟨(some 112), (some (110, false)), (.pe (.bin .int .eql (t 111) (i 1)))⟩, ⟨(some 113), (some (107, true)), (.pe (.pick (t 110) (.lit (.bool true)) (t 112)))⟩, ⟨(some 114), none, (.pe (.pick (t 107) (t 113) (.lit (.bool false))))⟩, m 115 114, ⟨(some 116), (some (115, true)), (.pe (.mov (t 14)))⟩, ⟨(some 117), (some (115, true)), (.pe (.bin .int .eql (t 116) (i 0)))⟩, ⟨(some 118), (some (115, true)), (.pe (.mov (t 117)))⟩, ⟨(some 119), (some (118, false)), (.pe (.mov (t 14)))⟩, ⟨(some 120), (some (118, false)), (.pe (.bin .int .eql (t 119) (i 1)))⟩, ⟨(some 121), (some (115, true)), (.pe (.pick (t 118) (.lit (.bool true)) (t 120)))⟩, ⟨(some 122), none, (.pe (.pick (t 115) (t 121) (.lit (.bool false))))⟩, m 123 122, ⟨(some 124), (some (123, true)), (.pe (.mov (t 7)))⟩, ⟨(some 125), none, (.pe (.pick (t 123) (t 124) (.lit (.bool false))))⟩, m 6 125]) .ret)))))))))))
theorem r10 : resFunc Tryz.prog Tryz.f10 = some ⟨126, [(.tmp 6)], b10.strip⟩ := by kernel_rfl
def l7_0 : SCode := (.seq (.seq (.reg [m 26 7, ⟨(some 27), none, (.pe (.bin .int .lss (t 26) (i 3)))⟩]) (.cond (t 27) .skip (.exit 0))) (.seq (.block 1 (.reg [m 30 6, m 31 7, ⟨(some 32), none, (.pe (.idxArr 1 3 (t 3) (t 31)))⟩, ⟨(some 33), none, (.load 1 false (t 32))⟩, ⟨(some 34), none, (.pe (.bin .int .rem (t 33) (.lit (.int .u8 3))))⟩, ⟨(some 35), none, (.pe (.conv (.toInt .i64) (t 34)))⟩, ⟨(some 36), none, (.pe (.bin .int .add (i 1) (t 35)))⟩, ⟨(some 37), none, (.pe (.build [(.int .i64 0), (.int .i64 0), (.int .i64 0), (.str []), (.int .i32 0), (.sl [] 0 .full)] [(0, (1, (i 1))), (2, (1, (t 36))), (4, (1, (.lit (.int .i32 1))))]))⟩, ⟨(some 38), none, (.pe (.lits 6 [(t 37)]))⟩, ⟨(some 39), none, (.append false 31 6 72 (t 30) (t 38) 9)⟩, m 6 39])) (.reg [m 28 7, ⟨(some 29), none, (.pe (.bin .int .add (t 28) (i 1)))⟩, m 7 29])))
def b7 : SCode := (.seq (.frz [3] (.reg [⟨(some 3), none, (.box 62 (t 1) 0)⟩, ⟨(some 4), none, (.pe (.mov (.lit (.bool false))))⟩])) (.seq (.reg [⟨(some 22), none, (.call 11 [])⟩, m 5 22]) (.seq (.seq (.reg [m 23 5, ⟨(some 24), none, (.pe (.un .not (t 23)))⟩]) (.cond (t 24) (.seq (.reg [⟨(some 4), none, (.pe (.mov (.lit (.bool false))))⟩]) .ret) .skip)) (.seq (.reg [⟨(some 25), none, (.pe (.lits 6 []))⟩, m 6 25]) (.seq (.seq (.reg [⟨(some 7), none, (.pe (.mov (i 0)))⟩]) (.block 0 (.loop l7_0))) (.seq (.frz [8] (.reg [⟨(some 40), none, (.call 22 [(.lit (.sl [] 0 .full))])⟩, ⟨(some 8), none, (.alloc 38 (.agg [(.str []), (.int .i64 0), (.int .i64 0), (.sl [] 0 .full), (.sl [] 0 .full), (.sl [] 0 .full), (.sl [] 0 .full)]) 1)⟩, ⟨none, none, (.store 7 (t 8) (t 40))⟩])) (.seq (.reg [m 41 0, ⟨(some 42), none, (.pe (.conv (.toInt .i64) (t 41)))⟩, ⟨(some 43), none, (.pe (.bin .int .rem (t 42) (i 5)))⟩, ⟨(some 44), none, (.pe (.bin .int .add (i 1) (t 43)))⟩, m 45 0, ⟨(some 46), none, (.pe (.conv (.toInt .i64) (t 45)))⟩, ⟨(some 47), none, (.pe (.bin .int .rem (t 46) (i 20)))⟩, ⟨(some 48), none, (.pe (.bin .int .add (i 10) (t 47)))⟩, m 9 44, m 10 48]) (.seq (.draw [0, 0, 0, 4, 14, 31, 63, 127, 127, 255, 1023] [0, 1, 2, 3, 4, 5, 6, 7, 8, 9, 10] [⟨(some 50), none, (.load 7 true (t 8))⟩, m 51 9, m 52 6, ⟨(some 53), none, (.pe (.slcL 6 (t 52) none (some (i 1))))⟩, ⟨(some 54), none, (.pe (.build [(.int .i64 0), (.int .i64 0), (.int .i64 0), (.str []), (.int .i32 0), (.sl [] 0 .full)] [(0, (1, (i 4))), (1, (1, (t 51))), (5, (1, (t 53)))]))⟩, ⟨(some 55), none, (.call 17 [(t 50), (.lit (.sl [] 0 .full)), (t 54)])⟩, m 49 55, ⟨(some 56), none, (.pe (.ext (t 49) 0))⟩, ⟨(some 57), none, (.pe (.ext (t 49) 1))⟩, m 11 56, m 12 57]) (.seq (.draw [0, 0, 0, 4, 14, 31, 63, 127, 127, 255, 1023] [0, 1, 2, 3, 4, 5, 6, 7, 8, 9, 10] [⟨(some 59), none, (.load 7 true (t 8))⟩, m 60 10, m 61 6, ⟨(some 62), none, (.pe (.slcL 6 (t 61) none (some (i 2))))⟩, ⟨(some 63), none, (.pe (.build [(.int .i64 0), (.int .i64 0), (.int .i64 0), (.str []), (.int .i32 0), (.sl [] 0 .full)] [(0, (1, (i 5))), (1, (1, (t 60))), (5, (1, (t 62)))]))⟩, ⟨(some 64), none, (.call 17 [(t 59), (.lit (.sl [] 0 .full)), (t 63)])⟩, m 58 64, ⟨(some 65), none, (.pe (.ext (t 58) 0))⟩, ⟨(some 66), none, (.pe (.ext (t 58) 1))⟩, m 13 65, m 14 66]) (.seq (.reg [⟨(some 68), none, (.load 7 true (t 8))⟩, m 69 6, ⟨(some 70), none, (.pe (.build [(.int .i64 0), (.int .i64 0), (.int .i64 0), (.str []), (.int .i32 0), (.sl [] 0 .full)] [(0, (1, (i 6))), (5, (1, (t 69)))]))⟩, ⟨(some 71), none, (.call 17 [(t 68), (.lit (.sl [] 0 .full)), (t 70)])⟩, m 67 71, ⟨(some 72), none, (.pe (.ext (t 67) 0))⟩, ⟨(some 73), none, (.pe (.ext (t 67) 1))⟩, m 15 72, m 16 73]) (.seq (.reg [m 75 9, m 76 6, ⟨(some 77), none, (.pe (.idxA 6 (t 76) (i 0)))⟩, ⟨(some 78), none, (.pe (.fldA 2 (t 77)))⟩, ⟨(some 79), none, (.load 1 false (t 78))⟩, ⟨(some 80), none, (.call 23 [(t 75), (t 79)])⟩, m 74 80, ⟨(some 81), none, (.pe (.ext (t 74) 0))⟩, ⟨(some 82), none, (.pe (.ext (t 74) 1))⟩, m 17 81, m 18 82]) (.seq (.draw [0, 0, 2, 6, 14, 0, 32, 96, 224, 511, 1023, 2047, 2047, 4095, 16383] [0, 1, 2, 3, 4, 5, 6, 7, 8, 9, 10, 11, 12, 13, 14] [m 84 10, m 85 6, ⟨(some 86), none, (.pe (.idxA 6 (t 85) (i 0)))⟩, ⟨(some 87), none, (.pe (.fldA 2 (t 86)))⟩, ⟨(some 88), none, (.load 1 false (t 87))⟩, m 89 6, ⟨(some 90), none, (.pe (.idxA 6 (t 89) (i 1)))⟩, ⟨(some 91), none, (.pe (.fldA 2 (t 90)))⟩, ⟨(some 92), none, (.load 1 false (t 91))⟩, ⟨(some 93), none, (.call 24 [(t 84), (t 88), (t 92)])⟩, m 83 93, ⟨(some 94), none, (.pe (.ext (t 83) 0))⟩, ⟨(some 95), none, (.pe (.ext (t 83) 1))⟩, m 19 94, m 20 95]) (.seq (.draw [0, 1, 3, 7, 15, 31, 63, 127, 255, 511, 63, 1087, 3135, 7231, 16383, 32767, 65535] [0, 1, 2, 3, 4, 5, 6, 7, 8, 9, 10, 11, 12, 13, 14, 15, 16] [m 96 6, ⟨(some 97), none, (.pe (.idxA 6 (t 96) (i 0)))⟩, ⟨(some 98), none, (.pe (.fldA 2 (t 97)))⟩, ⟨(some 99), none, (.load 1 false (t 98))⟩, ⟨(some 100), none, (.pe (.bin .int .eql (t 99) (i 3)))⟩, m 101 100, ⟨(some 102), (some (101, true)), (.pe (.mov (t 6)))⟩, ⟨(some 103), (some (101, true)), (.pe (.idxA 6 (t 102) (i 1)))⟩, ⟨(some 104), (some (101, true)), (.pe (.fldA 2 (t 103)))⟩, ⟨(some 105), (some (101, true)), (.load 1 false (t 104))⟩, ⟨(some 106), (some (101, true)), (.pe (.mov (t 6)))⟩, ⟨(some 107), (some (101, true)), (.pe (.idxA 6 (t 106) (i 2)))⟩, ⟨(some 108), (some (101, true)), (.pe (.fldA 2 (t 107)))⟩, ⟨(some 109), (some (101, true)), (.load 1 false (t 108))⟩, ⟨(some 110), (some (101, true)), (.pe (.bin .int .eql (t 105) (t 109)))⟩, ⟨(some 111), none, (.pe (.pick (t 101) (t 110) (.lit (.bool false))))⟩, m 21 111]) (.seq (.seq (.reg [m 112 11, m 113 17, ⟨(some 114), none, (.pe (.bin .int .neq (t 112) (t 113)))⟩, m 115 114, ⟨(some 116), (some (115, false)), (.pe (.mov (t 12)))⟩, ⟨(some 117), (some (115, false)), (.pe (.mov (t 18)))⟩, ⟨(some 118), (some (115, false)), (.pe (.bin .int .neq (t 116) (t 117)))⟩, ⟨(some 119), none, (.pe (.pick (t 115) (.lit (.bool true)) (t 118)))⟩, m 120 119, ⟨(some 121), (some (120, false)), (.pe (.mov (t 13)))⟩, ⟨(some 122), (some (120, false)), (.pe (.mov (t 19)))⟩, ⟨(some 123), (some (120, false)), (.pe (.bin .int .neq (t 121) (t 122)))⟩, ⟨(some 124), none, (.pe (.pick (t 120) (.lit (.bool true)) (t 123)))⟩, m 125 124, ⟨(some 126), (some (125, false)), (.pe (.mov (t 14)))⟩, ⟨(some 127), (some (125, false)), (.pe (.mov (t 20)))⟩, ⟨(some 128), (some (125, false)), (.pe (.bin .int .neq (t 126) (t 127)))⟩, ⟨(some 129), none, (.pe (.pick (t 125) (.lit (.bool true)) (t 128)))⟩]) (.cond (t 129) (.seq (.reg [⟨(some 4), none, (.pe (.mov (.lit (.bool false))))⟩]) .ret) .skip)) (.seq (.reg [m 130 16, ⟨(some 131), none, (.pe (.bin .int .eql (t 130) (i 0)))⟩, m 132 21, ⟨(some 133), none, (.pe (.bin .bool .eql (t 131) (t 132)))⟩, m 134 133, ⟨(some 135), (some (134, true)), (.pe (.mov (t 21)))⟩, ⟨(some 136), (some (134, true)), (.pe (.un .not (t 135)))⟩, ⟨(some 137), (some (134, true)), (.pe (.mov (t 136)))⟩, ⟨(some 138), (some (137, false)), (.pe (.mov (t 15)))⟩, ⟨(some 139), (some (137, false)), (.pe (.mov (t 6)))⟩, ⟨(some 140), (some (137, false)), (.pe (.idxA 6 (t 139) (i 1)))⟩, ⟨(some 141), (some (137, false)), (.pe (.fldA 2 (t 140)))⟩, ⟨(some 142), (some (137, false)), (.load 1 false (t 141))⟩, ⟨(some 143), (some (137, false)), (.pe (.bin .int .eql (t 138) (t 142)))⟩, ⟨(some 144), (some (134, true)), (.pe (.pick (t 137) (.lit (.bool true)) (t 143)))⟩, ⟨(some 145), none, (.pe (.pick (t 134) (t 144) (.lit (.bool false))))⟩, m 146 145, ⟨(some 147), (some (146, true)), (.pe (.mov (t 21)))⟩, ⟨(some 148), (some (146, true)), (.pe (.mov (t 147)))⟩, ⟨(some 149), (some (148, false)), (.pe (.mov (t 16)))⟩, ⟨(some 150), (some (148, false)), (.pe (.bin .int .eql (t 149) (i 31)))⟩, ⟨(some 151), (some (146, true)), (.pe (.pick (t 148) (.lit (.bool true)) (t 150)))⟩, ⟨(some 152), none, (.pe (.pick (t 146) (t 151) (.lit (.bool false))))⟩, m 153 152, ⟨(some 154), (some (153, true)), (.pe (.mov (t 5)))⟩, ⟨(some 155), none, (.pe (.pick (t 153) (t 154) (.lit (.bool false))))⟩, m 4 155]) .ret)))))))))))))))
theorem r7 : resFunc Tryz.prog Tryz.f7 = some ⟨156, [(.tmp 4)], b7.strip⟩ := by kernel_rfl
def b6 : SCode := (.seq (.reg [⟨(some 6), none, (.pe (.mov (.lit (.bool false))))⟩]) (.seq (.reg [⟨(some 14), none, (.call 11 [])⟩, m 7 14]) (.seq (.seq (.reg [m 15 7, ⟨(some 16), none, (.pe (.un .not (t 15)))⟩]) (.cond (t 16) (.seq (.reg [⟨(some 6), none, (.pe (.mov (.lit (.bool false))))⟩]) .ret) .skip)) (.seq (.reg [m 17 1, ⟨(some 18), none, (.pe (.bin .int .rem (t 17) (.lit (.int .u8 3))))⟩, ⟨(some 19), none, (.pe (.conv (.toInt .i64) (t 18)))⟩, ⟨(some 20), none, (.pe (.bin .int .add (i 1) (t 19)))⟩, m 8 20]) (.seq (.frz [9] (.reg [m 21 8, m 22 8, ⟨(some 23), none, (.pe (.build [(.int .i64 0), (.int .i64 0), (.int .i64 0), (.str []), (.int .i32 0), (.sl [] 0 .full)] [(0, (1, (i 1))), (2, (1, (t 22))), (4, (1, (.lit (.int .i32 1))))]))⟩, ⟨(some 24), none, (.pe (.build [(.int .i64 0), (.int .i64 0), (.int .i64 0), (.int .i64 0), (.str []), (.int .i64 0), (.int .i64 0), (.int .i64 0), (.str []), (.int .i32 0), (.sl [] 0 .full), (.int .i64 0), (.int .i64 0), (.int .i64 0), (.str []), (.int .i32 0), (.sl [] 0 .full), (.sl [] 0 .full), (.sl [] 0 .full)] [(0, (1, (i 1))), (2, (1, (t 21))), (4, (1, (.lit (.str [118])))), (5, (6, (t 23)))]))⟩, ⟨(some 9), none, (.alloc 54 (.agg [(.int .i64 0), (.int .i64 0), (.int .i64 0), (.int .i64 0), (.str []), (.int .i64 0), (.int .i64 0), (.int .i64 0), (.str []), (.int .i32 0), (.sl [] 0 .full), (.int .i64 0), (.int .i64 0), (.int .i64 0), (.str []), (.int .i32 0), (.sl [] 0 .full), (.sl [] 0 .full), (.sl [] 0 .full)]) 4)⟩, ⟨none, none, (.store 19 (t 9) (t 24))⟩])) (.seq (.frz [10] (.reg [m 25 8, ⟨(some 26), none, (.pe (.build [(.int .i64 0), (.int .i64 0), (.int .i64 0), (.str []), (.int .i32 0), (.sl [] 0 .full)] [(0, (1, (i 1))), (2, (1, (t 25))), (4, (1, (.lit (.int .i32 0))))]))⟩, ⟨(some 27), none, (.pe (.build [(.int .i64 0), (.int .i64 0), (.int .i64 0), (.int .i64 0), (.str []), (.int .i64 0), (.int .i64 0), (.int .i64 0), (.str []), (.int .i32 0), (.sl [] 0 .full), (.int .i64 0), (.int .i64 0), (.int .i64 0), (.str []), (.int .i32 0), (.sl [] 0 .full), (.sl [] 0 .full), (.sl [] 0 .full)] [(0, (1, (i 2))), (4, (1, (.lit (.str [118])))), (5, (6, (t 26)))]))⟩, ⟨(some 10), none, (.alloc 54 (.agg [(.int .i64 0), (.int .i64 0), (.int .i64 0), (.int .i64 0), (.str []), (.int .i64 0), (.int .i64 0), (.int .i64 0), (.str []), (.int .i32 0), (.sl [] 0 .full), (.int .i64 0), (.int .i64 0), (.int .i64 0), (.str []), (.int .i32 0), (.sl [] 0 .full), (.sl [] 0 .full), (.sl [] 0 .full)]) 3)⟩, ⟨none, none, (.store 19 (t 10) (t 27))⟩])) (.seq (.frz [11] (.reg [⟨(some 28), none, (.pe (.build [(.int .i64 0), (.int .i64 0), (.int .i64 0), (.str []), (.int .i32 0), (.sl [] 0 .full)] [(0, (1, (i 1))), (2, (1, (i 3))), (4, (1, (.lit (.int .i32 1))))]))⟩, ⟨(some 11), none, (.alloc 31 (.agg [(.int .i64 0), (.int .i64 0), (.int .i64 0), (.str []), (.int .i32 0), (.sl [] 0 .full)]) 1)⟩, ⟨none, none, (.store 6 (t 11) (t 28))⟩])) (.seq (.reg [⟨(some 29), none, (.load 19 true (t 9))⟩, ⟨(some 30), none, (.load 19 true (t 10))⟩, ⟨(some 31), none, (.pe (.lits 19 [(t 29), (t 30)]))⟩, m 12 31]) (.seq (.seq (.reg [m 32 2]) (.cond (t 32) (.reg [⟨(some 33), none, (.load 19 true (t 9))⟩, ⟨(some 34), none, (.load 6 true (t 11))⟩, ⟨(some 35), none, (.load 19 true (t 10))⟩, ⟨(some 36), none, (.pe (.lits 19 [(t 35)]))⟩, ⟨(some 37), none, (.pe (.build [(.int .i64 0), (.int .i64 0), (.int .i64 0), (.int .i64 0), (.str []), (.int .i64 0), (.int .i64 0), (.int .i64 0), (.str []), (.int .i32 0), (.sl [] 0 .full), (.int .i64 0), (.int .i64 0), (.int .i64 0), (.str []), (.int .i32 0), (.sl [] 0 .full), (.sl [] 0 .full), (.sl [] 0 .full)] [(0, (1, (i 5))), (5, (6, (t 34))), (17, (1, (t 36)))]))⟩, ⟨(some 38), none, (.pe (.lits 19 [(t 33), (t 37)]))⟩, m 12 38]) .skip)) (.seq (.reg [⟨(some 39), none, (.load 6 true (t 11))⟩, m 40 12, ⟨(some 41), none, (.pe (.build [(.int .i64 0), (.int .i64 0), (.int .i64 0), (.int .i64 0), (.str []), (.int .i64 0), (.int .i64 0), (.int .i64 0), (.str []), (.int .i32 0), (.sl [] 0 .full), (.int .i64 0), (.int .i64 0), (.int .i64 0), (.str []), (.int .i32 0), (.sl [] 0 .full), (.sl [] 0 .full), (.sl [] 0 .full)] [(0, (1, (i 5))), (5, (6, (t 39))), (17, (1, (t 40)))]))⟩, ⟨(some 13), none, (.alloc 54 (.agg [(.int .i64 0), (.int .i64 0), (.int .i64 0), (.int .i64 0), (.str []), (.int .i64 0), (.int .i64 0), (.int .i64 0), (.str []), (.int .i32 0), (.sl [] 0 .full), (.int .i64 0), (.int .i64 0), (.int .i64 0), (.str []), (.int .i32 0), (.sl [] 0 .full), (.sl [] 0 .full), (.sl [] 0 .full)]) 3)⟩, ⟨none, none, (.store 19 (t 13) (t 41))⟩]) (.seq (.seq (.reg [m 42 0, ⟨(some 43), none, (.pe (.bin .int .rem (t 42) (.lit (.int .u8 3))))⟩]) (.block 0 (.seq (.reg [⟨(some 45), none, (.pe (.bin .int .eql (t 43) (.lit (.int .u8 1))))⟩, m 44 45]) (.cond (t 44) (.frz [13] (.reg [⟨(some 46), none, (.load 6 true (t 11))⟩, m 47 12, ⟨(some 48), none, (.pe (.build [(.int .i64 0), (.int .i64 0), (.int .i64 0), (.int .i64 0), (.str []), (.int .i64 0), (.int .i64 0), (.int .i64 0), (.str []), (.int .i32 0), (.sl [] 0 .full), (.int .i64 0), (.int .i64 0), (.int .i64 0), (.str []), (.int .i32 0), (.sl [] 0 .full), (.sl [] 0 .full), (.sl [] 0 .full)] [(0, (1, (i 5))), (5, (6, (t 46))), (18, (1, (t 47)))]))⟩, ⟨none, none, (.store 19 (t 13) (t 48))⟩])) (.seq (.reg [⟨(some 50), none, (.pe (.bin .int .eql (t 43) (.lit (.int .u8 2))))⟩, m 49 50]) (.cond (t 49) (.frz [13] (.reg [⟨(some 51), none, (.load 6 true (t 11))⟩, m 52 1, ⟨(some 53), none, (.pe (.bin .int .rem (t 52) (.lit (.int .u8 100))))⟩, ⟨(some 54), none, (.pe (.conv (.toInt .i64) (t 53)))⟩, ⟨(some 55), none, (.pe (.bin .int .add (i 1) (t 54)))⟩, m 56 12, ⟨(some 57), none, (.pe (.build [(.int .i64 0), (.int .i64 0), (.int .i64 0), (.int .i64 0), (.str []), (.int .i64 0), (.int .i64 0), (.int .i64 0), (.str []), (.int .i32 0), (.sl [] 0 .full), (.int .i64 0), (.int .i64 0), (.int .i64 0), (.str []), (.int .i32 0), (.sl [] 0 .full), (.sl [] 0 .full), (.sl [] 0 .full)] [(0, (1, (i 6))), (5, (6, (t 51))), (3, (1, (t 55))), (17, (1, (t 56)))]))⟩, ⟨none, none, (.store 19 (t 13) (t 57))⟩])) .skip)))))) (.seq (.reg [⟨(some 58), none, (.load 19 true (t 13))⟩, ⟨(some 59), none, (.pe (.lits 19 [(t 58)]))⟩, ⟨(some 60), none, (.call 22 [(t 59)])⟩, ⟨(some 61), none, (.call 14 [(t 60)])⟩, ⟨(some 62), none, (.pe (.bin .int .eql (t 61) (i 0)))⟩, m 63 62, ⟨(some 64), (some (63, true)), (.load 19 true (t 13))⟩, ⟨(some 65), (some (63, true)), (.load 19 true (t 10))⟩, ⟨(some 66), (some (63, true)), (.pe (.lits 19 [(t 64), (t 65)]))⟩, ⟨(some 67), (some (63, true)), (.call 22 [(t 66)])⟩, ⟨(some 68), (some (63, true)), (.call 14 [(t 67)])⟩, ⟨(some 69), (some (63, true)), (.pe (.bin .int .eql (t 68) (i 30)))⟩, ⟨(some 70), none, (.pe (.pick (t 63) (t 69) (.lit (.bool false))))⟩, m 71 70, ⟨(some 72), (some (71, true)), (.load 19 true (t 13))⟩, ⟨(some 73), (some (71, true)), (.load 19 true (t 9))⟩, ⟨(some 74), (some (71, true)), (.load 19 true (t 10))⟩, ⟨(some 75), (some (71, true)), (.pe (.lits 19 [(t 72), (t 73), (t 74)]))⟩, ⟨(some 76), (some (71, true)), (.call 22 [(t 75)])⟩, ⟨(some 77), (some (71, true)), (.call 14 [(t 76)])⟩, ⟨(some 78), (some (71, true)), (.pe (.bin .int .eql (t 77) (i 0)))⟩, ⟨(some 79), none, (.pe (.pick (t 71) (t 78) (.lit (.bool false))))⟩, m 80 79, ⟨(some 81), (some (80, true)), (.load 19 true (t 9))⟩, ⟨(some 82), (some (80, true)), (.load 19 true (t 13))⟩, ⟨(some 83), (some (80, true)), (.pe (.lits 19 [(t 81), (t 82)]))⟩, ⟨(some 84), (some (80, true)), (.call 22 [(t 83)])⟩, ⟨(some 85), (some (80, true)), (.call 14 [(t 84)])⟩, ⟨(some 86), (some (80, true)), (.pe (.bin .int .eql (t 85) (i 30)))⟩, ⟨(some 87), none, (.pe (.pick (t 80) (t 86) (.lit (.bool false))))⟩, m 88 87, ⟨(some 89), (some (88, true)), (.pe (.mov (t 7)))⟩, ⟨(some 90), none, (.pe (.pick (t 88) (t 89) (.lit (.bool false))))⟩, m 6 90]) .ret))))))))))))
theorem r6 : resFunc Tryz.prog Tryz.f6 = some ⟨91, [(.tmp 6)], b6.strip⟩ := by kernel_rfl
end Go.Proofs.YthaekebedmoipaaGreatDoor.AM

/-
  DERIVED: THE SHELF's CONTRACTS AT THIS DUMP, IN PLAIN WORDS (tools/lay-plain.mjs out of 'YthaekebedmoipaaGreatDoorSh1.lean', which tools/lay-shelf.mjs wrote): THE SAME DECLARATIONS UNDER THE SAME NAMES: 'import', 'namespace', 'open', 'def', 'theorem' AND NOTHING ELSE: no command of the shelf's: FOR A HAND-IN. Each laying: the table of numbers ('.._ren') and one theorem, a field a fact of the dump's own or the kernel's comparison; each contract: ONE APPLICATION.
-/
namespace Go.Proofs
open Go.Shelf
def Tryz.laysItoa_ren : Go.Shelf.Ren := ⟨fun | 171 => 124 | 243 => 155 | 246 => 192 | 283 => 212 | 284 => 213 | 285 => 214 | 286 => 215 | 129 => 225 | 317 => 224 | 318 => 226 | 319 => 227 | 320 => 228 | 337 => 241 | 338 => 242 | n => n, fun | 3 => 3 | 9 => 9 | 2 => 2 | 4 => 4 | 171 => 243 | 0 => 0 | 53 => 244 | 37 => 22 | 5 => 5 | 173 => 247 | 212 => 253 | 51 => 254 | 20 => 20 | 213 => 255 | 46 => 140 | 232 => 267 | 233 => 268 | n => n, fun | 17 => 0 | 18 => 1 | 19 => 2 | n => n⟩
theorem Tryz.laysItoa : Go.Proofs.LaysM.n171 Tryz.prog Tryz.laysItoa_ren := {
  mixed := by kernel_rfl
  f129 := Tryz.func225.trans (congrArg some (by kernel_rfl))
  f171 := Tryz.func124.trans (congrArg some (by kernel_rfl))
  f243 := Tryz.func155.trans (congrArg some (by kernel_rfl))
  f246 := Tryz.func192.trans (congrArg some (by kernel_rfl))
  f283 := Tryz.func212.trans (congrArg some (by kernel_rfl))
  f284 := Tryz.func213.trans (congrArg some (by kernel_rfl))
  f285 := Tryz.func214.trans (congrArg some (by kernel_rfl))
  f286 := Tryz.func215.trans (congrArg some (by kernel_rfl))
  f317 := Tryz.func224.trans (congrArg some (by kernel_rfl))
  f318 := Tryz.func226.trans (congrArg some (by kernel_rfl))
  f319 := Tryz.func227.trans (congrArg some (by kernel_rfl))
  f320 := Tryz.func228.trans (congrArg some (by kernel_rfl))
  f337 := Tryz.func241.trans (congrArg some (by kernel_rfl))
  f338 := Tryz.func242.trans (congrArg some (by kernel_rfl))
  t0 := Tryz.underlying0
  a0 := Tryz.isAgg0
  z0 := Tryz.sizeOf0
  v0 := Tryz.zeroValue0
  t2 := Tryz.underlying2
  a2 := Tryz.isAgg2
  z2 := Tryz.sizeOf2
  v2 := Tryz.zeroValue2
  t3 := Tryz.underlying3
  a3 := Tryz.isAgg3
  z3 := Tryz.sizeOf3
  v3 := Tryz.zeroValue3
  t4 := Tryz.underlying4
  a4 := Tryz.isAgg4
  z4 := Tryz.sizeOf4
  v4 := Tryz.zeroValue4
  t5 := Tryz.underlying5
  a5 := Tryz.isAgg5
  z5 := Tryz.sizeOf5
  v5 := Tryz.zeroValue5
  t9 := Tryz.underlying9
  a9 := Tryz.isAgg9
  z9 := Tryz.sizeOf9
  v9 := Tryz.zeroValue9
  t20 := Tryz.underlying20
  a20 := Tryz.isAgg20
  z20 := Tryz.sizeOf20
  v20 := Tryz.zeroValue20
  t37 := Tryz.underlying22
  a37 := Tryz.isAgg22
  z37 := Tryz.sizeOf22
  v37 := Tryz.zeroValue22
  t46 := Tryz.underlying140
  a46 := Tryz.isAgg140
  z46 := Tryz.sizeOf140
  v46 := Tryz.zeroValue140
  t51 := Tryz.underlying254
  a51 := Tryz.isAgg254
  z51 := Tryz.sizeOf254
  v51 := Tryz.zeroValue254
  t53 := Tryz.underlying244
  a53 := Tryz.isAgg244
  z53 := Tryz.sizeOf244
  v53 := Tryz.zeroValue244
  t171 := Tryz.underlying243
  a171 := Tryz.isAgg243
  z171 := Tryz.sizeOf243
  v171 := Tryz.zeroValue243
  t173 := Tryz.underlying247
  a173 := Tryz.isAgg247
  z173 := Tryz.sizeOf247
  v173 := Tryz.zeroValue247
  t212 := Tryz.underlying253
  a212 := Tryz.isAgg253
  z212 := Tryz.sizeOf253
  v212 := Tryz.zeroValue253
  t213 := Tryz.underlying255
  a213 := Tryz.isAgg255
  z213 := Tryz.sizeOf255
  t232 := Tryz.underlying267
  a232 := Tryz.isAgg267
  z232 := Tryz.sizeOf267
  v232 := Tryz.zeroValue267
  t233 := Tryz.underlying268
  a233 := Tryz.isAgg268
  z233 := Tryz.sizeOf268
  v233 := Tryz.zeroValue268
  g17 := by kernel_rfl
  g18 := by kernel_rfl
  g19 := by kernel_rfl
  i0 := by kernel_rfl
  i2 := by kernel_rfl
  i3 := by kernel_rfl
  i4 := by kernel_rfl
  i5 := by kernel_rfl
  i9 := by kernel_rfl
  i20 := by kernel_rfl
  i37 := by kernel_rfl
  i46 := by kernel_rfl
  i51 := by kernel_rfl
  i53 := by kernel_rfl
  i171 := by kernel_rfl
  i173 := by kernel_rfl
  i212 := by kernel_rfl
  i232 := by kernel_rfl
  i233 := by kernel_rfl
  m17 := by kernel_rfl
  m18 := by kernel_rfl
  m19 := by kernel_rfl }
end Go.Proofs

/- Contracts: words, letters, operators' types. -/
set_option linter.unusedVariables false
set_option linter.unusedSimpArgs false
set_option maxRecDepth 100000
namespace Go.Proofs.YthaekebedmoipaaGreatDoor.AM
open Go Go.RowKit
variable {w0 : World} {base : Nat}

def strs (l : List Str) : List AV := l.map .str
def wSpaces : List Str := [[103, 108, 111, 98, 97, 108], [115, 104, 97, 114, 101, 100], [112, 114, 105, 118, 97, 116, 101]]
theorem d126 (st : St) : Det Tryz.prog w0 base 126 [] st (.sl (strs wSpaces) 3 .full) st := by
  refine det_self (enters_fn Tryz.func126 r126) fun hwf hfit => det_fn Tryz.func126 r126 rfl ?_
  unfold b126
  simp -dsimp -implicitDefEqProofs [strs, wSpaces]
  refine fin_pure hwf (fun p hp => ?_) (by simp [eraseA, eraseL])
  simp
def wTypes : List Str := [[105, 110, 116], [102, 105, 120], [98, 111, 111, 108]]
theorem d156 (st : St) : Det Tryz.prog w0 base 156 [] st (.sl (strs wTypes) 3 .full) st := by
  refine det_self (enters_fn Tryz.func156 r156) fun hwf hfit => det_fn Tryz.func156 r156 rfl ?_
  unfold b156
  simp -dsimp -implicitDefEqProofs [strs, wTypes]
  refine fin_pure hwf (fun p hp => ?_) (by simp [eraseA, eraseL])
  simp
def wUnaries : List Str := [[110, 101, 103], [110, 111, 116], [97, 98, 115], [102, 105, 120], [105, 110, 116]]
theorem d199 (st : St) : Det Tryz.prog w0 base 199 [] st (.sl (strs wUnaries) 5 .full) st := by
  refine det_self (enters_fn Tryz.func199 r199) fun hwf hfit => det_fn Tryz.func199 r199 rfl ?_
  unfold b199
  simp -dsimp -implicitDefEqProofs [strs, wUnaries]
  refine fin_pure hwf (fun p hp => ?_) (by simp [eraseA, eraseL])
  simp
def wOthers : List Str := [[107, 101, 114, 110, 101, 108], [103, 114, 111, 117, 112], [115, 117, 98], [112, 97, 114, 97, 109], [102, 117, 110, 99], [98, 111, 111, 108], [118, 97, 114], [105, 102], [101, 108, 115, 101], [119, 104, 105, 108, 101], [109, 111, 115, 116], [98, 114, 101, 97, 107], [99, 111, 110, 116, 105, 110, 117, 101], [114, 101, 116, 117, 114, 110], [98, 97, 114, 114, 105, 101, 114], [102, 101, 110, 99, 101], [100, 101, 118, 105, 99, 101], [97, 116, 111, 109, 105, 99], [116, 114, 117, 101], [102, 97, 108, 115, 101]]
theorem d207 (st : St) : Det Tryz.prog w0 base 207 [] st (.sl (strs wOthers) 20 .full) st := by
  refine det_self (enters_fn Tryz.func207 r207) fun hwf hfit => det_fn Tryz.func207 r207 rfl ?_
  unfold b207
  simp -dsimp -implicitDefEqProofs [strs, wOthers]
  refine fin_pure hwf (fun p hp => ?_) (by simp [eraseA, eraseL])
  simp
def wCollects : List Str := [[98, 97, 108, 108, 111, 116], [97, 110, 121], [97, 108, 108], [115, 104, 117, 102, 102, 108, 101], [115, 99, 97, 110], [115, 117, 109]]
theorem d208 (st : St) : Det Tryz.prog w0 base 208 [] st (.sl (strs wCollects) 6 .full) st := by
  refine det_self (enters_fn Tryz.func208 r208) fun hwf hfit => det_fn Tryz.func208 r208 rfl ?_
  unfold b208
  simp -dsimp -implicitDefEqProofs [strs, wCollects]
  refine fin_pure hwf (fun p hp => ?_) (by simp [eraseA, eraseL])
  simp
def wAtomics : List Str := [[97, 100, 100], [109, 105, 110], [109, 97, 120], [97, 110, 100], [111, 114], [120, 111, 114]]
theorem d209 (st : St) : Det Tryz.prog w0 base 209 [] st (.sl (strs wAtomics) 6 .full) st := by
  refine det_self (enters_fn Tryz.func209 r209) fun hwf hfit => det_fn Tryz.func209 r209 rfl ?_
  unfold b209
  simp -dsimp -implicitDefEqProofs [strs, wAtomics]
  refine fin_pure hwf (fun p hp => ?_) (by simp [eraseA, eraseL])
  simp
def wIds : List Str := [[64, 105, 116, 101, 109], [64, 108, 111, 99, 97, 108], [64, 103, 114, 111, 117, 112], [64, 105, 116, 101, 109, 115], [64, 115, 105, 122, 101], [64, 108, 97, 110, 101], [64, 115, 117, 98]]
theorem d198 (st : St) : Det Tryz.prog w0 base 198 [] st (.sl (strs wIds) 7 .full) st := by
  refine det_self (enters_fn Tryz.func198 r198) fun hwf hfit => det_fn Tryz.func198 r198 rfl ?_
  unfold b198
  simp -dsimp -implicitDefEqProofs [strs, wIds]
  refine fin_pure hwf (fun p hp => ?_) (by simp [eraseA, eraseL])
  simp
def wChoices : List Str := [[109, 105, 110], [109, 97, 120]]
theorem d220 (st : St) : Det Tryz.prog w0 base 220 [] st (.sl (strs wChoices) 2 .full) st := by
  refine det_self (enters_fn Tryz.func220 r220) fun hwf hfit => det_fn Tryz.func220 r220 rfl ?_
  unfold b220
  simp -dsimp -implicitDefEqProofs [strs, wChoices]
  refine fin_pure hwf (fun p hp => ?_) (by simp [eraseA, eraseL])
  simp
def wBinaries : List Str := [[43], [45], [42], [47], [37], [42, 46], [47, 46], [38], [124], [94], [60, 60], [62, 62], [], [], [61, 61], [33, 61], [60], [60, 61], [62], [62, 61]]
theorem d221 (st : St) : Det Tryz.prog w0 base 221 [] st (.sl (strs wBinaries) 20 .full) st := by
  refine det_self (enters_fn Tryz.func221 r221) fun hwf hfit => det_fn Tryz.func221 r221 rfl ?_
  unfold b221
  simp -dsimp -implicitDefEqProofs [strs, wBinaries]
  refine fin_pure hwf (fun p hp => ?_) (by simp [eraseA, eraseL])
  simp
def wScopes : List Str := [[103, 114, 111, 117, 112], [100, 101, 118, 105, 99, 101]]
theorem d231 (st : St) : Det Tryz.prog w0 base 231 [] st (.sl (strs wScopes) 2 .full) st := by
  refine det_self (enters_fn Tryz.func231 r231) fun hwf hfit => det_fn Tryz.func231 r231 rfl ?_
  unfold b231
  simp -dsimp -implicitDefEqProofs [strs, wScopes]
  refine fin_pure hwf (fun p hp => ?_) (by simp [eraseA, eraseL])
  simp

theorem d50 (st : St) (t : Int) : Det Tryz.prog w0 base 50 [vi t] st (.bool (t == 1 || t == 2 || t == 3)) st := by
  refine det_self (enters_fn Tryz.func50 r50) fun hwf hfit => det_fn Tryz.func50 r50 rfl ?_
  unfold b50
  simp -dsimp -implicitDefEqProofs
  repeat' (first | (refine Br_iff (fun hb => ?_) (fun hb => ?_) <;> simp -dsimp -implicitDefEqProofs [*]))
  all_goals (refine fin_pure hwf (fun p hp => ?_) ?_ <;> simp_all [eraseA])
theorem or32 (c : UInt8) : IntKind.u8.wrap ((c.toNat % 2 ^ IntKind.u8.bits ||| 32 % 2 ^ IntKind.u8.bits : Nat) : Int) = ((c.toNat ||| 32 : Nat) : Int) := by
  have : ∀ c : _root_.Fin 256, IntKind.u8.wrap ((c.val % 2 ^ IntKind.u8.bits ||| 32 % 2 ^ IntKind.u8.bits : Nat) : Int) = ((c.val ||| 32 : Nat) : Int) := by decide +kernel
  exact this ⟨c.toNat, c.toNat_lt⟩
def isLetterP (c : UInt8) : Bool := decide (97 ≤ ((c.toNat ||| 32 : Nat) : Int)) && decide (((c.toNat ||| 32 : Nat) : Int) ≤ 122)
def isDigitP (c : UInt8) : Bool := decide (48 ≤ (c.toNat : Int)) && decide ((c.toNat : Int) ≤ 57)
def vb (c : UInt8) : AV := .int .u8 c.toNat
theorem d189 (st : St) (c : UInt8) : Det Tryz.prog w0 base 189 [vb c] st (.bool (isLetterP c)) st := by
  refine det_self (enters_fn Tryz.func189 r189) fun hwf hfit => det_fn Tryz.func189 r189 rfl ?_
  unfold b189 isLetterP
  have h := or32 c
  generalize ((c.toNat ||| 32 : Nat) : Int) = x at *
  simp -dsimp -implicitDefEqProofs [vb, h]
  repeat' (first | (refine Br_iff (fun hb => ?_) (fun hb => ?_) <;> simp -dsimp -implicitDefEqProofs [*, vb]))
  all_goals (refine fin_pure hwf (fun p hp => ?_) ?_ <;> simp_all [eraseA] <;> omega)
theorem d211 (st : St) (c : UInt8) : Det Tryz.prog w0 base 211 [vb c] st (.bool (isDigitP c)) st := by
  refine det_self (enters_fn Tryz.func211 r211) fun hwf hfit => det_fn Tryz.func211 r211 rfl ?_
  unfold b211 isDigitP vb
  generalize (c.toNat : Int) = x at *
  simp -dsimp -implicitDefEqProofs
  repeat' (first | (refine Br_iff (fun hb => ?_) (fun hb => ?_) <;> simp -dsimp -implicitDefEqProofs [*, vb]))
  all_goals (refine fin_pure hwf (fun p hp => ?_) ?_ <;> simp_all [eraseA] <;> omega)
end Go.Proofs.YthaekebedmoipaaGreatDoor.AM

/- Contracts: package slices at strings, ints, truth values. -/
set_option linter.unusedVariables false
set_option linter.unusedSimpArgs false
set_option maxRecDepth 100000
namespace Go.Proofs.YthaekebedmoipaaGreatDoor.AM
open Go Go.RowKit
variable {w0 : World} {base : Nat}

def indexP {α : Type} [BEq α] (x : α) : List α → Int
  | [] => -1
  | y :: l => if y == x then 0 else if indexP x l = -1 then -1 else indexP x l + 1

theorem index_drop {α : Type} [BEq α] (x : α) (l : List α) (j : Nat) (y : α) (h : l[j]? = some y) : indexP x (l.drop j) = if y == x then 0 else if indexP x (l.drop (j + 1)) = -1 then -1 else indexP x (l.drop (j + 1)) + 1 := by
  obtain ⟨hlt, e⟩ := List.getElem?_eq_some_iff.1 h
  rw [List.drop_eq_getElem_cons hlt, e]
  rfl
theorem index_ge {α : Type} [BEq α] (x : α) (l : List α) : -1 ≤ indexP x l := by
  induction l with
  | nil => simp [indexP]
  | cons y l ih => simp only [indexP]; split <;> (try split) <;> omega

theorem d223 (st : St) (l : List Str) (x : Str) : Det Tryz.prog w0 base 223 [.sl (strs l) l.length .no, .str x] st (vi (indexP x l)) st := by
  refine det_self (enters_fn Tryz.func223 r223) fun hwf hfit => det_fn Tryz.func223 r223 rfl ?_
  have hlen : l.length ≤ big := hfit.1.1
  unfold big at hlen
  unfold b223 strs
  simp -dsimp -implicitDefEqProofs
  refine range_by (d := 9) (x := 8) (n := 7) (y := 18) l.length (fun j e s => (indexP x l = if indexP x (l.drop j) = -1 then -1 else indexP x (l.drop j) + j) ∧ s.objs = st.objs) hlen rfl rfl ⟨by simp [indexP], rfl⟩ rfl (fun j e e' s k h _ => h) ?_ ?_
  · rintro j e s hj hf hx ⟨hI, hs⟩
    have e1 := hf 1 rfl
    have e0 := hf 0 rfl
    simp at e1 e0
    obtain ⟨y, hy⟩ : ∃ y, l[j]? = some y := ⟨_, List.getElem?_eq_getElem hj⟩
    have hy' : l[j] = y := by simpa [hj] using hy
    have hd := index_drop x l j y hy
    have hg := index_ge x (l.drop (j + 1))
    simp -dsimp -implicitDefEqProofs [e1, e0, hx, hj, hy', hy]
    refine Br_iff (fun hb => ?_) (fun hb => ?_)
    · simp -dsimp -implicitDefEqProofs [e1, e0, hx, hj, hy']
      refine fin_pure hwf (fun p hp => ?_) ?_
      · simp [hs]
      · have : y = x := by simp_all
        simp_all [eraseA]
    · simp -dsimp -implicitDefEqProofs
      refine hold ⟨?_, by simp [hs]⟩
      have : (y == x) = false := by
        simp at hb ⊢
        exact fun h => hb h.symm
      rw [this] at hd
      rw [hI, hd]
      push_cast
      try simp only [Bool.false_eq_true, if_false]
      split <;> (try split) <;> (try split) <;> omega
  · rintro e s hf ⟨hI, hs⟩
    simp -dsimp -implicitDefEqProofs
    refine fin_pure hwf (fun p hp => ?_) ?_
    · simp [hs]
    · simp [indexP] at hI
      simp [hI, eraseA]
theorem d194 (st : St) (l : List Int) (x : Int) : Det Tryz.prog w0 base 194 [.sl (l.map (AV.int .i64)) l.length .no, .int .i64 x] st (vi (indexP x l)) st := by
  refine det_self (enters_fn Tryz.func194 r194) fun hwf hfit => det_fn Tryz.func194 r194 rfl ?_
  have hlen : l.length ≤ big := hfit.1.1
  unfold big at hlen
  unfold b194
  simp -dsimp -implicitDefEqProofs
  refine range_by (d := 9) (x := 8) (n := 7) (y := 18) l.length (fun j e s => (indexP x l = if indexP x (l.drop j) = -1 then -1 else indexP x (l.drop j) + j) ∧ s.objs = st.objs) hlen rfl rfl ⟨by simp [indexP], rfl⟩ rfl (fun j e e' s k h _ => h) ?_ ?_
  · rintro j e s hj hf hx ⟨hI, hs⟩
    have e1 := hf 1 rfl
    have e0 := hf 0 rfl
    simp at e1 e0
    obtain ⟨y, hy⟩ : ∃ y, l[j]? = some y := ⟨_, List.getElem?_eq_getElem hj⟩
    have hy' : l[j] = y := by simpa [hj] using hy
    have hd := index_drop x l j y hy
    have hg := index_ge x (l.drop (j + 1))
    simp -dsimp -implicitDefEqProofs [e1, e0, hx, hj, hy', hy]
    refine Br_iff (fun hb => ?_) (fun hb => ?_)
    · simp -dsimp -implicitDefEqProofs [e1, e0, hx, hj, hy']
      refine fin_pure hwf (fun p hp => ?_) ?_
      · simp [hs]
      · have : y = x := by simp_all
        simp_all [eraseA]
    · simp -dsimp -implicitDefEqProofs
      refine hold ⟨?_, by simp [hs]⟩
      have : (y == x) = false := by
        simp at hb ⊢
        exact fun h => hb h.symm
      rw [this] at hd
      rw [hI, hd]
      push_cast
      try simp only [Bool.false_eq_true, if_false]
      split <;> (try split) <;> (try split) <;> omega
  · rintro e s hf ⟨hI, hs⟩
    simp -dsimp -implicitDefEqProofs
    refine fin_pure hwf (fun p hp => ?_) ?_
    · simp [hs]
    · simp [indexP] at hI
      simp [hI, eraseA]
theorem d243 (st : St) (l : List Bool) (x : Bool) : Det Tryz.prog w0 base 243 [.sl (l.map AV.bool) l.length .no, .bool x] st (vi (indexP x l)) st := by
  refine det_self (enters_fn Tryz.func243 r243) fun hwf hfit => det_fn Tryz.func243 r243 rfl ?_
  have hlen : l.length ≤ big := hfit.1.1
  unfold big at hlen
  unfold b243
  simp -dsimp -implicitDefEqProofs
  refine range_by (d := 9) (x := 8) (n := 7) (y := 18) l.length (fun j e s => (indexP x l = if indexP x (l.drop j) = -1 then -1 else indexP x (l.drop j) + j) ∧ s.objs = st.objs) hlen rfl rfl ⟨by simp [indexP], rfl⟩ rfl (fun j e e' s k h _ => h) ?_ ?_
  · rintro j e s hj hf hx ⟨hI, hs⟩
    have e1 := hf 1 rfl
    have e0 := hf 0 rfl
    simp at e1 e0
    obtain ⟨y, hy⟩ : ∃ y, l[j]? = some y := ⟨_, List.getElem?_eq_getElem hj⟩
    have hy' : l[j] = y := by simpa [hj] using hy
    have hd := index_drop x l j y hy
    have hg := index_ge x (l.drop (j + 1))
    simp -dsimp -implicitDefEqProofs [e1, e0, hx, hj, hy', hy]
    refine Br_iff (fun hb => ?_) (fun hb => ?_)
    · simp -dsimp -implicitDefEqProofs [e1, e0, hx, hj, hy']
      refine fin_pure hwf (fun p hp => ?_) ?_
      · simp [hs]
      · have : y = x := by simp_all
        simp_all [eraseA]
    · simp -dsimp -implicitDefEqProofs
      refine hold ⟨?_, by simp [hs]⟩
      have : (y == x) = false := by
        simp at hb ⊢
        exact fun h => hb h.symm
      rw [this] at hd
      rw [hI, hd]
      push_cast
      try simp only [Bool.false_eq_true, if_false]
      split <;> (try split) <;> (try split) <;> omega
  · rintro e s hf ⟨hI, hs⟩
    simp -dsimp -implicitDefEqProofs
    refine fin_pure hwf (fun p hp => ?_) ?_
    · simp [hs]
    · simp [indexP] at hI
      simp [hI, eraseA]
theorem index_mem {α : Type} [BEq α] [LawfulBEq α] (x : α) : ∀ l : List α, 0 ≤ indexP x l ↔ x ∈ l
  | [] => by simp [indexP]
  | y :: l => by
    have ih := index_mem x l
    have hg := index_ge x l
    simp only [indexP, List.mem_cons]
    by_cases h : y = x
    · simp [h]
    · have h' : ¬ x = y := fun e => h e.symm
      simp [h, h']
      split
      · rw [← ih]; omega
      · rw [← ih]; omega
theorem bare_210 (l : List Str) : AV.bareL (strs l) = strs l := by
  induction l with
  | nil => simp [AV.bareL, strs]
  | cons x l ih => simp [AV.bareL, AV.bare, strs] at ih ⊢; exact ih
theorem d210 (st : St) (l : List Str) (x : Str) : Det Tryz.prog w0 base 210 [.sl (strs l) l.length .no, .str x] st (.bool (decide (x ∈ l))) st := by
  refine det_self (enters_fn Tryz.func210 r210) fun hwf hfit => det_fn Tryz.func210 r210 rfl ?_
  unfold b210
  simp -dsimp -implicitDefEqProofs
  refine call_bare (d223 _ l x) (by simp [AV.bareL, AV.bare, bare_210]) ?_
  simp -dsimp -implicitDefEqProofs
  refine fin_pure hwf (fun p hp => ?_) ?_
  · simp
  · simp [eraseA, index_mem]
theorem bare_159 (l : List Int) : AV.bareL (l.map (AV.int .i64)) = l.map (AV.int .i64) := by
  induction l with
  | nil => simp [AV.bareL]
  | cons x l ih => simp [AV.bareL, AV.bare] at ih ⊢; exact ih
theorem d159 (st : St) (l : List Int) (x : Int) : Det Tryz.prog w0 base 159 [.sl (l.map (AV.int .i64)) l.length .no, .int .i64 x] st (.bool (decide (x ∈ l))) st := by
  refine det_self (enters_fn Tryz.func159 r159) fun hwf hfit => det_fn Tryz.func159 r159 rfl ?_
  unfold b159
  simp -dsimp -implicitDefEqProofs
  refine call_bare (d194 _ l x) (by simp [AV.bareL, AV.bare, bare_159]) ?_
  simp -dsimp -implicitDefEqProofs
  refine fin_pure hwf (fun p hp => ?_) ?_
  · simp
  · simp [eraseA, index_mem]
theorem bare_230 (l : List Bool) : AV.bareL (l.map AV.bool) = l.map AV.bool := by
  induction l with
  | nil => simp [AV.bareL]
  | cons x l ih => simp [AV.bareL, AV.bare] at ih ⊢; exact ih
theorem d230 (st : St) (l : List Bool) (x : Bool) : Det Tryz.prog w0 base 230 [.sl (l.map AV.bool) l.length .no, .bool x] st (.bool (decide (x ∈ l))) st := by
  refine det_self (enters_fn Tryz.func230 r230) fun hwf hfit => det_fn Tryz.func230 r230 rfl ?_
  unfold b230
  simp -dsimp -implicitDefEqProofs
  refine call_bare (d243 _ l x) (by simp [AV.bareL, AV.bare, bare_230]) ?_
  simp -dsimp -implicitDefEqProofs
  refine fin_pure hwf (fun p hp => ?_) ?_
  · simp
  · simp [eraseA, index_mem]
end Go.Proofs.YthaekebedmoipaaGreatDoor.AM

/- Contracts: keywords and names. -/
set_option linter.unusedVariables false
set_option linter.unusedSimpArgs false
set_option maxRecDepth 100000
namespace Go.Proofs.YthaekebedmoipaaGreatDoor.AM
open Go Go.RowKit
variable {w0 : World} {base : Nat}

def wordLists : List (List Str) := [wOthers, wUnaries, wCollects, wAtomics, wTypes, wSpaces]
def keywordP (s : Str) : Bool := wordLists.any fun l => decide (s ∈ l)
def slw (l : List Str) : AV := .sl (strs l) l.length .full

theorem d190 (st : St) (x : Str) : Det Tryz.prog w0 base 190 [.str x] st (.bool (keywordP x)) st := by
  refine det_self (enters_fn Tryz.func190 r190) fun hwf hfit => det_fn Tryz.func190 r190 rfl ?_
  unfold b190
  simp -dsimp -implicitDefEqProofs
  refine call_of (d207 _) ?_
  simp -dsimp -implicitDefEqProofs
  refine call_of (d199 _) ?_
  simp -dsimp -implicitDefEqProofs
  refine call_of (d208 _) ?_
  simp -dsimp -implicitDefEqProofs
  refine call_of (d209 _) ?_
  simp -dsimp -implicitDefEqProofs
  refine call_of (d156 _) ?_
  simp -dsimp -implicitDefEqProofs
  refine call_of (d126 _) ?_
  simp -dsimp -implicitDefEqProofs
  refine range_by (d := 14) (x := 13) (n := 12) (y := 20) 6 (fun j e s => (∀ i l, i < j → wordLists[i]? = some l → x ∉ l) ∧ s.objs = st.objs) (by decide) rfl rfl ⟨by simp, rfl⟩ rfl (fun j e e' s k h _ => h) ?_ ?_
  · rintro j e s hj hf hx ⟨hI, hs⟩
    have e11 : e 11 = .sl (wordLists.map slw) 6 .full := hf 11 rfl
    have e0 := hf 0 rfl
    simp at e0
    obtain ⟨y, hy⟩ : ∃ y, wordLists[j]? = some y := ⟨_, List.getElem?_eq_getElem hj⟩
    have hy2 : (wordLists.map slw)[j]? = some (slw y) := by rw [List.getElem?_map, hy]; rfl
    simp -dsimp -implicitDefEqProofs [e11, e0, hx, hy2]
    rw [if_pos (by omega)]
    simp -dsimp -implicitDefEqProofs [hy, slw]
    refine call_bare (d210 _ y x) (by simp [AV.bareL, AV.bare, bare_210, e0]) ?_
    simp -dsimp -implicitDefEqProofs
    refine Br_iff (fun hb => ?_) (fun hb => ?_)
    · simp -dsimp -implicitDefEqProofs
      refine fin_pure hwf (fun p hp => ?_) ?_
      · simp [hs]
      · have : keywordP x = true := by
          simp only [keywordP, List.any_eq_true]
          exact ⟨y, List.mem_of_getElem? hy, hb⟩
        simp [eraseA, this]
    · simp -dsimp -implicitDefEqProofs
      refine hold ⟨?_, by simp [hs]⟩
      intro i l hi hl
      rcases Nat.lt_succ_iff_lt_or_eq.1 hi with h | rfl
      · exact hI i l h hl
      · rw [hy] at hl; cases hl; simpa using hb
  · rintro e s hf ⟨hI, hs⟩
    simp -dsimp -implicitDefEqProofs
    refine fin_pure hwf (fun p hp => ?_) ?_
    · simp [hs]
    · have : keywordP x = false := by
        simp only [keywordP, List.any_eq_false]
        intro l hl
        obtain ⟨i, hi, e⟩ := List.getElem_of_mem hl
        simpa using hI i l hi (by rw [List.getElem?_eq_getElem hi, e])
      simp [eraseA, this]

def isWordP (c : UInt8) : Bool := isLetterP c || isDigitP c
theorem d191 (st : St) (c : UInt8) : Det Tryz.prog w0 base 191 [vb c] st (.bool (isWordP c)) st := by
  refine det_self (enters_fn Tryz.func191 r191) fun hwf hfit => det_fn Tryz.func191 r191 rfl ?_
  unfold b191
  simp -dsimp -implicitDefEqProofs
  refine call_of (d189 _ c) ?_
  simp -dsimp -implicitDefEqProofs
  refine Br_iff (fun hb => ?_) (fun hb => ?_)
  · simp -dsimp -implicitDefEqProofs [hb]
    refine fin_pure hwf (fun p hp => ?_) ?_ <;> simp [eraseA, isWordP, hb]
  · simp -dsimp -implicitDefEqProofs [hb]
    refine call_of (d211 _ c) ?_
    simp -dsimp -implicitDefEqProofs [hb]
    refine fin_pure hwf (fun p hp => ?_) ?_ <;> simp [eraseA, isWordP, hb]

def isNameP : Str → Bool
  | [] => false
  | c :: s => decide ((c :: s).length ≤ 12) && isLetterP c && !keywordP (c :: s) && (c :: s).all isWordP
theorem d154 (st : St) (x : Str) : Det Tryz.prog w0 base 154 [.str x] st (.bool (isNameP x)) st := by
  refine det_self (enters_fn Tryz.func154 r154) fun hwf hfit => det_fn Tryz.func154 r154 rfl ?_
  have hlen : x.length ≤ 9223372036854775807 := hfit.1
  unfold b154
  cases x with
  | nil =>
    simp -dsimp -implicitDefEqProofs
    refine fin_pure hwf (fun p hp => ?_) ?_ <;> simp [eraseA, isNameP]
  | cons c x =>
    simp -dsimp -implicitDefEqProofs
    refine Br_iff (fun hb => ?_) (fun hb => ?_)
    · simp -dsimp -implicitDefEqProofs [hb]
      refine fin_pure hwf (fun p hp => ?_) ?_
      · simp
      · have h' : ¬ (c :: x).length ≤ 12 := by simp at hb ⊢; omega
        simp only [eraseA, isNameP, h', decide_false, Bool.false_and]
    · have h' : (c :: x).length ≤ 12 := by simp at hb ⊢; omega
      simp -dsimp -implicitDefEqProofs [hb]
      refine call_of (d189 _ c) ?_
      simp -dsimp -implicitDefEqProofs [hb]
      refine Br_iff (fun hc => ?_) (fun hc => ?_)
      · simp -dsimp -implicitDefEqProofs [hc]
        refine fin_pure hwf (fun p hp => ?_) ?_
        · simp
        · have hc' : isLetterP c = false := by simpa using hc
          simp only [eraseA, isNameP, hc', Bool.and_false, Bool.false_and]
      · simp -dsimp -implicitDefEqProofs [hc]
        refine call_of (d190 _ (c :: x)) ?_
        simp -dsimp -implicitDefEqProofs [hc]
        refine Br_iff (fun hd => ?_) (fun hd => ?_)
        · simp -dsimp -implicitDefEqProofs
          refine fin_pure hwf (fun p hp => ?_) ?_
          · simp
          · simp only [eraseA, isNameP, hd, Bool.not_true, Bool.and_false, Bool.false_and]
        · simp -dsimp -implicitDefEqProofs
          generalize hs : c :: x = s0 at *
          have hres : isNameP s0 = s0.all isWordP := by
            subst hs
            simp at hc
            simp only [isNameP, hd, hc, h', decide_true, Bool.not_false, Bool.and_self, Bool.true_and]
          refine range_by (d := 24) (x := 23) (n := 22) (y := 31) s0.length (fun j e s => (∀ i c, i < j → s0[i]? = some c → isWordP c = true) ∧ s.objs = st.objs) (by omega) (by rw [← hs]; simp) rfl ⟨by simp, rfl⟩ rfl (fun j e e' s k h _ => h) ?_ ?_
          · rintro j e s hj hf hx ⟨hI, hs⟩
            have e0 := hf 0 rfl
            simp at e0
            obtain ⟨y, hy⟩ : ∃ y, s0[j]? = some y := ⟨_, List.getElem?_eq_getElem hj⟩
            have hy' : s0[j] = y := by simpa [hj] using hy
            simp -dsimp -implicitDefEqProofs [e0, hx, hy, hj, hy']
            refine call_of (d191 _ y) ?_
            simp -dsimp -implicitDefEqProofs
            refine Br_iff (fun hb => ?_) (fun hb => ?_)
            · simp -dsimp -implicitDefEqProofs
              refine fin_pure hwf (fun p hp => ?_) ?_
              · simp [hs]
              · have : s0.all isWordP = false := by
                  simp only [List.all_eq_false]
                  exact ⟨y, List.mem_of_getElem? hy, by simpa using hb⟩
                simp [eraseA, hres, this]
            · simp -dsimp -implicitDefEqProofs
              refine hold ⟨?_, by simp [hs]⟩
              intro i l hi hl
              rcases Nat.lt_succ_iff_lt_or_eq.1 hi with h | rfl
              · exact hI i l h hl
              · rw [hy] at hl; cases hl; simpa using hb
          · rintro e s hf ⟨hI, hs⟩
            simp -dsimp -implicitDefEqProofs
            refine fin_pure hwf (fun p hp => ?_) ?_
            · simp [hs]
            · have : s0.all isWordP = true := by
                simp only [List.all_eq_true]
                intro l hl
                obtain ⟨i, hi, e⟩ := List.getElem_of_mem hl
                exact hI i l hi (by rw [List.getElem?_eq_getElem hi, e])
              simp [eraseA, hres, this]
end Go.Proofs.YthaekebedmoipaaGreatDoor.AM

/- Contracts of what is not resolved: strings.Builder.copyCheck. -/
set_option linter.unusedVariables false
set_option linter.unusedSimpArgs false
namespace Go.Proofs.YthaekebedmoipaaGreatDoor.AM
open Go Go.RowKit
variable {w0 : World} {base : Nat}

theorem enters188 : Enters Tryz.prog 188 := ⟨Tryz.f188, Tryz.func188, by kernel_rfl, by decide⟩
theorem lies175 : (Tryz.prog.info? 177).map (·.size) = some 2 := by kernel_rfl

set_option maxHeartbeats 1000000 in
set_option maxRecDepth 100000 in
theorem walk188_used (b : Nat) (w : World) (h0 : w.cell? ⟨b, 0, none⟩ = some (.pointer (some ⟨b, 0, none⟩))) :
    Calls Tryz.prog 188 #[.pointer (some ⟨b, 0, none⟩)] w fun e w' => e = .returned (.tuple #[]) ∧ w' = w := by
  obtain ⟨j, hj, _⟩ := Option.map_eq_some_iff.1 lies175
  go_enter Tryz.func188, Tryz.ntmps188
  go_wp2
  rw [Lib.run_neq_ptr_same w _ Tryz.underlying175 hj]
  go_wp2
  go_end0
  exact ⟨rfl, rfl⟩

set_option maxHeartbeats 1000000 in
set_option maxRecDepth 100000 in
theorem walk188_fresh (b n : Nat) (T : TypeId) (w : World) (h0 : w.cell? ⟨b, 0, none⟩ = some (.pointer none)) (hsh : w.shape? b = some (T, n)) (hn : 0 < n) (hl : liesAt Tryz.prog Tryz.prog.depth T (n / Tryz.prog.cellsOf T) 0 177 1 = true) (hfz : w.frozen? ⟨b, 0, none⟩ = false) :
    Calls Tryz.prog 188 #[.pointer (some ⟨b, 0, none⟩)] w fun e w' => e = .returned (.tuple #[]) ∧ w' = w.setCell ⟨b, 0, none⟩ (.pointer (some ⟨b, 0, none⟩)) := by
  obtain ⟨j, hj, hjs⟩ := Option.map_eq_some_iff.1 lies175
  go_enter Tryz.func188, Tryz.ntmps188
  go_wp2
  rw [Lib.run_to_unsafe w ⟨b, 0, none⟩ Tryz.underlying175 Tryz.underlying240 hj (by rw [hjs]; decide) hsh hn]
  simp only [Result.andThen]
  rw [Oper.upon_value]
  go_wp2
  rw [run_callFunc_extern Tryz.func206 (by kernel_rfl) (by kernel_rfl) (by kernel_rfl) (e := Extern.AbiNoEscape.same) (by kernel_rfl)]
  rw [Lib.run_noEscape]
  simp only [Result.andThen]
  rw [Oper.upon_value]
  go_wp2
  rw [Lib.run_from_unsafe w ⟨b, 0, none⟩ Tryz.underlying240 Tryz.underlying175 hj hsh hl]
  simp only [Result.andThen]
  rw [Oper.upon_value]
  go_wp2
  go_end0
  exact ⟨rfl, rfl⟩

theorem d188 {st : St} {T : TypeId} {o : Nat} {a : AV} {cs : List AV} (ho : st.objs o = some (.cells T (a :: cs))) (ha : a = .nilp ∨ a = .ptr o 0) (hl : liesAt Tryz.prog Tryz.prog.depth T ((cs.length + 1) / Tryz.prog.cellsOf T) 0 177 1 = true) :
    Det Tryz.prog w0 base 188 [.ptr o 0] st (.tuple []) (st.put o (.cells T (.ptr o 0 :: cs))) := by
  refine ⟨enters188, Nat.le_refl _, fun p hp hn => ?_, fun X G w us hX hI hR => ?_⟩
  · simp only [put_objs]
    split
    · rename_i e; rw [e, ho] at hn; cases hn
    · exact hn
  · obtain ⟨u, us', rfl, hu, rfl⟩ := hR
    obtain ⟨hused, hob⟩ := hI.objs o _ (add_some ho)
    obtain ⟨h1, ad, rfl, h2⟩ := hu
    obtain ⟨b, vs, g1, g2, g3, g4, g5, g6, g7⟩ := hob
    have := h2 b g1
    subst this
    rw [List.take_of_length_le (by simp [g7])] at g6
    obtain ⟨v, vs', hv, hone, hva, hvs⟩ := g6
    have hcell : w.cell? ⟨b, 0, none⟩ = some v := by
      rw [Lib.cell_of_heap g5]
      rw [← Array.getElem?_toList, hv]; rfl
    have hsz : vs.size = cs.length + 1 := by simpa using g7
    have hput : (st.add X).put o (.cells T (.ptr o 0 :: cs)) = (st.put o (.cells T (.ptr o 0 :: cs))).add X := (add_put _ _ _ _).symm
    rcases ha with rfl | rfl
    · have hv0 : v = .pointer none := hva
      subst hv0
      obtain ⟨w', hrun, he, hinv⟩ := store_sound (P := Tryz.prog) (t := 175) (n := 1) (x := .ptr o 0) (y := .ptr o 0) (v := .pointer (some ⟨b, 0, none⟩)) (u := .pointer (some ⟨b, 0, none⟩)) hI ⟨h1, _, rfl, h2⟩ ⟨h1, _, rfl, h2⟩ (by kernel_rfl) rfl (add_some ho) rfl rfl rfl (by simp)
      have hw : w' = w.setCell ⟨b, 0, none⟩ (.pointer (some ⟨b, 0, none⟩)) := by
        simp [Instr.storeAt, Instr.sureAddr, storeVar, Tryz.sizeOf175, storeCells, Value.cells] at hrun
        have hst : (store ((⟨b, 0, none⟩ : Addr).add 0) (.pointer (some ⟨b, 0, none⟩))).run Tryz.prog w = .ok () (w.setCell ⟨b, 0, none⟩ (.pointer (some ⟨b, 0, none⟩))) := by
          simp only [add_plain, Nat.add_zero]
          have hfz : w.frozen? ⟨b, 0, none⟩ = false := by simp [World.frozen?, g5]
          rw [run_store _ _ _ _ _ rfl]
          simp [hcell, hfz]
        rw [hst] at hrun
        cases hrun
        rfl
      subst hw
      refine (walk188_fresh b vs.size T w hcell (by simp [World.shape?, g5]) (by omega) (by rw [hsz]; exact hl) (by simp [World.frozen?, g5])).mono ?_
      rintro e w2 ⟨rfl, rfl⟩
      refine ⟨_, G, rfl, he, fun _ _ h => h, ?_, [], rfl, rfl⟩
      rw [← hput]
      exact hinv
    · obtain ⟨_, ad, rfl, h3⟩ := hva
      have := h3 b g1
      subst this
      refine (walk188_used b w hcell).mono ?_
      rintro e w2 ⟨rfl, rfl⟩
      refine ⟨_, G, rfl, Ext.refl _ _ _, fun _ _ h => h, ?_, [], rfl, rfl⟩
      have : st.put o (.cells T (.ptr o 0 :: cs)) = st := by
        simp only [St.put]
        cases st with
        | mk objs next =>
          simp only [St.mk.injEq, and_true]
          funext p
          simp only [upd]
          split
          · rename_i e; rw [e]; exact ho.symm
          · rfl
      rw [this]
      exact hI
end Go.Proofs.YthaekebedmoipaaGreatDoor.AM

/- Contracts of what is not resolved: strconv.Itoa, strconv.FormatInt. -/
set_option linter.unusedVariables false
set_option linter.unusedSimpArgs false
namespace Go.Proofs.YthaekebedmoipaaGreatDoor.AM
open Go Go.RowKit
variable {w0 : World} {base : Nat}

/-- The table of powers lies in the first world. -/
structure Tabs (w0 : World) (base : Nat) : Prop where
  pow : Lib.TabIs Tryz.prog w0 "internal/strconv.uint64pow10" .u64 Lib.pow10Tab
  size : base = w0.heap.size

theorem det_below {P : Program} {f : FuncId} {args : List AV} {st : St} {r : AV} {v : Value} (hE : Enters P f) (hr : ∀ G w, Rep G w r v)
    (h : ∀ (G : Gh) (w : World) (us : List Value), Below base w0 w → RepL G w args us → Calls P f ⟨us⟩ w fun e w' => e = .returned v ∧ Below w.heap.size w w') : Det P w0 base f args st r st := by
  refine ⟨hE, Nat.le_refl _, fun _ _ h => h, fun X G w us hX hI hR => (h G w us hI.old hR).mono ?_⟩
  rintro e w' ⟨rfl, hb⟩
  exact ⟨v, G, rfl, ext_below hI.size hb, fun _ _ h => h, inv_below hI hb, hr _ _⟩

theorem below_grow (w : World) (k : Nat) (os : Array Obj) : Below w.heap.size w (Sort.grow (w.drewN k) os) :=
  ⟨rfl, rfl, rfl, by simp [Sort.grow], fun j hj => by simp [Sort.grow, Array.getElem?_append_left hj]⟩

theorem tab_keeps {P : Program} {nm : String} {g : Nat} {k : IntKind} {zs : List Int} {w w' : World} (hg : P.globalNamed nm = some g) (h : Lib.TabIs P w nm k zs) (hb : Below w.heap.size w w') : Lib.TabIs P w' nm k zs := by
  simp only [Lib.TabIs, World.var?, hg, Option.bind_some] at h ⊢
  rcases Nat.lt_or_ge g w.heap.size with hlt | hge
  · rw [hb.block g hlt]; exact h
  · rw [Array.getElem?_eq_none hge] at h; simp at h

theorem dec_fit : ∀ (u : Nat), (Lib.decDigits u).length ≤ u + 1 := by
  intro u
  induction u using Nat.strongRecOn with
  | _ u ih =>
    rw [Lib.decDigits]
    split
    · simp
    · have := ih (u / 10) (by omega)
      simp only [List.length_append, List.length_singleton]
      omega
theorem dec_small : ∀ (k u : Nat), u < 10 ^ k → (Lib.decDigits u).length ≤ k + 1 := by
  intro k
  induction k with
  | zero => intro u hu; rw [Lib.decDigits]; split <;> simp; omega
  | succ k ih =>
    intro u hu
    rw [Lib.decDigits]
    split
    · simp
    · have := ih (u / 10) (by rw [Nat.pow_succ] at hu; omega)
      simp only [List.length_append, List.length_singleton]
      omega
theorem itoa_fit (n : Int) (h0 : -9223372036854775808 ≤ n) (h1 : n ≤ 9223372036854775807) : (Lib.itoa n).length ≤ 21 := by
  unfold Lib.itoa
  split
  · have := dec_small 19 n.natAbs (by omega)
    simp only [List.length_cons]; omega
  · have := dec_small 19 n.toNat (by omega)
    omega

theorem d124 (hT : Tabs w0 base) (st : St) (n : Int) (h0 : -9223372036854775808 ≤ n) (h1 : n ≤ 9223372036854775807) : Det Tryz.prog w0 base 124 [.int .i64 n] st (.str (Lib.itoa n)) st := by
  refine det_below (v := .string ⟨(Lib.itoa n).toArray⟩) (enters_fn Tryz.func124 r124) (fun G w => ⟨rfl, Nat.le_trans (itoa_fit n h0 h1) (by decide)⟩) ?_
  intro G w us hB hR
  obtain ⟨u, us', rfl, hu, rfl⟩ := hR
  obtain rfl : u = .int .i64 n := hu
  have ht : Lib.TabIs Tryz.prog w "internal/strconv.uint64pow10" .u64 Lib.pow10Tab := tab_keeps (g := Tryz.laysItoa_ren.g 17) (by kernel_rfl) hT.pow (by rw [hT.size] at hB; exact hB)
  refine (Any.strconv_Itoa Tryz.laysItoa n h0 h1 w ht).mono ?_
  rintro e w' ⟨rfl, k, os, rfl⟩
  exact ⟨rfl, below_grow _ _ _⟩
end Go.Proofs.YthaekebedmoipaaGreatDoor.AM

/- Contracts: strings.Builder's writing. -/
set_option linter.unusedVariables false
set_option linter.unusedSimpArgs false
set_option maxRecDepth 100000
namespace Go.Proofs.YthaekebedmoipaaGreatDoor.AM
open Go Go.RowKit
variable {w0 : World} {base : Nat}

def bytesAV (s : Str) : List AV := s.map fun b => .int .u8 b.toNat
/-- A builder, or what begins with one: its text, what lies behind it, the token of its buffer. -/
structure Bd (T : TypeId) (rest : List AV) (st : St) (o : Nat) (t : Option Nat) (txt : Str) : Prop where
  obj : ∃ a p, (a = .nilp ∨ a = .ptr o 0) ∧ st.objs o = some (.cells T (a :: .sl (bytesAV txt) txt.length p :: rest)) ∧
    (match t with | none => p = .full ∧ txt = [] | some t => p = .tok t ∧ t ≠ o ∧ st.objs t = some (.tip 5 1 txt.length))
def liesB (T : TypeId) (n : Nat) : Prop := liesAt Tryz.prog Tryz.prog.depth T (n / Tryz.prog.cellsOf T) 0 177 1 = true

theorem w153 {T : TypeId} {rest : List AV} {st : St} {o : Nat} {tk : Option Nat} {txt : Str} (hwf : st.wf) (h : Bd T rest st o tk txt) (hl : liesB T (rest.length + 2)) (s : Str) (hlen : txt.length + s.length ≤ 140737488355328) :
    CallW Tryz.prog w0 base 153 [.ptr o 0, .str s] st fun v st' => v = .tuple [.int .i64 s.length, .nilIface] ∧ ∃ t', Bd T rest st' o t' (txt ++ s) ∧ Kp o tk st st' t' := by
  obtain ⟨a, p, ha, ho, ht⟩ := h.obj
  have hlt := hwf _ _ ho
  refine callW_fn Tryz.func153 r153 rfl ?_
  unfold b153
  simp -dsimp -implicitDefEqProofs
  refine call_of (d188 (T := T) (a := a) (cs := .sl (bytesAV txt) txt.length p :: rest) (by simp [ho]) ha hl) ?_
  have hbl : (bytesAV txt).length = txt.length := by simp [bytesAV]
  have hb : List.map (fun b => AV.int IntKind.u8 ↑b.toNat) s = bytesAV s := rfl
  have happ : bytesAV (txt ++ s) = bytesAV txt ++ bytesAV s := by simp [bytesAV]
  by_cases hs : s = []
  · subst hs
    simp -dsimp -implicitDefEqProofs [hlt, old_ne, old_ne0]
    refine hold ⟨rfl, tk, ⟨.ptr o 0, p, .inr rfl, by simp, ?_⟩, ⟨by simp, fun q hq h1 h2 => by simp [h1], .inl rfl, wf_put (wf_bump hwf) (by simp; omega)⟩⟩
    cases tk with
    | none => simpa using ht
    | some t => obtain ⟨e1, e2, e3⟩ := ht; exact ⟨e1, e2, by simp [e2, e3]⟩
  · cases tk with
    | none =>
      obtain ⟨rfl, rfl⟩ := ht
      have hlen' : s.length ≤ 140737488355328 := by simpa using hlen
      simp -dsimp -implicitDefEqProofs [hlt, old_ne, old_ne0, new_ne, hs, hbl, hb, hlen', big]
      refine hold ⟨rfl, some (st.next + 10), ⟨.ptr o 0, .tok (st.next + 10), .inr rfl, by simp [bytesAV, hlt, old_ne], rfl, by omega, by simp [hlt, new_ne, old_ne]⟩, ⟨by simp, fun q hq h1 h2 => by simp [h1, hq, old_ne], .inr ⟨_, rfl, by omega⟩, ?_⟩⟩
      refine wf_put (wf_put (wf_put (wf_bump hwf) ?_) ?_) ?_ <;> simp <;> omega
    | some t =>
      obtain ⟨rfl, e2, e3⟩ := ht
      have hlt' := hwf _ _ e3
      simp -dsimp -implicitDefEqProofs [hlt, old_ne, old_ne0, new_ne, hs, hbl, hb, hlen, big, e2, e3, Ne.symm e2]
      refine hold ⟨rfl, some t, ⟨.ptr o 0, .tok t, .inr rfl, by simp [happ], rfl, e2, by simp [e2]⟩, ⟨by simp, fun q hq h1 h2 => ?_, .inl rfl, ?_⟩⟩
      · have : q ≠ t := fun e => h2 (by rw [e])
        simp [h1, this]
      · refine wf_put (wf_put (wf_put (wf_bump hwf) ?_) ?_) ?_ <;> simp <;> omega

theorem bd_bump {T : TypeId} {rest : List AV} {st : St} {o : Nat} {tk : Option Nat} {txt : Str} (h : Bd T rest st o tk txt) (k : Nat) : Bd T rest (st.bump k) o tk txt := ⟨h.obj⟩
theorem kp_bump {o : Nat} {t t' : Option Nat} {st st' : St} (h : Kp o t st st' t') (k : Nat) : Kp o t st (st'.bump k) t' :=
  ⟨Nat.le_trans h.next (Nat.le_add_right _ _), h.same, h.tok, wf_bump h.wf⟩

theorem w122 {T : TypeId} {rest : List AV} {st : St} {o : Nat} {tk : Option Nat} {txt : Str} (hwf : st.wf) (h : Bd T rest st o tk txt) (hl : liesB T (rest.length + 2)) (l : List Str) (hn : l.length ≤ 140737488355328) (hlen : txt.length + l.flatten.length ≤ 140737488355328) :
    CallW Tryz.prog w0 base 122 [.ptr o 0, .sl (strs l) l.length .no] st fun v st' => v = .tuple [] ∧ ∃ t', Bd T rest st' o t' (txt ++ l.flatten) ∧ Kp o tk st st' t' := by
  refine callW_fn Tryz.func122 r122 rfl ?_
  unfold b122 strs
  simp -dsimp -implicitDefEqProofs
  refine range_by (d := 9) (x := 8) (n := 7) (y := 17) l.length (fun j e s => ∃ t', Bd T rest s o t' (txt ++ (l.take j).flatten) ∧ Kp o tk st s t') hn rfl rfl ⟨tk, by simpa using bd_bump h _, kp_bump (Kp.refl hwf) _⟩ rfl (fun j e e' s k h _ => by
    obtain ⟨t', h1, h2⟩ := h
    exact ⟨t', bd_bump h1 k, kp_bump h2 k⟩) ?_ ?_
  · rintro j e s hj hf hx ⟨t', h1, h2⟩
    have e6 := hf 6 rfl
    have e0 := hf 0 rfl
    simp at e6 e0
    obtain ⟨y, hy⟩ : ∃ y, l[j]? = some y := ⟨_, List.getElem?_eq_getElem hj⟩
    have hy' : l[j] = y := by simpa [hj] using hy
    have htake : (l.take (j + 1)).flatten = (l.take j).flatten ++ y := by rw [List.take_add_one, hy]; simp
    have hle : (l.take (j + 1)).flatten.length ≤ l.flatten.length := by
      conv => rhs; rw [← List.take_append_drop (j + 1) l, List.flatten_append, List.length_append]
      omega
    have hlen2 : (txt ++ (l.take j).flatten).length + y.length ≤ 140737488355328 := by
      rw [htake, List.length_append] at hle
      rw [List.length_append]
      omega
    simp -dsimp -implicitDefEqProofs [e6, e0, hx, hj, hy']
    refine call_then (args' := [.ptr o 0, .str y]) (w153 (wf_bump h2.wf) (bd_bump h1 _) hl y hlen2) (by simp [AV.bareL, AV.bare, e0]) ?_
    rintro v s' ⟨rfl, t2, g1, g2⟩
    simp -dsimp -implicitDefEqProofs
    refine hold ⟨t2, ?_, h2.trans ?_⟩
    · rw [htake, ← List.append_assoc]; exact g1
    · exact ⟨Nat.le_trans (by simp) g2.next, fun p hp h3 h4 => g2.same p (by simp; omega) h3 h4, by
        rcases g2.tok with e | ⟨q, e, hq⟩
        · exact .inl e
        · exact .inr ⟨q, e, by simp at hq; omega⟩, g2.wf⟩
  · rintro e s hf ⟨t', h1, h2⟩
    simp -dsimp -implicitDefEqProofs
    refine hold ⟨rfl, t', by simpa using h1, h2⟩
end Go.Proofs.YthaekebedmoipaaGreatDoor.AM

/- Contracts: the printer's small methods. -/
set_option linter.unusedVariables false
set_option linter.unusedSimpArgs false
set_option maxRecDepth 100000
namespace Go.Proofs.YthaekebedmoipaaGreatDoor.AM
open Go Go.RowKit
variable {w0 : World} {base : Nat}

/-- A printer with its text. -/
structure Pr (st : St) (o : Nat) (tk : Option Nat) (txt : Str) (bad : Bool) : Prop where
  wf : st.wf
  bd : Bd 179 [.bool bad] st o tk txt
theorem lies179 : liesB 179 3 := by unfold liesB; kernel_rfl
theorem pr_set {st : St} {o : Nat} {tk : Option Nat} {txt : Str} {bad bad' : Bool} (h : Pr st o tk txt bad) (k : Nat) : ∃ a p, st.objs o = some (.cells 179 [a, .sl (bytesAV txt) txt.length p, .bool bad]) ∧ o < st.next ∧
    Pr ((st.bump k).put o (.cells 179 [a, .sl (bytesAV txt) txt.length p, .bool bad'])) o tk txt bad' ∧ Kp o tk st ((st.bump k).put o (.cells 179 [a, .sl (bytesAV txt) txt.length p, .bool bad'])) tk := by
  obtain ⟨a, p, ha, ho, ht⟩ := h.bd.obj
  have hlt := h.wf _ _ ho
  have hw : ((st.bump k).put o (.cells 179 [a, .sl (bytesAV txt) txt.length p, .bool bad'])).wf := wf_put (wf_bump h.wf) (by simp; omega)
  refine ⟨a, p, ho, hlt, ⟨hw, ⟨a, p, ha, by simp, ?_⟩⟩, ⟨by simp, fun q _ h1 _ => by simp [h1], .inl rfl, hw⟩⟩
  cases tk with
  | none => exact ht
  | some t => obtain ⟨e1, e2, e3⟩ := ht; exact ⟨e1, e2, by simp [e2, e3]⟩
theorem pr_bump {st : St} {o : Nat} {tk : Option Nat} {txt : Str} {bad : Bool} (h : Pr st o tk txt bad) (k : Nat) : Pr (st.bump k) o tk txt bad := ⟨wf_bump h.wf, bd_bump h.bd k⟩
theorem kp_pre {o : Nat} {t t' : Option Nat} {st st' : St} {k : Nat} (h : Kp o t (st.bump k) st' t') : Kp o t st st' t' :=
  ⟨Nat.le_trans (Nat.le_add_right _ _) h.next, fun p hp h1 h2 => h.same p (Nat.lt_of_lt_of_le hp (Nat.le_add_right _ _)) h1 h2, by
    rcases h.tok with e | ⟨q, e, hq⟩
    · exact .inl e
    · exact .inr ⟨q, e, Nat.le_trans (Nat.le_add_right _ _) hq⟩, h.wf⟩
/-- Words are written. -/
theorem pr_put {st : St} {o : Nat} {tk : Option Nat} {txt : Str} {bad : Bool} (h : Pr st o tk txt bad) (l : List Str) (hn : l.length ≤ 140737488355328) (hlen : txt.length + l.flatten.length ≤ 140737488355328) :
    CallW Tryz.prog w0 base 122 [.ptr o 0, .sl (strs l) l.length .no] st fun v st' => v = .tuple [] ∧ ∃ t', Pr st' o t' (txt ++ l.flatten) bad ∧ Kp o tk st st' t' := by
  refine callW_mono (w122 h.wf h.bd lies179 l hn hlen) ?_
  rintro v s ⟨rfl, t', h1, h2⟩
  exact ⟨rfl, t', ⟨h2.wf, h1⟩, h2⟩

theorem w123 {st : St} {o : Nat} {tk : Option Nat} {txt : Str} {bad : Bool} (h : Pr st o tk txt bad) (s : Str) (hlen : txt.length + s.length ≤ 140737488355328) :
    CallW Tryz.prog w0 base 123 [.ptr o 0, .str s] st fun v st' => v = .tuple [] ∧ ∃ t', Pr st' o t' (txt ++ s) (bad || !isNameP s) ∧ Kp o tk st st' t' := by
  obtain ⟨a, p, ho, hlt, h1, h2⟩ := pr_set (bad' := bad || !isNameP s) h 13
  refine callW_fn Tryz.func123 r123 rfl ?_
  unfold b123
  have key : ∀ st1, Pr st1 o tk txt (bad || !isNameP s) → Kp o tk st st1 tk → CallW Tryz.prog w0 base 122 [.ptr o 0, .sl (strs [s]) 1 .no] (st1.bump 4) fun v st' => v = .tuple [] ∧ ∃ t', Pr st' o t' (txt ++ s) (bad || !isNameP s) ∧ Kp o tk st st' t' := by
    intro st1 g1 g2
    refine callW_mono (pr_put (pr_bump g1 4) [s] (by simp) (by simpa using hlen)) ?_
    rintro v s' ⟨rfl, t', q1, q2⟩
    exact ⟨rfl, t', by simpa using q1, g2.trans (kp_pre q2)⟩
  simp -dsimp -implicitDefEqProofs [ho]
  refine Br_iff (fun hb => ?_) (fun hb => ?_)
  · subst hb
    simp -dsimp -implicitDefEqProofs [ho]
    refine call_then (key _ h1 h2) (by simp [AV.bareL, AV.bare, strs]) ?_
    rintro v s' hq
    simp -dsimp -implicitDefEqProofs
    exact hold ⟨rfl, hq.2⟩
  · subst hb
    simp -dsimp -implicitDefEqProofs [ho]
    refine call_of (d154 _ s) ?_
    simp -dsimp -implicitDefEqProofs [ho]
    refine call_then (key _ h1 h2) (by simp [AV.bareL, AV.bare, strs]) ?_
    rintro v s' hq
    simp -dsimp -implicitDefEqProofs
    exact hold ⟨rfl, hq.2⟩

def pickW (l : List Str) (i : Int) : Option Str := if 0 ≤ i ∧ i < l.length then (if l.getD i.toNat [] = [] then none else some (l.getD i.toNat [])) else none
theorem w125 {st : St} {o : Nat} {tk : Option Nat} {txt : Str} {bad : Bool} (h : Pr st o tk txt bad) (l : List Str) (i : Int) (hlen : txt.length + ((pickW l i).getD []).length ≤ 140737488355328) :
    CallW Tryz.prog w0 base 125 [.ptr o 0, .sl (strs l) l.length .no, .int .i64 i] st fun v st' => v = .tuple [] ∧ ∃ t', Pr st' o t' (txt ++ (pickW l i).getD []) (bad || (pickW l i).isNone) ∧ Kp o tk st st' t' := by
  obtain ⟨a, p, ho, hlt, h1, h2⟩ := pr_set (bad' := true) h 19
  refine callW_fn Tryz.func125 r125 rfl ?_
  unfold b125 strs
  simp -dsimp -implicitDefEqProofs
  have hbad : pickW l i = none → Hold (packRes [] = AV.tuple [] ∧ ∃ t', Pr ((st.bump 19).put o (AObj.cells 179 [a, AV.sl (bytesAV txt) (List.length txt) p, AV.bool true])) o t' (txt ++ (pickW l i).getD []) (bad || (pickW l i).isNone) ∧
          Kp o tk st ((st.bump 19).put o (AObj.cells 179 [a, AV.sl (bytesAV txt) (List.length txt) p, AV.bool true])) t') .mk := by
    intro hp
    rw [hp]
    exact hold ⟨rfl, tk, by simpa using h1, h2⟩
  refine Br_iff (fun hb => ?_) (fun hb => ?_)
  · have hp : pickW l i = none := by
      simp at hb
      simp only [pickW]; rw [if_neg]; omega
    simp -dsimp -implicitDefEqProofs [ho, hb]
    exact hbad hp
  · have h0 : 0 ≤ i := by simpa using hb
    obtain ⟨n, rfl⟩ := Int.eq_ofNat_of_zero_le h0
    simp -dsimp -implicitDefEqProofs [ho, hb]
    refine Br_iff (fun hc => ?_) (fun hc => ?_)
    · have hp : pickW l n = none := by
        simp at hc
        simp only [pickW]; rw [if_neg]; omega
      simp -dsimp -implicitDefEqProofs [ho, hc]
      exact hbad hp
    · have hlt' : n < l.length := by simpa using hc
      obtain ⟨y, hy⟩ : ∃ y, l[n]? = some y := ⟨_, List.getElem?_eq_getElem hlt'⟩
      have hy' : l[n] = y := by simpa [hlt'] using hy
      have hpick : pickW l n = if y = [] then none else some y := by
        simp [pickW, hlt', List.getD, hy, hy']
      simp -dsimp -implicitDefEqProofs [ho, hb, hc, hlt', hy']
      refine Br_iff (fun hd => ?_) (fun hd => ?_)
      · have hp : pickW l n = none := by rw [hpick, if_pos (by simpa using hd)]
        simp -dsimp -implicitDefEqProofs [ho]
        exact hbad hp
      · have hp : pickW l n = some y := by rw [hpick, if_neg (by simpa using hd)]
        simp -dsimp -implicitDefEqProofs [hlt', hy']
        refine call_then (args' := [.ptr o 0, .str y]) (w153 (wf_bump h.wf) (bd_bump h.bd 23) lies179 y (by rw [hp] at hlen; exact hlen)) (by simp [AV.bareL, AV.bare]) ?_
        rintro v s' ⟨rfl, t', q1, q2⟩
        simp -dsimp -implicitDefEqProofs
        refine hold ⟨rfl, t', ⟨q2.wf, ?_⟩, kp_pre q2⟩
        rw [hp]
        simpa using q1
end Go.Proofs.YthaekebedmoipaaGreatDoor.AM

/- Contracts: what a printer writes. -/
set_option linter.unusedVariables false
set_option linter.unusedSimpArgs false
set_option maxRecDepth 100000
namespace Go.Proofs.YthaekebedmoipaaGreatDoor.AM
open Go Go.RowKit
variable {w0 : World} {base : Nat}

/-- A call writes a text, and may find something bad. -/
def Wr (w0 : World) (base : Nat) (f : FuncId) (o : Nat) (args : List AV) (out : Str × Bool) : Prop :=
  ∀ (st : St) (tk : Option Nat) (txt : Str) (bad : Bool), Pr st o tk txt bad → txt.length + out.1.length ≤ 140737488355328 →
    CallW Tryz.prog w0 base f (.ptr o 0 :: args) st fun v st' => v = .tuple [] ∧ ∃ t', Pr st' o t' (txt ++ out.1) (bad || out.2) ∧ Kp o tk st st' t'
theorem wr_put (o : Nat) (l : List Str) (hn : l.length ≤ 140737488355328) : Wr w0 base 122 o [.sl (strs l) l.length .no] (l.flatten, false) := by
  intro st tk txt bad hp hlen
  refine callW_mono (pr_put hp l hn hlen) ?_
  rintro v s ⟨rfl, t', h1, h2⟩
  exact ⟨rfl, t', by simpa using h1, h2⟩
theorem wr_name (o : Nat) (s : Str) : Wr w0 base 123 o [.str s] (s, !isNameP s) := fun st tk txt bad hp hlen => w123 hp s hlen
def pickP (l : List Str) (i : Int) : Str × Bool := ((pickW l i).getD [], (pickW l i).isNone)
theorem wr_pick (o : Nat) (l : List Str) (i : Int) : Wr w0 base 125 o [.sl (strs l) l.length .no, .int .i64 i] (pickP l i) := fun st tk txt bad hp hlen => w125 hp l i hlen

/-- One text behind another. -/
def cat (a b : Str × Bool) : Str × Bool := (a.1 ++ b.1, a.2 || b.2)
def cats : List (Str × Bool) → Str × Bool
  | [] => ([], false)
  | a :: l => cat a (cats l)
@[simp] theorem cats_nil : cats [] = ([], false) := rfl
@[simp] theorem cats_cons (a : Str × Bool) (l : List (Str × Bool)) : cats (a :: l) = cat a (cats l) := rfl
@[simp] theorem cat_end (a : Str × Bool) : cat a ([], false) = a := by simp [cat]
@[simp] theorem end_cat (a : Str × Bool) : cat ([], false) a = a := by simp [cat]
theorem cat_assoc (a b c : Str × Bool) : cat (cat a b) c = cat a (cat b c) := by simp [cat, Bool.or_assoc]
theorem cats_app (a b : List (Str × Bool)) : cats (a ++ b) = cat (cats a) (cats b) := by
  induction a with
  | nil => simp
  | cons x a ih => simp [ih, cat_assoc]

theorem Pr.lt {st : St} {o : Nat} {tk : Option Nat} {txt : Str} {bad : Bool} (h : Pr st o tk txt bad) : o < st.next := by
  obtain ⟨a, p, _, ho, _⟩ := h.bd.obj
  exact h.wf _ _ ho
theorem Pr.tlt {st : St} {o : Nat} {tk : Option Nat} {txt : Str} {bad : Bool} (h : Pr st o tk txt bad) {t : Nat} (e : tk = some t) : t < st.next := by
  obtain ⟨a, p, _, ho, ht⟩ := h.bd.obj
  subst e
  exact h.wf _ _ ht.2.2

/-- A new object beside a printer. -/
theorem pr_new {st : St} {o : Nat} {tk : Option Nat} {txt : Str} {bad : Bool} (h : Pr st o tk txt bad) {k q : Nat} (x : AObj) (h1 : st.next ≤ q) (h2 : q < st.next + k) : Pr ((st.bump k).put q x) o tk txt bad ∧ Kp o tk st ((st.bump k).put q x) tk := by
  have hw : ((st.bump k).put q x).wf := wf_put (wf_bump h.wf) h2
  have hlt := h.lt
  refine ⟨⟨hw, ?_⟩, ⟨by simp, fun p hp _ _ => ?_, .inl rfl, hw⟩⟩
  · obtain ⟨a, p, ha, ho, ht⟩ := h.bd.obj
    refine ⟨a, p, ha, ?_, ?_⟩
    · rw [put_objs, if_neg (by omega)]; exact ho
    · cases tk with
      | none => exact ht
      | some t =>
        have := h.tlt rfl
        refine ⟨ht.1, ht.2.1, ?_⟩
        rw [put_objs, if_neg (by omega)]; exact ht.2.2
  · rw [put_objs, if_neg (by omega)]; rfl
/-- A printer on its way: what it will have written, what is still to be written. -/
structure Pc (st0 : St) (tk0 : Option Nat) (o : Nat) (goal : Str × Bool) (rest : List (Str × Bool)) (s : St) : Prop where
  ex : ∃ tk txt bad, Pr s o tk txt bad ∧ Kp o tk0 st0 s tk ∧ txt ++ (cats rest).1 = goal.1 ∧ (bad || (cats rest).2) = goal.2
  len : goal.1.length ≤ 140737488355328
section
variable {st0 : St} {tk0 : Option Nat} {o : Nat} {goal : Str × Bool} {rest : List (Str × Bool)} {s : St}
theorem Pc.wf (h : Pc st0 tk0 o goal rest s) : s.wf := by obtain ⟨tk, txt, bad, h1, _⟩ := h.ex; exact h1.wf
theorem pc_bump (h : Pc st0 tk0 o goal rest s) (k : Nat) : Pc st0 tk0 o goal rest (s.bump k) := by
  obtain ⟨tk, txt, bad, h1, h2, h3, h4⟩ := h.ex
  exact ⟨⟨tk, txt, bad, pr_bump h1 k, kp_bump h2 k, h3, h4⟩, h.len⟩
theorem pc_new (h : Pc st0 tk0 o goal rest s) {k q : Nat} (x : AObj) (h1 : s.next ≤ q) (h2 : q < s.next + k) : Pc st0 tk0 o goal rest ((s.bump k).put q x) := by
  obtain ⟨tk, txt, bad, g1, g2, g3, g4⟩ := h.ex
  obtain ⟨q1, q2⟩ := pr_new g1 x h1 h2
  exact ⟨⟨tk, txt, bad, q1, g2.trans q2, g3, g4⟩, h.len⟩
theorem pc_eq {rest' : List (Str × Bool)} (h : Pc st0 tk0 o goal rest s) (e : cats rest = cats rest') : Pc st0 tk0 o goal rest' s := by
  obtain ⟨tk, txt, bad, h1, h2, h3, h4⟩ := h.ex
  exact ⟨⟨tk, txt, bad, h1, h2, e ▸ h3, e ▸ h4⟩, h.len⟩
/-- The next part is several. -/
theorem pc_split {l : List (Str × Bool)} {a : Str × Bool} (h : Pc st0 tk0 o goal (a :: rest) s) (e : a = cats l) : Pc st0 tk0 o goal (l ++ rest) s := pc_eq h (by rw [cats_app, ← e]; rfl)
/-- Nothing is written. -/
theorem pc_none (h : Pc st0 tk0 o goal (([], false) :: rest) s) : Pc st0 tk0 o goal rest s := pc_eq h (by simp)
/-- A call writes the next part. -/
theorem call_wr {f : FuncId} {args args' : List AV} {out : Str × Bool} {K : AV → St → Prop} {l : Lock K} (h : Wr w0 base f o args' out) (e : AV.bareL args = .ptr o 0 :: args') (hp : Pc st0 tk0 o goal (out :: rest) s)
    (hk : ∀ s' : St, s'.objs s'.next = none → (∀ k, s'.objs (s'.next + k) = none) → Pc st0 tk0 o goal rest s' → K (.tuple []) s') : CallL Tryz.prog w0 base f args s K l := by
  obtain ⟨tk, txt, bad, h1, h2, h3, h4⟩ := hp.ex
  have hlen : txt.length + out.1.length ≤ 140737488355328 := by
    have := hp.len
    rw [← h3] at this
    simp only [cats_cons, cat, List.length_append] at this
    omega
  refine call_then (h s tk txt bad h1 hlen) e ?_
  rintro v s' ⟨rfl, t', q1, q2⟩
  refine hk s' (wf_none0 q1.wf) (wf_none q1.wf) ⟨⟨t', _, _, q1, h2.trans q2, ?_, ?_⟩, hp.len⟩
  · rw [← h3]; simp [cat]
  · rw [← h4]; simp [cat, Bool.or_assoc]
/-- What the printer's object holds; it may note something bad. -/
theorem pc_look (h : Pc st0 tk0 o goal rest s) : ∃ (a b : AV) (bad : Bool), s.objs o = some (.cells 179 [a, b, .bool bad]) ∧ o < s.next ∧
    ∀ (c : Bool) (rest' : List (Str × Bool)) (k : Nat) (x : Bool), cats rest = cat ([], c) (cats rest') → (bad || c) = x → Pc st0 tk0 o goal rest' ((s.bump k).put o (.cells 179 [a, b, .bool x])) := by
  obtain ⟨tk, txt, bad, h1, h2, h3, h4⟩ := h.ex
  obtain ⟨a, p, ho, hlt, _, _⟩ := pr_set (bad' := false) h1 0
  refine ⟨a, _, bad, ho, hlt, fun c rest' k x e hx => ?_⟩
  subst hx
  obtain ⟨a', p', ho', hlt', q1, q2⟩ := pr_set (bad' := bad || c) h1 k
  rw [ho] at ho'
  simp only [Option.some.injEq, AObj.cells.injEq, List.cons.injEq, AV.sl.injEq] at ho'
  obtain ⟨-, rfl, ⟨-, -, rfl⟩, -⟩ := ho'
  rw [e] at h3 h4
  refine ⟨⟨tk, txt, _, q1, h2.trans q2, ?_, ?_⟩, h.len⟩
  · rw [← h3]; simp [cat]
  · rw [← h4]; simp [cat, Bool.or_assoc]
end
/-- A contract of a writing method, by its way. -/
theorem wr_intro {f : FuncId} {o : Nat} {args : List AV} {out : Str × Bool} (outs : List (Str × Bool)) (e : out = cats outs)
    (h : ∀ (st : St) (tk : Option Nat) (goal : Str × Bool), st.objs st.next = none → (∀ k, st.objs (st.next + k) = none) → Pc st tk o goal outs st →
      CallW Tryz.prog w0 base f (.ptr o 0 :: args) st fun v st' => v = .tuple [] ∧ Pc st tk o goal [] st') : Wr w0 base f o args out := by
  intro st tk txt bad hp hlen
  subst e
  refine callW_mono (h st tk (txt ++ (cats outs).1, bad || (cats outs).2) (wf_none0 hp.wf) (wf_none hp.wf) ⟨⟨tk, txt, bad, hp, Kp.refl hp.wf, rfl, rfl⟩, by simpa using hlen⟩) ?_
  rintro v s ⟨rfl, q⟩
  obtain ⟨t', txt', bad', h1, h2, h3, h4⟩ := q.ex
  simp only [cats_nil, List.append_nil, Bool.or_false] at h3 h4
  subst h3; subst h4
  exact ⟨rfl, t', h1, h2⟩
theorem pc_end {st0 : St} {tk0 : Option Nat} {o : Nat} {goal : Str × Bool} {s : St} (h : Pc st0 tk0 o goal [] s) (k : Nat) : Hold (packRes [] = AV.tuple [] ∧ Pc st0 tk0 o goal [] (s.bump k)) .mk := hold ⟨rfl, pc_bump h k⟩
theorem pc_end0 {st0 : St} {tk0 : Option Nat} {o : Nat} {goal : Str × Bool} {s : St} (h : Pc st0 tk0 o goal [] s) : Hold (packRes [] = AV.tuple [] ∧ Pc st0 tk0 o goal [] s) .mk := hold ⟨rfl, h⟩

def sub1 (n : Int) : Int := IntKind.i64.wrap (n - 1)
def paramP (name : Str) (typ : Int) : Str × Bool := cats [(name, !isNameP name), ([32], false), pickP wTypes (sub1 typ)]
theorem wr_param (o : Nat) (name : Str) (typ : Int) : Wr w0 base 127 o [.agg [.str name, .int .i64 typ]] (paramP name typ) := by
  refine wr_intro _ rfl fun st tk goal hn0 hn p0 => callW_fn Tryz.func127 r127 rfl ?_
  unfold b127
  simp -dsimp -implicitDefEqProofs [hn0, hn, del_none]
  refine call_wr (wr_name o name) (by simp [AV.bareL, AV.bare]) (pc_bump p0 _) fun s1 f1 g1 p1 => ?_
  simp -dsimp -implicitDefEqProofs [f1, g1, del_none]
  refine call_wr (wr_put o [[32]] (by simp)) (by simp [AV.bareL, AV.bare, strs]) (pc_bump p1 _) fun s2 f2 g2 p2 => ?_
  simp -dsimp -implicitDefEqProofs [f2, g2, del_none]
  refine call_of (d156 _) ?_
  simp -dsimp -implicitDefEqProofs [f2, g2, del_none]
  refine call_wr (wr_pick o wTypes (sub1 typ)) (by simp [AV.bareL, AV.bare, bare_210, sub1, wTypes, strs]) (pc_bump p2 _) fun s3 f3 g3 p3 => ?_
  simp -dsimp -implicitDefEqProofs [f3, g3, del_none]
  exact pc_end0 p3
end Go.Proofs.YthaekebedmoipaaGreatDoor.AM

/- Contracts: what an expression must not bear. -/
set_option linter.unusedVariables false
set_option linter.unusedSimpArgs false
set_option maxRecDepth 100000
namespace Go.Proofs.YthaekebedmoipaaGreatDoor.AM
open Go Go.RowKit
variable {w0 : World} {base : Nat}

def noneP (e : Ex) : Bool := e.kind == 0 && (e.op == 0 && (e.typ == 0 && (e.name == [] && (e.v == 0 && e.a.length == 0))))
theorem d229 (st : St) (e : Ex) : Det Tryz.prog w0 base 229 [.agg e.cells] st (.bool (noneP e)) st := by
  refine det_self (enters_fn Tryz.func229 r229) fun hwf hfit => det_fn Tryz.func229 r229 rfl ?_
  obtain ⟨k, op, t, n, v, a⟩ := e
  simp only [Ex.cells, noneP]
  clear hfit
  generalize Ex.cellsL a = ca
  generalize a.length = la
  have hn0 := wf_none0 hwf
  have hn := wf_none hwf
  unfold b229
  simp -dsimp -implicitDefEqProofs [hn0, hn, del_none]
  repeat' (refine Br_iff (fun hb => ?_) (fun hb => ?_) <;> simp -dsimp -implicitDefEqProofs [*])
  all_goals exact fin_bump hwf (by simp [eraseA, cast_beq0])
end Go.Proofs.YthaekebedmoipaaGreatDoor.AM

/- Contracts: what an expression must not bear; fields that a statement does not use. -/
set_option linter.unusedVariables false
set_option linter.unusedSimpArgs false
set_option maxRecDepth 100000
namespace Go.Proofs.YthaekebedmoipaaGreatDoor.AM
open Go Go.RowKit
variable {w0 : World} {base : Nat}

def onlyP (k op t : Int) (nm : Str) (v : Int) (la : Nat) (n : Int) : Bool := !((la : Int) == n) || (!(op == 0) || (!(t == 0) || (!(nm == []) || !(v == 0))))
theorem wr_only (o : Nat) (k op t : Int) (nm : Str) (v : Int) (a : List AV) (la : Nat) (n : Int) : Wr w0 base 196 o [.agg [vi k, vi op, vi t, .str nm, .int .i32 v, .sl a la .no], vi n] ([], onlyP k op t nm v la n) := by
  refine wr_intro [([], onlyP k op t nm v la n)] (by simp) fun st tk goal hn0 hn p0 => callW_fn Tryz.func196 r196 rfl ?_
  obtain ⟨x, y, bad, ho, hlt, hput⟩ := pc_look p0
  unfold b196
  simp -dsimp -implicitDefEqProofs [hn0, hn, del_none, ho]
  repeat' (refine Br_iff (fun hb => ?_) (fun hb => ?_) <;> simp -dsimp -implicitDefEqProofs [ho, hb])
  all_goals exact hold ⟨rfl, hput _ [] _ _ rfl (by simp_all [onlyP, bne])⟩

def spareL (s : Sm) (op typ bound name x y body els : Bool) : List Bool :=
  [!op && s.op != 0, !typ && s.typ != 0, !bound && s.bound != 0, !name && !s.name.isEmpty, !x && !noneP s.x, !y && !noneP s.y, !body && decide (0 < s.body.length), !els && decide (0 < s.els.length)]
def spareP (s : Sm) (op typ bound name x y body els : Bool) : Bool := decide (true ∈ spareL s op typ bound name x y body els)
theorem wr_spare_SVar (o : Nat) (s : Sm) : Wr w0 base 216 o [.agg s.cells, .bool false, .bool true, .bool false, .bool true, .bool true, .bool false, .bool false, .bool false] ([], spareP s false true false true true false false false) := by
  refine wr_intro [([], spareP s false true false true true false false false)] (by simp) fun st tk goal hn0 hn p0 => callW_fn Tryz.func216 r216 rfl ?_
  obtain ⟨u, w, bad, ho, hlt, hput⟩ := pc_look p0
  obtain ⟨k, op, t, b, n, x, y, body, els⟩ := s
  simp only [Sm.cells]
  unfold b216
  simp -dsimp -implicitDefEqProofs [hn0, hn, del_none, ho]
  refine call_of (d229 _ y) ?_
  simp -dsimp -implicitDefEqProofs [hn0, hn, del_none, ho]
  refine Br_iff (fun hb => ?_) (fun hb => ?_)
  · simp -dsimp -implicitDefEqProofs [ho, hb]
    exact hold ⟨rfl, hput _ [] _ _ rfl (by simp [hb])⟩
  · simp -dsimp -implicitDefEqProofs [ho, hb]
    refine call_bare (d230 _ (spareL (Sm.mk k op t b n x y body els) false true false true true false false false) true) (by simp [AV.bareL, AV.bare, spareL]) ?_
    simp -dsimp -implicitDefEqProofs [ho, hb]
    exact hold ⟨rfl, hput _ [] _ _ rfl (by simp [hb, spareP])⟩
theorem wr_spare_SSet (o : Nat) (s : Sm) : Wr w0 base 216 o [.agg s.cells, .bool false, .bool false, .bool false, .bool true, .bool true, .bool false, .bool false, .bool false] ([], spareP s false false false true true false false false) := by
  refine wr_intro [([], spareP s false false false true true false false false)] (by simp) fun st tk goal hn0 hn p0 => callW_fn Tryz.func216 r216 rfl ?_
  obtain ⟨u, w, bad, ho, hlt, hput⟩ := pc_look p0
  obtain ⟨k, op, t, b, n, x, y, body, els⟩ := s
  simp only [Sm.cells]
  unfold b216
  simp -dsimp -implicitDefEqProofs [hn0, hn, del_none, ho]
  refine call_of (d229 _ y) ?_
  simp -dsimp -implicitDefEqProofs [hn0, hn, del_none, ho]
  refine Br_iff (fun hb => ?_) (fun hb => ?_)
  · simp -dsimp -implicitDefEqProofs [ho, hb]
    exact hold ⟨rfl, hput _ [] _ _ rfl (by simp [hb])⟩
  · simp -dsimp -implicitDefEqProofs [ho, hb]
    refine call_bare (d230 _ (spareL (Sm.mk k op t b n x y body els) false false false true true false false false) true) (by simp [AV.bareL, AV.bare, spareL]) ?_
    simp -dsimp -implicitDefEqProofs [ho, hb]
    exact hold ⟨rfl, hput _ [] _ _ rfl (by simp [hb, spareP])⟩
theorem wr_spare_SStore (o : Nat) (s : Sm) : Wr w0 base 216 o [.agg s.cells, .bool false, .bool false, .bool false, .bool true, .bool true, .bool true, .bool false, .bool false] ([], spareP s false false false true true true false false) := by
  refine wr_intro [([], spareP s false false false true true true false false)] (by simp) fun st tk goal hn0 hn p0 => callW_fn Tryz.func216 r216 rfl ?_
  obtain ⟨u, w, bad, ho, hlt, hput⟩ := pc_look p0
  obtain ⟨k, op, t, b, n, x, y, body, els⟩ := s
  simp only [Sm.cells]
  unfold b216
  simp -dsimp -implicitDefEqProofs [hn0, hn, del_none, ho]
  refine Br_iff (fun hb => ?_) (fun hb => ?_)
  · simp -dsimp -implicitDefEqProofs [ho, hb]
    exact hold ⟨rfl, hput _ [] _ _ rfl (by simp [hb])⟩
  · simp -dsimp -implicitDefEqProofs [ho, hb]
    refine call_bare (d230 _ (spareL (Sm.mk k op t b n x y body els) false false false true true true false false) true) (by simp [AV.bareL, AV.bare, spareL]) ?_
    simp -dsimp -implicitDefEqProofs [ho, hb]
    exact hold ⟨rfl, hput _ [] _ _ rfl (by simp [hb, spareP])⟩
theorem wr_spare_SIf (o : Nat) (s : Sm) : Wr w0 base 216 o [.agg s.cells, .bool false, .bool false, .bool false, .bool false, .bool true, .bool false, .bool true, .bool true] ([], spareP s false false false false true false true true) := by
  refine wr_intro [([], spareP s false false false false true false true true)] (by simp) fun st tk goal hn0 hn p0 => callW_fn Tryz.func216 r216 rfl ?_
  obtain ⟨u, w, bad, ho, hlt, hput⟩ := pc_look p0
  obtain ⟨k, op, t, b, n, x, y, body, els⟩ := s
  simp only [Sm.cells]
  unfold b216
  simp -dsimp -implicitDefEqProofs [hn0, hn, del_none, ho]
  refine call_of (d229 _ y) ?_
  simp -dsimp -implicitDefEqProofs [hn0, hn, del_none, ho]
  refine Br_iff (fun hb => ?_) (fun hb => ?_)
  · simp -dsimp -implicitDefEqProofs [ho, hb]
    exact hold ⟨rfl, hput _ [] _ _ rfl (by simp [hb])⟩
  · simp -dsimp -implicitDefEqProofs [ho, hb]
    refine call_bare (d230 _ (spareL (Sm.mk k op t b n x y body els) false false false false true false true true) true) (by simp [AV.bareL, AV.bare, spareL]) ?_
    simp -dsimp -implicitDefEqProofs [ho, hb]
    exact hold ⟨rfl, hput _ [] _ _ rfl (by simp [hb, spareP])⟩
theorem wr_spare_SWhile (o : Nat) (s : Sm) : Wr w0 base 216 o [.agg s.cells, .bool false, .bool false, .bool true, .bool false, .bool true, .bool false, .bool true, .bool false] ([], spareP s false false true false true false true false) := by
  refine wr_intro [([], spareP s false false true false true false true false)] (by simp) fun st tk goal hn0 hn p0 => callW_fn Tryz.func216 r216 rfl ?_
  obtain ⟨u, w, bad, ho, hlt, hput⟩ := pc_look p0
  obtain ⟨k, op, t, b, n, x, y, body, els⟩ := s
  simp only [Sm.cells]
  unfold b216
  simp -dsimp -implicitDefEqProofs [hn0, hn, del_none, ho]
  refine call_of (d229 _ y) ?_
  simp -dsimp -implicitDefEqProofs [hn0, hn, del_none, ho]
  refine Br_iff (fun hb => ?_) (fun hb => ?_)
  · simp -dsimp -implicitDefEqProofs [ho, hb]
    exact hold ⟨rfl, hput _ [] _ _ rfl (by simp [hb])⟩
  · simp -dsimp -implicitDefEqProofs [ho, hb]
    refine call_bare (d230 _ (spareL (Sm.mk k op t b n x y body els) false false true false true false true false) true) (by simp [AV.bareL, AV.bare, spareL]) ?_
    simp -dsimp -implicitDefEqProofs [ho, hb]
    exact hold ⟨rfl, hput _ [] _ _ rfl (by simp [hb, spareP])⟩
theorem wr_spare_SZero (o : Nat) (s : Sm) : Wr w0 base 216 o [.agg s.cells, .bool false, .bool false, .bool false, .bool false, .bool false, .bool false, .bool false, .bool false] ([], spareP s false false false false false false false false) := by
  refine wr_intro [([], spareP s false false false false false false false false)] (by simp) fun st tk goal hn0 hn p0 => callW_fn Tryz.func216 r216 rfl ?_
  obtain ⟨u, w, bad, ho, hlt, hput⟩ := pc_look p0
  obtain ⟨k, op, t, b, n, x, y, body, els⟩ := s
  simp only [Sm.cells]
  unfold b216
  simp -dsimp -implicitDefEqProofs [hn0, hn, del_none, ho]
  refine call_of (d229 _ x) ?_
  simp -dsimp -implicitDefEqProofs [hn0, hn, del_none, ho]
  refine call_of (d229 _ y) ?_
  simp -dsimp -implicitDefEqProofs [hn0, hn, del_none, ho]
  refine Br_iff (fun hb => ?_) (fun hb => ?_)
  · simp -dsimp -implicitDefEqProofs [ho, hb]
    exact hold ⟨rfl, hput _ [] _ _ rfl (by simp [hb])⟩
  · simp -dsimp -implicitDefEqProofs [ho, hb]
    refine call_bare (d230 _ (spareL (Sm.mk k op t b n x y body els) false false false false false false false false) true) (by simp [AV.bareL, AV.bare, spareL]) ?_
    simp -dsimp -implicitDefEqProofs [ho, hb]
    exact hold ⟨rfl, hput _ [] _ _ rfl (by simp [hb, spareP])⟩
theorem wr_spare_SFence (o : Nat) (s : Sm) : Wr w0 base 216 o [.agg s.cells, .bool true, .bool false, .bool false, .bool false, .bool false, .bool false, .bool false, .bool false] ([], spareP s true false false false false false false false) := by
  refine wr_intro [([], spareP s true false false false false false false false)] (by simp) fun st tk goal hn0 hn p0 => callW_fn Tryz.func216 r216 rfl ?_
  obtain ⟨u, w, bad, ho, hlt, hput⟩ := pc_look p0
  obtain ⟨k, op, t, b, n, x, y, body, els⟩ := s
  simp only [Sm.cells]
  unfold b216
  simp -dsimp -implicitDefEqProofs [hn0, hn, del_none, ho]
  refine call_of (d229 _ x) ?_
  simp -dsimp -implicitDefEqProofs [hn0, hn, del_none, ho]
  refine call_of (d229 _ y) ?_
  simp -dsimp -implicitDefEqProofs [hn0, hn, del_none, ho]
  refine Br_iff (fun hb => ?_) (fun hb => ?_)
  · simp -dsimp -implicitDefEqProofs [ho, hb]
    exact hold ⟨rfl, hput _ [] _ _ rfl (by simp [hb])⟩
  · simp -dsimp -implicitDefEqProofs [ho, hb]
    refine call_bare (d230 _ (spareL (Sm.mk k op t b n x y body els) true false false false false false false false) true) (by simp [AV.bareL, AV.bare, spareL]) ?_
    simp -dsimp -implicitDefEqProofs [ho, hb]
    exact hold ⟨rfl, hput _ [] _ _ rfl (by simp [hb, spareP])⟩
theorem wr_spare_SAtom (o : Nat) (s : Sm) : Wr w0 base 216 o [.agg s.cells, .bool true, .bool false, .bool false, .bool true, .bool true, .bool true, .bool false, .bool false] ([], spareP s true false false true true true false false) := by
  refine wr_intro [([], spareP s true false false true true true false false)] (by simp) fun st tk goal hn0 hn p0 => callW_fn Tryz.func216 r216 rfl ?_
  obtain ⟨u, w, bad, ho, hlt, hput⟩ := pc_look p0
  obtain ⟨k, op, t, b, n, x, y, body, els⟩ := s
  simp only [Sm.cells]
  unfold b216
  simp -dsimp -implicitDefEqProofs [hn0, hn, del_none, ho]
  refine Br_iff (fun hb => ?_) (fun hb => ?_)
  · simp -dsimp -implicitDefEqProofs [ho, hb]
    exact hold ⟨rfl, hput _ [] _ _ rfl (by simp [hb])⟩
  · simp -dsimp -implicitDefEqProofs [ho, hb]
    refine call_bare (d230 _ (spareL (Sm.mk k op t b n x y body els) true false false true true true false false) true) (by simp [AV.bareL, AV.bare, spareL]) ?_
    simp -dsimp -implicitDefEqProofs [ho, hb]
    exact hold ⟨rfl, hput _ [] _ _ rfl (by simp [hb, spareP])⟩
theorem wr_spare_SSub (o : Nat) (s : Sm) : Wr w0 base 216 o [.agg s.cells, .bool true, .bool false, .bool false, .bool true, .bool true, .bool false, .bool false, .bool false] ([], spareP s true false false true true false false false) := by
  refine wr_intro [([], spareP s true false false true true false false false)] (by simp) fun st tk goal hn0 hn p0 => callW_fn Tryz.func216 r216 rfl ?_
  obtain ⟨u, w, bad, ho, hlt, hput⟩ := pc_look p0
  obtain ⟨k, op, t, b, n, x, y, body, els⟩ := s
  simp only [Sm.cells]
  unfold b216
  simp -dsimp -implicitDefEqProofs [hn0, hn, del_none, ho]
  refine call_of (d229 _ y) ?_
  simp -dsimp -implicitDefEqProofs [hn0, hn, del_none, ho]
  refine Br_iff (fun hb => ?_) (fun hb => ?_)
  · simp -dsimp -implicitDefEqProofs [ho, hb]
    exact hold ⟨rfl, hput _ [] _ _ rfl (by simp [hb])⟩
  · simp -dsimp -implicitDefEqProofs [ho, hb]
    refine call_bare (d230 _ (spareL (Sm.mk k op t b n x y body els) true false false true true false false false) true) (by simp [AV.bareL, AV.bare, spareL]) ?_
    simp -dsimp -implicitDefEqProofs [ho, hb]
    exact hold ⟨rfl, hput _ [] _ _ rfl (by simp [hb, spareP])⟩
end Go.Proofs.YthaekebedmoipaaGreatDoor.AM

/- Contracts of what is not resolved: strings.Builder.String, strconv.FormatInt. -/
set_option linter.unusedVariables false
set_option linter.unusedSimpArgs false
namespace Go.Proofs.YthaekebedmoipaaGreatDoor.AM
open Go Go.RowKit
variable {w0 : World} {base : Nat}

theorem enters192 : Enters Tryz.prog 192 := ⟨Tryz.f192, Tryz.func192, by kernel_rfl, by decide⟩
theorem d192 (hT : Tabs w0 base) (st : St) (n : Int) (h0 : -9223372036854775808 ≤ n) (h1 : n ≤ 9223372036854775807) : Det Tryz.prog w0 base 192 [.int .i64 n, .int .i64 10] st (.str (Lib.itoa n)) st := by
  refine det_below (v := .string ⟨(Lib.itoa n).toArray⟩) enters192 (fun G w => ⟨rfl, Nat.le_trans (itoa_fit n h0 h1) (by decide)⟩) ?_
  intro G w us hB hR
  obtain ⟨u, us', rfl, hu, u2, us2, rfl, hu2, rfl⟩ := hR
  obtain rfl : u = .int .i64 n := hu
  obtain rfl : u2 = .int .i64 10 := hu2
  have ht : Lib.TabIs Tryz.prog w "internal/strconv.uint64pow10" .u64 Lib.pow10Tab := tab_keeps (g := Tryz.laysItoa_ren.g 17) (by kernel_rfl) hT.pow (by rw [hT.size] at hB; exact hB)
  refine (Any.internal_strconv_FormatInt_10 { Tryz.laysItoa with } n h0 h1 w ht).mono ?_
  rintro e w' ⟨rfl, k, os, rfl⟩
  exact ⟨rfl, below_grow _ _ _⟩

theorem enters131 : Enters Tryz.prog 131 := ⟨Tryz.f131, Tryz.func131, by kernel_rfl, by decide⟩
set_option maxHeartbeats 1000000 in
set_option maxRecDepth 100000 in
theorem walk131 (b g len cap : Nat) (w : World) (l : List UInt8) (c1 : w.drew.cell? ⟨b, 1, none⟩ = some (.slice (some ⟨g, 0, none⟩) l.length cap))
    (hSD : (Builtin.unsafeSliceData_ #[22] 218 #[.slice (some ⟨g, 0, none⟩) l.length cap]).run Tryz.prog w.drew = .ok (.pointer (some ⟨g, 0, none⟩)) w.drew)
    (hUS : (Builtin.unsafeString_ #[218, 3] 9 #[.pointer (some ⟨g, 0, none⟩), .int .i64 l.length]).run Tryz.prog w.drew = .ok (.string ⟨l.toArray⟩) (w.drew.freeze ⟨g, 0, none⟩ l.length)) :
    Calls Tryz.prog 131 #[.pointer (some ⟨b, 0, none⟩)] w fun e w' => e = .returned (.string ⟨l.toArray⟩) ∧ w' = w.drew.freeze ⟨g, 0, none⟩ l.length := by
  have mixed : Tryz.prog.follows .mixedOrders = true := by kernel_rfl
  have t177 := Tryz.underlying177; have a177 := Tryz.isAgg177; have z177 := Tryz.sizeOf177; have v177 := Tryz.zeroValue177; have u177 := run_underlying Tryz.underlying177
  have t175 := Tryz.underlying175; have a175 := Tryz.isAgg175; have z175 := Tryz.sizeOf175; have v175 := Tryz.zeroValue175; have u175 := run_underlying Tryz.underlying175
  have t22 := Tryz.underlying22; have a22 := Tryz.isAgg22; have z22 := Tryz.sizeOf22; have v22 := Tryz.zeroValue22; have u22 := run_underlying Tryz.underlying22
  have t218 := Tryz.underlying218; have a218 := Tryz.isAgg218; have z218 := Tryz.sizeOf218; have v218 := Tryz.zeroValue218; have u218 := run_underlying Tryz.underlying218
  have t3 := Tryz.underlying3; have a3 := Tryz.isAgg3; have z3 := Tryz.sizeOf3; have v3 := Tryz.zeroValue3; have u3 := run_underlying Tryz.underlying3
  have t9 := Tryz.underlying9; have a9 := Tryz.isAgg9; have z9 := Tryz.sizeOf9; have v9 := Tryz.zeroValue9; have u9 := run_underlying Tryz.underlying9
  have t5 := Tryz.underlying5; have a5 := Tryz.isAgg5; have z5 := Tryz.sizeOf5; have v5 := Tryz.zeroValue5; have u5 := run_underlying Tryz.underlying5
  go_enter Tryz.func131, Tryz.ntmps131
  go_wp2
  go_region_o
  all_goals (go_wp2; go_ret; exact ⟨rfl, rfl⟩)
theorem heap_freeze (w : World) (g n k : Nat) (h : k ≠ g) : (w.freeze ⟨g, 0, none⟩ n).heap[k]? = w.heap[k]? := by
  unfold World.freeze
  split
  · rfl
  · simp only [Array.getElem?_modify]; rw [if_neg (fun e => h e.symm)]
theorem cell_freeze (w : World) (g n : Nat) (b off : Nat) : (w.freeze ⟨g, 0, none⟩ n).cell? ⟨b, off, none⟩ = w.cell? ⟨b, off, none⟩ := by
  unfold World.freeze
  split
  · rfl
  · simp only [World.cell?, Array.getElem?_modify]
    by_cases e : g = b
    · subst e
      rw [if_pos rfl]
      cases w.heap[g]? with
      | none => rfl
      | some o => cases o <;> rfl
    · rw [if_neg e]

/-- The text of a builder; its buffer is not to be written again. -/
theorem d131 {T : TypeId} {rest : List AV} {st : St} {o t : Nat} {txt : Str} (h : Bd T rest st o (some t) txt) (hne : txt ≠ []) : Det Tryz.prog w0 base 131 [.ptr o 0] st (.str txt) (st.del t) := by
  obtain ⟨a, p, ha, ho, hp, hto, ht⟩ := h.obj
  subst hp
  refine ⟨enters131, Nat.le_refl _, fun q hq hn => ?_, fun X G w us hX hI hR => ?_⟩
  · simp only [St.del]; split
    · rfl
    · exact hn
  obtain ⟨u, us', rfl, hu, rfl⟩ := hR
  obtain ⟨h1, ad, rfl, h2⟩ := hu
  obtain ⟨hused, b, vs, g1, g2, g3, g4, g5, g6, g7⟩ := hI.objs o _ (add_some ho)
  have := h2 b g1
  subst this
  obtain ⟨hut, g, cur, k1, k2, k3, k4, k5, k6, k7, k8, k9, k10⟩ := hI.objs t _ (add_some ht)
  rw [List.take_of_length_le (by simp [g7])] at g6
  obtain ⟨v0, vs1, hv, hone, hva, v1, vs2, hv2, hone1, hsl, hrest⟩ := g6
  obtain ⟨bs, ba, cap, r1, r2, rfl, r4, r5, r6, -, r8, -⟩ := hsl
  obtain ⟨-, r9⟩ := r8 t rfl
  obtain ⟨r10, r11⟩ := r9 g k1
  have r12 := r11 k4.symm
  simp only [Value.slice.injEq, true_and] at r12
  obtain ⟨rfl, rfl⟩ := r12
  have hl0 : 0 < txt.length := List.length_pos_iff.2 hne
  have hheap : w.drew.heap[b]? = some (.cells vs T (0, 0)) := g5
  have c1 : w.drew.cell? ⟨b, 1, none⟩ = some (.slice (some ⟨g, 0, none⟩) txt.length (G.cap t)) := by
    rw [Lib.cell_of_heap hheap, ← Array.getElem?_toList, hv, hv2]; rfl
  have hcell : ∀ (j : Nat) (x : UInt8), txt[j]? = some x → w.drew.cell? ((⟨g, 0, none⟩ : Addr).add j) = some (.int .u8 x.toNat) := by
    intro j x hx
    obtain ⟨u, hu, -, hru⟩ := repC_get r1 j (.int .u8 x.toNat) (by simp [bytesAV, hx])
    rcases r2 with e | ⟨ad, e, hc⟩
    · rw [e] at hu; simp at hu
    · cases e
      have := (hc j u hu).1
      rw [show u = .int .u8 x.toNat from hru] at this
      exact this
  have hsz : cur.size = G.cap t := by rw [k7, Nat.mul_one]
  have hSD : (Builtin.unsafeSliceData_ #[22] 218 #[.slice (some ⟨g, 0, none⟩) txt.length (G.cap t)]).run Tryz.prog w.drew = .ok (.pointer (some ⟨g, 0, none⟩)) w.drew := Lib.run_unsafeSliceData_row _ _ _ _ _ _ (by omega)
  have hUS := Lib.run_unsafeString_row (P := Tryz.prog) w.drew 218 3 9 5 Tryz.underlying218 (by kernel_rfl) g cur.size (by have : w.drew.heap[g]? = some (.cells cur 5 (0, 0)) := k6; simp [World.shape?, this]) txt hne (by omega) (by unfold big at r6; omega) hcell
  refine (walk131 b g txt.length (G.cap t) w txt c1 hSD hUS).mono ?_
  rintro e w' ⟨rfl, rfl⟩
  have hB : Below base w (w.drew.freeze ⟨g, 0, none⟩ txt.length) := Lib.below_freeze (Below.drew (Below.refl base w)) (p := ⟨g, 0, none⟩) k3 _
  have hE : Ext base G w G (w.drew.freeze ⟨g, 0, none⟩ txt.length) := by
    refine ⟨hB, fun _ h => h, fun _ _ => .inl rfl, fun _ _ => .inl ⟨rfl, rfl, rfl⟩, fun _ _ => rfl, fun b' off u q1 q2 => ⟨q1, ?_⟩⟩
    rw [cell_freeze]; exact q2
  have hX0 : X t = none := by
    cases hx : X t with
    | none => rfl
    | some y => have := hX t (by simp [hx]); rw [ht] at this; cases this
  have hsz2 : (w.drew.freeze ⟨g, 0, none⟩ txt.length).heap.size = w.heap.size := by unfold World.freeze; split <;> simp
  refine ⟨_, G, rfl, hE, fun _ _ h => h, ?_, ⟨rfl, by unfold big at r6; omega⟩⟩
  refine ⟨hI.old.trans hB, hI.scope, fun q y hy => ?_, fun b' hb' => hI.fresh b' (by rw [← hsz2]; exact hb'), by rw [hsz2]; exact hI.size⟩
  have hqt : q ≠ t := by
    rintro rfl
    simp [St.add, St.del, hX0] at hy
  have hy' : (st.add X).objs q = some y := by
    simp only [St.add, St.del, if_neg hqt] at hy ⊢; exact hy
  obtain ⟨q1, q2⟩ := hI.objs q y hy'
  refine ⟨q1, objrep_keep hE ⟨rfl, rfl, rfl, rfl, rfl, fun b' _ hb' => ⟨rfl, rfl, ?_⟩⟩ q2⟩
  have : b' ≠ g := by rintro rfl; rw [k2] at hb'; exact hqt (Option.some.inj hb').symm
  rw [heap_freeze _ _ _ _ this]; rfl
end Go.Proofs.YthaekebedmoipaaGreatDoor.AM
