/- Lemmas that lead to the statement: The machine's code, printed by mcode.py. -/
import Derived.Test.YtmgehmhebnjaaaaGreatDoorM0
set_option linter.all false
set_option maxRecDepth 100000
namespace Dm.YtmgehmhebnjaaaaGreatDoor
open Go
def m3 : MFun := ⟨107, [.t 4],
 .seq (.reg [
  ⟨some 3, .box 26 (.t 1), none, []⟩,
  ⟨some 4, .mv (.c (.bool false)), none, []⟩])
 (.seq (.seq (.reg [
  ⟨some 12, .call (.f 12) [], none, []⟩,
  ⟨some 13, .not (.t 12), none, []⟩])
 (.ite (.t 13) (.seq (.reg [
  ⟨some 4, .mv (.c (.bool false)), none, []⟩])
 (.ret))
 (.skip)))
 (.seq (.seq (.reg [
  ⟨some 14, .mv (.t 0), none, []⟩,
  ⟨some 15, .call (.f 13) [(.t 14)], none, []⟩,
  ⟨some 16, .not (.t 15), none, []⟩,
  ⟨some 17, .mv (.t 16), none, []⟩,
  ⟨some 18, .lds 2 (.t 3), (some (17, false)), []⟩,
  ⟨some 19, .call (.f 14) [(.t 18)], (some (17, false)), []⟩,
  ⟨some 20, .not (.t 19), (some (17, false)), []⟩,
  ⟨some 21, .pick (.t 17) (.c (.bool true)) (.t 20), none, []⟩])
 (.ite (.t 21) (.seq (.reg [
  ⟨some 4, .mv (.c (.bool true)), none, []⟩])
 (.ret))
 (.skip)))
 (.seq (.seq (.dreg [0, 3, 1, 2, 4, 5] [
  ⟨some 22, .lds 2 (.t 3), none, [(.t 3)]⟩,
  ⟨some 25, .lds 2 (.t 3), none, [(.t 3)]⟩,
  ⟨some 23, .call (.f 16) [(.t 22)], none, [(.t 3)]⟩,
  ⟨some 24, .call (.f 15) [(.t 23)], none, [(.t 3)]⟩,
  ⟨some 26, .call (.f 17) [(.t 25)], none, []⟩,
  ⟨some 27, .bin .neq (.t 24) (.t 26), none, []⟩])
 (.ite (.t 27) (.seq (.reg [
  ⟨some 4, .mv (.c (.bool false)), none, []⟩])
 (.ret))
 (.skip)))
 (.seq (.dreg [0, 2, 1, 3, 4, 5, 6, 7, 8, 9] [
  ⟨some 29, .mv (.t 0), none, []⟩,
  ⟨some 31, .lds 2 (.t 3), none, [(.t 3)]⟩,
  ⟨some 30, .call (.f 19) [(.t 29)], none, [(.t 3)]⟩,
  ⟨some 32, .call (.f 16) [(.t 31)], none, []⟩,
  ⟨some 33, .call (.f 18) [(.t 30), (.t 32)], none, []⟩,
  ⟨some 28, .mv (.t 33), none, []⟩,
  ⟨some 34, .ext (.t 28) 0, none, []⟩,
  ⟨some 35, .ext (.t 28) 1, none, []⟩,
  ⟨some 5, .mv (.t 34), none, []⟩,
  ⟨some 6, .mv (.t 35), none, []⟩])
 (.seq (.dreg [0, 2, 1, 3, 4, 5, 6, 7, 8, 9] [
  ⟨some 37, .mv (.t 0), none, []⟩,
  ⟨some 39, .lds 2 (.t 3), none, [(.t 3)]⟩,
  ⟨some 38, .call (.f 19) [(.t 37)], none, [(.t 3)]⟩,
  ⟨some 40, .call (.f 16) [(.t 39)], none, []⟩,
  ⟨some 41, .call (.f 20) [(.t 38), (.t 40)], none, []⟩,
  ⟨some 36, .mv (.t 41), none, []⟩,
  ⟨some 42, .ext (.t 36) 0, none, []⟩,
  ⟨some 43, .ext (.t 36) 1, none, []⟩,
  ⟨some 7, .mv (.t 42), none, []⟩,
  ⟨some 8, .mv (.t 43), none, []⟩])
 (.seq (.seq (.reg [
  ⟨some 44, .mv (.t 0), none, []⟩,
  ⟨some 45, .lds 2 (.t 3), none, []⟩,
  ⟨some 46, .call (.f 21) [(.t 44), (.t 45)], none, []⟩,
  ⟨some 9, .mv (.t 46), none, []⟩])
 (.seq (.reg [
  ⟨some 47, .mv (.t 9), none, []⟩,
  ⟨some 48, .bin .neq (.t 47) (.c (.int .i64 0)), none, []⟩])
 (.ite (.t 48) (.seq (.reg [
  ⟨some 49, .mv (.t 6), none, []⟩,
  ⟨some 50, .mv (.t 9), none, []⟩,
  ⟨some 51, .bin .eql (.t 49) (.t 50), none, []⟩,
  ⟨some 52, .mv (.t 51), none, []⟩,
  ⟨some 53, .mv (.t 5), (some (52, true)), []⟩,
  ⟨some 54, .len (.t 53), (some (52, true)), []⟩,
  ⟨some 55, .bin .eql (.t 54) (.c (.int .i64 0)), (some (52, true)), []⟩,
  ⟨some 56, .pick (.t 52) (.t 55) (.c (.bool false)), none, []⟩,
  ⟨some 57, .mv (.t 56), none, []⟩,
  ⟨some 58, .mv (.t 8), (some (57, true)), []⟩,
  ⟨some 59, .mv (.t 9), (some (57, true)), []⟩,
  ⟨some 60, .bin .eql (.t 58) (.t 59), (some (57, true)), []⟩,
  ⟨some 61, .pick (.t 57) (.t 60) (.c (.bool false)), none, []⟩,
  ⟨some 62, .mv (.t 61), none, []⟩,
  ⟨some 63, .mv (.t 7), (some (62, true)), []⟩,
  ⟨some 64, .not (.t 63), (some (62, true)), []⟩,
  ⟨some 65, .pick (.t 62) (.t 64) (.c (.bool false)), none, []⟩,
  ⟨some 4, .mv (.t 65), none, []⟩])
 (.ret))
 (.skip))))
 (.seq (.reg [
  ⟨some 66, .mv (.t 0), none, []⟩,
  ⟨some 67, .mv (.t 0), none, []⟩,
  ⟨some 68, .len (.t 67), none, []⟩,
  ⟨some 69, .bin .sub (.t 68) (.c (.int .i64 1)), none, []⟩,
  ⟨some 70, .lds 2 (.t 3), none, []⟩,
  ⟨some 71, .call (.f 22) [(.t 66), (.t 69), (.t 70)], none, []⟩,
  ⟨some 10, .mv (.t 71), none, []⟩])
 (.seq (.seq (.reg [
  ⟨some 72, .mv (.t 6), none, []⟩,
  ⟨some 73, .bin .neq (.t 72) (.c (.int .i64 0)), none, []⟩,
  ⟨some 74, .mv (.t 73), none, []⟩,
  ⟨some 75, .mv (.t 5), (some (74, false)), []⟩,
  ⟨some 76, .len (.t 75), (some (74, false)), []⟩,
  ⟨some 77, .mv (.t 10), (some (74, false)), []⟩,
  ⟨some 78, .len (.t 77), (some (74, false)), []⟩,
  ⟨some 79, .bin .neq (.t 76) (.t 78), (some (74, false)), []⟩,
  ⟨some 80, .pick (.t 74) (.c (.bool true)) (.t 79), none, []⟩,
  ⟨some 81, .mv (.t 80), none, []⟩,
  ⟨some 82, .mv (.t 8), (some (81, false)), []⟩,
  ⟨some 83, .bin .neq (.t 82) (.c (.int .i64 0)), (some (81, false)), []⟩,
  ⟨some 84, .pick (.t 81) (.c (.bool true)) (.t 83), none, []⟩,
  ⟨some 85, .mv (.t 84), none, []⟩,
  ⟨some 86, .mv (.t 7), (some (85, false)), []⟩,
  ⟨some 87, .mv (.t 10), (some (85, false)), []⟩,
  ⟨some 88, .ia 1 (.t 87) (.c (.int .i64 0)), (some (85, false)), []⟩,
  ⟨some 89, .ld (.t 88), (some (85, false)), []⟩,
  ⟨some 90, .eq true .bool (.t 86) (.t 89), (some (85, false)), []⟩,
  ⟨some 91, .pick (.t 85) (.c (.bool true)) (.t 90), none, []⟩])
 (.ite (.t 91) (.seq (.reg [
  ⟨some 4, .mv (.c (.bool false)), none, []⟩])
 (.ret))
 (.skip)))
 (.seq (.seq (.reg [
  ⟨some 11, .mv (.c (.int .i64 0)), none, []⟩])
 (.blk 0 (.loop (.seq (.seq (.reg [
  ⟨some 92, .mv (.t 11), none, []⟩,
  ⟨some 93, .mv (.t 5), none, []⟩,
  ⟨some 94, .len (.t 93), none, []⟩,
  ⟨some 95, .bin .lss (.t 92) (.t 94), none, []⟩])
 (.ite (.t 95) (.skip)
 (.exit 0)))
 (.seq (.blk 1 (.seq (.dreg [0, 1, 2, 3, 4, 5, 6, 7, 8] [
  ⟨some 98, .mv (.t 5), none, []⟩,
  ⟨some 99, .mv (.t 11), none, []⟩,
  ⟨some 100, .ia 1 (.t 98) (.t 99), none, []⟩,
  ⟨some 101, .ld (.t 100), none, [(.t 100)]⟩,
  ⟨some 102, .mv (.t 10), none, []⟩,
  ⟨some 103, .mv (.t 11), none, []⟩,
  ⟨some 104, .ia 1 (.t 102) (.t 103), none, []⟩,
  ⟨some 105, .ld (.t 104), none, [(.t 104)]⟩,
  ⟨some 106, .eq true .bool (.t 101) (.t 105), none, []⟩])
 (.ite (.t 106) (.seq (.reg [
  ⟨some 4, .mv (.c (.bool false)), none, []⟩])
 (.ret))
 (.skip))))
 (.reg [
  ⟨some 96, .mv (.t 11), none, []⟩,
  ⟨some 97, .bin .add (.t 96) (.c (.int .i64 1)), none, []⟩,
  ⟨some 11, .mv (.t 97), none, []⟩]))))))
 (.seq (.reg [
  ⟨some 4, .mv (.c (.bool true)), none, []⟩])
 (.ret)))))))))))⟩
def m4 : MFun := ⟨124, [.t 6],
 .seq (.reg [
  ⟨some 3, .box 47 (.t 0), none, []⟩,
  ⟨some 6, .mv (.c (.bool false)), none, []⟩])
 (.seq (.seq (.reg [
  ⟨some 13, .call (.f 12) [], none, []⟩,
  ⟨some 14, .not (.t 13), none, []⟩])
 (.ite (.t 14) (.seq (.reg [
  ⟨some 6, .mv (.c (.bool false)), none, []⟩])
 (.ret))
 (.skip)))
 (.seq (.seq (.reg [
  ⟨some 15, .mv (.t 1), none, []⟩,
  ⟨some 16, .call (.f 13) [(.t 15)], none, []⟩,
  ⟨some 17, .not (.t 16), none, []⟩,
  ⟨some 18, .mv (.t 17), none, []⟩,
  ⟨some 19, .lds 8 (.t 3), (some (18, false)), []⟩,
  ⟨some 20, .call (.f 23) [(.t 19)], (some (18, false)), []⟩,
  ⟨some 21, .not (.t 20), (some (18, false)), []⟩,
  ⟨some 22, .pick (.t 18) (.c (.bool true)) (.t 21), none, []⟩])
 (.ite (.t 22) (.seq (.reg [
  ⟨some 6, .mv (.c (.bool true)), none, []⟩])
 (.ret))
 (.skip)))
 (.seq (.reg [
  ⟨some 23, .lds 8 (.t 3), none, []⟩,
  ⟨some 24, .call (.f 24) [(.t 23)], none, []⟩,
  ⟨some 7, .mv (.t 24), none, []⟩])
 (.seq (.seq (.reg [
  ⟨some 25, .mv (.t 7), none, []⟩,
  ⟨some 26, .bin .eql (.t 25) (.c (.int .i64 0)), none, []⟩])
 (.ite (.t 26) (.reg [
  ⟨some 27, .mv (.t 1), none, []⟩,
  ⟨some 28, .call (.f 25) [(.t 27)], none, []⟩,
  ⟨some 7, .mv (.t 28), none, []⟩])
 (.skip)))
 (.seq (.reg [
  ⟨some 29, .fa 0 (.t 3), none, []⟩,
  ⟨some 30, .fa 0 (.t 29), none, []⟩,
  ⟨some 31, .ld (.t 30), none, []⟩,
  ⟨some 32, .bin .leq (.t 31) (.c (.int .i64 4)), none, []⟩,
  ⟨some 33, .mv (.t 32), none, []⟩,
  ⟨some 34, .mv (.t 2), (some (33, true)), []⟩,
  ⟨some 35, .bin .leq (.t 34) (.c (.int .i64 5)), (some (33, true)), []⟩,
  ⟨some 36, .pick (.t 33) (.t 35) (.c (.bool false)), none, []⟩,
  ⟨some 37, .mv (.t 36), none, []⟩,
  ⟨some 38, .fa 0 (.t 3), (some (37, false)), []⟩,
  ⟨some 39, .fa 0 (.t 38), (some (37, false)), []⟩,
  ⟨some 40, .ld (.t 39), (some (37, false)), []⟩,
  ⟨some 41, .bin .leq (.t 40) (.c (.int .i64 12)), (some (37, false)), []⟩,
  ⟨some 42, .mv (.t 41), (some (37, false)), []⟩,
  ⟨some 43, .fa 0 (.t 3), (some (42, true)), []⟩,
  ⟨some 44, .fa 2 (.t 43), (some (42, true)), []⟩,
  ⟨some 45, .ld (.t 44), (some (42, true)), []⟩,
  ⟨some 46, .len (.t 45), (some (42, true)), []⟩,
  ⟨some 47, .bin .leq (.t 46) (.c (.int .i64 20)), (some (42, true)), []⟩,
  ⟨some 48, .pick (.t 42) (.t 47) (.c (.bool false)), (some (37, false)), []⟩,
  ⟨some 49, .mv (.t 48), (some (37, false)), []⟩,
  ⟨some 50, .mv (.t 2), (some (49, true)), []⟩,
  ⟨some 51, .bin .leq (.t 50) (.c (.int .i64 3)), (some (49, true)), []⟩,
  ⟨some 52, .pick (.t 49) (.t 51) (.c (.bool false)), (some (37, false)), []⟩,
  ⟨some 53, .pick (.t 37) (.c (.bool true)) (.t 52), none, []⟩,
  ⟨some 8, .mv (.t 53), none, []⟩])
 (.seq (.seq (.reg [
  ⟨some 54, .mv (.t 7), none, []⟩,
  ⟨some 55, .bin .eql (.t 54) (.c (.int .i64 0)), none, []⟩,
  ⟨some 56, .mv (.t 55), none, []⟩,
  ⟨some 57, .mv (.t 2), (some (56, true)), []⟩,
  ⟨some 58, .call (.f 26) [(.t 57), (.c (.int .i64 1)), (.c (.int .i64 6))], (some (56, true)), []⟩,
  ⟨some 59, .pick (.t 56) (.t 58) (.c (.bool false)), none, []⟩,
  ⟨some 60, .mv (.t 59), none, []⟩,
  ⟨some 61, .mv (.t 8), (some (60, true)), []⟩,
  ⟨some 62, .not (.t 61), (some (60, true)), []⟩,
  ⟨some 63, .pick (.t 60) (.t 62) (.c (.bool false)), none, []⟩])
 (.ite (.t 63) (.seq (.reg [
  ⟨some 6, .mv (.c (.bool true)), none, []⟩])
 (.ret))
 (.skip)))
 (.seq (.reg [
  ⟨some 65, .lds 8 (.t 3), none, []⟩,
  ⟨some 66, .call (.f 28) [(.t 65)], none, []⟩,
  ⟨some 67, .mv (.t 1), none, []⟩,
  ⟨some 68, .call (.f 19) [(.t 67)], none, []⟩,
  ⟨some 69, .mv (.t 2), none, []⟩,
  ⟨some 70, .call (.f 27) [(.t 66), (.t 68), (.t 69)], none, []⟩,
  ⟨some 64, .mv (.t 70), none, []⟩,
  ⟨some 71, .ext (.t 64) 0, none, []⟩,
  ⟨some 72, .ext (.t 64) 1, none, []⟩,
  ⟨some 9, .new [(.slice none 0 0), (.slice none 0 0)] 52, none, []⟩,
  ⟨none, .st 2 (.t 9) (.t 71), none, []⟩,
  ⟨some 10, .mv (.t 72), none, []⟩])
 (.seq (.seq (.reg [
  ⟨some 73, .mv (.t 7), none, []⟩,
  ⟨some 74, .bin .eql (.t 73) (.c (.int .i64 0)), none, []⟩,
  ⟨some 75, .mv (.t 74), none, []⟩,
  ⟨some 76, .mv (.t 2), (some (75, true)), []⟩,
  ⟨some 77, .call (.f 26) [(.t 76), (.c (.int .i64 1)), (.c (.int .i64 6))], (some (75, true)), []⟩,
  ⟨some 78, .not (.t 77), (some (75, true)), []⟩,
  ⟨some 79, .pick (.t 75) (.t 78) (.c (.bool false)), none, []⟩])
 (.ite (.t 79) (.reg [
  ⟨some 7, .mv (.c (.int .i64 3)), none, []⟩])
 (.skip)))
 (.seq (.seq (.reg [
  ⟨some 80, .mv (.t 7), none, []⟩,
  ⟨some 81, .bin .neq (.t 80) (.c (.int .i64 0)), none, []⟩])
 (.ite (.t 81) (.seq (.reg [
  ⟨some 82, .mv (.t 10), none, []⟩,
  ⟨some 83, .mv (.t 7), none, []⟩,
  ⟨some 84, .bin .eql (.t 82) (.t 83), none, []⟩,
  ⟨some 85, .mv (.t 84), none, []⟩,
  ⟨some 86, .lds 2 (.t 9), (some (85, true)), []⟩,
  ⟨some 87, .build [(.slice none 0 0), (.slice none 0 0)] [], (some (85, true)), []⟩,
  ⟨some 88, .call (.f 29) [(.t 86), (.t 87)], (some (85, true)), []⟩,
  ⟨some 89, .pick (.t 85) (.t 88) (.c (.bool false)), none, []⟩,
  ⟨some 6, .mv (.t 89), none, []⟩])
 (.ret))
 (.skip)))
 (.seq (.seq (.reg [
  ⟨some 90, .mv (.t 10), none, []⟩,
  ⟨some 91, .bin .eql (.t 90) (.c (.int .i64 37)), none, []⟩])
 (.ite (.t 91) (.seq (.reg [
  ⟨some 92, .fa 0 (.t 3), none, []⟩,
  ⟨some 93, .fa 0 (.t 92), none, []⟩,
  ⟨some 94, .ld (.t 93), none, []⟩,
  ⟨some 95, .bin .gtr (.t 94) (.c (.int .i64 6)), none, []⟩,
  ⟨some 96, .mv (.t 95), none, []⟩,
  ⟨some 97, .lds 2 (.t 9), (some (96, true)), []⟩,
  ⟨some 98, .build [(.slice none 0 0), (.slice none 0 0)] [], (some (96, true)), []⟩,
  ⟨some 99, .call (.f 29) [(.t 97), (.t 98)], (some (96, true)), []⟩,
  ⟨some 100, .pick (.t 96) (.t 99) (.c (.bool false)), none, []⟩,
  ⟨some 6, .mv (.t 100), none, []⟩])
 (.ret))
 (.skip)))
 (.seq (.reg [
  ⟨some 102, .lds 8 (.t 3), none, []⟩,
  ⟨some 103, .mv (.t 1), none, []⟩,
  ⟨some 104, .mv (.t 2), none, []⟩,
  ⟨some 105, .call (.f 30) [(.t 102), (.t 103), (.t 104)], none, []⟩,
  ⟨some 101, .mv (.t 105), none, []⟩,
  ⟨some 106, .ext (.t 101) 0, none, []⟩,
  ⟨some 107, .ext (.t 101) 1, none, []⟩,
  ⟨some 11, .new [(.slice none 0 0), (.slice none 0 0)] 52, none, []⟩,
  ⟨none, .st 2 (.t 11) (.t 106), none, []⟩,
  ⟨some 12, .mv (.t 107), none, []⟩])
 (.seq (.seq (.reg [
  ⟨some 108, .mv (.t 12), none, []⟩,
  ⟨some 109, .not (.t 108), none, []⟩])
 (.ite (.t 109) (.seq (.reg [
  ⟨some 110, .mv (.t 10), none, []⟩,
  ⟨some 111, .bin .eql (.t 110) (.c (.int .i64 25)), none, []⟩,
  ⟨some 112, .mv (.t 111), none, []⟩,
  ⟨some 113, .lds 2 (.t 9), (some (112, true)), []⟩,
  ⟨some 114, .build [(.slice none 0 0), (.slice none 0 0)] [], (some (112, true)), []⟩,
  ⟨some 115, .call (.f 29) [(.t 113), (.t 114)], (some (112, true)), []⟩,
  ⟨some 116, .pick (.t 112) (.t 115) (.c (.bool false)), none, []⟩,
  ⟨some 6, .mv (.t 116), none, []⟩])
 (.ret))
 (.skip)))
 (.seq (.reg [
  ⟨some 117, .mv (.t 10), none, []⟩,
  ⟨some 118, .bin .eql (.t 117) (.c (.int .i64 0)), none, []⟩,
  ⟨some 119, .mv (.t 118), none, []⟩,
  ⟨some 120, .lds 2 (.t 9), (some (119, true)), []⟩,
  ⟨some 121, .lds 2 (.t 11), (some (119, true)), []⟩,
  ⟨some 122, .call (.f 29) [(.t 120), (.t 121)], (some (119, true)), []⟩,
  ⟨some 123, .pick (.t 119) (.t 122) (.c (.bool false)), none, []⟩,
  ⟨some 6, .mv (.t 123), none, []⟩])
 (.ret))))))))))))))⟩
def m5 : MFun := ⟨65, [.t 2],
 .seq (.reg [
  ⟨some 1, .box 26 (.t 0), none, []⟩,
  ⟨some 2, .mv (.c (.bool false)), none, []⟩])
 (.seq (.seq (.reg [
  ⟨some 8, .call (.f 12) [], none, []⟩,
  ⟨some 9, .not (.t 8), none, []⟩])
 (.ite (.t 9) (.seq (.reg [
  ⟨some 2, .mv (.c (.bool false)), none, []⟩])
 (.ret))
 (.skip)))
 (.seq (.seq (.reg [
  ⟨some 10, .lds 2 (.t 1), none, []⟩,
  ⟨some 11, .call (.f 14) [(.t 10)], none, []⟩,
  ⟨some 12, .not (.t 11), none, []⟩])
 (.ite (.t 12) (.seq (.reg [
  ⟨some 2, .mv (.c (.bool true)), none, []⟩])
 (.ret))
 (.skip)))
 (.seq (.reg [
  ⟨some 14, .lds 2 (.t 1), none, []⟩,
  ⟨some 15, .call (.f 16) [(.t 14)], none, []⟩,
  ⟨some 16, .call (.f 31) [(.t 15)], none, []⟩,
  ⟨some 13, .mv (.t 16), none, []⟩,
  ⟨some 17, .ext (.t 13) 0, none, []⟩,
  ⟨some 18, .ext (.t 13) 1, none, []⟩,
  ⟨some 3, .new [(.slice none 0 0), (.slice none 0 0)] 26, none, []⟩,
  ⟨none, .st 2 (.t 3) (.t 17), none, []⟩,
  ⟨some 4, .mv (.t 18), none, []⟩])
 (.seq (.reg [
  ⟨some 20, .lds 2 (.t 1), none, []⟩,
  ⟨some 21, .call (.f 16) [(.t 20)], none, []⟩,
  ⟨some 22, .call (.f 32) [(.t 21)], none, []⟩,
  ⟨some 19, .mv (.t 22), none, []⟩,
  ⟨some 23, .ext (.t 19) 0, none, []⟩,
  ⟨some 24, .ext (.t 19) 1, none, []⟩,
  ⟨some 5, .new [(.slice none 0 0), (.slice none 0 0)] 26, none, []⟩,
  ⟨none, .st 2 (.t 5) (.t 23), none, []⟩,
  ⟨some 6, .mv (.t 24), none, []⟩])
 (.seq (.seq (.reg [
  ⟨some 25, .lds 2 (.t 1), none, []⟩,
  ⟨some 26, .call (.f 17) [(.t 25)], none, []⟩,
  ⟨some 7, .mv (.t 26), none, []⟩])
 (.seq (.reg [
  ⟨some 27, .mv (.t 7), none, []⟩,
  ⟨some 28, .bin .neq (.t 27) (.c (.int .i64 0)), none, []⟩])
 (.ite (.t 28) (.seq (.reg [
  ⟨some 29, .mv (.t 4), none, []⟩,
  ⟨some 30, .mv (.t 7), none, []⟩,
  ⟨some 31, .bin .eql (.t 29) (.t 30), none, []⟩,
  ⟨some 32, .mv (.t 31), none, []⟩,
  ⟨some 33, .lds 2 (.t 3), (some (32, true)), []⟩,
  ⟨some 34, .build [(.slice none 0 0), (.slice none 0 0)] [], (some (32, true)), []⟩,
  ⟨some 35, .call (.f 33) [(.t 33), (.t 34)], (some (32, true)), []⟩,
  ⟨some 36, .pick (.t 32) (.t 35) (.c (.bool false)), none, []⟩,
  ⟨some 37, .mv (.t 36), none, []⟩,
  ⟨some 38, .mv (.t 6), (some (37, true)), []⟩,
  ⟨some 39, .mv (.t 7), (some (37, true)), []⟩,
  ⟨some 40, .bin .eql (.t 38) (.t 39), (some (37, true)), []⟩,
  ⟨some 41, .pick (.t 37) (.t 40) (.c (.bool false)), none, []⟩,
  ⟨some 42, .mv (.t 41), none, []⟩,
  ⟨some 43, .lds 2 (.t 5), (some (42, true)), []⟩,
  ⟨some 44, .build [(.slice none 0 0), (.slice none 0 0)] [], (some (42, true)), []⟩,
  ⟨some 45, .call (.f 33) [(.t 43), (.t 44)], (some (42, true)), []⟩,
  ⟨some 46, .pick (.t 42) (.t 45) (.c (.bool false)), none, []⟩,
  ⟨some 2, .mv (.t 46), none, []⟩])
 (.ret))
 (.skip))))
 (.seq (.dreg [0, 1, 2, 3, 4, 5, 6, 7, 8, 9, 10, 11, 12, 13, 14, 15, 16, 17, 18] [
  ⟨some 47, .mv (.t 4), none, []⟩,
  ⟨some 48, .bin .eql (.t 47) (.c (.int .i64 0)), none, []⟩,
  ⟨some 49, .mv (.t 48), none, []⟩,
  ⟨some 50, .lds 2 (.t 3), (some (49, true)), [(.t 3)]⟩,
  ⟨some 51, .lds 2 (.t 1), (some (49, true)), [(.t 1)]⟩,
  ⟨some 52, .call (.f 34) [(.t 51)], (some (49, true)), [(.t 3)]⟩,
  ⟨some 53, .call (.f 33) [(.t 50), (.t 52)], (some (49, true)), []⟩,
  ⟨some 54, .pick (.t 49) (.t 53) (.c (.bool false)), none, []⟩,
  ⟨some 55, .mv (.t 54), none, []⟩,
  ⟨some 56, .mv (.t 6), (some (55, true)), []⟩,
  ⟨some 57, .bin .eql (.t 56) (.c (.int .i64 0)), (some (55, true)), []⟩,
  ⟨some 58, .pick (.t 55) (.t 57) (.c (.bool false)), none, []⟩,
  ⟨some 59, .mv (.t 58), none, []⟩,
  ⟨some 60, .lds 2 (.t 5), (some (59, true)), [(.t 5)]⟩,
  ⟨some 61, .lds 2 (.t 1), (some (59, true)), [(.t 1)]⟩,
  ⟨some 62, .call (.f 35) [(.t 61)], (some (59, true)), [(.t 5)]⟩,
  ⟨some 63, .call (.f 33) [(.t 60), (.t 62)], (some (59, true)), []⟩,
  ⟨some 64, .pick (.t 59) (.t 63) (.c (.bool false)), none, []⟩,
  ⟨some 2, .mv (.t 64), none, []⟩])
 (.ret)))))))⟩
def m6 : MFun := ⟨223, [.t 6],
 .seq (.reg [
  ⟨some 5, .box 26 (.t 2), none, []⟩,
  ⟨some 6, .mv (.c (.bool false)), none, []⟩])
 (.seq (.seq (.reg [
  ⟨some 26, .call (.f 12) [], none, []⟩,
  ⟨some 27, .not (.t 26), none, []⟩])
 (.ite (.t 27) (.seq (.reg [
  ⟨some 6, .mv (.c (.bool false)), none, []⟩])
 (.ret))
 (.skip)))
 (.seq (.seq (.reg [
  ⟨some 28, .mv (.t 0), none, []⟩,
  ⟨some 29, .call (.f 13) [(.t 28)], none, []⟩,
  ⟨some 30, .not (.t 29), none, []⟩,
  ⟨some 31, .mv (.t 30), none, []⟩,
  ⟨some 32, .mv (.t 1), (some (31, false)), []⟩,
  ⟨some 33, .call (.f 13) [(.t 32)], (some (31, false)), []⟩,
  ⟨some 34, .not (.t 33), (some (31, false)), []⟩,
  ⟨some 35, .pick (.t 31) (.c (.bool true)) (.t 34), none, []⟩,
  ⟨some 36, .mv (.t 35), none, []⟩,
  ⟨some 37, .mv (.t 0), (some (36, false)), []⟩,
  ⟨some 38, .len (.t 37), (some (36, false)), []⟩,
  ⟨some 39, .bin .gtr (.t 38) (.c (.int .i64 15)), (some (36, false)), []⟩,
  ⟨some 40, .pick (.t 36) (.c (.bool true)) (.t 39), none, []⟩,
  ⟨some 41, .mv (.t 40), none, []⟩,
  ⟨some 42, .mv (.t 1), (some (41, false)), []⟩,
  ⟨some 43, .len (.t 42), (some (41, false)), []⟩,
  ⟨some 44, .bin .gtr (.t 43) (.c (.int .i64 15)), (some (41, false)), []⟩,
  ⟨some 45, .pick (.t 41) (.c (.bool true)) (.t 44), none, []⟩,
  ⟨some 46, .mv (.t 45), none, []⟩,
  ⟨some 47, .lds 2 (.t 5), (some (46, false)), []⟩,
  ⟨some 48, .call (.f 14) [(.t 47)], (some (46, false)), []⟩,
  ⟨some 49, .not (.t 48), (some (46, false)), []⟩,
  ⟨some 50, .pick (.t 46) (.c (.bool true)) (.t 49), none, []⟩,
  ⟨some 51, .mv (.t 50), none, []⟩,
  ⟨some 52, .mv (.t 0), (some (51, false)), []⟩,
  ⟨some 53, .lds 2 (.t 5), (some (51, false)), []⟩,
  ⟨some 54, .call (.f 21) [(.t 52), (.t 53)], (some (51, false)), []⟩,
  ⟨some 55, .bin .neq (.t 54) (.c (.int .i64 0)), (some (51, false)), []⟩,
  ⟨some 56, .pick (.t 51) (.c (.bool true)) (.t 55), none, []⟩,
  ⟨some 57, .mv (.t 56), none, []⟩,
  ⟨some 58, .mv (.t 1), (some (57, false)), []⟩,
  ⟨some 59, .call (.f 25) [(.t 58)], (some (57, false)), []⟩,
  ⟨some 60, .bin .neq (.t 59) (.c (.int .i64 0)), (some (57, false)), []⟩,
  ⟨some 61, .pick (.t 57) (.c (.bool true)) (.t 60), none, []⟩])
 (.ite (.t 61) (.seq (.reg [
  ⟨some 6, .mv (.c (.bool true)), none, []⟩])
 (.ret))
 (.skip)))
 (.seq (.reg [
  ⟨some 62, .mv (.t 0), none, []⟩,
  ⟨some 63, .call (.f 37) [(.t 62)], none, []⟩,
  ⟨some 64, .call (.f 36) [(.c (.int .i64 7)), (.t 63)], none, []⟩,
  ⟨some 7, .mv (.t 64), none, []⟩])
 (.seq (.reg [
  ⟨some 65, .mv (.t 0), none, []⟩,
  ⟨some 66, .call (.f 37) [(.t 65)], none, []⟩,
  ⟨some 67, .call (.f 37) [(.t 66)], none, []⟩,
  ⟨some 68, .mv (.t 0), none, []⟩,
  ⟨some 69, .lit 23 [(.slice none 0 0)] [(0, 1, (.t 67)), (1, 1, (.t 68))] 2, none, []⟩,
  ⟨some 70, .mv (.t 0), none, []⟩,
  ⟨some 71, .call (.f 36) [(.c (.int .i64 6)), (.t 70)], none, []⟩,
  ⟨some 72, .mv (.t 7), none, []⟩,
  ⟨some 73, .call (.f 37) [(.t 72)], none, []⟩,
  ⟨some 74, .lit 23 [(.slice none 0 0)] [(0, 1, (.t 71)), (1, 1, (.t 73))] 2, none, []⟩,
  ⟨some 75, .mv (.t 0), none, []⟩,
  ⟨some 76, .mv (.t 1), none, []⟩,
  ⟨some 77, .lit 23 [(.slice none 0 0)] [(0, 1, (.t 75)), (1, 1, (.t 76))] 2, none, []⟩,
  ⟨some 78, .call (.f 38) [(.c (.int .i64 8)), (.t 77)], none, []⟩,
  ⟨some 79, .mv (.t 0), none, []⟩,
  ⟨some 80, .mv (.t 1), none, []⟩,
  ⟨some 81, .call (.f 36) [(.c (.int .i64 7)), (.t 80)], none, []⟩,
  ⟨some 82, .lit 23 [(.slice none 0 0)] [(0, 1, (.t 79)), (1, 1, (.t 81))] 2, none, []⟩,
  ⟨some 83, .call (.f 38) [(.c (.int .i64 5)), (.t 82)], none, []⟩,
  ⟨some 84, .call (.f 36) [(.c (.int .i64 6)), (.t 83)], none, []⟩,
  ⟨some 85, .lit 23 [(.slice none 0 0)] [(0, 1, (.t 78)), (1, 1, (.t 84))] 2, none, []⟩,
  ⟨some 86, .mv (.t 0), none, []⟩,
  ⟨some 87, .call (.f 36) [(.c (.int .i64 7)), (.t 86)], none, []⟩,
  ⟨some 88, .build [(.int .i64 0), (.int .i64 0), (.slice none 0 0)] [(0, 1, (.c (.int .i64 0)))], none, []⟩,
  ⟨some 89, .lit 67 [(.int .i64 0), (.int .i64 0), (.slice none 0 0)] [(0, 3, (.t 88))] 1, none, []⟩,
  ⟨some 90, .mv (.t 0), none, []⟩,
  ⟨some 91, .lit 23 [(.slice none 0 0)] [(0, 1, (.t 89)), (1, 1, (.t 90))] 2, none, []⟩,
  ⟨some 92, .call (.f 38) [(.c (.int .i64 9)), (.t 91)], none, []⟩,
  ⟨some 93, .lit 23 [(.slice none 0 0)] [(0, 1, (.t 87)), (1, 1, (.t 92))] 2, none, []⟩,
  ⟨some 94, .lit 64 [(.slice none 0 0)] [(0, 1, (.t 69)), (1, 1, (.t 74)), (2, 1, (.t 85)), (3, 1, (.t 93))] 4, none, []⟩,
  ⟨some 8, .mv (.t 94), none, []⟩])
 (.seq (.seq (.reg [
  ⟨some 9, .mv (.c (.int .i64 0)), none, []⟩])
 (.blk 0 (.loop (.seq (.seq (.reg [
  ⟨some 95, .mv (.t 9), none, []⟩,
  ⟨some 96, .mv (.t 8), none, []⟩,
  ⟨some 97, .len (.t 96), none, []⟩,
  ⟨some 98, .bin .lss (.t 95) (.t 97), none, []⟩])
 (.ite (.t 98) (.skip)
 (.exit 0)))
 (.seq (.blk 1 (.seq (.dreg [0, 1, 2, 3, 4, 5, 6, 7, 8, 9, 10, 11, 12, 13] [
  ⟨some 102, .mv (.t 8), none, []⟩,
  ⟨some 103, .mv (.t 9), none, []⟩,
  ⟨some 104, .ia 1 (.t 102) (.t 103), none, []⟩,
  ⟨some 105, .ld (.t 104), none, [(.t 104)]⟩,
  ⟨some 106, .ia 1 (.t 105) (.c (.int .i64 0)), none, []⟩,
  ⟨some 107, .ld (.t 106), none, [(.t 106)]⟩,
  ⟨some 108, .lds 2 (.t 5), none, [(.t 5)]⟩,
  ⟨some 109, .call (.f 16) [(.t 108)], none, [(.t 104), (.t 106)]⟩,
  ⟨some 110, .call (.f 20) [(.t 107), (.t 109)], none, []⟩,
  ⟨some 101, .mv (.t 110), none, []⟩,
  ⟨some 111, .ext (.t 101) 0, none, []⟩,
  ⟨some 112, .ext (.t 101) 1, none, []⟩,
  ⟨some 10, .mv (.t 111), none, []⟩,
  ⟨some 11, .mv (.t 112), none, []⟩])
 (.seq (.dreg [0, 1, 2, 3, 4, 5, 6, 7, 8, 9, 10, 11, 12, 13] [
  ⟨some 114, .mv (.t 8), none, []⟩,
  ⟨some 115, .mv (.t 9), none, []⟩,
  ⟨some 116, .ia 1 (.t 114) (.t 115), none, []⟩,
  ⟨some 117, .ld (.t 116), none, [(.t 116)]⟩,
  ⟨some 118, .ia 1 (.t 117) (.c (.int .i64 1)), none, []⟩,
  ⟨some 119, .ld (.t 118), none, [(.t 118)]⟩,
  ⟨some 120, .lds 2 (.t 5), none, [(.t 5)]⟩,
  ⟨some 121, .call (.f 16) [(.t 120)], none, [(.t 116), (.t 118)]⟩,
  ⟨some 122, .call (.f 20) [(.t 119), (.t 121)], none, []⟩,
  ⟨some 113, .mv (.t 122), none, []⟩,
  ⟨some 123, .ext (.t 113) 0, none, []⟩,
  ⟨some 124, .ext (.t 113) 1, none, []⟩,
  ⟨some 12, .mv (.t 123), none, []⟩,
  ⟨some 13, .mv (.t 124), none, []⟩])
 (.seq (.reg [
  ⟨some 125, .mv (.t 11), none, []⟩,
  ⟨some 126, .bin .neq (.t 125) (.c (.int .i64 0)), none, []⟩,
  ⟨some 127, .mv (.t 126), none, []⟩,
  ⟨some 128, .mv (.t 13), (some (127, false)), []⟩,
  ⟨some 129, .bin .neq (.t 128) (.c (.int .i64 0)), (some (127, false)), []⟩,
  ⟨some 130, .pick (.t 127) (.c (.bool true)) (.t 129), none, []⟩,
  ⟨some 131, .mv (.t 130), none, []⟩,
  ⟨some 132, .mv (.t 10), (some (131, false)), []⟩,
  ⟨some 133, .mv (.t 12), (some (131, false)), []⟩,
  ⟨some 134, .eq true .bool (.t 132) (.t 133), (some (131, false)), []⟩,
  ⟨some 135, .pick (.t 131) (.c (.bool true)) (.t 134), none, []⟩])
 (.ite (.t 135) (.seq (.reg [
  ⟨some 6, .mv (.c (.bool false)), none, []⟩])
 (.ret))
 (.skip))))))
 (.reg [
  ⟨some 99, .mv (.t 9), none, []⟩,
  ⟨some 100, .bin .add (.t 99) (.c (.int .i64 1)), none, []⟩,
  ⟨some 9, .mv (.t 100), none, []⟩]))))))
 (.seq (.dreg [0, 2, 1, 3, 4, 5, 6, 7, 8, 9] [
  ⟨some 137, .mv (.t 0), none, []⟩,
  ⟨some 139, .lds 2 (.t 5), none, [(.t 5)]⟩,
  ⟨some 138, .call (.f 19) [(.t 137)], none, [(.t 5)]⟩,
  ⟨some 140, .call (.f 16) [(.t 139)], none, []⟩,
  ⟨some 141, .call (.f 20) [(.t 138), (.t 140)], none, []⟩,
  ⟨some 136, .mv (.t 141), none, []⟩,
  ⟨some 142, .ext (.t 136) 0, none, []⟩,
  ⟨some 143, .ext (.t 136) 1, none, []⟩,
  ⟨some 14, .mv (.t 142), none, []⟩,
  ⟨some 15, .mv (.t 143), none, []⟩])
 (.seq (.dreg [0, 2, 1, 3, 4, 5, 6, 7, 8, 9] [
  ⟨some 145, .mv (.t 0), none, []⟩,
  ⟨some 147, .lds 2 (.t 5), none, [(.t 5)]⟩,
  ⟨some 146, .call (.f 37) [(.t 145)], none, [(.t 5)]⟩,
  ⟨some 148, .call (.f 16) [(.t 147)], none, []⟩,
  ⟨some 149, .call (.f 20) [(.t 146), (.t 148)], none, []⟩,
  ⟨some 144, .mv (.t 149), none, []⟩,
  ⟨some 150, .ext (.t 144) 0, none, []⟩,
  ⟨some 151, .ext (.t 144) 1, none, []⟩,
  ⟨some 16, .mv (.t 150), none, []⟩,
  ⟨some 17, .mv (.t 151), none, []⟩])
 (.seq (.reg [
  ⟨some 153, .lds 2 (.t 5), none, []⟩,
  ⟨some 154, .call (.f 16) [(.t 153)], none, []⟩,
  ⟨some 155, .call (.f 31) [(.t 154)], none, []⟩,
  ⟨some 152, .mv (.t 155), none, []⟩,
  ⟨some 156, .ext (.t 152) 0, none, []⟩,
  ⟨some 157, .ext (.t 152) 1, none, []⟩,
  ⟨some 18, .new [(.slice none 0 0), (.slice none 0 0)] 26, none, []⟩,
  ⟨none, .st 2 (.t 18) (.t 156), none, []⟩,
  ⟨some 19, .mv (.t 157), none, []⟩])
 (.seq (.reg [
  ⟨some 159, .lds 2 (.t 5), none, []⟩,
  ⟨some 160, .call (.f 16) [(.t 159)], none, []⟩,
  ⟨some 161, .call (.f 32) [(.t 160)], none, []⟩,
  ⟨some 158, .mv (.t 161), none, []⟩,
  ⟨some 162, .ext (.t 158) 0, none, []⟩,
  ⟨some 163, .ext (.t 158) 1, none, []⟩,
  ⟨some 20, .new [(.slice none 0 0), (.slice none 0 0)] 26, none, []⟩,
  ⟨none, .st 2 (.t 20) (.t 162), none, []⟩,
  ⟨some 21, .mv (.t 163), none, []⟩])
 (.seq (.seq (.reg [
  ⟨some 164, .mv (.t 15), none, []⟩,
  ⟨some 165, .bin .neq (.t 164) (.c (.int .i64 0)), none, []⟩,
  ⟨some 166, .mv (.t 165), none, []⟩,
  ⟨some 167, .mv (.t 17), (some (166, false)), []⟩,
  ⟨some 168, .bin .neq (.t 167) (.c (.int .i64 0)), (some (166, false)), []⟩,
  ⟨some 169, .pick (.t 166) (.c (.bool true)) (.t 168), none, []⟩,
  ⟨some 170, .mv (.t 169), none, []⟩,
  ⟨some 171, .mv (.t 14), (some (170, false)), []⟩,
  ⟨some 172, .mv (.t 16), (some (170, false)), []⟩,
  ⟨some 173, .eq false .bool (.t 171) (.t 172), (some (170, false)), []⟩,
  ⟨some 174, .pick (.t 170) (.c (.bool true)) (.t 173), none, []⟩,
  ⟨some 175, .mv (.t 174), none, []⟩,
  ⟨some 176, .mv (.t 19), (some (175, false)), []⟩,
  ⟨some 177, .bin .neq (.t 176) (.c (.int .i64 0)), (some (175, false)), []⟩,
  ⟨some 178, .pick (.t 175) (.c (.bool true)) (.t 177), none, []⟩,
  ⟨some 179, .mv (.t 178), none, []⟩,
  ⟨some 180, .mv (.t 21), (some (179, false)), []⟩,
  ⟨some 181, .bin .neq (.t 180) (.c (.int .i64 0)), (some (179, false)), []⟩,
  ⟨some 182, .pick (.t 179) (.c (.bool true)) (.t 181), none, []⟩,
  ⟨some 183, .mv (.t 182), none, []⟩,
  ⟨some 184, .lds 2 (.t 18), (some (183, false)), []⟩,
  ⟨some 185, .call (.f 17) [(.t 184)], (some (183, false)), []⟩,
  ⟨some 186, .bin .neq (.t 185) (.c (.int .i64 0)), (some (183, false)), []⟩,
  ⟨some 187, .pick (.t 183) (.c (.bool true)) (.t 186), none, []⟩,
  ⟨some 188, .mv (.t 187), none, []⟩,
  ⟨some 189, .lds 2 (.t 20), (some (188, false)), []⟩,
  ⟨some 190, .call (.f 17) [(.t 189)], (some (188, false)), []⟩,
  ⟨some 191, .bin .neq (.t 190) (.c (.int .i64 0)), (some (188, false)), []⟩,
  ⟨some 192, .pick (.t 188) (.c (.bool true)) (.t 191), none, []⟩])
 (.ite (.t 192) (.seq (.reg [
  ⟨some 6, .mv (.c (.bool false)), none, []⟩])
 (.ret))
 (.skip)))
 (.seq (.dreg [0, 2, 1, 3, 4, 5, 6, 7, 8] [
  ⟨some 194, .mv (.t 0), none, []⟩,
  ⟨some 196, .lds 2 (.t 18), none, [(.t 18)]⟩,
  ⟨some 195, .call (.f 19) [(.t 194)], none, [(.t 18)]⟩,
  ⟨some 197, .call (.f 20) [(.t 195), (.t 196)], none, []⟩,
  ⟨some 193, .mv (.t 197), none, []⟩,
  ⟨some 198, .ext (.t 193) 0, none, []⟩,
  ⟨some 199, .ext (.t 193) 1, none, []⟩,
  ⟨some 22, .mv (.t 198), none, []⟩,
  ⟨some 23, .mv (.t 199), none, []⟩])
 (.seq (.dreg [0, 2, 1, 3, 4, 5, 6, 7, 8] [
  ⟨some 201, .mv (.t 0), none, []⟩,
  ⟨some 203, .lds 2 (.t 20), none, [(.t 20)]⟩,
  ⟨some 202, .call (.f 19) [(.t 201)], none, [(.t 20)]⟩,
  ⟨some 204, .call (.f 20) [(.t 202), (.t 203)], none, []⟩,
  ⟨some 200, .mv (.t 204), none, []⟩,
  ⟨some 205, .ext (.t 200) 0, none, []⟩,
  ⟨some 206, .ext (.t 200) 1, none, []⟩,
  ⟨some 24, .mv (.t 205), none, []⟩,
  ⟨some 25, .mv (.t 206), none, []⟩])
 (.seq (.reg [
  ⟨some 207, .mv (.t 23), none, []⟩,
  ⟨some 208, .bin .eql (.t 207) (.c (.int .i64 0)), none, []⟩,
  ⟨some 209, .mv (.t 208), none, []⟩,
  ⟨some 210, .mv (.t 22), (some (209, true)), []⟩,
  ⟨some 211, .mv (.t 14), (some (209, true)), []⟩,
  ⟨some 212, .eq false .bool (.t 210) (.t 211), (some (209, true)), []⟩,
  ⟨some 213, .pick (.t 209) (.t 212) (.c (.bool false)), none, []⟩,
  ⟨some 214, .mv (.t 213), none, []⟩,
  ⟨some 215, .mv (.t 25), (some (214, true)), []⟩,
  ⟨some 216, .bin .eql (.t 215) (.c (.int .i64 0)), (some (214, true)), []⟩,
  ⟨some 217, .pick (.t 214) (.t 216) (.c (.bool false)), none, []⟩,
  ⟨some 218, .mv (.t 217), none, []⟩,
  ⟨some 219, .mv (.t 24), (some (218, true)), []⟩,
  ⟨some 220, .mv (.t 14), (some (218, true)), []⟩,
  ⟨some 221, .eq false .bool (.t 219) (.t 220), (some (218, true)), []⟩,
  ⟨some 222, .pick (.t 218) (.t 221) (.c (.bool false)), none, []⟩,
  ⟨some 6, .mv (.t 222), none, []⟩])
 (.ret))))))))))))))⟩
def m7 : MFun := ⟨67, [.t 4],
 .seq (.reg [
  ⟨some 2, .box 47 (.t 0), none, []⟩,
  ⟨some 3, .box 52 (.t 1), none, []⟩,
  ⟨some 4, .mv (.c (.bool false)), none, []⟩])
 (.seq (.seq (.reg [
  ⟨some 9, .call (.f 12) [], none, []⟩,
  ⟨some 10, .not (.t 9), none, []⟩])
 (.ite (.t 10) (.seq (.reg [
  ⟨some 4, .mv (.c (.bool false)), none, []⟩])
 (.ret))
 (.skip)))
 (.seq (.seq (.reg [
  ⟨some 11, .lds 8 (.t 2), none, []⟩,
  ⟨some 12, .call (.f 23) [(.t 11)], none, []⟩,
  ⟨some 13, .not (.t 12), none, []⟩,
  ⟨some 14, .mv (.t 13), none, []⟩,
  ⟨some 15, .fa 0 (.t 3), (some (14, false)), []⟩,
  ⟨some 16, .ld (.t 15), (some (14, false)), []⟩,
  ⟨some 17, .len (.t 16), (some (14, false)), []⟩,
  ⟨some 18, .bin .gtr (.t 17) (.c (.int .i64 70)), (some (14, false)), []⟩,
  ⟨some 19, .pick (.t 14) (.c (.bool true)) (.t 18), none, []⟩,
  ⟨some 20, .mv (.t 19), none, []⟩,
  ⟨some 21, .fa 1 (.t 3), (some (20, false)), []⟩,
  ⟨some 22, .ld (.t 21), (some (20, false)), []⟩,
  ⟨some 23, .len (.t 22), (some (20, false)), []⟩,
  ⟨some 24, .bin .gtr (.t 23) (.c (.int .i64 70)), (some (20, false)), []⟩,
  ⟨some 25, .pick (.t 20) (.c (.bool true)) (.t 24), none, []⟩])
 (.ite (.t 25) (.seq (.reg [
  ⟨some 4, .mv (.c (.bool true)), none, []⟩])
 (.ret))
 (.skip)))
 (.seq (.reg [
  ⟨some 27, .lds 8 (.t 2), none, []⟩,
  ⟨some 28, .call (.f 28) [(.t 27)], none, []⟩,
  ⟨some 29, .call (.f 39) [(.t 28)], none, []⟩,
  ⟨some 26, .mv (.t 29), none, []⟩,
  ⟨some 30, .ext (.t 26) 0, none, []⟩,
  ⟨some 31, .ext (.t 26) 1, none, []⟩,
  ⟨some 5, .mv (.t 30), none, []⟩,
  ⟨some 6, .mv (.t 31), none, []⟩])
 (.seq (.reg [
  ⟨some 33, .lds 8 (.t 2), none, []⟩,
  ⟨some 34, .call (.f 40) [(.t 33)], none, []⟩,
  ⟨some 32, .mv (.t 34), none, []⟩,
  ⟨some 35, .ext (.t 32) 0, none, []⟩,
  ⟨some 36, .ext (.t 32) 1, none, []⟩,
  ⟨some 7, .mv (.t 35), none, []⟩,
  ⟨some 8, .mv (.t 36), none, []⟩])
 (.seq (.seq (.reg [
  ⟨some 37, .mv (.t 6), none, []⟩,
  ⟨some 38, .mv (.t 8), none, []⟩,
  ⟨some 39, .bin .neq (.t 37) (.t 38), none, []⟩,
  ⟨some 40, .mv (.t 39), none, []⟩,
  ⟨some 41, .mv (.t 5), (some (40, false)), []⟩,
  ⟨some 42, .mv (.t 7), (some (40, false)), []⟩,
  ⟨some 43, .bin .neq (.t 41) (.t 42), (some (40, false)), []⟩,
  ⟨some 44, .pick (.t 40) (.c (.bool true)) (.t 43), none, []⟩])
 (.ite (.t 44) (.seq (.reg [
  ⟨some 4, .mv (.c (.bool false)), none, []⟩])
 (.ret))
 (.skip)))
 (.seq (.dreg [0, 2, 1, 3, 4, 5, 6, 7, 8, 9] [
  ⟨some 46, .lds 8 (.t 2), none, [(.t 2)]⟩,
  ⟨some 48, .lds 2 (.t 3), none, [(.t 3)]⟩,
  ⟨some 47, .call (.f 28) [(.t 46)], none, [(.t 3)]⟩,
  ⟨some 49, .call (.f 42) [(.t 48)], none, []⟩,
  ⟨some 50, .call (.f 41) [(.t 47), (.t 49)], none, []⟩,
  ⟨some 45, .mv (.t 50), none, []⟩,
  ⟨some 51, .ext (.t 45) 0, none, []⟩,
  ⟨some 52, .ext (.t 45) 1, none, []⟩,
  ⟨some 5, .mv (.t 51), none, []⟩,
  ⟨some 6, .mv (.t 52), none, []⟩])
 (.seq (.reg [
  ⟨some 54, .lds 8 (.t 2), none, []⟩,
  ⟨some 55, .lds 2 (.t 3), none, []⟩,
  ⟨some 56, .call (.f 43) [(.t 54), (.t 55)], none, []⟩,
  ⟨some 53, .mv (.t 56), none, []⟩,
  ⟨some 57, .ext (.t 53) 0, none, []⟩,
  ⟨some 58, .ext (.t 53) 1, none, []⟩,
  ⟨some 7, .mv (.t 57), none, []⟩,
  ⟨some 8, .mv (.t 58), none, []⟩])
 (.seq (.reg [
  ⟨some 59, .mv (.t 6), none, []⟩,
  ⟨some 60, .mv (.t 8), none, []⟩,
  ⟨some 61, .bin .eql (.t 59) (.t 60), none, []⟩,
  ⟨some 62, .mv (.t 61), none, []⟩,
  ⟨some 63, .mv (.t 5), (some (62, true)), []⟩,
  ⟨some 64, .mv (.t 7), (some (62, true)), []⟩,
  ⟨some 65, .bin .eql (.t 63) (.t 64), (some (62, true)), []⟩,
  ⟨some 66, .pick (.t 62) (.t 65) (.c (.bool false)), none, []⟩,
  ⟨some 4, .mv (.t 66), none, []⟩])
 (.ret)))))))))⟩
def m8 : MFun := ⟨122, [.t 4],
 .seq (.reg [
  ⟨some 4, .mv (.c (.bool false)), none, []⟩])
 (.seq (.seq (.reg [
  ⟨some 20, .call (.f 12) [], none, []⟩,
  ⟨some 21, .not (.t 20), none, []⟩])
 (.ite (.t 21) (.seq (.reg [
  ⟨some 4, .mv (.c (.bool false)), none, []⟩])
 (.ret))
 (.skip)))
 (.seq (.seq (.reg [
  ⟨some 22, .mv (.t 0), none, []⟩,
  ⟨some 23, .call (.f 13) [(.t 22)], none, []⟩,
  ⟨some 24, .not (.t 23), none, []⟩,
  ⟨some 25, .mv (.t 24), none, []⟩,
  ⟨some 26, .mv (.t 1), (some (25, false)), []⟩,
  ⟨some 27, .slen (.t 26), (some (25, false)), []⟩,
  ⟨some 28, .bin .gtr (.t 27) (.c (.int .i64 420)), (some (25, false)), []⟩,
  ⟨some 29, .pick (.t 25) (.c (.bool true)) (.t 28), none, []⟩])
 (.ite (.t 29) (.seq (.reg [
  ⟨some 4, .mv (.c (.bool true)), none, []⟩])
 (.ret))
 (.skip)))
 (.seq (.reg [
  ⟨some 31, .mv (.t 0), none, []⟩,
  ⟨some 32, .call (.f 19) [(.t 31)], none, []⟩,
  ⟨some 33, .call (.f 44) [(.t 32)], none, []⟩,
  ⟨some 30, .mv (.t 33), none, []⟩,
  ⟨some 34, .ext (.t 30) 0, none, []⟩,
  ⟨some 35, .ext (.t 30) 1, none, []⟩,
  ⟨some 5, .mv (.t 34), none, []⟩,
  ⟨some 6, .mv (.t 35), none, []⟩])
 (.seq (.reg [
  ⟨some 37, .mv (.t 0), none, []⟩,
  ⟨some 38, .call (.f 19) [(.t 37)], none, []⟩,
  ⟨some 39, .call (.f 45) [(.t 38)], none, []⟩,
  ⟨some 36, .mv (.t 39), none, []⟩,
  ⟨some 40, .ext (.t 36) 0, none, []⟩,
  ⟨some 41, .ext (.t 36) 1, none, []⟩,
  ⟨some 7, .mv (.t 40), none, []⟩,
  ⟨some 8, .mv (.t 41), none, []⟩])
 (.seq (.reg [
  ⟨some 43, .mv (.t 0), none, []⟩,
  ⟨some 44, .call (.f 46) [(.t 43)], none, []⟩,
  ⟨some 42, .mv (.t 44), none, []⟩,
  ⟨some 45, .ext (.t 42) 0, none, []⟩,
  ⟨some 46, .ext (.t 42) 1, none, []⟩,
  ⟨some 9, .mv (.t 45), none, []⟩,
  ⟨some 10, .mv (.t 46), none, []⟩])
 (.seq (.seq (.reg [
  ⟨some 47, .mv (.t 6), none, []⟩,
  ⟨some 48, .mv (.t 10), none, []⟩,
  ⟨some 49, .bin .neq (.t 47) (.t 48), none, []⟩,
  ⟨some 50, .mv (.t 49), none, []⟩,
  ⟨some 51, .mv (.t 5), (some (50, false)), []⟩,
  ⟨some 52, .mv (.t 9), (some (50, false)), []⟩,
  ⟨some 53, .bin .neq (.t 51) (.t 52), (some (50, false)), []⟩,
  ⟨some 54, .pick (.t 50) (.c (.bool true)) (.t 53), none, []⟩,
  ⟨some 55, .mv (.t 54), none, []⟩,
  ⟨some 56, .mv (.t 8), (some (55, false)), []⟩,
  ⟨some 57, .mv (.t 10), (some (55, false)), []⟩,
  ⟨some 58, .bin .neq (.t 56) (.t 57), (some (55, false)), []⟩,
  ⟨some 59, .pick (.t 55) (.c (.bool true)) (.t 58), none, []⟩])
 (.ite (.t 59) (.seq (.reg [
  ⟨some 4, .mv (.c (.bool false)), none, []⟩])
 (.ret))
 (.skip)))
 (.seq (.seq (.reg [
  ⟨some 60, .mv (.t 10), none, []⟩,
  ⟨some 61, .bin .neq (.t 60) (.c (.int .i64 0)), none, []⟩])
 (.ite (.t 61) (.seq (.reg [
  ⟨some 62, .mv (.t 7), none, []⟩,
  ⟨some 63, .bin .neq (.t 62) (.c (.string ⟨#[]⟩)), none, []⟩])
 (.ite (.t 63) (.seq (.reg [
  ⟨some 4, .mv (.c (.bool false)), none, []⟩])
 (.ret))
 (.skip)))
 (.seq (.reg [
  ⟨some 64, .mv (.t 0), none, []⟩,
  ⟨some 65, .mv (.t 0), none, []⟩,
  ⟨some 66, .len (.t 65), none, []⟩,
  ⟨some 67, .bin .sub (.t 66) (.c (.int .i64 1)), none, []⟩,
  ⟨some 68, .call (.f 47) [(.t 64), (.t 67)], none, []⟩,
  ⟨some 11, .mv (.t 68), none, []⟩])
 (.seq (.reg [
  ⟨some 69, .mv (.t 7), none, []⟩,
  ⟨some 70, .mv (.t 11), none, []⟩,
  ⟨some 71, .bin .neq (.t 69) (.t 70), none, []⟩])
 (.ite (.t 71) (.seq (.reg [
  ⟨some 4, .mv (.c (.bool false)), none, []⟩])
 (.ret))
 (.seq (.reg [
  ⟨some 73, .mv (.t 11), none, []⟩,
  ⟨some 74, .call (.f 48) [(.t 73)], none, []⟩,
  ⟨some 72, .mv (.t 74), none, []⟩,
  ⟨some 75, .ext (.t 72) 0, none, []⟩,
  ⟨some 76, .ext (.t 72) 1, none, []⟩,
  ⟨some 77, .ext (.t 72) 2, none, []⟩,
  ⟨some 12, .mv (.t 75), none, []⟩,
  ⟨some 13, .mv (.t 76), none, []⟩,
  ⟨some 14, .mv (.t 77), none, []⟩])
 (.seq (.reg [
  ⟨some 78, .mv (.t 11), none, []⟩,
  ⟨some 79, .slen (.t 78), none, []⟩,
  ⟨some 80, .bin .leq (.t 79) (.c (.int .i64 400)), none, []⟩,
  ⟨some 81, .mv (.t 80), none, []⟩,
  ⟨some 82, .mv (.t 14), (some (81, true)), []⟩,
  ⟨some 83, .bin .neq (.t 82) (.c (.int .i64 0)), (some (81, true)), []⟩,
  ⟨some 84, .mv (.t 83), (some (81, true)), []⟩,
  ⟨some 85, .mv (.t 13), (some (84, false)), []⟩,
  ⟨some 86, .mv (.t 11), (some (84, false)), []⟩,
  ⟨some 87, .slen (.t 86), (some (84, false)), []⟩,
  ⟨some 88, .bin .neq (.t 85) (.t 87), (some (84, false)), []⟩,
  ⟨some 89, .pick (.t 84) (.c (.bool true)) (.t 88), (some (81, true)), []⟩,
  ⟨some 90, .mv (.t 89), (some (81, true)), []⟩,
  ⟨some 91, .mv (.t 12), (some (90, false)), []⟩,
  ⟨some 92, .mv (.t 0), (some (90, false)), []⟩,
  ⟨some 93, .call (.f 49) [(.t 91), (.t 92)], (some (90, false)), []⟩,
  ⟨some 94, .not (.t 93), (some (90, false)), []⟩,
  ⟨some 95, .pick (.t 90) (.c (.bool true)) (.t 94), (some (81, true)), []⟩,
  ⟨some 96, .pick (.t 81) (.t 95) (.c (.bool false)), none, []⟩])
 (.ite (.t 96) (.seq (.reg [
  ⟨some 4, .mv (.c (.bool false)), none, []⟩])
 (.ret))
 (.skip)))))))))
 (.seq (.reg [
  ⟨some 98, .mv (.t 1), none, []⟩,
  ⟨some 99, .call (.f 48) [(.t 98)], none, []⟩,
  ⟨some 97, .mv (.t 99), none, []⟩,
  ⟨some 100, .ext (.t 97) 0, none, []⟩,
  ⟨some 101, .ext (.t 97) 1, none, []⟩,
  ⟨some 102, .ext (.t 97) 2, none, []⟩,
  ⟨some 15, .mv (.t 100), none, []⟩,
  ⟨some 16, .mv (.t 101), none, []⟩,
  ⟨some 17, .mv (.t 102), none, []⟩])
 (.seq (.reg [
  ⟨some 104, .mv (.t 1), none, []⟩,
  ⟨some 105, .call (.f 50) [(.t 104)], none, []⟩,
  ⟨some 103, .mv (.t 105), none, []⟩,
  ⟨some 106, .ext (.t 103) 0, none, []⟩,
  ⟨some 107, .ext (.t 103) 1, none, []⟩,
  ⟨some 108, .ext (.t 103) 2, none, []⟩,
  ⟨some 18, .mv (.t 106), none, []⟩,
  ⟨some 19, .mv (.t 107), none, []⟩,
  ⟨some 10, .mv (.t 108), none, []⟩])
 (.seq (.reg [
  ⟨some 109, .mv (.t 17), none, []⟩,
  ⟨some 110, .mv (.t 10), none, []⟩,
  ⟨some 111, .bin .eql (.t 109) (.t 110), none, []⟩,
  ⟨some 112, .mv (.t 111), none, []⟩,
  ⟨some 113, .mv (.t 16), (some (112, true)), []⟩,
  ⟨some 114, .mv (.t 19), (some (112, true)), []⟩,
  ⟨some 115, .bin .eql (.t 113) (.t 114), (some (112, true)), []⟩,
  ⟨some 116, .pick (.t 112) (.t 115) (.c (.bool false)), none, []⟩,
  ⟨some 117, .mv (.t 116), none, []⟩,
  ⟨some 118, .mv (.t 15), (some (117, true)), []⟩,
  ⟨some 119, .mv (.t 18), (some (117, true)), []⟩,
  ⟨some 120, .call (.f 49) [(.t 118), (.t 119)], (some (117, true)), []⟩,
  ⟨some 121, .pick (.t 117) (.t 120) (.c (.bool false)), none, []⟩,
  ⟨some 4, .mv (.t 121), none, []⟩])
 (.ret)))))))))))⟩
def m9 : MFun := ⟨50, [.t 4],
 .seq (.reg [
  ⟨some 4, .mv (.c (.bool false)), none, []⟩])
 (.seq (.seq (.reg [
  ⟨some 8, .call (.f 12) [], none, []⟩,
  ⟨some 9, .not (.t 8), none, []⟩])
 (.ite (.t 9) (.seq (.reg [
  ⟨some 4, .mv (.c (.bool false)), none, []⟩])
 (.ret))
 (.skip)))
 (.seq (.seq (.reg [
  ⟨some 10, .mv (.t 0), none, []⟩,
  ⟨some 11, .call (.f 13) [(.t 10)], none, []⟩,
  ⟨some 12, .not (.t 11), none, []⟩,
  ⟨some 13, .mv (.t 12), none, []⟩,
  ⟨some 14, .mv (.t 1), (some (13, false)), []⟩,
  ⟨some 15, .len (.t 14), (some (13, false)), []⟩,
  ⟨some 16, .bin .gtr (.t 15) (.c (.int .i64 15)), (some (13, false)), []⟩,
  ⟨some 17, .pick (.t 13) (.c (.bool true)) (.t 16), none, []⟩])
 (.ite (.t 17) (.seq (.reg [
  ⟨some 4, .mv (.c (.bool true)), none, []⟩])
 (.ret))
 (.skip)))
 (.seq (.reg [
  ⟨some 19, .mv (.t 0), none, []⟩,
  ⟨some 20, .call (.f 19) [(.t 19)], none, []⟩,
  ⟨some 21, .mv (.t 1), none, []⟩,
  ⟨some 22, .call (.f 52) [(.t 21)], none, []⟩,
  ⟨some 23, .call (.f 51) [(.t 20), (.t 22)], none, []⟩,
  ⟨some 18, .mv (.t 23), none, []⟩,
  ⟨some 24, .ext (.t 18) 0, none, []⟩,
  ⟨some 25, .ext (.t 18) 1, none, []⟩,
  ⟨some 5, .mv (.t 24), none, []⟩,
  ⟨some 6, .mv (.t 25), none, []⟩])
 (.seq (.reg [
  ⟨some 26, .mv (.t 0), none, []⟩,
  ⟨some 27, .call (.f 25) [(.t 26)], none, []⟩,
  ⟨some 7, .mv (.t 27), none, []⟩])
 (.seq (.seq (.reg [
  ⟨some 28, .mv (.t 7), none, []⟩,
  ⟨some 29, .bin .eql (.t 28) (.c (.int .i64 0)), none, []⟩])
 (.ite (.t 29) (.reg [
  ⟨some 30, .mv (.t 1), none, []⟩,
  ⟨some 31, .call (.f 53) [(.t 30)], none, []⟩,
  ⟨some 7, .mv (.t 31), none, []⟩])
 (.skip)))
 (.seq (.seq (.reg [
  ⟨some 32, .mv (.t 7), none, []⟩,
  ⟨some 33, .bin .neq (.t 32) (.c (.int .i64 0)), none, []⟩])
 (.ite (.t 33) (.seq (.reg [
  ⟨some 34, .mv (.t 6), none, []⟩,
  ⟨some 35, .mv (.t 7), none, []⟩,
  ⟨some 36, .bin .eql (.t 34) (.t 35), none, []⟩,
  ⟨some 37, .mv (.t 36), none, []⟩,
  ⟨some 38, .mv (.t 5), (some (37, true)), []⟩,
  ⟨some 39, .not (.t 38), (some (37, true)), []⟩,
  ⟨some 40, .pick (.t 37) (.t 39) (.c (.bool false)), none, []⟩,
  ⟨some 4, .mv (.t 40), none, []⟩])
 (.ret))
 (.skip)))
 (.seq (.reg [
  ⟨some 41, .mv (.t 6), none, []⟩,
  ⟨some 42, .bin .eql (.t 41) (.c (.int .i64 0)), none, []⟩,
  ⟨some 43, .mv (.t 42), none, []⟩,
  ⟨some 44, .mv (.t 5), (some (43, true)), []⟩,
  ⟨some 45, .mv (.t 0), (some (43, true)), []⟩,
  ⟨some 46, .mv (.t 1), (some (43, true)), []⟩,
  ⟨some 47, .call (.f 54) [(.t 45), (.t 46)], (some (43, true)), []⟩,
  ⟨some 48, .eq false .bool (.t 44) (.t 47), (some (43, true)), []⟩,
  ⟨some 49, .pick (.t 43) (.t 48) (.c (.bool false)), none, []⟩,
  ⟨some 4, .mv (.t 49), none, []⟩])
 (.ret))))))))⟩
def m10 : MFun := ⟨85, [.t 4],
 .seq (.reg [
  ⟨some 2, .box 47 (.t 0), none, []⟩,
  ⟨some 3, .box 52 (.t 1), none, []⟩,
  ⟨some 4, .mv (.c (.bool false)), none, []⟩])
 (.seq (.seq (.reg [
  ⟨some 10, .call (.f 12) [], none, []⟩,
  ⟨some 11, .not (.t 10), none, []⟩])
 (.ite (.t 11) (.seq (.reg [
  ⟨some 4, .mv (.c (.bool false)), none, []⟩])
 (.ret))
 (.skip)))
 (.seq (.seq (.reg [
  ⟨some 12, .lds 8 (.t 2), none, []⟩,
  ⟨some 13, .call (.f 23) [(.t 12)], none, []⟩,
  ⟨some 14, .not (.t 13), none, []⟩,
  ⟨some 15, .mv (.t 14), none, []⟩,
  ⟨some 16, .fa 0 (.t 3), (some (15, false)), []⟩,
  ⟨some 17, .ld (.t 16), (some (15, false)), []⟩,
  ⟨some 18, .len (.t 17), (some (15, false)), []⟩,
  ⟨some 19, .bin .gtr (.t 18) (.c (.int .i64 70)), (some (15, false)), []⟩,
  ⟨some 20, .pick (.t 15) (.c (.bool true)) (.t 19), none, []⟩,
  ⟨some 21, .mv (.t 20), none, []⟩,
  ⟨some 22, .fa 1 (.t 3), (some (21, false)), []⟩,
  ⟨some 23, .ld (.t 22), (some (21, false)), []⟩,
  ⟨some 24, .len (.t 23), (some (21, false)), []⟩,
  ⟨some 25, .bin .gtr (.t 24) (.c (.int .i64 70)), (some (21, false)), []⟩,
  ⟨some 26, .pick (.t 21) (.c (.bool true)) (.t 25), none, []⟩])
 (.ite (.t 26) (.seq (.reg [
  ⟨some 4, .mv (.c (.bool true)), none, []⟩])
 (.ret))
 (.skip)))
 (.seq (.dreg [0, 2, 8, 1, 3, 4, 5, 6, 7, 9, 10] [
  ⟨some 28, .lds 8 (.t 2), none, [(.t 2)]⟩,
  ⟨some 30, .lds 2 (.t 3), none, [(.t 3)]⟩,
  ⟨some 5, .new [(.slice none 0 0), (.slice none 0 0)] 26, none, []⟩,
  ⟨some 29, .call (.f 28) [(.t 28)], none, [(.t 3)]⟩,
  ⟨some 31, .call (.f 42) [(.t 30)], none, []⟩,
  ⟨some 32, .call (.f 55) [(.t 29), (.t 31)], none, []⟩,
  ⟨some 27, .mv (.t 32), none, []⟩,
  ⟨some 33, .ext (.t 27) 0, none, []⟩,
  ⟨some 34, .ext (.t 27) 1, none, []⟩,
  ⟨none, .st 2 (.t 5) (.t 33), none, []⟩,
  ⟨some 6, .mv (.t 34), none, []⟩])
 (.seq (.dreg [0, 2, 1, 3, 4, 5, 6, 7, 8, 9] [
  ⟨some 36, .lds 8 (.t 2), none, [(.t 2)]⟩,
  ⟨some 38, .lds 2 (.t 3), none, [(.t 3)]⟩,
  ⟨some 37, .call (.f 28) [(.t 36)], none, [(.t 3)]⟩,
  ⟨some 39, .call (.f 42) [(.t 38)], none, []⟩,
  ⟨some 40, .call (.f 56) [(.t 37), (.t 39)], none, []⟩,
  ⟨some 35, .mv (.t 40), none, []⟩,
  ⟨some 41, .ext (.t 35) 0, none, []⟩,
  ⟨some 42, .ext (.t 35) 1, none, []⟩,
  ⟨some 7, .mv (.t 41), none, []⟩,
  ⟨some 8, .mv (.t 42), none, []⟩])
 (.seq (.seq (.reg [
  ⟨some 43, .lds 8 (.t 2), none, []⟩,
  ⟨some 44, .lds 2 (.t 3), none, []⟩,
  ⟨some 45, .call (.f 57) [(.t 43), (.t 44)], none, []⟩,
  ⟨some 9, .mv (.t 45), none, []⟩])
 (.seq (.reg [
  ⟨some 46, .mv (.t 9), none, []⟩,
  ⟨some 47, .bin .neq (.t 46) (.c (.int .i64 0)), none, []⟩])
 (.ite (.t 47) (.seq (.reg [
  ⟨some 48, .mv (.t 6), none, []⟩,
  ⟨some 49, .mv (.t 9), none, []⟩,
  ⟨some 50, .bin .eql (.t 48) (.t 49), none, []⟩,
  ⟨some 51, .mv (.t 50), none, []⟩,
  ⟨some 52, .lds 2 (.t 5), (some (51, true)), []⟩,
  ⟨some 53, .build [(.slice none 0 0), (.slice none 0 0)] [], (some (51, true)), []⟩,
  ⟨some 54, .call (.f 33) [(.t 52), (.t 53)], (some (51, true)), []⟩,
  ⟨some 55, .pick (.t 51) (.t 54) (.c (.bool false)), none, []⟩,
  ⟨some 56, .mv (.t 55), none, []⟩,
  ⟨some 57, .mv (.t 8), (some (56, true)), []⟩,
  ⟨some 58, .mv (.t 9), (some (56, true)), []⟩,
  ⟨some 59, .bin .eql (.t 57) (.t 58), (some (56, true)), []⟩,
  ⟨some 60, .pick (.t 56) (.t 59) (.c (.bool false)), none, []⟩,
  ⟨some 61, .mv (.t 60), none, []⟩,
  ⟨some 62, .mv (.t 7), (some (61, true)), []⟩,
  ⟨some 63, .not (.t 62), (some (61, true)), []⟩,
  ⟨some 64, .pick (.t 61) (.t 63) (.c (.bool false)), none, []⟩,
  ⟨some 4, .mv (.t 64), none, []⟩])
 (.ret))
 (.skip))))
 (.seq (.dreg [0, 1, 2, 3, 4, 5, 6, 7, 8, 9, 10, 11, 12, 13, 14, 15, 16, 17, 18, 19, 20] [
  ⟨some 65, .mv (.t 6), none, []⟩,
  ⟨some 66, .bin .eql (.t 65) (.c (.int .i64 0)), none, []⟩,
  ⟨some 67, .mv (.t 66), none, []⟩,
  ⟨some 68, .lds 2 (.t 5), (some (67, true)), [(.t 5)]⟩,
  ⟨some 69, .lds 8 (.t 2), (some (67, true)), [(.t 2)]⟩,
  ⟨some 70, .lds 2 (.t 3), (some (67, true)), [(.t 3)]⟩,
  ⟨some 71, .call (.f 58) [(.t 69), (.t 70)], (some (67, true)), [(.t 5)]⟩,
  ⟨some 72, .call (.f 33) [(.t 68), (.t 71)], (some (67, true)), []⟩,
  ⟨some 73, .pick (.t 67) (.t 72) (.c (.bool false)), none, []⟩,
  ⟨some 74, .mv (.t 73), none, []⟩,
  ⟨some 75, .mv (.t 8), (some (74, true)), []⟩,
  ⟨some 76, .bin .eql (.t 75) (.c (.int .i64 0)), (some (74, true)), []⟩,
  ⟨some 77, .pick (.t 74) (.t 76) (.c (.bool false)), none, []⟩,
  ⟨some 78, .mv (.t 77), none, []⟩,
  ⟨some 79, .mv (.t 7), (some (78, true)), []⟩,
  ⟨some 80, .lds 8 (.t 2), (some (78, true)), [(.t 2)]⟩,
  ⟨some 81, .lds 2 (.t 3), (some (78, true)), [(.t 3)]⟩,
  ⟨some 82, .call (.f 59) [(.t 80), (.t 81)], (some (78, true)), []⟩,
  ⟨some 83, .eq false .bool (.t 79) (.t 82), (some (78, true)), []⟩,
  ⟨some 84, .pick (.t 78) (.t 83) (.c (.bool false)), none, []⟩,
  ⟨some 4, .mv (.t 84), none, []⟩])
 (.ret)))))))⟩
def m11 : MFun := ⟨302, [.t 6],
 .seq (.reg [
  ⟨some 3, .box 47 (.t 0), none, []⟩,
  ⟨some 5, .box 98 (.t 2), none, []⟩,
  ⟨some 6, .mv (.c (.bool false)), none, []⟩])
 (.seq (.seq (.reg [
  ⟨some 28, .call (.f 12) [], none, []⟩,
  ⟨some 29, .not (.t 28), none, []⟩])
 (.ite (.t 29) (.seq (.reg [
  ⟨some 6, .mv (.c (.bool false)), none, []⟩])
 (.ret))
 (.skip)))
 (.seq (.seq (.reg [
  ⟨some 30, .mv (.t 1), none, []⟩,
  ⟨some 31, .call (.f 13) [(.t 30)], none, []⟩,
  ⟨some 32, .not (.t 31), none, []⟩,
  ⟨some 33, .mv (.t 32), none, []⟩,
  ⟨some 34, .lds 8 (.t 3), (some (33, false)), []⟩,
  ⟨some 35, .call (.f 23) [(.t 34)], (some (33, false)), []⟩,
  ⟨some 36, .not (.t 35), (some (33, false)), []⟩,
  ⟨some 37, .pick (.t 33) (.c (.bool true)) (.t 36), none, []⟩,
  ⟨some 38, .mv (.t 37), none, []⟩,
  ⟨some 39, .fa 0 (.t 5), (some (38, false)), []⟩,
  ⟨some 40, .fa 0 (.t 39), (some (38, false)), []⟩,
  ⟨some 41, .ld (.t 40), (some (38, false)), []⟩,
  ⟨some 42, .len (.t 41), (some (38, false)), []⟩,
  ⟨some 43, .bin .gtr (.t 42) (.c (.int .i64 15)), (some (38, false)), []⟩,
  ⟨some 44, .pick (.t 38) (.c (.bool true)) (.t 43), none, []⟩,
  ⟨some 45, .mv (.t 44), none, []⟩,
  ⟨some 46, .fa 0 (.t 5), (some (45, false)), []⟩,
  ⟨some 47, .fa 1 (.t 46), (some (45, false)), []⟩,
  ⟨some 48, .ld (.t 47), (some (45, false)), []⟩,
  ⟨some 49, .len (.t 48), (some (45, false)), []⟩,
  ⟨some 50, .bin .gtr (.t 49) (.c (.int .i64 15)), (some (45, false)), []⟩,
  ⟨some 51, .pick (.t 45) (.c (.bool true)) (.t 50), none, []⟩,
  ⟨some 52, .mv (.t 51), none, []⟩,
  ⟨some 53, .mv (.t 1), (some (52, false)), []⟩,
  ⟨some 54, .call (.f 25) [(.t 53)], (some (52, false)), []⟩,
  ⟨some 55, .bin .neq (.t 54) (.c (.int .i64 0)), (some (52, false)), []⟩,
  ⟨some 56, .pick (.t 52) (.c (.bool true)) (.t 55), none, []⟩,
  ⟨some 57, .mv (.t 56), none, []⟩,
  ⟨some 58, .lds 8 (.t 3), (some (57, false)), []⟩,
  ⟨some 59, .fa 0 (.t 5), (some (57, false)), []⟩,
  ⟨some 60, .lds 2 (.t 59), (some (57, false)), []⟩,
  ⟨some 61, .call (.f 57) [(.t 58), (.t 60)], (some (57, false)), []⟩,
  ⟨some 62, .bin .neq (.t 61) (.c (.int .i64 0)), (some (57, false)), []⟩,
  ⟨some 63, .pick (.t 57) (.c (.bool true)) (.t 62), none, []⟩])
 (.ite (.t 63) (.seq (.reg [
  ⟨some 6, .mv (.c (.bool true)), none, []⟩])
 (.ret))
 (.skip)))
 (.seq (.reg [
  ⟨some 7, .mv (.c (.slice none 0 0)), none, []⟩])
 (.seq (.seq (.reg [
  ⟨some 8, .mv (.c (.int .i64 0)), none, []⟩])
 (.blk 0 (.loop (.seq (.seq (.reg [
  ⟨some 64, .mv (.t 8), none, []⟩,
  ⟨some 65, .fa 4 (.t 3), none, []⟩,
  ⟨some 66, .ld (.t 65), none, []⟩,
  ⟨some 67, .len (.t 66), none, []⟩,
  ⟨some 68, .bin .lss (.t 64) (.t 67), none, []⟩])
 (.ite (.t 68) (.skip)
 (.exit 0)))
 (.seq (.blk 1 (.seq (.seq (.reg [
  ⟨some 71, .fa 4 (.t 3), none, []⟩,
  ⟨some 72, .ld (.t 71), none, []⟩,
  ⟨some 73, .mv (.t 8), none, []⟩,
  ⟨some 74, .ia 1 (.t 72) (.t 73), none, []⟩,
  ⟨some 75, .ld (.t 74), none, []⟩,
  ⟨some 76, .bin .neq (.t 75) (.c (.int .i64 (-1))), none, []⟩])
 (.ite (.t 76) (.reg [
  ⟨some 77, .mv (.t 7), none, []⟩,
  ⟨some 78, .fa 4 (.t 3), none, []⟩,
  ⟨some 79, .ld (.t 78), none, []⟩,
  ⟨some 80, .mv (.t 8), none, []⟩,
  ⟨some 81, .ia 1 (.t 79) (.t 80), none, []⟩,
  ⟨some 82, .ld (.t 81), none, []⟩,
  ⟨some 83, .lit 3 [(.int .i64 0)] [(0, 1, (.t 82))] 1, none, []⟩,
  ⟨some 84, .app 3 1 8 [(.int .i64 0)] (.t 77) (.t 83), none, []⟩,
  ⟨some 7, .mv (.t 84), none, []⟩])
 (.skip)))
 (.seq (.seq (.reg [
  ⟨some 9, .mv (.c (.int .i64 0)), none, []⟩])
 (.blk 2 (.loop (.seq (.seq (.reg [
  ⟨some 85, .mv (.t 9), none, []⟩,
  ⟨some 86, .fa 4 (.t 3), none, []⟩,
  ⟨some 87, .ld (.t 86), none, []⟩,
  ⟨some 88, .len (.t 87), none, []⟩,
  ⟨some 89, .bin .lss (.t 85) (.t 88), none, []⟩])
 (.ite (.t 89) (.skip)
 (.exit 2)))
 (.seq (.blk 3 (.seq (.dreg [0, 1, 2, 3, 4, 5, 6, 7, 8, 9, 10, 11, 12, 13, 14, 15, 16, 17, 18] [
  ⟨some 92, .fa 4 (.t 3), none, []⟩,
  ⟨some 93, .ld (.t 92), none, [(.t 92)]⟩,
  ⟨some 94, .mv (.t 8), none, []⟩,
  ⟨some 95, .ia 1 (.t 93) (.t 94), none, []⟩,
  ⟨some 96, .ld (.t 95), none, [(.t 95)]⟩,
  ⟨some 97, .bin .neq (.t 96) (.c (.int .i64 (-1))), none, []⟩,
  ⟨some 98, .mv (.t 97), none, []⟩,
  ⟨some 99, .fa 5 (.t 3), (some (98, true)), []⟩,
  ⟨some 100, .ld (.t 99), (some (98, true)), [(.t 99)]⟩,
  ⟨some 101, .mv (.t 9), (some (98, true)), []⟩,
  ⟨some 102, .ia 1 (.t 100) (.t 101), (some (98, true)), []⟩,
  ⟨some 103, .ld (.t 102), (some (98, true)), [(.t 102)]⟩,
  ⟨some 104, .fa 4 (.t 3), (some (98, true)), []⟩,
  ⟨some 105, .ld (.t 104), (some (98, true)), [(.t 104)]⟩,
  ⟨some 106, .mv (.t 8), (some (98, true)), []⟩,
  ⟨some 107, .ia 1 (.t 105) (.t 106), (some (98, true)), []⟩,
  ⟨some 108, .ld (.t 107), (some (98, true)), [(.t 107)]⟩,
  ⟨some 109, .bin .eql (.t 103) (.t 108), (some (98, true)), []⟩,
  ⟨some 110, .pick (.t 98) (.t 109) (.c (.bool false)), none, []⟩])
 (.ite (.t 110) (.seq (.reg [
  ⟨some 6, .mv (.c (.bool true)), none, []⟩])
 (.ret))
 (.skip))))
 (.reg [
  ⟨some 90, .mv (.t 9), none, []⟩,
  ⟨some 91, .bin .add (.t 90) (.c (.int .i64 1)), none, []⟩,
  ⟨some 9, .mv (.t 91), none, []⟩]))))))
 (.seq (.reg [
  ⟨some 10, .mv (.c (.int .i64 0)), none, []⟩])
 (.blk 4 (.loop (.seq (.seq (.reg [
  ⟨some 111, .mv (.t 10), none, []⟩,
  ⟨some 112, .fa 3 (.t 3), none, []⟩,
  ⟨some 113, .ld (.t 112), none, []⟩,
  ⟨some 114, .len (.t 113), none, []⟩,
  ⟨some 115, .bin .lss (.t 111) (.t 114), none, []⟩])
 (.ite (.t 115) (.skip)
 (.exit 4)))
 (.seq (.blk 5 (.seq (.dreg [0, 1, 2, 3, 4, 5, 6, 7, 8, 9, 10, 11, 12, 13, 14, 15, 16, 17, 18] [
  ⟨some 118, .fa 4 (.t 3), none, []⟩,
  ⟨some 119, .ld (.t 118), none, [(.t 118)]⟩,
  ⟨some 120, .mv (.t 8), none, []⟩,
  ⟨some 121, .ia 1 (.t 119) (.t 120), none, []⟩,
  ⟨some 122, .ld (.t 121), none, [(.t 121)]⟩,
  ⟨some 123, .bin .neq (.t 122) (.c (.int .i64 (-1))), none, []⟩,
  ⟨some 124, .mv (.t 123), none, []⟩,
  ⟨some 125, .fa 3 (.t 3), (some (124, true)), []⟩,
  ⟨some 126, .ld (.t 125), (some (124, true)), [(.t 125)]⟩,
  ⟨some 127, .mv (.t 10), (some (124, true)), []⟩,
  ⟨some 128, .ia 1 (.t 126) (.t 127), (some (124, true)), []⟩,
  ⟨some 129, .ld (.t 128), (some (124, true)), [(.t 128)]⟩,
  ⟨some 130, .fa 4 (.t 3), (some (124, true)), []⟩,
  ⟨some 131, .ld (.t 130), (some (124, true)), [(.t 130)]⟩,
  ⟨some 132, .mv (.t 8), (some (124, true)), []⟩,
  ⟨some 133, .ia 1 (.t 131) (.t 132), (some (124, true)), []⟩,
  ⟨some 134, .ld (.t 133), (some (124, true)), [(.t 133)]⟩,
  ⟨some 135, .call (.f 60) [(.t 129), (.t 134)], (some (124, true)), []⟩,
  ⟨some 136, .pick (.t 124) (.t 135) (.c (.bool false)), none, []⟩])
 (.ite (.t 136) (.seq (.reg [
  ⟨some 6, .mv (.c (.bool true)), none, []⟩])
 (.ret))
 (.skip))))
 (.reg [
  ⟨some 116, .mv (.t 10), none, []⟩,
  ⟨some 117, .bin .add (.t 116) (.c (.int .i64 1)), none, []⟩,
  ⟨some 10, .mv (.t 117), none, []⟩])))))))))
 (.reg [
  ⟨some 69, .mv (.t 8), none, []⟩,
  ⟨some 70, .bin .add (.t 69) (.c (.int .i64 1)), none, []⟩,
  ⟨some 8, .mv (.t 70), none, []⟩]))))))
 (.seq (.seq (.reg [
  ⟨some 137, .mv (.t 1), none, []⟩,
  ⟨some 138, .mv (.t 7), none, []⟩,
  ⟨some 139, .call (.f 54) [(.t 137), (.t 138)], none, []⟩,
  ⟨some 140, .not (.t 139), none, []⟩])
 (.ite (.t 140) (.seq (.reg [
  ⟨some 6, .mv (.c (.bool true)), none, []⟩])
 (.ret))
 (.skip)))
 (.seq (.reg [
  ⟨some 141, .fa 0 (.t 5), none, []⟩,
  ⟨some 142, .lds 2 (.t 141), none, []⟩,
  ⟨some 11, .new [(.slice none 0 0), (.slice none 0 0)] 52, none, []⟩,
  ⟨none, .st 2 (.t 11) (.t 142), none, []⟩])
 (.seq (.reg [
  ⟨some 143, .fa 2 (.t 5), none, []⟩,
  ⟨some 144, .ld (.t 143), none, []⟩,
  ⟨some 145, .fa 0 (.t 11), none, []⟩,
  ⟨some 146, .ld (.t 145), none, []⟩,
  ⟨some 147, .len (.t 146), none, []⟩,
  ⟨some 148, .fa 1 (.t 11), none, []⟩,
  ⟨some 149, .ld (.t 148), none, []⟩,
  ⟨some 150, .len (.t 149), none, []⟩,
  ⟨some 151, .bin .add (.t 147) (.t 150), none, []⟩,
  ⟨some 152, .call (.f 61) [(.t 144), (.t 151)], none, []⟩,
  ⟨some 12, .mv (.t 152), none, []⟩])
 (.seq (.reg [
  ⟨some 13, .new [(.slice none 0 0), (.slice none 0 0)] 52, none, []⟩])
 (.seq (.seq (.reg [
  ⟨some 14, .mv (.c (.int .i64 0)), none, []⟩])
 (.blk 6 (.loop (.seq (.seq (.reg [
  ⟨some 153, .mv (.t 14), none, []⟩,
  ⟨some 154, .fa 0 (.t 11), none, []⟩,
  ⟨some 155, .ld (.t 154), none, []⟩,
  ⟨some 156, .len (.t 155), none, []⟩,
  ⟨some 157, .bin .lss (.t 153) (.t 156), none, []⟩])
 (.ite (.t 157) (.skip)
 (.exit 6)))
 (.seq (.blk 7 (.seq (.dreg [0, 1, 2, 3, 4, 5, 6, 7, 8, 9, 10] [
  ⟨some 160, .fa 0 (.t 13), none, []⟩,
  ⟨some 161, .ld (.t 160), none, [(.t 160)]⟩,
  ⟨some 162, .fa 0 (.t 11), none, []⟩,
  ⟨some 163, .ld (.t 162), none, [(.t 162)]⟩,
  ⟨some 164, .mv (.t 14), none, []⟩,
  ⟨some 165, .ia 1 (.t 163) (.t 164), none, []⟩,
  ⟨some 166, .ld (.t 165), none, [(.t 165)]⟩,
  ⟨some 167, .lit 3 [(.int .i64 0)] [(0, 1, (.t 166))] 1, none, []⟩,
  ⟨some 168, .app 3 1 8 [(.int .i64 0)] (.t 161) (.t 167), none, []⟩,
  ⟨some 169, .fa 0 (.t 13), none, []⟩,
  ⟨none, .st 1 (.t 169) (.t 168), none, []⟩])
 (.seq (.reg [
  ⟨some 170, .mv (.t 14), none, []⟩,
  ⟨some 171, .mv (.t 12), none, []⟩,
  ⟨some 172, .bin .eql (.t 170) (.t 171), none, []⟩])
 (.ite (.t 172) (.dreg [0, 1, 2, 3, 4, 5, 6, 7, 8, 9, 10] [
  ⟨some 173, .fa 0 (.t 13), none, []⟩,
  ⟨some 174, .ld (.t 173), none, [(.t 173)]⟩,
  ⟨some 175, .fa 0 (.t 11), none, []⟩,
  ⟨some 176, .ld (.t 175), none, [(.t 175)]⟩,
  ⟨some 177, .mv (.t 14), none, []⟩,
  ⟨some 178, .ia 1 (.t 176) (.t 177), none, []⟩,
  ⟨some 179, .ld (.t 178), none, [(.t 178)]⟩,
  ⟨some 180, .lit 3 [(.int .i64 0)] [(0, 1, (.t 179))] 1, none, []⟩,
  ⟨some 181, .app 3 1 8 [(.int .i64 0)] (.t 174) (.t 180), none, []⟩,
  ⟨some 182, .fa 0 (.t 13), none, []⟩,
  ⟨none, .st 1 (.t 182) (.t 181), none, []⟩])
 (.skip)))))
 (.reg [
  ⟨some 158, .mv (.t 14), none, []⟩,
  ⟨some 159, .bin .add (.t 158) (.c (.int .i64 1)), none, []⟩,
  ⟨some 14, .mv (.t 159), none, []⟩]))))))
 (.seq (.seq (.reg [
  ⟨some 15, .mv (.c (.int .i64 0)), none, []⟩])
 (.blk 8 (.loop (.seq (.seq (.reg [
  ⟨some 183, .mv (.t 15), none, []⟩,
  ⟨some 184, .fa 1 (.t 11), none, []⟩,
  ⟨some 185, .ld (.t 184), none, []⟩,
  ⟨some 186, .len (.t 185), none, []⟩,
  ⟨some 187, .bin .lss (.t 183) (.t 186), none, []⟩])
 (.ite (.t 187) (.skip)
 (.exit 8)))
 (.seq (.blk 9 (.seq (.dreg [0, 1, 2, 3, 4, 5, 6, 7, 8, 9, 10] [
  ⟨some 190, .fa 1 (.t 13), none, []⟩,
  ⟨some 191, .ld (.t 190), none, [(.t 190)]⟩,
  ⟨some 192, .fa 1 (.t 11), none, []⟩,
  ⟨some 193, .ld (.t 192), none, [(.t 192)]⟩,
  ⟨some 194, .mv (.t 15), none, []⟩,
  ⟨some 195, .ia 1 (.t 193) (.t 194), none, []⟩,
  ⟨some 196, .ld (.t 195), none, [(.t 195)]⟩,
  ⟨some 197, .lit 3 [(.int .i64 0)] [(0, 1, (.t 196))] 1, none, []⟩,
  ⟨some 198, .app 3 1 8 [(.int .i64 0)] (.t 191) (.t 197), none, []⟩,
  ⟨some 199, .fa 1 (.t 13), none, []⟩,
  ⟨none, .st 1 (.t 199) (.t 198), none, []⟩])
 (.seq (.reg [
  ⟨some 200, .mv (.t 15), none, []⟩,
  ⟨some 201, .fa 0 (.t 11), none, []⟩,
  ⟨some 202, .ld (.t 201), none, []⟩,
  ⟨some 203, .len (.t 202), none, []⟩,
  ⟨some 204, .bin .add (.t 200) (.t 203), none, []⟩,
  ⟨some 205, .mv (.t 12), none, []⟩,
  ⟨some 206, .bin .eql (.t 204) (.t 205), none, []⟩])
 (.ite (.t 206) (.dreg [0, 1, 2, 3, 4, 5, 6, 7, 8, 9, 10] [
  ⟨some 207, .fa 1 (.t 13), none, []⟩,
  ⟨some 208, .ld (.t 207), none, [(.t 207)]⟩,
  ⟨some 209, .fa 1 (.t 11), none, []⟩,
  ⟨some 210, .ld (.t 209), none, [(.t 209)]⟩,
  ⟨some 211, .mv (.t 15), none, []⟩,
  ⟨some 212, .ia 1 (.t 210) (.t 211), none, []⟩,
  ⟨some 213, .ld (.t 212), none, [(.t 212)]⟩,
  ⟨some 214, .lit 3 [(.int .i64 0)] [(0, 1, (.t 213))] 1, none, []⟩,
  ⟨some 215, .app 3 1 8 [(.int .i64 0)] (.t 208) (.t 214), none, []⟩,
  ⟨some 216, .fa 1 (.t 13), none, []⟩,
  ⟨none, .st 1 (.t 216) (.t 215), none, []⟩])
 (.skip)))))
 (.reg [
  ⟨some 188, .mv (.t 15), none, []⟩,
  ⟨some 189, .bin .add (.t 188) (.c (.int .i64 1)), none, []⟩,
  ⟨some 15, .mv (.t 189), none, []⟩]))))))
 (.seq (.dreg [0, 2, 8, 1, 3, 4, 5, 6, 7, 9, 10] [
  ⟨some 218, .lds 8 (.t 3), none, [(.t 3)]⟩,
  ⟨some 220, .lds 2 (.t 11), none, [(.t 11)]⟩,
  ⟨some 16, .new [(.slice none 0 0), (.slice none 0 0)] 26, none, []⟩,
  ⟨some 219, .call (.f 28) [(.t 218)], none, [(.t 11)]⟩,
  ⟨some 221, .call (.f 42) [(.t 220)], none, []⟩,
  ⟨some 222, .call (.f 55) [(.t 219), (.t 221)], none, []⟩,
  ⟨some 217, .mv (.t 222), none, []⟩,
  ⟨some 223, .ext (.t 217) 0, none, []⟩,
  ⟨some 224, .ext (.t 217) 1, none, []⟩,
  ⟨none, .st 2 (.t 16) (.t 223), none, []⟩,
  ⟨some 17, .mv (.t 224), none, []⟩])
 (.seq (.dreg [0, 2, 8, 1, 3, 4, 5, 6, 7, 9, 10] [
  ⟨some 226, .lds 8 (.t 3), none, [(.t 3)]⟩,
  ⟨some 228, .lds 2 (.t 13), none, [(.t 13)]⟩,
  ⟨some 18, .new [(.slice none 0 0), (.slice none 0 0)] 26, none, []⟩,
  ⟨some 227, .call (.f 28) [(.t 226)], none, [(.t 13)]⟩,
  ⟨some 229, .call (.f 42) [(.t 228)], none, []⟩,
  ⟨some 230, .call (.f 55) [(.t 227), (.t 229)], none, []⟩,
  ⟨some 225, .mv (.t 230), none, []⟩,
  ⟨some 231, .ext (.t 225) 0, none, []⟩,
  ⟨some 232, .ext (.t 225) 1, none, []⟩,
  ⟨none, .st 2 (.t 18) (.t 231), none, []⟩,
  ⟨some 19, .mv (.t 232), none, []⟩])
 (.seq (.dreg [0, 2, 1, 3, 4, 5, 6, 7, 8, 9] [
  ⟨some 234, .lds 8 (.t 3), none, [(.t 3)]⟩,
  ⟨some 236, .lds 2 (.t 11), none, [(.t 11)]⟩,
  ⟨some 235, .call (.f 28) [(.t 234)], none, [(.t 11)]⟩,
  ⟨some 237, .call (.f 42) [(.t 236)], none, []⟩,
  ⟨some 238, .call (.f 56) [(.t 235), (.t 237)], none, []⟩,
  ⟨some 233, .mv (.t 238), none, []⟩,
  ⟨some 239, .ext (.t 233) 0, none, []⟩,
  ⟨some 240, .ext (.t 233) 1, none, []⟩,
  ⟨some 20, .mv (.t 239), none, []⟩,
  ⟨some 21, .mv (.t 240), none, []⟩])
 (.seq (.dreg [0, 2, 1, 3, 4, 5, 6, 7, 8] [
  ⟨some 242, .lds 8 (.t 3), none, [(.t 3)]⟩,
  ⟨some 244, .lds 2 (.t 13), none, [(.t 13)]⟩,
  ⟨some 243, .call (.f 28) [(.t 242)], none, [(.t 13)]⟩,
  ⟨some 245, .call (.f 56) [(.t 243), (.t 244)], none, []⟩,
  ⟨some 241, .mv (.t 245), none, []⟩,
  ⟨some 246, .ext (.t 241) 0, none, []⟩,
  ⟨some 247, .ext (.t 241) 1, none, []⟩,
  ⟨some 22, .mv (.t 246), none, []⟩,
  ⟨some 23, .mv (.t 247), none, []⟩])
 (.seq (.seq (.reg [
  ⟨some 248, .mv (.t 17), none, []⟩,
  ⟨some 249, .bin .neq (.t 248) (.c (.int .i64 0)), none, []⟩,
  ⟨some 250, .mv (.t 249), none, []⟩,
  ⟨some 251, .mv (.t 19), (some (250, false)), []⟩,
  ⟨some 252, .bin .neq (.t 251) (.c (.int .i64 0)), (some (250, false)), []⟩,
  ⟨some 253, .pick (.t 250) (.c (.bool true)) (.t 252), none, []⟩,
  ⟨some 254, .mv (.t 253), none, []⟩,
  ⟨some 255, .mv (.t 21), (some (254, false)), []⟩,
  ⟨some 256, .bin .neq (.t 255) (.c (.int .i64 0)), (some (254, false)), []⟩,
  ⟨some 257, .pick (.t 254) (.c (.bool true)) (.t 256), none, []⟩,
  ⟨some 258, .mv (.t 257), none, []⟩,
  ⟨some 259, .mv (.t 23), (some (258, false)), []⟩,
  ⟨some 260, .bin .neq (.t 259) (.c (.int .i64 0)), (some (258, false)), []⟩,
  ⟨some 261, .pick (.t 258) (.c (.bool true)) (.t 260), none, []⟩,
  ⟨some 262, .mv (.t 261), none, []⟩,
  ⟨some 263, .mv (.t 20), (some (262, false)), []⟩,
  ⟨some 264, .mv (.t 22), (some (262, false)), []⟩,
  ⟨some 265, .eq true .bool (.t 263) (.t 264), (some (262, false)), []⟩,
  ⟨some 266, .pick (.t 262) (.c (.bool true)) (.t 265), none, []⟩,
  ⟨some 267, .mv (.t 266), none, []⟩,
  ⟨some 268, .lds 2 (.t 16), (some (267, false)), []⟩,
  ⟨some 269, .call (.f 17) [(.t 268)], (some (267, false)), []⟩,
  ⟨some 270, .bin .neq (.t 269) (.c (.int .i64 0)), (some (267, false)), []⟩,
  ⟨some 271, .pick (.t 267) (.c (.bool true)) (.t 270), none, []⟩,
  ⟨some 272, .mv (.t 271), none, []⟩,
  ⟨some 273, .lds 2 (.t 18), (some (272, false)), []⟩,
  ⟨some 274, .call (.f 17) [(.t 273)], (some (272, false)), []⟩,
  ⟨some 275, .bin .neq (.t 274) (.c (.int .i64 0)), (some (272, false)), []⟩,
  ⟨some 276, .pick (.t 272) (.c (.bool true)) (.t 275), none, []⟩])
 (.ite (.t 276) (.seq (.reg [
  ⟨some 6, .mv (.c (.bool false)), none, []⟩])
 (.ret))
 (.skip)))
 (.seq (.dreg [0, 2, 1, 3, 4, 5, 6, 7, 8] [
  ⟨some 278, .mv (.t 1), none, []⟩,
  ⟨some 280, .lds 2 (.t 16), none, [(.t 16)]⟩,
  ⟨some 279, .call (.f 19) [(.t 278)], none, [(.t 16)]⟩,
  ⟨some 281, .call (.f 20) [(.t 279), (.t 280)], none, []⟩,
  ⟨some 277, .mv (.t 281), none, []⟩,
  ⟨some 282, .ext (.t 277) 0, none, []⟩,
  ⟨some 283, .ext (.t 277) 1, none, []⟩,
  ⟨some 24, .mv (.t 282), none, []⟩,
  ⟨some 25, .mv (.t 283), none, []⟩])
 (.seq (.dreg [0, 2, 1, 3, 4, 5, 6, 7, 8] [
  ⟨some 285, .mv (.t 1), none, []⟩,
  ⟨some 287, .lds 2 (.t 18), none, [(.t 18)]⟩,
  ⟨some 286, .call (.f 19) [(.t 285)], none, [(.t 18)]⟩,
  ⟨some 288, .call (.f 20) [(.t 286), (.t 287)], none, []⟩,
  ⟨some 284, .mv (.t 288), none, []⟩,
  ⟨some 289, .ext (.t 284) 0, none, []⟩,
  ⟨some 290, .ext (.t 284) 1, none, []⟩,
  ⟨some 26, .mv (.t 289), none, []⟩,
  ⟨some 27, .mv (.t 290), none, []⟩])
 (.seq (.reg [
  ⟨some 291, .mv (.t 25), none, []⟩,
  ⟨some 292, .bin .eql (.t 291) (.c (.int .i64 0)), none, []⟩,
  ⟨some 293, .mv (.t 292), none, []⟩,
  ⟨some 294, .mv (.t 27), (some (293, true)), []⟩,
  ⟨some 295, .bin .eql (.t 294) (.c (.int .i64 0)), (some (293, true)), []⟩,
  ⟨some 296, .pick (.t 293) (.t 295) (.c (.bool false)), none, []⟩,
  ⟨some 297, .mv (.t 296), none, []⟩,
  ⟨some 298, .mv (.t 24), (some (297, true)), []⟩,
  ⟨some 299, .mv (.t 26), (some (297, true)), []⟩,
  ⟨some 300, .eq false .bool (.t 298) (.t 299), (some (297, true)), []⟩,
  ⟨some 301, .pick (.t 297) (.t 300) (.c (.bool false)), none, []⟩,
  ⟨some 6, .mv (.t 301), none, []⟩])
 (.ret)))))))))))))))))))⟩
def m12 : MFun := ⟨80, [.t 0],
 .seq (.reg [
  ⟨some 0, .mv (.c (.bool false)), none, []⟩])
 (.seq (.reg [
  ⟨some 11, .call (.f 48) [(.c (.string ⟨#[40, 112, 48, 32, 126, 62, 32, 60, 62, 112, 49, 41]⟩))], none, []⟩,
  ⟨some 10, .mv (.t 11), none, []⟩,
  ⟨some 12, .ext (.t 10) 0, none, []⟩,
  ⟨some 13, .ext (.t 10) 1, none, []⟩,
  ⟨some 14, .ext (.t 10) 2, none, []⟩,
  ⟨some 1, .mv (.t 12), none, []⟩,
  ⟨some 2, .mv (.t 13), none, []⟩,
  ⟨some 3, .mv (.t 14), none, []⟩])
 (.seq (.reg [
  ⟨some 16, .call (.f 62) [(.c (.int .i64 0))], none, []⟩,
  ⟨some 17, .call (.f 62) [(.c (.int .i64 1))], none, []⟩,
  ⟨some 18, .lit 23 [(.slice none 0 0)] [(0, 1, (.t 16)), (1, 1, (.t 17))] 2, none, []⟩,
  ⟨some 19, .call (.f 38) [(.c (.int .i64 8)), (.t 18)], none, []⟩,
  ⟨some 20, .lit 3 [(.int .i64 0)] [(0, 1, (.c (.int .i64 0))), (1, 1, (.c (.int .i64 1)))] 2, none, []⟩,
  ⟨some 21, .lit 3 [(.int .i64 0)] [(0, 1, (.c (.int .i64 2))), (1, 1, (.c (.int .i64 0)))] 2, none, []⟩,
  ⟨some 22, .build [(.slice none 0 0), (.slice none 0 0)] [(0, 1, (.t 20)), (1, 1, (.t 21))], none, []⟩,
  ⟨some 23, .call (.f 20) [(.t 19), (.t 22)], none, []⟩,
  ⟨some 15, .mv (.t 23), none, []⟩,
  ⟨some 24, .ext (.t 15) 0, none, []⟩,
  ⟨some 25, .ext (.t 15) 1, none, []⟩,
  ⟨some 4, .mv (.t 24), none, []⟩,
  ⟨some 5, .mv (.t 25), none, []⟩])
 (.seq (.reg [
  ⟨some 27, .lit 3 [(.int .i64 0)] [(0, 1, (.c (.int .i64 1))), (1, 1, (.c (.int .i64 1))), (2, 1, (.c (.int .i64 2)))] 3, none, []⟩,
  ⟨some 28, .lit 3 [(.int .i64 0)] [(0, 1, (.c (.int .i64 3))), (1, 1, (.c (.int .i64 2))), (2, 1, (.c (.int .i64 2)))] 3, none, []⟩,
  ⟨some 29, .build [(.slice none 0 0), (.slice none 0 0)] [(0, 1, (.t 27)), (1, 1, (.t 28))], none, []⟩,
  ⟨some 30, .call (.f 32) [(.t 29)], none, []⟩,
  ⟨some 26, .mv (.t 30), none, []⟩,
  ⟨some 31, .ext (.t 26) 0, none, []⟩,
  ⟨some 32, .ext (.t 26) 1, none, []⟩,
  ⟨some 6, .new [(.slice none 0 0), (.slice none 0 0)] 26, none, []⟩,
  ⟨none, .st 2 (.t 6) (.t 31), none, []⟩,
  ⟨some 7, .mv (.t 32), none, []⟩])
 (.seq (.reg [
  ⟨some 34, .call (.f 63) [(.c (.slice none 0 0))], none, []⟩,
  ⟨some 35, .call (.f 62) [(.c (.int .i64 0))], none, []⟩,
  ⟨some 36, .lit 23 [(.slice none 0 0)] [(0, 1, (.t 35))] 1, none, []⟩,
  ⟨some 37, .call (.f 38) [(.c (.int .i64 7)), (.t 36)], none, []⟩,
  ⟨some 38, .call (.f 27) [(.t 34), (.t 37), (.c (.int .i64 2))], none, []⟩,
  ⟨some 33, .mv (.t 38), none, []⟩,
  ⟨some 39, .ext (.t 33) 0, none, []⟩,
  ⟨some 40, .ext (.t 33) 1, none, []⟩,
  ⟨some 8, .new [(.slice none 0 0), (.slice none 0 0)] 52, none, []⟩,
  ⟨none, .st 2 (.t 8) (.t 39), none, []⟩,
  ⟨some 9, .mv (.t 40), none, []⟩])
 (.seq (.reg [
  ⟨some 41, .mv (.t 3), none, []⟩,
  ⟨some 42, .bin .eql (.t 41) (.c (.int .i64 0)), none, []⟩,
  ⟨some 43, .mv (.t 42), none, []⟩,
  ⟨some 44, .mv (.t 2), (some (43, true)), []⟩,
  ⟨some 45, .bin .eql (.t 44) (.c (.int .i64 12)), (some (43, true)), []⟩,
  ⟨some 46, .pick (.t 43) (.t 45) (.c (.bool false)), none, []⟩,
  ⟨some 47, .mv (.t 46), none, []⟩,
  ⟨some 48, .mv (.t 1), (some (47, true)), []⟩,
  ⟨some 49, .len (.t 48), (some (47, true)), []⟩,
  ⟨some 50, .bin .eql (.t 49) (.c (.int .i64 4)), (some (47, true)), []⟩,
  ⟨some 51, .pick (.t 47) (.t 50) (.c (.bool false)), none, []⟩,
  ⟨some 52, .mv (.t 51), none, []⟩,
  ⟨some 53, .mv (.t 5), (some (52, true)), []⟩,
  ⟨some 54, .bin .eql (.t 53) (.c (.int .i64 0)), (some (52, true)), []⟩,
  ⟨some 55, .pick (.t 52) (.t 54) (.c (.bool false)), none, []⟩,
  ⟨some 56, .mv (.t 55), none, []⟩,
  ⟨some 57, .mv (.t 4), (some (56, true)), []⟩,
  ⟨some 58, .pick (.t 56) (.t 57) (.c (.bool false)), none, []⟩,
  ⟨some 59, .mv (.t 58), none, []⟩,
  ⟨some 60, .mv (.t 7), (some (59, true)), []⟩,
  ⟨some 61, .bin .eql (.t 60) (.c (.int .i64 0)), (some (59, true)), []⟩,
  ⟨some 62, .pick (.t 59) (.t 61) (.c (.bool false)), none, []⟩,
  ⟨some 63, .mv (.t 62), none, []⟩,
  ⟨some 64, .lds 2 (.t 6), (some (63, true)), []⟩,
  ⟨some 65, .lit 3 [(.int .i64 0)] [(0, 1, (.c (.int .i64 1)))] 1, (some (63, true)), []⟩,
  ⟨some 66, .lit 3 [(.int .i64 0)] [(0, 1, (.c (.int .i64 2))), (1, 1, (.c (.int .i64 3)))] 2, (some (63, true)), []⟩,
  ⟨some 67, .build [(.slice none 0 0), (.slice none 0 0)] [(0, 1, (.t 65)), (1, 1, (.t 66))], (some (63, true)), []⟩,
  ⟨some 68, .call (.f 33) [(.t 64), (.t 67)], (some (63, true)), []⟩,
  ⟨some 69, .pick (.t 63) (.t 68) (.c (.bool false)), none, []⟩,
  ⟨some 70, .mv (.t 69), none, []⟩,
  ⟨some 71, .mv (.t 9), (some (70, true)), []⟩,
  ⟨some 72, .bin .eql (.t 71) (.c (.int .i64 0)), (some (70, true)), []⟩,
  ⟨some 73, .pick (.t 70) (.t 72) (.c (.bool false)), none, []⟩,
  ⟨some 74, .mv (.t 73), none, []⟩,
  ⟨some 75, .lds 2 (.t 8), (some (74, true)), []⟩,
  ⟨some 76, .lit 3 [(.int .i64 0)] [(0, 1, (.c (.int .i64 0)))] 1, (some (74, true)), []⟩,
  ⟨some 77, .build [(.slice none 0 0), (.slice none 0 0)] [(1, 1, (.t 76))], (some (74, true)), []⟩,
  ⟨some 78, .call (.f 29) [(.t 75), (.t 77)], (some (74, true)), []⟩,
  ⟨some 79, .pick (.t 74) (.t 78) (.c (.bool false)), none, []⟩,
  ⟨some 0, .mv (.t 79), none, []⟩])
 (.ret))))))⟩
def m13 : MFun := ⟨20, [.t 2],
 .seq (.reg [
  ⟨some 2, .mv (.c (.bool false)), none, []⟩])
 (.seq (.seq (.reg [
  ⟨some 4, .mv (.t 0), none, []⟩,
  ⟨some 5, .len (.t 4), none, []⟩,
  ⟨some 6, .bin .gtr (.t 5) (.c (.int .i64 45)), none, []⟩])
 (.ite (.t 6) (.seq (.reg [
  ⟨some 2, .mv (.c (.bool false)), none, []⟩])
 (.ret))
 (.skip)))
 (.seq (.seq (.reg [
  ⟨some 3, .mv (.c (.int .i64 0)), none, []⟩])
 (.blk 0 (.loop (.seq (.seq (.reg [
  ⟨some 7, .mv (.t 3), none, []⟩,
  ⟨some 8, .mv (.t 0), none, []⟩,
  ⟨some 9, .len (.t 8), none, []⟩,
  ⟨some 10, .bin .lss (.t 7) (.t 9), none, []⟩])
 (.ite (.t 10) (.skip)
 (.exit 0)))
 (.seq (.blk 1 (.seq (.reg [
  ⟨some 13, .mv (.t 0), none, []⟩,
  ⟨some 14, .mv (.t 3), none, []⟩,
  ⟨some 15, .ia 3 (.t 13) (.t 14), none, []⟩,
  ⟨some 16, .fa 2 (.t 15), none, []⟩,
  ⟨some 17, .ld (.t 16), none, []⟩,
  ⟨some 18, .len (.t 17), none, []⟩,
  ⟨some 19, .bin .gtr (.t 18) (.c (.int .i64 45)), none, []⟩])
 (.ite (.t 19) (.seq (.reg [
  ⟨some 2, .mv (.c (.bool false)), none, []⟩])
 (.ret))
 (.skip))))
 (.reg [
  ⟨some 11, .mv (.t 3), none, []⟩,
  ⟨some 12, .bin .add (.t 11) (.c (.int .i64 1)), none, []⟩,
  ⟨some 3, .mv (.t 12), none, []⟩]))))))
 (.seq (.reg [
  ⟨some 2, .mv (.c (.bool true)), none, []⟩])
 (.ret))))⟩
def m14 : MFun := ⟨13, [.t 2],
 .seq (.reg [
  ⟨some 1, .box 26 (.t 0), none, []⟩,
  ⟨some 2, .mv (.c (.bool false)), none, []⟩])
 (.seq (.reg [
  ⟨some 3, .fa 0 (.t 1), none, []⟩,
  ⟨some 4, .ld (.t 3), none, []⟩,
  ⟨some 5, .len (.t 4), none, []⟩,
  ⟨some 6, .bin .leq (.t 5) (.c (.int .i64 70)), none, []⟩,
  ⟨some 7, .mv (.t 6), none, []⟩,
  ⟨some 8, .fa 1 (.t 1), (some (7, true)), []⟩,
  ⟨some 9, .ld (.t 8), (some (7, true)), []⟩,
  ⟨some 10, .len (.t 9), (some (7, true)), []⟩,
  ⟨some 11, .bin .leq (.t 10) (.c (.int .i64 70)), (some (7, true)), []⟩,
  ⟨some 12, .pick (.t 7) (.t 11) (.c (.bool false)), none, []⟩,
  ⟨some 2, .mv (.t 12), none, []⟩])
 (.ret))⟩
def m15 : MFun := ⟨35, [.t 2],
 .seq (.reg [
  ⟨some 1, .box 26 (.t 0), none, []⟩,
  ⟨some 2, .mv (.c (.int .i64 0)), none, []⟩])
 (.seq (.reg [
  ⟨some 3, .mv (.f 64), none, []⟩])
 (.seq (.dreg [0, 1, 2, 3, 5, 6, 7, 8, 9, 10, 11, 12, 4, 13, 14, 15, 16] [
  ⟨some 5, .fa 1 (.t 1), none, []⟩,
  ⟨some 6, .ld (.t 5), none, [(.t 5)]⟩,
  ⟨some 7, .len (.t 6), none, []⟩,
  ⟨some 8, .bin .eql (.t 7) (.c (.int .i64 0)), none, []⟩,
  ⟨some 10, .fa 0 (.t 1), none, []⟩,
  ⟨some 11, .ld (.t 10), none, [(.t 10)]⟩,
  ⟨some 12, .len (.t 11), none, []⟩,
  ⟨some 13, .fa 1 (.t 1), none, []⟩,
  ⟨some 14, .ld (.t 13), none, [(.t 13)]⟩,
  ⟨some 15, .len (.t 14), none, []⟩,
  ⟨some 16, .bin .add (.t 12) (.t 15), none, []⟩,
  ⟨some 17, .bin .gtr (.t 16) (.c (.int .i64 60)), none, []⟩,
  ⟨some 9, .call (.f 67) [(.t 8), (.c (.int .i64 1))], none, [(.t 10), (.t 13)]⟩,
  ⟨some 18, .call (.f 67) [(.t 17), (.c (.int .i64 2))], none, []⟩,
  ⟨some 19, .lit 30 [(.int .i64 0)] [(0, 1, (.t 9)), (1, 1, (.t 18))] 2, none, []⟩,
  ⟨some 20, .call (.f 66) [(.t 19)], none, []⟩,
  ⟨some 4, .mv (.t 20), none, []⟩])
 (.seq (.seq (.reg [
  ⟨some 21, .mv (.t 4), none, []⟩,
  ⟨some 22, .bin .neq (.t 21) (.c (.int .i64 0)), none, []⟩])
 (.ite (.t 22) (.seq (.reg [
  ⟨some 23, .mv (.t 4), none, []⟩,
  ⟨some 2, .mv (.t 23), none, []⟩])
 (.ret))
 (.skip)))
 (.seq (.reg [
  ⟨some 24, .fa 0 (.t 1), none, []⟩,
  ⟨some 25, .ld (.t 24), none, []⟩,
  ⟨some 26, .mv (.t 3), none, []⟩,
  ⟨some 27, .call (.f 68) [(.t 25), (.t 26)], none, []⟩,
  ⟨some 28, .mv (.t 27), none, []⟩,
  ⟨some 29, .fa 1 (.t 1), (some (28, false)), []⟩,
  ⟨some 30, .ld (.t 29), (some (28, false)), []⟩,
  ⟨some 31, .mv (.t 3), (some (28, false)), []⟩,
  ⟨some 32, .call (.f 68) [(.t 30), (.t 31)], (some (28, false)), []⟩,
  ⟨some 33, .pick (.t 28) (.c (.bool true)) (.t 32), none, []⟩,
  ⟨some 34, .call (.f 67) [(.t 33), (.c (.int .i64 3))], none, []⟩,
  ⟨some 2, .mv (.t 34), none, []⟩])
 (.ret)))))⟩
def m16 : MFun := ⟨10, [.cell 2 (some 2)],
 .seq (.reg [
  ⟨some 1, .box 26 (.t 0), none, []⟩,
  ⟨some 2, .new [(.slice none 0 0), (.slice none 0 0)] 26, none, []⟩])
 (.seq (.dreg [0, 1, 3, 4, 2, 5, 6, 7] [
  ⟨some 3, .fa 0 (.t 1), none, []⟩,
  ⟨some 4, .ld (.t 3), none, [(.t 3)]⟩,
  ⟨some 6, .fa 1 (.t 1), none, []⟩,
  ⟨some 7, .ld (.t 6), none, [(.t 6)]⟩,
  ⟨some 5, .call (.f 52) [(.t 4)], none, [(.t 6)]⟩,
  ⟨some 8, .call (.f 52) [(.t 7)], none, []⟩,
  ⟨some 9, .build [(.slice none 0 0), (.slice none 0 0)] [(0, 1, (.t 5)), (1, 1, (.t 8))], none, []⟩,
  ⟨none, .st 2 (.t 2) (.t 9), none, []⟩])
 (.ret))⟩
def m17 : MFun := ⟨32, [.t 2],
 .seq (.reg [
  ⟨some 1, .box 26 (.t 0), none, []⟩,
  ⟨some 2, .mv (.c (.int .i64 0)), none, []⟩])
 (.seq (.seq (.reg [
  ⟨some 4, .fa 1 (.t 1), none, []⟩,
  ⟨some 5, .ld (.t 4), none, []⟩,
  ⟨some 6, .len (.t 5), none, []⟩,
  ⟨some 7, .bin .eql (.t 6) (.c (.int .i64 0)), none, []⟩])
 (.ite (.t 7) (.seq (.reg [
  ⟨some 2, .mv (.c (.int .i64 1)), none, []⟩])
 (.ret))
 (.skip)))
 (.seq (.seq (.reg [
  ⟨some 8, .fa 0 (.t 1), none, []⟩,
  ⟨some 9, .ld (.t 8), none, []⟩,
  ⟨some 10, .len (.t 9), none, []⟩,
  ⟨some 11, .fa 1 (.t 1), none, []⟩,
  ⟨some 12, .ld (.t 11), none, []⟩,
  ⟨some 13, .len (.t 12), none, []⟩,
  ⟨some 14, .bin .add (.t 10) (.t 13), none, []⟩,
  ⟨some 15, .bin .gtr (.t 14) (.c (.int .i64 60)), none, []⟩])
 (.ite (.t 15) (.seq (.reg [
  ⟨some 2, .mv (.c (.int .i64 2)), none, []⟩])
 (.ret))
 (.skip)))
 (.seq (.seq (.reg [
  ⟨some 3, .mv (.c (.int .i64 0)), none, []⟩])
 (.blk 0 (.loop (.seq (.seq (.reg [
  ⟨some 16, .mv (.t 3), none, []⟩,
  ⟨some 17, .fa 0 (.t 1), none, []⟩,
  ⟨some 18, .ld (.t 17), none, []⟩,
  ⟨some 19, .len (.t 18), none, []⟩,
  ⟨some 20, .fa 1 (.t 1), none, []⟩,
  ⟨some 21, .ld (.t 20), none, []⟩,
  ⟨some 22, .len (.t 21), none, []⟩,
  ⟨some 23, .bin .add (.t 19) (.t 22), none, []⟩,
  ⟨some 24, .bin .lss (.t 16) (.t 23), none, []⟩])
 (.ite (.t 24) (.skip)
 (.exit 0)))
 (.seq (.blk 1 (.seq (.reg [
  ⟨some 27, .lds 2 (.t 1), none, []⟩,
  ⟨some 28, .mv (.t 3), none, []⟩,
  ⟨some 29, .call (.f 69) [(.t 27), (.t 28)], none, []⟩,
  ⟨some 30, .call (.f 26) [(.t 29), (.c (.int .i64 0)), (.c (.int .i64 4095))], none, []⟩,
  ⟨some 31, .not (.t 30), none, []⟩])
 (.ite (.t 31) (.seq (.reg [
  ⟨some 2, .mv (.c (.int .i64 3)), none, []⟩])
 (.ret))
 (.skip))))
 (.reg [
  ⟨some 25, .mv (.t 3), none, []⟩,
  ⟨some 26, .bin .add (.t 25) (.c (.int .i64 1)), none, []⟩,
  ⟨some 3, .mv (.t 26), none, []⟩]))))))
 (.seq (.reg [
  ⟨some 2, .mv (.c (.int .i64 0)), none, []⟩])
 (.ret)))))⟩
def m18 : MFun := ⟨20, [.t 4, .t 5],
 .seq (.reg [
  ⟨some 3, .box 26 (.t 1), none, []⟩,
  ⟨some 4, .mv (.c (.slice none 0 0)), none, []⟩,
  ⟨some 5, .mv (.c (.int .i64 0)), none, []⟩])
 (.seq (.seq (.dreg [0, 2, 1, 3, 4, 5, 6] [
  ⟨some 7, .mv (.t 0), none, []⟩,
  ⟨some 9, .lds 2 (.t 3), none, [(.t 3)]⟩,
  ⟨some 8, .call (.f 70) [(.t 7)], none, [(.t 3)]⟩,
  ⟨some 10, .call (.f 15) [(.t 9)], none, []⟩,
  ⟨some 11, .lit 30 [(.int .i64 0)] [(0, 1, (.t 8)), (1, 1, (.t 10))] 2, none, []⟩,
  ⟨some 12, .call (.f 66) [(.t 11)], none, []⟩,
  ⟨some 6, .mv (.t 12), none, []⟩])
 (.seq (.reg [
  ⟨some 13, .mv (.t 6), none, []⟩,
  ⟨some 14, .bin .neq (.t 13) (.c (.int .i64 0)), none, []⟩])
 (.ite (.t 14) (.seq (.reg [
  ⟨some 15, .mv (.t 6), none, []⟩,
  ⟨some 4, .mv (.c (.slice none 0 0)), none, []⟩,
  ⟨some 5, .mv (.t 15), none, []⟩])
 (.ret))
 (.skip))))
 (.seq (.reg [
  ⟨some 16, .mv (.t 0), none, []⟩,
  ⟨some 17, .lds 2 (.t 3), none, []⟩,
  ⟨some 18, .call (.f 72) [(.t 16), (.t 17)], none, []⟩,
  ⟨some 19, .call (.f 71) [(.t 18)], none, []⟩,
  ⟨some 4, .mv (.t 19), none, []⟩,
  ⟨some 5, .mv (.c (.int .i64 0)), none, []⟩])
 (.ret)))⟩
def m19 : MFun := ⟨25, [.t 2],
 .seq (.reg [
  ⟨some 2, .mv (.c (.slice none 0 0)), none, []⟩])
 (.seq (.reg [
  ⟨some 3, .mv (.c (.slice none 0 0)), none, []⟩])
 (.seq (.seq (.reg [
  ⟨some 4, .mv (.c (.int .i64 0)), none, []⟩])
 (.blk 0 (.loop (.seq (.seq (.reg [
  ⟨some 6, .mv (.t 4), none, []⟩,
  ⟨some 7, .mv (.t 0), none, []⟩,
  ⟨some 8, .len (.t 7), none, []⟩,
  ⟨some 9, .bin .lss (.t 6) (.t 8), none, []⟩])
 (.ite (.t 9) (.skip)
 (.exit 0)))
 (.seq (.blk 1 (.seq (.reg [
  ⟨some 12, .mv (.t 0), none, []⟩,
  ⟨some 13, .mv (.t 4), none, []⟩,
  ⟨some 14, .ia 3 (.t 12) (.t 13), none, []⟩,
  ⟨some 15, .lds 3 (.t 14), none, []⟩,
  ⟨some 5, .new [(.int .i64 0), (.int .i64 0), (.slice none 0 0)] 67, none, []⟩,
  ⟨none, .st 3 (.t 5) (.t 15), none, []⟩])
 (.seq (.reg [
  ⟨some 16, .fa 2 (.t 5), none, []⟩,
  ⟨some 17, .ld (.t 16), none, []⟩,
  ⟨some 18, .call (.f 52) [(.t 17)], none, []⟩,
  ⟨some 19, .fa 2 (.t 5), none, []⟩,
  ⟨none, .st 1 (.t 19) (.t 18), none, []⟩])
 (.reg [
  ⟨some 20, .mv (.t 3), none, []⟩,
  ⟨some 21, .lds 3 (.t 5), none, []⟩,
  ⟨some 22, .lit 67 [(.int .i64 0), (.int .i64 0), (.slice none 0 0)] [(0, 3, (.t 21))] 1, none, []⟩,
  ⟨some 23, .app 67 3 40 [(.int .i64 0), (.int .i64 0), (.slice none 0 0)] (.t 20) (.t 22), none, []⟩,
  ⟨some 3, .mv (.t 23), none, []⟩]))))
 (.reg [
  ⟨some 10, .mv (.t 4), none, []⟩,
  ⟨some 11, .bin .add (.t 10) (.c (.int .i64 1)), none, []⟩,
  ⟨some 4, .mv (.t 11), none, []⟩]))))))
 (.seq (.reg [
  ⟨some 24, .mv (.t 3), none, []⟩,
  ⟨some 2, .mv (.t 24), none, []⟩])
 (.ret))))⟩
def m20 : MFun := ⟨22, [.t 4, .t 5],
 .seq (.reg [
  ⟨some 3, .box 26 (.t 1), none, []⟩,
  ⟨some 4, .mv (.c (.bool false)), none, []⟩,
  ⟨some 5, .mv (.c (.int .i64 0)), none, []⟩])
 (.seq (.reg [
  ⟨some 9, .mv (.t 0), none, []⟩,
  ⟨some 10, .lds 2 (.t 3), none, []⟩,
  ⟨some 11, .call (.f 18) [(.t 9), (.t 10)], none, []⟩,
  ⟨some 8, .mv (.t 11), none, []⟩,
  ⟨some 12, .ext (.t 8) 0, none, []⟩,
  ⟨some 13, .ext (.t 8) 1, none, []⟩,
  ⟨some 6, .mv (.t 12), none, []⟩,
  ⟨some 7, .mv (.t 13), none, []⟩])
 (.seq (.reg [
  ⟨some 14, .mv (.t 7), none, []⟩,
  ⟨some 15, .bin .eql (.t 14) (.c (.int .i64 0)), none, []⟩,
  ⟨some 16, .mv (.t 15), none, []⟩,
  ⟨some 17, .mv (.t 6), (some (16, true)), []⟩,
  ⟨some 18, .ia 1 (.t 17) (.c (.int .i64 0)), (some (16, true)), []⟩,
  ⟨some 19, .ld (.t 18), (some (16, true)), []⟩,
  ⟨some 20, .pick (.t 16) (.t 19) (.c (.bool false)), none, []⟩,
  ⟨some 21, .mv (.t 7), none, []⟩,
  ⟨some 4, .mv (.t 20), none, []⟩,
  ⟨some 5, .mv (.t 21), none, []⟩])
 (.ret)))⟩
def m21 : MFun := ⟨13, [.t 4],
 .seq (.reg [
  ⟨some 3, .box 26 (.t 1), none, []⟩,
  ⟨some 4, .mv (.c (.int .i64 0)), none, []⟩])
 (.seq (.seq (.reg [
  ⟨some 6, .mv (.t 0), none, []⟩,
  ⟨some 7, .call (.f 25) [(.t 6)], none, []⟩,
  ⟨some 5, .mv (.t 7), none, []⟩])
 (.seq (.reg [
  ⟨some 8, .mv (.t 5), none, []⟩,
  ⟨some 9, .bin .neq (.t 8) (.c (.int .i64 0)), none, []⟩])
 (.ite (.t 9) (.seq (.reg [
  ⟨some 10, .mv (.t 5), none, []⟩,
  ⟨some 4, .mv (.t 10), none, []⟩])
 (.ret))
 (.skip))))
 (.seq (.reg [
  ⟨some 11, .lds 2 (.t 3), none, []⟩,
  ⟨some 12, .call (.f 17) [(.t 11)], none, []⟩,
  ⟨some 4, .mv (.t 12), none, []⟩])
 (.ret)))⟩
def m22 : MFun := ⟨169, [.t 6],
 .seq (.reg [
  ⟨some 5, .box 26 (.t 2), none, []⟩,
  ⟨some 6, .mv (.c (.slice none 0 0)), none, []⟩])
 (.seq (.reg [
  ⟨some 13, .mv (.t 0), none, []⟩,
  ⟨some 14, .mv (.t 1), none, []⟩,
  ⟨some 15, .ia 3 (.t 13) (.t 14), none, []⟩,
  ⟨some 16, .lds 3 (.t 15), none, []⟩,
  ⟨some 7, .new [(.int .i64 0), (.int .i64 0), (.slice none 0 0)] 67, none, []⟩,
  ⟨none, .st 3 (.t 7) (.t 16), none, []⟩])
 (.seq (.reg [
  ⟨some 17, .fa 0 (.t 5), none, []⟩,
  ⟨some 18, .ld (.t 17), none, []⟩,
  ⟨some 19, .len (.t 18), none, []⟩,
  ⟨some 20, .fa 1 (.t 5), none, []⟩,
  ⟨some 21, .ld (.t 20), none, []⟩,
  ⟨some 22, .len (.t 21), none, []⟩,
  ⟨some 23, .bin .add (.t 19) (.t 22), none, []⟩,
  ⟨some 8, .mv (.t 23), none, []⟩])
 (.seq (.reg [
  ⟨some 24, .mv (.t 8), none, []⟩,
  ⟨some 25, .mk 4 1 1 [(.bool false)] (.t 24) (.t 24), none, []⟩,
  ⟨some 9, .mv (.t 25), none, []⟩])
 (.seq (.reg [
  ⟨some 10, .mv (.c (.slice none 0 0)), none, []⟩,
  ⟨some 11, .mv (.c (.slice none 0 0)), none, []⟩])
 (.seq (.seq (.reg [
  ⟨some 26, .fa 2 (.t 7), none, []⟩,
  ⟨some 27, .ld (.t 26), none, []⟩,
  ⟨some 28, .len (.t 27), none, []⟩,
  ⟨some 29, .bin .gtr (.t 28) (.c (.int .i64 0)), none, []⟩])
 (.ite (.t 29) (.dreg [0, 1, 2, 3, 4, 5, 6, 7] [
  ⟨some 30, .mv (.t 0), none, []⟩,
  ⟨some 31, .fa 2 (.t 7), none, []⟩,
  ⟨some 32, .ld (.t 31), none, [(.t 31)]⟩,
  ⟨some 33, .ia 1 (.t 32) (.c (.int .i64 0)), none, []⟩,
  ⟨some 34, .ld (.t 33), none, [(.t 33)]⟩,
  ⟨some 35, .lds 2 (.t 5), none, [(.t 5)]⟩,
  ⟨some 36, .call (.f 22) [(.t 30), (.t 34), (.t 35)], none, []⟩,
  ⟨some 10, .mv (.t 36), none, []⟩])
 (.skip)))
 (.seq (.seq (.reg [
  ⟨some 37, .fa 2 (.t 7), none, []⟩,
  ⟨some 38, .ld (.t 37), none, []⟩,
  ⟨some 39, .len (.t 38), none, []⟩,
  ⟨some 40, .bin .gtr (.t 39) (.c (.int .i64 1)), none, []⟩])
 (.ite (.t 40) (.dreg [0, 1, 2, 3, 4, 5, 6, 7] [
  ⟨some 41, .mv (.t 0), none, []⟩,
  ⟨some 42, .fa 2 (.t 7), none, []⟩,
  ⟨some 43, .ld (.t 42), none, [(.t 42)]⟩,
  ⟨some 44, .ia 1 (.t 43) (.c (.int .i64 1)), none, []⟩,
  ⟨some 45, .ld (.t 44), none, [(.t 44)]⟩,
  ⟨some 46, .lds 2 (.t 5), none, [(.t 5)]⟩,
  ⟨some 47, .call (.f 22) [(.t 41), (.t 45), (.t 46)], none, []⟩,
  ⟨some 11, .mv (.t 47), none, []⟩])
 (.skip)))
 (.seq (.seq (.reg [
  ⟨some 12, .mv (.c (.int .i64 0)), none, []⟩])
 (.blk 0 (.loop (.seq (.seq (.reg [
  ⟨some 48, .mv (.t 12), none, []⟩,
  ⟨some 49, .mv (.t 8), none, []⟩,
  ⟨some 50, .bin .lss (.t 48) (.t 49), none, []⟩])
 (.ite (.t 50) (.skip)
 (.exit 0)))
 (.seq (.blk 1 (.seq (.reg [
  ⟨some 53, .fa 0 (.t 7), none, []⟩,
  ⟨some 54, .ld (.t 53), none, []⟩])
 (.blk 2 (.seq (.reg [
  ⟨some 56, .bin .eql (.t 54) (.c (.int .i64 0)), none, []⟩,
  ⟨some 55, .mv (.t 56), none, []⟩])
 (.ite (.t 55) (.reg [
  ⟨some 57, .mv (.t 9), none, []⟩,
  ⟨some 58, .mv (.t 12), none, []⟩,
  ⟨some 59, .ia 1 (.t 57) (.t 58), none, []⟩,
  ⟨none, .st 1 (.t 59) (.c (.bool true)), none, []⟩])
 (.seq (.reg [
  ⟨some 61, .bin .eql (.t 54) (.c (.int .i64 1)), none, []⟩,
  ⟨some 60, .mv (.t 61), none, []⟩])
 (.ite (.t 60) (.dreg [0, 1, 2, 3, 5, 6, 4, 7, 8, 9] [
  ⟨some 62, .mv (.t 9), none, []⟩,
  ⟨some 63, .mv (.t 12), none, []⟩,
  ⟨some 64, .lds 2 (.t 5), none, [(.t 5)]⟩,
  ⟨some 65, .mv (.t 12), none, []⟩,
  ⟨some 67, .fa 1 (.t 7), none, []⟩,
  ⟨some 68, .ld (.t 67), none, [(.t 67)]⟩,
  ⟨some 66, .call (.f 69) [(.t 64), (.t 65)], none, [(.t 67)]⟩,
  ⟨some 69, .call (.f 60) [(.t 66), (.t 68)], none, []⟩,
  ⟨some 70, .ia 1 (.t 62) (.t 63), none, []⟩,
  ⟨none, .st 1 (.t 70) (.t 69), none, []⟩])
 (.seq (.reg [
  ⟨some 72, .bin .eql (.t 54) (.c (.int .i64 2)), none, []⟩,
  ⟨some 71, .mv (.t 72), none, []⟩])
 (.ite (.t 71) (.reg [
  ⟨some 73, .mv (.t 9), none, []⟩,
  ⟨some 74, .mv (.t 12), none, []⟩,
  ⟨some 75, .mv (.t 10), none, []⟩,
  ⟨some 76, .mv (.t 12), none, []⟩,
  ⟨some 77, .ia 1 (.t 75) (.t 76), none, []⟩,
  ⟨some 78, .ld (.t 77), none, []⟩,
  ⟨some 79, .not (.t 78), none, []⟩,
  ⟨some 80, .ia 1 (.t 73) (.t 74), none, []⟩,
  ⟨none, .st 1 (.t 80) (.t 79), none, []⟩])
 (.seq (.reg [
  ⟨some 82, .bin .eql (.t 54) (.c (.int .i64 3)), none, []⟩,
  ⟨some 81, .mv (.t 82), none, []⟩])
 (.ite (.t 81) (.reg [
  ⟨some 83, .mv (.t 9), none, []⟩,
  ⟨some 84, .mv (.t 12), none, []⟩,
  ⟨some 85, .mv (.t 10), none, []⟩,
  ⟨some 86, .mv (.t 12), none, []⟩,
  ⟨some 87, .ia 1 (.t 85) (.t 86), none, []⟩,
  ⟨some 88, .ld (.t 87), none, []⟩,
  ⟨some 89, .mv (.t 88), none, []⟩,
  ⟨some 90, .mv (.t 11), (some (89, true)), []⟩,
  ⟨some 91, .mv (.t 12), (some (89, true)), []⟩,
  ⟨some 92, .ia 1 (.t 90) (.t 91), (some (89, true)), []⟩,
  ⟨some 93, .ld (.t 92), (some (89, true)), []⟩,
  ⟨some 94, .pick (.t 89) (.t 93) (.c (.bool false)), none, []⟩,
  ⟨some 95, .ia 1 (.t 83) (.t 84), none, []⟩,
  ⟨none, .st 1 (.t 95) (.t 94), none, []⟩])
 (.seq (.reg [
  ⟨some 97, .bin .eql (.t 54) (.c (.int .i64 4)), none, []⟩,
  ⟨some 96, .mv (.t 97), none, []⟩])
 (.ite (.t 96) (.reg [
  ⟨some 98, .mv (.t 9), none, []⟩,
  ⟨some 99, .mv (.t 12), none, []⟩,
  ⟨some 100, .mv (.t 10), none, []⟩,
  ⟨some 101, .mv (.t 12), none, []⟩,
  ⟨some 102, .ia 1 (.t 100) (.t 101), none, []⟩,
  ⟨some 103, .ld (.t 102), none, []⟩,
  ⟨some 104, .mv (.t 103), none, []⟩,
  ⟨some 105, .mv (.t 11), (some (104, false)), []⟩,
  ⟨some 106, .mv (.t 12), (some (104, false)), []⟩,
  ⟨some 107, .ia 1 (.t 105) (.t 106), (some (104, false)), []⟩,
  ⟨some 108, .ld (.t 107), (some (104, false)), []⟩,
  ⟨some 109, .pick (.t 104) (.c (.bool true)) (.t 108), none, []⟩,
  ⟨some 110, .ia 1 (.t 98) (.t 99), none, []⟩,
  ⟨none, .st 1 (.t 110) (.t 109), none, []⟩])
 (.seq (.reg [
  ⟨some 112, .bin .eql (.t 54) (.c (.int .i64 5)), none, []⟩,
  ⟨some 111, .mv (.t 112), none, []⟩])
 (.ite (.t 111) (.reg [
  ⟨some 113, .mv (.t 9), none, []⟩,
  ⟨some 114, .mv (.t 12), none, []⟩,
  ⟨some 115, .mv (.t 10), none, []⟩,
  ⟨some 116, .mv (.t 12), none, []⟩,
  ⟨some 117, .ia 1 (.t 115) (.t 116), none, []⟩,
  ⟨some 118, .ld (.t 117), none, []⟩,
  ⟨some 119, .not (.t 118), none, []⟩,
  ⟨some 120, .mv (.t 119), none, []⟩,
  ⟨some 121, .mv (.t 11), (some (120, false)), []⟩,
  ⟨some 122, .mv (.t 12), (some (120, false)), []⟩,
  ⟨some 123, .ia 1 (.t 121) (.t 122), (some (120, false)), []⟩,
  ⟨some 124, .ld (.t 123), (some (120, false)), []⟩,
  ⟨some 125, .pick (.t 120) (.c (.bool true)) (.t 124), none, []⟩,
  ⟨some 126, .ia 1 (.t 113) (.t 114), none, []⟩,
  ⟨none, .st 1 (.t 126) (.t 125), none, []⟩])
 (.seq (.reg [
  ⟨some 128, .bin .eql (.t 54) (.c (.int .i64 6)), none, []⟩,
  ⟨some 127, .mv (.t 128), none, []⟩])
 (.ite (.t 127) (.reg [
  ⟨some 129, .mv (.t 9), none, []⟩,
  ⟨some 130, .mv (.t 12), none, []⟩,
  ⟨some 131, .lds 2 (.t 5), none, []⟩,
  ⟨some 132, .mv (.t 12), none, []⟩,
  ⟨some 133, .mv (.t 10), none, []⟩,
  ⟨some 134, .call (.f 73) [(.t 131), (.t 132), (.t 133), (.c (.bool false))], none, []⟩,
  ⟨some 135, .not (.t 134), none, []⟩,
  ⟨some 136, .ia 1 (.t 129) (.t 130), none, []⟩,
  ⟨none, .st 1 (.t 136) (.t 135), none, []⟩])
 (.seq (.reg [
  ⟨some 138, .bin .eql (.t 54) (.c (.int .i64 7)), none, []⟩,
  ⟨some 137, .mv (.t 138), none, []⟩])
 (.ite (.t 137) (.reg [
  ⟨some 139, .mv (.t 9), none, []⟩,
  ⟨some 140, .mv (.t 12), none, []⟩,
  ⟨some 141, .lds 2 (.t 5), none, []⟩,
  ⟨some 142, .mv (.t 12), none, []⟩,
  ⟨some 143, .mv (.t 10), none, []⟩,
  ⟨some 144, .call (.f 73) [(.t 141), (.t 142), (.t 143), (.c (.bool true))], none, []⟩,
  ⟨some 145, .ia 1 (.t 139) (.t 140), none, []⟩,
  ⟨none, .st 1 (.t 145) (.t 144), none, []⟩])
 (.seq (.reg [
  ⟨some 147, .bin .eql (.t 54) (.c (.int .i64 8)), none, []⟩,
  ⟨some 146, .mv (.t 147), none, []⟩])
 (.ite (.t 146) (.reg [
  ⟨some 148, .mv (.t 9), none, []⟩,
  ⟨some 149, .mv (.t 12), none, []⟩,
  ⟨some 150, .lds 2 (.t 5), none, []⟩,
  ⟨some 151, .mv (.t 12), none, []⟩,
  ⟨some 152, .mv (.t 10), none, []⟩,
  ⟨some 153, .mv (.t 11), none, []⟩,
  ⟨some 154, .build [(.slice none 0 0), (.slice none 0 0)] [(0, 1, (.t 152)), (1, 1, (.t 153))], none, []⟩,
  ⟨some 155, .call (.f 74) [(.t 150), (.t 151), (.t 154)], none, []⟩,
  ⟨some 156, .ia 1 (.t 148) (.t 149), none, []⟩,
  ⟨none, .st 1 (.t 156) (.t 155), none, []⟩])
 (.seq (.reg [
  ⟨some 158, .bin .eql (.t 54) (.c (.int .i64 9)), none, []⟩,
  ⟨some 157, .mv (.t 158), none, []⟩])
 (.ite (.t 157) (.reg [
  ⟨some 159, .mv (.t 9), none, []⟩,
  ⟨some 160, .mv (.t 12), none, []⟩,
  ⟨some 161, .lds 2 (.t 5), none, []⟩,
  ⟨some 162, .mv (.t 12), none, []⟩,
  ⟨some 163, .mv (.t 10), none, []⟩,
  ⟨some 164, .mv (.t 11), none, []⟩,
  ⟨some 165, .build [(.slice none 0 0), (.slice none 0 0)] [(0, 1, (.t 163)), (1, 1, (.t 164))], none, []⟩,
  ⟨some 166, .call (.f 75) [(.t 161), (.t 162), (.t 165)], none, []⟩,
  ⟨some 167, .ia 1 (.t 159) (.t 160), none, []⟩,
  ⟨none, .st 1 (.t 167) (.t 166), none, []⟩])
 (.skip))))))))))))))))))))))))
 (.reg [
  ⟨some 51, .mv (.t 12), none, []⟩,
  ⟨some 52, .bin .add (.t 51) (.c (.int .i64 1)), none, []⟩,
  ⟨some 12, .mv (.t 52), none, []⟩]))))))
 (.seq (.reg [
  ⟨some 168, .mv (.t 9), none, []⟩,
  ⟨some 6, .mv (.t 168), none, []⟩])
 (.ret)))))))))⟩
def m23 : MFun := ⟨45, [.t 2],
 .seq (.reg [
  ⟨some 1, .box 47 (.t 0), none, []⟩,
  ⟨some 2, .mv (.c (.bool false)), none, []⟩])
 (.seq (.reg [
  ⟨some 3, .fa 0 (.t 1), none, []⟩,
  ⟨some 4, .fa 2 (.t 3), none, []⟩,
  ⟨some 5, .ld (.t 4), none, []⟩,
  ⟨some 6, .len (.t 5), none, []⟩,
  ⟨some 7, .bin .leq (.t 6) (.c (.int .i64 120)), none, []⟩,
  ⟨some 8, .mv (.t 7), none, []⟩,
  ⟨some 9, .fa 0 (.t 1), (some (8, true)), []⟩,
  ⟨some 10, .fa 1 (.t 9), (some (8, true)), []⟩,
  ⟨some 11, .ld (.t 10), (some (8, true)), []⟩,
  ⟨some 12, .len (.t 11), (some (8, true)), []⟩,
  ⟨some 13, .bin .leq (.t 12) (.c (.int .i64 70)), (some (8, true)), []⟩,
  ⟨some 14, .pick (.t 8) (.t 13) (.c (.bool false)), none, []⟩,
  ⟨some 15, .mv (.t 14), none, []⟩,
  ⟨some 16, .fa 3 (.t 1), (some (15, true)), []⟩,
  ⟨some 17, .ld (.t 16), (some (15, true)), []⟩,
  ⟨some 18, .len (.t 17), (some (15, true)), []⟩,
  ⟨some 19, .bin .leq (.t 18) (.c (.int .i64 70)), (some (15, true)), []⟩,
  ⟨some 20, .pick (.t 15) (.t 19) (.c (.bool false)), none, []⟩,
  ⟨some 21, .mv (.t 20), none, []⟩,
  ⟨some 22, .fa 4 (.t 1), (some (21, true)), []⟩,
  ⟨some 23, .ld (.t 22), (some (21, true)), []⟩,
  ⟨some 24, .len (.t 23), (some (21, true)), []⟩,
  ⟨some 25, .bin .leq (.t 24) (.c (.int .i64 20)), (some (21, true)), []⟩,
  ⟨some 26, .pick (.t 21) (.t 25) (.c (.bool false)), none, []⟩,
  ⟨some 27, .mv (.t 26), none, []⟩,
  ⟨some 28, .fa 5 (.t 1), (some (27, true)), []⟩,
  ⟨some 29, .ld (.t 28), (some (27, true)), []⟩,
  ⟨some 30, .len (.t 29), (some (27, true)), []⟩,
  ⟨some 31, .bin .leq (.t 30) (.c (.int .i64 20)), (some (27, true)), []⟩,
  ⟨some 32, .pick (.t 27) (.t 31) (.c (.bool false)), none, []⟩,
  ⟨some 33, .mv (.t 32), none, []⟩,
  ⟨some 34, .fa 6 (.t 1), (some (33, true)), []⟩,
  ⟨some 35, .ld (.t 34), (some (33, true)), []⟩,
  ⟨some 36, .len (.t 35), (some (33, true)), []⟩,
  ⟨some 37, .bin .leq (.t 36) (.c (.int .i64 20)), (some (33, true)), []⟩,
  ⟨some 38, .pick (.t 33) (.t 37) (.c (.bool false)), none, []⟩,
  ⟨some 39, .mv (.t 38), none, []⟩,
  ⟨some 40, .fa 7 (.t 1), (some (39, true)), []⟩,
  ⟨some 41, .ld (.t 40), (some (39, true)), []⟩,
  ⟨some 42, .len (.t 41), (some (39, true)), []⟩,
  ⟨some 43, .bin .leq (.t 42) (.c (.int .i64 20)), (some (39, true)), []⟩,
  ⟨some 44, .pick (.t 39) (.t 43) (.c (.bool false)), none, []⟩,
  ⟨some 2, .mv (.t 44), none, []⟩])
 (.ret))⟩
def m24 : MFun := ⟨11, [.t 2],
 .seq (.reg [
  ⟨some 1, .box 47 (.t 0), none, []⟩,
  ⟨some 2, .mv (.c (.int .i64 0)), none, []⟩])
 (.seq (.reg [
  ⟨some 6, .lds 8 (.t 1), none, []⟩,
  ⟨some 7, .call (.f 40) [(.t 6)], none, []⟩,
  ⟨some 5, .mv (.t 7), none, []⟩,
  ⟨some 8, .ext (.t 5) 0, none, []⟩,
  ⟨some 9, .ext (.t 5) 1, none, []⟩,
  ⟨some 3, .mv (.t 8), none, []⟩,
  ⟨some 4, .mv (.t 9), none, []⟩])
 (.seq (.reg [
  ⟨some 10, .mv (.t 4), none, []⟩,
  ⟨some 2, .mv (.t 10), none, []⟩])
 (.ret)))⟩
def m25 : MFun := ⟨11, [.t 2],
 .seq (.reg [
  ⟨some 2, .mv (.c (.int .i64 0)), none, []⟩])
 (.seq (.reg [
  ⟨some 6, .mv (.t 0), none, []⟩,
  ⟨some 7, .call (.f 46) [(.t 6)], none, []⟩,
  ⟨some 5, .mv (.t 7), none, []⟩,
  ⟨some 8, .ext (.t 5) 0, none, []⟩,
  ⟨some 9, .ext (.t 5) 1, none, []⟩,
  ⟨some 3, .mv (.t 8), none, []⟩,
  ⟨some 4, .mv (.t 9), none, []⟩])
 (.seq (.reg [
  ⟨some 10, .mv (.t 4), none, []⟩,
  ⟨some 2, .mv (.t 10), none, []⟩])
 (.ret)))⟩
def m26 : MFun := ⟨15, [.t 6],
 .seq (.reg [
  ⟨some 6, .mv (.c (.bool false)), none, []⟩])
 (.seq (.reg [
  ⟨some 7, .mv (.t 0), none, []⟩,
  ⟨some 8, .mv (.t 1), none, []⟩,
  ⟨some 9, .bin .geq (.t 7) (.t 8), none, []⟩,
  ⟨some 10, .mv (.t 9), none, []⟩,
  ⟨some 11, .mv (.t 0), (some (10, true)), []⟩,
  ⟨some 12, .mv (.t 2), (some (10, true)), []⟩,
  ⟨some 13, .bin .leq (.t 11) (.t 12), (some (10, true)), []⟩,
  ⟨some 14, .pick (.t 10) (.t 13) (.c (.bool false)), none, []⟩,
  ⟨some 6, .mv (.t 14), none, []⟩])
 (.ret))⟩
def m27 : MFun := ⟨71, [.cell 6 (some 2), .t 7],
 .seq (.reg [
  ⟨some 3, .box 47 (.t 0), none, []⟩,
  ⟨some 6, .new [(.slice none 0 0), (.slice none 0 0)] 52, none, []⟩,
  ⟨some 7, .mv (.c (.int .i64 0)), none, []⟩])
 (.seq (.seq (.reg [
  ⟨some 13, .lds 8 (.t 3), none, []⟩,
  ⟨some 14, .call (.f 76) [(.t 13)], none, []⟩,
  ⟨some 15, .mv (.t 1), none, []⟩,
  ⟨some 16, .call (.f 70) [(.t 15)], none, []⟩,
  ⟨some 17, .mv (.t 2), none, []⟩,
  ⟨some 18, .call (.f 65) [(.t 17), (.c (.int .i64 1)), (.c (.int .i64 6))], none, []⟩,
  ⟨some 19, .not (.t 18), none, []⟩,
  ⟨some 20, .call (.f 67) [(.t 19), (.c (.int .i64 3))], none, []⟩,
  ⟨some 21, .lit 30 [(.int .i64 0)] [(0, 1, (.t 14)), (1, 1, (.t 16)), (2, 1, (.t 20))] 3, none, []⟩,
  ⟨some 22, .call (.f 66) [(.t 21)], none, []⟩,
  ⟨some 8, .mv (.t 22), none, []⟩])
 (.seq (.reg [
  ⟨some 23, .mv (.t 8), none, []⟩,
  ⟨some 24, .bin .neq (.t 23) (.c (.int .i64 0)), none, []⟩])
 (.ite (.t 24) (.seq (.reg [
  ⟨some 25, .build [(.slice none 0 0), (.slice none 0 0)] [], none, []⟩,
  ⟨some 26, .mv (.t 8), none, []⟩,
  ⟨none, .st 2 (.t 6) (.t 25), none, []⟩,
  ⟨some 7, .mv (.t 26), none, []⟩])
 (.ret))
 (.skip))))
 (.seq (.reg [
  ⟨some 9, .mv (.c (.int .i64 0)), none, []⟩])
 (.seq (.seq (.reg [
  ⟨some 10, .mv (.c (.int .i64 1)), none, []⟩])
 (.blk 0 (.loop (.seq (.seq (.reg [
  ⟨some 27, .mv (.t 10), none, []⟩,
  ⟨some 28, .mv (.t 2), none, []⟩,
  ⟨some 29, .bin .leq (.t 27) (.t 28), none, []⟩])
 (.ite (.t 29) (.skip)
 (.exit 0)))
 (.seq (.blk 1 (.seq (.reg [
  ⟨some 32, .mv (.t 10), none, []⟩,
  ⟨some 33, .mv (.c (.int .i64 0)), none, []⟩])
 (.blk 2 (.loop (.seq (.reg [
  ⟨some 34, .bin .lss (.t 33) (.t 32), none, []⟩])
 (.seq (.ite (.t 34) (.skip)
 (.exit 2))
 (.seq (.blk 3 (.seq (.reg [
  ⟨some 35, .mv (.t 33), none, []⟩,
  ⟨some 11, .mv (.t 35), none, []⟩])
 (.seq (.reg [
  ⟨some 36, .lds 8 (.t 3), none, []⟩,
  ⟨some 37, .mv (.t 1), none, []⟩,
  ⟨some 38, .mv (.t 10), none, []⟩,
  ⟨some 39, .mv (.t 11), none, []⟩,
  ⟨some 40, .mv (.t 9), none, []⟩,
  ⟨some 41, .build [(.int .i64 0), (.slice none 0 0), (.slice none 0 0), (.slice none 0 0), (.slice none 0 0), (.slice none 0 0), (.slice none 0 0), (.slice none 0 0), (.slice none 0 0), (.int .i64 0), (.int .i64 0), (.slice none 0 0), (.int .i64 0)] [(0, 8, (.t 36)), (8, 1, (.t 37)), (9, 1, (.t 38)), (10, 1, (.t 39)), (12, 1, (.t 40))], none, []⟩,
  ⟨some 42, .box 119 (.t 41), none, []⟩,
  ⟨some 12, .mv (.t 42), none, []⟩])
 (.seq (.seq (.reg [
  ⟨some 43, .mv (.t 12), none, []⟩,
  ⟨some 44, .call (.f 77) [(.t 43)], none, []⟩])
 (.ite (.t 44) (.seq (.dreg [0, 1, 2, 3, 4, 5, 7, 8, 9, 10, 11, 12, 6, 13, 14, 15, 16] [
  ⟨some 45, .mv (.t 12), none, []⟩,
  ⟨some 46, .chk (.t 45), none, []⟩,
  ⟨some 47, .fa 11 (.t 46), none, []⟩,
  ⟨some 48, .ld (.t 47), none, [(.t 47)]⟩,
  ⟨some 49, .mv (.t 11), none, []⟩,
  ⟨some 50, .sl 1 (.t 48) none (some (.t 49)) none, none, [(.t 48)]⟩,
  ⟨some 52, .mv (.t 12), none, []⟩,
  ⟨some 53, .chk (.t 52), none, []⟩,
  ⟨some 54, .fa 11 (.t 53), none, []⟩,
  ⟨some 55, .ld (.t 54), none, [(.t 54)]⟩,
  ⟨some 56, .mv (.t 11), none, []⟩,
  ⟨some 57, .sl 1 (.t 55) (some (.t 56)) none none, none, [(.t 55)]⟩,
  ⟨some 51, .call (.f 78) [(.t 50)], none, [(.t 54), (.t 55)]⟩,
  ⟨some 58, .call (.f 78) [(.t 57)], none, []⟩,
  ⟨some 59, .build [(.slice none 0 0), (.slice none 0 0)] [(0, 1, (.t 51)), (1, 1, (.t 58))], none, []⟩,
  ⟨none, .st 2 (.t 6) (.t 59), none, []⟩,
  ⟨some 7, .mv (.c (.int .i64 0)), none, []⟩])
 (.ret))
 (.skip)))
 (.reg [
  ⟨some 60, .mv (.t 12), none, []⟩,
  ⟨some 61, .chk (.t 60), none, []⟩,
  ⟨some 62, .fa 12 (.t 61), none, []⟩,
  ⟨some 63, .ld (.t 62), none, []⟩,
  ⟨some 9, .mv (.t 63), none, []⟩])))))
 (.reg [
  ⟨some 64, .bin .add (.t 33) (.c (.int .i64 1)), none, []⟩,
  ⟨some 33, .mv (.t 64), none, []⟩]))))))))
 (.reg [
  ⟨some 30, .mv (.t 10), none, []⟩,
  ⟨some 31, .bin .add (.t 30) (.c (.int .i64 1)), none, []⟩,
  ⟨some 10, .mv (.t 31), none, []⟩]))))))
 (.seq (.reg [
  ⟨some 65, .build [(.slice none 0 0), (.slice none 0 0)] [], none, []⟩,
  ⟨some 66, .mv (.t 9), none, []⟩,
  ⟨some 67, .bin .gtr (.t 66) (.c (.int .i64 400000)), none, []⟩,
  ⟨some 68, .call (.f 67) [(.t 67), (.c (.int .i64 37))], none, []⟩,
  ⟨some 69, .lit 30 [(.int .i64 0)] [(0, 1, (.t 68)), (1, 1, (.c (.int .i64 25)))] 2, none, []⟩,
  ⟨some 70, .call (.f 66) [(.t 69)], none, []⟩,
  ⟨none, .st 2 (.t 6) (.t 65), none, []⟩,
  ⟨some 7, .mv (.t 70), none, []⟩])
 (.ret)))))⟩
def m28 : MFun := ⟨22, [.cell 2 (some 8)],
 .seq (.reg [
  ⟨some 1, .box 47 (.t 0), none, []⟩,
  ⟨some 2, .new [(.int .i64 0), (.slice none 0 0), (.slice none 0 0), (.slice none 0 0), (.slice none 0 0), (.slice none 0 0), (.slice none 0 0), (.slice none 0 0)] 47, none, []⟩])
 (.seq (.dreg [0, 1, 3, 4, 6, 7, 9, 10, 12, 13, 15, 16, 2, 5, 8, 11, 14, 17, 18, 19] [
  ⟨some 3, .fa 0 (.t 1), none, []⟩,
  ⟨some 4, .lds 3 (.t 3), none, [(.t 3)]⟩,
  ⟨some 6, .fa 3 (.t 1), none, []⟩,
  ⟨some 7, .ld (.t 6), none, [(.t 6)]⟩,
  ⟨some 9, .fa 4 (.t 1), none, []⟩,
  ⟨some 10, .ld (.t 9), none, [(.t 9)]⟩,
  ⟨some 12, .fa 5 (.t 1), none, []⟩,
  ⟨some 13, .ld (.t 12), none, [(.t 12)]⟩,
  ⟨some 15, .fa 6 (.t 1), none, []⟩,
  ⟨some 16, .ld (.t 15), none, [(.t 15)]⟩,
  ⟨some 18, .fa 7 (.t 1), none, []⟩,
  ⟨some 19, .ld (.t 18), none, [(.t 18)]⟩,
  ⟨some 5, .call (.f 79) [(.t 4)], none, [(.t 12), (.t 15), (.t 18), (.t 6), (.t 9)]⟩,
  ⟨some 8, .call (.f 52) [(.t 7)], none, [(.t 12), (.t 15), (.t 18), (.t 9)]⟩,
  ⟨some 11, .call (.f 52) [(.t 10)], none, [(.t 12), (.t 15), (.t 18)]⟩,
  ⟨some 14, .call (.f 52) [(.t 13)], none, [(.t 15), (.t 18)]⟩,
  ⟨some 17, .call (.f 52) [(.t 16)], none, [(.t 18)]⟩,
  ⟨some 20, .call (.f 52) [(.t 19)], none, []⟩,
  ⟨some 21, .build [(.int .i64 0), (.slice none 0 0), (.slice none 0 0), (.slice none 0 0), (.slice none 0 0), (.slice none 0 0), (.slice none 0 0), (.slice none 0 0)] [(0, 3, (.t 5)), (3, 1, (.t 8)), (4, 1, (.t 11)), (5, 1, (.t 14)), (6, 1, (.t 17)), (7, 1, (.t 20))], none, []⟩,
  ⟨none, .st 8 (.t 2) (.t 21), none, []⟩])
 (.ret))⟩
def m29 : MFun := ⟨17, [.t 4],
 .seq (.reg [
  ⟨some 2, .box 52 (.t 0), none, []⟩,
  ⟨some 3, .box 52 (.t 1), none, []⟩,
  ⟨some 4, .mv (.c (.bool false)), none, []⟩])
 (.seq (.reg [
  ⟨some 5, .fa 0 (.t 2), none, []⟩,
  ⟨some 6, .ld (.t 5), none, []⟩,
  ⟨some 7, .fa 0 (.t 3), none, []⟩,
  ⟨some 8, .ld (.t 7), none, []⟩,
  ⟨some 9, .call (.f 80) [(.t 6), (.t 8)], none, []⟩,
  ⟨some 10, .mv (.t 9), none, []⟩,
  ⟨some 11, .fa 1 (.t 2), (some (10, true)), []⟩,
  ⟨some 12, .ld (.t 11), (some (10, true)), []⟩,
  ⟨some 13, .fa 1 (.t 3), (some (10, true)), []⟩,
  ⟨some 14, .ld (.t 13), (some (10, true)), []⟩,
  ⟨some 15, .call (.f 80) [(.t 12), (.t 14)], (some (10, true)), []⟩,
  ⟨some 16, .pick (.t 10) (.t 15) (.c (.bool false)), none, []⟩,
  ⟨some 4, .mv (.t 16), none, []⟩])
 (.ret))⟩
def m30 : MFun := ⟨51, [.cell 6 (some 2), .t 7],
 .seq (.reg [
  ⟨some 3, .box 47 (.t 0), none, []⟩,
  ⟨some 6, .new [(.slice none 0 0), (.slice none 0 0)] 52, none, []⟩,
  ⟨some 7, .mv (.c (.bool false)), none, []⟩])
 (.seq (.reg [
  ⟨some 11, .lds 8 (.t 3), none, []⟩,
  ⟨some 12, .mv (.t 1), none, []⟩,
  ⟨some 13, .build [(.int .i64 0), (.slice none 0 0), (.slice none 0 0), (.slice none 0 0), (.slice none 0 0), (.slice none 0 0), (.slice none 0 0), (.slice none 0 0), (.slice none 0 0), (.bool false), (.slice none 0 0), (.slice none 0 0)] [(0, 8, (.t 11)), (8, 1, (.t 12))], none, []⟩,
  ⟨some 14, .box 124 (.t 13), none, []⟩,
  ⟨some 8, .mv (.t 14), none, []⟩])
 (.seq (.seq (.reg [
  ⟨some 9, .mv (.c (.int .i64 1)), none, []⟩])
 (.blk 0 (.loop (.seq (.seq (.reg [
  ⟨some 15, .mv (.t 9), none, []⟩,
  ⟨some 16, .mv (.t 2), none, []⟩,
  ⟨some 17, .bin .leq (.t 15) (.t 16), none, []⟩,
  ⟨some 18, .mv (.t 17), none, []⟩,
  ⟨some 19, .mv (.t 8), (some (18, true)), []⟩,
  ⟨some 20, .chk (.t 19), (some (18, true)), []⟩,
  ⟨some 21, .fa 9 (.t 20), (some (18, true)), []⟩,
  ⟨some 22, .ld (.t 21), (some (18, true)), []⟩,
  ⟨some 23, .not (.t 22), (some (18, true)), []⟩,
  ⟨some 24, .pick (.t 18) (.t 23) (.c (.bool false)), none, []⟩])
 (.ite (.t 24) (.skip)
 (.exit 0)))
 (.seq (.blk 1 (.seq (.reg [
  ⟨some 10, .mv (.c (.int .i64 0)), none, []⟩])
 (.blk 2 (.loop (.seq (.seq (.reg [
  ⟨some 27, .mv (.t 10), none, []⟩,
  ⟨some 28, .mv (.t 9), none, []⟩,
  ⟨some 29, .bin .lss (.t 27) (.t 28), none, []⟩,
  ⟨some 30, .mv (.t 29), none, []⟩,
  ⟨some 31, .mv (.t 8), (some (30, true)), []⟩,
  ⟨some 32, .chk (.t 31), (some (30, true)), []⟩,
  ⟨some 33, .fa 9 (.t 32), (some (30, true)), []⟩,
  ⟨some 34, .ld (.t 33), (some (30, true)), []⟩,
  ⟨some 35, .not (.t 34), (some (30, true)), []⟩,
  ⟨some 36, .pick (.t 30) (.t 35) (.c (.bool false)), none, []⟩])
 (.ite (.t 36) (.skip)
 (.exit 2)))
 (.seq (.blk 3 (.reg [
  ⟨some 39, .mv (.t 8), none, []⟩,
  ⟨some 40, .mv (.t 9), none, []⟩,
  ⟨some 41, .mv (.t 10), none, []⟩,
  ⟨some 42, .call (.f 81) [(.t 39), (.c (.slice none 0 0)), (.t 40), (.t 41)], none, []⟩]))
 (.reg [
  ⟨some 37, .mv (.t 10), none, []⟩,
  ⟨some 38, .bin .add (.t 37) (.c (.int .i64 1)), none, []⟩,
  ⟨some 10, .mv (.t 38), none, []⟩])))))))
 (.reg [
  ⟨some 25, .mv (.t 9), none, []⟩,
  ⟨some 26, .bin .add (.t 25) (.c (.int .i64 1)), none, []⟩,
  ⟨some 9, .mv (.t 26), none, []⟩]))))))
 (.seq (.dreg [0, 1, 2, 3, 4, 5, 6, 7, 8, 9] [
  ⟨some 43, .mv (.t 8), none, []⟩,
  ⟨some 44, .chk (.t 43), none, []⟩,
  ⟨some 45, .fa 10 (.t 44), none, []⟩,
  ⟨some 46, .lds 2 (.t 45), none, [(.t 45)]⟩,
  ⟨some 47, .mv (.t 8), none, []⟩,
  ⟨some 48, .chk (.t 47), none, []⟩,
  ⟨some 49, .fa 9 (.t 48), none, []⟩,
  ⟨some 50, .ld (.t 49), none, [(.t 49)]⟩,
  ⟨none, .st 2 (.t 6) (.t 46), none, [(.t 49)]⟩,
  ⟨some 7, .mv (.t 50), none, []⟩])
 (.ret))))⟩
def m31 : MFun := ⟨13, [.cell 2 (some 2), .t 3],
 .seq (.reg [
  ⟨some 1, .box 26 (.t 0), none, []⟩,
  ⟨some 2, .new [(.slice none 0 0), (.slice none 0 0)] 26, none, []⟩,
  ⟨some 3, .mv (.c (.int .i64 0)), none, []⟩])
 (.seq (.seq (.reg [
  ⟨some 5, .lds 2 (.t 1), none, []⟩,
  ⟨some 6, .call (.f 15) [(.t 5)], none, []⟩,
  ⟨some 4, .mv (.t 6), none, []⟩])
 (.seq (.reg [
  ⟨some 7, .mv (.t 4), none, []⟩,
  ⟨some 8, .bin .neq (.t 7) (.c (.int .i64 0)), none, []⟩])
 (.ite (.t 8) (.seq (.reg [
  ⟨some 9, .build [(.slice none 0 0), (.slice none 0 0)] [], none, []⟩,
  ⟨some 10, .mv (.t 4), none, []⟩,
  ⟨none, .st 2 (.t 2) (.t 9), none, []⟩,
  ⟨some 3, .mv (.t 10), none, []⟩])
 (.ret))
 (.skip))))
 (.seq (.reg [
  ⟨some 11, .lds 2 (.t 1), none, []⟩,
  ⟨some 12, .call (.f 82) [(.t 11)], none, []⟩,
  ⟨none, .st 2 (.t 2) (.t 12), none, []⟩,
  ⟨some 3, .mv (.c (.int .i64 0)), none, []⟩])
 (.ret)))⟩
def m32 : MFun := ⟨50, [.cell 2 (some 2), .t 3],
 .seq (.reg [
  ⟨some 1, .box 26 (.t 0), none, []⟩,
  ⟨some 2, .new [(.slice none 0 0), (.slice none 0 0)] 26, none, []⟩,
  ⟨some 3, .mv (.c (.int .i64 0)), none, []⟩])
 (.seq (.seq (.reg [
  ⟨some 8, .lds 2 (.t 1), none, []⟩,
  ⟨some 9, .call (.f 15) [(.t 8)], none, []⟩,
  ⟨some 4, .mv (.t 9), none, []⟩])
 (.seq (.reg [
  ⟨some 10, .mv (.t 4), none, []⟩,
  ⟨some 11, .bin .neq (.t 10) (.c (.int .i64 0)), none, []⟩])
 (.ite (.t 11) (.seq (.reg [
  ⟨some 12, .build [(.slice none 0 0), (.slice none 0 0)] [], none, []⟩,
  ⟨some 13, .mv (.t 4), none, []⟩,
  ⟨none, .st 2 (.t 2) (.t 12), none, []⟩,
  ⟨some 3, .mv (.t 13), none, []⟩])
 (.ret))
 (.skip))))
 (.seq (.reg [
  ⟨some 14, .fa 0 (.t 1), none, []⟩,
  ⟨some 15, .ld (.t 14), none, []⟩,
  ⟨some 16, .fa 1 (.t 1), none, []⟩,
  ⟨some 17, .ld (.t 16), none, []⟩,
  ⟨some 18, .lit 24 [(.slice none 0 0)] [(0, 1, (.t 15)), (1, 1, (.t 17))] 2, none, []⟩,
  ⟨some 19, .call (.f 84) [(.t 18)], none, []⟩,
  ⟨some 20, .call (.f 83) [(.t 19)], none, []⟩,
  ⟨some 5, .mv (.t 20), none, []⟩])
 (.seq (.reg [
  ⟨some 21, .fa 1 (.t 1), none, []⟩,
  ⟨some 22, .ld (.t 21), none, []⟩,
  ⟨some 23, .fa 1 (.t 1), none, []⟩,
  ⟨some 24, .ld (.t 23), none, []⟩,
  ⟨some 25, .len (.t 24), none, []⟩,
  ⟨some 26, .bin .sub (.t 25) (.c (.int .i64 1)), none, []⟩,
  ⟨some 27, .ia 1 (.t 22) (.t 26), none, []⟩,
  ⟨some 28, .ld (.t 27), none, []⟩,
  ⟨some 6, .mv (.t 28), none, []⟩])
 (.seq (.reg [
  ⟨some 29, .mv (.t 6), none, []⟩,
  ⟨some 30, .lit 3 [(.int .i64 0)] [(0, 1, (.t 29))] 1, none, []⟩,
  ⟨some 31, .fa 1 (.t 1), none, []⟩,
  ⟨some 32, .ld (.t 31), none, []⟩,
  ⟨some 33, .app 3 1 8 [(.int .i64 0)] (.t 30) (.t 32), none, []⟩,
  ⟨some 34, .call (.f 83) [(.t 33)], none, []⟩,
  ⟨some 35, .sl 1 (.t 34) (some (.c (.int .i64 1))) none none, none, []⟩,
  ⟨some 7, .mv (.t 35), none, []⟩])
 (.seq (.seq (.reg [
  ⟨some 36, .mv (.t 7), none, []⟩,
  ⟨some 37, .len (.t 36), none, []⟩,
  ⟨some 38, .bin .eql (.t 37) (.c (.int .i64 0)), none, []⟩])
 (.ite (.t 38) (.reg [
  ⟨some 39, .mv (.t 5), none, []⟩,
  ⟨some 40, .mv (.t 5), none, []⟩,
  ⟨some 41, .len (.t 40), none, []⟩,
  ⟨some 42, .bin .sub (.t 41) (.c (.int .i64 1)), none, []⟩,
  ⟨some 43, .sl 1 (.t 39) none (some (.t 42)) none, none, []⟩,
  ⟨some 44, .mv (.t 6), none, []⟩,
  ⟨some 45, .lit 3 [(.int .i64 0)] [(0, 1, (.t 44))] 1, none, []⟩,
  ⟨some 5, .mv (.t 43), none, []⟩,
  ⟨some 7, .mv (.t 45), none, []⟩])
 (.skip)))
 (.seq (.reg [
  ⟨some 46, .mv (.t 5), none, []⟩,
  ⟨some 47, .mv (.t 7), none, []⟩,
  ⟨some 48, .build [(.slice none 0 0), (.slice none 0 0)] [(0, 1, (.t 46)), (1, 1, (.t 47))], none, []⟩,
  ⟨some 49, .call (.f 82) [(.t 48)], none, []⟩,
  ⟨none, .st 2 (.t 2) (.t 49), none, []⟩,
  ⟨some 3, .mv (.c (.int .i64 0)), none, []⟩])
 (.ret)))))))⟩
def m33 : MFun := ⟨17, [.t 4],
 .seq (.reg [
  ⟨some 2, .box 26 (.t 0), none, []⟩,
  ⟨some 3, .box 26 (.t 1), none, []⟩,
  ⟨some 4, .mv (.c (.bool false)), none, []⟩])
 (.seq (.reg [
  ⟨some 5, .fa 0 (.t 2), none, []⟩,
  ⟨some 6, .ld (.t 5), none, []⟩,
  ⟨some 7, .fa 0 (.t 3), none, []⟩,
  ⟨some 8, .ld (.t 7), none, []⟩,
  ⟨some 9, .call (.f 80) [(.t 6), (.t 8)], none, []⟩,
  ⟨some 10, .mv (.t 9), none, []⟩,
  ⟨some 11, .fa 1 (.t 2), (some (10, true)), []⟩,
  ⟨some 12, .ld (.t 11), (some (10, true)), []⟩,
  ⟨some 13, .fa 1 (.t 3), (some (10, true)), []⟩,
  ⟨some 14, .ld (.t 13), (some (10, true)), []⟩,
  ⟨some 15, .call (.f 80) [(.t 12), (.t 14)], (some (10, true)), []⟩,
  ⟨some 16, .pick (.t 10) (.t 15) (.c (.bool false)), none, []⟩,
  ⟨some 4, .mv (.t 16), none, []⟩])
 (.ret))⟩
def m34 : MFun := ⟨91, [.cell 2 (some 2)],
 .seq (.reg [
  ⟨some 1, .box 26 (.t 0), none, []⟩,
  ⟨some 2, .new [(.slice none 0 0), (.slice none 0 0)] 26, none, []⟩])
 (.seq (.reg [
  ⟨some 9, .fa 1 (.t 1), none, []⟩,
  ⟨some 10, .ld (.t 9), none, []⟩,
  ⟨some 11, .call (.f 52) [(.t 10)], none, []⟩,
  ⟨some 3, .mv (.t 11), none, []⟩])
 (.seq (.seq (.reg [
  ⟨some 4, .mv (.c (.int .i64 1)), none, []⟩])
 (.blk 0 (.loop (.seq (.seq (.reg [
  ⟨some 12, .mv (.t 4), none, []⟩,
  ⟨some 13, .mv (.t 3), none, []⟩,
  ⟨some 14, .len (.t 13), none, []⟩,
  ⟨some 15, .bin .leq (.t 12) (.t 14), none, []⟩])
 (.ite (.t 15) (.skip)
 (.exit 0)))
 (.seq (.blk 1 (.seq (.reg [
  ⟨some 18, .mv (.t 3), none, []⟩,
  ⟨some 19, .len (.t 18), none, []⟩,
  ⟨some 20, .mv (.t 4), none, []⟩,
  ⟨some 21, .bin .rem (.t 19) (.t 20), none, []⟩,
  ⟨some 22, .bin .eql (.t 21) (.c (.int .i64 0)), none, []⟩,
  ⟨some 5, .mv (.t 22), none, []⟩])
 (.seq (.seq (.reg [
  ⟨some 23, .mv (.t 4), none, []⟩,
  ⟨some 6, .mv (.t 23), none, []⟩])
 (.blk 2 (.loop (.seq (.seq (.reg [
  ⟨some 24, .mv (.t 6), none, []⟩,
  ⟨some 25, .mv (.t 3), none, []⟩,
  ⟨some 26, .len (.t 25), none, []⟩,
  ⟨some 27, .bin .lss (.t 24) (.t 26), none, []⟩,
  ⟨some 28, .mv (.t 27), none, []⟩,
  ⟨some 29, .mv (.t 5), (some (28, true)), []⟩,
  ⟨some 30, .pick (.t 28) (.t 29) (.c (.bool false)), none, []⟩])
 (.ite (.t 30) (.skip)
 (.exit 2)))
 (.seq (.blk 3 (.dreg [0, 1, 2, 3, 4, 5, 6, 7, 8, 9, 10, 11] [
  ⟨some 33, .mv (.t 3), none, []⟩,
  ⟨some 34, .mv (.t 6), none, []⟩,
  ⟨some 35, .ia 1 (.t 33) (.t 34), none, []⟩,
  ⟨some 36, .ld (.t 35), none, [(.t 35)]⟩,
  ⟨some 37, .mv (.t 3), none, []⟩,
  ⟨some 38, .mv (.t 6), none, []⟩,
  ⟨some 39, .mv (.t 4), none, []⟩,
  ⟨some 40, .bin .sub (.t 38) (.t 39), none, []⟩,
  ⟨some 41, .ia 1 (.t 37) (.t 40), none, []⟩,
  ⟨some 42, .ld (.t 41), none, [(.t 41)]⟩,
  ⟨some 43, .bin .eql (.t 36) (.t 42), none, []⟩,
  ⟨some 5, .mv (.t 43), none, []⟩]))
 (.reg [
  ⟨some 31, .mv (.t 6), none, []⟩,
  ⟨some 32, .bin .add (.t 31) (.c (.int .i64 1)), none, []⟩,
  ⟨some 6, .mv (.t 32), none, []⟩]))))))
 (.seq (.reg [
  ⟨some 44, .mv (.t 5), none, []⟩])
 (.ite (.t 44) (.seq (.reg [
  ⟨some 45, .mv (.t 3), none, []⟩,
  ⟨some 46, .mv (.t 4), none, []⟩,
  ⟨some 47, .sl 1 (.t 45) none (some (.t 46)) none, none, []⟩,
  ⟨some 3, .mv (.t 47), none, []⟩])
 (.exit 0))
 (.skip))))))
 (.reg [
  ⟨some 16, .mv (.t 4), none, []⟩,
  ⟨some 17, .bin .add (.t 16) (.c (.int .i64 1)), none, []⟩,
  ⟨some 4, .mv (.t 17), none, []⟩]))))))
 (.seq (.reg [
  ⟨some 48, .fa 0 (.t 1), none, []⟩,
  ⟨some 49, .ld (.t 48), none, []⟩,
  ⟨some 50, .call (.f 52) [(.t 49)], none, []⟩,
  ⟨some 7, .mv (.t 50), none, []⟩])
 (.seq (.blk 4 (.loop (.seq (.seq (.dreg [0, 1, 2, 3, 4, 5, 6, 7, 8, 9, 10, 11, 12, 13, 14, 15, 16, 17] [
  ⟨some 51, .mv (.t 7), none, []⟩,
  ⟨some 52, .len (.t 51), none, []⟩,
  ⟨some 53, .bin .gtr (.t 52) (.c (.int .i64 0)), none, []⟩,
  ⟨some 54, .mv (.t 53), none, []⟩,
  ⟨some 55, .mv (.t 7), (some (54, true)), []⟩,
  ⟨some 56, .mv (.t 7), (some (54, true)), []⟩,
  ⟨some 57, .len (.t 56), (some (54, true)), []⟩,
  ⟨some 58, .bin .sub (.t 57) (.c (.int .i64 1)), (some (54, true)), []⟩,
  ⟨some 59, .ia 1 (.t 55) (.t 58), (some (54, true)), []⟩,
  ⟨some 60, .ld (.t 59), (some (54, true)), [(.t 59)]⟩,
  ⟨some 61, .mv (.t 3), (some (54, true)), []⟩,
  ⟨some 62, .mv (.t 3), (some (54, true)), []⟩,
  ⟨some 63, .len (.t 62), (some (54, true)), []⟩,
  ⟨some 64, .bin .sub (.t 63) (.c (.int .i64 1)), (some (54, true)), []⟩,
  ⟨some 65, .ia 1 (.t 61) (.t 64), (some (54, true)), []⟩,
  ⟨some 66, .ld (.t 65), (some (54, true)), [(.t 65)]⟩,
  ⟨some 67, .bin .eql (.t 60) (.t 66), (some (54, true)), []⟩,
  ⟨some 68, .pick (.t 54) (.t 67) (.c (.bool false)), none, []⟩])
 (.ite (.t 68) (.skip)
 (.exit 4)))
 (.blk 5 (.seq (.reg [
  ⟨some 69, .mv (.t 3), none, []⟩,
  ⟨some 70, .mv (.t 3), none, []⟩,
  ⟨some 71, .len (.t 70), none, []⟩,
  ⟨some 72, .bin .sub (.t 71) (.c (.int .i64 1)), none, []⟩,
  ⟨some 73, .ia 1 (.t 69) (.t 72), none, []⟩,
  ⟨some 74, .ld (.t 73), none, []⟩,
  ⟨some 8, .mv (.t 74), none, []⟩])
 (.seq (.reg [
  ⟨some 75, .mv (.t 8), none, []⟩,
  ⟨some 76, .lit 3 [(.int .i64 0)] [(0, 1, (.t 75))] 1, none, []⟩,
  ⟨some 77, .mv (.t 3), none, []⟩,
  ⟨some 78, .mv (.t 3), none, []⟩,
  ⟨some 79, .len (.t 78), none, []⟩,
  ⟨some 80, .bin .sub (.t 79) (.c (.int .i64 1)), none, []⟩,
  ⟨some 81, .sl 1 (.t 77) none (some (.t 80)) none, none, []⟩,
  ⟨some 82, .app 3 1 8 [(.int .i64 0)] (.t 76) (.t 81), none, []⟩,
  ⟨some 3, .mv (.t 82), none, []⟩])
 (.reg [
  ⟨some 83, .mv (.t 7), none, []⟩,
  ⟨some 84, .mv (.t 7), none, []⟩,
  ⟨some 85, .len (.t 84), none, []⟩,
  ⟨some 86, .bin .sub (.t 85) (.c (.int .i64 1)), none, []⟩,
  ⟨some 87, .sl 1 (.t 83) none (some (.t 86)) none, none, []⟩,
  ⟨some 7, .mv (.t 87), none, []⟩])))))))
 (.seq (.reg [
  ⟨some 88, .mv (.t 7), none, []⟩,
  ⟨some 89, .mv (.t 3), none, []⟩,
  ⟨some 90, .build [(.slice none 0 0), (.slice none 0 0)] [(0, 1, (.t 88)), (1, 1, (.t 89))], none, []⟩,
  ⟨none, .st 2 (.t 2) (.t 90), none, []⟩])
 (.ret))))))⟩
def m35 : MFun := ⟨91, [.cell 2 (some 2)],
 .seq (.reg [
  ⟨some 1, .box 26 (.t 0), none, []⟩,
  ⟨some 2, .new [(.slice none 0 0), (.slice none 0 0)] 26, none, []⟩])
 (.seq (.reg [
  ⟨some 8, .lds 2 (.t 1), none, []⟩,
  ⟨some 9, .call (.f 34) [(.t 8)], none, []⟩,
  ⟨some 3, .new [(.slice none 0 0), (.slice none 0 0)] 26, none, []⟩,
  ⟨none, .st 2 (.t 3) (.t 9), none, []⟩])
 (.seq (.seq (.reg [
  ⟨some 10, .fa 1 (.t 3), none, []⟩,
  ⟨some 11, .ld (.t 10), none, []⟩,
  ⟨some 12, .len (.t 11), none, []⟩,
  ⟨some 13, .bin .eql (.t 12) (.c (.int .i64 1)), none, []⟩])
 (.ite (.t 13) (.seq (.dreg [0, 1, 3, 4, 2, 5, 6, 7] [
  ⟨some 14, .fa 0 (.t 3), none, []⟩,
  ⟨some 15, .ld (.t 14), none, [(.t 14)]⟩,
  ⟨some 17, .fa 1 (.t 3), none, []⟩,
  ⟨some 18, .ld (.t 17), none, [(.t 17)]⟩,
  ⟨some 16, .call (.f 85) [(.t 15)], none, [(.t 17)]⟩,
  ⟨some 19, .build [(.slice none 0 0), (.slice none 0 0)] [(0, 1, (.t 16)), (1, 1, (.t 18))], none, []⟩,
  ⟨some 20, .call (.f 34) [(.t 19)], none, []⟩,
  ⟨none, .st 2 (.t 2) (.t 20), none, []⟩])
 (.ret))
 (.skip)))
 (.seq (.reg [
  ⟨some 4, .mv (.c (.slice none 0 0)), none, []⟩])
 (.seq (.seq (.reg [
  ⟨some 5, .mv (.c (.int .i64 0)), none, []⟩])
 (.blk 0 (.loop (.seq (.seq (.reg [
  ⟨some 21, .mv (.t 5), none, []⟩,
  ⟨some 22, .fa 1 (.t 3), none, []⟩,
  ⟨some 23, .ld (.t 22), none, []⟩,
  ⟨some 24, .len (.t 23), none, []⟩,
  ⟨some 25, .bin .lss (.t 21) (.t 24), none, []⟩])
 (.ite (.t 25) (.skip)
 (.exit 0)))
 (.seq (.blk 1 (.seq (.dreg [0, 1, 2, 3, 4, 5, 6, 7, 8, 9, 10, 11, 12, 13, 14] [
  ⟨some 28, .fa 1 (.t 3), none, []⟩,
  ⟨some 29, .ld (.t 28), none, [(.t 28)]⟩,
  ⟨some 30, .mv (.t 5), none, []⟩,
  ⟨some 31, .fa 1 (.t 3), none, []⟩,
  ⟨some 32, .ld (.t 31), none, [(.t 31)]⟩,
  ⟨some 33, .len (.t 32), none, []⟩,
  ⟨some 34, .bin .add (.t 30) (.t 33), none, []⟩,
  ⟨some 35, .bin .sub (.t 34) (.c (.int .i64 1)), none, []⟩,
  ⟨some 36, .fa 1 (.t 3), none, []⟩,
  ⟨some 37, .ld (.t 36), none, [(.t 36)]⟩,
  ⟨some 38, .len (.t 37), none, []⟩,
  ⟨some 39, .bin .rem (.t 35) (.t 38), none, []⟩,
  ⟨some 40, .ia 1 (.t 29) (.t 39), none, []⟩,
  ⟨some 41, .ld (.t 40), none, [(.t 40)]⟩,
  ⟨some 6, .mv (.t 41), none, []⟩])
 (.seq (.reg [
  ⟨some 42, .fa 1 (.t 3), none, []⟩,
  ⟨some 43, .ld (.t 42), none, []⟩,
  ⟨some 44, .mv (.t 5), none, []⟩,
  ⟨some 45, .ia 1 (.t 43) (.t 44), none, []⟩,
  ⟨some 46, .ld (.t 45), none, []⟩,
  ⟨some 47, .mv (.t 6), none, []⟩,
  ⟨some 48, .bin .neq (.t 46) (.t 47), none, []⟩])
 (.ite (.t 48) (.reg [
  ⟨some 49, .mv (.t 4), none, []⟩,
  ⟨some 50, .fa 1 (.t 3), none, []⟩,
  ⟨some 51, .ld (.t 50), none, []⟩,
  ⟨some 52, .mv (.t 5), none, []⟩,
  ⟨some 53, .ia 1 (.t 51) (.t 52), none, []⟩,
  ⟨some 54, .ld (.t 53), none, []⟩,
  ⟨some 55, .lit 3 [(.int .i64 0)] [(0, 1, (.t 54))] 1, none, []⟩,
  ⟨some 56, .app 3 1 8 [(.int .i64 0)] (.t 49) (.t 55), none, []⟩,
  ⟨some 4, .mv (.t 56), none, []⟩])
 (.skip)))))
 (.reg [
  ⟨some 26, .mv (.t 5), none, []⟩,
  ⟨some 27, .bin .add (.t 26) (.c (.int .i64 1)), none, []⟩,
  ⟨some 5, .mv (.t 27), none, []⟩]))))))
 (.seq (.dreg [0, 1, 3, 4, 2, 5, 6, 7] [
  ⟨some 57, .fa 0 (.t 3), none, []⟩,
  ⟨some 58, .ld (.t 57), none, [(.t 57)]⟩,
  ⟨some 60, .fa 1 (.t 3), none, []⟩,
  ⟨some 61, .ld (.t 60), none, [(.t 60)]⟩,
  ⟨some 59, .call (.f 52) [(.t 58)], none, [(.t 60)]⟩,
  ⟨some 62, .app 3 1 8 [(.int .i64 0)] (.t 59) (.t 61), none, []⟩,
  ⟨some 63, .call (.f 85) [(.t 62)], none, []⟩,
  ⟨some 7, .mv (.t 63), none, []⟩])
 (.seq (.blk 2 (.loop (.seq (.seq (.dreg [0, 1, 2, 3, 4, 5, 6, 7, 8, 9, 10, 11, 12, 13, 14, 15, 16, 17] [
  ⟨some 64, .mv (.t 7), none, []⟩,
  ⟨some 65, .len (.t 64), none, []⟩,
  ⟨some 66, .bin .gtr (.t 65) (.c (.int .i64 0)), none, []⟩,
  ⟨some 67, .mv (.t 66), none, []⟩,
  ⟨some 68, .mv (.t 7), (some (67, true)), []⟩,
  ⟨some 69, .mv (.t 7), (some (67, true)), []⟩,
  ⟨some 70, .len (.t 69), (some (67, true)), []⟩,
  ⟨some 71, .bin .sub (.t 70) (.c (.int .i64 1)), (some (67, true)), []⟩,
  ⟨some 72, .ia 1 (.t 68) (.t 71), (some (67, true)), []⟩,
  ⟨some 73, .ld (.t 72), (some (67, true)), [(.t 72)]⟩,
  ⟨some 74, .mv (.t 4), (some (67, true)), []⟩,
  ⟨some 75, .mv (.t 4), (some (67, true)), []⟩,
  ⟨some 76, .len (.t 75), (some (67, true)), []⟩,
  ⟨some 77, .bin .sub (.t 76) (.c (.int .i64 1)), (some (67, true)), []⟩,
  ⟨some 78, .ia 1 (.t 74) (.t 77), (some (67, true)), []⟩,
  ⟨some 79, .ld (.t 78), (some (67, true)), [(.t 78)]⟩,
  ⟨some 80, .bin .neq (.t 73) (.t 79), (some (67, true)), []⟩,
  ⟨some 81, .pick (.t 67) (.t 80) (.c (.bool false)), none, []⟩])
 (.ite (.t 81) (.skip)
 (.exit 2)))
 (.blk 3 (.reg [
  ⟨some 82, .mv (.t 7), none, []⟩,
  ⟨some 83, .mv (.t 7), none, []⟩,
  ⟨some 84, .len (.t 83), none, []⟩,
  ⟨some 85, .bin .sub (.t 84) (.c (.int .i64 1)), none, []⟩,
  ⟨some 86, .sl 1 (.t 82) none (some (.t 85)) none, none, []⟩,
  ⟨some 7, .mv (.t 86), none, []⟩])))))
 (.seq (.reg [
  ⟨some 87, .mv (.t 7), none, []⟩,
  ⟨some 88, .mv (.t 4), none, []⟩,
  ⟨some 89, .build [(.slice none 0 0), (.slice none 0 0)] [(0, 1, (.t 87)), (1, 1, (.t 88))], none, []⟩,
  ⟨some 90, .call (.f 34) [(.t 89)], none, []⟩,
  ⟨none, .st 2 (.t 2) (.t 90), none, []⟩])
 (.ret))))))))⟩
def m36 : MFun := ⟨9, [.t 4],
 .seq (.reg [
  ⟨some 4, .mv (.c (.slice none 0 0)), none, []⟩])
 (.seq (.reg [
  ⟨some 5, .mv (.t 0), none, []⟩,
  ⟨some 6, .mv (.t 1), none, []⟩,
  ⟨some 7, .lit 23 [(.slice none 0 0)] [(0, 1, (.t 6))] 1, none, []⟩,
  ⟨some 8, .call (.f 38) [(.t 5), (.t 7)], none, []⟩,
  ⟨some 4, .mv (.t 8), none, []⟩])
 (.ret))⟩
def m37 : MFun := ⟨6, [.t 2],
 .seq (.reg [
  ⟨some 2, .mv (.c (.slice none 0 0)), none, []⟩])
 (.seq (.reg [
  ⟨some 3, .mv (.t 0), none, []⟩,
  ⟨some 4, .lit 23 [(.slice none 0 0)] [(0, 1, (.t 3))] 1, none, []⟩,
  ⟨some 5, .call (.f 38) [(.c (.int .i64 2)), (.t 4)], none, []⟩,
  ⟨some 2, .mv (.t 5), none, []⟩])
 (.ret))⟩
def m38 : MFun := ⟨72, [.t 4],
 .seq (.reg [
  ⟨some 4, .mv (.c (.slice none 0 0)), none, []⟩])
 (.seq (.reg [
  ⟨some 5, .mv (.c (.slice none 0 0)), none, []⟩])
 (.seq (.reg [
  ⟨some 6, .mv (.c (.slice none 0 0)), none, []⟩])
 (.seq (.seq (.reg [
  ⟨some 7, .mv (.c (.int .i64 0)), none, []⟩])
 (.blk 0 (.loop (.seq (.seq (.reg [
  ⟨some 13, .mv (.t 7), none, []⟩,
  ⟨some 14, .mv (.t 1), none, []⟩,
  ⟨some 15, .len (.t 14), none, []⟩,
  ⟨some 16, .bin .lss (.t 13) (.t 15), none, []⟩])
 (.ite (.t 16) (.skip)
 (.exit 0)))
 (.seq (.blk 1 (.seq (.reg [
  ⟨some 19, .mv (.t 5), none, []⟩,
  ⟨some 20, .len (.t 19), none, []⟩,
  ⟨some 8, .mv (.t 20), none, []⟩])
 (.seq (.seq (.reg [
  ⟨some 9, .mv (.c (.int .i64 0)), none, []⟩])
 (.blk 2 (.loop (.seq (.seq (.reg [
  ⟨some 21, .mv (.t 9), none, []⟩,
  ⟨some 22, .mv (.t 1), none, []⟩,
  ⟨some 23, .mv (.t 7), none, []⟩,
  ⟨some 24, .ia 1 (.t 22) (.t 23), none, []⟩,
  ⟨some 25, .ld (.t 24), none, []⟩,
  ⟨some 26, .len (.t 25), none, []⟩,
  ⟨some 27, .bin .lss (.t 21) (.t 26), none, []⟩])
 (.ite (.t 27) (.skip)
 (.exit 2)))
 (.seq (.blk 3 (.seq (.reg [
  ⟨some 30, .mv (.t 1), none, []⟩,
  ⟨some 31, .mv (.t 7), none, []⟩,
  ⟨some 32, .ia 1 (.t 30) (.t 31), none, []⟩,
  ⟨some 33, .ld (.t 32), none, []⟩,
  ⟨some 34, .mv (.t 9), none, []⟩,
  ⟨some 35, .ia 3 (.t 33) (.t 34), none, []⟩,
  ⟨some 36, .lds 3 (.t 35), none, []⟩,
  ⟨some 10, .new [(.int .i64 0), (.int .i64 0), (.slice none 0 0)] 67, none, []⟩,
  ⟨none, .st 3 (.t 10) (.t 36), none, []⟩])
 (.seq (.reg [
  ⟨some 11, .mv (.c (.slice none 0 0)), none, []⟩])
 (.seq (.seq (.reg [
  ⟨some 12, .mv (.c (.int .i64 0)), none, []⟩])
 (.blk 4 (.loop (.seq (.seq (.reg [
  ⟨some 37, .mv (.t 12), none, []⟩,
  ⟨some 38, .fa 2 (.t 10), none, []⟩,
  ⟨some 39, .ld (.t 38), none, []⟩,
  ⟨some 40, .len (.t 39), none, []⟩,
  ⟨some 41, .bin .lss (.t 37) (.t 40), none, []⟩])
 (.ite (.t 41) (.skip)
 (.exit 4)))
 (.seq (.blk 5 (.reg [
  ⟨some 44, .mv (.t 11), none, []⟩,
  ⟨some 45, .fa 2 (.t 10), none, []⟩,
  ⟨some 46, .ld (.t 45), none, []⟩,
  ⟨some 47, .mv (.t 12), none, []⟩,
  ⟨some 48, .ia 1 (.t 46) (.t 47), none, []⟩,
  ⟨some 49, .ld (.t 48), none, []⟩,
  ⟨some 50, .mv (.t 8), none, []⟩,
  ⟨some 51, .bin .add (.t 49) (.t 50), none, []⟩,
  ⟨some 52, .lit 3 [(.int .i64 0)] [(0, 1, (.t 51))] 1, none, []⟩,
  ⟨some 53, .app 3 1 8 [(.int .i64 0)] (.t 44) (.t 52), none, []⟩,
  ⟨some 11, .mv (.t 53), none, []⟩]))
 (.reg [
  ⟨some 42, .mv (.t 12), none, []⟩,
  ⟨some 43, .bin .add (.t 42) (.c (.int .i64 1)), none, []⟩,
  ⟨some 12, .mv (.t 43), none, []⟩]))))))
 (.seq (.reg [
  ⟨some 54, .mv (.t 11), none, []⟩,
  ⟨some 55, .fa 2 (.t 10), none, []⟩,
  ⟨none, .st 1 (.t 55) (.t 54), none, []⟩])
 (.reg [
  ⟨some 56, .mv (.t 5), none, []⟩,
  ⟨some 57, .lds 3 (.t 10), none, []⟩,
  ⟨some 58, .lit 67 [(.int .i64 0), (.int .i64 0), (.slice none 0 0)] [(0, 3, (.t 57))] 1, none, []⟩,
  ⟨some 59, .app 67 3 40 [(.int .i64 0), (.int .i64 0), (.slice none 0 0)] (.t 56) (.t 58), none, []⟩,
  ⟨some 5, .mv (.t 59), none, []⟩]))))))
 (.reg [
  ⟨some 28, .mv (.t 9), none, []⟩,
  ⟨some 29, .bin .add (.t 28) (.c (.int .i64 1)), none, []⟩,
  ⟨some 9, .mv (.t 29), none, []⟩]))))))
 (.reg [
  ⟨some 60, .mv (.t 6), none, []⟩,
  ⟨some 61, .mv (.t 5), none, []⟩,
  ⟨some 62, .len (.t 61), none, []⟩,
  ⟨some 63, .bin .sub (.t 62) (.c (.int .i64 1)), none, []⟩,
  ⟨some 64, .lit 3 [(.int .i64 0)] [(0, 1, (.t 63))] 1, none, []⟩,
  ⟨some 65, .app 3 1 8 [(.int .i64 0)] (.t 60) (.t 64), none, []⟩,
  ⟨some 6, .mv (.t 65), none, []⟩]))))
 (.reg [
  ⟨some 17, .mv (.t 7), none, []⟩,
  ⟨some 18, .bin .add (.t 17) (.c (.int .i64 1)), none, []⟩,
  ⟨some 7, .mv (.t 18), none, []⟩]))))))
 (.seq (.reg [
  ⟨some 66, .mv (.t 5), none, []⟩,
  ⟨some 67, .mv (.t 0), none, []⟩,
  ⟨some 68, .mv (.t 6), none, []⟩,
  ⟨some 69, .build [(.int .i64 0), (.int .i64 0), (.slice none 0 0)] [(0, 1, (.t 67)), (2, 1, (.t 68))], none, []⟩,
  ⟨some 70, .lit 67 [(.int .i64 0), (.int .i64 0), (.slice none 0 0)] [(0, 3, (.t 69))] 1, none, []⟩,
  ⟨some 71, .app 67 3 40 [(.int .i64 0), (.int .i64 0), (.slice none 0 0)] (.t 66) (.t 70), none, []⟩,
  ⟨some 4, .mv (.t 71), none, []⟩])
 (.ret)))))⟩
def m39 : MFun := ⟨140, [.t 2, .t 3],
 .seq (.reg [
  ⟨some 1, .box 47 (.t 0), none, []⟩,
  ⟨some 2, .mv (.c (.int .i64 0)), none, []⟩,
  ⟨some 3, .mv (.c (.int .i64 0)), none, []⟩])
 (.seq (.reg [
  ⟨some 15, .fa 3 (.t 1), none, []⟩,
  ⟨some 16, .ld (.t 15), none, []⟩,
  ⟨some 17, .len (.t 16), none, []⟩,
  ⟨some 18, .fa 0 (.t 1), none, []⟩,
  ⟨some 19, .fa 0 (.t 18), none, []⟩,
  ⟨some 20, .ld (.t 19), none, []⟩,
  ⟨some 21, .bin .neq (.t 17) (.t 20), none, []⟩,
  ⟨some 22, .mv (.t 21), none, []⟩,
  ⟨some 23, .fa 4 (.t 1), (some (22, false)), []⟩,
  ⟨some 24, .ld (.t 23), (some (22, false)), []⟩,
  ⟨some 25, .len (.t 24), (some (22, false)), []⟩,
  ⟨some 26, .fa 5 (.t 1), (some (22, false)), []⟩,
  ⟨some 27, .ld (.t 26), (some (22, false)), []⟩,
  ⟨some 28, .len (.t 27), (some (22, false)), []⟩,
  ⟨some 29, .bin .neq (.t 25) (.t 28), (some (22, false)), []⟩,
  ⟨some 30, .pick (.t 22) (.c (.bool true)) (.t 29), none, []⟩,
  ⟨some 31, .mv (.t 30), none, []⟩,
  ⟨some 32, .fa 4 (.t 1), (some (31, false)), []⟩,
  ⟨some 33, .ld (.t 32), (some (31, false)), []⟩,
  ⟨some 34, .len (.t 33), (some (31, false)), []⟩,
  ⟨some 35, .bin .gtr (.t 34) (.c (.int .i64 12)), (some (31, false)), []⟩,
  ⟨some 36, .pick (.t 31) (.c (.bool true)) (.t 35), none, []⟩,
  ⟨some 4, .mv (.t 36), none, []⟩])
 (.seq (.seq (.dreg [0, 1, 5, 6, 7, 8, 10, 2, 3, 4, 9, 11, 12, 13, 14] [
  ⟨some 37, .fa 0 (.t 1), none, []⟩,
  ⟨some 38, .lds 3 (.t 37), none, [(.t 37)]⟩,
  ⟨some 42, .fa 0 (.t 1), none, []⟩,
  ⟨some 43, .fa 0 (.t 42), none, []⟩,
  ⟨some 44, .ld (.t 43), none, [(.t 43)]⟩,
  ⟨some 45, .bin .gtr (.t 44) (.c (.int .i64 60)), none, []⟩,
  ⟨some 47, .mv (.t 4), none, []⟩,
  ⟨some 39, .call (.f 86) [(.t 38)], none, [(.t 43)]⟩,
  ⟨some 40, .not (.t 39), none, []⟩,
  ⟨some 41, .call (.f 67) [(.t 40), (.c (.int .i64 5))], none, [(.t 43)]⟩,
  ⟨some 46, .call (.f 67) [(.t 45), (.c (.int .i64 2))], none, []⟩,
  ⟨some 48, .call (.f 67) [(.t 47), (.c (.int .i64 6))], none, []⟩,
  ⟨some 49, .lit 30 [(.int .i64 0)] [(0, 1, (.t 41)), (1, 1, (.t 46)), (2, 1, (.t 48))] 3, none, []⟩,
  ⟨some 50, .call (.f 66) [(.t 49)], none, []⟩,
  ⟨some 5, .mv (.t 50), none, []⟩])
 (.seq (.reg [
  ⟨some 51, .mv (.t 5), none, []⟩,
  ⟨some 52, .bin .neq (.t 51) (.c (.int .i64 0)), none, []⟩])
 (.ite (.t 52) (.seq (.reg [
  ⟨some 53, .mv (.t 5), none, []⟩,
  ⟨some 2, .mv (.c (.int .i64 0)), none, []⟩,
  ⟨some 3, .mv (.t 53), none, []⟩])
 (.ret))
 (.skip))))
 (.seq (.seq (.reg [
  ⟨some 54, .fa 3 (.t 1), none, []⟩,
  ⟨some 55, .ld (.t 54), none, []⟩,
  ⟨some 56, .len (.t 55), none, []⟩,
  ⟨some 57, .mv (.c (.int .i64 0)), none, []⟩])
 (.blk 0 (.loop (.seq (.reg [
  ⟨some 58, .bin .lss (.t 57) (.t 56), none, []⟩])
 (.seq (.ite (.t 58) (.skip)
 (.exit 0))
 (.seq (.blk 1 (.seq (.reg [
  ⟨some 59, .mv (.t 57), none, []⟩,
  ⟨some 60, .ia 1 (.t 55) (.t 57), none, []⟩,
  ⟨some 61, .ld (.t 60), none, []⟩,
  ⟨some 6, .mv (.t 59), none, []⟩,
  ⟨some 7, .mv (.t 61), none, []⟩])
 (.seq (.reg [
  ⟨some 62, .mv (.t 7), none, []⟩,
  ⟨some 63, .call (.f 65) [(.t 62), (.c (.int .i64 0)), (.c (.int .i64 4095))], none, []⟩,
  ⟨some 64, .not (.t 63), none, []⟩])
 (.ite (.t 64) (.seq (.reg [
  ⟨some 65, .mv (.t 6), none, []⟩,
  ⟨some 2, .mv (.t 65), none, []⟩,
  ⟨some 3, .mv (.c (.int .i64 3)), none, []⟩])
 (.ret))
 (.skip)))))
 (.reg [
  ⟨some 66, .bin .add (.t 57) (.c (.int .i64 1)), none, []⟩,
  ⟨some 57, .mv (.t 66), none, []⟩])))))))
 (.seq (.seq (.reg [
  ⟨some 67, .fa 4 (.t 1), none, []⟩,
  ⟨some 68, .ld (.t 67), none, []⟩,
  ⟨some 69, .len (.t 68), none, []⟩,
  ⟨some 70, .mv (.c (.int .i64 0)), none, []⟩])
 (.blk 2 (.loop (.seq (.reg [
  ⟨some 71, .bin .lss (.t 70) (.t 69), none, []⟩])
 (.seq (.ite (.t 71) (.skip)
 (.exit 2))
 (.seq (.blk 3 (.seq (.reg [
  ⟨some 72, .mv (.t 70), none, []⟩,
  ⟨some 8, .mv (.t 72), none, []⟩])
 (.seq (.reg [
  ⟨some 73, .fa 4 (.t 1), none, []⟩,
  ⟨some 74, .ld (.t 73), none, []⟩,
  ⟨some 75, .mv (.t 8), none, []⟩,
  ⟨some 76, .ia 1 (.t 74) (.t 75), none, []⟩,
  ⟨some 77, .ld (.t 76), none, []⟩,
  ⟨some 78, .call (.f 65) [(.t 77), (.c (.int .i64 (-1))), (.c (.int .i64 11))], none, []⟩,
  ⟨some 79, .not (.t 78), none, []⟩,
  ⟨some 80, .mv (.t 79), none, []⟩,
  ⟨some 81, .fa 5 (.t 1), (some (80, false)), []⟩,
  ⟨some 82, .ld (.t 81), (some (80, false)), []⟩,
  ⟨some 83, .mv (.t 8), (some (80, false)), []⟩,
  ⟨some 84, .ia 1 (.t 82) (.t 83), (some (80, false)), []⟩,
  ⟨some 85, .ld (.t 84), (some (80, false)), []⟩,
  ⟨some 86, .call (.f 65) [(.t 85), (.c (.int .i64 (-1))), (.c (.int .i64 11))], (some (80, false)), []⟩,
  ⟨some 87, .not (.t 86), (some (80, false)), []⟩,
  ⟨some 88, .pick (.t 80) (.c (.bool true)) (.t 87), none, []⟩])
 (.ite (.t 88) (.seq (.reg [
  ⟨some 89, .mv (.t 8), none, []⟩,
  ⟨some 2, .mv (.t 89), none, []⟩,
  ⟨some 3, .mv (.c (.int .i64 3)), none, []⟩])
 (.ret))
 (.skip)))))
 (.reg [
  ⟨some 90, .bin .add (.t 70) (.c (.int .i64 1)), none, []⟩,
  ⟨some 70, .mv (.t 90), none, []⟩])))))))
 (.seq (.seq (.reg [
  ⟨some 91, .fa 0 (.t 1), none, []⟩,
  ⟨some 92, .fa 2 (.t 91), none, []⟩,
  ⟨some 93, .ld (.t 92), none, []⟩,
  ⟨some 94, .len (.t 93), none, []⟩,
  ⟨some 95, .mv (.c (.int .i64 0)), none, []⟩])
 (.blk 4 (.loop (.seq (.reg [
  ⟨some 96, .bin .lss (.t 95) (.t 94), none, []⟩])
 (.seq (.ite (.t 96) (.skip)
 (.exit 4))
 (.seq (.blk 5 (.seq (.reg [
  ⟨some 97, .mv (.t 95), none, []⟩,
  ⟨some 98, .ia 3 (.t 93) (.t 95), none, []⟩,
  ⟨some 99, .lds 3 (.t 98), none, []⟩,
  ⟨some 10, .new [(.int .i64 0), (.int .i64 0), (.int .i64 0)] 129, none, []⟩,
  ⟨some 9, .mv (.t 97), none, []⟩,
  ⟨none, .st 3 (.t 10) (.t 99), none, []⟩])
 (.seq (.reg [
  ⟨some 100, .fa 2 (.t 10), none, []⟩,
  ⟨some 101, .ld (.t 100), none, []⟩,
  ⟨some 102, .fa 4 (.t 1), none, []⟩,
  ⟨some 103, .ld (.t 102), none, []⟩,
  ⟨some 104, .len (.t 103), none, []⟩,
  ⟨some 105, .bin .geq (.t 101) (.t 104), none, []⟩])
 (.ite (.t 105) (.seq (.reg [
  ⟨some 106, .mv (.t 9), none, []⟩,
  ⟨some 2, .mv (.t 106), none, []⟩,
  ⟨some 3, .mv (.c (.int .i64 10)), none, []⟩])
 (.ret))
 (.skip)))))
 (.reg [
  ⟨some 107, .bin .add (.t 95) (.c (.int .i64 1)), none, []⟩,
  ⟨some 95, .mv (.t 107), none, []⟩])))))))
 (.seq (.seq (.reg [
  ⟨some 108, .fa 6 (.t 1), none, []⟩,
  ⟨some 109, .ld (.t 108), none, []⟩,
  ⟨some 110, .fa 7 (.t 1), none, []⟩,
  ⟨some 111, .ld (.t 110), none, []⟩,
  ⟨some 112, .lit 24 [(.slice none 0 0)] [(0, 1, (.t 109)), (1, 1, (.t 111))] 2, none, []⟩,
  ⟨some 113, .len (.t 112), none, []⟩,
  ⟨some 114, .mv (.c (.int .i64 0)), none, []⟩])
 (.blk 6 (.loop (.seq (.reg [
  ⟨some 115, .bin .lss (.t 114) (.t 113), none, []⟩])
 (.seq (.ite (.t 115) (.skip)
 (.exit 6))
 (.seq (.blk 7 (.seq (.reg [
  ⟨some 116, .ia 1 (.t 112) (.t 114), none, []⟩,
  ⟨some 117, .ld (.t 116), none, []⟩,
  ⟨some 12, .mv (.t 117), none, []⟩])
 (.seq (.reg [
  ⟨some 119, .mv (.t 12), none, []⟩,
  ⟨some 120, .fa 4 (.t 1), none, []⟩,
  ⟨some 121, .ld (.t 120), none, []⟩,
  ⟨some 122, .len (.t 121), none, []⟩,
  ⟨some 123, .call (.f 87) [(.t 119), (.t 122)], none, []⟩,
  ⟨some 118, .mv (.t 123), none, []⟩,
  ⟨some 124, .ext (.t 118) 0, none, []⟩,
  ⟨some 125, .ext (.t 118) 1, none, []⟩,
  ⟨some 13, .mv (.t 124), none, []⟩,
  ⟨some 14, .mv (.t 125), none, []⟩])
 (.seq (.reg [
  ⟨some 126, .mv (.t 14), none, []⟩,
  ⟨some 127, .bin .neq (.t 126) (.c (.int .i64 0)), none, []⟩])
 (.ite (.t 127) (.seq (.reg [
  ⟨some 128, .mv (.t 13), none, []⟩,
  ⟨some 129, .mv (.t 14), none, []⟩,
  ⟨some 2, .mv (.t 128), none, []⟩,
  ⟨some 3, .mv (.t 129), none, []⟩])
 (.ret))
 (.skip))))))
 (.reg [
  ⟨some 130, .bin .add (.t 114) (.c (.int .i64 1)), none, []⟩,
  ⟨some 114, .mv (.t 130), none, []⟩])))))))
 (.seq (.reg [
  ⟨some 131, .fa 6 (.t 1), none, []⟩,
  ⟨some 132, .ld (.t 131), none, []⟩,
  ⟨some 133, .len (.t 132), none, []⟩,
  ⟨some 134, .fa 7 (.t 1), none, []⟩,
  ⟨some 135, .ld (.t 134), none, []⟩,
  ⟨some 136, .len (.t 135), none, []⟩,
  ⟨some 137, .bin .add (.t 133) (.t 136), none, []⟩,
  ⟨some 138, .bin .gtr (.t 137) (.c (.int .i64 6)), none, []⟩,
  ⟨some 139, .call (.f 67) [(.t 138), (.c (.int .i64 2))], none, []⟩,
  ⟨some 2, .mv (.c (.int .i64 0)), none, []⟩,
  ⟨some 3, .mv (.t 139), none, []⟩])
 (.ret))))))))⟩
def m40 : MFun := ⟨130, [.t 2, .t 3],
 .seq (.reg [
  ⟨some 1, .box 47 (.t 0), none, []⟩,
  ⟨some 2, .mv (.c (.int .i64 0)), none, []⟩,
  ⟨some 3, .mv (.c (.int .i64 0)), none, []⟩])
 (.seq (.seq (.reg [
  ⟨some 11, .fa 0 (.t 1), none, []⟩,
  ⟨some 12, .lds 3 (.t 11), none, []⟩,
  ⟨some 13, .call (.f 88) [(.t 12)], none, []⟩,
  ⟨some 14, .not (.t 13), none, []⟩])
 (.ite (.t 14) (.seq (.reg [
  ⟨some 2, .mv (.c (.int .i64 0)), none, []⟩,
  ⟨some 3, .mv (.c (.int .i64 5)), none, []⟩])
 (.ret))
 (.skip)))
 (.seq (.seq (.reg [
  ⟨some 15, .fa 0 (.t 1), none, []⟩,
  ⟨some 16, .fa 0 (.t 15), none, []⟩,
  ⟨some 17, .ld (.t 16), none, []⟩,
  ⟨some 18, .bin .gtr (.t 17) (.c (.int .i64 60)), none, []⟩])
 (.ite (.t 18) (.seq (.reg [
  ⟨some 2, .mv (.c (.int .i64 0)), none, []⟩,
  ⟨some 3, .mv (.c (.int .i64 2)), none, []⟩])
 (.ret))
 (.skip)))
 (.seq (.seq (.reg [
  ⟨some 19, .fa 3 (.t 1), none, []⟩,
  ⟨some 20, .ld (.t 19), none, []⟩,
  ⟨some 21, .len (.t 20), none, []⟩,
  ⟨some 22, .fa 0 (.t 1), none, []⟩,
  ⟨some 23, .fa 0 (.t 22), none, []⟩,
  ⟨some 24, .ld (.t 23), none, []⟩,
  ⟨some 25, .bin .neq (.t 21) (.t 24), none, []⟩,
  ⟨some 26, .mv (.t 25), none, []⟩,
  ⟨some 27, .fa 4 (.t 1), (some (26, false)), []⟩,
  ⟨some 28, .ld (.t 27), (some (26, false)), []⟩,
  ⟨some 29, .len (.t 28), (some (26, false)), []⟩,
  ⟨some 30, .fa 5 (.t 1), (some (26, false)), []⟩,
  ⟨some 31, .ld (.t 30), (some (26, false)), []⟩,
  ⟨some 32, .len (.t 31), (some (26, false)), []⟩,
  ⟨some 33, .bin .neq (.t 29) (.t 32), (some (26, false)), []⟩,
  ⟨some 34, .pick (.t 26) (.c (.bool true)) (.t 33), none, []⟩,
  ⟨some 35, .mv (.t 34), none, []⟩,
  ⟨some 36, .fa 4 (.t 1), (some (35, false)), []⟩,
  ⟨some 37, .ld (.t 36), (some (35, false)), []⟩,
  ⟨some 38, .len (.t 37), (some (35, false)), []⟩,
  ⟨some 39, .bin .gtr (.t 38) (.c (.int .i64 12)), (some (35, false)), []⟩,
  ⟨some 40, .pick (.t 35) (.c (.bool true)) (.t 39), none, []⟩])
 (.ite (.t 40) (.seq (.reg [
  ⟨some 2, .mv (.c (.int .i64 0)), none, []⟩,
  ⟨some 3, .mv (.c (.int .i64 6)), none, []⟩])
 (.ret))
 (.skip)))
 (.seq (.seq (.reg [
  ⟨some 4, .mv (.c (.int .i64 0)), none, []⟩])
 (.blk 0 (.loop (.seq (.seq (.reg [
  ⟨some 41, .mv (.t 4), none, []⟩,
  ⟨some 42, .fa 3 (.t 1), none, []⟩,
  ⟨some 43, .ld (.t 42), none, []⟩,
  ⟨some 44, .len (.t 43), none, []⟩,
  ⟨some 45, .bin .lss (.t 41) (.t 44), none, []⟩])
 (.ite (.t 45) (.skip)
 (.exit 0)))
 (.seq (.blk 1 (.seq (.reg [
  ⟨some 48, .fa 3 (.t 1), none, []⟩,
  ⟨some 49, .ld (.t 48), none, []⟩,
  ⟨some 50, .mv (.t 4), none, []⟩,
  ⟨some 51, .ia 1 (.t 49) (.t 50), none, []⟩,
  ⟨some 52, .ld (.t 51), none, []⟩,
  ⟨some 53, .call (.f 26) [(.t 52), (.c (.int .i64 0)), (.c (.int .i64 4095))], none, []⟩,
  ⟨some 54, .not (.t 53), none, []⟩])
 (.ite (.t 54) (.seq (.reg [
  ⟨some 55, .mv (.t 4), none, []⟩,
  ⟨some 2, .mv (.t 55), none, []⟩,
  ⟨some 3, .mv (.c (.int .i64 3)), none, []⟩])
 (.ret))
 (.skip))))
 (.reg [
  ⟨some 46, .mv (.t 4), none, []⟩,
  ⟨some 47, .bin .add (.t 46) (.c (.int .i64 1)), none, []⟩,
  ⟨some 4, .mv (.t 47), none, []⟩]))))))
 (.seq (.seq (.reg [
  ⟨some 5, .mv (.c (.int .i64 0)), none, []⟩])
 (.blk 2 (.loop (.seq (.seq (.reg [
  ⟨some 56, .mv (.t 5), none, []⟩,
  ⟨some 57, .fa 4 (.t 1), none, []⟩,
  ⟨some 58, .ld (.t 57), none, []⟩,
  ⟨some 59, .len (.t 58), none, []⟩,
  ⟨some 60, .bin .lss (.t 56) (.t 59), none, []⟩])
 (.ite (.t 60) (.skip)
 (.exit 2)))
 (.seq (.blk 3 (.seq (.reg [
  ⟨some 63, .fa 4 (.t 1), none, []⟩,
  ⟨some 64, .ld (.t 63), none, []⟩,
  ⟨some 65, .mv (.t 5), none, []⟩,
  ⟨some 66, .ia 1 (.t 64) (.t 65), none, []⟩,
  ⟨some 67, .ld (.t 66), none, []⟩,
  ⟨some 68, .call (.f 89) [(.t 67)], none, []⟩,
  ⟨some 69, .not (.t 68), none, []⟩,
  ⟨some 70, .mv (.t 69), none, []⟩,
  ⟨some 71, .fa 5 (.t 1), (some (70, false)), []⟩,
  ⟨some 72, .ld (.t 71), (some (70, false)), []⟩,
  ⟨some 73, .mv (.t 5), (some (70, false)), []⟩,
  ⟨some 74, .ia 1 (.t 72) (.t 73), (some (70, false)), []⟩,
  ⟨some 75, .ld (.t 74), (some (70, false)), []⟩,
  ⟨some 76, .call (.f 89) [(.t 75)], (some (70, false)), []⟩,
  ⟨some 77, .not (.t 76), (some (70, false)), []⟩,
  ⟨some 78, .pick (.t 70) (.c (.bool true)) (.t 77), none, []⟩])
 (.ite (.t 78) (.seq (.reg [
  ⟨some 79, .mv (.t 5), none, []⟩,
  ⟨some 2, .mv (.t 79), none, []⟩,
  ⟨some 3, .mv (.c (.int .i64 3)), none, []⟩])
 (.ret))
 (.skip))))
 (.reg [
  ⟨some 61, .mv (.t 5), none, []⟩,
  ⟨some 62, .bin .add (.t 61) (.c (.int .i64 1)), none, []⟩,
  ⟨some 5, .mv (.t 62), none, []⟩]))))))
 (.seq (.seq (.reg [
  ⟨some 6, .mv (.c (.int .i64 0)), none, []⟩])
 (.blk 4 (.loop (.seq (.seq (.reg [
  ⟨some 80, .mv (.t 6), none, []⟩,
  ⟨some 81, .fa 0 (.t 1), none, []⟩,
  ⟨some 82, .fa 2 (.t 81), none, []⟩,
  ⟨some 83, .ld (.t 82), none, []⟩,
  ⟨some 84, .len (.t 83), none, []⟩,
  ⟨some 85, .bin .lss (.t 80) (.t 84), none, []⟩])
 (.ite (.t 85) (.skip)
 (.exit 4)))
 (.seq (.blk 5 (.seq (.dreg [0, 1, 2, 3, 4, 5, 6, 7, 8, 9, 10] [
  ⟨some 88, .fa 0 (.t 1), none, []⟩,
  ⟨some 89, .fa 2 (.t 88), none, []⟩,
  ⟨some 90, .ld (.t 89), none, [(.t 89)]⟩,
  ⟨some 91, .mv (.t 6), none, []⟩,
  ⟨some 92, .ia 3 (.t 90) (.t 91), none, []⟩,
  ⟨some 93, .fa 2 (.t 92), none, []⟩,
  ⟨some 94, .ld (.t 93), none, [(.t 93)]⟩,
  ⟨some 95, .fa 4 (.t 1), none, []⟩,
  ⟨some 96, .ld (.t 95), none, [(.t 95)]⟩,
  ⟨some 97, .len (.t 96), none, []⟩,
  ⟨some 98, .bin .geq (.t 94) (.t 97), none, []⟩])
 (.ite (.t 98) (.seq (.reg [
  ⟨some 99, .mv (.t 6), none, []⟩,
  ⟨some 2, .mv (.t 99), none, []⟩,
  ⟨some 3, .mv (.c (.int .i64 10)), none, []⟩])
 (.ret))
 (.skip))))
 (.reg [
  ⟨some 86, .mv (.t 6), none, []⟩,
  ⟨some 87, .bin .add (.t 86) (.c (.int .i64 1)), none, []⟩,
  ⟨some 6, .mv (.t 87), none, []⟩]))))))
 (.seq (.seq (.reg [
  ⟨some 101, .lds 8 (.t 1), none, []⟩,
  ⟨some 102, .fa 6 (.t 1), none, []⟩,
  ⟨some 103, .ld (.t 102), none, []⟩,
  ⟨some 104, .call (.f 90) [(.t 101), (.t 103)], none, []⟩,
  ⟨some 100, .mv (.t 104), none, []⟩,
  ⟨some 105, .ext (.t 100) 0, none, []⟩,
  ⟨some 106, .ext (.t 100) 1, none, []⟩,
  ⟨some 7, .mv (.t 105), none, []⟩,
  ⟨some 8, .mv (.t 106), none, []⟩])
 (.seq (.reg [
  ⟨some 107, .mv (.t 8), none, []⟩,
  ⟨some 108, .bin .neq (.t 107) (.c (.int .i64 0)), none, []⟩])
 (.ite (.t 108) (.seq (.reg [
  ⟨some 109, .mv (.t 7), none, []⟩,
  ⟨some 110, .mv (.t 8), none, []⟩,
  ⟨some 2, .mv (.t 109), none, []⟩,
  ⟨some 3, .mv (.t 110), none, []⟩])
 (.ret))
 (.skip))))
 (.seq (.seq (.reg [
  ⟨some 112, .lds 8 (.t 1), none, []⟩,
  ⟨some 113, .fa 7 (.t 1), none, []⟩,
  ⟨some 114, .ld (.t 113), none, []⟩,
  ⟨some 115, .call (.f 90) [(.t 112), (.t 114)], none, []⟩,
  ⟨some 111, .mv (.t 115), none, []⟩,
  ⟨some 116, .ext (.t 111) 0, none, []⟩,
  ⟨some 117, .ext (.t 111) 1, none, []⟩,
  ⟨some 9, .mv (.t 116), none, []⟩,
  ⟨some 10, .mv (.t 117), none, []⟩])
 (.seq (.reg [
  ⟨some 118, .mv (.t 10), none, []⟩,
  ⟨some 119, .bin .neq (.t 118) (.c (.int .i64 0)), none, []⟩])
 (.ite (.t 119) (.seq (.reg [
  ⟨some 120, .mv (.t 9), none, []⟩,
  ⟨some 121, .mv (.t 10), none, []⟩,
  ⟨some 2, .mv (.t 120), none, []⟩,
  ⟨some 3, .mv (.t 121), none, []⟩])
 (.ret))
 (.skip))))
 (.seq (.seq (.reg [
  ⟨some 122, .fa 6 (.t 1), none, []⟩,
  ⟨some 123, .ld (.t 122), none, []⟩,
  ⟨some 124, .len (.t 123), none, []⟩,
  ⟨some 125, .fa 7 (.t 1), none, []⟩,
  ⟨some 126, .ld (.t 125), none, []⟩,
  ⟨some 127, .len (.t 126), none, []⟩,
  ⟨some 128, .bin .add (.t 124) (.t 127), none, []⟩,
  ⟨some 129, .bin .gtr (.t 128) (.c (.int .i64 6)), none, []⟩])
 (.ite (.t 129) (.seq (.reg [
  ⟨some 2, .mv (.c (.int .i64 0)), none, []⟩,
  ⟨some 3, .mv (.c (.int .i64 2)), none, []⟩])
 (.ret))
 (.skip)))
 (.seq (.reg [
  ⟨some 2, .mv (.c (.int .i64 0)), none, []⟩,
  ⟨some 3, .mv (.c (.int .i64 0)), none, []⟩])
 (.ret)))))))))))⟩
def m41 : MFun := ⟨89, [.t 4, .t 5],
 .seq (.reg [
  ⟨some 2, .box 47 (.t 0), none, []⟩,
  ⟨some 3, .box 52 (.t 1), none, []⟩,
  ⟨some 4, .mv (.c (.int .i64 0)), none, []⟩,
  ⟨some 5, .mv (.c (.int .i64 0)), none, []⟩])
 (.seq (.seq (.dreg [0, 2, 3, 4, 5, 7, 8, 9, 10, 11, 12, 13, 14, 1, 6, 15, 16, 17, 18] [
  ⟨some 13, .lds 8 (.t 2), none, [(.t 2)]⟩,
  ⟨some 15, .fa 1 (.t 3), none, []⟩,
  ⟨some 16, .ld (.t 15), none, [(.t 15)]⟩,
  ⟨some 17, .len (.t 16), none, []⟩,
  ⟨some 18, .bin .eql (.t 17) (.c (.int .i64 0)), none, []⟩,
  ⟨some 20, .fa 0 (.t 3), none, []⟩,
  ⟨some 21, .ld (.t 20), none, [(.t 20)]⟩,
  ⟨some 22, .len (.t 21), none, []⟩,
  ⟨some 23, .fa 1 (.t 3), none, []⟩,
  ⟨some 24, .ld (.t 23), none, [(.t 23)]⟩,
  ⟨some 25, .len (.t 24), none, []⟩,
  ⟨some 26, .bin .add (.t 22) (.t 25), none, []⟩,
  ⟨some 27, .bin .gtr (.t 26) (.c (.int .i64 60)), none, []⟩,
  ⟨some 14, .call (.f 76) [(.t 13)], none, [(.t 15), (.t 20), (.t 23)]⟩,
  ⟨some 19, .call (.f 67) [(.t 18), (.c (.int .i64 1))], none, [(.t 20), (.t 23)]⟩,
  ⟨some 28, .call (.f 67) [(.t 27), (.c (.int .i64 2))], none, []⟩,
  ⟨some 29, .lit 30 [(.int .i64 0)] [(0, 1, (.t 14)), (1, 1, (.t 19)), (2, 1, (.t 28))] 3, none, []⟩,
  ⟨some 30, .call (.f 66) [(.t 29)], none, []⟩,
  ⟨some 6, .mv (.t 30), none, []⟩])
 (.seq (.reg [
  ⟨some 31, .mv (.t 6), none, []⟩,
  ⟨some 32, .bin .neq (.t 31) (.c (.int .i64 0)), none, []⟩])
 (.ite (.t 32) (.seq (.reg [
  ⟨some 33, .mv (.t 6), none, []⟩,
  ⟨some 4, .mv (.c (.int .i64 0)), none, []⟩,
  ⟨some 5, .mv (.t 33), none, []⟩])
 (.ret))
 (.skip))))
 (.seq (.reg [
  ⟨some 34, .fa 0 (.t 3), none, []⟩,
  ⟨some 35, .ld (.t 34), none, []⟩,
  ⟨some 36, .fa 1 (.t 3), none, []⟩,
  ⟨some 37, .ld (.t 36), none, []⟩,
  ⟨some 38, .lit 24 [(.slice none 0 0)] [(0, 1, (.t 35)), (1, 1, (.t 37))] 2, none, []⟩,
  ⟨some 39, .call (.f 84) [(.t 38)], none, []⟩,
  ⟨some 7, .mv (.t 39), none, []⟩])
 (.seq (.seq (.reg [
  ⟨some 40, .mv (.t 7), none, []⟩,
  ⟨some 41, .len (.t 40), none, []⟩,
  ⟨some 42, .mv (.c (.int .i64 0)), none, []⟩])
 (.blk 0 (.loop (.seq (.reg [
  ⟨some 43, .bin .lss (.t 42) (.t 41), none, []⟩])
 (.seq (.ite (.t 43) (.skip)
 (.exit 0))
 (.seq (.blk 1 (.seq (.reg [
  ⟨some 44, .mv (.t 42), none, []⟩,
  ⟨some 45, .ia 1 (.t 40) (.t 42), none, []⟩,
  ⟨some 46, .ld (.t 45), none, []⟩,
  ⟨some 8, .mv (.t 44), none, []⟩,
  ⟨some 9, .mv (.t 46), none, []⟩])
 (.seq (.reg [
  ⟨some 47, .mv (.t 9), none, []⟩,
  ⟨some 48, .fa 0 (.t 2), none, []⟩,
  ⟨some 49, .fa 0 (.t 48), none, []⟩,
  ⟨some 50, .ld (.t 49), none, []⟩,
  ⟨some 51, .bin .sub (.t 50) (.c (.int .i64 1)), none, []⟩,
  ⟨some 52, .call (.f 65) [(.t 47), (.c (.int .i64 0)), (.t 51)], none, []⟩,
  ⟨some 53, .not (.t 52), none, []⟩])
 (.ite (.t 53) (.seq (.reg [
  ⟨some 54, .mv (.t 8), none, []⟩,
  ⟨some 4, .mv (.t 54), none, []⟩,
  ⟨some 5, .mv (.c (.int .i64 3)), none, []⟩])
 (.ret))
 (.skip)))))
 (.reg [
  ⟨some 55, .bin .add (.t 42) (.c (.int .i64 1)), none, []⟩,
  ⟨some 42, .mv (.t 55), none, []⟩])))))))
 (.seq (.seq (.dreg [0, 1, 2, 3, 4, 5, 6, 7] [
  ⟨some 56, .fa 0 (.t 2), none, []⟩,
  ⟨some 57, .fa 1 (.t 56), none, []⟩,
  ⟨some 58, .ld (.t 57), none, [(.t 57)]⟩,
  ⟨some 59, .mv (.t 7), none, []⟩,
  ⟨some 60, .ia 1 (.t 59) (.c (.int .i64 0)), none, []⟩,
  ⟨some 61, .ld (.t 60), none, [(.t 60)]⟩,
  ⟨some 62, .call (.f 91) [(.t 58), (.t 61)], none, []⟩,
  ⟨some 63, .not (.t 62), none, []⟩])
 (.ite (.t 63) (.seq (.reg [
  ⟨some 4, .mv (.c (.int .i64 0)), none, []⟩,
  ⟨some 5, .mv (.c (.int .i64 30)), none, []⟩])
 (.ret))
 (.skip)))
 (.seq (.reg [
  ⟨some 64, .mv (.t 7), none, []⟩,
  ⟨some 65, .len (.t 64), none, []⟩,
  ⟨some 66, .fa 0 (.t 3), none, []⟩,
  ⟨some 67, .ld (.t 66), none, []⟩,
  ⟨some 68, .len (.t 67), none, []⟩,
  ⟨some 69, .build [(.int .i64 0), (.int .i64 0)] [(0, 1, (.t 65)), (1, 1, (.t 68))], none, []⟩,
  ⟨some 10, .new [(.int .i64 0), (.int .i64 0)] 135, none, []⟩,
  ⟨none, .st 2 (.t 10) (.t 69), none, []⟩])
 (.seq (.seq (.reg [
  ⟨some 70, .mv (.t 7), none, []⟩,
  ⟨some 71, .len (.t 70), none, []⟩,
  ⟨some 72, .mv (.c (.int .i64 0)), none, []⟩])
 (.blk 2 (.loop (.seq (.reg [
  ⟨some 73, .bin .lss (.t 72) (.t 71), none, []⟩])
 (.seq (.ite (.t 73) (.skip)
 (.exit 2))
 (.seq (.blk 3 (.seq (.reg [
  ⟨some 74, .mv (.t 72), none, []⟩,
  ⟨some 75, .ia 1 (.t 70) (.t 72), none, []⟩,
  ⟨some 76, .ld (.t 75), none, []⟩,
  ⟨some 11, .mv (.t 74), none, []⟩,
  ⟨some 12, .mv (.t 76), none, []⟩])
 (.seq (.dreg [0, 1, 2, 3, 4, 5, 6, 7, 8, 9] [
  ⟨some 77, .lds 8 (.t 2), none, [(.t 2)]⟩,
  ⟨some 78, .mv (.t 12), none, []⟩,
  ⟨some 79, .mv (.t 7), none, []⟩,
  ⟨some 80, .lds 2 (.t 10), none, [(.t 10)]⟩,
  ⟨some 81, .mv (.t 11), none, []⟩,
  ⟨some 82, .call (.f 93) [(.t 80), (.t 81)], none, [(.t 2)]⟩,
  ⟨some 83, .ia 1 (.t 79) (.t 82), none, []⟩,
  ⟨some 84, .ld (.t 83), none, [(.t 83)]⟩,
  ⟨some 85, .call (.f 92) [(.t 77), (.t 78), (.t 84)], none, []⟩,
  ⟨some 86, .not (.t 85), none, []⟩])
 (.ite (.t 86) (.seq (.reg [
  ⟨some 87, .mv (.t 11), none, []⟩,
  ⟨some 4, .mv (.t 87), none, []⟩,
  ⟨some 5, .mv (.c (.int .i64 10)), none, []⟩])
 (.ret))
 (.skip)))))
 (.reg [
  ⟨some 88, .bin .add (.t 72) (.c (.int .i64 1)), none, []⟩,
  ⟨some 72, .mv (.t 88), none, []⟩])))))))
 (.seq (.reg [
  ⟨some 4, .mv (.c (.int .i64 0)), none, []⟩,
  ⟨some 5, .mv (.c (.int .i64 0)), none, []⟩])
 (.ret))))))))⟩
def m42 : MFun := ⟨10, [.cell 2 (some 2)],
 .seq (.reg [
  ⟨some 1, .box 52 (.t 0), none, []⟩,
  ⟨some 2, .new [(.slice none 0 0), (.slice none 0 0)] 52, none, []⟩])
 (.seq (.dreg [0, 1, 3, 4, 2, 5, 6, 7] [
  ⟨some 3, .fa 0 (.t 1), none, []⟩,
  ⟨some 4, .ld (.t 3), none, [(.t 3)]⟩,
  ⟨some 6, .fa 1 (.t 1), none, []⟩,
  ⟨some 7, .ld (.t 6), none, [(.t 6)]⟩,
  ⟨some 5, .call (.f 52) [(.t 4)], none, [(.t 6)]⟩,
  ⟨some 8, .call (.f 52) [(.t 7)], none, []⟩,
  ⟨some 9, .build [(.slice none 0 0), (.slice none 0 0)] [(0, 1, (.t 5)), (1, 1, (.t 8))], none, []⟩,
  ⟨none, .st 2 (.t 2) (.t 9), none, []⟩])
 (.ret))⟩
def m43 : MFun := ⟨68, [.t 4, .t 5],
 .seq (.reg [
  ⟨some 2, .box 47 (.t 0), none, []⟩,
  ⟨some 3, .box 52 (.t 1), none, []⟩,
  ⟨some 4, .mv (.c (.int .i64 0)), none, []⟩,
  ⟨some 5, .mv (.c (.int .i64 0)), none, []⟩])
 (.seq (.seq (.reg [
  ⟨some 10, .lds 8 (.t 2), none, []⟩,
  ⟨some 11, .call (.f 24) [(.t 10)], none, []⟩,
  ⟨some 6, .mv (.t 11), none, []⟩])
 (.seq (.reg [
  ⟨some 12, .mv (.t 6), none, []⟩,
  ⟨some 13, .bin .neq (.t 12) (.c (.int .i64 0)), none, []⟩])
 (.ite (.t 13) (.seq (.reg [
  ⟨some 14, .mv (.t 6), none, []⟩,
  ⟨some 4, .mv (.c (.int .i64 0)), none, []⟩,
  ⟨some 5, .mv (.t 14), none, []⟩])
 (.ret))
 (.skip))))
 (.seq (.seq (.reg [
  ⟨some 15, .fa 1 (.t 3), none, []⟩,
  ⟨some 16, .ld (.t 15), none, []⟩,
  ⟨some 17, .len (.t 16), none, []⟩,
  ⟨some 18, .bin .eql (.t 17) (.c (.int .i64 0)), none, []⟩])
 (.ite (.t 18) (.seq (.reg [
  ⟨some 4, .mv (.c (.int .i64 0)), none, []⟩,
  ⟨some 5, .mv (.c (.int .i64 1)), none, []⟩])
 (.ret))
 (.skip)))
 (.seq (.reg [
  ⟨some 19, .fa 0 (.t 3), none, []⟩,
  ⟨some 20, .ld (.t 19), none, []⟩,
  ⟨some 21, .len (.t 20), none, []⟩,
  ⟨some 22, .fa 1 (.t 3), none, []⟩,
  ⟨some 23, .ld (.t 22), none, []⟩,
  ⟨some 24, .len (.t 23), none, []⟩,
  ⟨some 25, .bin .add (.t 21) (.t 24), none, []⟩,
  ⟨some 7, .mv (.t 25), none, []⟩])
 (.seq (.seq (.reg [
  ⟨some 26, .mv (.t 7), none, []⟩,
  ⟨some 27, .bin .gtr (.t 26) (.c (.int .i64 60)), none, []⟩])
 (.ite (.t 27) (.seq (.reg [
  ⟨some 4, .mv (.c (.int .i64 0)), none, []⟩,
  ⟨some 5, .mv (.c (.int .i64 2)), none, []⟩])
 (.ret))
 (.skip)))
 (.seq (.seq (.reg [
  ⟨some 8, .mv (.c (.int .i64 0)), none, []⟩])
 (.blk 0 (.loop (.seq (.seq (.reg [
  ⟨some 28, .mv (.t 8), none, []⟩,
  ⟨some 29, .mv (.t 7), none, []⟩,
  ⟨some 30, .bin .lss (.t 28) (.t 29), none, []⟩])
 (.ite (.t 30) (.skip)
 (.exit 0)))
 (.seq (.blk 1 (.seq (.dreg [0, 1, 3, 4, 5, 6, 2, 7, 8] [
  ⟨some 33, .lds 2 (.t 3), none, [(.t 3)]⟩,
  ⟨some 34, .mv (.t 8), none, []⟩,
  ⟨some 36, .fa 0 (.t 2), none, []⟩,
  ⟨some 37, .fa 0 (.t 36), none, []⟩,
  ⟨some 38, .ld (.t 37), none, [(.t 37)]⟩,
  ⟨some 39, .bin .sub (.t 38) (.c (.int .i64 1)), none, []⟩,
  ⟨some 35, .call (.f 94) [(.t 33), (.t 34)], none, [(.t 37)]⟩,
  ⟨some 40, .call (.f 26) [(.t 35), (.c (.int .i64 0)), (.t 39)], none, []⟩,
  ⟨some 41, .not (.t 40), none, []⟩])
 (.ite (.t 41) (.seq (.reg [
  ⟨some 42, .mv (.t 8), none, []⟩,
  ⟨some 4, .mv (.t 42), none, []⟩,
  ⟨some 5, .mv (.c (.int .i64 3)), none, []⟩])
 (.ret))
 (.skip))))
 (.reg [
  ⟨some 31, .mv (.t 8), none, []⟩,
  ⟨some 32, .bin .add (.t 31) (.c (.int .i64 1)), none, []⟩,
  ⟨some 8, .mv (.t 32), none, []⟩]))))))
 (.seq (.seq (.dreg [0, 1, 2, 3, 4, 5, 6] [
  ⟨some 43, .fa 0 (.t 2), none, []⟩,
  ⟨some 44, .fa 1 (.t 43), none, []⟩,
  ⟨some 45, .ld (.t 44), none, [(.t 44)]⟩,
  ⟨some 46, .lds 2 (.t 3), none, [(.t 3)]⟩,
  ⟨some 47, .call (.f 94) [(.t 46), (.c (.int .i64 0))], none, [(.t 44)]⟩,
  ⟨some 48, .call (.f 95) [(.t 45), (.t 47)], none, []⟩,
  ⟨some 49, .not (.t 48), none, []⟩])
 (.ite (.t 49) (.seq (.reg [
  ⟨some 4, .mv (.c (.int .i64 0)), none, []⟩,
  ⟨some 5, .mv (.c (.int .i64 30)), none, []⟩])
 (.ret))
 (.skip)))
 (.seq (.seq (.reg [
  ⟨some 9, .mv (.c (.int .i64 0)), none, []⟩])
 (.blk 2 (.loop (.seq (.seq (.reg [
  ⟨some 50, .mv (.t 9), none, []⟩,
  ⟨some 51, .mv (.t 7), none, []⟩,
  ⟨some 52, .bin .lss (.t 50) (.t 51), none, []⟩])
 (.ite (.t 52) (.skip)
 (.exit 2)))
 (.seq (.blk 3 (.seq (.dreg [0, 1, 2, 3, 5, 6, 7, 4, 8, 9, 10, 11] [
  ⟨some 55, .fa 0 (.t 2), none, []⟩,
  ⟨some 56, .lds 3 (.t 55), none, [(.t 55)]⟩,
  ⟨some 57, .lds 2 (.t 3), none, [(.t 3)]⟩,
  ⟨some 58, .mv (.t 9), none, []⟩,
  ⟨some 60, .lds 2 (.t 3), none, [(.t 3)]⟩,
  ⟨some 61, .lds 2 (.t 3), none, [(.t 3)]⟩,
  ⟨some 62, .mv (.t 9), none, []⟩,
  ⟨some 59, .call (.f 94) [(.t 57), (.t 58)], none, [(.t 3), (.t 55)]⟩,
  ⟨some 63, .call (.f 97) [(.t 61), (.t 62)], none, [(.t 3), (.t 55)]⟩,
  ⟨some 64, .call (.f 94) [(.t 60), (.t 63)], none, [(.t 55)]⟩,
  ⟨some 65, .call (.f 96) [(.t 56), (.t 59), (.t 64)], none, []⟩,
  ⟨some 66, .not (.t 65), none, []⟩])
 (.ite (.t 66) (.seq (.reg [
  ⟨some 67, .mv (.t 9), none, []⟩,
  ⟨some 4, .mv (.t 67), none, []⟩,
  ⟨some 5, .mv (.c (.int .i64 10)), none, []⟩])
 (.ret))
 (.skip))))
 (.reg [
  ⟨some 53, .mv (.t 9), none, []⟩,
  ⟨some 54, .bin .add (.t 53) (.c (.int .i64 1)), none, []⟩,
  ⟨some 9, .mv (.t 54), none, []⟩]))))))
 (.seq (.reg [
  ⟨some 4, .mv (.c (.int .i64 0)), none, []⟩,
  ⟨some 5, .mv (.c (.int .i64 0)), none, []⟩])
 (.ret)))))))))⟩
def m44 : MFun := ⟨101, [.t 2, .t 3],
 .seq (.reg [
  ⟨some 2, .mv (.c (.int .i64 0)), none, []⟩,
  ⟨some 3, .mv (.c (.int .i64 0)), none, []⟩])
 (.seq (.seq (.reg [
  ⟨some 14, .mv (.t 0), none, []⟩,
  ⟨some 15, .len (.t 14), none, []⟩,
  ⟨some 16, .bin .eql (.t 15) (.c (.int .i64 0)), none, []⟩,
  ⟨some 17, .call (.f 67) [(.t 16), (.c (.int .i64 1))], none, []⟩,
  ⟨some 18, .mv (.t 0), none, []⟩,
  ⟨some 19, .len (.t 18), none, []⟩,
  ⟨some 20, .bin .gtr (.t 19) (.c (.int .i64 40)), none, []⟩,
  ⟨some 21, .call (.f 67) [(.t 20), (.c (.int .i64 2))], none, []⟩,
  ⟨some 22, .lit 30 [(.int .i64 0)] [(0, 1, (.t 17)), (1, 1, (.t 21))] 2, none, []⟩,
  ⟨some 23, .call (.f 66) [(.t 22)], none, []⟩,
  ⟨some 4, .mv (.t 23), none, []⟩])
 (.seq (.reg [
  ⟨some 24, .mv (.t 4), none, []⟩,
  ⟨some 25, .bin .neq (.t 24) (.c (.int .i64 0)), none, []⟩])
 (.ite (.t 25) (.seq (.reg [
  ⟨some 26, .mv (.t 4), none, []⟩,
  ⟨some 2, .mv (.c (.int .i64 0)), none, []⟩,
  ⟨some 3, .mv (.t 26), none, []⟩])
 (.ret))
 (.skip))))
 (.seq (.reg [
  ⟨some 5, .new [(.slice none 0 0)] 24, none, []⟩])
 (.seq (.seq (.reg [
  ⟨some 27, .mv (.t 0), none, []⟩,
  ⟨some 28, .len (.t 27), none, []⟩,
  ⟨some 29, .mv (.c (.int .i64 0)), none, []⟩])
 (.blk 0 (.loop (.seq (.reg [
  ⟨some 30, .bin .lss (.t 29) (.t 28), none, []⟩])
 (.seq (.ite (.t 30) (.skip)
 (.exit 0))
 (.seq (.blk 1 (.seq (.reg [
  ⟨some 31, .mv (.t 29), none, []⟩,
  ⟨some 32, .ia 3 (.t 27) (.t 29), none, []⟩,
  ⟨some 33, .lds 3 (.t 32), none, []⟩,
  ⟨some 7, .new [(.int .i64 0), (.int .i64 0), (.slice none 0 0)] 67, none, []⟩,
  ⟨some 6, .mv (.t 31), none, []⟩,
  ⟨none, .st 3 (.t 7) (.t 33), none, []⟩])
 (.seq (.seq (.reg [
  ⟨some 34, .fa 0 (.t 7), none, []⟩,
  ⟨some 35, .ld (.t 34), none, []⟩,
  ⟨some 36, .call (.f 65) [(.t 35), (.c (.int .i64 0)), (.c (.int .i64 9))], none, []⟩,
  ⟨some 37, .not (.t 36), none, []⟩])
 (.ite (.t 37) (.seq (.reg [
  ⟨some 38, .mv (.t 6), none, []⟩,
  ⟨some 2, .mv (.t 38), none, []⟩,
  ⟨some 3, .mv (.c (.int .i64 4)), none, []⟩])
 (.ret))
 (.skip)))
 (.seq (.reg [
  ⟨some 39, .mv (.t 6), none, []⟩,
  ⟨some 8, .new [(.int .i64 0)] 3, none, []⟩,
  ⟨none, .st 1 (.t 8) (.t 39), none, []⟩])
 (.seq (.seq (.reg [
  ⟨some 40, .fa 2 (.t 7), none, []⟩,
  ⟨some 41, .ld (.t 40), none, []⟩,
  ⟨some 42, .call (.f 98) [(.t 41)], none, []⟩])
 (.blk 2 (.rangeF (.t 42) [43, 44] (.reg [
  ⟨some 10, .mv (.t 44), none, []⟩])
 (.blk 3 (.seq (.seq (.reg [
  ⟨some 45, .mv (.t 10), none, []⟩,
  ⟨some 46, .ld (.t 8), none, []⟩,
  ⟨some 47, .bin .sub (.t 46) (.c (.int .i64 1)), none, []⟩,
  ⟨some 48, .bin .neq (.t 45) (.t 47), none, []⟩,
  ⟨some 49, .mv (.t 48), none, []⟩,
  ⟨some 50, .mv (.t 10), (some (49, false)), []⟩,
  ⟨some 51, .bin .lss (.t 50) (.c (.int .i64 0)), (some (49, false)), []⟩,
  ⟨some 52, .pick (.t 49) (.c (.bool true)) (.t 51), none, []⟩])
 (.ite (.t 52) (.seq (.reg [
  ⟨none, .st 1 (.t 8) (.c (.int .i64 (-1))), none, []⟩])
 (.exit 2))
 (.skip)))
 (.reg [
  ⟨some 53, .ld (.t 5), none, []⟩,
  ⟨some 54, .mv (.t 10), none, []⟩,
  ⟨some 55, .ia 1 (.t 53) (.t 54), none, []⟩,
  ⟨some 56, .ld (.t 55), none, []⟩,
  ⟨none, .st 1 (.t 8) (.t 56), none, []⟩]))))))
 (.seq (.reg [
  ⟨some 57, .fa 1 (.t 7), none, []⟩,
  ⟨some 58, .ld (.t 57), none, []⟩,
  ⟨some 59, .bin .neq (.t 58) (.c (.int .i64 0)), none, []⟩,
  ⟨some 11, .mv (.t 59), none, []⟩])
 (.seq (.seq (.reg [
  ⟨some 60, .fa 0 (.t 7), none, []⟩,
  ⟨some 61, .ld (.t 60), none, []⟩,
  ⟨some 62, .bin .eql (.t 61) (.c (.int .i64 1)), none, []⟩])
 (.ite (.t 62) (.reg [
  ⟨some 63, .fa 1 (.t 7), none, []⟩,
  ⟨some 64, .ld (.t 63), none, []⟩,
  ⟨some 65, .call (.f 65) [(.t 64), (.c (.int .i64 0)), (.c (.int .i64 11))], none, []⟩,
  ⟨some 66, .not (.t 65), none, []⟩,
  ⟨some 11, .mv (.t 66), none, []⟩])
 (.skip)))
 (.seq (.seq (.dreg [0, 1, 2, 3, 4, 5, 6, 7, 12, 8, 9, 10, 11, 13, 14, 15, 16] [
  ⟨some 67, .ld (.t 8), none, [(.t 8)]⟩,
  ⟨some 68, .bin .lss (.t 67) (.c (.int .i64 0)), none, []⟩,
  ⟨some 69, .mv (.t 68), none, []⟩,
  ⟨some 70, .fa 2 (.t 7), (some (69, false)), []⟩,
  ⟨some 71, .ld (.t 70), (some (69, false)), [(.t 70)]⟩,
  ⟨some 72, .len (.t 71), (some (69, false)), []⟩,
  ⟨some 73, .fa 0 (.t 7), (some (69, false)), []⟩,
  ⟨some 74, .ld (.t 73), (some (69, false)), [(.t 73)]⟩,
  ⟨some 79, .mv (.t 11), none, []⟩,
  ⟨some 75, .call (.f 99) [(.t 74)], (some (69, false)), [(.t 70)]⟩,
  ⟨some 76, .bin .neq (.t 72) (.t 75), (some (69, false)), []⟩,
  ⟨some 77, .pick (.t 69) (.c (.bool true)) (.t 76), none, []⟩,
  ⟨some 78, .call (.f 67) [(.t 77), (.c (.int .i64 6))], none, []⟩,
  ⟨some 80, .call (.f 67) [(.t 79), (.c (.int .i64 3))], none, []⟩,
  ⟨some 81, .lit 30 [(.int .i64 0)] [(0, 1, (.t 78)), (1, 1, (.t 80))] 2, none, []⟩,
  ⟨some 82, .call (.f 66) [(.t 81)], none, []⟩,
  ⟨some 12, .mv (.t 82), none, []⟩])
 (.seq (.reg [
  ⟨some 83, .mv (.t 12), none, []⟩,
  ⟨some 84, .bin .neq (.t 83) (.c (.int .i64 0)), none, []⟩])
 (.ite (.t 84) (.seq (.reg [
  ⟨some 85, .mv (.t 6), none, []⟩,
  ⟨some 86, .mv (.t 12), none, []⟩,
  ⟨some 2, .mv (.t 85), none, []⟩,
  ⟨some 3, .mv (.t 86), none, []⟩])
 (.ret))
 (.skip))))
 (.reg [
  ⟨some 87, .ld (.t 5), none, []⟩,
  ⟨some 88, .ld (.t 8), none, []⟩,
  ⟨some 89, .lit 3 [(.int .i64 0)] [(0, 1, (.t 88))] 1, none, []⟩,
  ⟨some 90, .app 3 1 8 [(.int .i64 0)] (.t 87) (.t 89), none, []⟩,
  ⟨none, .st 1 (.t 5) (.t 90), none, []⟩])))))))))
 (.reg [
  ⟨some 91, .bin .add (.t 29) (.c (.int .i64 1)), none, []⟩,
  ⟨some 29, .mv (.t 91), none, []⟩])))))))
 (.seq (.seq (.reg [
  ⟨some 92, .mv (.t 0), none, []⟩,
  ⟨some 93, .len (.t 92), none, []⟩,
  ⟨some 94, .bin .sub (.t 93) (.c (.int .i64 1)), none, []⟩,
  ⟨some 13, .mv (.t 94), none, []⟩])
 (.seq (.reg [
  ⟨some 95, .ld (.t 5), none, []⟩,
  ⟨some 96, .mv (.t 13), none, []⟩,
  ⟨some 97, .ia 1 (.t 95) (.t 96), none, []⟩,
  ⟨some 98, .ld (.t 97), none, []⟩,
  ⟨some 99, .bin .neq (.t 98) (.c (.int .i64 0)), none, []⟩])
 (.ite (.t 99) (.seq (.reg [
  ⟨some 100, .mv (.t 13), none, []⟩,
  ⟨some 2, .mv (.t 100), none, []⟩,
  ⟨some 3, .mv (.c (.int .i64 15)), none, []⟩])
 (.ret))
 (.skip))))
 (.seq (.reg [
  ⟨some 2, .mv (.c (.int .i64 0)), none, []⟩,
  ⟨some 3, .mv (.c (.int .i64 0)), none, []⟩])
 (.ret))))))⟩
def m45 : MFun := ⟨84, [.t 2, .t 3],
 .seq (.reg [
  ⟨some 2, .mv (.c (.string ⟨#[]⟩)), none, []⟩,
  ⟨some 3, .mv (.c (.int .i64 0)), none, []⟩])
 (.seq (.seq (.reg [
  ⟨some 9, .mv (.t 0), none, []⟩,
  ⟨some 10, .call (.f 70) [(.t 9)], none, []⟩,
  ⟨some 4, .mv (.t 10), none, []⟩])
 (.seq (.reg [
  ⟨some 11, .mv (.t 4), none, []⟩,
  ⟨some 12, .bin .neq (.t 11) (.c (.int .i64 0)), none, []⟩])
 (.ite (.t 12) (.seq (.reg [
  ⟨some 13, .mv (.t 4), none, []⟩,
  ⟨some 2, .mv (.c (.string ⟨#[]⟩)), none, []⟩,
  ⟨some 3, .mv (.t 13), none, []⟩])
 (.ret))
 (.skip))))
 (.seq (.reg [
  ⟨some 5, .new [(.slice none 0 0)] 143, none, []⟩])
 (.seq (.seq (.reg [
  ⟨some 14, .mv (.t 0), none, []⟩,
  ⟨some 15, .len (.t 14), none, []⟩,
  ⟨some 16, .mv (.c (.int .i64 0)), none, []⟩])
 (.blk 0 (.loop (.seq (.reg [
  ⟨some 17, .bin .lss (.t 16) (.t 15), none, []⟩])
 (.seq (.ite (.t 17) (.skip)
 (.exit 0))
 (.seq (.blk 1 (.seq (.reg [
  ⟨some 18, .ia 3 (.t 14) (.t 16), none, []⟩,
  ⟨some 19, .lds 3 (.t 18), none, []⟩,
  ⟨some 7, .new [(.int .i64 0), (.int .i64 0), (.slice none 0 0)] 67, none, []⟩,
  ⟨none, .st 3 (.t 7) (.t 19), none, []⟩])
 (.seq (.reg [
  ⟨some 20, .fn 100 [(.t 5), (.t 7)], none, []⟩,
  ⟨some 8, .mv (.t 20), none, []⟩])
 (.seq (.reg [
  ⟨some 21, .fa 0 (.t 7), none, []⟩,
  ⟨some 22, .ld (.t 21), none, []⟩])
 (.blk 2 (.seq (.reg [
  ⟨some 40, .bin .eql (.t 22) (.c (.int .i64 0)), none, []⟩,
  ⟨some 39, .mv (.t 40), none, []⟩])
 (.ite (.t 39) (.reg [
  ⟨some 41, .ld (.t 5), none, []⟩,
  ⟨some 42, .lit 9 [(.string ⟨#[]⟩)] [(0, 1, (.c (.string ⟨#[116, 114, 117, 101]⟩)))] 1, none, []⟩,
  ⟨some 43, .app 9 1 16 [(.string ⟨#[]⟩)] (.t 41) (.t 42), none, []⟩,
  ⟨none, .st 1 (.t 5) (.t 43), none, []⟩])
 (.seq (.reg [
  ⟨some 45, .bin .eql (.t 22) (.c (.int .i64 1)), none, []⟩,
  ⟨some 44, .mv (.t 45), none, []⟩])
 (.ite (.t 44) (.dreg [0, 1, 2, 3, 4, 5, 6, 7] [
  ⟨some 46, .ld (.t 5), none, [(.t 5)]⟩,
  ⟨some 47, .fa 1 (.t 7), none, []⟩,
  ⟨some 48, .ld (.t 47), none, [(.t 47)]⟩,
  ⟨some 49, .call (.f 101) [(.t 48)], none, [(.t 5)]⟩,
  ⟨some 50, .bin .add (.c (.string ⟨#[112]⟩)) (.t 49), none, []⟩,
  ⟨some 51, .lit 9 [(.string ⟨#[]⟩)] [(0, 1, (.t 50))] 1, none, []⟩,
  ⟨some 52, .app 9 1 16 [(.string ⟨#[]⟩)] (.t 46) (.t 51), none, []⟩,
  ⟨none, .st 1 (.t 5) (.t 52), none, []⟩])
 (.seq (.reg [
  ⟨some 54, .bin .eql (.t 22) (.c (.int .i64 2)), none, []⟩,
  ⟨some 53, .mv (.t 54), none, []⟩])
 (.ite (.t 53) (.dreg [0, 1, 2, 3, 4, 5, 6] [
  ⟨some 55, .ld (.t 5), none, [(.t 5)]⟩,
  ⟨some 56, .mv (.t 8), none, []⟩,
  ⟨some 57, .call (.t 56) [(.c (.int .i64 0))], none, [(.t 5)]⟩,
  ⟨some 58, .bin .add (.c (.string ⟨#[33]⟩)) (.t 57), none, []⟩,
  ⟨some 59, .lit 9 [(.string ⟨#[]⟩)] [(0, 1, (.t 58))] 1, none, []⟩,
  ⟨some 60, .app 9 1 16 [(.string ⟨#[]⟩)] (.t 55) (.t 59), none, []⟩,
  ⟨none, .st 1 (.t 5) (.t 60), none, []⟩])
 (.seq (.reg [
  ⟨some 62, .bin .eql (.t 22) (.c (.int .i64 6)), none, []⟩,
  ⟨some 61, .mv (.t 62), none, []⟩])
 (.ite (.t 61) (.dreg [0, 1, 2, 3, 4, 5, 6] [
  ⟨some 63, .ld (.t 5), none, [(.t 5)]⟩,
  ⟨some 64, .mv (.t 8), none, []⟩,
  ⟨some 65, .call (.t 64) [(.c (.int .i64 0))], none, [(.t 5)]⟩,
  ⟨some 66, .bin .add (.c (.string ⟨#[91, 93]⟩)) (.t 65), none, []⟩,
  ⟨some 67, .lit 9 [(.string ⟨#[]⟩)] [(0, 1, (.t 66))] 1, none, []⟩,
  ⟨some 68, .app 9 1 16 [(.string ⟨#[]⟩)] (.t 63) (.t 67), none, []⟩,
  ⟨none, .st 1 (.t 5) (.t 68), none, []⟩])
 (.seq (.reg [
  ⟨some 70, .bin .eql (.t 22) (.c (.int .i64 7)), none, []⟩,
  ⟨some 69, .mv (.t 70), none, []⟩])
 (.ite (.t 69) (.dreg [0, 1, 2, 3, 4, 5, 6] [
  ⟨some 71, .ld (.t 5), none, [(.t 5)]⟩,
  ⟨some 72, .mv (.t 8), none, []⟩,
  ⟨some 73, .call (.t 72) [(.c (.int .i64 0))], none, [(.t 5)]⟩,
  ⟨some 74, .bin .add (.c (.string ⟨#[60, 62]⟩)) (.t 73), none, []⟩,
  ⟨some 75, .lit 9 [(.string ⟨#[]⟩)] [(0, 1, (.t 74))] 1, none, []⟩,
  ⟨some 76, .app 9 1 16 [(.string ⟨#[]⟩)] (.t 71) (.t 75), none, []⟩,
  ⟨none, .st 1 (.t 5) (.t 76), none, []⟩])
 (.dreg [0, 1, 5, 6, 10, 2, 3, 4, 7, 8, 9, 11, 12, 13, 14, 15, 16] [
  ⟨some 23, .ld (.t 5), none, [(.t 5)]⟩,
  ⟨some 24, .mv (.t 8), none, []⟩,
  ⟨some 28, .fa 0 (.t 7), none, []⟩,
  ⟨some 29, .ld (.t 28), none, [(.t 28)]⟩,
  ⟨some 33, .mv (.t 8), none, []⟩,
  ⟨some 25, .call (.t 24) [(.c (.int .i64 0))], none, [(.t 28), (.t 5)]⟩,
  ⟨some 26, .bin .add (.c (.string ⟨#[40]⟩)) (.t 25), none, []⟩,
  ⟨some 27, .bin .add (.t 26) (.c (.string ⟨#[32]⟩)), none, []⟩,
  ⟨some 30, .call (.f 102) [(.t 29)], none, [(.t 5)]⟩,
  ⟨some 31, .bin .add (.t 27) (.t 30), none, []⟩,
  ⟨some 32, .bin .add (.t 31) (.c (.string ⟨#[32]⟩)), none, []⟩,
  ⟨some 34, .call (.t 33) [(.c (.int .i64 1))], none, [(.t 5)]⟩,
  ⟨some 35, .bin .add (.t 32) (.t 34), none, []⟩,
  ⟨some 36, .bin .add (.t 35) (.c (.string ⟨#[41]⟩)), none, []⟩,
  ⟨some 37, .lit 9 [(.string ⟨#[]⟩)] [(0, 1, (.t 36))] 1, none, []⟩,
  ⟨some 38, .app 9 1 16 [(.string ⟨#[]⟩)] (.t 23) (.t 37), none, []⟩,
  ⟨none, .st 1 (.t 5) (.t 38), none, []⟩]))))))))))))))))
 (.reg [
  ⟨some 77, .bin .add (.t 16) (.c (.int .i64 1)), none, []⟩,
  ⟨some 16, .mv (.t 77), none, []⟩])))))))
 (.seq (.reg [
  ⟨some 78, .ld (.t 5), none, []⟩,
  ⟨some 79, .ld (.t 5), none, []⟩,
  ⟨some 80, .len (.t 79), none, []⟩,
  ⟨some 81, .bin .sub (.t 80) (.c (.int .i64 1)), none, []⟩,
  ⟨some 82, .ia 1 (.t 78) (.t 81), none, []⟩,
  ⟨some 83, .ld (.t 82), none, []⟩,
  ⟨some 2, .mv (.t 83), none, []⟩,
  ⟨some 3, .mv (.c (.int .i64 0)), none, []⟩])
 (.ret)))))⟩
def m46 : MFun := ⟨70, [.t 2, .t 3],
 .seq (.reg [
  ⟨some 2, .mv (.c (.int .i64 0)), none, []⟩,
  ⟨some 3, .mv (.c (.int .i64 0)), none, []⟩])
 (.seq (.seq (.reg [
  ⟨some 6, .mv (.t 0), none, []⟩,
  ⟨some 7, .len (.t 6), none, []⟩,
  ⟨some 8, .bin .eql (.t 7) (.c (.int .i64 0)), none, []⟩])
 (.ite (.t 8) (.seq (.reg [
  ⟨some 2, .mv (.c (.int .i64 0)), none, []⟩,
  ⟨some 3, .mv (.c (.int .i64 1)), none, []⟩])
 (.ret))
 (.skip)))
 (.seq (.seq (.reg [
  ⟨some 9, .mv (.t 0), none, []⟩,
  ⟨some 10, .len (.t 9), none, []⟩,
  ⟨some 11, .bin .gtr (.t 10) (.c (.int .i64 40)), none, []⟩])
 (.ite (.t 11) (.seq (.reg [
  ⟨some 2, .mv (.c (.int .i64 0)), none, []⟩,
  ⟨some 3, .mv (.c (.int .i64 2)), none, []⟩])
 (.ret))
 (.skip)))
 (.seq (.seq (.reg [
  ⟨some 4, .mv (.c (.int .i64 0)), none, []⟩])
 (.blk 0 (.loop (.seq (.seq (.reg [
  ⟨some 12, .mv (.t 4), none, []⟩,
  ⟨some 13, .mv (.t 0), none, []⟩,
  ⟨some 14, .len (.t 13), none, []⟩,
  ⟨some 15, .bin .lss (.t 12) (.t 14), none, []⟩])
 (.ite (.t 15) (.skip)
 (.exit 0)))
 (.seq (.blk 1 (.seq (.reg [
  ⟨some 18, .mv (.t 0), none, []⟩,
  ⟨some 19, .mv (.t 4), none, []⟩,
  ⟨some 20, .ia 3 (.t 18) (.t 19), none, []⟩,
  ⟨some 21, .lds 3 (.t 20), none, []⟩,
  ⟨some 5, .new [(.int .i64 0), (.int .i64 0), (.slice none 0 0)] 67, none, []⟩,
  ⟨none, .st 3 (.t 5) (.t 21), none, []⟩])
 (.seq (.seq (.reg [
  ⟨some 22, .fa 0 (.t 5), none, []⟩,
  ⟨some 23, .ld (.t 22), none, []⟩,
  ⟨some 24, .call (.f 26) [(.t 23), (.c (.int .i64 0)), (.c (.int .i64 9))], none, []⟩,
  ⟨some 25, .not (.t 24), none, []⟩])
 (.ite (.t 25) (.seq (.reg [
  ⟨some 26, .mv (.t 4), none, []⟩,
  ⟨some 2, .mv (.t 26), none, []⟩,
  ⟨some 3, .mv (.c (.int .i64 4)), none, []⟩])
 (.ret))
 (.skip)))
 (.seq (.seq (.dreg [0, 1, 2, 3, 4, 5, 6, 7, 8, 9, 10, 11, 12] [
  ⟨some 27, .fa 2 (.t 5), none, []⟩,
  ⟨some 28, .ld (.t 27), none, [(.t 27)]⟩,
  ⟨some 29, .len (.t 28), none, []⟩,
  ⟨some 30, .fa 0 (.t 5), none, []⟩,
  ⟨some 31, .ld (.t 30), none, [(.t 30)]⟩,
  ⟨some 32, .call (.f 103) [(.t 31)], none, [(.t 27)]⟩,
  ⟨some 33, .bin .neq (.t 29) (.t 32), none, []⟩,
  ⟨some 34, .mv (.t 33), none, []⟩,
  ⟨some 35, .mv (.t 0), (some (34, false)), []⟩,
  ⟨some 36, .mv (.t 4), (some (34, false)), []⟩,
  ⟨some 37, .call (.f 104) [(.t 35), (.t 36)], (some (34, false)), []⟩,
  ⟨some 38, .not (.t 37), (some (34, false)), []⟩,
  ⟨some 39, .pick (.t 34) (.c (.bool true)) (.t 38), none, []⟩])
 (.ite (.t 39) (.seq (.reg [
  ⟨some 40, .mv (.t 4), none, []⟩,
  ⟨some 2, .mv (.t 40), none, []⟩,
  ⟨some 3, .mv (.c (.int .i64 6)), none, []⟩])
 (.ret))
 (.skip)))
 (.seq (.reg [
  ⟨some 41, .fa 0 (.t 5), none, []⟩,
  ⟨some 42, .ld (.t 41), none, []⟩,
  ⟨some 43, .bin .eql (.t 42) (.c (.int .i64 1)), none, []⟩,
  ⟨some 44, .mv (.t 43), none, []⟩,
  ⟨some 45, .fa 1 (.t 5), (some (44, true)), []⟩,
  ⟨some 46, .ld (.t 45), (some (44, true)), []⟩,
  ⟨some 47, .call (.f 26) [(.t 46), (.c (.int .i64 0)), (.c (.int .i64 11))], (some (44, true)), []⟩,
  ⟨some 48, .not (.t 47), (some (44, true)), []⟩,
  ⟨some 49, .pick (.t 44) (.t 48) (.c (.bool false)), none, []⟩,
  ⟨some 50, .mv (.t 49), none, []⟩,
  ⟨some 51, .fa 0 (.t 5), (some (50, false)), []⟩,
  ⟨some 52, .ld (.t 51), (some (50, false)), []⟩,
  ⟨some 53, .bin .neq (.t 52) (.c (.int .i64 1)), (some (50, false)), []⟩,
  ⟨some 54, .mv (.t 53), (some (50, false)), []⟩,
  ⟨some 55, .fa 1 (.t 5), (some (54, true)), []⟩,
  ⟨some 56, .ld (.t 55), (some (54, true)), []⟩,
  ⟨some 57, .bin .neq (.t 56) (.c (.int .i64 0)), (some (54, true)), []⟩,
  ⟨some 58, .pick (.t 54) (.t 57) (.c (.bool false)), (some (50, false)), []⟩,
  ⟨some 59, .pick (.t 50) (.c (.bool true)) (.t 58), none, []⟩])
 (.ite (.t 59) (.seq (.reg [
  ⟨some 60, .mv (.t 4), none, []⟩,
  ⟨some 2, .mv (.t 60), none, []⟩,
  ⟨some 3, .mv (.c (.int .i64 3)), none, []⟩])
 (.ret))
 (.skip)))))))
 (.reg [
  ⟨some 16, .mv (.t 4), none, []⟩,
  ⟨some 17, .bin .add (.t 16) (.c (.int .i64 1)), none, []⟩,
  ⟨some 4, .mv (.t 17), none, []⟩]))))))
 (.seq (.seq (.reg [
  ⟨some 61, .mv (.t 0), none, []⟩,
  ⟨some 62, .mv (.t 0), none, []⟩,
  ⟨some 63, .len (.t 62), none, []⟩,
  ⟨some 64, .bin .sub (.t 63) (.c (.int .i64 1)), none, []⟩,
  ⟨some 65, .call (.f 105) [(.t 61), (.t 64)], none, []⟩,
  ⟨some 66, .bin .neq (.t 65) (.c (.int .i64 0)), none, []⟩])
 (.ite (.t 66) (.seq (.reg [
  ⟨some 67, .mv (.t 0), none, []⟩,
  ⟨some 68, .len (.t 67), none, []⟩,
  ⟨some 69, .bin .sub (.t 68) (.c (.int .i64 1)), none, []⟩,
  ⟨some 2, .mv (.t 69), none, []⟩,
  ⟨some 3, .mv (.c (.int .i64 15)), none, []⟩])
 (.ret))
 (.skip)))
 (.seq (.reg [
  ⟨some 2, .mv (.c (.int .i64 0)), none, []⟩,
  ⟨some 3, .mv (.c (.int .i64 0)), none, []⟩])
 (.ret))))))⟩
def m47 : MFun := ⟨68, [.t 4],
 .seq (.reg [
  ⟨some 4, .mv (.c (.string ⟨#[]⟩)), none, []⟩])
 (.seq (.reg [
  ⟨some 6, .mv (.t 0), none, []⟩,
  ⟨some 7, .mv (.t 1), none, []⟩,
  ⟨some 8, .ia 3 (.t 6) (.t 7), none, []⟩,
  ⟨some 9, .lds 3 (.t 8), none, []⟩,
  ⟨some 5, .new [(.int .i64 0), (.int .i64 0), (.slice none 0 0)] 67, none, []⟩,
  ⟨none, .st 3 (.t 5) (.t 9), none, []⟩])
 (.seq (.seq (.reg [
  ⟨some 10, .fa 0 (.t 5), none, []⟩,
  ⟨some 11, .ld (.t 10), none, []⟩])
 (.blk 0 (.seq (.reg [
  ⟨some 13, .bin .eql (.t 11) (.c (.int .i64 0)), none, []⟩,
  ⟨some 12, .mv (.t 13), none, []⟩])
 (.ite (.t 12) (.seq (.reg [
  ⟨some 4, .mv (.c (.string ⟨#[116, 114, 117, 101]⟩)), none, []⟩])
 (.ret))
 (.seq (.reg [
  ⟨some 15, .bin .eql (.t 11) (.c (.int .i64 1)), none, []⟩,
  ⟨some 14, .mv (.t 15), none, []⟩])
 (.ite (.t 14) (.seq (.reg [
  ⟨some 16, .fa 1 (.t 5), none, []⟩,
  ⟨some 17, .ld (.t 16), none, []⟩,
  ⟨some 18, .call (.f 106) [(.t 17)], none, []⟩,
  ⟨some 19, .bin .add (.c (.string ⟨#[112]⟩)) (.t 18), none, []⟩,
  ⟨some 4, .mv (.t 19), none, []⟩])
 (.ret))
 (.seq (.reg [
  ⟨some 21, .bin .eql (.t 11) (.c (.int .i64 2)), none, []⟩,
  ⟨some 20, .mv (.t 21), none, []⟩])
 (.ite (.t 20) (.seq (.reg [
  ⟨some 22, .mv (.t 0), none, []⟩,
  ⟨some 23, .fa 2 (.t 5), none, []⟩,
  ⟨some 24, .ld (.t 23), none, []⟩,
  ⟨some 25, .ia 1 (.t 24) (.c (.int .i64 0)), none, []⟩,
  ⟨some 26, .ld (.t 25), none, []⟩,
  ⟨some 27, .call (.f 47) [(.t 22), (.t 26)], none, []⟩,
  ⟨some 28, .bin .add (.c (.string ⟨#[33]⟩)) (.t 27), none, []⟩,
  ⟨some 4, .mv (.t 28), none, []⟩])
 (.ret))
 (.seq (.reg [
  ⟨some 30, .bin .eql (.t 11) (.c (.int .i64 6)), none, []⟩,
  ⟨some 29, .mv (.t 30), none, []⟩])
 (.ite (.t 29) (.seq (.reg [
  ⟨some 31, .mv (.t 0), none, []⟩,
  ⟨some 32, .fa 2 (.t 5), none, []⟩,
  ⟨some 33, .ld (.t 32), none, []⟩,
  ⟨some 34, .ia 1 (.t 33) (.c (.int .i64 0)), none, []⟩,
  ⟨some 35, .ld (.t 34), none, []⟩,
  ⟨some 36, .call (.f 47) [(.t 31), (.t 35)], none, []⟩,
  ⟨some 37, .bin .add (.c (.string ⟨#[91, 93]⟩)) (.t 36), none, []⟩,
  ⟨some 4, .mv (.t 37), none, []⟩])
 (.ret))
 (.seq (.reg [
  ⟨some 39, .bin .eql (.t 11) (.c (.int .i64 7)), none, []⟩,
  ⟨some 38, .mv (.t 39), none, []⟩])
 (.ite (.t 38) (.seq (.reg [
  ⟨some 40, .mv (.t 0), none, []⟩,
  ⟨some 41, .fa 2 (.t 5), none, []⟩,
  ⟨some 42, .ld (.t 41), none, []⟩,
  ⟨some 43, .ia 1 (.t 42) (.c (.int .i64 0)), none, []⟩,
  ⟨some 44, .ld (.t 43), none, []⟩,
  ⟨some 45, .call (.f 47) [(.t 40), (.t 44)], none, []⟩,
  ⟨some 46, .bin .add (.c (.string ⟨#[60, 62]⟩)) (.t 45), none, []⟩,
  ⟨some 4, .mv (.t 46), none, []⟩])
 (.ret))
 (.skip)))))))))))))
 (.seq (.dreg [0, 1, 2, 3, 4, 8, 9, 13, 14, 15, 16, 17, 5, 6, 7, 10, 11, 12, 18, 19, 20, 21] [
  ⟨some 47, .mv (.t 0), none, []⟩,
  ⟨some 48, .fa 2 (.t 5), none, []⟩,
  ⟨some 49, .ld (.t 48), none, [(.t 48)]⟩,
  ⟨some 50, .ia 1 (.t 49) (.c (.int .i64 0)), none, []⟩,
  ⟨some 51, .ld (.t 50), none, [(.t 50)]⟩,
  ⟨some 55, .fa 0 (.t 5), none, []⟩,
  ⟨some 56, .ld (.t 55), none, [(.t 55)]⟩,
  ⟨some 60, .mv (.t 0), none, []⟩,
  ⟨some 61, .fa 2 (.t 5), none, []⟩,
  ⟨some 62, .ld (.t 61), none, [(.t 61)]⟩,
  ⟨some 63, .ia 1 (.t 62) (.c (.int .i64 1)), none, []⟩,
  ⟨some 64, .ld (.t 63), none, [(.t 63)]⟩,
  ⟨some 52, .call (.f 47) [(.t 47), (.t 51)], none, [(.t 55), (.t 61), (.t 63)]⟩,
  ⟨some 53, .bin .add (.c (.string ⟨#[40]⟩)) (.t 52), none, []⟩,
  ⟨some 54, .bin .add (.t 53) (.c (.string ⟨#[32]⟩)), none, []⟩,
  ⟨some 57, .call (.f 107) [(.t 56)], none, [(.t 61), (.t 63)]⟩,
  ⟨some 58, .bin .add (.t 54) (.t 57), none, []⟩,
  ⟨some 59, .bin .add (.t 58) (.c (.string ⟨#[32]⟩)), none, []⟩,
  ⟨some 65, .call (.f 47) [(.t 60), (.t 64)], none, []⟩,
  ⟨some 66, .bin .add (.t 59) (.t 65), none, []⟩,
  ⟨some 67, .bin .add (.t 66) (.c (.string ⟨#[41]⟩)), none, []⟩,
  ⟨some 4, .mv (.t 67), none, []⟩])
 (.ret))))⟩
def m48 : MFun := ⟨47, [.t 2, .t 3, .t 4],
 .seq (.reg [
  ⟨some 2, .mv (.c (.slice none 0 0)), none, []⟩,
  ⟨some 3, .mv (.c (.int .i64 0)), none, []⟩,
  ⟨some 4, .mv (.c (.int .i64 0)), none, []⟩])
 (.seq (.seq (.reg [
  ⟨some 7, .mv (.t 0), none, []⟩,
  ⟨some 8, .slen (.t 7), none, []⟩,
  ⟨some 9, .bin .gtr (.t 8) (.c (.int .i64 400)), none, []⟩])
 (.ite (.t 9) (.seq (.reg [
  ⟨some 2, .mv (.c (.slice none 0 0)), none, []⟩,
  ⟨some 3, .mv (.c (.int .i64 0)), none, []⟩,
  ⟨some 4, .mv (.c (.int .i64 2)), none, []⟩])
 (.ret))
 (.skip)))
 (.seq (.reg [
  ⟨some 10, .mv (.t 0), none, []⟩,
  ⟨some 11, .build [(.string ⟨#[]⟩), (.int .i64 0), (.int .i64 0), (.slice none 0 0)] [(0, 1, (.t 10)), (2, 1, (.c (.int .i64 (-1))))], none, []⟩,
  ⟨some 12, .box 149 (.t 11), none, []⟩,
  ⟨some 5, .mv (.t 12), none, []⟩])
 (.seq (.reg [
  ⟨some 13, .mv (.t 5), none, []⟩,
  ⟨some 14, .call (.f 108) [(.t 13)], none, []⟩])
 (.seq (.seq (.reg [
  ⟨some 15, .mv (.t 5), none, []⟩,
  ⟨some 16, .chk (.t 15), none, []⟩,
  ⟨some 17, .fa 1 (.t 16), none, []⟩,
  ⟨some 18, .ld (.t 17), none, []⟩,
  ⟨some 19, .mv (.t 0), none, []⟩,
  ⟨some 20, .slen (.t 19), none, []⟩,
  ⟨some 21, .bin .lss (.t 18) (.t 20), none, []⟩])
 (.ite (.t 21) (.reg [
  ⟨some 22, .mv (.t 5), none, []⟩,
  ⟨some 23, .call (.f 109) [(.t 22)], none, []⟩])
 (.skip)))
 (.seq (.seq (.reg [
  ⟨some 24, .mv (.t 5), none, []⟩,
  ⟨some 25, .chk (.t 24), none, []⟩,
  ⟨some 26, .fa 2 (.t 25), none, []⟩,
  ⟨some 27, .ld (.t 26), none, []⟩,
  ⟨some 28, .bin .neq (.t 27) (.c (.int .i64 (-1))), none, []⟩])
 (.ite (.t 28) (.seq (.dreg [0, 1, 2, 3, 4, 5, 6] [
  ⟨some 29, .mv (.t 5), none, []⟩,
  ⟨some 30, .chk (.t 29), none, []⟩,
  ⟨some 31, .fa 2 (.t 30), none, []⟩,
  ⟨some 32, .ld (.t 31), none, [(.t 31)]⟩,
  ⟨some 2, .mv (.c (.slice none 0 0)), none, []⟩,
  ⟨some 3, .mv (.t 32), none, []⟩,
  ⟨some 4, .mv (.c (.int .i64 8)), none, []⟩])
 (.ret))
 (.skip)))
 (.seq (.seq (.reg [
  ⟨some 33, .mv (.t 5), none, []⟩,
  ⟨some 34, .chk (.t 33), none, []⟩,
  ⟨some 35, .fa 3 (.t 34), none, []⟩,
  ⟨some 36, .ld (.t 35), none, []⟩,
  ⟨some 37, .call (.f 70) [(.t 36)], none, []⟩,
  ⟨some 6, .mv (.t 37), none, []⟩])
 (.seq (.reg [
  ⟨some 38, .mv (.t 6), none, []⟩,
  ⟨some 39, .bin .neq (.t 38) (.c (.int .i64 0)), none, []⟩])
 (.ite (.t 39) (.seq (.reg [
  ⟨some 40, .mv (.t 6), none, []⟩,
  ⟨some 2, .mv (.c (.slice none 0 0)), none, []⟩,
  ⟨some 3, .mv (.c (.int .i64 0)), none, []⟩,
  ⟨some 4, .mv (.t 40), none, []⟩])
 (.ret))
 (.skip))))
 (.seq (.reg [
  ⟨some 41, .mv (.t 5), none, []⟩,
  ⟨some 42, .chk (.t 41), none, []⟩,
  ⟨some 43, .fa 3 (.t 42), none, []⟩,
  ⟨some 44, .ld (.t 43), none, []⟩,
  ⟨some 45, .mv (.t 0), none, []⟩,
  ⟨some 46, .slen (.t 45), none, []⟩,
  ⟨some 2, .mv (.t 44), none, []⟩,
  ⟨some 3, .mv (.t 46), none, []⟩,
  ⟨some 4, .mv (.c (.int .i64 0)), none, []⟩])
 (.ret))))))))⟩
def m49 : MFun := ⟨55, [.t 4],
 .seq (.reg [
  ⟨some 4, .mv (.c (.bool false)), none, []⟩])
 (.seq (.seq (.reg [
  ⟨some 6, .mv (.t 0), none, []⟩,
  ⟨some 7, .len (.t 6), none, []⟩,
  ⟨some 8, .mv (.t 1), none, []⟩,
  ⟨some 9, .len (.t 8), none, []⟩,
  ⟨some 10, .bin .neq (.t 7) (.t 9), none, []⟩])
 (.ite (.t 10) (.seq (.reg [
  ⟨some 4, .mv (.c (.bool false)), none, []⟩])
 (.ret))
 (.skip)))
 (.seq (.seq (.reg [
  ⟨some 5, .mv (.c (.int .i64 0)), none, []⟩])
 (.blk 0 (.loop (.seq (.seq (.reg [
  ⟨some 11, .mv (.t 5), none, []⟩,
  ⟨some 12, .mv (.t 0), none, []⟩,
  ⟨some 13, .len (.t 12), none, []⟩,
  ⟨some 14, .bin .lss (.t 11) (.t 13), none, []⟩])
 (.ite (.t 14) (.skip)
 (.exit 0)))
 (.seq (.blk 1 (.seq (.dreg [0, 1, 2, 3, 4, 5, 6, 7, 8, 9, 10, 11, 12, 13, 14, 15, 16, 17, 18, 19, 20, 21, 22, 23, 24, 25, 26, 27, 28, 29, 30, 31, 32, 33, 34, 35, 36, 37] [
  ⟨some 17, .mv (.t 0), none, []⟩,
  ⟨some 18, .mv (.t 5), none, []⟩,
  ⟨some 19, .ia 3 (.t 17) (.t 18), none, []⟩,
  ⟨some 20, .fa 0 (.t 19), none, []⟩,
  ⟨some 21, .ld (.t 20), none, [(.t 20)]⟩,
  ⟨some 22, .mv (.t 1), none, []⟩,
  ⟨some 23, .mv (.t 5), none, []⟩,
  ⟨some 24, .ia 3 (.t 22) (.t 23), none, []⟩,
  ⟨some 25, .fa 0 (.t 24), none, []⟩,
  ⟨some 26, .ld (.t 25), none, [(.t 25)]⟩,
  ⟨some 27, .bin .neq (.t 21) (.t 26), none, []⟩,
  ⟨some 28, .mv (.t 27), none, []⟩,
  ⟨some 29, .mv (.t 0), (some (28, false)), []⟩,
  ⟨some 30, .mv (.t 5), (some (28, false)), []⟩,
  ⟨some 31, .ia 3 (.t 29) (.t 30), (some (28, false)), []⟩,
  ⟨some 32, .fa 1 (.t 31), (some (28, false)), []⟩,
  ⟨some 33, .ld (.t 32), (some (28, false)), [(.t 32)]⟩,
  ⟨some 34, .mv (.t 1), (some (28, false)), []⟩,
  ⟨some 35, .mv (.t 5), (some (28, false)), []⟩,
  ⟨some 36, .ia 3 (.t 34) (.t 35), (some (28, false)), []⟩,
  ⟨some 37, .fa 1 (.t 36), (some (28, false)), []⟩,
  ⟨some 38, .ld (.t 37), (some (28, false)), [(.t 37)]⟩,
  ⟨some 39, .bin .neq (.t 33) (.t 38), (some (28, false)), []⟩,
  ⟨some 40, .pick (.t 28) (.c (.bool true)) (.t 39), none, []⟩,
  ⟨some 41, .mv (.t 40), none, []⟩,
  ⟨some 42, .mv (.t 0), (some (41, false)), []⟩,
  ⟨some 43, .mv (.t 5), (some (41, false)), []⟩,
  ⟨some 44, .ia 3 (.t 42) (.t 43), (some (41, false)), []⟩,
  ⟨some 45, .fa 2 (.t 44), (some (41, false)), []⟩,
  ⟨some 46, .ld (.t 45), (some (41, false)), [(.t 45)]⟩,
  ⟨some 47, .mv (.t 1), (some (41, false)), []⟩,
  ⟨some 48, .mv (.t 5), (some (41, false)), []⟩,
  ⟨some 49, .ia 3 (.t 47) (.t 48), (some (41, false)), []⟩,
  ⟨some 50, .fa 2 (.t 49), (some (41, false)), []⟩,
  ⟨some 51, .ld (.t 50), (some (41, false)), [(.t 50)]⟩,
  ⟨some 52, .call (.f 80) [(.t 46), (.t 51)], (some (41, false)), []⟩,
  ⟨some 53, .not (.t 52), (some (41, false)), []⟩,
  ⟨some 54, .pick (.t 41) (.c (.bool true)) (.t 53), none, []⟩])
 (.ite (.t 54) (.seq (.reg [
  ⟨some 4, .mv (.c (.bool false)), none, []⟩])
 (.ret))
 (.skip))))
 (.reg [
  ⟨some 15, .mv (.t 5), none, []⟩,
  ⟨some 16, .bin .add (.t 15) (.c (.int .i64 1)), none, []⟩,
  ⟨some 5, .mv (.t 16), none, []⟩]))))))
 (.seq (.reg [
  ⟨some 4, .mv (.c (.bool true)), none, []⟩])
 (.ret))))⟩
def m50 : MFun := ⟨54, [.t 2, .t 3, .t 4],
 .seq (.reg [
  ⟨some 2, .mv (.c (.slice none 0 0)), none, []⟩,
  ⟨some 3, .mv (.c (.int .i64 0)), none, []⟩,
  ⟨some 4, .mv (.c (.int .i64 0)), none, []⟩])
 (.seq (.seq (.reg [
  ⟨some 7, .mv (.t 0), none, []⟩,
  ⟨some 8, .slen (.t 7), none, []⟩,
  ⟨some 9, .bin .gtr (.t 8) (.c (.int .i64 400)), none, []⟩])
 (.ite (.t 9) (.seq (.reg [
  ⟨some 2, .mv (.c (.slice none 0 0)), none, []⟩,
  ⟨some 3, .mv (.c (.int .i64 0)), none, []⟩,
  ⟨some 4, .mv (.c (.int .i64 2)), none, []⟩])
 (.ret))
 (.skip)))
 (.seq (.reg [
  ⟨some 10, .mv (.t 0), none, []⟩,
  ⟨some 11, .build [(.string ⟨#[]⟩), (.int .i64 0), (.int .i64 0), (.slice none 0 0)] [(0, 1, (.t 10)), (2, 1, (.c (.int .i64 (-1))))], none, []⟩,
  ⟨some 12, .box 153 (.t 11), none, []⟩,
  ⟨some 5, .mv (.t 12), none, []⟩])
 (.seq (.reg [
  ⟨some 13, .mv (.t 5), none, []⟩,
  ⟨some 14, .call (.f 110) [(.t 13)], none, []⟩])
 (.seq (.seq (.reg [
  ⟨some 15, .mv (.t 5), none, []⟩,
  ⟨some 16, .chk (.t 15), none, []⟩,
  ⟨some 17, .fa 2 (.t 16), none, []⟩,
  ⟨some 18, .ld (.t 17), none, []⟩,
  ⟨some 19, .bin .eql (.t 18) (.c (.int .i64 (-1))), none, []⟩,
  ⟨some 20, .mv (.t 19), none, []⟩,
  ⟨some 21, .mv (.t 5), (some (20, true)), []⟩,
  ⟨some 22, .chk (.t 21), (some (20, true)), []⟩,
  ⟨some 23, .fa 1 (.t 22), (some (20, true)), []⟩,
  ⟨some 24, .ld (.t 23), (some (20, true)), []⟩,
  ⟨some 25, .mv (.t 0), (some (20, true)), []⟩,
  ⟨some 26, .slen (.t 25), (some (20, true)), []⟩,
  ⟨some 27, .bin .lss (.t 24) (.t 26), (some (20, true)), []⟩,
  ⟨some 28, .pick (.t 20) (.t 27) (.c (.bool false)), none, []⟩])
 (.ite (.t 28) (.reg [
  ⟨some 29, .mv (.t 5), none, []⟩,
  ⟨some 30, .call (.f 111) [(.t 29)], none, []⟩])
 (.skip)))
 (.seq (.seq (.reg [
  ⟨some 31, .mv (.t 5), none, []⟩,
  ⟨some 32, .chk (.t 31), none, []⟩,
  ⟨some 33, .fa 2 (.t 32), none, []⟩,
  ⟨some 34, .ld (.t 33), none, []⟩,
  ⟨some 35, .bin .neq (.t 34) (.c (.int .i64 (-1))), none, []⟩])
 (.ite (.t 35) (.seq (.dreg [0, 1, 2, 3, 4, 5, 6] [
  ⟨some 36, .mv (.t 5), none, []⟩,
  ⟨some 37, .chk (.t 36), none, []⟩,
  ⟨some 38, .fa 2 (.t 37), none, []⟩,
  ⟨some 39, .ld (.t 38), none, [(.t 38)]⟩,
  ⟨some 2, .mv (.c (.slice none 0 0)), none, []⟩,
  ⟨some 3, .mv (.t 39), none, []⟩,
  ⟨some 4, .mv (.c (.int .i64 8)), none, []⟩])
 (.ret))
 (.skip)))
 (.seq (.seq (.reg [
  ⟨some 40, .mv (.t 5), none, []⟩,
  ⟨some 41, .chk (.t 40), none, []⟩,
  ⟨some 42, .fa 3 (.t 41), none, []⟩,
  ⟨some 43, .ld (.t 42), none, []⟩,
  ⟨some 44, .call (.f 25) [(.t 43)], none, []⟩,
  ⟨some 6, .mv (.t 44), none, []⟩])
 (.seq (.reg [
  ⟨some 45, .mv (.t 6), none, []⟩,
  ⟨some 46, .bin .neq (.t 45) (.c (.int .i64 0)), none, []⟩])
 (.ite (.t 46) (.seq (.reg [
  ⟨some 47, .mv (.t 6), none, []⟩,
  ⟨some 2, .mv (.c (.slice none 0 0)), none, []⟩,
  ⟨some 3, .mv (.c (.int .i64 0)), none, []⟩,
  ⟨some 4, .mv (.t 47), none, []⟩])
 (.ret))
 (.skip))))
 (.seq (.reg [
  ⟨some 48, .mv (.t 5), none, []⟩,
  ⟨some 49, .chk (.t 48), none, []⟩,
  ⟨some 50, .fa 3 (.t 49), none, []⟩,
  ⟨some 51, .ld (.t 50), none, []⟩,
  ⟨some 52, .mv (.t 0), none, []⟩,
  ⟨some 53, .slen (.t 52), none, []⟩,
  ⟨some 2, .mv (.t 51), none, []⟩,
  ⟨some 3, .mv (.t 53), none, []⟩,
  ⟨some 4, .mv (.c (.int .i64 0)), none, []⟩])
 (.ret))))))))⟩
def m51 : MFun := ⟨93, [.t 4, .t 5],
 .seq (.reg [
  ⟨some 2, .box 23 (.t 0), none, []⟩,
  ⟨some 4, .mv (.c (.bool false)), none, []⟩,
  ⟨some 5, .mv (.c (.int .i64 0)), none, []⟩])
 (.seq (.reg [
  ⟨some 6, .mv (.f 112), none, []⟩])
 (.seq (.seq (.reg [
  ⟨some 17, .ld (.t 2), none, []⟩,
  ⟨some 18, .call (.f 70) [(.t 17)], none, []⟩,
  ⟨some 19, .mv (.t 1), none, []⟩,
  ⟨some 20, .len (.t 19), none, []⟩,
  ⟨some 21, .bin .gtr (.t 20) (.c (.int .i64 12)), none, []⟩,
  ⟨some 22, .call (.f 67) [(.t 21), (.c (.int .i64 2))], none, []⟩,
  ⟨some 23, .mv (.t 1), none, []⟩,
  ⟨some 24, .mv (.t 6), none, []⟩,
  ⟨some 25, .call (.f 68) [(.t 23), (.t 24)], none, []⟩,
  ⟨some 26, .call (.f 67) [(.t 25), (.c (.int .i64 3))], none, []⟩,
  ⟨some 27, .lit 30 [(.int .i64 0)] [(0, 1, (.t 18)), (1, 1, (.t 22)), (2, 1, (.t 26))] 3, none, []⟩,
  ⟨some 28, .call (.f 66) [(.t 27)], none, []⟩,
  ⟨some 7, .mv (.t 28), none, []⟩])
 (.seq (.reg [
  ⟨some 29, .mv (.t 7), none, []⟩,
  ⟨some 30, .bin .neq (.t 29) (.c (.int .i64 0)), none, []⟩])
 (.ite (.t 30) (.seq (.reg [
  ⟨some 31, .mv (.t 7), none, []⟩,
  ⟨some 4, .mv (.c (.bool false)), none, []⟩,
  ⟨some 5, .mv (.t 31), none, []⟩])
 (.ret))
 (.skip))))
 (.seq (.reg [
  ⟨some 32, .lit 3 [(.int .i64 0)] [(0, 1, (.c (.int .i64 (-1))))] 1, none, []⟩,
  ⟨some 33, .ld (.t 2), none, []⟩,
  ⟨some 34, .len (.t 33), none, []⟩,
  ⟨some 35, .call (.f 113) [(.t 32), (.t 34)], none, []⟩,
  ⟨some 8, .new [(.slice none 0 0)] 24, none, []⟩,
  ⟨none, .st 1 (.t 8) (.t 35), none, []⟩])
 (.seq (.seq (.reg [
  ⟨some 36, .ld (.t 2), none, []⟩,
  ⟨some 37, .len (.t 36), none, []⟩,
  ⟨some 38, .mv (.c (.int .i64 0)), none, []⟩])
 (.blk 0 (.loop (.seq (.reg [
  ⟨some 39, .bin .lss (.t 38) (.t 37), none, []⟩])
 (.seq (.ite (.t 39) (.skip)
 (.exit 0))
 (.seq (.blk 1 (.seq (.reg [
  ⟨some 40, .mv (.t 38), none, []⟩,
  ⟨some 41, .ia 3 (.t 36) (.t 38), none, []⟩,
  ⟨some 42, .lds 3 (.t 41), none, []⟩,
  ⟨some 10, .new [(.int .i64 0), (.int .i64 0), (.slice none 0 0)] 67, none, []⟩,
  ⟨some 9, .mv (.t 40), none, []⟩,
  ⟨none, .st 3 (.t 10) (.t 42), none, []⟩])
 (.seq (.reg [
  ⟨some 43, .fa 2 (.t 10), none, []⟩,
  ⟨some 44, .ld (.t 43), none, []⟩,
  ⟨some 45, .len (.t 44), none, []⟩,
  ⟨some 46, .mv (.c (.int .i64 0)), none, []⟩])
 (.blk 2 (.loop (.seq (.reg [
  ⟨some 47, .bin .lss (.t 46) (.t 45), none, []⟩])
 (.seq (.ite (.t 47) (.skip)
 (.exit 2))
 (.seq (.blk 3 (.seq (.reg [
  ⟨some 48, .ia 1 (.t 44) (.t 46), none, []⟩,
  ⟨some 49, .ld (.t 48), none, []⟩,
  ⟨some 12, .mv (.t 49), none, []⟩])
 (.reg [
  ⟨some 50, .ld (.t 8), none, []⟩,
  ⟨some 51, .mv (.t 12), none, []⟩,
  ⟨some 52, .mv (.t 9), none, []⟩,
  ⟨some 53, .ia 1 (.t 50) (.t 51), none, []⟩,
  ⟨none, .st 1 (.t 53) (.t 52), none, []⟩])))
 (.reg [
  ⟨some 54, .bin .add (.t 46) (.c (.int .i64 1)), none, []⟩,
  ⟨some 46, .mv (.t 54), none, []⟩])))))))))
 (.reg [
  ⟨some 55, .bin .add (.t 38) (.c (.int .i64 1)), none, []⟩,
  ⟨some 38, .mv (.t 55), none, []⟩])))))))
 (.seq (.reg [
  ⟨some 56, .fn 114 [(.t 8), (.t 2)], none, []⟩,
  ⟨some 13, .mv (.t 56), none, []⟩])
 (.seq (.seq (.reg [
  ⟨some 57, .ld (.t 2), none, []⟩,
  ⟨some 58, .len (.t 57), none, []⟩,
  ⟨some 59, .mv (.c (.int .i64 0)), none, []⟩])
 (.blk 4 (.loop (.seq (.reg [
  ⟨some 60, .bin .lss (.t 59) (.t 58), none, []⟩])
 (.seq (.ite (.t 60) (.skip)
 (.exit 4))
 (.seq (.blk 5 (.seq (.reg [
  ⟨some 61, .mv (.t 59), none, []⟩,
  ⟨some 62, .ia 3 (.t 57) (.t 59), none, []⟩,
  ⟨some 63, .lds 3 (.t 62), none, []⟩,
  ⟨some 15, .new [(.int .i64 0), (.int .i64 0), (.slice none 0 0)] 67, none, []⟩,
  ⟨some 14, .mv (.t 61), none, []⟩,
  ⟨none, .st 3 (.t 15) (.t 63), none, []⟩])
 (.seq (.seq (.reg [
  ⟨some 64, .fa 0 (.t 15), none, []⟩,
  ⟨some 65, .ld (.t 64), none, []⟩,
  ⟨some 66, .bin .neq (.t 65) (.c (.int .i64 1)), none, []⟩,
  ⟨some 67, .mv (.t 66), none, []⟩,
  ⟨some 68, .mv (.t 1), (some (67, false)), []⟩,
  ⟨some 69, .fa 1 (.t 15), (some (67, false)), []⟩,
  ⟨some 70, .ld (.t 69), (some (67, false)), []⟩,
  ⟨some 71, .call (.f 91) [(.t 68), (.t 70)], (some (67, false)), []⟩,
  ⟨some 72, .not (.t 71), (some (67, false)), []⟩,
  ⟨some 73, .pick (.t 67) (.c (.bool true)) (.t 72), none, []⟩])
 (.ite (.t 73) (.exit 5)
 (.skip)))
 (.seq (.reg [
  ⟨some 74, .mv (.t 13), none, []⟩,
  ⟨some 75, .mv (.t 14), none, []⟩,
  ⟨some 76, .call (.t 74) [(.t 75)], none, []⟩,
  ⟨some 16, .mv (.t 76), none, []⟩])
 (.seq (.reg [
  ⟨some 77, .mv (.t 16), none, []⟩,
  ⟨some 78, .bin .neq (.t 77) (.c (.int .i64 7)), none, []⟩,
  ⟨some 79, .mv (.t 78), none, []⟩,
  ⟨some 80, .mv (.t 16), (some (79, true)), []⟩,
  ⟨some 81, .bin .neq (.t 80) (.c (.int .i64 2)), (some (79, true)), []⟩,
  ⟨some 82, .mv (.t 81), (some (79, true)), []⟩,
  ⟨some 83, .mv (.t 13), (some (82, false)), []⟩,
  ⟨some 84, .ld (.t 8), (some (82, false)), []⟩,
  ⟨some 85, .mv (.t 14), (some (82, false)), []⟩,
  ⟨some 86, .ia 1 (.t 84) (.t 85), (some (82, false)), []⟩,
  ⟨some 87, .ld (.t 86), (some (82, false)), []⟩,
  ⟨some 88, .call (.t 83) [(.t 87)], (some (82, false)), []⟩,
  ⟨some 89, .bin .neq (.t 88) (.c (.int .i64 6)), (some (82, false)), []⟩,
  ⟨some 90, .pick (.t 82) (.c (.bool true)) (.t 89), (some (79, true)), []⟩,
  ⟨some 91, .pick (.t 79) (.t 90) (.c (.bool false)), none, []⟩])
 (.ite (.t 91) (.seq (.reg [
  ⟨some 4, .mv (.c (.bool false)), none, []⟩,
  ⟨some 5, .mv (.c (.int .i64 0)), none, []⟩])
 (.ret))
 (.skip)))))))
 (.reg [
  ⟨some 92, .bin .add (.t 59) (.c (.int .i64 1)), none, []⟩,
  ⟨some 59, .mv (.t 92), none, []⟩])))))))
 (.seq (.reg [
  ⟨some 4, .mv (.c (.bool true)), none, []⟩,
  ⟨some 5, .mv (.c (.int .i64 0)), none, []⟩])
 (.ret))))))))⟩
def m52 : MFun := ⟨6, [.t 2],
 .seq (.reg [
  ⟨some 2, .mv (.c (.slice none 0 0)), none, []⟩])
 (.seq (.reg [
  ⟨some 3, .lit 3 [(.int .i64 0)] [] 0, none, []⟩,
  ⟨some 4, .mv (.t 0), none, []⟩,
  ⟨some 5, .app 3 1 8 [(.int .i64 0)] (.t 3) (.t 4), none, []⟩,
  ⟨some 2, .mv (.t 5), none, []⟩])
 (.ret))⟩
def m53 : MFun := ⟨19, [.t 2],
 .seq (.reg [
  ⟨some 2, .mv (.c (.int .i64 0)), none, []⟩])
 (.seq (.seq (.reg [
  ⟨some 4, .mv (.t 0), none, []⟩,
  ⟨some 5, .len (.t 4), none, []⟩,
  ⟨some 6, .bin .gtr (.t 5) (.c (.int .i64 12)), none, []⟩])
 (.ite (.t 6) (.seq (.reg [
  ⟨some 2, .mv (.c (.int .i64 2)), none, []⟩])
 (.ret))
 (.skip)))
 (.seq (.seq (.reg [
  ⟨some 3, .mv (.c (.int .i64 0)), none, []⟩])
 (.blk 0 (.loop (.seq (.seq (.reg [
  ⟨some 7, .mv (.t 3), none, []⟩,
  ⟨some 8, .mv (.t 0), none, []⟩,
  ⟨some 9, .len (.t 8), none, []⟩,
  ⟨some 10, .bin .lss (.t 7) (.t 9), none, []⟩])
 (.ite (.t 10) (.skip)
 (.exit 0)))
 (.seq (.blk 1 (.seq (.reg [
  ⟨some 13, .mv (.t 0), none, []⟩,
  ⟨some 14, .mv (.t 3), none, []⟩,
  ⟨some 15, .ia 1 (.t 13) (.t 14), none, []⟩,
  ⟨some 16, .ld (.t 15), none, []⟩,
  ⟨some 17, .call (.f 26) [(.t 16), (.c (.int .i64 0)), (.c (.int .i64 11))], none, []⟩,
  ⟨some 18, .not (.t 17), none, []⟩])
 (.ite (.t 18) (.seq (.reg [
  ⟨some 2, .mv (.c (.int .i64 3)), none, []⟩])
 (.ret))
 (.skip))))
 (.reg [
  ⟨some 11, .mv (.t 3), none, []⟩,
  ⟨some 12, .bin .add (.t 11) (.c (.int .i64 1)), none, []⟩,
  ⟨some 3, .mv (.t 12), none, []⟩]))))))
 (.seq (.reg [
  ⟨some 2, .mv (.c (.int .i64 0)), none, []⟩])
 (.ret))))⟩
def m54 : MFun := ⟨11, [.t 4],
 .seq (.reg [
  ⟨some 4, .mv (.c (.bool false)), none, []⟩])
 (.seq (.reg [
  ⟨some 5, .mv (.t 0), none, []⟩,
  ⟨some 6, .mv (.t 0), none, []⟩,
  ⟨some 7, .len (.t 6), none, []⟩,
  ⟨some 8, .bin .sub (.t 7) (.c (.int .i64 1)), none, []⟩,
  ⟨some 9, .mv (.t 1), none, []⟩,
  ⟨some 10, .call (.f 115) [(.t 5), (.t 8), (.t 9)], none, []⟩,
  ⟨some 4, .mv (.t 10), none, []⟩])
 (.ret))⟩
def m55 : MFun := ⟨17, [.cell 4 (some 2), .t 5],
 .seq (.reg [
  ⟨some 2, .box 47 (.t 0), none, []⟩,
  ⟨some 3, .box 52 (.t 1), none, []⟩,
  ⟨some 4, .new [(.slice none 0 0), (.slice none 0 0)] 26, none, []⟩,
  ⟨some 5, .mv (.c (.int .i64 0)), none, []⟩])
 (.seq (.seq (.reg [
  ⟨some 7, .lds 8 (.t 2), none, []⟩,
  ⟨some 8, .lds 2 (.t 3), none, []⟩,
  ⟨some 9, .call (.f 116) [(.t 7), (.t 8)], none, []⟩,
  ⟨some 6, .mv (.t 9), none, []⟩])
 (.seq (.reg [
  ⟨some 10, .mv (.t 6), none, []⟩,
  ⟨some 11, .bin .neq (.t 10) (.c (.int .i64 0)), none, []⟩])
 (.ite (.t 11) (.seq (.reg [
  ⟨some 12, .build [(.slice none 0 0), (.slice none 0 0)] [], none, []⟩,
  ⟨some 13, .mv (.t 6), none, []⟩,
  ⟨none, .st 2 (.t 4) (.t 12), none, []⟩,
  ⟨some 5, .mv (.t 13), none, []⟩])
 (.ret))
 (.skip))))
 (.seq (.reg [
  ⟨some 14, .lds 8 (.t 2), none, []⟩,
  ⟨some 15, .lds 2 (.t 3), none, []⟩,
  ⟨some 16, .call (.f 117) [(.t 14), (.t 15)], none, []⟩,
  ⟨none, .st 2 (.t 4) (.t 16), none, []⟩,
  ⟨some 5, .mv (.c (.int .i64 0)), none, []⟩])
 (.ret)))⟩
def m56 : MFun := ⟨16, [.t 4, .t 5],
 .seq (.reg [
  ⟨some 2, .box 47 (.t 0), none, []⟩,
  ⟨some 3, .box 52 (.t 1), none, []⟩,
  ⟨some 4, .mv (.c (.bool false)), none, []⟩,
  ⟨some 5, .mv (.c (.int .i64 0)), none, []⟩])
 (.seq (.seq (.reg [
  ⟨some 7, .lds 8 (.t 2), none, []⟩,
  ⟨some 8, .lds 2 (.t 3), none, []⟩,
  ⟨some 9, .call (.f 116) [(.t 7), (.t 8)], none, []⟩,
  ⟨some 6, .mv (.t 9), none, []⟩])
 (.seq (.reg [
  ⟨some 10, .mv (.t 6), none, []⟩,
  ⟨some 11, .bin .neq (.t 10) (.c (.int .i64 0)), none, []⟩])
 (.ite (.t 11) (.seq (.reg [
  ⟨some 12, .mv (.t 6), none, []⟩,
  ⟨some 4, .mv (.c (.bool false)), none, []⟩,
  ⟨some 5, .mv (.t 12), none, []⟩])
 (.ret))
 (.skip))))
 (.seq (.reg [
  ⟨some 13, .lds 8 (.t 2), none, []⟩,
  ⟨some 14, .lds 2 (.t 3), none, []⟩,
  ⟨some 15, .call (.f 118) [(.t 13), (.t 14)], none, []⟩,
  ⟨some 4, .mv (.t 15), none, []⟩,
  ⟨some 5, .mv (.c (.int .i64 0)), none, []⟩])
 (.ret)))⟩
def m57 : MFun := ⟨14, [.t 4],
 .seq (.reg [
  ⟨some 2, .box 47 (.t 0), none, []⟩,
  ⟨some 3, .box 52 (.t 1), none, []⟩,
  ⟨some 4, .mv (.c (.int .i64 0)), none, []⟩])
 (.seq (.reg [
  ⟨some 8, .lds 8 (.t 2), none, []⟩,
  ⟨some 9, .lds 2 (.t 3), none, []⟩,
  ⟨some 10, .call (.f 43) [(.t 8), (.t 9)], none, []⟩,
  ⟨some 7, .mv (.t 10), none, []⟩,
  ⟨some 11, .ext (.t 7) 0, none, []⟩,
  ⟨some 12, .ext (.t 7) 1, none, []⟩,
  ⟨some 5, .mv (.t 11), none, []⟩,
  ⟨some 6, .mv (.t 12), none, []⟩])
 (.seq (.reg [
  ⟨some 13, .mv (.t 6), none, []⟩,
  ⟨some 4, .mv (.t 13), none, []⟩])
 (.ret)))⟩
def m58 : MFun := ⟨47, [.cell 4 (some 2)],
 .seq (.reg [
  ⟨some 2, .box 47 (.t 0), none, []⟩,
  ⟨some 3, .box 52 (.t 1), none, []⟩,
  ⟨some 4, .new [(.slice none 0 0), (.slice none 0 0)] 26, none, []⟩])
 (.seq (.reg [
  ⟨some 5, .new [(.slice none 0 0), (.slice none 0 0)] 26, none, []⟩])
 (.seq (.seq (.reg [
  ⟨some 6, .mv (.c (.int .i64 0)), none, []⟩])
 (.blk 0 (.loop (.seq (.seq (.reg [
  ⟨some 8, .mv (.t 6), none, []⟩,
  ⟨some 9, .fa 0 (.t 3), none, []⟩,
  ⟨some 10, .ld (.t 9), none, []⟩,
  ⟨some 11, .len (.t 10), none, []⟩,
  ⟨some 12, .fa 1 (.t 3), none, []⟩,
  ⟨some 13, .ld (.t 12), none, []⟩,
  ⟨some 14, .len (.t 13), none, []⟩,
  ⟨some 15, .bin .add (.t 11) (.t 14), none, []⟩,
  ⟨some 16, .bin .lss (.t 8) (.t 15), none, []⟩])
 (.ite (.t 16) (.skip)
 (.exit 0)))
 (.seq (.blk 1 (.seq (.dreg [0, 1, 2, 4, 5, 6, 3, 7, 8, 9, 10] [
  ⟨some 19, .lds 8 (.t 2), none, [(.t 2)]⟩,
  ⟨some 20, .lds 2 (.t 3), none, [(.t 3)]⟩,
  ⟨some 21, .mv (.t 6), none, []⟩,
  ⟨some 23, .lds 2 (.t 3), none, [(.t 3)]⟩,
  ⟨some 24, .lds 2 (.t 3), none, [(.t 3)]⟩,
  ⟨some 25, .mv (.t 6), none, []⟩,
  ⟨some 22, .call (.f 94) [(.t 20), (.t 21)], none, [(.t 2), (.t 3)]⟩,
  ⟨some 26, .call (.f 97) [(.t 24), (.t 25)], none, [(.t 2), (.t 3)]⟩,
  ⟨some 27, .call (.f 94) [(.t 23), (.t 26)], none, [(.t 2)]⟩,
  ⟨some 28, .call (.f 119) [(.t 19), (.t 22), (.t 27)], none, []⟩,
  ⟨some 7, .mv (.t 28), none, []⟩])
 (.seq (.reg [
  ⟨some 29, .mv (.t 6), none, []⟩,
  ⟨some 30, .fa 0 (.t 3), none, []⟩,
  ⟨some 31, .ld (.t 30), none, []⟩,
  ⟨some 32, .len (.t 31), none, []⟩,
  ⟨some 33, .bin .lss (.t 29) (.t 32), none, []⟩])
 (.ite (.t 33) (.reg [
  ⟨some 34, .fa 0 (.t 5), none, []⟩,
  ⟨some 35, .ld (.t 34), none, []⟩,
  ⟨some 36, .mv (.t 7), none, []⟩,
  ⟨some 37, .lit 3 [(.int .i64 0)] [(0, 1, (.t 36))] 1, none, []⟩,
  ⟨some 38, .app 3 1 8 [(.int .i64 0)] (.t 35) (.t 37), none, []⟩,
  ⟨some 39, .fa 0 (.t 5), none, []⟩,
  ⟨none, .st 1 (.t 39) (.t 38), none, []⟩])
 (.reg [
  ⟨some 40, .fa 1 (.t 5), none, []⟩,
  ⟨some 41, .ld (.t 40), none, []⟩,
  ⟨some 42, .mv (.t 7), none, []⟩,
  ⟨some 43, .lit 3 [(.int .i64 0)] [(0, 1, (.t 42))] 1, none, []⟩,
  ⟨some 44, .app 3 1 8 [(.int .i64 0)] (.t 41) (.t 43), none, []⟩,
  ⟨some 45, .fa 1 (.t 5), none, []⟩,
  ⟨none, .st 1 (.t 45) (.t 44), none, []⟩])))))
 (.reg [
  ⟨some 17, .mv (.t 6), none, []⟩,
  ⟨some 18, .bin .add (.t 17) (.c (.int .i64 1)), none, []⟩,
  ⟨some 6, .mv (.t 18), none, []⟩]))))))
 (.seq (.reg [
  ⟨some 46, .lds 2 (.t 5), none, []⟩,
  ⟨none, .st 2 (.t 4) (.t 46), none, []⟩])
 (.ret))))⟩
def m59 : MFun := ⟨64, [.t 4],
 .seq (.reg [
  ⟨some 2, .box 47 (.t 0), none, []⟩,
  ⟨some 3, .box 52 (.t 1), none, []⟩,
  ⟨some 4, .mv (.c (.bool false)), none, []⟩])
 (.seq (.seq (.reg [
  ⟨some 5, .mv (.c (.int .i64 0)), none, []⟩])
 (.blk 0 (.loop (.seq (.seq (.reg [
  ⟨some 7, .mv (.t 5), none, []⟩,
  ⟨some 8, .fa 6 (.t 2), none, []⟩,
  ⟨some 9, .ld (.t 8), none, []⟩,
  ⟨some 10, .len (.t 9), none, []⟩,
  ⟨some 11, .bin .lss (.t 7) (.t 10), none, []⟩])
 (.ite (.t 11) (.skip)
 (.exit 0)))
 (.seq (.blk 1 (.seq (.dreg [0, 1, 2, 3, 4, 5, 6, 7, 8, 9, 10, 11, 12, 13, 14, 15, 16, 18, 19, 20, 17, 21, 22] [
  ⟨some 14, .lds 8 (.t 2), none, [(.t 2)]⟩,
  ⟨some 15, .lds 2 (.t 3), none, [(.t 3)]⟩,
  ⟨some 16, .fa 6 (.t 2), none, []⟩,
  ⟨some 17, .ld (.t 16), none, [(.t 16)]⟩,
  ⟨some 18, .mv (.t 5), none, []⟩,
  ⟨some 19, .ia 1 (.t 17) (.t 18), none, []⟩,
  ⟨some 20, .ld (.t 19), none, [(.t 19)]⟩,
  ⟨some 21, .call (.f 120) [(.t 14), (.t 15), (.t 20)], none, []⟩,
  ⟨some 22, .not (.t 21), none, []⟩,
  ⟨some 23, .mv (.t 22), none, []⟩,
  ⟨some 24, .lds 8 (.t 2), (some (23, true)), [(.t 2)]⟩,
  ⟨some 25, .lds 2 (.t 3), (some (23, true)), [(.t 3)]⟩,
  ⟨some 26, .fa 6 (.t 2), (some (23, true)), []⟩,
  ⟨some 27, .ld (.t 26), (some (23, true)), [(.t 26)]⟩,
  ⟨some 28, .mv (.t 5), (some (23, true)), []⟩,
  ⟨some 29, .ia 1 (.t 27) (.t 28), (some (23, true)), []⟩,
  ⟨some 30, .ld (.t 29), (some (23, true)), [(.t 29)]⟩,
  ⟨some 32, .fa 1 (.t 3), (some (23, true)), []⟩,
  ⟨some 33, .ld (.t 32), (some (23, true)), [(.t 32)]⟩,
  ⟨some 34, .len (.t 33), (some (23, true)), []⟩,
  ⟨some 31, .call (.f 121) [(.t 24), (.t 25), (.t 30)], (some (23, true)), [(.t 32)]⟩,
  ⟨some 35, .bin .eql (.t 31) (.t 34), (some (23, true)), []⟩,
  ⟨some 36, .pick (.t 23) (.t 35) (.c (.bool false)), none, []⟩])
 (.ite (.t 36) (.seq (.reg [
  ⟨some 4, .mv (.c (.bool false)), none, []⟩])
 (.ret))
 (.skip))))
 (.reg [
  ⟨some 12, .mv (.t 5), none, []⟩,
  ⟨some 13, .bin .add (.t 12) (.c (.int .i64 1)), none, []⟩,
  ⟨some 5, .mv (.t 13), none, []⟩]))))))
 (.seq (.seq (.reg [
  ⟨some 6, .mv (.c (.int .i64 0)), none, []⟩])
 (.blk 2 (.loop (.seq (.seq (.reg [
  ⟨some 37, .mv (.t 6), none, []⟩,
  ⟨some 38, .fa 7 (.t 2), none, []⟩,
  ⟨some 39, .ld (.t 38), none, []⟩,
  ⟨some 40, .len (.t 39), none, []⟩,
  ⟨some 41, .bin .lss (.t 37) (.t 40), none, []⟩])
 (.ite (.t 41) (.skip)
 (.exit 2)))
 (.seq (.blk 3 (.seq (.dreg [0, 1, 2, 3, 4, 5, 6, 7, 8, 9, 10, 11, 12, 13, 14, 15, 16, 17, 18, 19] [
  ⟨some 44, .lds 8 (.t 2), none, [(.t 2)]⟩,
  ⟨some 45, .lds 2 (.t 3), none, [(.t 3)]⟩,
  ⟨some 46, .fa 7 (.t 2), none, []⟩,
  ⟨some 47, .ld (.t 46), none, [(.t 46)]⟩,
  ⟨some 48, .mv (.t 6), none, []⟩,
  ⟨some 49, .ia 1 (.t 47) (.t 48), none, []⟩,
  ⟨some 50, .ld (.t 49), none, [(.t 49)]⟩,
  ⟨some 51, .call (.f 120) [(.t 44), (.t 45), (.t 50)], none, []⟩,
  ⟨some 52, .not (.t 51), none, []⟩,
  ⟨some 53, .mv (.t 52), none, []⟩,
  ⟨some 54, .lds 8 (.t 2), (some (53, true)), [(.t 2)]⟩,
  ⟨some 55, .lds 2 (.t 3), (some (53, true)), [(.t 3)]⟩,
  ⟨some 56, .fa 7 (.t 2), (some (53, true)), []⟩,
  ⟨some 57, .ld (.t 56), (some (53, true)), [(.t 56)]⟩,
  ⟨some 58, .mv (.t 6), (some (53, true)), []⟩,
  ⟨some 59, .ia 1 (.t 57) (.t 58), (some (53, true)), []⟩,
  ⟨some 60, .ld (.t 59), (some (53, true)), [(.t 59)]⟩,
  ⟨some 61, .call (.f 121) [(.t 54), (.t 55), (.t 60)], (some (53, true)), []⟩,
  ⟨some 62, .bin .gtr (.t 61) (.c (.int .i64 0)), (some (53, true)), []⟩,
  ⟨some 63, .pick (.t 53) (.t 62) (.c (.bool false)), none, []⟩])
 (.ite (.t 63) (.seq (.reg [
  ⟨some 4, .mv (.c (.bool false)), none, []⟩])
 (.ret))
 (.skip))))
 (.reg [
  ⟨some 42, .mv (.t 6), none, []⟩,
  ⟨some 43, .bin .add (.t 42) (.c (.int .i64 1)), none, []⟩,
  ⟨some 6, .mv (.t 43), none, []⟩]))))))
 (.seq (.reg [
  ⟨some 4, .mv (.c (.bool true)), none, []⟩])
 (.ret))))⟩
def m60 : MFun := ⟨10, [.t 4],
 .seq (.reg [
  ⟨some 4, .mv (.c (.bool false)), none, []⟩])
 (.seq (.reg [
  ⟨some 5, .mv (.t 0), none, []⟩,
  ⟨some 6, .mv (.t 1), none, []⟩,
  ⟨some 7, .bin .shr (.t 5) (.t 6), none, []⟩,
  ⟨some 8, .bin .rem (.t 7) (.c (.int .i64 2)), none, []⟩,
  ⟨some 9, .bin .eql (.t 8) (.c (.int .i64 1)), none, []⟩,
  ⟨some 4, .mv (.t 9), none, []⟩])
 (.ret))⟩
def m61 : MFun := ⟨15, [.t 4],
 .seq (.reg [
  ⟨some 4, .mv (.c (.int .i64 0)), none, []⟩])
 (.seq (.reg [
  ⟨some 6, .mv (.t 0), none, []⟩,
  ⟨some 7, .mv (.t 1), none, []⟩,
  ⟨some 8, .bin .rem (.t 6) (.t 7), none, []⟩,
  ⟨some 5, .mv (.t 8), none, []⟩])
 (.seq (.seq (.reg [
  ⟨some 9, .mv (.t 5), none, []⟩,
  ⟨some 10, .bin .lss (.t 9) (.c (.int .i64 0)), none, []⟩])
 (.ite (.t 10) (.reg [
  ⟨some 11, .mv (.t 5), none, []⟩,
  ⟨some 12, .mv (.t 1), none, []⟩,
  ⟨some 13, .bin .add (.t 11) (.t 12), none, []⟩,
  ⟨some 5, .mv (.t 13), none, []⟩])
 (.skip)))
 (.seq (.reg [
  ⟨some 14, .mv (.t 5), none, []⟩,
  ⟨some 4, .mv (.t 14), none, []⟩])
 (.ret))))⟩
def m62 : MFun := ⟨6, [.t 2],
 .seq (.reg [
  ⟨some 2, .mv (.c (.slice none 0 0)), none, []⟩])
 (.seq (.reg [
  ⟨some 3, .mv (.t 0), none, []⟩,
  ⟨some 4, .build [(.int .i64 0), (.int .i64 0), (.slice none 0 0)] [(0, 1, (.c (.int .i64 1))), (1, 1, (.t 3))], none, []⟩,
  ⟨some 5, .lit 67 [(.int .i64 0), (.int .i64 0), (.slice none 0 0)] [(0, 3, (.t 4))] 1, none, []⟩,
  ⟨some 2, .mv (.t 5), none, []⟩])
 (.ret))⟩
def m63 : MFun := ⟨12, [.cell 2 (some 8)],
 .seq (.reg [
  ⟨some 2, .new [(.int .i64 0), (.slice none 0 0), (.slice none 0 0), (.slice none 0 0), (.slice none 0 0), (.slice none 0 0), (.slice none 0 0), (.slice none 0 0)] 47, none, []⟩])
 (.seq (.reg [
  ⟨some 3, .lit 3 [(.int .i64 0)] [(0, 1, (.c (.int .i64 0)))] 1, none, []⟩,
  ⟨some 4, .build [(.int .i64 0), (.int .i64 0), (.int .i64 0)] [(0, 1, (.c (.int .i64 0))), (1, 1, (.c (.int .i64 1)))], none, []⟩,
  ⟨some 5, .lit 129 [(.int .i64 0), (.int .i64 0), (.int .i64 0)] [(0, 3, (.t 4))] 1, none, []⟩,
  ⟨some 6, .build [(.int .i64 0), (.slice none 0 0), (.slice none 0 0)] [(0, 1, (.c (.int .i64 2))), (1, 1, (.t 3)), (2, 1, (.t 5))], none, []⟩,
  ⟨some 7, .lit 3 [(.int .i64 0)] [(0, 1, (.c (.int .i64 0))), (1, 1, (.c (.int .i64 1)))] 2, none, []⟩,
  ⟨some 8, .lit 3 [(.int .i64 0)] [(0, 1, (.c (.int .i64 1)))] 1, none, []⟩,
  ⟨some 9, .lit 3 [(.int .i64 0)] [(0, 1, (.c (.int .i64 2)))] 1, none, []⟩,
  ⟨some 10, .mv (.t 0), none, []⟩,
  ⟨some 11, .build [(.int .i64 0), (.slice none 0 0), (.slice none 0 0), (.slice none 0 0), (.slice none 0 0), (.slice none 0 0), (.slice none 0 0), (.slice none 0 0)] [(0, 3, (.t 6)), (3, 1, (.t 7)), (4, 1, (.t 8)), (5, 1, (.t 9)), (6, 1, (.t 10))], none, []⟩,
  ⟨none, .st 8 (.t 2) (.t 11), none, []⟩])
 (.ret))⟩
def m64 : MFun := ⟨6, [.t 2],
 .seq (.reg [
  ⟨some 2, .mv (.c (.bool false)), none, []⟩])
 (.seq (.reg [
  ⟨some 3, .mv (.t 0), none, []⟩,
  ⟨some 4, .call (.f 65) [(.t 3), (.c (.int .i64 0)), (.c (.int .i64 4095))], none, []⟩,
  ⟨some 5, .not (.t 4), none, []⟩,
  ⟨some 2, .mv (.t 5), none, []⟩])
 (.ret))⟩
def m65 : MFun := ⟨15, [.t 6],
 .seq (.reg [
  ⟨some 6, .mv (.c (.bool false)), none, []⟩])
 (.seq (.reg [
  ⟨some 7, .mv (.t 1), none, []⟩,
  ⟨some 8, .mv (.t 0), none, []⟩,
  ⟨some 9, .bin .leq (.t 7) (.t 8), none, []⟩,
  ⟨some 10, .mv (.t 9), none, []⟩,
  ⟨some 11, .mv (.t 0), (some (10, true)), []⟩,
  ⟨some 12, .mv (.t 2), (some (10, true)), []⟩,
  ⟨some 13, .bin .leq (.t 11) (.t 12), (some (10, true)), []⟩,
  ⟨some 14, .pick (.t 10) (.t 13) (.c (.bool false)), none, []⟩,
  ⟨some 6, .mv (.t 14), none, []⟩])
 (.ret))⟩
def m66 : MFun := ⟨18, [.t 2],
 .seq (.reg [
  ⟨some 2, .mv (.c (.int .i64 0)), none, []⟩])
 (.seq (.reg [
  ⟨some 3, .mv (.c (.int .i64 0)), none, []⟩])
 (.seq (.seq (.reg [
  ⟨some 6, .mv (.t 0), none, []⟩,
  ⟨some 7, .len (.t 6), none, []⟩,
  ⟨some 8, .mv (.c (.int .i64 0)), none, []⟩])
 (.blk 0 (.loop (.seq (.reg [
  ⟨some 9, .bin .lss (.t 8) (.t 7), none, []⟩])
 (.seq (.ite (.t 9) (.skip)
 (.exit 0))
 (.seq (.blk 1 (.seq (.reg [
  ⟨some 10, .ia 1 (.t 6) (.t 8), none, []⟩,
  ⟨some 11, .ld (.t 10), none, []⟩,
  ⟨some 5, .mv (.t 11), none, []⟩])
 (.seq (.reg [
  ⟨some 12, .mv (.t 5), none, []⟩,
  ⟨some 13, .mv (.t 3), none, []⟩,
  ⟨some 14, .bin .neq (.t 12) (.t 13), none, []⟩])
 (.ite (.t 14) (.seq (.reg [
  ⟨some 15, .mv (.t 5), none, []⟩,
  ⟨some 2, .mv (.t 15), none, []⟩])
 (.ret))
 (.skip)))))
 (.reg [
  ⟨some 16, .bin .add (.t 8) (.c (.int .i64 1)), none, []⟩,
  ⟨some 8, .mv (.t 16), none, []⟩])))))))
 (.seq (.reg [
  ⟨some 17, .mv (.t 3), none, []⟩,
  ⟨some 2, .mv (.t 17), none, []⟩])
 (.ret))))⟩
def m67 : MFun := ⟨7, [.t 4],
 .seq (.reg [
  ⟨some 4, .mv (.c (.int .i64 0)), none, []⟩])
 (.seq (.seq (.reg [
  ⟨some 5, .mv (.t 0), none, []⟩])
 (.ite (.t 5) (.seq (.reg [
  ⟨some 6, .mv (.t 1), none, []⟩,
  ⟨some 4, .mv (.t 6), none, []⟩])
 (.ret))
 (.skip)))
 (.seq (.reg [
  ⟨some 4, .mv (.c (.int .i64 0)), none, []⟩])
 (.ret)))⟩
def m68 : MFun := ⟨9, [.t 4],
 .seq (.reg [
  ⟨some 4, .mv (.c (.bool false)), none, []⟩])
 (.seq (.reg [
  ⟨some 5, .mv (.t 0), none, []⟩,
  ⟨some 6, .mv (.t 1), none, []⟩,
  ⟨some 7, .call (.f 122) [(.t 5), (.t 6)], none, []⟩,
  ⟨some 8, .bin .geq (.t 7) (.c (.int .i64 0)), none, []⟩,
  ⟨some 4, .mv (.t 8), none, []⟩])
 (.ret))⟩
def m69 : MFun := ⟨28, [.t 4],
 .seq (.reg [
  ⟨some 2, .box 26 (.t 0), none, []⟩,
  ⟨some 4, .mv (.c (.int .i64 0)), none, []⟩])
 (.seq (.seq (.reg [
  ⟨some 5, .mv (.t 1), none, []⟩,
  ⟨some 6, .fa 0 (.t 2), none, []⟩,
  ⟨some 7, .ld (.t 6), none, []⟩,
  ⟨some 8, .len (.t 7), none, []⟩,
  ⟨some 9, .bin .lss (.t 5) (.t 8), none, []⟩])
 (.ite (.t 9) (.seq (.reg [
  ⟨some 10, .fa 0 (.t 2), none, []⟩,
  ⟨some 11, .ld (.t 10), none, []⟩,
  ⟨some 12, .mv (.t 1), none, []⟩,
  ⟨some 13, .ia 1 (.t 11) (.t 12), none, []⟩,
  ⟨some 14, .ld (.t 13), none, []⟩,
  ⟨some 4, .mv (.t 14), none, []⟩])
 (.ret))
 (.skip)))
 (.seq (.dreg [0, 1, 2, 3, 4, 5, 6, 7, 8, 9, 10, 11, 12, 13] [
  ⟨some 15, .fa 1 (.t 2), none, []⟩,
  ⟨some 16, .ld (.t 15), none, [(.t 15)]⟩,
  ⟨some 17, .mv (.t 1), none, []⟩,
  ⟨some 18, .fa 0 (.t 2), none, []⟩,
  ⟨some 19, .ld (.t 18), none, [(.t 18)]⟩,
  ⟨some 20, .len (.t 19), none, []⟩,
  ⟨some 21, .bin .sub (.t 17) (.t 20), none, []⟩,
  ⟨some 22, .fa 1 (.t 2), none, []⟩,
  ⟨some 23, .ld (.t 22), none, [(.t 22)]⟩,
  ⟨some 24, .len (.t 23), none, []⟩,
  ⟨some 25, .bin .rem (.t 21) (.t 24), none, []⟩,
  ⟨some 26, .ia 1 (.t 16) (.t 25), none, []⟩,
  ⟨some 27, .ld (.t 26), none, [(.t 26)]⟩,
  ⟨some 4, .mv (.t 27), none, []⟩])
 (.ret)))⟩
def m70 : MFun := ⟨11, [.t 2],
 .seq (.reg [
  ⟨some 2, .mv (.c (.int .i64 0)), none, []⟩])
 (.seq (.reg [
  ⟨some 6, .mv (.t 0), none, []⟩,
  ⟨some 7, .call (.f 44) [(.t 6)], none, []⟩,
  ⟨some 5, .mv (.t 7), none, []⟩,
  ⟨some 8, .ext (.t 5) 0, none, []⟩,
  ⟨some 9, .ext (.t 5) 1, none, []⟩,
  ⟨some 3, .mv (.t 8), none, []⟩,
  ⟨some 4, .mv (.t 9), none, []⟩])
 (.seq (.reg [
  ⟨some 10, .mv (.t 4), none, []⟩,
  ⟨some 2, .mv (.t 10), none, []⟩])
 (.ret)))⟩
def m71 : MFun := ⟨8, [.t 2],
 .seq (.reg [
  ⟨some 2, .mv (.c (.slice none 0 0)), none, []⟩])
 (.seq (.seq (.reg [
  ⟨some 3, .mv (.t 0), none, []⟩,
  ⟨some 4, .eq false .slice (.t 3) (.c (.slice none 0 0)), none, []⟩])
 (.ite (.t 4) (.seq (.reg [
  ⟨some 2, .mv (.c (.slice none 0 0)), none, []⟩])
 (.ret))
 (.skip)))
 (.seq (.reg [
  ⟨some 5, .lit 4 [(.bool false)] [] 0, none, []⟩,
  ⟨some 6, .mv (.t 0), none, []⟩,
  ⟨some 7, .app 4 1 1 [(.bool false)] (.t 5) (.t 6), none, []⟩,
  ⟨some 2, .mv (.t 7), none, []⟩])
 (.ret)))⟩
def m72 : MFun := ⟨136, [.t 4],
 .seq (.reg [
  ⟨some 3, .box 26 (.t 1), none, []⟩,
  ⟨some 4, .mv (.c (.slice none 0 0)), none, []⟩])
 (.seq (.reg [
  ⟨some 15, .fa 0 (.t 3), none, []⟩,
  ⟨some 16, .ld (.t 15), none, []⟩,
  ⟨some 17, .fa 1 (.t 3), none, []⟩,
  ⟨some 18, .ld (.t 17), none, []⟩,
  ⟨some 19, .lit 24 [(.slice none 0 0)] [(0, 1, (.t 16)), (1, 1, (.t 18))] 2, none, []⟩,
  ⟨some 20, .call (.f 84) [(.t 19)], none, []⟩,
  ⟨some 5, .mv (.t 20), none, []⟩])
 (.seq (.reg [
  ⟨some 21, .mv (.t 5), none, []⟩,
  ⟨some 22, .len (.t 21), none, []⟩,
  ⟨some 23, .fa 0 (.t 3), none, []⟩,
  ⟨some 24, .ld (.t 23), none, []⟩,
  ⟨some 25, .len (.t 24), none, []⟩,
  ⟨some 26, .build [(.int .i64 0), (.int .i64 0)] [(0, 1, (.t 22)), (1, 1, (.t 25))], none, []⟩,
  ⟨some 6, .new [(.int .i64 0), (.int .i64 0)] 135, none, []⟩,
  ⟨none, .st 2 (.t 6) (.t 26), none, []⟩])
 (.seq (.reg [
  ⟨some 7, .mv (.c (.slice none 0 0)), none, []⟩])
 (.seq (.seq (.reg [
  ⟨some 27, .mv (.t 0), none, []⟩,
  ⟨some 28, .len (.t 27), none, []⟩,
  ⟨some 29, .mv (.c (.int .i64 0)), none, []⟩])
 (.blk 0 (.loop (.seq (.reg [
  ⟨some 30, .bin .lss (.t 29) (.t 28), none, []⟩])
 (.seq (.ite (.t 30) (.skip)
 (.exit 0))
 (.seq (.blk 1 (.seq (.reg [
  ⟨some 31, .ia 3 (.t 27) (.t 29), none, []⟩,
  ⟨some 32, .lds 3 (.t 31), none, []⟩,
  ⟨some 9, .new [(.int .i64 0), (.int .i64 0), (.slice none 0 0)] 67, none, []⟩,
  ⟨none, .st 3 (.t 9) (.t 32), none, []⟩])
 (.seq (.reg [
  ⟨some 10, .mv (.c (.slice none 0 0)), none, []⟩,
  ⟨some 11, .mv (.c (.slice none 0 0)), none, []⟩])
 (.seq (.seq (.reg [
  ⟨some 33, .fa 2 (.t 9), none, []⟩,
  ⟨some 34, .ld (.t 33), none, []⟩,
  ⟨some 35, .len (.t 34), none, []⟩,
  ⟨some 36, .bin .gtr (.t 35) (.c (.int .i64 0)), none, []⟩])
 (.ite (.t 36) (.dreg [0, 1, 2, 3, 4, 5, 6, 7, 8, 9, 10, 11, 12, 13, 14, 15, 16, 17, 18, 19] [
  ⟨some 37, .mv (.t 7), none, []⟩,
  ⟨some 38, .fa 2 (.t 9), none, []⟩,
  ⟨some 39, .ld (.t 38), none, [(.t 38)]⟩,
  ⟨some 40, .ia 1 (.t 39) (.c (.int .i64 0)), none, []⟩,
  ⟨some 41, .ld (.t 40), none, [(.t 40)]⟩,
  ⟨some 42, .ia 1 (.t 37) (.t 41), none, []⟩,
  ⟨some 43, .ld (.t 42), none, [(.t 42)]⟩,
  ⟨some 44, .mv (.t 7), none, []⟩,
  ⟨some 45, .fa 2 (.t 9), none, []⟩,
  ⟨some 46, .ld (.t 45), none, [(.t 45)]⟩,
  ⟨some 47, .fa 2 (.t 9), none, []⟩,
  ⟨some 48, .ld (.t 47), none, [(.t 47)]⟩,
  ⟨some 49, .len (.t 48), none, []⟩,
  ⟨some 50, .bin .sub (.t 49) (.c (.int .i64 1)), none, []⟩,
  ⟨some 51, .ia 1 (.t 46) (.t 50), none, []⟩,
  ⟨some 52, .ld (.t 51), none, [(.t 51)]⟩,
  ⟨some 53, .ia 1 (.t 44) (.t 52), none, []⟩,
  ⟨some 54, .ld (.t 53), none, [(.t 53)]⟩,
  ⟨some 10, .mv (.t 43), none, []⟩,
  ⟨some 11, .mv (.t 54), none, []⟩])
 (.skip)))
 (.seq (.reg [
  ⟨some 12, .mv (.c (.slice none 0 0)), none, []⟩])
 (.seq (.seq (.reg [
  ⟨some 55, .fa 0 (.t 9), none, []⟩,
  ⟨some 56, .ld (.t 55), none, []⟩])
 (.blk 2 (.seq (.reg [
  ⟨some 58, .bin .eql (.t 56) (.c (.int .i64 0)), none, []⟩,
  ⟨some 57, .mv (.t 58), none, []⟩])
 (.ite (.t 57) (.reg [
  ⟨some 59, .lit 4 [(.bool false)] [(0, 1, (.c (.bool true)))] 1, none, []⟩,
  ⟨some 60, .fa 0 (.t 6), none, []⟩,
  ⟨some 61, .ld (.t 60), none, []⟩,
  ⟨some 62, .call (.f 123) [(.t 59), (.t 61)], none, []⟩,
  ⟨some 12, .mv (.t 62), none, []⟩])
 (.seq (.reg [
  ⟨some 64, .bin .eql (.t 56) (.c (.int .i64 1)), none, []⟩,
  ⟨some 63, .mv (.t 64), none, []⟩])
 (.ite (.t 63) (.seq (.reg [
  ⟨some 65, .mv (.t 5), none, []⟩,
  ⟨some 66, .len (.t 65), none, []⟩,
  ⟨some 67, .mv (.c (.int .i64 0)), none, []⟩])
 (.blk 3 (.loop (.seq (.reg [
  ⟨some 68, .bin .lss (.t 67) (.t 66), none, []⟩])
 (.seq (.ite (.t 68) (.skip)
 (.exit 3))
 (.seq (.blk 4 (.seq (.reg [
  ⟨some 69, .ia 1 (.t 65) (.t 67), none, []⟩,
  ⟨some 70, .ld (.t 69), none, []⟩,
  ⟨some 14, .mv (.t 70), none, []⟩])
 (.reg [
  ⟨some 71, .mv (.t 12), none, []⟩,
  ⟨some 72, .mv (.t 14), none, []⟩,
  ⟨some 73, .fa 1 (.t 9), none, []⟩,
  ⟨some 74, .ld (.t 73), none, []⟩,
  ⟨some 75, .bin .shr (.t 72) (.t 74), none, []⟩,
  ⟨some 76, .bin .and (.t 75) (.c (.int .i64 1)), none, []⟩,
  ⟨some 77, .bin .eql (.t 76) (.c (.int .i64 1)), none, []⟩,
  ⟨some 78, .lit 4 [(.bool false)] [(0, 1, (.t 77))] 1, none, []⟩,
  ⟨some 79, .app 4 1 1 [(.bool false)] (.t 71) (.t 78), none, []⟩,
  ⟨some 12, .mv (.t 79), none, []⟩])))
 (.reg [
  ⟨some 80, .bin .add (.t 67) (.c (.int .i64 1)), none, []⟩,
  ⟨some 67, .mv (.t 80), none, []⟩])))))))
 (.seq (.reg [
  ⟨some 82, .bin .eql (.t 56) (.c (.int .i64 2)), none, []⟩,
  ⟨some 81, .mv (.t 82), none, []⟩])
 (.ite (.t 81) (.reg [
  ⟨some 83, .mv (.t 10), none, []⟩,
  ⟨some 84, .call (.f 124) [(.t 83)], none, []⟩,
  ⟨some 12, .mv (.t 84), none, []⟩])
 (.seq (.reg [
  ⟨some 86, .bin .eql (.t 56) (.c (.int .i64 3)), none, []⟩,
  ⟨some 85, .mv (.t 86), none, []⟩])
 (.ite (.t 85) (.reg [
  ⟨some 87, .mv (.t 10), none, []⟩,
  ⟨some 88, .mv (.t 11), none, []⟩,
  ⟨some 89, .call (.f 125) [(.t 87), (.t 88), (.f 126)], none, []⟩,
  ⟨some 12, .mv (.t 89), none, []⟩])
 (.seq (.reg [
  ⟨some 91, .bin .eql (.t 56) (.c (.int .i64 4)), none, []⟩,
  ⟨some 90, .mv (.t 91), none, []⟩])
 (.ite (.t 90) (.reg [
  ⟨some 92, .mv (.t 10), none, []⟩,
  ⟨some 93, .mv (.t 11), none, []⟩,
  ⟨some 94, .call (.f 125) [(.t 92), (.t 93), (.f 127)], none, []⟩,
  ⟨some 12, .mv (.t 94), none, []⟩])
 (.seq (.reg [
  ⟨some 96, .bin .eql (.t 56) (.c (.int .i64 5)), none, []⟩,
  ⟨some 95, .mv (.t 96), none, []⟩])
 (.ite (.t 95) (.reg [
  ⟨some 97, .mv (.t 10), none, []⟩,
  ⟨some 98, .mv (.t 11), none, []⟩,
  ⟨some 99, .call (.f 125) [(.t 97), (.t 98), (.f 128)], none, []⟩,
  ⟨some 12, .mv (.t 99), none, []⟩])
 (.seq (.reg [
  ⟨some 101, .bin .eql (.t 56) (.c (.int .i64 6)), none, []⟩,
  ⟨some 100, .mv (.t 101), none, []⟩])
 (.ite (.t 100) (.reg [
  ⟨some 102, .lds 2 (.t 6), none, []⟩,
  ⟨some 103, .mv (.t 10), none, []⟩,
  ⟨some 104, .call (.f 129) [(.t 102), (.t 103)], none, []⟩,
  ⟨some 12, .mv (.t 104), none, []⟩])
 (.seq (.reg [
  ⟨some 106, .bin .eql (.t 56) (.c (.int .i64 7)), none, []⟩,
  ⟨some 105, .mv (.t 106), none, []⟩])
 (.ite (.t 105) (.reg [
  ⟨some 107, .lds 2 (.t 6), none, []⟩,
  ⟨some 108, .mv (.t 10), none, []⟩,
  ⟨some 109, .call (.f 130) [(.t 107), (.t 108)], none, []⟩,
  ⟨some 12, .mv (.t 109), none, []⟩])
 (.seq (.reg [
  ⟨some 111, .bin .eql (.t 56) (.c (.int .i64 8)), none, []⟩,
  ⟨some 110, .mv (.t 111), none, []⟩])
 (.ite (.t 110) (.dreg [0, 1, 2, 3, 4, 5, 6, 7] [
  ⟨some 112, .lds 2 (.t 6), none, [(.t 6)]⟩,
  ⟨some 113, .mv (.t 10), none, []⟩,
  ⟨some 114, .lds 2 (.t 6), none, [(.t 6)]⟩,
  ⟨some 115, .mv (.t 11), none, []⟩,
  ⟨some 116, .call (.f 130) [(.t 114), (.t 115)], none, [(.t 6)]⟩,
  ⟨some 117, .call (.f 125) [(.t 113), (.t 116), (.f 128)], none, [(.t 6)]⟩,
  ⟨some 118, .call (.f 129) [(.t 112), (.t 117)], none, []⟩,
  ⟨some 12, .mv (.t 118), none, []⟩])
 (.seq (.reg [
  ⟨some 120, .bin .eql (.t 56) (.c (.int .i64 9)), none, []⟩,
  ⟨some 119, .mv (.t 120), none, []⟩])
 (.ite (.t 119) (.reg [
  ⟨some 121, .lds 2 (.t 6), none, []⟩,
  ⟨some 122, .mv (.t 10), none, []⟩,
  ⟨some 123, .mv (.t 11), none, []⟩,
  ⟨some 124, .call (.f 131) [(.t 121), (.t 122), (.t 123)], none, []⟩,
  ⟨some 12, .mv (.t 124), none, []⟩])
 (.skip)))))))))))))))))))))))
 (.reg [
  ⟨some 125, .mv (.t 7), none, []⟩,
  ⟨some 126, .mv (.t 12), none, []⟩,
  ⟨some 127, .lit 34 [(.slice none 0 0)] [(0, 1, (.t 126))] 1, none, []⟩,
  ⟨some 128, .app 34 1 24 [(.slice none 0 0)] (.t 125) (.t 127), none, []⟩,
  ⟨some 7, .mv (.t 128), none, []⟩])))))))
 (.reg [
  ⟨some 129, .bin .add (.t 29) (.c (.int .i64 1)), none, []⟩,
  ⟨some 29, .mv (.t 129), none, []⟩])))))))
 (.seq (.reg [
  ⟨some 130, .mv (.t 7), none, []⟩,
  ⟨some 131, .mv (.t 7), none, []⟩,
  ⟨some 132, .len (.t 131), none, []⟩,
  ⟨some 133, .bin .sub (.t 132) (.c (.int .i64 1)), none, []⟩,
  ⟨some 134, .ia 1 (.t 130) (.t 133), none, []⟩,
  ⟨some 135, .ld (.t 134), none, []⟩,
  ⟨some 4, .mv (.t 135), none, []⟩])
 (.ret))))))⟩
def m73 : MFun := ⟨27, [.t 8],
 .seq (.reg [
  ⟨some 4, .box 26 (.t 0), none, []⟩,
  ⟨some 8, .mv (.c (.bool false)), none, []⟩])
 (.seq (.seq (.reg [
  ⟨some 10, .mv (.t 1), none, []⟩,
  ⟨some 9, .mv (.t 10), none, []⟩])
 (.blk 0 (.loop (.seq (.seq (.reg [
  ⟨some 11, .mv (.t 9), none, []⟩,
  ⟨some 12, .mv (.t 1), none, []⟩,
  ⟨some 13, .lds 2 (.t 4), none, []⟩,
  ⟨some 14, .call (.f 132) [(.t 13)], none, []⟩,
  ⟨some 15, .bin .add (.t 12) (.t 14), none, []⟩,
  ⟨some 16, .bin .lss (.t 11) (.t 15), none, []⟩])
 (.ite (.t 16) (.skip)
 (.exit 0)))
 (.seq (.blk 1 (.seq (.reg [
  ⟨some 19, .mv (.t 2), none, []⟩,
  ⟨some 20, .lds 2 (.t 4), none, []⟩,
  ⟨some 21, .mv (.t 9), none, []⟩,
  ⟨some 22, .call (.f 133) [(.t 20), (.t 21)], none, []⟩,
  ⟨some 23, .ia 1 (.t 19) (.t 22), none, []⟩,
  ⟨some 24, .ld (.t 23), none, []⟩,
  ⟨some 25, .mv (.t 3), none, []⟩,
  ⟨some 26, .eq false .bool (.t 24) (.t 25), none, []⟩])
 (.ite (.t 26) (.seq (.reg [
  ⟨some 8, .mv (.c (.bool true)), none, []⟩])
 (.ret))
 (.skip))))
 (.reg [
  ⟨some 17, .mv (.t 9), none, []⟩,
  ⟨some 18, .bin .add (.t 17) (.c (.int .i64 1)), none, []⟩,
  ⟨some 9, .mv (.t 18), none, []⟩]))))))
 (.seq (.reg [
  ⟨some 8, .mv (.c (.bool false)), none, []⟩])
 (.ret)))⟩
def m74 : MFun := ⟨34, [.t 6],
 .seq (.reg [
  ⟨some 3, .box 26 (.t 0), none, []⟩,
  ⟨some 5, .box 115 (.t 2), none, []⟩,
  ⟨some 6, .mv (.c (.bool false)), none, []⟩])
 (.seq (.seq (.reg [
  ⟨some 8, .mv (.t 1), none, []⟩,
  ⟨some 7, .mv (.t 8), none, []⟩])
 (.blk 0 (.loop (.seq (.seq (.reg [
  ⟨some 9, .mv (.t 7), none, []⟩,
  ⟨some 10, .mv (.t 1), none, []⟩,
  ⟨some 11, .lds 2 (.t 3), none, []⟩,
  ⟨some 12, .call (.f 132) [(.t 11)], none, []⟩,
  ⟨some 13, .bin .add (.t 10) (.t 12), none, []⟩,
  ⟨some 14, .bin .lss (.t 9) (.t 13), none, []⟩])
 (.ite (.t 14) (.skip)
 (.exit 0)))
 (.seq (.blk 1 (.seq (.dreg [0, 1, 2, 3, 4, 5, 6, 7, 8, 9, 10, 12, 13, 11, 14, 15, 16] [
  ⟨some 17, .fa 0 (.t 5), none, []⟩,
  ⟨some 18, .ld (.t 17), none, [(.t 17)]⟩,
  ⟨some 19, .lds 2 (.t 3), none, [(.t 3)]⟩,
  ⟨some 20, .mv (.t 7), none, []⟩,
  ⟨some 21, .call (.f 133) [(.t 19), (.t 20)], none, [(.t 17)]⟩,
  ⟨some 22, .ia 1 (.t 18) (.t 21), none, []⟩,
  ⟨some 23, .ld (.t 22), none, [(.t 22)]⟩,
  ⟨some 24, .mv (.t 23), none, []⟩,
  ⟨some 25, .lds 2 (.t 3), (some (24, true)), [(.t 3)]⟩,
  ⟨some 26, .lds 2 (.t 3), (some (24, true)), [(.t 3)]⟩,
  ⟨some 27, .mv (.t 7), (some (24, true)), []⟩,
  ⟨some 29, .fa 1 (.t 5), (some (24, true)), []⟩,
  ⟨some 30, .ld (.t 29), (some (24, true)), [(.t 29)]⟩,
  ⟨some 28, .call (.f 133) [(.t 26), (.t 27)], (some (24, true)), [(.t 29), (.t 3)]⟩,
  ⟨some 31, .call (.f 73) [(.t 25), (.t 28), (.t 30), (.c (.bool true))], (some (24, true)), []⟩,
  ⟨some 32, .not (.t 31), (some (24, true)), []⟩,
  ⟨some 33, .pick (.t 24) (.t 32) (.c (.bool false)), none, []⟩])
 (.ite (.t 33) (.seq (.reg [
  ⟨some 6, .mv (.c (.bool false)), none, []⟩])
 (.ret))
 (.skip))))
 (.reg [
  ⟨some 15, .mv (.t 7), none, []⟩,
  ⟨some 16, .bin .add (.t 15) (.c (.int .i64 1)), none, []⟩,
  ⟨some 7, .mv (.t 16), none, []⟩]))))))
 (.seq (.reg [
  ⟨some 6, .mv (.c (.bool true)), none, []⟩])
 (.ret)))⟩
def m75 : MFun := ⟨32, [.t 6],
 .seq (.reg [
  ⟨some 3, .box 26 (.t 0), none, []⟩,
  ⟨some 5, .box 115 (.t 2), none, []⟩,
  ⟨some 6, .mv (.c (.bool false)), none, []⟩])
 (.seq (.seq (.reg [
  ⟨some 8, .mv (.t 1), none, []⟩,
  ⟨some 7, .mv (.t 8), none, []⟩])
 (.blk 0 (.loop (.seq (.seq (.reg [
  ⟨some 9, .mv (.t 7), none, []⟩,
  ⟨some 10, .mv (.t 1), none, []⟩,
  ⟨some 11, .lds 2 (.t 3), none, []⟩,
  ⟨some 12, .call (.f 132) [(.t 11)], none, []⟩,
  ⟨some 13, .bin .add (.t 10) (.t 12), none, []⟩,
  ⟨some 14, .bin .lss (.t 9) (.t 13), none, []⟩])
 (.ite (.t 14) (.skip)
 (.exit 0)))
 (.seq (.blk 1 (.seq (.seq (.dreg [0, 1, 2, 3, 4, 5, 6] [
  ⟨some 17, .fa 1 (.t 5), none, []⟩,
  ⟨some 18, .ld (.t 17), none, [(.t 17)]⟩,
  ⟨some 19, .lds 2 (.t 3), none, [(.t 3)]⟩,
  ⟨some 20, .mv (.t 7), none, []⟩,
  ⟨some 21, .call (.f 133) [(.t 19), (.t 20)], none, [(.t 17)]⟩,
  ⟨some 22, .ia 1 (.t 18) (.t 21), none, []⟩,
  ⟨some 23, .ld (.t 22), none, [(.t 22)]⟩])
 (.ite (.t 23) (.seq (.reg [
  ⟨some 6, .mv (.c (.bool true)), none, []⟩])
 (.ret))
 (.skip)))
 (.seq (.dreg [0, 1, 2, 3, 4, 5, 6, 7] [
  ⟨some 24, .fa 0 (.t 5), none, []⟩,
  ⟨some 25, .ld (.t 24), none, [(.t 24)]⟩,
  ⟨some 26, .lds 2 (.t 3), none, [(.t 3)]⟩,
  ⟨some 27, .mv (.t 7), none, []⟩,
  ⟨some 28, .call (.f 133) [(.t 26), (.t 27)], none, [(.t 24)]⟩,
  ⟨some 29, .ia 1 (.t 25) (.t 28), none, []⟩,
  ⟨some 30, .ld (.t 29), none, [(.t 29)]⟩,
  ⟨some 31, .not (.t 30), none, []⟩])
 (.ite (.t 31) (.seq (.reg [
  ⟨some 6, .mv (.c (.bool false)), none, []⟩])
 (.ret))
 (.skip)))))
 (.reg [
  ⟨some 15, .mv (.t 7), none, []⟩,
  ⟨some 16, .bin .add (.t 15) (.c (.int .i64 1)), none, []⟩,
  ⟨some 7, .mv (.t 16), none, []⟩]))))))
 (.seq (.reg [
  ⟨some 6, .mv (.c (.bool false)), none, []⟩])
 (.ret)))⟩
def m76 : MFun := ⟨11, [.t 2],
 .seq (.reg [
  ⟨some 1, .box 47 (.t 0), none, []⟩,
  ⟨some 2, .mv (.c (.int .i64 0)), none, []⟩])
 (.seq (.reg [
  ⟨some 6, .lds 8 (.t 1), none, []⟩,
  ⟨some 7, .call (.f 39) [(.t 6)], none, []⟩,
  ⟨some 5, .mv (.t 7), none, []⟩,
  ⟨some 8, .ext (.t 5) 0, none, []⟩,
  ⟨some 9, .ext (.t 5) 1, none, []⟩,
  ⟨some 3, .mv (.t 8), none, []⟩,
  ⟨some 4, .mv (.t 9), none, []⟩])
 (.seq (.reg [
  ⟨some 10, .mv (.t 4), none, []⟩,
  ⟨some 2, .mv (.t 10), none, []⟩])
 (.ret)))⟩
def m77 : MFun := ⟨99, [.t 2],
 .seq (.reg [
  ⟨some 2, .mv (.c (.bool false)), none, []⟩])
 (.seq (.reg [
  ⟨some 6, .mv (.t 0), none, []⟩,
  ⟨some 7, .chk (.t 6), none, []⟩,
  ⟨some 8, .fa 12 (.t 7), none, []⟩,
  ⟨some 9, .ld (.t 8), none, []⟩,
  ⟨some 10, .bin .add (.t 9) (.c (.int .i64 1)), none, []⟩,
  ⟨some 11, .chk (.t 6), none, []⟩,
  ⟨some 12, .fa 12 (.t 11), none, []⟩,
  ⟨none, .st 1 (.t 12) (.t 10), none, []⟩])
 (.seq (.reg [
  ⟨some 13, .mv (.t 0), none, []⟩,
  ⟨some 14, .chk (.t 13), none, []⟩,
  ⟨some 15, .fa 11 (.t 14), none, []⟩,
  ⟨some 16, .ld (.t 15), none, []⟩,
  ⟨some 17, .len (.t 16), none, []⟩,
  ⟨some 3, .mv (.t 17), none, []⟩])
 (.seq (.seq (.reg [
  ⟨some 18, .mv (.t 3), none, []⟩,
  ⟨some 19, .mv (.t 0), none, []⟩,
  ⟨some 20, .chk (.t 19), none, []⟩,
  ⟨some 21, .fa 9 (.t 20), none, []⟩,
  ⟨some 22, .ld (.t 21), none, []⟩,
  ⟨some 23, .bin .eql (.t 18) (.t 22), none, []⟩])
 (.ite (.t 23) (.seq (.reg [
  ⟨some 24, .mv (.t 0), none, []⟩,
  ⟨some 25, .call (.f 134) [(.t 24)], none, []⟩,
  ⟨some 2, .mv (.t 25), none, []⟩])
 (.ret))
 (.skip)))
 (.seq (.seq (.reg [
  ⟨some 26, .mv (.t 0), none, []⟩,
  ⟨some 27, .chk (.t 26), none, []⟩,
  ⟨some 28, .fa 0 (.t 27), none, []⟩,
  ⟨some 29, .fa 0 (.t 28), none, []⟩,
  ⟨some 30, .fa 0 (.t 29), none, []⟩,
  ⟨some 31, .ld (.t 30), none, []⟩,
  ⟨some 32, .mv (.c (.int .i64 0)), none, []⟩])
 (.blk 0 (.loop (.seq (.reg [
  ⟨some 33, .bin .lss (.t 32) (.t 31), none, []⟩])
 (.seq (.ite (.t 33) (.skip)
 (.exit 0))
 (.seq (.blk 1 (.seq (.reg [
  ⟨some 34, .mv (.t 32), none, []⟩,
  ⟨some 4, .mv (.t 34), none, []⟩])
 (.seq (.dreg [0, 1, 2, 3, 4, 5, 6, 7, 8, 9, 10, 11, 12, 13, 14, 15, 16, 17, 18, 19, 20, 21, 22, 23, 24, 25, 26, 27, 28, 29, 30, 31, 32, 33] [
  ⟨some 35, .mv (.t 3), none, []⟩,
  ⟨some 36, .bin .eql (.t 35) (.c (.int .i64 0)), none, []⟩,
  ⟨some 37, .mv (.t 36), none, []⟩,
  ⟨some 38, .mv (.t 0), (some (37, true)), []⟩,
  ⟨some 39, .chk (.t 38), (some (37, true)), []⟩,
  ⟨some 40, .fa 0 (.t 39), (some (37, true)), []⟩,
  ⟨some 41, .fa 0 (.t 40), (some (37, true)), []⟩,
  ⟨some 42, .fa 1 (.t 41), (some (37, true)), []⟩,
  ⟨some 43, .ld (.t 42), (some (37, true)), [(.t 42)]⟩,
  ⟨some 44, .mv (.t 4), (some (37, true)), []⟩,
  ⟨some 45, .call (.f 91) [(.t 43), (.t 44)], (some (37, true)), []⟩,
  ⟨some 46, .pick (.t 37) (.t 45) (.c (.bool false)), none, []⟩,
  ⟨some 47, .mv (.t 46), none, []⟩,
  ⟨some 48, .mv (.t 3), (some (47, false)), []⟩,
  ⟨some 49, .bin .gtr (.t 48) (.c (.int .i64 0)), (some (47, false)), []⟩,
  ⟨some 50, .mv (.t 49), (some (47, false)), []⟩,
  ⟨some 51, .mv (.t 0), (some (50, true)), []⟩,
  ⟨some 52, .chk (.t 51), (some (50, true)), []⟩,
  ⟨some 53, .fa 0 (.t 52), (some (50, true)), []⟩,
  ⟨some 54, .lds 8 (.t 53), (some (50, true)), [(.t 53)]⟩,
  ⟨some 55, .mv (.t 0), (some (50, true)), []⟩,
  ⟨some 56, .chk (.t 55), (some (50, true)), []⟩,
  ⟨some 57, .fa 11 (.t 56), (some (50, true)), []⟩,
  ⟨some 58, .ld (.t 57), (some (50, true)), [(.t 57)]⟩,
  ⟨some 59, .mv (.t 3), (some (50, true)), []⟩,
  ⟨some 60, .bin .sub (.t 59) (.c (.int .i64 1)), (some (50, true)), []⟩,
  ⟨some 61, .max2 (.t 60) (.c (.int .i64 0)), (some (50, true)), []⟩,
  ⟨some 62, .ia 1 (.t 58) (.t 61), (some (50, true)), []⟩,
  ⟨some 63, .ld (.t 62), (some (50, true)), [(.t 62)]⟩,
  ⟨some 64, .mv (.t 4), (some (50, true)), []⟩,
  ⟨some 65, .call (.f 92) [(.t 54), (.t 63), (.t 64)], (some (50, true)), []⟩,
  ⟨some 66, .pick (.t 50) (.t 65) (.c (.bool false)), (some (47, false)), []⟩,
  ⟨some 67, .pick (.t 47) (.c (.bool true)) (.t 66), none, []⟩,
  ⟨some 5, .mv (.t 67), none, []⟩])
 (.seq (.seq (.reg [
  ⟨some 68, .mv (.t 5), none, []⟩,
  ⟨some 69, .not (.t 68), none, []⟩,
  ⟨some 70, .mv (.t 69), none, []⟩,
  ⟨some 71, .mv (.t 0), (some (70, false)), []⟩,
  ⟨some 72, .chk (.t 71), (some (70, false)), []⟩,
  ⟨some 73, .fa 12 (.t 72), (some (70, false)), []⟩,
  ⟨some 74, .ld (.t 73), (some (70, false)), []⟩,
  ⟨some 75, .bin .gtr (.t 74) (.c (.int .i64 400000)), (some (70, false)), []⟩,
  ⟨some 76, .pick (.t 70) (.c (.bool true)) (.t 75), none, []⟩])
 (.ite (.t 76) (.exit 1)
 (.skip)))
 (.seq (.reg [
  ⟨some 77, .mv (.t 0), none, []⟩,
  ⟨some 78, .mv (.t 0), none, []⟩,
  ⟨some 79, .chk (.t 78), none, []⟩,
  ⟨some 80, .fa 11 (.t 79), none, []⟩,
  ⟨some 81, .ld (.t 80), none, []⟩,
  ⟨some 82, .mv (.t 4), none, []⟩,
  ⟨some 83, .lit 3 [(.int .i64 0)] [(0, 1, (.t 82))] 1, none, []⟩,
  ⟨some 84, .app 3 1 8 [(.int .i64 0)] (.t 81) (.t 83), none, []⟩,
  ⟨some 85, .chk (.t 77), none, []⟩,
  ⟨some 86, .fa 11 (.t 85), none, []⟩,
  ⟨none, .st 1 (.t 86) (.t 84), none, []⟩])
 (.seq (.seq (.reg [
  ⟨some 87, .mv (.t 0), none, []⟩,
  ⟨some 88, .call (.f 77) [(.t 87)], none, []⟩])
 (.ite (.t 88) (.seq (.reg [
  ⟨some 2, .mv (.c (.bool true)), none, []⟩])
 (.ret))
 (.skip)))
 (.reg [
  ⟨some 89, .mv (.t 0), none, []⟩,
  ⟨some 90, .mv (.t 0), none, []⟩,
  ⟨some 91, .chk (.t 90), none, []⟩,
  ⟨some 92, .fa 11 (.t 91), none, []⟩,
  ⟨some 93, .ld (.t 92), none, []⟩,
  ⟨some 94, .mv (.t 3), none, []⟩,
  ⟨some 95, .sl 1 (.t 93) none (some (.t 94)) none, none, []⟩,
  ⟨some 96, .chk (.t 89), none, []⟩,
  ⟨some 97, .fa 11 (.t 96), none, []⟩,
  ⟨none, .st 1 (.t 97) (.t 95), none, []⟩])))))))
 (.reg [
  ⟨some 98, .bin .add (.t 32) (.c (.int .i64 1)), none, []⟩,
  ⟨some 32, .mv (.t 98), none, []⟩])))))))
 (.seq (.reg [
  ⟨some 2, .mv (.c (.bool false)), none, []⟩])
 (.ret))))))⟩
def m78 : MFun := ⟨8, [.t 2],
 .seq (.reg [
  ⟨some 2, .mv (.c (.slice none 0 0)), none, []⟩])
 (.seq (.seq (.reg [
  ⟨some 3, .mv (.t 0), none, []⟩,
  ⟨some 4, .eq false .slice (.t 3) (.c (.slice none 0 0)), none, []⟩])
 (.ite (.t 4) (.seq (.reg [
  ⟨some 2, .mv (.c (.slice none 0 0)), none, []⟩])
 (.ret))
 (.skip)))
 (.seq (.reg [
  ⟨some 5, .lit 3 [(.int .i64 0)] [] 0, none, []⟩,
  ⟨some 6, .mv (.t 0), none, []⟩,
  ⟨some 7, .app 3 1 8 [(.int .i64 0)] (.t 5) (.t 6), none, []⟩,
  ⟨some 2, .mv (.t 7), none, []⟩])
 (.ret)))⟩
def m79 : MFun := ⟨13, [.cell 2 (some 3)],
 .seq (.reg [
  ⟨some 1, .box 45 (.t 0), none, []⟩,
  ⟨some 2, .new [(.int .i64 0), (.slice none 0 0), (.slice none 0 0)] 45, none, []⟩])
 (.seq (.dreg [0, 1, 3, 4, 5, 2, 7, 6, 8, 9, 10] [
  ⟨some 3, .fa 1 (.t 1), none, []⟩,
  ⟨some 4, .ld (.t 3), none, [(.t 3)]⟩,
  ⟨some 6, .lit 129 [(.int .i64 0), (.int .i64 0), (.int .i64 0)] [] 0, none, []⟩,
  ⟨some 7, .fa 2 (.t 1), none, []⟩,
  ⟨some 8, .ld (.t 7), none, [(.t 7)]⟩,
  ⟨some 5, .call (.f 52) [(.t 4)], none, [(.t 7)]⟩,
  ⟨some 10, .fa 1 (.t 1), none, []⟩,
  ⟨some 9, .app 129 3 24 [(.int .i64 0), (.int .i64 0), (.int .i64 0)] (.t 6) (.t 8), none, []⟩,
  ⟨none, .st 1 (.t 10) (.t 5), none, []⟩,
  ⟨some 11, .fa 2 (.t 1), none, []⟩,
  ⟨none, .st 1 (.t 11) (.t 9), none, []⟩])
 (.seq (.reg [
  ⟨some 12, .lds 3 (.t 1), none, []⟩,
  ⟨none, .st 3 (.t 2) (.t 12), none, []⟩])
 (.ret)))⟩
def m80 : MFun := ⟨26, [.t 4],
 .seq (.reg [
  ⟨some 4, .mv (.c (.bool false)), none, []⟩])
 (.seq (.seq (.reg [
  ⟨some 6, .mv (.t 0), none, []⟩,
  ⟨some 7, .len (.t 6), none, []⟩,
  ⟨some 8, .mv (.t 1), none, []⟩,
  ⟨some 9, .len (.t 8), none, []⟩,
  ⟨some 10, .bin .neq (.t 7) (.t 9), none, []⟩])
 (.ite (.t 10) (.seq (.reg [
  ⟨some 4, .mv (.c (.bool false)), none, []⟩])
 (.ret))
 (.skip)))
 (.seq (.seq (.reg [
  ⟨some 5, .mv (.c (.int .i64 0)), none, []⟩])
 (.blk 0 (.loop (.seq (.seq (.reg [
  ⟨some 11, .mv (.t 5), none, []⟩,
  ⟨some 12, .mv (.t 0), none, []⟩,
  ⟨some 13, .len (.t 12), none, []⟩,
  ⟨some 14, .bin .lss (.t 11) (.t 13), none, []⟩])
 (.ite (.t 14) (.skip)
 (.exit 0)))
 (.seq (.blk 1 (.seq (.dreg [0, 1, 2, 3, 4, 5, 6, 7, 8] [
  ⟨some 17, .mv (.t 0), none, []⟩,
  ⟨some 18, .mv (.t 5), none, []⟩,
  ⟨some 19, .ia 1 (.t 17) (.t 18), none, []⟩,
  ⟨some 20, .ld (.t 19), none, [(.t 19)]⟩,
  ⟨some 21, .mv (.t 1), none, []⟩,
  ⟨some 22, .mv (.t 5), none, []⟩,
  ⟨some 23, .ia 1 (.t 21) (.t 22), none, []⟩,
  ⟨some 24, .ld (.t 23), none, [(.t 23)]⟩,
  ⟨some 25, .bin .neq (.t 20) (.t 24), none, []⟩])
 (.ite (.t 25) (.seq (.reg [
  ⟨some 4, .mv (.c (.bool false)), none, []⟩])
 (.ret))
 (.skip))))
 (.reg [
  ⟨some 15, .mv (.t 5), none, []⟩,
  ⟨some 16, .bin .add (.t 15) (.c (.int .i64 1)), none, []⟩,
  ⟨some 5, .mv (.t 16), none, []⟩]))))))
 (.seq (.reg [
  ⟨some 4, .mv (.c (.bool true)), none, []⟩])
 (.ret))))⟩
def m81 : MFun := ⟨117, [],
 .seq (.seq (.reg [
  ⟨some 10, .mv (.t 0), none, []⟩,
  ⟨some 11, .chk (.t 10), none, []⟩,
  ⟨some 12, .fa 9 (.t 11), none, []⟩,
  ⟨some 13, .ld (.t 12), none, []⟩])
 (.ite (.t 13) (.ret)
 (.skip)))
 (.seq (.seq (.reg [
  ⟨some 14, .mv (.t 1), none, []⟩,
  ⟨some 15, .len (.t 14), none, []⟩,
  ⟨some 16, .mv (.t 2), none, []⟩,
  ⟨some 17, .bin .eql (.t 15) (.t 16), none, []⟩])
 (.ite (.t 17) (.seq (.dreg [0, 1, 2, 3, 4, 5, 6, 7, 8] [
  ⟨some 18, .mv (.t 1), none, []⟩,
  ⟨some 19, .mv (.t 3), none, []⟩,
  ⟨some 20, .sl 1 (.t 18) none (some (.t 19)) none, none, [(.t 18)]⟩,
  ⟨some 21, .mv (.t 1), none, []⟩,
  ⟨some 22, .mv (.t 3), none, []⟩,
  ⟨some 23, .sl 1 (.t 21) (some (.t 22)) none none, none, [(.t 21)]⟩,
  ⟨some 24, .build [(.slice none 0 0), (.slice none 0 0)] [(0, 1, (.t 20)), (1, 1, (.t 23))], none, []⟩,
  ⟨some 8, .new [(.slice none 0 0), (.slice none 0 0)] 52, none, []⟩,
  ⟨none, .st 2 (.t 8) (.t 24), none, []⟩])
 (.seq (.seq (.dreg [0, 1, 2, 3, 4, 5, 6, 7, 8, 9, 10, 11, 12, 13, 14, 15, 16, 17, 18, 19] [
  ⟨some 25, .mv (.t 0), none, []⟩,
  ⟨some 26, .chk (.t 25), none, []⟩,
  ⟨some 27, .fa 0 (.t 26), none, []⟩,
  ⟨some 28, .fa 0 (.t 27), none, []⟩,
  ⟨some 29, .lds 3 (.t 28), none, [(.t 28)]⟩,
  ⟨some 30, .mv (.t 1), none, []⟩,
  ⟨some 31, .mv (.t 2), none, []⟩,
  ⟨some 32, .bin .sub (.t 31) (.c (.int .i64 1)), none, []⟩,
  ⟨some 33, .ia 1 (.t 30) (.t 32), none, []⟩,
  ⟨some 34, .ld (.t 33), none, [(.t 33)]⟩,
  ⟨some 35, .mv (.t 1), none, []⟩,
  ⟨some 36, .mv (.t 3), none, []⟩,
  ⟨some 37, .ia 1 (.t 35) (.t 36), none, []⟩,
  ⟨some 38, .ld (.t 37), none, [(.t 37)]⟩,
  ⟨some 39, .call (.f 96) [(.t 29), (.t 34), (.t 38)], none, []⟩,
  ⟨some 40, .mv (.t 39), none, []⟩,
  ⟨some 41, .mv (.t 0), (some (40, true)), []⟩,
  ⟨some 42, .lds 2 (.t 8), (some (40, true)), [(.t 8)]⟩,
  ⟨some 43, .call (.f 135) [(.t 41), (.t 42)], (some (40, true)), []⟩,
  ⟨some 44, .pick (.t 40) (.t 43) (.c (.bool false)), none, []⟩])
 (.ite (.t 44) (.seq (.reg [
  ⟨some 45, .mv (.t 0), none, []⟩,
  ⟨some 46, .chk (.t 45), none, []⟩,
  ⟨some 47, .fa 9 (.t 46), none, []⟩,
  ⟨none, .st 1 (.t 47) (.c (.bool true)), none, []⟩])
 (.dreg [0, 1, 2, 4, 5, 3, 6, 7, 8, 9, 10] [
  ⟨some 48, .mv (.t 0), none, []⟩,
  ⟨some 49, .fa 0 (.t 8), none, []⟩,
  ⟨some 50, .ld (.t 49), none, [(.t 49)]⟩,
  ⟨some 52, .fa 1 (.t 8), none, []⟩,
  ⟨some 53, .ld (.t 52), none, [(.t 52)]⟩,
  ⟨some 51, .call (.f 52) [(.t 50)], none, [(.t 52)]⟩,
  ⟨some 54, .call (.f 52) [(.t 53)], none, []⟩,
  ⟨some 55, .build [(.slice none 0 0), (.slice none 0 0)] [(0, 1, (.t 51)), (1, 1, (.t 54))], none, []⟩,
  ⟨some 56, .chk (.t 48), none, []⟩,
  ⟨some 57, .fa 10 (.t 56), none, []⟩,
  ⟨none, .st 2 (.t 57) (.t 55), none, []⟩]))
 (.skip)))
 (.ret)))
 (.skip)))
 (.seq (.reg [
  ⟨some 9, .mv (.c (.int .i64 0)), none, []⟩])
 (.blk 0 (.loop (.seq (.seq (.reg [
  ⟨some 58, .mv (.t 9), none, []⟩,
  ⟨some 59, .mv (.t 0), none, []⟩,
  ⟨some 60, .chk (.t 59), none, []⟩,
  ⟨some 61, .fa 0 (.t 60), none, []⟩,
  ⟨some 62, .fa 0 (.t 61), none, []⟩,
  ⟨some 63, .fa 0 (.t 62), none, []⟩,
  ⟨some 64, .ld (.t 63), none, []⟩,
  ⟨some 65, .bin .lss (.t 58) (.t 64), none, []⟩,
  ⟨some 66, .mv (.t 65), none, []⟩,
  ⟨some 67, .mv (.t 0), (some (66, true)), []⟩,
  ⟨some 68, .chk (.t 67), (some (66, true)), []⟩,
  ⟨some 69, .fa 9 (.t 68), (some (66, true)), []⟩,
  ⟨some 70, .ld (.t 69), (some (66, true)), []⟩,
  ⟨some 71, .not (.t 70), (some (66, true)), []⟩,
  ⟨some 72, .pick (.t 66) (.t 71) (.c (.bool false)), none, []⟩])
 (.ite (.t 72) (.skip)
 (.exit 0)))
 (.seq (.blk 1 (.seq (.dreg [0, 1, 2, 3, 4, 5, 6, 7, 8, 9, 10, 11, 12, 13, 14, 15, 16, 17, 18, 19, 20, 21, 22, 23, 24, 25, 26, 27, 28, 29, 30, 31, 32] [
  ⟨some 75, .mv (.t 1), none, []⟩,
  ⟨some 76, .len (.t 75), none, []⟩,
  ⟨some 77, .bin .eql (.t 76) (.c (.int .i64 0)), none, []⟩,
  ⟨some 78, .mv (.t 77), none, []⟩,
  ⟨some 79, .mv (.t 0), (some (78, true)), []⟩,
  ⟨some 80, .chk (.t 79), (some (78, true)), []⟩,
  ⟨some 81, .fa 0 (.t 80), (some (78, true)), []⟩,
  ⟨some 82, .fa 0 (.t 81), (some (78, true)), []⟩,
  ⟨some 83, .fa 1 (.t 82), (some (78, true)), []⟩,
  ⟨some 84, .ld (.t 83), (some (78, true)), [(.t 83)]⟩,
  ⟨some 85, .mv (.t 9), (some (78, true)), []⟩,
  ⟨some 86, .call (.f 95) [(.t 84), (.t 85)], (some (78, true)), []⟩,
  ⟨some 87, .pick (.t 78) (.t 86) (.c (.bool false)), none, []⟩,
  ⟨some 88, .mv (.t 87), none, []⟩,
  ⟨some 89, .mv (.t 1), (some (88, false)), []⟩,
  ⟨some 90, .len (.t 89), (some (88, false)), []⟩,
  ⟨some 91, .bin .gtr (.t 90) (.c (.int .i64 0)), (some (88, false)), []⟩,
  ⟨some 92, .mv (.t 91), (some (88, false)), []⟩,
  ⟨some 93, .mv (.t 0), (some (92, true)), []⟩,
  ⟨some 94, .chk (.t 93), (some (92, true)), []⟩,
  ⟨some 95, .fa 0 (.t 94), (some (92, true)), []⟩,
  ⟨some 96, .fa 0 (.t 95), (some (92, true)), []⟩,
  ⟨some 97, .lds 3 (.t 96), (some (92, true)), [(.t 96)]⟩,
  ⟨some 98, .mv (.t 1), (some (92, true)), []⟩,
  ⟨some 99, .mv (.t 1), (some (92, true)), []⟩,
  ⟨some 100, .len (.t 99), (some (92, true)), []⟩,
  ⟨some 101, .bin .sub (.t 100) (.c (.int .i64 1)), (some (92, true)), []⟩,
  ⟨some 102, .ia 1 (.t 98) (.t 101), (some (92, true)), []⟩,
  ⟨some 103, .ld (.t 102), (some (92, true)), [(.t 102)]⟩,
  ⟨some 104, .mv (.t 9), (some (92, true)), []⟩,
  ⟨some 105, .call (.f 96) [(.t 97), (.t 103), (.t 104)], (some (92, true)), []⟩,
  ⟨some 106, .pick (.t 92) (.t 105) (.c (.bool false)), (some (88, false)), []⟩,
  ⟨some 107, .pick (.t 88) (.c (.bool true)) (.t 106), none, []⟩])
 (.ite (.t 107) (.reg [
  ⟨some 108, .mv (.t 0), none, []⟩,
  ⟨some 109, .mv (.t 1), none, []⟩,
  ⟨some 110, .call (.f 52) [(.t 109)], none, []⟩,
  ⟨some 111, .mv (.t 9), none, []⟩,
  ⟨some 112, .lit 3 [(.int .i64 0)] [(0, 1, (.t 111))] 1, none, []⟩,
  ⟨some 113, .app 3 1 8 [(.int .i64 0)] (.t 110) (.t 112), none, []⟩,
  ⟨some 114, .mv (.t 2), none, []⟩,
  ⟨some 115, .mv (.t 3), none, []⟩,
  ⟨some 116, .call (.f 81) [(.t 108), (.t 113), (.t 114), (.t 115)], none, []⟩])
 (.skip))))
 (.reg [
  ⟨some 73, .mv (.t 9), none, []⟩,
  ⟨some 74, .bin .add (.t 73) (.c (.int .i64 1)), none, []⟩,
  ⟨some 9, .mv (.t 74), none, []⟩])))))))⟩
def m82 : MFun := ⟨77, [.cell 2 (some 2)],
 .seq (.reg [
  ⟨some 1, .box 26 (.t 0), none, []⟩,
  ⟨some 2, .new [(.slice none 0 0), (.slice none 0 0)] 26, none, []⟩])
 (.seq (.dreg [0, 1, 3, 4, 2, 5, 6, 7] [
  ⟨some 7, .fa 0 (.t 1), none, []⟩,
  ⟨some 8, .ld (.t 7), none, [(.t 7)]⟩,
  ⟨some 10, .fa 1 (.t 1), none, []⟩,
  ⟨some 11, .ld (.t 10), none, [(.t 10)]⟩,
  ⟨some 9, .call (.f 78) [(.t 8)], none, [(.t 10)]⟩,
  ⟨some 12, .call (.f 78) [(.t 11)], none, []⟩,
  ⟨some 3, .mv (.t 9), none, []⟩,
  ⟨some 4, .mv (.t 12), none, []⟩])
 (.seq (.seq (.reg [
  ⟨some 5, .mv (.c (.int .i64 1)), none, []⟩])
 (.blk 0 (.loop (.seq (.seq (.reg [
  ⟨some 13, .mv (.t 5), none, []⟩,
  ⟨some 14, .mv (.t 4), none, []⟩,
  ⟨some 15, .len (.t 14), none, []⟩,
  ⟨some 16, .bin .lss (.t 13) (.t 15), none, []⟩])
 (.ite (.t 16) (.skip)
 (.exit 0)))
 (.seq (.blk 1 (.seq (.dreg [0, 1, 2, 3, 4, 5, 6, 7, 8, 9, 10, 11, 12, 14, 13, 15, 16] [
  ⟨some 19, .mv (.t 4), none, []⟩,
  ⟨some 20, .len (.t 19), none, []⟩,
  ⟨some 21, .mv (.t 5), none, []⟩,
  ⟨some 22, .bin .rem (.t 20) (.t 21), none, []⟩,
  ⟨some 23, .bin .eql (.t 22) (.c (.int .i64 0)), none, []⟩,
  ⟨some 24, .mv (.t 23), none, []⟩,
  ⟨some 25, .mv (.t 4), (some (24, true)), []⟩,
  ⟨some 26, .mv (.t 5), (some (24, true)), []⟩,
  ⟨some 27, .sl 1 (.t 25) none (some (.t 26)) none, (some (24, true)), [(.t 25)]⟩,
  ⟨some 28, .mv (.t 4), (some (24, true)), []⟩,
  ⟨some 29, .len (.t 28), (some (24, true)), []⟩,
  ⟨some 30, .mv (.t 5), (some (24, true)), []⟩,
  ⟨some 31, .bin .quo (.t 29) (.t 30), (some (24, true)), []⟩,
  ⟨some 33, .mv (.t 4), (some (24, true)), []⟩,
  ⟨some 32, .call (.f 113) [(.t 27), (.t 31)], (some (24, true)), []⟩,
  ⟨some 34, .call (.f 136) [(.t 32), (.t 33)], (some (24, true)), []⟩,
  ⟨some 35, .pick (.t 24) (.t 34) (.c (.bool false)), none, []⟩])
 (.ite (.t 35) (.seq (.reg [
  ⟨some 36, .mv (.t 4), none, []⟩,
  ⟨some 37, .mv (.t 5), none, []⟩,
  ⟨some 38, .sl 1 (.t 36) none (some (.t 37)) none, none, []⟩,
  ⟨some 4, .mv (.t 38), none, []⟩])
 (.exit 0))
 (.skip))))
 (.reg [
  ⟨some 17, .mv (.t 5), none, []⟩,
  ⟨some 18, .bin .add (.t 17) (.c (.int .i64 1)), none, []⟩,
  ⟨some 5, .mv (.t 18), none, []⟩]))))))
 (.seq (.blk 2 (.loop (.seq (.seq (.dreg [0, 1, 2, 3, 4, 5, 6, 7, 8, 9, 10, 11, 12, 13, 14, 15, 16, 17] [
  ⟨some 39, .mv (.t 3), none, []⟩,
  ⟨some 40, .len (.t 39), none, []⟩,
  ⟨some 41, .bin .gtr (.t 40) (.c (.int .i64 0)), none, []⟩,
  ⟨some 42, .mv (.t 41), none, []⟩,
  ⟨some 43, .mv (.t 3), (some (42, true)), []⟩,
  ⟨some 44, .mv (.t 3), (some (42, true)), []⟩,
  ⟨some 45, .len (.t 44), (some (42, true)), []⟩,
  ⟨some 46, .bin .sub (.t 45) (.c (.int .i64 1)), (some (42, true)), []⟩,
  ⟨some 47, .ia 1 (.t 43) (.t 46), (some (42, true)), []⟩,
  ⟨some 48, .ld (.t 47), (some (42, true)), [(.t 47)]⟩,
  ⟨some 49, .mv (.t 4), (some (42, true)), []⟩,
  ⟨some 50, .mv (.t 4), (some (42, true)), []⟩,
  ⟨some 51, .len (.t 50), (some (42, true)), []⟩,
  ⟨some 52, .bin .sub (.t 51) (.c (.int .i64 1)), (some (42, true)), []⟩,
  ⟨some 53, .ia 1 (.t 49) (.t 52), (some (42, true)), []⟩,
  ⟨some 54, .ld (.t 53), (some (42, true)), [(.t 53)]⟩,
  ⟨some 55, .bin .eql (.t 48) (.t 54), (some (42, true)), []⟩,
  ⟨some 56, .pick (.t 42) (.t 55) (.c (.bool false)), none, []⟩])
 (.ite (.t 56) (.skip)
 (.exit 2)))
 (.blk 3 (.seq (.reg [
  ⟨some 57, .mv (.t 4), none, []⟩,
  ⟨some 58, .len (.t 57), none, []⟩,
  ⟨some 59, .bin .sub (.t 58) (.c (.int .i64 1)), none, []⟩,
  ⟨some 6, .mv (.t 59), none, []⟩])
 (.dreg [0, 1, 2, 3, 4, 5, 6, 7, 8, 9, 10, 11, 12, 13, 14, 15] [
  ⟨some 60, .mv (.t 3), none, []⟩,
  ⟨some 61, .mv (.t 3), none, []⟩,
  ⟨some 62, .len (.t 61), none, []⟩,
  ⟨some 63, .bin .sub (.t 62) (.c (.int .i64 1)), none, []⟩,
  ⟨some 64, .sl 1 (.t 60) none (some (.t 63)) none, none, [(.t 60)]⟩,
  ⟨some 65, .mv (.t 4), none, []⟩,
  ⟨some 66, .mv (.t 6), none, []⟩,
  ⟨some 67, .ia 1 (.t 65) (.t 66), none, []⟩,
  ⟨some 68, .ld (.t 67), none, [(.t 67)]⟩,
  ⟨some 69, .lit 3 [(.int .i64 0)] [(0, 1, (.t 68))] 1, none, []⟩,
  ⟨some 70, .mv (.t 4), none, []⟩,
  ⟨some 71, .mv (.t 6), none, []⟩,
  ⟨some 72, .sl 1 (.t 70) none (some (.t 71)) none, none, [(.t 70)]⟩,
  ⟨some 73, .app 3 1 8 [(.int .i64 0)] (.t 69) (.t 72), none, [(.t 60)]⟩,
  ⟨some 3, .mv (.t 64), none, []⟩,
  ⟨some 4, .mv (.t 73), none, []⟩]))))))
 (.seq (.reg [
  ⟨some 74, .mv (.t 3), none, []⟩,
  ⟨some 75, .mv (.t 4), none, []⟩,
  ⟨some 76, .build [(.slice none 0 0), (.slice none 0 0)] [(0, 1, (.t 74)), (1, 1, (.t 75))], none, []⟩,
  ⟨none, .st 2 (.t 2) (.t 76), none, []⟩])
 (.ret)))))⟩
def m83 : MFun := ⟨61, [.t 2],
 .seq (.reg [
  ⟨some 2, .mv (.c (.slice none 0 0)), none, []⟩])
 (.seq (.seq (.reg [
  ⟨some 6, .mv (.t 0), none, []⟩,
  ⟨some 7, .len (.t 6), none, []⟩,
  ⟨some 8, .bin .lss (.t 7) (.c (.int .i64 2)), none, []⟩])
 (.ite (.t 8) (.seq (.reg [
  ⟨some 9, .mv (.t 0), none, []⟩,
  ⟨some 2, .mv (.t 9), none, []⟩])
 (.ret))
 (.skip)))
 (.seq (.seq (.reg [
  ⟨some 3, .mv (.c (.int .i64 1)), none, []⟩])
 (.blk 0 (.loop (.seq (.seq (.reg [
  ⟨some 10, .mv (.t 3), none, []⟩,
  ⟨some 11, .mv (.t 0), none, []⟩,
  ⟨some 12, .len (.t 11), none, []⟩,
  ⟨some 13, .bin .lss (.t 10) (.t 12), none, []⟩])
 (.ite (.t 13) (.skip)
 (.exit 0)))
 (.seq (.blk 1 (.seq (.dreg [0, 1, 2, 3, 4, 5, 6, 7, 8, 9] [
  ⟨some 16, .mv (.t 0), none, []⟩,
  ⟨some 17, .mv (.t 3), none, []⟩,
  ⟨some 18, .ia 1 (.t 16) (.t 17), none, []⟩,
  ⟨some 19, .ld (.t 18), none, [(.t 18)]⟩,
  ⟨some 20, .mv (.t 0), none, []⟩,
  ⟨some 21, .mv (.t 3), none, []⟩,
  ⟨some 22, .bin .sub (.t 21) (.c (.int .i64 1)), none, []⟩,
  ⟨some 23, .ia 1 (.t 20) (.t 22), none, []⟩,
  ⟨some 24, .ld (.t 23), none, [(.t 23)]⟩,
  ⟨some 25, .bin .eql (.t 19) (.t 24), none, []⟩])
 (.ite (.t 25) (.seq (.reg [
  ⟨some 26, .mv (.t 0), none, []⟩,
  ⟨some 27, .mv (.t 3), none, []⟩,
  ⟨some 28, .sl 1 (.t 26) (some (.t 27)) none none, none, []⟩,
  ⟨some 4, .mv (.t 28), none, []⟩])
 (.seq (.seq (.reg [
  ⟨some 5, .mv (.c (.int .i64 1)), none, []⟩])
 (.blk 2 (.loop (.seq (.seq (.reg [
  ⟨some 29, .mv (.t 5), none, []⟩,
  ⟨some 30, .mv (.t 4), none, []⟩,
  ⟨some 31, .len (.t 30), none, []⟩,
  ⟨some 32, .bin .lss (.t 29) (.t 31), none, []⟩])
 (.ite (.t 32) (.skip)
 (.exit 2)))
 (.seq (.blk 3 (.seq (.dreg [0, 1, 2, 3, 4, 5, 6, 7, 8, 9] [
  ⟨some 35, .mv (.t 4), none, []⟩,
  ⟨some 36, .mv (.t 5), none, []⟩,
  ⟨some 37, .ia 1 (.t 35) (.t 36), none, []⟩,
  ⟨some 38, .ld (.t 37), none, [(.t 37)]⟩,
  ⟨some 39, .mv (.t 4), none, []⟩,
  ⟨some 40, .mv (.t 5), none, []⟩,
  ⟨some 41, .bin .sub (.t 40) (.c (.int .i64 1)), none, []⟩,
  ⟨some 42, .ia 1 (.t 39) (.t 41), none, []⟩,
  ⟨some 43, .ld (.t 42), none, [(.t 42)]⟩,
  ⟨some 44, .bin .neq (.t 38) (.t 43), none, []⟩])
 (.ite (.t 44) (.seq (.reg [
  ⟨some 45, .mv (.t 0), none, []⟩,
  ⟨some 46, .mv (.t 3), none, []⟩,
  ⟨some 47, .mv (.t 4), none, []⟩,
  ⟨some 48, .mv (.t 5), none, []⟩,
  ⟨some 49, .ia 1 (.t 47) (.t 48), none, []⟩,
  ⟨some 50, .ld (.t 49), none, []⟩,
  ⟨some 51, .ia 1 (.t 45) (.t 46), none, []⟩,
  ⟨none, .st 1 (.t 51) (.t 50), none, []⟩])
 (.reg [
  ⟨some 52, .mv (.t 3), none, []⟩,
  ⟨some 53, .bin .add (.t 52) (.c (.int .i64 1)), none, []⟩,
  ⟨some 3, .mv (.t 53), none, []⟩]))
 (.skip))))
 (.reg [
  ⟨some 33, .mv (.t 5), none, []⟩,
  ⟨some 34, .bin .add (.t 33) (.c (.int .i64 1)), none, []⟩,
  ⟨some 5, .mv (.t 34), none, []⟩]))))))
 (.seq (.reg [
  ⟨some 54, .mv (.t 0), none, []⟩,
  ⟨some 55, .mv (.t 3), none, []⟩,
  ⟨some 56, .sl 1 (.t 54) (some (.t 55)) none none, none, []⟩,
  ⟨none, .clr [(.int .i64 0)] (.t 56), none, []⟩])
 (.seq (.reg [
  ⟨some 57, .mv (.t 0), none, []⟩,
  ⟨some 58, .mv (.t 3), none, []⟩,
  ⟨some 59, .sl 1 (.t 57) none (some (.t 58)) none, none, []⟩,
  ⟨some 2, .mv (.t 59), none, []⟩])
 (.ret)))))
 (.skip))))
 (.reg [
  ⟨some 14, .mv (.t 3), none, []⟩,
  ⟨some 15, .bin .add (.t 14) (.c (.int .i64 1)), none, []⟩,
  ⟨some 3, .mv (.t 15), none, []⟩]))))))
 (.seq (.reg [
  ⟨some 60, .mv (.t 0), none, []⟩,
  ⟨some 2, .mv (.t 60), none, []⟩])
 (.ret))))⟩
def m84 : MFun := ⟨36, [.t 2],
 .seq (.reg [
  ⟨some 2, .mv (.c (.slice none 0 0)), none, []⟩])
 (.seq (.reg [
  ⟨some 3, .mv (.c (.int .i64 0)), none, []⟩])
 (.seq (.seq (.reg [
  ⟨some 9, .mv (.t 0), none, []⟩,
  ⟨some 10, .len (.t 9), none, []⟩,
  ⟨some 11, .mv (.c (.int .i64 0)), none, []⟩])
 (.blk 0 (.loop (.seq (.reg [
  ⟨some 12, .bin .lss (.t 11) (.t 10), none, []⟩])
 (.seq (.ite (.t 12) (.skip)
 (.exit 0))
 (.seq (.blk 1 (.seq (.reg [
  ⟨some 13, .ia 1 (.t 9) (.t 11), none, []⟩,
  ⟨some 14, .ld (.t 13), none, []⟩,
  ⟨some 5, .mv (.t 14), none, []⟩])
 (.seq (.reg [
  ⟨some 15, .mv (.t 3), none, []⟩,
  ⟨some 16, .mv (.t 5), none, []⟩,
  ⟨some 17, .len (.t 16), none, []⟩,
  ⟨some 18, .bin .add (.t 15) (.t 17), none, []⟩,
  ⟨some 3, .mv (.t 18), none, []⟩])
 (.seq (.reg [
  ⟨some 19, .mv (.t 3), none, []⟩,
  ⟨some 20, .bin .lss (.t 19) (.c (.int .i64 0)), none, []⟩])
 (.ite (.t 20) (.reg [
  ⟨some 21, .iface 9 (.c (.string ⟨#[108, 101, 110, 32, 111, 117, 116, 32, 111, 102, 32, 114, 97, 110, 103, 101]⟩)), none, []⟩,
  ⟨none, .bad, none, []⟩])
 (.skip))))))
 (.reg [
  ⟨some 22, .bin .add (.t 11) (.c (.int .i64 1)), none, []⟩,
  ⟨some 11, .mv (.t 22), none, []⟩])))))))
 (.seq (.reg [
  ⟨some 23, .mv (.t 3), none, []⟩,
  ⟨some 24, .call (.f 137) [(.c (.slice none 0 0)), (.t 23)], none, []⟩,
  ⟨some 6, .mv (.t 24), none, []⟩])
 (.seq (.seq (.reg [
  ⟨some 25, .mv (.t 0), none, []⟩,
  ⟨some 26, .len (.t 25), none, []⟩,
  ⟨some 27, .mv (.c (.int .i64 0)), none, []⟩])
 (.blk 2 (.loop (.seq (.reg [
  ⟨some 28, .bin .lss (.t 27) (.t 26), none, []⟩])
 (.seq (.ite (.t 28) (.skip)
 (.exit 2))
 (.seq (.blk 3 (.seq (.reg [
  ⟨some 29, .ia 1 (.t 25) (.t 27), none, []⟩,
  ⟨some 30, .ld (.t 29), none, []⟩,
  ⟨some 8, .mv (.t 30), none, []⟩])
 (.reg [
  ⟨some 31, .mv (.t 6), none, []⟩,
  ⟨some 32, .mv (.t 8), none, []⟩,
  ⟨some 33, .app 3 1 8 [(.int .i64 0)] (.t 31) (.t 32), none, []⟩,
  ⟨some 6, .mv (.t 33), none, []⟩])))
 (.reg [
  ⟨some 34, .bin .add (.t 27) (.c (.int .i64 1)), none, []⟩,
  ⟨some 27, .mv (.t 34), none, []⟩])))))))
 (.seq (.reg [
  ⟨some 35, .mv (.t 6), none, []⟩,
  ⟨some 2, .mv (.t 35), none, []⟩])
 (.ret))))))⟩
def m85 : MFun := ⟨33, [.t 2],
 .seq (.reg [
  ⟨some 2, .mv (.c (.slice none 0 0)), none, []⟩])
 (.seq (.reg [
  ⟨some 3, .mv (.c (.slice none 0 0)), none, []⟩])
 (.seq (.seq (.reg [
  ⟨some 4, .mv (.c (.int .i64 0)), none, []⟩])
 (.blk 0 (.loop (.seq (.seq (.reg [
  ⟨some 5, .mv (.t 4), none, []⟩,
  ⟨some 6, .mv (.t 0), none, []⟩,
  ⟨some 7, .len (.t 6), none, []⟩,
  ⟨some 8, .bin .lss (.t 5) (.t 7), none, []⟩])
 (.ite (.t 8) (.skip)
 (.exit 0)))
 (.seq (.blk 1 (.seq (.dreg [0, 1, 2, 3, 4, 5, 6, 7, 8, 9, 10, 11, 12, 13] [
  ⟨some 11, .mv (.t 4), none, []⟩,
  ⟨some 12, .bin .eql (.t 11) (.c (.int .i64 0)), none, []⟩,
  ⟨some 13, .mv (.t 12), none, []⟩,
  ⟨some 14, .mv (.t 0), (some (13, false)), []⟩,
  ⟨some 15, .mv (.t 4), (some (13, false)), []⟩,
  ⟨some 16, .ia 1 (.t 14) (.t 15), (some (13, false)), []⟩,
  ⟨some 17, .ld (.t 16), (some (13, false)), [(.t 16)]⟩,
  ⟨some 18, .mv (.t 0), (some (13, false)), []⟩,
  ⟨some 19, .mv (.t 4), (some (13, false)), []⟩,
  ⟨some 20, .bin .sub (.t 19) (.c (.int .i64 1)), (some (13, false)), []⟩,
  ⟨some 21, .ia 1 (.t 18) (.t 20), (some (13, false)), []⟩,
  ⟨some 22, .ld (.t 21), (some (13, false)), [(.t 21)]⟩,
  ⟨some 23, .bin .neq (.t 17) (.t 22), (some (13, false)), []⟩,
  ⟨some 24, .pick (.t 13) (.c (.bool true)) (.t 23), none, []⟩])
 (.ite (.t 24) (.reg [
  ⟨some 25, .mv (.t 3), none, []⟩,
  ⟨some 26, .mv (.t 0), none, []⟩,
  ⟨some 27, .mv (.t 4), none, []⟩,
  ⟨some 28, .ia 1 (.t 26) (.t 27), none, []⟩,
  ⟨some 29, .ld (.t 28), none, []⟩,
  ⟨some 30, .lit 3 [(.int .i64 0)] [(0, 1, (.t 29))] 1, none, []⟩,
  ⟨some 31, .app 3 1 8 [(.int .i64 0)] (.t 25) (.t 30), none, []⟩,
  ⟨some 3, .mv (.t 31), none, []⟩])
 (.skip))))
 (.reg [
  ⟨some 9, .mv (.t 4), none, []⟩,
  ⟨some 10, .bin .add (.t 9) (.c (.int .i64 1)), none, []⟩,
  ⟨some 4, .mv (.t 10), none, []⟩]))))))
 (.seq (.reg [
  ⟨some 32, .mv (.t 3), none, []⟩,
  ⟨some 2, .mv (.t 32), none, []⟩])
 (.ret))))⟩
def m86 : MFun := ⟨92, [.t 2],
 .seq (.reg [
  ⟨some 1, .box 45 (.t 0), none, []⟩,
  ⟨some 2, .mv (.c (.bool false)), none, []⟩])
 (.seq (.seq (.reg [
  ⟨some 7, .fa 0 (.t 1), none, []⟩,
  ⟨some 8, .ld (.t 7), none, []⟩,
  ⟨some 9, .call (.f 65) [(.t 8), (.c (.int .i64 0)), (.c (.int .i64 400))], none, []⟩,
  ⟨some 10, .not (.t 9), none, []⟩,
  ⟨some 11, .mv (.t 10), none, []⟩,
  ⟨some 12, .fa 2 (.t 1), (some (11, false)), []⟩,
  ⟨some 13, .ld (.t 12), (some (11, false)), []⟩,
  ⟨some 14, .len (.t 13), (some (11, false)), []⟩,
  ⟨some 15, .bin .gtr (.t 14) (.c (.int .i64 2000)), (some (11, false)), []⟩,
  ⟨some 16, .pick (.t 11) (.c (.bool true)) (.t 15), none, []⟩])
 (.ite (.t 16) (.seq (.reg [
  ⟨some 2, .mv (.c (.bool false)), none, []⟩])
 (.ret))
 (.skip)))
 (.seq (.seq (.reg [
  ⟨some 17, .fa 1 (.t 1), none, []⟩,
  ⟨some 18, .ld (.t 17), none, []⟩,
  ⟨some 19, .len (.t 18), none, []⟩,
  ⟨some 20, .mv (.c (.int .i64 0)), none, []⟩])
 (.blk 0 (.loop (.seq (.reg [
  ⟨some 21, .bin .lss (.t 20) (.t 19), none, []⟩])
 (.seq (.ite (.t 21) (.skip)
 (.exit 0))
 (.seq (.blk 1 (.seq (.reg [
  ⟨some 22, .mv (.t 20), none, []⟩,
  ⟨some 23, .ia 1 (.t 18) (.t 20), none, []⟩,
  ⟨some 24, .ld (.t 23), none, []⟩,
  ⟨some 3, .mv (.t 22), none, []⟩,
  ⟨some 4, .mv (.t 24), none, []⟩])
 (.seq (.reg [
  ⟨some 25, .mv (.t 4), none, []⟩,
  ⟨some 26, .fa 0 (.t 1), none, []⟩,
  ⟨some 27, .ld (.t 26), none, []⟩,
  ⟨some 28, .bin .sub (.t 27) (.c (.int .i64 1)), none, []⟩,
  ⟨some 29, .call (.f 65) [(.t 25), (.c (.int .i64 0)), (.t 28)], none, []⟩,
  ⟨some 30, .not (.t 29), none, []⟩,
  ⟨some 31, .mv (.t 30), none, []⟩,
  ⟨some 32, .mv (.t 3), (some (31, false)), []⟩,
  ⟨some 33, .bin .gtr (.t 32) (.c (.int .i64 0)), (some (31, false)), []⟩,
  ⟨some 34, .mv (.t 33), (some (31, false)), []⟩,
  ⟨some 35, .mv (.t 4), (some (34, true)), []⟩,
  ⟨some 36, .fa 1 (.t 1), (some (34, true)), []⟩,
  ⟨some 37, .ld (.t 36), (some (34, true)), []⟩,
  ⟨some 38, .mv (.t 3), (some (34, true)), []⟩,
  ⟨some 39, .bin .sub (.t 38) (.c (.int .i64 1)), (some (34, true)), []⟩,
  ⟨some 40, .ia 1 (.t 37) (.t 39), (some (34, true)), []⟩,
  ⟨some 41, .ld (.t 40), (some (34, true)), []⟩,
  ⟨some 42, .bin .leq (.t 35) (.t 41), (some (34, true)), []⟩,
  ⟨some 43, .pick (.t 34) (.t 42) (.c (.bool false)), (some (31, false)), []⟩,
  ⟨some 44, .pick (.t 31) (.c (.bool true)) (.t 43), none, []⟩])
 (.ite (.t 44) (.seq (.reg [
  ⟨some 2, .mv (.c (.bool false)), none, []⟩])
 (.ret))
 (.skip)))))
 (.reg [
  ⟨some 45, .bin .add (.t 20) (.c (.int .i64 1)), none, []⟩,
  ⟨some 20, .mv (.t 45), none, []⟩])))))))
 (.seq (.seq (.reg [
  ⟨some 46, .fa 2 (.t 1), none, []⟩,
  ⟨some 47, .ld (.t 46), none, []⟩,
  ⟨some 48, .len (.t 47), none, []⟩,
  ⟨some 49, .mv (.c (.int .i64 0)), none, []⟩])
 (.blk 2 (.loop (.seq (.reg [
  ⟨some 50, .bin .lss (.t 49) (.t 48), none, []⟩])
 (.seq (.ite (.t 50) (.skip)
 (.exit 2))
 (.seq (.blk 3 (.seq (.reg [
  ⟨some 51, .mv (.t 49), none, []⟩,
  ⟨some 52, .ia 3 (.t 47) (.t 49), none, []⟩,
  ⟨some 53, .lds 3 (.t 52), none, []⟩,
  ⟨some 6, .new [(.int .i64 0), (.int .i64 0), (.int .i64 0)] 129, none, []⟩,
  ⟨some 5, .mv (.t 51), none, []⟩,
  ⟨none, .st 3 (.t 6) (.t 53), none, []⟩])
 (.seq (.dreg [0, 1, 2, 3, 4, 5, 6, 7, 8, 9, 10, 11, 12, 13, 14, 15, 16, 17, 18, 19, 20, 21, 22, 23, 24, 25, 26, 27, 28, 29, 30, 31, 32, 33, 34, 35, 36] [
  ⟨some 54, .fa 0 (.t 6), none, []⟩,
  ⟨some 55, .ld (.t 54), none, [(.t 54)]⟩,
  ⟨some 56, .fa 0 (.t 1), none, []⟩,
  ⟨some 57, .ld (.t 56), none, [(.t 56)]⟩,
  ⟨some 58, .bin .sub (.t 57) (.c (.int .i64 1)), none, []⟩,
  ⟨some 59, .call (.f 65) [(.t 55), (.c (.int .i64 0)), (.t 58)], none, []⟩,
  ⟨some 60, .not (.t 59), none, []⟩,
  ⟨some 61, .mv (.t 60), none, []⟩,
  ⟨some 62, .fa 1 (.t 6), (some (61, false)), []⟩,
  ⟨some 63, .ld (.t 62), (some (61, false)), [(.t 62)]⟩,
  ⟨some 64, .fa 0 (.t 1), (some (61, false)), []⟩,
  ⟨some 65, .ld (.t 64), (some (61, false)), [(.t 64)]⟩,
  ⟨some 66, .bin .sub (.t 65) (.c (.int .i64 1)), (some (61, false)), []⟩,
  ⟨some 67, .call (.f 65) [(.t 63), (.c (.int .i64 0)), (.t 66)], (some (61, false)), []⟩,
  ⟨some 68, .not (.t 67), (some (61, false)), []⟩,
  ⟨some 69, .pick (.t 61) (.c (.bool true)) (.t 68), none, []⟩,
  ⟨some 70, .mv (.t 69), none, []⟩,
  ⟨some 71, .fa 2 (.t 6), (some (70, false)), []⟩,
  ⟨some 72, .ld (.t 71), (some (70, false)), [(.t 71)]⟩,
  ⟨some 73, .call (.f 65) [(.t 72), (.c (.int .i64 0)), (.c (.int .i64 11))], (some (70, false)), []⟩,
  ⟨some 74, .not (.t 73), (some (70, false)), []⟩,
  ⟨some 75, .pick (.t 70) (.c (.bool true)) (.t 74), none, []⟩,
  ⟨some 76, .mv (.t 75), none, []⟩,
  ⟨some 77, .mv (.t 5), (some (76, false)), []⟩,
  ⟨some 78, .bin .gtr (.t 77) (.c (.int .i64 0)), (some (76, false)), []⟩,
  ⟨some 79, .mv (.t 78), (some (76, false)), []⟩,
  ⟨some 80, .fa 2 (.t 1), (some (79, true)), []⟩,
  ⟨some 81, .ld (.t 80), (some (79, true)), [(.t 80)]⟩,
  ⟨some 82, .mv (.t 5), (some (79, true)), []⟩,
  ⟨some 83, .bin .sub (.t 82) (.c (.int .i64 1)), (some (79, true)), []⟩,
  ⟨some 84, .ia 3 (.t 81) (.t 83), (some (79, true)), []⟩,
  ⟨some 85, .lds 3 (.t 84), (some (79, true)), [(.t 84)]⟩,
  ⟨some 86, .lds 3 (.t 6), (some (79, true)), [(.t 6)]⟩,
  ⟨some 87, .call (.f 138) [(.t 85), (.t 86)], (some (79, true)), []⟩,
  ⟨some 88, .bin .geq (.t 87) (.c (.int .i64 0)), (some (79, true)), []⟩,
  ⟨some 89, .pick (.t 79) (.t 88) (.c (.bool false)), (some (76, false)), []⟩,
  ⟨some 90, .pick (.t 76) (.c (.bool true)) (.t 89), none, []⟩])
 (.ite (.t 90) (.seq (.reg [
  ⟨some 2, .mv (.c (.bool false)), none, []⟩])
 (.ret))
 (.skip)))))
 (.reg [
  ⟨some 91, .bin .add (.t 49) (.c (.int .i64 1)), none, []⟩,
  ⟨some 49, .mv (.t 91), none, []⟩])))))))
 (.seq (.reg [
  ⟨some 2, .mv (.c (.bool true)), none, []⟩])
 (.ret)))))⟩
def m87 : MFun := ⟨42, [.t 4, .t 5],
 .seq (.reg [
  ⟨some 4, .mv (.c (.int .i64 0)), none, []⟩,
  ⟨some 5, .mv (.c (.int .i64 0)), none, []⟩])
 (.seq (.seq (.reg [
  ⟨some 9, .mv (.t 0), none, []⟩,
  ⟨some 10, .len (.t 9), none, []⟩,
  ⟨some 11, .mv (.c (.int .i64 0)), none, []⟩])
 (.blk 0 (.loop (.seq (.reg [
  ⟨some 12, .bin .lss (.t 11) (.t 10), none, []⟩])
 (.seq (.ite (.t 12) (.skip)
 (.exit 0))
 (.seq (.blk 1 (.seq (.reg [
  ⟨some 13, .mv (.t 11), none, []⟩,
  ⟨some 14, .ia 1 (.t 9) (.t 11), none, []⟩,
  ⟨some 15, .ld (.t 14), none, []⟩,
  ⟨some 6, .mv (.t 13), none, []⟩,
  ⟨some 7, .mv (.t 15), none, []⟩])
 (.seq (.reg [
  ⟨some 16, .mv (.t 7), none, []⟩,
  ⟨some 17, .mv (.t 1), none, []⟩,
  ⟨some 18, .bin .sub (.t 17) (.c (.int .i64 1)), none, []⟩,
  ⟨some 19, .call (.f 65) [(.t 16), (.c (.int .i64 0)), (.t 18)], none, []⟩,
  ⟨some 20, .not (.t 19), none, []⟩,
  ⟨some 21, .call (.f 67) [(.t 20), (.c (.int .i64 10))], none, []⟩,
  ⟨some 22, .mv (.t 6), none, []⟩,
  ⟨some 23, .bin .gtr (.t 22) (.c (.int .i64 0)), none, []⟩,
  ⟨some 24, .mv (.t 23), none, []⟩,
  ⟨some 25, .mv (.t 7), (some (24, true)), []⟩,
  ⟨some 26, .mv (.t 0), (some (24, true)), []⟩,
  ⟨some 27, .mv (.t 6), (some (24, true)), []⟩,
  ⟨some 28, .bin .sub (.t 27) (.c (.int .i64 1)), (some (24, true)), []⟩,
  ⟨some 29, .max2 (.t 28) (.c (.int .i64 0)), (some (24, true)), []⟩,
  ⟨some 30, .ia 1 (.t 26) (.t 29), (some (24, true)), []⟩,
  ⟨some 31, .ld (.t 30), (some (24, true)), []⟩,
  ⟨some 32, .bin .leq (.t 25) (.t 31), (some (24, true)), []⟩,
  ⟨some 33, .pick (.t 24) (.t 32) (.c (.bool false)), none, []⟩,
  ⟨some 34, .call (.f 67) [(.t 33), (.c (.int .i64 13))], none, []⟩,
  ⟨some 35, .lit 30 [(.int .i64 0)] [(0, 1, (.t 21)), (1, 1, (.t 34))] 2, none, []⟩,
  ⟨some 36, .call (.f 66) [(.t 35)], none, []⟩,
  ⟨some 8, .mv (.t 36), none, []⟩])
 (.seq (.reg [
  ⟨some 37, .mv (.t 8), none, []⟩,
  ⟨some 38, .bin .neq (.t 37) (.c (.int .i64 0)), none, []⟩])
 (.ite (.t 38) (.seq (.reg [
  ⟨some 39, .mv (.t 6), none, []⟩,
  ⟨some 40, .mv (.t 8), none, []⟩,
  ⟨some 4, .mv (.t 39), none, []⟩,
  ⟨some 5, .mv (.t 40), none, []⟩])
 (.ret))
 (.skip))))))
 (.reg [
  ⟨some 41, .bin .add (.t 11) (.c (.int .i64 1)), none, []⟩,
  ⟨some 11, .mv (.t 41), none, []⟩])))))))
 (.seq (.reg [
  ⟨some 4, .mv (.c (.int .i64 0)), none, []⟩,
  ⟨some 5, .mv (.c (.int .i64 0)), none, []⟩])
 (.ret)))⟩
def m88 : MFun := ⟨110, [.t 2],
 .seq (.reg [
  ⟨some 1, .box 45 (.t 0), none, []⟩,
  ⟨some 2, .mv (.c (.bool false)), none, []⟩])
 (.seq (.seq (.reg [
  ⟨some 6, .fa 0 (.t 1), none, []⟩,
  ⟨some 7, .ld (.t 6), none, []⟩,
  ⟨some 8, .call (.f 26) [(.t 7), (.c (.int .i64 0)), (.c (.int .i64 400))], none, []⟩,
  ⟨some 9, .not (.t 8), none, []⟩,
  ⟨some 10, .mv (.t 9), none, []⟩,
  ⟨some 11, .fa 1 (.t 1), (some (10, false)), []⟩,
  ⟨some 12, .ld (.t 11), (some (10, false)), []⟩,
  ⟨some 13, .len (.t 12), (some (10, false)), []⟩,
  ⟨some 14, .fa 0 (.t 1), (some (10, false)), []⟩,
  ⟨some 15, .ld (.t 14), (some (10, false)), []⟩,
  ⟨some 16, .bin .gtr (.t 13) (.t 15), (some (10, false)), []⟩,
  ⟨some 17, .pick (.t 10) (.c (.bool true)) (.t 16), none, []⟩,
  ⟨some 18, .mv (.t 17), none, []⟩,
  ⟨some 19, .fa 2 (.t 1), (some (18, false)), []⟩,
  ⟨some 20, .ld (.t 19), (some (18, false)), []⟩,
  ⟨some 21, .len (.t 20), (some (18, false)), []⟩,
  ⟨some 22, .bin .gtr (.t 21) (.c (.int .i64 2000)), (some (18, false)), []⟩,
  ⟨some 23, .pick (.t 18) (.c (.bool true)) (.t 22), none, []⟩])
 (.ite (.t 23) (.seq (.reg [
  ⟨some 2, .mv (.c (.bool false)), none, []⟩])
 (.ret))
 (.skip)))
 (.seq (.seq (.reg [
  ⟨some 3, .mv (.c (.int .i64 0)), none, []⟩])
 (.blk 0 (.loop (.seq (.seq (.reg [
  ⟨some 24, .mv (.t 3), none, []⟩,
  ⟨some 25, .fa 1 (.t 1), none, []⟩,
  ⟨some 26, .ld (.t 25), none, []⟩,
  ⟨some 27, .len (.t 26), none, []⟩,
  ⟨some 28, .bin .lss (.t 24) (.t 27), none, []⟩])
 (.ite (.t 28) (.skip)
 (.exit 0)))
 (.seq (.blk 1 (.seq (.dreg [0, 1, 2, 3, 4, 5, 6, 7, 8, 9, 10, 11, 12, 13, 14, 15, 16, 17, 18, 19, 20, 21, 22, 23, 24, 25, 26, 27] [
  ⟨some 31, .fa 1 (.t 1), none, []⟩,
  ⟨some 32, .ld (.t 31), none, [(.t 31)]⟩,
  ⟨some 33, .mv (.t 3), none, []⟩,
  ⟨some 34, .ia 1 (.t 32) (.t 33), none, []⟩,
  ⟨some 35, .ld (.t 34), none, [(.t 34)]⟩,
  ⟨some 36, .fa 0 (.t 1), none, []⟩,
  ⟨some 37, .ld (.t 36), none, [(.t 36)]⟩,
  ⟨some 38, .bin .sub (.t 37) (.c (.int .i64 1)), none, []⟩,
  ⟨some 39, .call (.f 26) [(.t 35), (.c (.int .i64 0)), (.t 38)], none, []⟩,
  ⟨some 40, .not (.t 39), none, []⟩,
  ⟨some 41, .mv (.t 40), none, []⟩,
  ⟨some 42, .mv (.t 3), (some (41, false)), []⟩,
  ⟨some 43, .bin .gtr (.t 42) (.c (.int .i64 0)), (some (41, false)), []⟩,
  ⟨some 44, .mv (.t 43), (some (41, false)), []⟩,
  ⟨some 45, .fa 1 (.t 1), (some (44, true)), []⟩,
  ⟨some 46, .ld (.t 45), (some (44, true)), [(.t 45)]⟩,
  ⟨some 47, .mv (.t 3), (some (44, true)), []⟩,
  ⟨some 48, .ia 1 (.t 46) (.t 47), (some (44, true)), []⟩,
  ⟨some 49, .ld (.t 48), (some (44, true)), [(.t 48)]⟩,
  ⟨some 50, .fa 1 (.t 1), (some (44, true)), []⟩,
  ⟨some 51, .ld (.t 50), (some (44, true)), [(.t 50)]⟩,
  ⟨some 52, .mv (.t 3), (some (44, true)), []⟩,
  ⟨some 53, .bin .sub (.t 52) (.c (.int .i64 1)), (some (44, true)), []⟩,
  ⟨some 54, .ia 1 (.t 51) (.t 53), (some (44, true)), []⟩,
  ⟨some 55, .ld (.t 54), (some (44, true)), [(.t 54)]⟩,
  ⟨some 56, .bin .leq (.t 49) (.t 55), (some (44, true)), []⟩,
  ⟨some 57, .pick (.t 44) (.t 56) (.c (.bool false)), (some (41, false)), []⟩,
  ⟨some 58, .pick (.t 41) (.c (.bool true)) (.t 57), none, []⟩])
 (.ite (.t 58) (.seq (.reg [
  ⟨some 2, .mv (.c (.bool false)), none, []⟩])
 (.ret))
 (.skip))))
 (.reg [
  ⟨some 29, .mv (.t 3), none, []⟩,
  ⟨some 30, .bin .add (.t 29) (.c (.int .i64 1)), none, []⟩,
  ⟨some 3, .mv (.t 30), none, []⟩]))))))
 (.seq (.seq (.reg [
  ⟨some 4, .mv (.c (.int .i64 0)), none, []⟩])
 (.blk 2 (.loop (.seq (.seq (.reg [
  ⟨some 59, .mv (.t 4), none, []⟩,
  ⟨some 60, .fa 2 (.t 1), none, []⟩,
  ⟨some 61, .ld (.t 60), none, []⟩,
  ⟨some 62, .len (.t 61), none, []⟩,
  ⟨some 63, .bin .lss (.t 59) (.t 62), none, []⟩])
 (.ite (.t 63) (.skip)
 (.exit 2)))
 (.seq (.blk 3 (.seq (.reg [
  ⟨some 66, .fa 2 (.t 1), none, []⟩,
  ⟨some 67, .ld (.t 66), none, []⟩,
  ⟨some 68, .mv (.t 4), none, []⟩,
  ⟨some 69, .ia 3 (.t 67) (.t 68), none, []⟩,
  ⟨some 70, .lds 3 (.t 69), none, []⟩,
  ⟨some 5, .new [(.int .i64 0), (.int .i64 0), (.int .i64 0)] 129, none, []⟩,
  ⟨none, .st 3 (.t 5) (.t 70), none, []⟩])
 (.seq (.dreg [0, 1, 2, 3, 4, 5, 6, 7, 8, 9, 10, 11, 12, 13, 14, 15, 16, 17, 18, 19, 20, 21, 22, 23, 24, 25, 26, 27, 28, 29, 30, 31, 33, 32, 34, 35, 36, 37, 38] [
  ⟨some 71, .fa 0 (.t 5), none, []⟩,
  ⟨some 72, .ld (.t 71), none, [(.t 71)]⟩,
  ⟨some 73, .fa 0 (.t 1), none, []⟩,
  ⟨some 74, .ld (.t 73), none, [(.t 73)]⟩,
  ⟨some 75, .bin .sub (.t 74) (.c (.int .i64 1)), none, []⟩,
  ⟨some 76, .call (.f 26) [(.t 72), (.c (.int .i64 0)), (.t 75)], none, []⟩,
  ⟨some 77, .not (.t 76), none, []⟩,
  ⟨some 78, .mv (.t 77), none, []⟩,
  ⟨some 79, .fa 1 (.t 5), (some (78, false)), []⟩,
  ⟨some 80, .ld (.t 79), (some (78, false)), [(.t 79)]⟩,
  ⟨some 81, .fa 0 (.t 1), (some (78, false)), []⟩,
  ⟨some 82, .ld (.t 81), (some (78, false)), [(.t 81)]⟩,
  ⟨some 83, .bin .sub (.t 82) (.c (.int .i64 1)), (some (78, false)), []⟩,
  ⟨some 84, .call (.f 26) [(.t 80), (.c (.int .i64 0)), (.t 83)], (some (78, false)), []⟩,
  ⟨some 85, .not (.t 84), (some (78, false)), []⟩,
  ⟨some 86, .pick (.t 78) (.c (.bool true)) (.t 85), none, []⟩,
  ⟨some 87, .mv (.t 86), none, []⟩,
  ⟨some 88, .fa 2 (.t 5), (some (87, false)), []⟩,
  ⟨some 89, .ld (.t 88), (some (87, false)), [(.t 88)]⟩,
  ⟨some 90, .call (.f 26) [(.t 89), (.c (.int .i64 0)), (.c (.int .i64 11))], (some (87, false)), []⟩,
  ⟨some 91, .not (.t 90), (some (87, false)), []⟩,
  ⟨some 92, .pick (.t 87) (.c (.bool true)) (.t 91), none, []⟩,
  ⟨some 93, .mv (.t 92), none, []⟩,
  ⟨some 94, .mv (.t 4), (some (93, false)), []⟩,
  ⟨some 95, .bin .gtr (.t 94) (.c (.int .i64 0)), (some (93, false)), []⟩,
  ⟨some 96, .mv (.t 95), (some (93, false)), []⟩,
  ⟨some 97, .fa 2 (.t 1), (some (96, true)), []⟩,
  ⟨some 98, .ld (.t 97), (some (96, true)), [(.t 97)]⟩,
  ⟨some 99, .mv (.t 4), (some (96, true)), []⟩,
  ⟨some 100, .bin .sub (.t 99) (.c (.int .i64 1)), (some (96, true)), []⟩,
  ⟨some 101, .ia 3 (.t 98) (.t 100), (some (96, true)), []⟩,
  ⟨some 102, .lds 3 (.t 101), (some (96, true)), [(.t 101)]⟩,
  ⟨some 104, .lds 3 (.t 5), (some (96, true)), [(.t 5)]⟩,
  ⟨some 103, .call (.f 140) [(.t 102)], (some (96, true)), [(.t 5)]⟩,
  ⟨some 105, .call (.f 140) [(.t 104)], (some (96, true)), []⟩,
  ⟨some 106, .call (.f 139) [(.t 103), (.t 105)], (some (96, true)), []⟩,
  ⟨some 107, .bin .geq (.t 106) (.c (.int .i64 0)), (some (96, true)), []⟩,
  ⟨some 108, .pick (.t 96) (.t 107) (.c (.bool false)), (some (93, false)), []⟩,
  ⟨some 109, .pick (.t 93) (.c (.bool true)) (.t 108), none, []⟩])
 (.ite (.t 109) (.seq (.reg [
  ⟨some 2, .mv (.c (.bool false)), none, []⟩])
 (.ret))
 (.skip)))))
 (.reg [
  ⟨some 64, .mv (.t 4), none, []⟩,
  ⟨some 65, .bin .add (.t 64) (.c (.int .i64 1)), none, []⟩,
  ⟨some 4, .mv (.t 65), none, []⟩]))))))
 (.seq (.reg [
  ⟨some 2, .mv (.c (.bool true)), none, []⟩])
 (.ret)))))⟩
def m89 : MFun := ⟨5, [.t 2],
 .seq (.reg [
  ⟨some 2, .mv (.c (.bool false)), none, []⟩])
 (.seq (.reg [
  ⟨some 3, .mv (.t 0), none, []⟩,
  ⟨some 4, .call (.f 26) [(.t 3), (.c (.int .i64 (-1))), (.c (.int .i64 11))], none, []⟩,
  ⟨some 2, .mv (.t 4), none, []⟩])
 (.ret))⟩
def m90 : MFun := ⟨39, [.t 4, .t 5],
 .seq (.reg [
  ⟨some 2, .box 47 (.t 0), none, []⟩,
  ⟨some 4, .mv (.c (.int .i64 0)), none, []⟩,
  ⟨some 5, .mv (.c (.int .i64 0)), none, []⟩])
 (.seq (.seq (.reg [
  ⟨some 6, .mv (.c (.int .i64 0)), none, []⟩])
 (.blk 0 (.loop (.seq (.seq (.reg [
  ⟨some 7, .mv (.t 6), none, []⟩,
  ⟨some 8, .mv (.t 1), none, []⟩,
  ⟨some 9, .len (.t 8), none, []⟩,
  ⟨some 10, .bin .lss (.t 7) (.t 9), none, []⟩])
 (.ite (.t 10) (.skip)
 (.exit 0)))
 (.seq (.blk 1 (.seq (.seq (.dreg [0, 1, 2, 3, 4, 5, 6, 7, 8, 9] [
  ⟨some 13, .mv (.t 1), none, []⟩,
  ⟨some 14, .mv (.t 6), none, []⟩,
  ⟨some 15, .ia 1 (.t 13) (.t 14), none, []⟩,
  ⟨some 16, .ld (.t 15), none, [(.t 15)]⟩,
  ⟨some 17, .fa 4 (.t 2), none, []⟩,
  ⟨some 18, .ld (.t 17), none, [(.t 17)]⟩,
  ⟨some 19, .len (.t 18), none, []⟩,
  ⟨some 20, .bin .sub (.t 19) (.c (.int .i64 1)), none, []⟩,
  ⟨some 21, .call (.f 26) [(.t 16), (.c (.int .i64 0)), (.t 20)], none, []⟩,
  ⟨some 22, .not (.t 21), none, []⟩])
 (.ite (.t 22) (.seq (.reg [
  ⟨some 23, .mv (.t 6), none, []⟩,
  ⟨some 4, .mv (.t 23), none, []⟩,
  ⟨some 5, .mv (.c (.int .i64 10)), none, []⟩])
 (.ret))
 (.skip)))
 (.seq (.dreg [0, 1, 2, 3, 4, 5, 6, 7, 8, 9, 10, 11, 12, 13] [
  ⟨some 24, .mv (.t 6), none, []⟩,
  ⟨some 25, .bin .gtr (.t 24) (.c (.int .i64 0)), none, []⟩,
  ⟨some 26, .mv (.t 25), none, []⟩,
  ⟨some 27, .mv (.t 1), (some (26, true)), []⟩,
  ⟨some 28, .mv (.t 6), (some (26, true)), []⟩,
  ⟨some 29, .ia 1 (.t 27) (.t 28), (some (26, true)), []⟩,
  ⟨some 30, .ld (.t 29), (some (26, true)), [(.t 29)]⟩,
  ⟨some 31, .mv (.t 1), (some (26, true)), []⟩,
  ⟨some 32, .mv (.t 6), (some (26, true)), []⟩,
  ⟨some 33, .bin .sub (.t 32) (.c (.int .i64 1)), (some (26, true)), []⟩,
  ⟨some 34, .ia 1 (.t 31) (.t 33), (some (26, true)), []⟩,
  ⟨some 35, .ld (.t 34), (some (26, true)), [(.t 34)]⟩,
  ⟨some 36, .bin .leq (.t 30) (.t 35), (some (26, true)), []⟩,
  ⟨some 37, .pick (.t 26) (.t 36) (.c (.bool false)), none, []⟩])
 (.ite (.t 37) (.seq (.reg [
  ⟨some 38, .mv (.t 6), none, []⟩,
  ⟨some 4, .mv (.t 38), none, []⟩,
  ⟨some 5, .mv (.c (.int .i64 13)), none, []⟩])
 (.ret))
 (.skip)))))
 (.reg [
  ⟨some 11, .mv (.t 6), none, []⟩,
  ⟨some 12, .bin .add (.t 11) (.c (.int .i64 1)), none, []⟩,
  ⟨some 6, .mv (.t 12), none, []⟩]))))))
 (.seq (.reg [
  ⟨some 4, .mv (.c (.int .i64 0)), none, []⟩,
  ⟨some 5, .mv (.c (.int .i64 0)), none, []⟩])
 (.ret)))⟩
def m91 : MFun := ⟨9, [.t 4],
 .seq (.reg [
  ⟨some 4, .mv (.c (.bool false)), none, []⟩])
 (.seq (.reg [
  ⟨some 5, .mv (.t 0), none, []⟩,
  ⟨some 6, .mv (.t 1), none, []⟩,
  ⟨some 7, .call (.f 141) [(.t 5), (.t 6)], none, []⟩,
  ⟨some 8, .bin .geq (.t 7) (.c (.int .i64 0)), none, []⟩,
  ⟨some 4, .mv (.t 8), none, []⟩])
 (.ret))⟩
end Dm.YtmgehmhebnjaaaaGreatDoor
