/- Lemmas that lead to the statement: The machine's code, printed by mcode.py. The table of the machine's functions, printed by mcode.py. -/
import Derived.Test.YtmgehmhebnjaaaaGreatDoorM0
import Derived.Test.YtmgehmhebnjaaaaGreatDoorM6
set_option linter.all false
section
set_option maxRecDepth 100000
namespace Dm.YtmgehmhebnjaaaaGreatDoor
open Go
def m92 : MFun := ⟨18, [.t 6],
 .seq (.reg [
  ⟨some 3, .box 47 (.t 0), none, []⟩,
  ⟨some 6, .mv (.c (.bool false)), none, []⟩])
 (.seq (.reg [
  ⟨some 7, .mv (.t 1), none, []⟩,
  ⟨some 8, .mv (.t 2), none, []⟩,
  ⟨some 9, .bin .eql (.t 7) (.t 8), none, []⟩,
  ⟨some 10, .mv (.t 9), none, []⟩,
  ⟨some 11, .lds 8 (.t 3), (some (10, false)), []⟩,
  ⟨some 12, .mv (.t 1), (some (10, false)), []⟩,
  ⟨some 13, .mv (.t 2), (some (10, false)), []⟩,
  ⟨some 14, .call (.f 142) [(.t 11), (.t 12), (.t 13)], (some (10, false)), []⟩,
  ⟨some 15, .len (.t 14), (some (10, false)), []⟩,
  ⟨some 16, .bin .gtr (.t 15) (.c (.int .i64 0)), (some (10, false)), []⟩,
  ⟨some 17, .pick (.t 10) (.c (.bool true)) (.t 16), none, []⟩,
  ⟨some 6, .mv (.t 17), none, []⟩])
 (.ret))⟩
def m93 : MFun := ⟨14, [.t 4],
 .seq (.reg [
  ⟨some 2, .box 135 (.t 0), none, []⟩,
  ⟨some 4, .mv (.c (.int .i64 0)), none, []⟩])
 (.seq (.seq (.reg [
  ⟨some 5, .mv (.t 1), none, []⟩,
  ⟨some 6, .fa 0 (.t 2), none, []⟩,
  ⟨some 7, .ld (.t 6), none, []⟩,
  ⟨some 8, .bin .sub (.t 7) (.c (.int .i64 1)), none, []⟩,
  ⟨some 9, .bin .eql (.t 5) (.t 8), none, []⟩])
 (.ite (.t 9) (.seq (.reg [
  ⟨some 10, .fa 1 (.t 2), none, []⟩,
  ⟨some 11, .ld (.t 10), none, []⟩,
  ⟨some 4, .mv (.t 11), none, []⟩])
 (.ret))
 (.skip)))
 (.seq (.reg [
  ⟨some 12, .mv (.t 1), none, []⟩,
  ⟨some 13, .bin .add (.t 12) (.c (.int .i64 1)), none, []⟩,
  ⟨some 4, .mv (.t 13), none, []⟩])
 (.ret)))⟩
def m94 : MFun := ⟨24, [.t 4],
 .seq (.reg [
  ⟨some 2, .box 52 (.t 0), none, []⟩,
  ⟨some 4, .mv (.c (.int .i64 0)), none, []⟩])
 (.seq (.seq (.reg [
  ⟨some 5, .mv (.t 1), none, []⟩,
  ⟨some 6, .fa 0 (.t 2), none, []⟩,
  ⟨some 7, .ld (.t 6), none, []⟩,
  ⟨some 8, .len (.t 7), none, []⟩,
  ⟨some 9, .bin .lss (.t 5) (.t 8), none, []⟩])
 (.ite (.t 9) (.seq (.reg [
  ⟨some 10, .fa 0 (.t 2), none, []⟩,
  ⟨some 11, .ld (.t 10), none, []⟩,
  ⟨some 12, .mv (.t 1), none, []⟩,
  ⟨some 13, .ia 1 (.t 11) (.t 12), none, []⟩,
  ⟨some 14, .ld (.t 13), none, []⟩,
  ⟨some 4, .mv (.t 14), none, []⟩])
 (.ret))
 (.skip)))
 (.seq (.reg [
  ⟨some 15, .fa 1 (.t 2), none, []⟩,
  ⟨some 16, .ld (.t 15), none, []⟩,
  ⟨some 17, .mv (.t 1), none, []⟩,
  ⟨some 18, .fa 0 (.t 2), none, []⟩,
  ⟨some 19, .ld (.t 18), none, []⟩,
  ⟨some 20, .len (.t 19), none, []⟩,
  ⟨some 21, .bin .sub (.t 17) (.t 20), none, []⟩,
  ⟨some 22, .ia 1 (.t 16) (.t 21), none, []⟩,
  ⟨some 23, .ld (.t 22), none, []⟩,
  ⟨some 4, .mv (.t 23), none, []⟩])
 (.ret)))⟩
def m95 : MFun := ⟨18, [.t 4],
 .seq (.reg [
  ⟨some 4, .mv (.c (.bool false)), none, []⟩])
 (.seq (.seq (.reg [
  ⟨some 5, .mv (.c (.int .i64 0)), none, []⟩])
 (.blk 0 (.loop (.seq (.seq (.reg [
  ⟨some 6, .mv (.t 5), none, []⟩,
  ⟨some 7, .mv (.t 0), none, []⟩,
  ⟨some 8, .len (.t 7), none, []⟩,
  ⟨some 9, .bin .lss (.t 6) (.t 8), none, []⟩])
 (.ite (.t 9) (.skip)
 (.exit 0)))
 (.seq (.blk 1 (.seq (.reg [
  ⟨some 12, .mv (.t 0), none, []⟩,
  ⟨some 13, .mv (.t 5), none, []⟩,
  ⟨some 14, .ia 1 (.t 12) (.t 13), none, []⟩,
  ⟨some 15, .ld (.t 14), none, []⟩,
  ⟨some 16, .mv (.t 1), none, []⟩,
  ⟨some 17, .bin .eql (.t 15) (.t 16), none, []⟩])
 (.ite (.t 17) (.seq (.reg [
  ⟨some 4, .mv (.c (.bool true)), none, []⟩])
 (.ret))
 (.skip))))
 (.reg [
  ⟨some 10, .mv (.t 5), none, []⟩,
  ⟨some 11, .bin .add (.t 10) (.c (.int .i64 1)), none, []⟩,
  ⟨some 5, .mv (.t 11), none, []⟩]))))))
 (.seq (.reg [
  ⟨some 4, .mv (.c (.bool false)), none, []⟩])
 (.ret)))⟩
def m96 : MFun := ⟨36, [.t 6],
 .seq (.reg [
  ⟨some 3, .box 45 (.t 0), none, []⟩,
  ⟨some 6, .mv (.c (.bool false)), none, []⟩])
 (.seq (.seq (.reg [
  ⟨some 8, .mv (.t 1), none, []⟩,
  ⟨some 9, .mv (.t 2), none, []⟩,
  ⟨some 10, .bin .eql (.t 8) (.t 9), none, []⟩])
 (.ite (.t 10) (.seq (.reg [
  ⟨some 6, .mv (.c (.bool true)), none, []⟩])
 (.ret))
 (.skip)))
 (.seq (.seq (.reg [
  ⟨some 7, .mv (.c (.int .i64 0)), none, []⟩])
 (.blk 0 (.loop (.seq (.seq (.reg [
  ⟨some 11, .mv (.t 7), none, []⟩,
  ⟨some 12, .fa 2 (.t 3), none, []⟩,
  ⟨some 13, .ld (.t 12), none, []⟩,
  ⟨some 14, .len (.t 13), none, []⟩,
  ⟨some 15, .bin .lss (.t 11) (.t 14), none, []⟩])
 (.ite (.t 15) (.skip)
 (.exit 0)))
 (.seq (.blk 1 (.seq (.reg [
  ⟨some 18, .fa 2 (.t 3), none, []⟩,
  ⟨some 19, .ld (.t 18), none, []⟩,
  ⟨some 20, .mv (.t 7), none, []⟩,
  ⟨some 21, .ia 3 (.t 19) (.t 20), none, []⟩,
  ⟨some 22, .fa 0 (.t 21), none, []⟩,
  ⟨some 23, .ld (.t 22), none, []⟩,
  ⟨some 24, .mv (.t 1), none, []⟩,
  ⟨some 25, .bin .eql (.t 23) (.t 24), none, []⟩,
  ⟨some 26, .mv (.t 25), none, []⟩,
  ⟨some 27, .fa 2 (.t 3), (some (26, true)), []⟩,
  ⟨some 28, .ld (.t 27), (some (26, true)), []⟩,
  ⟨some 29, .mv (.t 7), (some (26, true)), []⟩,
  ⟨some 30, .ia 3 (.t 28) (.t 29), (some (26, true)), []⟩,
  ⟨some 31, .fa 1 (.t 30), (some (26, true)), []⟩,
  ⟨some 32, .ld (.t 31), (some (26, true)), []⟩,
  ⟨some 33, .mv (.t 2), (some (26, true)), []⟩,
  ⟨some 34, .bin .eql (.t 32) (.t 33), (some (26, true)), []⟩,
  ⟨some 35, .pick (.t 26) (.t 34) (.c (.bool false)), none, []⟩])
 (.ite (.t 35) (.seq (.reg [
  ⟨some 6, .mv (.c (.bool true)), none, []⟩])
 (.ret))
 (.skip))))
 (.reg [
  ⟨some 16, .mv (.t 7), none, []⟩,
  ⟨some 17, .bin .add (.t 16) (.c (.int .i64 1)), none, []⟩,
  ⟨some 7, .mv (.t 17), none, []⟩]))))))
 (.seq (.reg [
  ⟨some 6, .mv (.c (.bool false)), none, []⟩])
 (.ret))))⟩
def m97 : MFun := ⟨20, [.t 4],
 .seq (.reg [
  ⟨some 2, .box 52 (.t 0), none, []⟩,
  ⟨some 4, .mv (.c (.int .i64 0)), none, []⟩])
 (.seq (.seq (.reg [
  ⟨some 5, .mv (.t 1), none, []⟩,
  ⟨some 6, .bin .add (.t 5) (.c (.int .i64 1)), none, []⟩,
  ⟨some 7, .fa 0 (.t 2), none, []⟩,
  ⟨some 8, .ld (.t 7), none, []⟩,
  ⟨some 9, .len (.t 8), none, []⟩,
  ⟨some 10, .fa 1 (.t 2), none, []⟩,
  ⟨some 11, .ld (.t 10), none, []⟩,
  ⟨some 12, .len (.t 11), none, []⟩,
  ⟨some 13, .bin .add (.t 9) (.t 12), none, []⟩,
  ⟨some 14, .bin .lss (.t 6) (.t 13), none, []⟩])
 (.ite (.t 14) (.seq (.reg [
  ⟨some 15, .mv (.t 1), none, []⟩,
  ⟨some 16, .bin .add (.t 15) (.c (.int .i64 1)), none, []⟩,
  ⟨some 4, .mv (.t 16), none, []⟩])
 (.ret))
 (.skip)))
 (.seq (.reg [
  ⟨some 17, .fa 0 (.t 2), none, []⟩,
  ⟨some 18, .ld (.t 17), none, []⟩,
  ⟨some 19, .len (.t 18), none, []⟩,
  ⟨some 4, .mv (.t 19), none, []⟩])
 (.ret)))⟩
def m98 : MFun := ⟨4, [.t 2],
 .seq (.reg [
  ⟨some 1, .box 24 (.t 0), none, []⟩,
  ⟨some 2, .mv (.c .nilFunc), none, []⟩])
 (.seq (.reg [
  ⟨some 3, .fn 143 [(.t 1)], none, []⟩,
  ⟨some 2, .mv (.t 3), none, []⟩])
 (.ret))⟩
def m99 : MFun := ⟨11, [.t 2],
 .seq (.reg [
  ⟨some 2, .mv (.c (.int .i64 0)), none, []⟩])
 (.seq (.seq (.reg [
  ⟨some 3, .mv (.t 0), none, []⟩])
 (.blk 0 (.seq (.seq (.reg [
  ⟨some 5, .bin .eql (.t 3) (.c (.int .i64 0)), none, []⟩,
  ⟨some 4, .mv (.t 5), none, []⟩])
 (.ite (.t 4) (.skip)
 (.reg [
  ⟨some 6, .bin .eql (.t 3) (.c (.int .i64 1)), none, []⟩,
  ⟨some 4, .mv (.t 6), none, []⟩])))
 (.ite (.t 4) (.seq (.reg [
  ⟨some 2, .mv (.c (.int .i64 0)), none, []⟩])
 (.ret))
 (.seq (.seq (.reg [
  ⟨some 8, .bin .eql (.t 3) (.c (.int .i64 2)), none, []⟩,
  ⟨some 7, .mv (.t 8), none, []⟩])
 (.ite (.t 7) (.skip)
 (.seq (.reg [
  ⟨some 9, .bin .eql (.t 3) (.c (.int .i64 6)), none, []⟩,
  ⟨some 7, .mv (.t 9), none, []⟩])
 (.ite (.t 7) (.skip)
 (.reg [
  ⟨some 10, .bin .eql (.t 3) (.c (.int .i64 7)), none, []⟩,
  ⟨some 7, .mv (.t 10), none, []⟩])))))
 (.ite (.t 7) (.seq (.reg [
  ⟨some 2, .mv (.c (.int .i64 1)), none, []⟩])
 (.ret))
 (.skip)))))))
 (.seq (.reg [
  ⟨some 2, .mv (.c (.int .i64 2)), none, []⟩])
 (.ret)))⟩
def m100 : MFun := ⟨13, [.t 4],
 .seq (.reg [
  ⟨some 4, .mv (.c (.string ⟨#[]⟩)), none, []⟩])
 (.seq (.dreg [0, 1, 2, 3, 4, 5, 6, 7, 8] [
  ⟨some 5, .ld (.t 1), none, [(.t 1)]⟩,
  ⟨some 6, .fa 2 (.t 2), none, []⟩,
  ⟨some 7, .ld (.t 6), none, [(.t 6)]⟩,
  ⟨some 8, .mv (.t 0), none, []⟩,
  ⟨some 9, .ia 1 (.t 7) (.t 8), none, []⟩,
  ⟨some 10, .ld (.t 9), none, [(.t 9)]⟩,
  ⟨some 11, .ia 1 (.t 5) (.t 10), none, []⟩,
  ⟨some 12, .ld (.t 11), none, [(.t 11)]⟩,
  ⟨some 4, .mv (.t 12), none, []⟩])
 (.ret))⟩
def m101 : MFun := ⟨5, [.t 2],
 .seq (.reg [
  ⟨some 2, .mv (.c (.string ⟨#[]⟩)), none, []⟩])
 (.seq (.reg [
  ⟨some 3, .mv (.t 0), none, []⟩,
  ⟨some 4, .call (.f 144) [(.t 3)], none, []⟩,
  ⟨some 2, .mv (.t 4), none, []⟩])
 (.ret))⟩
def m102 : MFun := ⟨12, [.t 2],
 .seq (.reg [
  ⟨some 2, .mv (.c (.string ⟨#[]⟩)), none, []⟩])
 (.seq (.seq (.reg [
  ⟨some 3, .mv (.t 0), none, []⟩])
 (.blk 0 (.seq (.reg [
  ⟨some 5, .bin .eql (.t 3) (.c (.int .i64 3)), none, []⟩,
  ⟨some 4, .mv (.t 5), none, []⟩])
 (.ite (.t 4) (.seq (.reg [
  ⟨some 2, .mv (.c (.string ⟨#[38]⟩)), none, []⟩])
 (.ret))
 (.seq (.reg [
  ⟨some 7, .bin .eql (.t 3) (.c (.int .i64 4)), none, []⟩,
  ⟨some 6, .mv (.t 7), none, []⟩])
 (.ite (.t 6) (.seq (.reg [
  ⟨some 2, .mv (.c (.string ⟨#[124]⟩)), none, []⟩])
 (.ret))
 (.seq (.reg [
  ⟨some 9, .bin .eql (.t 3) (.c (.int .i64 5)), none, []⟩,
  ⟨some 8, .mv (.t 9), none, []⟩])
 (.ite (.t 8) (.seq (.reg [
  ⟨some 2, .mv (.c (.string ⟨#[45, 62]⟩)), none, []⟩])
 (.ret))
 (.seq (.reg [
  ⟨some 11, .bin .eql (.t 3) (.c (.int .i64 8)), none, []⟩,
  ⟨some 10, .mv (.t 11), none, []⟩])
 (.ite (.t 10) (.seq (.reg [
  ⟨some 2, .mv (.c (.string ⟨#[126, 62]⟩)), none, []⟩])
 (.ret))
 (.skip)))))))))))
 (.seq (.reg [
  ⟨some 2, .mv (.c (.string ⟨#[85]⟩)), none, []⟩])
 (.ret)))⟩
def m103 : MFun := ⟨11, [.t 2],
 .seq (.reg [
  ⟨some 2, .mv (.c (.int .i64 0)), none, []⟩])
 (.seq (.seq (.reg [
  ⟨some 3, .mv (.t 0), none, []⟩])
 (.blk 0 (.seq (.seq (.reg [
  ⟨some 5, .bin .eql (.t 3) (.c (.int .i64 0)), none, []⟩,
  ⟨some 4, .mv (.t 5), none, []⟩])
 (.ite (.t 4) (.skip)
 (.reg [
  ⟨some 6, .bin .eql (.t 3) (.c (.int .i64 1)), none, []⟩,
  ⟨some 4, .mv (.t 6), none, []⟩])))
 (.ite (.t 4) (.seq (.reg [
  ⟨some 2, .mv (.c (.int .i64 0)), none, []⟩])
 (.ret))
 (.seq (.seq (.reg [
  ⟨some 8, .bin .eql (.t 3) (.c (.int .i64 2)), none, []⟩,
  ⟨some 7, .mv (.t 8), none, []⟩])
 (.ite (.t 7) (.skip)
 (.seq (.reg [
  ⟨some 9, .bin .eql (.t 3) (.c (.int .i64 6)), none, []⟩,
  ⟨some 7, .mv (.t 9), none, []⟩])
 (.ite (.t 7) (.skip)
 (.reg [
  ⟨some 10, .bin .eql (.t 3) (.c (.int .i64 7)), none, []⟩,
  ⟨some 7, .mv (.t 10), none, []⟩])))))
 (.ite (.t 7) (.seq (.reg [
  ⟨some 2, .mv (.c (.int .i64 1)), none, []⟩])
 (.ret))
 (.skip)))))))
 (.seq (.reg [
  ⟨some 2, .mv (.c (.int .i64 2)), none, []⟩])
 (.ret)))⟩
def m104 : MFun := ⟨36, [.t 4],
 .seq (.reg [
  ⟨some 4, .mv (.c (.bool false)), none, []⟩])
 (.seq (.reg [
  ⟨some 7, .mv (.t 1), none, []⟩,
  ⟨some 5, .mv (.t 7), none, []⟩])
 (.seq (.seq (.reg [
  ⟨some 8, .mv (.t 0), none, []⟩,
  ⟨some 9, .mv (.t 1), none, []⟩,
  ⟨some 10, .ia 3 (.t 8) (.t 9), none, []⟩,
  ⟨some 11, .fa 2 (.t 10), none, []⟩,
  ⟨some 12, .ld (.t 11), none, []⟩,
  ⟨some 13, .len (.t 12), none, []⟩,
  ⟨some 14, .bin .sub (.t 13) (.c (.int .i64 1)), none, []⟩,
  ⟨some 6, .mv (.t 14), none, []⟩])
 (.blk 0 (.loop (.seq (.seq (.reg [
  ⟨some 15, .mv (.t 6), none, []⟩,
  ⟨some 16, .bin .geq (.t 15) (.c (.int .i64 0)), none, []⟩])
 (.ite (.t 16) (.skip)
 (.exit 0)))
 (.seq (.blk 1 (.seq (.seq (.reg [
  ⟨some 19, .mv (.t 0), none, []⟩,
  ⟨some 20, .mv (.t 1), none, []⟩,
  ⟨some 21, .ia 3 (.t 19) (.t 20), none, []⟩,
  ⟨some 22, .fa 2 (.t 21), none, []⟩,
  ⟨some 23, .ld (.t 22), none, []⟩,
  ⟨some 24, .mv (.t 6), none, []⟩,
  ⟨some 25, .ia 1 (.t 23) (.t 24), none, []⟩,
  ⟨some 26, .ld (.t 25), none, []⟩,
  ⟨some 27, .mv (.t 5), none, []⟩,
  ⟨some 28, .bin .sub (.t 27) (.c (.int .i64 1)), none, []⟩,
  ⟨some 29, .bin .neq (.t 26) (.t 28), none, []⟩])
 (.ite (.t 29) (.seq (.reg [
  ⟨some 4, .mv (.c (.bool false)), none, []⟩])
 (.ret))
 (.skip)))
 (.seq (.reg [
  ⟨some 30, .mv (.t 0), none, []⟩,
  ⟨some 31, .mv (.t 5), none, []⟩,
  ⟨some 32, .bin .sub (.t 31) (.c (.int .i64 1)), none, []⟩,
  ⟨some 33, .call (.f 105) [(.t 30), (.t 32)], none, []⟩,
  ⟨some 5, .mv (.t 33), none, []⟩])
 (.seq (.reg [
  ⟨some 34, .mv (.t 5), none, []⟩,
  ⟨some 35, .bin .lss (.t 34) (.c (.int .i64 0)), none, []⟩])
 (.ite (.t 35) (.seq (.reg [
  ⟨some 4, .mv (.c (.bool false)), none, []⟩])
 (.ret))
 (.skip))))))
 (.reg [
  ⟨some 17, .mv (.t 6), none, []⟩,
  ⟨some 18, .bin .sub (.t 17) (.c (.int .i64 1)), none, []⟩,
  ⟨some 6, .mv (.t 18), none, []⟩]))))))
 (.seq (.reg [
  ⟨some 4, .mv (.c (.bool true)), none, []⟩])
 (.ret))))⟩
def m105 : MFun := ⟨29, [.t 4],
 .seq (.reg [
  ⟨some 4, .mv (.c (.int .i64 0)), none, []⟩])
 (.seq (.seq (.reg [
  ⟨some 6, .mv (.t 1), none, []⟩,
  ⟨some 7, .bin .lss (.t 6) (.c (.int .i64 0)), none, []⟩])
 (.ite (.t 7) (.seq (.reg [
  ⟨some 4, .mv (.c (.int .i64 (-1))), none, []⟩])
 (.ret))
 (.skip)))
 (.seq (.blk 0 (.loop (.seq (.seq (.reg [
  ⟨some 8, .mv (.t 0), none, []⟩,
  ⟨some 9, .mv (.t 1), none, []⟩,
  ⟨some 10, .ia 3 (.t 8) (.t 9), none, []⟩,
  ⟨some 11, .fa 2 (.t 10), none, []⟩,
  ⟨some 12, .ld (.t 11), none, []⟩,
  ⟨some 13, .len (.t 12), none, []⟩,
  ⟨some 14, .bin .gtr (.t 13) (.c (.int .i64 0)), none, []⟩])
 (.ite (.t 14) (.skip)
 (.exit 0)))
 (.blk 1 (.seq (.reg [
  ⟨some 15, .mv (.t 0), none, []⟩,
  ⟨some 16, .mv (.t 1), none, []⟩,
  ⟨some 17, .ia 3 (.t 15) (.t 16), none, []⟩,
  ⟨some 18, .fa 2 (.t 17), none, []⟩,
  ⟨some 19, .ld (.t 18), none, []⟩,
  ⟨some 20, .ia 1 (.t 19) (.c (.int .i64 0)), none, []⟩,
  ⟨some 21, .ld (.t 20), none, []⟩,
  ⟨some 5, .mv (.t 21), none, []⟩])
 (.seq (.seq (.reg [
  ⟨some 22, .mv (.t 5), none, []⟩,
  ⟨some 23, .mv (.t 1), none, []⟩,
  ⟨some 24, .bin .sub (.t 23) (.c (.int .i64 1)), none, []⟩,
  ⟨some 25, .call (.f 26) [(.t 22), (.c (.int .i64 0)), (.t 24)], none, []⟩,
  ⟨some 26, .not (.t 25), none, []⟩])
 (.ite (.t 26) (.seq (.reg [
  ⟨some 4, .mv (.c (.int .i64 (-1))), none, []⟩])
 (.ret))
 (.skip)))
 (.reg [
  ⟨some 27, .mv (.t 5), none, []⟩,
  ⟨some 1, .mv (.t 27), none, []⟩])))))))
 (.seq (.reg [
  ⟨some 28, .mv (.t 1), none, []⟩,
  ⟨some 4, .mv (.t 28), none, []⟩])
 (.ret))))⟩
def m106 : MFun := ⟨25, [.t 2],
 .seq (.reg [
  ⟨some 2, .mv (.c (.string ⟨#[]⟩)), none, []⟩])
 (.seq (.reg [
  ⟨some 6, .mv (.t 0), none, []⟩,
  ⟨some 7, .bin .lss (.t 6) (.c (.int .i64 0)), none, []⟩,
  ⟨some 3, .mv (.c (.string ⟨#[]⟩)), none, []⟩,
  ⟨some 4, .mv (.t 7), none, []⟩])
 (.seq (.blk 0 (.loop (.blk 1 (.seq (.reg [
  ⟨some 8, .mv (.t 0), none, []⟩,
  ⟨some 9, .bin .rem (.t 8) (.c (.int .i64 10)), none, []⟩,
  ⟨some 10, .call (.f 145) [(.t 9)], none, []⟩,
  ⟨some 5, .mv (.t 10), none, []⟩])
 (.seq (.reg [
  ⟨some 11, .mv (.t 5), none, []⟩,
  ⟨some 12, .mv (.t 5), none, []⟩,
  ⟨some 13, .bin .add (.t 12) (.c (.int .i64 1)), none, []⟩,
  ⟨some 14, .sls (.c (.string ⟨#[48, 49, 50, 51, 52, 53, 54, 55, 56, 57]⟩)) (some (.t 11)) (some (.t 13)), none, []⟩,
  ⟨some 15, .mv (.t 3), none, []⟩,
  ⟨some 16, .bin .add (.t 14) (.t 15), none, []⟩,
  ⟨some 3, .mv (.t 16), none, []⟩])
 (.seq (.reg [
  ⟨some 17, .mv (.t 0), none, []⟩,
  ⟨some 18, .bin .quo (.t 17) (.c (.int .i64 10)), none, []⟩,
  ⟨some 0, .mv (.t 18), none, []⟩])
 (.seq (.reg [
  ⟨some 19, .mv (.t 0), none, []⟩,
  ⟨some 20, .bin .eql (.t 19) (.c (.int .i64 0)), none, []⟩])
 (.ite (.t 20) (.exit 0)
 (.skip)))))))))
 (.seq (.seq (.reg [
  ⟨some 21, .mv (.t 4), none, []⟩])
 (.ite (.t 21) (.reg [
  ⟨some 22, .mv (.t 3), none, []⟩,
  ⟨some 23, .bin .add (.c (.string ⟨#[45]⟩)) (.t 22), none, []⟩,
  ⟨some 3, .mv (.t 23), none, []⟩])
 (.skip)))
 (.seq (.reg [
  ⟨some 24, .mv (.t 3), none, []⟩,
  ⟨some 2, .mv (.t 24), none, []⟩])
 (.ret)))))⟩
def m107 : MFun := ⟨12, [.t 2],
 .seq (.reg [
  ⟨some 2, .mv (.c (.string ⟨#[]⟩)), none, []⟩])
 (.seq (.seq (.reg [
  ⟨some 3, .mv (.t 0), none, []⟩])
 (.blk 0 (.seq (.reg [
  ⟨some 5, .bin .eql (.t 3) (.c (.int .i64 3)), none, []⟩,
  ⟨some 4, .mv (.t 5), none, []⟩])
 (.ite (.t 4) (.seq (.reg [
  ⟨some 2, .mv (.c (.string ⟨#[38]⟩)), none, []⟩])
 (.ret))
 (.seq (.reg [
  ⟨some 7, .bin .eql (.t 3) (.c (.int .i64 4)), none, []⟩,
  ⟨some 6, .mv (.t 7), none, []⟩])
 (.ite (.t 6) (.seq (.reg [
  ⟨some 2, .mv (.c (.string ⟨#[124]⟩)), none, []⟩])
 (.ret))
 (.seq (.reg [
  ⟨some 9, .bin .eql (.t 3) (.c (.int .i64 5)), none, []⟩,
  ⟨some 8, .mv (.t 9), none, []⟩])
 (.ite (.t 8) (.seq (.reg [
  ⟨some 2, .mv (.c (.string ⟨#[45, 62]⟩)), none, []⟩])
 (.ret))
 (.seq (.reg [
  ⟨some 11, .bin .eql (.t 3) (.c (.int .i64 8)), none, []⟩,
  ⟨some 10, .mv (.t 11), none, []⟩])
 (.ite (.t 10) (.seq (.reg [
  ⟨some 2, .mv (.c (.string ⟨#[126, 62]⟩)), none, []⟩])
 (.ret))
 (.skip)))))))))))
 (.seq (.reg [
  ⟨some 2, .mv (.c (.string ⟨#[85]⟩)), none, []⟩])
 (.ret)))⟩
def m108 : MFun := ⟨54, [.t 2],
 .seq (.reg [
  ⟨some 2, .mv (.c (.int .i64 0)), none, []⟩])
 (.seq (.seq (.reg [
  ⟨some 6, .build [(.string ⟨#[]⟩), (.int .i64 0)] [(0, 1, (.c (.string ⟨#[33]⟩))), (1, 1, (.c (.int .i64 2)))], none, []⟩,
  ⟨some 7, .build [(.string ⟨#[]⟩), (.int .i64 0)] [(0, 1, (.c (.string ⟨#[91, 93]⟩))), (1, 1, (.c (.int .i64 6)))], none, []⟩,
  ⟨some 8, .build [(.string ⟨#[]⟩), (.int .i64 0)] [(0, 1, (.c (.string ⟨#[60, 62]⟩))), (1, 1, (.c (.int .i64 7)))], none, []⟩,
  ⟨some 9, .lit 173 [(.string ⟨#[]⟩), (.int .i64 0)] [(0, 2, (.t 6)), (2, 2, (.t 7)), (4, 2, (.t 8))] 3, none, []⟩,
  ⟨some 10, .len (.t 9), none, []⟩,
  ⟨some 11, .mv (.c (.int .i64 0)), none, []⟩])
 (.blk 0 (.loop (.seq (.reg [
  ⟨some 12, .bin .lss (.t 11) (.t 10), none, []⟩])
 (.seq (.ite (.t 12) (.skip)
 (.exit 0))
 (.seq (.blk 1 (.seq (.reg [
  ⟨some 13, .ia 2 (.t 9) (.t 11), none, []⟩,
  ⟨some 14, .lds 2 (.t 13), none, []⟩,
  ⟨some 4, .new [(.string ⟨#[]⟩), (.int .i64 0)] 173, none, []⟩,
  ⟨none, .st 2 (.t 4) (.t 14), none, []⟩])
 (.seq (.reg [
  ⟨some 15, .mv (.t 0), none, []⟩,
  ⟨some 16, .fa 0 (.t 4), none, []⟩,
  ⟨some 17, .ld (.t 16), none, []⟩,
  ⟨some 18, .ix (.t 17) (.c (.int .i64 0)), none, []⟩,
  ⟨some 19, .call (.f 146) [(.t 15), (.t 18)], none, []⟩])
 (.ite (.t 19) (.seq (.reg [
  ⟨some 20, .mv (.t 0), none, []⟩,
  ⟨some 21, .fa 0 (.t 4), none, []⟩,
  ⟨some 22, .ld (.t 21), none, []⟩,
  ⟨some 23, .call (.f 147) [(.t 20), (.t 22)], none, []⟩])
 (.seq (.reg [
  ⟨some 24, .mv (.t 0), none, []⟩,
  ⟨some 25, .call (.f 108) [(.t 24)], none, []⟩,
  ⟨some 5, .mv (.t 25), none, []⟩])
 (.seq (.reg [
  ⟨some 26, .mv (.t 0), none, []⟩,
  ⟨some 27, .fa 1 (.t 4), none, []⟩,
  ⟨some 28, .ld (.t 27), none, []⟩,
  ⟨some 29, .mv (.t 5), none, []⟩,
  ⟨some 30, .lit 3 [(.int .i64 0)] [(0, 1, (.t 29))] 1, none, []⟩,
  ⟨some 31, .build [(.int .i64 0), (.int .i64 0), (.slice none 0 0)] [(0, 1, (.t 28)), (2, 1, (.t 30))], none, []⟩,
  ⟨some 32, .call (.f 148) [(.t 26), (.t 31)], none, []⟩,
  ⟨some 2, .mv (.t 32), none, []⟩])
 (.ret))))
 (.skip)))))
 (.reg [
  ⟨some 33, .bin .add (.t 11) (.c (.int .i64 1)), none, []⟩,
  ⟨some 11, .mv (.t 33), none, []⟩])))))))
 (.seq (.blk 2 (.seq (.reg [
  ⟨some 35, .mv (.t 0), none, []⟩,
  ⟨some 36, .call (.f 146) [(.t 35), (.c (.int .u8 116))], none, []⟩,
  ⟨some 34, .mv (.t 36), none, []⟩])
 (.ite (.t 34) (.seq (.reg [
  ⟨some 37, .mv (.t 0), none, []⟩,
  ⟨some 38, .call (.f 147) [(.t 37), (.c (.string ⟨#[116, 114, 117, 101]⟩))], none, []⟩])
 (.seq (.reg [
  ⟨some 39, .mv (.t 0), none, []⟩,
  ⟨some 40, .build [(.int .i64 0), (.int .i64 0), (.slice none 0 0)] [], none, []⟩,
  ⟨some 41, .call (.f 148) [(.t 39), (.t 40)], none, []⟩,
  ⟨some 2, .mv (.t 41), none, []⟩])
 (.ret)))
 (.seq (.reg [
  ⟨some 43, .mv (.t 0), none, []⟩,
  ⟨some 44, .call (.f 146) [(.t 43), (.c (.int .u8 112))], none, []⟩,
  ⟨some 42, .mv (.t 44), none, []⟩])
 (.ite (.t 42) (.seq (.reg [
  ⟨some 45, .mv (.t 0), none, []⟩,
  ⟨some 46, .call (.f 149) [(.t 45)], none, []⟩,
  ⟨some 2, .mv (.t 46), none, []⟩])
 (.ret))
 (.seq (.reg [
  ⟨some 48, .mv (.t 0), none, []⟩,
  ⟨some 49, .call (.f 146) [(.t 48), (.c (.int .u8 40))], none, []⟩,
  ⟨some 47, .mv (.t 49), none, []⟩])
 (.ite (.t 47) (.seq (.reg [
  ⟨some 50, .mv (.t 0), none, []⟩,
  ⟨some 51, .call (.f 150) [(.t 50)], none, []⟩,
  ⟨some 2, .mv (.t 51), none, []⟩])
 (.ret))
 (.skip))))))))
 (.seq (.reg [
  ⟨some 52, .mv (.t 0), none, []⟩,
  ⟨some 53, .call (.f 109) [(.t 52)], none, []⟩])
 (.seq (.reg [
  ⟨some 2, .mv (.c (.int .i64 0)), none, []⟩])
 (.ret)))))⟩
def m109 : MFun := ⟨14, [],
 .seq (.reg [
  ⟨some 2, .mv (.t 0), none, []⟩,
  ⟨some 3, .chk (.t 2), none, []⟩,
  ⟨some 4, .fa 2 (.t 3), none, []⟩,
  ⟨some 5, .ld (.t 4), none, []⟩,
  ⟨some 6, .bin .eql (.t 5) (.c (.int .i64 (-1))), none, []⟩])
 (.ite (.t 6) (.reg [
  ⟨some 7, .mv (.t 0), none, []⟩,
  ⟨some 8, .mv (.t 0), none, []⟩,
  ⟨some 9, .chk (.t 8), none, []⟩,
  ⟨some 10, .fa 1 (.t 9), none, []⟩,
  ⟨some 11, .ld (.t 10), none, []⟩,
  ⟨some 12, .chk (.t 7), none, []⟩,
  ⟨some 13, .fa 2 (.t 12), none, []⟩,
  ⟨none, .st 1 (.t 13) (.t 11), none, []⟩])
 (.skip))⟩
def m110 : MFun := ⟨87, [.t 2],
 .seq (.reg [
  ⟨some 2, .mv (.c (.int .i64 0)), none, []⟩])
 (.seq (.seq (.dreg [0, 1, 2, 3, 4, 5, 6, 7, 8, 9, 10, 11, 12, 13, 14, 15, 16] [
  ⟨some 3, .mv (.t 0), none, []⟩,
  ⟨some 4, .chk (.t 3), none, []⟩,
  ⟨some 5, .fa 2 (.t 4), none, []⟩,
  ⟨some 6, .ld (.t 5), none, [(.t 5)]⟩,
  ⟨some 7, .bin .neq (.t 6) (.c (.int .i64 (-1))), none, []⟩,
  ⟨some 8, .mv (.t 7), none, []⟩,
  ⟨some 9, .mv (.t 0), (some (8, false)), []⟩,
  ⟨some 10, .chk (.t 9), (some (8, false)), []⟩,
  ⟨some 11, .fa 1 (.t 10), (some (8, false)), []⟩,
  ⟨some 12, .ld (.t 11), (some (8, false)), [(.t 11)]⟩,
  ⟨some 13, .mv (.t 0), (some (8, false)), []⟩,
  ⟨some 14, .chk (.t 13), (some (8, false)), []⟩,
  ⟨some 15, .fa 0 (.t 14), (some (8, false)), []⟩,
  ⟨some 16, .ld (.t 15), (some (8, false)), [(.t 15)]⟩,
  ⟨some 17, .slen (.t 16), (some (8, false)), []⟩,
  ⟨some 18, .bin .eql (.t 12) (.t 17), (some (8, false)), []⟩,
  ⟨some 19, .pick (.t 8) (.c (.bool true)) (.t 18), none, []⟩])
 (.ite (.t 19) (.seq (.reg [
  ⟨some 20, .mv (.t 0), none, []⟩,
  ⟨some 21, .call (.f 111) [(.t 20)], none, []⟩])
 (.seq (.reg [
  ⟨some 2, .mv (.c (.int .i64 0)), none, []⟩])
 (.ret)))
 (.skip)))
 (.seq (.seq (.dreg [0, 1, 2, 3, 4, 5, 6, 7, 8] [
  ⟨some 22, .mv (.t 0), none, []⟩,
  ⟨some 23, .chk (.t 22), none, []⟩,
  ⟨some 24, .fa 0 (.t 23), none, []⟩,
  ⟨some 25, .ld (.t 24), none, [(.t 24)]⟩,
  ⟨some 26, .mv (.t 0), none, []⟩,
  ⟨some 27, .chk (.t 26), none, []⟩,
  ⟨some 28, .fa 1 (.t 27), none, []⟩,
  ⟨some 29, .ld (.t 28), none, [(.t 28)]⟩,
  ⟨some 30, .ix (.t 25) (.t 29), none, []⟩])
 (.blk 0 (.seq (.reg [
  ⟨some 32, .bin .eql (.t 30) (.c (.int .u8 116)), none, []⟩,
  ⟨some 31, .mv (.t 32), none, []⟩])
 (.ite (.t 31) (.seq (.reg [
  ⟨some 33, .mv (.t 0), none, []⟩,
  ⟨some 34, .call (.f 151) [(.t 33), (.c (.string ⟨#[116, 114, 117, 101]⟩))], none, []⟩])
 (.seq (.reg [
  ⟨some 35, .mv (.t 0), none, []⟩,
  ⟨some 36, .call (.f 152) [(.t 35), (.c (.int .i64 0)), (.c (.int .i64 0)), (.c (.slice none 0 0))], none, []⟩,
  ⟨some 2, .mv (.t 36), none, []⟩])
 (.ret)))
 (.seq (.reg [
  ⟨some 38, .bin .eql (.t 30) (.c (.int .u8 112)), none, []⟩,
  ⟨some 37, .mv (.t 38), none, []⟩])
 (.ite (.t 37) (.seq (.reg [
  ⟨some 39, .mv (.t 0), none, []⟩,
  ⟨some 40, .mv (.t 0), none, []⟩,
  ⟨some 41, .chk (.t 40), none, []⟩,
  ⟨some 42, .fa 1 (.t 41), none, []⟩,
  ⟨some 43, .ld (.t 42), none, []⟩,
  ⟨some 44, .bin .add (.t 43) (.c (.int .i64 1)), none, []⟩,
  ⟨some 45, .chk (.t 39), none, []⟩,
  ⟨some 46, .fa 1 (.t 45), none, []⟩,
  ⟨none, .st 1 (.t 46) (.t 44), none, []⟩])
 (.seq (.reg [
  ⟨some 47, .mv (.t 0), none, []⟩,
  ⟨some 48, .call (.f 153) [(.t 47)], none, []⟩,
  ⟨some 2, .mv (.t 48), none, []⟩])
 (.ret)))
 (.seq (.reg [
  ⟨some 50, .bin .eql (.t 30) (.c (.int .u8 33)), none, []⟩,
  ⟨some 49, .mv (.t 50), none, []⟩])
 (.ite (.t 49) (.seq (.reg [
  ⟨some 51, .mv (.t 0), none, []⟩,
  ⟨some 52, .mv (.t 0), none, []⟩,
  ⟨some 53, .chk (.t 52), none, []⟩,
  ⟨some 54, .fa 1 (.t 53), none, []⟩,
  ⟨some 55, .ld (.t 54), none, []⟩,
  ⟨some 56, .bin .add (.t 55) (.c (.int .i64 1)), none, []⟩,
  ⟨some 57, .chk (.t 51), none, []⟩,
  ⟨some 58, .fa 1 (.t 57), none, []⟩,
  ⟨none, .st 1 (.t 58) (.t 56), none, []⟩])
 (.seq (.reg [
  ⟨some 59, .mv (.t 0), none, []⟩,
  ⟨some 60, .call (.f 154) [(.t 59), (.c (.int .i64 2))], none, []⟩,
  ⟨some 2, .mv (.t 60), none, []⟩])
 (.ret)))
 (.seq (.reg [
  ⟨some 62, .bin .eql (.t 30) (.c (.int .u8 91)), none, []⟩,
  ⟨some 61, .mv (.t 62), none, []⟩])
 (.ite (.t 61) (.seq (.reg [
  ⟨some 63, .mv (.t 0), none, []⟩,
  ⟨some 64, .call (.f 151) [(.t 63), (.c (.string ⟨#[91, 93]⟩))], none, []⟩])
 (.seq (.reg [
  ⟨some 65, .mv (.t 0), none, []⟩,
  ⟨some 66, .call (.f 154) [(.t 65), (.c (.int .i64 6))], none, []⟩,
  ⟨some 2, .mv (.t 66), none, []⟩])
 (.ret)))
 (.seq (.reg [
  ⟨some 68, .bin .eql (.t 30) (.c (.int .u8 60)), none, []⟩,
  ⟨some 67, .mv (.t 68), none, []⟩])
 (.ite (.t 67) (.seq (.reg [
  ⟨some 69, .mv (.t 0), none, []⟩,
  ⟨some 70, .call (.f 151) [(.t 69), (.c (.string ⟨#[60, 62]⟩))], none, []⟩])
 (.seq (.reg [
  ⟨some 71, .mv (.t 0), none, []⟩,
  ⟨some 72, .call (.f 154) [(.t 71), (.c (.int .i64 7))], none, []⟩,
  ⟨some 2, .mv (.t 72), none, []⟩])
 (.ret)))
 (.seq (.reg [
  ⟨some 74, .bin .eql (.t 30) (.c (.int .u8 40)), none, []⟩,
  ⟨some 73, .mv (.t 74), none, []⟩])
 (.ite (.t 73) (.seq (.reg [
  ⟨some 75, .mv (.t 0), none, []⟩,
  ⟨some 76, .mv (.t 0), none, []⟩,
  ⟨some 77, .chk (.t 76), none, []⟩,
  ⟨some 78, .fa 1 (.t 77), none, []⟩,
  ⟨some 79, .ld (.t 78), none, []⟩,
  ⟨some 80, .bin .add (.t 79) (.c (.int .i64 1)), none, []⟩,
  ⟨some 81, .chk (.t 75), none, []⟩,
  ⟨some 82, .fa 1 (.t 81), none, []⟩,
  ⟨none, .st 1 (.t 82) (.t 80), none, []⟩])
 (.seq (.reg [
  ⟨some 83, .mv (.t 0), none, []⟩,
  ⟨some 84, .call (.f 155) [(.t 83)], none, []⟩,
  ⟨some 2, .mv (.t 84), none, []⟩])
 (.ret)))
 (.skip)))))))))))))))
 (.seq (.reg [
  ⟨some 85, .mv (.t 0), none, []⟩,
  ⟨some 86, .call (.f 111) [(.t 85)], none, []⟩])
 (.seq (.reg [
  ⟨some 2, .mv (.c (.int .i64 0)), none, []⟩])
 (.ret)))))⟩
def m111 : MFun := ⟨14, [],
 .seq (.reg [
  ⟨some 2, .mv (.t 0), none, []⟩,
  ⟨some 3, .chk (.t 2), none, []⟩,
  ⟨some 4, .fa 2 (.t 3), none, []⟩,
  ⟨some 5, .ld (.t 4), none, []⟩,
  ⟨some 6, .bin .eql (.t 5) (.c (.int .i64 (-1))), none, []⟩])
 (.ite (.t 6) (.reg [
  ⟨some 7, .mv (.t 0), none, []⟩,
  ⟨some 8, .mv (.t 0), none, []⟩,
  ⟨some 9, .chk (.t 8), none, []⟩,
  ⟨some 10, .fa 1 (.t 9), none, []⟩,
  ⟨some 11, .ld (.t 10), none, []⟩,
  ⟨some 12, .chk (.t 7), none, []⟩,
  ⟨some 13, .fa 2 (.t 12), none, []⟩,
  ⟨none, .st 1 (.t 13) (.t 11), none, []⟩])
 (.skip))⟩
def m112 : MFun := ⟨6, [.t 2],
 .seq (.reg [
  ⟨some 2, .mv (.c (.bool false)), none, []⟩])
 (.seq (.reg [
  ⟨some 3, .mv (.t 0), none, []⟩,
  ⟨some 4, .call (.f 65) [(.t 3), (.c (.int .i64 0)), (.c (.int .i64 11))], none, []⟩,
  ⟨some 5, .not (.t 4), none, []⟩,
  ⟨some 2, .mv (.t 5), none, []⟩])
 (.ret))⟩
def m113 : MFun := ⟨48, [.t 4],
 .seq (.reg [
  ⟨some 4, .mv (.c (.slice none 0 0)), none, []⟩])
 (.seq (.seq (.reg [
  ⟨some 9, .mv (.t 1), none, []⟩,
  ⟨some 10, .bin .lss (.t 9) (.c (.int .i64 0)), none, []⟩])
 (.ite (.t 10) (.reg [
  ⟨some 11, .iface 9 (.c (.string ⟨#[99, 97, 110, 110, 111, 116, 32, 98, 101, 32, 110, 101, 103, 97, 116, 105, 118, 101]⟩)), none, []⟩,
  ⟨none, .bad, none, []⟩])
 (.skip)))
 (.seq (.reg [
  ⟨some 13, .mv (.t 0), none, []⟩,
  ⟨some 14, .len (.t 13), none, []⟩,
  ⟨some 15, .cvt .u64 (.t 14), none, []⟩,
  ⟨some 16, .mv (.t 1), none, []⟩,
  ⟨some 17, .cvt .u64 (.t 16), none, []⟩,
  ⟨some 18, .call (.f 156) [(.t 15), (.t 17)], none, []⟩,
  ⟨some 12, .mv (.t 18), none, []⟩,
  ⟨some 19, .ext (.t 12) 0, none, []⟩,
  ⟨some 20, .ext (.t 12) 1, none, []⟩,
  ⟨some 5, .mv (.t 19), none, []⟩,
  ⟨some 6, .mv (.t 20), none, []⟩])
 (.seq (.seq (.reg [
  ⟨some 21, .mv (.t 5), none, []⟩,
  ⟨some 22, .bin .gtr (.t 21) (.c (.int .u64 0)), none, []⟩,
  ⟨some 23, .mv (.t 22), none, []⟩,
  ⟨some 24, .mv (.t 6), (some (23, false)), []⟩,
  ⟨some 25, .bin .gtr (.t 24) (.c (.int .u64 9223372036854775807)), (some (23, false)), []⟩,
  ⟨some 26, .pick (.t 23) (.c (.bool true)) (.t 25), none, []⟩])
 (.ite (.t 26) (.reg [
  ⟨some 27, .iface 9 (.c (.string ⟨#[116, 104, 101, 32, 114, 101, 115, 117, 108, 116, 32, 111, 102, 32, 40, 108, 101, 110, 40, 120, 41, 32, 42, 32, 99, 111, 117, 110, 116, 41, 32, 111, 118, 101, 114, 102, 108, 111, 119, 115]⟩)), none, []⟩,
  ⟨none, .bad, none, []⟩])
 (.skip)))
 (.seq (.reg [
  ⟨some 28, .mv (.t 6), none, []⟩,
  ⟨some 29, .cvt .i64 (.t 28), none, []⟩,
  ⟨some 30, .mk 3 1 8 [(.int .i64 0)] (.t 29) (.t 29), none, []⟩,
  ⟨some 7, .mv (.t 30), none, []⟩])
 (.seq (.reg [
  ⟨some 31, .mv (.t 7), none, []⟩,
  ⟨some 32, .mv (.t 0), none, []⟩,
  ⟨some 33, .cpy 1 (.t 31) (.t 32), none, []⟩,
  ⟨some 8, .mv (.t 33), none, []⟩])
 (.seq (.blk 0 (.loop (.seq (.seq (.reg [
  ⟨some 34, .mv (.t 8), none, []⟩,
  ⟨some 35, .mv (.t 7), none, []⟩,
  ⟨some 36, .len (.t 35), none, []⟩,
  ⟨some 37, .bin .lss (.t 34) (.t 36), none, []⟩])
 (.ite (.t 37) (.skip)
 (.exit 0)))
 (.blk 1 (.dreg [0, 1, 2, 3, 4, 5, 6, 7, 8, 9] [
  ⟨some 38, .mv (.t 8), none, []⟩,
  ⟨some 39, .mv (.t 7), none, []⟩,
  ⟨some 40, .mv (.t 8), none, []⟩,
  ⟨some 41, .sl 1 (.t 39) (some (.t 40)) none none, none, [(.t 39)]⟩,
  ⟨some 42, .mv (.t 7), none, []⟩,
  ⟨some 43, .mv (.t 8), none, []⟩,
  ⟨some 44, .sl 1 (.t 42) none (some (.t 43)) none, none, [(.t 42)]⟩,
  ⟨some 45, .cpy 1 (.t 41) (.t 44), none, []⟩,
  ⟨some 46, .bin .add (.t 38) (.t 45), none, []⟩,
  ⟨some 8, .mv (.t 46), none, []⟩])))))
 (.seq (.reg [
  ⟨some 47, .mv (.t 7), none, []⟩,
  ⟨some 4, .mv (.t 47), none, []⟩])
 (.ret))))))))⟩
def m114 : MFun := ⟨18, [.t 4],
 .seq (.reg [
  ⟨some 4, .mv (.c (.int .i64 0)), none, []⟩])
 (.seq (.seq (.reg [
  ⟨some 5, .ld (.t 1), none, []⟩,
  ⟨some 6, .mv (.t 0), none, []⟩,
  ⟨some 7, .ia 1 (.t 5) (.t 6), none, []⟩,
  ⟨some 8, .ld (.t 7), none, []⟩,
  ⟨some 9, .bin .eql (.t 8) (.c (.int .i64 (-1))), none, []⟩])
 (.ite (.t 9) (.seq (.reg [
  ⟨some 4, .mv (.c (.int .i64 (-1))), none, []⟩])
 (.ret))
 (.skip)))
 (.seq (.dreg [0, 1, 2, 3, 4, 5, 6, 7, 8] [
  ⟨some 10, .ld (.t 2), none, [(.t 2)]⟩,
  ⟨some 11, .ld (.t 1), none, [(.t 1)]⟩,
  ⟨some 12, .mv (.t 0), none, []⟩,
  ⟨some 13, .ia 1 (.t 11) (.t 12), none, []⟩,
  ⟨some 14, .ld (.t 13), none, [(.t 13)]⟩,
  ⟨some 15, .ia 3 (.t 10) (.t 14), none, []⟩,
  ⟨some 16, .fa 0 (.t 15), none, []⟩,
  ⟨some 17, .ld (.t 16), none, [(.t 16)]⟩,
  ⟨some 4, .mv (.t 17), none, []⟩])
 (.ret)))⟩
def m115 : MFun := ⟨82, [.t 6],
 .seq (.reg [
  ⟨some 6, .mv (.c (.bool false)), none, []⟩])
 (.seq (.reg [
  ⟨some 9, .mv (.t 0), none, []⟩,
  ⟨some 10, .mv (.t 1), none, []⟩,
  ⟨some 11, .ia 3 (.t 9) (.t 10), none, []⟩,
  ⟨some 12, .lds 3 (.t 11), none, []⟩,
  ⟨some 7, .new [(.int .i64 0), (.int .i64 0), (.slice none 0 0)] 67, none, []⟩,
  ⟨none, .st 3 (.t 7) (.t 12), none, []⟩])
 (.seq (.seq (.reg [
  ⟨some 13, .fa 0 (.t 7), none, []⟩,
  ⟨some 14, .ld (.t 13), none, []⟩,
  ⟨some 15, .bin .eql (.t 14) (.c (.int .i64 1)), none, []⟩])
 (.ite (.t 15) (.seq (.reg [
  ⟨some 16, .mv (.t 2), none, []⟩,
  ⟨some 17, .fa 1 (.t 7), none, []⟩,
  ⟨some 18, .ld (.t 17), none, []⟩,
  ⟨some 19, .call (.f 95) [(.t 16), (.t 18)], none, []⟩,
  ⟨some 20, .not (.t 19), none, []⟩,
  ⟨some 6, .mv (.t 20), none, []⟩])
 (.ret))
 (.skip)))
 (.seq (.seq (.reg [
  ⟨some 21, .fa 0 (.t 7), none, []⟩,
  ⟨some 22, .ld (.t 21), none, []⟩,
  ⟨some 23, .bin .eql (.t 22) (.c (.int .i64 7)), none, []⟩,
  ⟨some 24, .mv (.t 23), none, []⟩,
  ⟨some 25, .mv (.t 0), (some (24, true)), []⟩,
  ⟨some 26, .fa 2 (.t 7), (some (24, true)), []⟩,
  ⟨some 27, .ld (.t 26), (some (24, true)), []⟩,
  ⟨some 28, .ia 1 (.t 27) (.c (.int .i64 0)), (some (24, true)), []⟩,
  ⟨some 29, .ld (.t 28), (some (24, true)), []⟩,
  ⟨some 30, .ia 3 (.t 25) (.t 29), (some (24, true)), []⟩,
  ⟨some 31, .fa 0 (.t 30), (some (24, true)), []⟩,
  ⟨some 32, .ld (.t 31), (some (24, true)), []⟩,
  ⟨some 33, .bin .eql (.t 32) (.c (.int .i64 1)), (some (24, true)), []⟩,
  ⟨some 34, .pick (.t 24) (.t 33) (.c (.bool false)), none, []⟩])
 (.ite (.t 34) (.seq (.reg [
  ⟨some 6, .mv (.c (.bool true)), none, []⟩])
 (.ret))
 (.skip)))
 (.seq (.seq (.reg [
  ⟨some 35, .fa 0 (.t 7), none, []⟩,
  ⟨some 36, .ld (.t 35), none, []⟩,
  ⟨some 37, .bin .eql (.t 36) (.c (.int .i64 6)), none, []⟩,
  ⟨some 38, .mv (.t 37), none, []⟩,
  ⟨some 39, .mv (.t 0), (some (38, true)), []⟩,
  ⟨some 40, .fa 2 (.t 7), (some (38, true)), []⟩,
  ⟨some 41, .ld (.t 40), (some (38, true)), []⟩,
  ⟨some 42, .ia 1 (.t 41) (.c (.int .i64 0)), (some (38, true)), []⟩,
  ⟨some 43, .ld (.t 42), (some (38, true)), []⟩,
  ⟨some 44, .ia 3 (.t 39) (.t 43), (some (38, true)), []⟩,
  ⟨some 45, .fa 0 (.t 44), (some (38, true)), []⟩,
  ⟨some 46, .ld (.t 45), (some (38, true)), []⟩,
  ⟨some 47, .bin .eql (.t 46) (.c (.int .i64 2)), (some (38, true)), []⟩,
  ⟨some 48, .pick (.t 38) (.t 47) (.c (.bool false)), none, []⟩,
  ⟨some 49, .mv (.t 48), none, []⟩,
  ⟨some 50, .mv (.t 0), (some (49, true)), []⟩,
  ⟨some 51, .mv (.t 0), (some (49, true)), []⟩,
  ⟨some 52, .fa 2 (.t 7), (some (49, true)), []⟩,
  ⟨some 53, .ld (.t 52), (some (49, true)), []⟩,
  ⟨some 54, .ia 1 (.t 53) (.c (.int .i64 0)), (some (49, true)), []⟩,
  ⟨some 55, .ld (.t 54), (some (49, true)), []⟩,
  ⟨some 56, .ia 3 (.t 51) (.t 55), (some (49, true)), []⟩,
  ⟨some 57, .fa 2 (.t 56), (some (49, true)), []⟩,
  ⟨some 58, .ld (.t 57), (some (49, true)), []⟩,
  ⟨some 59, .ia 1 (.t 58) (.c (.int .i64 0)), (some (49, true)), []⟩,
  ⟨some 60, .ld (.t 59), (some (49, true)), []⟩,
  ⟨some 61, .ia 3 (.t 50) (.t 60), (some (49, true)), []⟩,
  ⟨some 62, .fa 0 (.t 61), (some (49, true)), []⟩,
  ⟨some 63, .ld (.t 62), (some (49, true)), []⟩,
  ⟨some 64, .bin .eql (.t 63) (.c (.int .i64 1)), (some (49, true)), []⟩,
  ⟨some 65, .pick (.t 49) (.t 64) (.c (.bool false)), none, []⟩])
 (.ite (.t 65) (.seq (.reg [
  ⟨some 6, .mv (.c (.bool true)), none, []⟩])
 (.ret))
 (.skip)))
 (.seq (.seq (.reg [
  ⟨some 8, .mv (.c (.int .i64 0)), none, []⟩])
 (.blk 0 (.loop (.seq (.seq (.reg [
  ⟨some 66, .mv (.t 8), none, []⟩,
  ⟨some 67, .fa 2 (.t 7), none, []⟩,
  ⟨some 68, .ld (.t 67), none, []⟩,
  ⟨some 69, .len (.t 68), none, []⟩,
  ⟨some 70, .bin .lss (.t 66) (.t 69), none, []⟩])
 (.ite (.t 70) (.skip)
 (.exit 0)))
 (.seq (.blk 1 (.seq (.reg [
  ⟨some 73, .mv (.t 0), none, []⟩,
  ⟨some 74, .fa 2 (.t 7), none, []⟩,
  ⟨some 75, .ld (.t 74), none, []⟩,
  ⟨some 76, .mv (.t 8), none, []⟩,
  ⟨some 77, .ia 1 (.t 75) (.t 76), none, []⟩,
  ⟨some 78, .ld (.t 77), none, []⟩,
  ⟨some 79, .mv (.t 2), none, []⟩,
  ⟨some 80, .call (.f 115) [(.t 73), (.t 78), (.t 79)], none, []⟩,
  ⟨some 81, .not (.t 80), none, []⟩])
 (.ite (.t 81) (.seq (.reg [
  ⟨some 6, .mv (.c (.bool false)), none, []⟩])
 (.ret))
 (.skip))))
 (.reg [
  ⟨some 71, .mv (.t 8), none, []⟩,
  ⟨some 72, .bin .add (.t 71) (.c (.int .i64 1)), none, []⟩,
  ⟨some 8, .mv (.t 72), none, []⟩]))))))
 (.seq (.reg [
  ⟨some 6, .mv (.c (.bool true)), none, []⟩])
 (.ret)))))))⟩
def m116 : MFun := ⟨14, [.t 4],
 .seq (.reg [
  ⟨some 2, .box 47 (.t 0), none, []⟩,
  ⟨some 3, .box 52 (.t 1), none, []⟩,
  ⟨some 4, .mv (.c (.int .i64 0)), none, []⟩])
 (.seq (.reg [
  ⟨some 8, .lds 8 (.t 2), none, []⟩,
  ⟨some 9, .lds 2 (.t 3), none, []⟩,
  ⟨some 10, .call (.f 41) [(.t 8), (.t 9)], none, []⟩,
  ⟨some 7, .mv (.t 10), none, []⟩,
  ⟨some 11, .ext (.t 7) 0, none, []⟩,
  ⟨some 12, .ext (.t 7) 1, none, []⟩,
  ⟨some 5, .mv (.t 11), none, []⟩,
  ⟨some 6, .mv (.t 12), none, []⟩])
 (.seq (.reg [
  ⟨some 13, .mv (.t 6), none, []⟩,
  ⟨some 4, .mv (.t 13), none, []⟩])
 (.ret)))⟩
def m117 : MFun := ⟨93, [.cell 4 (some 2)],
 .seq (.reg [
  ⟨some 2, .box 47 (.t 0), none, []⟩,
  ⟨some 3, .box 52 (.t 1), none, []⟩,
  ⟨some 4, .new [(.slice none 0 0), (.slice none 0 0)] 26, none, []⟩])
 (.seq (.reg [
  ⟨some 15, .fa 0 (.t 3), none, []⟩,
  ⟨some 16, .ld (.t 15), none, []⟩,
  ⟨some 17, .fa 1 (.t 3), none, []⟩,
  ⟨some 18, .ld (.t 17), none, []⟩,
  ⟨some 19, .lit 24 [(.slice none 0 0)] [(0, 1, (.t 16)), (1, 1, (.t 18))] 2, none, []⟩,
  ⟨some 20, .call (.f 84) [(.t 19)], none, []⟩,
  ⟨some 5, .mv (.t 20), none, []⟩])
 (.seq (.reg [
  ⟨some 21, .mv (.t 5), none, []⟩,
  ⟨some 22, .len (.t 21), none, []⟩,
  ⟨some 23, .fa 0 (.t 3), none, []⟩,
  ⟨some 24, .ld (.t 23), none, []⟩,
  ⟨some 25, .len (.t 24), none, []⟩,
  ⟨some 26, .build [(.int .i64 0), (.int .i64 0)] [(0, 1, (.t 22)), (1, 1, (.t 25))], none, []⟩,
  ⟨some 6, .new [(.int .i64 0), (.int .i64 0)] 135, none, []⟩,
  ⟨none, .st 2 (.t 6) (.t 26), none, []⟩])
 (.seq (.reg [
  ⟨some 7, .mv (.c (.slice none 0 0)), none, []⟩])
 (.seq (.seq (.reg [
  ⟨some 27, .mv (.t 5), none, []⟩,
  ⟨some 28, .len (.t 27), none, []⟩,
  ⟨some 29, .mv (.c (.int .i64 0)), none, []⟩])
 (.blk 0 (.loop (.seq (.reg [
  ⟨some 30, .bin .lss (.t 29) (.t 28), none, []⟩])
 (.seq (.ite (.t 30) (.skip)
 (.exit 0))
 (.seq (.blk 1 (.seq (.reg [
  ⟨some 31, .mv (.t 29), none, []⟩,
  ⟨some 32, .ia 1 (.t 27) (.t 29), none, []⟩,
  ⟨some 33, .ld (.t 32), none, []⟩,
  ⟨some 8, .mv (.t 31), none, []⟩,
  ⟨some 9, .mv (.t 33), none, []⟩])
 (.seq (.reg [
  ⟨some 34, .fa 3 (.t 2), none, []⟩,
  ⟨some 35, .ld (.t 34), none, []⟩,
  ⟨some 36, .mv (.t 9), none, []⟩,
  ⟨some 37, .ia 1 (.t 35) (.t 36), none, []⟩,
  ⟨some 38, .ld (.t 37), none, []⟩,
  ⟨some 10, .mv (.t 38), none, []⟩])
 (.seq (.seq (.dreg [0, 1, 2, 3, 4, 10, 5, 6, 7, 8, 9] [
  ⟨some 39, .lds 8 (.t 2), none, [(.t 2)]⟩,
  ⟨some 40, .mv (.t 9), none, []⟩,
  ⟨some 41, .mv (.t 5), none, []⟩,
  ⟨some 42, .lds 2 (.t 6), none, [(.t 6)]⟩,
  ⟨some 43, .mv (.t 8), none, []⟩,
  ⟨some 49, .mv (.c (.int .i64 0)), none, []⟩,
  ⟨some 44, .call (.f 93) [(.t 42), (.t 43)], none, [(.t 2)]⟩,
  ⟨some 45, .ia 1 (.t 41) (.t 44), none, []⟩,
  ⟨some 46, .ld (.t 45), none, [(.t 45)]⟩,
  ⟨some 47, .call (.f 142) [(.t 39), (.t 40), (.t 46)], none, []⟩,
  ⟨some 48, .len (.t 47), none, []⟩])
 (.blk 2 (.loop (.seq (.reg [
  ⟨some 50, .bin .lss (.t 49) (.t 48), none, []⟩])
 (.seq (.ite (.t 50) (.skip)
 (.exit 2))
 (.seq (.blk 3 (.seq (.reg [
  ⟨some 51, .ia 1 (.t 47) (.t 49), none, []⟩,
  ⟨some 52, .ld (.t 51), none, []⟩,
  ⟨some 12, .mv (.t 52), none, []⟩])
 (.reg [
  ⟨some 53, .mv (.t 10), none, []⟩,
  ⟨some 54, .fa 4 (.t 2), none, []⟩,
  ⟨some 55, .ld (.t 54), none, []⟩,
  ⟨some 56, .mv (.t 12), none, []⟩,
  ⟨some 57, .ia 1 (.t 55) (.t 56), none, []⟩,
  ⟨some 58, .ld (.t 57), none, []⟩,
  ⟨some 59, .call (.f 157) [(.t 53), (.t 58)], none, []⟩,
  ⟨some 10, .mv (.t 59), none, []⟩])))
 (.reg [
  ⟨some 60, .bin .add (.t 49) (.c (.int .i64 1)), none, []⟩,
  ⟨some 49, .mv (.t 60), none, []⟩])))))))
 (.seq (.seq (.reg [
  ⟨some 61, .fa 5 (.t 2), none, []⟩,
  ⟨some 62, .ld (.t 61), none, []⟩,
  ⟨some 63, .len (.t 62), none, []⟩,
  ⟨some 64, .mv (.c (.int .i64 0)), none, []⟩])
 (.blk 4 (.loop (.seq (.reg [
  ⟨some 65, .bin .lss (.t 64) (.t 63), none, []⟩])
 (.seq (.ite (.t 65) (.skip)
 (.exit 4))
 (.seq (.blk 5 (.seq (.reg [
  ⟨some 66, .mv (.t 64), none, []⟩,
  ⟨some 67, .ia 1 (.t 62) (.t 64), none, []⟩,
  ⟨some 68, .ld (.t 67), none, []⟩,
  ⟨some 13, .mv (.t 66), none, []⟩,
  ⟨some 14, .mv (.t 68), none, []⟩])
 (.seq (.reg [
  ⟨some 69, .lds 8 (.t 2), none, []⟩,
  ⟨some 70, .mv (.t 9), none, []⟩,
  ⟨some 71, .mv (.t 13), none, []⟩,
  ⟨some 72, .call (.f 158) [(.t 69), (.t 70), (.t 71)], none, []⟩])
 (.ite (.t 72) (.reg [
  ⟨some 73, .mv (.t 10), none, []⟩,
  ⟨some 74, .mv (.t 14), none, []⟩,
  ⟨some 75, .call (.f 157) [(.t 73), (.t 74)], none, []⟩,
  ⟨some 10, .mv (.t 75), none, []⟩])
 (.skip)))))
 (.reg [
  ⟨some 76, .bin .add (.t 64) (.c (.int .i64 1)), none, []⟩,
  ⟨some 64, .mv (.t 76), none, []⟩])))))))
 (.reg [
  ⟨some 77, .mv (.t 7), none, []⟩,
  ⟨some 78, .mv (.t 10), none, []⟩,
  ⟨some 79, .lit 3 [(.int .i64 0)] [(0, 1, (.t 78))] 1, none, []⟩,
  ⟨some 80, .app 3 1 8 [(.int .i64 0)] (.t 77) (.t 79), none, []⟩,
  ⟨some 7, .mv (.t 80), none, []⟩]))))))
 (.reg [
  ⟨some 81, .bin .add (.t 29) (.c (.int .i64 1)), none, []⟩,
  ⟨some 29, .mv (.t 81), none, []⟩])))))))
 (.seq (.dreg [0, 1, 2, 3, 5, 6, 7, 8, 4, 9, 10, 11] [
  ⟨some 82, .mv (.t 7), none, []⟩,
  ⟨some 83, .fa 1 (.t 6), none, []⟩,
  ⟨some 84, .ld (.t 83), none, [(.t 83)]⟩,
  ⟨some 85, .sl 1 (.t 82) none (some (.t 84)) none, none, [(.t 82)]⟩,
  ⟨some 87, .mv (.t 7), none, []⟩,
  ⟨some 88, .fa 1 (.t 6), none, []⟩,
  ⟨some 89, .ld (.t 88), none, [(.t 88)]⟩,
  ⟨some 90, .sl 1 (.t 87) (some (.t 89)) none none, none, [(.t 87)]⟩,
  ⟨some 86, .call (.f 78) [(.t 85)], none, [(.t 87), (.t 88)]⟩,
  ⟨some 91, .call (.f 78) [(.t 90)], none, []⟩,
  ⟨some 92, .build [(.slice none 0 0), (.slice none 0 0)] [(0, 1, (.t 86)), (1, 1, (.t 91))], none, []⟩,
  ⟨none, .st 2 (.t 4) (.t 92), none, []⟩])
 (.ret))))))⟩
def m118 : MFun := ⟨54, [.t 4],
 .seq (.reg [
  ⟨some 2, .box 47 (.t 0), none, []⟩,
  ⟨some 3, .box 52 (.t 1), none, []⟩,
  ⟨some 4, .mv (.c (.bool false)), none, []⟩])
 (.seq (.seq (.reg [
  ⟨some 11, .fa 6 (.t 2), none, []⟩,
  ⟨some 12, .ld (.t 11), none, []⟩,
  ⟨some 13, .len (.t 12), none, []⟩,
  ⟨some 14, .mv (.c (.int .i64 0)), none, []⟩])
 (.blk 0 (.loop (.seq (.reg [
  ⟨some 15, .bin .lss (.t 14) (.t 13), none, []⟩])
 (.seq (.ite (.t 15) (.skip)
 (.exit 0))
 (.seq (.blk 1 (.seq (.reg [
  ⟨some 16, .ia 1 (.t 12) (.t 14), none, []⟩,
  ⟨some 17, .ld (.t 16), none, []⟩,
  ⟨some 6, .new [(.int .i64 0)] 3, none, []⟩,
  ⟨none, .st 1 (.t 6) (.t 17), none, []⟩])
 (.seq (.reg [
  ⟨some 18, .fa 1 (.t 3), none, []⟩,
  ⟨some 19, .ld (.t 18), none, []⟩,
  ⟨some 20, .fn 159 [(.t 2), (.t 6)], none, []⟩,
  ⟨some 21, .call (.f 68) [(.t 19), (.t 20)], none, []⟩,
  ⟨some 7, .mv (.t 21), none, []⟩])
 (.seq (.reg [
  ⟨some 22, .mv (.t 7), none, []⟩,
  ⟨some 23, .not (.t 22), none, []⟩,
  ⟨some 24, .mv (.t 23), none, []⟩,
  ⟨some 25, .lds 8 (.t 2), (some (24, true)), []⟩,
  ⟨some 26, .fa 1 (.t 3), (some (24, true)), []⟩,
  ⟨some 27, .ld (.t 26), (some (24, true)), []⟩,
  ⟨some 28, .ld (.t 6), (some (24, true)), []⟩,
  ⟨some 29, .call (.f 160) [(.t 25), (.t 27), (.t 28)], (some (24, true)), []⟩,
  ⟨some 30, .not (.t 29), (some (24, true)), []⟩,
  ⟨some 31, .pick (.t 24) (.t 30) (.c (.bool false)), none, []⟩])
 (.ite (.t 31) (.seq (.reg [
  ⟨some 4, .mv (.c (.bool false)), none, []⟩])
 (.ret))
 (.skip))))))
 (.reg [
  ⟨some 32, .bin .add (.t 14) (.c (.int .i64 1)), none, []⟩,
  ⟨some 14, .mv (.t 32), none, []⟩])))))))
 (.seq (.seq (.reg [
  ⟨some 33, .fa 7 (.t 2), none, []⟩,
  ⟨some 34, .ld (.t 33), none, []⟩,
  ⟨some 35, .len (.t 34), none, []⟩,
  ⟨some 36, .mv (.c (.int .i64 0)), none, []⟩])
 (.blk 2 (.loop (.seq (.reg [
  ⟨some 37, .bin .lss (.t 36) (.t 35), none, []⟩])
 (.seq (.ite (.t 37) (.skip)
 (.exit 2))
 (.seq (.blk 3 (.seq (.reg [
  ⟨some 38, .ia 1 (.t 34) (.t 36), none, []⟩,
  ⟨some 39, .ld (.t 38), none, []⟩,
  ⟨some 9, .new [(.int .i64 0)] 3, none, []⟩,
  ⟨none, .st 1 (.t 9) (.t 39), none, []⟩])
 (.seq (.reg [
  ⟨some 40, .fa 1 (.t 3), none, []⟩,
  ⟨some 41, .ld (.t 40), none, []⟩,
  ⟨some 42, .fn 161 [(.t 2), (.t 9)], none, []⟩,
  ⟨some 43, .call (.f 68) [(.t 41), (.t 42)], none, []⟩,
  ⟨some 10, .mv (.t 43), none, []⟩])
 (.seq (.reg [
  ⟨some 44, .mv (.t 10), none, []⟩,
  ⟨some 45, .mv (.t 44), none, []⟩,
  ⟨some 46, .lds 8 (.t 2), (some (45, true)), []⟩,
  ⟨some 47, .fa 1 (.t 3), (some (45, true)), []⟩,
  ⟨some 48, .ld (.t 47), (some (45, true)), []⟩,
  ⟨some 49, .ld (.t 9), (some (45, true)), []⟩,
  ⟨some 50, .call (.f 160) [(.t 46), (.t 48), (.t 49)], (some (45, true)), []⟩,
  ⟨some 51, .not (.t 50), (some (45, true)), []⟩,
  ⟨some 52, .pick (.t 45) (.t 51) (.c (.bool false)), none, []⟩])
 (.ite (.t 52) (.seq (.reg [
  ⟨some 4, .mv (.c (.bool false)), none, []⟩])
 (.ret))
 (.skip))))))
 (.reg [
  ⟨some 53, .bin .add (.t 36) (.c (.int .i64 1)), none, []⟩,
  ⟨some 36, .mv (.t 53), none, []⟩])))))))
 (.seq (.reg [
  ⟨some 4, .mv (.c (.bool true)), none, []⟩])
 (.ret))))⟩
def m119 : MFun := ⟨64, [.t 6],
 .seq (.reg [
  ⟨some 3, .box 47 (.t 0), none, []⟩,
  ⟨some 6, .mv (.c (.int .i64 0)), none, []⟩])
 (.seq (.reg [
  ⟨some 9, .fa 3 (.t 3), none, []⟩,
  ⟨some 10, .ld (.t 9), none, []⟩,
  ⟨some 11, .mv (.t 1), none, []⟩,
  ⟨some 12, .ia 1 (.t 10) (.t 11), none, []⟩,
  ⟨some 13, .ld (.t 12), none, []⟩,
  ⟨some 7, .mv (.t 13), none, []⟩])
 (.seq (.seq (.reg [
  ⟨some 8, .mv (.c (.int .i64 0)), none, []⟩])
 (.blk 0 (.loop (.seq (.seq (.reg [
  ⟨some 14, .mv (.t 8), none, []⟩,
  ⟨some 15, .fa 4 (.t 3), none, []⟩,
  ⟨some 16, .ld (.t 15), none, []⟩,
  ⟨some 17, .len (.t 16), none, []⟩,
  ⟨some 18, .bin .lss (.t 14) (.t 17), none, []⟩])
 (.ite (.t 18) (.skip)
 (.exit 0)))
 (.seq (.blk 1 (.seq (.seq (.reg [
  ⟨some 21, .fa 4 (.t 3), none, []⟩,
  ⟨some 22, .ld (.t 21), none, []⟩,
  ⟨some 23, .mv (.t 8), none, []⟩,
  ⟨some 24, .ia 1 (.t 22) (.t 23), none, []⟩,
  ⟨some 25, .ld (.t 24), none, []⟩,
  ⟨some 26, .bin .neq (.t 25) (.c (.int .i64 (-1))), none, []⟩,
  ⟨some 27, .mv (.t 26), none, []⟩,
  ⟨some 28, .fa 0 (.t 3), (some (27, true)), []⟩,
  ⟨some 29, .lds 3 (.t 28), (some (27, true)), []⟩,
  ⟨some 30, .mv (.t 1), (some (27, true)), []⟩,
  ⟨some 31, .mv (.t 2), (some (27, true)), []⟩,
  ⟨some 32, .mv (.t 8), (some (27, true)), []⟩,
  ⟨some 33, .build [(.int .i64 0), (.int .i64 0), (.int .i64 0)] [(0, 1, (.t 30)), (1, 1, (.t 31)), (2, 1, (.t 32))], (some (27, true)), []⟩,
  ⟨some 34, .call (.f 162) [(.t 29), (.t 33)], (some (27, true)), []⟩,
  ⟨some 35, .pick (.t 27) (.t 34) (.c (.bool false)), none, []⟩])
 (.ite (.t 35) (.reg [
  ⟨some 36, .mv (.t 7), none, []⟩,
  ⟨some 37, .fa 4 (.t 3), none, []⟩,
  ⟨some 38, .ld (.t 37), none, []⟩,
  ⟨some 39, .mv (.t 8), none, []⟩,
  ⟨some 40, .ia 1 (.t 38) (.t 39), none, []⟩,
  ⟨some 41, .ld (.t 40), none, []⟩,
  ⟨some 42, .call (.f 163) [(.t 36), (.t 41)], none, []⟩,
  ⟨some 7, .mv (.t 42), none, []⟩])
 (.skip)))
 (.seq (.reg [
  ⟨some 43, .fa 5 (.t 3), none, []⟩,
  ⟨some 44, .ld (.t 43), none, []⟩,
  ⟨some 45, .mv (.t 8), none, []⟩,
  ⟨some 46, .ia 1 (.t 44) (.t 45), none, []⟩,
  ⟨some 47, .ld (.t 46), none, []⟩,
  ⟨some 48, .bin .neq (.t 47) (.c (.int .i64 (-1))), none, []⟩,
  ⟨some 49, .mv (.t 48), none, []⟩,
  ⟨some 50, .fa 0 (.t 3), (some (49, true)), []⟩,
  ⟨some 51, .lds 3 (.t 50), (some (49, true)), []⟩,
  ⟨some 52, .mv (.t 1), (some (49, true)), []⟩,
  ⟨some 53, .mv (.t 8), (some (49, true)), []⟩,
  ⟨some 54, .call (.f 164) [(.t 51), (.t 52), (.t 53)], (some (49, true)), []⟩,
  ⟨some 55, .pick (.t 49) (.t 54) (.c (.bool false)), none, []⟩])
 (.ite (.t 55) (.reg [
  ⟨some 56, .mv (.t 7), none, []⟩,
  ⟨some 57, .fa 5 (.t 3), none, []⟩,
  ⟨some 58, .ld (.t 57), none, []⟩,
  ⟨some 59, .mv (.t 8), none, []⟩,
  ⟨some 60, .ia 1 (.t 58) (.t 59), none, []⟩,
  ⟨some 61, .ld (.t 60), none, []⟩,
  ⟨some 62, .call (.f 163) [(.t 56), (.t 61)], none, []⟩,
  ⟨some 7, .mv (.t 62), none, []⟩])
 (.skip)))))
 (.reg [
  ⟨some 19, .mv (.t 8), none, []⟩,
  ⟨some 20, .bin .add (.t 19) (.c (.int .i64 1)), none, []⟩,
  ⟨some 8, .mv (.t 20), none, []⟩]))))))
 (.seq (.reg [
  ⟨some 63, .mv (.t 7), none, []⟩,
  ⟨some 6, .mv (.t 63), none, []⟩])
 (.ret))))⟩
def m120 : MFun := ⟨35, [.t 6],
 .seq (.reg [
  ⟨some 3, .box 47 (.t 0), none, []⟩,
  ⟨some 4, .box 52 (.t 1), none, []⟩,
  ⟨some 6, .mv (.c (.bool false)), none, []⟩])
 (.seq (.seq (.reg [
  ⟨some 7, .mv (.c (.int .i64 0)), none, []⟩])
 (.blk 0 (.loop (.seq (.seq (.reg [
  ⟨some 8, .mv (.t 7), none, []⟩,
  ⟨some 9, .fa 1 (.t 4), none, []⟩,
  ⟨some 10, .ld (.t 9), none, []⟩,
  ⟨some 11, .len (.t 10), none, []⟩,
  ⟨some 12, .bin .lss (.t 8) (.t 11), none, []⟩])
 (.ite (.t 12) (.skip)
 (.exit 0)))
 (.seq (.blk 1 (.seq (.dreg [0, 1, 2, 3, 4, 5, 6, 7, 8, 9, 10, 11, 12, 13, 14, 15, 16, 17, 18, 19] [
  ⟨some 15, .fa 0 (.t 3), none, []⟩,
  ⟨some 16, .lds 3 (.t 15), none, [(.t 15)]⟩,
  ⟨some 17, .fa 1 (.t 4), none, []⟩,
  ⟨some 18, .ld (.t 17), none, [(.t 17)]⟩,
  ⟨some 19, .mv (.t 7), none, []⟩,
  ⟨some 20, .ia 1 (.t 18) (.t 19), none, []⟩,
  ⟨some 21, .ld (.t 20), none, [(.t 20)]⟩,
  ⟨some 22, .fa 1 (.t 4), none, []⟩,
  ⟨some 23, .ld (.t 22), none, [(.t 22)]⟩,
  ⟨some 24, .mv (.t 7), none, []⟩,
  ⟨some 25, .bin .add (.t 24) (.c (.int .i64 1)), none, []⟩,
  ⟨some 26, .fa 1 (.t 4), none, []⟩,
  ⟨some 27, .ld (.t 26), none, [(.t 26)]⟩,
  ⟨some 28, .len (.t 27), none, []⟩,
  ⟨some 29, .bin .rem (.t 25) (.t 28), none, []⟩,
  ⟨some 30, .ia 1 (.t 23) (.t 29), none, []⟩,
  ⟨some 31, .ld (.t 30), none, [(.t 30)]⟩,
  ⟨some 32, .mv (.t 2), none, []⟩,
  ⟨some 33, .build [(.int .i64 0), (.int .i64 0), (.int .i64 0)] [(0, 1, (.t 21)), (1, 1, (.t 31)), (2, 1, (.t 32))], none, []⟩,
  ⟨some 34, .call (.f 162) [(.t 16), (.t 33)], none, []⟩])
 (.ite (.t 34) (.seq (.reg [
  ⟨some 6, .mv (.c (.bool true)), none, []⟩])
 (.ret))
 (.skip))))
 (.reg [
  ⟨some 13, .mv (.t 7), none, []⟩,
  ⟨some 14, .bin .add (.t 13) (.c (.int .i64 1)), none, []⟩,
  ⟨some 7, .mv (.t 14), none, []⟩]))))))
 (.seq (.reg [
  ⟨some 6, .mv (.c (.bool false)), none, []⟩])
 (.ret)))⟩
def m121 : MFun := ⟨29, [.t 6],
 .seq (.reg [
  ⟨some 3, .box 47 (.t 0), none, []⟩,
  ⟨some 4, .box 52 (.t 1), none, []⟩,
  ⟨some 6, .mv (.c (.int .i64 0)), none, []⟩])
 (.seq (.reg [
  ⟨some 7, .mv (.c (.int .i64 0)), none, []⟩])
 (.seq (.seq (.reg [
  ⟨some 8, .mv (.c (.int .i64 0)), none, []⟩])
 (.blk 0 (.loop (.seq (.seq (.reg [
  ⟨some 9, .mv (.t 8), none, []⟩,
  ⟨some 10, .fa 1 (.t 4), none, []⟩,
  ⟨some 11, .ld (.t 10), none, []⟩,
  ⟨some 12, .len (.t 11), none, []⟩,
  ⟨some 13, .bin .lss (.t 9) (.t 12), none, []⟩])
 (.ite (.t 13) (.skip)
 (.exit 0)))
 (.seq (.blk 1 (.dreg [0, 1, 2, 3, 4, 5, 6, 7, 8, 9, 10, 11, 12] [
  ⟨some 16, .mv (.t 7), none, []⟩,
  ⟨some 17, .fa 0 (.t 3), none, []⟩,
  ⟨some 18, .lds 3 (.t 17), none, [(.t 17)]⟩,
  ⟨some 19, .fa 1 (.t 4), none, []⟩,
  ⟨some 20, .ld (.t 19), none, [(.t 19)]⟩,
  ⟨some 21, .mv (.t 8), none, []⟩,
  ⟨some 22, .ia 1 (.t 20) (.t 21), none, []⟩,
  ⟨some 23, .ld (.t 22), none, [(.t 22)]⟩,
  ⟨some 24, .mv (.t 2), none, []⟩,
  ⟨some 25, .call (.f 164) [(.t 18), (.t 23), (.t 24)], none, []⟩,
  ⟨some 26, .call (.f 165) [(.t 25)], none, []⟩,
  ⟨some 27, .bin .add (.t 16) (.t 26), none, []⟩,
  ⟨some 7, .mv (.t 27), none, []⟩]))
 (.reg [
  ⟨some 14, .mv (.t 8), none, []⟩,
  ⟨some 15, .bin .add (.t 14) (.c (.int .i64 1)), none, []⟩,
  ⟨some 8, .mv (.t 15), none, []⟩]))))))
 (.seq (.reg [
  ⟨some 28, .mv (.t 7), none, []⟩,
  ⟨some 6, .mv (.t 28), none, []⟩])
 (.ret))))⟩
def m122 : MFun := ⟨19, [.t 4],
 .seq (.reg [
  ⟨some 4, .mv (.c (.int .i64 0)), none, []⟩])
 (.seq (.seq (.reg [
  ⟨some 6, .mv (.t 0), none, []⟩,
  ⟨some 7, .len (.t 6), none, []⟩,
  ⟨some 8, .mv (.c (.int .i64 0)), none, []⟩])
 (.blk 0 (.loop (.seq (.reg [
  ⟨some 9, .bin .lss (.t 8) (.t 7), none, []⟩])
 (.seq (.ite (.t 9) (.skip)
 (.exit 0))
 (.seq (.blk 1 (.seq (.reg [
  ⟨some 10, .mv (.t 8), none, []⟩,
  ⟨some 5, .mv (.t 10), none, []⟩])
 (.seq (.reg [
  ⟨some 11, .mv (.t 1), none, []⟩,
  ⟨some 12, .mv (.t 0), none, []⟩,
  ⟨some 13, .mv (.t 5), none, []⟩,
  ⟨some 14, .ia 1 (.t 12) (.t 13), none, []⟩,
  ⟨some 15, .ld (.t 14), none, []⟩,
  ⟨some 16, .call (.t 11) [(.t 15)], none, []⟩])
 (.ite (.t 16) (.seq (.reg [
  ⟨some 17, .mv (.t 5), none, []⟩,
  ⟨some 4, .mv (.t 17), none, []⟩])
 (.ret))
 (.skip)))))
 (.reg [
  ⟨some 18, .bin .add (.t 8) (.c (.int .i64 1)), none, []⟩,
  ⟨some 8, .mv (.t 18), none, []⟩])))))))
 (.seq (.reg [
  ⟨some 4, .mv (.c (.int .i64 (-1))), none, []⟩])
 (.ret)))⟩
def m123 : MFun := ⟨48, [.t 4],
 .seq (.reg [
  ⟨some 4, .mv (.c (.slice none 0 0)), none, []⟩])
 (.seq (.seq (.reg [
  ⟨some 9, .mv (.t 1), none, []⟩,
  ⟨some 10, .bin .lss (.t 9) (.c (.int .i64 0)), none, []⟩])
 (.ite (.t 10) (.reg [
  ⟨some 11, .iface 9 (.c (.string ⟨#[99, 97, 110, 110, 111, 116, 32, 98, 101, 32, 110, 101, 103, 97, 116, 105, 118, 101]⟩)), none, []⟩,
  ⟨none, .bad, none, []⟩])
 (.skip)))
 (.seq (.reg [
  ⟨some 13, .mv (.t 0), none, []⟩,
  ⟨some 14, .len (.t 13), none, []⟩,
  ⟨some 15, .cvt .u64 (.t 14), none, []⟩,
  ⟨some 16, .mv (.t 1), none, []⟩,
  ⟨some 17, .cvt .u64 (.t 16), none, []⟩,
  ⟨some 18, .call (.f 156) [(.t 15), (.t 17)], none, []⟩,
  ⟨some 12, .mv (.t 18), none, []⟩,
  ⟨some 19, .ext (.t 12) 0, none, []⟩,
  ⟨some 20, .ext (.t 12) 1, none, []⟩,
  ⟨some 5, .mv (.t 19), none, []⟩,
  ⟨some 6, .mv (.t 20), none, []⟩])
 (.seq (.seq (.reg [
  ⟨some 21, .mv (.t 5), none, []⟩,
  ⟨some 22, .bin .gtr (.t 21) (.c (.int .u64 0)), none, []⟩,
  ⟨some 23, .mv (.t 22), none, []⟩,
  ⟨some 24, .mv (.t 6), (some (23, false)), []⟩,
  ⟨some 25, .bin .gtr (.t 24) (.c (.int .u64 9223372036854775807)), (some (23, false)), []⟩,
  ⟨some 26, .pick (.t 23) (.c (.bool true)) (.t 25), none, []⟩])
 (.ite (.t 26) (.reg [
  ⟨some 27, .iface 9 (.c (.string ⟨#[116, 104, 101, 32, 114, 101, 115, 117, 108, 116, 32, 111, 102, 32, 40, 108, 101, 110, 40, 120, 41, 32, 42, 32, 99, 111, 117, 110, 116, 41, 32, 111, 118, 101, 114, 102, 108, 111, 119, 115]⟩)), none, []⟩,
  ⟨none, .bad, none, []⟩])
 (.skip)))
 (.seq (.reg [
  ⟨some 28, .mv (.t 6), none, []⟩,
  ⟨some 29, .cvt .i64 (.t 28), none, []⟩,
  ⟨some 30, .mk 4 1 1 [(.bool false)] (.t 29) (.t 29), none, []⟩,
  ⟨some 7, .mv (.t 30), none, []⟩])
 (.seq (.reg [
  ⟨some 31, .mv (.t 7), none, []⟩,
  ⟨some 32, .mv (.t 0), none, []⟩,
  ⟨some 33, .cpy 1 (.t 31) (.t 32), none, []⟩,
  ⟨some 8, .mv (.t 33), none, []⟩])
 (.seq (.blk 0 (.loop (.seq (.seq (.reg [
  ⟨some 34, .mv (.t 8), none, []⟩,
  ⟨some 35, .mv (.t 7), none, []⟩,
  ⟨some 36, .len (.t 35), none, []⟩,
  ⟨some 37, .bin .lss (.t 34) (.t 36), none, []⟩])
 (.ite (.t 37) (.skip)
 (.exit 0)))
 (.blk 1 (.dreg [0, 1, 2, 3, 4, 5, 6, 7, 8, 9] [
  ⟨some 38, .mv (.t 8), none, []⟩,
  ⟨some 39, .mv (.t 7), none, []⟩,
  ⟨some 40, .mv (.t 8), none, []⟩,
  ⟨some 41, .sl 1 (.t 39) (some (.t 40)) none none, none, [(.t 39)]⟩,
  ⟨some 42, .mv (.t 7), none, []⟩,
  ⟨some 43, .mv (.t 8), none, []⟩,
  ⟨some 44, .sl 1 (.t 42) none (some (.t 43)) none, none, [(.t 42)]⟩,
  ⟨some 45, .cpy 1 (.t 41) (.t 44), none, []⟩,
  ⟨some 46, .bin .add (.t 38) (.t 45), none, []⟩,
  ⟨some 8, .mv (.t 46), none, []⟩])))))
 (.seq (.reg [
  ⟨some 47, .mv (.t 7), none, []⟩,
  ⟨some 4, .mv (.t 47), none, []⟩])
 (.ret))))))))⟩
def m124 : MFun := ⟨22, [.t 2],
 .seq (.reg [
  ⟨some 2, .mv (.c (.slice none 0 0)), none, []⟩])
 (.seq (.reg [
  ⟨some 5, .mv (.t 0), none, []⟩,
  ⟨some 6, .call (.f 71) [(.t 5)], none, []⟩,
  ⟨some 3, .mv (.t 6), none, []⟩])
 (.seq (.seq (.reg [
  ⟨some 7, .mv (.t 3), none, []⟩,
  ⟨some 8, .len (.t 7), none, []⟩,
  ⟨some 9, .mv (.c (.int .i64 0)), none, []⟩])
 (.blk 0 (.loop (.seq (.reg [
  ⟨some 10, .bin .lss (.t 9) (.t 8), none, []⟩])
 (.seq (.ite (.t 10) (.skip)
 (.exit 0))
 (.seq (.blk 1 (.seq (.reg [
  ⟨some 11, .mv (.t 9), none, []⟩,
  ⟨some 4, .mv (.t 11), none, []⟩])
 (.reg [
  ⟨some 12, .mv (.t 3), none, []⟩,
  ⟨some 13, .mv (.t 4), none, []⟩,
  ⟨some 14, .mv (.t 3), none, []⟩,
  ⟨some 15, .mv (.t 4), none, []⟩,
  ⟨some 16, .ia 1 (.t 14) (.t 15), none, []⟩,
  ⟨some 17, .ld (.t 16), none, []⟩,
  ⟨some 18, .not (.t 17), none, []⟩,
  ⟨some 19, .ia 1 (.t 12) (.t 13), none, []⟩,
  ⟨none, .st 1 (.t 19) (.t 18), none, []⟩])))
 (.reg [
  ⟨some 20, .bin .add (.t 9) (.c (.int .i64 1)), none, []⟩,
  ⟨some 9, .mv (.t 20), none, []⟩])))))))
 (.seq (.reg [
  ⟨some 21, .mv (.t 3), none, []⟩,
  ⟨some 2, .mv (.t 21), none, []⟩])
 (.ret))))⟩
def m125 : MFun := ⟨31, [.t 6],
 .seq (.reg [
  ⟨some 6, .mv (.c (.slice none 0 0)), none, []⟩])
 (.seq (.reg [
  ⟨some 9, .mv (.t 0), none, []⟩,
  ⟨some 10, .call (.f 71) [(.t 9)], none, []⟩,
  ⟨some 7, .mv (.t 10), none, []⟩])
 (.seq (.seq (.reg [
  ⟨some 11, .mv (.t 7), none, []⟩,
  ⟨some 12, .len (.t 11), none, []⟩,
  ⟨some 13, .mv (.c (.int .i64 0)), none, []⟩])
 (.blk 0 (.loop (.seq (.reg [
  ⟨some 14, .bin .lss (.t 13) (.t 12), none, []⟩])
 (.seq (.ite (.t 14) (.skip)
 (.exit 0))
 (.seq (.blk 1 (.seq (.reg [
  ⟨some 15, .mv (.t 13), none, []⟩,
  ⟨some 8, .mv (.t 15), none, []⟩])
 (.dreg [0, 1, 2, 3, 4, 5, 6, 7, 8, 9, 10, 11, 12, 13] [
  ⟨some 16, .mv (.t 7), none, []⟩,
  ⟨some 17, .mv (.t 8), none, []⟩,
  ⟨some 18, .mv (.t 2), none, []⟩,
  ⟨some 19, .mv (.t 0), none, []⟩,
  ⟨some 20, .mv (.t 8), none, []⟩,
  ⟨some 21, .ia 1 (.t 19) (.t 20), none, []⟩,
  ⟨some 22, .ld (.t 21), none, [(.t 21)]⟩,
  ⟨some 23, .mv (.t 1), none, []⟩,
  ⟨some 24, .mv (.t 8), none, []⟩,
  ⟨some 25, .ia 1 (.t 23) (.t 24), none, []⟩,
  ⟨some 26, .ld (.t 25), none, [(.t 25)]⟩,
  ⟨some 27, .call (.t 18) [(.t 22), (.t 26)], none, []⟩,
  ⟨some 28, .ia 1 (.t 16) (.t 17), none, []⟩,
  ⟨none, .st 1 (.t 28) (.t 27), none, []⟩])))
 (.reg [
  ⟨some 29, .bin .add (.t 13) (.c (.int .i64 1)), none, []⟩,
  ⟨some 13, .mv (.t 29), none, []⟩])))))))
 (.seq (.reg [
  ⟨some 30, .mv (.t 7), none, []⟩,
  ⟨some 6, .mv (.t 30), none, []⟩])
 (.ret))))⟩
def m126 : MFun := ⟨9, [.t 4],
 .seq (.reg [
  ⟨some 4, .mv (.c (.bool false)), none, []⟩])
 (.seq (.reg [
  ⟨some 5, .mv (.t 0), none, []⟩,
  ⟨some 6, .mv (.t 5), none, []⟩,
  ⟨some 7, .mv (.t 1), (some (6, true)), []⟩,
  ⟨some 8, .pick (.t 6) (.t 7) (.c (.bool false)), none, []⟩,
  ⟨some 4, .mv (.t 8), none, []⟩])
 (.ret))⟩
def m127 : MFun := ⟨9, [.t 4],
 .seq (.reg [
  ⟨some 4, .mv (.c (.bool false)), none, []⟩])
 (.seq (.reg [
  ⟨some 5, .mv (.t 0), none, []⟩,
  ⟨some 6, .mv (.t 5), none, []⟩,
  ⟨some 7, .mv (.t 1), (some (6, false)), []⟩,
  ⟨some 8, .pick (.t 6) (.c (.bool true)) (.t 7), none, []⟩,
  ⟨some 4, .mv (.t 8), none, []⟩])
 (.ret))⟩
def m128 : MFun := ⟨10, [.t 4],
 .seq (.reg [
  ⟨some 4, .mv (.c (.bool false)), none, []⟩])
 (.seq (.reg [
  ⟨some 5, .mv (.t 0), none, []⟩,
  ⟨some 6, .not (.t 5), none, []⟩,
  ⟨some 7, .mv (.t 6), none, []⟩,
  ⟨some 8, .mv (.t 1), (some (7, false)), []⟩,
  ⟨some 9, .pick (.t 7) (.c (.bool true)) (.t 8), none, []⟩,
  ⟨some 4, .mv (.t 9), none, []⟩])
 (.ret))⟩
def m129 : MFun := ⟨10, [.t 4],
 .seq (.reg [
  ⟨some 2, .box 135 (.t 0), none, []⟩,
  ⟨some 4, .mv (.c (.slice none 0 0)), none, []⟩])
 (.seq (.dreg [0, 1, 2, 3, 4, 5] [
  ⟨some 5, .lds 2 (.t 2), none, [(.t 2)]⟩,
  ⟨some 6, .mv (.t 1), none, []⟩,
  ⟨some 7, .call (.f 124) [(.t 6)], none, [(.t 2)]⟩,
  ⟨some 8, .call (.f 130) [(.t 5), (.t 7)], none, []⟩,
  ⟨some 9, .call (.f 124) [(.t 8)], none, []⟩,
  ⟨some 4, .mv (.t 9), none, []⟩])
 (.ret))⟩
def m130 : MFun := ⟨12, [.t 4],
 .seq (.reg [
  ⟨some 2, .box 135 (.t 0), none, []⟩,
  ⟨some 4, .mv (.c (.slice none 0 0)), none, []⟩])
 (.seq (.dreg [0, 1, 2, 3, 5, 4, 6, 7] [
  ⟨some 5, .lds 2 (.t 2), none, [(.t 2)]⟩,
  ⟨some 6, .lit 4 [(.bool false)] [(0, 1, (.c (.bool true)))] 1, none, []⟩,
  ⟨some 7, .fa 0 (.t 2), none, []⟩,
  ⟨some 8, .ld (.t 7), none, [(.t 7)]⟩,
  ⟨some 10, .mv (.t 1), none, []⟩,
  ⟨some 9, .call (.f 123) [(.t 6), (.t 8)], none, [(.t 2)]⟩,
  ⟨some 11, .call (.f 131) [(.t 5), (.t 9), (.t 10)], none, []⟩,
  ⟨some 4, .mv (.t 11), none, []⟩])
 (.ret))⟩
def m131 : MFun := ⟨43, [.t 6],
 .seq (.reg [
  ⟨some 3, .box 135 (.t 0), none, []⟩,
  ⟨some 6, .mv (.c (.slice none 0 0)), none, []⟩])
 (.seq (.reg [
  ⟨some 9, .mv (.t 2), none, []⟩,
  ⟨some 10, .call (.f 71) [(.t 9)], none, []⟩,
  ⟨some 7, .mv (.t 10), none, []⟩])
 (.seq (.seq (.reg [
  ⟨some 11, .mv (.c (.int .i64 0)), none, []⟩])
 (.blk 0 (.loop (.seq (.reg [
  ⟨some 12, .bin .lss (.t 11) (.c (.int .i64 2)), none, []⟩])
 (.seq (.ite (.t 12) (.skip)
 (.exit 0))
 (.seq (.blk 1 (.seq (.reg [
  ⟨some 13, .fa 0 (.t 3), none, []⟩,
  ⟨some 14, .ld (.t 13), none, []⟩,
  ⟨some 15, .bin .sub (.t 14) (.c (.int .i64 1)), none, []⟩,
  ⟨some 8, .mv (.t 15), none, []⟩])
 (.blk 2 (.loop (.seq (.seq (.reg [
  ⟨some 16, .mv (.t 8), none, []⟩,
  ⟨some 17, .bin .geq (.t 16) (.c (.int .i64 0)), none, []⟩])
 (.ite (.t 17) (.skip)
 (.exit 2)))
 (.seq (.blk 3 (.reg [
  ⟨some 20, .mv (.t 7), none, []⟩,
  ⟨some 21, .mv (.t 8), none, []⟩,
  ⟨some 22, .mv (.t 7), none, []⟩,
  ⟨some 23, .mv (.t 8), none, []⟩,
  ⟨some 24, .ia 1 (.t 22) (.t 23), none, []⟩,
  ⟨some 25, .ld (.t 24), none, []⟩,
  ⟨some 26, .mv (.t 25), none, []⟩,
  ⟨some 27, .mv (.t 1), (some (26, false)), []⟩,
  ⟨some 28, .mv (.t 8), (some (26, false)), []⟩,
  ⟨some 29, .ia 1 (.t 27) (.t 28), (some (26, false)), []⟩,
  ⟨some 30, .ld (.t 29), (some (26, false)), []⟩,
  ⟨some 31, .mv (.t 30), (some (26, false)), []⟩,
  ⟨some 32, .mv (.t 7), (some (31, true)), []⟩,
  ⟨some 33, .lds 2 (.t 3), (some (31, true)), []⟩,
  ⟨some 34, .mv (.t 8), (some (31, true)), []⟩,
  ⟨some 35, .call (.f 93) [(.t 33), (.t 34)], (some (31, true)), []⟩,
  ⟨some 36, .ia 1 (.t 32) (.t 35), (some (31, true)), []⟩,
  ⟨some 37, .ld (.t 36), (some (31, true)), []⟩,
  ⟨some 38, .pick (.t 31) (.t 37) (.c (.bool false)), (some (26, false)), []⟩,
  ⟨some 39, .pick (.t 26) (.c (.bool true)) (.t 38), none, []⟩,
  ⟨some 40, .ia 1 (.t 20) (.t 21), none, []⟩,
  ⟨none, .st 1 (.t 40) (.t 39), none, []⟩]))
 (.reg [
  ⟨some 18, .mv (.t 8), none, []⟩,
  ⟨some 19, .bin .sub (.t 18) (.c (.int .i64 1)), none, []⟩,
  ⟨some 8, .mv (.t 19), none, []⟩])))))))
 (.reg [
  ⟨some 41, .bin .add (.t 11) (.c (.int .i64 1)), none, []⟩,
  ⟨some 11, .mv (.t 41), none, []⟩])))))))
 (.seq (.reg [
  ⟨some 42, .mv (.t 7), none, []⟩,
  ⟨some 6, .mv (.t 42), none, []⟩])
 (.ret))))⟩
def m132 : MFun := ⟨10, [.t 2],
 .seq (.reg [
  ⟨some 1, .box 26 (.t 0), none, []⟩,
  ⟨some 2, .mv (.c (.int .i64 0)), none, []⟩])
 (.seq (.reg [
  ⟨some 3, .fa 0 (.t 1), none, []⟩,
  ⟨some 4, .ld (.t 3), none, []⟩,
  ⟨some 5, .len (.t 4), none, []⟩,
  ⟨some 6, .fa 1 (.t 1), none, []⟩,
  ⟨some 7, .ld (.t 6), none, []⟩,
  ⟨some 8, .len (.t 7), none, []⟩,
  ⟨some 9, .bin .add (.t 5) (.t 8), none, []⟩,
  ⟨some 2, .mv (.t 9), none, []⟩])
 (.ret))⟩
def m133 : MFun := ⟨24, [.t 4],
 .seq (.reg [
  ⟨some 2, .box 26 (.t 0), none, []⟩,
  ⟨some 4, .mv (.c (.int .i64 0)), none, []⟩])
 (.seq (.seq (.reg [
  ⟨some 5, .mv (.t 1), none, []⟩,
  ⟨some 6, .fa 0 (.t 2), none, []⟩,
  ⟨some 7, .ld (.t 6), none, []⟩,
  ⟨some 8, .len (.t 7), none, []⟩,
  ⟨some 9, .bin .lss (.t 5) (.t 8), none, []⟩])
 (.ite (.t 9) (.seq (.reg [
  ⟨some 10, .mv (.t 1), none, []⟩,
  ⟨some 4, .mv (.t 10), none, []⟩])
 (.ret))
 (.skip)))
 (.seq (.dreg [0, 1, 2, 3, 4, 5, 6, 7, 8, 9, 10, 11, 12, 13] [
  ⟨some 11, .fa 0 (.t 2), none, []⟩,
  ⟨some 12, .ld (.t 11), none, [(.t 11)]⟩,
  ⟨some 13, .len (.t 12), none, []⟩,
  ⟨some 14, .mv (.t 1), none, []⟩,
  ⟨some 15, .fa 0 (.t 2), none, []⟩,
  ⟨some 16, .ld (.t 15), none, [(.t 15)]⟩,
  ⟨some 17, .len (.t 16), none, []⟩,
  ⟨some 18, .bin .sub (.t 14) (.t 17), none, []⟩,
  ⟨some 19, .fa 1 (.t 2), none, []⟩,
  ⟨some 20, .ld (.t 19), none, [(.t 19)]⟩,
  ⟨some 21, .len (.t 20), none, []⟩,
  ⟨some 22, .bin .rem (.t 18) (.t 21), none, []⟩,
  ⟨some 23, .bin .add (.t 13) (.t 22), none, []⟩,
  ⟨some 4, .mv (.t 23), none, []⟩])
 (.ret)))⟩
def m134 : MFun := ⟨73, [.t 2],
 .seq (.reg [
  ⟨some 2, .mv (.c (.bool false)), none, []⟩])
 (.seq (.dreg [0, 1, 2, 3, 4, 5, 6, 7, 8, 9, 10, 11, 12, 13, 14, 15, 16, 17, 18, 19, 20] [
  ⟨some 4, .mv (.t 0), none, []⟩,
  ⟨some 5, .chk (.t 4), none, []⟩,
  ⟨some 6, .fa 11 (.t 5), none, []⟩,
  ⟨some 7, .ld (.t 6), none, [(.t 6)]⟩,
  ⟨some 8, .mv (.t 0), none, []⟩,
  ⟨some 9, .chk (.t 8), none, []⟩,
  ⟨some 10, .fa 10 (.t 9), none, []⟩,
  ⟨some 11, .ld (.t 10), none, [(.t 10)]⟩,
  ⟨some 12, .sl 1 (.t 7) none (some (.t 11)) none, none, [(.t 7)]⟩,
  ⟨some 13, .mv (.t 0), none, []⟩,
  ⟨some 14, .chk (.t 13), none, []⟩,
  ⟨some 15, .fa 11 (.t 14), none, []⟩,
  ⟨some 16, .ld (.t 15), none, [(.t 15)]⟩,
  ⟨some 17, .mv (.t 0), none, []⟩,
  ⟨some 18, .chk (.t 17), none, []⟩,
  ⟨some 19, .fa 10 (.t 18), none, []⟩,
  ⟨some 20, .ld (.t 19), none, [(.t 19)]⟩,
  ⟨some 21, .sl 1 (.t 16) (some (.t 20)) none none, none, [(.t 16)]⟩,
  ⟨some 22, .build [(.slice none 0 0), (.slice none 0 0)] [(0, 1, (.t 12)), (1, 1, (.t 21))], none, []⟩,
  ⟨some 3, .new [(.slice none 0 0), (.slice none 0 0)] 52, none, []⟩,
  ⟨none, .st 2 (.t 3) (.t 22), none, []⟩])
 (.seq (.dreg [0, 1, 2, 3, 4, 5, 6, 7, 8, 9, 10, 11, 12, 13, 14, 15, 16, 17, 18, 19, 20, 21, 22, 23, 24, 25, 26, 27, 28, 29, 30, 31, 32, 33, 34, 35, 36, 37, 38, 39, 40, 41, 42, 43, 44, 45, 46, 47, 48, 49, 50] [
  ⟨some 23, .mv (.t 0), none, []⟩,
  ⟨some 24, .chk (.t 23), none, []⟩,
  ⟨some 25, .fa 0 (.t 24), none, []⟩,
  ⟨some 26, .lds 8 (.t 25), none, [(.t 25)]⟩,
  ⟨some 27, .mv (.t 0), none, []⟩,
  ⟨some 28, .chk (.t 27), none, []⟩,
  ⟨some 29, .fa 11 (.t 28), none, []⟩,
  ⟨some 30, .ld (.t 29), none, [(.t 29)]⟩,
  ⟨some 31, .mv (.t 0), none, []⟩,
  ⟨some 32, .chk (.t 31), none, []⟩,
  ⟨some 33, .fa 9 (.t 32), none, []⟩,
  ⟨some 34, .ld (.t 33), none, [(.t 33)]⟩,
  ⟨some 35, .bin .sub (.t 34) (.c (.int .i64 1)), none, []⟩,
  ⟨some 36, .ia 1 (.t 30) (.t 35), none, []⟩,
  ⟨some 37, .ld (.t 36), none, [(.t 36)]⟩,
  ⟨some 38, .mv (.t 0), none, []⟩,
  ⟨some 39, .chk (.t 38), none, []⟩,
  ⟨some 40, .fa 11 (.t 39), none, []⟩,
  ⟨some 41, .ld (.t 40), none, [(.t 40)]⟩,
  ⟨some 42, .mv (.t 0), none, []⟩,
  ⟨some 43, .chk (.t 42), none, []⟩,
  ⟨some 44, .fa 10 (.t 43), none, []⟩,
  ⟨some 45, .ld (.t 44), none, [(.t 44)]⟩,
  ⟨some 46, .ia 1 (.t 41) (.t 45), none, []⟩,
  ⟨some 47, .ld (.t 46), none, [(.t 46)]⟩,
  ⟨some 48, .call (.f 92) [(.t 26), (.t 37), (.t 47)], none, []⟩,
  ⟨some 49, .mv (.t 48), none, []⟩,
  ⟨some 50, .mv (.t 0), (some (49, true)), []⟩,
  ⟨some 51, .chk (.t 50), (some (49, true)), []⟩,
  ⟨some 52, .fa 0 (.t 51), (some (49, true)), []⟩,
  ⟨some 53, .lds 8 (.t 52), (some (49, true)), [(.t 52)]⟩,
  ⟨some 54, .lds 2 (.t 3), (some (49, true)), [(.t 3)]⟩,
  ⟨some 55, .call (.f 118) [(.t 53), (.t 54)], (some (49, true)), []⟩,
  ⟨some 56, .pick (.t 49) (.t 55) (.c (.bool false)), none, []⟩,
  ⟨some 57, .mv (.t 56), none, []⟩,
  ⟨some 58, .mv (.t 0), (some (57, true)), []⟩,
  ⟨some 59, .chk (.t 58), (some (57, true)), []⟩,
  ⟨some 60, .fa 8 (.t 59), (some (57, true)), []⟩,
  ⟨some 61, .ld (.t 60), (some (57, true)), [(.t 60)]⟩,
  ⟨some 62, .mv (.t 0), (some (57, true)), []⟩,
  ⟨some 63, .chk (.t 62), (some (57, true)), []⟩,
  ⟨some 64, .fa 0 (.t 63), (some (57, true)), []⟩,
  ⟨some 65, .lds 8 (.t 64), (some (57, true)), [(.t 64)]⟩,
  ⟨some 66, .lds 2 (.t 3), (some (57, true)), [(.t 3)]⟩,
  ⟨some 67, .call (.f 117) [(.t 65), (.t 66)], (some (57, true)), [(.t 60)]⟩,
  ⟨some 68, .call (.f 72) [(.t 61), (.t 67)], (some (57, true)), []⟩,
  ⟨some 69, .ia 1 (.t 68) (.c (.int .i64 0)), (some (57, true)), []⟩,
  ⟨some 70, .ld (.t 69), (some (57, true)), [(.t 69)]⟩,
  ⟨some 71, .not (.t 70), (some (57, true)), []⟩,
  ⟨some 72, .pick (.t 57) (.t 71) (.c (.bool false)), none, []⟩,
  ⟨some 2, .mv (.t 72), none, []⟩])
 (.ret)))⟩
def m135 : MFun := ⟨25, [.t 4],
 .seq (.reg [
  ⟨some 3, .box 52 (.t 1), none, []⟩,
  ⟨some 4, .mv (.c (.bool false)), none, []⟩])
 (.seq (.dreg [0, 1, 2, 3, 4, 5, 6, 7, 8, 9, 10, 11, 12, 13, 14, 15, 16, 17, 18, 19, 20] [
  ⟨some 5, .mv (.t 0), none, []⟩,
  ⟨some 6, .chk (.t 5), none, []⟩,
  ⟨some 7, .fa 0 (.t 6), none, []⟩,
  ⟨some 8, .lds 8 (.t 7), none, [(.t 7)]⟩,
  ⟨some 9, .lds 2 (.t 3), none, [(.t 3)]⟩,
  ⟨some 10, .call (.f 59) [(.t 8), (.t 9)], none, []⟩,
  ⟨some 11, .mv (.t 10), none, []⟩,
  ⟨some 12, .mv (.t 0), (some (11, true)), []⟩,
  ⟨some 13, .chk (.t 12), (some (11, true)), []⟩,
  ⟨some 14, .fa 8 (.t 13), (some (11, true)), []⟩,
  ⟨some 15, .ld (.t 14), (some (11, true)), [(.t 14)]⟩,
  ⟨some 16, .mv (.t 0), (some (11, true)), []⟩,
  ⟨some 17, .chk (.t 16), (some (11, true)), []⟩,
  ⟨some 18, .fa 0 (.t 17), (some (11, true)), []⟩,
  ⟨some 19, .lds 8 (.t 18), (some (11, true)), [(.t 18)]⟩,
  ⟨some 20, .lds 2 (.t 3), (some (11, true)), [(.t 3)]⟩,
  ⟨some 21, .call (.f 58) [(.t 19), (.t 20)], (some (11, true)), [(.t 14)]⟩,
  ⟨some 22, .call (.f 166) [(.t 15), (.t 21)], (some (11, true)), []⟩,
  ⟨some 23, .not (.t 22), (some (11, true)), []⟩,
  ⟨some 24, .pick (.t 11) (.t 23) (.c (.bool false)), none, []⟩,
  ⟨some 4, .mv (.t 24), none, []⟩])
 (.ret))⟩
def m136 : MFun := ⟨26, [.t 4],
 .seq (.reg [
  ⟨some 4, .mv (.c (.bool false)), none, []⟩])
 (.seq (.seq (.reg [
  ⟨some 6, .mv (.t 0), none, []⟩,
  ⟨some 7, .len (.t 6), none, []⟩,
  ⟨some 8, .mv (.t 1), none, []⟩,
  ⟨some 9, .len (.t 8), none, []⟩,
  ⟨some 10, .bin .neq (.t 7) (.t 9), none, []⟩])
 (.ite (.t 10) (.seq (.reg [
  ⟨some 4, .mv (.c (.bool false)), none, []⟩])
 (.ret))
 (.skip)))
 (.seq (.seq (.reg [
  ⟨some 11, .mv (.t 0), none, []⟩,
  ⟨some 12, .len (.t 11), none, []⟩,
  ⟨some 13, .mv (.c (.int .i64 0)), none, []⟩])
 (.blk 0 (.loop (.seq (.reg [
  ⟨some 14, .bin .lss (.t 13) (.t 12), none, []⟩])
 (.seq (.ite (.t 14) (.skip)
 (.exit 0))
 (.seq (.blk 1 (.seq (.reg [
  ⟨some 15, .mv (.t 13), none, []⟩,
  ⟨some 5, .mv (.t 15), none, []⟩])
 (.seq (.dreg [0, 1, 2, 3, 4, 5, 6, 7, 8] [
  ⟨some 16, .mv (.t 0), none, []⟩,
  ⟨some 17, .mv (.t 5), none, []⟩,
  ⟨some 18, .ia 1 (.t 16) (.t 17), none, []⟩,
  ⟨some 19, .ld (.t 18), none, [(.t 18)]⟩,
  ⟨some 20, .mv (.t 1), none, []⟩,
  ⟨some 21, .mv (.t 5), none, []⟩,
  ⟨some 22, .ia 1 (.t 20) (.t 21), none, []⟩,
  ⟨some 23, .ld (.t 22), none, [(.t 22)]⟩,
  ⟨some 24, .bin .neq (.t 19) (.t 23), none, []⟩])
 (.ite (.t 24) (.seq (.reg [
  ⟨some 4, .mv (.c (.bool false)), none, []⟩])
 (.ret))
 (.skip)))))
 (.reg [
  ⟨some 25, .bin .add (.t 13) (.c (.int .i64 1)), none, []⟩,
  ⟨some 13, .mv (.t 25), none, []⟩])))))))
 (.seq (.reg [
  ⟨some 4, .mv (.c (.bool true)), none, []⟩])
 (.ret))))⟩
def m137 : MFun := ⟨27, [.t 4],
 .seq (.reg [
  ⟨some 4, .mv (.c (.slice none 0 0)), none, []⟩])
 (.seq (.seq (.reg [
  ⟨some 5, .mv (.t 1), none, []⟩,
  ⟨some 6, .bin .lss (.t 5) (.c (.int .i64 0)), none, []⟩])
 (.ite (.t 6) (.reg [
  ⟨some 7, .iface 9 (.c (.string ⟨#[99, 97, 110, 110, 111, 116, 32, 98, 101, 32, 110, 101, 103, 97, 116, 105, 118, 101]⟩)), none, []⟩,
  ⟨none, .bad, none, []⟩])
 (.skip)))
 (.seq (.seq (.reg [
  ⟨some 8, .mv (.t 1), none, []⟩,
  ⟨some 9, .mv (.t 0), none, []⟩,
  ⟨some 10, .cap (.t 9), none, []⟩,
  ⟨some 11, .mv (.t 0), none, []⟩,
  ⟨some 12, .len (.t 11), none, []⟩,
  ⟨some 13, .bin .sub (.t 10) (.t 12), none, []⟩,
  ⟨some 14, .bin .sub (.t 8) (.t 13), none, []⟩,
  ⟨some 1, .mv (.t 14), none, []⟩])
 (.seq (.reg [
  ⟨some 15, .mv (.t 1), none, []⟩,
  ⟨some 16, .bin .gtr (.t 15) (.c (.int .i64 0)), none, []⟩])
 (.ite (.t 16) (.reg [
  ⟨some 17, .mv (.t 0), none, []⟩,
  ⟨some 18, .mv (.t 0), none, []⟩,
  ⟨some 19, .cap (.t 18), none, []⟩,
  ⟨some 20, .sl 1 (.t 17) none (some (.t 19)) none, none, []⟩,
  ⟨some 21, .mv (.t 1), none, []⟩,
  ⟨some 22, .appz 3 1 8 [(.int .i64 0)] (.t 20) (.t 21), none, []⟩,
  ⟨some 23, .mv (.t 0), none, []⟩,
  ⟨some 24, .len (.t 23), none, []⟩,
  ⟨some 25, .sl 1 (.t 22) none (some (.t 24)) none, none, []⟩,
  ⟨some 0, .mv (.t 25), none, []⟩])
 (.skip))))
 (.seq (.reg [
  ⟨some 26, .mv (.t 0), none, []⟩,
  ⟨some 4, .mv (.t 26), none, []⟩])
 (.ret))))⟩
def m138 : MFun := ⟨22, [.t 4],
 .seq (.reg [
  ⟨some 2, .box 129 (.t 0), none, []⟩,
  ⟨some 3, .box 129 (.t 1), none, []⟩,
  ⟨some 4, .mv (.c (.int .i64 0)), none, []⟩])
 (.seq (.dreg [0, 1, 2, 3, 5, 6, 7, 8, 10, 11, 12, 13, 4, 9, 14, 15, 16, 17] [
  ⟨some 5, .fa 0 (.t 2), none, []⟩,
  ⟨some 6, .ld (.t 5), none, [(.t 5)]⟩,
  ⟨some 7, .fa 0 (.t 3), none, []⟩,
  ⟨some 8, .ld (.t 7), none, [(.t 7)]⟩,
  ⟨some 10, .fa 1 (.t 2), none, []⟩,
  ⟨some 11, .ld (.t 10), none, [(.t 10)]⟩,
  ⟨some 12, .fa 1 (.t 3), none, []⟩,
  ⟨some 13, .ld (.t 12), none, [(.t 12)]⟩,
  ⟨some 15, .fa 2 (.t 2), none, []⟩,
  ⟨some 16, .ld (.t 15), none, [(.t 15)]⟩,
  ⟨some 17, .fa 2 (.t 3), none, []⟩,
  ⟨some 18, .ld (.t 17), none, [(.t 17)]⟩,
  ⟨some 9, .call (.f 168) [(.t 6), (.t 8)], none, [(.t 10), (.t 12), (.t 15), (.t 17)]⟩,
  ⟨some 14, .call (.f 168) [(.t 11), (.t 13)], none, [(.t 15), (.t 17)]⟩,
  ⟨some 19, .call (.f 168) [(.t 16), (.t 18)], none, []⟩,
  ⟨some 20, .lit 3 [(.int .i64 0)] [(0, 1, (.t 9)), (1, 1, (.t 14)), (2, 1, (.t 19))] 3, none, []⟩,
  ⟨some 21, .call (.f 167) [(.t 20)], none, []⟩,
  ⟨some 4, .mv (.t 21), none, []⟩])
 (.ret))⟩
def m139 : MFun := ⟨52, [.t 4],
 .seq (.reg [
  ⟨some 4, .mv (.c (.int .i64 0)), none, []⟩])
 (.seq (.seq (.reg [
  ⟨some 5, .mv (.c (.int .i64 0)), none, []⟩])
 (.blk 0 (.loop (.seq (.seq (.reg [
  ⟨some 6, .mv (.t 5), none, []⟩,
  ⟨some 7, .mv (.t 0), none, []⟩,
  ⟨some 8, .len (.t 7), none, []⟩,
  ⟨some 9, .bin .lss (.t 6) (.t 8), none, []⟩,
  ⟨some 10, .mv (.t 9), none, []⟩,
  ⟨some 11, .mv (.t 5), (some (10, true)), []⟩,
  ⟨some 12, .mv (.t 1), (some (10, true)), []⟩,
  ⟨some 13, .len (.t 12), (some (10, true)), []⟩,
  ⟨some 14, .bin .lss (.t 11) (.t 13), (some (10, true)), []⟩,
  ⟨some 15, .pick (.t 10) (.t 14) (.c (.bool false)), none, []⟩])
 (.ite (.t 15) (.skip)
 (.exit 0)))
 (.seq (.blk 1 (.seq (.dreg [0, 1, 2, 3, 4, 5, 6, 7, 8] [
  ⟨some 18, .mv (.t 0), none, []⟩,
  ⟨some 19, .mv (.t 5), none, []⟩,
  ⟨some 20, .ia 1 (.t 18) (.t 19), none, []⟩,
  ⟨some 21, .ld (.t 20), none, [(.t 20)]⟩,
  ⟨some 22, .mv (.t 1), none, []⟩,
  ⟨some 23, .mv (.t 5), none, []⟩,
  ⟨some 24, .ia 1 (.t 22) (.t 23), none, []⟩,
  ⟨some 25, .ld (.t 24), none, [(.t 24)]⟩,
  ⟨some 26, .bin .neq (.t 21) (.t 25), none, []⟩])
 (.ite (.t 26) (.seq (.dreg [0, 1, 2, 3, 4, 5, 6, 7, 8, 9, 10, 11, 12] [
  ⟨some 27, .mv (.t 0), none, []⟩,
  ⟨some 28, .mv (.t 5), none, []⟩,
  ⟨some 29, .ia 1 (.t 27) (.t 28), none, []⟩,
  ⟨some 30, .ld (.t 29), none, [(.t 29)]⟩,
  ⟨some 31, .mv (.t 1), none, []⟩,
  ⟨some 32, .mv (.t 5), none, []⟩,
  ⟨some 33, .ia 1 (.t 31) (.t 32), none, []⟩,
  ⟨some 34, .ld (.t 33), none, [(.t 33)]⟩,
  ⟨some 35, .bin .lss (.t 30) (.t 34), none, []⟩,
  ⟨some 36, .call (.f 165) [(.t 35)], none, []⟩,
  ⟨some 37, .bin .mul (.c (.int .i64 2)) (.t 36), none, []⟩,
  ⟨some 38, .bin .sub (.c (.int .i64 1)) (.t 37), none, []⟩,
  ⟨some 4, .mv (.t 38), none, []⟩])
 (.ret))
 (.skip))))
 (.reg [
  ⟨some 16, .mv (.t 5), none, []⟩,
  ⟨some 17, .bin .add (.t 16) (.c (.int .i64 1)), none, []⟩,
  ⟨some 5, .mv (.t 17), none, []⟩]))))))
 (.seq (.reg [
  ⟨some 39, .mv (.t 0), none, []⟩,
  ⟨some 40, .len (.t 39), none, []⟩,
  ⟨some 41, .mv (.t 1), none, []⟩,
  ⟨some 42, .len (.t 41), none, []⟩,
  ⟨some 43, .bin .gtr (.t 40) (.t 42), none, []⟩,
  ⟨some 44, .call (.f 165) [(.t 43)], none, []⟩,
  ⟨some 45, .mv (.t 0), none, []⟩,
  ⟨some 46, .len (.t 45), none, []⟩,
  ⟨some 47, .mv (.t 1), none, []⟩,
  ⟨some 48, .len (.t 47), none, []⟩,
  ⟨some 49, .bin .lss (.t 46) (.t 48), none, []⟩,
  ⟨some 50, .call (.f 165) [(.t 49)], none, []⟩,
  ⟨some 51, .bin .sub (.t 44) (.t 50), none, []⟩,
  ⟨some 4, .mv (.t 51), none, []⟩])
 (.ret)))⟩
def m140 : MFun := ⟨10, [.t 2],
 .seq (.reg [
  ⟨some 1, .box 129 (.t 0), none, []⟩,
  ⟨some 2, .mv (.c (.slice none 0 0)), none, []⟩])
 (.seq (.reg [
  ⟨some 3, .fa 0 (.t 1), none, []⟩,
  ⟨some 4, .ld (.t 3), none, []⟩,
  ⟨some 5, .fa 1 (.t 1), none, []⟩,
  ⟨some 6, .ld (.t 5), none, []⟩,
  ⟨some 7, .fa 2 (.t 1), none, []⟩,
  ⟨some 8, .ld (.t 7), none, []⟩,
  ⟨some 9, .lit 3 [(.int .i64 0)] [(0, 1, (.t 4)), (1, 1, (.t 6)), (2, 1, (.t 8))] 3, none, []⟩,
  ⟨some 2, .mv (.t 9), none, []⟩])
 (.ret))⟩
def m141 : MFun := ⟨19, [.t 4],
 .seq (.reg [
  ⟨some 4, .mv (.c (.int .i64 0)), none, []⟩])
 (.seq (.seq (.reg [
  ⟨some 6, .mv (.t 0), none, []⟩,
  ⟨some 7, .len (.t 6), none, []⟩,
  ⟨some 8, .mv (.c (.int .i64 0)), none, []⟩])
 (.blk 0 (.loop (.seq (.reg [
  ⟨some 9, .bin .lss (.t 8) (.t 7), none, []⟩])
 (.seq (.ite (.t 9) (.skip)
 (.exit 0))
 (.seq (.blk 1 (.seq (.reg [
  ⟨some 10, .mv (.t 8), none, []⟩,
  ⟨some 5, .mv (.t 10), none, []⟩])
 (.seq (.reg [
  ⟨some 11, .mv (.t 1), none, []⟩,
  ⟨some 12, .mv (.t 0), none, []⟩,
  ⟨some 13, .mv (.t 5), none, []⟩,
  ⟨some 14, .ia 1 (.t 12) (.t 13), none, []⟩,
  ⟨some 15, .ld (.t 14), none, []⟩,
  ⟨some 16, .bin .eql (.t 11) (.t 15), none, []⟩])
 (.ite (.t 16) (.seq (.reg [
  ⟨some 17, .mv (.t 5), none, []⟩,
  ⟨some 4, .mv (.t 17), none, []⟩])
 (.ret))
 (.skip)))))
 (.reg [
  ⟨some 18, .bin .add (.t 8) (.c (.int .i64 1)), none, []⟩,
  ⟨some 8, .mv (.t 18), none, []⟩])))))))
 (.seq (.reg [
  ⟨some 4, .mv (.c (.int .i64 (-1))), none, []⟩])
 (.ret)))⟩
def m142 : MFun := ⟨40, [.t 6],
 .seq (.reg [
  ⟨some 3, .box 47 (.t 0), none, []⟩,
  ⟨some 6, .mv (.c (.slice none 0 0)), none, []⟩])
 (.seq (.reg [
  ⟨some 7, .mv (.c (.slice none 0 0)), none, []⟩])
 (.seq (.seq (.reg [
  ⟨some 10, .fa 0 (.t 3), none, []⟩,
  ⟨some 11, .fa 2 (.t 10), none, []⟩,
  ⟨some 12, .ld (.t 11), none, []⟩,
  ⟨some 13, .len (.t 12), none, []⟩,
  ⟨some 14, .mv (.c (.int .i64 0)), none, []⟩])
 (.blk 0 (.loop (.seq (.reg [
  ⟨some 15, .bin .lss (.t 14) (.t 13), none, []⟩])
 (.seq (.ite (.t 15) (.skip)
 (.exit 0))
 (.seq (.blk 1 (.seq (.reg [
  ⟨some 16, .ia 3 (.t 12) (.t 14), none, []⟩,
  ⟨some 17, .lds 3 (.t 16), none, []⟩,
  ⟨some 9, .new [(.int .i64 0), (.int .i64 0), (.int .i64 0)] 129, none, []⟩,
  ⟨none, .st 3 (.t 9) (.t 17), none, []⟩])
 (.seq (.reg [
  ⟨some 18, .fa 0 (.t 9), none, []⟩,
  ⟨some 19, .ld (.t 18), none, []⟩,
  ⟨some 20, .mv (.t 1), none, []⟩,
  ⟨some 21, .bin .eql (.t 19) (.t 20), none, []⟩,
  ⟨some 22, .mv (.t 21), none, []⟩,
  ⟨some 23, .fa 1 (.t 9), (some (22, true)), []⟩,
  ⟨some 24, .ld (.t 23), (some (22, true)), []⟩,
  ⟨some 25, .mv (.t 2), (some (22, true)), []⟩,
  ⟨some 26, .bin .eql (.t 24) (.t 25), (some (22, true)), []⟩,
  ⟨some 27, .pick (.t 22) (.t 26) (.c (.bool false)), none, []⟩,
  ⟨some 28, .mv (.t 27), none, []⟩,
  ⟨some 29, .mv (.t 1), (some (28, true)), []⟩,
  ⟨some 30, .mv (.t 2), (some (28, true)), []⟩,
  ⟨some 31, .bin .neq (.t 29) (.t 30), (some (28, true)), []⟩,
  ⟨some 32, .pick (.t 28) (.t 31) (.c (.bool false)), none, []⟩])
 (.ite (.t 32) (.reg [
  ⟨some 33, .mv (.t 7), none, []⟩,
  ⟨some 34, .fa 2 (.t 9), none, []⟩,
  ⟨some 35, .ld (.t 34), none, []⟩,
  ⟨some 36, .lit 3 [(.int .i64 0)] [(0, 1, (.t 35))] 1, none, []⟩,
  ⟨some 37, .app 3 1 8 [(.int .i64 0)] (.t 33) (.t 36), none, []⟩,
  ⟨some 7, .mv (.t 37), none, []⟩])
 (.skip)))))
 (.reg [
  ⟨some 38, .bin .add (.t 14) (.c (.int .i64 1)), none, []⟩,
  ⟨some 14, .mv (.t 38), none, []⟩])))))))
 (.seq (.reg [
  ⟨some 39, .mv (.t 7), none, []⟩,
  ⟨some 6, .mv (.t 39), none, []⟩])
 (.ret))))⟩
def m143 : MFun := ⟨19, [],
 .seq (.reg [
  ⟨some 4, .ld (.t 1), none, []⟩,
  ⟨some 5, .len (.t 4), none, []⟩,
  ⟨some 6, .bin .sub (.t 5) (.c (.int .i64 1)), none, []⟩,
  ⟨some 3, .mv (.t 6), none, []⟩])
 (.blk 0 (.loop (.seq (.seq (.reg [
  ⟨some 7, .mv (.t 3), none, []⟩,
  ⟨some 8, .bin .geq (.t 7) (.c (.int .i64 0)), none, []⟩])
 (.ite (.t 8) (.skip)
 (.exit 0)))
 (.seq (.blk 1 (.seq (.reg [
  ⟨some 11, .mv (.t 0), none, []⟩,
  ⟨some 12, .mv (.t 3), none, []⟩,
  ⟨some 13, .ld (.t 1), none, []⟩,
  ⟨some 14, .mv (.t 3), none, []⟩,
  ⟨some 15, .ia 1 (.t 13) (.t 14), none, []⟩,
  ⟨some 16, .ld (.t 15), none, []⟩,
  ⟨some 17, .call (.t 11) [(.t 12), (.t 16)], none, []⟩,
  ⟨some 18, .not (.t 17), none, []⟩])
 (.ite (.t 18) (.ret)
 (.skip))))
 (.reg [
  ⟨some 9, .mv (.t 3), none, []⟩,
  ⟨some 10, .bin .sub (.t 9) (.c (.int .i64 1)), none, []⟩,
  ⟨some 3, .mv (.t 10), none, []⟩])))))⟩
def m144 : MFun := ⟨5, [.t 2],
 .seq (.reg [
  ⟨some 2, .mv (.c (.string ⟨#[]⟩)), none, []⟩])
 (.seq (.reg [
  ⟨some 3, .mv (.t 0), none, []⟩,
  ⟨some 4, .call (.f 169) [(.t 3), (.c (.int .i64 10))], none, []⟩,
  ⟨some 2, .mv (.t 4), none, []⟩])
 (.ret))⟩
def m145 : MFun := ⟨8, [.t 2],
 .seq (.reg [
  ⟨some 2, .mv (.c (.int .i64 0)), none, []⟩])
 (.seq (.seq (.reg [
  ⟨some 3, .mv (.t 0), none, []⟩,
  ⟨some 4, .bin .lss (.t 3) (.c (.int .i64 0)), none, []⟩])
 (.ite (.t 4) (.seq (.reg [
  ⟨some 5, .mv (.t 0), none, []⟩,
  ⟨some 6, .neg (.t 5), none, []⟩,
  ⟨some 2, .mv (.t 6), none, []⟩])
 (.ret))
 (.skip)))
 (.seq (.reg [
  ⟨some 7, .mv (.t 0), none, []⟩,
  ⟨some 2, .mv (.t 7), none, []⟩])
 (.ret)))⟩
def m146 : MFun := ⟨35, [.t 4],
 .seq (.reg [
  ⟨some 4, .mv (.c (.bool false)), none, []⟩])
 (.seq (.dreg [0, 1, 2, 3, 4, 5, 6, 7, 8, 9, 10, 11, 12, 13, 14, 15, 16, 17, 18, 19, 20, 21, 22, 23, 24, 25, 26, 27, 28, 29, 30] [
  ⟨some 5, .mv (.t 0), none, []⟩,
  ⟨some 6, .chk (.t 5), none, []⟩,
  ⟨some 7, .fa 2 (.t 6), none, []⟩,
  ⟨some 8, .ld (.t 7), none, [(.t 7)]⟩,
  ⟨some 9, .bin .eql (.t 8) (.c (.int .i64 (-1))), none, []⟩,
  ⟨some 10, .mv (.t 9), none, []⟩,
  ⟨some 11, .mv (.t 0), (some (10, true)), []⟩,
  ⟨some 12, .chk (.t 11), (some (10, true)), []⟩,
  ⟨some 13, .fa 1 (.t 12), (some (10, true)), []⟩,
  ⟨some 14, .ld (.t 13), (some (10, true)), [(.t 13)]⟩,
  ⟨some 15, .mv (.t 0), (some (10, true)), []⟩,
  ⟨some 16, .chk (.t 15), (some (10, true)), []⟩,
  ⟨some 17, .fa 0 (.t 16), (some (10, true)), []⟩,
  ⟨some 18, .ld (.t 17), (some (10, true)), [(.t 17)]⟩,
  ⟨some 19, .slen (.t 18), (some (10, true)), []⟩,
  ⟨some 20, .bin .lss (.t 14) (.t 19), (some (10, true)), []⟩,
  ⟨some 21, .pick (.t 10) (.t 20) (.c (.bool false)), none, []⟩,
  ⟨some 22, .mv (.t 21), none, []⟩,
  ⟨some 23, .mv (.t 0), (some (22, true)), []⟩,
  ⟨some 24, .chk (.t 23), (some (22, true)), []⟩,
  ⟨some 25, .fa 0 (.t 24), (some (22, true)), []⟩,
  ⟨some 26, .ld (.t 25), (some (22, true)), [(.t 25)]⟩,
  ⟨some 27, .mv (.t 0), (some (22, true)), []⟩,
  ⟨some 28, .chk (.t 27), (some (22, true)), []⟩,
  ⟨some 29, .fa 1 (.t 28), (some (22, true)), []⟩,
  ⟨some 30, .ld (.t 29), (some (22, true)), [(.t 29)]⟩,
  ⟨some 31, .ix (.t 26) (.t 30), (some (22, true)), []⟩,
  ⟨some 32, .mv (.t 1), (some (22, true)), []⟩,
  ⟨some 33, .bin .eql (.t 31) (.t 32), (some (22, true)), []⟩,
  ⟨some 34, .pick (.t 22) (.t 33) (.c (.bool false)), none, []⟩,
  ⟨some 4, .mv (.t 34), none, []⟩])
 (.ret))⟩
def m147 : MFun := ⟨27, [],
 .seq (.reg [
  ⟨some 6, .mv (.t 1), none, []⟩,
  ⟨some 7, .bytes 5 (.t 6), none, []⟩,
  ⟨some 8, .len (.t 7), none, []⟩,
  ⟨some 9, .mv (.c (.int .i64 0)), none, []⟩])
 (.blk 0 (.loop (.seq (.reg [
  ⟨some 10, .bin .lss (.t 9) (.t 8), none, []⟩])
 (.seq (.ite (.t 10) (.skip)
 (.exit 0))
 (.seq (.blk 1 (.seq (.reg [
  ⟨some 11, .ia 1 (.t 7) (.t 9), none, []⟩,
  ⟨some 12, .ld (.t 11), none, []⟩,
  ⟨some 5, .mv (.t 12), none, []⟩])
 (.seq (.seq (.reg [
  ⟨some 13, .mv (.t 0), none, []⟩,
  ⟨some 14, .mv (.t 5), none, []⟩,
  ⟨some 15, .call (.f 146) [(.t 13), (.t 14)], none, []⟩,
  ⟨some 16, .not (.t 15), none, []⟩])
 (.ite (.t 16) (.seq (.reg [
  ⟨some 17, .mv (.t 0), none, []⟩,
  ⟨some 18, .call (.f 109) [(.t 17)], none, []⟩])
 (.ret))
 (.skip)))
 (.reg [
  ⟨some 19, .mv (.t 0), none, []⟩,
  ⟨some 20, .chk (.t 19), none, []⟩,
  ⟨some 21, .fa 1 (.t 20), none, []⟩,
  ⟨some 22, .ld (.t 21), none, []⟩,
  ⟨some 23, .bin .add (.t 22) (.c (.int .i64 1)), none, []⟩,
  ⟨some 24, .chk (.t 19), none, []⟩,
  ⟨some 25, .fa 1 (.t 24), none, []⟩,
  ⟨none, .st 1 (.t 25) (.t 23), none, []⟩]))))
 (.reg [
  ⟨some 26, .bin .add (.t 9) (.c (.int .i64 1)), none, []⟩,
  ⟨some 9, .mv (.t 26), none, []⟩]))))))⟩
def m148 : MFun := ⟨21, [.t 4],
 .seq (.reg [
  ⟨some 3, .box 67 (.t 1), none, []⟩,
  ⟨some 4, .mv (.c (.int .i64 0)), none, []⟩])
 (.seq (.dreg [0, 1, 2, 3, 4, 5, 6, 7, 8, 9, 10] [
  ⟨some 5, .mv (.t 0), none, []⟩,
  ⟨some 6, .mv (.t 0), none, []⟩,
  ⟨some 7, .chk (.t 6), none, []⟩,
  ⟨some 8, .fa 3 (.t 7), none, []⟩,
  ⟨some 9, .ld (.t 8), none, [(.t 8)]⟩,
  ⟨some 10, .lds 3 (.t 3), none, [(.t 3)]⟩,
  ⟨some 11, .lit 67 [(.int .i64 0), (.int .i64 0), (.slice none 0 0)] [(0, 3, (.t 10))] 1, none, []⟩,
  ⟨some 12, .app 67 3 40 [(.int .i64 0), (.int .i64 0), (.slice none 0 0)] (.t 9) (.t 11), none, []⟩,
  ⟨some 13, .chk (.t 5), none, []⟩,
  ⟨some 14, .fa 3 (.t 13), none, []⟩,
  ⟨none, .st 1 (.t 14) (.t 12), none, []⟩])
 (.seq (.reg [
  ⟨some 15, .mv (.t 0), none, []⟩,
  ⟨some 16, .chk (.t 15), none, []⟩,
  ⟨some 17, .fa 3 (.t 16), none, []⟩,
  ⟨some 18, .ld (.t 17), none, []⟩,
  ⟨some 19, .len (.t 18), none, []⟩,
  ⟨some 20, .bin .sub (.t 19) (.c (.int .i64 1)), none, []⟩,
  ⟨some 4, .mv (.t 20), none, []⟩])
 (.ret)))⟩
def m149 : MFun := ⟨94, [.t 2],
 .seq (.reg [
  ⟨some 2, .mv (.c (.int .i64 0)), none, []⟩])
 (.seq (.reg [
  ⟨some 6, .mv (.t 0), none, []⟩,
  ⟨some 7, .call (.f 147) [(.t 6), (.c (.string ⟨#[112]⟩))], none, []⟩])
 (.seq (.reg [
  ⟨some 8, .mv (.t 0), none, []⟩,
  ⟨some 9, .chk (.t 8), none, []⟩,
  ⟨some 10, .fa 1 (.t 9), none, []⟩,
  ⟨some 11, .ld (.t 10), none, []⟩,
  ⟨some 3, .mv (.t 11), none, []⟩])
 (.seq (.blk 0 (.loop (.seq (.seq (.dreg [0, 1, 2, 3, 4, 5, 6, 7, 8, 9, 10, 11, 12, 13, 14, 15, 16, 17, 18, 19, 20, 21, 22, 23, 24, 25, 26, 27, 28, 29, 30, 31, 32, 33, 34, 35, 36, 37, 38, 39, 40, 41, 42, 43, 44, 45, 46, 47, 48] [
  ⟨some 12, .mv (.t 0), none, []⟩,
  ⟨some 13, .chk (.t 12), none, []⟩,
  ⟨some 14, .fa 1 (.t 13), none, []⟩,
  ⟨some 15, .ld (.t 14), none, [(.t 14)]⟩,
  ⟨some 16, .mv (.t 0), none, []⟩,
  ⟨some 17, .chk (.t 16), none, []⟩,
  ⟨some 18, .fa 0 (.t 17), none, []⟩,
  ⟨some 19, .ld (.t 18), none, [(.t 18)]⟩,
  ⟨some 20, .slen (.t 19), none, []⟩,
  ⟨some 21, .bin .lss (.t 15) (.t 20), none, []⟩,
  ⟨some 22, .mv (.t 21), none, []⟩,
  ⟨some 23, .mv (.t 0), (some (22, true)), []⟩,
  ⟨some 24, .chk (.t 23), (some (22, true)), []⟩,
  ⟨some 25, .fa 1 (.t 24), (some (22, true)), []⟩,
  ⟨some 26, .ld (.t 25), (some (22, true)), [(.t 25)]⟩,
  ⟨some 27, .mv (.t 3), (some (22, true)), []⟩,
  ⟨some 28, .bin .add (.t 27) (.c (.int .i64 2)), (some (22, true)), []⟩,
  ⟨some 29, .bin .lss (.t 26) (.t 28), (some (22, true)), []⟩,
  ⟨some 30, .pick (.t 22) (.t 29) (.c (.bool false)), none, []⟩,
  ⟨some 31, .mv (.t 30), none, []⟩,
  ⟨some 32, .mv (.t 0), (some (31, true)), []⟩,
  ⟨some 33, .chk (.t 32), (some (31, true)), []⟩,
  ⟨some 34, .fa 0 (.t 33), (some (31, true)), []⟩,
  ⟨some 35, .ld (.t 34), (some (31, true)), [(.t 34)]⟩,
  ⟨some 36, .mv (.t 0), (some (31, true)), []⟩,
  ⟨some 37, .chk (.t 36), (some (31, true)), []⟩,
  ⟨some 38, .fa 1 (.t 37), (some (31, true)), []⟩,
  ⟨some 39, .ld (.t 38), (some (31, true)), [(.t 38)]⟩,
  ⟨some 40, .ix (.t 35) (.t 39), (some (31, true)), []⟩,
  ⟨some 41, .cvt .i64 (.t 40), (some (31, true)), []⟩,
  ⟨some 42, .call (.f 65) [(.t 41), (.c (.int .i64 48)), (.c (.int .i64 57))], (some (31, true)), []⟩,
  ⟨some 43, .pick (.t 31) (.t 42) (.c (.bool false)), none, []⟩,
  ⟨some 44, .mv (.t 43), none, []⟩,
  ⟨some 45, .mv (.t 0), (some (44, true)), []⟩,
  ⟨some 46, .chk (.t 45), (some (44, true)), []⟩,
  ⟨some 47, .fa 1 (.t 46), (some (44, true)), []⟩,
  ⟨some 48, .ld (.t 47), (some (44, true)), [(.t 47)]⟩,
  ⟨some 49, .mv (.t 3), (some (44, true)), []⟩,
  ⟨some 50, .bin .eql (.t 48) (.t 49), (some (44, true)), []⟩,
  ⟨some 51, .mv (.t 50), (some (44, true)), []⟩,
  ⟨some 52, .mv (.t 0), (some (51, false)), []⟩,
  ⟨some 53, .chk (.t 52), (some (51, false)), []⟩,
  ⟨some 54, .fa 0 (.t 53), (some (51, false)), []⟩,
  ⟨some 55, .ld (.t 54), (some (51, false)), [(.t 54)]⟩,
  ⟨some 56, .mv (.t 3), (some (51, false)), []⟩,
  ⟨some 57, .ix (.t 55) (.t 56), (some (51, false)), []⟩,
  ⟨some 58, .bin .neq (.t 57) (.c (.int .u8 48)), (some (51, false)), []⟩,
  ⟨some 59, .pick (.t 51) (.c (.bool true)) (.t 58), (some (44, true)), []⟩,
  ⟨some 60, .pick (.t 44) (.t 59) (.c (.bool false)), none, []⟩])
 (.ite (.t 60) (.skip)
 (.exit 0)))
 (.blk 1 (.reg [
  ⟨some 61, .mv (.t 0), none, []⟩,
  ⟨some 62, .chk (.t 61), none, []⟩,
  ⟨some 63, .fa 1 (.t 62), none, []⟩,
  ⟨some 64, .ld (.t 63), none, []⟩,
  ⟨some 65, .bin .add (.t 64) (.c (.int .i64 1)), none, []⟩,
  ⟨some 66, .chk (.t 61), none, []⟩,
  ⟨some 67, .fa 1 (.t 66), none, []⟩,
  ⟨none, .st 1 (.t 67) (.t 65), none, []⟩])))))
 (.seq (.seq (.reg [
  ⟨some 68, .mv (.t 0), none, []⟩,
  ⟨some 69, .chk (.t 68), none, []⟩,
  ⟨some 70, .fa 1 (.t 69), none, []⟩,
  ⟨some 71, .ld (.t 70), none, []⟩,
  ⟨some 72, .mv (.t 3), none, []⟩,
  ⟨some 73, .bin .eql (.t 71) (.t 72), none, []⟩])
 (.ite (.t 73) (.seq (.reg [
  ⟨some 74, .mv (.t 0), none, []⟩,
  ⟨some 75, .call (.f 109) [(.t 74)], none, []⟩])
 (.seq (.reg [
  ⟨some 2, .mv (.c (.int .i64 0)), none, []⟩])
 (.ret)))
 (.skip)))
 (.seq (.dreg [0, 1, 2, 3, 4, 5, 6, 7, 8, 9, 10, 11, 12, 13, 14, 15] [
  ⟨some 77, .mv (.t 0), none, []⟩,
  ⟨some 78, .chk (.t 77), none, []⟩,
  ⟨some 79, .fa 0 (.t 78), none, []⟩,
  ⟨some 80, .ld (.t 79), none, [(.t 79)]⟩,
  ⟨some 81, .mv (.t 3), none, []⟩,
  ⟨some 82, .mv (.t 0), none, []⟩,
  ⟨some 83, .chk (.t 82), none, []⟩,
  ⟨some 84, .fa 1 (.t 83), none, []⟩,
  ⟨some 85, .ld (.t 84), none, [(.t 84)]⟩,
  ⟨some 86, .sls (.t 80) (some (.t 81)) (some (.t 85)), none, []⟩,
  ⟨some 87, .call (.f 170) [(.t 86)], none, []⟩,
  ⟨some 76, .mv (.t 87), none, []⟩,
  ⟨some 88, .ext (.t 76) 0, none, []⟩,
  ⟨some 89, .ext (.t 76) 1, none, []⟩,
  ⟨some 4, .mv (.t 88), none, []⟩,
  ⟨some 5, .mv (.t 89), none, []⟩])
 (.seq (.reg [
  ⟨some 90, .mv (.t 0), none, []⟩,
  ⟨some 91, .mv (.t 4), none, []⟩,
  ⟨some 92, .build [(.int .i64 0), (.int .i64 0), (.slice none 0 0)] [(0, 1, (.c (.int .i64 1))), (1, 1, (.t 91))], none, []⟩,
  ⟨some 93, .call (.f 148) [(.t 90), (.t 92)], none, []⟩,
  ⟨some 2, .mv (.t 93), none, []⟩])
 (.ret)))))))⟩
def m150 : MFun := ⟨43, [.t 2],
 .seq (.reg [
  ⟨some 2, .mv (.c (.int .i64 0)), none, []⟩])
 (.seq (.reg [
  ⟨some 8, .mv (.t 0), none, []⟩,
  ⟨some 9, .call (.f 147) [(.t 8), (.c (.string ⟨#[40]⟩))], none, []⟩])
 (.seq (.reg [
  ⟨some 10, .mv (.t 0), none, []⟩,
  ⟨some 11, .call (.f 108) [(.t 10)], none, []⟩,
  ⟨some 3, .mv (.t 11), none, []⟩])
 (.seq (.reg [
  ⟨some 12, .mv (.t 0), none, []⟩,
  ⟨some 13, .call (.f 147) [(.t 12), (.c (.string ⟨#[32]⟩))], none, []⟩])
 (.seq (.reg [
  ⟨some 4, .mv (.c (.int .i64 9)), none, []⟩])
 (.seq (.seq (.reg [
  ⟨some 14, .lit 3 [(.int .i64 0)] [(0, 1, (.c (.int .i64 3))), (1, 1, (.c (.int .i64 4))), (2, 1, (.c (.int .i64 5))), (3, 1, (.c (.int .i64 8)))] 4, none, []⟩,
  ⟨some 15, .len (.t 14), none, []⟩,
  ⟨some 16, .mv (.c (.int .i64 0)), none, []⟩])
 (.blk 0 (.loop (.seq (.reg [
  ⟨some 17, .bin .lss (.t 16) (.t 15), none, []⟩])
 (.seq (.ite (.t 17) (.skip)
 (.exit 0))
 (.seq (.blk 1 (.seq (.reg [
  ⟨some 18, .ia 1 (.t 14) (.t 16), none, []⟩,
  ⟨some 19, .ld (.t 18), none, []⟩,
  ⟨some 6, .mv (.t 19), none, []⟩])
 (.seq (.reg [
  ⟨some 20, .mv (.t 0), none, []⟩,
  ⟨some 21, .mv (.t 6), none, []⟩,
  ⟨some 22, .call (.f 102) [(.t 21)], none, []⟩,
  ⟨some 23, .ix (.t 22) (.c (.int .i64 0)), none, []⟩,
  ⟨some 24, .call (.f 146) [(.t 20), (.t 23)], none, []⟩])
 (.ite (.t 24) (.reg [
  ⟨some 25, .mv (.t 6), none, []⟩,
  ⟨some 4, .mv (.t 25), none, []⟩])
 (.skip)))))
 (.reg [
  ⟨some 26, .bin .add (.t 16) (.c (.int .i64 1)), none, []⟩,
  ⟨some 16, .mv (.t 26), none, []⟩])))))))
 (.seq (.reg [
  ⟨some 27, .mv (.t 0), none, []⟩,
  ⟨some 28, .mv (.t 4), none, []⟩,
  ⟨some 29, .call (.f 102) [(.t 28)], none, []⟩,
  ⟨some 30, .bin .add (.t 29) (.c (.string ⟨#[32]⟩)), none, []⟩,
  ⟨some 31, .call (.f 147) [(.t 27), (.t 30)], none, []⟩])
 (.seq (.reg [
  ⟨some 32, .mv (.t 0), none, []⟩,
  ⟨some 33, .call (.f 108) [(.t 32)], none, []⟩,
  ⟨some 7, .mv (.t 33), none, []⟩])
 (.seq (.reg [
  ⟨some 34, .mv (.t 0), none, []⟩,
  ⟨some 35, .call (.f 147) [(.t 34), (.c (.string ⟨#[41]⟩))], none, []⟩])
 (.seq (.reg [
  ⟨some 36, .mv (.t 0), none, []⟩,
  ⟨some 37, .mv (.t 4), none, []⟩,
  ⟨some 38, .mv (.t 3), none, []⟩,
  ⟨some 39, .mv (.t 7), none, []⟩,
  ⟨some 40, .lit 3 [(.int .i64 0)] [(0, 1, (.t 38)), (1, 1, (.t 39))] 2, none, []⟩,
  ⟨some 41, .build [(.int .i64 0), (.int .i64 0), (.slice none 0 0)] [(0, 1, (.t 37)), (2, 1, (.t 40))], none, []⟩,
  ⟨some 42, .call (.f 148) [(.t 36), (.t 41)], none, []⟩,
  ⟨some 2, .mv (.t 42), none, []⟩])
 (.ret))))))))))⟩
def m151 : MFun := ⟨53, [],
 .seq (.reg [
  ⟨some 4, .mv (.c (.int .i64 0)), none, []⟩])
 (.blk 0 (.loop (.seq (.seq (.reg [
  ⟨some 5, .mv (.t 4), none, []⟩,
  ⟨some 6, .mv (.t 1), none, []⟩,
  ⟨some 7, .slen (.t 6), none, []⟩,
  ⟨some 8, .bin .lss (.t 5) (.t 7), none, []⟩,
  ⟨some 9, .mv (.t 8), none, []⟩,
  ⟨some 10, .mv (.t 0), (some (9, true)), []⟩,
  ⟨some 11, .chk (.t 10), (some (9, true)), []⟩,
  ⟨some 12, .fa 2 (.t 11), (some (9, true)), []⟩,
  ⟨some 13, .ld (.t 12), (some (9, true)), []⟩,
  ⟨some 14, .bin .eql (.t 13) (.c (.int .i64 (-1))), (some (9, true)), []⟩,
  ⟨some 15, .pick (.t 9) (.t 14) (.c (.bool false)), none, []⟩])
 (.ite (.t 15) (.skip)
 (.exit 0)))
 (.seq (.blk 1 (.seq (.seq (.dreg [0, 1, 2, 3, 4, 5, 6, 7, 8, 9, 10, 11, 12, 13, 14, 15, 16, 17, 18, 19, 20, 21, 22, 23, 24] [
  ⟨some 18, .mv (.t 0), none, []⟩,
  ⟨some 19, .chk (.t 18), none, []⟩,
  ⟨some 20, .fa 1 (.t 19), none, []⟩,
  ⟨some 21, .ld (.t 20), none, [(.t 20)]⟩,
  ⟨some 22, .mv (.t 0), none, []⟩,
  ⟨some 23, .chk (.t 22), none, []⟩,
  ⟨some 24, .fa 0 (.t 23), none, []⟩,
  ⟨some 25, .ld (.t 24), none, [(.t 24)]⟩,
  ⟨some 26, .slen (.t 25), none, []⟩,
  ⟨some 27, .bin .eql (.t 21) (.t 26), none, []⟩,
  ⟨some 28, .mv (.t 27), none, []⟩,
  ⟨some 29, .mv (.t 0), (some (28, false)), []⟩,
  ⟨some 30, .chk (.t 29), (some (28, false)), []⟩,
  ⟨some 31, .fa 0 (.t 30), (some (28, false)), []⟩,
  ⟨some 32, .ld (.t 31), (some (28, false)), [(.t 31)]⟩,
  ⟨some 33, .mv (.t 0), (some (28, false)), []⟩,
  ⟨some 34, .chk (.t 33), (some (28, false)), []⟩,
  ⟨some 35, .fa 1 (.t 34), (some (28, false)), []⟩,
  ⟨some 36, .ld (.t 35), (some (28, false)), [(.t 35)]⟩,
  ⟨some 37, .ix (.t 32) (.t 36), (some (28, false)), []⟩,
  ⟨some 38, .mv (.t 1), (some (28, false)), []⟩,
  ⟨some 39, .mv (.t 4), (some (28, false)), []⟩,
  ⟨some 40, .ix (.t 38) (.t 39), (some (28, false)), []⟩,
  ⟨some 41, .bin .neq (.t 37) (.t 40), (some (28, false)), []⟩,
  ⟨some 42, .pick (.t 28) (.c (.bool true)) (.t 41), none, []⟩])
 (.ite (.t 42) (.seq (.reg [
  ⟨some 43, .mv (.t 0), none, []⟩,
  ⟨some 44, .call (.f 111) [(.t 43)], none, []⟩])
 (.ret))
 (.skip)))
 (.reg [
  ⟨some 45, .mv (.t 0), none, []⟩,
  ⟨some 46, .mv (.t 0), none, []⟩,
  ⟨some 47, .chk (.t 46), none, []⟩,
  ⟨some 48, .fa 1 (.t 47), none, []⟩,
  ⟨some 49, .ld (.t 48), none, []⟩,
  ⟨some 50, .bin .add (.t 49) (.c (.int .i64 1)), none, []⟩,
  ⟨some 51, .chk (.t 45), none, []⟩,
  ⟨some 52, .fa 1 (.t 51), none, []⟩,
  ⟨none, .st 1 (.t 52) (.t 50), none, []⟩])))
 (.reg [
  ⟨some 16, .mv (.t 4), none, []⟩,
  ⟨some 17, .bin .add (.t 16) (.c (.int .i64 1)), none, []⟩,
  ⟨some 4, .mv (.t 17), none, []⟩])))))⟩
def m152 : MFun := ⟨28, [.t 8],
 .seq (.reg [
  ⟨some 8, .mv (.c (.int .i64 0)), none, []⟩])
 (.seq (.reg [
  ⟨some 9, .mv (.t 0), none, []⟩,
  ⟨some 10, .mv (.t 0), none, []⟩,
  ⟨some 11, .chk (.t 10), none, []⟩,
  ⟨some 12, .fa 3 (.t 11), none, []⟩,
  ⟨some 13, .ld (.t 12), none, []⟩,
  ⟨some 14, .mv (.t 1), none, []⟩,
  ⟨some 15, .mv (.t 2), none, []⟩,
  ⟨some 16, .mv (.t 3), none, []⟩,
  ⟨some 17, .build [(.int .i64 0), (.int .i64 0), (.slice none 0 0)] [(0, 1, (.t 14)), (1, 1, (.t 15)), (2, 1, (.t 16))], none, []⟩,
  ⟨some 18, .lit 67 [(.int .i64 0), (.int .i64 0), (.slice none 0 0)] [(0, 3, (.t 17))] 1, none, []⟩,
  ⟨some 19, .app 67 3 40 [(.int .i64 0), (.int .i64 0), (.slice none 0 0)] (.t 13) (.t 18), none, []⟩,
  ⟨some 20, .chk (.t 9), none, []⟩,
  ⟨some 21, .fa 3 (.t 20), none, []⟩,
  ⟨none, .st 1 (.t 21) (.t 19), none, []⟩])
 (.seq (.reg [
  ⟨some 22, .mv (.t 0), none, []⟩,
  ⟨some 23, .chk (.t 22), none, []⟩,
  ⟨some 24, .fa 3 (.t 23), none, []⟩,
  ⟨some 25, .ld (.t 24), none, []⟩,
  ⟨some 26, .len (.t 25), none, []⟩,
  ⟨some 27, .bin .sub (.t 26) (.c (.int .i64 1)), none, []⟩,
  ⟨some 8, .mv (.t 27), none, []⟩])
 (.ret)))⟩
def m153 : MFun := ⟨111, [.t 2],
 .seq (.reg [
  ⟨some 2, .mv (.c (.int .i64 0)), none, []⟩])
 (.seq (.reg [
  ⟨some 6, .mv (.t 0), none, []⟩,
  ⟨some 7, .chk (.t 6), none, []⟩,
  ⟨some 8, .fa 1 (.t 7), none, []⟩,
  ⟨some 9, .ld (.t 8), none, []⟩,
  ⟨some 3, .mv (.t 9), none, []⟩])
 (.seq (.blk 0 (.loop (.seq (.seq (.dreg [0, 1, 2, 3, 4, 5, 6, 7, 8, 9, 10, 11, 12, 13, 14, 15, 16, 17, 18, 19, 20, 21, 22, 23, 24, 25, 26, 27, 28, 29, 30, 31, 32, 33, 34, 35, 36, 37, 38, 39, 40, 41, 42, 43, 44, 45, 46, 47] [
  ⟨some 10, .mv (.t 0), none, []⟩,
  ⟨some 11, .chk (.t 10), none, []⟩,
  ⟨some 12, .fa 1 (.t 11), none, []⟩,
  ⟨some 13, .ld (.t 12), none, [(.t 12)]⟩,
  ⟨some 14, .mv (.t 0), none, []⟩,
  ⟨some 15, .chk (.t 14), none, []⟩,
  ⟨some 16, .fa 0 (.t 15), none, []⟩,
  ⟨some 17, .ld (.t 16), none, [(.t 16)]⟩,
  ⟨some 18, .slen (.t 17), none, []⟩,
  ⟨some 19, .bin .lss (.t 13) (.t 18), none, []⟩,
  ⟨some 20, .mv (.t 19), none, []⟩,
  ⟨some 21, .mv (.t 0), (some (20, true)), []⟩,
  ⟨some 22, .chk (.t 21), (some (20, true)), []⟩,
  ⟨some 23, .fa 0 (.t 22), (some (20, true)), []⟩,
  ⟨some 24, .ld (.t 23), (some (20, true)), [(.t 23)]⟩,
  ⟨some 25, .mv (.t 0), (some (20, true)), []⟩,
  ⟨some 26, .chk (.t 25), (some (20, true)), []⟩,
  ⟨some 27, .fa 1 (.t 26), (some (20, true)), []⟩,
  ⟨some 28, .ld (.t 27), (some (20, true)), [(.t 27)]⟩,
  ⟨some 29, .ix (.t 24) (.t 28), (some (20, true)), []⟩,
  ⟨some 30, .call (.f 171) [(.t 29)], (some (20, true)), []⟩,
  ⟨some 31, .pick (.t 20) (.t 30) (.c (.bool false)), none, []⟩,
  ⟨some 32, .mv (.t 31), none, []⟩,
  ⟨some 33, .mv (.t 0), (some (32, true)), []⟩,
  ⟨some 34, .chk (.t 33), (some (32, true)), []⟩,
  ⟨some 35, .fa 1 (.t 34), (some (32, true)), []⟩,
  ⟨some 36, .ld (.t 35), (some (32, true)), [(.t 35)]⟩,
  ⟨some 37, .mv (.t 3), (some (32, true)), []⟩,
  ⟨some 38, .bin .sub (.t 36) (.t 37), (some (32, true)), []⟩,
  ⟨some 39, .bin .lss (.t 38) (.c (.int .i64 2)), (some (32, true)), []⟩,
  ⟨some 40, .pick (.t 32) (.t 39) (.c (.bool false)), none, []⟩,
  ⟨some 41, .mv (.t 40), none, []⟩,
  ⟨some 42, .mv (.t 0), (some (41, true)), []⟩,
  ⟨some 43, .chk (.t 42), (some (41, true)), []⟩,
  ⟨some 44, .fa 1 (.t 43), (some (41, true)), []⟩,
  ⟨some 45, .ld (.t 44), (some (41, true)), [(.t 44)]⟩,
  ⟨some 46, .mv (.t 3), (some (41, true)), []⟩,
  ⟨some 47, .bin .eql (.t 45) (.t 46), (some (41, true)), []⟩,
  ⟨some 48, .mv (.t 47), (some (41, true)), []⟩,
  ⟨some 49, .mv (.t 0), (some (48, false)), []⟩,
  ⟨some 50, .chk (.t 49), (some (48, false)), []⟩,
  ⟨some 51, .fa 0 (.t 50), (some (48, false)), []⟩,
  ⟨some 52, .ld (.t 51), (some (48, false)), [(.t 51)]⟩,
  ⟨some 53, .mv (.t 3), (some (48, false)), []⟩,
  ⟨some 54, .ix (.t 52) (.t 53), (some (48, false)), []⟩,
  ⟨some 55, .bin .neq (.t 54) (.c (.int .u8 48)), (some (48, false)), []⟩,
  ⟨some 56, .pick (.t 48) (.c (.bool true)) (.t 55), (some (41, true)), []⟩,
  ⟨some 57, .pick (.t 41) (.t 56) (.c (.bool false)), none, []⟩])
 (.ite (.t 57) (.skip)
 (.exit 0)))
 (.blk 1 (.reg [
  ⟨some 58, .mv (.t 0), none, []⟩,
  ⟨some 59, .mv (.t 0), none, []⟩,
  ⟨some 60, .chk (.t 59), none, []⟩,
  ⟨some 61, .fa 1 (.t 60), none, []⟩,
  ⟨some 62, .ld (.t 61), none, []⟩,
  ⟨some 63, .bin .add (.t 62) (.c (.int .i64 1)), none, []⟩,
  ⟨some 64, .chk (.t 58), none, []⟩,
  ⟨some 65, .fa 1 (.t 64), none, []⟩,
  ⟨none, .st 1 (.t 65) (.t 63), none, []⟩])))))
 (.seq (.dreg [0, 1, 2, 3, 4, 5, 6, 7, 8, 9, 10, 11, 12, 13, 14, 15] [
  ⟨some 67, .mv (.t 0), none, []⟩,
  ⟨some 68, .chk (.t 67), none, []⟩,
  ⟨some 69, .fa 0 (.t 68), none, []⟩,
  ⟨some 70, .ld (.t 69), none, [(.t 69)]⟩,
  ⟨some 71, .mv (.t 3), none, []⟩,
  ⟨some 72, .mv (.t 0), none, []⟩,
  ⟨some 73, .chk (.t 72), none, []⟩,
  ⟨some 74, .fa 1 (.t 73), none, []⟩,
  ⟨some 75, .ld (.t 74), none, [(.t 74)]⟩,
  ⟨some 76, .sls (.t 70) (some (.t 71)) (some (.t 75)), none, []⟩,
  ⟨some 77, .call (.f 172) [(.t 76)], none, []⟩,
  ⟨some 66, .mv (.t 77), none, []⟩,
  ⟨some 78, .ext (.t 66) 0, none, []⟩,
  ⟨some 79, .ext (.t 66) 1, none, []⟩,
  ⟨some 4, .mv (.t 78), none, []⟩,
  ⟨some 5, .mv (.t 79), none, []⟩])
 (.seq (.seq (.dreg [0, 1, 2, 3, 4, 5, 6, 7, 8, 9, 10, 11, 12, 13, 14, 15, 16, 17, 18, 19, 20, 21, 22, 23, 24, 25] [
  ⟨some 80, .mv (.t 5), none, []⟩,
  ⟨some 81, .not (.t 80), none, []⟩,
  ⟨some 82, .mv (.t 81), none, []⟩,
  ⟨some 83, .mv (.t 0), (some (82, false)), []⟩,
  ⟨some 84, .chk (.t 83), (some (82, false)), []⟩,
  ⟨some 85, .fa 1 (.t 84), (some (82, false)), []⟩,
  ⟨some 86, .ld (.t 85), (some (82, false)), [(.t 85)]⟩,
  ⟨some 87, .mv (.t 0), (some (82, false)), []⟩,
  ⟨some 88, .chk (.t 87), (some (82, false)), []⟩,
  ⟨some 89, .fa 0 (.t 88), (some (82, false)), []⟩,
  ⟨some 90, .ld (.t 89), (some (82, false)), [(.t 89)]⟩,
  ⟨some 91, .slen (.t 90), (some (82, false)), []⟩,
  ⟨some 92, .bin .lss (.t 86) (.t 91), (some (82, false)), []⟩,
  ⟨some 93, .mv (.t 92), (some (82, false)), []⟩,
  ⟨some 94, .mv (.t 0), (some (93, true)), []⟩,
  ⟨some 95, .chk (.t 94), (some (93, true)), []⟩,
  ⟨some 96, .fa 0 (.t 95), (some (93, true)), []⟩,
  ⟨some 97, .ld (.t 96), (some (93, true)), [(.t 96)]⟩,
  ⟨some 98, .mv (.t 0), (some (93, true)), []⟩,
  ⟨some 99, .chk (.t 98), (some (93, true)), []⟩,
  ⟨some 100, .fa 1 (.t 99), (some (93, true)), []⟩,
  ⟨some 101, .ld (.t 100), (some (93, true)), [(.t 100)]⟩,
  ⟨some 102, .ix (.t 97) (.t 101), (some (93, true)), []⟩,
  ⟨some 103, .call (.f 171) [(.t 102)], (some (93, true)), []⟩,
  ⟨some 104, .pick (.t 93) (.t 103) (.c (.bool false)), (some (82, false)), []⟩,
  ⟨some 105, .pick (.t 82) (.c (.bool true)) (.t 104), none, []⟩])
 (.ite (.t 105) (.reg [
  ⟨some 106, .mv (.t 0), none, []⟩,
  ⟨some 107, .call (.f 111) [(.t 106)], none, []⟩])
 (.skip)))
 (.seq (.reg [
  ⟨some 108, .mv (.t 0), none, []⟩,
  ⟨some 109, .mv (.t 4), none, []⟩,
  ⟨some 110, .call (.f 152) [(.t 108), (.c (.int .i64 1)), (.t 109), (.c (.slice none 0 0))], none, []⟩,
  ⟨some 2, .mv (.t 110), none, []⟩])
 (.ret))))))⟩
def m154 : MFun := ⟨13, [.t 4],
 .seq (.reg [
  ⟨some 4, .mv (.c (.int .i64 0)), none, []⟩])
 (.seq (.reg [
  ⟨some 6, .mv (.t 0), none, []⟩,
  ⟨some 7, .call (.f 110) [(.t 6)], none, []⟩,
  ⟨some 5, .mv (.t 7), none, []⟩])
 (.seq (.reg [
  ⟨some 8, .mv (.t 0), none, []⟩,
  ⟨some 9, .mv (.t 1), none, []⟩,
  ⟨some 10, .mv (.t 5), none, []⟩,
  ⟨some 11, .lit 3 [(.int .i64 0)] [(0, 1, (.t 10))] 1, none, []⟩,
  ⟨some 12, .call (.f 152) [(.t 8), (.t 9), (.c (.int .i64 0)), (.t 11)], none, []⟩,
  ⟨some 4, .mv (.t 12), none, []⟩])
 (.ret)))⟩
def m155 : MFun := ⟨65, [.t 2],
 .seq (.reg [
  ⟨some 2, .mv (.c (.int .i64 0)), none, []⟩])
 (.seq (.reg [
  ⟨some 6, .mv (.t 0), none, []⟩,
  ⟨some 7, .call (.f 110) [(.t 6)], none, []⟩,
  ⟨some 3, .mv (.t 7), none, []⟩])
 (.seq (.reg [
  ⟨some 8, .mv (.t 0), none, []⟩,
  ⟨some 9, .call (.f 151) [(.t 8), (.c (.string ⟨#[32]⟩))], none, []⟩])
 (.seq (.reg [
  ⟨some 4, .mv (.c (.int .i64 (-1))), none, []⟩])
 (.seq (.seq (.dreg [0, 1, 2, 3, 4, 5, 6, 7, 8, 9, 10, 11, 12, 13, 14, 15, 16] [
  ⟨some 10, .mv (.t 0), none, []⟩,
  ⟨some 11, .chk (.t 10), none, []⟩,
  ⟨some 12, .fa 2 (.t 11), none, []⟩,
  ⟨some 13, .ld (.t 12), none, [(.t 12)]⟩,
  ⟨some 14, .bin .eql (.t 13) (.c (.int .i64 (-1))), none, []⟩,
  ⟨some 15, .mv (.t 14), none, []⟩,
  ⟨some 16, .mv (.t 0), (some (15, true)), []⟩,
  ⟨some 17, .chk (.t 16), (some (15, true)), []⟩,
  ⟨some 18, .fa 1 (.t 17), (some (15, true)), []⟩,
  ⟨some 19, .ld (.t 18), (some (15, true)), [(.t 18)]⟩,
  ⟨some 20, .mv (.t 0), (some (15, true)), []⟩,
  ⟨some 21, .chk (.t 20), (some (15, true)), []⟩,
  ⟨some 22, .fa 0 (.t 21), (some (15, true)), []⟩,
  ⟨some 23, .ld (.t 22), (some (15, true)), [(.t 22)]⟩,
  ⟨some 24, .slen (.t 23), (some (15, true)), []⟩,
  ⟨some 25, .bin .lss (.t 19) (.t 24), (some (15, true)), []⟩,
  ⟨some 26, .pick (.t 15) (.t 25) (.c (.bool false)), none, []⟩])
 (.ite (.t 26) (.seq (.dreg [0, 1, 2, 3, 4, 5, 6, 7, 8] [
  ⟨some 27, .mv (.t 0), none, []⟩,
  ⟨some 28, .chk (.t 27), none, []⟩,
  ⟨some 29, .fa 0 (.t 28), none, []⟩,
  ⟨some 30, .ld (.t 29), none, [(.t 29)]⟩,
  ⟨some 31, .mv (.t 0), none, []⟩,
  ⟨some 32, .chk (.t 31), none, []⟩,
  ⟨some 33, .fa 1 (.t 32), none, []⟩,
  ⟨some 34, .ld (.t 33), none, [(.t 33)]⟩,
  ⟨some 35, .ix (.t 30) (.t 34), none, []⟩])
 (.blk 0 (.seq (.reg [
  ⟨some 37, .bin .eql (.t 35) (.c (.int .u8 38)), none, []⟩,
  ⟨some 36, .mv (.t 37), none, []⟩])
 (.ite (.t 36) (.reg [
  ⟨some 4, .mv (.c (.int .i64 3)), none, []⟩])
 (.seq (.reg [
  ⟨some 39, .bin .eql (.t 35) (.c (.int .u8 124)), none, []⟩,
  ⟨some 38, .mv (.t 39), none, []⟩])
 (.ite (.t 38) (.reg [
  ⟨some 4, .mv (.c (.int .i64 4)), none, []⟩])
 (.seq (.reg [
  ⟨some 41, .bin .eql (.t 35) (.c (.int .u8 45)), none, []⟩,
  ⟨some 40, .mv (.t 41), none, []⟩])
 (.ite (.t 40) (.reg [
  ⟨some 4, .mv (.c (.int .i64 5)), none, []⟩])
 (.seq (.reg [
  ⟨some 43, .bin .eql (.t 35) (.c (.int .u8 126)), none, []⟩,
  ⟨some 42, .mv (.t 43), none, []⟩])
 (.ite (.t 42) (.reg [
  ⟨some 4, .mv (.c (.int .i64 8)), none, []⟩])
 (.seq (.reg [
  ⟨some 45, .bin .eql (.t 35) (.c (.int .u8 85)), none, []⟩,
  ⟨some 44, .mv (.t 45), none, []⟩])
 (.ite (.t 44) (.reg [
  ⟨some 4, .mv (.c (.int .i64 9)), none, []⟩])
 (.skip)))))))))))))
 (.skip)))
 (.seq (.seq (.reg [
  ⟨some 46, .mv (.t 4), none, []⟩,
  ⟨some 47, .bin .eql (.t 46) (.c (.int .i64 (-1))), none, []⟩])
 (.ite (.t 47) (.seq (.reg [
  ⟨some 48, .mv (.t 0), none, []⟩,
  ⟨some 49, .call (.f 111) [(.t 48)], none, []⟩])
 (.seq (.reg [
  ⟨some 2, .mv (.c (.int .i64 0)), none, []⟩])
 (.ret)))
 (.skip)))
 (.seq (.reg [
  ⟨some 50, .mv (.t 0), none, []⟩,
  ⟨some 51, .mv (.t 4), none, []⟩,
  ⟨some 52, .call (.f 107) [(.t 51)], none, []⟩,
  ⟨some 53, .bin .add (.t 52) (.c (.string ⟨#[32]⟩)), none, []⟩,
  ⟨some 54, .call (.f 151) [(.t 50), (.t 53)], none, []⟩])
 (.seq (.reg [
  ⟨some 55, .mv (.t 0), none, []⟩,
  ⟨some 56, .call (.f 110) [(.t 55)], none, []⟩,
  ⟨some 5, .mv (.t 56), none, []⟩])
 (.seq (.reg [
  ⟨some 57, .mv (.t 0), none, []⟩,
  ⟨some 58, .call (.f 151) [(.t 57), (.c (.string ⟨#[41]⟩))], none, []⟩])
 (.seq (.reg [
  ⟨some 59, .mv (.t 0), none, []⟩,
  ⟨some 60, .mv (.t 4), none, []⟩,
  ⟨some 61, .mv (.t 3), none, []⟩,
  ⟨some 62, .mv (.t 5), none, []⟩,
  ⟨some 63, .lit 3 [(.int .i64 0)] [(0, 1, (.t 61)), (1, 1, (.t 62))] 2, none, []⟩,
  ⟨some 64, .call (.f 152) [(.t 59), (.t 60), (.c (.int .i64 0)), (.t 63)], none, []⟩,
  ⟨some 2, .mv (.t 64), none, []⟩])
 (.ret))))))))))⟩
def m156 : MFun := ⟨30, [.t 4, .t 5],
 .seq (.reg [
  ⟨some 4, .mv (.c (.int .u64 0)), none, []⟩,
  ⟨some 5, .mv (.c (.int .u64 0)), none, []⟩])
 (.seq (.ite (.c (.bool false)) (.seq (.reg [
  ⟨some 11, .mv (.t 0), none, []⟩,
  ⟨some 12, .cvt .u32 (.t 11), none, []⟩,
  ⟨some 13, .mv (.t 1), none, []⟩,
  ⟨some 14, .cvt .u32 (.t 13), none, []⟩,
  ⟨some 15, .call (.f 173) [(.t 12), (.t 14)], none, []⟩,
  ⟨some 10, .mv (.t 15), none, []⟩,
  ⟨some 16, .ext (.t 10) 0, none, []⟩,
  ⟨some 17, .ext (.t 10) 1, none, []⟩,
  ⟨some 6, .mv (.t 16), none, []⟩,
  ⟨some 7, .mv (.t 17), none, []⟩])
 (.seq (.reg [
  ⟨some 18, .mv (.t 6), none, []⟩,
  ⟨some 19, .cvt .u64 (.t 18), none, []⟩,
  ⟨some 20, .mv (.t 7), none, []⟩,
  ⟨some 21, .cvt .u64 (.t 20), none, []⟩,
  ⟨some 4, .mv (.t 19), none, []⟩,
  ⟨some 5, .mv (.t 21), none, []⟩])
 (.ret)))
 (.skip))
 (.seq (.reg [
  ⟨some 23, .mv (.t 0), none, []⟩,
  ⟨some 24, .mv (.t 1), none, []⟩,
  ⟨some 25, .call (.f 174) [(.t 23), (.t 24)], none, []⟩,
  ⟨some 22, .mv (.t 25), none, []⟩,
  ⟨some 26, .ext (.t 22) 0, none, []⟩,
  ⟨some 27, .ext (.t 22) 1, none, []⟩,
  ⟨some 8, .mv (.t 26), none, []⟩,
  ⟨some 9, .mv (.t 27), none, []⟩])
 (.seq (.reg [
  ⟨some 28, .mv (.t 8), none, []⟩,
  ⟨some 29, .mv (.t 9), none, []⟩,
  ⟨some 4, .mv (.t 28), none, []⟩,
  ⟨some 5, .mv (.t 29), none, []⟩])
 (.ret))))⟩
def m157 : MFun := ⟨12, [.t 4],
 .seq (.reg [
  ⟨some 4, .mv (.c (.int .i64 0)), none, []⟩])
 (.seq (.seq (.reg [
  ⟨some 5, .mv (.t 1), none, []⟩,
  ⟨some 6, .bin .eql (.t 5) (.c (.int .i64 (-1))), none, []⟩])
 (.ite (.t 6) (.seq (.reg [
  ⟨some 7, .mv (.t 0), none, []⟩,
  ⟨some 4, .mv (.t 7), none, []⟩])
 (.ret))
 (.skip)))
 (.seq (.reg [
  ⟨some 8, .mv (.t 0), none, []⟩,
  ⟨some 9, .mv (.t 1), none, []⟩,
  ⟨some 10, .bin .shl (.c (.int .i64 1)) (.t 9), none, []⟩,
  ⟨some 11, .bin .or (.t 8) (.t 10), none, []⟩,
  ⟨some 4, .mv (.t 11), none, []⟩])
 (.ret)))⟩
def m158 : MFun := ⟨12, [.t 6],
 .seq (.reg [
  ⟨some 3, .box 47 (.t 0), none, []⟩,
  ⟨some 4, .box 3 (.t 1), none, []⟩,
  ⟨some 5, .box 3 (.t 2), none, []⟩,
  ⟨some 6, .mv (.c (.bool false)), none, []⟩])
 (.seq (.reg [
  ⟨some 7, .fa 0 (.t 3), none, []⟩,
  ⟨some 8, .fa 2 (.t 7), none, []⟩,
  ⟨some 9, .ld (.t 8), none, []⟩,
  ⟨some 10, .fn 176 [(.t 4), (.t 5)], none, []⟩,
  ⟨some 11, .call (.f 175) [(.t 9), (.t 10)], none, []⟩,
  ⟨some 6, .mv (.t 11), none, []⟩])
 (.ret))⟩
def m159 : MFun := ⟨10, [.t 4],
 .seq (.reg [
  ⟨some 4, .mv (.c (.bool false)), none, []⟩])
 (.seq (.reg [
  ⟨some 5, .lds 8 (.t 1), none, []⟩,
  ⟨some 6, .mv (.t 0), none, []⟩,
  ⟨some 7, .ld (.t 2), none, []⟩,
  ⟨some 8, .call (.f 158) [(.t 5), (.t 6), (.t 7)], none, []⟩,
  ⟨some 9, .not (.t 8), none, []⟩,
  ⟨some 4, .mv (.t 9), none, []⟩])
 (.ret))⟩
def m160 : MFun := ⟨32, [.t 6],
 .seq (.reg [
  ⟨some 3, .box 47 (.t 0), none, []⟩,
  ⟨some 6, .mv (.c (.bool false)), none, []⟩])
 (.seq (.reg [
  ⟨some 10, .mv (.t 1), none, []⟩,
  ⟨some 11, .len (.t 10), none, []⟩,
  ⟨some 12, .build [(.int .i64 0), (.int .i64 0)] [(0, 1, (.t 11))], none, []⟩,
  ⟨some 7, .new [(.int .i64 0), (.int .i64 0)] 135, none, []⟩,
  ⟨none, .st 2 (.t 7) (.t 12), none, []⟩])
 (.seq (.seq (.reg [
  ⟨some 13, .mv (.t 1), none, []⟩,
  ⟨some 14, .len (.t 13), none, []⟩,
  ⟨some 15, .mv (.c (.int .i64 0)), none, []⟩])
 (.blk 0 (.loop (.seq (.reg [
  ⟨some 16, .bin .lss (.t 15) (.t 14), none, []⟩])
 (.seq (.ite (.t 16) (.skip)
 (.exit 0))
 (.seq (.blk 1 (.seq (.reg [
  ⟨some 17, .mv (.t 15), none, []⟩,
  ⟨some 18, .ia 1 (.t 13) (.t 15), none, []⟩,
  ⟨some 19, .ld (.t 18), none, []⟩,
  ⟨some 8, .mv (.t 17), none, []⟩,
  ⟨some 9, .mv (.t 19), none, []⟩])
 (.seq (.dreg [0, 1, 2, 3, 4, 9, 5, 6, 7, 8, 10] [
  ⟨some 20, .lds 8 (.t 3), none, [(.t 3)]⟩,
  ⟨some 21, .mv (.t 9), none, []⟩,
  ⟨some 22, .mv (.t 1), none, []⟩,
  ⟨some 23, .lds 2 (.t 7), none, [(.t 7)]⟩,
  ⟨some 24, .mv (.t 8), none, []⟩,
  ⟨some 29, .mv (.t 2), none, []⟩,
  ⟨some 25, .call (.f 93) [(.t 23), (.t 24)], none, [(.t 3)]⟩,
  ⟨some 26, .ia 1 (.t 22) (.t 25), none, []⟩,
  ⟨some 27, .ld (.t 26), none, [(.t 26)]⟩,
  ⟨some 28, .call (.f 142) [(.t 20), (.t 21), (.t 27)], none, []⟩,
  ⟨some 30, .call (.f 91) [(.t 28), (.t 29)], none, []⟩])
 (.ite (.t 30) (.seq (.reg [
  ⟨some 6, .mv (.c (.bool true)), none, []⟩])
 (.ret))
 (.skip)))))
 (.reg [
  ⟨some 31, .bin .add (.t 15) (.c (.int .i64 1)), none, []⟩,
  ⟨some 15, .mv (.t 31), none, []⟩])))))))
 (.seq (.reg [
  ⟨some 6, .mv (.c (.bool false)), none, []⟩])
 (.ret))))⟩
def m161 : MFun := ⟨9, [.t 4],
 .seq (.reg [
  ⟨some 4, .mv (.c (.bool false)), none, []⟩])
 (.seq (.reg [
  ⟨some 5, .lds 8 (.t 1), none, []⟩,
  ⟨some 6, .mv (.t 0), none, []⟩,
  ⟨some 7, .ld (.t 2), none, []⟩,
  ⟨some 8, .call (.f 158) [(.t 5), (.t 6), (.t 7)], none, []⟩,
  ⟨some 4, .mv (.t 8), none, []⟩])
 (.ret))⟩
def m162 : MFun := ⟨25, [.t 4],
 .seq (.reg [
  ⟨some 2, .box 45 (.t 0), none, []⟩,
  ⟨some 3, .box 129 (.t 1), none, []⟩,
  ⟨some 4, .mv (.c (.bool false)), none, []⟩])
 (.seq (.seq (.reg [
  ⟨some 6, .fa 0 (.t 3), none, []⟩,
  ⟨some 7, .ld (.t 6), none, []⟩,
  ⟨some 8, .fa 1 (.t 3), none, []⟩,
  ⟨some 9, .ld (.t 8), none, []⟩,
  ⟨some 10, .bin .eql (.t 7) (.t 9), none, []⟩])
 (.ite (.t 10) (.seq (.reg [
  ⟨some 4, .mv (.c (.bool false)), none, []⟩])
 (.ret))
 (.skip)))
 (.seq (.seq (.reg [
  ⟨some 5, .mv (.c (.int .i64 0)), none, []⟩])
 (.blk 0 (.loop (.seq (.seq (.reg [
  ⟨some 11, .mv (.t 5), none, []⟩,
  ⟨some 12, .fa 2 (.t 2), none, []⟩,
  ⟨some 13, .ld (.t 12), none, []⟩,
  ⟨some 14, .len (.t 13), none, []⟩,
  ⟨some 15, .bin .lss (.t 11) (.t 14), none, []⟩])
 (.ite (.t 15) (.skip)
 (.exit 0)))
 (.seq (.blk 1 (.seq (.dreg [0, 1, 2, 3, 4, 5, 6] [
  ⟨some 18, .fa 2 (.t 2), none, []⟩,
  ⟨some 19, .ld (.t 18), none, [(.t 18)]⟩,
  ⟨some 20, .mv (.t 5), none, []⟩,
  ⟨some 21, .ia 3 (.t 19) (.t 20), none, []⟩,
  ⟨some 22, .lds 3 (.t 21), none, [(.t 21)]⟩,
  ⟨some 23, .lds 3 (.t 3), none, [(.t 3)]⟩,
  ⟨some 24, .eq false (.ints [0, 1, 2]) (.t 22) (.t 23), none, []⟩])
 (.ite (.t 24) (.seq (.reg [
  ⟨some 4, .mv (.c (.bool true)), none, []⟩])
 (.ret))
 (.skip))))
 (.reg [
  ⟨some 16, .mv (.t 5), none, []⟩,
  ⟨some 17, .bin .add (.t 16) (.c (.int .i64 1)), none, []⟩,
  ⟨some 5, .mv (.t 17), none, []⟩]))))))
 (.seq (.reg [
  ⟨some 4, .mv (.c (.bool false)), none, []⟩])
 (.ret))))⟩
def m163 : MFun := ⟨13, [.t 4],
 .seq (.reg [
  ⟨some 4, .mv (.c (.int .i64 0)), none, []⟩])
 (.seq (.seq (.reg [
  ⟨some 5, .mv (.t 0), none, []⟩,
  ⟨some 6, .mv (.t 1), none, []⟩,
  ⟨some 7, .call (.f 60) [(.t 5), (.t 6)], none, []⟩])
 (.ite (.t 7) (.seq (.reg [
  ⟨some 8, .mv (.t 0), none, []⟩,
  ⟨some 4, .mv (.t 8), none, []⟩])
 (.ret))
 (.skip)))
 (.seq (.reg [
  ⟨some 9, .mv (.t 0), none, []⟩,
  ⟨some 10, .mv (.t 1), none, []⟩,
  ⟨some 11, .bin .shl (.c (.int .i64 1)) (.t 10), none, []⟩,
  ⟨some 12, .bin .add (.t 9) (.t 11), none, []⟩,
  ⟨some 4, .mv (.t 12), none, []⟩])
 (.ret)))⟩
def m164 : MFun := ⟨37, [.t 6],
 .seq (.reg [
  ⟨some 3, .box 45 (.t 0), none, []⟩,
  ⟨some 6, .mv (.c (.bool false)), none, []⟩])
 (.seq (.seq (.reg [
  ⟨some 7, .mv (.c (.int .i64 0)), none, []⟩])
 (.blk 0 (.loop (.seq (.seq (.reg [
  ⟨some 9, .mv (.t 7), none, []⟩,
  ⟨some 10, .fa 2 (.t 3), none, []⟩,
  ⟨some 11, .ld (.t 10), none, []⟩,
  ⟨some 12, .len (.t 11), none, []⟩,
  ⟨some 13, .bin .lss (.t 9) (.t 12), none, []⟩])
 (.ite (.t 13) (.skip)
 (.exit 0)))
 (.seq (.blk 1 (.seq (.reg [
  ⟨some 16, .fa 2 (.t 3), none, []⟩,
  ⟨some 17, .ld (.t 16), none, []⟩,
  ⟨some 18, .mv (.t 7), none, []⟩,
  ⟨some 19, .ia 3 (.t 17) (.t 18), none, []⟩,
  ⟨some 20, .lds 3 (.t 19), none, []⟩,
  ⟨some 8, .new [(.int .i64 0), (.int .i64 0), (.int .i64 0)] 129, none, []⟩,
  ⟨none, .st 3 (.t 8) (.t 20), none, []⟩])
 (.seq (.reg [
  ⟨some 21, .fa 0 (.t 8), none, []⟩,
  ⟨some 22, .ld (.t 21), none, []⟩,
  ⟨some 23, .mv (.t 1), none, []⟩,
  ⟨some 24, .bin .eql (.t 22) (.t 23), none, []⟩,
  ⟨some 25, .mv (.t 24), none, []⟩,
  ⟨some 26, .fa 2 (.t 8), (some (25, true)), []⟩,
  ⟨some 27, .ld (.t 26), (some (25, true)), []⟩,
  ⟨some 28, .mv (.t 2), (some (25, true)), []⟩,
  ⟨some 29, .bin .eql (.t 27) (.t 28), (some (25, true)), []⟩,
  ⟨some 30, .pick (.t 25) (.t 29) (.c (.bool false)), none, []⟩,
  ⟨some 31, .mv (.t 30), none, []⟩,
  ⟨some 32, .fa 1 (.t 8), (some (31, true)), []⟩,
  ⟨some 33, .ld (.t 32), (some (31, true)), []⟩,
  ⟨some 34, .mv (.t 1), (some (31, true)), []⟩,
  ⟨some 35, .bin .neq (.t 33) (.t 34), (some (31, true)), []⟩,
  ⟨some 36, .pick (.t 31) (.t 35) (.c (.bool false)), none, []⟩])
 (.ite (.t 36) (.seq (.reg [
  ⟨some 6, .mv (.c (.bool true)), none, []⟩])
 (.ret))
 (.skip)))))
 (.reg [
  ⟨some 14, .mv (.t 7), none, []⟩,
  ⟨some 15, .bin .add (.t 14) (.c (.int .i64 1)), none, []⟩,
  ⟨some 7, .mv (.t 15), none, []⟩]))))))
 (.seq (.reg [
  ⟨some 6, .mv (.c (.bool false)), none, []⟩])
 (.ret)))⟩
def m165 : MFun := ⟨4, [.t 2],
 .seq (.reg [
  ⟨some 2, .mv (.c (.int .i64 0)), none, []⟩])
 (.seq (.seq (.reg [
  ⟨some 3, .mv (.t 0), none, []⟩])
 (.ite (.t 3) (.seq (.reg [
  ⟨some 2, .mv (.c (.int .i64 1)), none, []⟩])
 (.ret))
 (.skip)))
 (.seq (.reg [
  ⟨some 2, .mv (.c (.int .i64 0)), none, []⟩])
 (.ret)))⟩
def m166 : MFun := ⟨13, [.t 4],
 .seq (.reg [
  ⟨some 3, .box 26 (.t 1), none, []⟩,
  ⟨some 4, .mv (.c (.bool false)), none, []⟩])
 (.seq (.reg [
  ⟨some 5, .mv (.t 0), none, []⟩,
  ⟨some 6, .mv (.t 0), none, []⟩,
  ⟨some 7, .len (.t 6), none, []⟩,
  ⟨some 8, .bin .sub (.t 7) (.c (.int .i64 1)), none, []⟩,
  ⟨some 9, .lds 2 (.t 3), none, []⟩,
  ⟨some 10, .call (.f 22) [(.t 5), (.t 8), (.t 9)], none, []⟩,
  ⟨some 11, .ia 1 (.t 10) (.c (.int .i64 0)), none, []⟩,
  ⟨some 12, .ld (.t 11), none, []⟩,
  ⟨some 4, .mv (.t 12), none, []⟩])
 (.ret))⟩
def m167 : MFun := ⟨18, [.t 2],
 .seq (.reg [
  ⟨some 2, .mv (.c (.int .i64 0)), none, []⟩])
 (.seq (.reg [
  ⟨some 3, .mv (.c (.int .i64 0)), none, []⟩])
 (.seq (.seq (.reg [
  ⟨some 6, .mv (.t 0), none, []⟩,
  ⟨some 7, .len (.t 6), none, []⟩,
  ⟨some 8, .mv (.c (.int .i64 0)), none, []⟩])
 (.blk 0 (.loop (.seq (.reg [
  ⟨some 9, .bin .lss (.t 8) (.t 7), none, []⟩])
 (.seq (.ite (.t 9) (.skip)
 (.exit 0))
 (.seq (.blk 1 (.seq (.reg [
  ⟨some 10, .ia 1 (.t 6) (.t 8), none, []⟩,
  ⟨some 11, .ld (.t 10), none, []⟩,
  ⟨some 5, .mv (.t 11), none, []⟩])
 (.seq (.reg [
  ⟨some 12, .mv (.t 5), none, []⟩,
  ⟨some 13, .mv (.t 3), none, []⟩,
  ⟨some 14, .bin .neq (.t 12) (.t 13), none, []⟩])
 (.ite (.t 14) (.seq (.reg [
  ⟨some 15, .mv (.t 5), none, []⟩,
  ⟨some 2, .mv (.t 15), none, []⟩])
 (.ret))
 (.skip)))))
 (.reg [
  ⟨some 16, .bin .add (.t 8) (.c (.int .i64 1)), none, []⟩,
  ⟨some 8, .mv (.t 16), none, []⟩])))))))
 (.seq (.reg [
  ⟨some 17, .mv (.t 3), none, []⟩,
  ⟨some 2, .mv (.t 17), none, []⟩])
 (.ret))))⟩
def m168 : MFun := ⟨20, [.t 4],
 .seq (.reg [
  ⟨some 4, .mv (.c (.int .i64 0)), none, []⟩])
 (.seq (.reg [
  ⟨some 7, .mv (.t 0), none, []⟩,
  ⟨some 8, .call (.f 177) [(.t 7)], none, []⟩,
  ⟨some 5, .mv (.t 8), none, []⟩])
 (.seq (.reg [
  ⟨some 9, .mv (.t 1), none, []⟩,
  ⟨some 10, .call (.f 177) [(.t 9)], none, []⟩,
  ⟨some 6, .mv (.t 10), none, []⟩])
 (.seq (.seq (.reg [
  ⟨some 11, .mv (.t 5), none, []⟩])
 (.ite (.t 11) (.seq (.seq (.reg [
  ⟨some 12, .mv (.t 6), none, []⟩])
 (.ite (.t 12) (.seq (.reg [
  ⟨some 4, .mv (.c (.int .i64 0)), none, []⟩])
 (.ret))
 (.skip)))
 (.seq (.reg [
  ⟨some 4, .mv (.c (.int .i64 (-1))), none, []⟩])
 (.ret)))
 (.skip)))
 (.seq (.seq (.reg [
  ⟨some 13, .mv (.t 6), none, []⟩])
 (.ite (.t 13) (.seq (.reg [
  ⟨some 4, .mv (.c (.int .i64 1)), none, []⟩])
 (.ret))
 (.skip)))
 (.seq (.seq (.reg [
  ⟨some 14, .mv (.t 0), none, []⟩,
  ⟨some 15, .mv (.t 1), none, []⟩,
  ⟨some 16, .bin .lss (.t 14) (.t 15), none, []⟩])
 (.ite (.t 16) (.seq (.reg [
  ⟨some 4, .mv (.c (.int .i64 (-1))), none, []⟩])
 (.ret))
 (.skip)))
 (.seq (.seq (.reg [
  ⟨some 17, .mv (.t 0), none, []⟩,
  ⟨some 18, .mv (.t 1), none, []⟩,
  ⟨some 19, .bin .gtr (.t 17) (.t 18), none, []⟩])
 (.ite (.t 19) (.seq (.reg [
  ⟨some 4, .mv (.c (.int .i64 1)), none, []⟩])
 (.ret))
 (.skip)))
 (.seq (.reg [
  ⟨some 4, .mv (.c (.int .i64 0)), none, []⟩])
 (.ret))))))))⟩
def m169 : MFun := ⟨54, [.t 4],
 .seq (.reg [
  ⟨some 4, .mv (.c (.string ⟨#[]⟩)), none, []⟩])
 (.seq (.seq (.reg [
  ⟨some 10, .mv (.t 1), none, []⟩,
  ⟨some 11, .bin .eql (.t 10) (.c (.int .i64 10)), none, []⟩])
 (.ite (.t 11) (.seq (.seq (.reg [
  ⟨some 12, .mv (.t 0), none, []⟩,
  ⟨some 13, .bin .leq (.c (.int .i64 0)) (.t 12), none, []⟩,
  ⟨some 14, .mv (.t 13), none, []⟩,
  ⟨some 15, .mv (.t 0), (some (14, true)), []⟩,
  ⟨some 16, .bin .lss (.t 15) (.c (.int .i64 100)), (some (14, true)), []⟩,
  ⟨some 17, .pick (.t 14) (.t 16) (.c (.bool false)), none, []⟩])
 (.ite (.t 17) (.seq (.reg [
  ⟨some 18, .mv (.t 0), none, []⟩,
  ⟨some 19, .call (.f 178) [(.t 18)], none, []⟩,
  ⟨some 4, .mv (.t 19), none, []⟩])
 (.ret))
 (.skip)))
 (.seq (.reg [
  ⟨some 5, .new [(.int .u8 0), (.int .u8 0), (.int .u8 0), (.int .u8 0), (.int .u8 0), (.int .u8 0), (.int .u8 0), (.int .u8 0), (.int .u8 0), (.int .u8 0), (.int .u8 0), (.int .u8 0), (.int .u8 0), (.int .u8 0), (.int .u8 0), (.int .u8 0), (.int .u8 0), (.int .u8 0), (.int .u8 0), (.int .u8 0), (.int .u8 0), (.int .u8 0), (.int .u8 0), (.int .u8 0)] 202, none, []⟩])
 (.seq (.reg [
  ⟨some 20, .mv (.t 0), none, []⟩,
  ⟨some 21, .cvt .u64 (.t 20), none, []⟩,
  ⟨some 6, .mv (.t 21), none, []⟩])
 (.seq (.seq (.reg [
  ⟨some 22, .mv (.t 0), none, []⟩,
  ⟨some 23, .bin .lss (.t 22) (.c (.int .i64 0)), none, []⟩])
 (.ite (.t 23) (.reg [
  ⟨some 24, .mv (.t 6), none, []⟩,
  ⟨some 25, .neg (.t 24), none, []⟩,
  ⟨some 6, .mv (.t 25), none, []⟩])
 (.skip)))
 (.seq (.reg [
  ⟨some 26, .mv (.t 6), none, []⟩,
  ⟨some 27, .call (.f 179) [(.t 26)], none, []⟩,
  ⟨some 7, .mv (.t 27), none, []⟩])
 (.seq (.reg [
  ⟨some 28, .mv (.t 7), none, []⟩,
  ⟨some 29, .bin .add (.c (.int .i64 1)) (.t 28), none, []⟩,
  ⟨some 30, .bad, none, []⟩,
  ⟨some 31, .mv (.t 6), none, []⟩,
  ⟨some 32, .call (.f 180) [(.t 30), (.t 31)], none, []⟩])
 (.seq (.seq (.reg [
  ⟨some 33, .mv (.t 0), none, []⟩,
  ⟨some 34, .bin .lss (.t 33) (.c (.int .i64 0)), none, []⟩])
 (.ite (.t 34) (.seq (.reg [
  ⟨some 35, .bad, none, []⟩,
  ⟨none, .st 1 (.t 35) (.c (.int .u8 45)), none, []⟩])
 (.seq (.reg [
  ⟨some 36, .mv (.t 7), none, []⟩,
  ⟨some 37, .bin .add (.c (.int .i64 1)) (.t 36), none, []⟩,
  ⟨some 38, .bad, none, []⟩,
  ⟨some 39, .bad, none, []⟩,
  ⟨some 4, .mv (.t 39), none, []⟩])
 (.ret)))
 (.skip)))
 (.seq (.reg [
  ⟨some 40, .mv (.t 7), none, []⟩,
  ⟨some 41, .bin .add (.c (.int .i64 1)) (.t 40), none, []⟩,
  ⟨some 42, .bad, none, []⟩,
  ⟨some 43, .bad, none, []⟩,
  ⟨some 4, .mv (.t 43), none, []⟩])
 (.ret)))))))))
 (.skip)))
 (.seq (.reg [
  ⟨some 45, .mv (.t 0), none, []⟩,
  ⟨some 46, .cvt .u64 (.t 45), none, []⟩,
  ⟨some 47, .mv (.t 1), none, []⟩,
  ⟨some 48, .mv (.t 0), none, []⟩,
  ⟨some 49, .bin .lss (.t 48) (.c (.int .i64 0)), none, []⟩,
  ⟨some 50, .call (.f 181) [(.c (.slice none 0 0)), (.t 46), (.t 47), (.t 49), (.c (.bool false))], none, []⟩,
  ⟨some 44, .mv (.t 50), none, []⟩,
  ⟨some 51, .ext (.t 44) 0, none, []⟩,
  ⟨some 52, .ext (.t 44) 1, none, []⟩,
  ⟨some 8, .mv (.t 51), none, []⟩,
  ⟨some 9, .mv (.t 52), none, []⟩])
 (.seq (.reg [
  ⟨some 53, .mv (.t 9), none, []⟩,
  ⟨some 4, .mv (.t 53), none, []⟩])
 (.ret))))⟩
def m170 : MFun := ⟨18, [.t 2, .t 3],
 .seq (.reg [
  ⟨some 2, .mv (.c (.int .i64 0)), none, []⟩,
  ⟨some 3, .mv (.c .nilIface), none, []⟩])
 (.seq (.reg [
  ⟨some 7, .mv (.t 0), none, []⟩,
  ⟨some 8, .call (.f 182) [(.t 7)], none, []⟩,
  ⟨some 6, .mv (.t 8), none, []⟩,
  ⟨some 9, .ext (.t 6) 0, none, []⟩,
  ⟨some 10, .ext (.t 6) 1, none, []⟩,
  ⟨some 4, .mv (.t 9), none, []⟩,
  ⟨some 5, .mv (.t 10), none, []⟩])
 (.seq (.seq (.reg [
  ⟨some 11, .mv (.t 5), none, []⟩,
  ⟨some 12, .eq true .nilI (.t 11) (.c .nilIface), none, []⟩])
 (.ite (.t 12) (.seq (.reg [
  ⟨some 13, .mv (.t 4), none, []⟩,
  ⟨some 14, .mv (.t 0), none, []⟩,
  ⟨some 15, .mv (.t 5), none, []⟩,
  ⟨some 16, .call (.f 183) [(.c (.string ⟨#[65, 116, 111, 105]⟩)), (.t 14), (.c (.int .i64 0)), (.c (.int .i64 0)), (.t 15)], none, []⟩,
  ⟨some 2, .mv (.t 13), none, []⟩,
  ⟨some 3, .mv (.t 16), none, []⟩])
 (.ret))
 (.skip)))
 (.seq (.reg [
  ⟨some 17, .mv (.t 4), none, []⟩,
  ⟨some 2, .mv (.t 17), none, []⟩,
  ⟨some 3, .mv (.c .nilIface), none, []⟩])
 (.ret))))⟩
def m171 : MFun := ⟨9, [.t 2],
 .seq (.reg [
  ⟨some 2, .mv (.c (.bool false)), none, []⟩])
 (.seq (.reg [
  ⟨some 3, .mv (.t 0), none, []⟩,
  ⟨some 4, .bin .geq (.t 3) (.c (.int .u8 48)), none, []⟩,
  ⟨some 5, .mv (.t 4), none, []⟩,
  ⟨some 6, .mv (.t 0), (some (5, true)), []⟩,
  ⟨some 7, .bin .leq (.t 6) (.c (.int .u8 57)), (some (5, true)), []⟩,
  ⟨some 8, .pick (.t 5) (.t 7) (.c (.bool false)), none, []⟩,
  ⟨some 2, .mv (.t 8), none, []⟩])
 (.ret))⟩
def m172 : MFun := ⟨40, [.t 2, .t 3],
 .seq (.reg [
  ⟨some 2, .mv (.c (.int .i64 0)), none, []⟩,
  ⟨some 3, .mv (.c (.bool false)), none, []⟩])
 (.seq (.seq (.reg [
  ⟨some 6, .mv (.t 0), none, []⟩,
  ⟨some 7, .slen (.t 6), none, []⟩,
  ⟨some 8, .call (.f 26) [(.t 7), (.c (.int .i64 1)), (.c (.int .i64 9))], none, []⟩,
  ⟨some 9, .not (.t 8), none, []⟩,
  ⟨some 10, .mv (.t 9), none, []⟩,
  ⟨some 11, .mv (.t 0), (some (10, false)), []⟩,
  ⟨some 12, .slen (.t 11), (some (10, false)), []⟩,
  ⟨some 13, .bin .gtr (.t 12) (.c (.int .i64 1)), (some (10, false)), []⟩,
  ⟨some 14, .mv (.t 13), (some (10, false)), []⟩,
  ⟨some 15, .mv (.t 0), (some (14, true)), []⟩,
  ⟨some 16, .ix (.t 15) (.c (.int .i64 0)), (some (14, true)), []⟩,
  ⟨some 17, .bin .eql (.t 16) (.c (.int .u8 48)), (some (14, true)), []⟩,
  ⟨some 18, .pick (.t 14) (.t 17) (.c (.bool false)), (some (10, false)), []⟩,
  ⟨some 19, .pick (.t 10) (.c (.bool true)) (.t 18), none, []⟩])
 (.ite (.t 19) (.seq (.reg [
  ⟨some 2, .mv (.c (.int .i64 0)), none, []⟩,
  ⟨some 3, .mv (.c (.bool false)), none, []⟩])
 (.ret))
 (.skip)))
 (.seq (.reg [
  ⟨some 4, .mv (.c (.int .i64 0)), none, []⟩])
 (.seq (.seq (.reg [
  ⟨some 5, .mv (.c (.int .i64 0)), none, []⟩])
 (.blk 0 (.loop (.seq (.seq (.reg [
  ⟨some 20, .mv (.t 5), none, []⟩,
  ⟨some 21, .mv (.t 0), none, []⟩,
  ⟨some 22, .slen (.t 21), none, []⟩,
  ⟨some 23, .bin .lss (.t 20) (.t 22), none, []⟩])
 (.ite (.t 23) (.skip)
 (.exit 0)))
 (.seq (.blk 1 (.seq (.seq (.reg [
  ⟨some 26, .mv (.t 0), none, []⟩,
  ⟨some 27, .mv (.t 5), none, []⟩,
  ⟨some 28, .ix (.t 26) (.t 27), none, []⟩,
  ⟨some 29, .call (.f 171) [(.t 28)], none, []⟩,
  ⟨some 30, .not (.t 29), none, []⟩])
 (.ite (.t 30) (.seq (.reg [
  ⟨some 2, .mv (.c (.int .i64 0)), none, []⟩,
  ⟨some 3, .mv (.c (.bool false)), none, []⟩])
 (.ret))
 (.skip)))
 (.reg [
  ⟨some 31, .mv (.t 4), none, []⟩,
  ⟨some 32, .bin .mul (.c (.int .i64 10)) (.t 31), none, []⟩,
  ⟨some 33, .mv (.t 0), none, []⟩,
  ⟨some 34, .mv (.t 5), none, []⟩,
  ⟨some 35, .ix (.t 33) (.t 34), none, []⟩,
  ⟨some 36, .bin .sub (.t 35) (.c (.int .u8 48)), none, []⟩,
  ⟨some 37, .cvt .i64 (.t 36), none, []⟩,
  ⟨some 38, .bin .add (.t 32) (.t 37), none, []⟩,
  ⟨some 4, .mv (.t 38), none, []⟩])))
 (.reg [
  ⟨some 24, .mv (.t 5), none, []⟩,
  ⟨some 25, .bin .add (.t 24) (.c (.int .i64 1)), none, []⟩,
  ⟨some 5, .mv (.t 25), none, []⟩]))))))
 (.seq (.reg [
  ⟨some 39, .mv (.t 4), none, []⟩,
  ⟨some 2, .mv (.t 39), none, []⟩,
  ⟨some 3, .mv (.c (.bool true)), none, []⟩])
 (.ret)))))⟩
def m173 : MFun := ⟨17, [.t 4, .t 5],
 .seq (.reg [
  ⟨some 4, .mv (.c (.int .u32 0)), none, []⟩,
  ⟨some 5, .mv (.c (.int .u32 0)), none, []⟩])
 (.seq (.reg [
  ⟨some 7, .mv (.t 0), none, []⟩,
  ⟨some 8, .cvt .u64 (.t 7), none, []⟩,
  ⟨some 9, .mv (.t 1), none, []⟩,
  ⟨some 10, .cvt .u64 (.t 9), none, []⟩,
  ⟨some 11, .bin .mul (.t 8) (.t 10), none, []⟩,
  ⟨some 6, .mv (.t 11), none, []⟩])
 (.seq (.reg [
  ⟨some 12, .mv (.t 6), none, []⟩,
  ⟨some 13, .bin .shr (.t 12) (.c (.int .u64 32)), none, []⟩,
  ⟨some 14, .cvt .u32 (.t 13), none, []⟩,
  ⟨some 15, .mv (.t 6), none, []⟩,
  ⟨some 16, .cvt .u32 (.t 15), none, []⟩,
  ⟨some 4, .mv (.t 14), none, []⟩,
  ⟨some 5, .mv (.t 16), none, []⟩])
 (.ret)))⟩
def m174 : MFun := ⟨51, [.t 4, .t 5],
 .seq (.reg [
  ⟨some 4, .mv (.c (.int .u64 0)), none, []⟩,
  ⟨some 5, .mv (.c (.int .u64 0)), none, []⟩])
 (.seq (.reg [
  ⟨some 14, .mv (.t 0), none, []⟩,
  ⟨some 15, .bin .and (.t 14) (.c (.int .u64 4294967295)), none, []⟩,
  ⟨some 6, .mv (.t 15), none, []⟩])
 (.seq (.reg [
  ⟨some 16, .mv (.t 0), none, []⟩,
  ⟨some 17, .bin .shr (.t 16) (.c (.int .u64 32)), none, []⟩,
  ⟨some 7, .mv (.t 17), none, []⟩])
 (.seq (.reg [
  ⟨some 18, .mv (.t 1), none, []⟩,
  ⟨some 19, .bin .and (.t 18) (.c (.int .u64 4294967295)), none, []⟩,
  ⟨some 8, .mv (.t 19), none, []⟩])
 (.seq (.reg [
  ⟨some 20, .mv (.t 1), none, []⟩,
  ⟨some 21, .bin .shr (.t 20) (.c (.int .u64 32)), none, []⟩,
  ⟨some 9, .mv (.t 21), none, []⟩])
 (.seq (.reg [
  ⟨some 22, .mv (.t 6), none, []⟩,
  ⟨some 23, .mv (.t 8), none, []⟩,
  ⟨some 24, .bin .mul (.t 22) (.t 23), none, []⟩,
  ⟨some 10, .mv (.t 24), none, []⟩])
 (.seq (.reg [
  ⟨some 25, .mv (.t 7), none, []⟩,
  ⟨some 26, .mv (.t 8), none, []⟩,
  ⟨some 27, .bin .mul (.t 25) (.t 26), none, []⟩,
  ⟨some 28, .mv (.t 10), none, []⟩,
  ⟨some 29, .bin .shr (.t 28) (.c (.int .u64 32)), none, []⟩,
  ⟨some 30, .bin .add (.t 27) (.t 29), none, []⟩,
  ⟨some 11, .mv (.t 30), none, []⟩])
 (.seq (.reg [
  ⟨some 31, .mv (.t 11), none, []⟩,
  ⟨some 32, .bin .and (.t 31) (.c (.int .u64 4294967295)), none, []⟩,
  ⟨some 12, .mv (.t 32), none, []⟩])
 (.seq (.reg [
  ⟨some 33, .mv (.t 11), none, []⟩,
  ⟨some 34, .bin .shr (.t 33) (.c (.int .u64 32)), none, []⟩,
  ⟨some 13, .mv (.t 34), none, []⟩])
 (.seq (.reg [
  ⟨some 35, .mv (.t 12), none, []⟩,
  ⟨some 36, .mv (.t 6), none, []⟩,
  ⟨some 37, .mv (.t 9), none, []⟩,
  ⟨some 38, .bin .mul (.t 36) (.t 37), none, []⟩,
  ⟨some 39, .bin .add (.t 35) (.t 38), none, []⟩,
  ⟨some 12, .mv (.t 39), none, []⟩])
 (.seq (.reg [
  ⟨some 40, .mv (.t 7), none, []⟩,
  ⟨some 41, .mv (.t 9), none, []⟩,
  ⟨some 42, .bin .mul (.t 40) (.t 41), none, []⟩,
  ⟨some 43, .mv (.t 13), none, []⟩,
  ⟨some 44, .bin .add (.t 42) (.t 43), none, []⟩,
  ⟨some 45, .mv (.t 12), none, []⟩,
  ⟨some 46, .bin .shr (.t 45) (.c (.int .u64 32)), none, []⟩,
  ⟨some 47, .bin .add (.t 44) (.t 46), none, []⟩,
  ⟨some 4, .mv (.t 47), none, []⟩])
 (.seq (.reg [
  ⟨some 48, .mv (.t 0), none, []⟩,
  ⟨some 49, .mv (.t 1), none, []⟩,
  ⟨some 50, .bin .mul (.t 48) (.t 49), none, []⟩,
  ⟨some 5, .mv (.t 50), none, []⟩])
 (.ret))))))))))))⟩
def m175 : MFun := ⟨9, [.t 4],
 .seq (.reg [
  ⟨some 4, .mv (.c (.bool false)), none, []⟩])
 (.seq (.reg [
  ⟨some 5, .mv (.t 0), none, []⟩,
  ⟨some 6, .mv (.t 1), none, []⟩,
  ⟨some 7, .call (.f 184) [(.t 5), (.t 6)], none, []⟩,
  ⟨some 8, .bin .geq (.t 7) (.c (.int .i64 0)), none, []⟩,
  ⟨some 4, .mv (.t 8), none, []⟩])
 (.ret))⟩
def m176 : MFun := ⟨21, [.t 4],
 .seq (.reg [
  ⟨some 3, .box 129 (.t 0), none, []⟩,
  ⟨some 4, .mv (.c (.bool false)), none, []⟩])
 (.seq (.reg [
  ⟨some 5, .fa 0 (.t 3), none, []⟩,
  ⟨some 6, .ld (.t 5), none, []⟩,
  ⟨some 7, .ld (.t 1), none, []⟩,
  ⟨some 8, .bin .eql (.t 6) (.t 7), none, []⟩,
  ⟨some 9, .mv (.t 8), none, []⟩,
  ⟨some 10, .fa 1 (.t 3), (some (9, true)), []⟩,
  ⟨some 11, .ld (.t 10), (some (9, true)), []⟩,
  ⟨some 12, .ld (.t 1), (some (9, true)), []⟩,
  ⟨some 13, .bin .neq (.t 11) (.t 12), (some (9, true)), []⟩,
  ⟨some 14, .pick (.t 9) (.t 13) (.c (.bool false)), none, []⟩,
  ⟨some 15, .mv (.t 14), none, []⟩,
  ⟨some 16, .fa 2 (.t 3), (some (15, true)), []⟩,
  ⟨some 17, .ld (.t 16), (some (15, true)), []⟩,
  ⟨some 18, .ld (.t 2), (some (15, true)), []⟩,
  ⟨some 19, .bin .eql (.t 17) (.t 18), (some (15, true)), []⟩,
  ⟨some 20, .pick (.t 15) (.t 19) (.c (.bool false)), none, []⟩,
  ⟨some 4, .mv (.t 20), none, []⟩])
 (.ret))⟩
def m177 : MFun := ⟨6, [.t 2],
 .seq (.reg [
  ⟨some 2, .mv (.c (.bool false)), none, []⟩])
 (.seq (.reg [
  ⟨some 3, .mv (.t 0), none, []⟩,
  ⟨some 4, .mv (.t 0), none, []⟩,
  ⟨some 5, .bin .neq (.t 3) (.t 4), none, []⟩,
  ⟨some 2, .mv (.t 5), none, []⟩])
 (.ret))⟩
def m178 : MFun := ⟨15, [.t 2],
 .seq (.reg [
  ⟨some 2, .mv (.c (.string ⟨#[]⟩)), none, []⟩])
 (.seq (.seq (.reg [
  ⟨some 3, .mv (.t 0), none, []⟩,
  ⟨some 4, .bin .lss (.t 3) (.c (.int .i64 10)), none, []⟩])
 (.ite (.t 4) (.seq (.reg [
  ⟨some 5, .mv (.t 0), none, []⟩,
  ⟨some 6, .mv (.t 0), none, []⟩,
  ⟨some 7, .bin .add (.t 6) (.c (.int .i64 1)), none, []⟩,
  ⟨some 8, .sls (.c (.string ⟨#[48, 49, 50, 51, 52, 53, 54, 55, 56, 57, 97, 98, 99, 100, 101, 102, 103, 104, 105, 106, 107, 108, 109, 110, 111, 112, 113, 114, 115, 116, 117, 118, 119, 120, 121, 122]⟩)) (some (.t 5)) (some (.t 7)), none, []⟩,
  ⟨some 2, .mv (.t 8), none, []⟩])
 (.ret))
 (.skip)))
 (.seq (.reg [
  ⟨some 9, .mv (.t 0), none, []⟩,
  ⟨some 10, .bin .mul (.t 9) (.c (.int .i64 2)), none, []⟩,
  ⟨some 11, .mv (.t 0), none, []⟩,
  ⟨some 12, .bin .mul (.t 11) (.c (.int .i64 2)), none, []⟩,
  ⟨some 13, .bin .add (.t 12) (.c (.int .i64 2)), none, []⟩,
  ⟨some 14, .sls (.c (.string ⟨#[48, 48, 48, 49, 48, 50, 48, 51, 48, 52, 48, 53, 48, 54, 48, 55, 48, 56, 48, 57, 49, 48, 49, 49, 49, 50, 49, 51, 49, 52, 49, 53, 49, 54, 49, 55, 49, 56, 49, 57, 50, 48, 50, 49, 50, 50, 50, 51, 50, 52, 50, 53, 50, 54, 50, 55, 50, 56, 50, 57, 51, 48, 51, 49, 51, 50, 51, 51, 51, 52, 51, 53, 51, 54, 51, 55, 51, 56, 51, 57, 52, 48, 52, 49, 52, 50, 52, 51, 52, 52, 52, 53, 52, 54, 52, 55, 52, 56, 52, 57, 53, 48, 53, 49, 53, 50, 53, 51, 53, 52, 53, 53, 53, 54, 53, 55, 53, 56, 53, 57, 54, 48, 54, 49, 54, 50, 54, 51, 54, 52, 54, 53, 54, 54, 54, 55, 54, 56, 54, 57, 55, 48, 55, 49, 55, 50, 55, 51, 55, 52, 55, 53, 55, 54, 55, 55, 55, 56, 55, 57, 56, 48, 56, 49, 56, 50, 56, 51, 56, 52, 56, 53, 56, 54, 56, 55, 56, 56, 56, 57, 57, 48, 57, 49, 57, 50, 57, 51, 57, 52, 57, 53, 57, 54, 57, 55, 57, 56, 57, 57]⟩)) (some (.t 10)) (some (.t 13)), none, []⟩,
  ⟨some 2, .mv (.t 14), none, []⟩])
 (.ret)))⟩
def m182 : MFun := ⟨77, [.t 2, .t 3],
 .seq (.reg [
  ⟨some 2, .mv (.c (.int .i64 0)), none, []⟩,
  ⟨some 3, .mv (.c .nilIface), none, []⟩])
 (.seq (.reg [
  ⟨some 11, .mv (.t 0), none, []⟩,
  ⟨some 12, .slen (.t 11), none, []⟩,
  ⟨some 4, .mv (.t 12), none, []⟩])
 (.seq (.seq (.reg [
  ⟨some 13, .mv (.c (.bool false)), none, []⟩,
  ⟨some 14, .mv (.t 4), (some (13, true)), []⟩,
  ⟨some 15, .bin .lss (.c (.int .i64 0)) (.t 14), (some (13, true)), []⟩,
  ⟨some 16, .mv (.t 15), (some (13, true)), []⟩,
  ⟨some 17, .mv (.t 4), (some (16, true)), []⟩,
  ⟨some 18, .bin .lss (.t 17) (.c (.int .i64 10)), (some (16, true)), []⟩,
  ⟨some 19, .pick (.t 16) (.t 18) (.c (.bool false)), (some (13, true)), []⟩,
  ⟨some 20, .pick (.t 13) (.t 19) (.c (.bool false)), none, []⟩,
  ⟨some 21, .mv (.t 20), none, []⟩,
  ⟨some 22, .mv (.c (.bool true)), (some (21, false)), []⟩,
  ⟨some 23, .mv (.t 4), (some (22, true)), []⟩,
  ⟨some 24, .bin .lss (.c (.int .i64 0)) (.t 23), (some (22, true)), []⟩,
  ⟨some 25, .mv (.t 24), (some (22, true)), []⟩,
  ⟨some 26, .mv (.t 4), (some (25, true)), []⟩,
  ⟨some 27, .bin .lss (.t 26) (.c (.int .i64 19)), (some (25, true)), []⟩,
  ⟨some 28, .pick (.t 25) (.t 27) (.c (.bool false)), (some (22, true)), []⟩,
  ⟨some 29, .pick (.t 22) (.t 28) (.c (.bool false)), (some (21, false)), []⟩,
  ⟨some 30, .pick (.t 21) (.c (.bool true)) (.t 29), none, []⟩])
 (.ite (.t 30) (.seq (.reg [
  ⟨some 31, .mv (.t 0), none, []⟩,
  ⟨some 5, .mv (.t 31), none, []⟩])
 (.seq (.seq (.reg [
  ⟨some 32, .mv (.t 0), none, []⟩,
  ⟨some 33, .ix (.t 32) (.c (.int .i64 0)), none, []⟩,
  ⟨some 34, .bin .eql (.t 33) (.c (.int .u8 45)), none, []⟩,
  ⟨some 35, .mv (.t 34), none, []⟩,
  ⟨some 36, .mv (.t 0), (some (35, false)), []⟩,
  ⟨some 37, .ix (.t 36) (.c (.int .i64 0)), (some (35, false)), []⟩,
  ⟨some 38, .bin .eql (.t 37) (.c (.int .u8 43)), (some (35, false)), []⟩,
  ⟨some 39, .pick (.t 35) (.c (.bool true)) (.t 38), none, []⟩])
 (.ite (.t 39) (.seq (.reg [
  ⟨some 40, .mv (.t 0), none, []⟩,
  ⟨some 41, .sls (.t 40) (some (.c (.int .i64 1))) none, none, []⟩,
  ⟨some 0, .mv (.t 41), none, []⟩])
 (.seq (.reg [
  ⟨some 42, .mv (.t 0), none, []⟩,
  ⟨some 43, .slen (.t 42), none, []⟩,
  ⟨some 44, .bin .lss (.t 43) (.c (.int .i64 1)), none, []⟩])
 (.ite (.t 44) (.seq (.reg [
  ⟨some 45, .iface 212 (.c (.int .i64 2)), none, []⟩,
  ⟨some 2, .mv (.c (.int .i64 0)), none, []⟩,
  ⟨some 3, .mv (.t 45), none, []⟩])
 (.ret))
 (.skip))))
 (.skip)))
 (.seq (.reg [
  ⟨some 6, .mv (.c (.int .i64 0)), none, []⟩])
 (.seq (.seq (.reg [
  ⟨some 46, .mv (.t 0), none, []⟩,
  ⟨some 47, .bytes 5 (.t 46), none, []⟩,
  ⟨some 48, .len (.t 47), none, []⟩,
  ⟨some 49, .mv (.c (.int .i64 0)), none, []⟩])
 (.blk 0 (.loop (.seq (.reg [
  ⟨some 50, .bin .lss (.t 49) (.t 48), none, []⟩])
 (.seq (.ite (.t 50) (.skip)
 (.exit 0))
 (.seq (.blk 1 (.seq (.reg [
  ⟨some 51, .ia 1 (.t 47) (.t 49), none, []⟩,
  ⟨some 52, .ld (.t 51), none, []⟩,
  ⟨some 8, .mv (.t 52), none, []⟩])
 (.seq (.reg [
  ⟨some 53, .mv (.t 8), none, []⟩,
  ⟨some 54, .bin .sub (.t 53) (.c (.int .u8 48)), none, []⟩,
  ⟨some 8, .mv (.t 54), none, []⟩])
 (.seq (.seq (.reg [
  ⟨some 55, .mv (.t 8), none, []⟩,
  ⟨some 56, .bin .gtr (.t 55) (.c (.int .u8 9)), none, []⟩])
 (.ite (.t 56) (.seq (.reg [
  ⟨some 57, .iface 212 (.c (.int .i64 2)), none, []⟩,
  ⟨some 2, .mv (.c (.int .i64 0)), none, []⟩,
  ⟨some 3, .mv (.t 57), none, []⟩])
 (.ret))
 (.skip)))
 (.reg [
  ⟨some 58, .mv (.t 6), none, []⟩,
  ⟨some 59, .bin .mul (.t 58) (.c (.int .i64 10)), none, []⟩,
  ⟨some 60, .mv (.t 8), none, []⟩,
  ⟨some 61, .cvt .i64 (.t 60), none, []⟩,
  ⟨some 62, .bin .add (.t 59) (.t 61), none, []⟩,
  ⟨some 6, .mv (.t 62), none, []⟩])))))
 (.reg [
  ⟨some 63, .bin .add (.t 49) (.c (.int .i64 1)), none, []⟩,
  ⟨some 49, .mv (.t 63), none, []⟩])))))))
 (.seq (.seq (.reg [
  ⟨some 64, .mv (.t 5), none, []⟩,
  ⟨some 65, .ix (.t 64) (.c (.int .i64 0)), none, []⟩,
  ⟨some 66, .bin .eql (.t 65) (.c (.int .u8 45)), none, []⟩])
 (.ite (.t 66) (.reg [
  ⟨some 67, .mv (.t 6), none, []⟩,
  ⟨some 68, .neg (.t 67), none, []⟩,
  ⟨some 6, .mv (.t 68), none, []⟩])
 (.skip)))
 (.seq (.reg [
  ⟨some 69, .mv (.t 6), none, []⟩,
  ⟨some 2, .mv (.t 69), none, []⟩,
  ⟨some 3, .mv (.c .nilIface), none, []⟩])
 (.ret)))))))
 (.skip)))
 (.seq (.reg [
  ⟨some 71, .mv (.t 0), none, []⟩,
  ⟨some 72, .call (.f 190) [(.t 71), (.c (.int .i64 10)), (.c (.int .i64 0))], none, []⟩,
  ⟨some 70, .mv (.t 72), none, []⟩,
  ⟨some 73, .ext (.t 70) 0, none, []⟩,
  ⟨some 74, .ext (.t 70) 1, none, []⟩,
  ⟨some 9, .mv (.t 73), none, []⟩,
  ⟨some 10, .mv (.t 74), none, []⟩])
 (.seq (.reg [
  ⟨some 75, .mv (.t 9), none, []⟩,
  ⟨some 76, .mv (.t 10), none, []⟩,
  ⟨some 2, .mv (.t 75), none, []⟩,
  ⟨some 3, .mv (.t 76), none, []⟩])
 (.ret)))))⟩
def m184 : MFun := ⟨19, [.t 4],
 .seq (.reg [
  ⟨some 4, .mv (.c (.int .i64 0)), none, []⟩])
 (.seq (.seq (.reg [
  ⟨some 6, .mv (.t 0), none, []⟩,
  ⟨some 7, .len (.t 6), none, []⟩,
  ⟨some 8, .mv (.c (.int .i64 0)), none, []⟩])
 (.blk 0 (.loop (.seq (.reg [
  ⟨some 9, .bin .lss (.t 8) (.t 7), none, []⟩])
 (.seq (.ite (.t 9) (.skip)
 (.exit 0))
 (.seq (.blk 1 (.seq (.reg [
  ⟨some 10, .mv (.t 8), none, []⟩,
  ⟨some 5, .mv (.t 10), none, []⟩])
 (.seq (.reg [
  ⟨some 11, .mv (.t 1), none, []⟩,
  ⟨some 12, .mv (.t 0), none, []⟩,
  ⟨some 13, .mv (.t 5), none, []⟩,
  ⟨some 14, .ia 3 (.t 12) (.t 13), none, []⟩,
  ⟨some 15, .lds 3 (.t 14), none, []⟩,
  ⟨some 16, .call (.t 11) [(.t 15)], none, []⟩])
 (.ite (.t 16) (.seq (.reg [
  ⟨some 17, .mv (.t 5), none, []⟩,
  ⟨some 4, .mv (.t 17), none, []⟩])
 (.ret))
 (.skip)))))
 (.reg [
  ⟨some 18, .bin .add (.t 8) (.c (.int .i64 1)), none, []⟩,
  ⟨some 8, .mv (.t 18), none, []⟩])))))))
 (.seq (.reg [
  ⟨some 4, .mv (.c (.int .i64 (-1))), none, []⟩])
 (.ret)))⟩
end Dm.YtmgehmhebnjaaaaGreatDoor
end
section
set_option maxRecDepth 100000
namespace Dm.YtmgehmhebnjaaaaGreatDoor
open Go
def tab : Tab := fun n => match n with
  | 3 => some m3
  | 4 => some m4
  | 5 => some m5
  | 6 => some m6
  | 7 => some m7
  | 8 => some m8
  | 9 => some m9
  | 10 => some m10
  | 11 => some m11
  | 12 => some m12
  | 13 => some m13
  | 14 => some m14
  | 15 => some m15
  | 16 => some m16
  | 17 => some m17
  | 18 => some m18
  | 19 => some m19
  | 20 => some m20
  | 21 => some m21
  | 22 => some m22
  | 23 => some m23
  | 24 => some m24
  | 25 => some m25
  | 26 => some m26
  | 27 => some m27
  | 28 => some m28
  | 29 => some m29
  | 30 => some m30
  | 31 => some m31
  | 32 => some m32
  | 33 => some m33
  | 34 => some m34
  | 35 => some m35
  | 36 => some m36
  | 37 => some m37
  | 38 => some m38
  | 39 => some m39
  | 40 => some m40
  | 41 => some m41
  | 42 => some m42
  | 43 => some m43
  | 44 => some m44
  | 45 => some m45
  | 46 => some m46
  | 47 => some m47
  | 48 => some m48
  | 49 => some m49
  | 50 => some m50
  | 51 => some m51
  | 52 => some m52
  | 53 => some m53
  | 54 => some m54
  | 55 => some m55
  | 56 => some m56
  | 57 => some m57
  | 58 => some m58
  | 59 => some m59
  | 60 => some m60
  | 61 => some m61
  | 62 => some m62
  | 63 => some m63
  | 64 => some m64
  | 65 => some m65
  | 66 => some m66
  | 67 => some m67
  | 68 => some m68
  | 69 => some m69
  | 70 => some m70
  | 71 => some m71
  | 72 => some m72
  | 73 => some m73
  | 74 => some m74
  | 75 => some m75
  | 76 => some m76
  | 77 => some m77
  | 78 => some m78
  | 79 => some m79
  | 80 => some m80
  | 81 => some m81
  | 82 => some m82
  | 83 => some m83
  | 84 => some m84
  | 85 => some m85
  | 86 => some m86
  | 87 => some m87
  | 88 => some m88
  | 89 => some m89
  | 90 => some m90
  | 91 => some m91
  | 92 => some m92
  | 93 => some m93
  | 94 => some m94
  | 95 => some m95
  | 96 => some m96
  | 97 => some m97
  | 98 => some m98
  | 99 => some m99
  | 100 => some m100
  | 101 => some m101
  | 102 => some m102
  | 103 => some m103
  | 104 => some m104
  | 105 => some m105
  | 106 => some m106
  | 107 => some m107
  | 108 => some m108
  | 109 => some m109
  | 110 => some m110
  | 111 => some m111
  | 112 => some m112
  | 113 => some m113
  | 114 => some m114
  | 115 => some m115
  | 116 => some m116
  | 117 => some m117
  | 118 => some m118
  | 119 => some m119
  | 120 => some m120
  | 121 => some m121
  | 122 => some m122
  | 123 => some m123
  | 124 => some m124
  | 125 => some m125
  | 126 => some m126
  | 127 => some m127
  | 128 => some m128
  | 129 => some m129
  | 130 => some m130
  | 131 => some m131
  | 132 => some m132
  | 133 => some m133
  | 134 => some m134
  | 135 => some m135
  | 136 => some m136
  | 137 => some m137
  | 138 => some m138
  | 139 => some m139
  | 140 => some m140
  | 141 => some m141
  | 142 => some m142
  | 143 => some m143
  | 144 => some m144
  | 145 => some m145
  | 146 => some m146
  | 147 => some m147
  | 148 => some m148
  | 149 => some m149
  | 150 => some m150
  | 151 => some m151
  | 152 => some m152
  | 153 => some m153
  | 154 => some m154
  | 155 => some m155
  | 156 => some m156
  | 157 => some m157
  | 158 => some m158
  | 159 => some m159
  | 160 => some m160
  | 161 => some m161
  | 162 => some m162
  | 163 => some m163
  | 164 => some m164
  | 165 => some m165
  | 166 => some m166
  | 167 => some m167
  | 168 => some m168
  | 169 => some m169
  | 170 => some m170
  | 171 => some m171
  | 172 => some m172
  | 173 => some m173
  | 174 => some m174
  | 175 => some m175
  | 176 => some m176
  | 177 => some m177
  | 178 => some m178
  | 182 => some m182
  | 184 => some m184
  | _ => none
end Dm.YtmgehmhebnjaaaaGreatDoor
end
