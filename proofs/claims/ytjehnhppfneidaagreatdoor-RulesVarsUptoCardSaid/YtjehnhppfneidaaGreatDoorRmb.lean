/- Texts that the laws of the seat rest on: an abstract machine, what the functions answer in it, plain laws. -/
import Derived.Test.YtjehnhppfneidaaGreatDoorRma
set_option linter.unusedVariables false
set_option linter.unusedSimpArgs false
set_option linter.unusedSectionVars false
namespace Go.Proofs.YP
open Go
def a126 : AFn := ⟨24, [],
 .seq (.reg [⟨some 5, .box 24 (.t 1), none⟩, ⟨some 6, .box 87 (.t 2), none⟩])
 (.seq (.reg [⟨some 8, .mv (.t 3), none⟩, ⟨some 9, .len false (.t 8), none⟩, ⟨some 10, .bin .num .gtr (.t 9) (.c (.int .i64 0)), none⟩])
 (.cond (.t 10) (.dreg [(⟨some 11, .mv (.t 0), none⟩, 0), (⟨some 12, .fa 1 (.t 6), none⟩, 0), (⟨some 13, .ld none (.t 12), none⟩, 2), (⟨some 14, .mv (.t 3), none⟩, 0), (⟨some 15, .ia 1 (.t 14) (.c (.int .i64 0)), none⟩, 8), (⟨some 16, .ld none (.t 15), none⟩, 24), (⟨some 17, .mv (.t 0), none⟩, 0), (⟨some 18, .fa 2 (.t 5), none⟩, 0), (⟨some 19, .ld none (.t 18), none⟩, 128), (⟨some 20, .call .no 82 [(.t 17), (.t 19)], none⟩, 448), (⟨some 21, .call .full 158 [(.t 16), (.t 20)], none⟩, 1016), (⟨some 22, .bsl true 9 1 [(.int .i64 0), (.int .i64 0), (.int .i64 0), (.int .i64 0), (.int .i64 0), (.int .i64 0), (.int .i64 0), (.str ⟨#[]⟩), .nils] [(0, 9, (.t 21))], none⟩, 2040), (⟨some 23, .call .no 117 [(.t 11), (.t 13), (.t 22)], none⟩, 4095)]) (.skip)))⟩
def a127 : AFn := ⟨37, [],
 .seq (.reg [⟨some 5, .box 24 (.t 1), none⟩, ⟨some 6, .box 87 (.t 2), none⟩])
 (.seq (.seq (.reg [⟨some 11, .mv (.t 3), none⟩, ⟨some 12, .len false (.t 11), none⟩, ⟨some 13, .bin .num .eql (.t 12) (.c (.int .i64 0)), none⟩])
 (.cond (.t 13) (.ret) (.skip)))
 (.seq (.reg [⟨some 15, .mv (.t 0), none⟩, ⟨some 16, .fa 1 (.t 6), none⟩, ⟨some 17, .ld none (.t 16), none⟩, ⟨some 18, .call .no 51 [(.t 15), (.t 17)], none⟩, ⟨some 14, .mv (.t 18), none⟩, ⟨some 19, .ext 0 (.t 14), none⟩, ⟨some 20, .ext 1 (.t 14), none⟩, ⟨some 21, .ext 2 (.t 14), none⟩, ⟨some 8, .mv (.t 19), none⟩, ⟨some 9, .mv (.t 20), none⟩, ⟨some 10, .mv (.t 21), none⟩])
 (.seq (.seq (.reg [⟨some 22, .fa 0 (.t 5), none⟩, ⟨some 23, .ld none (.t 22), none⟩, ⟨some 24, .bin .num .eql (.t 23) (.c (.int .i64 37)), none⟩])
 (.cond (.t 24) (.reg [⟨some 25, .fa 2 (.t 6), none⟩, ⟨some 26, .ld none (.t 25), none⟩, ⟨some 9, .mv (.t 26), none⟩]) (.skip)))
 (.dreg [(⟨some 27, .mv (.t 0), none⟩, 0), (⟨some 28, .fa 1 (.t 6), none⟩, 0), (⟨some 29, .ld none (.t 28), none⟩, 2), (⟨some 30, .mv (.t 3), none⟩, 0), (⟨some 31, .ia 1 (.t 30) (.c (.int .i64 0)), none⟩, 8), (⟨some 32, .ld none (.t 31), none⟩, 24), (⟨some 33, .mv (.t 9), none⟩, 0), (⟨some 34, .call .full 158 [(.t 32), (.t 33)], none⟩, 120), (⟨some 35, .bsl true 9 1 [(.int .i64 0), (.int .i64 0), (.int .i64 0), (.int .i64 0), (.int .i64 0), (.int .i64 0), (.int .i64 0), (.str ⟨#[]⟩), .nils] [(0, 9, (.t 34))], none⟩, 248), (⟨some 36, .call .no 117 [(.t 27), (.t 29), (.t 35)], none⟩, 511)]))))⟩
def a131 : AFn := ⟨25, [.tmp 2],
 .seq (.reg [⟨some 2, .mv (.c (.bool false)), none⟩])
 (.seq (.reg [⟨some 3, .mv (.t 0), none⟩, ⟨some 4, .bin .num .geq (.t 3) (.c (.int .u8 97)), none⟩, ⟨some 5, .mv (.t 4), none⟩, ⟨some 6, .mv (.t 0), (some (5, true))⟩, ⟨some 7, .bin .num .leq (.t 6) (.c (.int .u8 122)), (some (5, true))⟩, ⟨some 8, .pick (.t 5) (.t 7) (.c (.bool false)), none⟩, ⟨some 9, .mv (.t 8), none⟩, ⟨some 10, .mv (.t 0), (some (9, false))⟩, ⟨some 11, .bin .num .geq (.t 10) (.c (.int .u8 65)), (some (9, false))⟩, ⟨some 12, .mv (.t 11), (some (9, false))⟩, ⟨some 13, .mv (.t 0), (some (12, true))⟩, ⟨some 14, .bin .num .leq (.t 13) (.c (.int .u8 90)), (some (12, true))⟩, ⟨some 15, .pick (.t 12) (.t 14) (.c (.bool false)), (some (9, false))⟩, ⟨some 16, .pick (.t 9) (.c (.bool true)) (.t 15), none⟩, ⟨some 17, .mv (.t 16), none⟩, ⟨some 18, .mv (.t 0), (some (17, false))⟩, ⟨some 19, .bin .num .eql (.t 18) (.c (.int .u8 95)), (some (17, false))⟩, ⟨some 20, .pick (.t 17) (.c (.bool true)) (.t 19), none⟩, ⟨some 21, .mv (.t 20), none⟩, ⟨some 22, .mv (.t 0), (some (21, false))⟩, ⟨some 23, .bin .num .eql (.t 22) (.c (.int .u8 36)), (some (21, false))⟩, ⟨some 24, .pick (.t 21) (.c (.bool true)) (.t 23), none⟩, ⟨some 2, .mv (.t 24), none⟩])
 (.ret))⟩
def a132 : AFn := ⟨23, [.tmp 2],
 .seq (.reg [⟨some 2, .mv (.c (.int .i64 0)), none⟩])
 (.seq (.reg [⟨some 3, .mv (.c (.int .i64 0)), none⟩])
 (.seq (.block 0 (.loop (.seq (.seq (.reg [⟨some 4, .mv (.t 3), none⟩, ⟨some 5, .mv (.t 0), none⟩, ⟨some 6, .len true (.t 5), none⟩, ⟨some 7, .bin .num .lss (.t 4) (.t 6), none⟩, ⟨some 8, .mv (.t 7), none⟩, ⟨some 9, .mv (.t 0), (some (8, true))⟩, ⟨some 10, .mv (.t 3), (some (8, true))⟩, ⟨some 11, .ixs (.t 9) (.t 10), (some (8, true))⟩, ⟨some 12, .call .full 131 [(.t 11)], (some (8, true))⟩, ⟨some 13, .mv (.t 12), (some (8, true))⟩, ⟨some 14, .mv (.t 0), (some (13, false))⟩, ⟨some 15, .mv (.t 3), (some (13, false))⟩, ⟨some 16, .ixs (.t 14) (.t 15), (some (13, false))⟩, ⟨some 17, .call .full 159 [(.t 16)], (some (13, false))⟩, ⟨some 18, .pick (.t 13) (.c (.bool true)) (.t 17), (some (8, true))⟩, ⟨some 19, .pick (.t 8) (.t 18) (.c (.bool false)), none⟩])
 (.cond (.t 19) (.skip) (.exit 0)))
 (.block 1 (.reg [⟨some 20, .mv (.t 3), none⟩, ⟨some 21, .bin .num .add (.t 20) (.c (.int .i64 1)), none⟩, ⟨some 3, .mv (.t 21), none⟩])))))
 (.seq (.reg [⟨some 22, .mv (.t 3), none⟩, ⟨some 2, .mv (.t 22), none⟩])
 (.ret))))⟩
def a133 : AFn := ⟨6, [.tmp 2],
 .seq (.reg [⟨some 2, .mv (.c (.bool false)), none⟩])
 (.seq (.reg [⟨some 3, .call .no 160 [], none⟩, ⟨some 4, .mv (.t 0), none⟩, ⟨some 5, .lkp true (.bool false) false (.t 3) (.t 4), none⟩, ⟨some 2, .mv (.t 5), none⟩])
 (.ret))⟩
def a134 : AFn := ⟨9, [.tmp 4],
 .seq (.reg [⟨some 4, .mv (.c (.bool false)), none⟩])
 (.seq (.reg [⟨some 5, .mv (.t 0), none⟩, ⟨some 6, .mv (.t 1), none⟩, ⟨some 7, .call .full 116 [(.t 5), (.t 6)], none⟩, ⟨some 8, .bin .num .geq (.t 7) (.c (.int .i64 0)), none⟩, ⟨some 4, .mv (.t 8), none⟩])
 (.ret))⟩
def a135 : AFn := ⟨106, [.tmp 2],
 .seq (.reg [⟨some 2, .mv (.c .nils), none⟩])
 (.seq (.reg [⟨some 3, .mv (.c (.int .i64 0)), none⟩])
 (.seq (.reg [⟨some 4, .mv (.c (.int .i64 1)), none⟩])
 (.seq (.reg [⟨some 5, .mv (.c (.int .u8 0)), none⟩])
 (.seq (.seq (.reg [⟨some 6, .mv (.c (.int .i64 0)), none⟩])
 (.block 0 (.loop (.seq (.seq (.reg [⟨some 13, .mv (.t 6), none⟩, ⟨some 14, .mv (.t 0), none⟩, ⟨some 15, .len true (.t 14), none⟩, ⟨some 16, .bin .num .lss (.t 13) (.t 15), none⟩])
 (.cond (.t 16) (.skip) (.exit 0)))
 (.seq (.block 1 (.seq (.reg [⟨some 19, .mv (.t 0), none⟩, ⟨some 20, .mv (.t 6), none⟩, ⟨some 21, .ixs (.t 19) (.t 20), none⟩, ⟨some 7, .mv (.t 21), none⟩])
 (.seq (.reg [⟨some 22, .mv (.t 5), none⟩, ⟨some 23, .mv (.t 7), none⟩, ⟨some 24, .bin .num .or (.t 22) (.t 23), none⟩, ⟨some 5, .mv (.t 24), none⟩])
 (.seq (.reg [⟨some 25, .mv (.t 7), none⟩, ⟨some 26, .iaa 256 1 (.g 1) (.t 25), none⟩, ⟨some 27, .ld none (.t 26), none⟩, ⟨some 28, .cvi .i64 (.t 27), none⟩, ⟨some 8, .mv (.t 28), none⟩])
 (.seq (.reg [⟨some 29, .mv (.t 3), none⟩, ⟨some 30, .mv (.t 4), none⟩, ⟨some 31, .mv (.t 8), none⟩, ⟨some 32, .un .xor (.t 31), none⟩, ⟨some 33, .bin .num .and (.t 30) (.t 32), none⟩, ⟨some 34, .bin .num .add (.t 29) (.t 33), none⟩, ⟨some 3, .mv (.t 34), none⟩])
 (.reg [⟨some 35, .mv (.t 8), none⟩, ⟨some 4, .mv (.t 35), none⟩]))))))
 (.reg [⟨some 17, .mv (.t 6), none⟩, ⟨some 18, .bin .num .add (.t 17) (.c (.int .i64 1)), none⟩, ⟨some 6, .mv (.t 18), none⟩]))))))
 (.seq (.seq (.reg [⟨some 36, .mv (.t 5), none⟩, ⟨some 37, .bin .num .geq (.t 36) (.c (.int .u8 128)), none⟩])
 (.cond (.t 37) (.seq (.reg [⟨some 38, .mv (.t 0), none⟩, ⟨some 39, .call .full 161 [(.t 38), (.c (.fn 162 [] []))], none⟩, ⟨some 2, .mv (.t 39), none⟩])
 (.ret)) (.skip)))
 (.seq (.reg [⟨some 40, .mv (.t 3), none⟩, ⟨some 41, .mkh 9 16 [(.str ⟨#[]⟩)] (.t 40) (.t 40), none⟩, ⟨some 9, .mv (.t 41), none⟩])
 (.seq (.reg [⟨some 10, .mv (.c (.int .i64 0)), none⟩])
 (.seq (.reg [⟨some 11, .mv (.c (.int .i64 0)), none⟩])
 (.seq (.reg [⟨some 12, .mv (.c (.int .i64 0)), none⟩])
 (.seq (.block 2 (.loop (.seq (.seq (.reg [⟨some 42, .mv (.t 12), none⟩, ⟨some 43, .mv (.t 0), none⟩, ⟨some 44, .len true (.t 43), none⟩, ⟨some 45, .bin .num .lss (.t 42) (.t 44), none⟩, ⟨some 46, .mv (.t 45), none⟩, ⟨some 47, .mv (.t 0), (some (46, true))⟩, ⟨some 48, .mv (.t 12), (some (46, true))⟩, ⟨some 49, .ixs (.t 47) (.t 48), (some (46, true))⟩, ⟨some 50, .iaa 256 1 (.g 1) (.t 49), (some (46, true))⟩, ⟨some 51, .ld none (.t 50), (some (46, true))⟩, ⟨some 52, .bin .num .neq (.t 51) (.c (.int .u8 0)), (some (46, true))⟩, ⟨some 53, .pick (.t 46) (.t 52) (.c (.bool false)), none⟩])
 (.cond (.t 53) (.skip) (.exit 2)))
 (.block 3 (.reg [⟨some 54, .mv (.t 12), none⟩, ⟨some 55, .bin .num .add (.t 54) (.c (.int .i64 1)), none⟩, ⟨some 12, .mv (.t 55), none⟩])))))
 (.seq (.reg [⟨some 56, .mv (.t 12), none⟩, ⟨some 11, .mv (.t 56), none⟩])
 (.seq (.block 4 (.loop (.seq (.seq (.reg [⟨some 57, .mv (.t 12), none⟩, ⟨some 58, .mv (.t 0), none⟩, ⟨some 59, .len true (.t 58), none⟩, ⟨some 60, .bin .num .lss (.t 57) (.t 59), none⟩])
 (.cond (.t 60) (.skip) (.exit 4)))
 (.block 5 (.seq (.seq (.reg [⟨some 61, .mv (.t 0), none⟩, ⟨some 62, .mv (.t 12), none⟩, ⟨some 63, .ixs (.t 61) (.t 62), none⟩, ⟨some 64, .iaa 256 1 (.g 1) (.t 63), none⟩, ⟨some 65, .ld none (.t 64), none⟩, ⟨some 66, .bin .num .eql (.t 65) (.c (.int .u8 0)), none⟩])
 (.cond (.t 66) (.seq (.reg [⟨some 67, .mv (.t 12), none⟩, ⟨some 68, .bin .num .add (.t 67) (.c (.int .i64 1)), none⟩, ⟨some 12, .mv (.t 68), none⟩])
 (.exit 5)) (.skip)))
 (.seq (.reg [⟨some 69, .mv (.t 9), none⟩, ⟨some 70, .mv (.t 10), none⟩, ⟨some 71, .mv (.t 0), none⟩, ⟨some 72, .mv (.t 11), none⟩, ⟨some 73, .mv (.t 12), none⟩, ⟨some 74, .slc none (.t 71) (some (.t 72)) (some (.t 73)), none⟩, ⟨some 75, .ia 1 (.t 69) (.t 70), none⟩, ⟨none, .st 1 (.t 75) (.t 74), none⟩])
 (.seq (.reg [⟨some 76, .mv (.t 10), none⟩, ⟨some 77, .bin .num .add (.t 76) (.c (.int .i64 1)), none⟩, ⟨some 10, .mv (.t 77), none⟩])
 (.seq (.reg [⟨some 78, .mv (.t 12), none⟩, ⟨some 79, .bin .num .add (.t 78) (.c (.int .i64 1)), none⟩, ⟨some 12, .mv (.t 79), none⟩])
 (.seq (.block 6 (.loop (.seq (.seq (.reg [⟨some 80, .mv (.t 12), none⟩, ⟨some 81, .mv (.t 0), none⟩, ⟨some 82, .len true (.t 81), none⟩, ⟨some 83, .bin .num .lss (.t 80) (.t 82), none⟩, ⟨some 84, .mv (.t 83), none⟩, ⟨some 85, .mv (.t 0), (some (84, true))⟩, ⟨some 86, .mv (.t 12), (some (84, true))⟩, ⟨some 87, .ixs (.t 85) (.t 86), (some (84, true))⟩, ⟨some 88, .iaa 256 1 (.g 1) (.t 87), (some (84, true))⟩, ⟨some 89, .ld none (.t 88), (some (84, true))⟩, ⟨some 90, .bin .num .neq (.t 89) (.c (.int .u8 0)), (some (84, true))⟩, ⟨some 91, .pick (.t 84) (.t 90) (.c (.bool false)), none⟩])
 (.cond (.t 91) (.skip) (.exit 6)))
 (.block 7 (.reg [⟨some 92, .mv (.t 12), none⟩, ⟨some 93, .bin .num .add (.t 92) (.c (.int .i64 1)), none⟩, ⟨some 12, .mv (.t 93), none⟩])))))
 (.reg [⟨some 94, .mv (.t 12), none⟩, ⟨some 11, .mv (.t 94), none⟩]))))))))))
 (.seq (.seq (.reg [⟨some 95, .mv (.t 11), none⟩, ⟨some 96, .mv (.t 0), none⟩, ⟨some 97, .len true (.t 96), none⟩, ⟨some 98, .bin .num .lss (.t 95) (.t 97), none⟩])
 (.cond (.t 98) (.reg [⟨some 99, .mv (.t 9), none⟩, ⟨some 100, .mv (.t 10), none⟩, ⟨some 101, .mv (.t 0), none⟩, ⟨some 102, .mv (.t 11), none⟩, ⟨some 103, .slc none (.t 101) (some (.t 102)) none, none⟩, ⟨some 104, .ia 1 (.t 99) (.t 100), none⟩, ⟨none, .st 1 (.t 104) (.t 103), none⟩]) (.skip)))
 (.seq (.reg [⟨some 105, .frz (.t 9), none⟩, ⟨some 2, .mv (.t 105), none⟩])
 (.ret)))))))))))))))⟩
def a136 : AFn := ⟨5, [.tmp 2],
 .seq (.reg [⟨some 2, .mv (.c (.bool false)), none⟩])
 (.seq (.reg [⟨some 3, .mv (.t 0), none⟩, ⟨some 4, .bin .num .eql (.t 3) (.c (.int .i64 32)), none⟩, ⟨some 2, .mv (.t 4), none⟩])
 (.ret))⟩
def a137 : AFn := ⟨5, [.tmp 2],
 .seq (.reg [⟨some 2, .mv (.c (.bool false)), none⟩])
 (.seq (.reg [⟨some 3, .mv (.t 0), none⟩, ⟨some 4, .call .full 138 [(.t 3)], none⟩, ⟨some 2, .mv (.t 4), none⟩])
 (.ret))⟩
def a138 : AFn := ⟨13, [.tmp 2],
 .seq (.reg [⟨some 2, .mv (.c (.bool false)), none⟩])
 (.seq (.reg [⟨some 3, .mv (.t 0), none⟩, ⟨some 4, .bin .num .geq (.t 3) (.c (.int .i64 1)), none⟩, ⟨some 5, .mv (.t 4), none⟩, ⟨some 6, .mv (.t 0), (some (5, true))⟩, ⟨some 7, .bin .num .leq (.t 6) (.c (.int .i64 23)), (some (5, true))⟩, ⟨some 8, .pick (.t 5) (.t 7) (.c (.bool false)), none⟩, ⟨some 9, .mv (.t 8), none⟩, ⟨some 10, .mv (.t 0), (some (9, true))⟩, ⟨some 11, .bin .num .neq (.t 10) (.c (.int .i64 12)), (some (9, true))⟩, ⟨some 12, .pick (.t 9) (.t 11) (.c (.bool false)), none⟩, ⟨some 2, .mv (.t 12), none⟩])
 (.ret))⟩
def a139 : AFn := ⟨5, [.tmp 2],
 .seq (.reg [⟨some 2, .mv (.c (.bool false)), none⟩])
 (.seq (.reg [⟨some 3, .mv (.t 0), none⟩, ⟨some 4, .bin .num .eql (.t 3) (.c (.int .i64 1)), none⟩, ⟨some 2, .mv (.t 4), none⟩])
 (.ret))⟩
def a140 : AFn := ⟨5, [.tmp 2],
 .seq (.reg [⟨some 2, .mv (.c (.bool false)), none⟩])
 (.seq (.reg [⟨some 3, .mv (.t 0), none⟩, ⟨some 4, .bin .num .eql (.t 3) (.c (.int .i64 12)), none⟩, ⟨some 2, .mv (.t 4), none⟩])
 (.ret))⟩
def a141 : AFn := ⟨9, [.tmp 2],
 .seq (.reg [⟨some 2, .mv (.c (.bool false)), none⟩])
 (.seq (.reg [⟨some 3, .mv (.t 0), none⟩, ⟨some 4, .bin .num .geq (.t 3) (.c (.int .i64 30)), none⟩, ⟨some 5, .mv (.t 4), none⟩, ⟨some 6, .mv (.t 0), (some (5, true))⟩, ⟨some 7, .bin .num .leq (.t 6) (.c (.int .i64 41)), (some (5, true))⟩, ⟨some 8, .pick (.t 5) (.t 7) (.c (.bool false)), none⟩, ⟨some 2, .mv (.t 8), none⟩])
 (.ret))⟩
def a142 : AFn := ⟨13, [.tmp 2],
 .seq (.reg [⟨some 2, .mv (.c (.bool false)), none⟩])
 (.seq (.reg [⟨some 3, .mv (.t 0), none⟩, ⟨some 4, .bin .num .eql (.t 3) (.c (.int .i64 1)), none⟩, ⟨some 5, .mv (.t 4), none⟩, ⟨some 6, .mv (.t 0), (some (5, false))⟩, ⟨some 7, .bin .num .eql (.t 6) (.c (.int .i64 13)), (some (5, false))⟩, ⟨some 8, .pick (.t 5) (.c (.bool true)) (.t 7), none⟩, ⟨some 9, .mv (.t 8), none⟩, ⟨some 10, .mv (.t 0), (some (9, false))⟩, ⟨some 11, .bin .num .eql (.t 10) (.c (.int .i64 14)), (some (9, false))⟩, ⟨some 12, .pick (.t 9) (.c (.bool true)) (.t 11), none⟩, ⟨some 2, .mv (.t 12), none⟩])
 (.ret))⟩
def a143 : AFn := ⟨29, [],
 .seq (.reg [⟨some 2, .box 33 (.t 0), none⟩])
 (.seq (.seq (.reg [⟨some 6, .ld none (.t 2), none⟩, ⟨some 7, .ld (some 5) (.t 1), none⟩, ⟨some 8, .callv .no (.t 6) [(.t 7)], none⟩, ⟨some 9, .un .not (.t 8), none⟩, ⟨some 10, .mv (.t 9), none⟩, ⟨some 11, .ld (some 5) (.t 1), (some (10, false))⟩, ⟨some 12, .call .full 96 [(.t 11)], (some (10, false))⟩, ⟨some 13, .pick (.t 10) (.c (.bool true)) (.t 12), none⟩])
 (.cond (.t 13) (.ret) (.skip)))
 (.seq (.reg [⟨some 14, .fa 3 (.t 1), none⟩, ⟨some 15, .ld none (.t 14), none⟩, ⟨some 16, .len false (.t 15), none⟩, ⟨some 17, .mv (.c (.int .i64 0)), none⟩])
 (.block 0 (.loop (.seq (.reg [⟨some 18, .bin .num .lss (.t 17) (.t 16), none⟩])
 (.seq (.cond (.t 18) (.skip) (.exit 0))
 (.seq (.block 1 (.seq (.reg [⟨some 19, .ia 5 (.t 15) (.t 17), none⟩, ⟨some 20, .ld (some 5) (.t 19), none⟩, ⟨some 4, .alloc 24 [(.int .i64 0), (.str ⟨#[]⟩), (.int .i64 0), .nils, (.int .i64 0)], none⟩, ⟨none, .st 5 (.t 4) (.t 20), none⟩])
 (.seq (.reg [⟨some 21, .ld (some 5) (.t 4), none⟩, ⟨some 22, .call .no 95 [(.t 21)], none⟩])
 (.block 2 (.rf (.t 22) [23] (.reg [⟨some 5, .alloc 24 [(.int .i64 0), (.str ⟨#[]⟩), (.int .i64 0), .nils, (.int .i64 0)], none⟩, ⟨none, .st 5 (.t 5) (.t 23), none⟩]) (.block 3 (.seq (.reg [⟨some 24, .ld none (.t 2), none⟩, ⟨some 25, .ld (some 5) (.t 5), none⟩, ⟨some 26, .callv .no (.t 24) [(.t 25)], none⟩, ⟨some 27, .un .not (.t 26), none⟩])
 (.cond (.t 27) (.ret) (.skip)))))))))
 (.reg [⟨some 28, .bin .num .add (.t 17) (.c (.int .i64 1)), none⟩, ⟨some 17, .mv (.t 28), none⟩]))))))))⟩
def a144 : AFn := ⟨8, [.tmp 2],
 .seq (.reg [⟨some 2, .mv (.c .nils), none⟩])
 (.seq (.seq (.reg [⟨some 3, .mv (.t 0), none⟩, ⟨some 4, .bin .sli .eql (.t 3) (.c .nils), none⟩])
 (.cond (.t 4) (.seq (.reg [⟨some 2, .mv (.c .nils), none⟩])
 (.ret)) (.skip)))
 (.seq (.reg [⟨some 5, .bsl true 5 0 [] [], none⟩, ⟨some 6, .mv (.t 0), none⟩, ⟨some 7, .app 5 64 (.t 5) (.t 6), none⟩, ⟨some 2, .mv (.t 7), none⟩])
 (.ret)))⟩
def a145 : AFn := ⟨16, [.cell 2 (some 5)],
 .seq (.reg [qo 2 (.alloc 24 z5)])
 (.seq (.reg [qv 4 0, qo 5 (.call .no 103 [(.t 4), (qi 0)]), qo 6 (.fld 3 none (.t 5)), qo 7 (.build z5 [(0, 1, (qi 32)), (4, 1, (.t 6))]), qo 3 (.alloc 24 z5), ⟨none, .st 5 (.t 3) (.t 7), none⟩])
 (.seq (.reg [qv 8 0, qo 9 (.call .no 163 [(.t 8), (qs #[123])])])
 (.seq (.reg [qv 10 0, qo 11 (.call .no 73 [(.t 10)]), qf 12 3 3, ⟨none, .st 1 (.t 12) (.t 11), none⟩])
 (.seq (.reg [qv 13 0, qo 14 (.call .no 163 [(.t 13), (qs #[125])])])
 (.seq (.reg [qo 15 (.ld (some 5) (.t 3)), ⟨none, .st 5 (.t 2) (.t 15), none⟩])
 (.ret))))))⟩
def a146 : AFn := ⟨234, [.tmp 6],
 .seq (.reg [qo 6 (.mv (.c (.bool false)))])
 (.seq (.seq (.reg [qv 10 2])
 (.block 0 (.seq (.reg [qo 16 (.bin .str .eql (.t 10) (qs #[118, 97, 114])), qv 15 16])
 (.cond (.t 15) (.seq (.reg [qv 17 0, qn 18 17, qf 19 1 18, ql 20 19, qo 21 (.bin .num .add (.t 20) (qi 1)), qn 22 17, qf 23 1 22, ⟨none, .st 1 (.t 23) (.t 21), none⟩])
 (.seq (.reg [qv 24 1, qn 25 24, qf 26 0 25, ⟨none, .st 1 (.t 26) (qi 30), none⟩])
 (.seq (.reg [qv 27 1, qv 28 0, qo 29 (.call .no 164 [(.t 28)]), qn 30 27, qf 31 1 30, ⟨none, .st 1 (.t 31) (.t 29), none⟩])
 (.seq (.reg [qv 32 0, qo 33 (.call .no 105 [(.t 32), (qs #[61])]), qv 7 33])
 (.seq (.seq (.reg [qv 34 7])
 (.cond (.t 34) (.reg [qv 35 1, qv 36 0, qo 37 (.call .no 147 [(.t 36)]), qo 38 (.bsl true 5 1 z5 [(0, 5, (.t 37))]), qn 39 35, qf 40 3 39, ⟨none, .st 1 (.t 40) (.t 38), none⟩]) (.skip)))
 (.reg [qv 41 0, qo 42 (.call .no 148 [(.t 41)])])))))) (.seq (.reg [qo 44 (.bin .str .eql (.t 10) (qs #[105, 102])), qv 43 44])
 (.cond (.t 43) (.seq (.reg [qv 45 0, qn 46 45, qf 47 1 46, ql 48 47, qo 49 (.bin .num .add (.t 48) (qi 1)), qn 50 45, qf 51 1 50, ⟨none, .st 1 (.t 51) (.t 49), none⟩])
 (.seq (.reg [qv 52 1, qn 53 52, qf 54 0 53, ⟨none, .st 1 (.t 54) (qi 33), none⟩])
 (.seq (.reg [qv 55 1, qv 56 0, qo 57 (.call .no 165 [(.t 56)]), qo 58 (.bsl true 5 1 z5 [(0, 5, (.t 57))]), qn 59 55, qf 60 3 59, ⟨none, .st 1 (.t 60) (.t 58), none⟩])
 (.seq (.bad)
 (.seq (.reg [qv 73 0, qo 74 (.call .no 105 [(.t 73), (qs #[101, 108, 115, 101])]), qv 8 74])
 (.seq (.reg [qv 75 8])
 (.cond (.t 75) (.bad) (.skip)))))))) (.seq (.reg [qo 89 (.bin .str .eql (.t 10) (qs #[119, 104, 105, 108, 101])), qv 88 89])
 (.cond (.t 88) (.seq (.reg [qv 90 0, qn 91 90, qf 92 1 91, ql 93 92, qo 94 (.bin .num .add (.t 93) (qi 1)), qn 95 90, qf 96 1 95, ⟨none, .st 1 (.t 96) (.t 94), none⟩])
 (.seq (.reg [qv 97 1, qn 98 97, qf 99 0 98, ⟨none, .st 1 (.t 99) (qi 34), none⟩])
 (.seq (.reg [qv 100 1, qv 101 0, qo 102 (.call .no 165 [(.t 101)]), qo 103 (.bsl true 5 1 z5 [(0, 5, (.t 102))]), qn 104 100, qf 105 3 104, ⟨none, .st 1 (.t 105) (.t 103), none⟩])
 (.bad)))) (.seq (.reg [qo 119 (.bin .str .eql (.t 10) (qs #[102, 111, 114])), qv 118 119])
 (.cond (.t 118) (.seq (.reg [qv 120 0, qn 121 120, qf 122 1 121, ql 123 122, qo 124 (.bin .num .add (.t 123) (qi 1)), qn 125 120, qf 126 1 125, ⟨none, .st 1 (.t 126) (.t 124), none⟩])
 (.seq (.reg [qv 127 1, qn 128 127, qf 129 0 128, ⟨none, .st 1 (.t 129) (qi 35), none⟩])
 (.seq (.reg [qv 130 0, qo 131 (.call .no 163 [(.t 130), (qs #[40])])])
 (.seq (.reg [qv 132 0, qo 133 (.call .no 105 [(.t 132), (qs #[118, 97, 114])]), qv 9 133])
 (.seq (.seq (.reg [qv 134 9, qo 135 (.un .not (.t 134))])
 (.cond (.t 135) (.seq (.seq (.reg [qv 136 0, qo 137 (.call .no 103 [(.t 136), (qi 0)]), qo 138 (.fld 0 none (.t 137)), qo 139 (.bin .num .eql (.t 138) (qi 0))])
 (.cond (.t 139) (.reg [qv 140 0, qo 141 (.call .full 74 [(.t 140), (.c (.bool false))])]) (.skip)))
 (.reg [qv 142 0, qo 143 (.call .no 107 [(.t 142), (qi 47)])])) (.skip)))
 (.seq (.reg [qv 144 1, qv 145 0, qo 146 (.call .no 164 [(.t 145)]), qn 147 144, qf 148 1 147, ⟨none, .st 1 (.t 148) (.t 146), none⟩])
 (.seq (.reg [qv 149 0, qo 150 (.call .no 163 [(.t 149), (qs #[105, 110])])])
 (.seq (.reg [qv 151 1, qv 152 0, qo 153 (.call .no 147 [(.t 152)]), qo 154 (.bsl true 5 1 z5 [(0, 5, (.t 153))]), qn 155 151, qf 156 3 155, ⟨none, .st 1 (.t 156) (.t 154), none⟩])
 (.seq (.reg [qv 157 0, qo 158 (.call .no 163 [(.t 157), (qs #[41])])])
 (.bad)))))))))) (.seq (.reg [qo 172 (.bin .str .eql (.t 10) (qs #[116, 114, 121])), qv 171 172])
 (.cond (.t 171) (.seq (.reg [qv 173 0, qn 174 173, qf 175 1 174, ql 176 175, qo 177 (.bin .num .add (.t 176) (qi 1)), qn 178 173, qf 179 1 178, ⟨none, .st 1 (.t 179) (.t 177), none⟩])
 (.seq (.reg [qv 180 1, qn 181 180, qf 182 0 181, ⟨none, .st 1 (.t 182) (qi 38), none⟩])
 (.seq (.reg [qv 183 1, qv 184 0, qo 185 (.call .no 145 [(.t 184)]), qo 186 (.bsl true 5 1 z5 [(0, 5, (.t 185))]), qn 187 183, qf 188 3 187, ⟨none, .st 1 (.t 188) (.t 186), none⟩])
 (.seq (.reg [qv 189 0, qo 190 (.call .no 163 [(.t 189), (qs #[99, 97, 116, 99, 104])])])
 (.seq (.reg [qv 191 0, qo 192 (.call .no 163 [(.t 191), (qs #[40])])])
 (.seq (.reg [qv 193 1, qv 194 0, qo 195 (.call .no 164 [(.t 194)]), qn 196 193, qf 197 1 196, ⟨none, .st 1 (.t 197) (.t 195), none⟩])
 (.seq (.reg [qv 198 0, qo 199 (.call .no 163 [(.t 198), (qs #[41])])])
 (.bad)))))))) (.seq (.reg [qo 213 (.bin .str .eql (.t 10) (qs #[102, 117, 110, 99, 116, 105, 111, 110])), qv 212 213])
 (.cond (.t 212) (.seq (.reg [qv 214 0, qn 215 214, qf 216 1 215, ql 217 216, qo 218 (.bin .num .add (.t 217) (qi 1)), qn 219 214, qf 220 1 219, ⟨none, .st 1 (.t 220) (.t 218), none⟩])
 (.seq (.reg [qv 221 1, qn 222 221, qf 223 0 222, ⟨none, .st 1 (.t 223) (qi 41), none⟩])
 (.seq (.reg [qv 224 1, qv 225 0, qo 226 (.call .no 164 [(.t 225)]), qn 227 224, qf 228 1 227, ⟨none, .st 1 (.t 228) (.t 226), none⟩])
 (.reg [qv 229 1, qv 230 0, qo 231 (.call .no 167 [(.t 230)]), qn 232 229, qf 233 3 232, ⟨none, .st 1 (.t 233) (.t 231), none⟩])))) (.seq (.reg [qv 11 0, qv 12 1, qv 13 2, qo 14 (.call .no 168 [(.t 11), (.t 12), (.t 13)]), qv 6 14])
 (.ret))))))))))))))))
 (.seq (.reg [qo 6 (.mv (.c (.bool true)))])
 (.ret)))⟩
def a147 : AFn := ⟨52, [.cell 2 (some 5)],
 .seq (.reg [qo 2 (.alloc 24 z5)])
 (.seq (.reg [qv 8 0, qo 9 (.call .no 104 [(.t 8), (qs #[40])]), qo 10 (.un .not (.t 9)), qv 3 10])
 (.seq (.reg [qv 11 0, qn 12 11, qf 13 1 12, ql 14 13, qv 4 14])
 (.seq (.reg [qv 15 0, qo 16 (.call .no 169 [(.t 15)]), qo 5 (.alloc 24 z5), ⟨none, .st 5 (.t 5) (.t 16), none⟩])
 (.seq (.reg [qf 17 0 5, ql 18 17, qo 19 (.bin .num .eql (.t 18) (qi 1)), qv 20 19, qg 21 (.fa 0 (.t 5)) 20 false, qg 22 (.ld none (.t 21)) 20 false, qg 23 (.bin .num .eql (.t 22) (qi 13)) 20 false, qo 24 (.pick (.t 20) (.c (.bool true)) (.t 23)), qv 25 24, qg 26 (.fa 0 (.t 5)) 25 false, qg 27 (.ld none (.t 26)) 25 false, qg 28 (.bin .num .eql (.t 27) (qi 14)) 25 false, qo 29 (.pick (.t 25) (.c (.bool true)) (.t 28)), qv 6 29])
 (.seq (.seq (.reg [qv 30 3, qo 31 (.un .not (.t 30)), qv 32 31, qg 33 (.mv (.t 0)) 32 true, qg 34 (.mv (.t 4)) 32 true, qg 35 (.call .no 170 [(.t 33), (.t 34)]) 32 true, qo 36 (.pick (.t 32) (.t 35) (.c (.bool false)))])
 (.cond (.t 36) (.reg [qo 6 (.mv (.c (.bool false)))]) (.skip)))
 (.seq (.reg [qv 37 6, qv 38 37, qg 39 (.mv (.t 0)) 38 true, qg 40 (.call .no 105 [(.t 39), (qs #[61])]) 38 true, qo 41 (.pick (.t 38) (.t 40) (.c (.bool false))), qv 7 41])
 (.seq (.seq (.reg [qv 42 7, qo 43 (.un .not (.t 42))])
 (.cond (.t 43) (.seq (.reg [qo 44 (.ld (some 5) (.t 5)), ⟨none, .st 5 (.t 2) (.t 44), none⟩])
 (.ret)) (.skip)))
 (.seq (.dreg [(qf 45 4 5, 0), (ql 46 45, 1), (qo 47 (.ld (some 5) (.t 5)), 0), (qv 48 0, 0), (qo 49 (.call .no 147 [(.t 48)]), 8), (qo 50 (.bsl true 5 2 [(.int .i64 0), (.str ⟨#[]⟩), (.int .i64 0), .nils, (.int .i64 0), (.int .i64 0), (.str ⟨#[]⟩), (.int .i64 0), .nils, (.int .i64 0)] [(0, 5, (.t 47)), (5, 5, (.t 49))]), 28), (qo 51 (.build z5 [(0, 1, (qi 17)), (4, 1, (.t 46)), (3, 1, (.t 50))]), 63), (⟨none, .st 5 (.t 2) (.t 51), none⟩, 127)])
 (.ret)))))))))⟩
def a148 : AFn := ⟨37, [],
 .seq (.reg [qv 4 0, qo 5 (.call .no 103 [(.t 4), (qi 0)]), qo 2 (.alloc 130 z6), ⟨none, .st 5 (.t 2) (.t 5), none⟩])
 (.seq (.reg [qv 6 0, qo 7 (.call .no 105 [(.t 6), (qs #[59])]), qv 3 7])
 (.seq (.seq (.reg [qv 8 3, qv 9 8, qg 10 (.mv (.t 0)) 9 false, qg 11 (.nck (.t 10)) 9 false, qg 12 (.fa 2 (.t 11)) 9 false, qg 13 (.ld none (.t 12)) 9 false, qg 14 (.bin .num .neq (.t 13) (qi 0)) 9 false, qo 15 (.pick (.t 9) (.c (.bool true)) (.t 14)), qv 16 15, qg 17 (.fa 0 (.t 2)) 16 false, qg 18 (.ld none (.t 17)) 16 false, qg 19 (.bin .num .eql (.t 18) (qi 0)) 16 false, qo 20 (.pick (.t 16) (.c (.bool true)) (.t 19)), qv 21 20, qg 22 (.fa 4 (.t 2)) 21 false, qg 23 (.ld none (.t 22)) 21 false, qo 24 (.pick (.t 21) (.c (.bool true)) (.t 23)), qv 25 24, qg 26 (.fa 0 (.t 2)) 25 false, qg 27 (.ld none (.t 26)) 25 false, qg 28 (.bin .num .eql (.t 27) (qi 5)) 25 false, qg 29 (.mv (.t 28)) 25 false, qg 30 (.fa 1 (.t 2)) 29 true, qg 31 (.ld none (.t 30)) 29 true, qg 32 (.bin .str .eql (.t 31) (qs #[125])) 29 true, qg 33 (.pick (.t 29) (.t 32) (.c (.bool false))) 25 false, qo 34 (.pick (.t 25) (.c (.bool true)) (.t 33))])
 (.cond (.t 34) (.ret) (.skip)))
 (.reg [qv 35 0, qo 36 (.call .full 74 [(.t 35), (.c (.bool false))])])))⟩
def a149 : AFn := ⟨25, [.tmp 2],
 .seq (.reg [⟨some 2, .mv (.c (.bool false)), none⟩])
 (.seq (.reg [⟨some 3, .mv (.t 0), none⟩, ⟨some 4, .bin .num .geq (.t 3) (.c (.int .u8 97)), none⟩, ⟨some 5, .mv (.t 4), none⟩, ⟨some 6, .mv (.t 0), (some (5, true))⟩, ⟨some 7, .bin .num .leq (.t 6) (.c (.int .u8 122)), (some (5, true))⟩, ⟨some 8, .pick (.t 5) (.t 7) (.c (.bool false)), none⟩, ⟨some 9, .mv (.t 8), none⟩, ⟨some 10, .mv (.t 0), (some (9, false))⟩, ⟨some 11, .bin .num .geq (.t 10) (.c (.int .u8 65)), (some (9, false))⟩, ⟨some 12, .mv (.t 11), (some (9, false))⟩, ⟨some 13, .mv (.t 0), (some (12, true))⟩, ⟨some 14, .bin .num .leq (.t 13) (.c (.int .u8 90)), (some (12, true))⟩, ⟨some 15, .pick (.t 12) (.t 14) (.c (.bool false)), (some (9, false))⟩, ⟨some 16, .pick (.t 9) (.c (.bool true)) (.t 15), none⟩, ⟨some 17, .mv (.t 16), none⟩, ⟨some 18, .mv (.t 0), (some (17, false))⟩, ⟨some 19, .bin .num .eql (.t 18) (.c (.int .u8 95)), (some (17, false))⟩, ⟨some 20, .pick (.t 17) (.c (.bool true)) (.t 19), none⟩, ⟨some 21, .mv (.t 20), none⟩, ⟨some 22, .mv (.t 0), (some (21, false))⟩, ⟨some 23, .bin .num .eql (.t 22) (.c (.int .u8 36)), (some (21, false))⟩, ⟨some 24, .pick (.t 21) (.c (.bool true)) (.t 23), none⟩, ⟨some 2, .mv (.t 24), none⟩])
 (.ret))⟩
def a150 : AFn := ⟨28, [.tmp 4],
 .seq (.reg [qo 4 (.mv (qi 0))])
 (.seq (.reg [qo 5 (.mv (qi 0))])
 (.seq (.block 0 (.loop (.seq (.seq (.reg [qv 6 5, qv 7 0, qo 8 (.len true (.t 7)), qo 9 (.bin .num .lss (.t 6) (.t 8)), qv 10 9, qg 11 (.mv (.t 0)) 10 true, qg 12 (.mv (.t 5)) 10 true, qg 13 (.ixs (.t 11) (.t 12)) 10 true, qg 14 (.call .full 152 [(.t 13)]) 10 true, qg 15 (.mv (.t 14)) 10 true, qg 16 (.mv (.t 1)) 15 false, qg 17 (.mv (.t 16)) 15 false, qg 18 (.mv (.t 0)) 17 true, qg 19 (.mv (.t 5)) 17 true, qg 20 (.ixs (.t 18) (.t 19)) 17 true, qg 21 (.call .full 149 [(.t 20)]) 17 true, qg 22 (.pick (.t 17) (.t 21) (.c (.bool false))) 15 false, qg 23 (.pick (.t 15) (.c (.bool true)) (.t 22)) 10 true, qo 24 (.pick (.t 10) (.t 23) (.c (.bool false)))])
 (.cond (.t 24) (.skip) (.exit 0)))
 (.block 1 (.reg [qv 25 5, qo 26 (.bin .num .add (.t 25) (qi 1)), qv 5 26])))))
 (.seq (.reg [qv 27 5, qv 4 27])
 (.ret))))⟩
def a151 : AFn := ⟨31, [.tmp 2],
 .seq (.reg [⟨some 2, .mv (.c (.bool false)), none⟩])
 (.seq (.reg [⟨some 6, .call .full 171 [], none⟩, ⟨some 3, .mv (.t 6), none⟩])
 (.seq (.reg [⟨some 4, .mv (.c (.int .i64 0)), none⟩])
 (.seq (.seq (.reg [⟨some 5, .mv (.c (.int .i64 0)), none⟩])
 (.block 0 (.loop (.seq (.seq (.reg [⟨some 7, .mv (.t 5), none⟩, ⟨some 8, .mv (.t 3), none⟩, ⟨some 9, .len true (.t 8), none⟩, ⟨some 10, .bin .num .leq (.t 7) (.t 9), none⟩])
 (.cond (.t 10) (.skip) (.exit 0)))
 (.seq (.block 1 (.seq (.seq (.reg [⟨some 13, .mv (.t 5), none⟩, ⟨some 14, .mv (.t 3), none⟩, ⟨some 15, .len true (.t 14), none⟩, ⟨some 16, .bin .num .lss (.t 13) (.t 15), none⟩, ⟨some 17, .mv (.t 16), none⟩, ⟨some 18, .mv (.t 3), (some (17, true))⟩, ⟨some 19, .mv (.t 5), (some (17, true))⟩, ⟨some 20, .ixs (.t 18) (.t 19), (some (17, true))⟩, ⟨some 21, .bin .num .neq (.t 20) (.c (.int .u8 32)), (some (17, true))⟩, ⟨some 22, .pick (.t 17) (.t 21) (.c (.bool false)), none⟩])
 (.cond (.t 22) (.exit 1) (.skip)))
 (.seq (.seq (.reg [⟨some 23, .mv (.t 3), none⟩, ⟨some 24, .mv (.t 4), none⟩, ⟨some 25, .mv (.t 5), none⟩, ⟨some 26, .slc none (.t 23) (some (.t 24)) (some (.t 25)), none⟩, ⟨some 27, .mv (.t 0), none⟩, ⟨some 28, .bin .str .eql (.t 26) (.t 27), none⟩])
 (.cond (.t 28) (.seq (.reg [⟨some 2, .mv (.c (.bool true)), none⟩])
 (.ret)) (.skip)))
 (.reg [⟨some 29, .mv (.t 5), none⟩, ⟨some 30, .bin .num .add (.t 29) (.c (.int .i64 1)), none⟩, ⟨some 4, .mv (.t 30), none⟩]))))
 (.reg [⟨some 11, .mv (.t 5), none⟩, ⟨some 12, .bin .num .add (.t 11) (.c (.int .i64 1)), none⟩, ⟨some 5, .mv (.t 12), none⟩]))))))
 (.seq (.reg [⟨some 2, .mv (.c (.bool false)), none⟩])
 (.ret)))))⟩
def a152 : AFn := ⟨9, [.tmp 2],
 .seq (.reg [⟨some 2, .mv (.c (.bool false)), none⟩])
 (.seq (.reg [⟨some 3, .mv (.t 0), none⟩, ⟨some 4, .bin .num .geq (.t 3) (.c (.int .u8 48)), none⟩, ⟨some 5, .mv (.t 4), none⟩, ⟨some 6, .mv (.t 0), (some (5, true))⟩, ⟨some 7, .bin .num .leq (.t 6) (.c (.int .u8 57)), (some (5, true))⟩, ⟨some 8, .pick (.t 5) (.t 7) (.c (.bool false)), none⟩, ⟨some 2, .mv (.t 8), none⟩])
 (.ret))⟩
def a153 : AFn := ⟨34, [.tmp 2, .tmp 3],
 .seq (.reg [qo 2 (.mv (qi 0)), qo 3 (.mv (.c (.bool false)))])
 (.seq (.seq (.reg [qv 6 0, qo 7 (.len true (.t 6)), qo 8 (.bin .num .gtr (.t 7) (qi 15)), qv 9 8, qg 10 (.mv (.t 0)) 9 false, qg 11 (.len true (.t 10)) 9 false, qg 12 (.bin .num .gtr (.t 11) (qi 1)) 9 false, qg 13 (.mv (.t 12)) 9 false, qg 14 (.mv (.t 0)) 13 true, qg 15 (.ixs (.t 14) (qi 0)) 13 true, qg 16 (.bin .num .eql (.t 15) (.c (.int .u8 48))) 13 true, qg 17 (.pick (.t 13) (.t 16) (.c (.bool false))) 9 false, qo 18 (.pick (.t 9) (.c (.bool true)) (.t 17))])
 (.cond (.t 18) (.seq (.reg [qo 2 (.mv (qi 0)), qo 3 (.mv (.c (.bool false)))])
 (.ret)) (.skip)))
 (.seq (.reg [qo 4 (.mv (qi 0))])
 (.seq (.seq (.reg [qo 5 (.mv (qi 0))])
 (.block 0 (.loop (.seq (.seq (.reg [qv 19 5, qv 20 0, qo 21 (.len true (.t 20)), qo 22 (.bin .num .lss (.t 19) (.t 21))])
 (.cond (.t 22) (.skip) (.exit 0)))
 (.seq (.block 1 (.reg [qv 25 4, qo 26 (.bin .num .mul (qi 10) (.t 25)), qv 27 0, qv 28 5, qo 29 (.ixs (.t 27) (.t 28)), qo 30 (.bin .num .sub (.t 29) (.c (.int .u8 48))), qo 31 (.cvi .i64 (.t 30)), qo 32 (.bin .num .add (.t 26) (.t 31)), qv 4 32]))
 (.reg [qv 23 5, qo 24 (.bin .num .add (.t 23) (qi 1)), qv 5 24]))))))
 (.seq (.reg [qv 33 4, qv 2 33, qo 3 (.mv (.c (.bool true)))])
 (.ret)))))⟩
def a154 : AFn := ⟨66, [.tmp 2, .tmp 3],
 .seq (.reg [qo 2 (.mv (qs #[])), qo 3 (.mv (qi 0))])
 (.seq (.reg [qo 4 (.mv (.c .nils))])
 (.seq (.reg [qo 5 (.mv (qi 1))])
 (.seq (.block 0 (.loop (.seq (.seq (.dreg [(qv 8 5, 0), (qv 9 0, 0), (qo 10 (.len true (.t 9)), 2), (qo 11 (.bin .num .lss (.t 8) (.t 10)), 7), (qv 12 11, 15), (qg 13 (.mv (.t 0)) 12 true, 31), (qg 14 (.mv (.t 5)) 12 true, 31), (qg 15 (.ixs (.t 13) (.t 14)) 12 true, 127), (qg 16 (.mv (.t 0)) 12 true, 31), (qg 17 (.ixs (.t 16) (qi 0)) 12 true, 287), (qg 18 (.bin .num .neq (.t 15) (.t 17)) 12 true, 1023), (qo 19 (.pick (.t 12) (.t 18) (.c (.bool false))), 2047)])
 (.cond (.t 19) (.skip) (.exit 0)))
 (.block 1 (.seq (.seq (.reg [qv 20 0, qv 21 5, qo 22 (.ixs (.t 20) (.t 21)), qo 23 (.bin .num .lss (.t 22) (.c (.int .u8 32))), qv 24 23, qg 25 (.mv (.t 0)) 24 false, qg 26 (.mv (.t 5)) 24 false, qg 27 (.ixs (.t 25) (.t 26)) 24 false, qg 28 (.bin .num .gtr (.t 27) (.c (.int .u8 126))) 24 false, qo 29 (.pick (.t 24) (.c (.bool true)) (.t 28))])
 (.cond (.t 29) (.seq (.reg [qo 2 (.mv (qs #[])), qo 3 (.mv (qi 0))])
 (.ret)) (.skip)))
 (.seq (.seq (.reg [qv 30 0, qv 31 5, qo 32 (.ixs (.t 30) (.t 31)), qo 33 (.bin .num .neq (.t 32) (.c (.int .u8 92)))])
 (.cond (.t 33) (.seq (.reg [qv 34 4, qv 35 0, qv 36 5, qo 37 (.ixs (.t 35) (.t 36)), qo 38 (.bsl true 1 1 [(.int .u8 0)] [(0, 1, (.t 37))]), qo 39 (.app 1 1 (.t 34) (.t 38)), qv 4 39])
 (.seq (.reg [qv 40 5, qo 41 (.bin .num .add (.t 40) (qi 1)), qv 5 41])
 (.exit 1))) (.skip)))
 (.seq (.reg [qv 43 0, qv 44 5, qo 45 (.slc none (.t 43) (some (.t 44)) none), qo 46 (.call .full 172 [(.t 45)]), qv 42 46, qo 47 (.ext 0 (.t 42)), qo 48 (.ext 1 (.t 42)), qv 6 47, qv 7 48])
 (.seq (.seq (.reg [qv 49 7, qo 50 (.bin .num .eql (.t 49) (qi 0))])
 (.cond (.t 50) (.seq (.reg [qo 2 (.mv (qs #[])), qo 3 (.mv (qi 0))])
 (.ret)) (.skip)))
 (.seq (.reg [qv 51 4, qv 52 6, qo 53 (.bsl true 1 1 [(.int .u8 0)] [(0, 1, (.t 52))]), qo 54 (.app 1 1 (.t 51) (.t 53)), qv 4 54])
 (.reg [qv 55 5, qv 56 7, qo 57 (.bin .num .add (.t 55) (.t 56)), qv 5 57]))))))))))
 (.seq (.seq (.reg [qv 58 5, qv 59 0, qo 60 (.len true (.t 59)), qo 61 (.bin .num .geq (.t 58) (.t 60))])
 (.cond (.t 61) (.seq (.reg [qo 2 (.mv (qs #[])), qo 3 (.mv (qi 0))])
 (.ret)) (.skip)))
 (.seq (.reg [qv 62 4, qo 63 (.cvs (.t 62)), qv 64 5, qo 65 (.bin .num .add (.t 64) (qi 1)), qv 2 63, qv 3 65])
 (.ret))))))⟩
def a155 : AFn := ⟨55, [.tmp 2],
 .seq (.reg [qo 2 (.mv (qi 0))])
 (.seq (.seq (.reg [qv 3 0, qo 4 (.len true (.t 3)), qo 5 (.bin .num .geq (.t 4) (qi 3)), qv 6 5, qg 7 (.mv (.t 0)) 6 true, qg 8 (.slc none (.t 7) none (some (qi 3))) 6 true, qg 9 (.bin .str .eql (.t 8) (qs #[61, 61, 61])) 6 true, qg 10 (.mv (.t 9)) 6 true, qg 11 (.mv (.t 0)) 10 false, qg 12 (.slc none (.t 11) none (some (qi 3))) 10 false, qg 13 (.bin .str .eql (.t 12) (qs #[33, 61, 61])) 10 false, qg 14 (.pick (.t 10) (.c (.bool true)) (.t 13)) 6 true, qo 15 (.pick (.t 6) (.t 14) (.c (.bool false)))])
 (.cond (.t 15) (.seq (.reg [qo 2 (.mv (qi 3))])
 (.ret)) (.skip)))
 (.seq (.seq (.reg [qv 16 0, qo 17 (.len true (.t 16)), qo 18 (.bin .num .geq (.t 17) (qi 2)), qv 19 18, qg 20 (.mv (.t 0)) 19 true, qg 21 (.slc none (.t 20) none (some (qi 2))) 19 true, qg 22 (.bin .str .eql (.t 21) (qs #[60, 61])) 19 true, qg 23 (.mv (.t 22)) 19 true, qg 24 (.mv (.t 0)) 23 false, qg 25 (.slc none (.t 24) none (some (qi 2))) 23 false, qg 26 (.bin .str .eql (.t 25) (qs #[38, 38])) 23 false, qg 27 (.pick (.t 23) (.c (.bool true)) (.t 26)) 19 true, qg 28 (.mv (.t 27)) 19 true, qg 29 (.mv (.t 0)) 28 false, qg 30 (.slc none (.t 29) none (some (qi 2))) 28 false, qg 31 (.bin .str .eql (.t 30) (qs #[124, 124])) 28 false, qg 32 (.pick (.t 28) (.c (.bool true)) (.t 31)) 19 true, qo 33 (.pick (.t 19) (.t 32) (.c (.bool false)))])
 (.cond (.t 33) (.seq (.reg [qo 2 (.mv (qi 2))])
 (.ret)) (.skip)))
 (.seq (.seq (.reg [qv 34 0, qo 35 (.ixs (.t 34) (qi 0))])
 (.block 0 (.seq (.seq (.reg [qo 37 (.bin .num .eql (.t 35) (.c (.int .u8 123))), qv 36 37])
 (.cond (.t 36) (.skip) (.seq (.reg [qo 38 (.bin .num .eql (.t 35) (.c (.int .u8 125))), qv 36 38])
 (.cond (.t 36) (.skip) (.seq (.reg [qo 39 (.bin .num .eql (.t 35) (.c (.int .u8 40))), qv 36 39])
 (.cond (.t 36) (.skip) (.seq (.reg [qo 40 (.bin .num .eql (.t 35) (.c (.int .u8 41))), qv 36 40])
 (.cond (.t 36) (.skip) (.seq (.reg [qo 41 (.bin .num .eql (.t 35) (.c (.int .u8 91))), qv 36 41])
 (.cond (.t 36) (.skip) (.seq (.reg [qo 42 (.bin .num .eql (.t 35) (.c (.int .u8 93))), qv 36 42])
 (.cond (.t 36) (.skip) (.seq (.reg [qo 43 (.bin .num .eql (.t 35) (.c (.int .u8 46))), qv 36 43])
 (.cond (.t 36) (.skip) (.seq (.reg [qo 44 (.bin .num .eql (.t 35) (.c (.int .u8 59))), qv 36 44])
 (.cond (.t 36) (.skip) (.seq (.reg [qo 45 (.bin .num .eql (.t 35) (.c (.int .u8 44))), qv 36 45])
 (.cond (.t 36) (.skip) (.seq (.reg [qo 46 (.bin .num .eql (.t 35) (.c (.int .u8 58))), qv 36 46])
 (.cond (.t 36) (.skip) (.seq (.reg [qo 47 (.bin .num .eql (.t 35) (.c (.int .u8 63))), qv 36 47])
 (.cond (.t 36) (.skip) (.seq (.reg [qo 48 (.bin .num .eql (.t 35) (.c (.int .u8 60))), qv 36 48])
 (.cond (.t 36) (.skip) (.seq (.reg [qo 49 (.bin .num .eql (.t 35) (.c (.int .u8 61))), qv 36 49])
 (.cond (.t 36) (.skip) (.seq (.reg [qo 50 (.bin .num .eql (.t 35) (.c (.int .u8 33))), qv 36 50])
 (.cond (.t 36) (.skip) (.seq (.reg [qo 51 (.bin .num .eql (.t 35) (.c (.int .u8 43))), qv 36 51])
 (.cond (.t 36) (.skip) (.seq (.reg [qo 52 (.bin .num .eql (.t 35) (.c (.int .u8 45))), qv 36 52])
 (.cond (.t 36) (.skip) (.seq (.reg [qo 53 (.bin .num .eql (.t 35) (.c (.int .u8 42))), qv 36 53])
 (.cond (.t 36) (.skip) (.reg [qo 54 (.bin .num .eql (.t 35) (.c (.int .u8 47))), qv 36 54])))))))))))))))))))))))))))))))))))
 (.cond (.t 36) (.seq (.reg [qo 2 (.mv (qi 1))])
 (.ret)) (.skip)))))
 (.seq (.reg [qo 2 (.mv (qi 0))])
 (.ret)))))⟩
def a156 : AFn := ⟨12, [.tmp 2],
 .seq (.reg [⟨some 2, .mv (.c (.bool false)), none⟩])
 (.seq (.seq (.reg [⟨some 3, .mv (.t 0), none⟩])
 (.block 0 (.seq (.seq (.reg [⟨some 5, .bin .str .eql (.t 3) (.c (.str ⟨#[43]⟩)), none⟩, ⟨some 4, .mv (.t 5), none⟩])
 (.cond (.t 4) (.skip) (.seq (.reg [⟨some 6, .bin .str .eql (.t 3) (.c (.str ⟨#[45]⟩)), none⟩, ⟨some 4, .mv (.t 6), none⟩])
 (.cond (.t 4) (.skip) (.seq (.reg [⟨some 7, .bin .str .eql (.t 3) (.c (.str ⟨#[42]⟩)), none⟩, ⟨some 4, .mv (.t 7), none⟩])
 (.cond (.t 4) (.skip) (.seq (.reg [⟨some 8, .bin .str .eql (.t 3) (.c (.str ⟨#[60]⟩)), none⟩, ⟨some 4, .mv (.t 8), none⟩])
 (.cond (.t 4) (.skip) (.seq (.reg [⟨some 9, .bin .str .eql (.t 3) (.c (.str ⟨#[60, 61]⟩)), none⟩, ⟨some 4, .mv (.t 9), none⟩])
 (.cond (.t 4) (.skip) (.seq (.reg [⟨some 10, .bin .str .eql (.t 3) (.c (.str ⟨#[61, 61, 61]⟩)), none⟩, ⟨some 4, .mv (.t 10), none⟩])
 (.cond (.t 4) (.skip) (.reg [⟨some 11, .bin .str .eql (.t 3) (.c (.str ⟨#[33, 61, 61]⟩)), none⟩, ⟨some 4, .mv (.t 11), none⟩])))))))))))))
 (.cond (.t 4) (.seq (.reg [⟨some 2, .mv (.c (.bool true)), none⟩])
 (.ret)) (.skip)))))
 (.seq (.reg [⟨some 2, .mv (.c (.bool false)), none⟩])
 (.ret)))⟩
def a157 : AFn := ⟨25, [],
 .seq (.reg [⟨some 2, .box 33 (.t 0), none⟩])
 (.seq (.seq (.reg [⟨some 6, .ld none (.t 2), none⟩, ⟨some 7, .ld (some 5) (.t 1), none⟩, ⟨some 8, .callv .no (.t 6) [(.t 7)], none⟩, ⟨some 9, .un .not (.t 8), none⟩])
 (.cond (.t 9) (.ret) (.skip)))
 (.seq (.reg [⟨some 10, .fa 3 (.t 1), none⟩, ⟨some 11, .ld none (.t 10), none⟩, ⟨some 12, .len false (.t 11), none⟩, ⟨some 13, .mv (.c (.int .i64 0)), none⟩])
 (.block 0 (.loop (.seq (.reg [⟨some 14, .bin .num .lss (.t 13) (.t 12), none⟩])
 (.seq (.cond (.t 14) (.skip) (.exit 0))
 (.seq (.block 1 (.seq (.reg [⟨some 15, .ia 5 (.t 11) (.t 13), none⟩, ⟨some 16, .ld (some 5) (.t 15), none⟩, ⟨some 4, .alloc 24 [(.int .i64 0), (.str ⟨#[]⟩), (.int .i64 0), .nils, (.int .i64 0)], none⟩, ⟨none, .st 5 (.t 4) (.t 16), none⟩])
 (.seq (.reg [⟨some 17, .ld (some 5) (.t 4), none⟩, ⟨some 18, .call .no 115 [(.t 17)], none⟩])
 (.block 2 (.rf (.t 18) [19] (.reg [⟨some 5, .alloc 24 [(.int .i64 0), (.str ⟨#[]⟩), (.int .i64 0), .nils, (.int .i64 0)], none⟩, ⟨none, .st 5 (.t 5) (.t 19), none⟩]) (.block 3 (.seq (.reg [⟨some 20, .ld none (.t 2), none⟩, ⟨some 21, .ld (some 5) (.t 5), none⟩, ⟨some 22, .callv .no (.t 20) [(.t 21)], none⟩, ⟨some 23, .un .not (.t 22), none⟩])
 (.cond (.t 23) (.ret) (.skip)))))))))
 (.reg [⟨some 24, .bin .num .add (.t 13) (.c (.int .i64 1)), none⟩, ⟨some 13, .mv (.t 24), none⟩]))))))))⟩
def a158 : AFn := ⟨8, [.cell 4 (some 9)],
 .seq (.reg [⟨some 4, .alloc 55 [(.int .i64 0), (.int .i64 0), (.int .i64 0), (.int .i64 0), (.int .i64 0), (.int .i64 0), (.int .i64 0), (.str ⟨#[]⟩), .nils], none⟩])
 (.seq (.reg [⟨some 5, .mv (.t 0), none⟩, ⟨some 6, .mv (.t 1), none⟩, ⟨some 7, .build [(.int .i64 0), (.int .i64 0), (.int .i64 0), (.int .i64 0), (.int .i64 0), (.int .i64 0), (.int .i64 0), (.str ⟨#[]⟩), .nils] [(0, 1, (.c (.int .i64 3))), (2, 1, (.t 5)), (3, 1, (.t 6))], none⟩, ⟨none, .st 9 (.t 4) (.t 7), none⟩])
 (.ret))⟩
def a159 : AFn := ⟨9, [.tmp 2],
 .seq (.reg [⟨some 2, .mv (.c (.bool false)), none⟩])
 (.seq (.reg [⟨some 3, .mv (.t 0), none⟩, ⟨some 4, .bin .num .geq (.t 3) (.c (.int .u8 48)), none⟩, ⟨some 5, .mv (.t 4), none⟩, ⟨some 6, .mv (.t 0), (some (5, true))⟩, ⟨some 7, .bin .num .leq (.t 6) (.c (.int .u8 57)), (some (5, true))⟩, ⟨some 8, .pick (.t 5) (.t 7) (.c (.bool false)), none⟩, ⟨some 2, .mv (.t 8), none⟩])
 (.ret))⟩
def a160 : AFn := ⟨9, [.tmp 0],
 .seq (.reg [⟨some 0, .mv (.c .nilm), none⟩])
 (.seq (.reg [⟨some 3, .mkm, none⟩, ⟨some 1, .alloc 198 [.nilm], none⟩, ⟨none, .st 1 (.t 1) (.t 3), none⟩])
 (.seq (.seq (.reg [⟨some 4, .call .no 173 [(.c (.str ⟨#[98, 114, 101, 97, 107, 32, 99, 97, 115, 101, 32, 99, 97, 116, 99, 104, 32, 99, 111, 110, 116, 105, 110, 117, 101, 32, 100, 101, 98, 117, 103, 103, 101, 114, 32, 100, 101, 102, 97, 117, 108, 116, 32, 100, 101, 108, 101, 116, 101, 32, 100, 111, 32, 101, 108, 115, 101, 32, 102, 105, 110, 97, 108, 108, 121, 32, 102, 111, 114, 32, 102, 117, 110, 99, 116, 105, 111, 110, 32, 105, 102, 32, 105, 110, 32, 105, 110, 115, 116, 97, 110, 99, 101, 111, 102, 32, 110, 101, 119, 32, 114, 101, 116, 117, 114, 110, 32, 115, 119, 105, 116, 99, 104, 32, 116, 104, 105, 115, 32, 116, 104, 114, 111, 119, 32, 116, 114, 121, 32, 116, 121, 112, 101, 111, 102, 32, 118, 97, 114, 32, 118, 111, 105, 100, 32, 119, 104, 105, 108, 101, 32, 119, 105, 116, 104, 32, 110, 117, 108, 108, 32, 116, 114, 117, 101, 32, 102, 97, 108, 115, 101, 32, 117, 110, 100, 101, 102, 105, 110, 101, 100, 32, 105, 110, 112, 117, 116]⟩))], none⟩])
 (.block 0 (.rf (.t 4) [5] (.reg [⟨some 2, .mv (.t 5), none⟩]) (.block 1 (.reg [⟨some 6, .ld none (.t 1), none⟩, ⟨some 7, .mv (.t 2), none⟩, ⟨none, .upd true (.t 6) (.t 7) (.c (.bool true)), none⟩])))))
 (.seq (.reg [⟨some 8, .ld none (.t 1), none⟩, ⟨some 0, .mv (.t 8), none⟩])
 (.ret))))⟩
def a163 : AFn := ⟨19, [],
 .seq (.reg [qv 5 0, qv 6 1, qo 7 (.call .no 105 [(.t 5), (.t 6)]), qv 4 7])
 (.seq (.reg [qv 8 4, qo 9 (.un .not (.t 8)), qv 10 9, qg 11 (.mv (.t 0)) 10 true, qg 12 (.nck (.t 11)) 10 true, qg 13 (.fa 2 (.t 12)) 10 true, qg 14 (.ld none (.t 13)) 10 true, qg 15 (.bin .num .eql (.t 14) (qi 0)) 10 true, qo 16 (.pick (.t 10) (.t 15) (.c (.bool false)))])
 (.cond (.t 16) (.reg [qv 17 0, qo 18 (.call .full 74 [(.t 17), (.c (.bool false))])]) (.skip)))⟩
def a164 : AFn := ⟨27, [.tmp 2],
 .seq (.reg [qo 2 (.mv (qs #[]))])
 (.seq (.reg [qv 4 0, qo 5 (.call .no 103 [(.t 4), (qi 0)]), qo 3 (.alloc 130 z6), ⟨none, .st 5 (.t 3) (.t 5), none⟩])
 (.seq (.seq (.reg [qv 6 0, qn 7 6, qf 8 2 7, ql 9 8, qo 10 (.bin .num .neq (.t 9) (qi 0)), qv 11 10, qg 12 (.fa 0 (.t 3)) 11 false, qg 13 (.ld none (.t 12)) 11 false, qg 14 (.bin .num .neq (.t 13) (qi 1)) 11 false, qo 15 (.pick (.t 11) (.c (.bool true)) (.t 14))])
 (.cond (.t 15) (.seq (.reg [qv 16 0, qo 17 (.call .full 74 [(.t 16), (.c (.bool false))])])
 (.seq (.reg [qo 2 (.mv (qs #[]))])
 (.ret))) (.skip)))
 (.seq (.reg [qv 18 0, qn 19 18, qf 20 1 19, ql 21 20, qo 22 (.bin .num .add (.t 21) (qi 1)), qn 23 18, qf 24 1 23, ⟨none, .st 1 (.t 24) (.t 22), none⟩])
 (.seq (.reg [qf 25 1 3, ql 26 25, qv 2 26])
 (.ret)))))⟩
def a165 : AFn := ⟨11, [.cell 2 (some 5)],
 .seq (.reg [qo 2 (.alloc 24 z5)])
 (.seq (.reg [qv 4 0, qo 5 (.call .no 163 [(.t 4), (qs #[40])])])
 (.seq (.reg [qv 6 0, qo 7 (.call .no 147 [(.t 6)]), qo 3 (.alloc 24 z5), ⟨none, .st 5 (.t 3) (.t 7), none⟩])
 (.seq (.reg [qv 8 0, qo 9 (.call .no 163 [(.t 8), (qs #[41])])])
 (.seq (.reg [qo 10 (.ld (some 5) (.t 3)), ⟨none, .st 5 (.t 2) (.t 10), none⟩])
 (.ret)))))⟩
def a167 : AFn := ⟨40, [.tmp 2],
 .seq (.reg [qo 2 (.mv (.c .nils))])
 (.seq (.reg [qo 3 (.mv (.c .nils))])
 (.seq (.reg [qv 7 0, qo 8 (.call .no 163 [(.t 7), (qs #[40])])])
 (.seq (.reg [qv 9 0, qo 10 (.call .no 104 [(.t 9), (qs #[41])]), qv 4 10])
 (.seq (.reg [qv 11 4, qo 12 (.un .not (.t 11)), qv 5 12])
 (.seq (.block 0 (.loop (.seq (.seq (.reg [qv 13 0, qn 14 13, qf 15 2 14, ql 16 15, qo 17 (.bin .num .eql (.t 16) (qi 0)), qv 18 17, qg 19 (.mv (.t 5)) 18 true, qo 20 (.pick (.t 18) (.t 19) (.c (.bool false)))])
 (.cond (.t 20) (.skip) (.exit 0)))
 (.block 1 (.seq (.reg [qv 21 0, qo 22 (.call .no 103 [(.t 21), (qi 0)]), qo 23 (.fld 3 none (.t 22)), qv 6 23])
 (.seq (.reg [qv 24 3, qv 25 0, qo 26 (.call .no 164 [(.t 25)]), qv 27 6, qo 28 (.build z5 [(0, 1, (qi 1)), (1, 1, (.t 26)), (4, 1, (.t 27))]), qo 29 (.bsl true 5 1 z5 [(0, 5, (.t 28))]), qo 30 (.app 5 64 (.t 24) (.t 29)), qv 3 30])
 (.reg [qv 31 0, qo 32 (.call .no 105 [(.t 31), (qs #[44])]), qv 5 32])))))))
 (.seq (.reg [qv 33 0, qo 34 (.call .no 163 [(.t 33), (qs #[41])])])
 (.seq (.reg [qv 35 3, qv 36 0, qo 37 (.call .no 145 [(.t 36)]), qo 38 (.bsl true 5 1 z5 [(0, 5, (.t 37))]), qo 39 (.app 5 64 (.t 35) (.t 38)), qv 2 39])
 (.ret))))))))⟩
def a168 : AFn := ⟨108, [.tmp 6],
 .seq (.reg [qo 6 (.mv (.c (.bool false)))])
 (.seq (.seq (.reg [qv 8 2])
 (.block 0 (.seq (.reg [qo 10 (.bin .str .eql (.t 8) (qs #[114, 101, 116, 117, 114, 110])), qv 9 10])
 (.cond (.t 9) (.seq (.reg [qv 11 0, qn 12 11, qf 13 1 12, ql 14 13, qo 15 (.bin .num .add (.t 14) (qi 1)), qn 16 11, qf 17 1 16, ⟨none, .st 1 (.t 17) (.t 15), none⟩])
 (.seq (.reg [qv 18 1, qn 19 18, qf 20 0 19, ⟨none, .st 1 (.t 20) (qi 36), none⟩])
 (.seq (.reg [qv 21 0, qo 22 (.call .no 103 [(.t 21), (qi 0)]), qo 7 (.alloc 130 z6), ⟨none, .st 5 (.t 7) (.t 22), none⟩])
 (.seq (.seq (.reg [qf 23 0 7, ql 24 23, qo 25 (.bin .num .neq (.t 24) (qi 0)), qv 26 25, qg 27 (.fa 4 (.t 7)) 26 true, qg 28 (.ld none (.t 27)) 26 true, qg 29 (.un .not (.t 28)) 26 true, qo 30 (.pick (.t 26) (.t 29) (.c (.bool false))), qv 31 30, qg 32 (.fa 0 (.t 7)) 31 true, qg 33 (.ld none (.t 32)) 31 true, qg 34 (.bin .num .eql (.t 33) (qi 5)) 31 true, qg 35 (.mv (.t 34)) 31 true, qg 36 (.fa 1 (.t 7)) 35 true, qg 37 (.ld none (.t 36)) 35 true, qg 38 (.bin .str .eql (.t 37) (qs #[59])) 35 true, qg 39 (.mv (.t 38)) 35 true, qg 40 (.fa 1 (.t 7)) 39 false, qg 41 (.ld none (.t 40)) 39 false, qg 42 (.bin .str .eql (.t 41) (qs #[125])) 39 false, qg 43 (.pick (.t 39) (.c (.bool true)) (.t 42)) 35 true, qg 44 (.pick (.t 35) (.t 43) (.c (.bool false))) 31 true, qg 45 (.un .not (.t 44)) 31 true, qo 46 (.pick (.t 31) (.t 45) (.c (.bool false)))])
 (.cond (.t 46) (.reg [qv 47 1, qv 48 0, qo 49 (.call .no 147 [(.t 48)]), qo 50 (.bsl true 5 1 z5 [(0, 5, (.t 49))]), qn 51 47, qf 52 3 51, ⟨none, .st 1 (.t 52) (.t 50), none⟩]) (.skip)))
 (.reg [qv 53 0, qo 54 (.call .no 148 [(.t 53)])]))))) (.seq (.reg [qo 56 (.bin .str .eql (.t 8) (qs #[116, 104, 114, 111, 119])), qv 55 56])
 (.cond (.t 55) (.seq (.reg [qv 57 0, qn 58 57, qf 59 1 58, ql 60 59, qo 61 (.bin .num .add (.t 60) (qi 1)), qn 62 57, qf 63 1 62, ⟨none, .st 1 (.t 63) (.t 61), none⟩])
 (.seq (.reg [qv 64 1, qn 65 64, qf 66 0 65, ⟨none, .st 1 (.t 66) (qi 37), none⟩])
 (.seq (.seq (.reg [qv 67 0, qo 68 (.call .no 103 [(.t 67), (qi 0)]), qo 69 (.fld 4 none (.t 68))])
 (.cond (.t 69) (.reg [qv 70 0, qo 71 (.call .full 74 [(.t 70), (.c (.bool false))])]) (.skip)))
 (.seq (.reg [qv 72 1, qv 73 0, qo 74 (.call .no 147 [(.t 73)]), qo 75 (.bsl true 5 1 z5 [(0, 5, (.t 74))]), qn 76 72, qf 77 3 76, ⟨none, .st 1 (.t 77) (.t 75), none⟩])
 (.reg [qv 78 0, qo 79 (.call .no 148 [(.t 78)])]))))) (.seq (.reg [qo 81 (.bin .str .eql (.t 8) (qs #[98, 114, 101, 97, 107])), qv 80 81])
 (.cond (.t 80) (.seq (.reg [qv 82 0, qn 83 82, qf 84 1 83, ql 85 84, qo 86 (.bin .num .add (.t 85) (qi 1)), qn 87 82, qf 88 1 87, ⟨none, .st 1 (.t 88) (.t 86), none⟩])
 (.seq (.reg [qv 89 1, qn 90 89, qf 91 0 90, ⟨none, .st 1 (.t 91) (qi 39), none⟩])
 (.reg [qv 92 0, qo 93 (.call .no 148 [(.t 92)])]))) (.seq (.reg [qo 95 (.bin .str .eql (.t 8) (qs #[99, 111, 110, 116, 105, 110, 117, 101])), qv 94 95])
 (.cond (.t 94) (.seq (.reg [qv 96 0, qn 97 96, qf 98 1 97, ql 99 98, qo 100 (.bin .num .add (.t 99) (qi 1)), qn 101 96, qf 102 1 101, ⟨none, .st 1 (.t 102) (.t 100), none⟩])
 (.seq (.reg [qv 103 1, qn 104 103, qf 105 0 104, ⟨none, .st 1 (.t 105) (qi 40), none⟩])
 (.reg [qv 106 0, qo 107 (.call .no 148 [(.t 106)])]))) (.seq (.reg [qo 6 (.mv (.c (.bool false)))])
 (.ret))))))))))))
 (.seq (.reg [qo 6 (.mv (.c (.bool true)))])
 (.ret)))⟩
def a169 : AFn := ⟨25, [.cell 2 (some 5)],
 .seq (.reg [qo 2 (.alloc 24 z5)])
 (.seq (.reg [qv 6 0, qo 7 (.call .no 175 [(.t 6), (qi 0)]), qo 3 (.alloc 24 z5), ⟨none, .st 5 (.t 3) (.t 7), none⟩])
 (.seq (.reg [qv 8 0, qo 9 (.call .no 105 [(.t 8), (qs #[63])]), qv 4 9])
 (.seq (.seq (.reg [qv 10 4, qo 11 (.un .not (.t 10))])
 (.cond (.t 11) (.seq (.reg [qo 12 (.ld (some 5) (.t 3)), ⟨none, .st 5 (.t 2) (.t 12), none⟩])
 (.ret)) (.skip)))
 (.seq (.reg [qv 13 0, qo 14 (.call .no 147 [(.t 13)]), qo 5 (.alloc 24 z5), ⟨none, .st 5 (.t 5) (.t 14), none⟩])
 (.seq (.reg [qv 15 0, qo 16 (.call .no 163 [(.t 15), (qs #[58])])])
 (.seq (.dreg [(qf 17 4 3, 0), (ql 18 17, 1), (qo 19 (.ld (some 5) (.t 3)), 0), (qo 20 (.ld (some 5) (.t 5)), 0), (qv 21 0, 0), (qo 22 (.call .no 147 [(.t 21)]), 16), (qo 23 (.bsl true 5 3 [(.int .i64 0), (.str ⟨#[]⟩), (.int .i64 0), .nils, (.int .i64 0), (.int .i64 0), (.str ⟨#[]⟩), (.int .i64 0), .nils, (.int .i64 0), (.int .i64 0), (.str ⟨#[]⟩), (.int .i64 0), .nils, (.int .i64 0)] [(0, 5, (.t 19)), (5, 5, (.t 20)), (10, 5, (.t 22))]), 60), (qo 24 (.build z5 [(0, 1, (qi 23)), (4, 1, (.t 18)), (3, 1, (.t 23))]), 127), (⟨none, .st 5 (.t 2) (.t 24), none⟩, 255)])
 (.ret)))))))⟩
def a170 : AFn := ⟨54, [.tmp 4],
 .seq (.reg [qo 4 (.mv (.c (.bool false)))])
 (.seq (.reg [qo 5 (.mv (qi 0))])
 (.seq (.seq (.reg [qv 7 1, qv 6 7])
 (.block 0 (.loop (.seq (.seq (.reg [qv 8 6, qv 9 0, qn 10 9, qf 11 1 10, ql 12 11, qo 13 (.bin .num .lss (.t 8) (.t 12))])
 (.cond (.t 13) (.skip) (.exit 0)))
 (.seq (.block 1 (.seq (.seq (.reg [qv 16 0, qn 17 16, qf 18 0 17, ql 19 18, qv 20 6, qo 21 (.ia 5 (.t 19) (.t 20)), qf 22 0 21, ql 23 22, qo 24 (.bin .num .neq (.t 23) (qi 5))])
 (.cond (.t 24) (.exit 1) (.skip)))
 (.seq (.seq (.reg [qv 25 0, qn 26 25, qf 27 0 26, ql 28 27, qv 29 6, qo 30 (.ia 5 (.t 28) (.t 29)), qf 31 1 30, ql 32 31])
 (.block 2 (.seq (.seq (.reg [qo 34 (.bin .str .eql (.t 32) (qs #[40])), qv 33 34])
 (.cond (.t 33) (.skip) (.seq (.reg [qo 35 (.bin .str .eql (.t 32) (qs #[91])), qv 33 35])
 (.cond (.t 33) (.skip) (.reg [qo 36 (.bin .str .eql (.t 32) (qs #[123])), qv 33 36])))))
 (.cond (.t 33) (.reg [qv 37 5, qo 38 (.bin .num .add (.t 37) (qi 1)), qv 5 38]) (.seq (.seq (.reg [qo 40 (.bin .str .eql (.t 32) (qs #[41])), qv 39 40])
 (.cond (.t 39) (.skip) (.seq (.reg [qo 41 (.bin .str .eql (.t 32) (qs #[93])), qv 39 41])
 (.cond (.t 39) (.skip) (.reg [qo 42 (.bin .str .eql (.t 32) (qs #[125])), qv 39 42])))))
 (.cond (.t 39) (.reg [qv 43 5, qo 44 (.bin .num .sub (.t 43) (qi 1)), qv 5 44]) (.skip)))))))
 (.seq (.reg [qv 45 5, qo 46 (.bin .num .eql (.t 45) (qi 0))])
 (.cond (.t 46) (.seq (.reg [qv 47 6, qv 48 0, qn 49 48, qf 50 1 49, ql 51 50, qo 52 (.bin .num .sub (.t 51) (qi 1)), qo 53 (.bin .num .eql (.t 47) (.t 52)), qv 4 53])
 (.ret)) (.skip))))))
 (.reg [qv 14 6, qo 15 (.bin .num .add (.t 14) (qi 1)), qv 6 15]))))))
 (.seq (.reg [qo 4 (.mv (.c (.bool false)))])
 (.ret))))⟩
def a171 : AFn := ⟨1, [.tmp 0],
 .seq (.reg [⟨some 0, .mv (.c (.str ⟨#[]⟩)), none⟩])
 (.seq (.reg [⟨some 0, .mv (.c (.str ⟨#[98, 114, 101, 97, 107, 32, 99, 97, 115, 101, 32, 99, 97, 116, 99, 104, 32, 99, 111, 110, 116, 105, 110, 117, 101, 32, 100, 101, 98, 117, 103, 103, 101, 114, 32, 100, 101, 102, 97, 117, 108, 116, 32, 100, 101, 108, 101, 116, 101, 32, 100, 111, 32, 101, 108, 115, 101, 32, 102, 105, 110, 97, 108, 108, 121, 32, 102, 111, 114, 32, 102, 117, 110, 99, 116, 105, 111, 110, 32, 105, 102, 32, 105, 110, 32, 105, 110, 115, 116, 97, 110, 99, 101, 111, 102, 32, 110, 101, 119, 32, 114, 101, 116, 117, 114, 110, 32, 115, 119, 105, 116, 99, 104, 32, 116, 104, 105, 115, 32, 116, 104, 114, 111, 119, 32, 116, 114, 121, 32, 116, 121, 112, 101, 111, 102, 32, 118, 97, 114, 32, 118, 111, 105, 100, 32, 119, 104, 105, 108, 101, 32, 119, 105, 116, 104, 32, 110, 117, 108, 108, 32, 116, 114, 117, 101, 32, 102, 97, 108, 115, 101, 32, 117, 110, 100, 101, 102, 105, 110, 101, 100, 32, 105, 110, 112, 117, 116]⟩)), none⟩])
 (.ret))⟩
def a172 : AFn := ⟨45, [.tmp 2, .tmp 3],
 .seq (.reg [qo 2 (.mv (.c (.int .u8 0))), qo 3 (.mv (qi 0))])
 (.seq (.seq (.reg [qv 4 0, qo 5 (.len true (.t 4)), qo 6 (.bin .num .lss (.t 5) (qi 2))])
 (.cond (.t 6) (.seq (.reg [qo 2 (.mv (.c (.int .u8 0))), qo 3 (.mv (qi 0))])
 (.ret)) (.skip)))
 (.seq (.seq (.reg [qv 7 0, qo 8 (.ixs (.t 7) (qi 1))])
 (.block 0 (.seq (.reg [qo 10 (.bin .num .eql (.t 8) (.c (.int .u8 110))), qv 9 10])
 (.cond (.t 9) (.seq (.reg [qo 2 (.mv (.c (.int .u8 10))), qo 3 (.mv (qi 2))])
 (.ret)) (.seq (.reg [qo 12 (.bin .num .eql (.t 8) (.c (.int .u8 116))), qv 11 12])
 (.cond (.t 11) (.seq (.reg [qo 2 (.mv (.c (.int .u8 9))), qo 3 (.mv (qi 2))])
 (.ret)) (.seq (.seq (.reg [qo 14 (.bin .num .eql (.t 8) (.c (.int .u8 92))), qv 13 14])
 (.cond (.t 13) (.skip) (.seq (.reg [qo 15 (.bin .num .eql (.t 8) (.c (.int .u8 34))), qv 13 15])
 (.cond (.t 13) (.skip) (.reg [qo 16 (.bin .num .eql (.t 8) (.c (.int .u8 39))), qv 13 16])))))
 (.cond (.t 13) (.seq (.reg [qv 17 0, qo 18 (.ixs (.t 17) (qi 1)), qv 2 18, qo 3 (.mv (qi 2))])
 (.ret)) (.seq (.reg [qo 20 (.bin .num .eql (.t 8) (.c (.int .u8 120))), qv 19 20])
 (.cond (.t 19) (.seq (.reg [qv 21 0, qo 22 (.len true (.t 21)), qo 23 (.bin .num .geq (.t 22) (qi 4)), qv 24 23, qg 25 (.mv (.t 0)) 24 true, qg 26 (.ixs (.t 25) (qi 2)) 24 true, qg 27 (.call .full 176 [(.t 26)]) 24 true, qg 28 (.bin .num .geq (.t 27) (qi 0)) 24 true, qo 29 (.pick (.t 24) (.t 28) (.c (.bool false))), qv 30 29, qg 31 (.mv (.t 0)) 30 true, qg 32 (.ixs (.t 31) (qi 3)) 30 true, qg 33 (.call .full 176 [(.t 32)]) 30 true, qg 34 (.bin .num .geq (.t 33) (qi 0)) 30 true, qo 35 (.pick (.t 30) (.t 34) (.c (.bool false)))])
 (.cond (.t 35) (.seq (.dreg [(qv 36 0, 0), (qo 37 (.ixs (.t 36) (qi 2)), 1), (qo 38 (.call .full 176 [(.t 37)]), 3), (qo 39 (.bin .num .mul (qi 16) (.t 38)), 7), (qv 40 0, 0), (qo 41 (.ixs (.t 40) (qi 3)), 16), (qo 42 (.call .full 176 [(.t 41)]), 55), (qo 43 (.bin .num .add (.t 39) (.t 42)), 127), (qo 44 (.cvi .u8 (.t 43)), 255), (qv 2 44, 511), (qo 3 (.mv (qi 4)), 1023)])
 (.ret)) (.skip))) (.skip)))))))))))
 (.seq (.reg [qo 2 (.mv (.c (.int .u8 0))), qo 3 (.mv (qi 0))])
 (.ret))))⟩
def a173 : AFn := ⟨4, [.tmp 2],
 .seq (.reg [⟨some 1, .box 9 (.t 0), none⟩, ⟨some 2, .mv (.c .nilf), none⟩])
 (.seq (.reg [⟨some 3, .mkf 177 [] [(.t 1)], none⟩, ⟨some 2, .mv (.t 3), none⟩])
 (.ret))⟩
def a175 : AFn := ⟨71, [.cell 4 (some 5)],
 .seq (.reg [qo 4 (.alloc 24 z5)])
 (.seq (.seq (.reg [qv 12 1, qo 13 (.bin .num .eql (.t 12) (qi 6))])
 (.cond (.t 13) (.seq (.reg [qv 14 0, qo 15 (.call .no 181 [(.t 14)]), ⟨none, .st 5 (.t 4) (.t 15), none⟩])
 (.ret)) (.skip)))
 (.seq (.reg [qv 16 0, qv 17 1, qo 18 (.bin .num .add (.t 17) (qi 1)), qo 19 (.call .no 175 [(.t 16), (.t 18)]), qo 5 (.alloc 24 z5), ⟨none, .st 5 (.t 5) (.t 19), none⟩])
 (.seq (.block 0 (.loop (.seq (.seq (.reg [qv 20 0, qn 21 20, qf 22 2 21, ql 23 22, qo 24 (.bin .num .eql (.t 23) (qi 0))])
 (.cond (.t 24) (.skip) (.exit 0)))
 (.block 1 (.seq (.reg [qo 6 (.mv (qs #[]))])
 (.seq (.reg [qv 25 1, qo 26 (.call .full 182 [(.t 25)]), qv 7 26])
 (.seq (.seq (.reg [qo 8 (.mv (qi 0))])
 (.block 2 (.loop (.seq (.seq (.reg [qv 27 8, qv 28 7, qo 29 (.len false (.t 28)), qo 30 (.bin .num .lss (.t 27) (.t 29)), qv 31 30, qg 32 (.mv (.t 6)) 31 true, qg 33 (.bin .str .eql (.t 32) (qs #[])) 31 true, qo 34 (.pick (.t 31) (.t 33) (.c (.bool false)))])
 (.cond (.t 34) (.skip) (.exit 2)))
 (.seq (.block 3 (.seq (.reg [qv 37 0, qv 38 7, qv 39 8, qo 40 (.ia 1 (.t 38) (.t 39)), ql 41 40, qo 42 (.call .no 105 [(.t 37), (.t 41)]), qv 9 42])
 (.seq (.reg [qv 43 9])
 (.cond (.t 43) (.reg [qv 44 7, qv 45 8, qo 46 (.ia 1 (.t 44) (.t 45)), ql 47 46, qv 6 47]) (.skip)))))
 (.reg [qv 35 8, qo 36 (.bin .num .add (.t 35) (qi 1)), qv 8 36]))))))
 (.seq (.seq (.reg [qv 48 6, qo 49 (.bin .str .eql (.t 48) (qs #[]))])
 (.cond (.t 49) (.exit 0) (.skip)))
 (.seq (.reg [qv 50 0, qv 51 1, qo 52 (.bin .num .add (.t 51) (qi 1)), qo 53 (.call .no 175 [(.t 50), (.t 52)]), qo 10 (.alloc 24 z5), ⟨none, .st 5 (.t 10) (.t 53), none⟩])
 (.seq (.reg [qv 54 6, qf 55 4 5, ql 56 55, qo 57 (.ld (some 5) (.t 5)), qo 58 (.ld (some 5) (.t 10)), qo 59 (.bsl true 5 2 [(.int .i64 0), (.str ⟨#[]⟩), (.int .i64 0), .nils, (.int .i64 0), (.int .i64 0), (.str ⟨#[]⟩), (.int .i64 0), .nils, (.int .i64 0)] [(0, 5, (.t 57)), (5, 5, (.t 58))]), qo 60 (.build z5 [(0, 1, (qi 18)), (1, 1, (.t 54)), (4, 1, (.t 56)), (3, 1, (.t 59))]), qo 11 (.alloc 24 z5), ⟨none, .st 5 (.t 11) (.t 60), none⟩])
 (.seq (.seq (.reg [qv 61 1, qo 62 (.bin .num .eql (.t 61) (qi 0))])
 (.cond (.t 62) (.seq (.reg [qf 63 0 11, ⟨none, .st 1 (.t 63) (qi 22), none⟩])
 (.reg [qf 64 1 11, ⟨none, .st 1 (.t 64) (qs #[]), none⟩])) (.skip)))
 (.seq (.seq (.reg [qv 65 1, qo 66 (.bin .num .eql (.t 65) (qi 1))])
 (.cond (.t 66) (.seq (.reg [qf 67 0 11, ⟨none, .st 1 (.t 67) (qi 21), none⟩])
 (.reg [qf 68 1 11, ⟨none, .st 1 (.t 68) (qs #[]), none⟩])) (.skip)))
 (.reg [qo 69 (.ld (some 5) (.t 11)), ⟨none, .st 5 (.t 5) (.t 69), none⟩])))))))))))))
 (.seq (.reg [qo 70 (.ld (some 5) (.t 5)), ⟨none, .st 5 (.t 4) (.t 70), none⟩])
 (.ret)))))⟩
def a176 : AFn := ⟨18, [.tmp 2],
 .seq (.reg [qo 2 (.mv (qi 0))])
 (.seq (.seq (.reg [qv 3 0, qo 4 (.call .full 152 [(.t 3)])])
 (.cond (.t 4) (.seq (.reg [qv 5 0, qo 6 (.bin .num .sub (.t 5) (.c (.int .u8 48))), qo 7 (.cvi .i64 (.t 6)), qv 2 7])
 (.ret)) (.skip)))
 (.seq (.seq (.reg [qv 8 0, qo 9 (.bin .num .geq (.t 8) (.c (.int .u8 97))), qv 10 9, qg 11 (.mv (.t 0)) 10 true, qg 12 (.bin .num .leq (.t 11) (.c (.int .u8 102))) 10 true, qo 13 (.pick (.t 10) (.t 12) (.c (.bool false)))])
 (.cond (.t 13) (.seq (.reg [qv 14 0, qo 15 (.bin .num .sub (.t 14) (.c (.int .u8 97))), qo 16 (.cvi .i64 (.t 15)), qo 17 (.bin .num .add (.t 16) (qi 10)), qv 2 17])
 (.ret)) (.skip)))
 (.seq (.reg [qo 2 (.mv (.c (.int .i64 (-1))))])
 (.ret))))⟩
def a177 : AFn := ⟨56, [],
 .seq (.reg [⟨some 3, .mv (.c (.int .i64 (-1))), none⟩])
 (.seq (.seq (.reg [⟨some 4, .mv (.c (.int .i64 0)), none⟩])
 (.block 0 (.loop (.seq (.seq (.reg [⟨some 8, .mv (.t 4), none⟩, ⟨some 9, .ld none (.t 1), none⟩, ⟨some 10, .len true (.t 9), none⟩, ⟨some 11, .bin .num .lss (.t 8) (.t 10), none⟩])
 (.cond (.t 11) (.skip) (.exit 0)))
 (.block 1 (.seq (.reg [⟨some 5, .mv (.c (.int .i64 1)), none⟩])
 (.seq (.reg [⟨some 12, .ld none (.t 1), none⟩, ⟨some 13, .mv (.t 4), none⟩, ⟨some 14, .ixs (.t 12) (.t 13), none⟩, ⟨some 15, .cvi .i32 (.t 14), none⟩, ⟨some 6, .mv (.t 15), none⟩])
 (.seq (.reg [⟨some 16, .ld none (.t 1), none⟩, ⟨some 17, .mv (.t 4), none⟩, ⟨some 18, .ixs (.t 16) (.t 17), none⟩, ⟨some 19, .iaa 256 1 (.g 1) (.t 18), none⟩, ⟨some 20, .ld none (.t 19), none⟩, ⟨some 21, .bin .num .neq (.t 20) (.c (.int .u8 0)), none⟩, ⟨some 7, .mv (.t 21), none⟩])
 (.seq (.seq (.reg [⟨some 22, .mv (.t 6), none⟩, ⟨some 23, .bin .num .geq (.t 22) (.c (.int .i32 128)), none⟩])
 (.cond (.t 23) (.seq (.reg [⟨some 25, .ld none (.t 1), none⟩, ⟨some 26, .mv (.t 4), none⟩, ⟨some 27, .slc none (.t 25) (some (.t 26)) none, none⟩, ⟨some 28, .call .full 178 [(.t 27)], none⟩, ⟨some 24, .mv (.t 28), none⟩, ⟨some 29, .ext 0 (.t 24), none⟩, ⟨some 30, .ext 1 (.t 24), none⟩, ⟨some 6, .mv (.t 29), none⟩, ⟨some 5, .mv (.t 30), none⟩])
 (.reg [⟨some 31, .mv (.t 6), none⟩, ⟨some 32, .call .full 162 [(.t 31)], none⟩, ⟨some 7, .mv (.t 32), none⟩])) (.skip)))
 (.seq (.seq (.reg [⟨some 33, .mv (.t 7), none⟩])
 (.cond (.t 33) (.seq (.reg [⟨some 34, .mv (.t 3), none⟩, ⟨some 35, .bin .num .geq (.t 34) (.c (.int .i64 0)), none⟩])
 (.cond (.t 35) (.seq (.seq (.reg [⟨some 36, .mv (.t 0), none⟩, ⟨some 37, .ld none (.t 1), none⟩, ⟨some 38, .mv (.t 3), none⟩, ⟨some 39, .mv (.t 4), none⟩, ⟨some 40, .slc none (.t 37) (some (.t 38)) (some (.t 39)), none⟩, ⟨some 41, .callv .no (.t 36) [(.t 40)], none⟩, ⟨some 42, .un .not (.t 41), none⟩])
 (.cond (.t 42) (.ret) (.skip)))
 (.reg [⟨some 3, .mv (.c (.int .i64 (-1))), none⟩])) (.skip))) (.seq (.reg [⟨some 43, .mv (.t 3), none⟩, ⟨some 44, .bin .num .lss (.t 43) (.c (.int .i64 0)), none⟩])
 (.cond (.t 44) (.reg [⟨some 45, .mv (.t 4), none⟩, ⟨some 3, .mv (.t 45), none⟩]) (.skip)))))
 (.reg [⟨some 46, .mv (.t 4), none⟩, ⟨some 47, .mv (.t 5), none⟩, ⟨some 48, .bin .num .add (.t 46) (.t 47), none⟩, ⟨some 4, .mv (.t 48), none⟩])))))))))))
 (.seq (.reg [⟨some 49, .mv (.t 3), none⟩, ⟨some 50, .bin .num .geq (.t 49) (.c (.int .i64 0)), none⟩])
 (.cond (.t 50) (.reg [⟨some 51, .mv (.t 0), none⟩, ⟨some 52, .ld none (.t 1), none⟩, ⟨some 53, .mv (.t 3), none⟩, ⟨some 54, .slc none (.t 52) (some (.t 53)) none, none⟩, ⟨some 55, .callv .no (.t 51) [(.t 54)], none⟩]) (.skip))))⟩
def a178 : AFn := ⟨19, [.tmp 2, .tmp 3],
 .seq (.reg [qo 2 (.mv (.c (.int .i32 0))), qo 3 (.mv (qi 0))])
 (.seq (.seq (.reg [qv 4 0, qo 5 (.bin .str .neq (.t 4) (qs #[])), qv 6 5, qg 7 (.mv (.t 0)) 6 true, qg 8 (.ixs (.t 7) (qi 0)) 6 true, qg 9 (.bin .num .lss (.t 8) (.c (.int .u8 128))) 6 true, qo 10 (.pick (.t 6) (.t 9) (.c (.bool false)))])
 (.cond (.t 10) (.seq (.reg [qv 11 0, qo 12 (.ixs (.t 11) (qi 0)), qo 13 (.cvi .i32 (.t 12)), qv 2 13, qo 3 (.mv (qi 1))])
 (.ret)) (.reg [qv 15 0, qo 16 (.call .full 183 [(.t 15)]), qv 14 16, qo 17 (.ext 0 (.t 14)), qo 18 (.ext 1 (.t 14)), qv 2 17, qv 3 18])))
 (.ret))⟩
def a181 : AFn := ⟨53, [.cell 2 (some 5)],
 .seq (.reg [qo 2 (.alloc 24 z5)])
 (.seq (.reg [qv 9 0, qo 10 (.call .no 103 [(.t 9), (qi 0)]), qo 11 (.fld 3 none (.t 10)), qv 3 11])
 (.seq (.reg [qv 12 0, qo 13 (.call .no 105 [(.t 12), (qs #[33])]), qv 4 13])
 (.seq (.seq (.reg [qv 14 4])
 (.cond (.t 14) (.seq (.reg [qv 15 3, qv 16 0, qo 17 (.call .no 181 [(.t 16)]), qo 18 (.bsl true 5 1 z5 [(0, 5, (.t 17))]), qo 19 (.build z5 [(0, 1, (qi 19)), (4, 1, (.t 15)), (3, 1, (.t 18))]), ⟨none, .st 5 (.t 2) (.t 19), none⟩])
 (.ret)) (.skip)))
 (.seq (.reg [qv 20 0, qo 21 (.call .no 105 [(.t 20), (qs #[45])]), qv 5 21])
 (.seq (.seq (.reg [qv 22 5])
 (.cond (.t 22) (.seq (.reg [qv 23 3, qv 24 0, qo 25 (.call .no 181 [(.t 24)]), qo 26 (.bsl true 5 1 z5 [(0, 5, (.t 25))]), qo 27 (.build z5 [(0, 1, (qi 20)), (4, 1, (.t 23)), (3, 1, (.t 26))]), ⟨none, .st 5 (.t 2) (.t 27), none⟩])
 (.ret)) (.skip)))
 (.seq (.reg [qo 6 (.alloc 24 z5)])
 (.seq (.reg [qv 28 0, qo 29 (.call .no 105 [(.t 28), (qs #[110, 101, 119])]), qv 7 29])
 (.seq (.seq (.reg [qv 30 7])
 (.cond (.t 30) (.seq (.reg [qv 31 0, qv 32 0, qo 33 (.call .no 185 [(.t 32)]), qo 34 (.call .no 184 [(.t 31), (.t 33), (.c (.bool false))]), ⟨none, .st 5 (.t 6) (.t 34), none⟩])
 (.seq (.reg [qv 35 3, qo 36 (.ld (some 5) (.t 6)), qo 37 (.bsl true 5 1 z5 [(0, 5, (.t 36))]), qo 38 (.build z5 [(0, 1, (qi 16)), (4, 1, (.t 35)), (3, 1, (.t 37))]), ⟨none, .st 5 (.t 6) (.t 38), none⟩])
 (.seq (.reg [qv 39 0, qo 40 (.call .no 105 [(.t 39), (qs #[40])]), qv 8 40])
 (.seq (.reg [qv 41 8])
 (.cond (.t 41) (.dreg [(qf 42 3 6, 0), (ql 43 42, 1), (qv 44 0, 0), (qo 45 (.call .no 186 [(.t 44)]), 4), (qo 46 (.app 5 64 (.t 43) (.t 45)), 15), (qf 47 3 6, 31), (⟨none, .st 1 (.t 47) (.t 46), none⟩, 63)]) (.skip)))))) (.reg [qv 48 0, qo 49 (.call .no 185 [(.t 48)]), ⟨none, .st 5 (.t 6) (.t 49), none⟩])))
 (.seq (.reg [qv 50 0, qo 51 (.ld (some 5) (.t 6)), qo 52 (.call .no 184 [(.t 50), (.t 51), (.c (.bool true))]), ⟨none, .st 5 (.t 2) (.t 52), none⟩])
 (.ret))))))))))⟩
def a182 : AFn := ⟨20, [.tmp 2],
 .seq (.reg [qo 2 (.mv (.c .nils))])
 (.seq (.seq (.reg [qv 3 0])
 (.block 0 (.seq (.reg [qo 5 (.bin .num .eql (.t 3) (qi 0)), qv 4 5])
 (.cond (.t 4) (.seq (.reg [qo 6 (.bsl true 1 1 [(.str ⟨#[]⟩)] [(0, 1, (qs #[124, 124]))]), qv 2 6])
 (.ret)) (.seq (.reg [qo 8 (.bin .num .eql (.t 3) (qi 1)), qv 7 8])
 (.cond (.t 7) (.seq (.reg [qo 9 (.bsl true 1 1 [(.str ⟨#[]⟩)] [(0, 1, (qs #[38, 38]))]), qv 2 9])
 (.ret)) (.seq (.reg [qo 11 (.bin .num .eql (.t 3) (qi 2)), qv 10 11])
 (.cond (.t 10) (.seq (.reg [qo 12 (.bsl true 1 2 [(.str ⟨#[]⟩), (.str ⟨#[]⟩)] [(0, 1, (qs #[61, 61, 61])), (1, 1, (qs #[33, 61, 61]))]), qv 2 12])
 (.ret)) (.seq (.reg [qo 14 (.bin .num .eql (.t 3) (qi 3)), qv 13 14])
 (.cond (.t 13) (.seq (.reg [qo 15 (.bsl true 1 2 [(.str ⟨#[]⟩), (.str ⟨#[]⟩)] [(0, 1, (qs #[60])), (1, 1, (qs #[60, 61]))]), qv 2 15])
 (.ret)) (.seq (.reg [qo 17 (.bin .num .eql (.t 3) (qi 4)), qv 16 17])
 (.cond (.t 16) (.seq (.reg [qo 18 (.bsl true 1 2 [(.str ⟨#[]⟩), (.str ⟨#[]⟩)] [(0, 1, (qs #[43])), (1, 1, (qs #[45]))]), qv 2 18])
 (.ret)) (.skip)))))))))))))
 (.seq (.reg [qo 19 (.bsl true 1 1 [(.str ⟨#[]⟩)] [(0, 1, (qs #[42]))]), qv 2 19])
 (.ret)))⟩
def a184 : AFn := ⟨80, [.cell 6 (some 5)],
 .seq (.reg [qo 4 (.box 24 (.t 1)), qo 6 (.alloc 24 z5)])
 (.seq (.block 0 (.loop (.seq (.seq (.reg [qv 13 0, qn 14 13, qf 15 2 14, ql 16 15, qo 17 (.bin .num .eql (.t 16) (qi 0))])
 (.cond (.t 17) (.skip) (.exit 0)))
 (.block 1 (.seq (.reg [qv 18 0, qo 19 (.call .no 105 [(.t 18), (qs #[46])]), qv 7 19])
 (.seq (.seq (.reg [qv 20 7])
 (.cond (.t 20) (.seq (.reg [qv 21 0, qo 22 (.call .no 103 [(.t 21), (qi 0)]), qo 8 (.alloc 130 z6), ⟨none, .st 5 (.t 8) (.t 22), none⟩])
 (.seq (.seq (.reg [qf 23 0 8, ql 24 23, qo 25 (.bin .num .neq (.t 24) (qi 1)), qv 26 25, qg 27 (.fa 0 (.t 8)) 26 true, qg 28 (.ld none (.t 27)) 26 true, qg 29 (.bin .num .neq (.t 28) (qi 2)) 26 true, qo 30 (.pick (.t 26) (.t 29) (.c (.bool false)))])
 (.cond (.t 30) (.seq (.reg [qv 31 0, qo 32 (.call .full 74 [(.t 31), (.c (.bool false))]), ⟨none, .st 5 (.t 6) (.t 32), none⟩])
 (.ret)) (.skip)))
 (.seq (.reg [qv 33 0, qn 34 33, qf 35 1 34, ql 36 35, qo 37 (.bin .num .add (.t 36) (qi 1)), qn 38 33, qf 39 1 38, ⟨none, .st 1 (.t 39) (.t 37), none⟩])
 (.seq (.reg [qf 40 1 8, ql 41 40, qf 42 4 4, ql 43 42, qo 44 (.ld (some 5) (.t 4)), qo 45 (.bsl true 5 1 z5 [(0, 5, (.t 44))]), qo 46 (.build z5 [(0, 1, (qi 13)), (1, 1, (.t 41)), (4, 1, (.t 43)), (3, 1, (.t 45))]), ⟨none, .st 5 (.t 4) (.t 46), none⟩])
 (.exit 1))))) (.skip)))
 (.seq (.reg [qv 47 0, qo 48 (.call .no 105 [(.t 47), (qs #[91])]), qv 9 48])
 (.seq (.seq (.reg [qv 49 9])
 (.cond (.t 49) (.seq (.reg [qv 50 0, qo 51 (.call .no 147 [(.t 50)]), qo 10 (.alloc 24 z5), ⟨none, .st 5 (.t 10) (.t 51), none⟩])
 (.seq (.reg [qv 52 0, qo 53 (.call .no 163 [(.t 52), (qs #[93])])])
 (.seq (.reg [qf 54 4 4, ql 55 54, qo 56 (.ld (some 5) (.t 4)), qo 57 (.ld (some 5) (.t 10)), qo 58 (.bsl true 5 2 [(.int .i64 0), (.str ⟨#[]⟩), (.int .i64 0), .nils, (.int .i64 0), (.int .i64 0), (.str ⟨#[]⟩), (.int .i64 0), .nils, (.int .i64 0)] [(0, 5, (.t 56)), (5, 5, (.t 57))]), qo 59 (.build z5 [(0, 1, (qi 14)), (4, 1, (.t 55)), (3, 1, (.t 58))]), ⟨none, .st 5 (.t 4) (.t 59), none⟩])
 (.exit 1)))) (.skip)))
 (.seq (.reg [qv 60 2, qv 61 60, qg 62 (.mv (.t 0)) 61 true, qg 63 (.call .no 105 [(.t 62), (qs #[40])]) 61 true, qo 64 (.pick (.t 61) (.t 63) (.c (.bool false))), qv 11 64])
 (.seq (.seq (.reg [qv 65 11, qo 66 (.un .not (.t 65))])
 (.cond (.t 66) (.exit 0) (.skip)))
 (.seq (.reg [qf 67 4 4, ql 68 67, qo 69 (.ld (some 5) (.t 4)), qo 70 (.bsl true 5 1 z5 [(0, 5, (.t 69))]), qo 71 (.build z5 [(0, 1, (qi 15)), (4, 1, (.t 68)), (3, 1, (.t 70))]), qo 12 (.alloc 24 z5), ⟨none, .st 5 (.t 12) (.t 71), none⟩])
 (.seq (.dreg [(qf 72 3 12, 0), (ql 73 72, 1), (qv 74 0, 0), (qo 75 (.call .no 186 [(.t 74)]), 4), (qo 76 (.app 5 64 (.t 73) (.t 75)), 15), (qf 77 3 12, 31), (⟨none, .st 1 (.t 77) (.t 76), none⟩, 63)])
 (.reg [qo 78 (.ld (some 5) (.t 12)), ⟨none, .st 5 (.t 4) (.t 78), none⟩])))))))))))))
 (.seq (.reg [qo 79 (.ld (some 5) (.t 4)), ⟨none, .st 5 (.t 6) (.t 79), none⟩])
 (.ret)))⟩
def a185 : AFn := ⟨100, [.cell 2 (some 5)],
 .seq (.reg [qo 2 (.alloc 24 z5)])
 (.seq (.reg [qv 5 0, qo 6 (.call .no 103 [(.t 5), (qi 0)]), qo 3 (.alloc 130 z6), ⟨none, .st 5 (.t 3) (.t 6), none⟩])
 (.seq (.seq (.reg [qv 7 0, qn 8 7, qf 9 2 8, ql 10 9, qo 11 (.bin .num .neq (.t 10) (qi 0))])
 (.cond (.t 11) (.seq (.reg [qo 12 (.build z5 []), ⟨none, .st 5 (.t 2) (.t 12), none⟩])
 (.ret)) (.skip)))
 (.seq (.reg [qf 13 3 3, ql 14 13, qo 15 (.build z5 [(4, 1, (.t 14))]), qo 4 (.alloc 24 z5), ⟨none, .st 5 (.t 4) (.t 15), none⟩])
 (.seq (.seq (.reg [qf 16 0 3, ql 17 16])
 (.block 0 (.seq (.reg [qo 19 (.bin .num .eql (.t 17) (qi 1)), qv 18 19])
 (.cond (.t 18) (.seq (.seq (.reg [qf 20 1 3, ql 21 20, qo 22 (.bin .str .eql (.t 21) (qs #[101, 118, 97, 108])), qv 23 22, qg 24 (.fa 1 (.t 3)) 23 false, qg 25 (.ld none (.t 24)) 23 false, qg 26 (.bin .str .eql (.t 25) (qs #[97, 114, 103, 117, 109, 101, 110, 116, 115])) 23 false, qo 27 (.pick (.t 23) (.c (.bool true)) (.t 26))])
 (.cond (.t 27) (.seq (.reg [qv 28 0, qo 29 (.call .no 107 [(.t 28), (qi 43)])])
 (.seq (.reg [qo 30 (.ld (some 5) (.t 4)), ⟨none, .st 5 (.t 2) (.t 30), none⟩])
 (.ret))) (.skip)))
 (.seq (.reg [qf 31 0 4, ⟨none, .st 1 (.t 31) (qi 1), none⟩])
 (.reg [qf 32 1 3, ql 33 32, qf 34 1 4, ⟨none, .st 1 (.t 34) (.t 33), none⟩]))) (.seq (.reg [qo 36 (.bin .num .eql (.t 17) (qi 3)), qv 35 36])
 (.cond (.t 35) (.seq (.reg [qf 37 0 4, ⟨none, .st 1 (.t 37) (qi 2), none⟩])
 (.reg [qf 38 2 3, ql 39 38, qf 40 2 4, ⟨none, .st 1 (.t 40) (.t 39), none⟩])) (.seq (.reg [qo 42 (.bin .num .eql (.t 17) (qi 4)), qv 41 42])
 (.cond (.t 41) (.seq (.reg [qf 43 0 4, ⟨none, .st 1 (.t 43) (qi 3), none⟩])
 (.reg [qf 44 1 3, ql 45 44, qf 46 1 4, ⟨none, .st 1 (.t 46) (.t 45), none⟩])) (.seq (.reg [qo 48 (.bin .num .eql (.t 17) (qi 2)), qv 47 48])
 (.cond (.t 47) (.seq (.seq (.reg [qf 49 1 3, ql 50 49, qo 51 (.bin .str .eql (.t 50) (qs #[102, 117, 110, 99, 116, 105, 111, 110]))])
 (.cond (.t 51) (.seq (.reg [qv 52 0, qn 53 52, qf 54 1 53, ql 55 54, qo 56 (.bin .num .add (.t 55) (qi 1)), qn 57 52, qf 58 1 57, ⟨none, .st 1 (.t 58) (.t 56), none⟩])
 (.seq (.reg [qf 59 0 4, ⟨none, .st 1 (.t 59) (qi 10), none⟩])
 (.seq (.seq (.reg [qv 60 0, qo 61 (.call .no 103 [(.t 60), (qi 0)]), qo 62 (.fld 0 none (.t 61)), qo 63 (.bin .num .eql (.t 62) (qi 1))])
 (.cond (.t 63) (.reg [qv 64 0, qo 65 (.call .no 164 [(.t 64)]), qf 66 1 4, ⟨none, .st 1 (.t 66) (.t 65), none⟩]) (.skip)))
 (.seq (.reg [qv 67 0, qo 68 (.call .no 167 [(.t 67)]), qf 69 3 4, ⟨none, .st 1 (.t 69) (.t 68), none⟩])
 (.seq (.reg [qo 70 (.ld (some 5) (.t 4)), ⟨none, .st 5 (.t 2) (.t 70), none⟩])
 (.ret)))))) (.skip)))
 (.reg [qf 71 1 3, ql 72 71, qo 73 (.call .no 187 [(.t 72)]), qf 74 0 4, ⟨none, .st 1 (.t 74) (.t 73), none⟩])) (.seq (.reg [qo 76 (.bin .num .eql (.t 17) (qi 5)), qv 75 76])
 (.cond (.t 75) (.seq (.seq (.reg [qf 77 1 3, ql 78 77, qo 79 (.bin .str .eql (.t 78) (qs #[40]))])
 (.cond (.t 79) (.seq (.reg [qv 80 0, qo 81 (.call .no 165 [(.t 80)]), ⟨none, .st 5 (.t 2) (.t 81), none⟩])
 (.ret)) (.skip)))
 (.seq (.reg [qf 82 1 3, ql 83 82, qo 84 (.bin .str .eql (.t 83) (qs #[123]))])
 (.cond (.t 84) (.seq (.reg [qv 85 0, qo 86 (.call .no 188 [(.t 85)]), ⟨none, .st 5 (.t 2) (.t 86), none⟩])
 (.ret)) (.skip)))) (.skip)))))))))))))
 (.seq (.seq (.reg [qf 87 0 4, ql 88 87, qo 89 (.bin .num .eql (.t 88) (qi 0))])
 (.cond (.t 89) (.seq (.reg [qv 90 0, qo 91 (.call .full 74 [(.t 90), (.c (.bool true))]), ⟨none, .st 5 (.t 2) (.t 91), none⟩])
 (.ret)) (.skip)))
 (.seq (.reg [qv 92 0, qn 93 92, qf 94 1 93, ql 95 94, qo 96 (.bin .num .add (.t 95) (qi 1)), qn 97 92, qf 98 1 97, ⟨none, .st 1 (.t 98) (.t 96), none⟩])
 (.seq (.reg [qo 99 (.ld (some 5) (.t 4)), ⟨none, .st 5 (.t 2) (.t 99), none⟩])
 (.ret))))))))⟩
def a186 : AFn := ⟨28, [.tmp 2],
 .seq (.reg [qo 2 (.mv (.c .nils))])
 (.seq (.reg [qo 3 (.mv (.c .nils))])
 (.seq (.reg [qv 6 0, qo 7 (.call .no 104 [(.t 6), (qs #[41])]), qv 4 7])
 (.seq (.reg [qv 8 4, qo 9 (.un .not (.t 8)), qv 5 9])
 (.seq (.block 0 (.loop (.seq (.seq (.reg [qv 10 0, qn 11 10, qf 12 2 11, ql 13 12, qo 14 (.bin .num .eql (.t 13) (qi 0)), qv 15 14, qg 16 (.mv (.t 5)) 15 true, qo 17 (.pick (.t 15) (.t 16) (.c (.bool false)))])
 (.cond (.t 17) (.skip) (.exit 0)))
 (.block 1 (.seq (.reg [qv 18 3, qv 19 0, qo 20 (.call .no 147 [(.t 19)]), qo 21 (.bsl true 5 1 z5 [(0, 5, (.t 20))]), qo 22 (.app 5 64 (.t 18) (.t 21)), qv 3 22])
 (.reg [qv 23 0, qo 24 (.call .no 105 [(.t 23), (qs #[44])]), qv 5 24]))))))
 (.seq (.reg [qv 25 0, qo 26 (.call .no 163 [(.t 25), (qs #[41])])])
 (.seq (.reg [qv 27 3, qv 2 27])
 (.ret)))))))⟩
def a187 : AFn := ⟨16, [.tmp 2],
 .seq (.reg [qo 2 (.mv (qi 0))])
 (.seq (.seq (.reg [qv 3 0])
 (.block 0 (.seq (.reg [qo 5 (.bin .str .eql (.t 3) (qs #[116, 114, 117, 101])), qv 4 5])
 (.cond (.t 4) (.seq (.reg [qo 2 (.mv (qi 4))])
 (.ret)) (.seq (.reg [qo 7 (.bin .str .eql (.t 3) (qs #[102, 97, 108, 115, 101])), qv 6 7])
 (.cond (.t 6) (.seq (.reg [qo 2 (.mv (qi 5))])
 (.ret)) (.seq (.reg [qo 9 (.bin .str .eql (.t 3) (qs #[110, 117, 108, 108])), qv 8 9])
 (.cond (.t 8) (.seq (.reg [qo 2 (.mv (qi 6))])
 (.ret)) (.seq (.reg [qo 11 (.bin .str .eql (.t 3) (qs #[117, 110, 100, 101, 102, 105, 110, 101, 100])), qv 10 11])
 (.cond (.t 10) (.seq (.reg [qo 2 (.mv (qi 7))])
 (.ret)) (.seq (.reg [qo 13 (.bin .str .eql (.t 3) (qs #[116, 104, 105, 115])), qv 12 13])
 (.cond (.t 12) (.seq (.reg [qo 2 (.mv (qi 8))])
 (.ret)) (.seq (.reg [qo 15 (.bin .str .eql (.t 3) (qs #[105, 110, 112, 117, 116])), qv 14 15])
 (.cond (.t 14) (.seq (.reg [qo 2 (.mv (qi 9))])
 (.ret)) (.skip)))))))))))))))
 (.seq (.reg [qo 2 (.mv (qi 0))])
 (.ret)))⟩
def a188 : AFn := ⟨94, [.cell 2 (some 5)],
 .seq (.reg [qo 2 (.alloc 24 z5)])
 (.seq (.reg [qv 10 0, qo 11 (.call .no 103 [(.t 10), (qi 0)]), qo 12 (.fld 3 none (.t 11)), qo 13 (.build z5 [(0, 1, (qi 11)), (4, 1, (.t 12))]), qo 3 (.alloc 24 z5), ⟨none, .st 5 (.t 3) (.t 13), none⟩])
 (.seq (.reg [qv 14 0, qo 15 (.call .no 163 [(.t 14), (qs #[123])])])
 (.seq (.block 0 (.loop (.seq (.seq (.reg [qv 16 0, qn 17 16, qf 18 2 17, ql 19 18, qo 20 (.bin .num .eql (.t 19) (qi 0))])
 (.cond (.t 20) (.skip) (.exit 0)))
 (.block 1 (.seq (.reg [qv 21 0, qo 22 (.call .no 105 [(.t 21), (qs #[125])]), qv 4 22])
 (.seq (.seq (.reg [qv 23 4])
 (.cond (.t 23) (.seq (.reg [qo 24 (.ld (some 5) (.t 3)), ⟨none, .st 5 (.t 2) (.t 24), none⟩])
 (.ret)) (.skip)))
 (.seq (.reg [qv 25 0, qo 26 (.call .no 103 [(.t 25), (qi 0)]), qo 5 (.alloc 130 z6), ⟨none, .st 5 (.t 5) (.t 26), none⟩])
 (.seq (.reg [qo 27 (.ld (some 5) (.t 5)), qo 28 (.call .full 189 [(.t 27)]), qv 6 28])
 (.seq (.seq (.reg [qv 29 6, qo 30 (.un .not (.t 29))])
 (.cond (.t 30) (.seq (.reg [qv 31 0, qo 32 (.call .full 74 [(.t 31), (.c (.bool false))]), ⟨none, .st 5 (.t 2) (.t 32), none⟩])
 (.ret)) (.skip)))
 (.seq (.reg [qv 33 0, qn 34 33, qf 35 1 34, ql 36 35, qo 37 (.bin .num .add (.t 36) (qi 1)), qn 38 33, qf 39 1 38, ⟨none, .st 1 (.t 39) (.t 37), none⟩])
 (.seq (.reg [qv 40 0, qo 41 (.call .no 103 [(.t 40), (qi 0)]), qo 42 (.call .full 189 [(.t 41)]), qv 7 42])
 (.seq (.seq (.reg [qf 43 0 5, ql 44 43, qo 45 (.bin .num .eql (.t 44) (qi 1)), qv 46 45, qg 47 (.fa 1 (.t 5)) 46 true, qg 48 (.ld none (.t 47)) 46 true, qg 49 (.bin .str .eql (.t 48) (qs #[103, 101, 116])) 46 true, qg 50 (.mv (.t 49)) 46 true, qg 51 (.fa 1 (.t 5)) 50 false, qg 52 (.ld none (.t 51)) 50 false, qg 53 (.bin .str .eql (.t 52) (qs #[115, 101, 116])) 50 false, qg 54 (.pick (.t 50) (.c (.bool true)) (.t 53)) 46 true, qo 55 (.pick (.t 46) (.t 54) (.c (.bool false))), qv 56 55, qg 57 (.mv (.t 7)) 56 true, qo 58 (.pick (.t 56) (.t 57) (.c (.bool false)))])
 (.cond (.t 58) (.seq (.reg [qv 59 0, qo 60 (.call .no 107 [(.t 59), (qi 46)])])
 (.seq (.reg [qo 61 (.ld (some 5) (.t 3)), ⟨none, .st 5 (.t 2) (.t 61), none⟩])
 (.ret))) (.skip)))
 (.seq (.reg [qf 62 1 5, ql 63 62, qf 64 3 5, ql 65 64, qo 66 (.build z5 [(0, 1, (qi 12)), (1, 1, (.t 63)), (4, 1, (.t 65))]), qo 8 (.alloc 24 z5), ⟨none, .st 5 (.t 8) (.t 66), none⟩])
 (.seq (.seq (.reg [qf 67 0 5, ql 68 67, qo 69 (.bin .num .eql (.t 68) (qi 3))])
 (.cond (.t 69) (.reg [qf 70 2 5, ql 71 70, qo 72 (.call .full 190 [(.t 71)]), qf 73 1 8, ⟨none, .st 1 (.t 73) (.t 72), none⟩]) (.skip)))
 (.seq (.reg [qv 74 0, qo 75 (.call .no 163 [(.t 74), (qs #[58])])])
 (.seq (.reg [qv 76 0, qo 77 (.call .no 147 [(.t 76)]), qo 78 (.bsl true 5 1 z5 [(0, 5, (.t 77))]), qf 79 3 8, ⟨none, .st 1 (.t 79) (.t 78), none⟩])
 (.seq (.reg [qf 80 3 3, ql 81 80, qo 82 (.ld (some 5) (.t 8)), qo 83 (.bsl true 5 1 z5 [(0, 5, (.t 82))]), qo 84 (.app 5 64 (.t 81) (.t 83)), qf 85 3 3, ⟨none, .st 1 (.t 85) (.t 84), none⟩])
 (.seq (.reg [qv 86 0, qo 87 (.call .no 105 [(.t 86), (qs #[44])]), qv 9 87])
 (.seq (.reg [qv 88 9, qo 89 (.un .not (.t 88))])
 (.cond (.t 89) (.seq (.reg [qv 90 0, qo 91 (.call .no 163 [(.t 90), (qs #[125])])])
 (.seq (.reg [qo 92 (.ld (some 5) (.t 3)), ⟨none, .st 5 (.t 2) (.t 92), none⟩])
 (.ret))) (.skip)))))))))))))))))))))
 (.seq (.reg [qo 93 (.ld (some 5) (.t 3)), ⟨none, .st 5 (.t 2) (.t 93), none⟩])
 (.ret)))))⟩
def a189 : AFn := ⟨21, [.tmp 2],
 .seq (.reg [qo 1 (.box 130 (.t 0)), qo 2 (.mv (.c (.bool false)))])
 (.seq (.reg [qf 3 0 1, ql 4 3, qo 5 (.bin .num .eql (.t 4) (qi 1)), qv 6 5, qg 7 (.fa 0 (.t 1)) 6 false, qg 8 (.ld none (.t 7)) 6 false, qg 9 (.bin .num .eql (.t 8) (qi 2)) 6 false, qo 10 (.pick (.t 6) (.c (.bool true)) (.t 9)), qv 11 10, qg 12 (.fa 0 (.t 1)) 11 false, qg 13 (.ld none (.t 12)) 11 false, qg 14 (.bin .num .eql (.t 13) (qi 4)) 11 false, qo 15 (.pick (.t 11) (.c (.bool true)) (.t 14)), qv 16 15, qg 17 (.fa 0 (.t 1)) 16 false, qg 18 (.ld none (.t 17)) 16 false, qg 19 (.bin .num .eql (.t 18) (qi 3)) 16 false, qo 20 (.pick (.t 16) (.c (.bool true)) (.t 19)), qv 2 20])
 (.ret))⟩
def a190 : AFn := ⟨20, [.tmp 2],
 .seq (.reg [qo 2 (.mv (qs #[]))])
 (.seq (.seq (.reg [qv 3 0, qo 4 (.bin .num .lss (.t 3) (qi 10))])
 (.cond (.t 4) (.seq (.reg [qv 5 0, qo 6 (.bin .num .add (qi 48) (.t 5)), qo 7 (.cvi .u8 (.t 6)), qo 8 (.bsl false 1 1 [(.int .u8 0)] [(0, 1, (.t 7))]), qo 9 (.cvs (.t 8)), qv 2 9])
 (.ret)) (.skip)))
 (.seq (.dreg [(qv 10 0, 0), (qo 11 (.bin .num .quo (.t 10) (qi 10)), 1), (qo 12 (.call .full 190 [(.t 11)]), 3), (qv 13 0, 0), (qo 14 (.bin .num .rem (.t 13) (qi 10)), 8), (qo 15 (.bin .num .add (qi 48) (.t 14)), 24), (qo 16 (.cvi .u8 (.t 15)), 56), (qo 17 (.bsl false 1 1 [(.int .u8 0)] [(0, 1, (.t 16))]), 120), (qo 18 (.cvs (.t 17)), 248), (qo 19 (.bin .str .add (.t 12) (.t 18)), 511), (qv 2 19, 1023)])
 (.ret)))⟩
def blanks : List AV := (List.range 256).map fun i => .int .u8 (if 9 ≤ i ∧ i ≤ 13 ∨ i = 32 then 1 else 0)
def tabs : Nat → Option (List AV)
  | 1 => some blanks
  | _ => none
def ov144 : CSem → Env → List AV → St → Option (Rt AV × St) := fun _ _ args st =>
  match args with
  | [.sl _ n cs] => guardb (decide (1 ≤ n) && decide (n ≤ 1048576) && decide (cs.length = n * 5) && cs.all AV.one)
      (okv (.hs st.H.length n) { st with H := st.H ++ [.cells 24 (AV.finL 0 cs)] })
  | _ => none
def ov43 : CSem → Env → List AV → St → Option (Rt AV × St) := fun _ E args st =>
 match args with
 | [.nili, .iface 67 (.ptr b 0)] =>
  match st.H[b]? with
  | some (.cells _ [_, _]) => okv (.bool false) st
  | _ => none
 | [.iface 151 (.ptr j 0), .iface 67 (.ptr b 0)] =>
  match st.H[j]?, st.H[b]? with
  | some (.cells _ [.sl _ 1 [.iface 65 (.agg [.int j x, .int k y])]]), some (.cells t [_, _]) =>
   guardb (decide (E.rob ≤ b)) (okv (.bool true) { st with H := st.H.set b (.cells t [.int j x, .int k y]) })
  | _, _ => none
 | _ => none
def a42x : List AOper := [⟨(some 1), .box 24 (.t 0), none⟩, ⟨(some 2), .alloc 27 [.nils], none⟩, ⟨(some 3), .alloc 24 [(.int .i64 0), (.str ⟨#[]⟩), (.int .i64 0), .nils, (.int .i64 0)], none⟩, ⟨(some 4), .alloc 61 [.nili], none⟩]
def a42y : List AOper := [⟨(some 8), .build [.nils, (.int .i64 0)] [(1, 1, (.c (.int .i64 4)))], none⟩, ⟨(some 9), .box 100 (.t 8), none⟩, ⟨(some 5), .mv (.t 9), none⟩]
def a42z : ACode := (.seq (.dreg [(⟨(some 11), .mv (.t 5), none⟩, 0), (⟨(some 12), .build [(.int .i64 0), (.str ⟨#[]⟩), (.int .i64 0), .nils, (.int .i64 0)] [(0, 1, (.c (.int .i64 (-1))))], none⟩, 0), (⟨(some 13), .ld (some 5) (.t 1), none⟩, 0), (⟨(some 14), .call .no 62 [(.t 12), (.c .nils), (.c (.str ⟨#[]⟩)), (.t 13)], none⟩, 6), (⟨(some 15), .fa 4 (.t 1), none⟩, 0), (⟨(some 16), .ld none (.t 15), none⟩, 16), (⟨(some 17), .call .no 61 [(.t 11), (.t 14), (.t 16)], none⟩, 63)])
 (.seq (.reg [⟨(some 18), .mv (.t 5), none⟩, ⟨(some 19), .ld (some 5) (.t 1), none⟩, ⟨(some 20), .call .no 63 [(.t 18), (.t 19), (.c (.int .i64 0)), (.c (.bool false))], none⟩, ⟨none, .st 5 (.t 3) (.t 20), none⟩])
 (.seq (.seq (.reg [⟨(some 21), .mv (.t 5), none⟩, ⟨(some 22), .nck (.t 21), none⟩, ⟨(some 23), .fa 0 (.t 22), none⟩, ⟨(some 24), .ld none (.t 23), none⟩, ⟨(some 25), .len false (.t 24), none⟩, ⟨(some 26), .mv (.c (.int .i64 0)), none⟩])
 (.block 0 (.loop (.seq (.reg [⟨(some 27), .bin .num .lss (.t 26) (.t 25), none⟩])
 (.seq (.cond (.t 27) (.skip) (.exit 0))
 (.seq (.block 1 (.seq (.reg [⟨(some 28), .ia 1 (.t 24) (.t 26), none⟩, ⟨(some 29), .ld none (.t 28), none⟩, ⟨(some 7), .mv (.t 29), none⟩])
 (.dreg [(⟨(some 30), .ld none (.t 2), none⟩, 0), (⟨(some 31), .mv (.t 7), none⟩, 0), (⟨(some 32), .nck (.t 31), none⟩, 2), (⟨(some 33), .fa 0 (.t 32), none⟩, 6), (⟨(some 34), .ld (some 5) (.t 33), none⟩, 14), (⟨(some 35), .bsl true 5 1 [(.int .i64 0), (.str ⟨#[]⟩), (.int .i64 0), .nils, (.int .i64 0)] [(0, 5, (.t 34))], none⟩, 30), (⟨(some 36), .app 5 64 (.t 30) (.t 35), none⟩, 63), (⟨none, .st 1 (.t 2) (.t 36), none⟩, 127)])))
 (.reg [⟨(some 37), .bin .num .add (.t 26) (.c (.int .i64 1)), none⟩, ⟨(some 26), .mv (.t 37), none⟩])))))))
 (.seq (.dreg [(⟨(some 38), .ld none (.t 2), none⟩, 0), (⟨(some 39), .ld (some 5) (.t 3), none⟩, 0), (⟨none, .st 1 (.t 2) (.t 38), none⟩, 1), (⟨none, .st 5 (.t 3) (.t 39), none⟩, 7), (⟨none, .st 1 (.t 4) (.c .nili), none⟩, 15)])
 (.ret)))))
def a59x : List AOper := [⟨(some 7), .ta 65 true (.agg [(.int .i64 0), (.int .i64 0)]) (.t 6), none⟩, ⟨(some 5), .mv (.t 7), none⟩, ⟨(some 8), .ext 0 (.t 5), none⟩, ⟨(some 9), .ext 1 (.t 5), none⟩, ⟨(some 3), .alloc 65 [(.int .i64 0), (.int .i64 0)], none⟩, ⟨none, .st 2 (.t 3) (.t 8), none⟩, ⟨(some 4), .mv (.t 9), none⟩]
def a59y : ACode := (.seq (.reg [⟨(some 10), .mv (.t 4), none⟩])
 (.cond (.t 10) (.reg [⟨(some 11), .build [(.int .i64 0), (.str ⟨#[]⟩), (.int .i64 0), .nils, (.int .i64 0)] [], none⟩, ⟨(some 12), .ld (some 2) (.t 3), none⟩, ⟨(some 13), .mki 65 (.t 12), none⟩, ⟨(some 14), .bsl true 1 1 [.nili] [(0, 1, (.t 13))], none⟩, ⟨(some 15), .call .no 60 [(.t 14)], none⟩, ⟨none, .st 1 (.t 0) (.c .nils), none⟩, ⟨none, .st 5 (.t 1) (.t 11), none⟩, ⟨none, .st 1 (.t 2) (.t 15), none⟩]) (.skip)))
def dfr59 (C : CSem) (E : Env) (caps : List AV) (rv : AV) (st : St) : Option St :=
 obind (aOps tabs C E a59x (put (caps ++ List.replicate 13 AV.undef) (some 6) rv) st) fun
  | (.ok s1, st1) => obind (aRun tabs C E 1 none a59y s1 [] st1) fun
   | (.nrm, _, [], st2) => some st2
   | _ => none
  | _ => none
def res42 : List ARes := [.cell 2 none, .cell 3 (some 5), .cell 4 none]
def ov42 : CSem → Env → List AV → St → Option (Rt AV × St) := fun C E args st =>
 obind (aOps tabs C E a42x (args ++ List.replicate (40 - args.length) AV.undef) st) fun
 | (.ok s0, st0) => obind (aOps tabs C E a42y s0 st0) fun
  | (.ok s1, st1) =>
   let s2 := s1.set 10 (.fn 59 [] [lk s1 2, lk s1 3, lk s1 4])
   guardb (decide (10 < s1.length)) <| obind (aRun tabs C E 1000 none a42z s2 [] st1) fun
   | (.ret, _, [], st3) => obind (dfr59 C E [lk s2 2, lk s2 3, lk s2 4] .nili st3) fun st4 => obind (resAll s2 st4 res42) fun vs => okv (oneOr vs) st4
   | (.pan v, _, [], st3) => obind (dfr59 C E [lk s2 2, lk s2 3, lk s2 4] v st3) fun st4 => obind (resAll s2 st4 res42) fun vs => okv (oneOr vs) st4
   | _ => none
  | _ => none
 | _ => none
def fnTab : List (Nat × AFn) := [(14, a14), (15, a15), (16, a16), (17, a17), (19, a19), (20, a20), (24, a24), (27, a27), (31, a31), (32, a32), (33, a33), (37, a37), (38, a38), (39, a39), (40, a40), (41, a41), (46, a46), (47, a47), (48, a48), (49, a49), (50, a50), (51, a51), (52, a52), (56, a56), (57, a57), (58, a58), (60, a60), (61, a61), (62, a62), (63, a63), (73, a73), (74, a74), (75, a75), (76, a76), (77, a77), (78, a78), (79, a79), (80, a80), (81, a81), (82, a82), (87, a87), (88, a88), (89, a89), (90, a90), (91, a91), (92, a92), (93, a93), (94, a94), (95, a95), (96, a96), (97, a97), (98, a98), (99, a99), (103, a103), (104, a104), (105, a105), (106, a106), (107, a107), (108, a108), (109, a109), (110, a110), (111, a111), (112, a112), (113, a113), (114, a114), (115, a115), (116, a116), (117, a117), (118, a118), (119, a119), (120, a120), (121, a121), (122, a122), (123, a123), (124, a124), (125, a125), (126, a126), (127, a127), (131, a131), (132, a132), (133, a133), (134, a134), (135, a135), (136, a136), (137, a137), (138, a138), (139, a139), (140, a140), (141, a141), (142, a142), (143, a143), (145, a145), (146, a146), (147, a147), (148, a148), (149, a149), (150, a150), (151, a151), (152, a152), (153, a153), (154, a154), (155, a155), (156, a156), (157, a157), (158, a158), (159, a159), (160, a160), (163, a163), (164, a164), (165, a165), (167, a167), (168, a168), (169, a169), (170, a170), (171, a171), (172, a172), (173, a173), (175, a175), (176, a176), (177, a177), (178, a178), (181, a181), (182, a182), (184, a184), (185, a185), (186, a186), (187, a187), (188, a188), (189, a189), (190, a190)]
def fnOf (f : Nat) : Option AFn := (fnTab.find? fun p => p.1 == f).map (·.2)
def ovOf : Nat → Option (CSem → Env → List AV → St → Option (Rt AV × St))
 | 42 => some ov42
 | 43 => some ov43
 | 144 => some ov144
 | _ => none
def prog : AProg := { GT := tabs, fn := fnOf, ovr := ovOf }
end Go.Proofs.YP
