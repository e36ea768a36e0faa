/- The short forms of the functions 126, 127, 128, 129, 130, 131, 132, 133, 134, 135, 136, 137, 138, 139, 140, 141, 142, 143, 144, 145, 146, 147, 148, 149, 150, 151, 152, 153, 154, 155, 156, 157, 158, 159, 160, 163, 164, 165, 166, 167, 168, 169, 170, 171, 172, 173, 174, 175, 176, 177, 178, 179, 180, 181, 182, 184, 185, 186, 187, 188, 189, 190, 213. MADE BY PROGRAM (wip/tools/Gen.lean, airs.py). -/
import Derived.Test.YtjehnhppfneidaaGreatDoorSma
namespace Go.Proofs.YP
open Go

def a131 : AFn := ⟨25, [.tmp 2],
 .seq (.reg [⟨some 2, .mv (.c (.bool false)), none⟩])
 (.seq (.reg [⟨some 3, .mv (.t 0), none⟩, ⟨some 4, .bin .num .geq (.t 3) (.c (.int .u8 97)), none⟩, ⟨some 5, .mv (.t 4), none⟩, ⟨some 6, .mv (.t 0), (some (5, true))⟩, ⟨some 7, .bin .num .leq (.t 6) (.c (.int .u8 122)), (some (5, true))⟩, ⟨some 8, .pick (.t 5) (.t 7) (.c (.bool false)), none⟩, ⟨some 9, .mv (.t 8), none⟩, ⟨some 10, .mv (.t 0), (some (9, false))⟩, ⟨some 11, .bin .num .geq (.t 10) (.c (.int .u8 65)), (some (9, false))⟩, ⟨some 12, .mv (.t 11), (some (9, false))⟩, ⟨some 13, .mv (.t 0), (some (12, true))⟩, ⟨some 14, .bin .num .leq (.t 13) (.c (.int .u8 90)), (some (12, true))⟩, ⟨some 15, .pick (.t 12) (.t 14) (.c (.bool false)), (some (9, false))⟩, ⟨some 16, .pick (.t 9) (.c (.bool true)) (.t 15), none⟩, ⟨some 17, .mv (.t 16), none⟩, ⟨some 18, .mv (.t 0), (some (17, false))⟩, ⟨some 19, .bin .num .eql (.t 18) (.c (.int .u8 95)), (some (17, false))⟩, ⟨some 20, .pick (.t 17) (.c (.bool true)) (.t 19), none⟩, ⟨some 21, .mv (.t 20), none⟩, ⟨some 22, .mv (.t 0), (some (21, false))⟩, ⟨some 23, .bin .num .eql (.t 22) (.c (.int .u8 36)), (some (21, false))⟩, ⟨some 24, .pick (.t 21) (.c (.bool true)) (.t 23), none⟩, ⟨some 2, .mv (.t 24), none⟩])
 (.ret))⟩
def a132 : AFn := ⟨23, [.tmp 2],
 .seq (.reg [⟨some 2, .mv (.c (.int .i64 0)), none⟩])
 (.seq (.reg [⟨some 3, .mv (.c (.int .i64 0)), none⟩])
 (.seq (.block 0 (.loop (.seq (.seq (.reg [⟨some 4, .mv (.t 3), none⟩, ⟨some 5, .mv (.t 0), none⟩, ⟨some 6, .len true (.t 5), none⟩, ⟨some 7, .bin .num .lss (.t 4) (.t 6), none⟩, ⟨some 8, .mv (.t 7), none⟩, ⟨some 9, .mv (.t 0), (some (8, true))⟩, ⟨some 10, .mv (.t 3), (some (8, true))⟩, ⟨some 11, .ixs (.t 9) (.t 10), (some (8, true))⟩, ⟨some 12, .call .full 131 [(.t 11)], (some (8, true))⟩, ⟨some 13, .mv (.t 12), (some (8, true))⟩, ⟨some 14, .mv (.t 0), (some (13, false))⟩, ⟨some 15, .mv (.t 3), (some (13, false))⟩, ⟨some 16, .ixs (.t 14) (.t 15), (some (13, false))⟩, ⟨some 17, .call .full 159 [(.t 16)], (some (13, false))⟩, ⟨some 18, .pick (.t 13) (.c (.bool true)) (.t 17), (some (8, true))⟩, ⟨some 19, .pick (.t 8) (.t 18) (.c (.bool false)), none⟩])
 (.cond (.t 19) (.skip) (.exit 0)))
 (.block 1 (.reg [⟨some 20, .mv (.t 3), none⟩, ⟨some 21, .bin .num .add (.t 20) (.c (.int .i64 1)), none⟩, ⟨some 3, .mv (.t 21), none⟩])))))
 (.seq (.reg [⟨some 22, .mv (.t 3), none⟩, ⟨some 2, .mv (.t 22), none⟩])
 (.ret))))⟩
def a133 : AFn := ⟨6, [.tmp 2],
 .seq (.reg [⟨some 2, .mv (.c (.bool false)), none⟩])
 (.seq (.reg [⟨some 3, .call .no 160 [], none⟩, ⟨some 4, .mv (.t 0), none⟩, ⟨some 5, .lkp true (.bool false) false (.t 3) (.t 4), none⟩, ⟨some 2, .mv (.t 5), none⟩])
 (.ret))⟩
def a134 : AFn := ⟨9, [.tmp 4],
 .seq (.reg [⟨some 4, .mv (.c (.bool false)), none⟩])
 (.seq (.reg [⟨some 5, .mv (.t 0), none⟩, ⟨some 6, .mv (.t 1), none⟩, ⟨some 7, .call .full 116 [(.t 5), (.t 6)], none⟩, ⟨some 8, .bin .num .geq (.t 7) (.c (.int .i64 0)), none⟩, ⟨some 4, .mv (.t 8), none⟩])
 (.ret))⟩
def a135 : AFn := ⟨106, [.tmp 2],
 .seq (.reg [⟨some 2, .mv (.c .nils), none⟩])
 (.seq (.reg [⟨some 3, .mv (.c (.int .i64 0)), none⟩])
 (.seq (.reg [⟨some 4, .mv (.c (.int .i64 1)), none⟩])
 (.seq (.reg [⟨some 5, .mv (.c (.int .u8 0)), none⟩])
 (.seq (.seq (.reg [⟨some 6, .mv (.c (.int .i64 0)), none⟩])
 (.block 0 (.loop (.seq (.seq (.reg [⟨some 13, .mv (.t 6), none⟩, ⟨some 14, .mv (.t 0), none⟩, ⟨some 15, .len true (.t 14), none⟩, ⟨some 16, .bin .num .lss (.t 13) (.t 15), none⟩])
 (.cond (.t 16) (.skip) (.exit 0)))
 (.seq (.block 1 (.seq (.reg [⟨some 19, .mv (.t 0), none⟩, ⟨some 20, .mv (.t 6), none⟩, ⟨some 21, .ixs (.t 19) (.t 20), none⟩, ⟨some 7, .mv (.t 21), none⟩])
 (.seq (.reg [⟨some 22, .mv (.t 5), none⟩, ⟨some 23, .mv (.t 7), none⟩, ⟨some 24, .bin .num .or (.t 22) (.t 23), none⟩, ⟨some 5, .mv (.t 24), none⟩])
 (.seq (.reg [⟨some 25, .mv (.t 7), none⟩, ⟨some 26, .iaa 256 1 (.g 1) (.t 25), none⟩, ⟨some 27, .ld none (.t 26), none⟩, ⟨some 28, .cvi .i64 (.t 27), none⟩, ⟨some 8, .mv (.t 28), none⟩])
 (.seq (.reg [⟨some 29, .mv (.t 3), none⟩, ⟨some 30, .mv (.t 4), none⟩, ⟨some 31, .mv (.t 8), none⟩, ⟨some 32, .un .xor (.t 31), none⟩, ⟨some 33, .bin .num .and (.t 30) (.t 32), none⟩, ⟨some 34, .bin .num .add (.t 29) (.t 33), none⟩, ⟨some 3, .mv (.t 34), none⟩])
 (.reg [⟨some 35, .mv (.t 8), none⟩, ⟨some 4, .mv (.t 35), none⟩]))))))
 (.reg [⟨some 17, .mv (.t 6), none⟩, ⟨some 18, .bin .num .add (.t 17) (.c (.int .i64 1)), none⟩, ⟨some 6, .mv (.t 18), none⟩]))))))
 (.seq (.seq (.reg [⟨some 36, .mv (.t 5), none⟩, ⟨some 37, .bin .num .geq (.t 36) (.c (.int .u8 128)), none⟩])
 (.cond (.t 37) (.seq (.reg [⟨some 38, .mv (.t 0), none⟩, ⟨some 39, .call .full 161 [(.t 38), (.c (.fn 162 [] []))], none⟩, ⟨some 2, .mv (.t 39), none⟩])
 (.ret)) (.skip)))
 (.seq (.reg [⟨some 40, .mv (.t 3), none⟩, ⟨some 41, .mkh 9 16 [(.str ⟨#[]⟩)] (.t 40) (.t 40), none⟩, ⟨some 9, .mv (.t 41), none⟩])
 (.seq (.reg [⟨some 10, .mv (.c (.int .i64 0)), none⟩])
 (.seq (.reg [⟨some 11, .mv (.c (.int .i64 0)), none⟩])
 (.seq (.reg [⟨some 12, .mv (.c (.int .i64 0)), none⟩])
 (.seq (.block 2 (.loop (.seq (.seq (.reg [⟨some 42, .mv (.t 12), none⟩, ⟨some 43, .mv (.t 0), none⟩, ⟨some 44, .len true (.t 43), none⟩, ⟨some 45, .bin .num .lss (.t 42) (.t 44), none⟩, ⟨some 46, .mv (.t 45), none⟩, ⟨some 47, .mv (.t 0), (some (46, true))⟩, ⟨some 48, .mv (.t 12), (some (46, true))⟩, ⟨some 49, .ixs (.t 47) (.t 48), (some (46, true))⟩, ⟨some 50, .iaa 256 1 (.g 1) (.t 49), (some (46, true))⟩, ⟨some 51, .ld none (.t 50), (some (46, true))⟩, ⟨some 52, .bin .num .neq (.t 51) (.c (.int .u8 0)), (some (46, true))⟩, ⟨some 53, .pick (.t 46) (.t 52) (.c (.bool false)), none⟩])
 (.cond (.t 53) (.skip) (.exit 2)))
 (.block 3 (.reg [⟨some 54, .mv (.t 12), none⟩, ⟨some 55, .bin .num .add (.t 54) (.c (.int .i64 1)), none⟩, ⟨some 12, .mv (.t 55), none⟩])))))
 (.seq (.reg [⟨some 56, .mv (.t 12), none⟩, ⟨some 11, .mv (.t 56), none⟩])
 (.seq (.block 4 (.loop (.seq (.seq (.reg [⟨some 57, .mv (.t 12), none⟩, ⟨some 58, .mv (.t 0), none⟩, ⟨some 59, .len true (.t 58), none⟩, ⟨some 60, .bin .num .lss (.t 57) (.t 59), none⟩])
 (.cond (.t 60) (.skip) (.exit 4)))
 (.block 5 (.seq (.seq (.reg [⟨some 61, .mv (.t 0), none⟩, ⟨some 62, .mv (.t 12), none⟩, ⟨some 63, .ixs (.t 61) (.t 62), none⟩, ⟨some 64, .iaa 256 1 (.g 1) (.t 63), none⟩, ⟨some 65, .ld none (.t 64), none⟩, ⟨some 66, .bin .num .eql (.t 65) (.c (.int .u8 0)), none⟩])
 (.cond (.t 66) (.seq (.reg [⟨some 67, .mv (.t 12), none⟩, ⟨some 68, .bin .num .add (.t 67) (.c (.int .i64 1)), none⟩, ⟨some 12, .mv (.t 68), none⟩])
 (.exit 5)) (.skip)))
 (.seq (.reg [⟨some 69, .mv (.t 9), none⟩, ⟨some 70, .mv (.t 10), none⟩, ⟨some 71, .mv (.t 0), none⟩, ⟨some 72, .mv (.t 11), none⟩, ⟨some 73, .mv (.t 12), none⟩, ⟨some 74, .slc none (.t 71) (some (.t 72)) (some (.t 73)), none⟩, ⟨some 75, .ia 1 (.t 69) (.t 70), none⟩, ⟨none, .st 1 (.t 75) (.t 74), none⟩])
 (.seq (.reg [⟨some 76, .mv (.t 10), none⟩, ⟨some 77, .bin .num .add (.t 76) (.c (.int .i64 1)), none⟩, ⟨some 10, .mv (.t 77), none⟩])
 (.seq (.reg [⟨some 78, .mv (.t 12), none⟩, ⟨some 79, .bin .num .add (.t 78) (.c (.int .i64 1)), none⟩, ⟨some 12, .mv (.t 79), none⟩])
 (.seq (.block 6 (.loop (.seq (.seq (.reg [⟨some 80, .mv (.t 12), none⟩, ⟨some 81, .mv (.t 0), none⟩, ⟨some 82, .len true (.t 81), none⟩, ⟨some 83, .bin .num .lss (.t 80) (.t 82), none⟩, ⟨some 84, .mv (.t 83), none⟩, ⟨some 85, .mv (.t 0), (some (84, true))⟩, ⟨some 86, .mv (.t 12), (some (84, true))⟩, ⟨some 87, .ixs (.t 85) (.t 86), (some (84, true))⟩, ⟨some 88, .iaa 256 1 (.g 1) (.t 87), (some (84, true))⟩, ⟨some 89, .ld none (.t 88), (some (84, true))⟩, ⟨some 90, .bin .num .neq (.t 89) (.c (.int .u8 0)), (some (84, true))⟩, ⟨some 91, .pick (.t 84) (.t 90) (.c (.bool false)), none⟩])
 (.cond (.t 91) (.skip) (.exit 6)))
 (.block 7 (.reg [⟨some 92, .mv (.t 12), none⟩, ⟨some 93, .bin .num .add (.t 92) (.c (.int .i64 1)), none⟩, ⟨some 12, .mv (.t 93), none⟩])))))
 (.reg [⟨some 94, .mv (.t 12), none⟩, ⟨some 11, .mv (.t 94), none⟩]))))))))))
 (.seq (.seq (.reg [⟨some 95, .mv (.t 11), none⟩, ⟨some 96, .mv (.t 0), none⟩, ⟨some 97, .len true (.t 96), none⟩, ⟨some 98, .bin .num .lss (.t 95) (.t 97), none⟩])
 (.cond (.t 98) (.reg [⟨some 99, .mv (.t 9), none⟩, ⟨some 100, .mv (.t 10), none⟩, ⟨some 101, .mv (.t 0), none⟩, ⟨some 102, .mv (.t 11), none⟩, ⟨some 103, .slc none (.t 101) (some (.t 102)) none, none⟩, ⟨some 104, .ia 1 (.t 99) (.t 100), none⟩, ⟨none, .st 1 (.t 104) (.t 103), none⟩]) (.skip)))
 (.seq (.reg [⟨some 105, .frz (.t 9), none⟩, ⟨some 2, .mv (.t 105), none⟩])
 (.ret)))))))))))))))⟩
def a136 : AFn := ⟨5, [.tmp 2],
 .seq (.reg [⟨some 2, .mv (.c (.bool false)), none⟩])
 (.seq (.reg [⟨some 3, .mv (.t 0), none⟩, ⟨some 4, .bin .num .eql (.t 3) (.c (.int .i64 32)), none⟩, ⟨some 2, .mv (.t 4), none⟩])
 (.ret))⟩
def a137 : AFn := ⟨5, [.tmp 2],
 .seq (.reg [⟨some 2, .mv (.c (.bool false)), none⟩])
 (.seq (.reg [⟨some 3, .mv (.t 0), none⟩, ⟨some 4, .call .full 138 [(.t 3)], none⟩, ⟨some 2, .mv (.t 4), none⟩])
 (.ret))⟩
def a138 : AFn := ⟨13, [.tmp 2],
 .seq (.reg [⟨some 2, .mv (.c (.bool false)), none⟩])
 (.seq (.reg [⟨some 3, .mv (.t 0), none⟩, ⟨some 4, .bin .num .geq (.t 3) (.c (.int .i64 1)), none⟩, ⟨some 5, .mv (.t 4), none⟩, ⟨some 6, .mv (.t 0), (some (5, true))⟩, ⟨some 7, .bin .num .leq (.t 6) (.c (.int .i64 23)), (some (5, true))⟩, ⟨some 8, .pick (.t 5) (.t 7) (.c (.bool false)), none⟩, ⟨some 9, .mv (.t 8), none⟩, ⟨some 10, .mv (.t 0), (some (9, true))⟩, ⟨some 11, .bin .num .neq (.t 10) (.c (.int .i64 12)), (some (9, true))⟩, ⟨some 12, .pick (.t 9) (.t 11) (.c (.bool false)), none⟩, ⟨some 2, .mv (.t 12), none⟩])
 (.ret))⟩
def a139 : AFn := ⟨5, [.tmp 2],
 .seq (.reg [⟨some 2, .mv (.c (.bool false)), none⟩])
 (.seq (.reg [⟨some 3, .mv (.t 0), none⟩, ⟨some 4, .bin .num .eql (.t 3) (.c (.int .i64 1)), none⟩, ⟨some 2, .mv (.t 4), none⟩])
 (.ret))⟩
def a140 : AFn := ⟨5, [.tmp 2],
 .seq (.reg [⟨some 2, .mv (.c (.bool false)), none⟩])
 (.seq (.reg [⟨some 3, .mv (.t 0), none⟩, ⟨some 4, .bin .num .eql (.t 3) (.c (.int .i64 12)), none⟩, ⟨some 2, .mv (.t 4), none⟩])
 (.ret))⟩
def a141 : AFn := ⟨9, [.tmp 2],
 .seq (.reg [⟨some 2, .mv (.c (.bool false)), none⟩])
 (.seq (.reg [⟨some 3, .mv (.t 0), none⟩, ⟨some 4, .bin .num .geq (.t 3) (.c (.int .i64 30)), none⟩, ⟨some 5, .mv (.t 4), none⟩, ⟨some 6, .mv (.t 0), (some (5, true))⟩, ⟨some 7, .bin .num .leq (.t 6) (.c (.int .i64 41)), (some (5, true))⟩, ⟨some 8, .pick (.t 5) (.t 7) (.c (.bool false)), none⟩, ⟨some 2, .mv (.t 8), none⟩])
 (.ret))⟩
def a142 : AFn := ⟨13, [.tmp 2],
 .seq (.reg [⟨some 2, .mv (.c (.bool false)), none⟩])
 (.seq (.reg [⟨some 3, .mv (.t 0), none⟩, ⟨some 4, .bin .num .eql (.t 3) (.c (.int .i64 1)), none⟩, ⟨some 5, .mv (.t 4), none⟩, ⟨some 6, .mv (.t 0), (some (5, false))⟩, ⟨some 7, .bin .num .eql (.t 6) (.c (.int .i64 13)), (some (5, false))⟩, ⟨some 8, .pick (.t 5) (.c (.bool true)) (.t 7), none⟩, ⟨some 9, .mv (.t 8), none⟩, ⟨some 10, .mv (.t 0), (some (9, false))⟩, ⟨some 11, .bin .num .eql (.t 10) (.c (.int .i64 14)), (some (9, false))⟩, ⟨some 12, .pick (.t 9) (.c (.bool true)) (.t 11), none⟩, ⟨some 2, .mv (.t 12), none⟩])
 (.ret))⟩
def a143 : AFn := ⟨29, [],
 .seq (.reg [⟨some 2, .box 33 (.t 0), none⟩])
 (.seq (.seq (.reg [⟨some 6, .ld none (.t 2), none⟩, ⟨some 7, .ld (some 5) (.t 1), none⟩, ⟨some 8, .callv .no (.t 6) [(.t 7)], none⟩, ⟨some 9, .un .not (.t 8), none⟩, ⟨some 10, .mv (.t 9), none⟩, ⟨some 11, .ld (some 5) (.t 1), (some (10, false))⟩, ⟨some 12, .call .full 96 [(.t 11)], (some (10, false))⟩, ⟨some 13, .pick (.t 10) (.c (.bool true)) (.t 12), none⟩])
 (.cond (.t 13) (.ret) (.skip)))
 (.seq (.reg [⟨some 14, .fa 3 (.t 1), none⟩, ⟨some 15, .ld none (.t 14), none⟩, ⟨some 16, .len false (.t 15), none⟩, ⟨some 17, .mv (.c (.int .i64 0)), none⟩])
 (.block 0 (.loop (.seq (.reg [⟨some 18, .bin .num .lss (.t 17) (.t 16), none⟩])
 (.seq (.cond (.t 18) (.skip) (.exit 0))
 (.seq (.block 1 (.seq (.reg [⟨some 19, .ia 5 (.t 15) (.t 17), none⟩, ⟨some 20, .ld (some 5) (.t 19), none⟩, ⟨some 4, .alloc 24 [(.int .i64 0), (.str ⟨#[]⟩), (.int .i64 0), .nils, (.int .i64 0)], none⟩, ⟨none, .st 5 (.t 4) (.t 20), none⟩])
 (.seq (.reg [⟨some 21, .ld (some 5) (.t 4), none⟩, ⟨some 22, .call .no 95 [(.t 21)], none⟩])
 (.block 2 (.rf (.t 22) [23] (.reg [⟨some 5, .alloc 24 [(.int .i64 0), (.str ⟨#[]⟩), (.int .i64 0), .nils, (.int .i64 0)], none⟩, ⟨none, .st 5 (.t 5) (.t 23), none⟩]) (.block 3 (.seq (.reg [⟨some 24, .ld none (.t 2), none⟩, ⟨some 25, .ld (some 5) (.t 5), none⟩, ⟨some 26, .callv .no (.t 24) [(.t 25)], none⟩, ⟨some 27, .un .not (.t 26), none⟩])
 (.cond (.t 27) (.ret) (.skip)))))))))
 (.reg [⟨some 28, .bin .num .add (.t 17) (.c (.int .i64 1)), none⟩, ⟨some 17, .mv (.t 28), none⟩]))))))))⟩
def a144 : AFn := ⟨8, [.tmp 2],
 .seq (.reg [⟨some 2, .mv (.c .nils), none⟩])
 (.seq (.seq (.reg [⟨some 3, .mv (.t 0), none⟩, ⟨some 4, .bin .sli .eql (.t 3) (.c .nils), none⟩])
 (.cond (.t 4) (.seq (.reg [⟨some 2, .mv (.c .nils), none⟩])
 (.ret)) (.skip)))
 (.seq (.reg [⟨some 5, .bsl true 5 0 [] [], none⟩, ⟨some 6, .mv (.t 0), none⟩, ⟨some 7, .app 5 64 (.t 5) (.t 6), none⟩, ⟨some 2, .mv (.t 7), none⟩])
 (.ret)))⟩
def a145 : AFn := ⟨16, [.cell 2 (some 5)],
 .seq (.reg [⟨some 2, .alloc 24 [(.int .i64 0), (.str ⟨#[]⟩), (.int .i64 0), .nils, (.int .i64 0)], none⟩])
 (.seq (.reg [⟨some 4, .mv (.t 0), none⟩, ⟨some 5, .call .no 103 [(.t 4), (.c (.int .i64 0))], none⟩, ⟨some 6, .fld 3 none (.t 5), none⟩, ⟨some 7, .build [(.int .i64 0), (.str ⟨#[]⟩), (.int .i64 0), .nils, (.int .i64 0)] [(0, 1, (.c (.int .i64 32))), (4, 1, (.t 6))], none⟩, ⟨some 3, .alloc 24 [(.int .i64 0), (.str ⟨#[]⟩), (.int .i64 0), .nils, (.int .i64 0)], none⟩, ⟨none, .st 5 (.t 3) (.t 7), none⟩])
 (.seq (.reg [⟨some 8, .mv (.t 0), none⟩, ⟨some 9, .call .no 163 [(.t 8), (.c (.str ⟨#[123]⟩))], none⟩])
 (.seq (.reg [⟨some 10, .mv (.t 0), none⟩, ⟨some 11, .call .no 73 [(.t 10)], none⟩, ⟨some 12, .fa 3 (.t 3), none⟩, ⟨none, .st 1 (.t 12) (.t 11), none⟩])
 (.seq (.reg [⟨some 13, .mv (.t 0), none⟩, ⟨some 14, .call .no 163 [(.t 13), (.c (.str ⟨#[125]⟩))], none⟩])
 (.seq (.reg [⟨some 15, .ld (some 5) (.t 3), none⟩, ⟨none, .st 5 (.t 2) (.t 15), none⟩])
 (.ret))))))⟩
def a146 : AFn := ⟨234, [.tmp 6],
 .seq (.reg [⟨some 6, .mv (.c (.bool false)), none⟩])
 (.seq (.seq (.reg [⟨some 10, .mv (.t 2), none⟩])
 (.block 0 (.seq (.reg [⟨some 16, .bin .str .eql (.t 10) (.c (.str ⟨#[118, 97, 114]⟩)), none⟩, ⟨some 15, .mv (.t 16), none⟩])
 (.cond (.t 15) (.seq (.reg [⟨some 17, .mv (.t 0), none⟩, ⟨some 18, .nck (.t 17), none⟩, ⟨some 19, .fa 1 (.t 18), none⟩, ⟨some 20, .ld none (.t 19), none⟩, ⟨some 21, .bin .num .add (.t 20) (.c (.int .i64 1)), none⟩, ⟨some 22, .nck (.t 17), none⟩, ⟨some 23, .fa 1 (.t 22), none⟩, ⟨none, .st 1 (.t 23) (.t 21), none⟩])
 (.seq (.reg [⟨some 24, .mv (.t 1), none⟩, ⟨some 25, .nck (.t 24), none⟩, ⟨some 26, .fa 0 (.t 25), none⟩, ⟨none, .st 1 (.t 26) (.c (.int .i64 30)), none⟩])
 (.seq (.reg [⟨some 27, .mv (.t 1), none⟩, ⟨some 28, .mv (.t 0), none⟩, ⟨some 29, .call .no 164 [(.t 28)], none⟩, ⟨some 30, .nck (.t 27), none⟩, ⟨some 31, .fa 1 (.t 30), none⟩, ⟨none, .st 1 (.t 31) (.t 29), none⟩])
 (.seq (.reg [⟨some 32, .mv (.t 0), none⟩, ⟨some 33, .call .no 105 [(.t 32), (.c (.str ⟨#[61]⟩))], none⟩, ⟨some 7, .mv (.t 33), none⟩])
 (.seq (.seq (.reg [⟨some 34, .mv (.t 7), none⟩])
 (.cond (.t 34) (.reg [⟨some 35, .mv (.t 1), none⟩, ⟨some 36, .mv (.t 0), none⟩, ⟨some 37, .call .no 147 [(.t 36)], none⟩, ⟨some 38, .bsl true 5 1 [(.int .i64 0), (.str ⟨#[]⟩), (.int .i64 0), .nils, (.int .i64 0)] [(0, 5, (.t 37))], none⟩, ⟨some 39, .nck (.t 35), none⟩, ⟨some 40, .fa 3 (.t 39), none⟩, ⟨none, .st 1 (.t 40) (.t 38), none⟩]) (.skip)))
 (.reg [⟨some 41, .mv (.t 0), none⟩, ⟨some 42, .call .no 148 [(.t 41)], none⟩])))))) (.seq (.reg [⟨some 44, .bin .str .eql (.t 10) (.c (.str ⟨#[105, 102]⟩)), none⟩, ⟨some 43, .mv (.t 44), none⟩])
 (.cond (.t 43) (.seq (.reg [⟨some 45, .mv (.t 0), none⟩, ⟨some 46, .nck (.t 45), none⟩, ⟨some 47, .fa 1 (.t 46), none⟩, ⟨some 48, .ld none (.t 47), none⟩, ⟨some 49, .bin .num .add (.t 48) (.c (.int .i64 1)), none⟩, ⟨some 50, .nck (.t 45), none⟩, ⟨some 51, .fa 1 (.t 50), none⟩, ⟨none, .st 1 (.t 51) (.t 49), none⟩])
 (.seq (.reg [⟨some 52, .mv (.t 1), none⟩, ⟨some 53, .nck (.t 52), none⟩, ⟨some 54, .fa 0 (.t 53), none⟩, ⟨none, .st 1 (.t 54) (.c (.int .i64 33)), none⟩])
 (.seq (.reg [⟨some 55, .mv (.t 1), none⟩, ⟨some 56, .mv (.t 0), none⟩, ⟨some 57, .call .no 165 [(.t 56)], none⟩, ⟨some 58, .bsl true 5 1 [(.int .i64 0), (.str ⟨#[]⟩), (.int .i64 0), .nils, (.int .i64 0)] [(0, 5, (.t 57))], none⟩, ⟨some 59, .nck (.t 55), none⟩, ⟨some 60, .fa 3 (.t 59), none⟩, ⟨none, .st 1 (.t 60) (.t 58), none⟩])
 (.seq (.bad)
 (.seq (.reg [⟨some 73, .mv (.t 0), none⟩, ⟨some 74, .call .no 105 [(.t 73), (.c (.str ⟨#[101, 108, 115, 101]⟩))], none⟩, ⟨some 8, .mv (.t 74), none⟩])
 (.seq (.reg [⟨some 75, .mv (.t 8), none⟩])
 (.cond (.t 75) (.bad) (.skip)))))))) (.seq (.reg [⟨some 89, .bin .str .eql (.t 10) (.c (.str ⟨#[119, 104, 105, 108, 101]⟩)), none⟩, ⟨some 88, .mv (.t 89), none⟩])
 (.cond (.t 88) (.seq (.reg [⟨some 90, .mv (.t 0), none⟩, ⟨some 91, .nck (.t 90), none⟩, ⟨some 92, .fa 1 (.t 91), none⟩, ⟨some 93, .ld none (.t 92), none⟩, ⟨some 94, .bin .num .add (.t 93) (.c (.int .i64 1)), none⟩, ⟨some 95, .nck (.t 90), none⟩, ⟨some 96, .fa 1 (.t 95), none⟩, ⟨none, .st 1 (.t 96) (.t 94), none⟩])
 (.seq (.reg [⟨some 97, .mv (.t 1), none⟩, ⟨some 98, .nck (.t 97), none⟩, ⟨some 99, .fa 0 (.t 98), none⟩, ⟨none, .st 1 (.t 99) (.c (.int .i64 34)), none⟩])
 (.seq (.reg [⟨some 100, .mv (.t 1), none⟩, ⟨some 101, .mv (.t 0), none⟩, ⟨some 102, .call .no 165 [(.t 101)], none⟩, ⟨some 103, .bsl true 5 1 [(.int .i64 0), (.str ⟨#[]⟩), (.int .i64 0), .nils, (.int .i64 0)] [(0, 5, (.t 102))], none⟩, ⟨some 104, .nck (.t 100), none⟩, ⟨some 105, .fa 3 (.t 104), none⟩, ⟨none, .st 1 (.t 105) (.t 103), none⟩])
 (.bad)))) (.seq (.reg [⟨some 119, .bin .str .eql (.t 10) (.c (.str ⟨#[102, 111, 114]⟩)), none⟩, ⟨some 118, .mv (.t 119), none⟩])
 (.cond (.t 118) (.seq (.reg [⟨some 120, .mv (.t 0), none⟩, ⟨some 121, .nck (.t 120), none⟩, ⟨some 122, .fa 1 (.t 121), none⟩, ⟨some 123, .ld none (.t 122), none⟩, ⟨some 124, .bin .num .add (.t 123) (.c (.int .i64 1)), none⟩, ⟨some 125, .nck (.t 120), none⟩, ⟨some 126, .fa 1 (.t 125), none⟩, ⟨none, .st 1 (.t 126) (.t 124), none⟩])
 (.seq (.reg [⟨some 127, .mv (.t 1), none⟩, ⟨some 128, .nck (.t 127), none⟩, ⟨some 129, .fa 0 (.t 128), none⟩, ⟨none, .st 1 (.t 129) (.c (.int .i64 35)), none⟩])
 (.seq (.reg [⟨some 130, .mv (.t 0), none⟩, ⟨some 131, .call .no 163 [(.t 130), (.c (.str ⟨#[40]⟩))], none⟩])
 (.seq (.reg [⟨some 132, .mv (.t 0), none⟩, ⟨some 133, .call .no 105 [(.t 132), (.c (.str ⟨#[118, 97, 114]⟩))], none⟩, ⟨some 9, .mv (.t 133), none⟩])
 (.seq (.seq (.reg [⟨some 134, .mv (.t 9), none⟩, ⟨some 135, .un .not (.t 134), none⟩])
 (.cond (.t 135) (.seq (.seq (.reg [⟨some 136, .mv (.t 0), none⟩, ⟨some 137, .call .no 103 [(.t 136), (.c (.int .i64 0))], none⟩, ⟨some 138, .fld 0 none (.t 137), none⟩, ⟨some 139, .bin .num .eql (.t 138) (.c (.int .i64 0)), none⟩])
 (.cond (.t 139) (.reg [⟨some 140, .mv (.t 0), none⟩, ⟨some 141, .call .full 74 [(.t 140), (.c (.bool false))], none⟩]) (.skip)))
 (.reg [⟨some 142, .mv (.t 0), none⟩, ⟨some 143, .call .no 107 [(.t 142), (.c (.int .i64 47))], none⟩])) (.skip)))
 (.seq (.reg [⟨some 144, .mv (.t 1), none⟩, ⟨some 145, .mv (.t 0), none⟩, ⟨some 146, .call .no 164 [(.t 145)], none⟩, ⟨some 147, .nck (.t 144), none⟩, ⟨some 148, .fa 1 (.t 147), none⟩, ⟨none, .st 1 (.t 148) (.t 146), none⟩])
 (.seq (.reg [⟨some 149, .mv (.t 0), none⟩, ⟨some 150, .call .no 163 [(.t 149), (.c (.str ⟨#[105, 110]⟩))], none⟩])
 (.seq (.reg [⟨some 151, .mv (.t 1), none⟩, ⟨some 152, .mv (.t 0), none⟩, ⟨some 153, .call .no 147 [(.t 152)], none⟩, ⟨some 154, .bsl true 5 1 [(.int .i64 0), (.str ⟨#[]⟩), (.int .i64 0), .nils, (.int .i64 0)] [(0, 5, (.t 153))], none⟩, ⟨some 155, .nck (.t 151), none⟩, ⟨some 156, .fa 3 (.t 155), none⟩, ⟨none, .st 1 (.t 156) (.t 154), none⟩])
 (.seq (.reg [⟨some 157, .mv (.t 0), none⟩, ⟨some 158, .call .no 163 [(.t 157), (.c (.str ⟨#[41]⟩))], none⟩])
 (.bad)))))))))) (.seq (.reg [⟨some 172, .bin .str .eql (.t 10) (.c (.str ⟨#[116, 114, 121]⟩)), none⟩, ⟨some 171, .mv (.t 172), none⟩])
 (.cond (.t 171) (.seq (.reg [⟨some 173, .mv (.t 0), none⟩, ⟨some 174, .nck (.t 173), none⟩, ⟨some 175, .fa 1 (.t 174), none⟩, ⟨some 176, .ld none (.t 175), none⟩, ⟨some 177, .bin .num .add (.t 176) (.c (.int .i64 1)), none⟩, ⟨some 178, .nck (.t 173), none⟩, ⟨some 179, .fa 1 (.t 178), none⟩, ⟨none, .st 1 (.t 179) (.t 177), none⟩])
 (.seq (.reg [⟨some 180, .mv (.t 1), none⟩, ⟨some 181, .nck (.t 180), none⟩, ⟨some 182, .fa 0 (.t 181), none⟩, ⟨none, .st 1 (.t 182) (.c (.int .i64 38)), none⟩])
 (.seq (.reg [⟨some 183, .mv (.t 1), none⟩, ⟨some 184, .mv (.t 0), none⟩, ⟨some 185, .call .no 145 [(.t 184)], none⟩, ⟨some 186, .bsl true 5 1 [(.int .i64 0), (.str ⟨#[]⟩), (.int .i64 0), .nils, (.int .i64 0)] [(0, 5, (.t 185))], none⟩, ⟨some 187, .nck (.t 183), none⟩, ⟨some 188, .fa 3 (.t 187), none⟩, ⟨none, .st 1 (.t 188) (.t 186), none⟩])
 (.seq (.reg [⟨some 189, .mv (.t 0), none⟩, ⟨some 190, .call .no 163 [(.t 189), (.c (.str ⟨#[99, 97, 116, 99, 104]⟩))], none⟩])
 (.seq (.reg [⟨some 191, .mv (.t 0), none⟩, ⟨some 192, .call .no 163 [(.t 191), (.c (.str ⟨#[40]⟩))], none⟩])
 (.seq (.reg [⟨some 193, .mv (.t 1), none⟩, ⟨some 194, .mv (.t 0), none⟩, ⟨some 195, .call .no 164 [(.t 194)], none⟩, ⟨some 196, .nck (.t 193), none⟩, ⟨some 197, .fa 1 (.t 196), none⟩, ⟨none, .st 1 (.t 197) (.t 195), none⟩])
 (.seq (.reg [⟨some 198, .mv (.t 0), none⟩, ⟨some 199, .call .no 163 [(.t 198), (.c (.str ⟨#[41]⟩))], none⟩])
 (.bad)))))))) (.seq (.reg [⟨some 213, .bin .str .eql (.t 10) (.c (.str ⟨#[102, 117, 110, 99, 116, 105, 111, 110]⟩)), none⟩, ⟨some 212, .mv (.t 213), none⟩])
 (.cond (.t 212) (.seq (.reg [⟨some 214, .mv (.t 0), none⟩, ⟨some 215, .nck (.t 214), none⟩, ⟨some 216, .fa 1 (.t 215), none⟩, ⟨some 217, .ld none (.t 216), none⟩, ⟨some 218, .bin .num .add (.t 217) (.c (.int .i64 1)), none⟩, ⟨some 219, .nck (.t 214), none⟩, ⟨some 220, .fa 1 (.t 219), none⟩, ⟨none, .st 1 (.t 220) (.t 218), none⟩])
 (.seq (.reg [⟨some 221, .mv (.t 1), none⟩, ⟨some 222, .nck (.t 221), none⟩, ⟨some 223, .fa 0 (.t 222), none⟩, ⟨none, .st 1 (.t 223) (.c (.int .i64 41)), none⟩])
 (.seq (.reg [⟨some 224, .mv (.t 1), none⟩, ⟨some 225, .mv (.t 0), none⟩, ⟨some 226, .call .no 164 [(.t 225)], none⟩, ⟨some 227, .nck (.t 224), none⟩, ⟨some 228, .fa 1 (.t 227), none⟩, ⟨none, .st 1 (.t 228) (.t 226), none⟩])
 (.reg [⟨some 229, .mv (.t 1), none⟩, ⟨some 230, .mv (.t 0), none⟩, ⟨some 231, .call .no 167 [(.t 230)], none⟩, ⟨some 232, .nck (.t 229), none⟩, ⟨some 233, .fa 3 (.t 232), none⟩, ⟨none, .st 1 (.t 233) (.t 231), none⟩])))) (.seq (.reg [⟨some 11, .mv (.t 0), none⟩, ⟨some 12, .mv (.t 1), none⟩, ⟨some 13, .mv (.t 2), none⟩, ⟨some 14, .call .no 168 [(.t 11), (.t 12), (.t 13)], none⟩, ⟨some 6, .mv (.t 14), none⟩])
 (.ret))))))))))))))))
 (.seq (.reg [⟨some 6, .mv (.c (.bool true)), none⟩])
 (.ret)))⟩
def a147 : AFn := ⟨52, [.cell 2 (some 5)],
 .seq (.reg [⟨some 2, .alloc 24 [(.int .i64 0), (.str ⟨#[]⟩), (.int .i64 0), .nils, (.int .i64 0)], none⟩])
 (.seq (.reg [⟨some 8, .mv (.t 0), none⟩, ⟨some 9, .call .no 104 [(.t 8), (.c (.str ⟨#[40]⟩))], none⟩, ⟨some 10, .un .not (.t 9), none⟩, ⟨some 3, .mv (.t 10), none⟩])
 (.seq (.reg [⟨some 11, .mv (.t 0), none⟩, ⟨some 12, .nck (.t 11), none⟩, ⟨some 13, .fa 1 (.t 12), none⟩, ⟨some 14, .ld none (.t 13), none⟩, ⟨some 4, .mv (.t 14), none⟩])
 (.seq (.reg [⟨some 15, .mv (.t 0), none⟩, ⟨some 16, .call .no 169 [(.t 15)], none⟩, ⟨some 5, .alloc 24 [(.int .i64 0), (.str ⟨#[]⟩), (.int .i64 0), .nils, (.int .i64 0)], none⟩, ⟨none, .st 5 (.t 5) (.t 16), none⟩])
 (.seq (.reg [⟨some 17, .fa 0 (.t 5), none⟩, ⟨some 18, .ld none (.t 17), none⟩, ⟨some 19, .bin .num .eql (.t 18) (.c (.int .i64 1)), none⟩, ⟨some 20, .mv (.t 19), none⟩, ⟨some 21, .fa 0 (.t 5), (some (20, false))⟩, ⟨some 22, .ld none (.t 21), (some (20, false))⟩, ⟨some 23, .bin .num .eql (.t 22) (.c (.int .i64 13)), (some (20, false))⟩, ⟨some 24, .pick (.t 20) (.c (.bool true)) (.t 23), none⟩, ⟨some 25, .mv (.t 24), none⟩, ⟨some 26, .fa 0 (.t 5), (some (25, false))⟩, ⟨some 27, .ld none (.t 26), (some (25, false))⟩, ⟨some 28, .bin .num .eql (.t 27) (.c (.int .i64 14)), (some (25, false))⟩, ⟨some 29, .pick (.t 25) (.c (.bool true)) (.t 28), none⟩, ⟨some 6, .mv (.t 29), none⟩])
 (.seq (.seq (.reg [⟨some 30, .mv (.t 3), none⟩, ⟨some 31, .un .not (.t 30), none⟩, ⟨some 32, .mv (.t 31), none⟩, ⟨some 33, .mv (.t 0), (some (32, true))⟩, ⟨some 34, .mv (.t 4), (some (32, true))⟩, ⟨some 35, .call .no 170 [(.t 33), (.t 34)], (some (32, true))⟩, ⟨some 36, .pick (.t 32) (.t 35) (.c (.bool false)), none⟩])
 (.cond (.t 36) (.reg [⟨some 6, .mv (.c (.bool false)), none⟩]) (.skip)))
 (.seq (.reg [⟨some 37, .mv (.t 6), none⟩, ⟨some 38, .mv (.t 37), none⟩, ⟨some 39, .mv (.t 0), (some (38, true))⟩, ⟨some 40, .call .no 105 [(.t 39), (.c (.str ⟨#[61]⟩))], (some (38, true))⟩, ⟨some 41, .pick (.t 38) (.t 40) (.c (.bool false)), none⟩, ⟨some 7, .mv (.t 41), none⟩])
 (.seq (.seq (.reg [⟨some 42, .mv (.t 7), none⟩, ⟨some 43, .un .not (.t 42), none⟩])
 (.cond (.t 43) (.seq (.reg [⟨some 44, .ld (some 5) (.t 5), none⟩, ⟨none, .st 5 (.t 2) (.t 44), none⟩])
 (.ret)) (.skip)))
 (.seq (.dreg [(⟨some 45, .fa 4 (.t 5), none⟩, 0), (⟨some 46, .ld none (.t 45), none⟩, 1), (⟨some 47, .ld (some 5) (.t 5), none⟩, 0), (⟨some 48, .mv (.t 0), none⟩, 0), (⟨some 49, .call .no 147 [(.t 48)], none⟩, 8), (⟨some 50, .bsl true 5 2 [(.int .i64 0), (.str ⟨#[]⟩), (.int .i64 0), .nils, (.int .i64 0), (.int .i64 0), (.str ⟨#[]⟩), (.int .i64 0), .nils, (.int .i64 0)] [(0, 5, (.t 47)), (5, 5, (.t 49))], none⟩, 28), (⟨some 51, .build [(.int .i64 0), (.str ⟨#[]⟩), (.int .i64 0), .nils, (.int .i64 0)] [(0, 1, (.c (.int .i64 17))), (4, 1, (.t 46)), (3, 1, (.t 50))], none⟩, 63), (⟨none, .st 5 (.t 2) (.t 51), none⟩, 127)])
 (.ret)))))))))⟩
def a148 : AFn := ⟨37, [],
 .seq (.reg [⟨some 4, .mv (.t 0), none⟩, ⟨some 5, .call .no 103 [(.t 4), (.c (.int .i64 0))], none⟩, ⟨some 2, .alloc 130 [(.int .i64 0), (.str ⟨#[]⟩), (.int .i64 0), (.int .i64 0), (.bool false)], none⟩, ⟨none, .st 5 (.t 2) (.t 5), none⟩])
 (.seq (.reg [⟨some 6, .mv (.t 0), none⟩, ⟨some 7, .call .no 105 [(.t 6), (.c (.str ⟨#[59]⟩))], none⟩, ⟨some 3, .mv (.t 7), none⟩])
 (.seq (.seq (.reg [⟨some 8, .mv (.t 3), none⟩, ⟨some 9, .mv (.t 8), none⟩, ⟨some 10, .mv (.t 0), (some (9, false))⟩, ⟨some 11, .nck (.t 10), (some (9, false))⟩, ⟨some 12, .fa 2 (.t 11), (some (9, false))⟩, ⟨some 13, .ld none (.t 12), (some (9, false))⟩, ⟨some 14, .bin .num .neq (.t 13) (.c (.int .i64 0)), (some (9, false))⟩, ⟨some 15, .pick (.t 9) (.c (.bool true)) (.t 14), none⟩, ⟨some 16, .mv (.t 15), none⟩, ⟨some 17, .fa 0 (.t 2), (some (16, false))⟩, ⟨some 18, .ld none (.t 17), (some (16, false))⟩, ⟨some 19, .bin .num .eql (.t 18) (.c (.int .i64 0)), (some (16, false))⟩, ⟨some 20, .pick (.t 16) (.c (.bool true)) (.t 19), none⟩, ⟨some 21, .mv (.t 20), none⟩, ⟨some 22, .fa 4 (.t 2), (some (21, false))⟩, ⟨some 23, .ld none (.t 22), (some (21, false))⟩, ⟨some 24, .pick (.t 21) (.c (.bool true)) (.t 23), none⟩, ⟨some 25, .mv (.t 24), none⟩, ⟨some 26, .fa 0 (.t 2), (some (25, false))⟩, ⟨some 27, .ld none (.t 26), (some (25, false))⟩, ⟨some 28, .bin .num .eql (.t 27) (.c (.int .i64 5)), (some (25, false))⟩, ⟨some 29, .mv (.t 28), (some (25, false))⟩, ⟨some 30, .fa 1 (.t 2), (some (29, true))⟩, ⟨some 31, .ld none (.t 30), (some (29, true))⟩, ⟨some 32, .bin .str .eql (.t 31) (.c (.str ⟨#[125]⟩)), (some (29, true))⟩, ⟨some 33, .pick (.t 29) (.t 32) (.c (.bool false)), (some (25, false))⟩, ⟨some 34, .pick (.t 25) (.c (.bool true)) (.t 33), none⟩])
 (.cond (.t 34) (.ret) (.skip)))
 (.reg [⟨some 35, .mv (.t 0), none⟩, ⟨some 36, .call .full 74 [(.t 35), (.c (.bool false))], none⟩])))⟩
def a149 : AFn := ⟨25, [.tmp 2],
 .seq (.reg [⟨some 2, .mv (.c (.bool false)), none⟩])
 (.seq (.reg [⟨some 3, .mv (.t 0), none⟩, ⟨some 4, .bin .num .geq (.t 3) (.c (.int .u8 97)), none⟩, ⟨some 5, .mv (.t 4), none⟩, ⟨some 6, .mv (.t 0), (some (5, true))⟩, ⟨some 7, .bin .num .leq (.t 6) (.c (.int .u8 122)), (some (5, true))⟩, ⟨some 8, .pick (.t 5) (.t 7) (.c (.bool false)), none⟩, ⟨some 9, .mv (.t 8), none⟩, ⟨some 10, .mv (.t 0), (some (9, false))⟩, ⟨some 11, .bin .num .geq (.t 10) (.c (.int .u8 65)), (some (9, false))⟩, ⟨some 12, .mv (.t 11), (some (9, false))⟩, ⟨some 13, .mv (.t 0), (some (12, true))⟩, ⟨some 14, .bin .num .leq (.t 13) (.c (.int .u8 90)), (some (12, true))⟩, ⟨some 15, .pick (.t 12) (.t 14) (.c (.bool false)), (some (9, false))⟩, ⟨some 16, .pick (.t 9) (.c (.bool true)) (.t 15), none⟩, ⟨some 17, .mv (.t 16), none⟩, ⟨some 18, .mv (.t 0), (some (17, false))⟩, ⟨some 19, .bin .num .eql (.t 18) (.c (.int .u8 95)), (some (17, false))⟩, ⟨some 20, .pick (.t 17) (.c (.bool true)) (.t 19), none⟩, ⟨some 21, .mv (.t 20), none⟩, ⟨some 22, .mv (.t 0), (some (21, false))⟩, ⟨some 23, .bin .num .eql (.t 22) (.c (.int .u8 36)), (some (21, false))⟩, ⟨some 24, .pick (.t 21) (.c (.bool true)) (.t 23), none⟩, ⟨some 2, .mv (.t 24), none⟩])
 (.ret))⟩
def a150 : AFn := ⟨28, [.tmp 4],
 .seq (.reg [⟨some 4, .mv (.c (.int .i64 0)), none⟩])
 (.seq (.reg [⟨some 5, .mv (.c (.int .i64 0)), none⟩])
 (.seq (.block 0 (.loop (.seq (.seq (.reg [⟨some 6, .mv (.t 5), none⟩, ⟨some 7, .mv (.t 0), none⟩, ⟨some 8, .len true (.t 7), none⟩, ⟨some 9, .bin .num .lss (.t 6) (.t 8), none⟩, ⟨some 10, .mv (.t 9), none⟩, ⟨some 11, .mv (.t 0), (some (10, true))⟩, ⟨some 12, .mv (.t 5), (some (10, true))⟩, ⟨some 13, .ixs (.t 11) (.t 12), (some (10, true))⟩, ⟨some 14, .call .full 152 [(.t 13)], (some (10, true))⟩, ⟨some 15, .mv (.t 14), (some (10, true))⟩, ⟨some 16, .mv (.t 1), (some (15, false))⟩, ⟨some 17, .mv (.t 16), (some (15, false))⟩, ⟨some 18, .mv (.t 0), (some (17, true))⟩, ⟨some 19, .mv (.t 5), (some (17, true))⟩, ⟨some 20, .ixs (.t 18) (.t 19), (some (17, true))⟩, ⟨some 21, .call .full 149 [(.t 20)], (some (17, true))⟩, ⟨some 22, .pick (.t 17) (.t 21) (.c (.bool false)), (some (15, false))⟩, ⟨some 23, .pick (.t 15) (.c (.bool true)) (.t 22), (some (10, true))⟩, ⟨some 24, .pick (.t 10) (.t 23) (.c (.bool false)), none⟩])
 (.cond (.t 24) (.skip) (.exit 0)))
 (.block 1 (.reg [⟨some 25, .mv (.t 5), none⟩, ⟨some 26, .bin .num .add (.t 25) (.c (.int .i64 1)), none⟩, ⟨some 5, .mv (.t 26), none⟩])))))
 (.seq (.reg [⟨some 27, .mv (.t 5), none⟩, ⟨some 4, .mv (.t 27), none⟩])
 (.ret))))⟩
def a151 : AFn := ⟨31, [.tmp 2],
 .seq (.reg [⟨some 2, .mv (.c (.bool false)), none⟩])
 (.seq (.reg [⟨some 6, .call .full 171 [], none⟩, ⟨some 3, .mv (.t 6), none⟩])
 (.seq (.reg [⟨some 4, .mv (.c (.int .i64 0)), none⟩])
 (.seq (.seq (.reg [⟨some 5, .mv (.c (.int .i64 0)), none⟩])
 (.block 0 (.loop (.seq (.seq (.reg [⟨some 7, .mv (.t 5), none⟩, ⟨some 8, .mv (.t 3), none⟩, ⟨some 9, .len true (.t 8), none⟩, ⟨some 10, .bin .num .leq (.t 7) (.t 9), none⟩])
 (.cond (.t 10) (.skip) (.exit 0)))
 (.seq (.block 1 (.seq (.seq (.reg [⟨some 13, .mv (.t 5), none⟩, ⟨some 14, .mv (.t 3), none⟩, ⟨some 15, .len true (.t 14), none⟩, ⟨some 16, .bin .num .lss (.t 13) (.t 15), none⟩, ⟨some 17, .mv (.t 16), none⟩, ⟨some 18, .mv (.t 3), (some (17, true))⟩, ⟨some 19, .mv (.t 5), (some (17, true))⟩, ⟨some 20, .ixs (.t 18) (.t 19), (some (17, true))⟩, ⟨some 21, .bin .num .neq (.t 20) (.c (.int .u8 32)), (some (17, true))⟩, ⟨some 22, .pick (.t 17) (.t 21) (.c (.bool false)), none⟩])
 (.cond (.t 22) (.exit 1) (.skip)))
 (.seq (.seq (.reg [⟨some 23, .mv (.t 3), none⟩, ⟨some 24, .mv (.t 4), none⟩, ⟨some 25, .mv (.t 5), none⟩, ⟨some 26, .slc none (.t 23) (some (.t 24)) (some (.t 25)), none⟩, ⟨some 27, .mv (.t 0), none⟩, ⟨some 28, .bin .str .eql (.t 26) (.t 27), none⟩])
 (.cond (.t 28) (.seq (.reg [⟨some 2, .mv (.c (.bool true)), none⟩])
 (.ret)) (.skip)))
 (.reg [⟨some 29, .mv (.t 5), none⟩, ⟨some 30, .bin .num .add (.t 29) (.c (.int .i64 1)), none⟩, ⟨some 4, .mv (.t 30), none⟩]))))
 (.reg [⟨some 11, .mv (.t 5), none⟩, ⟨some 12, .bin .num .add (.t 11) (.c (.int .i64 1)), none⟩, ⟨some 5, .mv (.t 12), none⟩]))))))
 (.seq (.reg [⟨some 2, .mv (.c (.bool false)), none⟩])
 (.ret)))))⟩
def a152 : AFn := ⟨9, [.tmp 2],
 .seq (.reg [⟨some 2, .mv (.c (.bool false)), none⟩])
 (.seq (.reg [⟨some 3, .mv (.t 0), none⟩, ⟨some 4, .bin .num .geq (.t 3) (.c (.int .u8 48)), none⟩, ⟨some 5, .mv (.t 4), none⟩, ⟨some 6, .mv (.t 0), (some (5, true))⟩, ⟨some 7, .bin .num .leq (.t 6) (.c (.int .u8 57)), (some (5, true))⟩, ⟨some 8, .pick (.t 5) (.t 7) (.c (.bool false)), none⟩, ⟨some 2, .mv (.t 8), none⟩])
 (.ret))⟩
def a153 : AFn := ⟨34, [.tmp 2, .tmp 3],
 .seq (.reg [⟨some 2, .mv (.c (.int .i64 0)), none⟩, ⟨some 3, .mv (.c (.bool false)), none⟩])
 (.seq (.seq (.reg [⟨some 6, .mv (.t 0), none⟩, ⟨some 7, .len true (.t 6), none⟩, ⟨some 8, .bin .num .gtr (.t 7) (.c (.int .i64 15)), none⟩, ⟨some 9, .mv (.t 8), none⟩, ⟨some 10, .mv (.t 0), (some (9, false))⟩, ⟨some 11, .len true (.t 10), (some (9, false))⟩, ⟨some 12, .bin .num .gtr (.t 11) (.c (.int .i64 1)), (some (9, false))⟩, ⟨some 13, .mv (.t 12), (some (9, false))⟩, ⟨some 14, .mv (.t 0), (some (13, true))⟩, ⟨some 15, .ixs (.t 14) (.c (.int .i64 0)), (some (13, true))⟩, ⟨some 16, .bin .num .eql (.t 15) (.c (.int .u8 48)), (some (13, true))⟩, ⟨some 17, .pick (.t 13) (.t 16) (.c (.bool false)), (some (9, false))⟩, ⟨some 18, .pick (.t 9) (.c (.bool true)) (.t 17), none⟩])
 (.cond (.t 18) (.seq (.reg [⟨some 2, .mv (.c (.int .i64 0)), none⟩, ⟨some 3, .mv (.c (.bool false)), none⟩])
 (.ret)) (.skip)))
 (.seq (.reg [⟨some 4, .mv (.c (.int .i64 0)), none⟩])
 (.seq (.seq (.reg [⟨some 5, .mv (.c (.int .i64 0)), none⟩])
 (.block 0 (.loop (.seq (.seq (.reg [⟨some 19, .mv (.t 5), none⟩, ⟨some 20, .mv (.t 0), none⟩, ⟨some 21, .len true (.t 20), none⟩, ⟨some 22, .bin .num .lss (.t 19) (.t 21), none⟩])
 (.cond (.t 22) (.skip) (.exit 0)))
 (.seq (.block 1 (.reg [⟨some 25, .mv (.t 4), none⟩, ⟨some 26, .bin .num .mul (.c (.int .i64 10)) (.t 25), none⟩, ⟨some 27, .mv (.t 0), none⟩, ⟨some 28, .mv (.t 5), none⟩, ⟨some 29, .ixs (.t 27) (.t 28), none⟩, ⟨some 30, .bin .num .sub (.t 29) (.c (.int .u8 48)), none⟩, ⟨some 31, .cvi .i64 (.t 30), none⟩, ⟨some 32, .bin .num .add (.t 26) (.t 31), none⟩, ⟨some 4, .mv (.t 32), none⟩]))
 (.reg [⟨some 23, .mv (.t 5), none⟩, ⟨some 24, .bin .num .add (.t 23) (.c (.int .i64 1)), none⟩, ⟨some 5, .mv (.t 24), none⟩]))))))
 (.seq (.reg [⟨some 33, .mv (.t 4), none⟩, ⟨some 2, .mv (.t 33), none⟩, ⟨some 3, .mv (.c (.bool true)), none⟩])
 (.ret)))))⟩
def a154 : AFn := ⟨66, [.tmp 2, .tmp 3],
 .seq (.reg [⟨some 2, .mv (.c (.str ⟨#[]⟩)), none⟩, ⟨some 3, .mv (.c (.int .i64 0)), none⟩])
 (.seq (.reg [⟨some 4, .mv (.c .nils), none⟩])
 (.seq (.reg [⟨some 5, .mv (.c (.int .i64 1)), none⟩])
 (.seq (.block 0 (.loop (.seq (.seq (.dreg [(⟨some 8, .mv (.t 5), none⟩, 0), (⟨some 9, .mv (.t 0), none⟩, 0), (⟨some 10, .len true (.t 9), none⟩, 2), (⟨some 11, .bin .num .lss (.t 8) (.t 10), none⟩, 7), (⟨some 12, .mv (.t 11), none⟩, 15), (⟨some 13, .mv (.t 0), (some (12, true))⟩, 31), (⟨some 14, .mv (.t 5), (some (12, true))⟩, 31), (⟨some 15, .ixs (.t 13) (.t 14), (some (12, true))⟩, 127), (⟨some 16, .mv (.t 0), (some (12, true))⟩, 31), (⟨some 17, .ixs (.t 16) (.c (.int .i64 0)), (some (12, true))⟩, 287), (⟨some 18, .bin .num .neq (.t 15) (.t 17), (some (12, true))⟩, 1023), (⟨some 19, .pick (.t 12) (.t 18) (.c (.bool false)), none⟩, 2047)])
 (.cond (.t 19) (.skip) (.exit 0)))
 (.block 1 (.seq (.seq (.reg [⟨some 20, .mv (.t 0), none⟩, ⟨some 21, .mv (.t 5), none⟩, ⟨some 22, .ixs (.t 20) (.t 21), none⟩, ⟨some 23, .bin .num .lss (.t 22) (.c (.int .u8 32)), none⟩, ⟨some 24, .mv (.t 23), none⟩, ⟨some 25, .mv (.t 0), (some (24, false))⟩, ⟨some 26, .mv (.t 5), (some (24, false))⟩, ⟨some 27, .ixs (.t 25) (.t 26), (some (24, false))⟩, ⟨some 28, .bin .num .gtr (.t 27) (.c (.int .u8 126)), (some (24, false))⟩, ⟨some 29, .pick (.t 24) (.c (.bool true)) (.t 28), none⟩])
 (.cond (.t 29) (.seq (.reg [⟨some 2, .mv (.c (.str ⟨#[]⟩)), none⟩, ⟨some 3, .mv (.c (.int .i64 0)), none⟩])
 (.ret)) (.skip)))
 (.seq (.seq (.reg [⟨some 30, .mv (.t 0), none⟩, ⟨some 31, .mv (.t 5), none⟩, ⟨some 32, .ixs (.t 30) (.t 31), none⟩, ⟨some 33, .bin .num .neq (.t 32) (.c (.int .u8 92)), none⟩])
 (.cond (.t 33) (.seq (.reg [⟨some 34, .mv (.t 4), none⟩, ⟨some 35, .mv (.t 0), none⟩, ⟨some 36, .mv (.t 5), none⟩, ⟨some 37, .ixs (.t 35) (.t 36), none⟩, ⟨some 38, .bsl true 1 1 [(.int .u8 0)] [(0, 1, (.t 37))], none⟩, ⟨some 39, .app 1 1 (.t 34) (.t 38), none⟩, ⟨some 4, .mv (.t 39), none⟩])
 (.seq (.reg [⟨some 40, .mv (.t 5), none⟩, ⟨some 41, .bin .num .add (.t 40) (.c (.int .i64 1)), none⟩, ⟨some 5, .mv (.t 41), none⟩])
 (.exit 1))) (.skip)))
 (.seq (.reg [⟨some 43, .mv (.t 0), none⟩, ⟨some 44, .mv (.t 5), none⟩, ⟨some 45, .slc none (.t 43) (some (.t 44)) none, none⟩, ⟨some 46, .call .full 172 [(.t 45)], none⟩, ⟨some 42, .mv (.t 46), none⟩, ⟨some 47, .ext 0 (.t 42), none⟩, ⟨some 48, .ext 1 (.t 42), none⟩, ⟨some 6, .mv (.t 47), none⟩, ⟨some 7, .mv (.t 48), none⟩])
 (.seq (.seq (.reg [⟨some 49, .mv (.t 7), none⟩, ⟨some 50, .bin .num .eql (.t 49) (.c (.int .i64 0)), none⟩])
 (.cond (.t 50) (.seq (.reg [⟨some 2, .mv (.c (.str ⟨#[]⟩)), none⟩, ⟨some 3, .mv (.c (.int .i64 0)), none⟩])
 (.ret)) (.skip)))
 (.seq (.reg [⟨some 51, .mv (.t 4), none⟩, ⟨some 52, .mv (.t 6), none⟩, ⟨some 53, .bsl true 1 1 [(.int .u8 0)] [(0, 1, (.t 52))], none⟩, ⟨some 54, .app 1 1 (.t 51) (.t 53), none⟩, ⟨some 4, .mv (.t 54), none⟩])
 (.reg [⟨some 55, .mv (.t 5), none⟩, ⟨some 56, .mv (.t 7), none⟩, ⟨some 57, .bin .num .add (.t 55) (.t 56), none⟩, ⟨some 5, .mv (.t 57), none⟩]))))))))))
 (.seq (.seq (.reg [⟨some 58, .mv (.t 5), none⟩, ⟨some 59, .mv (.t 0), none⟩, ⟨some 60, .len true (.t 59), none⟩, ⟨some 61, .bin .num .geq (.t 58) (.t 60), none⟩])
 (.cond (.t 61) (.seq (.reg [⟨some 2, .mv (.c (.str ⟨#[]⟩)), none⟩, ⟨some 3, .mv (.c (.int .i64 0)), none⟩])
 (.ret)) (.skip)))
 (.seq (.reg [⟨some 62, .mv (.t 4), none⟩, ⟨some 63, .cvs (.t 62), none⟩, ⟨some 64, .mv (.t 5), none⟩, ⟨some 65, .bin .num .add (.t 64) (.c (.int .i64 1)), none⟩, ⟨some 2, .mv (.t 63), none⟩, ⟨some 3, .mv (.t 65), none⟩])
 (.ret))))))⟩
def a155 : AFn := ⟨55, [.tmp 2],
 .seq (.reg [⟨some 2, .mv (.c (.int .i64 0)), none⟩])
 (.seq (.seq (.reg [⟨some 3, .mv (.t 0), none⟩, ⟨some 4, .len true (.t 3), none⟩, ⟨some 5, .bin .num .geq (.t 4) (.c (.int .i64 3)), none⟩, ⟨some 6, .mv (.t 5), none⟩, ⟨some 7, .mv (.t 0), (some (6, true))⟩, ⟨some 8, .slc none (.t 7) none (some (.c (.int .i64 3))), (some (6, true))⟩, ⟨some 9, .bin .str .eql (.t 8) (.c (.str ⟨#[61, 61, 61]⟩)), (some (6, true))⟩, ⟨some 10, .mv (.t 9), (some (6, true))⟩, ⟨some 11, .mv (.t 0), (some (10, false))⟩, ⟨some 12, .slc none (.t 11) none (some (.c (.int .i64 3))), (some (10, false))⟩, ⟨some 13, .bin .str .eql (.t 12) (.c (.str ⟨#[33, 61, 61]⟩)), (some (10, false))⟩, ⟨some 14, .pick (.t 10) (.c (.bool true)) (.t 13), (some (6, true))⟩, ⟨some 15, .pick (.t 6) (.t 14) (.c (.bool false)), none⟩])
 (.cond (.t 15) (.seq (.reg [⟨some 2, .mv (.c (.int .i64 3)), none⟩])
 (.ret)) (.skip)))
 (.seq (.seq (.reg [⟨some 16, .mv (.t 0), none⟩, ⟨some 17, .len true (.t 16), none⟩, ⟨some 18, .bin .num .geq (.t 17) (.c (.int .i64 2)), none⟩, ⟨some 19, .mv (.t 18), none⟩, ⟨some 20, .mv (.t 0), (some (19, true))⟩, ⟨some 21, .slc none (.t 20) none (some (.c (.int .i64 2))), (some (19, true))⟩, ⟨some 22, .bin .str .eql (.t 21) (.c (.str ⟨#[60, 61]⟩)), (some (19, true))⟩, ⟨some 23, .mv (.t 22), (some (19, true))⟩, ⟨some 24, .mv (.t 0), (some (23, false))⟩, ⟨some 25, .slc none (.t 24) none (some (.c (.int .i64 2))), (some (23, false))⟩, ⟨some 26, .bin .str .eql (.t 25) (.c (.str ⟨#[38, 38]⟩)), (some (23, false))⟩, ⟨some 27, .pick (.t 23) (.c (.bool true)) (.t 26), (some (19, true))⟩, ⟨some 28, .mv (.t 27), (some (19, true))⟩, ⟨some 29, .mv (.t 0), (some (28, false))⟩, ⟨some 30, .slc none (.t 29) none (some (.c (.int .i64 2))), (some (28, false))⟩, ⟨some 31, .bin .str .eql (.t 30) (.c (.str ⟨#[124, 124]⟩)), (some (28, false))⟩, ⟨some 32, .pick (.t 28) (.c (.bool true)) (.t 31), (some (19, true))⟩, ⟨some 33, .pick (.t 19) (.t 32) (.c (.bool false)), none⟩])
 (.cond (.t 33) (.seq (.reg [⟨some 2, .mv (.c (.int .i64 2)), none⟩])
 (.ret)) (.skip)))
 (.seq (.seq (.reg [⟨some 34, .mv (.t 0), none⟩, ⟨some 35, .ixs (.t 34) (.c (.int .i64 0)), none⟩])
 (.block 0 (.seq (.seq (.reg [⟨some 37, .bin .num .eql (.t 35) (.c (.int .u8 123)), none⟩, ⟨some 36, .mv (.t 37), none⟩])
 (.cond (.t 36) (.skip) (.seq (.reg [⟨some 38, .bin .num .eql (.t 35) (.c (.int .u8 125)), none⟩, ⟨some 36, .mv (.t 38), none⟩])
 (.cond (.t 36) (.skip) (.seq (.reg [⟨some 39, .bin .num .eql (.t 35) (.c (.int .u8 40)), none⟩, ⟨some 36, .mv (.t 39), none⟩])
 (.cond (.t 36) (.skip) (.seq (.reg [⟨some 40, .bin .num .eql (.t 35) (.c (.int .u8 41)), none⟩, ⟨some 36, .mv (.t 40), none⟩])
 (.cond (.t 36) (.skip) (.seq (.reg [⟨some 41, .bin .num .eql (.t 35) (.c (.int .u8 91)), none⟩, ⟨some 36, .mv (.t 41), none⟩])
 (.cond (.t 36) (.skip) (.seq (.reg [⟨some 42, .bin .num .eql (.t 35) (.c (.int .u8 93)), none⟩, ⟨some 36, .mv (.t 42), none⟩])
 (.cond (.t 36) (.skip) (.seq (.reg [⟨some 43, .bin .num .eql (.t 35) (.c (.int .u8 46)), none⟩, ⟨some 36, .mv (.t 43), none⟩])
 (.cond (.t 36) (.skip) (.seq (.reg [⟨some 44, .bin .num .eql (.t 35) (.c (.int .u8 59)), none⟩, ⟨some 36, .mv (.t 44), none⟩])
 (.cond (.t 36) (.skip) (.seq (.reg [⟨some 45, .bin .num .eql (.t 35) (.c (.int .u8 44)), none⟩, ⟨some 36, .mv (.t 45), none⟩])
 (.cond (.t 36) (.skip) (.seq (.reg [⟨some 46, .bin .num .eql (.t 35) (.c (.int .u8 58)), none⟩, ⟨some 36, .mv (.t 46), none⟩])
 (.cond (.t 36) (.skip) (.seq (.reg [⟨some 47, .bin .num .eql (.t 35) (.c (.int .u8 63)), none⟩, ⟨some 36, .mv (.t 47), none⟩])
 (.cond (.t 36) (.skip) (.seq (.reg [⟨some 48, .bin .num .eql (.t 35) (.c (.int .u8 60)), none⟩, ⟨some 36, .mv (.t 48), none⟩])
 (.cond (.t 36) (.skip) (.seq (.reg [⟨some 49, .bin .num .eql (.t 35) (.c (.int .u8 61)), none⟩, ⟨some 36, .mv (.t 49), none⟩])
 (.cond (.t 36) (.skip) (.seq (.reg [⟨some 50, .bin .num .eql (.t 35) (.c (.int .u8 33)), none⟩, ⟨some 36, .mv (.t 50), none⟩])
 (.cond (.t 36) (.skip) (.seq (.reg [⟨some 51, .bin .num .eql (.t 35) (.c (.int .u8 43)), none⟩, ⟨some 36, .mv (.t 51), none⟩])
 (.cond (.t 36) (.skip) (.seq (.reg [⟨some 52, .bin .num .eql (.t 35) (.c (.int .u8 45)), none⟩, ⟨some 36, .mv (.t 52), none⟩])
 (.cond (.t 36) (.skip) (.seq (.reg [⟨some 53, .bin .num .eql (.t 35) (.c (.int .u8 42)), none⟩, ⟨some 36, .mv (.t 53), none⟩])
 (.cond (.t 36) (.skip) (.reg [⟨some 54, .bin .num .eql (.t 35) (.c (.int .u8 47)), none⟩, ⟨some 36, .mv (.t 54), none⟩])))))))))))))))))))))))))))))))))))
 (.cond (.t 36) (.seq (.reg [⟨some 2, .mv (.c (.int .i64 1)), none⟩])
 (.ret)) (.skip)))))
 (.seq (.reg [⟨some 2, .mv (.c (.int .i64 0)), none⟩])
 (.ret)))))⟩
def a156 : AFn := ⟨12, [.tmp 2],
 .seq (.reg [⟨some 2, .mv (.c (.bool false)), none⟩])
 (.seq (.seq (.reg [⟨some 3, .mv (.t 0), none⟩])
 (.block 0 (.seq (.seq (.reg [⟨some 5, .bin .str .eql (.t 3) (.c (.str ⟨#[43]⟩)), none⟩, ⟨some 4, .mv (.t 5), none⟩])
 (.cond (.t 4) (.skip) (.seq (.reg [⟨some 6, .bin .str .eql (.t 3) (.c (.str ⟨#[45]⟩)), none⟩, ⟨some 4, .mv (.t 6), none⟩])
 (.cond (.t 4) (.skip) (.seq (.reg [⟨some 7, .bin .str .eql (.t 3) (.c (.str ⟨#[42]⟩)), none⟩, ⟨some 4, .mv (.t 7), none⟩])
 (.cond (.t 4) (.skip) (.seq (.reg [⟨some 8, .bin .str .eql (.t 3) (.c (.str ⟨#[60]⟩)), none⟩, ⟨some 4, .mv (.t 8), none⟩])
 (.cond (.t 4) (.skip) (.seq (.reg [⟨some 9, .bin .str .eql (.t 3) (.c (.str ⟨#[60, 61]⟩)), none⟩, ⟨some 4, .mv (.t 9), none⟩])
 (.cond (.t 4) (.skip) (.seq (.reg [⟨some 10, .bin .str .eql (.t 3) (.c (.str ⟨#[61, 61, 61]⟩)), none⟩, ⟨some 4, .mv (.t 10), none⟩])
 (.cond (.t 4) (.skip) (.reg [⟨some 11, .bin .str .eql (.t 3) (.c (.str ⟨#[33, 61, 61]⟩)), none⟩, ⟨some 4, .mv (.t 11), none⟩])))))))))))))
 (.cond (.t 4) (.seq (.reg [⟨some 2, .mv (.c (.bool true)), none⟩])
 (.ret)) (.skip)))))
 (.seq (.reg [⟨some 2, .mv (.c (.bool false)), none⟩])
 (.ret)))⟩
def a159 : AFn := ⟨9, [.tmp 2],
 .seq (.reg [⟨some 2, .mv (.c (.bool false)), none⟩])
 (.seq (.reg [⟨some 3, .mv (.t 0), none⟩, ⟨some 4, .bin .num .geq (.t 3) (.c (.int .u8 48)), none⟩, ⟨some 5, .mv (.t 4), none⟩, ⟨some 6, .mv (.t 0), (some (5, true))⟩, ⟨some 7, .bin .num .leq (.t 6) (.c (.int .u8 57)), (some (5, true))⟩, ⟨some 8, .pick (.t 5) (.t 7) (.c (.bool false)), none⟩, ⟨some 2, .mv (.t 8), none⟩])
 (.ret))⟩
def a160 : AFn := ⟨9, [.tmp 0],
 .seq (.reg [⟨some 0, .mv (.c .nilm), none⟩])
 (.seq (.reg [⟨some 3, .mkm, none⟩, ⟨some 1, .alloc 198 [.nilm], none⟩, ⟨none, .st 1 (.t 1) (.t 3), none⟩])
 (.seq (.seq (.reg [⟨some 4, .call .no 173 [(.c (.str ⟨#[98, 114, 101, 97, 107, 32, 99, 97, 115, 101, 32, 99, 97, 116, 99, 104, 32, 99, 111, 110, 116, 105, 110, 117, 101, 32, 100, 101, 98, 117, 103, 103, 101, 114, 32, 100, 101, 102, 97, 117, 108, 116, 32, 100, 101, 108, 101, 116, 101, 32, 100, 111, 32, 101, 108, 115, 101, 32, 102, 105, 110, 97, 108, 108, 121, 32, 102, 111, 114, 32, 102, 117, 110, 99, 116, 105, 111, 110, 32, 105, 102, 32, 105, 110, 32, 105, 110, 115, 116, 97, 110, 99, 101, 111, 102, 32, 110, 101, 119, 32, 114, 101, 116, 117, 114, 110, 32, 115, 119, 105, 116, 99, 104, 32, 116, 104, 105, 115, 32, 116, 104, 114, 111, 119, 32, 116, 114, 121, 32, 116, 121, 112, 101, 111, 102, 32, 118, 97, 114, 32, 118, 111, 105, 100, 32, 119, 104, 105, 108, 101, 32, 119, 105, 116, 104, 32, 110, 117, 108, 108, 32, 116, 114, 117, 101, 32, 102, 97, 108, 115, 101, 32, 117, 110, 100, 101, 102, 105, 110, 101, 100, 32, 105, 110, 112, 117, 116]⟩))], none⟩])
 (.block 0 (.rf (.t 4) [5] (.reg [⟨some 2, .mv (.t 5), none⟩]) (.block 1 (.reg [⟨some 6, .ld none (.t 1), none⟩, ⟨some 7, .mv (.t 2), none⟩, ⟨none, .upd true (.t 6) (.t 7) (.c (.bool true)), none⟩])))))
 (.seq (.reg [⟨some 8, .ld none (.t 1), none⟩, ⟨some 0, .mv (.t 8), none⟩])
 (.ret))))⟩
def a163 : AFn := ⟨19, [],
 .seq (.reg [⟨some 5, .mv (.t 0), none⟩, ⟨some 6, .mv (.t 1), none⟩, ⟨some 7, .call .no 105 [(.t 5), (.t 6)], none⟩, ⟨some 4, .mv (.t 7), none⟩])
 (.seq (.reg [⟨some 8, .mv (.t 4), none⟩, ⟨some 9, .un .not (.t 8), none⟩, ⟨some 10, .mv (.t 9), none⟩, ⟨some 11, .mv (.t 0), (some (10, true))⟩, ⟨some 12, .nck (.t 11), (some (10, true))⟩, ⟨some 13, .fa 2 (.t 12), (some (10, true))⟩, ⟨some 14, .ld none (.t 13), (some (10, true))⟩, ⟨some 15, .bin .num .eql (.t 14) (.c (.int .i64 0)), (some (10, true))⟩, ⟨some 16, .pick (.t 10) (.t 15) (.c (.bool false)), none⟩])
 (.cond (.t 16) (.reg [⟨some 17, .mv (.t 0), none⟩, ⟨some 18, .call .full 74 [(.t 17), (.c (.bool false))], none⟩]) (.skip)))⟩
def a164 : AFn := ⟨27, [.tmp 2],
 .seq (.reg [⟨some 2, .mv (.c (.str ⟨#[]⟩)), none⟩])
 (.seq (.reg [⟨some 4, .mv (.t 0), none⟩, ⟨some 5, .call .no 103 [(.t 4), (.c (.int .i64 0))], none⟩, ⟨some 3, .alloc 130 [(.int .i64 0), (.str ⟨#[]⟩), (.int .i64 0), (.int .i64 0), (.bool false)], none⟩, ⟨none, .st 5 (.t 3) (.t 5), none⟩])
 (.seq (.seq (.reg [⟨some 6, .mv (.t 0), none⟩, ⟨some 7, .nck (.t 6), none⟩, ⟨some 8, .fa 2 (.t 7), none⟩, ⟨some 9, .ld none (.t 8), none⟩, ⟨some 10, .bin .num .neq (.t 9) (.c (.int .i64 0)), none⟩, ⟨some 11, .mv (.t 10), none⟩, ⟨some 12, .fa 0 (.t 3), (some (11, false))⟩, ⟨some 13, .ld none (.t 12), (some (11, false))⟩, ⟨some 14, .bin .num .neq (.t 13) (.c (.int .i64 1)), (some (11, false))⟩, ⟨some 15, .pick (.t 11) (.c (.bool true)) (.t 14), none⟩])
 (.cond (.t 15) (.seq (.reg [⟨some 16, .mv (.t 0), none⟩, ⟨some 17, .call .full 74 [(.t 16), (.c (.bool false))], none⟩])
 (.seq (.reg [⟨some 2, .mv (.c (.str ⟨#[]⟩)), none⟩])
 (.ret))) (.skip)))
 (.seq (.reg [⟨some 18, .mv (.t 0), none⟩, ⟨some 19, .nck (.t 18), none⟩, ⟨some 20, .fa 1 (.t 19), none⟩, ⟨some 21, .ld none (.t 20), none⟩, ⟨some 22, .bin .num .add (.t 21) (.c (.int .i64 1)), none⟩, ⟨some 23, .nck (.t 18), none⟩, ⟨some 24, .fa 1 (.t 23), none⟩, ⟨none, .st 1 (.t 24) (.t 22), none⟩])
 (.seq (.reg [⟨some 25, .fa 1 (.t 3), none⟩, ⟨some 26, .ld none (.t 25), none⟩, ⟨some 2, .mv (.t 26), none⟩])
 (.ret)))))⟩
def a165 : AFn := ⟨11, [.cell 2 (some 5)],
 .seq (.reg [⟨some 2, .alloc 24 [(.int .i64 0), (.str ⟨#[]⟩), (.int .i64 0), .nils, (.int .i64 0)], none⟩])
 (.seq (.reg [⟨some 4, .mv (.t 0), none⟩, ⟨some 5, .call .no 163 [(.t 4), (.c (.str ⟨#[40]⟩))], none⟩])
 (.seq (.reg [⟨some 6, .mv (.t 0), none⟩, ⟨some 7, .call .no 147 [(.t 6)], none⟩, ⟨some 3, .alloc 24 [(.int .i64 0), (.str ⟨#[]⟩), (.int .i64 0), .nils, (.int .i64 0)], none⟩, ⟨none, .st 5 (.t 3) (.t 7), none⟩])
 (.seq (.reg [⟨some 8, .mv (.t 0), none⟩, ⟨some 9, .call .no 163 [(.t 8), (.c (.str ⟨#[41]⟩))], none⟩])
 (.seq (.reg [⟨some 10, .ld (some 5) (.t 3), none⟩, ⟨none, .st 5 (.t 2) (.t 10), none⟩])
 (.ret)))))⟩
def a167 : AFn := ⟨40, [.tmp 2],
 .seq (.reg [⟨some 2, .mv (.c .nils), none⟩])
 (.seq (.reg [⟨some 3, .mv (.c .nils), none⟩])
 (.seq (.reg [⟨some 7, .mv (.t 0), none⟩, ⟨some 8, .call .no 163 [(.t 7), (.c (.str ⟨#[40]⟩))], none⟩])
 (.seq (.reg [⟨some 9, .mv (.t 0), none⟩, ⟨some 10, .call .no 104 [(.t 9), (.c (.str ⟨#[41]⟩))], none⟩, ⟨some 4, .mv (.t 10), none⟩])
 (.seq (.reg [⟨some 11, .mv (.t 4), none⟩, ⟨some 12, .un .not (.t 11), none⟩, ⟨some 5, .mv (.t 12), none⟩])
 (.seq (.block 0 (.loop (.seq (.seq (.reg [⟨some 13, .mv (.t 0), none⟩, ⟨some 14, .nck (.t 13), none⟩, ⟨some 15, .fa 2 (.t 14), none⟩, ⟨some 16, .ld none (.t 15), none⟩, ⟨some 17, .bin .num .eql (.t 16) (.c (.int .i64 0)), none⟩, ⟨some 18, .mv (.t 17), none⟩, ⟨some 19, .mv (.t 5), (some (18, true))⟩, ⟨some 20, .pick (.t 18) (.t 19) (.c (.bool false)), none⟩])
 (.cond (.t 20) (.skip) (.exit 0)))
 (.block 1 (.seq (.reg [⟨some 21, .mv (.t 0), none⟩, ⟨some 22, .call .no 103 [(.t 21), (.c (.int .i64 0))], none⟩, ⟨some 23, .fld 3 none (.t 22), none⟩, ⟨some 6, .mv (.t 23), none⟩])
 (.seq (.reg [⟨some 24, .mv (.t 3), none⟩, ⟨some 25, .mv (.t 0), none⟩, ⟨some 26, .call .no 164 [(.t 25)], none⟩, ⟨some 27, .mv (.t 6), none⟩, ⟨some 28, .build [(.int .i64 0), (.str ⟨#[]⟩), (.int .i64 0), .nils, (.int .i64 0)] [(0, 1, (.c (.int .i64 1))), (1, 1, (.t 26)), (4, 1, (.t 27))], none⟩, ⟨some 29, .bsl true 5 1 [(.int .i64 0), (.str ⟨#[]⟩), (.int .i64 0), .nils, (.int .i64 0)] [(0, 5, (.t 28))], none⟩, ⟨some 30, .app 5 64 (.t 24) (.t 29), none⟩, ⟨some 3, .mv (.t 30), none⟩])
 (.reg [⟨some 31, .mv (.t 0), none⟩, ⟨some 32, .call .no 105 [(.t 31), (.c (.str ⟨#[44]⟩))], none⟩, ⟨some 5, .mv (.t 32), none⟩])))))))
 (.seq (.reg [⟨some 33, .mv (.t 0), none⟩, ⟨some 34, .call .no 163 [(.t 33), (.c (.str ⟨#[41]⟩))], none⟩])
 (.seq (.reg [⟨some 35, .mv (.t 3), none⟩, ⟨some 36, .mv (.t 0), none⟩, ⟨some 37, .call .no 145 [(.t 36)], none⟩, ⟨some 38, .bsl true 5 1 [(.int .i64 0), (.str ⟨#[]⟩), (.int .i64 0), .nils, (.int .i64 0)] [(0, 5, (.t 37))], none⟩, ⟨some 39, .app 5 64 (.t 35) (.t 38), none⟩, ⟨some 2, .mv (.t 39), none⟩])
 (.ret))))))))⟩
def a168 : AFn := ⟨108, [.tmp 6],
 .seq (.reg [⟨some 6, .mv (.c (.bool false)), none⟩])
 (.seq (.seq (.reg [⟨some 8, .mv (.t 2), none⟩])
 (.block 0 (.seq (.reg [⟨some 10, .bin .str .eql (.t 8) (.c (.str ⟨#[114, 101, 116, 117, 114, 110]⟩)), none⟩, ⟨some 9, .mv (.t 10), none⟩])
 (.cond (.t 9) (.seq (.reg [⟨some 11, .mv (.t 0), none⟩, ⟨some 12, .nck (.t 11), none⟩, ⟨some 13, .fa 1 (.t 12), none⟩, ⟨some 14, .ld none (.t 13), none⟩, ⟨some 15, .bin .num .add (.t 14) (.c (.int .i64 1)), none⟩, ⟨some 16, .nck (.t 11), none⟩, ⟨some 17, .fa 1 (.t 16), none⟩, ⟨none, .st 1 (.t 17) (.t 15), none⟩])
 (.seq (.reg [⟨some 18, .mv (.t 1), none⟩, ⟨some 19, .nck (.t 18), none⟩, ⟨some 20, .fa 0 (.t 19), none⟩, ⟨none, .st 1 (.t 20) (.c (.int .i64 36)), none⟩])
 (.seq (.reg [⟨some 21, .mv (.t 0), none⟩, ⟨some 22, .call .no 103 [(.t 21), (.c (.int .i64 0))], none⟩, ⟨some 7, .alloc 130 [(.int .i64 0), (.str ⟨#[]⟩), (.int .i64 0), (.int .i64 0), (.bool false)], none⟩, ⟨none, .st 5 (.t 7) (.t 22), none⟩])
 (.seq (.seq (.reg [⟨some 23, .fa 0 (.t 7), none⟩, ⟨some 24, .ld none (.t 23), none⟩, ⟨some 25, .bin .num .neq (.t 24) (.c (.int .i64 0)), none⟩, ⟨some 26, .mv (.t 25), none⟩, ⟨some 27, .fa 4 (.t 7), (some (26, true))⟩, ⟨some 28, .ld none (.t 27), (some (26, true))⟩, ⟨some 29, .un .not (.t 28), (some (26, true))⟩, ⟨some 30, .pick (.t 26) (.t 29) (.c (.bool false)), none⟩, ⟨some 31, .mv (.t 30), none⟩, ⟨some 32, .fa 0 (.t 7), (some (31, true))⟩, ⟨some 33, .ld none (.t 32), (some (31, true))⟩, ⟨some 34, .bin .num .eql (.t 33) (.c (.int .i64 5)), (some (31, true))⟩, ⟨some 35, .mv (.t 34), (some (31, true))⟩, ⟨some 36, .fa 1 (.t 7), (some (35, true))⟩, ⟨some 37, .ld none (.t 36), (some (35, true))⟩, ⟨some 38, .bin .str .eql (.t 37) (.c (.str ⟨#[59]⟩)), (some (35, true))⟩, ⟨some 39, .mv (.t 38), (some (35, true))⟩, ⟨some 40, .fa 1 (.t 7), (some (39, false))⟩, ⟨some 41, .ld none (.t 40), (some (39, false))⟩, ⟨some 42, .bin .str .eql (.t 41) (.c (.str ⟨#[125]⟩)), (some (39, false))⟩, ⟨some 43, .pick (.t 39) (.c (.bool true)) (.t 42), (some (35, true))⟩, ⟨some 44, .pick (.t 35) (.t 43) (.c (.bool false)), (some (31, true))⟩, ⟨some 45, .un .not (.t 44), (some (31, true))⟩, ⟨some 46, .pick (.t 31) (.t 45) (.c (.bool false)), none⟩])
 (.cond (.t 46) (.reg [⟨some 47, .mv (.t 1), none⟩, ⟨some 48, .mv (.t 0), none⟩, ⟨some 49, .call .no 147 [(.t 48)], none⟩, ⟨some 50, .bsl true 5 1 [(.int .i64 0), (.str ⟨#[]⟩), (.int .i64 0), .nils, (.int .i64 0)] [(0, 5, (.t 49))], none⟩, ⟨some 51, .nck (.t 47), none⟩, ⟨some 52, .fa 3 (.t 51), none⟩, ⟨none, .st 1 (.t 52) (.t 50), none⟩]) (.skip)))
 (.reg [⟨some 53, .mv (.t 0), none⟩, ⟨some 54, .call .no 148 [(.t 53)], none⟩]))))) (.seq (.reg [⟨some 56, .bin .str .eql (.t 8) (.c (.str ⟨#[116, 104, 114, 111, 119]⟩)), none⟩, ⟨some 55, .mv (.t 56), none⟩])
 (.cond (.t 55) (.seq (.reg [⟨some 57, .mv (.t 0), none⟩, ⟨some 58, .nck (.t 57), none⟩, ⟨some 59, .fa 1 (.t 58), none⟩, ⟨some 60, .ld none (.t 59), none⟩, ⟨some 61, .bin .num .add (.t 60) (.c (.int .i64 1)), none⟩, ⟨some 62, .nck (.t 57), none⟩, ⟨some 63, .fa 1 (.t 62), none⟩, ⟨none, .st 1 (.t 63) (.t 61), none⟩])
 (.seq (.reg [⟨some 64, .mv (.t 1), none⟩, ⟨some 65, .nck (.t 64), none⟩, ⟨some 66, .fa 0 (.t 65), none⟩, ⟨none, .st 1 (.t 66) (.c (.int .i64 37)), none⟩])
 (.seq (.seq (.reg [⟨some 67, .mv (.t 0), none⟩, ⟨some 68, .call .no 103 [(.t 67), (.c (.int .i64 0))], none⟩, ⟨some 69, .fld 4 none (.t 68), none⟩])
 (.cond (.t 69) (.reg [⟨some 70, .mv (.t 0), none⟩, ⟨some 71, .call .full 74 [(.t 70), (.c (.bool false))], none⟩]) (.skip)))
 (.seq (.reg [⟨some 72, .mv (.t 1), none⟩, ⟨some 73, .mv (.t 0), none⟩, ⟨some 74, .call .no 147 [(.t 73)], none⟩, ⟨some 75, .bsl true 5 1 [(.int .i64 0), (.str ⟨#[]⟩), (.int .i64 0), .nils, (.int .i64 0)] [(0, 5, (.t 74))], none⟩, ⟨some 76, .nck (.t 72), none⟩, ⟨some 77, .fa 3 (.t 76), none⟩, ⟨none, .st 1 (.t 77) (.t 75), none⟩])
 (.reg [⟨some 78, .mv (.t 0), none⟩, ⟨some 79, .call .no 148 [(.t 78)], none⟩]))))) (.seq (.reg [⟨some 81, .bin .str .eql (.t 8) (.c (.str ⟨#[98, 114, 101, 97, 107]⟩)), none⟩, ⟨some 80, .mv (.t 81), none⟩])
 (.cond (.t 80) (.seq (.reg [⟨some 82, .mv (.t 0), none⟩, ⟨some 83, .nck (.t 82), none⟩, ⟨some 84, .fa 1 (.t 83), none⟩, ⟨some 85, .ld none (.t 84), none⟩, ⟨some 86, .bin .num .add (.t 85) (.c (.int .i64 1)), none⟩, ⟨some 87, .nck (.t 82), none⟩, ⟨some 88, .fa 1 (.t 87), none⟩, ⟨none, .st 1 (.t 88) (.t 86), none⟩])
 (.seq (.reg [⟨some 89, .mv (.t 1), none⟩, ⟨some 90, .nck (.t 89), none⟩, ⟨some 91, .fa 0 (.t 90), none⟩, ⟨none, .st 1 (.t 91) (.c (.int .i64 39)), none⟩])
 (.reg [⟨some 92, .mv (.t 0), none⟩, ⟨some 93, .call .no 148 [(.t 92)], none⟩]))) (.seq (.reg [⟨some 95, .bin .str .eql (.t 8) (.c (.str ⟨#[99, 111, 110, 116, 105, 110, 117, 101]⟩)), none⟩, ⟨some 94, .mv (.t 95), none⟩])
 (.cond (.t 94) (.seq (.reg [⟨some 96, .mv (.t 0), none⟩, ⟨some 97, .nck (.t 96), none⟩, ⟨some 98, .fa 1 (.t 97), none⟩, ⟨some 99, .ld none (.t 98), none⟩, ⟨some 100, .bin .num .add (.t 99) (.c (.int .i64 1)), none⟩, ⟨some 101, .nck (.t 96), none⟩, ⟨some 102, .fa 1 (.t 101), none⟩, ⟨none, .st 1 (.t 102) (.t 100), none⟩])
 (.seq (.reg [⟨some 103, .mv (.t 1), none⟩, ⟨some 104, .nck (.t 103), none⟩, ⟨some 105, .fa 0 (.t 104), none⟩, ⟨none, .st 1 (.t 105) (.c (.int .i64 40)), none⟩])
 (.reg [⟨some 106, .mv (.t 0), none⟩, ⟨some 107, .call .no 148 [(.t 106)], none⟩]))) (.seq (.reg [⟨some 6, .mv (.c (.bool false)), none⟩])
 (.ret))))))))))))
 (.seq (.reg [⟨some 6, .mv (.c (.bool true)), none⟩])
 (.ret)))⟩
def a169 : AFn := ⟨25, [.cell 2 (some 5)],
 .seq (.reg [⟨some 2, .alloc 24 [(.int .i64 0), (.str ⟨#[]⟩), (.int .i64 0), .nils, (.int .i64 0)], none⟩])
 (.seq (.reg [⟨some 6, .mv (.t 0), none⟩, ⟨some 7, .call .no 175 [(.t 6), (.c (.int .i64 0))], none⟩, ⟨some 3, .alloc 24 [(.int .i64 0), (.str ⟨#[]⟩), (.int .i64 0), .nils, (.int .i64 0)], none⟩, ⟨none, .st 5 (.t 3) (.t 7), none⟩])
 (.seq (.reg [⟨some 8, .mv (.t 0), none⟩, ⟨some 9, .call .no 105 [(.t 8), (.c (.str ⟨#[63]⟩))], none⟩, ⟨some 4, .mv (.t 9), none⟩])
 (.seq (.seq (.reg [⟨some 10, .mv (.t 4), none⟩, ⟨some 11, .un .not (.t 10), none⟩])
 (.cond (.t 11) (.seq (.reg [⟨some 12, .ld (some 5) (.t 3), none⟩, ⟨none, .st 5 (.t 2) (.t 12), none⟩])
 (.ret)) (.skip)))
 (.seq (.reg [⟨some 13, .mv (.t 0), none⟩, ⟨some 14, .call .no 147 [(.t 13)], none⟩, ⟨some 5, .alloc 24 [(.int .i64 0), (.str ⟨#[]⟩), (.int .i64 0), .nils, (.int .i64 0)], none⟩, ⟨none, .st 5 (.t 5) (.t 14), none⟩])
 (.seq (.reg [⟨some 15, .mv (.t 0), none⟩, ⟨some 16, .call .no 163 [(.t 15), (.c (.str ⟨#[58]⟩))], none⟩])
 (.seq (.dreg [(⟨some 17, .fa 4 (.t 3), none⟩, 0), (⟨some 18, .ld none (.t 17), none⟩, 1), (⟨some 19, .ld (some 5) (.t 3), none⟩, 0), (⟨some 20, .ld (some 5) (.t 5), none⟩, 0), (⟨some 21, .mv (.t 0), none⟩, 0), (⟨some 22, .call .no 147 [(.t 21)], none⟩, 16), (⟨some 23, .bsl true 5 3 [(.int .i64 0), (.str ⟨#[]⟩), (.int .i64 0), .nils, (.int .i64 0), (.int .i64 0), (.str ⟨#[]⟩), (.int .i64 0), .nils, (.int .i64 0), (.int .i64 0), (.str ⟨#[]⟩), (.int .i64 0), .nils, (.int .i64 0)] [(0, 5, (.t 19)), (5, 5, (.t 20)), (10, 5, (.t 22))], none⟩, 60), (⟨some 24, .build [(.int .i64 0), (.str ⟨#[]⟩), (.int .i64 0), .nils, (.int .i64 0)] [(0, 1, (.c (.int .i64 23))), (4, 1, (.t 18)), (3, 1, (.t 23))], none⟩, 127), (⟨none, .st 5 (.t 2) (.t 24), none⟩, 255)])
 (.ret)))))))⟩
def a170 : AFn := ⟨54, [.tmp 4],
 .seq (.reg [⟨some 4, .mv (.c (.bool false)), none⟩])
 (.seq (.reg [⟨some 5, .mv (.c (.int .i64 0)), none⟩])
 (.seq (.seq (.reg [⟨some 7, .mv (.t 1), none⟩, ⟨some 6, .mv (.t 7), none⟩])
 (.block 0 (.loop (.seq (.seq (.reg [⟨some 8, .mv (.t 6), none⟩, ⟨some 9, .mv (.t 0), none⟩, ⟨some 10, .nck (.t 9), none⟩, ⟨some 11, .fa 1 (.t 10), none⟩, ⟨some 12, .ld none (.t 11), none⟩, ⟨some 13, .bin .num .lss (.t 8) (.t 12), none⟩])
 (.cond (.t 13) (.skip) (.exit 0)))
 (.seq (.block 1 (.seq (.seq (.reg [⟨some 16, .mv (.t 0), none⟩, ⟨some 17, .nck (.t 16), none⟩, ⟨some 18, .fa 0 (.t 17), none⟩, ⟨some 19, .ld none (.t 18), none⟩, ⟨some 20, .mv (.t 6), none⟩, ⟨some 21, .ia 5 (.t 19) (.t 20), none⟩, ⟨some 22, .fa 0 (.t 21), none⟩, ⟨some 23, .ld none (.t 22), none⟩, ⟨some 24, .bin .num .neq (.t 23) (.c (.int .i64 5)), none⟩])
 (.cond (.t 24) (.exit 1) (.skip)))
 (.seq (.seq (.reg [⟨some 25, .mv (.t 0), none⟩, ⟨some 26, .nck (.t 25), none⟩, ⟨some 27, .fa 0 (.t 26), none⟩, ⟨some 28, .ld none (.t 27), none⟩, ⟨some 29, .mv (.t 6), none⟩, ⟨some 30, .ia 5 (.t 28) (.t 29), none⟩, ⟨some 31, .fa 1 (.t 30), none⟩, ⟨some 32, .ld none (.t 31), none⟩])
 (.block 2 (.seq (.seq (.reg [⟨some 34, .bin .str .eql (.t 32) (.c (.str ⟨#[40]⟩)), none⟩, ⟨some 33, .mv (.t 34), none⟩])
 (.cond (.t 33) (.skip) (.seq (.reg [⟨some 35, .bin .str .eql (.t 32) (.c (.str ⟨#[91]⟩)), none⟩, ⟨some 33, .mv (.t 35), none⟩])
 (.cond (.t 33) (.skip) (.reg [⟨some 36, .bin .str .eql (.t 32) (.c (.str ⟨#[123]⟩)), none⟩, ⟨some 33, .mv (.t 36), none⟩])))))
 (.cond (.t 33) (.reg [⟨some 37, .mv (.t 5), none⟩, ⟨some 38, .bin .num .add (.t 37) (.c (.int .i64 1)), none⟩, ⟨some 5, .mv (.t 38), none⟩]) (.seq (.seq (.reg [⟨some 40, .bin .str .eql (.t 32) (.c (.str ⟨#[41]⟩)), none⟩, ⟨some 39, .mv (.t 40), none⟩])
 (.cond (.t 39) (.skip) (.seq (.reg [⟨some 41, .bin .str .eql (.t 32) (.c (.str ⟨#[93]⟩)), none⟩, ⟨some 39, .mv (.t 41), none⟩])
 (.cond (.t 39) (.skip) (.reg [⟨some 42, .bin .str .eql (.t 32) (.c (.str ⟨#[125]⟩)), none⟩, ⟨some 39, .mv (.t 42), none⟩])))))
 (.cond (.t 39) (.reg [⟨some 43, .mv (.t 5), none⟩, ⟨some 44, .bin .num .sub (.t 43) (.c (.int .i64 1)), none⟩, ⟨some 5, .mv (.t 44), none⟩]) (.skip)))))))
 (.seq (.reg [⟨some 45, .mv (.t 5), none⟩, ⟨some 46, .bin .num .eql (.t 45) (.c (.int .i64 0)), none⟩])
 (.cond (.t 46) (.seq (.reg [⟨some 47, .mv (.t 6), none⟩, ⟨some 48, .mv (.t 0), none⟩, ⟨some 49, .nck (.t 48), none⟩, ⟨some 50, .fa 1 (.t 49), none⟩, ⟨some 51, .ld none (.t 50), none⟩, ⟨some 52, .bin .num .sub (.t 51) (.c (.int .i64 1)), none⟩, ⟨some 53, .bin .num .eql (.t 47) (.t 52), none⟩, ⟨some 4, .mv (.t 53), none⟩])
 (.ret)) (.skip))))))
 (.reg [⟨some 14, .mv (.t 6), none⟩, ⟨some 15, .bin .num .add (.t 14) (.c (.int .i64 1)), none⟩, ⟨some 6, .mv (.t 15), none⟩]))))))
 (.seq (.reg [⟨some 4, .mv (.c (.bool false)), none⟩])
 (.ret))))⟩
def a171 : AFn := ⟨1, [.tmp 0],
 .seq (.reg [⟨some 0, .mv (.c (.str ⟨#[]⟩)), none⟩])
 (.seq (.reg [⟨some 0, .mv (.c (.str ⟨#[98, 114, 101, 97, 107, 32, 99, 97, 115, 101, 32, 99, 97, 116, 99, 104, 32, 99, 111, 110, 116, 105, 110, 117, 101, 32, 100, 101, 98, 117, 103, 103, 101, 114, 32, 100, 101, 102, 97, 117, 108, 116, 32, 100, 101, 108, 101, 116, 101, 32, 100, 111, 32, 101, 108, 115, 101, 32, 102, 105, 110, 97, 108, 108, 121, 32, 102, 111, 114, 32, 102, 117, 110, 99, 116, 105, 111, 110, 32, 105, 102, 32, 105, 110, 32, 105, 110, 115, 116, 97, 110, 99, 101, 111, 102, 32, 110, 101, 119, 32, 114, 101, 116, 117, 114, 110, 32, 115, 119, 105, 116, 99, 104, 32, 116, 104, 105, 115, 32, 116, 104, 114, 111, 119, 32, 116, 114, 121, 32, 116, 121, 112, 101, 111, 102, 32, 118, 97, 114, 32, 118, 111, 105, 100, 32, 119, 104, 105, 108, 101, 32, 119, 105, 116, 104, 32, 110, 117, 108, 108, 32, 116, 114, 117, 101, 32, 102, 97, 108, 115, 101, 32, 117, 110, 100, 101, 102, 105, 110, 101, 100, 32, 105, 110, 112, 117, 116]⟩)), none⟩])
 (.ret))⟩
def a172 : AFn := ⟨45, [.tmp 2, .tmp 3],
 .seq (.reg [⟨some 2, .mv (.c (.int .u8 0)), none⟩, ⟨some 3, .mv (.c (.int .i64 0)), none⟩])
 (.seq (.seq (.reg [⟨some 4, .mv (.t 0), none⟩, ⟨some 5, .len true (.t 4), none⟩, ⟨some 6, .bin .num .lss (.t 5) (.c (.int .i64 2)), none⟩])
 (.cond (.t 6) (.seq (.reg [⟨some 2, .mv (.c (.int .u8 0)), none⟩, ⟨some 3, .mv (.c (.int .i64 0)), none⟩])
 (.ret)) (.skip)))
 (.seq (.seq (.reg [⟨some 7, .mv (.t 0), none⟩, ⟨some 8, .ixs (.t 7) (.c (.int .i64 1)), none⟩])
 (.block 0 (.seq (.reg [⟨some 10, .bin .num .eql (.t 8) (.c (.int .u8 110)), none⟩, ⟨some 9, .mv (.t 10), none⟩])
 (.cond (.t 9) (.seq (.reg [⟨some 2, .mv (.c (.int .u8 10)), none⟩, ⟨some 3, .mv (.c (.int .i64 2)), none⟩])
 (.ret)) (.seq (.reg [⟨some 12, .bin .num .eql (.t 8) (.c (.int .u8 116)), none⟩, ⟨some 11, .mv (.t 12), none⟩])
 (.cond (.t 11) (.seq (.reg [⟨some 2, .mv (.c (.int .u8 9)), none⟩, ⟨some 3, .mv (.c (.int .i64 2)), none⟩])
 (.ret)) (.seq (.seq (.reg [⟨some 14, .bin .num .eql (.t 8) (.c (.int .u8 92)), none⟩, ⟨some 13, .mv (.t 14), none⟩])
 (.cond (.t 13) (.skip) (.seq (.reg [⟨some 15, .bin .num .eql (.t 8) (.c (.int .u8 34)), none⟩, ⟨some 13, .mv (.t 15), none⟩])
 (.cond (.t 13) (.skip) (.reg [⟨some 16, .bin .num .eql (.t 8) (.c (.int .u8 39)), none⟩, ⟨some 13, .mv (.t 16), none⟩])))))
 (.cond (.t 13) (.seq (.reg [⟨some 17, .mv (.t 0), none⟩, ⟨some 18, .ixs (.t 17) (.c (.int .i64 1)), none⟩, ⟨some 2, .mv (.t 18), none⟩, ⟨some 3, .mv (.c (.int .i64 2)), none⟩])
 (.ret)) (.seq (.reg [⟨some 20, .bin .num .eql (.t 8) (.c (.int .u8 120)), none⟩, ⟨some 19, .mv (.t 20), none⟩])
 (.cond (.t 19) (.seq (.reg [⟨some 21, .mv (.t 0), none⟩, ⟨some 22, .len true (.t 21), none⟩, ⟨some 23, .bin .num .geq (.t 22) (.c (.int .i64 4)), none⟩, ⟨some 24, .mv (.t 23), none⟩, ⟨some 25, .mv (.t 0), (some (24, true))⟩, ⟨some 26, .ixs (.t 25) (.c (.int .i64 2)), (some (24, true))⟩, ⟨some 27, .call .full 176 [(.t 26)], (some (24, true))⟩, ⟨some 28, .bin .num .geq (.t 27) (.c (.int .i64 0)), (some (24, true))⟩, ⟨some 29, .pick (.t 24) (.t 28) (.c (.bool false)), none⟩, ⟨some 30, .mv (.t 29), none⟩, ⟨some 31, .mv (.t 0), (some (30, true))⟩, ⟨some 32, .ixs (.t 31) (.c (.int .i64 3)), (some (30, true))⟩, ⟨some 33, .call .full 176 [(.t 32)], (some (30, true))⟩, ⟨some 34, .bin .num .geq (.t 33) (.c (.int .i64 0)), (some (30, true))⟩, ⟨some 35, .pick (.t 30) (.t 34) (.c (.bool false)), none⟩])
 (.cond (.t 35) (.seq (.dreg [(⟨some 36, .mv (.t 0), none⟩, 0), (⟨some 37, .ixs (.t 36) (.c (.int .i64 2)), none⟩, 1), (⟨some 38, .call .full 176 [(.t 37)], none⟩, 3), (⟨some 39, .bin .num .mul (.c (.int .i64 16)) (.t 38), none⟩, 7), (⟨some 40, .mv (.t 0), none⟩, 0), (⟨some 41, .ixs (.t 40) (.c (.int .i64 3)), none⟩, 16), (⟨some 42, .call .full 176 [(.t 41)], none⟩, 55), (⟨some 43, .bin .num .add (.t 39) (.t 42), none⟩, 127), (⟨some 44, .cvi .u8 (.t 43), none⟩, 255), (⟨some 2, .mv (.t 44), none⟩, 511), (⟨some 3, .mv (.c (.int .i64 4)), none⟩, 1023)])
 (.ret)) (.skip))) (.skip)))))))))))
 (.seq (.reg [⟨some 2, .mv (.c (.int .u8 0)), none⟩, ⟨some 3, .mv (.c (.int .i64 0)), none⟩])
 (.ret))))⟩
def a173 : AFn := ⟨4, [.tmp 2],
 .seq (.reg [⟨some 1, .box 9 (.t 0), none⟩, ⟨some 2, .mv (.c .nilf), none⟩])
 (.seq (.reg [⟨some 3, .mkf 177 [] [(.t 1)], none⟩, ⟨some 2, .mv (.t 3), none⟩])
 (.ret))⟩
def a175 : AFn := ⟨71, [.cell 4 (some 5)],
 .seq (.reg [⟨some 4, .alloc 24 [(.int .i64 0), (.str ⟨#[]⟩), (.int .i64 0), .nils, (.int .i64 0)], none⟩])
 (.seq (.seq (.reg [⟨some 12, .mv (.t 1), none⟩, ⟨some 13, .bin .num .eql (.t 12) (.c (.int .i64 6)), none⟩])
 (.cond (.t 13) (.seq (.reg [⟨some 14, .mv (.t 0), none⟩, ⟨some 15, .call .no 181 [(.t 14)], none⟩, ⟨none, .st 5 (.t 4) (.t 15), none⟩])
 (.ret)) (.skip)))
 (.seq (.reg [⟨some 16, .mv (.t 0), none⟩, ⟨some 17, .mv (.t 1), none⟩, ⟨some 18, .bin .num .add (.t 17) (.c (.int .i64 1)), none⟩, ⟨some 19, .call .no 175 [(.t 16), (.t 18)], none⟩, ⟨some 5, .alloc 24 [(.int .i64 0), (.str ⟨#[]⟩), (.int .i64 0), .nils, (.int .i64 0)], none⟩, ⟨none, .st 5 (.t 5) (.t 19), none⟩])
 (.seq (.block 0 (.loop (.seq (.seq (.reg [⟨some 20, .mv (.t 0), none⟩, ⟨some 21, .nck (.t 20), none⟩, ⟨some 22, .fa 2 (.t 21), none⟩, ⟨some 23, .ld none (.t 22), none⟩, ⟨some 24, .bin .num .eql (.t 23) (.c (.int .i64 0)), none⟩])
 (.cond (.t 24) (.skip) (.exit 0)))
 (.block 1 (.seq (.reg [⟨some 6, .mv (.c (.str ⟨#[]⟩)), none⟩])
 (.seq (.reg [⟨some 25, .mv (.t 1), none⟩, ⟨some 26, .call .full 182 [(.t 25)], none⟩, ⟨some 7, .mv (.t 26), none⟩])
 (.seq (.seq (.reg [⟨some 8, .mv (.c (.int .i64 0)), none⟩])
 (.block 2 (.loop (.seq (.seq (.reg [⟨some 27, .mv (.t 8), none⟩, ⟨some 28, .mv (.t 7), none⟩, ⟨some 29, .len false (.t 28), none⟩, ⟨some 30, .bin .num .lss (.t 27) (.t 29), none⟩, ⟨some 31, .mv (.t 30), none⟩, ⟨some 32, .mv (.t 6), (some (31, true))⟩, ⟨some 33, .bin .str .eql (.t 32) (.c (.str ⟨#[]⟩)), (some (31, true))⟩, ⟨some 34, .pick (.t 31) (.t 33) (.c (.bool false)), none⟩])
 (.cond (.t 34) (.skip) (.exit 2)))
 (.seq (.block 3 (.seq (.reg [⟨some 37, .mv (.t 0), none⟩, ⟨some 38, .mv (.t 7), none⟩, ⟨some 39, .mv (.t 8), none⟩, ⟨some 40, .ia 1 (.t 38) (.t 39), none⟩, ⟨some 41, .ld none (.t 40), none⟩, ⟨some 42, .call .no 105 [(.t 37), (.t 41)], none⟩, ⟨some 9, .mv (.t 42), none⟩])
 (.seq (.reg [⟨some 43, .mv (.t 9), none⟩])
 (.cond (.t 43) (.reg [⟨some 44, .mv (.t 7), none⟩, ⟨some 45, .mv (.t 8), none⟩, ⟨some 46, .ia 1 (.t 44) (.t 45), none⟩, ⟨some 47, .ld none (.t 46), none⟩, ⟨some 6, .mv (.t 47), none⟩]) (.skip)))))
 (.reg [⟨some 35, .mv (.t 8), none⟩, ⟨some 36, .bin .num .add (.t 35) (.c (.int .i64 1)), none⟩, ⟨some 8, .mv (.t 36), none⟩]))))))
 (.seq (.seq (.reg [⟨some 48, .mv (.t 6), none⟩, ⟨some 49, .bin .str .eql (.t 48) (.c (.str ⟨#[]⟩)), none⟩])
 (.cond (.t 49) (.exit 0) (.skip)))
 (.seq (.reg [⟨some 50, .mv (.t 0), none⟩, ⟨some 51, .mv (.t 1), none⟩, ⟨some 52, .bin .num .add (.t 51) (.c (.int .i64 1)), none⟩, ⟨some 53, .call .no 175 [(.t 50), (.t 52)], none⟩, ⟨some 10, .alloc 24 [(.int .i64 0), (.str ⟨#[]⟩), (.int .i64 0), .nils, (.int .i64 0)], none⟩, ⟨none, .st 5 (.t 10) (.t 53), none⟩])
 (.seq (.reg [⟨some 54, .mv (.t 6), none⟩, ⟨some 55, .fa 4 (.t 5), none⟩, ⟨some 56, .ld none (.t 55), none⟩, ⟨some 57, .ld (some 5) (.t 5), none⟩, ⟨some 58, .ld (some 5) (.t 10), none⟩, ⟨some 59, .bsl true 5 2 [(.int .i64 0), (.str ⟨#[]⟩), (.int .i64 0), .nils, (.int .i64 0), (.int .i64 0), (.str ⟨#[]⟩), (.int .i64 0), .nils, (.int .i64 0)] [(0, 5, (.t 57)), (5, 5, (.t 58))], none⟩, ⟨some 60, .build [(.int .i64 0), (.str ⟨#[]⟩), (.int .i64 0), .nils, (.int .i64 0)] [(0, 1, (.c (.int .i64 18))), (1, 1, (.t 54)), (4, 1, (.t 56)), (3, 1, (.t 59))], none⟩, ⟨some 11, .alloc 24 [(.int .i64 0), (.str ⟨#[]⟩), (.int .i64 0), .nils, (.int .i64 0)], none⟩, ⟨none, .st 5 (.t 11) (.t 60), none⟩])
 (.seq (.seq (.reg [⟨some 61, .mv (.t 1), none⟩, ⟨some 62, .bin .num .eql (.t 61) (.c (.int .i64 0)), none⟩])
 (.cond (.t 62) (.seq (.reg [⟨some 63, .fa 0 (.t 11), none⟩, ⟨none, .st 1 (.t 63) (.c (.int .i64 22)), none⟩])
 (.reg [⟨some 64, .fa 1 (.t 11), none⟩, ⟨none, .st 1 (.t 64) (.c (.str ⟨#[]⟩)), none⟩])) (.skip)))
 (.seq (.seq (.reg [⟨some 65, .mv (.t 1), none⟩, ⟨some 66, .bin .num .eql (.t 65) (.c (.int .i64 1)), none⟩])
 (.cond (.t 66) (.seq (.reg [⟨some 67, .fa 0 (.t 11), none⟩, ⟨none, .st 1 (.t 67) (.c (.int .i64 21)), none⟩])
 (.reg [⟨some 68, .fa 1 (.t 11), none⟩, ⟨none, .st 1 (.t 68) (.c (.str ⟨#[]⟩)), none⟩])) (.skip)))
 (.reg [⟨some 69, .ld (some 5) (.t 11), none⟩, ⟨none, .st 5 (.t 5) (.t 69), none⟩])))))))))))))
 (.seq (.reg [⟨some 70, .ld (some 5) (.t 5), none⟩, ⟨none, .st 5 (.t 4) (.t 70), none⟩])
 (.ret)))))⟩
def a176 : AFn := ⟨18, [.tmp 2],
 .seq (.reg [⟨some 2, .mv (.c (.int .i64 0)), none⟩])
 (.seq (.seq (.reg [⟨some 3, .mv (.t 0), none⟩, ⟨some 4, .call .full 152 [(.t 3)], none⟩])
 (.cond (.t 4) (.seq (.reg [⟨some 5, .mv (.t 0), none⟩, ⟨some 6, .bin .num .sub (.t 5) (.c (.int .u8 48)), none⟩, ⟨some 7, .cvi .i64 (.t 6), none⟩, ⟨some 2, .mv (.t 7), none⟩])
 (.ret)) (.skip)))
 (.seq (.seq (.reg [⟨some 8, .mv (.t 0), none⟩, ⟨some 9, .bin .num .geq (.t 8) (.c (.int .u8 97)), none⟩, ⟨some 10, .mv (.t 9), none⟩, ⟨some 11, .mv (.t 0), (some (10, true))⟩, ⟨some 12, .bin .num .leq (.t 11) (.c (.int .u8 102)), (some (10, true))⟩, ⟨some 13, .pick (.t 10) (.t 12) (.c (.bool false)), none⟩])
 (.cond (.t 13) (.seq (.reg [⟨some 14, .mv (.t 0), none⟩, ⟨some 15, .bin .num .sub (.t 14) (.c (.int .u8 97)), none⟩, ⟨some 16, .cvi .i64 (.t 15), none⟩, ⟨some 17, .bin .num .add (.t 16) (.c (.int .i64 10)), none⟩, ⟨some 2, .mv (.t 17), none⟩])
 (.ret)) (.skip)))
 (.seq (.reg [⟨some 2, .mv (.c (.int .i64 (-1))), none⟩])
 (.ret))))⟩
def a177 : AFn := ⟨56, [],
 .seq (.reg [⟨some 3, .mv (.c (.int .i64 (-1))), none⟩])
 (.seq (.seq (.reg [⟨some 4, .mv (.c (.int .i64 0)), none⟩])
 (.block 0 (.loop (.seq (.seq (.reg [⟨some 8, .mv (.t 4), none⟩, ⟨some 9, .ld none (.t 1), none⟩, ⟨some 10, .len true (.t 9), none⟩, ⟨some 11, .bin .num .lss (.t 8) (.t 10), none⟩])
 (.cond (.t 11) (.skip) (.exit 0)))
 (.block 1 (.seq (.reg [⟨some 5, .mv (.c (.int .i64 1)), none⟩])
 (.seq (.reg [⟨some 12, .ld none (.t 1), none⟩, ⟨some 13, .mv (.t 4), none⟩, ⟨some 14, .ixs (.t 12) (.t 13), none⟩, ⟨some 15, .cvi .i32 (.t 14), none⟩, ⟨some 6, .mv (.t 15), none⟩])
 (.seq (.reg [⟨some 16, .ld none (.t 1), none⟩, ⟨some 17, .mv (.t 4), none⟩, ⟨some 18, .ixs (.t 16) (.t 17), none⟩, ⟨some 19, .iaa 256 1 (.g 1) (.t 18), none⟩, ⟨some 20, .ld none (.t 19), none⟩, ⟨some 21, .bin .num .neq (.t 20) (.c (.int .u8 0)), none⟩, ⟨some 7, .mv (.t 21), none⟩])
 (.seq (.seq (.reg [⟨some 22, .mv (.t 6), none⟩, ⟨some 23, .bin .num .geq (.t 22) (.c (.int .i32 128)), none⟩])
 (.cond (.t 23) (.seq (.reg [⟨some 25, .ld none (.t 1), none⟩, ⟨some 26, .mv (.t 4), none⟩, ⟨some 27, .slc none (.t 25) (some (.t 26)) none, none⟩, ⟨some 28, .call .full 178 [(.t 27)], none⟩, ⟨some 24, .mv (.t 28), none⟩, ⟨some 29, .ext 0 (.t 24), none⟩, ⟨some 30, .ext 1 (.t 24), none⟩, ⟨some 6, .mv (.t 29), none⟩, ⟨some 5, .mv (.t 30), none⟩])
 (.reg [⟨some 31, .mv (.t 6), none⟩, ⟨some 32, .call .full 162 [(.t 31)], none⟩, ⟨some 7, .mv (.t 32), none⟩])) (.skip)))
 (.seq (.seq (.reg [⟨some 33, .mv (.t 7), none⟩])
 (.cond (.t 33) (.seq (.reg [⟨some 34, .mv (.t 3), none⟩, ⟨some 35, .bin .num .geq (.t 34) (.c (.int .i64 0)), none⟩])
 (.cond (.t 35) (.seq (.seq (.reg [⟨some 36, .mv (.t 0), none⟩, ⟨some 37, .ld none (.t 1), none⟩, ⟨some 38, .mv (.t 3), none⟩, ⟨some 39, .mv (.t 4), none⟩, ⟨some 40, .slc none (.t 37) (some (.t 38)) (some (.t 39)), none⟩, ⟨some 41, .callv .no (.t 36) [(.t 40)], none⟩, ⟨some 42, .un .not (.t 41), none⟩])
 (.cond (.t 42) (.ret) (.skip)))
 (.reg [⟨some 3, .mv (.c (.int .i64 (-1))), none⟩])) (.skip))) (.seq (.reg [⟨some 43, .mv (.t 3), none⟩, ⟨some 44, .bin .num .lss (.t 43) (.c (.int .i64 0)), none⟩])
 (.cond (.t 44) (.reg [⟨some 45, .mv (.t 4), none⟩, ⟨some 3, .mv (.t 45), none⟩]) (.skip)))))
 (.reg [⟨some 46, .mv (.t 4), none⟩, ⟨some 47, .mv (.t 5), none⟩, ⟨some 48, .bin .num .add (.t 46) (.t 47), none⟩, ⟨some 4, .mv (.t 48), none⟩])))))))))))
 (.seq (.reg [⟨some 49, .mv (.t 3), none⟩, ⟨some 50, .bin .num .geq (.t 49) (.c (.int .i64 0)), none⟩])
 (.cond (.t 50) (.reg [⟨some 51, .mv (.t 0), none⟩, ⟨some 52, .ld none (.t 1), none⟩, ⟨some 53, .mv (.t 3), none⟩, ⟨some 54, .slc none (.t 52) (some (.t 53)) none, none⟩, ⟨some 55, .callv .no (.t 51) [(.t 54)], none⟩]) (.skip))))⟩
def a178 : AFn := ⟨19, [.tmp 2, .tmp 3],
 .seq (.reg [⟨some 2, .mv (.c (.int .i32 0)), none⟩, ⟨some 3, .mv (.c (.int .i64 0)), none⟩])
 (.seq (.seq (.reg [⟨some 4, .mv (.t 0), none⟩, ⟨some 5, .bin .str .neq (.t 4) (.c (.str ⟨#[]⟩)), none⟩, ⟨some 6, .mv (.t 5), none⟩, ⟨some 7, .mv (.t 0), (some (6, true))⟩, ⟨some 8, .ixs (.t 7) (.c (.int .i64 0)), (some (6, true))⟩, ⟨some 9, .bin .num .lss (.t 8) (.c (.int .u8 128)), (some (6, true))⟩, ⟨some 10, .pick (.t 6) (.t 9) (.c (.bool false)), none⟩])
 (.cond (.t 10) (.seq (.reg [⟨some 11, .mv (.t 0), none⟩, ⟨some 12, .ixs (.t 11) (.c (.int .i64 0)), none⟩, ⟨some 13, .cvi .i32 (.t 12), none⟩, ⟨some 2, .mv (.t 13), none⟩, ⟨some 3, .mv (.c (.int .i64 1)), none⟩])
 (.ret)) (.reg [⟨some 15, .mv (.t 0), none⟩, ⟨some 16, .call .full 183 [(.t 15)], none⟩, ⟨some 14, .mv (.t 16), none⟩, ⟨some 17, .ext 0 (.t 14), none⟩, ⟨some 18, .ext 1 (.t 14), none⟩, ⟨some 2, .mv (.t 17), none⟩, ⟨some 3, .mv (.t 18), none⟩])))
 (.ret))⟩
def a181 : AFn := ⟨53, [.cell 2 (some 5)],
 .seq (.reg [⟨some 2, .alloc 24 [(.int .i64 0), (.str ⟨#[]⟩), (.int .i64 0), .nils, (.int .i64 0)], none⟩])
 (.seq (.reg [⟨some 9, .mv (.t 0), none⟩, ⟨some 10, .call .no 103 [(.t 9), (.c (.int .i64 0))], none⟩, ⟨some 11, .fld 3 none (.t 10), none⟩, ⟨some 3, .mv (.t 11), none⟩])
 (.seq (.reg [⟨some 12, .mv (.t 0), none⟩, ⟨some 13, .call .no 105 [(.t 12), (.c (.str ⟨#[33]⟩))], none⟩, ⟨some 4, .mv (.t 13), none⟩])
 (.seq (.seq (.reg [⟨some 14, .mv (.t 4), none⟩])
 (.cond (.t 14) (.seq (.reg [⟨some 15, .mv (.t 3), none⟩, ⟨some 16, .mv (.t 0), none⟩, ⟨some 17, .call .no 181 [(.t 16)], none⟩, ⟨some 18, .bsl true 5 1 [(.int .i64 0), (.str ⟨#[]⟩), (.int .i64 0), .nils, (.int .i64 0)] [(0, 5, (.t 17))], none⟩, ⟨some 19, .build [(.int .i64 0), (.str ⟨#[]⟩), (.int .i64 0), .nils, (.int .i64 0)] [(0, 1, (.c (.int .i64 19))), (4, 1, (.t 15)), (3, 1, (.t 18))], none⟩, ⟨none, .st 5 (.t 2) (.t 19), none⟩])
 (.ret)) (.skip)))
 (.seq (.reg [⟨some 20, .mv (.t 0), none⟩, ⟨some 21, .call .no 105 [(.t 20), (.c (.str ⟨#[45]⟩))], none⟩, ⟨some 5, .mv (.t 21), none⟩])
 (.seq (.seq (.reg [⟨some 22, .mv (.t 5), none⟩])
 (.cond (.t 22) (.seq (.reg [⟨some 23, .mv (.t 3), none⟩, ⟨some 24, .mv (.t 0), none⟩, ⟨some 25, .call .no 181 [(.t 24)], none⟩, ⟨some 26, .bsl true 5 1 [(.int .i64 0), (.str ⟨#[]⟩), (.int .i64 0), .nils, (.int .i64 0)] [(0, 5, (.t 25))], none⟩, ⟨some 27, .build [(.int .i64 0), (.str ⟨#[]⟩), (.int .i64 0), .nils, (.int .i64 0)] [(0, 1, (.c (.int .i64 20))), (4, 1, (.t 23)), (3, 1, (.t 26))], none⟩, ⟨none, .st 5 (.t 2) (.t 27), none⟩])
 (.ret)) (.skip)))
 (.seq (.reg [⟨some 6, .alloc 24 [(.int .i64 0), (.str ⟨#[]⟩), (.int .i64 0), .nils, (.int .i64 0)], none⟩])
 (.seq (.reg [⟨some 28, .mv (.t 0), none⟩, ⟨some 29, .call .no 105 [(.t 28), (.c (.str ⟨#[110, 101, 119]⟩))], none⟩, ⟨some 7, .mv (.t 29), none⟩])
 (.seq (.seq (.reg [⟨some 30, .mv (.t 7), none⟩])
 (.cond (.t 30) (.seq (.reg [⟨some 31, .mv (.t 0), none⟩, ⟨some 32, .mv (.t 0), none⟩, ⟨some 33, .call .no 185 [(.t 32)], none⟩, ⟨some 34, .call .no 184 [(.t 31), (.t 33), (.c (.bool false))], none⟩, ⟨none, .st 5 (.t 6) (.t 34), none⟩])
 (.seq (.reg [⟨some 35, .mv (.t 3), none⟩, ⟨some 36, .ld (some 5) (.t 6), none⟩, ⟨some 37, .bsl true 5 1 [(.int .i64 0), (.str ⟨#[]⟩), (.int .i64 0), .nils, (.int .i64 0)] [(0, 5, (.t 36))], none⟩, ⟨some 38, .build [(.int .i64 0), (.str ⟨#[]⟩), (.int .i64 0), .nils, (.int .i64 0)] [(0, 1, (.c (.int .i64 16))), (4, 1, (.t 35)), (3, 1, (.t 37))], none⟩, ⟨none, .st 5 (.t 6) (.t 38), none⟩])
 (.seq (.reg [⟨some 39, .mv (.t 0), none⟩, ⟨some 40, .call .no 105 [(.t 39), (.c (.str ⟨#[40]⟩))], none⟩, ⟨some 8, .mv (.t 40), none⟩])
 (.seq (.reg [⟨some 41, .mv (.t 8), none⟩])
 (.cond (.t 41) (.dreg [(⟨some 42, .fa 3 (.t 6), none⟩, 0), (⟨some 43, .ld none (.t 42), none⟩, 1), (⟨some 44, .mv (.t 0), none⟩, 0), (⟨some 45, .call .no 186 [(.t 44)], none⟩, 4), (⟨some 46, .app 5 64 (.t 43) (.t 45), none⟩, 15), (⟨some 47, .fa 3 (.t 6), none⟩, 31), (⟨none, .st 1 (.t 47) (.t 46), none⟩, 63)]) (.skip)))))) (.reg [⟨some 48, .mv (.t 0), none⟩, ⟨some 49, .call .no 185 [(.t 48)], none⟩, ⟨none, .st 5 (.t 6) (.t 49), none⟩])))
 (.seq (.reg [⟨some 50, .mv (.t 0), none⟩, ⟨some 51, .ld (some 5) (.t 6), none⟩, ⟨some 52, .call .no 184 [(.t 50), (.t 51), (.c (.bool true))], none⟩, ⟨none, .st 5 (.t 2) (.t 52), none⟩])
 (.ret))))))))))⟩
def a182 : AFn := ⟨20, [.tmp 2],
 .seq (.reg [⟨some 2, .mv (.c .nils), none⟩])
 (.seq (.seq (.reg [⟨some 3, .mv (.t 0), none⟩])
 (.block 0 (.seq (.reg [⟨some 5, .bin .num .eql (.t 3) (.c (.int .i64 0)), none⟩, ⟨some 4, .mv (.t 5), none⟩])
 (.cond (.t 4) (.seq (.reg [⟨some 6, .bsl true 1 1 [(.str ⟨#[]⟩)] [(0, 1, (.c (.str ⟨#[124, 124]⟩)))], none⟩, ⟨some 2, .mv (.t 6), none⟩])
 (.ret)) (.seq (.reg [⟨some 8, .bin .num .eql (.t 3) (.c (.int .i64 1)), none⟩, ⟨some 7, .mv (.t 8), none⟩])
 (.cond (.t 7) (.seq (.reg [⟨some 9, .bsl true 1 1 [(.str ⟨#[]⟩)] [(0, 1, (.c (.str ⟨#[38, 38]⟩)))], none⟩, ⟨some 2, .mv (.t 9), none⟩])
 (.ret)) (.seq (.reg [⟨some 11, .bin .num .eql (.t 3) (.c (.int .i64 2)), none⟩, ⟨some 10, .mv (.t 11), none⟩])
 (.cond (.t 10) (.seq (.reg [⟨some 12, .bsl true 1 2 [(.str ⟨#[]⟩), (.str ⟨#[]⟩)] [(0, 1, (.c (.str ⟨#[61, 61, 61]⟩))), (1, 1, (.c (.str ⟨#[33, 61, 61]⟩)))], none⟩, ⟨some 2, .mv (.t 12), none⟩])
 (.ret)) (.seq (.reg [⟨some 14, .bin .num .eql (.t 3) (.c (.int .i64 3)), none⟩, ⟨some 13, .mv (.t 14), none⟩])
 (.cond (.t 13) (.seq (.reg [⟨some 15, .bsl true 1 2 [(.str ⟨#[]⟩), (.str ⟨#[]⟩)] [(0, 1, (.c (.str ⟨#[60]⟩))), (1, 1, (.c (.str ⟨#[60, 61]⟩)))], none⟩, ⟨some 2, .mv (.t 15), none⟩])
 (.ret)) (.seq (.reg [⟨some 17, .bin .num .eql (.t 3) (.c (.int .i64 4)), none⟩, ⟨some 16, .mv (.t 17), none⟩])
 (.cond (.t 16) (.seq (.reg [⟨some 18, .bsl true 1 2 [(.str ⟨#[]⟩), (.str ⟨#[]⟩)] [(0, 1, (.c (.str ⟨#[43]⟩))), (1, 1, (.c (.str ⟨#[45]⟩)))], none⟩, ⟨some 2, .mv (.t 18), none⟩])
 (.ret)) (.skip)))))))))))))
 (.seq (.reg [⟨some 19, .bsl true 1 1 [(.str ⟨#[]⟩)] [(0, 1, (.c (.str ⟨#[42]⟩)))], none⟩, ⟨some 2, .mv (.t 19), none⟩])
 (.ret)))⟩
def a184 : AFn := ⟨80, [.cell 6 (some 5)],
 .seq (.reg [⟨some 4, .box 24 (.t 1), none⟩, ⟨some 6, .alloc 24 [(.int .i64 0), (.str ⟨#[]⟩), (.int .i64 0), .nils, (.int .i64 0)], none⟩])
 (.seq (.block 0 (.loop (.seq (.seq (.reg [⟨some 13, .mv (.t 0), none⟩, ⟨some 14, .nck (.t 13), none⟩, ⟨some 15, .fa 2 (.t 14), none⟩, ⟨some 16, .ld none (.t 15), none⟩, ⟨some 17, .bin .num .eql (.t 16) (.c (.int .i64 0)), none⟩])
 (.cond (.t 17) (.skip) (.exit 0)))
 (.block 1 (.seq (.reg [⟨some 18, .mv (.t 0), none⟩, ⟨some 19, .call .no 105 [(.t 18), (.c (.str ⟨#[46]⟩))], none⟩, ⟨some 7, .mv (.t 19), none⟩])
 (.seq (.seq (.reg [⟨some 20, .mv (.t 7), none⟩])
 (.cond (.t 20) (.seq (.reg [⟨some 21, .mv (.t 0), none⟩, ⟨some 22, .call .no 103 [(.t 21), (.c (.int .i64 0))], none⟩, ⟨some 8, .alloc 130 [(.int .i64 0), (.str ⟨#[]⟩), (.int .i64 0), (.int .i64 0), (.bool false)], none⟩, ⟨none, .st 5 (.t 8) (.t 22), none⟩])
 (.seq (.seq (.reg [⟨some 23, .fa 0 (.t 8), none⟩, ⟨some 24, .ld none (.t 23), none⟩, ⟨some 25, .bin .num .neq (.t 24) (.c (.int .i64 1)), none⟩, ⟨some 26, .mv (.t 25), none⟩, ⟨some 27, .fa 0 (.t 8), (some (26, true))⟩, ⟨some 28, .ld none (.t 27), (some (26, true))⟩, ⟨some 29, .bin .num .neq (.t 28) (.c (.int .i64 2)), (some (26, true))⟩, ⟨some 30, .pick (.t 26) (.t 29) (.c (.bool false)), none⟩])
 (.cond (.t 30) (.seq (.reg [⟨some 31, .mv (.t 0), none⟩, ⟨some 32, .call .full 74 [(.t 31), (.c (.bool false))], none⟩, ⟨none, .st 5 (.t 6) (.t 32), none⟩])
 (.ret)) (.skip)))
 (.seq (.reg [⟨some 33, .mv (.t 0), none⟩, ⟨some 34, .nck (.t 33), none⟩, ⟨some 35, .fa 1 (.t 34), none⟩, ⟨some 36, .ld none (.t 35), none⟩, ⟨some 37, .bin .num .add (.t 36) (.c (.int .i64 1)), none⟩, ⟨some 38, .nck (.t 33), none⟩, ⟨some 39, .fa 1 (.t 38), none⟩, ⟨none, .st 1 (.t 39) (.t 37), none⟩])
 (.seq (.reg [⟨some 40, .fa 1 (.t 8), none⟩, ⟨some 41, .ld none (.t 40), none⟩, ⟨some 42, .fa 4 (.t 4), none⟩, ⟨some 43, .ld none (.t 42), none⟩, ⟨some 44, .ld (some 5) (.t 4), none⟩, ⟨some 45, .bsl true 5 1 [(.int .i64 0), (.str ⟨#[]⟩), (.int .i64 0), .nils, (.int .i64 0)] [(0, 5, (.t 44))], none⟩, ⟨some 46, .build [(.int .i64 0), (.str ⟨#[]⟩), (.int .i64 0), .nils, (.int .i64 0)] [(0, 1, (.c (.int .i64 13))), (1, 1, (.t 41)), (4, 1, (.t 43)), (3, 1, (.t 45))], none⟩, ⟨none, .st 5 (.t 4) (.t 46), none⟩])
 (.exit 1))))) (.skip)))
 (.seq (.reg [⟨some 47, .mv (.t 0), none⟩, ⟨some 48, .call .no 105 [(.t 47), (.c (.str ⟨#[91]⟩))], none⟩, ⟨some 9, .mv (.t 48), none⟩])
 (.seq (.seq (.reg [⟨some 49, .mv (.t 9), none⟩])
 (.cond (.t 49) (.seq (.reg [⟨some 50, .mv (.t 0), none⟩, ⟨some 51, .call .no 147 [(.t 50)], none⟩, ⟨some 10, .alloc 24 [(.int .i64 0), (.str ⟨#[]⟩), (.int .i64 0), .nils, (.int .i64 0)], none⟩, ⟨none, .st 5 (.t 10) (.t 51), none⟩])
 (.seq (.reg [⟨some 52, .mv (.t 0), none⟩, ⟨some 53, .call .no 163 [(.t 52), (.c (.str ⟨#[93]⟩))], none⟩])
 (.seq (.reg [⟨some 54, .fa 4 (.t 4), none⟩, ⟨some 55, .ld none (.t 54), none⟩, ⟨some 56, .ld (some 5) (.t 4), none⟩, ⟨some 57, .ld (some 5) (.t 10), none⟩, ⟨some 58, .bsl true 5 2 [(.int .i64 0), (.str ⟨#[]⟩), (.int .i64 0), .nils, (.int .i64 0), (.int .i64 0), (.str ⟨#[]⟩), (.int .i64 0), .nils, (.int .i64 0)] [(0, 5, (.t 56)), (5, 5, (.t 57))], none⟩, ⟨some 59, .build [(.int .i64 0), (.str ⟨#[]⟩), (.int .i64 0), .nils, (.int .i64 0)] [(0, 1, (.c (.int .i64 14))), (4, 1, (.t 55)), (3, 1, (.t 58))], none⟩, ⟨none, .st 5 (.t 4) (.t 59), none⟩])
 (.exit 1)))) (.skip)))
 (.seq (.reg [⟨some 60, .mv (.t 2), none⟩, ⟨some 61, .mv (.t 60), none⟩, ⟨some 62, .mv (.t 0), (some (61, true))⟩, ⟨some 63, .call .no 105 [(.t 62), (.c (.str ⟨#[40]⟩))], (some (61, true))⟩, ⟨some 64, .pick (.t 61) (.t 63) (.c (.bool false)), none⟩, ⟨some 11, .mv (.t 64), none⟩])
 (.seq (.seq (.reg [⟨some 65, .mv (.t 11), none⟩, ⟨some 66, .un .not (.t 65), none⟩])
 (.cond (.t 66) (.exit 0) (.skip)))
 (.seq (.reg [⟨some 67, .fa 4 (.t 4), none⟩, ⟨some 68, .ld none (.t 67), none⟩, ⟨some 69, .ld (some 5) (.t 4), none⟩, ⟨some 70, .bsl true 5 1 [(.int .i64 0), (.str ⟨#[]⟩), (.int .i64 0), .nils, (.int .i64 0)] [(0, 5, (.t 69))], none⟩, ⟨some 71, .build [(.int .i64 0), (.str ⟨#[]⟩), (.int .i64 0), .nils, (.int .i64 0)] [(0, 1, (.c (.int .i64 15))), (4, 1, (.t 68)), (3, 1, (.t 70))], none⟩, ⟨some 12, .alloc 24 [(.int .i64 0), (.str ⟨#[]⟩), (.int .i64 0), .nils, (.int .i64 0)], none⟩, ⟨none, .st 5 (.t 12) (.t 71), none⟩])
 (.seq (.dreg [(⟨some 72, .fa 3 (.t 12), none⟩, 0), (⟨some 73, .ld none (.t 72), none⟩, 1), (⟨some 74, .mv (.t 0), none⟩, 0), (⟨some 75, .call .no 186 [(.t 74)], none⟩, 4), (⟨some 76, .app 5 64 (.t 73) (.t 75), none⟩, 15), (⟨some 77, .fa 3 (.t 12), none⟩, 31), (⟨none, .st 1 (.t 77) (.t 76), none⟩, 63)])
 (.reg [⟨some 78, .ld (some 5) (.t 12), none⟩, ⟨none, .st 5 (.t 4) (.t 78), none⟩])))))))))))))
 (.seq (.reg [⟨some 79, .ld (some 5) (.t 4), none⟩, ⟨none, .st 5 (.t 6) (.t 79), none⟩])
 (.ret)))⟩
def a185 : AFn := ⟨100, [.cell 2 (some 5)],
 .seq (.reg [⟨some 2, .alloc 24 [(.int .i64 0), (.str ⟨#[]⟩), (.int .i64 0), .nils, (.int .i64 0)], none⟩])
 (.seq (.reg [⟨some 5, .mv (.t 0), none⟩, ⟨some 6, .call .no 103 [(.t 5), (.c (.int .i64 0))], none⟩, ⟨some 3, .alloc 130 [(.int .i64 0), (.str ⟨#[]⟩), (.int .i64 0), (.int .i64 0), (.bool false)], none⟩, ⟨none, .st 5 (.t 3) (.t 6), none⟩])
 (.seq (.seq (.reg [⟨some 7, .mv (.t 0), none⟩, ⟨some 8, .nck (.t 7), none⟩, ⟨some 9, .fa 2 (.t 8), none⟩, ⟨some 10, .ld none (.t 9), none⟩, ⟨some 11, .bin .num .neq (.t 10) (.c (.int .i64 0)), none⟩])
 (.cond (.t 11) (.seq (.reg [⟨some 12, .build [(.int .i64 0), (.str ⟨#[]⟩), (.int .i64 0), .nils, (.int .i64 0)] [], none⟩, ⟨none, .st 5 (.t 2) (.t 12), none⟩])
 (.ret)) (.skip)))
 (.seq (.reg [⟨some 13, .fa 3 (.t 3), none⟩, ⟨some 14, .ld none (.t 13), none⟩, ⟨some 15, .build [(.int .i64 0), (.str ⟨#[]⟩), (.int .i64 0), .nils, (.int .i64 0)] [(4, 1, (.t 14))], none⟩, ⟨some 4, .alloc 24 [(.int .i64 0), (.str ⟨#[]⟩), (.int .i64 0), .nils, (.int .i64 0)], none⟩, ⟨none, .st 5 (.t 4) (.t 15), none⟩])
 (.seq (.seq (.reg [⟨some 16, .fa 0 (.t 3), none⟩, ⟨some 17, .ld none (.t 16), none⟩])
 (.block 0 (.seq (.reg [⟨some 19, .bin .num .eql (.t 17) (.c (.int .i64 1)), none⟩, ⟨some 18, .mv (.t 19), none⟩])
 (.cond (.t 18) (.seq (.seq (.reg [⟨some 20, .fa 1 (.t 3), none⟩, ⟨some 21, .ld none (.t 20), none⟩, ⟨some 22, .bin .str .eql (.t 21) (.c (.str ⟨#[101, 118, 97, 108]⟩)), none⟩, ⟨some 23, .mv (.t 22), none⟩, ⟨some 24, .fa 1 (.t 3), (some (23, false))⟩, ⟨some 25, .ld none (.t 24), (some (23, false))⟩, ⟨some 26, .bin .str .eql (.t 25) (.c (.str ⟨#[97, 114, 103, 117, 109, 101, 110, 116, 115]⟩)), (some (23, false))⟩, ⟨some 27, .pick (.t 23) (.c (.bool true)) (.t 26), none⟩])
 (.cond (.t 27) (.seq (.reg [⟨some 28, .mv (.t 0), none⟩, ⟨some 29, .call .no 107 [(.t 28), (.c (.int .i64 43))], none⟩])
 (.seq (.reg [⟨some 30, .ld (some 5) (.t 4), none⟩, ⟨none, .st 5 (.t 2) (.t 30), none⟩])
 (.ret))) (.skip)))
 (.seq (.reg [⟨some 31, .fa 0 (.t 4), none⟩, ⟨none, .st 1 (.t 31) (.c (.int .i64 1)), none⟩])
 (.reg [⟨some 32, .fa 1 (.t 3), none⟩, ⟨some 33, .ld none (.t 32), none⟩, ⟨some 34, .fa 1 (.t 4), none⟩, ⟨none, .st 1 (.t 34) (.t 33), none⟩]))) (.seq (.reg [⟨some 36, .bin .num .eql (.t 17) (.c (.int .i64 3)), none⟩, ⟨some 35, .mv (.t 36), none⟩])
 (.cond (.t 35) (.seq (.reg [⟨some 37, .fa 0 (.t 4), none⟩, ⟨none, .st 1 (.t 37) (.c (.int .i64 2)), none⟩])
 (.reg [⟨some 38, .fa 2 (.t 3), none⟩, ⟨some 39, .ld none (.t 38), none⟩, ⟨some 40, .fa 2 (.t 4), none⟩, ⟨none, .st 1 (.t 40) (.t 39), none⟩])) (.seq (.reg [⟨some 42, .bin .num .eql (.t 17) (.c (.int .i64 4)), none⟩, ⟨some 41, .mv (.t 42), none⟩])
 (.cond (.t 41) (.seq (.reg [⟨some 43, .fa 0 (.t 4), none⟩, ⟨none, .st 1 (.t 43) (.c (.int .i64 3)), none⟩])
 (.reg [⟨some 44, .fa 1 (.t 3), none⟩, ⟨some 45, .ld none (.t 44), none⟩, ⟨some 46, .fa 1 (.t 4), none⟩, ⟨none, .st 1 (.t 46) (.t 45), none⟩])) (.seq (.reg [⟨some 48, .bin .num .eql (.t 17) (.c (.int .i64 2)), none⟩, ⟨some 47, .mv (.t 48), none⟩])
 (.cond (.t 47) (.seq (.seq (.reg [⟨some 49, .fa 1 (.t 3), none⟩, ⟨some 50, .ld none (.t 49), none⟩, ⟨some 51, .bin .str .eql (.t 50) (.c (.str ⟨#[102, 117, 110, 99, 116, 105, 111, 110]⟩)), none⟩])
 (.cond (.t 51) (.seq (.reg [⟨some 52, .mv (.t 0), none⟩, ⟨some 53, .nck (.t 52), none⟩, ⟨some 54, .fa 1 (.t 53), none⟩, ⟨some 55, .ld none (.t 54), none⟩, ⟨some 56, .bin .num .add (.t 55) (.c (.int .i64 1)), none⟩, ⟨some 57, .nck (.t 52), none⟩, ⟨some 58, .fa 1 (.t 57), none⟩, ⟨none, .st 1 (.t 58) (.t 56), none⟩])
 (.seq (.reg [⟨some 59, .fa 0 (.t 4), none⟩, ⟨none, .st 1 (.t 59) (.c (.int .i64 10)), none⟩])
 (.seq (.seq (.reg [⟨some 60, .mv (.t 0), none⟩, ⟨some 61, .call .no 103 [(.t 60), (.c (.int .i64 0))], none⟩, ⟨some 62, .fld 0 none (.t 61), none⟩, ⟨some 63, .bin .num .eql (.t 62) (.c (.int .i64 1)), none⟩])
 (.cond (.t 63) (.reg [⟨some 64, .mv (.t 0), none⟩, ⟨some 65, .call .no 164 [(.t 64)], none⟩, ⟨some 66, .fa 1 (.t 4), none⟩, ⟨none, .st 1 (.t 66) (.t 65), none⟩]) (.skip)))
 (.seq (.reg [⟨some 67, .mv (.t 0), none⟩, ⟨some 68, .call .no 167 [(.t 67)], none⟩, ⟨some 69, .fa 3 (.t 4), none⟩, ⟨none, .st 1 (.t 69) (.t 68), none⟩])
 (.seq (.reg [⟨some 70, .ld (some 5) (.t 4), none⟩, ⟨none, .st 5 (.t 2) (.t 70), none⟩])
 (.ret)))))) (.skip)))
 (.reg [⟨some 71, .fa 1 (.t 3), none⟩, ⟨some 72, .ld none (.t 71), none⟩, ⟨some 73, .call .no 187 [(.t 72)], none⟩, ⟨some 74, .fa 0 (.t 4), none⟩, ⟨none, .st 1 (.t 74) (.t 73), none⟩])) (.seq (.reg [⟨some 76, .bin .num .eql (.t 17) (.c (.int .i64 5)), none⟩, ⟨some 75, .mv (.t 76), none⟩])
 (.cond (.t 75) (.seq (.seq (.reg [⟨some 77, .fa 1 (.t 3), none⟩, ⟨some 78, .ld none (.t 77), none⟩, ⟨some 79, .bin .str .eql (.t 78) (.c (.str ⟨#[40]⟩)), none⟩])
 (.cond (.t 79) (.seq (.reg [⟨some 80, .mv (.t 0), none⟩, ⟨some 81, .call .no 165 [(.t 80)], none⟩, ⟨none, .st 5 (.t 2) (.t 81), none⟩])
 (.ret)) (.skip)))
 (.seq (.reg [⟨some 82, .fa 1 (.t 3), none⟩, ⟨some 83, .ld none (.t 82), none⟩, ⟨some 84, .bin .str .eql (.t 83) (.c (.str ⟨#[123]⟩)), none⟩])
 (.cond (.t 84) (.seq (.reg [⟨some 85, .mv (.t 0), none⟩, ⟨some 86, .call .no 188 [(.t 85)], none⟩, ⟨none, .st 5 (.t 2) (.t 86), none⟩])
 (.ret)) (.skip)))) (.skip)))))))))))))
 (.seq (.seq (.reg [⟨some 87, .fa 0 (.t 4), none⟩, ⟨some 88, .ld none (.t 87), none⟩, ⟨some 89, .bin .num .eql (.t 88) (.c (.int .i64 0)), none⟩])
 (.cond (.t 89) (.seq (.reg [⟨some 90, .mv (.t 0), none⟩, ⟨some 91, .call .full 74 [(.t 90), (.c (.bool true))], none⟩, ⟨none, .st 5 (.t 2) (.t 91), none⟩])
 (.ret)) (.skip)))
 (.seq (.reg [⟨some 92, .mv (.t 0), none⟩, ⟨some 93, .nck (.t 92), none⟩, ⟨some 94, .fa 1 (.t 93), none⟩, ⟨some 95, .ld none (.t 94), none⟩, ⟨some 96, .bin .num .add (.t 95) (.c (.int .i64 1)), none⟩, ⟨some 97, .nck (.t 92), none⟩, ⟨some 98, .fa 1 (.t 97), none⟩, ⟨none, .st 1 (.t 98) (.t 96), none⟩])
 (.seq (.reg [⟨some 99, .ld (some 5) (.t 4), none⟩, ⟨none, .st 5 (.t 2) (.t 99), none⟩])
 (.ret))))))))⟩
def a186 : AFn := ⟨28, [.tmp 2],
 .seq (.reg [⟨some 2, .mv (.c .nils), none⟩])
 (.seq (.reg [⟨some 3, .mv (.c .nils), none⟩])
 (.seq (.reg [⟨some 6, .mv (.t 0), none⟩, ⟨some 7, .call .no 104 [(.t 6), (.c (.str ⟨#[41]⟩))], none⟩, ⟨some 4, .mv (.t 7), none⟩])
 (.seq (.reg [⟨some 8, .mv (.t 4), none⟩, ⟨some 9, .un .not (.t 8), none⟩, ⟨some 5, .mv (.t 9), none⟩])
 (.seq (.block 0 (.loop (.seq (.seq (.reg [⟨some 10, .mv (.t 0), none⟩, ⟨some 11, .nck (.t 10), none⟩, ⟨some 12, .fa 2 (.t 11), none⟩, ⟨some 13, .ld none (.t 12), none⟩, ⟨some 14, .bin .num .eql (.t 13) (.c (.int .i64 0)), none⟩, ⟨some 15, .mv (.t 14), none⟩, ⟨some 16, .mv (.t 5), (some (15, true))⟩, ⟨some 17, .pick (.t 15) (.t 16) (.c (.bool false)), none⟩])
 (.cond (.t 17) (.skip) (.exit 0)))
 (.block 1 (.seq (.reg [⟨some 18, .mv (.t 3), none⟩, ⟨some 19, .mv (.t 0), none⟩, ⟨some 20, .call .no 147 [(.t 19)], none⟩, ⟨some 21, .bsl true 5 1 [(.int .i64 0), (.str ⟨#[]⟩), (.int .i64 0), .nils, (.int .i64 0)] [(0, 5, (.t 20))], none⟩, ⟨some 22, .app 5 64 (.t 18) (.t 21), none⟩, ⟨some 3, .mv (.t 22), none⟩])
 (.reg [⟨some 23, .mv (.t 0), none⟩, ⟨some 24, .call .no 105 [(.t 23), (.c (.str ⟨#[44]⟩))], none⟩, ⟨some 5, .mv (.t 24), none⟩]))))))
 (.seq (.reg [⟨some 25, .mv (.t 0), none⟩, ⟨some 26, .call .no 163 [(.t 25), (.c (.str ⟨#[41]⟩))], none⟩])
 (.seq (.reg [⟨some 27, .mv (.t 3), none⟩, ⟨some 2, .mv (.t 27), none⟩])
 (.ret)))))))⟩
def a187 : AFn := ⟨16, [.tmp 2],
 .seq (.reg [⟨some 2, .mv (.c (.int .i64 0)), none⟩])
 (.seq (.seq (.reg [⟨some 3, .mv (.t 0), none⟩])
 (.block 0 (.seq (.reg [⟨some 5, .bin .str .eql (.t 3) (.c (.str ⟨#[116, 114, 117, 101]⟩)), none⟩, ⟨some 4, .mv (.t 5), none⟩])
 (.cond (.t 4) (.seq (.reg [⟨some 2, .mv (.c (.int .i64 4)), none⟩])
 (.ret)) (.seq (.reg [⟨some 7, .bin .str .eql (.t 3) (.c (.str ⟨#[102, 97, 108, 115, 101]⟩)), none⟩, ⟨some 6, .mv (.t 7), none⟩])
 (.cond (.t 6) (.seq (.reg [⟨some 2, .mv (.c (.int .i64 5)), none⟩])
 (.ret)) (.seq (.reg [⟨some 9, .bin .str .eql (.t 3) (.c (.str ⟨#[110, 117, 108, 108]⟩)), none⟩, ⟨some 8, .mv (.t 9), none⟩])
 (.cond (.t 8) (.seq (.reg [⟨some 2, .mv (.c (.int .i64 6)), none⟩])
 (.ret)) (.seq (.reg [⟨some 11, .bin .str .eql (.t 3) (.c (.str ⟨#[117, 110, 100, 101, 102, 105, 110, 101, 100]⟩)), none⟩, ⟨some 10, .mv (.t 11), none⟩])
 (.cond (.t 10) (.seq (.reg [⟨some 2, .mv (.c (.int .i64 7)), none⟩])
 (.ret)) (.seq (.reg [⟨some 13, .bin .str .eql (.t 3) (.c (.str ⟨#[116, 104, 105, 115]⟩)), none⟩, ⟨some 12, .mv (.t 13), none⟩])
 (.cond (.t 12) (.seq (.reg [⟨some 2, .mv (.c (.int .i64 8)), none⟩])
 (.ret)) (.seq (.reg [⟨some 15, .bin .str .eql (.t 3) (.c (.str ⟨#[105, 110, 112, 117, 116]⟩)), none⟩, ⟨some 14, .mv (.t 15), none⟩])
 (.cond (.t 14) (.seq (.reg [⟨some 2, .mv (.c (.int .i64 9)), none⟩])
 (.ret)) (.skip)))))))))))))))
 (.seq (.reg [⟨some 2, .mv (.c (.int .i64 0)), none⟩])
 (.ret)))⟩
def a188 : AFn := ⟨94, [.cell 2 (some 5)],
 .seq (.reg [⟨some 2, .alloc 24 [(.int .i64 0), (.str ⟨#[]⟩), (.int .i64 0), .nils, (.int .i64 0)], none⟩])
 (.seq (.reg [⟨some 10, .mv (.t 0), none⟩, ⟨some 11, .call .no 103 [(.t 10), (.c (.int .i64 0))], none⟩, ⟨some 12, .fld 3 none (.t 11), none⟩, ⟨some 13, .build [(.int .i64 0), (.str ⟨#[]⟩), (.int .i64 0), .nils, (.int .i64 0)] [(0, 1, (.c (.int .i64 11))), (4, 1, (.t 12))], none⟩, ⟨some 3, .alloc 24 [(.int .i64 0), (.str ⟨#[]⟩), (.int .i64 0), .nils, (.int .i64 0)], none⟩, ⟨none, .st 5 (.t 3) (.t 13), none⟩])
 (.seq (.reg [⟨some 14, .mv (.t 0), none⟩, ⟨some 15, .call .no 163 [(.t 14), (.c (.str ⟨#[123]⟩))], none⟩])
 (.seq (.block 0 (.loop (.seq (.seq (.reg [⟨some 16, .mv (.t 0), none⟩, ⟨some 17, .nck (.t 16), none⟩, ⟨some 18, .fa 2 (.t 17), none⟩, ⟨some 19, .ld none (.t 18), none⟩, ⟨some 20, .bin .num .eql (.t 19) (.c (.int .i64 0)), none⟩])
 (.cond (.t 20) (.skip) (.exit 0)))
 (.block 1 (.seq (.reg [⟨some 21, .mv (.t 0), none⟩, ⟨some 22, .call .no 105 [(.t 21), (.c (.str ⟨#[125]⟩))], none⟩, ⟨some 4, .mv (.t 22), none⟩])
 (.seq (.seq (.reg [⟨some 23, .mv (.t 4), none⟩])
 (.cond (.t 23) (.seq (.reg [⟨some 24, .ld (some 5) (.t 3), none⟩, ⟨none, .st 5 (.t 2) (.t 24), none⟩])
 (.ret)) (.skip)))
 (.seq (.reg [⟨some 25, .mv (.t 0), none⟩, ⟨some 26, .call .no 103 [(.t 25), (.c (.int .i64 0))], none⟩, ⟨some 5, .alloc 130 [(.int .i64 0), (.str ⟨#[]⟩), (.int .i64 0), (.int .i64 0), (.bool false)], none⟩, ⟨none, .st 5 (.t 5) (.t 26), none⟩])
 (.seq (.reg [⟨some 27, .ld (some 5) (.t 5), none⟩, ⟨some 28, .call .full 189 [(.t 27)], none⟩, ⟨some 6, .mv (.t 28), none⟩])
 (.seq (.seq (.reg [⟨some 29, .mv (.t 6), none⟩, ⟨some 30, .un .not (.t 29), none⟩])
 (.cond (.t 30) (.seq (.reg [⟨some 31, .mv (.t 0), none⟩, ⟨some 32, .call .full 74 [(.t 31), (.c (.bool false))], none⟩, ⟨none, .st 5 (.t 2) (.t 32), none⟩])
 (.ret)) (.skip)))
 (.seq (.reg [⟨some 33, .mv (.t 0), none⟩, ⟨some 34, .nck (.t 33), none⟩, ⟨some 35, .fa 1 (.t 34), none⟩, ⟨some 36, .ld none (.t 35), none⟩, ⟨some 37, .bin .num .add (.t 36) (.c (.int .i64 1)), none⟩, ⟨some 38, .nck (.t 33), none⟩, ⟨some 39, .fa 1 (.t 38), none⟩, ⟨none, .st 1 (.t 39) (.t 37), none⟩])
 (.seq (.reg [⟨some 40, .mv (.t 0), none⟩, ⟨some 41, .call .no 103 [(.t 40), (.c (.int .i64 0))], none⟩, ⟨some 42, .call .full 189 [(.t 41)], none⟩, ⟨some 7, .mv (.t 42), none⟩])
 (.seq (.seq (.reg [⟨some 43, .fa 0 (.t 5), none⟩, ⟨some 44, .ld none (.t 43), none⟩, ⟨some 45, .bin .num .eql (.t 44) (.c (.int .i64 1)), none⟩, ⟨some 46, .mv (.t 45), none⟩, ⟨some 47, .fa 1 (.t 5), (some (46, true))⟩, ⟨some 48, .ld none (.t 47), (some (46, true))⟩, ⟨some 49, .bin .str .eql (.t 48) (.c (.str ⟨#[103, 101, 116]⟩)), (some (46, true))⟩, ⟨some 50, .mv (.t 49), (some (46, true))⟩, ⟨some 51, .fa 1 (.t 5), (some (50, false))⟩, ⟨some 52, .ld none (.t 51), (some (50, false))⟩, ⟨some 53, .bin .str .eql (.t 52) (.c (.str ⟨#[115, 101, 116]⟩)), (some (50, false))⟩, ⟨some 54, .pick (.t 50) (.c (.bool true)) (.t 53), (some (46, true))⟩, ⟨some 55, .pick (.t 46) (.t 54) (.c (.bool false)), none⟩, ⟨some 56, .mv (.t 55), none⟩, ⟨some 57, .mv (.t 7), (some (56, true))⟩, ⟨some 58, .pick (.t 56) (.t 57) (.c (.bool false)), none⟩])
 (.cond (.t 58) (.seq (.reg [⟨some 59, .mv (.t 0), none⟩, ⟨some 60, .call .no 107 [(.t 59), (.c (.int .i64 46))], none⟩])
 (.seq (.reg [⟨some 61, .ld (some 5) (.t 3), none⟩, ⟨none, .st 5 (.t 2) (.t 61), none⟩])
 (.ret))) (.skip)))
 (.seq (.reg [⟨some 62, .fa 1 (.t 5), none⟩, ⟨some 63, .ld none (.t 62), none⟩, ⟨some 64, .fa 3 (.t 5), none⟩, ⟨some 65, .ld none (.t 64), none⟩, ⟨some 66, .build [(.int .i64 0), (.str ⟨#[]⟩), (.int .i64 0), .nils, (.int .i64 0)] [(0, 1, (.c (.int .i64 12))), (1, 1, (.t 63)), (4, 1, (.t 65))], none⟩, ⟨some 8, .alloc 24 [(.int .i64 0), (.str ⟨#[]⟩), (.int .i64 0), .nils, (.int .i64 0)], none⟩, ⟨none, .st 5 (.t 8) (.t 66), none⟩])
 (.seq (.seq (.reg [⟨some 67, .fa 0 (.t 5), none⟩, ⟨some 68, .ld none (.t 67), none⟩, ⟨some 69, .bin .num .eql (.t 68) (.c (.int .i64 3)), none⟩])
 (.cond (.t 69) (.reg [⟨some 70, .fa 2 (.t 5), none⟩, ⟨some 71, .ld none (.t 70), none⟩, ⟨some 72, .call .full 190 [(.t 71)], none⟩, ⟨some 73, .fa 1 (.t 8), none⟩, ⟨none, .st 1 (.t 73) (.t 72), none⟩]) (.skip)))
 (.seq (.reg [⟨some 74, .mv (.t 0), none⟩, ⟨some 75, .call .no 163 [(.t 74), (.c (.str ⟨#[58]⟩))], none⟩])
 (.seq (.reg [⟨some 76, .mv (.t 0), none⟩, ⟨some 77, .call .no 147 [(.t 76)], none⟩, ⟨some 78, .bsl true 5 1 [(.int .i64 0), (.str ⟨#[]⟩), (.int .i64 0), .nils, (.int .i64 0)] [(0, 5, (.t 77))], none⟩, ⟨some 79, .fa 3 (.t 8), none⟩, ⟨none, .st 1 (.t 79) (.t 78), none⟩])
 (.seq (.reg [⟨some 80, .fa 3 (.t 3), none⟩, ⟨some 81, .ld none (.t 80), none⟩, ⟨some 82, .ld (some 5) (.t 8), none⟩, ⟨some 83, .bsl true 5 1 [(.int .i64 0), (.str ⟨#[]⟩), (.int .i64 0), .nils, (.int .i64 0)] [(0, 5, (.t 82))], none⟩, ⟨some 84, .app 5 64 (.t 81) (.t 83), none⟩, ⟨some 85, .fa 3 (.t 3), none⟩, ⟨none, .st 1 (.t 85) (.t 84), none⟩])
 (.seq (.reg [⟨some 86, .mv (.t 0), none⟩, ⟨some 87, .call .no 105 [(.t 86), (.c (.str ⟨#[44]⟩))], none⟩, ⟨some 9, .mv (.t 87), none⟩])
 (.seq (.reg [⟨some 88, .mv (.t 9), none⟩, ⟨some 89, .un .not (.t 88), none⟩])
 (.cond (.t 89) (.seq (.reg [⟨some 90, .mv (.t 0), none⟩, ⟨some 91, .call .no 163 [(.t 90), (.c (.str ⟨#[125]⟩))], none⟩])
 (.seq (.reg [⟨some 92, .ld (some 5) (.t 3), none⟩, ⟨none, .st 5 (.t 2) (.t 92), none⟩])
 (.ret))) (.skip)))))))))))))))))))))
 (.seq (.reg [⟨some 93, .ld (some 5) (.t 3), none⟩, ⟨none, .st 5 (.t 2) (.t 93), none⟩])
 (.ret)))))⟩
def a189 : AFn := ⟨21, [.tmp 2],
 .seq (.reg [⟨some 1, .box 130 (.t 0), none⟩, ⟨some 2, .mv (.c (.bool false)), none⟩])
 (.seq (.reg [⟨some 3, .fa 0 (.t 1), none⟩, ⟨some 4, .ld none (.t 3), none⟩, ⟨some 5, .bin .num .eql (.t 4) (.c (.int .i64 1)), none⟩, ⟨some 6, .mv (.t 5), none⟩, ⟨some 7, .fa 0 (.t 1), (some (6, false))⟩, ⟨some 8, .ld none (.t 7), (some (6, false))⟩, ⟨some 9, .bin .num .eql (.t 8) (.c (.int .i64 2)), (some (6, false))⟩, ⟨some 10, .pick (.t 6) (.c (.bool true)) (.t 9), none⟩, ⟨some 11, .mv (.t 10), none⟩, ⟨some 12, .fa 0 (.t 1), (some (11, false))⟩, ⟨some 13, .ld none (.t 12), (some (11, false))⟩, ⟨some 14, .bin .num .eql (.t 13) (.c (.int .i64 4)), (some (11, false))⟩, ⟨some 15, .pick (.t 11) (.c (.bool true)) (.t 14), none⟩, ⟨some 16, .mv (.t 15), none⟩, ⟨some 17, .fa 0 (.t 1), (some (16, false))⟩, ⟨some 18, .ld none (.t 17), (some (16, false))⟩, ⟨some 19, .bin .num .eql (.t 18) (.c (.int .i64 3)), (some (16, false))⟩, ⟨some 20, .pick (.t 16) (.c (.bool true)) (.t 19), none⟩, ⟨some 2, .mv (.t 20), none⟩])
 (.ret))⟩
def a190 : AFn := ⟨20, [.tmp 2],
 .seq (.reg [⟨some 2, .mv (.c (.str ⟨#[]⟩)), none⟩])
 (.seq (.seq (.reg [⟨some 3, .mv (.t 0), none⟩, ⟨some 4, .bin .num .lss (.t 3) (.c (.int .i64 10)), none⟩])
 (.cond (.t 4) (.seq (.reg [⟨some 5, .mv (.t 0), none⟩, ⟨some 6, .bin .num .add (.c (.int .i64 48)) (.t 5), none⟩, ⟨some 7, .cvi .u8 (.t 6), none⟩, ⟨some 8, .bsl false 1 1 [(.int .u8 0)] [(0, 1, (.t 7))], none⟩, ⟨some 9, .cvs (.t 8), none⟩, ⟨some 2, .mv (.t 9), none⟩])
 (.ret)) (.skip)))
 (.seq (.dreg [(⟨some 10, .mv (.t 0), none⟩, 0), (⟨some 11, .bin .num .quo (.t 10) (.c (.int .i64 10)), none⟩, 1), (⟨some 12, .call .full 190 [(.t 11)], none⟩, 3), (⟨some 13, .mv (.t 0), none⟩, 0), (⟨some 14, .bin .num .rem (.t 13) (.c (.int .i64 10)), none⟩, 8), (⟨some 15, .bin .num .add (.c (.int .i64 48)) (.t 14), none⟩, 24), (⟨some 16, .cvi .u8 (.t 15), none⟩, 56), (⟨some 17, .bsl false 1 1 [(.int .u8 0)] [(0, 1, (.t 16))], none⟩, 120), (⟨some 18, .cvs (.t 17), none⟩, 248), (⟨some 19, .bin .str .add (.t 12) (.t 18), none⟩, 511), (⟨some 2, .mv (.t 19), none⟩, 1023)])
 (.ret)))⟩
end Go.Proofs.YP
/- The one table of Go's library that the short forms read: which bytes are blanks (strings.asciiSpace). -/
namespace Go.Proofs.YP
open Go

def blanks : List AV := (List.range 256).map fun i => .int .u8 (if 9 ≤ i ∧ i ≤ 13 ∨ i = 32 then 1 else 0)
def tabs : Nat → Option (List AV)
  | 1 => some blanks
  | _ => none
end Go.Proofs.YP
/- The program of the abstract machine: its functions' short forms; the three that are told otherwise: errors.As at the fault of scope's, scope.resolved (a deferred call that recovers), slices.Clone of a tree's parts. PARTLY MADE BY PROGRAM. -/
namespace Go.Proofs.YP
open Go

/-- slices.Clone of nodes, of one at least: a new block. -/
def ov144 : CSem → Env → List AV → St → Option (Rt AV × St) := fun _ _ args st =>
  match args with
  | [.sl _ n cs] => guardb (decide (1 ≤ n) && decide (n ≤ 1048576) && decide (cs.length = n * 5) && cs.all AV.one)
      (okv (.hs st.H.length n) { st with H := st.H ++ [.cells 24 (AV.finL 0 cs)] })
  | _ => none
/-- errors.As(err, &f), f a fault: of no error; of one that errors.Join made of a fault. -/
def ov43 : CSem → Env → List AV → St → Option (Rt AV × St) := fun _ E args st =>
  match args with
  | [.nili, .iface 67 (.ptr b 0)] =>
    match st.H[b]? with
    | some (.cells _ [_, _]) => okv (.bool false) st
    | _ => none
  | [.iface 151 (.ptr j 0), .iface 67 (.ptr b 0)] =>
    match st.H[j]?, st.H[b]? with
    | some (.cells _ [.sl _ 1 [.iface 65 (.agg [.int j x, .int k y])]]), some (.cells t [_, _]) =>
      guardb (decide (E.rob ≤ b)) (okv (.bool true) { st with H := st.H.set b (.cells t [.int j x, .int k y]) })
    | _, _ => none
  | _ => none
def a42x : List AOper := [⟨(some 1), .box 24 (.t 0), none⟩, ⟨(some 2), .alloc 27 [.nils], none⟩, ⟨(some 3), .alloc 24 [(.int .i64 0), (.str ⟨#[]⟩), (.int .i64 0), .nils, (.int .i64 0)], none⟩, ⟨(some 4), .alloc 61 [.nili], none⟩]
def a42y : List AOper := [⟨(some 8), .build [.nils, (.int .i64 0)] [(1, 1, (.c (.int .i64 4)))], none⟩, ⟨(some 9), .box 100 (.t 8), none⟩, ⟨(some 5), .mv (.t 9), none⟩]
def a42z : ACode := (.seq (.dreg [(⟨(some 11), .mv (.t 5), none⟩, 0), (⟨(some 12), .build [(.int .i64 0), (.str ⟨#[]⟩), (.int .i64 0), .nils, (.int .i64 0)] [(0, 1, (.c (.int .i64 (-1))))], none⟩, 0), (⟨(some 13), .ld (some 5) (.t 1), none⟩, 0), (⟨(some 14), .call .no 62 [(.t 12), (.c .nils), (.c (.str ⟨#[]⟩)), (.t 13)], none⟩, 6), (⟨(some 15), .fa 4 (.t 1), none⟩, 0), (⟨(some 16), .ld none (.t 15), none⟩, 16), (⟨(some 17), .call .no 61 [(.t 11), (.t 14), (.t 16)], none⟩, 63)])
 (.seq (.reg [⟨(some 18), .mv (.t 5), none⟩, ⟨(some 19), .ld (some 5) (.t 1), none⟩, ⟨(some 20), .call .no 63 [(.t 18), (.t 19), (.c (.int .i64 0)), (.c (.bool false))], none⟩, ⟨none, .st 5 (.t 3) (.t 20), none⟩])
 (.seq (.seq (.reg [⟨(some 21), .mv (.t 5), none⟩, ⟨(some 22), .nck (.t 21), none⟩, ⟨(some 23), .fa 0 (.t 22), none⟩, ⟨(some 24), .ld none (.t 23), none⟩, ⟨(some 25), .len false (.t 24), none⟩, ⟨(some 26), .mv (.c (.int .i64 0)), none⟩])
 (.block 0 (.loop (.seq (.reg [⟨(some 27), .bin .num .lss (.t 26) (.t 25), none⟩])
 (.seq (.cond (.t 27) (.skip) (.exit 0))
 (.seq (.block 1 (.seq (.reg [⟨(some 28), .ia 1 (.t 24) (.t 26), none⟩, ⟨(some 29), .ld none (.t 28), none⟩, ⟨(some 7), .mv (.t 29), none⟩])
 (.dreg [(⟨(some 30), .ld none (.t 2), none⟩, 0), (⟨(some 31), .mv (.t 7), none⟩, 0), (⟨(some 32), .nck (.t 31), none⟩, 2), (⟨(some 33), .fa 0 (.t 32), none⟩, 6), (⟨(some 34), .ld (some 5) (.t 33), none⟩, 14), (⟨(some 35), .bsl true 5 1 [(.int .i64 0), (.str ⟨#[]⟩), (.int .i64 0), .nils, (.int .i64 0)] [(0, 5, (.t 34))], none⟩, 30), (⟨(some 36), .app 5 64 (.t 30) (.t 35), none⟩, 63), (⟨none, .st 1 (.t 2) (.t 36), none⟩, 127)])))
 (.reg [⟨(some 37), .bin .num .add (.t 26) (.c (.int .i64 1)), none⟩, ⟨(some 26), .mv (.t 37), none⟩])))))))
 (.seq (.dreg [(⟨(some 38), .ld none (.t 2), none⟩, 0), (⟨(some 39), .ld (some 5) (.t 3), none⟩, 0), (⟨none, .st 1 (.t 2) (.t 38), none⟩, 1), (⟨none, .st 5 (.t 3) (.t 39), none⟩, 7), (⟨none, .st 1 (.t 4) (.c .nili), none⟩, 15)])
 (.ret)))))
def a59x : List AOper := [⟨(some 7), .ta 65 true (.agg [(.int .i64 0), (.int .i64 0)]) (.t 6), none⟩, ⟨(some 5), .mv (.t 7), none⟩, ⟨(some 8), .ext 0 (.t 5), none⟩, ⟨(some 9), .ext 1 (.t 5), none⟩, ⟨(some 3), .alloc 65 [(.int .i64 0), (.int .i64 0)], none⟩, ⟨none, .st 2 (.t 3) (.t 8), none⟩, ⟨(some 4), .mv (.t 9), none⟩]
def a59y : ACode := (.seq (.reg [⟨(some 10), .mv (.t 4), none⟩])
 (.cond (.t 10) (.reg [⟨(some 11), .build [(.int .i64 0), (.str ⟨#[]⟩), (.int .i64 0), .nils, (.int .i64 0)] [], none⟩, ⟨(some 12), .ld (some 2) (.t 3), none⟩, ⟨(some 13), .mki 65 (.t 12), none⟩, ⟨(some 14), .bsl true 1 1 [.nili] [(0, 1, (.t 13))], none⟩, ⟨(some 15), .call .no 60 [(.t 14)], none⟩, ⟨none, .st 1 (.t 0) (.c .nils), none⟩, ⟨none, .st 5 (.t 1) (.t 11), none⟩, ⟨none, .st 1 (.t 2) (.t 15), none⟩]) (.skip)))
/-- The deferred call: what was recovered, if anything, is looked at. -/
def dfr59 (C : CSem) (E : Env) (caps : List AV) (rv : AV) (st : St) : Option St :=
  obind (aOps tabs C E a59x (put (caps ++ List.replicate 13 AV.undef) (some 6) rv) st) fun
    | (.ok s1, st1) => obind (aRun tabs C E 1 none a59y s1 [] st1) fun
      | (.nrm, _, [], st2) => some st2
      | _ => none
    | _ => none
def res42 : List ARes := [.cell 2 none, .cell 3 (some 5), .cell 4 none]
def ov42 : CSem → Env → List AV → St → Option (Rt AV × St) := fun C E args st =>
  obind (aOps tabs C E a42x (args ++ List.replicate (40 - args.length) AV.undef) st) fun
  | (.ok s0, st0) => obind (aOps tabs C E a42y s0 st0) fun
    | (.ok s1, st1) =>
      let s2 := s1.set 10 (.fn 59 [] [lk s1 2, lk s1 3, lk s1 4])
      guardb (decide (10 < s1.length)) <| obind (aRun tabs C E 1000 none a42z s2 [] st1) fun
      | (.ret, _, [], st3) => obind (dfr59 C E [lk s2 2, lk s2 3, lk s2 4] .nili st3) fun st4 => obind (resAll s2 st4 res42) fun vs => okv (oneOr vs) st4
      | (.pan v, _, [], st3) => obind (dfr59 C E [lk s2 2, lk s2 3, lk s2 4] v st3) fun st4 => obind (resAll s2 st4 res42) fun vs => okv (oneOr vs) st4
      | _ => none
    | _ => none
  | _ => none
def fnTab : List (Nat × AFn) := [(3, a3), (9, a9), (18, a18), (19, a19), (20, a20), (21, a21), (22, a22), (23, a23), (24, a24), (27, a27), (40, a40), (41, a41), (44, a44), (45, a45), (46, a46), (47, a47), (48, a48), (57, a57), (58, a58), (60, a60), (61, a61), (62, a62), (63, a63), (68, a68), (69, a69), (70, a70), (71, a71), (72, a72), (73, a73), (74, a74), (75, a75), (76, a76), (87, a87), (88, a88), (89, a89), (90, a90), (91, a91), (92, a92), (93, a93), (94, a94), (95, a95), (96, a96), (97, a97), (98, a98), (99, a99), (103, a103), (104, a104), (105, a105), (106, a106), (107, a107), (108, a108), (109, a109), (110, a110), (111, a111), (112, a112), (113, a113), (114, a114), (116, a116), (131, a131), (132, a132), (133, a133), (134, a134), (135, a135), (136, a136), (137, a137), (138, a138), (139, a139), (140, a140), (141, a141), (142, a142), (143, a143), (145, a145), (146, a146), (147, a147), (148, a148), (149, a149), (150, a150), (151, a151), (152, a152), (153, a153), (154, a154), (155, a155), (156, a156), (159, a159), (160, a160), (163, a163), (164, a164), (165, a165), (167, a167), (168, a168), (169, a169), (170, a170), (171, a171), (172, a172), (173, a173), (175, a175), (176, a176), (177, a177), (178, a178), (181, a181), (182, a182), (184, a184), (185, a185), (186, a186), (187, a187), (188, a188), (189, a189), (190, a190)]
def fnOf (f : Nat) : Option AFn := (fnTab.find? fun p => p.1 == f).map (·.2)
def ovOf : Nat → Option (CSem → Env → List AV → St → Option (Rt AV × St))
  | 42 => some ov42
  | 43 => some ov43
  | 144 => some ov144
  | _ => none
def prog : AProg := { GT := tabs, fn := fnOf, ovr := ovOf }
end Go.Proofs.YP
/- PURE, part k: what a step, a call may do to the abstract state: what is there stays there; what may not be written is not; old blocks name nothing new. -/
set_option linter.unusedVariables false
set_option linter.unusedSimpArgs false
namespace Go.Proofs.YP
open Go

def refsBlk : ABlk → List Ref
  | .cells _ c => AV.refsL c
  | .map es => AV.refsL (mapCells es)
  | .loop _ _ _ t _ _ _ d => .blk d :: AV.refsL t
  | .dfr => []
  | .opq => []
structure Env.Wf (E : Env) (st : St) : Prop where
  base : E.base ≤ st.H.length
  rob : E.rob ≤ st.H.length
  rom : E.rom ≤ st.I.length
structure StepOK (E : Env) (st st' : St) : Prop where
  H : st.H.length ≤ st'.H.length
  I : st.I.length ≤ st'.I.length
  rob : ∀ b o, b < E.rob → st.H[b]? = some o → st'.H[b]? = some o
  rom : ∀ i x, i < E.rom → st.I[i]? = some x → st'.I[i]? = some x
  refs : ∀ b o o', b < E.base → st.H[b]? = some o → st'.H[b]? = some o' → ∀ r ∈ refsBlk o', r ∈ refsBlk o
theorem StepOK.refl (E : Env) (st : St) : StepOK E st st := ⟨Nat.le_refl _, Nat.le_refl _, fun _ _ _ h => h, fun _ _ _ h => h, fun b o o' _ h h' r hr => by rw [h] at h'; cases h'; exact hr⟩
theorem StepOK.wf {E : Env} {st st' : St} (h : StepOK E st st') (w : E.Wf st) : E.Wf st' := ⟨Nat.le_trans w.base h.H, Nat.le_trans w.rob h.H, Nat.le_trans w.rom h.I⟩
theorem StepOK.trans {E : Env} {st st' st'' : St} (h : StepOK E st st') (k : StepOK E st' st'') : StepOK E st st'' := by
  refine ⟨Nat.le_trans h.H k.H, Nat.le_trans h.I k.I, fun b o hb e => k.rob b o hb (h.rob b o hb e), fun i x hi e => k.rom i x hi (h.rom i x hi e), fun b o o' hb e e' r hr => ?_⟩
  have hlt : b < st'.H.length := Nat.lt_of_lt_of_le (List.getElem?_eq_some_iff.1 e).1 h.H
  have e1 : st'.H[b]? = some st'.H[b] := List.getElem?_eq_getElem hlt
  exact h.refs b o _ hb e e1 r (k.refs b _ o' hb e1 e' r hr)
theorem StepOK.weak {E E' : Env} {st st' : St} (h : StepOK E' st st') (h1 : E.base ≤ E'.base) (h2 : E.rob ≤ E'.rob) (h3 : E.rom ≤ E'.rom) : StepOK E st st' :=
  ⟨h.H, h.I, fun b o hb => h.rob b o (by omega), fun i x hi => h.rom i x (by omega), fun b o o' hb => h.refs b o o' (by omega)⟩
theorem refsL_flat : ∀ l : List AV, AV.refsL l = l.flatMap AV.refs
  | [] => rfl
  | v :: vs => by simp [AV.refsL, refsL_flat vs]
theorem refsL_wr {c vs : List AV} {off : Nat} {r : Ref} (h : r ∈ AV.refsL (wrC c off vs)) : r ∈ AV.refsL c ∨ r ∈ AV.refsL vs := by
  simp only [refsL_flat, wrC, List.flatMap_append, List.mem_append, List.mem_flatMap] at h ⊢
  rcases h with (⟨x, hx, h⟩ | h) | ⟨x, hx, h⟩
  · exact .inl ⟨x, List.mem_of_mem_take hx, h⟩
  · exact .inr h
  · exact .inl ⟨x, List.mem_of_mem_drop hx, h⟩
theorem StepOK.push {E : Env} {st : St} {o : ABlk} (w : E.Wf st) : StepOK E st { st with H := st.H ++ [o] } :=
  ⟨by simp, Nat.le_refl _, fun b x hb e => by rw [List.getElem?_append_left (List.getElem?_eq_some_iff.1 e).1]; exact e, fun _ _ _ h => h, fun b x y hb e e' r hr => by
    rw [List.getElem?_append_left (List.getElem?_eq_some_iff.1 e).1, e] at e'; cases e'; exact hr⟩
theorem StepOK.pushI {E : Env} {st : St} {x : Nat × Nat} (w : E.Wf st) : StepOK E st { st with I := st.I ++ [x] } :=
  ⟨Nat.le_refl _, by simp, fun _ _ _ h => h, fun i y hi e => by rw [List.getElem?_append_left (List.getElem?_eq_some_iff.1 e).1]; exact e, fun b x y hb e e' r hr => by
    rw [e] at e'; cases e'; exact hr⟩
theorem StepOK.setI {E : Env} {st : St} {i : Nat} {x : Nat × Nat} (h : E.rom ≤ i) : StepOK E st { st with I := st.I.set i x } :=
  ⟨Nat.le_refl _, by simp, fun _ _ _ h => h, fun j y hj e => by rw [List.getElem?_set, if_neg (by omega)]; exact e, fun b x y hb e e' r hr => by
    rw [e] at e'; cases e'; exact hr⟩
theorem StepOK.setH {E : Env} {st : St} {b : Nat} {o o' : ABlk} (h : E.rob ≤ b) (ho : st.H[b]? = some o) (hr : b < E.base → ∀ r ∈ refsBlk o', r ∈ refsBlk o) : StepOK E st { st with H := st.H.set b o' } := by
  have hlt := (List.getElem?_eq_some_iff.1 ho).1
  refine ⟨by simp, Nat.le_refl _, fun k y hk e => by rw [List.getElem?_set, if_neg (by omega)]; exact e, fun _ _ _ h => h, fun k y y' hk e e' r hm => ?_⟩
  rw [List.getElem?_set] at e'
  split at e'
  · rename_i hb; subst hb
    simp only [hlt, if_true, Option.some.injEq] at e'; subst e'
    rw [ho] at e; cases e
    exact hr hk r hm
  · rw [e] at e'; cases e'; exact hm
theorem mapCells_append (a b : List (AV × AV)) : mapCells (a ++ b) = mapCells a ++ mapCells b := by simp [mapCells]
theorem updA_refs {str : Bool} {k v : AV} : ∀ {es es' : List (AV × AV)}, updA str k v es = some es' → ∀ r ∈ AV.refsL (mapCells es'), r ∈ AV.refsL (mapCells es) ∨ r ∈ AV.refsL [k, v]
  | [], es', h, r, hr => by simp only [updA, Option.some.injEq] at h; subst h; exact .inr hr
  | (q, u) :: es, es', h, r, hr => by
    simp only [updA, obind_eq_some] at h
    obtain ⟨b, _, h⟩ := h
    split at h
    · simp only [Option.some.injEq] at h; subst h
      simp only [mapCells, List.flatMap_cons, refsL_flat, List.flatMap_append, List.mem_append, List.flatMap_nil, List.append_nil] at hr ⊢
      rcases hr with (h | h) | h
      · exact .inr (.inl h)
      · exact .inr (.inr h)
      · exact .inl (.inr h)
    · simp only [obind_eq_some, Option.some.injEq] at h
      obtain ⟨r', h1, rfl⟩ := h
      have ih := updA_refs h1 r
      simp only [mapCells, List.flatMap_cons, refsL_flat, List.flatMap_append, List.mem_append, List.flatMap_nil, List.append_nil] at hr ih ⊢
      rcases hr with h | h
      · exact .inl (.inl h)
      · rcases ih h with h | h
        · exact .inl (.inr h)
        · exact .inr h
theorem mayWrite_refs {E : Env} {b : Nat} {old new : List AV} (h : mayWrite E b old new = true) : E.rob ≤ b ∧ (b < E.base → ∀ r ∈ AV.refsL new, r ∈ AV.refsL old) := by
  simp only [mayWrite, Bool.and_eq_true, Bool.or_eq_true, decide_eq_true_eq] at h
  refine ⟨h.1, fun hb r hr => ?_⟩
  rcases h.2 with h | h
  · omega
  · simp only [subRefs, List.all_eq_true, decide_eq_true_eq] at h
    exact h r hr
section
variable {E : Env} {st st' : St} {ev : AO → AV} {r : Rt AV}
/-- What is no effect leaves the state alone; what doesn't read either gives the same whatever the state. -/
theorem aOp_same {op : AOp} (hne : isEff op = false) (h : aOp E st ev op = some (r, st')) : st' = st ∧ ∃ v, r = .ok v := by
  cases op <;> simp only [isEff, reduceCtorEq, Bool.true_eq_false] at hne <;> simp only [aOp, okOf, okv_eq] at h <;> grind [= obind_eq_some, = guardb_eq_some]
theorem aOp_pure {op : AOp} (hne : isEff op = false) (hnr : reads op = false) (h : aOp E st ev op = some (r, st')) (E2 : Env) (st2 : St) : aOp E2 st2 ev op = some (r, st2) := by
  cases op <;> simp only [isEff, reads, reduceCtorEq, Bool.true_eq_false] at hne hnr <;> simp only [aOp, okOf, okv_eq] at h ⊢ <;> (repeat' (split at h)) <;> simp_all [obind_eq_some, guardb_eq_some] <;> grind
theorem aOp_step {op : AOp} (w : E.Wf st) (h : aOp E st ev op = some (r, st')) : StepOK E st st' := by
  by_cases hne : isEff op = false
  · rw [(aOp_same hne h).1]; exact .refl E st
  · cases op <;> simp only [isEff, not_true_eq_false] at hne
    case alloc =>
      simp only [aOp, okv_eq, guardb_eq_some, Option.some.injEq, Prod.mk.injEq] at h
      obtain ⟨_, _, rfl⟩ := h; exact .push w
    case box =>
      simp only [aOp, okv_eq, guardb_eq_some, Option.some.injEq, Prod.mk.injEq] at h
      obtain ⟨_, _, rfl⟩ := h; exact .push w
    case bsl own sz n z ps =>
      simp only [aOp, okv_eq, obind_eq_some] at h
      obtain ⟨cs, _, h⟩ := h
      split at h
      · simp only [Option.some.injEq, Prod.mk.injEq] at h; obtain ⟨_, rfl⟩ := h; exact .pushI w
      · simp only [Option.some.injEq, Prod.mk.injEq] at h; obtain ⟨_, rfl⟩ := h; exact .refl E st
    case st n p x =>
      simp only [aOp, okv_eq, obind_eq_some, Option.some.injEq, Prod.mk.injEq] at h
      obtain ⟨st1, h, _, rfl⟩ := h
      unfold storeA at h
      split at h
      · split at h
        · rename_i t c hc
          simp only [guardb_eq_some, Bool.and_eq_true, Option.some.injEq] at h
          obtain ⟨⟨_, hm⟩, rfl⟩ := h
          have hm := mayWrite_refs hm
          refine .setH hm.1 hc fun hb r hr => ?_
          simp only [refsBlk] at hr ⊢
          rcases refsL_wr hr with hr | hr
          · exact hr
          · exact hm.2 hb r hr
        · cases h
      · cases h
    case mks =>
      simp only [aOp, okv_eq] at h
      split at h
      · simp only [guardb_eq_some, Option.some.injEq, Prod.mk.injEq] at h
        obtain ⟨_, _, rfl⟩ := h; exact .pushI w
      · cases h
    case mkh =>
      simp only [aOp, okv_eq] at h
      split at h
      · simp only [guardb_eq_some, Option.some.injEq, Prod.mk.injEq] at h
        obtain ⟨_, _, rfl⟩ := h; exact .push w
      · cases h
    case frz =>
      simp only [aOp, okv_eq] at h
      split at h
      · split at h
        · rename_i hb
          simp only [guardb_eq_some, decide_eq_true_eq, Option.some.injEq, Prod.mk.injEq] at h
          obtain ⟨hr, _, rfl⟩ := h
          exact .setH hr hb fun _ r hr => by simp [refsBlk] at hr
        · cases h
      · cases h
    case app sz bytes x y =>
      simp only [aOp, okv_eq, obind_eq_some] at h
      obtain ⟨⟨v, st1⟩, h, h'⟩ := h
      simp only [Option.some.injEq, Prod.mk.injEq] at h'
      obtain ⟨_, rfl⟩ := h'
      unfold appA at h
      simp only [obind_eq_some] at h
      obtain ⟨⟨m, ys⟩, _, h⟩ := h
      split at h
      · split at h
        · simp only [Option.some.injEq, Prod.mk.injEq] at h; obtain ⟨_, rfl⟩ := h; exact .refl E st
        · simp only [guardb_eq_some, Option.some.injEq, Prod.mk.injEq] at h; obtain ⟨_, _, rfl⟩ := h; exact .pushI w
      · simp only [guardb_eq_some, Bool.and_eq_true, decide_eq_true_eq, Option.some.injEq, Prod.mk.injEq] at h
        obtain ⟨⟨⟨⟨⟨hr, _⟩, _⟩, _⟩, _⟩, _, rfl⟩ := h; exact .setI hr
      · cases h
    case mkm =>
      simp only [aOp, okv_eq, Option.some.injEq, Prod.mk.injEq] at h
      obtain ⟨_, rfl⟩ := h; exact .push w
    case upd str m k v =>
      simp only [aOp, okv_eq] at h
      split at h
      · split at h
        · rename_i es hes
          simp only [guardb_eq_some, Bool.and_eq_true, obind_eq_some, Option.some.injEq, Prod.mk.injEq] at h
          obtain ⟨⟨_, hm⟩, es', hu, _, rfl⟩ := h
          have hm := mayWrite_refs hm
          refine .setH hm.1 hes fun hb r hr => ?_
          simp only [refsBlk] at hr ⊢
          rcases updA_refs hu r hr with hr | hr
          · exact hr
          · have := hm.2 hb r hr; simp [AV.refsL] at this
        · cases h
      · cases h
    case pan =>
      simp only [aOp] at h
      split at h
      · simp only [Option.some.injEq, Prod.mk.injEq] at h; obtain ⟨_, rfl⟩ := h; exact .refl E st
      · cases h
    case call => simp [aOp] at h
    case callv => simp [aOp] at h
end
def StepC (C : CSem) : Prop := ∀ E cal args st r st', C E cal args st = some (r, st') → E.Wf st → StepOK E st st'
section
variable {GT : Nat → Option (List AV)} {C : CSem} (hC : StepC C)
include hC
theorem doCall_step {E : Env} {tr : Tr} {cal : Cal} {args : List AV} {st st' : St} {r : Rt AV} (w : E.Wf st) (h : doCall C E tr cal args st = some (r, st')) : StepOK E st st' := by
  have cutOK : ∀ {st1 : St} {m : Nat}, StepOK { E with base := st.H.length } st st1 → st.I.length ≤ m → StepOK E st { H := st1.H.take st.H.length, I := st1.I.take m } := fun {st1 m} k hm => by
    have k' : StepOK E st st1 := k.weak w.base (Nat.le_refl _) (Nat.le_refl _)
    refine ⟨by simp [k.H], by simp only [List.length_take]; exact Nat.le_min.2 ⟨hm, k.I⟩, fun b o hb e => ?_, fun i x hi e => ?_, fun b o o' hb e e' r hr => ?_⟩
    · have := k'.rob b o hb e
      rw [List.getElem?_take, if_pos (List.getElem?_eq_some_iff.1 e).1]; exact this
    · have := k'.rom i x hi e
      rw [List.getElem?_take, if_pos (by have := (List.getElem?_eq_some_iff.1 e).1; omega)]; exact this
    · rw [List.getElem?_take] at e'
      split at e'
      · exact k'.refs b o o' hb e e' r hr
      · cases e'
  cases tr with
  | no => exact hC _ _ _ _ _ _ h w
  | keep =>
    simp only [doCall, obind_eq_some] at h
    obtain ⟨⟨r1, st1⟩, h1, h⟩ := h
    have k := hC _ _ _ _ _ _ h1 ⟨Nat.le_refl _, w.rob, w.rom⟩
    cases r1 with
    | ok v =>
      simp only [guardb_eq_some, okv_eq, Option.some.injEq, Prod.mk.injEq] at h
      obtain ⟨_, _, rfl⟩ := h
      have := cutOK k k.I
      rwa [List.take_length] at this
    | pan v =>
      simp only [Option.some.injEq, Prod.mk.injEq] at h
      obtain ⟨_, rfl⟩ := h
      exact k.weak w.base (Nat.le_refl _) (Nat.le_refl _)
  | full =>
    simp only [doCall, obind_eq_some] at h
    obtain ⟨⟨r1, st1⟩, h1, h⟩ := h
    have k := hC _ _ _ _ _ _ h1 ⟨Nat.le_refl _, w.rob, w.rom⟩
    cases r1 with
    | ok v =>
      simp only [guardb_eq_some, okv_eq, Option.some.injEq, Prod.mk.injEq] at h
      obtain ⟨_, _, rfl⟩ := h
      exact cutOK k (Nat.le_refl _)
    | pan v =>
      simp only [Option.some.injEq, Prod.mk.injEq] at h
      obtain ⟨_, rfl⟩ := h
      exact k.weak w.base (Nat.le_refl _) (Nat.le_refl _)
  | quiet =>
    simp only [doCall, obind_eq_some] at h
    obtain ⟨⟨r1, st1⟩, h1, h⟩ := h
    have k := hC _ _ _ _ _ _ h1 ⟨Nat.le_refl _, Nat.le_refl _, Nat.le_refl _⟩
    cases r1 with
    | ok v =>
      simp only [guardb_eq_some, okv_eq, Option.some.injEq, Prod.mk.injEq] at h
      obtain ⟨_, _, rfl⟩ := h
      exact .refl E _
    | pan v => simp at h
theorem aExec_step {E : Env} {op : AOp} {s : List AV} {st st' : St} {r : Rt AV} (w : E.Wf st) (h : aExec GT C E op s st = some (r, st')) : StepOK E st st' := by
  unfold aExec at h
  split at h
  · exact doCall_step hC w h
  · split at h
    · exact doCall_step hC w h
    · exact doCall_step hC w h
    · cases h
  · exact aOp_step w h
theorem aOps_step {E : Env} : ∀ {ops : List AOper} {s : List AV} {st st' : St} {r : Rt (List AV)}, E.Wf st → aOps GT C E ops s st = some (r, st') → StepOK E st st'
  | [], s, st, st', r, w, h => by simp only [aOps, Option.some.injEq, Prod.mk.injEq] at h; rw [h.2]; exact .refl E _
  | o :: ops, s, st, st', r, w, h => by
    simp only [aOps, obind_eq_some] at h
    obtain ⟨⟨r1, st1⟩, h1, h⟩ := h
    have k : StepOK E st st1 := by
      unfold aStep at h1
      split at h1
      · simp only [obind_eq_some] at h1
        obtain ⟨⟨r2, st2⟩, h2, h1⟩ := h1
        have k := aExec_step hC w h2
        cases r2 <;> simp only [Option.some.injEq, Prod.mk.injEq] at h1 <;> rw [← h1.2] <;> exact k
      · simp only [Option.some.injEq, Prod.mk.injEq] at h1
        rw [h1.2]; exact .refl E _
    cases r1 with
    | ok s1 => exact k.trans (aOps_step (k.wf w) h)
    | pan v =>
      simp only [Option.some.injEq, Prod.mk.injEq] at h
      rw [← h.2]; exact k
theorem aDraw_step {E : Env} : ∀ {ops : List (AOper × Nat)} {i : Nat} {ds : List Done} {sts : List (Option Nat × St)} {s : List AV} {st st' : St} {r : Rt (List AV)}, E.Wf st → aDraw GT C E i ops ds sts s st = some (r, st') → StepOK E st st'
  | [], i, ds, sts, s, st, st', r, w, h => by simp only [aDraw, Option.some.injEq, Prod.mk.injEq] at h; rw [h.2]; exact .refl E _
  | (o, m) :: ops, i, ds, sts, s, st, st', r, w, h => by
    simp only [aDraw] at h
    split at h
    · simp only [obind_eq_some] at h
      obtain ⟨⟨r2, st2⟩, h2, h⟩ := h
      have k := aExec_step hC w h2
      cases r2 with
      | ok v =>
        simp only at h
        split at h
        · simp only [guardb_eq_some] at h
          exact k.trans (aDraw_step (k.wf w) h.2)
        · split at h
          · simp only [guardb_eq_some] at h
            exact aDraw_step w h.2
          · exact aDraw_step w h
      | pan v =>
        simp only [guardb_eq_some, Option.some.injEq, Prod.mk.injEq] at h
        rw [← h.2.2]; exact k
    · split at h
      · exact aDraw_step w h
      · exact aDraw_step w h
theorem rfCall_step {E : Env} {rd : Option Nat} {f : AV} {ps : List Nat} {asg body : ACode} {s : List AV} {m : List Nat} {st : St} {x : AExit} {s' : List AV} {m' : List Nat} {st' : St} (w : E.Wf st)
    (hm : ∀ d ∈ m, E.rob ≤ d) (h : rfCall C E rd f ps asg body s m st = some (x, s', m', st')) : StepOK E st st' ∧ ∀ d ∈ m', E.rob ≤ d := by
  unfold rfCall at h
  simp only [obind_eq_some] at h
  obtain ⟨⟨d, m1, st1⟩, h1, h⟩ := h
  have k1 : StepOK E st st1 ∧ ∀ d ∈ m1, E.rob ≤ d := by
    cases rd with
    | none =>
      simp only [Option.some.injEq, Prod.mk.injEq] at h1
      obtain ⟨rfl, rfl, rfl⟩ := h1
      exact ⟨.push w, fun d hd => by
        rcases List.mem_cons.1 hd with rfl | hd
        · exact w.rob
        · exact hm d hd⟩
    | some l0 =>
      simp only at h1
      split at h1
      · simp only [Option.some.injEq, Prod.mk.injEq] at h1
        obtain ⟨rfl, rfl, rfl⟩ := h1
        exact ⟨.refl E _, hm⟩
      · cases h1
  simp only at h
  have w1 := k1.1.wf w
  have k2 : StepOK E st1 { st1 with H := st1.H ++ [.loop .ready none 0 s ps asg body d] } := .push w1
  have w2 := k2.wf w1
  split at h
  · simp only [obind_eq_some] at h
    obtain ⟨⟨r3, st3⟩, h3, h⟩ := h
    have k3 := hC _ _ _ _ _ _ h3 w2
    have k := k1.1.trans (k2.trans k3)
    cases r3 with
    | ok v =>
      simp only at h
      split at h
      · rename_i ls p g' t ps' as' bd d' hl
        simp only [guardb_eq_some, Option.some.injEq, Prod.mk.injEq] at h
        obtain ⟨_, _, _, rfl, rfl⟩ := h
        exact ⟨k.trans (.setH w1.rob hl fun _ r hr => by simpa only [refsBlk] using hr), k1.2⟩
      · cases h
    | pan v =>
      simp only [Option.some.injEq, Prod.mk.injEq] at h
      obtain ⟨_, _, rfl, rfl⟩ := h
      exact ⟨k, k1.2⟩
  · cases h
theorem aRun_step {E : Env} {lf : Nat} {rd : Option Nat} : ∀ (c : ACode) {s : List AV} {m : List Nat} {st : St} {x : AExit} {s' : List AV} {m' : List Nat} {st' : St}, E.Wf st → (∀ d ∈ m, E.rob ≤ d) →
    aRun GT C E lf rd c s m st = some (x, s', m', st') → StepOK E st st' ∧ ∀ d ∈ m', E.rob ≤ d
  | .skip, s, m, st, x, s', m', st', w, hm, h => by
    simp only [aRun, Option.some.injEq, Prod.mk.injEq] at h
    obtain ⟨_, _, rfl, rfl⟩ := h; exact ⟨.refl E _, hm⟩
  | .exit i, s, m, st, x, s', m', st', w, hm, h => by
    simp only [aRun, Option.some.injEq, Prod.mk.injEq] at h
    obtain ⟨_, _, rfl, rfl⟩ := h; exact ⟨.refl E _, hm⟩
  | .ret, s, m, st, x, s', m', st', w, hm, h => by
    simp only [aRun, Option.some.injEq, Prod.mk.injEq] at h
    obtain ⟨_, _, rfl, rfl⟩ := h; exact ⟨.refl E _, hm⟩
  | .bad, s, m, st, x, s', m', st', w, hm, h => by simp [aRun] at h
  | .reg ops, s, m, st, x, s', m', st', w, hm, h => by
    simp only [aRun, obind_eq_some] at h
    obtain ⟨⟨r1, st1⟩, h1, h⟩ := h
    have k := aOps_step hC w h1
    cases r1 <;> simp only [Option.some.injEq, Prod.mk.injEq] at h <;> obtain ⟨_, _, rfl, rfl⟩ := h <;> exact ⟨k, hm⟩
  | .dreg ops, s, m, st, x, s', m', st', w, hm, h => by
    simp only [aRun, obind_eq_some] at h
    obtain ⟨⟨r1, st1⟩, h1, h⟩ := h
    have k := aDraw_step hC w h1
    cases r1 <;> simp only [Option.some.injEq, Prod.mk.injEq] at h <;> obtain ⟨_, _, rfl, rfl⟩ := h <;> exact ⟨k, hm⟩
  | .seq a b, s, m, st, x, s', m', st', w, hm, h => by
    simp only [aRun, obind_eq_some] at h
    obtain ⟨⟨x1, s1, m1, st1⟩, h1, h⟩ := h
    have k := aRun_step a w hm h1
    cases x1 with
    | nrm =>
      have k2 := aRun_step b (k.1.wf w) k.2 h
      exact ⟨k.1.trans k2.1, k2.2⟩
    | _ => simp only [Option.some.injEq, Prod.mk.injEq] at h; obtain ⟨_, _, rfl, rfl⟩ := h; exact k
  | .cond c a b, s, m, st, x, s', m', st', w, hm, h => by
    simp only [aRun] at h
    split at h
    · split at h
      · exact aRun_step a w hm h
      · exact aRun_step b w hm h
    · cases h
  | .block i b, s, m, st, x, s', m', st', w, hm, h => by
    simp only [aRun, obind_eq_some] at h
    obtain ⟨⟨x1, s1, m1, st1⟩, h1, h⟩ := h
    have k := aRun_step b w hm h1
    cases x1 with
    | exit j =>
      simp only at h
      split at h <;> simp only [Option.some.injEq, Prod.mk.injEq] at h <;> obtain ⟨_, _, rfl, rfl⟩ := h <;> exact k
    | _ => simp only [Option.some.injEq, Prod.mk.injEq] at h; obtain ⟨_, _, rfl, rfl⟩ := h; exact k
  | .scope b, s, m, st, x, s', m', st', w, hm, h => by
    simp only [aRun] at h
    exact aRun_step b w hm h
  | .loop b, s, m, st, x, s', m', st', w, hm, h => by
    simp only [aRun] at h
    have key : ∀ (k : Nat) {s : List AV} {m : List Nat} {st : St}, E.Wf st → (∀ d ∈ m, E.rob ≤ d) → iter (aRun GT C E lf rd b) k s m st = some (x, s', m', st') → StepOK E st st' ∧ ∀ d ∈ m', E.rob ≤ d := by
      intro k
      induction k with
      | zero => intro s m st w hm h; simp [iter] at h
      | succ k ih =>
        intro s m st w hm h
        simp only [iter, obind_eq_some] at h
        obtain ⟨⟨x1, s1, m1, st1⟩, h1, h⟩ := h
        have k1 := aRun_step b w hm h1
        cases x1 with
        | nrm =>
          have k2 := ih (k1.1.wf w) k1.2 h
          exact ⟨k1.1.trans k2.1, k2.2⟩
        | _ => simp only [Option.some.injEq, Prod.mk.injEq] at h; obtain ⟨_, _, rfl, rfl⟩ := h; exact k1
    exact key lf w hm h
  | .rf f ps asg body, s, m, st, x, s', m', st', w, hm, h => rfCall_step hC w hm h
omit hC in
theorem endRoundA_step {E : Env} {l : Nat} {j : Option AJump} {st st' : St} {r : Rt AV} (hl : E.rob ≤ l) (h : endRoundA l j st = some (r, st')) : StepOK E st st' := by
  unfold endRoundA at h
  split at h
  · rename_i a b c d e f g i hb
    simp only [Option.some.injEq, Prod.mk.injEq] at h
    obtain ⟨_, rfl⟩ := h
    exact .setH hl hb fun _ r hr => by simpa only [refsBlk] using hr
  · cases h
theorem aRound_step {E : Env} {lf l : Nat} {args : List AV} {st st' : St} {r : Rt AV} (w : E.Wf st) (h : aRound GT C E lf l args st = some (r, st')) : StepOK E st st' := by
  unfold aRound at h
  split at h
  · simp only [guardb_eq_some, Bool.and_eq_true, decide_eq_true_eq, obind_eq_some] at h
    obtain ⟨⟨_, hl⟩, ⟨x1, s1, m1, st1⟩, h1, h⟩ := h
    have k1 := aRun_step hC _ w (by simp) h1
    split at h
    · rename_i s2 st2 heq
      simp only [Prod.mk.injEq] at heq
      obtain ⟨rfl, rfl, rfl, rfl⟩ := heq
      split at h
      · rename_i p f t ps as bd d hb
        simp only [obind_eq_some] at h
        obtain ⟨⟨x3, s3, m3, st3⟩, h3, h⟩ := h
        have w1 := k1.1.wf w
        have k2 : StepOK E st1 _ := .setH hl hb (o' := ABlk.loop .busy p f t ps as bd d) fun _ r hr => by simpa only [refsBlk] using hr
        have k3 := aRun_step hC _ (k2.wf w1) (by simp) h3
        have k := k1.1.trans (k2.trans k3.1)
        cases x3 with
        | pan v => cases h
        | _ => exact k.trans (endRoundA_step hl h)
      · cases h
    · cases h
  · cases h
end
theorem takeAll_step {E : Env} : ∀ {m : List Nat} {st st' : St}, (∀ d ∈ m, E.rob ≤ d) → takeAll st m = some st' → StepOK E st st'
  | [], st, st', _, h => by simp only [takeAll, Option.some.injEq] at h; rw [h]; exact .refl E _
  | d :: ds, st, st', hm, h => by
    simp only [takeAll] at h
    split at h
    · rename_i hd
      have k1 : StepOK E st _ := .setH (hm d (by simp)) hd (o' := .opq) fun _ r hr => by simp [refsBlk] at hr
      exact k1.trans (takeAll_step (fun x hx => hm x (by simp [hx])) h)
    · cases h
/-- The overrides must keep to it, too. -/
def StepOvr (A : AProg) : Prop := ∀ f g C E args st r st', A.ovr f = some g → StepC C → g C E args st = some (r, st') → E.Wf st → StepOK E st st'
theorem aCall_step {A : AProg} (hA : StepOvr A) : ∀ k, StepC (aCall A k)
  | 0 => fun E cal args st r st' h w => by simp [aCall] at h
  | k + 1 => fun E cal args st r st' h w => by
    have hC := aCall_step hA k
    cases cal with
    | yld l => exact aRound_step hC w h
    | fn f =>
      simp only [aCall] at h
      split at h
      · rename_i g hg
        exact hA _ _ _ _ _ _ _ _ hg hC h w
      · split at h
        · cases h
        · simp only [obind_eq_some] at h
          obtain ⟨⟨x1, s1, m1, st1⟩, h1, h⟩ := h
          have k1 := aRun_step hC _ w (by simp) h1
          have fin : ∀ {st2 : St}, takeAll st1 m1 = some st2 → StepOK E st st2 := fun h2 => k1.1.trans (takeAll_step k1.2 h2)
          cases x1 with
          | exit i => cases h
          | pan v =>
            simp only [obind_eq_some, Option.some.injEq, Prod.mk.injEq] at h
            obtain ⟨st2, h2, _, rfl⟩ := h
            exact fin h2
          | _ =>
            simp only [obind_eq_some, leaveA, Option.some.injEq, Prod.mk.injEq] at h
            obtain ⟨st2, h2, vs, _, _, rfl⟩ := h
            exact fin h2
end Go.Proofs.YP
