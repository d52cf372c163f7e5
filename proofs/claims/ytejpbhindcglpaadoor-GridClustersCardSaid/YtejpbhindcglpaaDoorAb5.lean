/- Contracts of functions of the program over the abstract semantics. -/
import Derived.Test.YtejpbhindcglpaaDoorAb4
set_option linter.unusedVariables false
set_option linter.unusedSimpArgs false
namespace Go.Ab.Fn
open Go.Ab
/- sixdot/sixdotlaw12.GridDistances -/
def f5r0 : List SOper := [
⟨0, some 6, .p (.mv (.c (.one (.bool false)))), none, none, [], false⟩]
def f5r1 : List SOper := [
⟨0, some 15, .cf 10 [], none, none, [], false⟩,
⟨1, some 7, .p (.mv (.t 15)), none, none, [], false⟩]
def f5r2 : List SOper := [
⟨0, some 16, .p (.mv (.t 0)), none, none, [], false⟩,
⟨1, some 17, .cf 18 [(.t 16), (.c (.one (.int .i64 12)))], none, none, [], false⟩,
⟨2, some 18, .p (.mv (.t 1)), none, none, [], false⟩,
⟨3, some 19, .cf 18 [(.t 18), (.c (.one (.int .i64 12)))], none, none, [], false⟩,
⟨4, some 20, .p (.mv (.t 2)), none, none, [], false⟩,
⟨5, some 21, .cf 18 [(.t 20), (.c (.one (.int .i64 12)))], none, none, [], false⟩,
⟨6, some 8, .p (.mv (.t 17)), none, none, [], false⟩,
⟨7, some 9, .p (.mv (.t 19)), none, none, [], false⟩,
⟨8, some 10, .p (.mv (.t 21)), none, none, [], false⟩]
def f5r3 : List SOper := [
⟨0, some 22, .p (.mv (.t 8)), none, none, [], false⟩,
⟨1, some 23, .p (.mv (.t 9)), none, none, [], false⟩,
⟨2, some 24, .cf 19 [(.t 22), (.t 23)], none, none, [], false⟩,
⟨3, some 11, .p (.mv (.t 24)), none, none, [], false⟩]
def f5r4 : List SOper := [
⟨0, some 25, .p (.mv (.t 11)), none, none, [], false⟩,
⟨1, some 26, .p (.mv (.t 9)), none, none, [], false⟩,
⟨2, some 27, .p (.mv (.t 8)), none, none, [], false⟩,
⟨3, some 28, .cf 19 [(.t 26), (.t 27)], none, none, [], false⟩,
⟨4, some 29, .p (.bin .neq (.t 25) (.t 28)), none, none, [], false⟩,
⟨5, some 30, .p (.mv (.t 29)), none, none, [], false⟩,
⟨6, some 31, .p (.mv (.t 11)), (some (30, false)), none, [], false⟩,
⟨7, some 32, .p (.bin .lss (.t 31) (.c (.one (.int .i64 0)))), (some (30, false)), none, [], false⟩,
⟨8, some 33, .p (.mv (.t 8)), (some (30, false)), none, [], false⟩,
⟨9, some 34, .p (.len (.t 33)), (some (30, false)), none, [], false⟩,
⟨10, some 35, .p (.bin .eql (.t 34) (.c (.one (.int .i64 0)))), (some (30, false)), none, [], false⟩,
⟨11, some 36, .p (.mv (.t 35)), (some (30, false)), none, [], false⟩,
⟨12, some 37, .p (.mv (.t 9)), (some (36, false)), none, [], false⟩,
⟨13, some 38, .p (.len (.t 37)), (some (36, false)), none, [], false⟩,
⟨14, some 39, .p (.bin .eql (.t 38) (.c (.one (.int .i64 0)))), (some (36, false)), none, [], false⟩,
⟨15, some 40, .p (.pick (.t 36) (.c (.one (.bool true))) (.t 39)), (some (30, false)), none, [], false⟩,
⟨16, some 41, .p (.beq true (.t 32) (.t 40)), (some (30, false)), none, [], false⟩,
⟨17, some 42, .p (.pick (.t 30) (.c (.one (.bool true))) (.t 41)), none, none, [], false⟩]
def f5r5 : List SOper := [
⟨0, some 6, .p (.mv (.c (.one (.bool false)))), none, none, [], false⟩]
def f5r6 : List SOper := [
⟨0, some 12, .p (.mv (.c (.one (.bool false)))), none, none, [], false⟩]
def f5r7 : List SOper := [
⟨0, some 13, .p (.mv (.c (.one (.int .i64 0)))), none, none, [], false⟩]
def f5r8 : List SOper := [
⟨0, some 43, .p (.mv (.t 13)), none, none, [], false⟩,
⟨1, some 44, .p (.mv (.t 8)), none, none, [], false⟩,
⟨2, some 45, .p (.len (.t 44)), none, none, [], false⟩,
⟨3, some 46, .p (.bin .lss (.t 43) (.t 45)), none, none, [], false⟩]
def f5r9 : List SOper := [
⟨0, some 49, .p (.mv (.t 12)), none, none, [], false⟩,
⟨1, some 50, .p (.mv (.t 49)), none, none, [], false⟩,
⟨2, some 51, .p (.mv (.t 9)), (some (50, false)), none, [], false⟩,
⟨3, some 52, .p (.mv (.t 8)), (some (50, false)), none, [], false⟩,
⟨4, some 53, .p (.mv (.t 13)), (some (50, false)), none, [], false⟩,
⟨5, some 54, .p (.iaddr 2 (.t 52) (.t 53)), (some (50, false)), none, [], false⟩,
⟨6, some 55, .l (.load true 2 (.t 54)), (some (50, false)), none, [], false⟩,
⟨7, some 56, .cf 20 [(.t 51), (.t 55)], (some (50, false)), none, [], false⟩,
⟨8, some 57, .p (.pick (.t 50) (.c (.one (.bool true))) (.t 56)), none, none, [], false⟩,
⟨9, some 12, .p (.mv (.t 57)), none, none, [], false⟩]
def f5r10 : List SOper := [
⟨0, some 47, .p (.mv (.t 13)), none, none, [], false⟩,
⟨1, some 48, .p (.bin .add (.t 47) (.c (.one (.int .i64 1)))), none, none, [], false⟩,
⟨2, some 13, .p (.mv (.t 48)), none, none, [], false⟩]
def f5b0 : SC := (.seq (.seq (.ops f5r8 0) (.cond (.t 46) .skip (.exit 0))) (.seq (.block 1 (.ops f5r9 0)) (.ops f5r10 0)))
def f5r11 : List SOper := [
⟨0, some 58, .a (.bslice 2 0 [(.int .i64 0), (.int .i64 0)] []), none, none, [], false⟩,
⟨1, some 59, .p (.mv (.t 8)), none, none, [], false⟩,
⟨2, some 60, .e (.append 2 16 (.t 58) (.t 59)), none, none, [], false⟩,
⟨3, some 61, .p (.mv (.t 10)), none, none, [], false⟩,
⟨4, some 62, .e (.append 2 16 (.t 60) (.t 61)), none, none, [], false⟩,
⟨5, some 63, .p (.mv (.t 9)), none, none, [], false⟩,
⟨6, some 64, .cf 19 [(.t 62), (.t 63)], none, none, [], false⟩,
⟨7, some 14, .p (.mv (.t 64)), none, none, [], false⟩]
def f5r12 : List SOper := [
⟨0, some 65, .p (.mv (.t 11)), none, none, [], false⟩,
⟨1, some 66, .p (.bin .eql (.t 65) (.c (.one (.int .i64 0)))), none, none, [], false⟩,
⟨2, some 67, .p (.mv (.t 12)), none, none, [], false⟩,
⟨3, some 68, .p (.beq false (.t 66) (.t 67)), none, none, [], false⟩,
⟨4, some 69, .p (.mv (.t 68)), none, none, [], false⟩,
⟨5, some 70, .p (.mv (.t 11)), (some (69, true)), none, [], false⟩,
⟨6, some 71, .p (.bin .lss (.t 70) (.c (.one (.int .i64 0)))), (some (69, true)), none, [], false⟩,
⟨7, some 72, .p (.mv (.t 71)), (some (69, true)), none, [], false⟩,
⟨8, some 73, .p (.mv (.t 14)), (some (72, false)), none, [], false⟩,
⟨9, some 74, .p (.bin .geq (.t 73) (.c (.one (.int .i64 0)))), (some (72, false)), none, [], false⟩,
⟨10, some 75, .p (.mv (.t 74)), (some (72, false)), none, [], false⟩,
⟨11, some 76, .p (.mv (.t 14)), (some (75, true)), none, [], false⟩,
⟨12, some 77, .p (.mv (.t 11)), (some (75, true)), none, [], false⟩,
⟨13, some 78, .p (.bin .leq (.t 76) (.t 77)), (some (75, true)), none, [], false⟩,
⟨14, some 79, .p (.pick (.t 75) (.t 78) (.c (.one (.bool false)))), (some (72, false)), none, [], false⟩,
⟨15, some 80, .p (.pick (.t 72) (.c (.one (.bool true))) (.t 79)), (some (69, true)), none, [], false⟩,
⟨16, some 81, .p (.pick (.t 69) (.t 80) (.c (.one (.bool false)))), none, none, [], false⟩,
⟨17, some 82, .p (.mv (.t 81)), none, none, [], false⟩,
⟨18, some 83, .p (.mv (.t 7)), (some (82, true)), none, [], false⟩,
⟨19, some 84, .p (.pick (.t 82) (.t 83) (.c (.one (.bool false)))), none, none, [], false⟩,
⟨20, some 6, .p (.mv (.t 84)), none, none, [], false⟩]
def f5c : SC := (.seq (.ops f5r0 0) (.seq (.ops f5r1 0) (.seq (.ops f5r2 0) (.seq (.ops f5r3 0) (.seq (.seq (.ops f5r4 0) (.cond (.t 42) (.seq (.ops f5r5 0) .ret) .skip)) (.seq (.ops f5r6 0) (.seq (.seq (.ops f5r7 0) (.block 0 (.loop f5b0))) (.seq (.ops f5r11 0) (.seq (.ops f5r12 0) .ret)))))))))
def f5 : SFn := ⟨85, f5c, [.t 6]⟩

/- sixdot/sixdotlaw12.GridClusters -/
def f6r0 : List SOper := [
⟨0, some 6, .p (.mv (.c (.one (.bool false)))), none, none, [], false⟩]
def f6r1 : List SOper := [
⟨0, some 16, .cf 10 [], none, none, [], false⟩,
⟨1, some 7, .p (.mv (.t 16)), none, none, [], false⟩]
def f6r2 : List SOper := [
⟨0, some 17, .p (.mv (.t 0)), none, none, [], false⟩,
⟨1, some 18, .cf 18 [(.t 17), (.c (.one (.int .i64 16)))], none, none, [], false⟩,
⟨2, some 19, .p (.mv (.t 1)), none, none, [], false⟩,
⟨3, some 20, .p (.conv .i64 (.t 19)), none, none, [], false⟩,
⟨4, some 21, .p (.bin .rem (.t 20) (.c (.one (.int .i64 6)))), none, none, [], false⟩,
⟨5, some 8, .p (.mv (.t 18)), none, none, [], false⟩,
⟨6, some 9, .p (.mv (.t 21)), none, none, [], false⟩,
⟨7, some 10, .p (.mv (.c (.one (.int .i64 0)))), none, none, [], false⟩]
def f6r3 : List SOper := [
⟨0, some 22, .p (.mv (.t 8)), none, none, [], false⟩,
⟨1, some 23, .p (.mv (.t 9)), none, none, [], false⟩,
⟨2, some 24, .cf 21 [(.t 22), (.t 23)], none, none, [], false⟩,
⟨3, some 11, .p (.mv (.t 24)), none, none, [], false⟩]
def f6r4 : List SOper := [
⟨0, some 12, .p (.mv (.c (.one (.int .i64 0)))), none, none, [], false⟩]
def f6r5 : List SOper := [
⟨0, some 25, .p (.mv (.t 12)), none, none, [], false⟩,
⟨1, some 26, .p (.mv (.t 11)), none, none, [], false⟩,
⟨2, some 27, .p (.len (.t 26)), none, none, [], false⟩,
⟨3, some 28, .p (.bin .lss (.t 25) (.t 27)), none, none, [], false⟩]
def f6r6 : List SOper := [
⟨0, some 31, .p (.mv (.t 10)), none, none, [], false⟩,
⟨1, some 32, .p (.mv (.t 11)), none, none, [], false⟩,
⟨2, some 33, .p (.mv (.t 12)), none, none, [], false⟩,
⟨3, some 34, .p (.iaddr 1 (.t 32) (.t 33)), none, none, [], false⟩,
⟨4, some 35, .l (.load false 1 (.t 34)), none, none, [], false⟩,
⟨5, some 36, .p (.len (.t 35)), none, none, [], false⟩,
⟨6, some 37, .p (.bin .add (.t 31) (.t 36)), none, none, [], false⟩,
⟨7, some 10, .p (.mv (.t 37)), none, none, [], false⟩]
def f6r7 : List SOper := [
⟨0, some 38, .p (.mv (.t 11)), none, none, [], false⟩,
⟨1, some 39, .p (.mv (.t 12)), none, none, [], false⟩,
⟨2, some 40, .p (.iaddr 1 (.t 38) (.t 39)), none, none, [], false⟩,
⟨3, some 41, .l (.load false 1 (.t 40)), none, none, [], false⟩,
⟨4, some 42, .p (.len (.t 41)), none, none, [], false⟩,
⟨5, some 43, .p (.bin .eql (.t 42) (.c (.one (.int .i64 0)))), none, none, [], false⟩,
⟨6, some 44, .p (.mv (.t 43)), none, none, [], false⟩,
⟨7, some 45, .p (.mv (.t 11)), (some (44, false)), none, [], false⟩,
⟨8, some 46, .p (.mv (.t 12)), (some (44, false)), none, [], false⟩,
⟨9, some 47, .p (.iaddr 1 (.t 45) (.t 46)), (some (44, false)), none, [], false⟩,
⟨10, some 48, .l (.load false 1 (.t 47)), (some (44, false)), none, [], false⟩,
⟨12, some 50, .p (.mv (.t 11)), (some (44, false)), none, [], false⟩,
⟨13, some 51, .p (.mv (.t 12)), (some (44, false)), none, [], false⟩,
⟨14, some 52, .p (.iaddr 1 (.t 50) (.t 51)), (some (44, false)), none, [], false⟩,
⟨15, some 53, .l (.load false 1 (.t 52)), (some (44, false)), none, [], true⟩,
⟨11, some 49, .cf 22 [(.t 48)], (some (44, false)), none, [15], false⟩,
⟨16, some 54, .cf 16 [(.t 49), (.t 53)], (some (44, false)), none, [], false⟩,
⟨17, some 55, .p (.not (.t 54)), (some (44, false)), none, [], false⟩,
⟨18, some 56, .p (.pick (.t 44) (.c (.one (.bool true))) (.t 55)), none, none, [], false⟩,
⟨19, some 57, .p (.mv (.t 56)), none, none, [], false⟩,
⟨20, some 58, .p (.mv (.t 12)), (some (57, false)), none, [], false⟩,
⟨21, some 59, .p (.bin .gtr (.t 58) (.c (.one (.int .i64 0)))), (some (57, false)), none, [], false⟩,
⟨22, some 60, .p (.mv (.t 59)), (some (57, false)), none, [], false⟩,
⟨23, some 61, .p (.mv (.t 11)), (some (60, true)), none, [], false⟩,
⟨24, some 62, .p (.mv (.t 12)), (some (60, true)), none, [], false⟩,
⟨25, some 63, .p (.bin .sub (.t 62) (.c (.one (.int .i64 1)))), (some (60, true)), none, [], false⟩,
⟨26, some 64, .p (.iaddr 1 (.t 61) (.t 63)), (some (60, true)), none, [], false⟩,
⟨27, some 65, .l (.load false 1 (.t 64)), (some (60, true)), none, [], false⟩,
⟨28, some 66, .p (.iaddr 2 (.t 65) (.c (.one (.int .i64 0)))), (some (60, true)), none, [], false⟩,
⟨29, some 67, .l (.load true 2 (.t 66)), (some (60, true)), none, [], false⟩,
⟨30, some 68, .p (.mv (.t 11)), (some (60, true)), none, [], false⟩,
⟨31, some 69, .p (.mv (.t 12)), (some (60, true)), none, [], false⟩,
⟨32, some 70, .p (.iaddr 1 (.t 68) (.t 69)), (some (60, true)), none, [], false⟩,
⟨33, some 71, .l (.load false 1 (.t 70)), (some (60, true)), none, [], false⟩,
⟨34, some 72, .p (.iaddr 2 (.t 71) (.c (.one (.int .i64 0)))), (some (60, true)), none, [], false⟩,
⟨35, some 73, .l (.load true 2 (.t 72)), (some (60, true)), none, [], false⟩,
⟨36, some 74, .cf 23 [(.t 67), (.t 73)], (some (60, true)), none, [], false⟩,
⟨37, some 75, .p (.not (.t 74)), (some (60, true)), none, [], false⟩,
⟨38, some 76, .p (.pick (.t 60) (.t 75) (.c (.one (.bool false)))), (some (57, false)), none, [], false⟩,
⟨39, some 77, .p (.pick (.t 57) (.c (.one (.bool true))) (.t 76)), none, none, [], false⟩]
def f6r8 : List SOper := [
⟨0, some 6, .p (.mv (.c (.one (.bool false)))), none, none, [], false⟩]
def f6r9 : List SOper := [
⟨0, some 13, .p (.mv (.c (.one (.int .i64 0)))), none, none, [], false⟩]
def f6r10 : List SOper := [
⟨0, some 78, .p (.mv (.t 13)), none, none, [], false⟩,
⟨1, some 79, .p (.mv (.t 11)), none, none, [], false⟩,
⟨2, some 80, .p (.mv (.t 12)), none, none, [], false⟩,
⟨3, some 81, .p (.iaddr 1 (.t 79) (.t 80)), none, none, [], false⟩,
⟨4, some 82, .l (.load false 1 (.t 81)), none, none, [], false⟩,
⟨5, some 83, .p (.len (.t 82)), none, none, [], false⟩,
⟨6, some 84, .p (.bin .lss (.t 78) (.t 83)), none, none, [], false⟩]
def f6r11 : List SOper := [
⟨0, some 87, .p (.mv (.t 8)), none, none, [], false⟩,
⟨1, some 88, .p (.mv (.t 11)), none, none, [], false⟩,
⟨2, some 89, .p (.mv (.t 12)), none, none, [], false⟩,
⟨3, some 90, .p (.iaddr 1 (.t 88) (.t 89)), none, none, [], false⟩,
⟨4, some 91, .l (.load false 1 (.t 90)), none, none, [], false⟩,
⟨5, some 92, .p (.mv (.t 13)), none, none, [], false⟩,
⟨6, some 93, .p (.iaddr 2 (.t 91) (.t 92)), none, none, [], false⟩,
⟨7, some 94, .l (.load true 2 (.t 93)), none, none, [], false⟩,
⟨8, some 95, .cf 20 [(.t 87), (.t 94)], none, none, [], false⟩,
⟨9, some 96, .p (.not (.t 95)), none, none, [], false⟩]
def f6r12 : List SOper := [
⟨0, some 6, .p (.mv (.c (.one (.bool false)))), none, none, [], false⟩]
def f6r13 : List SOper := [
⟨0, some 85, .p (.mv (.t 13)), none, none, [], false⟩,
⟨1, some 86, .p (.bin .add (.t 85) (.c (.one (.int .i64 1)))), none, none, [], false⟩,
⟨2, some 13, .p (.mv (.t 86)), none, none, [], false⟩]
def f6b0 : SC := (.seq (.seq (.ops f6r10 0) (.cond (.t 84) .skip (.exit 2))) (.seq (.block 3 (.seq (.ops f6r11 0) (.cond (.t 96) (.seq (.ops f6r12 0) .ret) .skip))) (.ops f6r13 0)))
def f6r14 : List SOper := [
⟨0, some 14, .p (.mv (.c (.one (.int .i64 0)))), none, none, [], false⟩]
def f6r15 : List SOper := [
⟨0, some 97, .p (.mv (.t 14)), none, none, [], false⟩,
⟨1, some 98, .p (.mv (.t 12)), none, none, [], false⟩,
⟨2, some 99, .p (.bin .lss (.t 97) (.t 98)), none, none, [], false⟩]
def f6r16 : List SOper := [
⟨0, some 102, .p (.mv (.t 11)), none, none, [], false⟩,
⟨1, some 103, .p (.mv (.t 12)), none, none, [], false⟩,
⟨2, some 104, .p (.iaddr 1 (.t 102) (.t 103)), none, none, [], false⟩,
⟨3, some 105, .l (.load false 1 (.t 104)), none, none, [], false⟩,
⟨4, some 106, .p (.mv (.t 11)), none, none, [], false⟩,
⟨5, some 107, .p (.mv (.t 14)), none, none, [], false⟩,
⟨6, some 108, .p (.iaddr 1 (.t 106) (.t 107)), none, none, [], false⟩,
⟨7, some 109, .l (.load false 1 (.t 108)), none, none, [], false⟩,
⟨9, some 111, .p (.mv (.t 9)), none, none, [], false⟩,
⟨8, some 110, .cf 24 [(.t 105), (.t 109)], none, none, [], false⟩,
⟨10, some 112, .p (.bin .leq (.t 110) (.t 111)), none, none, [], false⟩,
⟨11, some 113, .p (.mv (.t 112)), none, none, [], false⟩,
⟨12, some 114, .p (.mv (.t 9)), (some (113, true)), none, [], false⟩,
⟨13, some 115, .p (.bin .gtr (.t 114) (.c (.one (.int .i64 0)))), (some (113, true)), none, [], false⟩,
⟨14, some 116, .p (.pick (.t 113) (.t 115) (.c (.one (.bool false)))), none, none, [], false⟩,
⟨15, some 117, .p (.mv (.t 116)), none, none, [], false⟩,
⟨16, some 118, .p (.mv (.t 11)), (some (117, false)), none, [], false⟩,
⟨17, some 119, .p (.mv (.t 12)), (some (117, false)), none, [], false⟩,
⟨18, some 120, .p (.iaddr 1 (.t 118) (.t 119)), (some (117, false)), none, [], false⟩,
⟨19, some 121, .l (.load false 1 (.t 120)), (some (117, false)), none, [], false⟩,
⟨20, some 122, .p (.mv (.t 11)), (some (117, false)), none, [], false⟩,
⟨21, some 123, .p (.mv (.t 14)), (some (117, false)), none, [], false⟩,
⟨22, some 124, .p (.iaddr 1 (.t 122) (.t 123)), (some (117, false)), none, [], false⟩,
⟨23, some 125, .l (.load false 1 (.t 124)), (some (117, false)), none, [], false⟩,
⟨24, some 126, .cf 24 [(.t 121), (.t 125)], (some (117, false)), none, [], false⟩,
⟨25, some 127, .p (.bin .eql (.t 126) (.c (.one (.int .i64 0)))), (some (117, false)), none, [], false⟩,
⟨26, some 128, .p (.pick (.t 117) (.c (.one (.bool true))) (.t 127)), none, none, [], false⟩]
def f6r17 : List SOper := [
⟨0, some 6, .p (.mv (.c (.one (.bool false)))), none, none, [], false⟩]
def f6r18 : List SOper := [
⟨0, some 100, .p (.mv (.t 14)), none, none, [], false⟩,
⟨1, some 101, .p (.bin .add (.t 100) (.c (.one (.int .i64 1)))), none, none, [], false⟩,
⟨2, some 14, .p (.mv (.t 101)), none, none, [], false⟩]
def f6b1 : SC := (.seq (.seq (.ops f6r15 0) (.cond (.t 99) .skip (.exit 4))) (.seq (.block 5 (.seq (.ops f6r16 27) (.cond (.t 128) (.seq (.ops f6r17 0) .ret) .skip))) (.ops f6r18 0)))
def f6r19 : List SOper := [
⟨0, some 129, .p (.mv (.t 2)), none, none, [], false⟩,
⟨1, some 130, .p (.conv .i64 (.t 129)), none, none, [], false⟩,
⟨2, some 131, .p (.mv (.t 11)), none, none, [], false⟩,
⟨3, some 132, .p (.mv (.t 12)), none, none, [], false⟩,
⟨4, some 133, .p (.iaddr 1 (.t 131) (.t 132)), none, none, [], false⟩,
⟨5, some 134, .l (.load false 1 (.t 133)), none, none, [], false⟩,
⟨6, some 135, .p (.len (.t 134)), none, none, [], false⟩,
⟨7, some 136, .p (.bin .rem (.t 130) (.t 135)), none, none, [], false⟩,
⟨8, some 137, .p (.bin .add (.c (.one (.int .i64 1))) (.t 136)), none, none, [], false⟩,
⟨9, some 15, .p (.mv (.t 137)), none, none, [], false⟩]
def f6r20 : List SOper := [
⟨0, some 138, .p (.mv (.t 15)), none, none, [], false⟩,
⟨1, some 139, .p (.mv (.t 11)), none, none, [], false⟩,
⟨2, some 140, .p (.mv (.t 12)), none, none, [], false⟩,
⟨3, some 141, .p (.iaddr 1 (.t 139) (.t 140)), none, none, [], false⟩,
⟨4, some 142, .l (.load false 1 (.t 141)), none, none, [], false⟩,
⟨5, some 143, .p (.len (.t 142)), none, none, [], false⟩,
⟨6, some 144, .p (.bin .lss (.t 138) (.t 143)), none, none, [], false⟩,
⟨7, some 145, .p (.mv (.t 144)), none, none, [], false⟩,
⟨8, some 146, .p (.mv (.t 11)), (some (145, true)), none, [], false⟩,
⟨9, some 147, .p (.mv (.t 12)), (some (145, true)), none, [], false⟩,
⟨10, some 148, .p (.iaddr 1 (.t 146) (.t 147)), (some (145, true)), none, [], false⟩,
⟨11, some 149, .l (.load false 1 (.t 148)), (some (145, true)), none, [], false⟩,
⟨12, some 150, .p (.mv (.t 9)), (some (145, true)), none, [], false⟩,
⟨13, some 151, .cf 25 [(.t 149), (.t 150)], (some (145, true)), none, [], false⟩,
⟨14, some 152, .p (.len (.t 151)), (some (145, true)), none, [], false⟩,
⟨15, some 153, .p (.bin .neq (.t 152) (.c (.one (.int .i64 1)))), (some (145, true)), none, [], false⟩,
⟨16, some 154, .p (.pick (.t 145) (.t 153) (.c (.one (.bool false)))), none, none, [], false⟩]
def f6r21 : List SOper := [
⟨0, some 6, .p (.mv (.c (.one (.bool false)))), none, none, [], false⟩]
def f6r22 : List SOper := [
⟨0, some 29, .p (.mv (.t 12)), none, none, [], false⟩,
⟨1, some 30, .p (.bin .add (.t 29) (.c (.one (.int .i64 1)))), none, none, [], false⟩,
⟨2, some 12, .p (.mv (.t 30)), none, none, [], false⟩]
def f6b2 : SC := (.seq (.seq (.ops f6r5 0) (.cond (.t 28) .skip (.exit 0))) (.seq (.block 1 (.seq (.ops f6r6 0) (.seq (.seq (.ops f6r7 40) (.cond (.t 77) (.seq (.ops f6r8 0) .ret) .skip)) (.seq (.seq (.ops f6r9 0) (.block 2 (.loop f6b0))) (.seq (.seq (.ops f6r14 0) (.block 4 (.loop f6b1))) (.seq (.ops f6r19 0) (.seq (.ops f6r20 0) (.cond (.t 154) (.seq (.ops f6r21 0) .ret) .skip)))))))) (.ops f6r22 0)))
def f6r23 : List SOper := [
⟨0, some 155, .p (.mv (.t 10)), none, none, [], false⟩,
⟨1, some 156, .p (.mv (.t 8)), none, none, [], false⟩,
⟨2, some 157, .cf 22 [(.t 156)], none, none, [], false⟩,
⟨3, some 158, .p (.len (.t 157)), none, none, [], false⟩,
⟨4, some 159, .p (.bin .eql (.t 155) (.t 158)), none, none, [], false⟩,
⟨5, some 160, .p (.mv (.t 159)), none, none, [], false⟩,
⟨6, some 161, .p (.mv (.t 8)), (some (160, true)), none, [], false⟩,
⟨7, some 162, .p (.mv (.t 9)), (some (160, true)), none, [], false⟩,
⟨8, some 163, .p (.bin .add (.t 162) (.c (.one (.int .i64 1)))), (some (160, true)), none, [], false⟩,
⟨9, some 164, .cf 21 [(.t 161), (.t 163)], (some (160, true)), none, [], false⟩,
⟨10, some 165, .p (.len (.t 164)), (some (160, true)), none, [], false⟩,
⟨11, some 166, .p (.mv (.t 11)), (some (160, true)), none, [], false⟩,
⟨12, some 167, .p (.len (.t 166)), (some (160, true)), none, [], false⟩,
⟨13, some 168, .p (.bin .leq (.t 165) (.t 167)), (some (160, true)), none, [], false⟩,
⟨14, some 169, .p (.pick (.t 160) (.t 168) (.c (.one (.bool false)))), none, none, [], false⟩,
⟨15, some 170, .p (.mv (.t 169)), none, none, [], false⟩,
⟨16, some 171, .p (.mv (.t 7)), (some (170, true)), none, [], false⟩,
⟨17, some 172, .p (.pick (.t 170) (.t 171) (.c (.one (.bool false)))), none, none, [], false⟩,
⟨18, some 6, .p (.mv (.t 172)), none, none, [], false⟩]
def f6c : SC := (.seq (.ops f6r0 0) (.seq (.ops f6r1 0) (.seq (.ops f6r2 0) (.seq (.ops f6r3 0) (.seq (.seq (.ops f6r4 0) (.block 0 (.loop f6b2))) (.seq (.ops f6r23 0) .ret))))))
def f6 : SFn := ⟨173, f6c, [.t 6]⟩

/- sixdot/sixdotlaw12.GridMatchesReference -/
def f8r0 : List SOper := [
⟨0, some 3, .a (.box (.t 0)), none, none, [], false⟩,
⟨1, some 6, .p (.mv (.c (.one (.bool false)))), none, none, [], false⟩]
def f8r1 : List SOper := [
⟨0, some 12, .cf 10 [], none, none, [], false⟩,
⟨1, some 7, .p (.mv (.t 12)), none, none, [], false⟩]
def f8r2 : List SOper := [
⟨0, some 13, .p (.aaddr 2 1 (.t 3) (.c (.one (.int .i64 0)))), none, none, [], false⟩,
⟨1, some 14, .l (.load false 1 (.t 13)), none, none, [], false⟩,
⟨2, some 15, .p (.aaddr 2 1 (.t 3) (.c (.one (.int .i64 1)))), none, none, [], false⟩,
⟨3, some 16, .l (.load false 1 (.t 15)), none, none, [], false⟩,
⟨4, some 17, .p (.mv (.t 1)), none, none, [], false⟩,
⟨5, some 18, .p (.mv (.t 1)), none, none, [], false⟩,
⟨6, some 19, .p (.len (.t 18)), none, none, [], false⟩,
⟨7, some 20, .p (.bin .quo (.t 19) (.c (.one (.int .i64 2)))), none, none, [], false⟩,
⟨8, some 21, .p (.slice 2 (.t 17) none (some (.t 20)) none), none, none, [], false⟩,
⟨10, some 23, .p (.mv (.t 1)), none, none, [], false⟩,
⟨11, some 24, .p (.mv (.t 1)), none, none, [], false⟩,
⟨12, some 25, .p (.len (.t 24)), none, none, [], false⟩,
⟨13, some 26, .p (.bin .quo (.t 25) (.c (.one (.int .i64 2)))), none, none, [], false⟩,
⟨14, some 27, .p (.slice 2 (.t 23) (some (.t 26)) none none), none, none, [], false⟩,
⟨9, some 22, .cf 30 [(.t 14), (.t 16), (.t 21)], none, none, [], false⟩,
⟨15, some 28, .cf 18 [(.t 27), (.c (.one (.int .i64 12)))], none, none, [], false⟩,
⟨16, some 8, .a (.alloc [(.int .i64 0), (.int .i64 0), .nils]), none, (some 16), [], false⟩,
⟨17, none, .e (.store 3 (.t 8) (.t 22)), none, none, [], false⟩,
⟨18, some 9, .p (.mv (.t 28)), none, none, [], false⟩]
def f8r3 : List SOper := [
⟨0, some 29, .p (.mv (.t 1)), none, none, [], false⟩,
⟨1, some 30, .cf 18 [(.t 29), (.c (.one (.int .i64 12)))], none, none, [], false⟩,
⟨2, some 10, .p (.mv (.t 30)), none, none, [], false⟩]
def f8r4 : List SOper := [
⟨0, some 31, .p (.mv (.t 2)), none, none, [], false⟩,
⟨1, some 32, .p (.conv .i64 (.t 31)), none, none, [], false⟩,
⟨2, some 33, .p (.aaddr 2 1 (.t 3) (.c (.one (.int .i64 0)))), none, none, [], false⟩,
⟨3, some 34, .l (.load false 1 (.t 33)), none, none, [], false⟩,
⟨4, some 35, .p (.conv .i64 (.t 34)), none, none, [], false⟩,
⟨6, some 37, .p (.mv (.t 2)), none, none, [], false⟩,
⟨7, some 38, .p (.conv .i64 (.t 37)), none, none, [], false⟩,
⟨8, some 39, .p (.aaddr 2 1 (.t 3) (.c (.one (.int .i64 0)))), none, none, [], false⟩,
⟨9, some 40, .l (.load false 1 (.t 39)), none, none, [], true⟩,
⟨10, some 41, .p (.conv .i64 (.t 40)), none, none, [], false⟩,
⟨5, some 36, .cf 31 [(.t 32), (.t 35)], none, none, [9], false⟩,
⟨11, some 42, .cf 11 [(.t 38), (.t 41)], none, none, [], false⟩,
⟨12, some 43, .cf 28 [(.t 36), (.t 42)], none, none, [], false⟩,
⟨13, some 44, .p (.mv (.t 43)), none, none, [], false⟩,
⟨14, some 45, .l (.load true 3 (.t 8)), (some (44, true)), none, [], false⟩,
⟨15, some 46, .p (.mv (.t 9)), (some (44, true)), none, [], false⟩,
⟨17, some 48, .l (.load true 3 (.t 8)), (some (44, true)), none, [], true⟩,
⟨18, some 49, .p (.mv (.t 9)), (some (44, true)), none, [], false⟩,
⟨16, some 47, .cf 32 [(.t 45), (.t 46)], (some (44, true)), none, [17], false⟩,
⟨19, some 50, .cf 33 [(.t 48), (.t 49)], (some (44, true)), none, [], false⟩,
⟨20, some 51, .cf 28 [(.t 47), (.t 50)], (some (44, true)), none, [], false⟩,
⟨21, some 52, .p (.pick (.t 44) (.t 51) (.c (.one (.bool false)))), none, none, [], false⟩,
⟨22, some 53, .p (.mv (.t 52)), none, none, [], false⟩,
⟨23, some 54, .l (.load true 3 (.t 8)), (some (53, true)), none, [], false⟩,
⟨25, some 56, .l (.load true 3 (.t 8)), (some (53, true)), none, [], true⟩,
⟨24, some 55, .cf 34 [(.t 54)], (some (53, true)), none, [25], false⟩,
⟨26, some 57, .cf 35 [(.t 56)], (some (53, true)), none, [], false⟩,
⟨27, some 58, .cf 16 [(.t 55), (.t 57)], (some (53, true)), none, [], false⟩,
⟨28, some 59, .p (.pick (.t 53) (.t 58) (.c (.one (.bool false)))), none, none, [], false⟩,
⟨29, some 11, .p (.mv (.t 59)), none, none, [], false⟩]
def f8r5 : List SOper := [
⟨0, some 60, .p (.mv (.t 11)), none, none, [], false⟩,
⟨1, some 61, .p (.mv (.t 60)), none, none, [], false⟩,
⟨2, some 62, .l (.load true 3 (.t 8)), (some (61, true)), none, [], true⟩,
⟨3, some 63, .p (.aaddr 2 1 (.t 3) (.c (.one (.int .i64 0)))), (some (61, true)), none, [], false⟩,
⟨4, some 64, .l (.load false 1 (.t 63)), (some (61, true)), none, [], false⟩,
⟨5, some 65, .p (.aaddr 2 1 (.t 3) (.c (.one (.int .i64 1)))), (some (61, true)), none, [], false⟩,
⟨6, some 66, .l (.load false 1 (.t 65)), (some (61, true)), none, [], false⟩,
⟨7, some 67, .p (.mv (.t 1)), (some (61, true)), none, [], false⟩,
⟨8, some 68, .p (.mv (.t 1)), (some (61, true)), none, [], false⟩,
⟨9, some 69, .p (.len (.t 68)), (some (61, true)), none, [], false⟩,
⟨10, some 70, .p (.bin .quo (.t 69) (.c (.one (.int .i64 2)))), (some (61, true)), none, [], false⟩,
⟨11, some 71, .p (.slice 2 (.t 67) none (some (.t 70)) none), (some (61, true)), none, [], false⟩,
⟨12, some 72, .cf 30 [(.t 64), (.t 66), (.t 71)], (some (61, true)), none, [2], false⟩,
⟨13, some 73, .cf 28 [(.t 62), (.t 72)], (some (61, true)), none, [], false⟩,
⟨14, some 74, .p (.pick (.t 61) (.t 73) (.c (.one (.bool false)))), none, none, [], false⟩,
⟨15, some 75, .p (.mv (.t 74)), none, none, [], false⟩,
⟨16, some 76, .p (.mv (.t 9)), (some (75, true)), none, [], false⟩,
⟨17, some 77, .p (.mv (.t 10)), (some (75, true)), none, [], false⟩,
⟨19, some 79, .p (.mv (.t 9)), (some (75, true)), none, [], false⟩,
⟨20, some 80, .p (.mv (.t 10)), (some (75, true)), none, [], false⟩,
⟨18, some 78, .cf 19 [(.t 76), (.t 77)], (some (75, true)), none, [], false⟩,
⟨21, some 81, .cf 24 [(.t 79), (.t 80)], (some (75, true)), none, [], false⟩,
⟨22, some 82, .p (.bin .eql (.t 78) (.t 81)), (some (75, true)), none, [], false⟩,
⟨23, some 83, .p (.pick (.t 75) (.t 82) (.c (.one (.bool false)))), none, none, [], false⟩,
⟨24, some 84, .p (.mv (.t 83)), none, none, [], false⟩,
⟨25, some 85, .p (.mv (.t 10)), (some (84, true)), none, [], false⟩,
⟨26, some 86, .p (.mv (.t 2)), (some (84, true)), none, [], false⟩,
⟨27, some 87, .p (.conv .i64 (.t 86)), (some (84, true)), none, [], false⟩,
⟨28, some 88, .p (.bin .rem (.t 87) (.c (.one (.int .i64 6)))), (some (84, true)), none, [], false⟩,
⟨30, some 90, .p (.mv (.t 10)), (some (84, true)), none, [], false⟩,
⟨31, some 91, .p (.mv (.t 2)), (some (84, true)), none, [], false⟩,
⟨32, some 92, .p (.conv .i64 (.t 91)), (some (84, true)), none, [], false⟩,
⟨33, some 93, .p (.bin .rem (.t 92) (.c (.one (.int .i64 6)))), (some (84, true)), none, [], false⟩,
⟨29, some 89, .cf 21 [(.t 85), (.t 88)], (some (84, true)), none, [], false⟩,
⟨34, some 94, .cf 25 [(.t 90), (.t 93)], (some (84, true)), none, [], false⟩,
⟨35, some 95, .cf 36 [(.t 89), (.t 94)], (some (84, true)), none, [], false⟩,
⟨36, some 96, .p (.pick (.t 84) (.t 95) (.c (.one (.bool false)))), none, none, [], false⟩,
⟨37, some 97, .p (.mv (.t 96)), none, none, [], false⟩,
⟨38, some 98, .p (.mv (.t 7)), (some (97, true)), none, [], false⟩,
⟨39, some 99, .p (.pick (.t 97) (.t 98) (.c (.one (.bool false)))), none, none, [], false⟩,
⟨40, some 6, .p (.mv (.t 99)), none, none, [], false⟩]
def f8c : SC := (.seq (.ops f8r0 0) (.seq (.ops f8r1 0) (.seq (.ops f8r2 19) (.seq (.ops f8r3 0) (.seq (.ops f8r4 30) (.seq (.ops f8r5 41) .ret))))))
def f8 : SFn := ⟨100, f8c, [.t 6]⟩

/- sixdot/sixdotlaw12.sanity -/
def f10r0 : List SOper := [
⟨0, some 0, .p (.mv (.c (.one (.bool false)))), none, none, [], false⟩]
def f10r1 : List SOper := [
⟨0, some 14, .p (.build [(.int .i64 0), (.int .i64 0)] []), none, none, [], false⟩,
⟨1, some 15, .p (.build [(.int .i64 0), (.int .i64 0)] [(0, 1, (.c (.one (.int .i64 3)))), (1, 1, (.c (.one (.int .i64 1))))]), none, none, [], false⟩,
⟨2, some 1, .a (.alloc [(.int .i64 0), (.int .i64 0)]), none, none, [], false⟩,
⟨3, some 2, .a (.alloc [(.int .i64 0), (.int .i64 0)]), none, none, [], false⟩,
⟨4, none, .e (.store 2 (.t 1) (.t 14)), none, none, [], false⟩,
⟨5, none, .e (.store 2 (.t 2) (.t 15)), none, none, [], false⟩]
def f10r2 : List SOper := [
⟨0, some 16, .l (.load true 2 (.t 1)), none, none, [], false⟩,
⟨1, some 17, .l (.load true 2 (.t 2)), none, none, [], false⟩,
⟨2, some 18, .cf 14 [(.t 16), (.t 17)], none, none, [], false⟩,
⟨3, some 19, .a (.bslice 1 8 [(.int .i64 0)] [(0, 1, (.c (.one (.int .i64 0)))), (1, 1, (.c (.one (.int .i64 0)))), (2, 1, (.c (.one (.int .i64 1)))), (3, 1, (.c (.one (.int .i64 0)))), (4, 1, (.c (.one (.int .i64 2)))), (5, 1, (.c (.one (.int .i64 1)))), (6, 1, (.c (.one (.int .i64 3)))), (7, 1, (.c (.one (.int .i64 1))))]), none, none, [], false⟩,
⟨4, some 20, .cf 38 [(.t 19)], none, none, [], false⟩,
⟨5, some 21, .cf 16 [(.t 18), (.t 20)], none, none, [], false⟩,
⟨6, some 22, .p (.mv (.t 21)), none, none, [], false⟩,
⟨7, some 23, .l (.load true 2 (.t 2)), (some (22, true)), none, [], false⟩,
⟨8, some 24, .l (.load true 2 (.t 1)), (some (22, true)), none, [], false⟩,
⟨9, some 25, .cf 14 [(.t 23), (.t 24)], (some (22, true)), none, [], false⟩,
⟨10, some 26, .a (.bslice 1 8 [(.int .i64 0)] [(0, 1, (.c (.one (.int .i64 3)))), (1, 1, (.c (.one (.int .i64 1)))), (2, 1, (.c (.one (.int .i64 2)))), (3, 1, (.c (.one (.int .i64 1)))), (4, 1, (.c (.one (.int .i64 1)))), (5, 1, (.c (.one (.int .i64 0)))), (6, 1, (.c (.one (.int .i64 0)))), (7, 1, (.c (.one (.int .i64 0))))]), (some (22, true)), none, [], false⟩,
⟨11, some 27, .cf 38 [(.t 26)], (some (22, true)), none, [], false⟩,
⟨12, some 28, .cf 16 [(.t 25), (.t 27)], (some (22, true)), none, [], false⟩,
⟨13, some 29, .p (.pick (.t 22) (.t 28) (.c (.one (.bool false)))), none, none, [], false⟩,
⟨14, some 30, .p (.mv (.t 29)), none, none, [], false⟩,
⟨15, some 31, .l (.load true 2 (.t 1)), (some (30, true)), none, [], false⟩,
⟨16, some 32, .p (.build [(.int .i64 0), (.int .i64 0)] [(0, 1, (.c (.one (.int .i64 2)))), (1, 1, (.c (.one (.int .i64 1))))]), (some (30, true)), none, [], false⟩,
⟨17, some 33, .cf 14 [(.t 31), (.t 32)], (some (30, true)), none, [], false⟩,
⟨18, some 34, .a (.bslice 1 6 [(.int .i64 0)] [(0, 1, (.c (.one (.int .i64 0)))), (1, 1, (.c (.one (.int .i64 0)))), (2, 1, (.c (.one (.int .i64 1)))), (3, 1, (.c (.one (.int .i64 1)))), (4, 1, (.c (.one (.int .i64 2)))), (5, 1, (.c (.one (.int .i64 1))))]), (some (30, true)), none, [], false⟩,
⟨19, some 35, .cf 38 [(.t 34)], (some (30, true)), none, [], false⟩,
⟨20, some 36, .cf 16 [(.t 33), (.t 35)], (some (30, true)), none, [], false⟩,
⟨21, some 37, .p (.pick (.t 30) (.t 36) (.c (.one (.bool false)))), none, none, [], false⟩,
⟨22, some 38, .p (.mv (.t 37)), none, none, [], false⟩,
⟨23, some 39, .l (.load true 2 (.t 2)), (some (38, true)), none, [], false⟩,
⟨24, some 40, .l (.load true 2 (.t 2)), (some (38, true)), none, [], false⟩,
⟨25, some 41, .cf 14 [(.t 39), (.t 40)], (some (38, true)), none, [], false⟩,
⟨26, some 42, .a (.bslice 1 2 [(.int .i64 0)] [(0, 1, (.c (.one (.int .i64 3)))), (1, 1, (.c (.one (.int .i64 1))))]), (some (38, true)), none, [], false⟩,
⟨27, some 43, .cf 38 [(.t 42)], (some (38, true)), none, [], false⟩,
⟨28, some 44, .cf 16 [(.t 41), (.t 43)], (some (38, true)), none, [], false⟩,
⟨29, some 45, .p (.pick (.t 38) (.t 44) (.c (.one (.bool false)))), none, none, [], false⟩,
⟨30, some 3, .p (.mv (.t 45)), none, none, [], false⟩]
def f10r3 : List SOper := [
⟨0, some 47, .cf 11 [(.c (.one (.int .i64 2))), (.c (.one (.int .i64 3)))], none, none, [], false⟩,
⟨1, some 48, .a (.bslice 1 4 [(.int .i64 0)] [(0, 1, (.c (.one (.int .i64 0)))), (1, 1, (.c (.one (.int .i64 0)))), (2, 1, (.c (.one (.int .i64 1)))), (3, 1, (.c (.one (.int .i64 2))))]), none, none, [], false⟩,
⟨2, some 49, .cf 38 [(.t 48)], none, none, [], false⟩,
⟨3, some 50, .cf 33 [(.t 47), (.t 49)], none, none, [], false⟩,
⟨4, some 51, .cf 29 [(.t 50)], none, none, [], false⟩,
⟨5, some 46, .p (.mv (.t 51)), none, none, [], false⟩,
⟨6, some 52, .p (.extract (.t 46) 0), none, none, [], false⟩,
⟨7, some 53, .p (.extract (.t 46) 1), none, none, [], false⟩,
⟨8, some 4, .p (.mv (.t 52)), none, none, [], false⟩,
⟨9, some 5, .p (.mv (.t 53)), none, none, [], false⟩]
def f10r4 : List SOper := [
⟨0, some 55, .cf 11 [(.c (.one (.int .i64 3))), (.c (.one (.int .i64 3)))], none, none, [], false⟩,
⟨1, some 56, .cf 29 [(.t 55)], none, none, [], false⟩,
⟨2, some 54, .p (.mv (.t 56)), none, none, [], false⟩,
⟨3, some 57, .p (.extract (.t 54) 0), none, none, [], false⟩,
⟨4, some 58, .p (.extract (.t 54) 1), none, none, [], false⟩,
⟨5, some 6, .p (.mv (.t 57)), none, none, [], false⟩,
⟨6, some 7, .p (.mv (.t 58)), none, none, [], false⟩]
def f10r5 : List SOper := [
⟨0, some 60, .a (.bslice 1 1 [(.int .u8 0)] [(0, 1, (.c (.one (.int .u8 64))))]), none, none, [], false⟩,
⟨1, some 61, .a (.bslice 1 1 [.nils] [(0, 1, (.t 60))]), none, none, [], false⟩,
⟨2, some 62, .cf 26 [(.t 61), (.c (.one (.int .i64 2))), (.c (.one (.int .i64 3)))], none, none, [], false⟩,
⟨3, some 59, .p (.mv (.t 62)), none, none, [], false⟩,
⟨4, some 63, .p (.extract (.t 59) 0), none, none, [], false⟩,
⟨5, some 64, .p (.extract (.t 59) 1), none, none, [], false⟩,
⟨6, some 8, .a (.alloc [(.int .i64 0), (.int .i64 0), .nils]), none, none, [], false⟩,
⟨7, none, .e (.store 3 (.t 8) (.t 63)), none, none, [], false⟩,
⟨8, some 9, .p (.mv (.t 64)), none, none, [], false⟩]
def f10r6 : List SOper := [
⟨0, some 66, .a (.bslice 1 1 [(.int .u8 0)] [(0, 1, (.c (.one (.int .u8 33))))]), none, none, [], false⟩,
⟨1, some 67, .a (.bslice 1 1 [.nils] [(0, 1, (.t 66))]), none, none, [], false⟩,
⟨2, some 68, .cf 26 [(.t 67), (.c (.one (.int .i64 2))), (.c (.one (.int .i64 3)))], none, none, [], false⟩,
⟨3, some 65, .p (.mv (.t 68)), none, none, [], false⟩,
⟨4, some 69, .p (.extract (.t 65) 0), none, none, [], false⟩,
⟨5, some 70, .p (.extract (.t 65) 1), none, none, [], false⟩,
⟨6, some 10, .a (.alloc [(.int .i64 0), (.int .i64 0), .nils]), none, none, [], false⟩,
⟨7, none, .e (.store 3 (.t 10) (.t 69)), none, none, [], false⟩,
⟨8, some 11, .p (.mv (.t 70)), none, none, [], false⟩]
def f10r7 : List SOper := [
⟨0, some 71, .p (.mv (.t 5)), none, none, [], false⟩,
⟨1, some 72, .p (.bin .eql (.t 71) (.c (.one (.int .i64 0)))), none, none, [], false⟩,
⟨2, some 73, .p (.mv (.t 72)), none, none, [], false⟩,
⟨3, some 74, .p (.mv (.t 4)), (some (73, true)), none, [], false⟩,
⟨4, some 75, .a (.bslice 1 1 [(.int .u8 0)] [(0, 1, (.c (.one (.int .u8 33))))]), (some (73, true)), (some 4), [], false⟩,
⟨5, some 76, .a (.bslice 1 1 [.nils] [(0, 1, (.t 75))]), (some (73, true)), (some 5), [], false⟩,
⟨6, some 77, .cf 39 [(.t 74), (.t 76)], (some (73, true)), none, [], false⟩,
⟨7, some 78, .p (.pick (.t 73) (.t 77) (.c (.one (.bool false)))), none, none, [], false⟩,
⟨8, some 79, .p (.mv (.t 78)), none, none, [], false⟩,
⟨9, some 80, .p (.mv (.t 7)), (some (79, true)), none, [], false⟩,
⟨10, some 81, .p (.bin .eql (.t 80) (.c (.one (.int .i64 1)))), (some (79, true)), none, [], false⟩,
⟨11, some 82, .p (.pick (.t 79) (.t 81) (.c (.one (.bool false)))), none, none, [], false⟩,
⟨12, some 83, .p (.mv (.t 82)), none, none, [], false⟩,
⟨13, some 84, .p (.mv (.t 9)), (some (83, true)), none, [], false⟩,
⟨14, some 85, .p (.bin .eql (.t 84) (.c (.one (.int .i64 1)))), (some (83, true)), none, [], false⟩,
⟨15, some 86, .p (.pick (.t 83) (.t 85) (.c (.one (.bool false)))), none, none, [], false⟩,
⟨16, some 87, .p (.mv (.t 86)), none, none, [], false⟩,
⟨17, some 88, .p (.mv (.t 11)), (some (87, true)), none, [], false⟩,
⟨18, some 89, .p (.bin .eql (.t 88) (.c (.one (.int .i64 0)))), (some (87, true)), none, [], false⟩,
⟨19, some 90, .p (.pick (.t 87) (.t 89) (.c (.one (.bool false)))), none, none, [], false⟩,
⟨20, some 91, .p (.mv (.t 90)), none, none, [], false⟩,
⟨21, some 92, .cf 11 [(.c (.one (.int .i64 2))), (.c (.one (.int .i64 3)))], (some (91, true)), none, [], false⟩,
⟨22, some 93, .a (.bslice 1 4 [(.int .i64 0)] [(0, 1, (.c (.one (.int .i64 0)))), (1, 1, (.c (.one (.int .i64 0)))), (2, 1, (.c (.one (.int .i64 1)))), (3, 1, (.c (.one (.int .i64 2))))]), (some (91, true)), (some 22), [], false⟩,
⟨23, some 94, .cf 38 [(.t 93)], (some (91, true)), none, [], false⟩,
⟨24, some 95, .cf 33 [(.t 92), (.t 94)], (some (91, true)), none, [], false⟩,
⟨25, some 96, .cf 35 [(.t 95)], (some (91, true)), none, [], false⟩,
⟨26, some 97, .a (.bslice 1 4 [(.int .i64 0)] [(0, 1, (.c (.one (.int .i64 0)))), (1, 1, (.c (.one (.int .i64 0)))), (2, 1, (.c (.one (.int .i64 1)))), (3, 1, (.c (.one (.int .i64 2))))]), (some (91, true)), (some 26), [], false⟩,
⟨27, some 98, .cf 38 [(.t 97)], (some (91, true)), none, [], false⟩,
⟨28, some 99, .cf 16 [(.t 96), (.t 98)], (some (91, true)), none, [], false⟩,
⟨29, some 100, .p (.pick (.t 91) (.t 99) (.c (.one (.bool false)))), none, none, [], false⟩,
⟨30, some 101, .p (.mv (.t 100)), none, none, [], false⟩,
⟨31, some 102, .l (.load true 3 (.t 10)), (some (101, true)), none, [], true⟩,
⟨32, some 103, .cf 11 [(.c (.one (.int .i64 2))), (.c (.one (.int .i64 3)))], (some (101, true)), none, [31], false⟩,
⟨33, some 104, .a (.bslice 1 4 [(.int .i64 0)] [(0, 1, (.c (.one (.int .i64 0)))), (1, 1, (.c (.one (.int .i64 0)))), (2, 1, (.c (.one (.int .i64 1)))), (3, 1, (.c (.one (.int .i64 2))))]), (some (101, true)), (some 33), [], false⟩,
⟨34, some 105, .cf 38 [(.t 104)], (some (101, true)), none, [31], false⟩,
⟨35, some 106, .cf 33 [(.t 103), (.t 105)], (some (101, true)), none, [31], false⟩,
⟨36, some 107, .cf 28 [(.t 102), (.t 106)], (some (101, true)), none, [], false⟩,
⟨37, some 108, .p (.pick (.t 101) (.t 107) (.c (.one (.bool false)))), none, none, [], false⟩,
⟨38, some 12, .p (.mv (.t 108)), none, none, [], false⟩]
def f10r8 : List SOper := [
⟨0, some 109, .a (.bslice 1 6 [(.int .i64 0)] [(0, 1, (.c (.one (.int .i64 0)))), (1, 1, (.c (.one (.int .i64 0)))), (2, 1, (.c (.one (.int .i64 4)))), (3, 1, (.c (.one (.int .i64 0)))), (4, 1, (.c (.one (.int .i64 2)))), (5, 1, (.c (.one (.int .i64 0))))]), none, none, [], false⟩,
⟨1, some 110, .cf 38 [(.t 109)], none, none, [], false⟩,
⟨2, some 13, .p (.mv (.t 110)), none, none, [], false⟩]
def f10r9 : List SOper := [
⟨0, some 111, .p (.mv (.t 3)), none, none, [], false⟩,
⟨1, some 112, .p (.mv (.t 111)), none, none, [], false⟩,
⟨2, some 113, .p (.mv (.t 12)), (some (112, true)), none, [], false⟩,
⟨3, some 114, .p (.pick (.t 112) (.t 113) (.c (.one (.bool false)))), none, none, [], false⟩,
⟨4, some 115, .p (.mv (.t 114)), none, none, [], false⟩,
⟨5, some 116, .a (.bslice 1 2 [(.int .i64 0)] [(0, 1, (.c (.one (.int .i64 0)))), (1, 1, (.c (.one (.int .i64 0))))]), (some (115, true)), none, [], false⟩,
⟨6, some 117, .cf 38 [(.t 116)], (some (115, true)), none, [], false⟩,
⟨7, some 118, .a (.bslice 1 2 [(.int .i64 0)] [(0, 1, (.c (.one (.int .i64 3)))), (1, 1, (.c (.one (.int .i64 1))))]), (some (115, true)), none, [], false⟩,
⟨8, some 119, .cf 38 [(.t 118)], (some (115, true)), none, [], false⟩,
⟨9, some 120, .cf 19 [(.t 117), (.t 119)], (some (115, true)), none, [], false⟩,
⟨10, some 121, .p (.bin .eql (.t 120) (.c (.one (.int .i64 3)))), (some (115, true)), none, [], false⟩,
⟨11, some 122, .p (.pick (.t 115) (.t 121) (.c (.one (.bool false)))), none, none, [], false⟩,
⟨12, some 123, .p (.mv (.t 122)), none, none, [], false⟩,
⟨13, some 124, .p (.mv (.t 13)), (some (123, true)), none, [], false⟩,
⟨14, some 125, .cf 19 [(.c (.one .nils)), (.t 124)], (some (123, true)), none, [], false⟩,
⟨15, some 126, .p (.bin .eql (.t 125) (.c (.one (.int .i64 (-1))))), (some (123, true)), none, [], false⟩,
⟨16, some 127, .p (.pick (.t 123) (.t 126) (.c (.one (.bool false)))), none, none, [], false⟩,
⟨17, some 128, .p (.mv (.t 127)), none, none, [], false⟩,
⟨18, some 129, .p (.mv (.t 13)), (some (128, true)), none, [], false⟩,
⟨19, some 130, .cf 21 [(.t 129), (.c (.one (.int .i64 2)))], (some (128, true)), none, [], false⟩,
⟨20, some 131, .p (.len (.t 130)), (some (128, true)), none, [], false⟩,
⟨21, some 132, .p (.bin .eql (.t 131) (.c (.one (.int .i64 1)))), (some (128, true)), none, [], false⟩,
⟨22, some 133, .p (.pick (.t 128) (.t 132) (.c (.one (.bool false)))), none, none, [], false⟩,
⟨23, some 134, .p (.mv (.t 133)), none, none, [], false⟩,
⟨24, some 135, .p (.mv (.t 13)), (some (134, true)), none, [], false⟩,
⟨25, some 136, .cf 21 [(.t 135), (.c (.one (.int .i64 1)))], (some (134, true)), none, [], false⟩,
⟨26, some 137, .p (.len (.t 136)), (some (134, true)), none, [], false⟩,
⟨27, some 138, .p (.bin .eql (.t 137) (.c (.one (.int .i64 3)))), (some (134, true)), none, [], false⟩,
⟨28, some 139, .p (.pick (.t 134) (.t 138) (.c (.one (.bool false)))), none, none, [], false⟩,
⟨29, some 140, .p (.mv (.t 139)), none, none, [], false⟩,
⟨30, some 141, .cf 11 [(.c (.one (.int .i64 5))), (.c (.one (.int .i64 0)))], (some (140, true)), none, [], false⟩,
⟨31, some 142, .cf 12 [(.t 141)], (some (140, true)), none, [], false⟩,
⟨32, some 143, .p (.pick (.t 140) (.t 142) (.c (.one (.bool false)))), none, none, [], false⟩,
⟨33, some 144, .p (.mv (.t 143)), none, none, [], false⟩,
⟨34, some 145, .p (.build [(.int .i64 0), (.int .i64 0), .nils] [(0, 1, (.c (.one (.int .i64 1)))), (1, 1, (.c (.one (.int .i64 1))))]), (some (144, true)), none, [], false⟩,
⟨35, some 146, .cf 12 [(.t 145)], (some (144, true)), none, [], false⟩,
⟨36, some 147, .p (.not (.t 146)), (some (144, true)), none, [], false⟩,
⟨37, some 148, .p (.pick (.t 144) (.t 147) (.c (.one (.bool false)))), none, none, [], false⟩,
⟨38, some 0, .p (.mv (.t 148)), none, none, [], false⟩]
def f10c : SC := (.seq (.ops f10r0 0) (.seq (.ops f10r1 0) (.seq (.ops f10r2 0) (.seq (.ops f10r3 0) (.seq (.ops f10r4 0) (.seq (.ops f10r5 0) (.seq (.ops f10r6 0) (.seq (.ops f10r7 39) (.seq (.ops f10r8 0) (.seq (.ops f10r9 0) .ret))))))))))
def f10 : SFn := ⟨149, f10c, [.t 0]⟩

/- sixdot/sixdotref12.New -/
def f11r0 : List SOper := [
⟨0, some 4, .a (.alloc [(.int .i64 0), (.int .i64 0), .nils]), none, none, [], false⟩]
def f11r1 : List SOper := [
⟨0, some 7, .p (.mv (.t 0)), none, none, [], false⟩,
⟨1, some 8, .p (.mm true (.t 7) (.c (.one (.int .i64 0)))), none, none, [], false⟩,
⟨2, some 9, .p (.mm false (.t 8) (.c (.one (.int .i64 200)))), none, none, [], false⟩,
⟨3, some 10, .p (.mv (.t 1)), none, none, [], false⟩,
⟨4, some 11, .p (.mm true (.t 10) (.c (.one (.int .i64 0)))), none, none, [], false⟩,
⟨5, some 12, .p (.mm false (.t 11) (.c (.one (.int .i64 200)))), none, none, [], false⟩,
⟨6, some 13, .p (.build [(.int .i64 0), (.int .i64 0), .nils] [(0, 1, (.t 9)), (1, 1, (.t 12))]), none, none, [], false⟩,
⟨7, some 5, .a (.alloc [(.int .i64 0), (.int .i64 0), .nils]), none, none, [], false⟩,
⟨8, none, .e (.store 3 (.t 5) (.t 13)), none, none, [], false⟩]
def f11r2 : List SOper := [
⟨0, some 6, .p (.mv (.c (.one (.int .i64 0)))), none, none, [], false⟩]
def f11r3 : List SOper := [
⟨0, some 14, .p (.mv (.t 6)), none, none, [], false⟩,
⟨1, some 15, .p (.faddr 1 (.t 5)), none, none, [], false⟩,
⟨2, some 16, .l (.load false 1 (.t 15)), none, none, [], false⟩,
⟨3, some 17, .p (.bin .lss (.t 14) (.t 16)), none, none, [], false⟩]
def f11r4 : List SOper := [
⟨0, some 20, .p (.faddr 2 (.t 5)), none, none, [], false⟩,
⟨1, some 21, .l (.load false 1 (.t 20)), none, none, [], false⟩,
⟨2, some 22, .p (.faddr 0 (.t 5)), none, none, [], false⟩,
⟨3, some 23, .l (.load false 1 (.t 22)), none, none, [], false⟩,
⟨4, some 24, .a (.mkslice 1 1 [(.bool false)] (.t 23) (.t 23)), none, (some 4), [], false⟩,
⟨5, some 25, .a (.bslice 1 1 [.nils] [(0, 1, (.t 24))]), none, (some 5), [], false⟩,
⟨6, some 26, .e (.append 1 24 (.t 21) (.t 25)), none, none, [], false⟩,
⟨7, some 27, .p (.faddr 2 (.t 5)), none, none, [], false⟩,
⟨8, none, .e (.store 1 (.t 27) (.t 26)), none, none, [], false⟩]
def f11r5 : List SOper := [
⟨0, some 18, .p (.mv (.t 6)), none, none, [], false⟩,
⟨1, some 19, .p (.bin .add (.t 18) (.c (.one (.int .i64 1)))), none, none, [], false⟩,
⟨2, some 6, .p (.mv (.t 19)), none, none, [], false⟩]
def f11b0 : SC := (.seq (.seq (.ops f11r3 0) (.cond (.t 17) .skip (.exit 0))) (.seq (.block 1 (.ops f11r4 9)) (.ops f11r5 0)))
def f11r6 : List SOper := [
⟨0, some 28, .l (.load true 3 (.t 5)), none, none, [], false⟩,
⟨1, none, .e (.store 3 (.t 4) (.t 28)), none, none, [], false⟩]
def f11c : SC := (.seq (.ops f11r0 0) (.seq (.ops f11r1 0) (.seq (.seq (.ops f11r2 0) (.block 0 (.loop f11b0))) (.seq (.ops f11r6 0) .ret))))
def f11 : SFn := ⟨29, f11c, [.cell true 3 4]⟩

/- sixdot/grid.Valid -/
def f12r0 : List SOper := [
⟨0, some 1, .a (.box (.t 0)), none, none, [], false⟩,
⟨1, some 2, .p (.mv (.c (.one (.bool false)))), none, none, [], false⟩]
def f12r1 : List SOper := [
⟨0, some 5, .p (.faddr 0 (.t 1)), none, none, [], false⟩,
⟨1, some 6, .l (.load false 1 (.t 5)), none, none, [], false⟩,
⟨2, some 7, .p (.bin .lss (.t 6) (.c (.one (.int .i64 0)))), none, none, [], false⟩,
⟨3, some 8, .p (.mv (.t 7)), none, none, [], false⟩,
⟨4, some 9, .p (.faddr 0 (.t 1)), (some (8, false)), none, [], false⟩,
⟨5, some 10, .l (.load false 1 (.t 9)), (some (8, false)), none, [], false⟩,
⟨6, some 11, .p (.bin .gtr (.t 10) (.c (.one (.int .i64 200)))), (some (8, false)), none, [], false⟩,
⟨7, some 12, .p (.pick (.t 8) (.c (.one (.bool true))) (.t 11)), none, none, [], false⟩,
⟨8, some 13, .p (.mv (.t 12)), none, none, [], false⟩,
⟨9, some 14, .p (.faddr 1 (.t 1)), (some (13, false)), none, [], false⟩,
⟨10, some 15, .l (.load false 1 (.t 14)), (some (13, false)), none, [], false⟩,
⟨11, some 16, .p (.bin .lss (.t 15) (.c (.one (.int .i64 0)))), (some (13, false)), none, [], false⟩,
⟨12, some 17, .p (.pick (.t 13) (.c (.one (.bool true))) (.t 16)), none, none, [], false⟩,
⟨13, some 18, .p (.mv (.t 17)), none, none, [], false⟩,
⟨14, some 19, .p (.faddr 1 (.t 1)), (some (18, false)), none, [], false⟩,
⟨15, some 20, .l (.load false 1 (.t 19)), (some (18, false)), none, [], false⟩,
⟨16, some 21, .p (.bin .gtr (.t 20) (.c (.one (.int .i64 200)))), (some (18, false)), none, [], false⟩,
⟨17, some 22, .p (.pick (.t 18) (.c (.one (.bool true))) (.t 21)), none, none, [], false⟩,
⟨18, some 23, .p (.mv (.t 22)), none, none, [], false⟩,
⟨19, some 24, .p (.faddr 2 (.t 1)), (some (23, false)), none, [], false⟩,
⟨20, some 25, .l (.load false 1 (.t 24)), (some (23, false)), none, [], false⟩,
⟨21, some 26, .p (.len (.t 25)), (some (23, false)), none, [], false⟩,
⟨22, some 27, .p (.faddr 1 (.t 1)), (some (23, false)), none, [], false⟩,
⟨23, some 28, .l (.load false 1 (.t 27)), (some (23, false)), none, [], false⟩,
⟨24, some 29, .p (.bin .neq (.t 26) (.t 28)), (some (23, false)), none, [], false⟩,
⟨25, some 30, .p (.pick (.t 23) (.c (.one (.bool true))) (.t 29)), none, none, [], false⟩]
def f12r2 : List SOper := [
⟨0, some 2, .p (.mv (.c (.one (.bool false)))), none, none, [], false⟩]
def f12r3 : List SOper := [
⟨0, some 31, .p (.faddr 2 (.t 1)), none, none, [], false⟩,
⟨1, some 32, .l (.load false 1 (.t 31)), none, none, [], false⟩,
⟨2, some 33, .p (.len (.t 32)), none, none, [], false⟩,
⟨3, some 34, .p (.mv (.c (.one (.int .i64 0)))), none, none, [], false⟩]
def f12r4 : List SOper := [
⟨0, some 35, .p (.bin .lss (.t 34) (.t 33)), none, none, [], false⟩]
def f12r5 : List SOper := [
⟨0, some 36, .p (.iaddr 1 (.t 32) (.t 34)), none, none, [], false⟩,
⟨1, some 37, .l (.load false 1 (.t 36)), none, none, [], false⟩,
⟨2, some 4, .p (.mv (.t 37)), none, none, [], false⟩]
def f12r6 : List SOper := [
⟨0, some 38, .p (.mv (.t 4)), none, none, [], false⟩,
⟨1, some 39, .p (.len (.t 38)), none, none, [], false⟩,
⟨2, some 40, .p (.faddr 0 (.t 1)), none, none, [], false⟩,
⟨3, some 41, .l (.load false 1 (.t 40)), none, none, [], false⟩,
⟨4, some 42, .p (.bin .neq (.t 39) (.t 41)), none, none, [], false⟩]
def f12r7 : List SOper := [
⟨0, some 2, .p (.mv (.c (.one (.bool false)))), none, none, [], false⟩]
def f12r8 : List SOper := [
⟨0, some 43, .p (.bin .add (.t 34) (.c (.one (.int .i64 1)))), none, none, [], false⟩,
⟨1, some 34, .p (.mv (.t 43)), none, none, [], false⟩]
def f12b0 : SC := (.seq (.ops f12r4 0) (.seq (.cond (.t 35) .skip (.exit 0)) (.seq (.block 1 (.seq (.ops f12r5 0) (.seq (.ops f12r6 0) (.cond (.t 42) (.seq (.ops f12r7 0) .ret) .skip)))) (.ops f12r8 0))))
def f12r9 : List SOper := [
⟨0, some 2, .p (.mv (.c (.one (.bool true)))), none, none, [], false⟩]
def f12c : SC := (.seq (.ops f12r0 0) (.seq (.seq (.ops f12r1 0) (.cond (.t 30) (.seq (.ops f12r2 0) .ret) .skip)) (.seq (.seq (.ops f12r3 0) (.block 0 (.loop f12b0))) (.seq (.ops f12r9 0) .ret))))
def f12 : SFn := ⟨44, f12c, [.t 2]⟩

/- sixdot/sixdotref12.Valid -/
def f13r0 : List SOper := [
⟨0, some 1, .a (.box (.t 0)), none, none, [], false⟩,
⟨1, some 2, .p (.mv (.c (.one (.bool false)))), none, none, [], false⟩]
def f13r1 : List SOper := [
⟨0, some 4, .p (.faddr 0 (.t 1)), none, none, [], false⟩,
⟨1, some 5, .l (.load false 1 (.t 4)), none, none, [], false⟩,
⟨2, some 6, .p (.bin .lss (.t 5) (.c (.one (.int .i64 0)))), none, none, [], false⟩,
⟨3, some 7, .p (.mv (.t 6)), none, none, [], false⟩,
⟨4, some 8, .p (.faddr 0 (.t 1)), (some (7, false)), none, [], false⟩,
⟨5, some 9, .l (.load false 1 (.t 8)), (some (7, false)), none, [], false⟩,
⟨6, some 10, .p (.bin .gtr (.t 9) (.c (.one (.int .i64 200)))), (some (7, false)), none, [], false⟩,
⟨7, some 11, .p (.pick (.t 7) (.c (.one (.bool true))) (.t 10)), none, none, [], false⟩,
⟨8, some 12, .p (.mv (.t 11)), none, none, [], false⟩,
⟨9, some 13, .p (.faddr 1 (.t 1)), (some (12, false)), none, [], false⟩,
⟨10, some 14, .l (.load false 1 (.t 13)), (some (12, false)), none, [], false⟩,
⟨11, some 15, .p (.bin .lss (.t 14) (.c (.one (.int .i64 0)))), (some (12, false)), none, [], false⟩,
⟨12, some 16, .p (.pick (.t 12) (.c (.one (.bool true))) (.t 15)), none, none, [], false⟩,
⟨13, some 17, .p (.mv (.t 16)), none, none, [], false⟩,
⟨14, some 18, .p (.faddr 1 (.t 1)), (some (17, false)), none, [], false⟩,
⟨15, some 19, .l (.load false 1 (.t 18)), (some (17, false)), none, [], false⟩,
⟨16, some 20, .p (.bin .gtr (.t 19) (.c (.one (.int .i64 200)))), (some (17, false)), none, [], false⟩,
⟨17, some 21, .p (.pick (.t 17) (.c (.one (.bool true))) (.t 20)), none, none, [], false⟩,
⟨18, some 22, .p (.mv (.t 21)), none, none, [], false⟩,
⟨19, some 23, .p (.faddr 2 (.t 1)), (some (22, false)), none, [], false⟩,
⟨20, some 24, .l (.load false 1 (.t 23)), (some (22, false)), none, [], false⟩,
⟨21, some 25, .p (.len (.t 24)), (some (22, false)), none, [], false⟩,
⟨22, some 26, .p (.faddr 1 (.t 1)), (some (22, false)), none, [], false⟩,
⟨23, some 27, .l (.load false 1 (.t 26)), (some (22, false)), none, [], false⟩,
⟨24, some 28, .p (.bin .neq (.t 25) (.t 27)), (some (22, false)), none, [], false⟩,
⟨25, some 29, .p (.pick (.t 22) (.c (.one (.bool true))) (.t 28)), none, none, [], false⟩]
def f13r2 : List SOper := [
⟨0, some 2, .p (.mv (.c (.one (.bool false)))), none, none, [], false⟩]
def f13r3 : List SOper := [
⟨0, some 3, .p (.mv (.c (.one (.int .i64 0)))), none, none, [], false⟩]
def f13r4 : List SOper := [
⟨0, some 30, .p (.mv (.t 3)), none, none, [], false⟩,
⟨1, some 31, .p (.faddr 1 (.t 1)), none, none, [], false⟩,
⟨2, some 32, .l (.load false 1 (.t 31)), none, none, [], false⟩,
⟨3, some 33, .p (.bin .lss (.t 30) (.t 32)), none, none, [], false⟩]
def f13r5 : List SOper := [
⟨0, some 36, .p (.faddr 2 (.t 1)), none, none, [], false⟩,
⟨1, some 37, .l (.load false 1 (.t 36)), none, none, [], false⟩,
⟨2, some 38, .p (.mv (.t 3)), none, none, [], false⟩,
⟨3, some 39, .p (.iaddr 1 (.t 37) (.t 38)), none, none, [], false⟩,
⟨4, some 40, .l (.load false 1 (.t 39)), none, none, [], false⟩,
⟨5, some 41, .p (.len (.t 40)), none, none, [], false⟩,
⟨6, some 42, .p (.faddr 0 (.t 1)), none, none, [], false⟩,
⟨7, some 43, .l (.load false 1 (.t 42)), none, none, [], false⟩,
⟨8, some 44, .p (.bin .neq (.t 41) (.t 43)), none, none, [], false⟩]
def f13r6 : List SOper := [
⟨0, some 2, .p (.mv (.c (.one (.bool false)))), none, none, [], false⟩]
def f13r7 : List SOper := [
⟨0, some 34, .p (.mv (.t 3)), none, none, [], false⟩,
⟨1, some 35, .p (.bin .add (.t 34) (.c (.one (.int .i64 1)))), none, none, [], false⟩,
⟨2, some 3, .p (.mv (.t 35)), none, none, [], false⟩]
def f13b0 : SC := (.seq (.seq (.ops f13r4 0) (.cond (.t 33) .skip (.exit 0))) (.seq (.block 1 (.seq (.ops f13r5 9) (.cond (.t 44) (.seq (.ops f13r6 0) .ret) .skip))) (.ops f13r7 0)))
def f13r8 : List SOper := [
⟨0, some 2, .p (.mv (.c (.one (.bool true)))), none, none, [], false⟩]
def f13c : SC := (.seq (.ops f13r0 0) (.seq (.seq (.ops f13r1 0) (.cond (.t 29) (.seq (.ops f13r2 0) .ret) .skip)) (.seq (.seq (.ops f13r3 0) (.block 0 (.loop f13b0))) (.seq (.ops f13r8 0) .ret))))
def f13 : SFn := ⟨45, f13c, [.t 2]⟩

/- sixdot/grid.Line -/
def f14r0 : List SOper := [
⟨0, some 2, .a (.box (.t 0)), none, none, [], false⟩,
⟨1, some 3, .a (.box (.t 1)), none, none, [], false⟩,
⟨2, some 4, .p (.mv (.c (.one .nils))), none, none, [], false⟩]
def f14r1 : List SOper := [
⟨0, some 8, .l (.load true 2 (.t 2)), none, none, [], false⟩,
⟨1, some 9, .l (.load true 2 (.t 3)), none, none, [], false⟩,
⟨2, some 10, .a (.bslice 2 2 [(.int .i64 0), (.int .i64 0)] [(0, 2, (.t 8)), (2, 2, (.t 9))]), none, none, [], false⟩,
⟨3, some 11, .cf 40 [(.t 10)], none, none, [], false⟩,
⟨4, some 12, .p (.not (.t 11)), none, none, [], false⟩]
def f14r2 : List SOper := [
⟨0, some 4, .p (.mv (.c (.one .nils))), none, none, [], false⟩]
def f14r3 : List SOper := [
⟨0, some 13, .l (.load true 2 (.t 2)), none, none, [], false⟩,
⟨1, some 14, .l (.load true 2 (.t 3)), none, none, [], false⟩,
⟨2, some 15, .cf 41 [(.t 13), (.t 14)], none, none, [], false⟩,
⟨3, some 5, .p (.mv (.t 15)), none, none, [], false⟩]
def f14r4 : List SOper := [
⟨0, some 16, .p (.mv (.t 5)), none, none, [], false⟩,
⟨1, some 17, .p (.bin .eql (.t 16) (.c (.one (.int .i64 0)))), none, none, [], false⟩]
def f14r5 : List SOper := [
⟨0, some 18, .l (.load true 2 (.t 2)), none, none, [], false⟩,
⟨1, some 19, .a (.bslice 2 1 [(.int .i64 0), (.int .i64 0)] [(0, 2, (.t 18))]), none, none, [], false⟩,
⟨2, some 4, .p (.mv (.t 19)), none, none, [], false⟩]
def f14r6 : List SOper := [
⟨0, some 20, .p (.mv (.t 5)), none, none, [], false⟩,
⟨1, some 21, .p (.bin .add (.t 20) (.c (.one (.int .i64 1)))), none, none, [], false⟩,
⟨2, some 22, .a (.mkslice 2 16 [(.int .i64 0), (.int .i64 0)] (.c (.one (.int .i64 0))) (.t 21)), none, none, [], false⟩,
⟨3, some 6, .p (.mv (.t 22)), none, none, [], false⟩]
def f14r7 : List SOper := [
⟨0, some 23, .p (.mv (.t 5)), none, none, [], false⟩,
⟨1, some 24, .p (.bin .add (.t 23) (.c (.one (.int .i64 1)))), none, none, [], false⟩,
⟨2, some 25, .p (.mv (.c (.one (.int .i64 0)))), none, none, [], false⟩]
def f14r8 : List SOper := [
⟨0, some 26, .p (.bin .lss (.t 25) (.t 24)), none, none, [], false⟩]
def f14r9 : List SOper := [
⟨0, some 27, .p (.mv (.t 25)), none, none, [], false⟩,
⟨1, some 7, .p (.mv (.t 27)), none, none, [], false⟩]
def f14r10 : List SOper := [
⟨0, some 28, .p (.mv (.t 6)), none, none, [], false⟩,
⟨1, some 29, .p (.faddr 0 (.t 2)), none, none, [], false⟩,
⟨2, some 30, .l (.load false 1 (.t 29)), none, none, [], false⟩,
⟨3, some 31, .p (.faddr 0 (.t 3)), none, none, [], false⟩,
⟨4, some 32, .l (.load false 1 (.t 31)), none, none, [], false⟩,
⟨5, some 33, .p (.mv (.t 7)), none, none, [], false⟩,
⟨6, some 34, .p (.mv (.t 5)), none, none, [], false⟩,
⟨8, some 36, .p (.faddr 1 (.t 2)), none, none, [], false⟩,
⟨9, some 37, .l (.load false 1 (.t 36)), none, none, [], true⟩,
⟨10, some 38, .p (.faddr 1 (.t 3)), none, none, [], false⟩,
⟨11, some 39, .l (.load false 1 (.t 38)), none, none, [], true⟩,
⟨12, some 40, .p (.mv (.t 7)), none, none, [], false⟩,
⟨13, some 41, .p (.mv (.t 5)), none, none, [], false⟩,
⟨7, some 35, .cf 42 [(.t 30), (.t 32), (.t 33), (.t 34)], none, none, [11, 9], false⟩,
⟨14, some 42, .cf 42 [(.t 37), (.t 39), (.t 40), (.t 41)], none, none, [], false⟩,
⟨15, some 43, .p (.build [(.int .i64 0), (.int .i64 0)] [(0, 1, (.t 35)), (1, 1, (.t 42))]), none, none, [], false⟩,
⟨16, some 44, .a (.bslice 2 1 [(.int .i64 0), (.int .i64 0)] [(0, 2, (.t 43))]), none, (some 16), [], false⟩,
⟨17, some 45, .e (.append 2 16 (.t 28) (.t 44)), none, none, [], false⟩,
⟨18, some 6, .p (.mv (.t 45)), none, none, [], false⟩]
def f14r11 : List SOper := [
⟨0, some 46, .p (.bin .add (.t 25) (.c (.one (.int .i64 1)))), none, none, [], false⟩,
⟨1, some 25, .p (.mv (.t 46)), none, none, [], false⟩]
def f14b0 : SC := (.seq (.ops f14r8 0) (.seq (.cond (.t 26) .skip (.exit 0)) (.seq (.block 1 (.seq (.ops f14r9 0) (.ops f14r10 19))) (.ops f14r11 0))))
def f14r12 : List SOper := [
⟨0, some 47, .p (.mv (.t 6)), none, none, [], false⟩,
⟨1, some 4, .p (.mv (.t 47)), none, none, [], false⟩]
def f14c : SC := (.seq (.ops f14r0 0) (.seq (.seq (.ops f14r1 0) (.cond (.t 12) (.seq (.ops f14r2 0) .ret) .skip)) (.seq (.ops f14r3 0) (.seq (.seq (.ops f14r4 0) (.cond (.t 17) (.seq (.ops f14r5 0) .ret) .skip)) (.seq (.ops f14r6 0) (.seq (.seq (.ops f14r7 0) (.block 0 (.loop f14b0))) (.seq (.ops f14r12 0) .ret)))))))
def f14 : SFn := ⟨48, f14c, [.t 4]⟩

/- sixdot/sixdotref12.Far -/
def f15r0 : List SOper := [
⟨0, some 2, .a (.box (.t 0)), none, none, [], false⟩,
⟨1, some 3, .a (.box (.t 1)), none, none, [], false⟩,
⟨2, some 4, .p (.mv (.c (.one (.int .i64 0)))), none, none, [], false⟩]
def f15r1 : List SOper := [
⟨0, some 5, .p (.faddr 0 (.t 2)), none, none, [], false⟩,
⟨1, some 6, .l (.load false 1 (.t 5)), none, none, [], false⟩,
⟨2, some 7, .p (.faddr 0 (.t 3)), none, none, [], false⟩,
⟨3, some 8, .l (.load false 1 (.t 7)), none, none, [], false⟩,
⟨4, some 9, .p (.bin .sub (.t 6) (.t 8)), none, none, [], false⟩,
⟨6, some 11, .p (.faddr 1 (.t 2)), none, none, [], false⟩,
⟨7, some 12, .l (.load false 1 (.t 11)), none, none, [], true⟩,
⟨8, some 13, .p (.faddr 1 (.t 3)), none, none, [], false⟩,
⟨9, some 14, .l (.load false 1 (.t 13)), none, none, [], true⟩,
⟨10, some 15, .p (.bin .sub (.t 12) (.t 14)), none, none, [], false⟩,
⟨5, some 10, .cf 43 [(.t 9)], none, none, [9, 7], false⟩,
⟨11, some 16, .cf 43 [(.t 15)], none, none, [], false⟩,
⟨12, some 17, .p (.mm true (.t 10) (.t 16)), none, none, [], false⟩,
⟨13, some 4, .p (.mv (.t 17)), none, none, [], false⟩]
def f15c : SC := (.seq (.ops f15r0 0) (.seq (.ops f15r1 14) .ret))
def f15 : SFn := ⟨18, f15c, [.t 4]⟩

/- sixdot/sixdotref12.SamePoints -/
def f16r0 : List SOper := [
⟨0, some 4, .p (.mv (.c (.one (.bool false)))), none, none, [], false⟩]
def f16r1 : List SOper := [
⟨0, some 6, .p (.mv (.t 0)), none, none, [], false⟩,
⟨1, some 7, .p (.len (.t 6)), none, none, [], false⟩,
⟨2, some 8, .p (.mv (.t 1)), none, none, [], false⟩,
⟨3, some 9, .p (.len (.t 8)), none, none, [], false⟩,
⟨4, some 10, .p (.bin .neq (.t 7) (.t 9)), none, none, [], false⟩]
def f16r2 : List SOper := [
⟨0, some 4, .p (.mv (.c (.one (.bool false)))), none, none, [], false⟩]
def f16r3 : List SOper := [
⟨0, some 5, .p (.mv (.c (.one (.int .i64 0)))), none, none, [], false⟩]
def f16r4 : List SOper := [
⟨0, some 11, .p (.mv (.t 5)), none, none, [], false⟩,
⟨1, some 12, .p (.mv (.t 0)), none, none, [], false⟩,
⟨2, some 13, .p (.len (.t 12)), none, none, [], false⟩,
⟨3, some 14, .p (.bin .lss (.t 11) (.t 13)), none, none, [], false⟩]
def f16r5 : List SOper := [
⟨0, some 17, .p (.mv (.t 0)), none, none, [], false⟩,
⟨1, some 18, .p (.mv (.t 5)), none, none, [], false⟩,
⟨2, some 19, .p (.iaddr 2 (.t 17) (.t 18)), none, none, [], false⟩,
⟨3, some 20, .l (.load true 2 (.t 19)), none, none, [], false⟩,
⟨4, some 21, .p (.mv (.t 1)), none, none, [], false⟩,
⟨5, some 22, .p (.mv (.t 5)), none, none, [], false⟩,
⟨6, some 23, .p (.iaddr 2 (.t 21) (.t 22)), none, none, [], false⟩,
⟨7, some 24, .l (.load true 2 (.t 23)), none, none, [], false⟩,
⟨8, some 25, .p (.eqs true [(0, false), (1, false)] (.t 20) (.t 24)), none, none, [], false⟩]
def f16r6 : List SOper := [
⟨0, some 4, .p (.mv (.c (.one (.bool false)))), none, none, [], false⟩]
def f16r7 : List SOper := [
⟨0, some 15, .p (.mv (.t 5)), none, none, [], false⟩,
⟨1, some 16, .p (.bin .add (.t 15) (.c (.one (.int .i64 1)))), none, none, [], false⟩,
⟨2, some 5, .p (.mv (.t 16)), none, none, [], false⟩]
def f16b0 : SC := (.seq (.seq (.ops f16r4 0) (.cond (.t 14) .skip (.exit 0))) (.seq (.block 1 (.seq (.ops f16r5 9) (.cond (.t 25) (.seq (.ops f16r6 0) .ret) .skip))) (.ops f16r7 0)))
def f16r8 : List SOper := [
⟨0, some 4, .p (.mv (.c (.one (.bool true)))), none, none, [], false⟩]
def f16c : SC := (.seq (.ops f16r0 0) (.seq (.seq (.ops f16r1 0) (.cond (.t 10) (.seq (.ops f16r2 0) .ret) .skip)) (.seq (.seq (.ops f16r3 0) (.block 0 (.loop f16b0))) (.seq (.ops f16r8 0) .ret))))
def f16 : SFn := ⟨26, f16c, [.t 4]⟩

/- sixdot/sixdotref12.Made -/
def f18r0 : List SOper := [
⟨0, some 4, .p (.mv (.c (.one .nils))), none, none, [], false⟩]
def f18r1 : List SOper := [
⟨0, some 7, .a (.bslice 2 0 [(.int .i64 0), (.int .i64 0)] []), none, none, [], false⟩,
⟨1, some 5, .p (.mv (.t 7)), none, none, [], false⟩]
def f18r2 : List SOper := [
⟨0, some 6, .p (.mv (.c (.one (.int .i64 0)))), none, none, [], false⟩]
def f18r3 : List SOper := [
⟨0, some 8, .p (.mv (.t 6)), none, none, [], false⟩,
⟨1, some 9, .p (.mv (.t 0)), none, none, [], false⟩,
⟨2, some 10, .p (.len (.t 9)), none, none, [], false⟩,
⟨3, some 11, .p (.bin .lss (.t 8) (.t 10)), none, none, [], false⟩,
⟨4, some 12, .p (.mv (.t 11)), none, none, [], false⟩,
⟨5, some 13, .p (.mv (.t 6)), (some (12, true)), none, [], false⟩,
⟨6, some 14, .p (.mv (.t 1)), (some (12, true)), none, [], false⟩,
⟨7, some 15, .p (.bin .lss (.t 13) (.t 14)), (some (12, true)), none, [], false⟩,
⟨8, some 16, .p (.pick (.t 12) (.t 15) (.c (.one (.bool false)))), none, none, [], false⟩]
def f18r4 : List SOper := [
⟨0, some 19, .p (.mv (.t 5)), none, none, [], false⟩,
⟨1, some 20, .p (.mv (.t 0)), none, none, [], false⟩,
⟨2, some 21, .p (.mv (.t 6)), none, none, [], false⟩,
⟨3, some 22, .p (.iaddr 2 (.t 20) (.t 21)), none, none, [], false⟩,
⟨4, some 23, .p (.aaddr 2 1 (.t 22) (.c (.one (.int .i64 0)))), none, none, [], false⟩,
⟨5, some 24, .l (.load false 1 (.t 23)), none, none, [], false⟩,
⟨6, some 25, .p (.conv .i64 (.t 24)), none, none, [], false⟩,
⟨7, some 26, .p (.bin .rem (.t 25) (.c (.one (.int .i64 16)))), none, none, [], false⟩,
⟨8, some 27, .p (.bin .sub (.t 26) (.c (.one (.int .i64 2)))), none, none, [], false⟩,
⟨9, some 28, .p (.mv (.t 0)), none, none, [], false⟩,
⟨10, some 29, .p (.mv (.t 6)), none, none, [], false⟩,
⟨11, some 30, .p (.iaddr 2 (.t 28) (.t 29)), none, none, [], false⟩,
⟨12, some 31, .p (.aaddr 2 1 (.t 30) (.c (.one (.int .i64 1)))), none, none, [], false⟩,
⟨13, some 32, .l (.load false 1 (.t 31)), none, none, [], false⟩,
⟨14, some 33, .p (.conv .i64 (.t 32)), none, none, [], false⟩,
⟨15, some 34, .p (.bin .rem (.t 33) (.c (.one (.int .i64 16)))), none, none, [], false⟩,
⟨16, some 35, .p (.bin .sub (.t 34) (.c (.one (.int .i64 2)))), none, none, [], false⟩,
⟨17, some 36, .p (.build [(.int .i64 0), (.int .i64 0)] [(0, 1, (.t 27)), (1, 1, (.t 35))]), none, none, [], false⟩,
⟨18, some 37, .a (.bslice 2 1 [(.int .i64 0), (.int .i64 0)] [(0, 2, (.t 36))]), none, (some 18), [], false⟩,
⟨19, some 38, .e (.append 2 16 (.t 19) (.t 37)), none, none, [], false⟩,
⟨20, some 5, .p (.mv (.t 38)), none, none, [], false⟩]
def f18r5 : List SOper := [
⟨0, some 17, .p (.mv (.t 6)), none, none, [], false⟩,
⟨1, some 18, .p (.bin .add (.t 17) (.c (.one (.int .i64 1)))), none, none, [], false⟩,
⟨2, some 6, .p (.mv (.t 18)), none, none, [], false⟩]
def f18b0 : SC := (.seq (.seq (.ops f18r3 0) (.cond (.t 16) .skip (.exit 0))) (.seq (.block 1 (.ops f18r4 21)) (.ops f18r5 0)))
def f18r6 : List SOper := [
⟨0, some 39, .p (.mv (.t 5)), none, none, [], false⟩,
⟨1, some 4, .p (.mv (.t 39)), none, none, [], false⟩]
def f18c : SC := (.seq (.ops f18r0 0) (.seq (.ops f18r1 0) (.seq (.seq (.ops f18r2 0) (.block 0 (.loop f18b0))) (.seq (.ops f18r6 0) .ret))))
def f18 : SFn := ⟨40, f18c, [.t 4]⟩

/- sixdot/grid.Distance -/
def f19r0 : List SOper := [
⟨0, some 4, .p (.mv (.c (.one (.int .i64 0)))), none, none, [], false⟩]
def f19r1 : List SOper := [
⟨0, some 10, .p (.mv (.t 0)), none, none, [], false⟩,
⟨1, some 11, .p (.len (.t 10)), none, none, [], false⟩,
⟨2, some 12, .p (.bin .eql (.t 11) (.c (.one (.int .i64 0)))), none, none, [], false⟩,
⟨3, some 13, .p (.mv (.t 12)), none, none, [], false⟩,
⟨4, some 14, .p (.mv (.t 1)), (some (13, false)), none, [], false⟩,
⟨5, some 15, .p (.len (.t 14)), (some (13, false)), none, [], false⟩,
⟨6, some 16, .p (.bin .eql (.t 15) (.c (.one (.int .i64 0)))), (some (13, false)), none, [], false⟩,
⟨7, some 17, .p (.pick (.t 13) (.c (.one (.bool true))) (.t 16)), none, none, [], false⟩]
def f19r2 : List SOper := [
⟨0, some 4, .p (.mv (.c (.one (.int .i64 (-1))))), none, none, [], false⟩]
def f19r3 : List SOper := [
⟨0, some 18, .p (.mv (.t 0)), none, none, [], false⟩,
⟨1, some 19, .p (.len (.t 18)), none, none, [], false⟩,
⟨2, some 20, .p (.mv (.t 1)), none, none, [], false⟩,
⟨3, some 21, .p (.len (.t 20)), none, none, [], false⟩,
⟨4, some 22, .p (.bin .mul (.t 19) (.t 21)), none, none, [], false⟩,
⟨5, some 23, .p (.bin .gtr (.t 22) (.c (.one (.int .i64 65536)))), none, none, [], false⟩,
⟨6, some 24, .p (.mv (.t 23)), none, none, [], false⟩,
⟨7, some 25, .p (.mv (.t 0)), (some (24, true)), none, [], false⟩,
⟨8, some 26, .cf 40 [(.t 25)], (some (24, true)), none, [], false⟩,
⟨9, some 27, .p (.pick (.t 24) (.t 26) (.c (.one (.bool false)))), none, none, [], false⟩,
⟨10, some 28, .p (.mv (.t 27)), none, none, [], false⟩,
⟨11, some 29, .p (.mv (.t 1)), (some (28, true)), none, [], false⟩,
⟨12, some 30, .cf 40 [(.t 29)], (some (28, true)), none, [], false⟩,
⟨13, some 31, .p (.pick (.t 28) (.t 30) (.c (.one (.bool false)))), none, none, [], false⟩]
def f19r4 : List SOper := [
⟨0, some 32, .p (.mv (.t 0)), none, none, [], false⟩,
⟨1, some 33, .p (.mv (.t 1)), none, none, [], false⟩,
⟨2, some 34, .cf 45 [(.t 32), (.t 33)], none, none, [], false⟩,
⟨3, some 4, .p (.mv (.t 34)), none, none, [], false⟩]
def f19r5 : List SOper := [
⟨0, some 35, .p (.mv (.t 0)), none, none, [], false⟩,
⟨1, some 36, .p (.iaddr 2 (.t 35) (.c (.one (.int .i64 0)))), none, none, [], false⟩,
⟨2, some 37, .l (.load true 2 (.t 36)), none, none, [], false⟩,
⟨3, some 38, .p (.mv (.t 1)), none, none, [], false⟩,
⟨4, some 39, .p (.iaddr 2 (.t 38) (.c (.one (.int .i64 0)))), none, none, [], false⟩,
⟨5, some 40, .l (.load true 2 (.t 39)), none, none, [], false⟩,
⟨6, some 41, .cf 41 [(.t 37), (.t 40)], none, none, [], false⟩,
⟨7, some 5, .p (.mv (.t 41)), none, none, [], false⟩]
def f19r6 : List SOper := [
⟨0, some 42, .p (.mv (.t 0)), none, none, [], false⟩,
⟨1, some 43, .p (.len (.t 42)), none, none, [], false⟩,
⟨2, some 44, .p (.mv (.c (.one (.int .i64 0)))), none, none, [], false⟩]
def f19r7 : List SOper := [
⟨0, some 45, .p (.bin .lss (.t 44) (.t 43)), none, none, [], false⟩]
def f19r8 : List SOper := [
⟨0, some 46, .p (.iaddr 2 (.t 42) (.t 44)), none, none, [], false⟩,
⟨1, some 47, .l (.load true 2 (.t 46)), none, none, [], false⟩,
⟨2, some 7, .a (.alloc [(.int .i64 0), (.int .i64 0)]), none, none, [], false⟩,
⟨3, none, .e (.store 2 (.t 7) (.t 47)), none, none, [], false⟩]
def f19r9 : List SOper := [
⟨0, some 48, .p (.mv (.t 1)), none, none, [], false⟩,
⟨1, some 49, .p (.len (.t 48)), none, none, [], false⟩,
⟨2, some 50, .p (.mv (.c (.one (.int .i64 0)))), none, none, [], false⟩]
def f19r10 : List SOper := [
⟨0, some 51, .p (.bin .lss (.t 50) (.t 49)), none, none, [], false⟩]
def f19r11 : List SOper := [
⟨0, some 52, .p (.iaddr 2 (.t 48) (.t 50)), none, none, [], false⟩,
⟨1, some 53, .l (.load true 2 (.t 52)), none, none, [], false⟩,
⟨2, some 9, .a (.alloc [(.int .i64 0), (.int .i64 0)]), none, none, [], false⟩,
⟨3, none, .e (.store 2 (.t 9) (.t 53)), none, none, [], false⟩]
def f19r12 : List SOper := [
⟨0, some 54, .p (.mv (.t 5)), none, none, [], false⟩,
⟨1, some 55, .l (.load true 2 (.t 7)), none, none, [], false⟩,
⟨2, some 56, .l (.load true 2 (.t 9)), none, none, [], false⟩,
⟨3, some 57, .cf 41 [(.t 55), (.t 56)], none, none, [], false⟩,
⟨4, some 58, .p (.mm false (.t 54) (.t 57)), none, none, [], false⟩,
⟨5, some 5, .p (.mv (.t 58)), none, none, [], false⟩]
def f19r13 : List SOper := [
⟨0, some 59, .p (.bin .add (.t 50) (.c (.one (.int .i64 1)))), none, none, [], false⟩,
⟨1, some 50, .p (.mv (.t 59)), none, none, [], false⟩]
def f19b0 : SC := (.seq (.ops f19r10 0) (.seq (.cond (.t 51) .skip (.exit 2)) (.seq (.block 3 (.seq (.ops f19r11 0) (.ops f19r12 0))) (.ops f19r13 0))))
def f19r14 : List SOper := [
⟨0, some 60, .p (.bin .add (.t 44) (.c (.one (.int .i64 1)))), none, none, [], false⟩,
⟨1, some 44, .p (.mv (.t 60)), none, none, [], false⟩]
def f19b1 : SC := (.seq (.ops f19r7 0) (.seq (.cond (.t 45) .skip (.exit 0)) (.seq (.block 1 (.seq (.ops f19r8 0) (.seq (.ops f19r9 0) (.block 2 (.loop f19b0))))) (.ops f19r14 0))))
def f19r15 : List SOper := [
⟨0, some 61, .p (.mv (.t 5)), none, none, [], false⟩,
⟨1, some 4, .p (.mv (.t 61)), none, none, [], false⟩]
def f19c : SC := (.seq (.ops f19r0 0) (.seq (.seq (.ops f19r1 0) (.cond (.t 17) (.seq (.ops f19r2 0) .ret) .skip)) (.seq (.seq (.ops f19r3 0) (.cond (.t 31) (.seq (.ops f19r4 0) .ret) .skip)) (.seq (.ops f19r5 8) (.seq (.seq (.ops f19r6 0) (.block 0 (.loop f19b1))) (.seq (.ops f19r15 0) .ret))))))
def f19 : SFn := ⟨62, f19c, [.t 4]⟩

/- sixdot/sixdotref12.Has -/
def f20r0 : List SOper := [
⟨0, some 3, .a (.box (.t 1)), none, none, [], false⟩,
⟨1, some 4, .p (.mv (.c (.one (.bool false)))), none, none, [], false⟩]
def f20r1 : List SOper := [
⟨0, some 5, .p (.mv (.c (.one (.int .i64 0)))), none, none, [], false⟩]
def f20r2 : List SOper := [
⟨0, some 6, .p (.mv (.t 5)), none, none, [], false⟩,
⟨1, some 7, .p (.mv (.t 0)), none, none, [], false⟩,
⟨2, some 8, .p (.len (.t 7)), none, none, [], false⟩,
⟨3, some 9, .p (.bin .lss (.t 6) (.t 8)), none, none, [], false⟩]
def f20r3 : List SOper := [
⟨0, some 12, .p (.mv (.t 0)), none, none, [], false⟩,
⟨1, some 13, .p (.mv (.t 5)), none, none, [], false⟩,
⟨2, some 14, .p (.iaddr 2 (.t 12) (.t 13)), none, none, [], false⟩,
⟨3, some 15, .l (.load true 2 (.t 14)), none, none, [], false⟩,
⟨4, some 16, .l (.load true 2 (.t 3)), none, none, [], false⟩,
⟨5, some 17, .p (.eqs false [(0, false), (1, false)] (.t 15) (.t 16)), none, none, [], false⟩]
def f20r4 : List SOper := [
⟨0, some 4, .p (.mv (.c (.one (.bool true)))), none, none, [], false⟩]
def f20r5 : List SOper := [
⟨0, some 10, .p (.mv (.t 5)), none, none, [], false⟩,
⟨1, some 11, .p (.bin .add (.t 10) (.c (.one (.int .i64 1)))), none, none, [], false⟩,
⟨2, some 5, .p (.mv (.t 11)), none, none, [], false⟩]
def f20b0 : SC := (.seq (.seq (.ops f20r2 0) (.cond (.t 9) .skip (.exit 0))) (.seq (.block 1 (.seq (.ops f20r3 6) (.cond (.t 17) (.seq (.ops f20r4 0) .ret) .skip))) (.ops f20r5 0)))
def f20r6 : List SOper := [
⟨0, some 4, .p (.mv (.c (.one (.bool false)))), none, none, [], false⟩]
def f20c : SC := (.seq (.ops f20r0 0) (.seq (.seq (.ops f20r1 0) (.block 0 (.loop f20b0))) (.seq (.ops f20r6 0) .ret)))
def f20 : SFn := ⟨18, f20c, [.t 4]⟩

/- sixdot/grid.Clusters -/
def f21r0 : List SOper := [
⟨0, some 4, .p (.mv (.c (.one .nils))), none, none, [], false⟩]
def f21r1 : List SOper := [
⟨0, some 18, .p (.mv (.t 0)), none, none, [], false⟩,
⟨1, some 19, .cf 46 [(.t 18)], none, none, [], false⟩,
⟨2, some 5, .p (.mv (.t 19)), none, none, [], false⟩]
def f21r2 : List SOper := [
⟨0, some 20, .p (.mv (.t 5)), none, none, [], false⟩,
⟨1, some 21, .cf 47 [(.t 20), (.c (.one (.fn 48 [])))], none, none, [], false⟩]
def f21r3 : List SOper := [
⟨0, some 22, .p (.mv (.t 5)), none, none, [], false⟩,
⟨1, some 23, .cf 49 [(.t 22)], none, none, [], false⟩,
⟨2, some 5, .p (.mv (.t 23)), none, none, [], false⟩]
def f21r4 : List SOper := [
⟨0, some 24, .a (.mkmap), none, none, [], false⟩,
⟨1, some 25, .p (.mv (.t 5)), none, none, [], false⟩,
⟨2, some 26, .p (.len (.t 25)), none, none, [], false⟩,
⟨3, some 6, .a (.alloc [.nilm]), none, none, [], false⟩,
⟨4, some 7, .a (.alloc [(.int .i64 0)]), none, none, [], false⟩,
⟨5, none, .e (.store 1 (.t 6) (.t 24)), none, none, [], false⟩,
⟨6, none, .e (.store 1 (.t 7) (.t 26)), none, none, [], false⟩]
def f21r5 : List SOper := [
⟨0, some 27, .p (.mv (.t 5)), none, none, [], false⟩,
⟨1, some 28, .p (.len (.t 27)), none, none, [], false⟩,
⟨2, some 29, .p (.mv (.c (.one (.int .i64 0)))), none, none, [], false⟩]
def f21r6 : List SOper := [
⟨0, some 30, .p (.bin .lss (.t 29) (.t 28)), none, none, [], false⟩]
def f21r7 : List SOper := [
⟨0, some 31, .p (.iaddr 2 (.t 27) (.t 29)), none, none, [], false⟩,
⟨1, some 32, .l (.load true 2 (.t 31)), none, none, [], false⟩,
⟨2, some 9, .a (.alloc [(.int .i64 0), (.int .i64 0)]), none, none, [], false⟩,
⟨3, none, .e (.store 2 (.t 9) (.t 32)), none, none, [], false⟩]
def f21r8 : List SOper := [
⟨0, some 33, .l (.load false 1 (.t 6)), none, none, [], true⟩,
⟨1, some 34, .p (.faddr 1 (.t 9)), none, none, [], false⟩,
⟨2, some 35, .l (.load false 1 (.t 34)), none, none, [], true⟩,
⟨3, some 36, .l (.load false 1 (.t 6)), none, none, [], false⟩,
⟨4, some 37, .p (.faddr 1 (.t 9)), none, none, [], false⟩,
⟨5, some 38, .l (.load false 1 (.t 37)), none, none, [], false⟩,
⟨6, some 39, .l (.lookup (.one .nils) false (.t 36) (.t 38)), none, none, [], false⟩,
⟨7, some 40, .p (.faddr 0 (.t 9)), none, none, [], false⟩,
⟨8, some 41, .l (.load false 1 (.t 40)), none, none, [], false⟩,
⟨9, some 42, .a (.bslice 1 1 [(.int .i64 0)] [(0, 1, (.t 41))]), none, (some 9), [], false⟩,
⟨10, some 43, .e (.append 1 8 (.t 39) (.t 42)), none, none, [2, 0], false⟩,
⟨11, none, .e (.mapupd (.t 33) (.t 35) (.t 43)), none, none, [], false⟩]
def f21r9 : List SOper := [
⟨0, some 44, .p (.bin .add (.t 29) (.c (.one (.int .i64 1)))), none, none, [], false⟩,
⟨1, some 29, .p (.mv (.t 44)), none, none, [], false⟩]
def f21b0 : SC := (.seq (.ops f21r6 0) (.seq (.cond (.t 30) .skip (.exit 0)) (.seq (.block 1 (.seq (.ops f21r7 0) (.ops f21r8 12))) (.ops f21r9 0))))
def f21r10 : List SOper := [
⟨0, some 45, .p (.mkfn 50 [(.t 6), (.t 7)]), none, none, [], false⟩,
⟨1, some 10, .p (.mv (.t 45)), none, none, [], false⟩]
def f21r11 : List SOper := [
⟨0, some 46, .p (.mv (.t 1)), none, none, [], false⟩,
⟨1, some 47, .p (.mm true (.t 46) (.c (.one (.int .i64 0)))), none, none, [], false⟩,
⟨2, some 48, .p (.mm false (.t 47) (.c (.one (.int .i64 2000)))), none, none, [], false⟩,
⟨3, some 1, .p (.mv (.t 48)), none, none, [], false⟩]
def f21r12 : List SOper := [
⟨0, some 11, .p (.mv (.c (.one .nils))), none, none, [], false⟩]
def f21r13 : List SOper := [
⟨0, some 49, .p (.mv (.t 5)), none, none, [], false⟩,
⟨1, some 50, .p (.len (.t 49)), none, none, [], false⟩,
⟨2, some 51, .p (.mv (.c (.one (.int .i64 0)))), none, none, [], false⟩]
def f21r14 : List SOper := [
⟨0, some 52, .p (.bin .lss (.t 51) (.t 50)), none, none, [], false⟩]
def f21r15 : List SOper := [
⟨0, some 53, .p (.iaddr 2 (.t 49) (.t 51)), none, none, [], false⟩,
⟨1, some 54, .l (.load true 2 (.t 53)), none, none, [], false⟩,
⟨2, some 13, .a (.alloc [(.int .i64 0), (.int .i64 0)]), none, none, [], false⟩,
⟨3, none, .e (.store 2 (.t 13) (.t 54)), none, none, [], false⟩]
def f21r16 : List SOper := [
⟨0, some 55, .p (.mv (.t 10)), none, none, [], false⟩,
⟨1, some 56, .p (.faddr 1 (.t 13)), none, none, [], false⟩,
⟨2, some 57, .l (.load false 1 (.t 56)), none, none, [], false⟩,
⟨3, some 58, .p (.faddr 0 (.t 13)), none, none, [], false⟩,
⟨4, some 59, .l (.load false 1 (.t 58)), none, none, [], false⟩,
⟨5, some 60, .p (.faddr 0 (.t 13)), none, none, [], false⟩,
⟨6, some 61, .l (.load false 1 (.t 60)), none, none, [], false⟩,
⟨7, some 62, .cv (.t 55) [(.t 57), (.t 59), (.t 61)], none, none, [], false⟩,
⟨8, some 14, .p (.mv (.t 62)), none, none, [], false⟩]
def f21r17 : List SOper := [
⟨0, some 63, .p (.mv (.t 14)), none, none, [], false⟩,
⟨1, some 64, .p (.len (.t 63)), none, none, [], false⟩,
⟨2, some 65, .p (.bin .eql (.t 64) (.c (.one (.int .i64 0)))), none, none, [], false⟩]
def f21r18 : List SOper := [
⟨0, some 15, .p (.mv (.c (.one (.int .i64 0)))), none, none, [], false⟩]
def f21r19 : List SOper := [
⟨0, some 66, .p (.mv (.t 15)), none, none, [], false⟩,
⟨1, some 67, .p (.mv (.t 14)), none, none, [], false⟩,
⟨2, some 68, .p (.len (.t 67)), none, none, [], false⟩,
⟨3, some 69, .p (.bin .lss (.t 66) (.t 68)), none, none, [], false⟩,
⟨4, some 70, .p (.mv (.t 69)), none, none, [], false⟩,
⟨5, some 71, .l (.load false 1 (.t 7)), (some (70, true)), none, [], false⟩,
⟨6, some 72, .p (.bin .gtr (.t 71) (.c (.one (.int .i64 0)))), (some (70, true)), none, [], false⟩,
⟨7, some 73, .p (.pick (.t 70) (.t 72) (.c (.one (.bool false)))), none, none, [], false⟩]
def f21r20 : List SOper := [
⟨0, some 76, .p (.mv (.t 14)), none, none, [], false⟩,
⟨1, some 77, .p (.mv (.t 15)), none, none, [], false⟩,
⟨2, some 78, .p (.iaddr 2 (.t 76) (.t 77)), none, none, [], false⟩,
⟨3, some 79, .l (.load true 2 (.t 78)), none, none, [], false⟩,
⟨4, some 16, .a (.alloc [(.int .i64 0), (.int .i64 0)]), none, none, [], false⟩,
⟨5, none, .e (.store 2 (.t 16) (.t 79)), none, none, [], false⟩]
def f21r21 : List SOper := [
⟨0, some 80, .p (.mv (.t 1)), none, none, [], false⟩,
⟨1, some 81, .p (.neg (.t 80)), none, none, [], false⟩,
⟨2, some 17, .p (.mv (.t 81)), none, none, [], false⟩]
def f21r22 : List SOper := [
⟨0, some 82, .p (.mv (.t 17)), none, none, [], false⟩,
⟨1, some 83, .p (.mv (.t 1)), none, none, [], false⟩,
⟨2, some 84, .p (.bin .leq (.t 82) (.t 83)), none, none, [], false⟩]
def f21r23 : List SOper := [
⟨0, some 87, .p (.mv (.t 14)), none, none, [], false⟩,
⟨1, some 88, .p (.mv (.t 10)), none, none, [], false⟩,
⟨2, some 89, .p (.faddr 1 (.t 16)), none, none, [], false⟩,
⟨3, some 90, .l (.load false 1 (.t 89)), none, none, [], false⟩,
⟨4, some 91, .p (.mv (.t 17)), none, none, [], false⟩,
⟨5, some 92, .p (.bin .add (.t 90) (.t 91)), none, none, [], false⟩,
⟨6, some 93, .p (.faddr 0 (.t 16)), none, none, [], false⟩,
⟨7, some 94, .l (.load false 1 (.t 93)), none, none, [], false⟩,
⟨8, some 95, .p (.mv (.t 1)), none, none, [], false⟩,
⟨9, some 96, .p (.bin .sub (.t 94) (.t 95)), none, none, [], false⟩,
⟨10, some 97, .p (.faddr 0 (.t 16)), none, none, [], false⟩,
⟨11, some 98, .l (.load false 1 (.t 97)), none, none, [], false⟩,
⟨12, some 99, .p (.mv (.t 1)), none, none, [], false⟩,
⟨13, some 100, .p (.bin .add (.t 98) (.t 99)), none, none, [], false⟩,
⟨14, some 101, .cv (.t 88) [(.t 92), (.t 96), (.t 100)], none, none, [], false⟩,
⟨15, some 102, .e (.append 2 16 (.t 87) (.t 101)), none, none, [], false⟩,
⟨16, some 14, .p (.mv (.t 102)), none, none, [], false⟩]
def f21r24 : List SOper := [
⟨0, some 85, .p (.mv (.t 17)), none, none, [], false⟩,
⟨1, some 86, .p (.bin .add (.t 85) (.c (.one (.int .i64 1)))), none, none, [], false⟩,
⟨2, some 17, .p (.mv (.t 86)), none, none, [], false⟩]
def f21b1 : SC := (.seq (.seq (.ops f21r22 0) (.cond (.t 84) .skip (.exit 6))) (.seq (.block 7 (.ops f21r23 0)) (.ops f21r24 0)))
def f21r25 : List SOper := [
⟨0, some 74, .p (.mv (.t 15)), none, none, [], false⟩,
⟨1, some 75, .p (.bin .add (.t 74) (.c (.one (.int .i64 1)))), none, none, [], false⟩,
⟨2, some 15, .p (.mv (.t 75)), none, none, [], false⟩]
def f21b2 : SC := (.seq (.seq (.ops f21r19 0) (.cond (.t 73) .skip (.exit 4))) (.seq (.block 5 (.seq (.ops f21r20 0) (.seq (.ops f21r21 0) (.block 6 (.loop f21b1))))) (.ops f21r25 0)))
def f21r26 : List SOper := [
⟨0, some 103, .p (.mv (.t 14)), none, none, [], false⟩,
⟨1, some 104, .cf 47 [(.t 103), (.c (.one (.fn 48 [])))], none, none, [], false⟩]
def f21r27 : List SOper := [
⟨0, some 105, .p (.mv (.t 11)), none, none, [], false⟩,
⟨1, some 106, .p (.mv (.t 14)), none, none, [], false⟩,
⟨2, some 107, .a (.bslice 1 1 [.nils] [(0, 1, (.t 106))]), none, none, [], false⟩,
⟨3, some 108, .e (.append 1 24 (.t 105) (.t 107)), none, none, [], false⟩,
⟨4, some 11, .p (.mv (.t 108)), none, none, [], false⟩]
def f21r28 : List SOper := [
⟨0, some 109, .p (.bin .add (.t 51) (.c (.one (.int .i64 1)))), none, none, [], false⟩,
⟨1, some 51, .p (.mv (.t 109)), none, none, [], false⟩]
def f21b3 : SC := (.seq (.ops f21r14 0) (.seq (.cond (.t 52) .skip (.exit 2)) (.seq (.block 3 (.seq (.ops f21r15 0) (.seq (.ops f21r16 0) (.seq (.seq (.ops f21r17 0) (.cond (.t 65) (.exit 3) .skip)) (.seq (.seq (.ops f21r18 0) (.block 4 (.loop f21b2))) (.seq (.ops f21r26 0) (.ops f21r27 0))))))) (.ops f21r28 0))))
def f21r29 : List SOper := [
⟨0, some 110, .p (.mv (.t 11)), none, none, [], false⟩,
⟨1, some 4, .p (.mv (.t 110)), none, none, [], false⟩]
def f21c : SC := (.seq (.ops f21r0 0) (.seq (.ops f21r1 0) (.seq (.ops f21r2 0) (.seq (.ops f21r3 0) (.seq (.ops f21r4 0) (.seq (.seq (.ops f21r5 0) (.block 0 (.loop f21b0))) (.seq (.ops f21r10 0) (.seq (.ops f21r11 0) (.seq (.ops f21r12 0) (.seq (.seq (.ops f21r13 0) (.block 2 (.loop f21b3))) (.seq (.ops f21r29 0) .ret)))))))))))
def f21 : SFn := ⟨111, f21c, [.t 4]⟩

/- sixdot/sixdotref12.Sorted -/
def f22r0 : List SOper := [
⟨0, some 2, .p (.mv (.c (.one .nils))), none, none, [], false⟩]
def f22r1 : List SOper := [
⟨0, some 7, .a (.bslice 2 0 [(.int .i64 0), (.int .i64 0)] []), none, none, [], false⟩,
⟨1, some 3, .p (.mv (.t 7)), none, none, [], false⟩]
def f22r2 : List SOper := [
⟨0, some 4, .p (.mv (.c (.one (.int .i64 0)))), none, none, [], false⟩]
def f22r3 : List SOper := [
⟨0, some 8, .p (.mv (.t 4)), none, none, [], false⟩,
⟨1, some 9, .p (.mv (.t 0)), none, none, [], false⟩,
⟨2, some 10, .p (.len (.t 9)), none, none, [], false⟩,
⟨3, some 11, .p (.bin .lss (.t 8) (.t 10)), none, none, [], false⟩]
def f22r4 : List SOper := [
⟨0, some 14, .p (.mv (.t 3)), none, none, [], false⟩,
⟨1, some 15, .p (.mv (.t 0)), none, none, [], false⟩,
⟨2, some 16, .p (.mv (.t 4)), none, none, [], false⟩,
⟨3, some 17, .p (.iaddr 2 (.t 15) (.t 16)), none, none, [], false⟩,
⟨4, some 18, .l (.load true 2 (.t 17)), none, none, [], false⟩,
⟨5, some 19, .cf 20 [(.t 14), (.t 18)], none, none, [], false⟩]
def f22r5 : List SOper := [
⟨0, some 20, .p (.mv (.t 3)), none, none, [], false⟩,
⟨1, some 21, .p (.len (.t 20)), none, none, [], false⟩,
⟨2, some 5, .p (.mv (.t 21)), none, none, [], false⟩]
def f22r6 : List SOper := [
⟨0, some 22, .p (.mv (.t 5)), none, none, [], false⟩,
⟨1, some 23, .p (.bin .gtr (.t 22) (.c (.one (.int .i64 0)))), none, none, [], false⟩,
⟨2, some 24, .p (.mv (.t 23)), none, none, [], false⟩,
⟨3, some 25, .p (.mv (.t 0)), (some (24, true)), none, [], false⟩,
⟨4, some 26, .p (.mv (.t 4)), (some (24, true)), none, [], false⟩,
⟨5, some 27, .p (.iaddr 2 (.t 25) (.t 26)), (some (24, true)), none, [], false⟩,
⟨6, some 28, .l (.load true 2 (.t 27)), (some (24, true)), none, [], false⟩,
⟨7, some 29, .p (.mv (.t 3)), (some (24, true)), none, [], false⟩,
⟨8, some 30, .p (.mv (.t 5)), (some (24, true)), none, [], false⟩,
⟨9, some 31, .p (.bin .sub (.t 30) (.c (.one (.int .i64 1)))), (some (24, true)), none, [], false⟩,
⟨10, some 32, .p (.iaddr 2 (.t 29) (.t 31)), (some (24, true)), none, [], false⟩,
⟨11, some 33, .l (.load true 2 (.t 32)), (some (24, true)), none, [], false⟩,
⟨12, some 34, .cf 23 [(.t 28), (.t 33)], (some (24, true)), none, [], false⟩,
⟨13, some 35, .p (.pick (.t 24) (.t 34) (.c (.one (.bool false)))), none, none, [], false⟩]
def f22r7 : List SOper := [
⟨0, some 36, .p (.mv (.t 5)), none, none, [], false⟩,
⟨1, some 37, .p (.bin .sub (.t 36) (.c (.one (.int .i64 1)))), none, none, [], false⟩,
⟨2, some 5, .p (.mv (.t 37)), none, none, [], false⟩]
def f22b0 : SC := (.seq (.seq (.ops f22r6 14) (.cond (.t 35) .skip (.exit 2))) (.block 3 (.ops f22r7 0)))
def f22r8 : List SOper := [
⟨0, some 38, .a (.bslice 2 0 [(.int .i64 0), (.int .i64 0)] []), none, none, [], false⟩,
⟨1, some 39, .p (.mv (.t 3)), none, none, [], false⟩,
⟨2, some 40, .p (.mv (.t 5)), none, none, [], false⟩,
⟨3, some 41, .p (.slice 2 (.t 39) (some (.t 40)) none none), none, none, [], false⟩,
⟨4, some 42, .e (.append 2 16 (.t 38) (.t 41)), none, none, [], false⟩,
⟨5, some 6, .p (.mv (.t 42)), none, none, [], false⟩]
def f22r9 : List SOper := [
⟨0, some 43, .p (.mv (.t 3)), none, none, [], false⟩,
⟨1, some 44, .p (.mv (.t 5)), none, none, [], false⟩,
⟨2, some 45, .p (.slice 2 (.t 43) none (some (.t 44)) none), none, none, [], false⟩,
⟨3, some 46, .p (.mv (.t 0)), none, none, [], false⟩,
⟨4, some 47, .p (.mv (.t 4)), none, none, [], false⟩,
⟨5, some 48, .p (.iaddr 2 (.t 46) (.t 47)), none, none, [], false⟩,
⟨6, some 49, .l (.load true 2 (.t 48)), none, none, [], false⟩,
⟨7, some 50, .a (.bslice 2 1 [(.int .i64 0), (.int .i64 0)] [(0, 2, (.t 49))]), none, (some 7), [], false⟩,
⟨8, some 51, .e (.append 2 16 (.t 45) (.t 50)), none, none, [], false⟩,
⟨9, some 3, .p (.mv (.t 51)), none, none, [], false⟩]
def f22r10 : List SOper := [
⟨0, some 52, .p (.mv (.t 3)), none, none, [], false⟩,
⟨1, some 53, .p (.mv (.t 6)), none, none, [], false⟩,
⟨2, some 54, .e (.append 2 16 (.t 52) (.t 53)), none, none, [], false⟩,
⟨3, some 3, .p (.mv (.t 54)), none, none, [], false⟩]
def f22r11 : List SOper := [
⟨0, some 12, .p (.mv (.t 4)), none, none, [], false⟩,
⟨1, some 13, .p (.bin .add (.t 12) (.c (.one (.int .i64 1)))), none, none, [], false⟩,
⟨2, some 4, .p (.mv (.t 13)), none, none, [], false⟩]
def f22b1 : SC := (.seq (.seq (.ops f22r3 0) (.cond (.t 11) .skip (.exit 0))) (.seq (.block 1 (.seq (.seq (.ops f22r4 0) (.cond (.t 19) (.exit 1) .skip)) (.seq (.ops f22r5 0) (.seq (.block 2 (.loop f22b0)) (.seq (.ops f22r8 0) (.seq (.ops f22r9 10) (.ops f22r10 0))))))) (.ops f22r11 0)))
def f22r12 : List SOper := [
⟨0, some 55, .p (.mv (.t 3)), none, none, [], false⟩,
⟨1, some 2, .p (.mv (.t 55)), none, none, [], false⟩]
def f22c : SC := (.seq (.ops f22r0 0) (.seq (.ops f22r1 0) (.seq (.seq (.ops f22r2 0) (.block 0 (.loop f22b1))) (.seq (.ops f22r12 0) .ret))))
def f22 : SFn := ⟨56, f22c, [.t 2]⟩

/- sixdot/sixdotref12.Before -/
def f23r0 : List SOper := [
⟨0, some 2, .a (.box (.t 0)), none, none, [], false⟩,
⟨1, some 3, .a (.box (.t 1)), none, none, [], false⟩,
⟨2, some 4, .p (.mv (.c (.one (.bool false)))), none, none, [], false⟩]
def f23r1 : List SOper := [
⟨0, some 5, .p (.faddr 1 (.t 2)), none, none, [], false⟩,
⟨1, some 6, .l (.load false 1 (.t 5)), none, none, [], false⟩,
⟨2, some 7, .p (.faddr 1 (.t 3)), none, none, [], false⟩,
⟨3, some 8, .l (.load false 1 (.t 7)), none, none, [], false⟩,
⟨4, some 9, .p (.bin .lss (.t 6) (.t 8)), none, none, [], false⟩,
⟨5, some 10, .p (.mv (.t 9)), none, none, [], false⟩,
⟨6, some 11, .p (.faddr 1 (.t 2)), (some (10, false)), none, [], false⟩,
⟨7, some 12, .l (.load false 1 (.t 11)), (some (10, false)), none, [], false⟩,
⟨8, some 13, .p (.faddr 1 (.t 3)), (some (10, false)), none, [], false⟩,
⟨9, some 14, .l (.load false 1 (.t 13)), (some (10, false)), none, [], false⟩,
⟨10, some 15, .p (.bin .eql (.t 12) (.t 14)), (some (10, false)), none, [], false⟩,
⟨11, some 16, .p (.mv (.t 15)), (some (10, false)), none, [], false⟩,
⟨12, some 17, .p (.faddr 0 (.t 2)), (some (16, true)), none, [], false⟩,
⟨13, some 18, .l (.load false 1 (.t 17)), (some (16, true)), none, [], false⟩,
⟨14, some 19, .p (.faddr 0 (.t 3)), (some (16, true)), none, [], false⟩,
⟨15, some 20, .l (.load false 1 (.t 19)), (some (16, true)), none, [], false⟩,
⟨16, some 21, .p (.bin .lss (.t 18) (.t 20)), (some (16, true)), none, [], false⟩,
⟨17, some 22, .p (.pick (.t 16) (.t 21) (.c (.one (.bool false)))), (some (10, false)), none, [], false⟩,
⟨18, some 23, .p (.pick (.t 10) (.c (.one (.bool true))) (.t 22)), none, none, [], false⟩,
⟨19, some 4, .p (.mv (.t 23)), none, none, [], false⟩]
def f23c : SC := (.seq (.ops f23r0 0) (.seq (.ops f23r1 0) .ret))
def f23 : SFn := ⟨24, f23c, [.t 4]⟩

/- sixdot/sixdotref12.Distance -/
def f24r0 : List SOper := [
⟨0, some 4, .p (.mv (.c (.one (.int .i64 0)))), none, none, [], false⟩]
def f24r1 : List SOper := [
⟨0, some 5, .p (.mv (.c (.one (.int .i64 (-1))))), none, none, [], false⟩]
def f24r2 : List SOper := [
⟨0, some 6, .p (.mv (.c (.one (.int .i64 0)))), none, none, [], false⟩]
def f24r3 : List SOper := [
⟨0, some 9, .p (.mv (.t 6)), none, none, [], false⟩,
⟨1, some 10, .p (.mv (.t 0)), none, none, [], false⟩,
⟨2, some 11, .p (.len (.t 10)), none, none, [], false⟩,
⟨3, some 12, .p (.bin .lss (.t 9) (.t 11)), none, none, [], false⟩]
def f24r4 : List SOper := [
⟨0, some 7, .p (.mv (.c (.one (.int .i64 0)))), none, none, [], false⟩]
def f24r5 : List SOper := [
⟨0, some 15, .p (.mv (.t 7)), none, none, [], false⟩,
⟨1, some 16, .p (.mv (.t 1)), none, none, [], false⟩,
⟨2, some 17, .p (.len (.t 16)), none, none, [], false⟩,
⟨3, some 18, .p (.bin .lss (.t 15) (.t 17)), none, none, [], false⟩]
def f24r6 : List SOper := [
⟨0, some 21, .p (.mv (.t 0)), none, none, [], false⟩,
⟨1, some 22, .p (.mv (.t 6)), none, none, [], false⟩,
⟨2, some 23, .p (.iaddr 2 (.t 21) (.t 22)), none, none, [], false⟩,
⟨3, some 24, .l (.load true 2 (.t 23)), none, none, [], false⟩,
⟨4, some 25, .p (.mv (.t 1)), none, none, [], false⟩,
⟨5, some 26, .p (.mv (.t 7)), none, none, [], false⟩,
⟨6, some 27, .p (.iaddr 2 (.t 25) (.t 26)), none, none, [], false⟩,
⟨7, some 28, .l (.load true 2 (.t 27)), none, none, [], false⟩,
⟨8, some 29, .cf 15 [(.t 24), (.t 28)], none, none, [], false⟩,
⟨9, some 8, .p (.mv (.t 29)), none, none, [], false⟩]
def f24r7 : List SOper := [
⟨0, some 30, .p (.mv (.t 5)), none, none, [], false⟩,
⟨1, some 31, .p (.bin .lss (.t 30) (.c (.one (.int .i64 0)))), none, none, [], false⟩,
⟨2, some 32, .p (.mv (.t 31)), none, none, [], false⟩,
⟨3, some 33, .p (.mv (.t 8)), (some (32, false)), none, [], false⟩,
⟨4, some 34, .p (.mv (.t 5)), (some (32, false)), none, [], false⟩,
⟨5, some 35, .p (.bin .lss (.t 33) (.t 34)), (some (32, false)), none, [], false⟩,
⟨6, some 36, .p (.pick (.t 32) (.c (.one (.bool true))) (.t 35)), none, none, [], false⟩]
def f24r8 : List SOper := [
⟨0, some 37, .p (.mv (.t 8)), none, none, [], false⟩,
⟨1, some 5, .p (.mv (.t 37)), none, none, [], false⟩]
def f24r9 : List SOper := [
⟨0, some 19, .p (.mv (.t 7)), none, none, [], false⟩,
⟨1, some 20, .p (.bin .add (.t 19) (.c (.one (.int .i64 1)))), none, none, [], false⟩,
⟨2, some 7, .p (.mv (.t 20)), none, none, [], false⟩]
def f24b0 : SC := (.seq (.seq (.ops f24r5 0) (.cond (.t 18) .skip (.exit 2))) (.seq (.block 3 (.seq (.ops f24r6 10) (.seq (.ops f24r7 0) (.cond (.t 36) (.ops f24r8 0) .skip)))) (.ops f24r9 0)))
def f24r10 : List SOper := [
⟨0, some 13, .p (.mv (.t 6)), none, none, [], false⟩,
⟨1, some 14, .p (.bin .add (.t 13) (.c (.one (.int .i64 1)))), none, none, [], false⟩,
⟨2, some 6, .p (.mv (.t 14)), none, none, [], false⟩]
def f24b1 : SC := (.seq (.seq (.ops f24r3 0) (.cond (.t 12) .skip (.exit 0))) (.seq (.block 1 (.seq (.ops f24r4 0) (.block 2 (.loop f24b0)))) (.ops f24r10 0)))
def f24r11 : List SOper := [
⟨0, some 38, .p (.mv (.t 5)), none, none, [], false⟩,
⟨1, some 4, .p (.mv (.t 38)), none, none, [], false⟩]
def f24c : SC := (.seq (.ops f24r0 0) (.seq (.ops f24r1 0) (.seq (.seq (.ops f24r2 0) (.block 0 (.loop f24b1))) (.seq (.ops f24r11 0) .ret))))
def f24 : SFn := ⟨39, f24c, [.t 4]⟩

/- sixdot/sixdotref12.Clusters -/
def f25r0 : List SOper := [
⟨0, some 4, .p (.mv (.c (.one .nils))), none, none, [], false⟩]
def f25r1 : List SOper := [
⟨0, some 12, .p (.mv (.t 0)), none, none, [], false⟩,
⟨1, some 13, .cf 22 [(.t 12)], none, none, [], false⟩,
⟨2, some 14, .a (.bslice 1 0 [.nils] []), none, none, [], false⟩,
⟨3, some 5, .p (.mv (.t 13)), none, none, [], false⟩,
⟨4, some 6, .p (.mv (.t 14)), none, none, [], false⟩]
def f25r2 : List SOper := [
⟨0, some 15, .p (.mv (.t 5)), none, none, [], false⟩,
⟨1, some 16, .p (.len (.t 15)), none, none, [], false⟩,
⟨2, some 17, .p (.bin .gtr (.t 16) (.c (.one (.int .i64 0)))), none, none, [], false⟩]
def f25r3 : List SOper := [
⟨0, some 18, .p (.mv (.t 5)), none, none, [], false⟩,
⟨1, some 19, .p (.iaddr 2 (.t 18) (.c (.one (.int .i64 0)))), none, none, [], false⟩,
⟨2, some 20, .l (.load true 2 (.t 19)), none, none, [], false⟩,
⟨3, some 21, .a (.bslice 2 1 [(.int .i64 0), (.int .i64 0)] [(0, 2, (.t 20))]), none, none, [], false⟩,
⟨4, some 7, .p (.mv (.t 21)), none, none, [], false⟩]
def f25r4 : List SOper := [
⟨0, some 8, .p (.mv (.c (.one (.bool true)))), none, none, [], false⟩]
def f25r5 : List SOper := [
⟨0, some 22, .p (.mv (.t 8)), none, none, [], false⟩]
def f25r6 : List SOper := [
⟨0, some 8, .p (.mv (.c (.one (.bool false)))), none, none, [], false⟩]
def f25r7 : List SOper := [
⟨0, some 9, .p (.mv (.c (.one (.int .i64 0)))), none, none, [], false⟩]
def f25r8 : List SOper := [
⟨0, some 23, .p (.mv (.t 9)), none, none, [], false⟩,
⟨1, some 24, .p (.mv (.t 5)), none, none, [], false⟩,
⟨2, some 25, .p (.len (.t 24)), none, none, [], false⟩,
⟨3, some 26, .p (.bin .lss (.t 23) (.t 25)), none, none, [], false⟩]
def f25r9 : List SOper := [
⟨0, some 29, .p (.mv (.t 7)), none, none, [], false⟩,
⟨1, some 30, .p (.mv (.t 5)), none, none, [], false⟩,
⟨2, some 31, .p (.mv (.t 9)), none, none, [], false⟩,
⟨3, some 32, .p (.iaddr 2 (.t 30) (.t 31)), none, none, [], false⟩,
⟨4, some 33, .l (.load true 2 (.t 32)), none, none, [], false⟩,
⟨5, some 34, .cf 20 [(.t 29), (.t 33)], none, none, [], false⟩,
⟨6, some 35, .p (.not (.t 34)), none, none, [], false⟩,
⟨7, some 36, .p (.mv (.t 35)), none, none, [], false⟩,
⟨8, some 37, .p (.mv (.t 7)), (some (36, true)), none, [], false⟩,
⟨9, some 38, .p (.mv (.t 5)), (some (36, true)), none, [], false⟩,
⟨10, some 39, .p (.mv (.t 9)), (some (36, true)), none, [], false⟩,
⟨11, some 40, .p (.mv (.t 9)), (some (36, true)), none, [], false⟩,
⟨12, some 41, .p (.bin .add (.t 40) (.c (.one (.int .i64 1)))), (some (36, true)), none, [], false⟩,
⟨13, some 42, .p (.slice 2 (.t 38) (some (.t 39)) (some (.t 41)) none), (some (36, true)), none, [], false⟩,
⟨14, some 43, .cf 24 [(.t 37), (.t 42)], (some (36, true)), none, [], false⟩,
⟨15, some 44, .p (.mv (.t 1)), (some (36, true)), none, [], false⟩,
⟨16, some 45, .p (.bin .leq (.t 43) (.t 44)), (some (36, true)), none, [], false⟩,
⟨17, some 46, .p (.pick (.t 36) (.t 45) (.c (.one (.bool false)))), none, none, [], false⟩]
def f25r10 : List SOper := [
⟨0, some 47, .p (.mv (.t 7)), none, none, [], false⟩,
⟨1, some 48, .p (.mv (.t 5)), none, none, [], false⟩,
⟨2, some 49, .p (.mv (.t 9)), none, none, [], false⟩,
⟨3, some 50, .p (.iaddr 2 (.t 48) (.t 49)), none, none, [], false⟩,
⟨4, some 51, .l (.load true 2 (.t 50)), none, none, [], false⟩,
⟨5, some 52, .a (.bslice 2 1 [(.int .i64 0), (.int .i64 0)] [(0, 2, (.t 51))]), none, none, [], false⟩,
⟨6, some 53, .e (.append 2 16 (.t 47) (.t 52)), none, none, [], false⟩,
⟨7, some 7, .p (.mv (.t 53)), none, none, [], false⟩]
def f25r11 : List SOper := [
⟨0, some 8, .p (.mv (.c (.one (.bool true)))), none, none, [], false⟩]
def f25r12 : List SOper := [
⟨0, some 27, .p (.mv (.t 9)), none, none, [], false⟩,
⟨1, some 28, .p (.bin .add (.t 27) (.c (.one (.int .i64 1)))), none, none, [], false⟩,
⟨2, some 9, .p (.mv (.t 28)), none, none, [], false⟩]
def f25b0 : SC := (.seq (.seq (.ops f25r8 0) (.cond (.t 26) .skip (.exit 4))) (.seq (.block 5 (.seq (.ops f25r9 0) (.cond (.t 46) (.seq (.ops f25r10 0) (.ops f25r11 0)) .skip))) (.ops f25r12 0)))
def f25b1 : SC := (.seq (.seq (.ops f25r5 0) (.cond (.t 22) .skip (.exit 2))) (.block 3 (.seq (.ops f25r6 0) (.seq (.ops f25r7 0) (.block 4 (.loop f25b0))))))
def f25r13 : List SOper := [
⟨0, some 54, .a (.bslice 2 0 [(.int .i64 0), (.int .i64 0)] []), none, none, [], false⟩,
⟨1, some 10, .p (.mv (.t 54)), none, none, [], false⟩]
def f25r14 : List SOper := [
⟨0, some 11, .p (.mv (.c (.one (.int .i64 0)))), none, none, [], false⟩]
def f25r15 : List SOper := [
⟨0, some 55, .p (.mv (.t 11)), none, none, [], false⟩,
⟨1, some 56, .p (.mv (.t 5)), none, none, [], false⟩,
⟨2, some 57, .p (.len (.t 56)), none, none, [], false⟩,
⟨3, some 58, .p (.bin .lss (.t 55) (.t 57)), none, none, [], false⟩]
def f25r16 : List SOper := [
⟨0, some 61, .p (.mv (.t 7)), none, none, [], false⟩,
⟨1, some 62, .p (.mv (.t 5)), none, none, [], false⟩,
⟨2, some 63, .p (.mv (.t 11)), none, none, [], false⟩,
⟨3, some 64, .p (.iaddr 2 (.t 62) (.t 63)), none, none, [], false⟩,
⟨4, some 65, .l (.load true 2 (.t 64)), none, none, [], false⟩,
⟨5, some 66, .cf 20 [(.t 61), (.t 65)], none, none, [], false⟩,
⟨6, some 67, .p (.not (.t 66)), none, none, [], false⟩]
def f25r17 : List SOper := [
⟨0, some 68, .p (.mv (.t 10)), none, none, [], false⟩,
⟨1, some 69, .p (.mv (.t 5)), none, none, [], false⟩,
⟨2, some 70, .p (.mv (.t 11)), none, none, [], false⟩,
⟨3, some 71, .p (.iaddr 2 (.t 69) (.t 70)), none, none, [], false⟩,
⟨4, some 72, .l (.load true 2 (.t 71)), none, none, [], false⟩,
⟨5, some 73, .a (.bslice 2 1 [(.int .i64 0), (.int .i64 0)] [(0, 2, (.t 72))]), none, none, [], false⟩,
⟨6, some 74, .e (.append 2 16 (.t 68) (.t 73)), none, none, [], false⟩,
⟨7, some 10, .p (.mv (.t 74)), none, none, [], false⟩]
def f25r18 : List SOper := [
⟨0, some 59, .p (.mv (.t 11)), none, none, [], false⟩,
⟨1, some 60, .p (.bin .add (.t 59) (.c (.one (.int .i64 1)))), none, none, [], false⟩,
⟨2, some 11, .p (.mv (.t 60)), none, none, [], false⟩]
def f25b2 : SC := (.seq (.seq (.ops f25r15 0) (.cond (.t 58) .skip (.exit 6))) (.seq (.block 7 (.seq (.ops f25r16 0) (.cond (.t 67) (.ops f25r17 0) .skip))) (.ops f25r18 0)))
def f25r19 : List SOper := [
⟨0, some 75, .p (.mv (.t 10)), none, none, [], false⟩,
⟨1, some 76, .p (.mv (.t 6)), none, none, [], false⟩,
⟨2, some 77, .p (.mv (.t 7)), none, none, [], false⟩,
⟨3, some 78, .cf 22 [(.t 77)], none, none, [], false⟩,
⟨4, some 79, .a (.bslice 1 1 [.nils] [(0, 1, (.t 78))]), none, none, [], false⟩,
⟨5, some 80, .e (.append 1 24 (.t 76) (.t 79)), none, none, [], false⟩,
⟨6, some 5, .p (.mv (.t 75)), none, none, [], false⟩,
⟨7, some 6, .p (.mv (.t 80)), none, none, [], false⟩]
def f25b3 : SC := (.seq (.seq (.ops f25r2 0) (.cond (.t 17) .skip (.exit 0))) (.block 1 (.seq (.ops f25r3 0) (.seq (.seq (.ops f25r4 0) (.block 2 (.loop f25b1))) (.seq (.ops f25r13 0) (.seq (.seq (.ops f25r14 0) (.block 6 (.loop f25b2))) (.ops f25r19 0)))))))
def f25r20 : List SOper := [
⟨0, some 81, .p (.mv (.t 6)), none, none, [], false⟩,
⟨1, some 4, .p (.mv (.t 81)), none, none, [], false⟩]
def f25c : SC := (.seq (.ops f25r0 0) (.seq (.ops f25r1 0) (.seq (.block 0 (.loop f25b3)) (.seq (.ops f25r20 0) .ret))))
def f25 : SFn := ⟨82, f25c, [.t 4]⟩

/- sixdot/grid.FromCells -/
def f26r0 : List SOper := [
⟨0, some 6, .a (.alloc [(.int .i64 0), (.int .i64 0), .nils]), none, none, [], false⟩,
⟨1, some 7, .p (.mv (.c (.one (.int .i64 0)))), none, none, [], false⟩]
def f26r1 : List SOper := [
⟨0, some 18, .p (.mv (.t 1)), none, none, [], false⟩,
⟨1, some 19, .p (.bin .lss (.t 18) (.c (.one (.int .i64 0)))), none, none, [], false⟩,
⟨2, some 20, .p (.mv (.t 19)), none, none, [], false⟩,
⟨3, some 21, .p (.mv (.t 1)), (some (20, false)), none, [], false⟩,
⟨4, some 22, .p (.bin .gtr (.t 21) (.c (.one (.int .i64 200)))), (some (20, false)), none, [], false⟩,
⟨5, some 23, .p (.pick (.t 20) (.c (.one (.bool true))) (.t 22)), none, none, [], false⟩,
⟨6, some 24, .p (.mv (.t 23)), none, none, [], false⟩,
⟨7, some 25, .p (.mv (.t 1)), (some (24, false)), none, [], false⟩,
⟨8, some 26, .p (.bin .rem (.t 25) (.c (.one (.int .i64 2)))), (some (24, false)), none, [], false⟩,
⟨9, some 27, .p (.bin .neq (.t 26) (.c (.one (.int .i64 0)))), (some (24, false)), none, [], false⟩,
⟨10, some 28, .p (.pick (.t 24) (.c (.one (.bool true))) (.t 27)), none, none, [], false⟩,
⟨11, some 29, .p (.mv (.t 28)), none, none, [], false⟩,
⟨12, some 30, .p (.mv (.t 2)), (some (29, false)), none, [], false⟩,
⟨13, some 31, .p (.bin .lss (.t 30) (.c (.one (.int .i64 0)))), (some (29, false)), none, [], false⟩,
⟨14, some 32, .p (.pick (.t 29) (.c (.one (.bool true))) (.t 31)), none, none, [], false⟩,
⟨15, some 33, .p (.mv (.t 32)), none, none, [], false⟩,
⟨16, some 34, .p (.mv (.t 2)), (some (33, false)), none, [], false⟩,
⟨17, some 35, .p (.bin .gtr (.t 34) (.c (.one (.int .i64 200)))), (some (33, false)), none, [], false⟩,
⟨18, some 36, .p (.pick (.t 33) (.c (.one (.bool true))) (.t 35)), none, none, [], false⟩,
⟨19, some 37, .p (.mv (.t 36)), none, none, [], false⟩,
⟨20, some 38, .p (.mv (.t 2)), (some (37, false)), none, [], false⟩,
⟨21, some 39, .p (.bin .rem (.t 38) (.c (.one (.int .i64 3)))), (some (37, false)), none, [], false⟩,
⟨22, some 40, .p (.bin .neq (.t 39) (.c (.one (.int .i64 0)))), (some (37, false)), none, [], false⟩,
⟨23, some 41, .p (.pick (.t 37) (.c (.one (.bool true))) (.t 40)), none, none, [], false⟩,
⟨24, some 42, .p (.mv (.t 41)), none, none, [], false⟩,
⟨25, some 43, .p (.mv (.t 0)), (some (42, false)), none, [], false⟩,
⟨26, some 44, .p (.len (.t 43)), (some (42, false)), none, [], false⟩,
⟨27, some 45, .p (.mv (.t 2)), (some (42, false)), none, [], false⟩,
⟨28, some 46, .p (.bin .quo (.t 45) (.c (.one (.int .i64 3)))), (some (42, false)), none, [], false⟩,
⟨29, some 47, .p (.bin .gtr (.t 44) (.t 46)), (some (42, false)), none, [], false⟩,
⟨30, some 48, .p (.pick (.t 42) (.c (.one (.bool true))) (.t 47)), none, none, [], false⟩]
def f26r2 : List SOper := [
⟨0, some 49, .p (.build [(.int .i64 0), (.int .i64 0), .nils] []), none, none, [], false⟩,
⟨1, none, .e (.store 3 (.t 6) (.t 49)), none, none, [], false⟩,
⟨2, some 7, .p (.mv (.c (.one (.int .i64 1)))), none, none, [], false⟩]
def f26r3 : List SOper := [
⟨0, some 50, .p (.mv (.t 0)), none, none, [], false⟩,
⟨1, some 51, .p (.len (.t 50)), none, none, [], false⟩,
⟨2, some 52, .p (.mv (.c (.one (.int .i64 0)))), none, none, [], false⟩]
def f26r4 : List SOper := [
⟨0, some 53, .p (.bin .lss (.t 52) (.t 51)), none, none, [], false⟩]
def f26r5 : List SOper := [
⟨0, some 54, .p (.iaddr 1 (.t 50) (.t 52)), none, none, [], false⟩,
⟨1, some 55, .l (.load false 1 (.t 54)), none, none, [], false⟩,
⟨2, some 9, .p (.mv (.t 55)), none, none, [], false⟩]
def f26r6 : List SOper := [
⟨0, some 56, .p (.mv (.t 9)), none, none, [], false⟩,
⟨1, some 57, .p (.len (.t 56)), none, none, [], false⟩,
⟨2, some 58, .p (.mv (.t 1)), none, none, [], false⟩,
⟨3, some 59, .p (.bin .quo (.t 58) (.c (.one (.int .i64 2)))), none, none, [], false⟩,
⟨4, some 60, .p (.bin .gtr (.t 57) (.t 59)), none, none, [], false⟩]
def f26r7 : List SOper := [
⟨0, some 61, .p (.build [(.int .i64 0), (.int .i64 0), .nils] []), none, none, [], false⟩,
⟨1, none, .e (.store 3 (.t 6) (.t 61)), none, none, [], false⟩,
⟨2, some 7, .p (.mv (.c (.one (.int .i64 1)))), none, none, [], false⟩]
def f26r8 : List SOper := [
⟨0, some 62, .p (.mv (.t 9)), none, none, [], false⟩,
⟨1, some 63, .p (.len (.t 62)), none, none, [], false⟩,
⟨2, some 64, .p (.mv (.c (.one (.int .i64 0)))), none, none, [], false⟩]
def f26r9 : List SOper := [
⟨0, some 65, .p (.bin .lss (.t 64) (.t 63)), none, none, [], false⟩]
def f26r10 : List SOper := [
⟨0, some 66, .p (.iaddr 1 (.t 62) (.t 64)), none, none, [], false⟩,
⟨1, some 67, .l (.load false 1 (.t 66)), none, none, [], false⟩,
⟨2, some 11, .p (.mv (.t 67)), none, none, [], false⟩]
def f26r11 : List SOper := [
⟨0, some 68, .p (.mv (.t 11)), none, none, [], false⟩,
⟨1, some 69, .cf 53 [(.t 68)], none, none, [], false⟩,
⟨2, some 70, .p (.not (.t 69)), none, none, [], false⟩]
def f26r12 : List SOper := [
⟨0, some 71, .p (.build [(.int .i64 0), (.int .i64 0), .nils] []), none, none, [], false⟩,
⟨1, none, .e (.store 3 (.t 6) (.t 71)), none, none, [], false⟩,
⟨2, some 7, .p (.mv (.c (.one (.int .i64 1)))), none, none, [], false⟩]
def f26r13 : List SOper := [
⟨0, some 72, .p (.bin .add (.t 64) (.c (.one (.int .i64 1)))), none, none, [], false⟩,
⟨1, some 64, .p (.mv (.t 72)), none, none, [], false⟩]
def f26b0 : SC := (.seq (.ops f26r9 0) (.seq (.cond (.t 65) .skip (.exit 2)) (.seq (.block 3 (.seq (.ops f26r10 0) (.seq (.ops f26r11 0) (.cond (.t 70) (.seq (.ops f26r12 0) .ret) .skip)))) (.ops f26r13 0))))
def f26r14 : List SOper := [
⟨0, some 73, .p (.bin .add (.t 52) (.c (.one (.int .i64 1)))), none, none, [], false⟩,
⟨1, some 52, .p (.mv (.t 73)), none, none, [], false⟩]
def f26b1 : SC := (.seq (.ops f26r4 0) (.seq (.cond (.t 53) .skip (.exit 0)) (.seq (.block 1 (.seq (.ops f26r5 0) (.seq (.seq (.ops f26r6 0) (.cond (.t 60) (.seq (.ops f26r7 0) .ret) .skip)) (.seq (.ops f26r8 0) (.block 2 (.loop f26b0)))))) (.ops f26r14 0))))
def f26r15 : List SOper := [
⟨0, some 74, .p (.mv (.t 1)), none, none, [], false⟩,
⟨1, some 75, .p (.mv (.t 2)), none, none, [], false⟩,
⟨2, some 76, .cf 31 [(.t 74), (.t 75)], none, none, [], false⟩,
⟨3, some 12, .a (.alloc [(.int .i64 0), (.int .i64 0), .nils]), none, none, [], false⟩,
⟨4, none, .e (.store 3 (.t 12) (.t 76)), none, none, [], false⟩]
def f26r16 : List SOper := [
⟨0, some 77, .p (.mv (.t 0)), none, none, [], false⟩,
⟨1, some 78, .p (.len (.t 77)), none, none, [], false⟩,
⟨2, some 79, .p (.mv (.c (.one (.int .i64 0)))), none, none, [], false⟩]
def f26r17 : List SOper := [
⟨0, some 80, .p (.bin .lss (.t 79) (.t 78)), none, none, [], false⟩]
def f26r18 : List SOper := [
⟨0, some 81, .p (.mv (.t 79)), none, none, [], false⟩,
⟨1, some 82, .p (.iaddr 1 (.t 77) (.t 79)), none, none, [], false⟩,
⟨2, some 83, .l (.load false 1 (.t 82)), none, none, [], false⟩,
⟨3, some 13, .p (.mv (.t 81)), none, none, [], false⟩,
⟨4, some 14, .p (.mv (.t 83)), none, none, [], false⟩]
def f26r19 : List SOper := [
⟨0, some 84, .p (.mv (.t 14)), none, none, [], false⟩,
⟨1, some 85, .p (.len (.t 84)), none, none, [], false⟩,
⟨2, some 86, .p (.mv (.c (.one (.int .i64 0)))), none, none, [], false⟩]
def f26r20 : List SOper := [
⟨0, some 87, .p (.bin .lss (.t 86) (.t 85)), none, none, [], false⟩]
def f26r21 : List SOper := [
⟨0, some 88, .p (.mv (.t 86)), none, none, [], false⟩,
⟨1, some 89, .p (.iaddr 1 (.t 84) (.t 86)), none, none, [], false⟩,
⟨2, some 90, .l (.load false 1 (.t 89)), none, none, [], false⟩,
⟨3, some 15, .p (.mv (.t 88)), none, none, [], false⟩,
⟨4, some 16, .p (.mv (.t 90)), none, none, [], false⟩]
def f26r22 : List SOper := [
⟨0, some 91, .p (.mv (.c (.one (.int .i64 0)))), none, none, [], false⟩]
def f26r23 : List SOper := [
⟨0, some 92, .p (.bin .lss (.t 91) (.c (.one (.int .i64 6)))), none, none, [], false⟩]
def f26r24 : List SOper := [
⟨0, some 93, .p (.mv (.t 91)), none, none, [], false⟩,
⟨1, some 17, .p (.mv (.t 93)), none, none, [], false⟩]
def f26r25 : List SOper := [
⟨0, some 94, .p (.mv (.t 16)), none, none, [], false⟩,
⟨1, some 95, .p (.mv (.t 17)), none, none, [], false⟩,
⟨2, some 96, .p (.bin .shr (.t 94) (.t 95)), none, none, [], false⟩,
⟨3, some 97, .p (.bin .and (.t 96) (.c (.one (.int .u8 1)))), none, none, [], false⟩,
⟨4, some 98, .p (.bin .eql (.t 97) (.c (.one (.int .u8 1)))), none, none, [], false⟩]
def f26r26 : List SOper := [
⟨0, some 99, .p (.faddr 2 (.t 12)), none, none, [], false⟩,
⟨1, some 100, .l (.load false 1 (.t 99)), none, none, [], false⟩,
⟨2, some 101, .p (.mv (.t 13)), none, none, [], false⟩,
⟨3, some 102, .p (.bin .mul (.c (.one (.int .i64 3))) (.t 101)), none, none, [], false⟩,
⟨4, some 103, .p (.mv (.t 17)), none, none, [], false⟩,
⟨5, some 104, .p (.aaddr 6 2 (.c (.one (.ptr 0 0))) (.t 103)), none, none, [], false⟩,
⟨6, some 105, .p (.faddr 1 (.t 104)), none, none, [], false⟩,
⟨7, some 106, .l (.load false 1 (.t 105)), none, none, [], false⟩,
⟨8, some 107, .p (.bin .add (.t 102) (.t 106)), none, none, [], false⟩,
⟨9, some 108, .p (.iaddr 1 (.t 100) (.t 107)), none, none, [], false⟩,
⟨10, some 109, .l (.load false 1 (.t 108)), none, none, [], false⟩,
⟨11, some 110, .p (.mv (.t 15)), none, none, [], false⟩,
⟨12, some 111, .p (.bin .mul (.c (.one (.int .i64 2))) (.t 110)), none, none, [], false⟩,
⟨13, some 112, .p (.mv (.t 17)), none, none, [], false⟩,
⟨14, some 113, .p (.aaddr 6 2 (.c (.one (.ptr 0 0))) (.t 112)), none, none, [], false⟩,
⟨15, some 114, .p (.faddr 0 (.t 113)), none, none, [], false⟩,
⟨16, some 115, .l (.load false 1 (.t 114)), none, none, [], false⟩,
⟨17, some 116, .p (.bin .add (.t 111) (.t 115)), none, none, [], false⟩,
⟨18, some 117, .p (.iaddr 1 (.t 109) (.t 116)), none, none, [], false⟩,
⟨19, none, .e (.store 1 (.t 117) (.c (.one (.bool true)))), none, none, [], false⟩]
def f26r27 : List SOper := [
⟨0, some 118, .p (.bin .add (.t 91) (.c (.one (.int .i64 1)))), none, none, [], false⟩,
⟨1, some 91, .p (.mv (.t 118)), none, none, [], false⟩]
def f26b2 : SC := (.seq (.ops f26r23 0) (.seq (.cond (.t 92) .skip (.exit 8)) (.seq (.block 9 (.seq (.ops f26r24 0) (.seq (.ops f26r25 0) (.cond (.t 98) (.ops f26r26 20) .skip)))) (.ops f26r27 0))))
def f26r28 : List SOper := [
⟨0, some 119, .p (.bin .add (.t 86) (.c (.one (.int .i64 1)))), none, none, [], false⟩,
⟨1, some 86, .p (.mv (.t 119)), none, none, [], false⟩]
def f26b3 : SC := (.seq (.ops f26r20 0) (.seq (.cond (.t 87) .skip (.exit 6)) (.seq (.block 7 (.seq (.ops f26r21 0) (.seq (.ops f26r22 0) (.block 8 (.loop f26b2))))) (.ops f26r28 0))))
def f26r29 : List SOper := [
⟨0, some 120, .p (.bin .add (.t 79) (.c (.one (.int .i64 1)))), none, none, [], false⟩,
⟨1, some 79, .p (.mv (.t 120)), none, none, [], false⟩]
def f26b4 : SC := (.seq (.ops f26r17 0) (.seq (.cond (.t 80) .skip (.exit 4)) (.seq (.block 5 (.seq (.ops f26r18 0) (.seq (.ops f26r19 0) (.block 6 (.loop f26b3))))) (.ops f26r29 0))))
def f26r30 : List SOper := [
⟨0, some 121, .l (.load true 3 (.t 12)), none, none, [], false⟩,
⟨1, none, .e (.store 3 (.t 6) (.t 121)), none, none, [], false⟩,
⟨2, some 7, .p (.mv (.c (.one (.int .i64 0)))), none, none, [], false⟩]
def f26c : SC := (.seq (.ops f26r0 0) (.seq (.seq (.ops f26r1 0) (.cond (.t 48) (.seq (.ops f26r2 0) .ret) .skip)) (.seq (.seq (.ops f26r3 0) (.block 0 (.loop f26b1))) (.seq (.ops f26r15 0) (.seq (.seq (.ops f26r16 0) (.block 4 (.loop f26b4))) (.seq (.ops f26r30 0) .ret))))))
def f26 : SFn := ⟨122, f26c, [.cell true 3 6, .t 7]⟩

/- sixdot/sixdotref12.Same -/
def f28r0 : List SOper := [
⟨0, some 2, .a (.box (.t 0)), none, none, [], false⟩,
⟨1, some 3, .a (.box (.t 1)), none, none, [], false⟩,
⟨2, some 4, .p (.mv (.c (.one (.bool false)))), none, none, [], false⟩]
def f28r1 : List SOper := [
⟨0, some 7, .p (.faddr 0 (.t 2)), none, none, [], false⟩,
⟨1, some 8, .l (.load false 1 (.t 7)), none, none, [], false⟩,
⟨2, some 9, .p (.faddr 0 (.t 3)), none, none, [], false⟩,
⟨3, some 10, .l (.load false 1 (.t 9)), none, none, [], false⟩,
⟨4, some 11, .p (.bin .neq (.t 8) (.t 10)), none, none, [], false⟩,
⟨5, some 12, .p (.mv (.t 11)), none, none, [], false⟩,
⟨6, some 13, .p (.faddr 1 (.t 2)), (some (12, false)), none, [], false⟩,
⟨7, some 14, .l (.load false 1 (.t 13)), (some (12, false)), none, [], false⟩,
⟨8, some 15, .p (.faddr 1 (.t 3)), (some (12, false)), none, [], false⟩,
⟨9, some 16, .l (.load false 1 (.t 15)), (some (12, false)), none, [], false⟩,
⟨10, some 17, .p (.bin .neq (.t 14) (.t 16)), (some (12, false)), none, [], false⟩,
⟨11, some 18, .p (.pick (.t 12) (.c (.one (.bool true))) (.t 17)), none, none, [], false⟩,
⟨12, some 19, .p (.mv (.t 18)), none, none, [], false⟩,
⟨13, some 20, .p (.faddr 2 (.t 2)), (some (19, false)), none, [], false⟩,
⟨14, some 21, .l (.load false 1 (.t 20)), (some (19, false)), none, [], false⟩,
⟨15, some 22, .p (.len (.t 21)), (some (19, false)), none, [], false⟩,
⟨16, some 23, .p (.faddr 2 (.t 3)), (some (19, false)), none, [], false⟩,
⟨17, some 24, .l (.load false 1 (.t 23)), (some (19, false)), none, [], false⟩,
⟨18, some 25, .p (.len (.t 24)), (some (19, false)), none, [], false⟩,
⟨19, some 26, .p (.bin .neq (.t 22) (.t 25)), (some (19, false)), none, [], false⟩,
⟨20, some 27, .p (.pick (.t 19) (.c (.one (.bool true))) (.t 26)), none, none, [], false⟩]
def f28r2 : List SOper := [
⟨0, some 4, .p (.mv (.c (.one (.bool false)))), none, none, [], false⟩]
def f28r3 : List SOper := [
⟨0, some 5, .p (.mv (.c (.one (.int .i64 0)))), none, none, [], false⟩]
def f28r4 : List SOper := [
⟨0, some 28, .p (.mv (.t 5)), none, none, [], false⟩,
⟨1, some 29, .p (.faddr 2 (.t 2)), none, none, [], false⟩,
⟨2, some 30, .l (.load false 1 (.t 29)), none, none, [], false⟩,
⟨3, some 31, .p (.len (.t 30)), none, none, [], false⟩,
⟨4, some 32, .p (.bin .lss (.t 28) (.t 31)), none, none, [], false⟩]
def f28r5 : List SOper := [
⟨0, some 35, .p (.faddr 2 (.t 2)), none, none, [], false⟩,
⟨1, some 36, .l (.load false 1 (.t 35)), none, none, [], false⟩,
⟨2, some 37, .p (.mv (.t 5)), none, none, [], false⟩,
⟨3, some 38, .p (.iaddr 1 (.t 36) (.t 37)), none, none, [], false⟩,
⟨4, some 39, .l (.load false 1 (.t 38)), none, none, [], false⟩,
⟨5, some 40, .p (.len (.t 39)), none, none, [], false⟩,
⟨6, some 41, .p (.faddr 2 (.t 3)), none, none, [], false⟩,
⟨7, some 42, .l (.load false 1 (.t 41)), none, none, [], false⟩,
⟨8, some 43, .p (.mv (.t 5)), none, none, [], false⟩,
⟨9, some 44, .p (.iaddr 1 (.t 42) (.t 43)), none, none, [], false⟩,
⟨10, some 45, .l (.load false 1 (.t 44)), none, none, [], false⟩,
⟨11, some 46, .p (.len (.t 45)), none, none, [], false⟩,
⟨12, some 47, .p (.bin .neq (.t 40) (.t 46)), none, none, [], false⟩]
def f28r6 : List SOper := [
⟨0, some 4, .p (.mv (.c (.one (.bool false)))), none, none, [], false⟩]
def f28r7 : List SOper := [
⟨0, some 6, .p (.mv (.c (.one (.int .i64 0)))), none, none, [], false⟩]
def f28r8 : List SOper := [
⟨0, some 48, .p (.mv (.t 6)), none, none, [], false⟩,
⟨1, some 49, .p (.faddr 2 (.t 2)), none, none, [], false⟩,
⟨2, some 50, .l (.load false 1 (.t 49)), none, none, [], false⟩,
⟨3, some 51, .p (.mv (.t 5)), none, none, [], false⟩,
⟨4, some 52, .p (.iaddr 1 (.t 50) (.t 51)), none, none, [], false⟩,
⟨5, some 53, .l (.load false 1 (.t 52)), none, none, [], false⟩,
⟨6, some 54, .p (.len (.t 53)), none, none, [], false⟩,
⟨7, some 55, .p (.bin .lss (.t 48) (.t 54)), none, none, [], false⟩]
def f28r9 : List SOper := [
⟨0, some 58, .p (.faddr 2 (.t 2)), none, none, [], false⟩,
⟨1, some 59, .l (.load false 1 (.t 58)), none, none, [], false⟩,
⟨2, some 60, .p (.mv (.t 5)), none, none, [], false⟩,
⟨3, some 61, .p (.iaddr 1 (.t 59) (.t 60)), none, none, [], false⟩,
⟨4, some 62, .l (.load false 1 (.t 61)), none, none, [], false⟩,
⟨5, some 63, .p (.mv (.t 6)), none, none, [], false⟩,
⟨6, some 64, .p (.iaddr 1 (.t 62) (.t 63)), none, none, [], false⟩,
⟨7, some 65, .l (.load false 1 (.t 64)), none, none, [], false⟩,
⟨8, some 66, .p (.faddr 2 (.t 3)), none, none, [], false⟩,
⟨9, some 67, .l (.load false 1 (.t 66)), none, none, [], false⟩,
⟨10, some 68, .p (.mv (.t 5)), none, none, [], false⟩,
⟨11, some 69, .p (.iaddr 1 (.t 67) (.t 68)), none, none, [], false⟩,
⟨12, some 70, .l (.load false 1 (.t 69)), none, none, [], false⟩,
⟨13, some 71, .p (.mv (.t 6)), none, none, [], false⟩,
⟨14, some 72, .p (.iaddr 1 (.t 70) (.t 71)), none, none, [], false⟩,
⟨15, some 73, .l (.load false 1 (.t 72)), none, none, [], false⟩,
⟨16, some 74, .p (.beq true (.t 65) (.t 73)), none, none, [], false⟩]
def f28r10 : List SOper := [
⟨0, some 4, .p (.mv (.c (.one (.bool false)))), none, none, [], false⟩]
def f28r11 : List SOper := [
⟨0, some 56, .p (.mv (.t 6)), none, none, [], false⟩,
⟨1, some 57, .p (.bin .add (.t 56) (.c (.one (.int .i64 1)))), none, none, [], false⟩,
⟨2, some 6, .p (.mv (.t 57)), none, none, [], false⟩]
def f28b0 : SC := (.seq (.seq (.ops f28r8 0) (.cond (.t 55) .skip (.exit 2))) (.seq (.block 3 (.seq (.ops f28r9 17) (.cond (.t 74) (.seq (.ops f28r10 0) .ret) .skip))) (.ops f28r11 0)))
def f28r12 : List SOper := [
⟨0, some 33, .p (.mv (.t 5)), none, none, [], false⟩,
⟨1, some 34, .p (.bin .add (.t 33) (.c (.one (.int .i64 1)))), none, none, [], false⟩,
⟨2, some 5, .p (.mv (.t 34)), none, none, [], false⟩]
def f28b1 : SC := (.seq (.seq (.ops f28r4 0) (.cond (.t 32) .skip (.exit 0))) (.seq (.block 1 (.seq (.seq (.ops f28r5 13) (.cond (.t 47) (.seq (.ops f28r6 0) .ret) .skip)) (.seq (.ops f28r7 0) (.block 2 (.loop f28b0))))) (.ops f28r12 0)))
def f28r13 : List SOper := [
⟨0, some 4, .p (.mv (.c (.one (.bool true)))), none, none, [], false⟩]
def f28c : SC := (.seq (.ops f28r0 0) (.seq (.seq (.ops f28r1 0) (.cond (.t 27) (.seq (.ops f28r2 0) .ret) .skip)) (.seq (.seq (.ops f28r3 0) (.block 0 (.loop f28b1))) (.seq (.ops f28r13 0) .ret))))
def f28 : SFn := ⟨75, f28c, [.t 4]⟩

/- sixdot/grid.ToCells -/
def f29r0 : List SOper := [
⟨0, some 1, .a (.box (.t 0)), none, none, [], false⟩,
⟨1, some 2, .p (.mv (.c (.one .nils))), none, none, [], false⟩,
⟨2, some 3, .p (.mv (.c (.one (.int .i64 0)))), none, none, [], false⟩]
def f29r1 : List SOper := [
⟨0, some 8, .l (.load true 3 (.t 1)), none, none, [], false⟩,
⟨1, some 9, .cf 12 [(.t 8)], none, none, [], false⟩,
⟨2, some 10, .p (.not (.t 9)), none, none, [], false⟩,
⟨3, some 11, .p (.mv (.t 10)), none, none, [], false⟩,
⟨4, some 12, .p (.faddr 0 (.t 1)), (some (11, false)), none, [], false⟩,
⟨5, some 13, .l (.load false 1 (.t 12)), (some (11, false)), none, [], false⟩,
⟨6, some 14, .p (.bin .rem (.t 13) (.c (.one (.int .i64 2)))), (some (11, false)), none, [], false⟩,
⟨7, some 15, .p (.bin .neq (.t 14) (.c (.one (.int .i64 0)))), (some (11, false)), none, [], false⟩,
⟨8, some 16, .p (.pick (.t 11) (.c (.one (.bool true))) (.t 15)), none, none, [], false⟩,
⟨9, some 17, .p (.mv (.t 16)), none, none, [], false⟩,
⟨10, some 18, .p (.faddr 1 (.t 1)), (some (17, false)), none, [], false⟩,
⟨11, some 19, .l (.load false 1 (.t 18)), (some (17, false)), none, [], false⟩,
⟨12, some 20, .p (.bin .rem (.t 19) (.c (.one (.int .i64 3)))), (some (17, false)), none, [], false⟩,
⟨13, some 21, .p (.bin .neq (.t 20) (.c (.one (.int .i64 0)))), (some (17, false)), none, [], false⟩,
⟨14, some 22, .p (.pick (.t 17) (.c (.one (.bool true))) (.t 21)), none, none, [], false⟩]
def f29r2 : List SOper := [
⟨0, some 2, .p (.mv (.c (.one .nils))), none, none, [], false⟩,
⟨1, some 3, .p (.mv (.c (.one (.int .i64 1)))), none, none, [], false⟩]
def f29r3 : List SOper := [
⟨0, some 23, .p (.faddr 1 (.t 1)), none, none, [], false⟩,
⟨1, some 24, .l (.load false 1 (.t 23)), none, none, [], false⟩,
⟨2, some 25, .p (.bin .quo (.t 24) (.c (.one (.int .i64 3)))), none, none, [], false⟩,
⟨3, some 26, .a (.mkslice 1 24 [.nils] (.t 25) (.t 25)), none, none, [], false⟩,
⟨4, some 4, .p (.mv (.t 26)), none, none, [], false⟩]
def f29r4 : List SOper := [
⟨0, some 27, .p (.mv (.t 4)), none, none, [], false⟩,
⟨1, some 28, .p (.len (.t 27)), none, none, [], false⟩,
⟨2, some 29, .p (.mv (.c (.one (.int .i64 0)))), none, none, [], false⟩]
def f29r5 : List SOper := [
⟨0, some 30, .p (.bin .lss (.t 29) (.t 28)), none, none, [], false⟩]
def f29r6 : List SOper := [
⟨0, some 31, .p (.mv (.t 29)), none, none, [], false⟩,
⟨1, some 5, .p (.mv (.t 31)), none, none, [], false⟩]
def f29r7 : List SOper := [
⟨0, some 32, .p (.mv (.t 4)), none, none, [], false⟩,
⟨1, some 33, .p (.mv (.t 5)), none, none, [], false⟩,
⟨2, some 34, .p (.faddr 0 (.t 1)), none, none, [], false⟩,
⟨3, some 35, .l (.load false 1 (.t 34)), none, none, [], false⟩,
⟨4, some 36, .p (.bin .quo (.t 35) (.c (.one (.int .i64 2)))), none, none, [], false⟩,
⟨5, some 37, .a (.mkslice 1 1 [(.int .u8 0)] (.t 36) (.t 36)), none, none, [], false⟩,
⟨6, some 38, .p (.iaddr 1 (.t 32) (.t 33)), none, none, [], false⟩,
⟨7, none, .e (.store 1 (.t 38) (.t 37)), none, none, [], false⟩]
def f29r8 : List SOper := [
⟨0, some 39, .p (.mv (.t 4)), none, none, [], false⟩,
⟨1, some 40, .p (.mv (.t 5)), none, none, [], false⟩,
⟨2, some 41, .p (.iaddr 1 (.t 39) (.t 40)), none, none, [], false⟩,
⟨3, some 42, .l (.load false 1 (.t 41)), none, none, [], false⟩,
⟨4, some 43, .p (.len (.t 42)), none, none, [], false⟩,
⟨5, some 44, .p (.mv (.c (.one (.int .i64 0)))), none, none, [], false⟩]
def f29r9 : List SOper := [
⟨0, some 45, .p (.bin .lss (.t 44) (.t 43)), none, none, [], false⟩]
def f29r10 : List SOper := [
⟨0, some 46, .p (.mv (.t 44)), none, none, [], false⟩,
⟨1, some 6, .p (.mv (.t 46)), none, none, [], false⟩]
def f29r11 : List SOper := [
⟨0, some 47, .p (.mv (.c (.one (.int .i64 0)))), none, none, [], false⟩]
def f29r12 : List SOper := [
⟨0, some 48, .p (.bin .lss (.t 47) (.c (.one (.int .i64 6)))), none, none, [], false⟩]
def f29r13 : List SOper := [
⟨0, some 49, .p (.mv (.t 47)), none, none, [], false⟩,
⟨1, some 7, .p (.mv (.t 49)), none, none, [], false⟩]
def f29r14 : List SOper := [
⟨0, some 50, .p (.faddr 2 (.t 1)), none, none, [], false⟩,
⟨1, some 51, .l (.load false 1 (.t 50)), none, none, [], false⟩,
⟨2, some 52, .p (.mv (.t 5)), none, none, [], false⟩,
⟨3, some 53, .p (.bin .mul (.c (.one (.int .i64 3))) (.t 52)), none, none, [], false⟩,
⟨4, some 54, .p (.mv (.t 7)), none, none, [], false⟩,
⟨5, some 55, .p (.aaddr 6 2 (.c (.one (.ptr 0 0))) (.t 54)), none, none, [], false⟩,
⟨6, some 56, .p (.faddr 1 (.t 55)), none, none, [], false⟩,
⟨7, some 57, .l (.load false 1 (.t 56)), none, none, [], false⟩,
⟨8, some 58, .p (.bin .add (.t 53) (.t 57)), none, none, [], false⟩,
⟨9, some 59, .p (.iaddr 1 (.t 51) (.t 58)), none, none, [], false⟩,
⟨10, some 60, .l (.load false 1 (.t 59)), none, none, [], false⟩,
⟨11, some 61, .p (.mv (.t 6)), none, none, [], false⟩,
⟨12, some 62, .p (.bin .mul (.c (.one (.int .i64 2))) (.t 61)), none, none, [], false⟩,
⟨13, some 63, .p (.mv (.t 7)), none, none, [], false⟩,
⟨14, some 64, .p (.aaddr 6 2 (.c (.one (.ptr 0 0))) (.t 63)), none, none, [], false⟩,
⟨15, some 65, .p (.faddr 0 (.t 64)), none, none, [], false⟩,
⟨16, some 66, .l (.load false 1 (.t 65)), none, none, [], false⟩,
⟨17, some 67, .p (.bin .add (.t 62) (.t 66)), none, none, [], false⟩,
⟨18, some 68, .p (.iaddr 1 (.t 60) (.t 67)), none, none, [], false⟩,
⟨19, some 69, .l (.load false 1 (.t 68)), none, none, [], false⟩]
def f29r15 : List SOper := [
⟨0, some 70, .p (.mv (.t 4)), none, none, [], false⟩,
⟨1, some 71, .p (.mv (.t 5)), none, none, [], false⟩,
⟨2, some 72, .p (.iaddr 1 (.t 70) (.t 71)), none, none, [], false⟩,
⟨3, some 73, .l (.load false 1 (.t 72)), none, none, [], false⟩,
⟨4, some 74, .p (.mv (.t 6)), none, none, [], false⟩,
⟨5, some 75, .p (.iaddr 1 (.t 73) (.t 74)), none, none, [], false⟩,
⟨6, some 76, .l (.load false 1 (.t 75)), none, none, [], false⟩,
⟨7, some 77, .p (.mv (.t 7)), none, none, [], false⟩,
⟨8, some 78, .p (.bin .shl (.c (.one (.int .u8 1))) (.t 77)), none, none, [], false⟩,
⟨9, some 79, .p (.bin .or (.t 76) (.t 78)), none, none, [], false⟩,
⟨10, some 80, .p (.iaddr 1 (.t 73) (.t 74)), none, none, [], false⟩,
⟨11, none, .e (.store 1 (.t 80) (.t 79)), none, none, [], false⟩]
def f29r16 : List SOper := [
⟨0, some 81, .p (.bin .add (.t 47) (.c (.one (.int .i64 1)))), none, none, [], false⟩,
⟨1, some 47, .p (.mv (.t 81)), none, none, [], false⟩]
def f29b0 : SC := (.seq (.ops f29r12 0) (.seq (.cond (.t 48) .skip (.exit 4)) (.seq (.block 5 (.seq (.ops f29r13 0) (.seq (.ops f29r14 20) (.cond (.t 69) (.ops f29r15 12) .skip)))) (.ops f29r16 0))))
def f29r17 : List SOper := [
⟨0, some 82, .p (.bin .add (.t 44) (.c (.one (.int .i64 1)))), none, none, [], false⟩,
⟨1, some 44, .p (.mv (.t 82)), none, none, [], false⟩]
def f29b1 : SC := (.seq (.ops f29r9 0) (.seq (.cond (.t 45) .skip (.exit 2)) (.seq (.block 3 (.seq (.ops f29r10 0) (.seq (.ops f29r11 0) (.block 4 (.loop f29b0))))) (.ops f29r17 0))))
def f29r18 : List SOper := [
⟨0, some 83, .p (.bin .add (.t 29) (.c (.one (.int .i64 1)))), none, none, [], false⟩,
⟨1, some 29, .p (.mv (.t 83)), none, none, [], false⟩]
def f29b2 : SC := (.seq (.ops f29r5 0) (.seq (.cond (.t 30) .skip (.exit 0)) (.seq (.block 1 (.seq (.ops f29r6 0) (.seq (.ops f29r7 0) (.seq (.ops f29r8 0) (.block 2 (.loop f29b1)))))) (.ops f29r18 0))))
def f29r19 : List SOper := [
⟨0, some 84, .p (.mv (.t 4)), none, none, [], false⟩,
⟨1, some 2, .p (.mv (.t 84)), none, none, [], false⟩,
⟨2, some 3, .p (.mv (.c (.one (.int .i64 0)))), none, none, [], false⟩]
def f29c : SC := (.seq (.ops f29r0 0) (.seq (.seq (.ops f29r1 0) (.cond (.t 22) (.seq (.ops f29r2 0) .ret) .skip)) (.seq (.ops f29r3 0) (.seq (.seq (.ops f29r4 0) (.block 0 (.loop f29b2))) (.seq (.ops f29r19 0) .ret)))))
def f29 : SFn := ⟨85, f29c, [.t 2, .t 3]⟩

/- sixdot/sixdotref12.Some -/
def f30r0 : List SOper := [
⟨0, some 6, .a (.alloc [(.int .i64 0), (.int .i64 0), .nils]), none, none, [], false⟩]
def f30r1 : List SOper := [
⟨0, some 7, .p (.mv (.t 0)), none, none, [], false⟩,
⟨1, some 8, .p (.conv .i64 (.t 7)), none, none, [], false⟩,
⟨2, some 9, .p (.bin .rem (.t 8) (.c (.one (.int .i64 17)))), none, none, [], false⟩,
⟨3, some 10, .p (.mv (.t 1)), none, none, [], false⟩,
⟨4, some 11, .p (.conv .i64 (.t 10)), none, none, [], false⟩,
⟨5, some 12, .p (.bin .rem (.t 11) (.c (.one (.int .i64 17)))), none, none, [], false⟩,
⟨6, some 13, .cf 11 [(.t 9), (.t 12)], none, none, [], false⟩,
⟨7, some 14, .p (.mv (.t 2)), none, none, [], false⟩,
⟨8, some 15, .cf 18 [(.t 14), (.c (.one (.int .i64 40)))], none, none, [], false⟩,
⟨9, some 16, .cf 33 [(.t 13), (.t 15)], none, none, [], false⟩,
⟨10, none, .e (.store 3 (.t 6) (.t 16)), none, none, [], false⟩]
def f30c : SC := (.seq (.ops f30r0 0) (.seq (.ops f30r1 0) .ret))
def f30 : SFn := ⟨17, f30c, [.cell true 3 6]⟩

/- sixdot/grid.New -/
def f31r0 : List SOper := [
⟨0, some 4, .a (.alloc [(.int .i64 0), (.int .i64 0), .nils]), none, none, [], false⟩]
def f31r1 : List SOper := [
⟨0, some 7, .p (.mv (.t 0)), none, none, [], false⟩,
⟨1, some 8, .p (.mm true (.t 7) (.c (.one (.int .i64 0)))), none, none, [], false⟩,
⟨2, some 9, .p (.mm false (.t 8) (.c (.one (.int .i64 200)))), none, none, [], false⟩,
⟨3, some 10, .p (.mv (.t 1)), none, none, [], false⟩,
⟨4, some 11, .p (.mm true (.t 10) (.c (.one (.int .i64 0)))), none, none, [], false⟩,
⟨5, some 12, .p (.mm false (.t 11) (.c (.one (.int .i64 200)))), none, none, [], false⟩,
⟨6, some 0, .p (.mv (.t 9)), none, none, [], false⟩,
⟨7, some 1, .p (.mv (.t 12)), none, none, [], false⟩]
def f31r2 : List SOper := [
⟨0, some 13, .p (.mv (.t 0)), none, none, [], false⟩,
⟨1, some 14, .p (.mv (.t 1)), none, none, [], false⟩,
⟨2, some 15, .p (.mv (.t 1)), none, none, [], false⟩,
⟨3, some 16, .a (.mkslice 1 24 [.nils] (.t 15) (.t 15)), none, none, [], false⟩,
⟨4, some 17, .p (.build [(.int .i64 0), (.int .i64 0), .nils] [(0, 1, (.t 13)), (1, 1, (.t 14)), (2, 1, (.t 16))]), none, none, [], false⟩,
⟨5, some 5, .a (.alloc [(.int .i64 0), (.int .i64 0), .nils]), none, none, [], false⟩,
⟨6, none, .e (.store 3 (.t 5) (.t 17)), none, none, [], false⟩]
def f31r3 : List SOper := [
⟨0, some 18, .p (.mv (.t 1)), none, none, [], false⟩,
⟨1, some 19, .p (.mv (.c (.one (.int .i64 0)))), none, none, [], false⟩]
def f31r4 : List SOper := [
⟨0, some 20, .p (.bin .lss (.t 19) (.t 18)), none, none, [], false⟩]
def f31r5 : List SOper := [
⟨0, some 21, .p (.mv (.t 19)), none, none, [], false⟩,
⟨1, some 6, .p (.mv (.t 21)), none, none, [], false⟩]
def f31r6 : List SOper := [
⟨0, some 22, .p (.faddr 2 (.t 5)), none, none, [], false⟩,
⟨1, some 23, .l (.load false 1 (.t 22)), none, none, [], false⟩,
⟨2, some 24, .p (.mv (.t 6)), none, none, [], false⟩,
⟨3, some 25, .p (.mv (.t 0)), none, none, [], false⟩,
⟨4, some 26, .a (.mkslice 1 1 [(.bool false)] (.t 25) (.t 25)), none, (some 4), [], false⟩,
⟨5, some 27, .p (.iaddr 1 (.t 23) (.t 24)), none, none, [], false⟩,
⟨6, none, .e (.store 1 (.t 27) (.t 26)), none, none, [], false⟩]
def f31r7 : List SOper := [
⟨0, some 28, .p (.bin .add (.t 19) (.c (.one (.int .i64 1)))), none, none, [], false⟩,
⟨1, some 19, .p (.mv (.t 28)), none, none, [], false⟩]
def f31b0 : SC := (.seq (.ops f31r4 0) (.seq (.cond (.t 20) .skip (.exit 0)) (.seq (.block 1 (.seq (.ops f31r5 0) (.ops f31r6 7))) (.ops f31r7 0))))
def f31r8 : List SOper := [
⟨0, some 29, .l (.load true 3 (.t 5)), none, none, [], false⟩,
⟨1, none, .e (.store 3 (.t 4) (.t 29)), none, none, [], false⟩]
def f31c : SC := (.seq (.ops f31r0 0) (.seq (.ops f31r1 0) (.seq (.ops f31r2 0) (.seq (.seq (.ops f31r3 0) (.block 0 (.loop f31b0))) (.seq (.ops f31r8 0) .ret)))))
def f31 : SFn := ⟨30, f31c, [.cell true 3 4]⟩

/- sixdot/grid.Plot -/
def f32r0 : List SOper := [
⟨0, some 2, .a (.box (.t 0)), none, none, [], false⟩,
⟨1, some 4, .a (.alloc [(.int .i64 0), (.int .i64 0), .nils]), none, none, [], false⟩]
def f32r1 : List SOper := [
⟨0, some 9, .l (.load true 3 (.t 2)), none, none, [], false⟩,
⟨1, some 10, .cf 12 [(.t 9)], none, none, [], false⟩,
⟨2, some 11, .p (.not (.t 10)), none, none, [], false⟩]
def f32r2 : List SOper := [
⟨0, some 12, .p (.build [(.int .i64 0), (.int .i64 0), .nils] []), none, none, [], false⟩,
⟨1, none, .e (.store 3 (.t 4) (.t 12)), none, none, [], false⟩]
def f32r3 : List SOper := [
⟨0, some 13, .p (.faddr 0 (.t 2)), none, none, [], false⟩,
⟨1, some 14, .l (.load false 1 (.t 13)), none, none, [], false⟩,
⟨2, some 15, .p (.faddr 1 (.t 2)), none, none, [], false⟩,
⟨3, some 16, .l (.load false 1 (.t 15)), none, none, [], false⟩,
⟨4, some 17, .cf 31 [(.t 14), (.t 16)], none, none, [], false⟩,
⟨5, some 5, .a (.alloc [(.int .i64 0), (.int .i64 0), .nils]), none, none, [], false⟩,
⟨6, none, .e (.store 3 (.t 5) (.t 17)), none, none, [], false⟩]
def f32r4 : List SOper := [
⟨0, some 18, .p (.faddr 1 (.t 2)), none, none, [], false⟩,
⟨1, some 19, .l (.load false 1 (.t 18)), none, none, [], false⟩,
⟨2, some 20, .p (.mv (.c (.one (.int .i64 0)))), none, none, [], false⟩]
def f32r5 : List SOper := [
⟨0, some 21, .p (.bin .lss (.t 20) (.t 19)), none, none, [], false⟩]
def f32r6 : List SOper := [
⟨0, some 22, .p (.mv (.t 20)), none, none, [], false⟩,
⟨1, some 6, .p (.mv (.t 22)), none, none, [], false⟩]
def f32r7 : List SOper := [
⟨0, some 23, .p (.faddr 2 (.t 5)), none, none, [], false⟩,
⟨1, some 24, .l (.load false 1 (.t 23)), none, none, [], false⟩,
⟨2, some 25, .p (.mv (.t 6)), none, none, [], false⟩,
⟨3, some 26, .p (.iaddr 1 (.t 24) (.t 25)), none, none, [], false⟩,
⟨4, some 27, .l (.load false 1 (.t 26)), none, none, [], false⟩,
⟨5, some 28, .p (.faddr 2 (.t 2)), none, none, [], false⟩,
⟨6, some 29, .l (.load false 1 (.t 28)), none, none, [], false⟩,
⟨7, some 30, .p (.mv (.t 6)), none, none, [], false⟩,
⟨8, some 31, .p (.iaddr 1 (.t 29) (.t 30)), none, none, [], false⟩,
⟨9, some 32, .l (.load false 1 (.t 31)), none, none, [], false⟩,
⟨10, some 33, .e (.copy 1 (.t 27) (.t 32)), none, none, [], false⟩]
def f32r8 : List SOper := [
⟨0, some 34, .p (.bin .add (.t 20) (.c (.one (.int .i64 1)))), none, none, [], false⟩,
⟨1, some 20, .p (.mv (.t 34)), none, none, [], false⟩]
def f32b0 : SC := (.seq (.ops f32r5 0) (.seq (.cond (.t 21) .skip (.exit 0)) (.seq (.block 1 (.seq (.ops f32r6 0) (.ops f32r7 11))) (.ops f32r8 0))))
def f32r9 : List SOper := [
⟨0, some 35, .p (.mv (.t 1)), none, none, [], false⟩,
⟨1, some 36, .p (.len (.t 35)), none, none, [], false⟩,
⟨2, some 37, .p (.mv (.c (.one (.int .i64 0)))), none, none, [], false⟩]
def f32r10 : List SOper := [
⟨0, some 38, .p (.bin .lss (.t 37) (.t 36)), none, none, [], false⟩]
def f32r11 : List SOper := [
⟨0, some 39, .p (.iaddr 2 (.t 35) (.t 37)), none, none, [], false⟩,
⟨1, some 40, .l (.load true 2 (.t 39)), none, none, [], false⟩,
⟨2, some 8, .a (.alloc [(.int .i64 0), (.int .i64 0)]), none, none, [], false⟩,
⟨3, none, .e (.store 2 (.t 8) (.t 40)), none, none, [], false⟩]
def f32r12 : List SOper := [
⟨0, some 41, .p (.faddr 0 (.t 8)), none, none, [], false⟩,
⟨1, some 42, .l (.load false 1 (.t 41)), none, none, [], false⟩,
⟨2, some 43, .p (.bin .leq (.c (.one (.int .i64 0))) (.t 42)), none, none, [], false⟩,
⟨3, some 44, .p (.mv (.t 43)), none, none, [], false⟩,
⟨4, some 45, .p (.faddr 0 (.t 8)), (some (44, true)), none, [], false⟩,
⟨5, some 46, .l (.load false 1 (.t 45)), (some (44, true)), none, [], false⟩,
⟨6, some 47, .p (.faddr 0 (.t 2)), (some (44, true)), none, [], false⟩,
⟨7, some 48, .l (.load false 1 (.t 47)), (some (44, true)), none, [], false⟩,
⟨8, some 49, .p (.bin .lss (.t 46) (.t 48)), (some (44, true)), none, [], false⟩,
⟨9, some 50, .p (.pick (.t 44) (.t 49) (.c (.one (.bool false)))), none, none, [], false⟩,
⟨10, some 51, .p (.mv (.t 50)), none, none, [], false⟩,
⟨11, some 52, .p (.faddr 1 (.t 8)), (some (51, true)), none, [], false⟩,
⟨12, some 53, .l (.load false 1 (.t 52)), (some (51, true)), none, [], false⟩,
⟨13, some 54, .p (.bin .leq (.c (.one (.int .i64 0))) (.t 53)), (some (51, true)), none, [], false⟩,
⟨14, some 55, .p (.pick (.t 51) (.t 54) (.c (.one (.bool false)))), none, none, [], false⟩,
⟨15, some 56, .p (.mv (.t 55)), none, none, [], false⟩,
⟨16, some 57, .p (.faddr 1 (.t 8)), (some (56, true)), none, [], false⟩,
⟨17, some 58, .l (.load false 1 (.t 57)), (some (56, true)), none, [], false⟩,
⟨18, some 59, .p (.faddr 1 (.t 2)), (some (56, true)), none, [], false⟩,
⟨19, some 60, .l (.load false 1 (.t 59)), (some (56, true)), none, [], false⟩,
⟨20, some 61, .p (.bin .lss (.t 58) (.t 60)), (some (56, true)), none, [], false⟩,
⟨21, some 62, .p (.pick (.t 56) (.t 61) (.c (.one (.bool false)))), none, none, [], false⟩]
def f32r13 : List SOper := [
⟨0, some 63, .p (.faddr 2 (.t 5)), none, none, [], false⟩,
⟨1, some 64, .l (.load false 1 (.t 63)), none, none, [], false⟩,
⟨2, some 65, .p (.faddr 1 (.t 8)), none, none, [], false⟩,
⟨3, some 66, .l (.load false 1 (.t 65)), none, none, [], false⟩,
⟨4, some 67, .p (.iaddr 1 (.t 64) (.t 66)), none, none, [], false⟩,
⟨5, some 68, .l (.load false 1 (.t 67)), none, none, [], false⟩,
⟨6, some 69, .p (.faddr 0 (.t 8)), none, none, [], false⟩,
⟨7, some 70, .l (.load false 1 (.t 69)), none, none, [], false⟩,
⟨8, some 71, .p (.iaddr 1 (.t 68) (.t 70)), none, none, [], false⟩,
⟨9, none, .e (.store 1 (.t 71) (.c (.one (.bool true)))), none, none, [], false⟩]
def f32r14 : List SOper := [
⟨0, some 72, .p (.bin .add (.t 37) (.c (.one (.int .i64 1)))), none, none, [], false⟩,
⟨1, some 37, .p (.mv (.t 72)), none, none, [], false⟩]
def f32b1 : SC := (.seq (.ops f32r10 0) (.seq (.cond (.t 38) .skip (.exit 2)) (.seq (.block 3 (.seq (.ops f32r11 0) (.seq (.ops f32r12 0) (.cond (.t 62) (.ops f32r13 10) .skip)))) (.ops f32r14 0))))
def f32r15 : List SOper := [
⟨0, some 73, .l (.load true 3 (.t 5)), none, none, [], false⟩,
⟨1, none, .e (.store 3 (.t 4) (.t 73)), none, none, [], false⟩]
def f32c : SC := (.seq (.ops f32r0 0) (.seq (.seq (.ops f32r1 0) (.cond (.t 11) (.seq (.ops f32r2 0) .ret) .skip)) (.seq (.ops f32r3 0) (.seq (.seq (.ops f32r4 0) (.block 0 (.loop f32b0))) (.seq (.seq (.ops f32r9 0) (.block 2 (.loop f32b1))) (.seq (.ops f32r15 0) .ret))))))
def f32 : SFn := ⟨74, f32c, [.cell true 3 4]⟩

/- sixdot/sixdotref12.Plot -/
def f33r0 : List SOper := [
⟨0, some 2, .a (.box (.t 0)), none, none, [], false⟩,
⟨1, some 4, .a (.alloc [(.int .i64 0), (.int .i64 0), .nils]), none, none, [], false⟩]
def f33r1 : List SOper := [
⟨0, some 9, .p (.faddr 0 (.t 2)), none, none, [], false⟩,
⟨1, some 10, .l (.load false 1 (.t 9)), none, none, [], false⟩,
⟨2, some 11, .p (.faddr 1 (.t 2)), none, none, [], false⟩,
⟨3, some 12, .l (.load false 1 (.t 11)), none, none, [], false⟩,
⟨4, some 13, .cf 11 [(.t 10), (.t 12)], none, none, [], false⟩,
⟨5, some 5, .a (.alloc [(.int .i64 0), (.int .i64 0), .nils]), none, none, [], false⟩,
⟨6, none, .e (.store 3 (.t 5) (.t 13)), none, none, [], false⟩]
def f33r2 : List SOper := [
⟨0, some 6, .p (.mv (.c (.one (.int .i64 0)))), none, none, [], false⟩]
def f33r3 : List SOper := [
⟨0, some 14, .p (.mv (.t 6)), none, none, [], false⟩,
⟨1, some 15, .p (.faddr 1 (.t 2)), none, none, [], false⟩,
⟨2, some 16, .l (.load false 1 (.t 15)), none, none, [], false⟩,
⟨3, some 17, .p (.bin .lss (.t 14) (.t 16)), none, none, [], false⟩]
def f33r4 : List SOper := [
⟨0, some 7, .p (.mv (.c (.one (.int .i64 0)))), none, none, [], false⟩]
def f33r5 : List SOper := [
⟨0, some 20, .p (.mv (.t 7)), none, none, [], false⟩,
⟨1, some 21, .p (.faddr 0 (.t 2)), none, none, [], false⟩,
⟨2, some 22, .l (.load false 1 (.t 21)), none, none, [], false⟩,
⟨3, some 23, .p (.bin .lss (.t 20) (.t 22)), none, none, [], false⟩]
def f33r6 : List SOper := [
⟨0, some 26, .p (.faddr 2 (.t 5)), none, none, [], false⟩,
⟨1, some 27, .l (.load false 1 (.t 26)), none, none, [], false⟩,
⟨2, some 28, .p (.mv (.t 6)), none, none, [], false⟩,
⟨3, some 29, .p (.iaddr 1 (.t 27) (.t 28)), none, none, [], false⟩,
⟨4, some 30, .l (.load false 1 (.t 29)), none, none, [], false⟩,
⟨5, some 31, .p (.mv (.t 7)), none, none, [], false⟩,
⟨6, some 32, .p (.faddr 2 (.t 2)), none, none, [], false⟩,
⟨7, some 33, .l (.load false 1 (.t 32)), none, none, [], false⟩,
⟨8, some 34, .p (.mv (.t 6)), none, none, [], false⟩,
⟨9, some 35, .p (.iaddr 1 (.t 33) (.t 34)), none, none, [], false⟩,
⟨10, some 36, .l (.load false 1 (.t 35)), none, none, [], false⟩,
⟨11, some 37, .p (.mv (.t 7)), none, none, [], false⟩,
⟨12, some 38, .p (.iaddr 1 (.t 36) (.t 37)), none, none, [], false⟩,
⟨13, some 39, .l (.load false 1 (.t 38)), none, none, [], false⟩,
⟨14, some 40, .p (.iaddr 1 (.t 30) (.t 31)), none, none, [], false⟩,
⟨15, none, .e (.store 1 (.t 40) (.t 39)), none, none, [], false⟩]
def f33r7 : List SOper := [
⟨0, some 24, .p (.mv (.t 7)), none, none, [], false⟩,
⟨1, some 25, .p (.bin .add (.t 24) (.c (.one (.int .i64 1)))), none, none, [], false⟩,
⟨2, some 7, .p (.mv (.t 25)), none, none, [], false⟩]
def f33b0 : SC := (.seq (.seq (.ops f33r5 0) (.cond (.t 23) .skip (.exit 2))) (.seq (.block 3 (.ops f33r6 16)) (.ops f33r7 0)))
def f33r8 : List SOper := [
⟨0, some 18, .p (.mv (.t 6)), none, none, [], false⟩,
⟨1, some 19, .p (.bin .add (.t 18) (.c (.one (.int .i64 1)))), none, none, [], false⟩,
⟨2, some 6, .p (.mv (.t 19)), none, none, [], false⟩]
def f33b1 : SC := (.seq (.seq (.ops f33r3 0) (.cond (.t 17) .skip (.exit 0))) (.seq (.block 1 (.seq (.ops f33r4 0) (.block 2 (.loop f33b0)))) (.ops f33r8 0)))
def f33r9 : List SOper := [
⟨0, some 8, .p (.mv (.c (.one (.int .i64 0)))), none, none, [], false⟩]
def f33r10 : List SOper := [
⟨0, some 41, .p (.mv (.t 8)), none, none, [], false⟩,
⟨1, some 42, .p (.mv (.t 1)), none, none, [], false⟩,
⟨2, some 43, .p (.len (.t 42)), none, none, [], false⟩,
⟨3, some 44, .p (.bin .lss (.t 41) (.t 43)), none, none, [], false⟩]
def f33r11 : List SOper := [
⟨0, some 47, .l (.load true 3 (.t 2)), none, none, [], false⟩,
⟨1, some 48, .p (.mv (.t 1)), none, none, [], false⟩,
⟨2, some 49, .p (.mv (.t 8)), none, none, [], false⟩,
⟨3, some 50, .p (.iaddr 2 (.t 48) (.t 49)), none, none, [], false⟩,
⟨4, some 51, .l (.load true 2 (.t 50)), none, none, [], false⟩,
⟨5, some 52, .cf 37 [(.t 47), (.t 51)], none, none, [], false⟩]
def f33r12 : List SOper := [
⟨0, some 53, .p (.faddr 2 (.t 5)), none, none, [], false⟩,
⟨1, some 54, .l (.load false 1 (.t 53)), none, none, [], false⟩,
⟨2, some 55, .p (.mv (.t 1)), none, none, [], false⟩,
⟨3, some 56, .p (.mv (.t 8)), none, none, [], false⟩,
⟨4, some 57, .p (.iaddr 2 (.t 55) (.t 56)), none, none, [], false⟩,
⟨5, some 58, .p (.faddr 1 (.t 57)), none, none, [], false⟩,
⟨6, some 59, .l (.load false 1 (.t 58)), none, none, [], false⟩,
⟨7, some 60, .p (.iaddr 1 (.t 54) (.t 59)), none, none, [], false⟩,
⟨8, some 61, .l (.load false 1 (.t 60)), none, none, [], false⟩,
⟨9, some 62, .p (.mv (.t 1)), none, none, [], false⟩,
⟨10, some 63, .p (.mv (.t 8)), none, none, [], false⟩,
⟨11, some 64, .p (.iaddr 2 (.t 62) (.t 63)), none, none, [], false⟩,
⟨12, some 65, .p (.faddr 0 (.t 64)), none, none, [], false⟩,
⟨13, some 66, .l (.load false 1 (.t 65)), none, none, [], false⟩,
⟨14, some 67, .p (.iaddr 1 (.t 61) (.t 66)), none, none, [], false⟩,
⟨15, none, .e (.store 1 (.t 67) (.c (.one (.bool true)))), none, none, [], false⟩]
def f33r13 : List SOper := [
⟨0, some 45, .p (.mv (.t 8)), none, none, [], false⟩,
⟨1, some 46, .p (.bin .add (.t 45) (.c (.one (.int .i64 1)))), none, none, [], false⟩,
⟨2, some 8, .p (.mv (.t 46)), none, none, [], false⟩]
def f33b2 : SC := (.seq (.seq (.ops f33r10 0) (.cond (.t 44) .skip (.exit 4))) (.seq (.block 5 (.seq (.ops f33r11 6) (.cond (.t 52) (.ops f33r12 16) .skip))) (.ops f33r13 0)))
def f33r14 : List SOper := [
⟨0, some 68, .l (.load true 3 (.t 5)), none, none, [], false⟩,
⟨1, none, .e (.store 3 (.t 4) (.t 68)), none, none, [], false⟩]
def f33c : SC := (.seq (.ops f33r0 0) (.seq (.ops f33r1 0) (.seq (.seq (.ops f33r2 0) (.block 0 (.loop f33b1))) (.seq (.seq (.ops f33r9 0) (.block 4 (.loop f33b2))) (.seq (.ops f33r14 0) .ret)))))
def f33 : SFn := ⟨69, f33c, [.cell true 3 4]⟩

/- sixdot/grid.Points -/
def f34r0 : List SOper := [
⟨0, some 1, .a (.box (.t 0)), none, none, [], false⟩,
⟨1, some 2, .p (.mv (.c (.one .nils))), none, none, [], false⟩]
def f34r1 : List SOper := [
⟨0, some 3, .p (.mv (.c (.one .nils))), none, none, [], false⟩]
def f34r2 : List SOper := [
⟨0, some 8, .p (.faddr 2 (.t 1)), none, none, [], false⟩,
⟨1, some 9, .l (.load false 1 (.t 8)), none, none, [], false⟩,
⟨2, some 10, .p (.len (.t 9)), none, none, [], false⟩,
⟨3, some 11, .p (.mv (.c (.one (.int .i64 0)))), none, none, [], false⟩]
def f34r3 : List SOper := [
⟨0, some 12, .p (.bin .lss (.t 11) (.t 10)), none, none, [], false⟩]
def f34r4 : List SOper := [
⟨0, some 13, .p (.mv (.t 11)), none, none, [], false⟩,
⟨1, some 14, .p (.iaddr 1 (.t 9) (.t 11)), none, none, [], false⟩,
⟨2, some 15, .l (.load false 1 (.t 14)), none, none, [], false⟩,
⟨3, some 4, .p (.mv (.t 13)), none, none, [], false⟩,
⟨4, some 5, .p (.mv (.t 15)), none, none, [], false⟩]
def f34r5 : List SOper := [
⟨0, some 16, .p (.mv (.t 5)), none, none, [], false⟩,
⟨1, some 17, .p (.len (.t 16)), none, none, [], false⟩,
⟨2, some 18, .p (.mv (.c (.one (.int .i64 0)))), none, none, [], false⟩]
def f34r6 : List SOper := [
⟨0, some 19, .p (.bin .lss (.t 18) (.t 17)), none, none, [], false⟩]
def f34r7 : List SOper := [
⟨0, some 20, .p (.mv (.t 18)), none, none, [], false⟩,
⟨1, some 21, .p (.iaddr 1 (.t 16) (.t 18)), none, none, [], false⟩,
⟨2, some 22, .l (.load false 1 (.t 21)), none, none, [], false⟩,
⟨3, some 6, .p (.mv (.t 20)), none, none, [], false⟩,
⟨4, some 7, .p (.mv (.t 22)), none, none, [], false⟩]
def f34r8 : List SOper := [
⟨0, some 23, .p (.mv (.t 7)), none, none, [], false⟩]
def f34r9 : List SOper := [
⟨0, some 24, .p (.mv (.t 3)), none, none, [], false⟩,
⟨1, some 25, .p (.mv (.t 6)), none, none, [], false⟩,
⟨2, some 26, .p (.mv (.t 4)), none, none, [], false⟩,
⟨3, some 27, .p (.build [(.int .i64 0), (.int .i64 0)] [(0, 1, (.t 25)), (1, 1, (.t 26))]), none, none, [], false⟩,
⟨4, some 28, .a (.bslice 2 1 [(.int .i64 0), (.int .i64 0)] [(0, 2, (.t 27))]), none, none, [], false⟩,
⟨5, some 29, .e (.append 2 16 (.t 24) (.t 28)), none, none, [], false⟩,
⟨6, some 3, .p (.mv (.t 29)), none, none, [], false⟩]
def f34r10 : List SOper := [
⟨0, some 30, .p (.bin .add (.t 18) (.c (.one (.int .i64 1)))), none, none, [], false⟩,
⟨1, some 18, .p (.mv (.t 30)), none, none, [], false⟩]
def f34b0 : SC := (.seq (.ops f34r6 0) (.seq (.cond (.t 19) .skip (.exit 2)) (.seq (.block 3 (.seq (.ops f34r7 0) (.seq (.ops f34r8 0) (.cond (.t 23) (.ops f34r9 0) .skip)))) (.ops f34r10 0))))
def f34r11 : List SOper := [
⟨0, some 31, .p (.bin .add (.t 11) (.c (.one (.int .i64 1)))), none, none, [], false⟩,
⟨1, some 11, .p (.mv (.t 31)), none, none, [], false⟩]
def f34b1 : SC := (.seq (.ops f34r3 0) (.seq (.cond (.t 12) .skip (.exit 0)) (.seq (.block 1 (.seq (.ops f34r4 0) (.seq (.ops f34r5 0) (.block 2 (.loop f34b0))))) (.ops f34r11 0))))
def f34r12 : List SOper := [
⟨0, some 32, .p (.mv (.t 3)), none, none, [], false⟩,
⟨1, some 2, .p (.mv (.t 32)), none, none, [], false⟩]
def f34c : SC := (.seq (.ops f34r0 0) (.seq (.ops f34r1 0) (.seq (.seq (.ops f34r2 0) (.block 0 (.loop f34b1))) (.seq (.ops f34r12 0) .ret))))
def f34 : SFn := ⟨33, f34c, [.t 2]⟩

/- sixdot/sixdotref12.Points -/
def f35r0 : List SOper := [
⟨0, some 1, .a (.box (.t 0)), none, none, [], false⟩,
⟨1, some 2, .p (.mv (.c (.one .nils))), none, none, [], false⟩]
def f35r1 : List SOper := [
⟨0, some 6, .a (.bslice 2 0 [(.int .i64 0), (.int .i64 0)] []), none, none, [], false⟩,
⟨1, some 3, .p (.mv (.t 6)), none, none, [], false⟩]
def f35r2 : List SOper := [
⟨0, some 4, .p (.mv (.c (.one (.int .i64 0)))), none, none, [], false⟩]
def f35r3 : List SOper := [
⟨0, some 7, .p (.mv (.t 4)), none, none, [], false⟩,
⟨1, some 8, .p (.faddr 1 (.t 1)), none, none, [], false⟩,
⟨2, some 9, .l (.load false 1 (.t 8)), none, none, [], false⟩,
⟨3, some 10, .p (.bin .lss (.t 7) (.t 9)), none, none, [], false⟩]
def f35r4 : List SOper := [
⟨0, some 5, .p (.mv (.c (.one (.int .i64 0)))), none, none, [], false⟩]
def f35r5 : List SOper := [
⟨0, some 13, .p (.mv (.t 5)), none, none, [], false⟩,
⟨1, some 14, .p (.faddr 0 (.t 1)), none, none, [], false⟩,
⟨2, some 15, .l (.load false 1 (.t 14)), none, none, [], false⟩,
⟨3, some 16, .p (.bin .lss (.t 13) (.t 15)), none, none, [], false⟩]
def f35r6 : List SOper := [
⟨0, some 19, .p (.faddr 2 (.t 1)), none, none, [], false⟩,
⟨1, some 20, .l (.load false 1 (.t 19)), none, none, [], false⟩,
⟨2, some 21, .p (.mv (.t 4)), none, none, [], false⟩,
⟨3, some 22, .p (.iaddr 1 (.t 20) (.t 21)), none, none, [], false⟩,
⟨4, some 23, .l (.load false 1 (.t 22)), none, none, [], false⟩,
⟨5, some 24, .p (.mv (.t 5)), none, none, [], false⟩,
⟨6, some 25, .p (.iaddr 1 (.t 23) (.t 24)), none, none, [], false⟩,
⟨7, some 26, .l (.load false 1 (.t 25)), none, none, [], false⟩]
def f35r7 : List SOper := [
⟨0, some 27, .p (.mv (.t 3)), none, none, [], false⟩,
⟨1, some 28, .p (.mv (.t 5)), none, none, [], false⟩,
⟨2, some 29, .p (.mv (.t 4)), none, none, [], false⟩,
⟨3, some 30, .p (.build [(.int .i64 0), (.int .i64 0)] [(0, 1, (.t 28)), (1, 1, (.t 29))]), none, none, [], false⟩,
⟨4, some 31, .a (.bslice 2 1 [(.int .i64 0), (.int .i64 0)] [(0, 2, (.t 30))]), none, none, [], false⟩,
⟨5, some 32, .e (.append 2 16 (.t 27) (.t 31)), none, none, [], false⟩,
⟨6, some 3, .p (.mv (.t 32)), none, none, [], false⟩]
def f35r8 : List SOper := [
⟨0, some 17, .p (.mv (.t 5)), none, none, [], false⟩,
⟨1, some 18, .p (.bin .add (.t 17) (.c (.one (.int .i64 1)))), none, none, [], false⟩,
⟨2, some 5, .p (.mv (.t 18)), none, none, [], false⟩]
def f35b0 : SC := (.seq (.seq (.ops f35r5 0) (.cond (.t 16) .skip (.exit 2))) (.seq (.block 3 (.seq (.ops f35r6 0) (.cond (.t 26) (.ops f35r7 0) .skip))) (.ops f35r8 0)))
def f35r9 : List SOper := [
⟨0, some 11, .p (.mv (.t 4)), none, none, [], false⟩,
⟨1, some 12, .p (.bin .add (.t 11) (.c (.one (.int .i64 1)))), none, none, [], false⟩,
⟨2, some 4, .p (.mv (.t 12)), none, none, [], false⟩]
def f35b1 : SC := (.seq (.seq (.ops f35r3 0) (.cond (.t 10) .skip (.exit 0))) (.seq (.block 1 (.seq (.ops f35r4 0) (.block 2 (.loop f35b0)))) (.ops f35r9 0)))
def f35r10 : List SOper := [
⟨0, some 33, .p (.mv (.t 3)), none, none, [], false⟩,
⟨1, some 2, .p (.mv (.t 33)), none, none, [], false⟩]
def f35c : SC := (.seq (.ops f35r0 0) (.seq (.ops f35r1 0) (.seq (.seq (.ops f35r2 0) (.block 0 (.loop f35b1))) (.seq (.ops f35r10 0) .ret))))
def f35 : SFn := ⟨34, f35c, [.t 2]⟩

/- sixdot/sixdotref12.SameClusters -/
def f36r0 : List SOper := [
⟨0, some 4, .p (.mv (.c (.one (.bool false)))), none, none, [], false⟩]
def f36r1 : List SOper := [
⟨0, some 6, .p (.mv (.t 0)), none, none, [], false⟩,
⟨1, some 7, .p (.len (.t 6)), none, none, [], false⟩,
⟨2, some 8, .p (.mv (.t 1)), none, none, [], false⟩,
⟨3, some 9, .p (.len (.t 8)), none, none, [], false⟩,
⟨4, some 10, .p (.bin .neq (.t 7) (.t 9)), none, none, [], false⟩]
def f36r2 : List SOper := [
⟨0, some 4, .p (.mv (.c (.one (.bool false)))), none, none, [], false⟩]
def f36r3 : List SOper := [
⟨0, some 5, .p (.mv (.c (.one (.int .i64 0)))), none, none, [], false⟩]
def f36r4 : List SOper := [
⟨0, some 11, .p (.mv (.t 5)), none, none, [], false⟩,
⟨1, some 12, .p (.mv (.t 0)), none, none, [], false⟩,
⟨2, some 13, .p (.len (.t 12)), none, none, [], false⟩,
⟨3, some 14, .p (.bin .lss (.t 11) (.t 13)), none, none, [], false⟩]
def f36r5 : List SOper := [
⟨0, some 17, .p (.mv (.t 0)), none, none, [], false⟩,
⟨1, some 18, .p (.mv (.t 5)), none, none, [], false⟩,
⟨2, some 19, .p (.iaddr 1 (.t 17) (.t 18)), none, none, [], false⟩,
⟨3, some 20, .l (.load false 1 (.t 19)), none, none, [], false⟩,
⟨4, some 21, .p (.mv (.t 1)), none, none, [], false⟩,
⟨5, some 22, .p (.mv (.t 5)), none, none, [], false⟩,
⟨6, some 23, .p (.iaddr 1 (.t 21) (.t 22)), none, none, [], false⟩,
⟨7, some 24, .l (.load false 1 (.t 23)), none, none, [], false⟩,
⟨8, some 25, .cf 16 [(.t 20), (.t 24)], none, none, [], false⟩,
⟨9, some 26, .p (.not (.t 25)), none, none, [], false⟩]
def f36r6 : List SOper := [
⟨0, some 4, .p (.mv (.c (.one (.bool false)))), none, none, [], false⟩]
def f36r7 : List SOper := [
⟨0, some 15, .p (.mv (.t 5)), none, none, [], false⟩,
⟨1, some 16, .p (.bin .add (.t 15) (.c (.one (.int .i64 1)))), none, none, [], false⟩,
⟨2, some 5, .p (.mv (.t 16)), none, none, [], false⟩]
def f36b0 : SC := (.seq (.seq (.ops f36r4 0) (.cond (.t 14) .skip (.exit 0))) (.seq (.block 1 (.seq (.ops f36r5 10) (.cond (.t 26) (.seq (.ops f36r6 0) .ret) .skip))) (.ops f36r7 0)))
def f36r8 : List SOper := [
⟨0, some 4, .p (.mv (.c (.one (.bool true)))), none, none, [], false⟩]
def f36c : SC := (.seq (.ops f36r0 0) (.seq (.seq (.ops f36r1 0) (.cond (.t 10) (.seq (.ops f36r2 0) .ret) .skip)) (.seq (.seq (.ops f36r3 0) (.block 0 (.loop f36b0))) (.seq (.ops f36r8 0) .ret))))
def f36 : SFn := ⟨27, f36c, [.t 4]⟩

/- sixdot/sixdotref12.On -/
def f37r0 : List SOper := [
⟨0, some 2, .a (.box (.t 0)), none, none, [], false⟩,
⟨1, some 3, .a (.box (.t 1)), none, none, [], false⟩,
⟨2, some 4, .p (.mv (.c (.one (.bool false)))), none, none, [], false⟩]
def f37r1 : List SOper := [
⟨0, some 5, .p (.faddr 0 (.t 3)), none, none, [], false⟩,
⟨1, some 6, .l (.load false 1 (.t 5)), none, none, [], false⟩,
⟨2, some 7, .p (.bin .geq (.t 6) (.c (.one (.int .i64 0)))), none, none, [], false⟩,
⟨3, some 8, .p (.mv (.t 7)), none, none, [], false⟩,
⟨4, some 9, .p (.faddr 0 (.t 3)), (some (8, true)), none, [], false⟩,
⟨5, some 10, .l (.load false 1 (.t 9)), (some (8, true)), none, [], false⟩,
⟨6, some 11, .p (.faddr 0 (.t 2)), (some (8, true)), none, [], false⟩,
⟨7, some 12, .l (.load false 1 (.t 11)), (some (8, true)), none, [], false⟩,
⟨8, some 13, .p (.bin .lss (.t 10) (.t 12)), (some (8, true)), none, [], false⟩,
⟨9, some 14, .p (.pick (.t 8) (.t 13) (.c (.one (.bool false)))), none, none, [], false⟩,
⟨10, some 15, .p (.mv (.t 14)), none, none, [], false⟩,
⟨11, some 16, .p (.faddr 1 (.t 3)), (some (15, true)), none, [], false⟩,
⟨12, some 17, .l (.load false 1 (.t 16)), (some (15, true)), none, [], false⟩,
⟨13, some 18, .p (.bin .geq (.t 17) (.c (.one (.int .i64 0)))), (some (15, true)), none, [], false⟩,
⟨14, some 19, .p (.pick (.t 15) (.t 18) (.c (.one (.bool false)))), none, none, [], false⟩,
⟨15, some 20, .p (.mv (.t 19)), none, none, [], false⟩,
⟨16, some 21, .p (.faddr 1 (.t 3)), (some (20, true)), none, [], false⟩,
⟨17, some 22, .l (.load false 1 (.t 21)), (some (20, true)), none, [], false⟩,
⟨18, some 23, .p (.faddr 1 (.t 2)), (some (20, true)), none, [], false⟩,
⟨19, some 24, .l (.load false 1 (.t 23)), (some (20, true)), none, [], false⟩,
⟨20, some 25, .p (.bin .lss (.t 22) (.t 24)), (some (20, true)), none, [], false⟩,
⟨21, some 26, .p (.pick (.t 20) (.t 25) (.c (.one (.bool false)))), none, none, [], false⟩,
⟨22, some 4, .p (.mv (.t 26)), none, none, [], false⟩]
def f37c : SC := (.seq (.ops f37r0 0) (.seq (.ops f37r1 0) .ret))
def f37 : SFn := ⟨27, f37c, [.t 4]⟩

/- sixdot/sixdotlaw12.points -/
def f38r0 : List SOper := [
⟨0, some 2, .p (.mv (.c (.one .nils))), none, none, [], false⟩]
def f38r1 : List SOper := [
⟨0, some 5, .a (.bslice 2 0 [(.int .i64 0), (.int .i64 0)] []), none, none, [], false⟩,
⟨1, some 3, .p (.mv (.t 5)), none, none, [], false⟩]
def f38r2 : List SOper := [
⟨0, some 4, .p (.mv (.c (.one (.int .i64 0)))), none, none, [], false⟩]
def f38r3 : List SOper := [
⟨0, some 6, .p (.mv (.t 4)), none, none, [], false⟩,
⟨1, some 7, .p (.bin .add (.t 6) (.c (.one (.int .i64 1)))), none, none, [], false⟩,
⟨2, some 8, .p (.mv (.t 0)), none, none, [], false⟩,
⟨3, some 9, .p (.len (.t 8)), none, none, [], false⟩,
⟨4, some 10, .p (.bin .lss (.t 7) (.t 9)), none, none, [], false⟩]
def f38r4 : List SOper := [
⟨0, some 13, .p (.mv (.t 3)), none, none, [], false⟩,
⟨1, some 14, .p (.mv (.t 0)), none, none, [], false⟩,
⟨2, some 15, .p (.mv (.t 4)), none, none, [], false⟩,
⟨3, some 16, .p (.iaddr 1 (.t 14) (.t 15)), none, none, [], false⟩,
⟨4, some 17, .l (.load false 1 (.t 16)), none, none, [], false⟩,
⟨5, some 18, .p (.mv (.t 0)), none, none, [], false⟩,
⟨6, some 19, .p (.mv (.t 4)), none, none, [], false⟩,
⟨7, some 20, .p (.bin .add (.t 19) (.c (.one (.int .i64 1)))), none, none, [], false⟩,
⟨8, some 21, .p (.iaddr 1 (.t 18) (.t 20)), none, none, [], false⟩,
⟨9, some 22, .l (.load false 1 (.t 21)), none, none, [], false⟩,
⟨10, some 23, .p (.build [(.int .i64 0), (.int .i64 0)] [(0, 1, (.t 17)), (1, 1, (.t 22))]), none, none, [], false⟩,
⟨11, some 24, .a (.bslice 2 1 [(.int .i64 0), (.int .i64 0)] [(0, 2, (.t 23))]), none, (some 11), [], false⟩,
⟨12, some 25, .e (.append 2 16 (.t 13) (.t 24)), none, none, [], false⟩,
⟨13, some 3, .p (.mv (.t 25)), none, none, [], false⟩]
def f38r5 : List SOper := [
⟨0, some 11, .p (.mv (.t 4)), none, none, [], false⟩,
⟨1, some 12, .p (.bin .add (.t 11) (.c (.one (.int .i64 2)))), none, none, [], false⟩,
⟨2, some 4, .p (.mv (.t 12)), none, none, [], false⟩]
def f38b0 : SC := (.seq (.seq (.ops f38r3 0) (.cond (.t 10) .skip (.exit 0))) (.seq (.block 1 (.ops f38r4 14)) (.ops f38r5 0)))
def f38r6 : List SOper := [
⟨0, some 26, .p (.mv (.t 3)), none, none, [], false⟩,
⟨1, some 2, .p (.mv (.t 26)), none, none, [], false⟩]
def f38c : SC := (.seq (.ops f38r0 0) (.seq (.ops f38r1 0) (.seq (.seq (.ops f38r2 0) (.block 0 (.loop f38b0))) (.seq (.ops f38r6 0) .ret))))
def f38 : SFn := ⟨27, f38c, [.t 2]⟩

/- sixdot/sixdotref12.SameCells -/
def f39r0 : List SOper := [
⟨0, some 4, .p (.mv (.c (.one (.bool false)))), none, none, [], false⟩]
def f39r1 : List SOper := [
⟨0, some 6, .p (.mv (.t 0)), none, none, [], false⟩,
⟨1, some 7, .p (.len (.t 6)), none, none, [], false⟩,
⟨2, some 8, .p (.mv (.t 1)), none, none, [], false⟩,
⟨3, some 9, .p (.len (.t 8)), none, none, [], false⟩,
⟨4, some 10, .p (.bin .neq (.t 7) (.t 9)), none, none, [], false⟩]
def f39r2 : List SOper := [
⟨0, some 4, .p (.mv (.c (.one (.bool false)))), none, none, [], false⟩]
def f39r3 : List SOper := [
⟨0, some 5, .p (.mv (.c (.one (.int .i64 0)))), none, none, [], false⟩]
def f39r4 : List SOper := [
⟨0, some 11, .p (.mv (.t 5)), none, none, [], false⟩,
⟨1, some 12, .p (.mv (.t 0)), none, none, [], false⟩,
⟨2, some 13, .p (.len (.t 12)), none, none, [], false⟩,
⟨3, some 14, .p (.bin .lss (.t 11) (.t 13)), none, none, [], false⟩]
def f39r5 : List SOper := [
⟨0, some 17, .p (.mv (.t 0)), none, none, [], false⟩,
⟨1, some 18, .p (.mv (.t 5)), none, none, [], false⟩,
⟨2, some 19, .p (.iaddr 1 (.t 17) (.t 18)), none, none, [], false⟩,
⟨3, some 20, .l (.load false 1 (.t 19)), none, none, [], false⟩,
⟨4, some 21, .p (.mv (.t 1)), none, none, [], false⟩,
⟨5, some 22, .p (.mv (.t 5)), none, none, [], false⟩,
⟨6, some 23, .p (.iaddr 1 (.t 21) (.t 22)), none, none, [], false⟩,
⟨7, some 24, .l (.load false 1 (.t 23)), none, none, [], false⟩,
⟨8, some 25, .cf 54 [(.t 20), (.t 24)], none, none, [], false⟩,
⟨9, some 26, .p (.not (.t 25)), none, none, [], false⟩]
def f39r6 : List SOper := [
⟨0, some 4, .p (.mv (.c (.one (.bool false)))), none, none, [], false⟩]
def f39r7 : List SOper := [
⟨0, some 15, .p (.mv (.t 5)), none, none, [], false⟩,
⟨1, some 16, .p (.bin .add (.t 15) (.c (.one (.int .i64 1)))), none, none, [], false⟩,
⟨2, some 5, .p (.mv (.t 16)), none, none, [], false⟩]
def f39b0 : SC := (.seq (.seq (.ops f39r4 0) (.cond (.t 14) .skip (.exit 0))) (.seq (.block 1 (.seq (.ops f39r5 10) (.cond (.t 26) (.seq (.ops f39r6 0) .ret) .skip))) (.ops f39r7 0)))
def f39r8 : List SOper := [
⟨0, some 4, .p (.mv (.c (.one (.bool true)))), none, none, [], false⟩]
def f39c : SC := (.seq (.ops f39r0 0) (.seq (.seq (.ops f39r1 0) (.cond (.t 10) (.seq (.ops f39r2 0) .ret) .skip)) (.seq (.seq (.ops f39r3 0) (.block 0 (.loop f39b0))) (.seq (.ops f39r8 0) .ret))))
def f39 : SFn := ⟨27, f39c, [.t 4]⟩

/- sixdot/grid.near -/
def f40r0 : List SOper := [
⟨0, some 2, .p (.mv (.c (.one (.bool false)))), none, none, [], false⟩]
def f40r1 : List SOper := [
⟨0, some 5, .p (.mv (.t 0)), none, none, [], false⟩,
⟨1, some 6, .p (.len (.t 5)), none, none, [], false⟩,
⟨2, some 7, .p (.mv (.c (.one (.int .i64 0)))), none, none, [], false⟩]
def f40r2 : List SOper := [
⟨0, some 8, .p (.bin .lss (.t 7) (.t 6)), none, none, [], false⟩]
def f40r3 : List SOper := [
⟨0, some 9, .p (.iaddr 2 (.t 5) (.t 7)), none, none, [], false⟩,
⟨1, some 10, .l (.load true 2 (.t 9)), none, none, [], false⟩,
⟨2, some 4, .a (.alloc [(.int .i64 0), (.int .i64 0)]), none, none, [], false⟩,
⟨3, none, .e (.store 2 (.t 4) (.t 10)), none, none, [], false⟩]
def f40r4 : List SOper := [
⟨0, some 11, .p (.faddr 0 (.t 4)), none, none, [], false⟩,
⟨1, some 12, .l (.load false 1 (.t 11)), none, none, [], false⟩,
⟨2, some 13, .p (.bin .lss (.t 12) (.c (.one (.int .i64 (-1000))))), none, none, [], false⟩,
⟨3, some 14, .p (.mv (.t 13)), none, none, [], false⟩,
⟨4, some 15, .p (.faddr 0 (.t 4)), (some (14, false)), none, [], false⟩,
⟨5, some 16, .l (.load false 1 (.t 15)), (some (14, false)), none, [], false⟩,
⟨6, some 17, .p (.bin .gtr (.t 16) (.c (.one (.int .i64 1000)))), (some (14, false)), none, [], false⟩,
⟨7, some 18, .p (.pick (.t 14) (.c (.one (.bool true))) (.t 17)), none, none, [], false⟩,
⟨8, some 19, .p (.mv (.t 18)), none, none, [], false⟩,
⟨9, some 20, .p (.faddr 1 (.t 4)), (some (19, false)), none, [], false⟩,
⟨10, some 21, .l (.load false 1 (.t 20)), (some (19, false)), none, [], false⟩,
⟨11, some 22, .p (.bin .lss (.t 21) (.c (.one (.int .i64 (-1000))))), (some (19, false)), none, [], false⟩,
⟨12, some 23, .p (.pick (.t 19) (.c (.one (.bool true))) (.t 22)), none, none, [], false⟩,
⟨13, some 24, .p (.mv (.t 23)), none, none, [], false⟩,
⟨14, some 25, .p (.faddr 1 (.t 4)), (some (24, false)), none, [], false⟩,
⟨15, some 26, .l (.load false 1 (.t 25)), (some (24, false)), none, [], false⟩,
⟨16, some 27, .p (.bin .gtr (.t 26) (.c (.one (.int .i64 1000)))), (some (24, false)), none, [], false⟩,
⟨17, some 28, .p (.pick (.t 24) (.c (.one (.bool true))) (.t 27)), none, none, [], false⟩]
def f40r5 : List SOper := [
⟨0, some 2, .p (.mv (.c (.one (.bool false)))), none, none, [], false⟩]
def f40r6 : List SOper := [
⟨0, some 29, .p (.bin .add (.t 7) (.c (.one (.int .i64 1)))), none, none, [], false⟩,
⟨1, some 7, .p (.mv (.t 29)), none, none, [], false⟩]
def f40b0 : SC := (.seq (.ops f40r2 0) (.seq (.cond (.t 8) .skip (.exit 0)) (.seq (.block 1 (.seq (.ops f40r3 0) (.seq (.ops f40r4 0) (.cond (.t 28) (.seq (.ops f40r5 0) .ret) .skip)))) (.ops f40r6 0))))
def f40r7 : List SOper := [
⟨0, some 2, .p (.mv (.c (.one (.bool true)))), none, none, [], false⟩]
def f40c : SC := (.seq (.ops f40r0 0) (.seq (.seq (.ops f40r1 0) (.block 0 (.loop f40b0))) (.seq (.ops f40r7 0) .ret)))
def f40 : SFn := ⟨30, f40c, [.t 2]⟩

/- sixdot/grid.apart -/
def f41r0 : List SOper := [
⟨0, some 2, .a (.box (.t 0)), none, none, [], false⟩,
⟨1, some 3, .a (.box (.t 1)), none, none, [], false⟩,
⟨2, some 4, .p (.mv (.c (.one (.int .i64 0)))), none, none, [], false⟩]
def f41r1 : List SOper := [
⟨0, some 5, .p (.faddr 0 (.t 2)), none, none, [], false⟩,
⟨1, some 6, .l (.load false 1 (.t 5)), none, none, [], false⟩,
⟨2, some 7, .p (.faddr 0 (.t 3)), none, none, [], false⟩,
⟨3, some 8, .l (.load false 1 (.t 7)), none, none, [], false⟩,
⟨4, some 9, .p (.bin .sub (.t 6) (.t 8)), none, none, [], false⟩,
⟨6, some 11, .p (.faddr 1 (.t 2)), none, none, [], false⟩,
⟨7, some 12, .l (.load false 1 (.t 11)), none, none, [], true⟩,
⟨8, some 13, .p (.faddr 1 (.t 3)), none, none, [], false⟩,
⟨9, some 14, .l (.load false 1 (.t 13)), none, none, [], true⟩,
⟨10, some 15, .p (.bin .sub (.t 12) (.t 14)), none, none, [], false⟩,
⟨5, some 10, .cf 55 [(.t 9)], none, none, [9, 7], false⟩,
⟨11, some 16, .cf 55 [(.t 15)], none, none, [], false⟩,
⟨12, some 17, .p (.mm true (.t 10) (.t 16)), none, none, [], false⟩,
⟨13, some 4, .p (.mv (.t 17)), none, none, [], false⟩]
def f41c : SC := (.seq (.ops f41r0 0) (.seq (.ops f41r1 14) .ret))
def f41 : SFn := ⟨18, f41c, [.t 4]⟩

/- sixdot/grid.between -/
def f42r0 : List SOper := [
⟨0, some 8, .p (.mv (.c (.one (.int .i64 0)))), none, none, [], false⟩]
def f42r1 : List SOper := [
⟨0, some 11, .p (.mv (.t 0)), none, none, [], false⟩,
⟨1, some 12, .p (.mv (.t 3)), none, none, [], false⟩,
⟨2, some 13, .p (.bin .mul (.t 11) (.t 12)), none, none, [], false⟩,
⟨3, some 14, .p (.mv (.t 2)), none, none, [], false⟩,
⟨4, some 15, .p (.mv (.t 1)), none, none, [], false⟩,
⟨5, some 16, .p (.mv (.t 0)), none, none, [], false⟩,
⟨6, some 17, .p (.bin .sub (.t 15) (.t 16)), none, none, [], false⟩,
⟨7, some 18, .p (.bin .mul (.t 14) (.t 17)), none, none, [], false⟩,
⟨8, some 19, .p (.bin .add (.t 13) (.t 18)), none, none, [], false⟩,
⟨9, some 20, .p (.bin .mul (.c (.one (.int .i64 2))) (.t 19)), none, none, [], false⟩,
⟨10, some 21, .p (.mv (.t 3)), none, none, [], false⟩,
⟨11, some 22, .p (.bin .add (.t 20) (.t 21)), none, none, [], false⟩,
⟨12, some 9, .p (.mv (.t 22)), none, none, [], false⟩]
def f42r2 : List SOper := [
⟨0, some 23, .p (.mv (.t 9)), none, none, [], false⟩,
⟨1, some 24, .p (.mv (.t 3)), none, none, [], false⟩,
⟨2, some 25, .p (.bin .mul (.c (.one (.int .i64 2))) (.t 24)), none, none, [], false⟩,
⟨3, some 26, .p (.bin .quo (.t 23) (.t 25)), none, none, [], false⟩,
⟨4, some 10, .p (.mv (.t 26)), none, none, [], false⟩]
def f42r3 : List SOper := [
⟨0, some 27, .p (.mv (.t 9)), none, none, [], false⟩,
⟨1, some 28, .p (.mv (.t 3)), none, none, [], false⟩,
⟨2, some 29, .p (.bin .mul (.c (.one (.int .i64 2))) (.t 28)), none, none, [], false⟩,
⟨3, some 30, .p (.bin .rem (.t 27) (.t 29)), none, none, [], false⟩,
⟨4, some 31, .p (.bin .lss (.t 30) (.c (.one (.int .i64 0)))), none, none, [], false⟩]
def f42r4 : List SOper := [
⟨0, some 32, .p (.mv (.t 10)), none, none, [], false⟩,
⟨1, some 33, .p (.bin .sub (.t 32) (.c (.one (.int .i64 1)))), none, none, [], false⟩,
⟨2, some 10, .p (.mv (.t 33)), none, none, [], false⟩]
def f42r5 : List SOper := [
⟨0, some 34, .p (.mv (.t 10)), none, none, [], false⟩,
⟨1, some 8, .p (.mv (.t 34)), none, none, [], false⟩]
def f42c : SC := (.seq (.ops f42r0 0) (.seq (.ops f42r1 0) (.seq (.ops f42r2 0) (.seq (.seq (.ops f42r3 0) (.cond (.t 31) (.ops f42r4 0) .skip)) (.seq (.ops f42r5 0) .ret)))))
def f42 : SFn := ⟨35, f42c, [.t 8]⟩

/- sixdot/sixdotref12.abs -/
def f43r0 : List SOper := [
⟨0, some 2, .p (.mv (.c (.one (.int .i64 0)))), none, none, [], false⟩]
def f43r1 : List SOper := [
⟨0, some 3, .p (.mv (.t 0)), none, none, [], false⟩,
⟨1, some 4, .p (.mv (.t 0)), none, none, [], false⟩,
⟨2, some 5, .p (.neg (.t 4)), none, none, [], false⟩,
⟨3, some 6, .p (.mm true (.t 3) (.t 5)), none, none, [], false⟩,
⟨4, some 2, .p (.mv (.t 6)), none, none, [], false⟩]
def f43c : SC := (.seq (.ops f43r0 0) (.seq (.ops f43r1 0) .ret))
def f43 : SFn := ⟨7, f43c, [.t 2]⟩

/- slices.Clone[[]sixdot/api.Point,sixdot/api.Point] -/
def f46r0 : List SOper := [
⟨0, some 2, .p (.mv (.c (.one .nils))), none, none, [], false⟩]
def f46r1 : List SOper := [
⟨0, some 3, .p (.mv (.t 0)), none, none, [], false⟩,
⟨1, some 4, .p (.nileq false (.t 3)), none, none, [], false⟩]
def f46r2 : List SOper := [
⟨0, some 2, .p (.mv (.c (.one .nils))), none, none, [], false⟩]
def f46r3 : List SOper := [
⟨0, some 5, .a (.bslice 2 0 [(.int .i64 0), (.int .i64 0)] []), none, none, [], false⟩,
⟨1, some 6, .p (.mv (.t 0)), none, none, [], false⟩,
⟨2, some 7, .e (.append 2 16 (.t 5) (.t 6)), none, none, [], false⟩,
⟨3, some 2, .p (.mv (.t 7)), none, none, [], false⟩]
def f46c : SC := (.seq (.ops f46r0 0) (.seq (.seq (.ops f46r1 0) (.cond (.t 4) (.seq (.ops f46r2 0) .ret) .skip)) (.seq (.ops f46r3 0) .ret)))
def f46 : SFn := ⟨8, f46c, [.t 2]⟩

/- slices.SortFunc[[]sixdot/api.Point,sixdot/api.Point] -/
def f47r0 : List SOper := [
⟨0, some 5, .p (.mv (.t 0)), none, none, [], false⟩,
⟨1, some 6, .p (.len (.t 5)), none, none, [], false⟩,
⟨2, some 4, .p (.mv (.t 6)), none, none, [], false⟩]
def f47r1 : List SOper := [
⟨0, some 7, .p (.mv (.t 0)), none, none, [], false⟩,
⟨1, some 8, .p (.mv (.t 4)), none, none, [], false⟩,
⟨2, some 9, .p (.mv (.t 4)), none, none, [], false⟩,
⟨3, some 10, .p (.conv .u64 (.t 9)), none, none, [], false⟩,
⟨4, some 11, .cf 58 [(.t 10)], none, none, [], false⟩,
⟨5, some 12, .p (.mv (.t 1)), none, none, [], false⟩,
⟨6, some 13, .cf 57 [(.t 7), (.c (.one (.int .i64 0))), (.t 8), (.t 11), (.t 12)], none, none, [], false⟩]
def f47c : SC := (.seq (.ops f47r0 0) (.ops f47r1 0))
def f47 : SFn := ⟨14, f47c, []⟩

/- sixdot/grid.compare -/
def f48r0 : List SOper := [
⟨0, some 2, .a (.box (.t 0)), none, none, [], false⟩,
⟨1, some 3, .a (.box (.t 1)), none, none, [], false⟩,
⟨2, some 4, .p (.mv (.c (.one (.int .i64 0)))), none, none, [], false⟩]
def f48r1 : List SOper := [
⟨0, some 6, .p (.faddr 1 (.t 2)), none, none, [], false⟩,
⟨1, some 7, .l (.load false 1 (.t 6)), none, none, [], false⟩,
⟨2, some 8, .p (.faddr 1 (.t 3)), none, none, [], false⟩,
⟨3, some 9, .l (.load false 1 (.t 8)), none, none, [], false⟩,
⟨4, some 10, .p (.bin .lss (.t 7) (.t 9)), none, none, [], false⟩,
⟨5, some 11, .p (.mv (.t 10)), none, none, [], false⟩,
⟨6, some 12, .p (.faddr 1 (.t 2)), (some (11, false)), none, [], false⟩,
⟨7, some 13, .l (.load false 1 (.t 12)), (some (11, false)), none, [], false⟩,
⟨8, some 14, .p (.faddr 1 (.t 3)), (some (11, false)), none, [], false⟩,
⟨9, some 15, .l (.load false 1 (.t 14)), (some (11, false)), none, [], false⟩,
⟨10, some 16, .p (.bin .eql (.t 13) (.t 15)), (some (11, false)), none, [], false⟩,
⟨11, some 17, .p (.mv (.t 16)), (some (11, false)), none, [], false⟩,
⟨12, some 18, .p (.faddr 0 (.t 2)), (some (17, true)), none, [], false⟩,
⟨13, some 19, .l (.load false 1 (.t 18)), (some (17, true)), none, [], false⟩,
⟨14, some 20, .p (.faddr 0 (.t 3)), (some (17, true)), none, [], false⟩,
⟨15, some 21, .l (.load false 1 (.t 20)), (some (17, true)), none, [], false⟩,
⟨16, some 22, .p (.bin .lss (.t 19) (.t 21)), (some (17, true)), none, [], false⟩,
⟨17, some 23, .p (.pick (.t 17) (.t 22) (.c (.one (.bool false)))), (some (11, false)), none, [], false⟩,
⟨18, some 24, .p (.pick (.t 11) (.c (.one (.bool true))) (.t 23)), none, none, [], false⟩,
⟨19, some 5, .p (.mv (.t 24)), none, none, [], false⟩]
def f48r2 : List SOper := [
⟨0, some 4, .p (.mv (.c (.one (.int .i64 (-1))))), none, none, [], false⟩]
def f48r3 : List SOper := [
⟨0, some 26, .l (.load true 2 (.t 2)), none, none, [], false⟩,
⟨1, some 27, .l (.load true 2 (.t 3)), none, none, [], false⟩,
⟨2, some 28, .p (.eqs false [(0, false), (1, false)] (.t 26) (.t 27)), none, none, [], false⟩,
⟨3, some 25, .p (.mv (.t 28)), none, none, [], false⟩]
def f48r4 : List SOper := [
⟨0, some 4, .p (.mv (.c (.one (.int .i64 0)))), none, none, [], false⟩]
def f48r5 : List SOper := [
⟨0, some 4, .p (.mv (.c (.one (.int .i64 1)))), none, none, [], false⟩]
def f48c : SC := (.seq (.ops f48r0 0) (.seq (.block 0 (.seq (.ops f48r1 0) (.cond (.t 5) (.seq (.ops f48r2 0) .ret) (.seq (.ops f48r3 0) (.cond (.t 25) (.seq (.ops f48r4 0) .ret) .skip))))) (.seq (.ops f48r5 0) .ret)))
def f48 : SFn := ⟨29, f48c, [.t 4]⟩

/- slices.Compact[[]sixdot/api.Point,sixdot/api.Point] -/
def f49r0 : List SOper := [
⟨0, some 2, .p (.mv (.c (.one .nils))), none, none, [], false⟩]
def f49r1 : List SOper := [
⟨0, some 6, .p (.mv (.t 0)), none, none, [], false⟩,
⟨1, some 7, .p (.len (.t 6)), none, none, [], false⟩,
⟨2, some 8, .p (.bin .lss (.t 7) (.c (.one (.int .i64 2)))), none, none, [], false⟩]
def f49r2 : List SOper := [
⟨0, some 9, .p (.mv (.t 0)), none, none, [], false⟩,
⟨1, some 2, .p (.mv (.t 9)), none, none, [], false⟩]
def f49r3 : List SOper := [
⟨0, some 3, .p (.mv (.c (.one (.int .i64 1)))), none, none, [], false⟩]
def f49r4 : List SOper := [
⟨0, some 10, .p (.mv (.t 3)), none, none, [], false⟩,
⟨1, some 11, .p (.mv (.t 0)), none, none, [], false⟩,
⟨2, some 12, .p (.len (.t 11)), none, none, [], false⟩,
⟨3, some 13, .p (.bin .lss (.t 10) (.t 12)), none, none, [], false⟩]
def f49r5 : List SOper := [
⟨0, some 16, .p (.mv (.t 0)), none, none, [], false⟩,
⟨1, some 17, .p (.mv (.t 3)), none, none, [], false⟩,
⟨2, some 18, .p (.iaddr 2 (.t 16) (.t 17)), none, none, [], false⟩,
⟨3, some 19, .l (.load true 2 (.t 18)), none, none, [], false⟩,
⟨4, some 20, .p (.mv (.t 0)), none, none, [], false⟩,
⟨5, some 21, .p (.mv (.t 3)), none, none, [], false⟩,
⟨6, some 22, .p (.bin .sub (.t 21) (.c (.one (.int .i64 1)))), none, none, [], false⟩,
⟨7, some 23, .p (.iaddr 2 (.t 20) (.t 22)), none, none, [], false⟩,
⟨8, some 24, .l (.load true 2 (.t 23)), none, none, [], false⟩,
⟨9, some 25, .p (.eqs false [(0, false), (1, false)] (.t 19) (.t 24)), none, none, [], false⟩]
def f49r6 : List SOper := [
⟨0, some 26, .p (.mv (.t 0)), none, none, [], false⟩,
⟨1, some 27, .p (.mv (.t 3)), none, none, [], false⟩,
⟨2, some 28, .p (.slice 2 (.t 26) (some (.t 27)) none none), none, none, [], false⟩,
⟨3, some 4, .p (.mv (.t 28)), none, none, [], false⟩]
def f49r7 : List SOper := [
⟨0, some 5, .p (.mv (.c (.one (.int .i64 1)))), none, none, [], false⟩]
def f49r8 : List SOper := [
⟨0, some 29, .p (.mv (.t 5)), none, none, [], false⟩,
⟨1, some 30, .p (.mv (.t 4)), none, none, [], false⟩,
⟨2, some 31, .p (.len (.t 30)), none, none, [], false⟩,
⟨3, some 32, .p (.bin .lss (.t 29) (.t 31)), none, none, [], false⟩]
def f49r9 : List SOper := [
⟨0, some 35, .p (.mv (.t 4)), none, none, [], false⟩,
⟨1, some 36, .p (.mv (.t 5)), none, none, [], false⟩,
⟨2, some 37, .p (.iaddr 2 (.t 35) (.t 36)), none, none, [], false⟩,
⟨3, some 38, .l (.load true 2 (.t 37)), none, none, [], false⟩,
⟨4, some 39, .p (.mv (.t 4)), none, none, [], false⟩,
⟨5, some 40, .p (.mv (.t 5)), none, none, [], false⟩,
⟨6, some 41, .p (.bin .sub (.t 40) (.c (.one (.int .i64 1)))), none, none, [], false⟩,
⟨7, some 42, .p (.iaddr 2 (.t 39) (.t 41)), none, none, [], false⟩,
⟨8, some 43, .l (.load true 2 (.t 42)), none, none, [], false⟩,
⟨9, some 44, .p (.eqs true [(0, false), (1, false)] (.t 38) (.t 43)), none, none, [], false⟩]
def f49r10 : List SOper := [
⟨0, some 45, .p (.mv (.t 0)), none, none, [], false⟩,
⟨1, some 46, .p (.mv (.t 3)), none, none, [], false⟩,
⟨2, some 47, .p (.mv (.t 4)), none, none, [], false⟩,
⟨3, some 48, .p (.mv (.t 5)), none, none, [], false⟩,
⟨4, some 49, .p (.iaddr 2 (.t 47) (.t 48)), none, none, [], false⟩,
⟨5, some 50, .l (.load true 2 (.t 49)), none, none, [], false⟩,
⟨6, some 51, .p (.iaddr 2 (.t 45) (.t 46)), none, none, [], false⟩,
⟨7, none, .e (.store 2 (.t 51) (.t 50)), none, none, [], false⟩]
def f49r11 : List SOper := [
⟨0, some 52, .p (.mv (.t 3)), none, none, [], false⟩,
⟨1, some 53, .p (.bin .add (.t 52) (.c (.one (.int .i64 1)))), none, none, [], false⟩,
⟨2, some 3, .p (.mv (.t 53)), none, none, [], false⟩]
def f49r12 : List SOper := [
⟨0, some 33, .p (.mv (.t 5)), none, none, [], false⟩,
⟨1, some 34, .p (.bin .add (.t 33) (.c (.one (.int .i64 1)))), none, none, [], false⟩,
⟨2, some 5, .p (.mv (.t 34)), none, none, [], false⟩]
def f49b0 : SC := (.seq (.seq (.ops f49r8 0) (.cond (.t 32) .skip (.exit 2))) (.seq (.block 3 (.seq (.ops f49r9 10) (.cond (.t 44) (.seq (.ops f49r10 0) (.ops f49r11 0)) .skip))) (.ops f49r12 0)))
def f49r13 : List SOper := [
⟨0, some 54, .p (.mv (.t 0)), none, none, [], false⟩,
⟨1, some 55, .p (.mv (.t 3)), none, none, [], false⟩,
⟨2, some 56, .p (.slice 2 (.t 54) (some (.t 55)) none none), none, none, [], false⟩,
⟨3, none, .e (.clear 2 [(.int .i64 0), (.int .i64 0)] (.t 56)), none, none, [], false⟩]
def f49r14 : List SOper := [
⟨0, some 57, .p (.mv (.t 0)), none, none, [], false⟩,
⟨1, some 58, .p (.mv (.t 3)), none, none, [], false⟩,
⟨2, some 59, .p (.slice 2 (.t 57) none (some (.t 58)) none), none, none, [], false⟩,
⟨3, some 2, .p (.mv (.t 59)), none, none, [], false⟩]
def f49r15 : List SOper := [
⟨0, some 14, .p (.mv (.t 3)), none, none, [], false⟩,
⟨1, some 15, .p (.bin .add (.t 14) (.c (.one (.int .i64 1)))), none, none, [], false⟩,
⟨2, some 3, .p (.mv (.t 15)), none, none, [], false⟩]
def f49b1 : SC := (.seq (.seq (.ops f49r4 0) (.cond (.t 13) .skip (.exit 0))) (.seq (.block 1 (.seq (.ops f49r5 10) (.cond (.t 25) (.seq (.ops f49r6 0) (.seq (.seq (.ops f49r7 0) (.block 2 (.loop f49b0))) (.seq (.ops f49r13 0) (.seq (.ops f49r14 0) .ret)))) .skip))) (.ops f49r15 0)))
def f49r16 : List SOper := [
⟨0, some 60, .p (.mv (.t 0)), none, none, [], false⟩,
⟨1, some 2, .p (.mv (.t 60)), none, none, [], false⟩]
def f49c : SC := (.seq (.ops f49r0 0) (.seq (.seq (.ops f49r1 0) (.cond (.t 8) (.seq (.ops f49r2 0) .ret) .skip)) (.seq (.seq (.ops f49r3 0) (.block 0 (.loop f49b1))) (.seq (.ops f49r16 0) .ret))))
def f49 : SFn := ⟨61, f49c, [.t 2]⟩

/- sixdot/grid.Clusters$1 -/
def f50r0 : List SOper := [
⟨0, some 8, .p (.mv (.c (.one .nils))), none, none, [], false⟩]
def f50r1 : List SOper := [
⟨0, some 14, .l (.load false 1 (.t 3)), none, none, [], false⟩,
⟨1, some 15, .p (.mv (.t 0)), none, none, [], false⟩,
⟨2, some 16, .l (.lookup (.one .nils) false (.t 14) (.t 15)), none, none, [], false⟩,
⟨3, some 9, .p (.mv (.t 16)), none, none, [], false⟩]
def f50r2 : List SOper := [
⟨0, some 18, .p (.mv (.t 9)), none, none, [], false⟩,
⟨1, some 19, .p (.mv (.t 1)), none, none, [], false⟩,
⟨2, some 20, .cf 51 [(.t 18), (.t 19)], none, none, [], false⟩,
⟨3, some 17, .p (.mv (.t 20)), none, none, [], false⟩,
⟨4, some 21, .p (.extract (.t 17) 0), none, none, [], false⟩,
⟨5, some 22, .p (.extract (.t 17) 1), none, none, [], false⟩,
⟨6, some 10, .p (.mv (.t 21)), none, none, [], false⟩,
⟨7, some 11, .p (.mv (.t 22)), none, none, [], false⟩]
def f50r3 : List SOper := [
⟨0, some 23, .p (.mv (.t 10)), none, none, [], false⟩,
⟨1, some 12, .p (.mv (.t 23)), none, none, [], false⟩]
def f50r4 : List SOper := [
⟨0, some 13, .p (.mv (.c (.one .nils))), none, none, [], false⟩]
def f50r5 : List SOper := [
⟨0, some 24, .p (.mv (.t 12)), none, none, [], false⟩,
⟨1, some 25, .p (.mv (.t 9)), none, none, [], false⟩,
⟨2, some 26, .p (.len (.t 25)), none, none, [], false⟩,
⟨3, some 27, .p (.bin .lss (.t 24) (.t 26)), none, none, [], false⟩,
⟨4, some 28, .p (.mv (.t 27)), none, none, [], false⟩,
⟨5, some 29, .p (.mv (.t 9)), (some (28, true)), none, [], false⟩,
⟨6, some 30, .p (.mv (.t 12)), (some (28, true)), none, [], false⟩,
⟨7, some 31, .p (.iaddr 1 (.t 29) (.t 30)), (some (28, true)), none, [], false⟩,
⟨8, some 32, .l (.load false 1 (.t 31)), (some (28, true)), none, [], false⟩,
⟨9, some 33, .p (.mv (.t 2)), (some (28, true)), none, [], false⟩,
⟨10, some 34, .p (.bin .leq (.t 32) (.t 33)), (some (28, true)), none, [], false⟩,
⟨11, some 35, .p (.pick (.t 28) (.t 34) (.c (.one (.bool false)))), none, none, [], false⟩]
def f50r6 : List SOper := [
⟨0, some 38, .p (.mv (.t 13)), none, none, [], false⟩,
⟨1, some 39, .p (.mv (.t 9)), none, none, [], false⟩,
⟨2, some 40, .p (.mv (.t 12)), none, none, [], false⟩,
⟨3, some 41, .p (.iaddr 1 (.t 39) (.t 40)), none, none, [], false⟩,
⟨4, some 42, .l (.load false 1 (.t 41)), none, none, [], false⟩,
⟨5, some 43, .p (.mv (.t 0)), none, none, [], false⟩,
⟨6, some 44, .p (.build [(.int .i64 0), (.int .i64 0)] [(0, 1, (.t 42)), (1, 1, (.t 43))]), none, none, [], false⟩,
⟨7, some 45, .a (.bslice 2 1 [(.int .i64 0), (.int .i64 0)] [(0, 2, (.t 44))]), none, none, [], false⟩,
⟨8, some 46, .e (.append 2 16 (.t 38) (.t 45)), none, none, [], false⟩,
⟨9, some 13, .p (.mv (.t 46)), none, none, [], false⟩]
def f50r7 : List SOper := [
⟨0, some 36, .p (.mv (.t 12)), none, none, [], false⟩,
⟨1, some 37, .p (.bin .add (.t 36) (.c (.one (.int .i64 1)))), none, none, [], false⟩,
⟨2, some 12, .p (.mv (.t 37)), none, none, [], false⟩]
def f50b0 : SC := (.seq (.seq (.ops f50r5 0) (.cond (.t 35) .skip (.exit 0))) (.seq (.block 1 (.ops f50r6 0)) (.ops f50r7 0)))
def f50r8 : List SOper := [
⟨0, some 47, .p (.mv (.t 12)), none, none, [], false⟩,
⟨1, some 48, .p (.mv (.t 10)), none, none, [], false⟩,
⟨2, some 49, .p (.bin .gtr (.t 47) (.t 48)), none, none, [], false⟩]
def f50r9 : List SOper := [
⟨0, some 50, .l (.load false 1 (.t 3)), none, none, [], true⟩,
⟨1, some 51, .p (.mv (.t 0)), none, none, [], false⟩,
⟨2, some 52, .p (.mv (.t 9)), none, none, [], false⟩,
⟨3, some 53, .p (.mv (.t 10)), none, none, [], false⟩,
⟨4, some 54, .p (.mv (.t 12)), none, none, [], false⟩,
⟨5, some 55, .cf 52 [(.t 52), (.t 53), (.t 54)], none, none, [0], false⟩,
⟨6, none, .e (.mapupd (.t 50) (.t 51) (.t 55)), none, none, [], false⟩]
def f50r10 : List SOper := [
⟨0, some 56, .l (.load false 1 (.t 4)), none, none, [], false⟩,
⟨1, some 57, .p (.mv (.t 12)), none, none, [], false⟩,
⟨2, some 58, .p (.mv (.t 10)), none, none, [], false⟩,
⟨3, some 59, .p (.bin .sub (.t 57) (.t 58)), none, none, [], false⟩,
⟨4, some 60, .p (.bin .sub (.t 56) (.t 59)), none, none, [], false⟩,
⟨5, none, .e (.store 1 (.t 4) (.t 60)), none, none, [], false⟩]
def f50r11 : List SOper := [
⟨0, some 61, .p (.mv (.t 13)), none, none, [], false⟩,
⟨1, some 8, .p (.mv (.t 61)), none, none, [], false⟩]
def f50c : SC := (.seq (.ops f50r0 0) (.seq (.ops f50r1 0) (.seq (.ops f50r2 0) (.seq (.ops f50r3 0) (.seq (.ops f50r4 0) (.seq (.block 0 (.loop f50b0)) (.seq (.seq (.ops f50r8 0) (.cond (.t 49) (.seq (.ops f50r9 7) (.ops f50r10 0)) .skip)) (.seq (.ops f50r11 0) .ret))))))))
def f50 : SFn := ⟨62, f50c, [.t 8]⟩

/- slices.BinarySearch[[]int,int] -/
def f51r0 : List SOper := [
⟨0, some 4, .p (.mv (.c (.one (.int .i64 0)))), none, none, [], false⟩,
⟨1, some 5, .p (.mv (.c (.one (.bool false)))), none, none, [], false⟩]
def f51r1 : List SOper := [
⟨0, some 10, .p (.mv (.t 0)), none, none, [], false⟩,
⟨1, some 11, .p (.len (.t 10)), none, none, [], false⟩,
⟨2, some 6, .p (.mv (.t 11)), none, none, [], false⟩]
def f51r2 : List SOper := [
⟨0, some 12, .p (.mv (.t 6)), none, none, [], false⟩,
⟨1, some 7, .p (.mv (.c (.one (.int .i64 0)))), none, none, [], false⟩,
⟨2, some 8, .p (.mv (.t 12)), none, none, [], false⟩]
def f51r3 : List SOper := [
⟨0, some 13, .p (.mv (.t 7)), none, none, [], false⟩,
⟨1, some 14, .p (.mv (.t 8)), none, none, [], false⟩,
⟨2, some 15, .p (.bin .lss (.t 13) (.t 14)), none, none, [], false⟩]
def f51r4 : List SOper := [
⟨0, some 16, .p (.mv (.t 7)), none, none, [], false⟩,
⟨1, some 17, .p (.mv (.t 8)), none, none, [], false⟩,
⟨2, some 18, .p (.bin .add (.t 16) (.t 17)), none, none, [], false⟩,
⟨3, some 19, .p (.conv .u64 (.t 18)), none, none, [], false⟩,
⟨4, some 20, .p (.bin .shr (.t 19) (.c (.one (.int .u64 1)))), none, none, [], false⟩,
⟨5, some 21, .p (.conv .i64 (.t 20)), none, none, [], false⟩,
⟨6, some 9, .p (.mv (.t 21)), none, none, [], false⟩]
def f51r5 : List SOper := [
⟨0, some 22, .p (.mv (.t 0)), none, none, [], false⟩,
⟨1, some 23, .p (.mv (.t 9)), none, none, [], false⟩,
⟨2, some 24, .p (.iaddr 1 (.t 22) (.t 23)), none, none, [], false⟩,
⟨3, some 25, .l (.load false 1 (.t 24)), none, none, [], false⟩,
⟨4, some 26, .p (.mv (.t 1)), none, none, [], false⟩,
⟨5, some 27, .cf 59 [(.t 25), (.t 26)], none, none, [], false⟩]
def f51r6 : List SOper := [
⟨0, some 28, .p (.mv (.t 9)), none, none, [], false⟩,
⟨1, some 29, .p (.bin .add (.t 28) (.c (.one (.int .i64 1)))), none, none, [], false⟩,
⟨2, some 7, .p (.mv (.t 29)), none, none, [], false⟩]
def f51r7 : List SOper := [
⟨0, some 30, .p (.mv (.t 9)), none, none, [], false⟩,
⟨1, some 8, .p (.mv (.t 30)), none, none, [], false⟩]
def f51b0 : SC := (.seq (.seq (.ops f51r3 0) (.cond (.t 15) .skip (.exit 0))) (.block 1 (.seq (.ops f51r4 0) (.seq (.ops f51r5 0) (.cond (.t 27) (.ops f51r6 0) (.ops f51r7 0))))))
def f51r8 : List SOper := [
⟨0, some 31, .p (.mv (.t 7)), none, none, [], false⟩,
⟨1, some 32, .p (.mv (.t 7)), none, none, [], false⟩,
⟨2, some 33, .p (.mv (.t 6)), none, none, [], false⟩,
⟨3, some 34, .p (.bin .lss (.t 32) (.t 33)), none, none, [], false⟩,
⟨4, some 35, .p (.mv (.t 34)), none, none, [], false⟩,
⟨5, some 36, .p (.mv (.t 0)), (some (35, true)), none, [], false⟩,
⟨6, some 37, .p (.mv (.t 7)), (some (35, true)), none, [], false⟩,
⟨7, some 38, .p (.iaddr 1 (.t 36) (.t 37)), (some (35, true)), none, [], false⟩,
⟨8, some 39, .l (.load false 1 (.t 38)), (some (35, true)), none, [], false⟩,
⟨9, some 40, .p (.mv (.t 1)), (some (35, true)), none, [], false⟩,
⟨10, some 41, .p (.bin .eql (.t 39) (.t 40)), (some (35, true)), none, [], false⟩,
⟨11, some 42, .p (.mv (.t 41)), (some (35, true)), none, [], false⟩,
⟨12, some 43, .p (.mv (.t 0)), (some (42, false)), none, [], false⟩,
⟨13, some 44, .p (.mv (.t 7)), (some (42, false)), none, [], false⟩,
⟨14, some 45, .p (.iaddr 1 (.t 43) (.t 44)), (some (42, false)), none, [], false⟩,
⟨15, some 46, .l (.load false 1 (.t 45)), (some (42, false)), none, [], false⟩,
⟨16, some 47, .cf 60 [(.t 46)], (some (42, false)), none, [], false⟩,
⟨17, some 48, .p (.mv (.t 47)), (some (42, false)), none, [], false⟩,
⟨18, some 49, .p (.mv (.t 1)), (some (48, true)), none, [], false⟩,
⟨19, some 50, .cf 60 [(.t 49)], (some (48, true)), none, [], false⟩,
⟨20, some 51, .p (.pick (.t 48) (.t 50) (.c (.one (.bool false)))), (some (42, false)), none, [], false⟩,
⟨21, some 52, .p (.pick (.t 42) (.c (.one (.bool true))) (.t 51)), (some (35, true)), none, [], false⟩,
⟨22, some 53, .p (.pick (.t 35) (.t 52) (.c (.one (.bool false)))), none, none, [], false⟩,
⟨23, some 4, .p (.mv (.t 31)), none, none, [], false⟩,
⟨24, some 5, .p (.mv (.t 53)), none, none, [], false⟩]
def f51c : SC := (.seq (.ops f51r0 0) (.seq (.ops f51r1 0) (.seq (.ops f51r2 0) (.seq (.block 0 (.loop f51b0)) (.seq (.ops f51r8 0) .ret)))))
def f51 : SFn := ⟨54, f51c, [.t 4, .t 5]⟩

/- slices.Delete[[]int,int] -/
def f52r0 : List SOper := [
⟨0, some 6, .p (.mv (.c (.one .nils))), none, none, [], false⟩]
def f52r1 : List SOper := [
⟨0, some 8, .p (.mv (.t 0)), none, none, [], false⟩,
⟨1, some 9, .p (.mv (.t 1)), none, none, [], false⟩,
⟨2, some 10, .p (.mv (.t 2)), none, none, [], false⟩,
⟨3, some 11, .p (.mv (.t 0)), none, none, [], false⟩,
⟨4, some 12, .p (.len (.t 11)), none, none, [], false⟩,
⟨5, some 13, .p (.slice 1 (.t 8) (some (.t 9)) (some (.t 10)) (some (.t 12))), none, none, [], false⟩]
def f52r2 : List SOper := [
⟨0, some 14, .p (.mv (.t 1)), none, none, [], false⟩,
⟨1, some 15, .p (.mv (.t 2)), none, none, [], false⟩,
⟨2, some 16, .p (.bin .eql (.t 14) (.t 15)), none, none, [], false⟩]
def f52r3 : List SOper := [
⟨0, some 17, .p (.mv (.t 0)), none, none, [], false⟩,
⟨1, some 6, .p (.mv (.t 17)), none, none, [], false⟩]
def f52r4 : List SOper := [
⟨0, some 18, .p (.mv (.t 0)), none, none, [], false⟩,
⟨1, some 19, .p (.len (.t 18)), none, none, [], false⟩,
⟨2, some 7, .p (.mv (.t 19)), none, none, [], false⟩]
def f52r5 : List SOper := [
⟨0, some 20, .p (.mv (.t 0)), none, none, [], false⟩,
⟨1, some 21, .p (.mv (.t 1)), none, none, [], false⟩,
⟨2, some 22, .p (.slice 1 (.t 20) none (some (.t 21)) none), none, none, [], false⟩,
⟨3, some 23, .p (.mv (.t 0)), none, none, [], false⟩,
⟨4, some 24, .p (.mv (.t 2)), none, none, [], false⟩,
⟨5, some 25, .p (.slice 1 (.t 23) (some (.t 24)) none none), none, none, [], false⟩,
⟨6, some 26, .e (.append 1 8 (.t 22) (.t 25)), none, none, [], false⟩,
⟨7, some 0, .p (.mv (.t 26)), none, none, [], false⟩]
def f52r6 : List SOper := [
⟨0, some 27, .p (.mv (.t 0)), none, none, [], false⟩,
⟨1, some 28, .p (.mv (.t 0)), none, none, [], false⟩,
⟨2, some 29, .p (.len (.t 28)), none, none, [], false⟩,
⟨3, some 30, .p (.mv (.t 7)), none, none, [], false⟩,
⟨4, some 31, .p (.slice 1 (.t 27) (some (.t 29)) (some (.t 30)) none), none, none, [], false⟩,
⟨5, none, .e (.clear 1 [(.int .i64 0)] (.t 31)), none, none, [], false⟩]
def f52r7 : List SOper := [
⟨0, some 32, .p (.mv (.t 0)), none, none, [], false⟩,
⟨1, some 6, .p (.mv (.t 32)), none, none, [], false⟩]
def f52c : SC := (.seq (.ops f52r0 0) (.seq (.ops f52r1 0) (.seq (.seq (.ops f52r2 0) (.cond (.t 16) (.seq (.ops f52r3 0) .ret) .skip)) (.seq (.ops f52r4 0) (.seq (.ops f52r5 8) (.seq (.ops f52r6 0) (.seq (.ops f52r7 0) .ret)))))))
def f52 : SFn := ⟨33, f52c, [.t 6]⟩

/- sixdot/cell.Valid -/
def f53r0 : List SOper := [
⟨0, some 2, .p (.mv (.c (.one (.bool false)))), none, none, [], false⟩]
def f53r1 : List SOper := [
⟨0, some 3, .p (.mv (.t 0)), none, none, [], false⟩,
⟨1, some 4, .p (.bin .lss (.t 3) (.c (.one (.int .u8 64)))), none, none, [], false⟩,
⟨2, some 2, .p (.mv (.t 4)), none, none, [], false⟩]
def f53c : SC := (.seq (.ops f53r0 0) (.seq (.ops f53r1 0) .ret))
def f53 : SFn := ⟨5, f53c, [.t 2]⟩

/- sixdot/sixdotref12.SameLine -/
def f54r0 : List SOper := [
⟨0, some 4, .p (.mv (.c (.one (.bool false)))), none, none, [], false⟩]
def f54r1 : List SOper := [
⟨0, some 6, .p (.mv (.t 0)), none, none, [], false⟩,
⟨1, some 7, .p (.len (.t 6)), none, none, [], false⟩,
⟨2, some 8, .p (.mv (.t 1)), none, none, [], false⟩,
⟨3, some 9, .p (.len (.t 8)), none, none, [], false⟩,
⟨4, some 10, .p (.bin .neq (.t 7) (.t 9)), none, none, [], false⟩]
def f54r2 : List SOper := [
⟨0, some 4, .p (.mv (.c (.one (.bool false)))), none, none, [], false⟩]
def f54r3 : List SOper := [
⟨0, some 5, .p (.mv (.c (.one (.int .i64 0)))), none, none, [], false⟩]
def f54r4 : List SOper := [
⟨0, some 11, .p (.mv (.t 5)), none, none, [], false⟩,
⟨1, some 12, .p (.mv (.t 0)), none, none, [], false⟩,
⟨2, some 13, .p (.len (.t 12)), none, none, [], false⟩,
⟨3, some 14, .p (.bin .lss (.t 11) (.t 13)), none, none, [], false⟩]
def f54r5 : List SOper := [
⟨0, some 17, .p (.mv (.t 0)), none, none, [], false⟩,
⟨1, some 18, .p (.mv (.t 5)), none, none, [], false⟩,
⟨2, some 19, .p (.iaddr 1 (.t 17) (.t 18)), none, none, [], false⟩,
⟨3, some 20, .l (.load false 1 (.t 19)), none, none, [], false⟩,
⟨4, some 21, .p (.mv (.t 1)), none, none, [], false⟩,
⟨5, some 22, .p (.mv (.t 5)), none, none, [], false⟩,
⟨6, some 23, .p (.iaddr 1 (.t 21) (.t 22)), none, none, [], false⟩,
⟨7, some 24, .l (.load false 1 (.t 23)), none, none, [], false⟩,
⟨8, some 25, .p (.bin .neq (.t 20) (.t 24)), none, none, [], false⟩]
def f54r6 : List SOper := [
⟨0, some 4, .p (.mv (.c (.one (.bool false)))), none, none, [], false⟩]
def f54r7 : List SOper := [
⟨0, some 15, .p (.mv (.t 5)), none, none, [], false⟩,
⟨1, some 16, .p (.bin .add (.t 15) (.c (.one (.int .i64 1)))), none, none, [], false⟩,
⟨2, some 5, .p (.mv (.t 16)), none, none, [], false⟩]
def f54b0 : SC := (.seq (.seq (.ops f54r4 0) (.cond (.t 14) .skip (.exit 0))) (.seq (.block 1 (.seq (.ops f54r5 9) (.cond (.t 25) (.seq (.ops f54r6 0) .ret) .skip))) (.ops f54r7 0)))
def f54r8 : List SOper := [
⟨0, some 4, .p (.mv (.c (.one (.bool true)))), none, none, [], false⟩]
def f54c : SC := (.seq (.ops f54r0 0) (.seq (.seq (.ops f54r1 0) (.cond (.t 10) (.seq (.ops f54r2 0) .ret) .skip)) (.seq (.seq (.ops f54r3 0) (.block 0 (.loop f54b0))) (.seq (.ops f54r8 0) .ret))))
def f54 : SFn := ⟨26, f54c, [.t 4]⟩

/- sixdot/grid.abs -/
def f55r0 : List SOper := [
⟨0, some 2, .p (.mv (.c (.one (.int .i64 0)))), none, none, [], false⟩]
def f55r1 : List SOper := [
⟨0, some 3, .p (.mv (.t 0)), none, none, [], false⟩,
⟨1, some 4, .p (.bin .lss (.t 3) (.c (.one (.int .i64 0)))), none, none, [], false⟩]
def f55r2 : List SOper := [
⟨0, some 5, .p (.mv (.t 0)), none, none, [], false⟩,
⟨1, some 6, .p (.neg (.t 5)), none, none, [], false⟩,
⟨2, some 2, .p (.mv (.t 6)), none, none, [], false⟩]
def f55r3 : List SOper := [
⟨0, some 7, .p (.mv (.t 0)), none, none, [], false⟩,
⟨1, some 2, .p (.mv (.t 7)), none, none, [], false⟩]
def f55c : SC := (.seq (.ops f55r0 0) (.seq (.seq (.ops f55r1 0) (.cond (.t 4) (.seq (.ops f55r2 0) .ret) .skip)) (.seq (.ops f55r3 0) .ret)))
def f55 : SFn := ⟨8, f55c, [.t 2]⟩

/- slices.pdqsortCmpFunc[sixdot/api.Point] -/
def f57r0 : List SOper := [
⟨0, some 10, .p (.mv (.c (.one (.bool true)))), none, none, [], false⟩]
def f57r1 : List SOper := [
⟨0, some 11, .p (.mv (.c (.one (.bool true)))), none, none, [], false⟩]
def f57r2 : List SOper := [
⟨0, some 21, .p (.mv (.t 2)), none, none, [], false⟩,
⟨1, some 22, .p (.mv (.t 1)), none, none, [], false⟩,
⟨2, some 23, .p (.bin .sub (.t 21) (.t 22)), none, none, [], false⟩,
⟨3, some 12, .p (.mv (.t 23)), none, none, [], false⟩]
def f57r3 : List SOper := [
⟨0, some 24, .p (.mv (.t 12)), none, none, [], false⟩,
⟨1, some 25, .p (.bin .leq (.t 24) (.c (.one (.int .i64 12)))), none, none, [], false⟩]
def f57r4 : List SOper := [
⟨0, some 26, .p (.mv (.t 0)), none, none, [], false⟩,
⟨1, some 27, .p (.mv (.t 1)), none, none, [], false⟩,
⟨2, some 28, .p (.mv (.t 2)), none, none, [], false⟩,
⟨3, some 29, .p (.mv (.t 4)), none, none, [], false⟩,
⟨4, some 30, .cf 62 [(.t 26), (.t 27), (.t 28), (.t 29)], none, none, [], false⟩]
def f57r5 : List SOper := [
⟨0, some 31, .p (.mv (.t 3)), none, none, [], false⟩,
⟨1, some 32, .p (.bin .eql (.t 31) (.c (.one (.int .i64 0)))), none, none, [], false⟩]
def f57r6 : List SOper := [
⟨0, some 33, .p (.mv (.t 0)), none, none, [], false⟩,
⟨1, some 34, .p (.mv (.t 1)), none, none, [], false⟩,
⟨2, some 35, .p (.mv (.t 2)), none, none, [], false⟩,
⟨3, some 36, .p (.mv (.t 4)), none, none, [], false⟩,
⟨4, some 37, .cf 63 [(.t 33), (.t 34), (.t 35), (.t 36)], none, none, [], false⟩]
def f57r7 : List SOper := [
⟨0, some 38, .p (.mv (.t 10)), none, none, [], false⟩,
⟨1, some 39, .p (.not (.t 38)), none, none, [], false⟩]
def f57r8 : List SOper := [
⟨0, some 40, .p (.mv (.t 0)), none, none, [], false⟩,
⟨1, some 41, .p (.mv (.t 1)), none, none, [], false⟩,
⟨2, some 42, .p (.mv (.t 2)), none, none, [], false⟩,
⟨3, some 43, .p (.mv (.t 4)), none, none, [], false⟩,
⟨4, some 44, .cf 64 [(.t 40), (.t 41), (.t 42), (.t 43)], none, none, [], false⟩]
def f57r9 : List SOper := [
⟨0, some 45, .p (.mv (.t 3)), none, none, [], false⟩,
⟨1, some 46, .p (.bin .sub (.t 45) (.c (.one (.int .i64 1)))), none, none, [], false⟩,
⟨2, some 3, .p (.mv (.t 46)), none, none, [], false⟩]
def f57r10 : List SOper := [
⟨0, some 48, .p (.mv (.t 0)), none, none, [], false⟩,
⟨1, some 49, .p (.mv (.t 1)), none, none, [], false⟩,
⟨2, some 50, .p (.mv (.t 2)), none, none, [], false⟩,
⟨3, some 51, .p (.mv (.t 4)), none, none, [], false⟩,
⟨4, some 52, .cf 65 [(.t 48), (.t 49), (.t 50), (.t 51)], none, none, [], false⟩,
⟨5, some 47, .p (.mv (.t 52)), none, none, [], false⟩,
⟨6, some 53, .p (.extract (.t 47) 0), none, none, [], false⟩,
⟨7, some 54, .p (.extract (.t 47) 1), none, none, [], false⟩,
⟨8, some 13, .p (.mv (.t 53)), none, none, [], false⟩,
⟨9, some 14, .p (.mv (.t 54)), none, none, [], false⟩]
def f57r11 : List SOper := [
⟨0, some 55, .p (.mv (.t 14)), none, none, [], false⟩,
⟨1, some 56, .p (.bin .eql (.t 55) (.c (.one (.int .i64 2)))), none, none, [], false⟩]
def f57r12 : List SOper := [
⟨0, some 57, .p (.mv (.t 0)), none, none, [], false⟩,
⟨1, some 58, .p (.mv (.t 1)), none, none, [], false⟩,
⟨2, some 59, .p (.mv (.t 2)), none, none, [], false⟩,
⟨3, some 60, .p (.mv (.t 4)), none, none, [], false⟩,
⟨4, some 61, .cf 66 [(.t 57), (.t 58), (.t 59), (.t 60)], none, none, [], false⟩]
def f57r13 : List SOper := [
⟨0, some 62, .p (.mv (.t 2)), none, none, [], false⟩,
⟨1, some 63, .p (.bin .sub (.t 62) (.c (.one (.int .i64 1)))), none, none, [], false⟩,
⟨2, some 64, .p (.mv (.t 13)), none, none, [], false⟩,
⟨3, some 65, .p (.mv (.t 1)), none, none, [], false⟩,
⟨4, some 66, .p (.bin .sub (.t 64) (.t 65)), none, none, [], false⟩,
⟨5, some 67, .p (.bin .sub (.t 63) (.t 66)), none, none, [], false⟩,
⟨6, some 13, .p (.mv (.t 67)), none, none, [], false⟩]
def f57r14 : List SOper := [
⟨0, some 14, .p (.mv (.c (.one (.int .i64 1)))), none, none, [], false⟩]
def f57r15 : List SOper := [
⟨0, some 68, .p (.mv (.t 10)), none, none, [], false⟩,
⟨1, some 69, .p (.mv (.t 68)), none, none, [], false⟩,
⟨2, some 70, .p (.mv (.t 11)), (some (69, true)), none, [], false⟩,
⟨3, some 71, .p (.pick (.t 69) (.t 70) (.c (.one (.bool false)))), none, none, [], false⟩,
⟨4, some 72, .p (.mv (.t 71)), none, none, [], false⟩,
⟨5, some 73, .p (.mv (.t 14)), (some (72, true)), none, [], false⟩,
⟨6, some 74, .p (.bin .eql (.t 73) (.c (.one (.int .i64 1)))), (some (72, true)), none, [], false⟩,
⟨7, some 75, .p (.pick (.t 72) (.t 74) (.c (.one (.bool false)))), none, none, [], false⟩]
def f57r16 : List SOper := [
⟨0, some 76, .p (.mv (.t 0)), none, none, [], false⟩,
⟨1, some 77, .p (.mv (.t 1)), none, none, [], false⟩,
⟨2, some 78, .p (.mv (.t 2)), none, none, [], false⟩,
⟨3, some 79, .p (.mv (.t 4)), none, none, [], false⟩,
⟨4, some 80, .cf 67 [(.t 76), (.t 77), (.t 78), (.t 79)], none, none, [], false⟩]
def f57r17 : List SOper := [
⟨0, some 81, .p (.mv (.t 1)), none, none, [], false⟩,
⟨1, some 82, .p (.bin .gtr (.t 81) (.c (.one (.int .i64 0)))), none, none, [], false⟩,
⟨2, some 83, .p (.mv (.t 82)), none, none, [], false⟩,
⟨3, some 84, .p (.mv (.t 4)), (some (83, true)), none, [], false⟩,
⟨4, some 85, .p (.mv (.t 0)), (some (83, true)), none, [], false⟩,
⟨5, some 86, .p (.mv (.t 1)), (some (83, true)), none, [], false⟩,
⟨6, some 87, .p (.bin .sub (.t 86) (.c (.one (.int .i64 1)))), (some (83, true)), none, [], false⟩,
⟨7, some 88, .p (.iaddr 2 (.t 85) (.t 87)), (some (83, true)), none, [], false⟩,
⟨8, some 89, .l (.load true 2 (.t 88)), (some (83, true)), none, [], false⟩,
⟨9, some 90, .p (.mv (.t 0)), (some (83, true)), none, [], false⟩,
⟨10, some 91, .p (.mv (.t 13)), (some (83, true)), none, [], false⟩,
⟨11, some 92, .p (.iaddr 2 (.t 90) (.t 91)), (some (83, true)), none, [], false⟩,
⟨12, some 93, .l (.load true 2 (.t 92)), (some (83, true)), none, [], false⟩,
⟨13, some 94, .cv (.t 84) [(.t 89), (.t 93)], (some (83, true)), none, [], false⟩,
⟨14, some 95, .p (.bin .lss (.t 94) (.c (.one (.int .i64 0)))), (some (83, true)), none, [], false⟩,
⟨15, some 96, .p (.not (.t 95)), (some (83, true)), none, [], false⟩,
⟨16, some 97, .p (.pick (.t 83) (.t 96) (.c (.one (.bool false)))), none, none, [], false⟩]
def f57r18 : List SOper := [
⟨0, some 98, .p (.mv (.t 0)), none, none, [], false⟩,
⟨1, some 99, .p (.mv (.t 1)), none, none, [], false⟩,
⟨2, some 100, .p (.mv (.t 2)), none, none, [], false⟩,
⟨3, some 101, .p (.mv (.t 13)), none, none, [], false⟩,
⟨4, some 102, .p (.mv (.t 4)), none, none, [], false⟩,
⟨5, some 103, .cf 68 [(.t 98), (.t 99), (.t 100), (.t 101), (.t 102)], none, none, [], false⟩,
⟨6, some 15, .p (.mv (.t 103)), none, none, [], false⟩]
def f57r19 : List SOper := [
⟨0, some 104, .p (.mv (.t 15)), none, none, [], false⟩,
⟨1, some 1, .p (.mv (.t 104)), none, none, [], false⟩]
def f57r20 : List SOper := [
⟨0, some 106, .p (.mv (.t 0)), none, none, [], false⟩,
⟨1, some 107, .p (.mv (.t 1)), none, none, [], false⟩,
⟨2, some 108, .p (.mv (.t 2)), none, none, [], false⟩,
⟨3, some 109, .p (.mv (.t 13)), none, none, [], false⟩,
⟨4, some 110, .p (.mv (.t 4)), none, none, [], false⟩,
⟨5, some 111, .cf 69 [(.t 106), (.t 107), (.t 108), (.t 109), (.t 110)], none, none, [], false⟩,
⟨6, some 105, .p (.mv (.t 111)), none, none, [], false⟩,
⟨7, some 112, .p (.extract (.t 105) 0), none, none, [], false⟩,
⟨8, some 113, .p (.extract (.t 105) 1), none, none, [], false⟩,
⟨9, some 16, .p (.mv (.t 112)), none, none, [], false⟩,
⟨10, some 17, .p (.mv (.t 113)), none, none, [], false⟩]
def f57r21 : List SOper := [
⟨0, some 114, .p (.mv (.t 17)), none, none, [], false⟩,
⟨1, some 11, .p (.mv (.t 114)), none, none, [], false⟩]
def f57r22 : List SOper := [
⟨0, some 115, .p (.mv (.t 16)), none, none, [], false⟩,
⟨1, some 116, .p (.mv (.t 1)), none, none, [], false⟩,
⟨2, some 117, .p (.bin .sub (.t 115) (.t 116)), none, none, [], false⟩,
⟨3, some 118, .p (.mv (.t 2)), none, none, [], false⟩,
⟨4, some 119, .p (.mv (.t 16)), none, none, [], false⟩,
⟨5, some 120, .p (.bin .sub (.t 118) (.t 119)), none, none, [], false⟩,
⟨6, some 18, .p (.mv (.t 117)), none, none, [], false⟩,
⟨7, some 19, .p (.mv (.t 120)), none, none, [], false⟩]
def f57r23 : List SOper := [
⟨0, some 121, .p (.mv (.t 12)), none, none, [], false⟩,
⟨1, some 122, .p (.bin .quo (.t 121) (.c (.one (.int .i64 8)))), none, none, [], false⟩,
⟨2, some 20, .p (.mv (.t 122)), none, none, [], false⟩]
def f57r24 : List SOper := [
⟨0, some 123, .p (.mv (.t 18)), none, none, [], false⟩,
⟨1, some 124, .p (.mv (.t 19)), none, none, [], false⟩,
⟨2, some 125, .p (.bin .lss (.t 123) (.t 124)), none, none, [], false⟩]
def f57r25 : List SOper := [
⟨0, some 126, .p (.mv (.t 18)), none, none, [], false⟩,
⟨1, some 127, .p (.mv (.t 20)), none, none, [], false⟩,
⟨2, some 128, .p (.bin .geq (.t 126) (.t 127)), none, none, [], false⟩,
⟨3, some 10, .p (.mv (.t 128)), none, none, [], false⟩]
def f57r26 : List SOper := [
⟨0, some 129, .p (.mv (.t 0)), none, none, [], false⟩,
⟨1, some 130, .p (.mv (.t 1)), none, none, [], false⟩,
⟨2, some 131, .p (.mv (.t 16)), none, none, [], false⟩,
⟨3, some 132, .p (.mv (.t 3)), none, none, [], false⟩,
⟨4, some 133, .p (.mv (.t 4)), none, none, [], false⟩,
⟨5, some 134, .cf 57 [(.t 129), (.t 130), (.t 131), (.t 132), (.t 133)], none, none, [], false⟩]
def f57r27 : List SOper := [
⟨0, some 135, .p (.mv (.t 16)), none, none, [], false⟩,
⟨1, some 136, .p (.bin .add (.t 135) (.c (.one (.int .i64 1)))), none, none, [], false⟩,
⟨2, some 1, .p (.mv (.t 136)), none, none, [], false⟩]
def f57r28 : List SOper := [
⟨0, some 137, .p (.mv (.t 19)), none, none, [], false⟩,
⟨1, some 138, .p (.mv (.t 20)), none, none, [], false⟩,
⟨2, some 139, .p (.bin .geq (.t 137) (.t 138)), none, none, [], false⟩,
⟨3, some 10, .p (.mv (.t 139)), none, none, [], false⟩]
def f57r29 : List SOper := [
⟨0, some 140, .p (.mv (.t 0)), none, none, [], false⟩,
⟨1, some 141, .p (.mv (.t 16)), none, none, [], false⟩,
⟨2, some 142, .p (.bin .add (.t 141) (.c (.one (.int .i64 1)))), none, none, [], false⟩,
⟨3, some 143, .p (.mv (.t 2)), none, none, [], false⟩,
⟨4, some 144, .p (.mv (.t 3)), none, none, [], false⟩,
⟨5, some 145, .p (.mv (.t 4)), none, none, [], false⟩,
⟨6, some 146, .cf 57 [(.t 140), (.t 142), (.t 143), (.t 144), (.t 145)], none, none, [], false⟩]
def f57r30 : List SOper := [
⟨0, some 147, .p (.mv (.t 16)), none, none, [], false⟩,
⟨1, some 2, .p (.mv (.t 147)), none, none, [], false⟩]
def f57b0 : SC := (.block 1 (.seq (.ops f57r2 0) (.seq (.seq (.ops f57r3 0) (.cond (.t 25) (.seq (.ops f57r4 0) .ret) .skip)) (.seq (.seq (.ops f57r5 0) (.cond (.t 32) (.seq (.ops f57r6 0) .ret) .skip)) (.seq (.seq (.ops f57r7 0) (.cond (.t 39) (.seq (.ops f57r8 0) (.ops f57r9 0)) .skip)) (.seq (.ops f57r10 0) (.seq (.seq (.ops f57r11 0) (.cond (.t 56) (.seq (.ops f57r12 0) (.seq (.ops f57r13 0) (.ops f57r14 0))) .skip)) (.seq (.seq (.ops f57r15 0) (.cond (.t 75) (.seq (.ops f57r16 0) (.cond (.t 80) .ret .skip)) .skip)) (.seq (.seq (.ops f57r17 17) (.cond (.t 97) (.seq (.ops f57r18 0) (.seq (.ops f57r19 0) (.exit 1))) .skip)) (.seq (.ops f57r20 0) (.seq (.ops f57r21 0) (.seq (.ops f57r22 0) (.seq (.ops f57r23 0) (.seq (.ops f57r24 0) (.cond (.t 125) (.seq (.ops f57r25 0) (.seq (.ops f57r26 0) (.ops f57r27 0))) (.seq (.ops f57r28 0) (.seq (.ops f57r29 0) (.ops f57r30 0))))))))))))))))))
def f57c : SC := (.seq (.ops f57r0 0) (.seq (.ops f57r1 0) (.block 0 (.loop f57b0))))
def f57 : SFn := ⟨148, f57c, []⟩

/- math/bits.Len -/
def f58r0 : List SOper := [
⟨0, some 2, .p (.mv (.c (.one (.int .i64 0)))), none, none, [], false⟩]
def f58r1 : List SOper := [
⟨0, some 3, .p (.mv (.t 0)), none, none, [], false⟩,
⟨1, some 4, .p (.conv .u32 (.t 3)), none, none, [], false⟩,
⟨2, some 5, .cf 70 [(.t 4)], none, none, [], false⟩,
⟨3, some 2, .p (.mv (.t 5)), none, none, [], false⟩]
def f58r2 : List SOper := [
⟨0, some 6, .p (.mv (.t 0)), none, none, [], false⟩,
⟨1, some 7, .cf 71 [(.t 6)], none, none, [], false⟩,
⟨2, some 2, .p (.mv (.t 7)), none, none, [], false⟩]
def f58c : SC := (.seq (.ops f58r0 0) (.seq (.cond (.c (.one (.bool false))) (.seq (.ops f58r1 0) .ret) .skip) (.seq (.ops f58r2 0) .ret)))
def f58 : SFn := ⟨8, f58c, [.t 2]⟩

/- cmp.Less[int] -/
def f59r0 : List SOper := [
⟨0, some 4, .p (.mv (.c (.one (.bool false)))), none, none, [], false⟩]
def f59r1 : List SOper := [
⟨0, some 5, .p (.mv (.t 0)), none, none, [], false⟩,
⟨1, some 6, .cf 72 [(.t 5)], none, none, [], false⟩,
⟨2, some 7, .p (.mv (.t 6)), none, none, [], false⟩,
⟨3, some 8, .p (.mv (.t 1)), (some (7, true)), none, [], false⟩,
⟨4, some 9, .cf 72 [(.t 8)], (some (7, true)), none, [], false⟩,
⟨5, some 10, .p (.not (.t 9)), (some (7, true)), none, [], false⟩,
⟨6, some 11, .p (.pick (.t 7) (.t 10) (.c (.one (.bool false)))), none, none, [], false⟩,
⟨7, some 12, .p (.mv (.t 11)), none, none, [], false⟩,
⟨8, some 13, .p (.mv (.t 0)), (some (12, false)), none, [], false⟩,
⟨9, some 14, .p (.mv (.t 1)), (some (12, false)), none, [], false⟩,
⟨10, some 15, .p (.bin .lss (.t 13) (.t 14)), (some (12, false)), none, [], false⟩,
⟨11, some 16, .p (.pick (.t 12) (.c (.one (.bool true))) (.t 15)), none, none, [], false⟩,
⟨12, some 4, .p (.mv (.t 16)), none, none, [], false⟩]
def f59c : SC := (.seq (.ops f59r0 0) (.seq (.ops f59r1 0) .ret))
def f59 : SFn := ⟨17, f59c, [.t 4]⟩

/- slices.isNaN[int] -/
def f60r0 : List SOper := [
⟨0, some 2, .p (.mv (.c (.one (.bool false)))), none, none, [], false⟩]
def f60r1 : List SOper := [
⟨0, some 3, .p (.mv (.t 0)), none, none, [], false⟩,
⟨1, some 4, .p (.mv (.t 0)), none, none, [], false⟩,
⟨2, some 5, .p (.bin .neq (.t 3) (.t 4)), none, none, [], false⟩,
⟨3, some 2, .p (.mv (.t 5)), none, none, [], false⟩]
def f60c : SC := (.seq (.ops f60r0 0) (.seq (.ops f60r1 0) .ret))
def f60 : SFn := ⟨6, f60c, [.t 2]⟩

/- slices.insertionSortCmpFunc[sixdot/api.Point] -/
def f62r0 : List SOper := [
⟨0, some 10, .p (.mv (.t 1)), none, none, [], false⟩,
⟨1, some 11, .p (.bin .add (.t 10) (.c (.one (.int .i64 1)))), none, none, [], false⟩,
⟨2, some 8, .p (.mv (.t 11)), none, none, [], false⟩]
def f62r1 : List SOper := [
⟨0, some 12, .p (.mv (.t 8)), none, none, [], false⟩,
⟨1, some 13, .p (.mv (.t 2)), none, none, [], false⟩,
⟨2, some 14, .p (.bin .lss (.t 12) (.t 13)), none, none, [], false⟩]
def f62r2 : List SOper := [
⟨0, some 17, .p (.mv (.t 8)), none, none, [], false⟩,
⟨1, some 9, .p (.mv (.t 17)), none, none, [], false⟩]
def f62r3 : List SOper := [
⟨0, some 18, .p (.mv (.t 9)), none, none, [], false⟩,
⟨1, some 19, .p (.mv (.t 1)), none, none, [], false⟩,
⟨2, some 20, .p (.bin .gtr (.t 18) (.t 19)), none, none, [], false⟩,
⟨3, some 21, .p (.mv (.t 20)), none, none, [], false⟩,
⟨4, some 22, .p (.mv (.t 3)), (some (21, true)), none, [], false⟩,
⟨5, some 23, .p (.mv (.t 0)), (some (21, true)), none, [], false⟩,
⟨6, some 24, .p (.mv (.t 9)), (some (21, true)), none, [], false⟩,
⟨7, some 25, .p (.iaddr 2 (.t 23) (.t 24)), (some (21, true)), none, [], false⟩,
⟨8, some 26, .l (.load true 2 (.t 25)), (some (21, true)), none, [], false⟩,
⟨9, some 27, .p (.mv (.t 0)), (some (21, true)), none, [], false⟩,
⟨10, some 28, .p (.mv (.t 9)), (some (21, true)), none, [], false⟩,
⟨11, some 29, .p (.bin .sub (.t 28) (.c (.one (.int .i64 1)))), (some (21, true)), none, [], false⟩,
⟨12, some 30, .p (.iaddr 2 (.t 27) (.t 29)), (some (21, true)), none, [], false⟩,
⟨13, some 31, .l (.load true 2 (.t 30)), (some (21, true)), none, [], false⟩,
⟨14, some 32, .cv (.t 22) [(.t 26), (.t 31)], (some (21, true)), none, [], false⟩,
⟨15, some 33, .p (.bin .lss (.t 32) (.c (.one (.int .i64 0)))), (some (21, true)), none, [], false⟩,
⟨16, some 34, .p (.pick (.t 21) (.t 33) (.c (.one (.bool false)))), none, none, [], false⟩]
def f62r4 : List SOper := [
⟨0, some 37, .p (.mv (.t 0)), none, none, [], false⟩,
⟨1, some 38, .p (.mv (.t 9)), none, none, [], false⟩,
⟨2, some 39, .p (.mv (.t 0)), none, none, [], false⟩,
⟨3, some 40, .p (.mv (.t 9)), none, none, [], false⟩,
⟨4, some 41, .p (.bin .sub (.t 40) (.c (.one (.int .i64 1)))), none, none, [], false⟩,
⟨5, some 42, .p (.mv (.t 0)), none, none, [], false⟩,
⟨6, some 43, .p (.mv (.t 9)), none, none, [], false⟩,
⟨7, some 44, .p (.bin .sub (.t 43) (.c (.one (.int .i64 1)))), none, none, [], false⟩,
⟨8, some 45, .p (.iaddr 2 (.t 42) (.t 44)), none, none, [], false⟩,
⟨9, some 46, .l (.load true 2 (.t 45)), none, none, [], false⟩,
⟨10, some 47, .p (.mv (.t 0)), none, none, [], false⟩,
⟨11, some 48, .p (.mv (.t 9)), none, none, [], false⟩,
⟨12, some 49, .p (.iaddr 2 (.t 47) (.t 48)), none, none, [], false⟩,
⟨13, some 50, .l (.load true 2 (.t 49)), none, none, [], false⟩,
⟨14, some 51, .p (.iaddr 2 (.t 37) (.t 38)), none, none, [], false⟩,
⟨15, none, .e (.store 2 (.t 51) (.t 46)), none, none, [], false⟩,
⟨16, some 52, .p (.iaddr 2 (.t 39) (.t 41)), none, none, [], false⟩,
⟨17, none, .e (.store 2 (.t 52) (.t 50)), none, none, [], false⟩]
def f62r5 : List SOper := [
⟨0, some 35, .p (.mv (.t 9)), none, none, [], false⟩,
⟨1, some 36, .p (.bin .sub (.t 35) (.c (.one (.int .i64 1)))), none, none, [], false⟩,
⟨2, some 9, .p (.mv (.t 36)), none, none, [], false⟩]
def f62b0 : SC := (.seq (.seq (.ops f62r3 17) (.cond (.t 34) .skip (.exit 2))) (.seq (.block 3 (.ops f62r4 18)) (.ops f62r5 0)))
def f62r6 : List SOper := [
⟨0, some 15, .p (.mv (.t 8)), none, none, [], false⟩,
⟨1, some 16, .p (.bin .add (.t 15) (.c (.one (.int .i64 1)))), none, none, [], false⟩,
⟨2, some 8, .p (.mv (.t 16)), none, none, [], false⟩]
def f62b1 : SC := (.seq (.seq (.ops f62r1 0) (.cond (.t 14) .skip (.exit 0))) (.seq (.block 1 (.seq (.ops f62r2 0) (.block 2 (.loop f62b0)))) (.ops f62r6 0)))
def f62c : SC := (.seq (.ops f62r0 0) (.block 0 (.loop f62b1)))
def f62 : SFn := ⟨53, f62c, []⟩

/- math/bits.Len64 -/
def f71r0 : List SOper := [
⟨0, some 2, .p (.mv (.c (.one (.int .i64 0)))), none, none, [], false⟩]
def f71r1 : List SOper := [
⟨0, some 3, .p (.mv (.t 0)), none, none, [], false⟩,
⟨1, some 4, .p (.bin .geq (.t 3) (.c (.one (.int .u64 4294967296)))), none, none, [], false⟩]
def f71r2 : List SOper := [
⟨0, some 5, .p (.mv (.t 0)), none, none, [], false⟩,
⟨1, some 6, .p (.bin .shr (.t 5) (.c (.one (.int .u64 32)))), none, none, [], false⟩,
⟨2, some 0, .p (.mv (.t 6)), none, none, [], false⟩]
def f71r3 : List SOper := [
⟨0, some 2, .p (.mv (.c (.one (.int .i64 32)))), none, none, [], false⟩]
def f71r4 : List SOper := [
⟨0, some 7, .p (.mv (.t 0)), none, none, [], false⟩,
⟨1, some 8, .p (.bin .geq (.t 7) (.c (.one (.int .u64 65536)))), none, none, [], false⟩]
def f71r5 : List SOper := [
⟨0, some 9, .p (.mv (.t 0)), none, none, [], false⟩,
⟨1, some 10, .p (.bin .shr (.t 9) (.c (.one (.int .u64 16)))), none, none, [], false⟩,
⟨2, some 0, .p (.mv (.t 10)), none, none, [], false⟩]
def f71r6 : List SOper := [
⟨0, some 11, .p (.mv (.t 2)), none, none, [], false⟩,
⟨1, some 12, .p (.bin .add (.t 11) (.c (.one (.int .i64 16)))), none, none, [], false⟩,
⟨2, some 2, .p (.mv (.t 12)), none, none, [], false⟩]
def f71r7 : List SOper := [
⟨0, some 13, .p (.mv (.t 0)), none, none, [], false⟩,
⟨1, some 14, .p (.bin .geq (.t 13) (.c (.one (.int .u64 256)))), none, none, [], false⟩]
def f71r8 : List SOper := [
⟨0, some 15, .p (.mv (.t 0)), none, none, [], false⟩,
⟨1, some 16, .p (.bin .shr (.t 15) (.c (.one (.int .u64 8)))), none, none, [], false⟩,
⟨2, some 0, .p (.mv (.t 16)), none, none, [], false⟩]
def f71r9 : List SOper := [
⟨0, some 17, .p (.mv (.t 2)), none, none, [], false⟩,
⟨1, some 18, .p (.bin .add (.t 17) (.c (.one (.int .i64 8)))), none, none, [], false⟩,
⟨2, some 2, .p (.mv (.t 18)), none, none, [], false⟩]
def f71r10 : List SOper := [
⟨0, some 19, .p (.mv (.t 2)), none, none, [], false⟩,
⟨1, some 20, .p (.mv (.t 0)), none, none, [], false⟩,
⟨2, some 21, .p (.conv .u8 (.t 20)), none, none, [], false⟩,
⟨3, some 22, .p (.sindex (.c (.one (.str ⟨#[0, 1, 2, 2, 3, 3, 3, 3, 4, 4, 4, 4, 4, 4, 4, 4, 5, 5, 5, 5, 5, 5, 5, 5, 5, 5, 5, 5, 5, 5, 5, 5, 6, 6, 6, 6, 6, 6, 6, 6, 6, 6, 6, 6, 6, 6, 6, 6, 6, 6, 6, 6, 6, 6, 6, 6, 6, 6, 6, 6, 6, 6, 6, 6, 7, 7, 7, 7, 7, 7, 7, 7, 7, 7, 7, 7, 7, 7, 7, 7, 7, 7, 7, 7, 7, 7, 7, 7, 7, 7, 7, 7, 7, 7, 7, 7, 7, 7, 7, 7, 7, 7, 7, 7, 7, 7, 7, 7, 7, 7, 7, 7, 7, 7, 7, 7, 7, 7, 7, 7, 7, 7, 7, 7, 7, 7, 7, 7, 8, 8, 8, 8, 8, 8, 8, 8, 8, 8, 8, 8, 8, 8, 8, 8, 8, 8, 8, 8, 8, 8, 8, 8, 8, 8, 8, 8, 8, 8, 8, 8, 8, 8, 8, 8, 8, 8, 8, 8, 8, 8, 8, 8, 8, 8, 8, 8, 8, 8, 8, 8, 8, 8, 8, 8, 8, 8, 8, 8, 8, 8, 8, 8, 8, 8, 8, 8, 8, 8, 8, 8, 8, 8, 8, 8, 8, 8, 8, 8, 8, 8, 8, 8, 8, 8, 8, 8, 8, 8, 8, 8, 8, 8, 8, 8, 8, 8, 8, 8, 8, 8, 8, 8, 8, 8, 8, 8, 8, 8, 8, 8, 8, 8, 8, 8, 8, 8, 8, 8, 8, 8, 8, 8, 8, 8, 8, 8]⟩))) (.t 21)), none, none, [], false⟩,
⟨4, some 23, .p (.conv .i64 (.t 22)), none, none, [], false⟩,
⟨5, some 24, .p (.bin .add (.t 19) (.t 23)), none, none, [], false⟩,
⟨6, some 2, .p (.mv (.t 24)), none, none, [], false⟩]
def f71c : SC := (.seq (.ops f71r0 0) (.seq (.seq (.ops f71r1 0) (.cond (.t 4) (.seq (.ops f71r2 0) (.ops f71r3 0)) .skip)) (.seq (.seq (.ops f71r4 0) (.cond (.t 8) (.seq (.ops f71r5 0) (.ops f71r6 0)) .skip)) (.seq (.seq (.ops f71r7 0) (.cond (.t 14) (.seq (.ops f71r8 0) (.ops f71r9 0)) .skip)) (.seq (.ops f71r10 0) .ret)))))
def f71 : SFn := ⟨25, f71c, [.t 2]⟩

/- cmp.isNaN[int] -/
def f72r0 : List SOper := [
⟨0, some 2, .p (.mv (.c (.one (.bool false)))), none, none, [], false⟩]
def f72r1 : List SOper := [
⟨0, some 3, .p (.mv (.t 0)), none, none, [], false⟩,
⟨1, some 4, .p (.mv (.t 0)), none, none, [], false⟩,
⟨2, some 5, .p (.bin .neq (.t 3) (.t 4)), none, none, [], false⟩,
⟨3, some 2, .p (.mv (.t 5)), none, none, [], false⟩]
def f72c : SC := (.seq (.ops f72r0 0) (.seq (.ops f72r1 0) .ret))
def f72 : SFn := ⟨6, f72c, [.t 2]⟩

end Go.Ab.Fn
