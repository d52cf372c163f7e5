/- Contracts of functions of the program over the abstract semantics. -/
import Derived.Test.YtejpbhindcglpaaDoorAb5
set_option linter.unusedVariables false
set_option linter.unusedSimpArgs false
namespace Go.Ab.Fn
open Go.Ab
/- slices.Delete[[]int,int] -/
def f52r0 : List SOper := [
⟨0, some 6, .p (.mv (.c (.one .nils))), none, none, [], false⟩]
def f52r1 : List SOper := [
⟨0, some 8, .p (.mv (.t 0)), none, none, [], false⟩,
⟨1, some 9, .p (.mv (.t 1)), none, none, [], false⟩,
⟨2, some 10, .p (.mv (.t 2)), none, none, [], false⟩,
⟨3, some 11, .p (.mv (.t 0)), none, none, [], false⟩,
⟨4, some 12, .p (.len (.t 11)), none, none, [], false⟩,
⟨5, some 13, .p (.slice 1 (.t 8) (some (.t 9)) (some (.t 10)) (some (.t 12))), none, none, [], false⟩]
def f52r2 : List SOper := [
⟨0, some 14, .p (.mv (.t 1)), none, none, [], false⟩,
⟨1, some 15, .p (.mv (.t 2)), none, none, [], false⟩,
⟨2, some 16, .p (.bin .eql (.t 14) (.t 15)), none, none, [], false⟩]
def f52r3 : List SOper := [
⟨0, some 17, .p (.mv (.t 0)), none, none, [], false⟩,
⟨1, some 6, .p (.mv (.t 17)), none, none, [], false⟩]
def f52r4 : List SOper := [
⟨0, some 18, .p (.mv (.t 0)), none, none, [], false⟩,
⟨1, some 19, .p (.len (.t 18)), none, none, [], false⟩,
⟨2, some 7, .p (.mv (.t 19)), none, none, [], false⟩]
def f52r5 : List SOper := [
⟨0, some 20, .p (.mv (.t 0)), none, none, [], false⟩,
⟨1, some 21, .p (.mv (.t 1)), none, none, [], false⟩,
⟨2, some 22, .p (.slice 1 (.t 20) none (some (.t 21)) none), none, none, [], false⟩,
⟨3, some 23, .p (.mv (.t 0)), none, none, [], false⟩,
⟨4, some 24, .p (.mv (.t 2)), none, none, [], false⟩,
⟨5, some 25, .p (.slice 1 (.t 23) (some (.t 24)) none none), none, none, [], false⟩,
⟨6, some 26, .e (.append 1 8 (.t 22) (.t 25)), none, none, [], false⟩,
⟨7, some 0, .p (.mv (.t 26)), none, none, [], false⟩]
def f52r6 : List SOper := [
⟨0, some 27, .p (.mv (.t 0)), none, none, [], false⟩,
⟨1, some 28, .p (.mv (.t 0)), none, none, [], false⟩,
⟨2, some 29, .p (.len (.t 28)), none, none, [], false⟩,
⟨3, some 30, .p (.mv (.t 7)), none, none, [], false⟩,
⟨4, some 31, .p (.slice 1 (.t 27) (some (.t 29)) (some (.t 30)) none), none, none, [], false⟩,
⟨5, none, .e (.clear 1 [(.int .i64 0)] (.t 31)), none, none, [], false⟩]
def f52r7 : List SOper := [
⟨0, some 32, .p (.mv (.t 0)), none, none, [], false⟩,
⟨1, some 6, .p (.mv (.t 32)), none, none, [], false⟩]
def f52c : SC := (.seq (.ops f52r0 0) (.seq (.ops f52r1 0) (.seq (.seq (.ops f52r2 0) (.cond (.t 16) (.seq (.ops f52r3 0) .ret) .skip)) (.seq (.ops f52r4 0) (.seq (.ops f52r5 8) (.seq (.ops f52r6 0) (.seq (.ops f52r7 0) .ret)))))))
def f52 : SFn := ⟨33, f52c, [.t 6]⟩

/- sixdot/cell.Valid -/
def f53r0 : List SOper := [
⟨0, some 2, .p (.mv (.c (.one (.bool false)))), none, none, [], false⟩]
def f53r1 : List SOper := [
⟨0, some 3, .p (.mv (.t 0)), none, none, [], false⟩,
⟨1, some 4, .p (.bin .lss (.t 3) (.c (.one (.int .u8 64)))), none, none, [], false⟩,
⟨2, some 2, .p (.mv (.t 4)), none, none, [], false⟩]
def f53c : SC := (.seq (.ops f53r0 0) (.seq (.ops f53r1 0) .ret))
def f53 : SFn := ⟨5, f53c, [.t 2]⟩

/- sixdot/sixdotref12.SameLine -/
def f54r0 : List SOper := [
⟨0, some 4, .p (.mv (.c (.one (.bool false)))), none, none, [], false⟩]
def f54r1 : List SOper := [
⟨0, some 6, .p (.mv (.t 0)), none, none, [], false⟩,
⟨1, some 7, .p (.len (.t 6)), none, none, [], false⟩,
⟨2, some 8, .p (.mv (.t 1)), none, none, [], false⟩,
⟨3, some 9, .p (.len (.t 8)), none, none, [], false⟩,
⟨4, some 10, .p (.bin .neq (.t 7) (.t 9)), none, none, [], false⟩]
def f54r2 : List SOper := [
⟨0, some 4, .p (.mv (.c (.one (.bool false)))), none, none, [], false⟩]
def f54r3 : List SOper := [
⟨0, some 5, .p (.mv (.c (.one (.int .i64 0)))), none, none, [], false⟩]
def f54r4 : List SOper := [
⟨0, some 11, .p (.mv (.t 5)), none, none, [], false⟩,
⟨1, some 12, .p (.mv (.t 0)), none, none, [], false⟩,
⟨2, some 13, .p (.len (.t 12)), none, none, [], false⟩,
⟨3, some 14, .p (.bin .lss (.t 11) (.t 13)), none, none, [], false⟩]
def f54r5 : List SOper := [
⟨0, some 17, .p (.mv (.t 0)), none, none, [], false⟩,
⟨1, some 18, .p (.mv (.t 5)), none, none, [], false⟩,
⟨2, some 19, .p (.iaddr 1 (.t 17) (.t 18)), none, none, [], false⟩,
⟨3, some 20, .l (.load false 1 (.t 19)), none, none, [], false⟩,
⟨4, some 21, .p (.mv (.t 1)), none, none, [], false⟩,
⟨5, some 22, .p (.mv (.t 5)), none, none, [], false⟩,
⟨6, some 23, .p (.iaddr 1 (.t 21) (.t 22)), none, none, [], false⟩,
⟨7, some 24, .l (.load false 1 (.t 23)), none, none, [], false⟩,
⟨8, some 25, .p (.bin .neq (.t 20) (.t 24)), none, none, [], false⟩]
def f54r6 : List SOper := [
⟨0, some 4, .p (.mv (.c (.one (.bool false)))), none, none, [], false⟩]
def f54r7 : List SOper := [
⟨0, some 15, .p (.mv (.t 5)), none, none, [], false⟩,
⟨1, some 16, .p (.bin .add (.t 15) (.c (.one (.int .i64 1)))), none, none, [], false⟩,
⟨2, some 5, .p (.mv (.t 16)), none, none, [], false⟩]
def f54b0 : SC := (.seq (.seq (.ops f54r4 0) (.cond (.t 14) .skip (.exit 0))) (.seq (.block 1 (.seq (.ops f54r5 9) (.cond (.t 25) (.seq (.ops f54r6 0) .ret) .skip))) (.ops f54r7 0)))
def f54r8 : List SOper := [
⟨0, some 4, .p (.mv (.c (.one (.bool true)))), none, none, [], false⟩]
def f54c : SC := (.seq (.ops f54r0 0) (.seq (.seq (.ops f54r1 0) (.cond (.t 10) (.seq (.ops f54r2 0) .ret) .skip)) (.seq (.seq (.ops f54r3 0) (.block 0 (.loop f54b0))) (.seq (.ops f54r8 0) .ret))))
def f54 : SFn := ⟨26, f54c, [.t 4]⟩

/- sixdot/grid.abs -/
def f55r0 : List SOper := [
⟨0, some 2, .p (.mv (.c (.one (.int .i64 0)))), none, none, [], false⟩]
def f55r1 : List SOper := [
⟨0, some 3, .p (.mv (.t 0)), none, none, [], false⟩,
⟨1, some 4, .p (.bin .lss (.t 3) (.c (.one (.int .i64 0)))), none, none, [], false⟩]
def f55r2 : List SOper := [
⟨0, some 5, .p (.mv (.t 0)), none, none, [], false⟩,
⟨1, some 6, .p (.neg (.t 5)), none, none, [], false⟩,
⟨2, some 2, .p (.mv (.t 6)), none, none, [], false⟩]
def f55r3 : List SOper := [
⟨0, some 7, .p (.mv (.t 0)), none, none, [], false⟩,
⟨1, some 2, .p (.mv (.t 7)), none, none, [], false⟩]
def f55c : SC := (.seq (.ops f55r0 0) (.seq (.seq (.ops f55r1 0) (.cond (.t 4) (.seq (.ops f55r2 0) .ret) .skip)) (.seq (.ops f55r3 0) .ret)))
def f55 : SFn := ⟨8, f55c, [.t 2]⟩

/- slices.Sort[[]int,int] -/
def f56r0 : List SOper := [
⟨0, some 3, .p (.mv (.t 0)), none, none, [], false⟩,
⟨1, some 4, .p (.len (.t 3)), none, none, [], false⟩,
⟨2, some 2, .p (.mv (.t 4)), none, none, [], false⟩]
def f56r1 : List SOper := [
⟨0, some 5, .p (.mv (.t 0)), none, none, [], false⟩,
⟨1, some 6, .p (.mv (.t 2)), none, none, [], false⟩,
⟨2, some 7, .p (.mv (.t 2)), none, none, [], false⟩,
⟨3, some 8, .p (.conv .u64 (.t 7)), none, none, [], false⟩,
⟨4, some 9, .cf 58 [(.t 8)], none, none, [], false⟩,
⟨5, some 10, .cf 61 [(.t 5), (.c (.one (.int .i64 0))), (.t 6), (.t 9)], none, none, [], false⟩]
def f56c : SC := (.seq (.ops f56r0 0) (.ops f56r1 0))
def f56 : SFn := ⟨11, f56c, []⟩

/- slices.pdqsortCmpFunc[sixdot/api.Point] -/
def f57r0 : List SOper := [
⟨0, some 10, .p (.mv (.c (.one (.bool true)))), none, none, [], false⟩]
def f57r1 : List SOper := [
⟨0, some 11, .p (.mv (.c (.one (.bool true)))), none, none, [], false⟩]
def f57r2 : List SOper := [
⟨0, some 21, .p (.mv (.t 2)), none, none, [], false⟩,
⟨1, some 22, .p (.mv (.t 1)), none, none, [], false⟩,
⟨2, some 23, .p (.bin .sub (.t 21) (.t 22)), none, none, [], false⟩,
⟨3, some 12, .p (.mv (.t 23)), none, none, [], false⟩]
def f57r3 : List SOper := [
⟨0, some 24, .p (.mv (.t 12)), none, none, [], false⟩,
⟨1, some 25, .p (.bin .leq (.t 24) (.c (.one (.int .i64 12)))), none, none, [], false⟩]
def f57r4 : List SOper := [
⟨0, some 26, .p (.mv (.t 0)), none, none, [], false⟩,
⟨1, some 27, .p (.mv (.t 1)), none, none, [], false⟩,
⟨2, some 28, .p (.mv (.t 2)), none, none, [], false⟩,
⟨3, some 29, .p (.mv (.t 4)), none, none, [], false⟩,
⟨4, some 30, .cf 62 [(.t 26), (.t 27), (.t 28), (.t 29)], none, none, [], false⟩]
def f57r5 : List SOper := [
⟨0, some 31, .p (.mv (.t 3)), none, none, [], false⟩,
⟨1, some 32, .p (.bin .eql (.t 31) (.c (.one (.int .i64 0)))), none, none, [], false⟩]
def f57r6 : List SOper := [
⟨0, some 33, .p (.mv (.t 0)), none, none, [], false⟩,
⟨1, some 34, .p (.mv (.t 1)), none, none, [], false⟩,
⟨2, some 35, .p (.mv (.t 2)), none, none, [], false⟩,
⟨3, some 36, .p (.mv (.t 4)), none, none, [], false⟩,
⟨4, some 37, .cf 63 [(.t 33), (.t 34), (.t 35), (.t 36)], none, none, [], false⟩]
def f57r7 : List SOper := [
⟨0, some 38, .p (.mv (.t 10)), none, none, [], false⟩,
⟨1, some 39, .p (.not (.t 38)), none, none, [], false⟩]
def f57r8 : List SOper := [
⟨0, some 40, .p (.mv (.t 0)), none, none, [], false⟩,
⟨1, some 41, .p (.mv (.t 1)), none, none, [], false⟩,
⟨2, some 42, .p (.mv (.t 2)), none, none, [], false⟩,
⟨3, some 43, .p (.mv (.t 4)), none, none, [], false⟩,
⟨4, some 44, .cf 64 [(.t 40), (.t 41), (.t 42), (.t 43)], none, none, [], false⟩]
def f57r9 : List SOper := [
⟨0, some 45, .p (.mv (.t 3)), none, none, [], false⟩,
⟨1, some 46, .p (.bin .sub (.t 45) (.c (.one (.int .i64 1)))), none, none, [], false⟩,
⟨2, some 3, .p (.mv (.t 46)), none, none, [], false⟩]
def f57r10 : List SOper := [
⟨0, some 48, .p (.mv (.t 0)), none, none, [], false⟩,
⟨1, some 49, .p (.mv (.t 1)), none, none, [], false⟩,
⟨2, some 50, .p (.mv (.t 2)), none, none, [], false⟩,
⟨3, some 51, .p (.mv (.t 4)), none, none, [], false⟩,
⟨4, some 52, .cf 65 [(.t 48), (.t 49), (.t 50), (.t 51)], none, none, [], false⟩,
⟨5, some 47, .p (.mv (.t 52)), none, none, [], false⟩,
⟨6, some 53, .p (.extract (.t 47) 0), none, none, [], false⟩,
⟨7, some 54, .p (.extract (.t 47) 1), none, none, [], false⟩,
⟨8, some 13, .p (.mv (.t 53)), none, none, [], false⟩,
⟨9, some 14, .p (.mv (.t 54)), none, none, [], false⟩]
def f57r11 : List SOper := [
⟨0, some 55, .p (.mv (.t 14)), none, none, [], false⟩,
⟨1, some 56, .p (.bin .eql (.t 55) (.c (.one (.int .i64 2)))), none, none, [], false⟩]
def f57r12 : List SOper := [
⟨0, some 57, .p (.mv (.t 0)), none, none, [], false⟩,
⟨1, some 58, .p (.mv (.t 1)), none, none, [], false⟩,
⟨2, some 59, .p (.mv (.t 2)), none, none, [], false⟩,
⟨3, some 60, .p (.mv (.t 4)), none, none, [], false⟩,
⟨4, some 61, .cf 66 [(.t 57), (.t 58), (.t 59), (.t 60)], none, none, [], false⟩]
def f57r13 : List SOper := [
⟨0, some 62, .p (.mv (.t 2)), none, none, [], false⟩,
⟨1, some 63, .p (.bin .sub (.t 62) (.c (.one (.int .i64 1)))), none, none, [], false⟩,
⟨2, some 64, .p (.mv (.t 13)), none, none, [], false⟩,
⟨3, some 65, .p (.mv (.t 1)), none, none, [], false⟩,
⟨4, some 66, .p (.bin .sub (.t 64) (.t 65)), none, none, [], false⟩,
⟨5, some 67, .p (.bin .sub (.t 63) (.t 66)), none, none, [], false⟩,
⟨6, some 13, .p (.mv (.t 67)), none, none, [], false⟩]
def f57r14 : List SOper := [
⟨0, some 14, .p (.mv (.c (.one (.int .i64 1)))), none, none, [], false⟩]
def f57r15 : List SOper := [
⟨0, some 68, .p (.mv (.t 10)), none, none, [], false⟩,
⟨1, some 69, .p (.mv (.t 68)), none, none, [], false⟩,
⟨2, some 70, .p (.mv (.t 11)), (some (69, true)), none, [], false⟩,
⟨3, some 71, .p (.pick (.t 69) (.t 70) (.c (.one (.bool false)))), none, none, [], false⟩,
⟨4, some 72, .p (.mv (.t 71)), none, none, [], false⟩,
⟨5, some 73, .p (.mv (.t 14)), (some (72, true)), none, [], false⟩,
⟨6, some 74, .p (.bin .eql (.t 73) (.c (.one (.int .i64 1)))), (some (72, true)), none, [], false⟩,
⟨7, some 75, .p (.pick (.t 72) (.t 74) (.c (.one (.bool false)))), none, none, [], false⟩]
def f57r16 : List SOper := [
⟨0, some 76, .p (.mv (.t 0)), none, none, [], false⟩,
⟨1, some 77, .p (.mv (.t 1)), none, none, [], false⟩,
⟨2, some 78, .p (.mv (.t 2)), none, none, [], false⟩,
⟨3, some 79, .p (.mv (.t 4)), none, none, [], false⟩,
⟨4, some 80, .cf 67 [(.t 76), (.t 77), (.t 78), (.t 79)], none, none, [], false⟩]
def f57r17 : List SOper := [
⟨0, some 81, .p (.mv (.t 1)), none, none, [], false⟩,
⟨1, some 82, .p (.bin .gtr (.t 81) (.c (.one (.int .i64 0)))), none, none, [], false⟩,
⟨2, some 83, .p (.mv (.t 82)), none, none, [], false⟩,
⟨3, some 84, .p (.mv (.t 4)), (some (83, true)), none, [], false⟩,
⟨4, some 85, .p (.mv (.t 0)), (some (83, true)), none, [], false⟩,
⟨5, some 86, .p (.mv (.t 1)), (some (83, true)), none, [], false⟩,
⟨6, some 87, .p (.bin .sub (.t 86) (.c (.one (.int .i64 1)))), (some (83, true)), none, [], false⟩,
⟨7, some 88, .p (.iaddr 2 (.t 85) (.t 87)), (some (83, true)), none, [], false⟩,
⟨8, some 89, .l (.load true 2 (.t 88)), (some (83, true)), none, [], false⟩,
⟨9, some 90, .p (.mv (.t 0)), (some (83, true)), none, [], false⟩,
⟨10, some 91, .p (.mv (.t 13)), (some (83, true)), none, [], false⟩,
⟨11, some 92, .p (.iaddr 2 (.t 90) (.t 91)), (some (83, true)), none, [], false⟩,
⟨12, some 93, .l (.load true 2 (.t 92)), (some (83, true)), none, [], false⟩,
⟨13, some 94, .cv (.t 84) [(.t 89), (.t 93)], (some (83, true)), none, [], false⟩,
⟨14, some 95, .p (.bin .lss (.t 94) (.c (.one (.int .i64 0)))), (some (83, true)), none, [], false⟩,
⟨15, some 96, .p (.not (.t 95)), (some (83, true)), none, [], false⟩,
⟨16, some 97, .p (.pick (.t 83) (.t 96) (.c (.one (.bool false)))), none, none, [], false⟩]
def f57r18 : List SOper := [
⟨0, some 98, .p (.mv (.t 0)), none, none, [], false⟩,
⟨1, some 99, .p (.mv (.t 1)), none, none, [], false⟩,
⟨2, some 100, .p (.mv (.t 2)), none, none, [], false⟩,
⟨3, some 101, .p (.mv (.t 13)), none, none, [], false⟩,
⟨4, some 102, .p (.mv (.t 4)), none, none, [], false⟩,
⟨5, some 103, .cf 68 [(.t 98), (.t 99), (.t 100), (.t 101), (.t 102)], none, none, [], false⟩,
⟨6, some 15, .p (.mv (.t 103)), none, none, [], false⟩]
def f57r19 : List SOper := [
⟨0, some 104, .p (.mv (.t 15)), none, none, [], false⟩,
⟨1, some 1, .p (.mv (.t 104)), none, none, [], false⟩]
def f57r20 : List SOper := [
⟨0, some 106, .p (.mv (.t 0)), none, none, [], false⟩,
⟨1, some 107, .p (.mv (.t 1)), none, none, [], false⟩,
⟨2, some 108, .p (.mv (.t 2)), none, none, [], false⟩,
⟨3, some 109, .p (.mv (.t 13)), none, none, [], false⟩,
⟨4, some 110, .p (.mv (.t 4)), none, none, [], false⟩,
⟨5, some 111, .cf 69 [(.t 106), (.t 107), (.t 108), (.t 109), (.t 110)], none, none, [], false⟩,
⟨6, some 105, .p (.mv (.t 111)), none, none, [], false⟩,
⟨7, some 112, .p (.extract (.t 105) 0), none, none, [], false⟩,
⟨8, some 113, .p (.extract (.t 105) 1), none, none, [], false⟩,
⟨9, some 16, .p (.mv (.t 112)), none, none, [], false⟩,
⟨10, some 17, .p (.mv (.t 113)), none, none, [], false⟩]
def f57r21 : List SOper := [
⟨0, some 114, .p (.mv (.t 17)), none, none, [], false⟩,
⟨1, some 11, .p (.mv (.t 114)), none, none, [], false⟩]
def f57r22 : List SOper := [
⟨0, some 115, .p (.mv (.t 16)), none, none, [], false⟩,
⟨1, some 116, .p (.mv (.t 1)), none, none, [], false⟩,
⟨2, some 117, .p (.bin .sub (.t 115) (.t 116)), none, none, [], false⟩,
⟨3, some 118, .p (.mv (.t 2)), none, none, [], false⟩,
⟨4, some 119, .p (.mv (.t 16)), none, none, [], false⟩,
⟨5, some 120, .p (.bin .sub (.t 118) (.t 119)), none, none, [], false⟩,
⟨6, some 18, .p (.mv (.t 117)), none, none, [], false⟩,
⟨7, some 19, .p (.mv (.t 120)), none, none, [], false⟩]
def f57r23 : List SOper := [
⟨0, some 121, .p (.mv (.t 12)), none, none, [], false⟩,
⟨1, some 122, .p (.bin .quo (.t 121) (.c (.one (.int .i64 8)))), none, none, [], false⟩,
⟨2, some 20, .p (.mv (.t 122)), none, none, [], false⟩]
def f57r24 : List SOper := [
⟨0, some 123, .p (.mv (.t 18)), none, none, [], false⟩,
⟨1, some 124, .p (.mv (.t 19)), none, none, [], false⟩,
⟨2, some 125, .p (.bin .lss (.t 123) (.t 124)), none, none, [], false⟩]
def f57r25 : List SOper := [
⟨0, some 126, .p (.mv (.t 18)), none, none, [], false⟩,
⟨1, some 127, .p (.mv (.t 20)), none, none, [], false⟩,
⟨2, some 128, .p (.bin .geq (.t 126) (.t 127)), none, none, [], false⟩,
⟨3, some 10, .p (.mv (.t 128)), none, none, [], false⟩]
def f57r26 : List SOper := [
⟨0, some 129, .p (.mv (.t 0)), none, none, [], false⟩,
⟨1, some 130, .p (.mv (.t 1)), none, none, [], false⟩,
⟨2, some 131, .p (.mv (.t 16)), none, none, [], false⟩,
⟨3, some 132, .p (.mv (.t 3)), none, none, [], false⟩,
⟨4, some 133, .p (.mv (.t 4)), none, none, [], false⟩,
⟨5, some 134, .cf 57 [(.t 129), (.t 130), (.t 131), (.t 132), (.t 133)], none, none, [], false⟩]
def f57r27 : List SOper := [
⟨0, some 135, .p (.mv (.t 16)), none, none, [], false⟩,
⟨1, some 136, .p (.bin .add (.t 135) (.c (.one (.int .i64 1)))), none, none, [], false⟩,
⟨2, some 1, .p (.mv (.t 136)), none, none, [], false⟩]
def f57r28 : List SOper := [
⟨0, some 137, .p (.mv (.t 19)), none, none, [], false⟩,
⟨1, some 138, .p (.mv (.t 20)), none, none, [], false⟩,
⟨2, some 139, .p (.bin .geq (.t 137) (.t 138)), none, none, [], false⟩,
⟨3, some 10, .p (.mv (.t 139)), none, none, [], false⟩]
def f57r29 : List SOper := [
⟨0, some 140, .p (.mv (.t 0)), none, none, [], false⟩,
⟨1, some 141, .p (.mv (.t 16)), none, none, [], false⟩,
⟨2, some 142, .p (.bin .add (.t 141) (.c (.one (.int .i64 1)))), none, none, [], false⟩,
⟨3, some 143, .p (.mv (.t 2)), none, none, [], false⟩,
⟨4, some 144, .p (.mv (.t 3)), none, none, [], false⟩,
⟨5, some 145, .p (.mv (.t 4)), none, none, [], false⟩,
⟨6, some 146, .cf 57 [(.t 140), (.t 142), (.t 143), (.t 144), (.t 145)], none, none, [], false⟩]
def f57r30 : List SOper := [
⟨0, some 147, .p (.mv (.t 16)), none, none, [], false⟩,
⟨1, some 2, .p (.mv (.t 147)), none, none, [], false⟩]
def f57b0 : SC := (.block 1 (.seq (.ops f57r2 0) (.seq (.seq (.ops f57r3 0) (.cond (.t 25) (.seq (.ops f57r4 0) .ret) .skip)) (.seq (.seq (.ops f57r5 0) (.cond (.t 32) (.seq (.ops f57r6 0) .ret) .skip)) (.seq (.seq (.ops f57r7 0) (.cond (.t 39) (.seq (.ops f57r8 0) (.ops f57r9 0)) .skip)) (.seq (.ops f57r10 0) (.seq (.seq (.ops f57r11 0) (.cond (.t 56) (.seq (.ops f57r12 0) (.seq (.ops f57r13 0) (.ops f57r14 0))) .skip)) (.seq (.seq (.ops f57r15 0) (.cond (.t 75) (.seq (.ops f57r16 0) (.cond (.t 80) .ret .skip)) .skip)) (.seq (.seq (.ops f57r17 17) (.cond (.t 97) (.seq (.ops f57r18 0) (.seq (.ops f57r19 0) (.exit 1))) .skip)) (.seq (.ops f57r20 0) (.seq (.ops f57r21 0) (.seq (.ops f57r22 0) (.seq (.ops f57r23 0) (.seq (.ops f57r24 0) (.cond (.t 125) (.seq (.ops f57r25 0) (.seq (.ops f57r26 0) (.ops f57r27 0))) (.seq (.ops f57r28 0) (.seq (.ops f57r29 0) (.ops f57r30 0))))))))))))))))))
def f57c : SC := (.seq (.ops f57r0 0) (.seq (.ops f57r1 0) (.block 0 (.loop f57b0))))
def f57 : SFn := ⟨148, f57c, []⟩

/- math/bits.Len -/
def f58r0 : List SOper := [
⟨0, some 2, .p (.mv (.c (.one (.int .i64 0)))), none, none, [], false⟩]
def f58r1 : List SOper := [
⟨0, some 3, .p (.mv (.t 0)), none, none, [], false⟩,
⟨1, some 4, .p (.conv .u32 (.t 3)), none, none, [], false⟩,
⟨2, some 5, .cf 70 [(.t 4)], none, none, [], false⟩,
⟨3, some 2, .p (.mv (.t 5)), none, none, [], false⟩]
def f58r2 : List SOper := [
⟨0, some 6, .p (.mv (.t 0)), none, none, [], false⟩,
⟨1, some 7, .cf 71 [(.t 6)], none, none, [], false⟩,
⟨2, some 2, .p (.mv (.t 7)), none, none, [], false⟩]
def f58c : SC := (.seq (.ops f58r0 0) (.seq (.cond (.c (.one (.bool false))) (.seq (.ops f58r1 0) .ret) .skip) (.seq (.ops f58r2 0) .ret)))
def f58 : SFn := ⟨8, f58c, [.t 2]⟩

/- cmp.Less[int] -/
def f59r0 : List SOper := [
⟨0, some 4, .p (.mv (.c (.one (.bool false)))), none, none, [], false⟩]
def f59r1 : List SOper := [
⟨0, some 5, .p (.mv (.t 0)), none, none, [], false⟩,
⟨1, some 6, .cf 72 [(.t 5)], none, none, [], false⟩,
⟨2, some 7, .p (.mv (.t 6)), none, none, [], false⟩,
⟨3, some 8, .p (.mv (.t 1)), (some (7, true)), none, [], false⟩,
⟨4, some 9, .cf 72 [(.t 8)], (some (7, true)), none, [], false⟩,
⟨5, some 10, .p (.not (.t 9)), (some (7, true)), none, [], false⟩,
⟨6, some 11, .p (.pick (.t 7) (.t 10) (.c (.one (.bool false)))), none, none, [], false⟩,
⟨7, some 12, .p (.mv (.t 11)), none, none, [], false⟩,
⟨8, some 13, .p (.mv (.t 0)), (some (12, false)), none, [], false⟩,
⟨9, some 14, .p (.mv (.t 1)), (some (12, false)), none, [], false⟩,
⟨10, some 15, .p (.bin .lss (.t 13) (.t 14)), (some (12, false)), none, [], false⟩,
⟨11, some 16, .p (.pick (.t 12) (.c (.one (.bool true))) (.t 15)), none, none, [], false⟩,
⟨12, some 4, .p (.mv (.t 16)), none, none, [], false⟩]
def f59c : SC := (.seq (.ops f59r0 0) (.seq (.ops f59r1 0) .ret))
def f59 : SFn := ⟨17, f59c, [.t 4]⟩

/- slices.isNaN[int] -/
def f60r0 : List SOper := [
⟨0, some 2, .p (.mv (.c (.one (.bool false)))), none, none, [], false⟩]
def f60r1 : List SOper := [
⟨0, some 3, .p (.mv (.t 0)), none, none, [], false⟩,
⟨1, some 4, .p (.mv (.t 0)), none, none, [], false⟩,
⟨2, some 5, .p (.bin .neq (.t 3) (.t 4)), none, none, [], false⟩,
⟨3, some 2, .p (.mv (.t 5)), none, none, [], false⟩]
def f60c : SC := (.seq (.ops f60r0 0) (.seq (.ops f60r1 0) .ret))
def f60 : SFn := ⟨6, f60c, [.t 2]⟩

/- slices.pdqsortOrdered[int] -/
def f61r0 : List SOper := [
⟨0, some 8, .p (.mv (.c (.one (.bool true)))), none, none, [], false⟩]
def f61r1 : List SOper := [
⟨0, some 9, .p (.mv (.c (.one (.bool true)))), none, none, [], false⟩]
def f61r2 : List SOper := [
⟨0, some 19, .p (.mv (.t 2)), none, none, [], false⟩,
⟨1, some 20, .p (.mv (.t 1)), none, none, [], false⟩,
⟨2, some 21, .p (.bin .sub (.t 19) (.t 20)), none, none, [], false⟩,
⟨3, some 10, .p (.mv (.t 21)), none, none, [], false⟩]
def f61r3 : List SOper := [
⟨0, some 22, .p (.mv (.t 10)), none, none, [], false⟩,
⟨1, some 23, .p (.bin .leq (.t 22) (.c (.one (.int .i64 12)))), none, none, [], false⟩]
def f61r4 : List SOper := [
⟨0, some 24, .p (.mv (.t 0)), none, none, [], false⟩,
⟨1, some 25, .p (.mv (.t 1)), none, none, [], false⟩,
⟨2, some 26, .p (.mv (.t 2)), none, none, [], false⟩,
⟨3, some 27, .cf 73 [(.t 24), (.t 25), (.t 26)], none, none, [], false⟩]
def f61r5 : List SOper := [
⟨0, some 28, .p (.mv (.t 3)), none, none, [], false⟩,
⟨1, some 29, .p (.bin .eql (.t 28) (.c (.one (.int .i64 0)))), none, none, [], false⟩]
def f61r6 : List SOper := [
⟨0, some 30, .p (.mv (.t 0)), none, none, [], false⟩,
⟨1, some 31, .p (.mv (.t 1)), none, none, [], false⟩,
⟨2, some 32, .p (.mv (.t 2)), none, none, [], false⟩,
⟨3, some 33, .cf 74 [(.t 30), (.t 31), (.t 32)], none, none, [], false⟩]
def f61r7 : List SOper := [
⟨0, some 34, .p (.mv (.t 8)), none, none, [], false⟩,
⟨1, some 35, .p (.not (.t 34)), none, none, [], false⟩]
def f61r8 : List SOper := [
⟨0, some 36, .p (.mv (.t 0)), none, none, [], false⟩,
⟨1, some 37, .p (.mv (.t 1)), none, none, [], false⟩,
⟨2, some 38, .p (.mv (.t 2)), none, none, [], false⟩,
⟨3, some 39, .cf 75 [(.t 36), (.t 37), (.t 38)], none, none, [], false⟩]
def f61r9 : List SOper := [
⟨0, some 40, .p (.mv (.t 3)), none, none, [], false⟩,
⟨1, some 41, .p (.bin .sub (.t 40) (.c (.one (.int .i64 1)))), none, none, [], false⟩,
⟨2, some 3, .p (.mv (.t 41)), none, none, [], false⟩]
def f61r10 : List SOper := [
⟨0, some 43, .p (.mv (.t 0)), none, none, [], false⟩,
⟨1, some 44, .p (.mv (.t 1)), none, none, [], false⟩,
⟨2, some 45, .p (.mv (.t 2)), none, none, [], false⟩,
⟨3, some 46, .cf 76 [(.t 43), (.t 44), (.t 45)], none, none, [], false⟩,
⟨4, some 42, .p (.mv (.t 46)), none, none, [], false⟩,
⟨5, some 47, .p (.extract (.t 42) 0), none, none, [], false⟩,
⟨6, some 48, .p (.extract (.t 42) 1), none, none, [], false⟩,
⟨7, some 11, .p (.mv (.t 47)), none, none, [], false⟩,
⟨8, some 12, .p (.mv (.t 48)), none, none, [], false⟩]
def f61r11 : List SOper := [
⟨0, some 49, .p (.mv (.t 12)), none, none, [], false⟩,
⟨1, some 50, .p (.bin .eql (.t 49) (.c (.one (.int .i64 2)))), none, none, [], false⟩]
def f61r12 : List SOper := [
⟨0, some 51, .p (.mv (.t 0)), none, none, [], false⟩,
⟨1, some 52, .p (.mv (.t 1)), none, none, [], false⟩,
⟨2, some 53, .p (.mv (.t 2)), none, none, [], false⟩,
⟨3, some 54, .cf 77 [(.t 51), (.t 52), (.t 53)], none, none, [], false⟩]
def f61r13 : List SOper := [
⟨0, some 55, .p (.mv (.t 2)), none, none, [], false⟩,
⟨1, some 56, .p (.bin .sub (.t 55) (.c (.one (.int .i64 1)))), none, none, [], false⟩,
⟨2, some 57, .p (.mv (.t 11)), none, none, [], false⟩,
⟨3, some 58, .p (.mv (.t 1)), none, none, [], false⟩,
⟨4, some 59, .p (.bin .sub (.t 57) (.t 58)), none, none, [], false⟩,
⟨5, some 60, .p (.bin .sub (.t 56) (.t 59)), none, none, [], false⟩,
⟨6, some 11, .p (.mv (.t 60)), none, none, [], false⟩]
def f61r14 : List SOper := [
⟨0, some 12, .p (.mv (.c (.one (.int .i64 1)))), none, none, [], false⟩]
def f61r15 : List SOper := [
⟨0, some 61, .p (.mv (.t 8)), none, none, [], false⟩,
⟨1, some 62, .p (.mv (.t 61)), none, none, [], false⟩,
⟨2, some 63, .p (.mv (.t 9)), (some (62, true)), none, [], false⟩,
⟨3, some 64, .p (.pick (.t 62) (.t 63) (.c (.one (.bool false)))), none, none, [], false⟩,
⟨4, some 65, .p (.mv (.t 64)), none, none, [], false⟩,
⟨5, some 66, .p (.mv (.t 12)), (some (65, true)), none, [], false⟩,
⟨6, some 67, .p (.bin .eql (.t 66) (.c (.one (.int .i64 1)))), (some (65, true)), none, [], false⟩,
⟨7, some 68, .p (.pick (.t 65) (.t 67) (.c (.one (.bool false)))), none, none, [], false⟩]
def f61r16 : List SOper := [
⟨0, some 69, .p (.mv (.t 0)), none, none, [], false⟩,
⟨1, some 70, .p (.mv (.t 1)), none, none, [], false⟩,
⟨2, some 71, .p (.mv (.t 2)), none, none, [], false⟩,
⟨3, some 72, .cf 78 [(.t 69), (.t 70), (.t 71)], none, none, [], false⟩]
def f61r17 : List SOper := [
⟨0, some 73, .p (.mv (.t 1)), none, none, [], false⟩,
⟨1, some 74, .p (.bin .gtr (.t 73) (.c (.one (.int .i64 0)))), none, none, [], false⟩,
⟨2, some 75, .p (.mv (.t 74)), none, none, [], false⟩,
⟨3, some 76, .p (.mv (.t 0)), (some (75, true)), none, [], false⟩,
⟨4, some 77, .p (.mv (.t 1)), (some (75, true)), none, [], false⟩,
⟨5, some 78, .p (.bin .sub (.t 77) (.c (.one (.int .i64 1)))), (some (75, true)), none, [], false⟩,
⟨6, some 79, .p (.iaddr 1 (.t 76) (.t 78)), (some (75, true)), none, [], false⟩,
⟨7, some 80, .l (.load false 1 (.t 79)), (some (75, true)), none, [], false⟩,
⟨8, some 81, .p (.mv (.t 0)), (some (75, true)), none, [], false⟩,
⟨9, some 82, .p (.mv (.t 11)), (some (75, true)), none, [], false⟩,
⟨10, some 83, .p (.iaddr 1 (.t 81) (.t 82)), (some (75, true)), none, [], false⟩,
⟨11, some 84, .l (.load false 1 (.t 83)), (some (75, true)), none, [], false⟩,
⟨12, some 85, .cf 59 [(.t 80), (.t 84)], (some (75, true)), none, [], false⟩,
⟨13, some 86, .p (.not (.t 85)), (some (75, true)), none, [], false⟩,
⟨14, some 87, .p (.pick (.t 75) (.t 86) (.c (.one (.bool false)))), none, none, [], false⟩]
def f61r18 : List SOper := [
⟨0, some 88, .p (.mv (.t 0)), none, none, [], false⟩,
⟨1, some 89, .p (.mv (.t 1)), none, none, [], false⟩,
⟨2, some 90, .p (.mv (.t 2)), none, none, [], false⟩,
⟨3, some 91, .p (.mv (.t 11)), none, none, [], false⟩,
⟨4, some 92, .cf 79 [(.t 88), (.t 89), (.t 90), (.t 91)], none, none, [], false⟩,
⟨5, some 13, .p (.mv (.t 92)), none, none, [], false⟩]
def f61r19 : List SOper := [
⟨0, some 93, .p (.mv (.t 13)), none, none, [], false⟩,
⟨1, some 1, .p (.mv (.t 93)), none, none, [], false⟩]
def f61r20 : List SOper := [
⟨0, some 95, .p (.mv (.t 0)), none, none, [], false⟩,
⟨1, some 96, .p (.mv (.t 1)), none, none, [], false⟩,
⟨2, some 97, .p (.mv (.t 2)), none, none, [], false⟩,
⟨3, some 98, .p (.mv (.t 11)), none, none, [], false⟩,
⟨4, some 99, .cf 80 [(.t 95), (.t 96), (.t 97), (.t 98)], none, none, [], false⟩,
⟨5, some 94, .p (.mv (.t 99)), none, none, [], false⟩,
⟨6, some 100, .p (.extract (.t 94) 0), none, none, [], false⟩,
⟨7, some 101, .p (.extract (.t 94) 1), none, none, [], false⟩,
⟨8, some 14, .p (.mv (.t 100)), none, none, [], false⟩,
⟨9, some 15, .p (.mv (.t 101)), none, none, [], false⟩]
def f61r21 : List SOper := [
⟨0, some 102, .p (.mv (.t 15)), none, none, [], false⟩,
⟨1, some 9, .p (.mv (.t 102)), none, none, [], false⟩]
def f61r22 : List SOper := [
⟨0, some 103, .p (.mv (.t 14)), none, none, [], false⟩,
⟨1, some 104, .p (.mv (.t 1)), none, none, [], false⟩,
⟨2, some 105, .p (.bin .sub (.t 103) (.t 104)), none, none, [], false⟩,
⟨3, some 106, .p (.mv (.t 2)), none, none, [], false⟩,
⟨4, some 107, .p (.mv (.t 14)), none, none, [], false⟩,
⟨5, some 108, .p (.bin .sub (.t 106) (.t 107)), none, none, [], false⟩,
⟨6, some 16, .p (.mv (.t 105)), none, none, [], false⟩,
⟨7, some 17, .p (.mv (.t 108)), none, none, [], false⟩]
def f61r23 : List SOper := [
⟨0, some 109, .p (.mv (.t 10)), none, none, [], false⟩,
⟨1, some 110, .p (.bin .quo (.t 109) (.c (.one (.int .i64 8)))), none, none, [], false⟩,
⟨2, some 18, .p (.mv (.t 110)), none, none, [], false⟩]
def f61r24 : List SOper := [
⟨0, some 111, .p (.mv (.t 16)), none, none, [], false⟩,
⟨1, some 112, .p (.mv (.t 17)), none, none, [], false⟩,
⟨2, some 113, .p (.bin .lss (.t 111) (.t 112)), none, none, [], false⟩]
def f61r25 : List SOper := [
⟨0, some 114, .p (.mv (.t 16)), none, none, [], false⟩,
⟨1, some 115, .p (.mv (.t 18)), none, none, [], false⟩,
⟨2, some 116, .p (.bin .geq (.t 114) (.t 115)), none, none, [], false⟩,
⟨3, some 8, .p (.mv (.t 116)), none, none, [], false⟩]
def f61r26 : List SOper := [
⟨0, some 117, .p (.mv (.t 0)), none, none, [], false⟩,
⟨1, some 118, .p (.mv (.t 1)), none, none, [], false⟩,
⟨2, some 119, .p (.mv (.t 14)), none, none, [], false⟩,
⟨3, some 120, .p (.mv (.t 3)), none, none, [], false⟩,
⟨4, some 121, .cf 61 [(.t 117), (.t 118), (.t 119), (.t 120)], none, none, [], false⟩]
def f61r27 : List SOper := [
⟨0, some 122, .p (.mv (.t 14)), none, none, [], false⟩,
⟨1, some 123, .p (.bin .add (.t 122) (.c (.one (.int .i64 1)))), none, none, [], false⟩,
⟨2, some 1, .p (.mv (.t 123)), none, none, [], false⟩]
def f61r28 : List SOper := [
⟨0, some 124, .p (.mv (.t 17)), none, none, [], false⟩,
⟨1, some 125, .p (.mv (.t 18)), none, none, [], false⟩,
⟨2, some 126, .p (.bin .geq (.t 124) (.t 125)), none, none, [], false⟩,
⟨3, some 8, .p (.mv (.t 126)), none, none, [], false⟩]
def f61r29 : List SOper := [
⟨0, some 127, .p (.mv (.t 0)), none, none, [], false⟩,
⟨1, some 128, .p (.mv (.t 14)), none, none, [], false⟩,
⟨2, some 129, .p (.bin .add (.t 128) (.c (.one (.int .i64 1)))), none, none, [], false⟩,
⟨3, some 130, .p (.mv (.t 2)), none, none, [], false⟩,
⟨4, some 131, .p (.mv (.t 3)), none, none, [], false⟩,
⟨5, some 132, .cf 61 [(.t 127), (.t 129), (.t 130), (.t 131)], none, none, [], false⟩]
def f61r30 : List SOper := [
⟨0, some 133, .p (.mv (.t 14)), none, none, [], false⟩,
⟨1, some 2, .p (.mv (.t 133)), none, none, [], false⟩]
def f61b0 : SC := (.block 1 (.seq (.ops f61r2 0) (.seq (.seq (.ops f61r3 0) (.cond (.t 23) (.seq (.ops f61r4 0) .ret) .skip)) (.seq (.seq (.ops f61r5 0) (.cond (.t 29) (.seq (.ops f61r6 0) .ret) .skip)) (.seq (.seq (.ops f61r7 0) (.cond (.t 35) (.seq (.ops f61r8 0) (.ops f61r9 0)) .skip)) (.seq (.ops f61r10 0) (.seq (.seq (.ops f61r11 0) (.cond (.t 50) (.seq (.ops f61r12 0) (.seq (.ops f61r13 0) (.ops f61r14 0))) .skip)) (.seq (.seq (.ops f61r15 0) (.cond (.t 68) (.seq (.ops f61r16 0) (.cond (.t 72) .ret .skip)) .skip)) (.seq (.seq (.ops f61r17 15) (.cond (.t 87) (.seq (.ops f61r18 0) (.seq (.ops f61r19 0) (.exit 1))) .skip)) (.seq (.ops f61r20 0) (.seq (.ops f61r21 0) (.seq (.ops f61r22 0) (.seq (.ops f61r23 0) (.seq (.ops f61r24 0) (.cond (.t 113) (.seq (.ops f61r25 0) (.seq (.ops f61r26 0) (.ops f61r27 0))) (.seq (.ops f61r28 0) (.seq (.ops f61r29 0) (.ops f61r30 0))))))))))))))))))
def f61c : SC := (.seq (.ops f61r0 0) (.seq (.ops f61r1 0) (.block 0 (.loop f61b0))))
def f61 : SFn := ⟨134, f61c, []⟩

/- slices.insertionSortCmpFunc[sixdot/api.Point] -/
def f62r0 : List SOper := [
⟨0, some 10, .p (.mv (.t 1)), none, none, [], false⟩,
⟨1, some 11, .p (.bin .add (.t 10) (.c (.one (.int .i64 1)))), none, none, [], false⟩,
⟨2, some 8, .p (.mv (.t 11)), none, none, [], false⟩]
def f62r1 : List SOper := [
⟨0, some 12, .p (.mv (.t 8)), none, none, [], false⟩,
⟨1, some 13, .p (.mv (.t 2)), none, none, [], false⟩,
⟨2, some 14, .p (.bin .lss (.t 12) (.t 13)), none, none, [], false⟩]
def f62r2 : List SOper := [
⟨0, some 17, .p (.mv (.t 8)), none, none, [], false⟩,
⟨1, some 9, .p (.mv (.t 17)), none, none, [], false⟩]
def f62r3 : List SOper := [
⟨0, some 18, .p (.mv (.t 9)), none, none, [], false⟩,
⟨1, some 19, .p (.mv (.t 1)), none, none, [], false⟩,
⟨2, some 20, .p (.bin .gtr (.t 18) (.t 19)), none, none, [], false⟩,
⟨3, some 21, .p (.mv (.t 20)), none, none, [], false⟩,
⟨4, some 22, .p (.mv (.t 3)), (some (21, true)), none, [], false⟩,
⟨5, some 23, .p (.mv (.t 0)), (some (21, true)), none, [], false⟩,
⟨6, some 24, .p (.mv (.t 9)), (some (21, true)), none, [], false⟩,
⟨7, some 25, .p (.iaddr 2 (.t 23) (.t 24)), (some (21, true)), none, [], false⟩,
⟨8, some 26, .l (.load true 2 (.t 25)), (some (21, true)), none, [], false⟩,
⟨9, some 27, .p (.mv (.t 0)), (some (21, true)), none, [], false⟩,
⟨10, some 28, .p (.mv (.t 9)), (some (21, true)), none, [], false⟩,
⟨11, some 29, .p (.bin .sub (.t 28) (.c (.one (.int .i64 1)))), (some (21, true)), none, [], false⟩,
⟨12, some 30, .p (.iaddr 2 (.t 27) (.t 29)), (some (21, true)), none, [], false⟩,
⟨13, some 31, .l (.load true 2 (.t 30)), (some (21, true)), none, [], false⟩,
⟨14, some 32, .cv (.t 22) [(.t 26), (.t 31)], (some (21, true)), none, [], false⟩,
⟨15, some 33, .p (.bin .lss (.t 32) (.c (.one (.int .i64 0)))), (some (21, true)), none, [], false⟩,
⟨16, some 34, .p (.pick (.t 21) (.t 33) (.c (.one (.bool false)))), none, none, [], false⟩]
def f62r4 : List SOper := [
⟨0, some 37, .p (.mv (.t 0)), none, none, [], false⟩,
⟨1, some 38, .p (.mv (.t 9)), none, none, [], false⟩,
⟨2, some 39, .p (.mv (.t 0)), none, none, [], false⟩,
⟨3, some 40, .p (.mv (.t 9)), none, none, [], false⟩,
⟨4, some 41, .p (.bin .sub (.t 40) (.c (.one (.int .i64 1)))), none, none, [], false⟩,
⟨5, some 42, .p (.mv (.t 0)), none, none, [], false⟩,
⟨6, some 43, .p (.mv (.t 9)), none, none, [], false⟩,
⟨7, some 44, .p (.bin .sub (.t 43) (.c (.one (.int .i64 1)))), none, none, [], false⟩,
⟨8, some 45, .p (.iaddr 2 (.t 42) (.t 44)), none, none, [], false⟩,
⟨9, some 46, .l (.load true 2 (.t 45)), none, none, [], false⟩,
⟨10, some 47, .p (.mv (.t 0)), none, none, [], false⟩,
⟨11, some 48, .p (.mv (.t 9)), none, none, [], false⟩,
⟨12, some 49, .p (.iaddr 2 (.t 47) (.t 48)), none, none, [], false⟩,
⟨13, some 50, .l (.load true 2 (.t 49)), none, none, [], false⟩,
⟨14, some 51, .p (.iaddr 2 (.t 37) (.t 38)), none, none, [], false⟩,
⟨15, none, .e (.store 2 (.t 51) (.t 46)), none, none, [], false⟩,
⟨16, some 52, .p (.iaddr 2 (.t 39) (.t 41)), none, none, [], false⟩,
⟨17, none, .e (.store 2 (.t 52) (.t 50)), none, none, [], false⟩]
def f62r5 : List SOper := [
⟨0, some 35, .p (.mv (.t 9)), none, none, [], false⟩,
⟨1, some 36, .p (.bin .sub (.t 35) (.c (.one (.int .i64 1)))), none, none, [], false⟩,
⟨2, some 9, .p (.mv (.t 36)), none, none, [], false⟩]
def f62b0 : SC := (.seq (.seq (.ops f62r3 17) (.cond (.t 34) .skip (.exit 2))) (.seq (.block 3 (.ops f62r4 18)) (.ops f62r5 0)))
def f62r6 : List SOper := [
⟨0, some 15, .p (.mv (.t 8)), none, none, [], false⟩,
⟨1, some 16, .p (.bin .add (.t 15) (.c (.one (.int .i64 1)))), none, none, [], false⟩,
⟨2, some 8, .p (.mv (.t 16)), none, none, [], false⟩]
def f62b1 : SC := (.seq (.seq (.ops f62r1 0) (.cond (.t 14) .skip (.exit 0))) (.seq (.block 1 (.seq (.ops f62r2 0) (.block 2 (.loop f62b0)))) (.ops f62r6 0)))
def f62c : SC := (.seq (.ops f62r0 0) (.block 0 (.loop f62b1)))
def f62 : SFn := ⟨53, f62c, []⟩

/- slices.heapSortCmpFunc[sixdot/api.Point] -/
def f63r0 : List SOper := [
⟨0, some 13, .p (.mv (.t 1)), none, none, [], false⟩,
⟨1, some 8, .p (.mv (.t 13)), none, none, [], false⟩]
def f63r1 : List SOper := [
⟨0, some 9, .p (.mv (.c (.one (.int .i64 0)))), none, none, [], false⟩]
def f63r2 : List SOper := [
⟨0, some 14, .p (.mv (.t 2)), none, none, [], false⟩,
⟨1, some 15, .p (.mv (.t 1)), none, none, [], false⟩,
⟨2, some 16, .p (.bin .sub (.t 14) (.t 15)), none, none, [], false⟩,
⟨3, some 10, .p (.mv (.t 16)), none, none, [], false⟩]
def f63r3 : List SOper := [
⟨0, some 17, .p (.mv (.t 10)), none, none, [], false⟩,
⟨1, some 18, .p (.bin .sub (.t 17) (.c (.one (.int .i64 1)))), none, none, [], false⟩,
⟨2, some 19, .p (.bin .quo (.t 18) (.c (.one (.int .i64 2)))), none, none, [], false⟩,
⟨3, some 11, .p (.mv (.t 19)), none, none, [], false⟩]
def f63r4 : List SOper := [
⟨0, some 20, .p (.mv (.t 11)), none, none, [], false⟩,
⟨1, some 21, .p (.bin .geq (.t 20) (.c (.one (.int .i64 0)))), none, none, [], false⟩]
def f63r5 : List SOper := [
⟨0, some 24, .p (.mv (.t 0)), none, none, [], false⟩,
⟨1, some 25, .p (.mv (.t 11)), none, none, [], false⟩,
⟨2, some 26, .p (.mv (.t 10)), none, none, [], false⟩,
⟨3, some 27, .p (.mv (.t 8)), none, none, [], false⟩,
⟨4, some 28, .p (.mv (.t 3)), none, none, [], false⟩,
⟨5, some 29, .cf 81 [(.t 24), (.t 25), (.t 26), (.t 27), (.t 28)], none, none, [], false⟩]
def f63r6 : List SOper := [
⟨0, some 22, .p (.mv (.t 11)), none, none, [], false⟩,
⟨1, some 23, .p (.bin .sub (.t 22) (.c (.one (.int .i64 1)))), none, none, [], false⟩,
⟨2, some 11, .p (.mv (.t 23)), none, none, [], false⟩]
def f63b0 : SC := (.seq (.seq (.ops f63r4 0) (.cond (.t 21) .skip (.exit 0))) (.seq (.block 1 (.ops f63r5 0)) (.ops f63r6 0)))
def f63r7 : List SOper := [
⟨0, some 30, .p (.mv (.t 10)), none, none, [], false⟩,
⟨1, some 31, .p (.bin .sub (.t 30) (.c (.one (.int .i64 1)))), none, none, [], false⟩,
⟨2, some 12, .p (.mv (.t 31)), none, none, [], false⟩]
def f63r8 : List SOper := [
⟨0, some 32, .p (.mv (.t 12)), none, none, [], false⟩,
⟨1, some 33, .p (.bin .geq (.t 32) (.c (.one (.int .i64 0)))), none, none, [], false⟩]
def f63r9 : List SOper := [
⟨0, some 36, .p (.mv (.t 0)), none, none, [], false⟩,
⟨1, some 37, .p (.mv (.t 8)), none, none, [], false⟩,
⟨2, some 38, .p (.mv (.t 0)), none, none, [], false⟩,
⟨3, some 39, .p (.mv (.t 8)), none, none, [], false⟩,
⟨4, some 40, .p (.mv (.t 12)), none, none, [], false⟩,
⟨5, some 41, .p (.bin .add (.t 39) (.t 40)), none, none, [], false⟩,
⟨6, some 42, .p (.mv (.t 0)), none, none, [], false⟩,
⟨7, some 43, .p (.mv (.t 8)), none, none, [], false⟩,
⟨8, some 44, .p (.mv (.t 12)), none, none, [], false⟩,
⟨9, some 45, .p (.bin .add (.t 43) (.t 44)), none, none, [], false⟩,
⟨10, some 46, .p (.iaddr 2 (.t 42) (.t 45)), none, none, [], false⟩,
⟨11, some 47, .l (.load true 2 (.t 46)), none, none, [], false⟩,
⟨12, some 48, .p (.mv (.t 0)), none, none, [], false⟩,
⟨13, some 49, .p (.mv (.t 8)), none, none, [], false⟩,
⟨14, some 50, .p (.iaddr 2 (.t 48) (.t 49)), none, none, [], false⟩,
⟨15, some 51, .l (.load true 2 (.t 50)), none, none, [], false⟩,
⟨16, some 52, .p (.iaddr 2 (.t 36) (.t 37)), none, none, [], false⟩,
⟨17, none, .e (.store 2 (.t 52) (.t 47)), none, none, [], false⟩,
⟨18, some 53, .p (.iaddr 2 (.t 38) (.t 41)), none, none, [], false⟩,
⟨19, none, .e (.store 2 (.t 53) (.t 51)), none, none, [], false⟩]
def f63r10 : List SOper := [
⟨0, some 54, .p (.mv (.t 0)), none, none, [], false⟩,
⟨1, some 55, .p (.mv (.t 9)), none, none, [], false⟩,
⟨2, some 56, .p (.mv (.t 12)), none, none, [], false⟩,
⟨3, some 57, .p (.mv (.t 8)), none, none, [], false⟩,
⟨4, some 58, .p (.mv (.t 3)), none, none, [], false⟩,
⟨5, some 59, .cf 81 [(.t 54), (.t 55), (.t 56), (.t 57), (.t 58)], none, none, [], false⟩]
def f63r11 : List SOper := [
⟨0, some 34, .p (.mv (.t 12)), none, none, [], false⟩,
⟨1, some 35, .p (.bin .sub (.t 34) (.c (.one (.int .i64 1)))), none, none, [], false⟩,
⟨2, some 12, .p (.mv (.t 35)), none, none, [], false⟩]
def f63b1 : SC := (.seq (.seq (.ops f63r8 0) (.cond (.t 33) .skip (.exit 2))) (.seq (.block 3 (.seq (.ops f63r9 20) (.ops f63r10 0))) (.ops f63r11 0)))
def f63c : SC := (.seq (.ops f63r0 0) (.seq (.ops f63r1 0) (.seq (.ops f63r2 0) (.seq (.seq (.ops f63r3 0) (.block 0 (.loop f63b0))) (.seq (.ops f63r7 0) (.block 2 (.loop f63b1)))))))
def f63 : SFn := ⟨60, f63c, []⟩

/- slices.breakPatternsCmpFunc[sixdot/api.Point] -/
def f64r0 : List SOper := [
⟨0, some 13, .p (.mv (.t 2)), none, none, [], false⟩,
⟨1, some 14, .p (.mv (.t 1)), none, none, [], false⟩,
⟨2, some 15, .p (.bin .sub (.t 13) (.t 14)), none, none, [], false⟩,
⟨3, some 8, .p (.mv (.t 15)), none, none, [], false⟩]
def f64r1 : List SOper := [
⟨0, some 16, .p (.mv (.t 8)), none, none, [], false⟩,
⟨1, some 17, .p (.bin .geq (.t 16) (.c (.one (.int .i64 8)))), none, none, [], false⟩]
def f64r2 : List SOper := [
⟨0, some 18, .p (.mv (.t 8)), none, none, [], false⟩,
⟨1, some 19, .p (.conv .u64 (.t 18)), none, none, [], false⟩,
⟨2, some 9, .a (.alloc [(.int .u64 0)]), none, none, [], false⟩,
⟨3, none, .e (.store 1 (.t 9) (.t 19)), none, none, [], false⟩]
def f64r3 : List SOper := [
⟨0, some 20, .p (.mv (.t 8)), none, none, [], false⟩,
⟨1, some 21, .cf 82 [(.t 20)], none, none, [], false⟩,
⟨2, some 10, .p (.mv (.t 21)), none, none, [], false⟩]
def f64r4 : List SOper := [
⟨0, some 22, .p (.mv (.t 1)), none, none, [], false⟩,
⟨1, some 23, .p (.mv (.t 8)), none, none, [], false⟩,
⟨2, some 24, .p (.bin .quo (.t 23) (.c (.one (.int .i64 4)))), none, none, [], false⟩,
⟨3, some 25, .p (.bin .mul (.t 24) (.c (.one (.int .i64 2)))), none, none, [], false⟩,
⟨4, some 26, .p (.bin .add (.t 22) (.t 25)), none, none, [], false⟩,
⟨5, some 27, .p (.bin .sub (.t 26) (.c (.one (.int .i64 1)))), none, none, [], false⟩,
⟨6, some 11, .p (.mv (.t 27)), none, none, [], false⟩]
def f64r5 : List SOper := [
⟨0, some 28, .p (.mv (.t 11)), none, none, [], false⟩,
⟨1, some 29, .p (.mv (.t 1)), none, none, [], false⟩,
⟨2, some 30, .p (.mv (.t 8)), none, none, [], false⟩,
⟨3, some 31, .p (.bin .quo (.t 30) (.c (.one (.int .i64 4)))), none, none, [], false⟩,
⟨4, some 32, .p (.bin .mul (.t 31) (.c (.one (.int .i64 2)))), none, none, [], false⟩,
⟨5, some 33, .p (.bin .add (.t 29) (.t 32)), none, none, [], false⟩,
⟨6, some 34, .p (.bin .add (.t 33) (.c (.one (.int .i64 1)))), none, none, [], false⟩,
⟨7, some 35, .p (.bin .leq (.t 28) (.t 34)), none, none, [], false⟩]
def f64r6 : List SOper := [
⟨0, some 38, .cf 83 [(.t 9)], none, none, [], false⟩,
⟨1, some 39, .p (.mv (.t 10)), none, none, [], false⟩,
⟨2, some 40, .p (.bin .sub (.t 39) (.c (.one (.int .u64 1)))), none, none, [], false⟩,
⟨3, some 41, .p (.bin .and (.t 38) (.t 40)), none, none, [], false⟩,
⟨4, some 42, .p (.conv .i64 (.t 41)), none, none, [], false⟩,
⟨5, some 12, .p (.mv (.t 42)), none, none, [], false⟩]
def f64r7 : List SOper := [
⟨0, some 43, .p (.mv (.t 12)), none, none, [], false⟩,
⟨1, some 44, .p (.mv (.t 8)), none, none, [], false⟩,
⟨2, some 45, .p (.bin .geq (.t 43) (.t 44)), none, none, [], false⟩]
def f64r8 : List SOper := [
⟨0, some 46, .p (.mv (.t 12)), none, none, [], false⟩,
⟨1, some 47, .p (.mv (.t 8)), none, none, [], false⟩,
⟨2, some 48, .p (.bin .sub (.t 46) (.t 47)), none, none, [], false⟩,
⟨3, some 12, .p (.mv (.t 48)), none, none, [], false⟩]
def f64r9 : List SOper := [
⟨0, some 49, .p (.mv (.t 0)), none, none, [], false⟩,
⟨1, some 50, .p (.mv (.t 11)), none, none, [], false⟩,
⟨2, some 51, .p (.mv (.t 0)), none, none, [], false⟩,
⟨3, some 52, .p (.mv (.t 1)), none, none, [], false⟩,
⟨4, some 53, .p (.mv (.t 12)), none, none, [], false⟩,
⟨5, some 54, .p (.bin .add (.t 52) (.t 53)), none, none, [], false⟩,
⟨6, some 55, .p (.mv (.t 0)), none, none, [], false⟩,
⟨7, some 56, .p (.mv (.t 1)), none, none, [], false⟩,
⟨8, some 57, .p (.mv (.t 12)), none, none, [], false⟩,
⟨9, some 58, .p (.bin .add (.t 56) (.t 57)), none, none, [], false⟩,
⟨10, some 59, .p (.iaddr 2 (.t 55) (.t 58)), none, none, [], false⟩,
⟨11, some 60, .l (.load true 2 (.t 59)), none, none, [], false⟩,
⟨12, some 61, .p (.mv (.t 0)), none, none, [], false⟩,
⟨13, some 62, .p (.mv (.t 11)), none, none, [], false⟩,
⟨14, some 63, .p (.iaddr 2 (.t 61) (.t 62)), none, none, [], false⟩,
⟨15, some 64, .l (.load true 2 (.t 63)), none, none, [], false⟩,
⟨16, some 65, .p (.iaddr 2 (.t 49) (.t 50)), none, none, [], false⟩,
⟨17, none, .e (.store 2 (.t 65) (.t 60)), none, none, [], false⟩,
⟨18, some 66, .p (.iaddr 2 (.t 51) (.t 54)), none, none, [], false⟩,
⟨19, none, .e (.store 2 (.t 66) (.t 64)), none, none, [], false⟩]
def f64r10 : List SOper := [
⟨0, some 36, .p (.mv (.t 11)), none, none, [], false⟩,
⟨1, some 37, .p (.bin .add (.t 36) (.c (.one (.int .i64 1)))), none, none, [], false⟩,
⟨2, some 11, .p (.mv (.t 37)), none, none, [], false⟩]
def f64b0 : SC := (.seq (.seq (.ops f64r5 0) (.cond (.t 35) .skip (.exit 0))) (.seq (.block 1 (.seq (.ops f64r6 0) (.seq (.seq (.ops f64r7 0) (.cond (.t 45) (.ops f64r8 0) .skip)) (.ops f64r9 20)))) (.ops f64r10 0)))
def f64c : SC := (.seq (.ops f64r0 0) (.seq (.ops f64r1 0) (.cond (.t 17) (.seq (.ops f64r2 0) (.seq (.ops f64r3 0) (.seq (.ops f64r4 0) (.block 0 (.loop f64b0))))) .skip)))
def f64 : SFn := ⟨67, f64c, []⟩

/- slices.choosePivotCmpFunc[sixdot/api.Point] -/
def f65r0 : List SOper := [
⟨0, some 8, .p (.mv (.c (.one (.int .i64 0)))), none, none, [], false⟩,
⟨1, some 9, .p (.mv (.c (.one (.int .i64 0)))), none, none, [], false⟩]
def f65r1 : List SOper := [
⟨0, some 15, .p (.mv (.t 2)), none, none, [], false⟩,
⟨1, some 16, .p (.mv (.t 1)), none, none, [], false⟩,
⟨2, some 17, .p (.bin .sub (.t 15) (.t 16)), none, none, [], false⟩,
⟨3, some 10, .p (.mv (.t 17)), none, none, [], false⟩]
def f65r2 : List SOper := [
⟨0, some 11, .a (.alloc [(.int .i64 0)]), none, none, [], false⟩]
def f65r3 : List SOper := [
⟨0, some 18, .p (.mv (.t 1)), none, none, [], false⟩,
⟨1, some 19, .p (.mv (.t 10)), none, none, [], false⟩,
⟨2, some 20, .p (.bin .quo (.t 19) (.c (.one (.int .i64 4)))), none, none, [], false⟩,
⟨3, some 21, .p (.bin .mul (.t 20) (.c (.one (.int .i64 1)))), none, none, [], false⟩,
⟨4, some 22, .p (.bin .add (.t 18) (.t 21)), none, none, [], false⟩,
⟨5, some 12, .p (.mv (.t 22)), none, none, [], false⟩]
def f65r4 : List SOper := [
⟨0, some 23, .p (.mv (.t 1)), none, none, [], false⟩,
⟨1, some 24, .p (.mv (.t 10)), none, none, [], false⟩,
⟨2, some 25, .p (.bin .quo (.t 24) (.c (.one (.int .i64 4)))), none, none, [], false⟩,
⟨3, some 26, .p (.bin .mul (.t 25) (.c (.one (.int .i64 2)))), none, none, [], false⟩,
⟨4, some 27, .p (.bin .add (.t 23) (.t 26)), none, none, [], false⟩,
⟨5, some 13, .p (.mv (.t 27)), none, none, [], false⟩]
def f65r5 : List SOper := [
⟨0, some 28, .p (.mv (.t 1)), none, none, [], false⟩,
⟨1, some 29, .p (.mv (.t 10)), none, none, [], false⟩,
⟨2, some 30, .p (.bin .quo (.t 29) (.c (.one (.int .i64 4)))), none, none, [], false⟩,
⟨3, some 31, .p (.bin .mul (.t 30) (.c (.one (.int .i64 3)))), none, none, [], false⟩,
⟨4, some 32, .p (.bin .add (.t 28) (.t 31)), none, none, [], false⟩,
⟨5, some 14, .p (.mv (.t 32)), none, none, [], false⟩]
def f65r6 : List SOper := [
⟨0, some 33, .p (.mv (.t 10)), none, none, [], false⟩,
⟨1, some 34, .p (.bin .geq (.t 33) (.c (.one (.int .i64 8)))), none, none, [], false⟩]
def f65r7 : List SOper := [
⟨0, some 35, .p (.mv (.t 10)), none, none, [], false⟩,
⟨1, some 36, .p (.bin .geq (.t 35) (.c (.one (.int .i64 50)))), none, none, [], false⟩]
def f65r8 : List SOper := [
⟨0, some 37, .p (.mv (.t 0)), none, none, [], false⟩,
⟨1, some 38, .p (.mv (.t 12)), none, none, [], false⟩,
⟨2, some 39, .p (.mv (.t 3)), none, none, [], false⟩,
⟨3, some 40, .cf 84 [(.t 37), (.t 38), (.t 11), (.t 39)], none, none, [], false⟩,
⟨4, some 12, .p (.mv (.t 40)), none, none, [], false⟩]
def f65r9 : List SOper := [
⟨0, some 41, .p (.mv (.t 0)), none, none, [], false⟩,
⟨1, some 42, .p (.mv (.t 13)), none, none, [], false⟩,
⟨2, some 43, .p (.mv (.t 3)), none, none, [], false⟩,
⟨3, some 44, .cf 84 [(.t 41), (.t 42), (.t 11), (.t 43)], none, none, [], false⟩,
⟨4, some 13, .p (.mv (.t 44)), none, none, [], false⟩]
def f65r10 : List SOper := [
⟨0, some 45, .p (.mv (.t 0)), none, none, [], false⟩,
⟨1, some 46, .p (.mv (.t 14)), none, none, [], false⟩,
⟨2, some 47, .p (.mv (.t 3)), none, none, [], false⟩,
⟨3, some 48, .cf 84 [(.t 45), (.t 46), (.t 11), (.t 47)], none, none, [], false⟩,
⟨4, some 14, .p (.mv (.t 48)), none, none, [], false⟩]
def f65r11 : List SOper := [
⟨0, some 49, .p (.mv (.t 0)), none, none, [], false⟩,
⟨1, some 50, .p (.mv (.t 12)), none, none, [], false⟩,
⟨2, some 51, .p (.mv (.t 13)), none, none, [], false⟩,
⟨3, some 52, .p (.mv (.t 14)), none, none, [], false⟩,
⟨4, some 53, .p (.mv (.t 3)), none, none, [], false⟩,
⟨5, some 54, .cf 85 [(.t 49), (.t 50), (.t 51), (.t 52), (.t 11), (.t 53)], none, none, [], false⟩,
⟨6, some 13, .p (.mv (.t 54)), none, none, [], false⟩]
def f65r12 : List SOper := [
⟨0, some 55, .l (.load false 1 (.t 11)), none, none, [], false⟩]
def f65r13 : List SOper := [
⟨0, some 58, .p (.bin .eql (.t 55) (.c (.one (.int .i64 0)))), none, none, [], false⟩,
⟨1, some 57, .p (.mv (.t 58)), none, none, [], false⟩]
def f65r14 : List SOper := [
⟨0, some 59, .p (.mv (.t 13)), none, none, [], false⟩,
⟨1, some 8, .p (.mv (.t 59)), none, none, [], false⟩,
⟨2, some 9, .p (.mv (.c (.one (.int .i64 1)))), none, none, [], false⟩]
def f65r15 : List SOper := [
⟨0, some 61, .p (.bin .eql (.t 55) (.c (.one (.int .i64 12)))), none, none, [], false⟩,
⟨1, some 60, .p (.mv (.t 61)), none, none, [], false⟩]
def f65r16 : List SOper := [
⟨0, some 62, .p (.mv (.t 13)), none, none, [], false⟩,
⟨1, some 8, .p (.mv (.t 62)), none, none, [], false⟩,
⟨2, some 9, .p (.mv (.c (.one (.int .i64 2)))), none, none, [], false⟩]
def f65r17 : List SOper := [
⟨0, some 56, .p (.mv (.t 13)), none, none, [], false⟩,
⟨1, some 8, .p (.mv (.t 56)), none, none, [], false⟩,
⟨2, some 9, .p (.mv (.c (.one (.int .i64 0)))), none, none, [], false⟩]
def f65c : SC := (.seq (.ops f65r0 0) (.seq (.ops f65r1 0) (.seq (.ops f65r2 0) (.seq (.ops f65r3 0) (.seq (.ops f65r4 0) (.seq (.ops f65r5 0) (.seq (.seq (.ops f65r6 0) (.cond (.t 34) (.seq (.seq (.ops f65r7 0) (.cond (.t 36) (.seq (.ops f65r8 0) (.seq (.ops f65r9 0) (.ops f65r10 0))) .skip)) (.ops f65r11 0)) .skip)) (.seq (.ops f65r12 0) (.block 0 (.seq (.ops f65r13 0) (.cond (.t 57) (.seq (.ops f65r14 0) .ret) (.seq (.ops f65r15 0) (.cond (.t 60) (.seq (.ops f65r16 0) .ret) (.seq (.ops f65r17 0) .ret))))))))))))))
def f65 : SFn := ⟨63, f65c, [.t 8, .t 9]⟩

/- slices.reverseRangeCmpFunc[sixdot/api.Point] -/
def f66r0 : List SOper := [
⟨0, some 10, .p (.mv (.t 1)), none, none, [], false⟩,
⟨1, some 8, .p (.mv (.t 10)), none, none, [], false⟩]
def f66r1 : List SOper := [
⟨0, some 11, .p (.mv (.t 2)), none, none, [], false⟩,
⟨1, some 12, .p (.bin .sub (.t 11) (.c (.one (.int .i64 1)))), none, none, [], false⟩,
⟨2, some 9, .p (.mv (.t 12)), none, none, [], false⟩]
def f66r2 : List SOper := [
⟨0, some 13, .p (.mv (.t 8)), none, none, [], false⟩,
⟨1, some 14, .p (.mv (.t 9)), none, none, [], false⟩,
⟨2, some 15, .p (.bin .lss (.t 13) (.t 14)), none, none, [], false⟩]
def f66r3 : List SOper := [
⟨0, some 16, .p (.mv (.t 0)), none, none, [], false⟩,
⟨1, some 17, .p (.mv (.t 8)), none, none, [], false⟩,
⟨2, some 18, .p (.mv (.t 0)), none, none, [], false⟩,
⟨3, some 19, .p (.mv (.t 9)), none, none, [], false⟩,
⟨4, some 20, .p (.mv (.t 0)), none, none, [], false⟩,
⟨5, some 21, .p (.mv (.t 9)), none, none, [], false⟩,
⟨6, some 22, .p (.iaddr 2 (.t 20) (.t 21)), none, none, [], false⟩,
⟨7, some 23, .l (.load true 2 (.t 22)), none, none, [], false⟩,
⟨8, some 24, .p (.mv (.t 0)), none, none, [], false⟩,
⟨9, some 25, .p (.mv (.t 8)), none, none, [], false⟩,
⟨10, some 26, .p (.iaddr 2 (.t 24) (.t 25)), none, none, [], false⟩,
⟨11, some 27, .l (.load true 2 (.t 26)), none, none, [], false⟩,
⟨12, some 28, .p (.iaddr 2 (.t 16) (.t 17)), none, none, [], false⟩,
⟨13, none, .e (.store 2 (.t 28) (.t 23)), none, none, [], false⟩,
⟨14, some 29, .p (.iaddr 2 (.t 18) (.t 19)), none, none, [], false⟩,
⟨15, none, .e (.store 2 (.t 29) (.t 27)), none, none, [], false⟩]
def f66r4 : List SOper := [
⟨0, some 30, .p (.mv (.t 8)), none, none, [], false⟩,
⟨1, some 31, .p (.bin .add (.t 30) (.c (.one (.int .i64 1)))), none, none, [], false⟩,
⟨2, some 8, .p (.mv (.t 31)), none, none, [], false⟩]
def f66r5 : List SOper := [
⟨0, some 32, .p (.mv (.t 9)), none, none, [], false⟩,
⟨1, some 33, .p (.bin .sub (.t 32) (.c (.one (.int .i64 1)))), none, none, [], false⟩,
⟨2, some 9, .p (.mv (.t 33)), none, none, [], false⟩]
def f66b0 : SC := (.seq (.seq (.ops f66r2 0) (.cond (.t 15) .skip (.exit 0))) (.block 1 (.seq (.ops f66r3 16) (.seq (.ops f66r4 0) (.ops f66r5 0)))))
def f66c : SC := (.seq (.ops f66r0 0) (.seq (.ops f66r1 0) (.block 0 (.loop f66b0))))
def f66 : SFn := ⟨34, f66c, []⟩

/- slices.partialInsertionSortCmpFunc[sixdot/api.Point] -/
def f67r0 : List SOper := [
⟨0, some 8, .p (.mv (.c (.one (.bool false)))), none, none, [], false⟩]
def f67r1 : List SOper := [
⟨0, some 13, .p (.mv (.t 1)), none, none, [], false⟩,
⟨1, some 14, .p (.bin .add (.t 13) (.c (.one (.int .i64 1)))), none, none, [], false⟩,
⟨2, some 9, .p (.mv (.t 14)), none, none, [], false⟩]
def f67r2 : List SOper := [
⟨0, some 10, .p (.mv (.c (.one (.int .i64 0)))), none, none, [], false⟩]
def f67r3 : List SOper := [
⟨0, some 15, .p (.mv (.t 10)), none, none, [], false⟩,
⟨1, some 16, .p (.bin .lss (.t 15) (.c (.one (.int .i64 5)))), none, none, [], false⟩]
def f67r4 : List SOper := [
⟨0, some 19, .p (.mv (.t 9)), none, none, [], false⟩,
⟨1, some 20, .p (.mv (.t 2)), none, none, [], false⟩,
⟨2, some 21, .p (.bin .lss (.t 19) (.t 20)), none, none, [], false⟩,
⟨3, some 22, .p (.mv (.t 21)), none, none, [], false⟩,
⟨4, some 23, .p (.mv (.t 3)), (some (22, true)), none, [], false⟩,
⟨5, some 24, .p (.mv (.t 0)), (some (22, true)), none, [], false⟩,
⟨6, some 25, .p (.mv (.t 9)), (some (22, true)), none, [], false⟩,
⟨7, some 26, .p (.iaddr 2 (.t 24) (.t 25)), (some (22, true)), none, [], false⟩,
⟨8, some 27, .l (.load true 2 (.t 26)), (some (22, true)), none, [], false⟩,
⟨9, some 28, .p (.mv (.t 0)), (some (22, true)), none, [], false⟩,
⟨10, some 29, .p (.mv (.t 9)), (some (22, true)), none, [], false⟩,
⟨11, some 30, .p (.bin .sub (.t 29) (.c (.one (.int .i64 1)))), (some (22, true)), none, [], false⟩,
⟨12, some 31, .p (.iaddr 2 (.t 28) (.t 30)), (some (22, true)), none, [], false⟩,
⟨13, some 32, .l (.load true 2 (.t 31)), (some (22, true)), none, [], false⟩,
⟨14, some 33, .cv (.t 23) [(.t 27), (.t 32)], (some (22, true)), none, [], false⟩,
⟨15, some 34, .p (.bin .lss (.t 33) (.c (.one (.int .i64 0)))), (some (22, true)), none, [], false⟩,
⟨16, some 35, .p (.not (.t 34)), (some (22, true)), none, [], false⟩,
⟨17, some 36, .p (.pick (.t 22) (.t 35) (.c (.one (.bool false)))), none, none, [], false⟩]
def f67r5 : List SOper := [
⟨0, some 37, .p (.mv (.t 9)), none, none, [], false⟩,
⟨1, some 38, .p (.bin .add (.t 37) (.c (.one (.int .i64 1)))), none, none, [], false⟩,
⟨2, some 9, .p (.mv (.t 38)), none, none, [], false⟩]
def f67b0 : SC := (.seq (.seq (.ops f67r4 18) (.cond (.t 36) .skip (.exit 2))) (.block 3 (.ops f67r5 0)))
def f67r6 : List SOper := [
⟨0, some 39, .p (.mv (.t 9)), none, none, [], false⟩,
⟨1, some 40, .p (.mv (.t 2)), none, none, [], false⟩,
⟨2, some 41, .p (.bin .eql (.t 39) (.t 40)), none, none, [], false⟩]
def f67r7 : List SOper := [
⟨0, some 8, .p (.mv (.c (.one (.bool true)))), none, none, [], false⟩]
def f67r8 : List SOper := [
⟨0, some 42, .p (.mv (.t 2)), none, none, [], false⟩,
⟨1, some 43, .p (.mv (.t 1)), none, none, [], false⟩,
⟨2, some 44, .p (.bin .sub (.t 42) (.t 43)), none, none, [], false⟩,
⟨3, some 45, .p (.bin .lss (.t 44) (.c (.one (.int .i64 50)))), none, none, [], false⟩]
def f67r9 : List SOper := [
⟨0, some 8, .p (.mv (.c (.one (.bool false)))), none, none, [], false⟩]
def f67r10 : List SOper := [
⟨0, some 46, .p (.mv (.t 0)), none, none, [], false⟩,
⟨1, some 47, .p (.mv (.t 9)), none, none, [], false⟩,
⟨2, some 48, .p (.mv (.t 0)), none, none, [], false⟩,
⟨3, some 49, .p (.mv (.t 9)), none, none, [], false⟩,
⟨4, some 50, .p (.bin .sub (.t 49) (.c (.one (.int .i64 1)))), none, none, [], false⟩,
⟨5, some 51, .p (.mv (.t 0)), none, none, [], false⟩,
⟨6, some 52, .p (.mv (.t 9)), none, none, [], false⟩,
⟨7, some 53, .p (.bin .sub (.t 52) (.c (.one (.int .i64 1)))), none, none, [], false⟩,
⟨8, some 54, .p (.iaddr 2 (.t 51) (.t 53)), none, none, [], false⟩,
⟨9, some 55, .l (.load true 2 (.t 54)), none, none, [], false⟩,
⟨10, some 56, .p (.mv (.t 0)), none, none, [], false⟩,
⟨11, some 57, .p (.mv (.t 9)), none, none, [], false⟩,
⟨12, some 58, .p (.iaddr 2 (.t 56) (.t 57)), none, none, [], false⟩,
⟨13, some 59, .l (.load true 2 (.t 58)), none, none, [], false⟩,
⟨14, some 60, .p (.iaddr 2 (.t 46) (.t 47)), none, none, [], false⟩,
⟨15, none, .e (.store 2 (.t 60) (.t 55)), none, none, [], false⟩,
⟨16, some 61, .p (.iaddr 2 (.t 48) (.t 50)), none, none, [], false⟩,
⟨17, none, .e (.store 2 (.t 61) (.t 59)), none, none, [], false⟩]
def f67r11 : List SOper := [
⟨0, some 62, .p (.mv (.t 9)), none, none, [], false⟩,
⟨1, some 63, .p (.mv (.t 1)), none, none, [], false⟩,
⟨2, some 64, .p (.bin .sub (.t 62) (.t 63)), none, none, [], false⟩,
⟨3, some 65, .p (.bin .geq (.t 64) (.c (.one (.int .i64 2)))), none, none, [], false⟩]
def f67r12 : List SOper := [
⟨0, some 66, .p (.mv (.t 9)), none, none, [], false⟩,
⟨1, some 67, .p (.bin .sub (.t 66) (.c (.one (.int .i64 1)))), none, none, [], false⟩,
⟨2, some 11, .p (.mv (.t 67)), none, none, [], false⟩]
def f67r13 : List SOper := [
⟨0, some 68, .p (.mv (.t 11)), none, none, [], false⟩,
⟨1, some 69, .p (.bin .geq (.t 68) (.c (.one (.int .i64 1)))), none, none, [], false⟩]
def f67r14 : List SOper := [
⟨0, some 72, .p (.mv (.t 3)), none, none, [], false⟩,
⟨1, some 73, .p (.mv (.t 0)), none, none, [], false⟩,
⟨2, some 74, .p (.mv (.t 11)), none, none, [], false⟩,
⟨3, some 75, .p (.iaddr 2 (.t 73) (.t 74)), none, none, [], false⟩,
⟨4, some 76, .l (.load true 2 (.t 75)), none, none, [], false⟩,
⟨5, some 77, .p (.mv (.t 0)), none, none, [], false⟩,
⟨6, some 78, .p (.mv (.t 11)), none, none, [], false⟩,
⟨7, some 79, .p (.bin .sub (.t 78) (.c (.one (.int .i64 1)))), none, none, [], false⟩,
⟨8, some 80, .p (.iaddr 2 (.t 77) (.t 79)), none, none, [], false⟩,
⟨9, some 81, .l (.load true 2 (.t 80)), none, none, [], false⟩,
⟨10, some 82, .cv (.t 72) [(.t 76), (.t 81)], none, none, [], false⟩,
⟨11, some 83, .p (.bin .lss (.t 82) (.c (.one (.int .i64 0)))), none, none, [], false⟩,
⟨12, some 84, .p (.not (.t 83)), none, none, [], false⟩]
def f67r15 : List SOper := [
⟨0, some 85, .p (.mv (.t 0)), none, none, [], false⟩,
⟨1, some 86, .p (.mv (.t 11)), none, none, [], false⟩,
⟨2, some 87, .p (.mv (.t 0)), none, none, [], false⟩,
⟨3, some 88, .p (.mv (.t 11)), none, none, [], false⟩,
⟨4, some 89, .p (.bin .sub (.t 88) (.c (.one (.int .i64 1)))), none, none, [], false⟩,
⟨5, some 90, .p (.mv (.t 0)), none, none, [], false⟩,
⟨6, some 91, .p (.mv (.t 11)), none, none, [], false⟩,
⟨7, some 92, .p (.bin .sub (.t 91) (.c (.one (.int .i64 1)))), none, none, [], false⟩,
⟨8, some 93, .p (.iaddr 2 (.t 90) (.t 92)), none, none, [], false⟩,
⟨9, some 94, .l (.load true 2 (.t 93)), none, none, [], false⟩,
⟨10, some 95, .p (.mv (.t 0)), none, none, [], false⟩,
⟨11, some 96, .p (.mv (.t 11)), none, none, [], false⟩,
⟨12, some 97, .p (.iaddr 2 (.t 95) (.t 96)), none, none, [], false⟩,
⟨13, some 98, .l (.load true 2 (.t 97)), none, none, [], false⟩,
⟨14, some 99, .p (.iaddr 2 (.t 85) (.t 86)), none, none, [], false⟩,
⟨15, none, .e (.store 2 (.t 99) (.t 94)), none, none, [], false⟩,
⟨16, some 100, .p (.iaddr 2 (.t 87) (.t 89)), none, none, [], false⟩,
⟨17, none, .e (.store 2 (.t 100) (.t 98)), none, none, [], false⟩]
def f67r16 : List SOper := [
⟨0, some 70, .p (.mv (.t 11)), none, none, [], false⟩,
⟨1, some 71, .p (.bin .sub (.t 70) (.c (.one (.int .i64 1)))), none, none, [], false⟩,
⟨2, some 11, .p (.mv (.t 71)), none, none, [], false⟩]
def f67b1 : SC := (.seq (.seq (.ops f67r13 0) (.cond (.t 69) .skip (.exit 4))) (.seq (.block 5 (.seq (.seq (.ops f67r14 13) (.cond (.t 84) (.exit 4) .skip)) (.ops f67r15 18))) (.ops f67r16 0)))
def f67r17 : List SOper := [
⟨0, some 101, .p (.mv (.t 2)), none, none, [], false⟩,
⟨1, some 102, .p (.mv (.t 9)), none, none, [], false⟩,
⟨2, some 103, .p (.bin .sub (.t 101) (.t 102)), none, none, [], false⟩,
⟨3, some 104, .p (.bin .geq (.t 103) (.c (.one (.int .i64 2)))), none, none, [], false⟩]
def f67r18 : List SOper := [
⟨0, some 105, .p (.mv (.t 9)), none, none, [], false⟩,
⟨1, some 106, .p (.bin .add (.t 105) (.c (.one (.int .i64 1)))), none, none, [], false⟩,
⟨2, some 12, .p (.mv (.t 106)), none, none, [], false⟩]
def f67r19 : List SOper := [
⟨0, some 107, .p (.mv (.t 12)), none, none, [], false⟩,
⟨1, some 108, .p (.mv (.t 2)), none, none, [], false⟩,
⟨2, some 109, .p (.bin .lss (.t 107) (.t 108)), none, none, [], false⟩]
def f67r20 : List SOper := [
⟨0, some 112, .p (.mv (.t 3)), none, none, [], false⟩,
⟨1, some 113, .p (.mv (.t 0)), none, none, [], false⟩,
⟨2, some 114, .p (.mv (.t 12)), none, none, [], false⟩,
⟨3, some 115, .p (.iaddr 2 (.t 113) (.t 114)), none, none, [], false⟩,
⟨4, some 116, .l (.load true 2 (.t 115)), none, none, [], false⟩,
⟨5, some 117, .p (.mv (.t 0)), none, none, [], false⟩,
⟨6, some 118, .p (.mv (.t 12)), none, none, [], false⟩,
⟨7, some 119, .p (.bin .sub (.t 118) (.c (.one (.int .i64 1)))), none, none, [], false⟩,
⟨8, some 120, .p (.iaddr 2 (.t 117) (.t 119)), none, none, [], false⟩,
⟨9, some 121, .l (.load true 2 (.t 120)), none, none, [], false⟩,
⟨10, some 122, .cv (.t 112) [(.t 116), (.t 121)], none, none, [], false⟩,
⟨11, some 123, .p (.bin .lss (.t 122) (.c (.one (.int .i64 0)))), none, none, [], false⟩,
⟨12, some 124, .p (.not (.t 123)), none, none, [], false⟩]
def f67r21 : List SOper := [
⟨0, some 125, .p (.mv (.t 0)), none, none, [], false⟩,
⟨1, some 126, .p (.mv (.t 12)), none, none, [], false⟩,
⟨2, some 127, .p (.mv (.t 0)), none, none, [], false⟩,
⟨3, some 128, .p (.mv (.t 12)), none, none, [], false⟩,
⟨4, some 129, .p (.bin .sub (.t 128) (.c (.one (.int .i64 1)))), none, none, [], false⟩,
⟨5, some 130, .p (.mv (.t 0)), none, none, [], false⟩,
⟨6, some 131, .p (.mv (.t 12)), none, none, [], false⟩,
⟨7, some 132, .p (.bin .sub (.t 131) (.c (.one (.int .i64 1)))), none, none, [], false⟩,
⟨8, some 133, .p (.iaddr 2 (.t 130) (.t 132)), none, none, [], false⟩,
⟨9, some 134, .l (.load true 2 (.t 133)), none, none, [], false⟩,
⟨10, some 135, .p (.mv (.t 0)), none, none, [], false⟩,
⟨11, some 136, .p (.mv (.t 12)), none, none, [], false⟩,
⟨12, some 137, .p (.iaddr 2 (.t 135) (.t 136)), none, none, [], false⟩,
⟨13, some 138, .l (.load true 2 (.t 137)), none, none, [], false⟩,
⟨14, some 139, .p (.iaddr 2 (.t 125) (.t 126)), none, none, [], false⟩,
⟨15, none, .e (.store 2 (.t 139) (.t 134)), none, none, [], false⟩,
⟨16, some 140, .p (.iaddr 2 (.t 127) (.t 129)), none, none, [], false⟩,
⟨17, none, .e (.store 2 (.t 140) (.t 138)), none, none, [], false⟩]
def f67r22 : List SOper := [
⟨0, some 110, .p (.mv (.t 12)), none, none, [], false⟩,
⟨1, some 111, .p (.bin .add (.t 110) (.c (.one (.int .i64 1)))), none, none, [], false⟩,
⟨2, some 12, .p (.mv (.t 111)), none, none, [], false⟩]
def f67b2 : SC := (.seq (.seq (.ops f67r19 0) (.cond (.t 109) .skip (.exit 6))) (.seq (.block 7 (.seq (.seq (.ops f67r20 13) (.cond (.t 124) (.exit 6) .skip)) (.ops f67r21 18))) (.ops f67r22 0)))
def f67r23 : List SOper := [
⟨0, some 17, .p (.mv (.t 10)), none, none, [], false⟩,
⟨1, some 18, .p (.bin .add (.t 17) (.c (.one (.int .i64 1)))), none, none, [], false⟩,
⟨2, some 10, .p (.mv (.t 18)), none, none, [], false⟩]
def f67b3 : SC := (.seq (.seq (.ops f67r3 0) (.cond (.t 16) .skip (.exit 0))) (.seq (.block 1 (.seq (.block 2 (.loop f67b0)) (.seq (.seq (.ops f67r6 0) (.cond (.t 41) (.seq (.ops f67r7 0) .ret) .skip)) (.seq (.seq (.ops f67r8 0) (.cond (.t 45) (.seq (.ops f67r9 0) .ret) .skip)) (.seq (.ops f67r10 18) (.seq (.seq (.ops f67r11 0) (.cond (.t 65) (.seq (.ops f67r12 0) (.block 4 (.loop f67b1))) .skip)) (.seq (.ops f67r17 0) (.cond (.t 104) (.seq (.ops f67r18 0) (.block 6 (.loop f67b2))) .skip)))))))) (.ops f67r23 0)))
def f67r24 : List SOper := [
⟨0, some 8, .p (.mv (.c (.one (.bool false)))), none, none, [], false⟩]
def f67c : SC := (.seq (.ops f67r0 0) (.seq (.ops f67r1 0) (.seq (.seq (.ops f67r2 0) (.block 0 (.loop f67b3))) (.seq (.ops f67r24 0) .ret))))
def f67 : SFn := ⟨141, f67c, [.t 8]⟩

/- slices.partitionEqualCmpFunc[sixdot/api.Point] -/
def f68r0 : List SOper := [
⟨0, some 10, .p (.mv (.c (.one (.int .i64 0)))), none, none, [], false⟩]
def f68r1 : List SOper := [
⟨0, some 13, .p (.mv (.t 0)), none, none, [], false⟩,
⟨1, some 14, .p (.mv (.t 1)), none, none, [], false⟩,
⟨2, some 15, .p (.mv (.t 0)), none, none, [], false⟩,
⟨3, some 16, .p (.mv (.t 3)), none, none, [], false⟩,
⟨4, some 17, .p (.mv (.t 0)), none, none, [], false⟩,
⟨5, some 18, .p (.mv (.t 3)), none, none, [], false⟩,
⟨6, some 19, .p (.iaddr 2 (.t 17) (.t 18)), none, none, [], false⟩,
⟨7, some 20, .l (.load true 2 (.t 19)), none, none, [], false⟩,
⟨8, some 21, .p (.mv (.t 0)), none, none, [], false⟩,
⟨9, some 22, .p (.mv (.t 1)), none, none, [], false⟩,
⟨10, some 23, .p (.iaddr 2 (.t 21) (.t 22)), none, none, [], false⟩,
⟨11, some 24, .l (.load true 2 (.t 23)), none, none, [], false⟩,
⟨12, some 25, .p (.iaddr 2 (.t 13) (.t 14)), none, none, [], false⟩,
⟨13, none, .e (.store 2 (.t 25) (.t 20)), none, none, [], false⟩,
⟨14, some 26, .p (.iaddr 2 (.t 15) (.t 16)), none, none, [], false⟩,
⟨15, none, .e (.store 2 (.t 26) (.t 24)), none, none, [], false⟩]
def f68r2 : List SOper := [
⟨0, some 27, .p (.mv (.t 1)), none, none, [], false⟩,
⟨1, some 28, .p (.bin .add (.t 27) (.c (.one (.int .i64 1)))), none, none, [], false⟩,
⟨2, some 29, .p (.mv (.t 2)), none, none, [], false⟩,
⟨3, some 30, .p (.bin .sub (.t 29) (.c (.one (.int .i64 1)))), none, none, [], false⟩,
⟨4, some 11, .p (.mv (.t 28)), none, none, [], false⟩,
⟨5, some 12, .p (.mv (.t 30)), none, none, [], false⟩]
def f68r3 : List SOper := [
⟨0, some 31, .p (.mv (.t 11)), none, none, [], false⟩,
⟨1, some 32, .p (.mv (.t 12)), none, none, [], false⟩,
⟨2, some 33, .p (.bin .leq (.t 31) (.t 32)), none, none, [], false⟩,
⟨3, some 34, .p (.mv (.t 33)), none, none, [], false⟩,
⟨4, some 35, .p (.mv (.t 4)), (some (34, true)), none, [], false⟩,
⟨5, some 36, .p (.mv (.t 0)), (some (34, true)), none, [], false⟩,
⟨6, some 37, .p (.mv (.t 1)), (some (34, true)), none, [], false⟩,
⟨7, some 38, .p (.iaddr 2 (.t 36) (.t 37)), (some (34, true)), none, [], false⟩,
⟨8, some 39, .l (.load true 2 (.t 38)), (some (34, true)), none, [], false⟩,
⟨9, some 40, .p (.mv (.t 0)), (some (34, true)), none, [], false⟩,
⟨10, some 41, .p (.mv (.t 11)), (some (34, true)), none, [], false⟩,
⟨11, some 42, .p (.iaddr 2 (.t 40) (.t 41)), (some (34, true)), none, [], false⟩,
⟨12, some 43, .l (.load true 2 (.t 42)), (some (34, true)), none, [], false⟩,
⟨13, some 44, .cv (.t 35) [(.t 39), (.t 43)], (some (34, true)), none, [], false⟩,
⟨14, some 45, .p (.bin .lss (.t 44) (.c (.one (.int .i64 0)))), (some (34, true)), none, [], false⟩,
⟨15, some 46, .p (.not (.t 45)), (some (34, true)), none, [], false⟩,
⟨16, some 47, .p (.pick (.t 34) (.t 46) (.c (.one (.bool false)))), none, none, [], false⟩]
def f68r4 : List SOper := [
⟨0, some 48, .p (.mv (.t 11)), none, none, [], false⟩,
⟨1, some 49, .p (.bin .add (.t 48) (.c (.one (.int .i64 1)))), none, none, [], false⟩,
⟨2, some 11, .p (.mv (.t 49)), none, none, [], false⟩]
def f68b0 : SC := (.seq (.seq (.ops f68r3 17) (.cond (.t 47) .skip (.exit 2))) (.block 3 (.ops f68r4 0)))
def f68r5 : List SOper := [
⟨0, some 50, .p (.mv (.t 11)), none, none, [], false⟩,
⟨1, some 51, .p (.mv (.t 12)), none, none, [], false⟩,
⟨2, some 52, .p (.bin .leq (.t 50) (.t 51)), none, none, [], false⟩,
⟨3, some 53, .p (.mv (.t 52)), none, none, [], false⟩,
⟨4, some 54, .p (.mv (.t 4)), (some (53, true)), none, [], false⟩,
⟨5, some 55, .p (.mv (.t 0)), (some (53, true)), none, [], false⟩,
⟨6, some 56, .p (.mv (.t 1)), (some (53, true)), none, [], false⟩,
⟨7, some 57, .p (.iaddr 2 (.t 55) (.t 56)), (some (53, true)), none, [], false⟩,
⟨8, some 58, .l (.load true 2 (.t 57)), (some (53, true)), none, [], false⟩,
⟨9, some 59, .p (.mv (.t 0)), (some (53, true)), none, [], false⟩,
⟨10, some 60, .p (.mv (.t 12)), (some (53, true)), none, [], false⟩,
⟨11, some 61, .p (.iaddr 2 (.t 59) (.t 60)), (some (53, true)), none, [], false⟩,
⟨12, some 62, .l (.load true 2 (.t 61)), (some (53, true)), none, [], false⟩,
⟨13, some 63, .cv (.t 54) [(.t 58), (.t 62)], (some (53, true)), none, [], false⟩,
⟨14, some 64, .p (.bin .lss (.t 63) (.c (.one (.int .i64 0)))), (some (53, true)), none, [], false⟩,
⟨15, some 65, .p (.pick (.t 53) (.t 64) (.c (.one (.bool false)))), none, none, [], false⟩]
def f68r6 : List SOper := [
⟨0, some 66, .p (.mv (.t 12)), none, none, [], false⟩,
⟨1, some 67, .p (.bin .sub (.t 66) (.c (.one (.int .i64 1)))), none, none, [], false⟩,
⟨2, some 12, .p (.mv (.t 67)), none, none, [], false⟩]
def f68b1 : SC := (.seq (.seq (.ops f68r5 16) (.cond (.t 65) .skip (.exit 4))) (.block 5 (.ops f68r6 0)))
def f68r7 : List SOper := [
⟨0, some 68, .p (.mv (.t 11)), none, none, [], false⟩,
⟨1, some 69, .p (.mv (.t 12)), none, none, [], false⟩,
⟨2, some 70, .p (.bin .gtr (.t 68) (.t 69)), none, none, [], false⟩]
def f68r8 : List SOper := [
⟨0, some 71, .p (.mv (.t 0)), none, none, [], false⟩,
⟨1, some 72, .p (.mv (.t 11)), none, none, [], false⟩,
⟨2, some 73, .p (.mv (.t 0)), none, none, [], false⟩,
⟨3, some 74, .p (.mv (.t 12)), none, none, [], false⟩,
⟨4, some 75, .p (.mv (.t 0)), none, none, [], false⟩,
⟨5, some 76, .p (.mv (.t 12)), none, none, [], false⟩,
⟨6, some 77, .p (.iaddr 2 (.t 75) (.t 76)), none, none, [], false⟩,
⟨7, some 78, .l (.load true 2 (.t 77)), none, none, [], false⟩,
⟨8, some 79, .p (.mv (.t 0)), none, none, [], false⟩,
⟨9, some 80, .p (.mv (.t 11)), none, none, [], false⟩,
⟨10, some 81, .p (.iaddr 2 (.t 79) (.t 80)), none, none, [], false⟩,
⟨11, some 82, .l (.load true 2 (.t 81)), none, none, [], false⟩,
⟨12, some 83, .p (.iaddr 2 (.t 71) (.t 72)), none, none, [], false⟩,
⟨13, none, .e (.store 2 (.t 83) (.t 78)), none, none, [], false⟩,
⟨14, some 84, .p (.iaddr 2 (.t 73) (.t 74)), none, none, [], false⟩,
⟨15, none, .e (.store 2 (.t 84) (.t 82)), none, none, [], false⟩]
def f68r9 : List SOper := [
⟨0, some 85, .p (.mv (.t 11)), none, none, [], false⟩,
⟨1, some 86, .p (.bin .add (.t 85) (.c (.one (.int .i64 1)))), none, none, [], false⟩,
⟨2, some 11, .p (.mv (.t 86)), none, none, [], false⟩]
def f68r10 : List SOper := [
⟨0, some 87, .p (.mv (.t 12)), none, none, [], false⟩,
⟨1, some 88, .p (.bin .sub (.t 87) (.c (.one (.int .i64 1)))), none, none, [], false⟩,
⟨2, some 12, .p (.mv (.t 88)), none, none, [], false⟩]
def f68b2 : SC := (.block 1 (.seq (.block 2 (.loop f68b0)) (.seq (.block 4 (.loop f68b1)) (.seq (.seq (.ops f68r7 0) (.cond (.t 70) (.exit 0) .skip)) (.seq (.ops f68r8 16) (.seq (.ops f68r9 0) (.ops f68r10 0)))))))
def f68r11 : List SOper := [
⟨0, some 89, .p (.mv (.t 11)), none, none, [], false⟩,
⟨1, some 10, .p (.mv (.t 89)), none, none, [], false⟩]
def f68c : SC := (.seq (.ops f68r0 0) (.seq (.ops f68r1 16) (.seq (.ops f68r2 0) (.seq (.block 0 (.loop f68b2)) (.seq (.ops f68r11 0) .ret)))))
def f68 : SFn := ⟨90, f68c, [.t 10]⟩

/- slices.partitionCmpFunc[sixdot/api.Point] -/
def f69r0 : List SOper := [
⟨0, some 10, .p (.mv (.c (.one (.int .i64 0)))), none, none, [], false⟩,
⟨1, some 11, .p (.mv (.c (.one (.bool false)))), none, none, [], false⟩]
def f69r1 : List SOper := [
⟨0, some 14, .p (.mv (.t 0)), none, none, [], false⟩,
⟨1, some 15, .p (.mv (.t 1)), none, none, [], false⟩,
⟨2, some 16, .p (.mv (.t 0)), none, none, [], false⟩,
⟨3, some 17, .p (.mv (.t 3)), none, none, [], false⟩,
⟨4, some 18, .p (.mv (.t 0)), none, none, [], false⟩,
⟨5, some 19, .p (.mv (.t 3)), none, none, [], false⟩,
⟨6, some 20, .p (.iaddr 2 (.t 18) (.t 19)), none, none, [], false⟩,
⟨7, some 21, .l (.load true 2 (.t 20)), none, none, [], false⟩,
⟨8, some 22, .p (.mv (.t 0)), none, none, [], false⟩,
⟨9, some 23, .p (.mv (.t 1)), none, none, [], false⟩,
⟨10, some 24, .p (.iaddr 2 (.t 22) (.t 23)), none, none, [], false⟩,
⟨11, some 25, .l (.load true 2 (.t 24)), none, none, [], false⟩,
⟨12, some 26, .p (.iaddr 2 (.t 14) (.t 15)), none, none, [], false⟩,
⟨13, none, .e (.store 2 (.t 26) (.t 21)), none, none, [], false⟩,
⟨14, some 27, .p (.iaddr 2 (.t 16) (.t 17)), none, none, [], false⟩,
⟨15, none, .e (.store 2 (.t 27) (.t 25)), none, none, [], false⟩]
def f69r2 : List SOper := [
⟨0, some 28, .p (.mv (.t 1)), none, none, [], false⟩,
⟨1, some 29, .p (.bin .add (.t 28) (.c (.one (.int .i64 1)))), none, none, [], false⟩,
⟨2, some 30, .p (.mv (.t 2)), none, none, [], false⟩,
⟨3, some 31, .p (.bin .sub (.t 30) (.c (.one (.int .i64 1)))), none, none, [], false⟩,
⟨4, some 12, .p (.mv (.t 29)), none, none, [], false⟩,
⟨5, some 13, .p (.mv (.t 31)), none, none, [], false⟩]
def f69r3 : List SOper := [
⟨0, some 32, .p (.mv (.t 12)), none, none, [], false⟩,
⟨1, some 33, .p (.mv (.t 13)), none, none, [], false⟩,
⟨2, some 34, .p (.bin .leq (.t 32) (.t 33)), none, none, [], false⟩,
⟨3, some 35, .p (.mv (.t 34)), none, none, [], false⟩,
⟨4, some 36, .p (.mv (.t 4)), (some (35, true)), none, [], false⟩,
⟨5, some 37, .p (.mv (.t 0)), (some (35, true)), none, [], false⟩,
⟨6, some 38, .p (.mv (.t 12)), (some (35, true)), none, [], false⟩,
⟨7, some 39, .p (.iaddr 2 (.t 37) (.t 38)), (some (35, true)), none, [], false⟩,
⟨8, some 40, .l (.load true 2 (.t 39)), (some (35, true)), none, [], false⟩,
⟨9, some 41, .p (.mv (.t 0)), (some (35, true)), none, [], false⟩,
⟨10, some 42, .p (.mv (.t 1)), (some (35, true)), none, [], false⟩,
⟨11, some 43, .p (.iaddr 2 (.t 41) (.t 42)), (some (35, true)), none, [], false⟩,
⟨12, some 44, .l (.load true 2 (.t 43)), (some (35, true)), none, [], false⟩,
⟨13, some 45, .cv (.t 36) [(.t 40), (.t 44)], (some (35, true)), none, [], false⟩,
⟨14, some 46, .p (.bin .lss (.t 45) (.c (.one (.int .i64 0)))), (some (35, true)), none, [], false⟩,
⟨15, some 47, .p (.pick (.t 35) (.t 46) (.c (.one (.bool false)))), none, none, [], false⟩]
def f69r4 : List SOper := [
⟨0, some 48, .p (.mv (.t 12)), none, none, [], false⟩,
⟨1, some 49, .p (.bin .add (.t 48) (.c (.one (.int .i64 1)))), none, none, [], false⟩,
⟨2, some 12, .p (.mv (.t 49)), none, none, [], false⟩]
def f69b0 : SC := (.seq (.seq (.ops f69r3 16) (.cond (.t 47) .skip (.exit 0))) (.block 1 (.ops f69r4 0)))
def f69r5 : List SOper := [
⟨0, some 50, .p (.mv (.t 12)), none, none, [], false⟩,
⟨1, some 51, .p (.mv (.t 13)), none, none, [], false⟩,
⟨2, some 52, .p (.bin .leq (.t 50) (.t 51)), none, none, [], false⟩,
⟨3, some 53, .p (.mv (.t 52)), none, none, [], false⟩,
⟨4, some 54, .p (.mv (.t 4)), (some (53, true)), none, [], false⟩,
⟨5, some 55, .p (.mv (.t 0)), (some (53, true)), none, [], false⟩,
⟨6, some 56, .p (.mv (.t 13)), (some (53, true)), none, [], false⟩,
⟨7, some 57, .p (.iaddr 2 (.t 55) (.t 56)), (some (53, true)), none, [], false⟩,
⟨8, some 58, .l (.load true 2 (.t 57)), (some (53, true)), none, [], false⟩,
⟨9, some 59, .p (.mv (.t 0)), (some (53, true)), none, [], false⟩,
⟨10, some 60, .p (.mv (.t 1)), (some (53, true)), none, [], false⟩,
⟨11, some 61, .p (.iaddr 2 (.t 59) (.t 60)), (some (53, true)), none, [], false⟩,
⟨12, some 62, .l (.load true 2 (.t 61)), (some (53, true)), none, [], false⟩,
⟨13, some 63, .cv (.t 54) [(.t 58), (.t 62)], (some (53, true)), none, [], false⟩,
⟨14, some 64, .p (.bin .lss (.t 63) (.c (.one (.int .i64 0)))), (some (53, true)), none, [], false⟩,
⟨15, some 65, .p (.not (.t 64)), (some (53, true)), none, [], false⟩,
⟨16, some 66, .p (.pick (.t 53) (.t 65) (.c (.one (.bool false)))), none, none, [], false⟩]
def f69r6 : List SOper := [
⟨0, some 67, .p (.mv (.t 13)), none, none, [], false⟩,
⟨1, some 68, .p (.bin .sub (.t 67) (.c (.one (.int .i64 1)))), none, none, [], false⟩,
⟨2, some 13, .p (.mv (.t 68)), none, none, [], false⟩]
def f69b1 : SC := (.seq (.seq (.ops f69r5 17) (.cond (.t 66) .skip (.exit 2))) (.block 3 (.ops f69r6 0)))
def f69r7 : List SOper := [
⟨0, some 69, .p (.mv (.t 12)), none, none, [], false⟩,
⟨1, some 70, .p (.mv (.t 13)), none, none, [], false⟩,
⟨2, some 71, .p (.bin .gtr (.t 69) (.t 70)), none, none, [], false⟩]
def f69r8 : List SOper := [
⟨0, some 72, .p (.mv (.t 0)), none, none, [], false⟩,
⟨1, some 73, .p (.mv (.t 13)), none, none, [], false⟩,
⟨2, some 74, .p (.mv (.t 0)), none, none, [], false⟩,
⟨3, some 75, .p (.mv (.t 1)), none, none, [], false⟩,
⟨4, some 76, .p (.mv (.t 0)), none, none, [], false⟩,
⟨5, some 77, .p (.mv (.t 1)), none, none, [], false⟩,
⟨6, some 78, .p (.iaddr 2 (.t 76) (.t 77)), none, none, [], false⟩,
⟨7, some 79, .l (.load true 2 (.t 78)), none, none, [], false⟩,
⟨8, some 80, .p (.mv (.t 0)), none, none, [], false⟩,
⟨9, some 81, .p (.mv (.t 13)), none, none, [], false⟩,
⟨10, some 82, .p (.iaddr 2 (.t 80) (.t 81)), none, none, [], false⟩,
⟨11, some 83, .l (.load true 2 (.t 82)), none, none, [], false⟩,
⟨12, some 84, .p (.iaddr 2 (.t 72) (.t 73)), none, none, [], false⟩,
⟨13, none, .e (.store 2 (.t 84) (.t 79)), none, none, [], false⟩,
⟨14, some 85, .p (.iaddr 2 (.t 74) (.t 75)), none, none, [], false⟩,
⟨15, none, .e (.store 2 (.t 85) (.t 83)), none, none, [], false⟩]
def f69r9 : List SOper := [
⟨0, some 86, .p (.mv (.t 13)), none, none, [], false⟩,
⟨1, some 10, .p (.mv (.t 86)), none, none, [], false⟩,
⟨2, some 11, .p (.mv (.c (.one (.bool true)))), none, none, [], false⟩]
def f69r10 : List SOper := [
⟨0, some 87, .p (.mv (.t 0)), none, none, [], false⟩,
⟨1, some 88, .p (.mv (.t 12)), none, none, [], false⟩,
⟨2, some 89, .p (.mv (.t 0)), none, none, [], false⟩,
⟨3, some 90, .p (.mv (.t 13)), none, none, [], false⟩,
⟨4, some 91, .p (.mv (.t 0)), none, none, [], false⟩,
⟨5, some 92, .p (.mv (.t 13)), none, none, [], false⟩,
⟨6, some 93, .p (.iaddr 2 (.t 91) (.t 92)), none, none, [], false⟩,
⟨7, some 94, .l (.load true 2 (.t 93)), none, none, [], false⟩,
⟨8, some 95, .p (.mv (.t 0)), none, none, [], false⟩,
⟨9, some 96, .p (.mv (.t 12)), none, none, [], false⟩,
⟨10, some 97, .p (.iaddr 2 (.t 95) (.t 96)), none, none, [], false⟩,
⟨11, some 98, .l (.load true 2 (.t 97)), none, none, [], false⟩,
⟨12, some 99, .p (.iaddr 2 (.t 87) (.t 88)), none, none, [], false⟩,
⟨13, none, .e (.store 2 (.t 99) (.t 94)), none, none, [], false⟩,
⟨14, some 100, .p (.iaddr 2 (.t 89) (.t 90)), none, none, [], false⟩,
⟨15, none, .e (.store 2 (.t 100) (.t 98)), none, none, [], false⟩]
def f69r11 : List SOper := [
⟨0, some 101, .p (.mv (.t 12)), none, none, [], false⟩,
⟨1, some 102, .p (.bin .add (.t 101) (.c (.one (.int .i64 1)))), none, none, [], false⟩,
⟨2, some 12, .p (.mv (.t 102)), none, none, [], false⟩]
def f69r12 : List SOper := [
⟨0, some 103, .p (.mv (.t 13)), none, none, [], false⟩,
⟨1, some 104, .p (.bin .sub (.t 103) (.c (.one (.int .i64 1)))), none, none, [], false⟩,
⟨2, some 13, .p (.mv (.t 104)), none, none, [], false⟩]
def f69r13 : List SOper := [
⟨0, some 105, .p (.mv (.t 12)), none, none, [], false⟩,
⟨1, some 106, .p (.mv (.t 13)), none, none, [], false⟩,
⟨2, some 107, .p (.bin .leq (.t 105) (.t 106)), none, none, [], false⟩,
⟨3, some 108, .p (.mv (.t 107)), none, none, [], false⟩,
⟨4, some 109, .p (.mv (.t 4)), (some (108, true)), none, [], false⟩,
⟨5, some 110, .p (.mv (.t 0)), (some (108, true)), none, [], false⟩,
⟨6, some 111, .p (.mv (.t 12)), (some (108, true)), none, [], false⟩,
⟨7, some 112, .p (.iaddr 2 (.t 110) (.t 111)), (some (108, true)), none, [], false⟩,
⟨8, some 113, .l (.load true 2 (.t 112)), (some (108, true)), none, [], false⟩,
⟨9, some 114, .p (.mv (.t 0)), (some (108, true)), none, [], false⟩,
⟨10, some 115, .p (.mv (.t 1)), (some (108, true)), none, [], false⟩,
⟨11, some 116, .p (.iaddr 2 (.t 114) (.t 115)), (some (108, true)), none, [], false⟩,
⟨12, some 117, .l (.load true 2 (.t 116)), (some (108, true)), none, [], false⟩,
⟨13, some 118, .cv (.t 109) [(.t 113), (.t 117)], (some (108, true)), none, [], false⟩,
⟨14, some 119, .p (.bin .lss (.t 118) (.c (.one (.int .i64 0)))), (some (108, true)), none, [], false⟩,
⟨15, some 120, .p (.pick (.t 108) (.t 119) (.c (.one (.bool false)))), none, none, [], false⟩]
def f69r14 : List SOper := [
⟨0, some 121, .p (.mv (.t 12)), none, none, [], false⟩,
⟨1, some 122, .p (.bin .add (.t 121) (.c (.one (.int .i64 1)))), none, none, [], false⟩,
⟨2, some 12, .p (.mv (.t 122)), none, none, [], false⟩]
def f69b2 : SC := (.seq (.seq (.ops f69r13 16) (.cond (.t 120) .skip (.exit 6))) (.block 7 (.ops f69r14 0)))
def f69r15 : List SOper := [
⟨0, some 123, .p (.mv (.t 12)), none, none, [], false⟩,
⟨1, some 124, .p (.mv (.t 13)), none, none, [], false⟩,
⟨2, some 125, .p (.bin .leq (.t 123) (.t 124)), none, none, [], false⟩,
⟨3, some 126, .p (.mv (.t 125)), none, none, [], false⟩,
⟨4, some 127, .p (.mv (.t 4)), (some (126, true)), none, [], false⟩,
⟨5, some 128, .p (.mv (.t 0)), (some (126, true)), none, [], false⟩,
⟨6, some 129, .p (.mv (.t 13)), (some (126, true)), none, [], false⟩,
⟨7, some 130, .p (.iaddr 2 (.t 128) (.t 129)), (some (126, true)), none, [], false⟩,
⟨8, some 131, .l (.load true 2 (.t 130)), (some (126, true)), none, [], false⟩,
⟨9, some 132, .p (.mv (.t 0)), (some (126, true)), none, [], false⟩,
⟨10, some 133, .p (.mv (.t 1)), (some (126, true)), none, [], false⟩,
⟨11, some 134, .p (.iaddr 2 (.t 132) (.t 133)), (some (126, true)), none, [], false⟩,
⟨12, some 135, .l (.load true 2 (.t 134)), (some (126, true)), none, [], false⟩,
⟨13, some 136, .cv (.t 127) [(.t 131), (.t 135)], (some (126, true)), none, [], false⟩,
⟨14, some 137, .p (.bin .lss (.t 136) (.c (.one (.int .i64 0)))), (some (126, true)), none, [], false⟩,
⟨15, some 138, .p (.not (.t 137)), (some (126, true)), none, [], false⟩,
⟨16, some 139, .p (.pick (.t 126) (.t 138) (.c (.one (.bool false)))), none, none, [], false⟩]
def f69r16 : List SOper := [
⟨0, some 140, .p (.mv (.t 13)), none, none, [], false⟩,
⟨1, some 141, .p (.bin .sub (.t 140) (.c (.one (.int .i64 1)))), none, none, [], false⟩,
⟨2, some 13, .p (.mv (.t 141)), none, none, [], false⟩]
def f69b3 : SC := (.seq (.seq (.ops f69r15 17) (.cond (.t 139) .skip (.exit 8))) (.block 9 (.ops f69r16 0)))
def f69r17 : List SOper := [
⟨0, some 142, .p (.mv (.t 12)), none, none, [], false⟩,
⟨1, some 143, .p (.mv (.t 13)), none, none, [], false⟩,
⟨2, some 144, .p (.bin .gtr (.t 142) (.t 143)), none, none, [], false⟩]
def f69r18 : List SOper := [
⟨0, some 145, .p (.mv (.t 0)), none, none, [], false⟩,
⟨1, some 146, .p (.mv (.t 12)), none, none, [], false⟩,
⟨2, some 147, .p (.mv (.t 0)), none, none, [], false⟩,
⟨3, some 148, .p (.mv (.t 13)), none, none, [], false⟩,
⟨4, some 149, .p (.mv (.t 0)), none, none, [], false⟩,
⟨5, some 150, .p (.mv (.t 13)), none, none, [], false⟩,
⟨6, some 151, .p (.iaddr 2 (.t 149) (.t 150)), none, none, [], false⟩,
⟨7, some 152, .l (.load true 2 (.t 151)), none, none, [], false⟩,
⟨8, some 153, .p (.mv (.t 0)), none, none, [], false⟩,
⟨9, some 154, .p (.mv (.t 12)), none, none, [], false⟩,
⟨10, some 155, .p (.iaddr 2 (.t 153) (.t 154)), none, none, [], false⟩,
⟨11, some 156, .l (.load true 2 (.t 155)), none, none, [], false⟩,
⟨12, some 157, .p (.iaddr 2 (.t 145) (.t 146)), none, none, [], false⟩,
⟨13, none, .e (.store 2 (.t 157) (.t 152)), none, none, [], false⟩,
⟨14, some 158, .p (.iaddr 2 (.t 147) (.t 148)), none, none, [], false⟩,
⟨15, none, .e (.store 2 (.t 158) (.t 156)), none, none, [], false⟩]
def f69r19 : List SOper := [
⟨0, some 159, .p (.mv (.t 12)), none, none, [], false⟩,
⟨1, some 160, .p (.bin .add (.t 159) (.c (.one (.int .i64 1)))), none, none, [], false⟩,
⟨2, some 12, .p (.mv (.t 160)), none, none, [], false⟩]
def f69r20 : List SOper := [
⟨0, some 161, .p (.mv (.t 13)), none, none, [], false⟩,
⟨1, some 162, .p (.bin .sub (.t 161) (.c (.one (.int .i64 1)))), none, none, [], false⟩,
⟨2, some 13, .p (.mv (.t 162)), none, none, [], false⟩]
def f69b4 : SC := (.block 5 (.seq (.block 6 (.loop f69b2)) (.seq (.block 8 (.loop f69b3)) (.seq (.seq (.ops f69r17 0) (.cond (.t 144) (.exit 4) .skip)) (.seq (.ops f69r18 16) (.seq (.ops f69r19 0) (.ops f69r20 0)))))))
def f69r21 : List SOper := [
⟨0, some 163, .p (.mv (.t 0)), none, none, [], false⟩,
⟨1, some 164, .p (.mv (.t 13)), none, none, [], false⟩,
⟨2, some 165, .p (.mv (.t 0)), none, none, [], false⟩,
⟨3, some 166, .p (.mv (.t 1)), none, none, [], false⟩,
⟨4, some 167, .p (.mv (.t 0)), none, none, [], false⟩,
⟨5, some 168, .p (.mv (.t 1)), none, none, [], false⟩,
⟨6, some 169, .p (.iaddr 2 (.t 167) (.t 168)), none, none, [], false⟩,
⟨7, some 170, .l (.load true 2 (.t 169)), none, none, [], false⟩,
⟨8, some 171, .p (.mv (.t 0)), none, none, [], false⟩,
⟨9, some 172, .p (.mv (.t 13)), none, none, [], false⟩,
⟨10, some 173, .p (.iaddr 2 (.t 171) (.t 172)), none, none, [], false⟩,
⟨11, some 174, .l (.load true 2 (.t 173)), none, none, [], false⟩,
⟨12, some 175, .p (.iaddr 2 (.t 163) (.t 164)), none, none, [], false⟩,
⟨13, none, .e (.store 2 (.t 175) (.t 170)), none, none, [], false⟩,
⟨14, some 176, .p (.iaddr 2 (.t 165) (.t 166)), none, none, [], false⟩,
⟨15, none, .e (.store 2 (.t 176) (.t 174)), none, none, [], false⟩]
def f69r22 : List SOper := [
⟨0, some 177, .p (.mv (.t 13)), none, none, [], false⟩,
⟨1, some 10, .p (.mv (.t 177)), none, none, [], false⟩,
⟨2, some 11, .p (.mv (.c (.one (.bool false)))), none, none, [], false⟩]
def f69c : SC := (.seq (.ops f69r0 0) (.seq (.ops f69r1 16) (.seq (.ops f69r2 0) (.seq (.block 0 (.loop f69b0)) (.seq (.block 2 (.loop f69b1)) (.seq (.seq (.ops f69r7 0) (.cond (.t 71) (.seq (.ops f69r8 16) (.seq (.ops f69r9 0) .ret)) .skip)) (.seq (.ops f69r10 16) (.seq (.ops f69r11 0) (.seq (.ops f69r12 0) (.seq (.block 4 (.loop f69b4)) (.seq (.ops f69r21 16) (.seq (.ops f69r22 0) .ret))))))))))))
def f69 : SFn := ⟨178, f69c, [.t 10, .t 11]⟩

/- math/bits.Len32 -/
def f70r0 : List SOper := [
⟨0, some 2, .p (.mv (.c (.one (.int .i64 0)))), none, none, [], false⟩]
def f70r1 : List SOper := [
⟨0, some 3, .p (.mv (.t 0)), none, none, [], false⟩,
⟨1, some 4, .p (.bin .geq (.t 3) (.c (.one (.int .u32 65536)))), none, none, [], false⟩]
def f70r2 : List SOper := [
⟨0, some 5, .p (.mv (.t 0)), none, none, [], false⟩,
⟨1, some 6, .p (.bin .shr (.t 5) (.c (.one (.int .u64 16)))), none, none, [], false⟩,
⟨2, some 0, .p (.mv (.t 6)), none, none, [], false⟩]
def f70r3 : List SOper := [
⟨0, some 2, .p (.mv (.c (.one (.int .i64 16)))), none, none, [], false⟩]
def f70r4 : List SOper := [
⟨0, some 7, .p (.mv (.t 0)), none, none, [], false⟩,
⟨1, some 8, .p (.bin .geq (.t 7) (.c (.one (.int .u32 256)))), none, none, [], false⟩]
def f70r5 : List SOper := [
⟨0, some 9, .p (.mv (.t 0)), none, none, [], false⟩,
⟨1, some 10, .p (.bin .shr (.t 9) (.c (.one (.int .u64 8)))), none, none, [], false⟩,
⟨2, some 0, .p (.mv (.t 10)), none, none, [], false⟩]
def f70r6 : List SOper := [
⟨0, some 11, .p (.mv (.t 2)), none, none, [], false⟩,
⟨1, some 12, .p (.bin .add (.t 11) (.c (.one (.int .i64 8)))), none, none, [], false⟩,
⟨2, some 2, .p (.mv (.t 12)), none, none, [], false⟩]
def f70r7 : List SOper := [
⟨0, some 13, .p (.mv (.t 2)), none, none, [], false⟩,
⟨1, some 14, .p (.mv (.t 0)), none, none, [], false⟩,
⟨2, some 15, .p (.conv .u8 (.t 14)), none, none, [], false⟩,
⟨3, some 16, .p (.sindex (.c (.one (.str ⟨#[0, 1, 2, 2, 3, 3, 3, 3, 4, 4, 4, 4, 4, 4, 4, 4, 5, 5, 5, 5, 5, 5, 5, 5, 5, 5, 5, 5, 5, 5, 5, 5, 6, 6, 6, 6, 6, 6, 6, 6, 6, 6, 6, 6, 6, 6, 6, 6, 6, 6, 6, 6, 6, 6, 6, 6, 6, 6, 6, 6, 6, 6, 6, 6, 7, 7, 7, 7, 7, 7, 7, 7, 7, 7, 7, 7, 7, 7, 7, 7, 7, 7, 7, 7, 7, 7, 7, 7, 7, 7, 7, 7, 7, 7, 7, 7, 7, 7, 7, 7, 7, 7, 7, 7, 7, 7, 7, 7, 7, 7, 7, 7, 7, 7, 7, 7, 7, 7, 7, 7, 7, 7, 7, 7, 7, 7, 7, 7, 8, 8, 8, 8, 8, 8, 8, 8, 8, 8, 8, 8, 8, 8, 8, 8, 8, 8, 8, 8, 8, 8, 8, 8, 8, 8, 8, 8, 8, 8, 8, 8, 8, 8, 8, 8, 8, 8, 8, 8, 8, 8, 8, 8, 8, 8, 8, 8, 8, 8, 8, 8, 8, 8, 8, 8, 8, 8, 8, 8, 8, 8, 8, 8, 8, 8, 8, 8, 8, 8, 8, 8, 8, 8, 8, 8, 8, 8, 8, 8, 8, 8, 8, 8, 8, 8, 8, 8, 8, 8, 8, 8, 8, 8, 8, 8, 8, 8, 8, 8, 8, 8, 8, 8, 8, 8, 8, 8, 8, 8, 8, 8, 8, 8, 8, 8, 8, 8, 8, 8, 8, 8, 8, 8, 8, 8, 8, 8]⟩))) (.t 15)), none, none, [], false⟩,
⟨4, some 17, .p (.conv .i64 (.t 16)), none, none, [], false⟩,
⟨5, some 18, .p (.bin .add (.t 13) (.t 17)), none, none, [], false⟩,
⟨6, some 2, .p (.mv (.t 18)), none, none, [], false⟩]
def f70c : SC := (.seq (.ops f70r0 0) (.seq (.seq (.ops f70r1 0) (.cond (.t 4) (.seq (.ops f70r2 0) (.ops f70r3 0)) .skip)) (.seq (.seq (.ops f70r4 0) (.cond (.t 8) (.seq (.ops f70r5 0) (.ops f70r6 0)) .skip)) (.seq (.ops f70r7 0) .ret))))
def f70 : SFn := ⟨19, f70c, [.t 2]⟩

/- math/bits.Len64 -/
def f71r0 : List SOper := [
⟨0, some 2, .p (.mv (.c (.one (.int .i64 0)))), none, none, [], false⟩]
def f71r1 : List SOper := [
⟨0, some 3, .p (.mv (.t 0)), none, none, [], false⟩,
⟨1, some 4, .p (.bin .geq (.t 3) (.c (.one (.int .u64 4294967296)))), none, none, [], false⟩]
def f71r2 : List SOper := [
⟨0, some 5, .p (.mv (.t 0)), none, none, [], false⟩,
⟨1, some 6, .p (.bin .shr (.t 5) (.c (.one (.int .u64 32)))), none, none, [], false⟩,
⟨2, some 0, .p (.mv (.t 6)), none, none, [], false⟩]
def f71r3 : List SOper := [
⟨0, some 2, .p (.mv (.c (.one (.int .i64 32)))), none, none, [], false⟩]
def f71r4 : List SOper := [
⟨0, some 7, .p (.mv (.t 0)), none, none, [], false⟩,
⟨1, some 8, .p (.bin .geq (.t 7) (.c (.one (.int .u64 65536)))), none, none, [], false⟩]
def f71r5 : List SOper := [
⟨0, some 9, .p (.mv (.t 0)), none, none, [], false⟩,
⟨1, some 10, .p (.bin .shr (.t 9) (.c (.one (.int .u64 16)))), none, none, [], false⟩,
⟨2, some 0, .p (.mv (.t 10)), none, none, [], false⟩]
def f71r6 : List SOper := [
⟨0, some 11, .p (.mv (.t 2)), none, none, [], false⟩,
⟨1, some 12, .p (.bin .add (.t 11) (.c (.one (.int .i64 16)))), none, none, [], false⟩,
⟨2, some 2, .p (.mv (.t 12)), none, none, [], false⟩]
def f71r7 : List SOper := [
⟨0, some 13, .p (.mv (.t 0)), none, none, [], false⟩,
⟨1, some 14, .p (.bin .geq (.t 13) (.c (.one (.int .u64 256)))), none, none, [], false⟩]
def f71r8 : List SOper := [
⟨0, some 15, .p (.mv (.t 0)), none, none, [], false⟩,
⟨1, some 16, .p (.bin .shr (.t 15) (.c (.one (.int .u64 8)))), none, none, [], false⟩,
⟨2, some 0, .p (.mv (.t 16)), none, none, [], false⟩]
def f71r9 : List SOper := [
⟨0, some 17, .p (.mv (.t 2)), none, none, [], false⟩,
⟨1, some 18, .p (.bin .add (.t 17) (.c (.one (.int .i64 8)))), none, none, [], false⟩,
⟨2, some 2, .p (.mv (.t 18)), none, none, [], false⟩]
def f71r10 : List SOper := [
⟨0, some 19, .p (.mv (.t 2)), none, none, [], false⟩,
⟨1, some 20, .p (.mv (.t 0)), none, none, [], false⟩,
⟨2, some 21, .p (.conv .u8 (.t 20)), none, none, [], false⟩,
⟨3, some 22, .p (.sindex (.c (.one (.str ⟨#[0, 1, 2, 2, 3, 3, 3, 3, 4, 4, 4, 4, 4, 4, 4, 4, 5, 5, 5, 5, 5, 5, 5, 5, 5, 5, 5, 5, 5, 5, 5, 5, 6, 6, 6, 6, 6, 6, 6, 6, 6, 6, 6, 6, 6, 6, 6, 6, 6, 6, 6, 6, 6, 6, 6, 6, 6, 6, 6, 6, 6, 6, 6, 6, 7, 7, 7, 7, 7, 7, 7, 7, 7, 7, 7, 7, 7, 7, 7, 7, 7, 7, 7, 7, 7, 7, 7, 7, 7, 7, 7, 7, 7, 7, 7, 7, 7, 7, 7, 7, 7, 7, 7, 7, 7, 7, 7, 7, 7, 7, 7, 7, 7, 7, 7, 7, 7, 7, 7, 7, 7, 7, 7, 7, 7, 7, 7, 7, 8, 8, 8, 8, 8, 8, 8, 8, 8, 8, 8, 8, 8, 8, 8, 8, 8, 8, 8, 8, 8, 8, 8, 8, 8, 8, 8, 8, 8, 8, 8, 8, 8, 8, 8, 8, 8, 8, 8, 8, 8, 8, 8, 8, 8, 8, 8, 8, 8, 8, 8, 8, 8, 8, 8, 8, 8, 8, 8, 8, 8, 8, 8, 8, 8, 8, 8, 8, 8, 8, 8, 8, 8, 8, 8, 8, 8, 8, 8, 8, 8, 8, 8, 8, 8, 8, 8, 8, 8, 8, 8, 8, 8, 8, 8, 8, 8, 8, 8, 8, 8, 8, 8, 8, 8, 8, 8, 8, 8, 8, 8, 8, 8, 8, 8, 8, 8, 8, 8, 8, 8, 8, 8, 8, 8, 8, 8, 8]⟩))) (.t 21)), none, none, [], false⟩,
⟨4, some 23, .p (.conv .i64 (.t 22)), none, none, [], false⟩,
⟨5, some 24, .p (.bin .add (.t 19) (.t 23)), none, none, [], false⟩,
⟨6, some 2, .p (.mv (.t 24)), none, none, [], false⟩]
def f71c : SC := (.seq (.ops f71r0 0) (.seq (.seq (.ops f71r1 0) (.cond (.t 4) (.seq (.ops f71r2 0) (.ops f71r3 0)) .skip)) (.seq (.seq (.ops f71r4 0) (.cond (.t 8) (.seq (.ops f71r5 0) (.ops f71r6 0)) .skip)) (.seq (.seq (.ops f71r7 0) (.cond (.t 14) (.seq (.ops f71r8 0) (.ops f71r9 0)) .skip)) (.seq (.ops f71r10 0) .ret)))))
def f71 : SFn := ⟨25, f71c, [.t 2]⟩

/- cmp.isNaN[int] -/
def f72r0 : List SOper := [
⟨0, some 2, .p (.mv (.c (.one (.bool false)))), none, none, [], false⟩]
def f72r1 : List SOper := [
⟨0, some 3, .p (.mv (.t 0)), none, none, [], false⟩,
⟨1, some 4, .p (.mv (.t 0)), none, none, [], false⟩,
⟨2, some 5, .p (.bin .neq (.t 3) (.t 4)), none, none, [], false⟩,
⟨3, some 2, .p (.mv (.t 5)), none, none, [], false⟩]
def f72c : SC := (.seq (.ops f72r0 0) (.seq (.ops f72r1 0) .ret))
def f72 : SFn := ⟨6, f72c, [.t 2]⟩

/- slices.insertionSortOrdered[int] -/
def f73r0 : List SOper := [
⟨0, some 8, .p (.mv (.t 1)), none, none, [], false⟩,
⟨1, some 9, .p (.bin .add (.t 8) (.c (.one (.int .i64 1)))), none, none, [], false⟩,
⟨2, some 6, .p (.mv (.t 9)), none, none, [], false⟩]
def f73r1 : List SOper := [
⟨0, some 10, .p (.mv (.t 6)), none, none, [], false⟩,
⟨1, some 11, .p (.mv (.t 2)), none, none, [], false⟩,
⟨2, some 12, .p (.bin .lss (.t 10) (.t 11)), none, none, [], false⟩]
def f73r2 : List SOper := [
⟨0, some 15, .p (.mv (.t 6)), none, none, [], false⟩,
⟨1, some 7, .p (.mv (.t 15)), none, none, [], false⟩]
def f73r3 : List SOper := [
⟨0, some 16, .p (.mv (.t 7)), none, none, [], false⟩,
⟨1, some 17, .p (.mv (.t 1)), none, none, [], false⟩,
⟨2, some 18, .p (.bin .gtr (.t 16) (.t 17)), none, none, [], false⟩,
⟨3, some 19, .p (.mv (.t 18)), none, none, [], false⟩,
⟨4, some 20, .p (.mv (.t 0)), (some (19, true)), none, [], false⟩,
⟨5, some 21, .p (.mv (.t 7)), (some (19, true)), none, [], false⟩,
⟨6, some 22, .p (.iaddr 1 (.t 20) (.t 21)), (some (19, true)), none, [], false⟩,
⟨7, some 23, .l (.load false 1 (.t 22)), (some (19, true)), none, [], false⟩,
⟨8, some 24, .p (.mv (.t 0)), (some (19, true)), none, [], false⟩,
⟨9, some 25, .p (.mv (.t 7)), (some (19, true)), none, [], false⟩,
⟨10, some 26, .p (.bin .sub (.t 25) (.c (.one (.int .i64 1)))), (some (19, true)), none, [], false⟩,
⟨11, some 27, .p (.iaddr 1 (.t 24) (.t 26)), (some (19, true)), none, [], false⟩,
⟨12, some 28, .l (.load false 1 (.t 27)), (some (19, true)), none, [], false⟩,
⟨13, some 29, .cf 59 [(.t 23), (.t 28)], (some (19, true)), none, [], false⟩,
⟨14, some 30, .p (.pick (.t 19) (.t 29) (.c (.one (.bool false)))), none, none, [], false⟩]
def f73r4 : List SOper := [
⟨0, some 33, .p (.mv (.t 0)), none, none, [], false⟩,
⟨1, some 34, .p (.mv (.t 7)), none, none, [], false⟩,
⟨2, some 35, .p (.mv (.t 0)), none, none, [], false⟩,
⟨3, some 36, .p (.mv (.t 7)), none, none, [], false⟩,
⟨4, some 37, .p (.bin .sub (.t 36) (.c (.one (.int .i64 1)))), none, none, [], false⟩,
⟨5, some 38, .p (.mv (.t 0)), none, none, [], false⟩,
⟨6, some 39, .p (.mv (.t 7)), none, none, [], false⟩,
⟨7, some 40, .p (.bin .sub (.t 39) (.c (.one (.int .i64 1)))), none, none, [], false⟩,
⟨8, some 41, .p (.iaddr 1 (.t 38) (.t 40)), none, none, [], false⟩,
⟨9, some 42, .l (.load false 1 (.t 41)), none, none, [], false⟩,
⟨10, some 43, .p (.mv (.t 0)), none, none, [], false⟩,
⟨11, some 44, .p (.mv (.t 7)), none, none, [], false⟩,
⟨12, some 45, .p (.iaddr 1 (.t 43) (.t 44)), none, none, [], false⟩,
⟨13, some 46, .l (.load false 1 (.t 45)), none, none, [], false⟩,
⟨14, some 47, .p (.iaddr 1 (.t 33) (.t 34)), none, none, [], false⟩,
⟨15, none, .e (.store 1 (.t 47) (.t 42)), none, none, [], false⟩,
⟨16, some 48, .p (.iaddr 1 (.t 35) (.t 37)), none, none, [], false⟩,
⟨17, none, .e (.store 1 (.t 48) (.t 46)), none, none, [], false⟩]
def f73r5 : List SOper := [
⟨0, some 31, .p (.mv (.t 7)), none, none, [], false⟩,
⟨1, some 32, .p (.bin .sub (.t 31) (.c (.one (.int .i64 1)))), none, none, [], false⟩,
⟨2, some 7, .p (.mv (.t 32)), none, none, [], false⟩]
def f73b0 : SC := (.seq (.seq (.ops f73r3 15) (.cond (.t 30) .skip (.exit 2))) (.seq (.block 3 (.ops f73r4 18)) (.ops f73r5 0)))
def f73r6 : List SOper := [
⟨0, some 13, .p (.mv (.t 6)), none, none, [], false⟩,
⟨1, some 14, .p (.bin .add (.t 13) (.c (.one (.int .i64 1)))), none, none, [], false⟩,
⟨2, some 6, .p (.mv (.t 14)), none, none, [], false⟩]
def f73b1 : SC := (.seq (.seq (.ops f73r1 0) (.cond (.t 12) .skip (.exit 0))) (.seq (.block 1 (.seq (.ops f73r2 0) (.block 2 (.loop f73b0)))) (.ops f73r6 0)))
def f73c : SC := (.seq (.ops f73r0 0) (.block 0 (.loop f73b1)))
def f73 : SFn := ⟨49, f73c, []⟩

/- slices.heapSortOrdered[int] -/
def f74r0 : List SOper := [
⟨0, some 11, .p (.mv (.t 1)), none, none, [], false⟩,
⟨1, some 6, .p (.mv (.t 11)), none, none, [], false⟩]
def f74r1 : List SOper := [
⟨0, some 7, .p (.mv (.c (.one (.int .i64 0)))), none, none, [], false⟩]
def f74r2 : List SOper := [
⟨0, some 12, .p (.mv (.t 2)), none, none, [], false⟩,
⟨1, some 13, .p (.mv (.t 1)), none, none, [], false⟩,
⟨2, some 14, .p (.bin .sub (.t 12) (.t 13)), none, none, [], false⟩,
⟨3, some 8, .p (.mv (.t 14)), none, none, [], false⟩]
def f74r3 : List SOper := [
⟨0, some 15, .p (.mv (.t 8)), none, none, [], false⟩,
⟨1, some 16, .p (.bin .sub (.t 15) (.c (.one (.int .i64 1)))), none, none, [], false⟩,
⟨2, some 17, .p (.bin .quo (.t 16) (.c (.one (.int .i64 2)))), none, none, [], false⟩,
⟨3, some 9, .p (.mv (.t 17)), none, none, [], false⟩]
def f74r4 : List SOper := [
⟨0, some 18, .p (.mv (.t 9)), none, none, [], false⟩,
⟨1, some 19, .p (.bin .geq (.t 18) (.c (.one (.int .i64 0)))), none, none, [], false⟩]
def f74r5 : List SOper := [
⟨0, some 22, .p (.mv (.t 0)), none, none, [], false⟩,
⟨1, some 23, .p (.mv (.t 9)), none, none, [], false⟩,
⟨2, some 24, .p (.mv (.t 8)), none, none, [], false⟩,
⟨3, some 25, .p (.mv (.t 6)), none, none, [], false⟩,
⟨4, some 26, .cf 86 [(.t 22), (.t 23), (.t 24), (.t 25)], none, none, [], false⟩]
def f74r6 : List SOper := [
⟨0, some 20, .p (.mv (.t 9)), none, none, [], false⟩,
⟨1, some 21, .p (.bin .sub (.t 20) (.c (.one (.int .i64 1)))), none, none, [], false⟩,
⟨2, some 9, .p (.mv (.t 21)), none, none, [], false⟩]
def f74b0 : SC := (.seq (.seq (.ops f74r4 0) (.cond (.t 19) .skip (.exit 0))) (.seq (.block 1 (.ops f74r5 0)) (.ops f74r6 0)))
def f74r7 : List SOper := [
⟨0, some 27, .p (.mv (.t 8)), none, none, [], false⟩,
⟨1, some 28, .p (.bin .sub (.t 27) (.c (.one (.int .i64 1)))), none, none, [], false⟩,
⟨2, some 10, .p (.mv (.t 28)), none, none, [], false⟩]
def f74r8 : List SOper := [
⟨0, some 29, .p (.mv (.t 10)), none, none, [], false⟩,
⟨1, some 30, .p (.bin .geq (.t 29) (.c (.one (.int .i64 0)))), none, none, [], false⟩]
def f74r9 : List SOper := [
⟨0, some 33, .p (.mv (.t 0)), none, none, [], false⟩,
⟨1, some 34, .p (.mv (.t 6)), none, none, [], false⟩,
⟨2, some 35, .p (.mv (.t 0)), none, none, [], false⟩,
⟨3, some 36, .p (.mv (.t 6)), none, none, [], false⟩,
⟨4, some 37, .p (.mv (.t 10)), none, none, [], false⟩,
⟨5, some 38, .p (.bin .add (.t 36) (.t 37)), none, none, [], false⟩,
⟨6, some 39, .p (.mv (.t 0)), none, none, [], false⟩,
⟨7, some 40, .p (.mv (.t 6)), none, none, [], false⟩,
⟨8, some 41, .p (.mv (.t 10)), none, none, [], false⟩,
⟨9, some 42, .p (.bin .add (.t 40) (.t 41)), none, none, [], false⟩,
⟨10, some 43, .p (.iaddr 1 (.t 39) (.t 42)), none, none, [], false⟩,
⟨11, some 44, .l (.load false 1 (.t 43)), none, none, [], false⟩,
⟨12, some 45, .p (.mv (.t 0)), none, none, [], false⟩,
⟨13, some 46, .p (.mv (.t 6)), none, none, [], false⟩,
⟨14, some 47, .p (.iaddr 1 (.t 45) (.t 46)), none, none, [], false⟩,
⟨15, some 48, .l (.load false 1 (.t 47)), none, none, [], false⟩,
⟨16, some 49, .p (.iaddr 1 (.t 33) (.t 34)), none, none, [], false⟩,
⟨17, none, .e (.store 1 (.t 49) (.t 44)), none, none, [], false⟩,
⟨18, some 50, .p (.iaddr 1 (.t 35) (.t 38)), none, none, [], false⟩,
⟨19, none, .e (.store 1 (.t 50) (.t 48)), none, none, [], false⟩]
def f74r10 : List SOper := [
⟨0, some 51, .p (.mv (.t 0)), none, none, [], false⟩,
⟨1, some 52, .p (.mv (.t 7)), none, none, [], false⟩,
⟨2, some 53, .p (.mv (.t 10)), none, none, [], false⟩,
⟨3, some 54, .p (.mv (.t 6)), none, none, [], false⟩,
⟨4, some 55, .cf 86 [(.t 51), (.t 52), (.t 53), (.t 54)], none, none, [], false⟩]
def f74r11 : List SOper := [
⟨0, some 31, .p (.mv (.t 10)), none, none, [], false⟩,
⟨1, some 32, .p (.bin .sub (.t 31) (.c (.one (.int .i64 1)))), none, none, [], false⟩,
⟨2, some 10, .p (.mv (.t 32)), none, none, [], false⟩]
def f74b1 : SC := (.seq (.seq (.ops f74r8 0) (.cond (.t 30) .skip (.exit 2))) (.seq (.block 3 (.seq (.ops f74r9 20) (.ops f74r10 0))) (.ops f74r11 0)))
def f74c : SC := (.seq (.ops f74r0 0) (.seq (.ops f74r1 0) (.seq (.ops f74r2 0) (.seq (.seq (.ops f74r3 0) (.block 0 (.loop f74b0))) (.seq (.ops f74r7 0) (.block 2 (.loop f74b1)))))))
def f74 : SFn := ⟨56, f74c, []⟩

/- slices.breakPatternsOrdered[int] -/
def f75r0 : List SOper := [
⟨0, some 11, .p (.mv (.t 2)), none, none, [], false⟩,
⟨1, some 12, .p (.mv (.t 1)), none, none, [], false⟩,
⟨2, some 13, .p (.bin .sub (.t 11) (.t 12)), none, none, [], false⟩,
⟨3, some 6, .p (.mv (.t 13)), none, none, [], false⟩]
def f75r1 : List SOper := [
⟨0, some 14, .p (.mv (.t 6)), none, none, [], false⟩,
⟨1, some 15, .p (.bin .geq (.t 14) (.c (.one (.int .i64 8)))), none, none, [], false⟩]
def f75r2 : List SOper := [
⟨0, some 16, .p (.mv (.t 6)), none, none, [], false⟩,
⟨1, some 17, .p (.conv .u64 (.t 16)), none, none, [], false⟩,
⟨2, some 7, .a (.alloc [(.int .u64 0)]), none, none, [], false⟩,
⟨3, none, .e (.store 1 (.t 7) (.t 17)), none, none, [], false⟩]
def f75r3 : List SOper := [
⟨0, some 18, .p (.mv (.t 6)), none, none, [], false⟩,
⟨1, some 19, .cf 82 [(.t 18)], none, none, [], false⟩,
⟨2, some 8, .p (.mv (.t 19)), none, none, [], false⟩]
def f75r4 : List SOper := [
⟨0, some 20, .p (.mv (.t 1)), none, none, [], false⟩,
⟨1, some 21, .p (.mv (.t 6)), none, none, [], false⟩,
⟨2, some 22, .p (.bin .quo (.t 21) (.c (.one (.int .i64 4)))), none, none, [], false⟩,
⟨3, some 23, .p (.bin .mul (.t 22) (.c (.one (.int .i64 2)))), none, none, [], false⟩,
⟨4, some 24, .p (.bin .add (.t 20) (.t 23)), none, none, [], false⟩,
⟨5, some 25, .p (.bin .sub (.t 24) (.c (.one (.int .i64 1)))), none, none, [], false⟩,
⟨6, some 9, .p (.mv (.t 25)), none, none, [], false⟩]
def f75r5 : List SOper := [
⟨0, some 26, .p (.mv (.t 9)), none, none, [], false⟩,
⟨1, some 27, .p (.mv (.t 1)), none, none, [], false⟩,
⟨2, some 28, .p (.mv (.t 6)), none, none, [], false⟩,
⟨3, some 29, .p (.bin .quo (.t 28) (.c (.one (.int .i64 4)))), none, none, [], false⟩,
⟨4, some 30, .p (.bin .mul (.t 29) (.c (.one (.int .i64 2)))), none, none, [], false⟩,
⟨5, some 31, .p (.bin .add (.t 27) (.t 30)), none, none, [], false⟩,
⟨6, some 32, .p (.bin .add (.t 31) (.c (.one (.int .i64 1)))), none, none, [], false⟩,
⟨7, some 33, .p (.bin .leq (.t 26) (.t 32)), none, none, [], false⟩]
def f75r6 : List SOper := [
⟨0, some 36, .cf 83 [(.t 7)], none, none, [], false⟩,
⟨1, some 37, .p (.mv (.t 8)), none, none, [], false⟩,
⟨2, some 38, .p (.bin .sub (.t 37) (.c (.one (.int .u64 1)))), none, none, [], false⟩,
⟨3, some 39, .p (.bin .and (.t 36) (.t 38)), none, none, [], false⟩,
⟨4, some 40, .p (.conv .i64 (.t 39)), none, none, [], false⟩,
⟨5, some 10, .p (.mv (.t 40)), none, none, [], false⟩]
def f75r7 : List SOper := [
⟨0, some 41, .p (.mv (.t 10)), none, none, [], false⟩,
⟨1, some 42, .p (.mv (.t 6)), none, none, [], false⟩,
⟨2, some 43, .p (.bin .geq (.t 41) (.t 42)), none, none, [], false⟩]
def f75r8 : List SOper := [
⟨0, some 44, .p (.mv (.t 10)), none, none, [], false⟩,
⟨1, some 45, .p (.mv (.t 6)), none, none, [], false⟩,
⟨2, some 46, .p (.bin .sub (.t 44) (.t 45)), none, none, [], false⟩,
⟨3, some 10, .p (.mv (.t 46)), none, none, [], false⟩]
def f75r9 : List SOper := [
⟨0, some 47, .p (.mv (.t 0)), none, none, [], false⟩,
⟨1, some 48, .p (.mv (.t 9)), none, none, [], false⟩,
⟨2, some 49, .p (.mv (.t 0)), none, none, [], false⟩,
⟨3, some 50, .p (.mv (.t 1)), none, none, [], false⟩,
⟨4, some 51, .p (.mv (.t 10)), none, none, [], false⟩,
⟨5, some 52, .p (.bin .add (.t 50) (.t 51)), none, none, [], false⟩,
⟨6, some 53, .p (.mv (.t 0)), none, none, [], false⟩,
⟨7, some 54, .p (.mv (.t 1)), none, none, [], false⟩,
⟨8, some 55, .p (.mv (.t 10)), none, none, [], false⟩,
⟨9, some 56, .p (.bin .add (.t 54) (.t 55)), none, none, [], false⟩,
⟨10, some 57, .p (.iaddr 1 (.t 53) (.t 56)), none, none, [], false⟩,
⟨11, some 58, .l (.load false 1 (.t 57)), none, none, [], false⟩,
⟨12, some 59, .p (.mv (.t 0)), none, none, [], false⟩,
⟨13, some 60, .p (.mv (.t 9)), none, none, [], false⟩,
⟨14, some 61, .p (.iaddr 1 (.t 59) (.t 60)), none, none, [], false⟩,
⟨15, some 62, .l (.load false 1 (.t 61)), none, none, [], false⟩,
⟨16, some 63, .p (.iaddr 1 (.t 47) (.t 48)), none, none, [], false⟩,
⟨17, none, .e (.store 1 (.t 63) (.t 58)), none, none, [], false⟩,
⟨18, some 64, .p (.iaddr 1 (.t 49) (.t 52)), none, none, [], false⟩,
⟨19, none, .e (.store 1 (.t 64) (.t 62)), none, none, [], false⟩]
def f75r10 : List SOper := [
⟨0, some 34, .p (.mv (.t 9)), none, none, [], false⟩,
⟨1, some 35, .p (.bin .add (.t 34) (.c (.one (.int .i64 1)))), none, none, [], false⟩,
⟨2, some 9, .p (.mv (.t 35)), none, none, [], false⟩]
def f75b0 : SC := (.seq (.seq (.ops f75r5 0) (.cond (.t 33) .skip (.exit 0))) (.seq (.block 1 (.seq (.ops f75r6 0) (.seq (.seq (.ops f75r7 0) (.cond (.t 43) (.ops f75r8 0) .skip)) (.ops f75r9 20)))) (.ops f75r10 0)))
def f75c : SC := (.seq (.ops f75r0 0) (.seq (.ops f75r1 0) (.cond (.t 15) (.seq (.ops f75r2 0) (.seq (.ops f75r3 0) (.seq (.ops f75r4 0) (.block 0 (.loop f75b0))))) .skip)))
def f75 : SFn := ⟨65, f75c, []⟩

/- slices.choosePivotOrdered[int] -/
def f76r0 : List SOper := [
⟨0, some 6, .p (.mv (.c (.one (.int .i64 0)))), none, none, [], false⟩,
⟨1, some 7, .p (.mv (.c (.one (.int .i64 0)))), none, none, [], false⟩]
def f76r1 : List SOper := [
⟨0, some 13, .p (.mv (.t 2)), none, none, [], false⟩,
⟨1, some 14, .p (.mv (.t 1)), none, none, [], false⟩,
⟨2, some 15, .p (.bin .sub (.t 13) (.t 14)), none, none, [], false⟩,
⟨3, some 8, .p (.mv (.t 15)), none, none, [], false⟩]
def f76r2 : List SOper := [
⟨0, some 9, .a (.alloc [(.int .i64 0)]), none, none, [], false⟩]
def f76r3 : List SOper := [
⟨0, some 16, .p (.mv (.t 1)), none, none, [], false⟩,
⟨1, some 17, .p (.mv (.t 8)), none, none, [], false⟩,
⟨2, some 18, .p (.bin .quo (.t 17) (.c (.one (.int .i64 4)))), none, none, [], false⟩,
⟨3, some 19, .p (.bin .mul (.t 18) (.c (.one (.int .i64 1)))), none, none, [], false⟩,
⟨4, some 20, .p (.bin .add (.t 16) (.t 19)), none, none, [], false⟩,
⟨5, some 10, .p (.mv (.t 20)), none, none, [], false⟩]
def f76r4 : List SOper := [
⟨0, some 21, .p (.mv (.t 1)), none, none, [], false⟩,
⟨1, some 22, .p (.mv (.t 8)), none, none, [], false⟩,
⟨2, some 23, .p (.bin .quo (.t 22) (.c (.one (.int .i64 4)))), none, none, [], false⟩,
⟨3, some 24, .p (.bin .mul (.t 23) (.c (.one (.int .i64 2)))), none, none, [], false⟩,
⟨4, some 25, .p (.bin .add (.t 21) (.t 24)), none, none, [], false⟩,
⟨5, some 11, .p (.mv (.t 25)), none, none, [], false⟩]
def f76r5 : List SOper := [
⟨0, some 26, .p (.mv (.t 1)), none, none, [], false⟩,
⟨1, some 27, .p (.mv (.t 8)), none, none, [], false⟩,
⟨2, some 28, .p (.bin .quo (.t 27) (.c (.one (.int .i64 4)))), none, none, [], false⟩,
⟨3, some 29, .p (.bin .mul (.t 28) (.c (.one (.int .i64 3)))), none, none, [], false⟩,
⟨4, some 30, .p (.bin .add (.t 26) (.t 29)), none, none, [], false⟩,
⟨5, some 12, .p (.mv (.t 30)), none, none, [], false⟩]
def f76r6 : List SOper := [
⟨0, some 31, .p (.mv (.t 8)), none, none, [], false⟩,
⟨1, some 32, .p (.bin .geq (.t 31) (.c (.one (.int .i64 8)))), none, none, [], false⟩]
def f76r7 : List SOper := [
⟨0, some 33, .p (.mv (.t 8)), none, none, [], false⟩,
⟨1, some 34, .p (.bin .geq (.t 33) (.c (.one (.int .i64 50)))), none, none, [], false⟩]
def f76r8 : List SOper := [
⟨0, some 35, .p (.mv (.t 0)), none, none, [], false⟩,
⟨1, some 36, .p (.mv (.t 10)), none, none, [], false⟩,
⟨2, some 37, .cf 87 [(.t 35), (.t 36), (.t 9)], none, none, [], false⟩,
⟨3, some 10, .p (.mv (.t 37)), none, none, [], false⟩]
def f76r9 : List SOper := [
⟨0, some 38, .p (.mv (.t 0)), none, none, [], false⟩,
⟨1, some 39, .p (.mv (.t 11)), none, none, [], false⟩,
⟨2, some 40, .cf 87 [(.t 38), (.t 39), (.t 9)], none, none, [], false⟩,
⟨3, some 11, .p (.mv (.t 40)), none, none, [], false⟩]
def f76r10 : List SOper := [
⟨0, some 41, .p (.mv (.t 0)), none, none, [], false⟩,
⟨1, some 42, .p (.mv (.t 12)), none, none, [], false⟩,
⟨2, some 43, .cf 87 [(.t 41), (.t 42), (.t 9)], none, none, [], false⟩,
⟨3, some 12, .p (.mv (.t 43)), none, none, [], false⟩]
def f76r11 : List SOper := [
⟨0, some 44, .p (.mv (.t 0)), none, none, [], false⟩,
⟨1, some 45, .p (.mv (.t 10)), none, none, [], false⟩,
⟨2, some 46, .p (.mv (.t 11)), none, none, [], false⟩,
⟨3, some 47, .p (.mv (.t 12)), none, none, [], false⟩,
⟨4, some 48, .cf 88 [(.t 44), (.t 45), (.t 46), (.t 47), (.t 9)], none, none, [], false⟩,
⟨5, some 11, .p (.mv (.t 48)), none, none, [], false⟩]
def f76r12 : List SOper := [
⟨0, some 49, .l (.load false 1 (.t 9)), none, none, [], false⟩]
def f76r13 : List SOper := [
⟨0, some 52, .p (.bin .eql (.t 49) (.c (.one (.int .i64 0)))), none, none, [], false⟩,
⟨1, some 51, .p (.mv (.t 52)), none, none, [], false⟩]
def f76r14 : List SOper := [
⟨0, some 53, .p (.mv (.t 11)), none, none, [], false⟩,
⟨1, some 6, .p (.mv (.t 53)), none, none, [], false⟩,
⟨2, some 7, .p (.mv (.c (.one (.int .i64 1)))), none, none, [], false⟩]
def f76r15 : List SOper := [
⟨0, some 55, .p (.bin .eql (.t 49) (.c (.one (.int .i64 12)))), none, none, [], false⟩,
⟨1, some 54, .p (.mv (.t 55)), none, none, [], false⟩]
def f76r16 : List SOper := [
⟨0, some 56, .p (.mv (.t 11)), none, none, [], false⟩,
⟨1, some 6, .p (.mv (.t 56)), none, none, [], false⟩,
⟨2, some 7, .p (.mv (.c (.one (.int .i64 2)))), none, none, [], false⟩]
def f76r17 : List SOper := [
⟨0, some 50, .p (.mv (.t 11)), none, none, [], false⟩,
⟨1, some 6, .p (.mv (.t 50)), none, none, [], false⟩,
⟨2, some 7, .p (.mv (.c (.one (.int .i64 0)))), none, none, [], false⟩]
def f76c : SC := (.seq (.ops f76r0 0) (.seq (.ops f76r1 0) (.seq (.ops f76r2 0) (.seq (.ops f76r3 0) (.seq (.ops f76r4 0) (.seq (.ops f76r5 0) (.seq (.seq (.ops f76r6 0) (.cond (.t 32) (.seq (.seq (.ops f76r7 0) (.cond (.t 34) (.seq (.ops f76r8 0) (.seq (.ops f76r9 0) (.ops f76r10 0))) .skip)) (.ops f76r11 0)) .skip)) (.seq (.ops f76r12 0) (.block 0 (.seq (.ops f76r13 0) (.cond (.t 51) (.seq (.ops f76r14 0) .ret) (.seq (.ops f76r15 0) (.cond (.t 54) (.seq (.ops f76r16 0) .ret) (.seq (.ops f76r17 0) .ret))))))))))))))
def f76 : SFn := ⟨57, f76c, [.t 6, .t 7]⟩

/- slices.reverseRangeOrdered[int] -/
def f77r0 : List SOper := [
⟨0, some 8, .p (.mv (.t 1)), none, none, [], false⟩,
⟨1, some 6, .p (.mv (.t 8)), none, none, [], false⟩]
def f77r1 : List SOper := [
⟨0, some 9, .p (.mv (.t 2)), none, none, [], false⟩,
⟨1, some 10, .p (.bin .sub (.t 9) (.c (.one (.int .i64 1)))), none, none, [], false⟩,
⟨2, some 7, .p (.mv (.t 10)), none, none, [], false⟩]
def f77r2 : List SOper := [
⟨0, some 11, .p (.mv (.t 6)), none, none, [], false⟩,
⟨1, some 12, .p (.mv (.t 7)), none, none, [], false⟩,
⟨2, some 13, .p (.bin .lss (.t 11) (.t 12)), none, none, [], false⟩]
def f77r3 : List SOper := [
⟨0, some 14, .p (.mv (.t 0)), none, none, [], false⟩,
⟨1, some 15, .p (.mv (.t 6)), none, none, [], false⟩,
⟨2, some 16, .p (.mv (.t 0)), none, none, [], false⟩,
⟨3, some 17, .p (.mv (.t 7)), none, none, [], false⟩,
⟨4, some 18, .p (.mv (.t 0)), none, none, [], false⟩,
⟨5, some 19, .p (.mv (.t 7)), none, none, [], false⟩,
⟨6, some 20, .p (.iaddr 1 (.t 18) (.t 19)), none, none, [], false⟩,
⟨7, some 21, .l (.load false 1 (.t 20)), none, none, [], false⟩,
⟨8, some 22, .p (.mv (.t 0)), none, none, [], false⟩,
⟨9, some 23, .p (.mv (.t 6)), none, none, [], false⟩,
⟨10, some 24, .p (.iaddr 1 (.t 22) (.t 23)), none, none, [], false⟩,
⟨11, some 25, .l (.load false 1 (.t 24)), none, none, [], false⟩,
⟨12, some 26, .p (.iaddr 1 (.t 14) (.t 15)), none, none, [], false⟩,
⟨13, none, .e (.store 1 (.t 26) (.t 21)), none, none, [], false⟩,
⟨14, some 27, .p (.iaddr 1 (.t 16) (.t 17)), none, none, [], false⟩,
⟨15, none, .e (.store 1 (.t 27) (.t 25)), none, none, [], false⟩]
def f77r4 : List SOper := [
⟨0, some 28, .p (.mv (.t 6)), none, none, [], false⟩,
⟨1, some 29, .p (.bin .add (.t 28) (.c (.one (.int .i64 1)))), none, none, [], false⟩,
⟨2, some 6, .p (.mv (.t 29)), none, none, [], false⟩]
def f77r5 : List SOper := [
⟨0, some 30, .p (.mv (.t 7)), none, none, [], false⟩,
⟨1, some 31, .p (.bin .sub (.t 30) (.c (.one (.int .i64 1)))), none, none, [], false⟩,
⟨2, some 7, .p (.mv (.t 31)), none, none, [], false⟩]
def f77b0 : SC := (.seq (.seq (.ops f77r2 0) (.cond (.t 13) .skip (.exit 0))) (.block 1 (.seq (.ops f77r3 16) (.seq (.ops f77r4 0) (.ops f77r5 0)))))
def f77c : SC := (.seq (.ops f77r0 0) (.seq (.ops f77r1 0) (.block 0 (.loop f77b0))))
def f77 : SFn := ⟨32, f77c, []⟩

/- slices.partialInsertionSortOrdered[int] -/
def f78r0 : List SOper := [
⟨0, some 6, .p (.mv (.c (.one (.bool false)))), none, none, [], false⟩]
def f78r1 : List SOper := [
⟨0, some 11, .p (.mv (.t 1)), none, none, [], false⟩,
⟨1, some 12, .p (.bin .add (.t 11) (.c (.one (.int .i64 1)))), none, none, [], false⟩,
⟨2, some 7, .p (.mv (.t 12)), none, none, [], false⟩]
def f78r2 : List SOper := [
⟨0, some 8, .p (.mv (.c (.one (.int .i64 0)))), none, none, [], false⟩]
def f78r3 : List SOper := [
⟨0, some 13, .p (.mv (.t 8)), none, none, [], false⟩,
⟨1, some 14, .p (.bin .lss (.t 13) (.c (.one (.int .i64 5)))), none, none, [], false⟩]
def f78r4 : List SOper := [
⟨0, some 17, .p (.mv (.t 7)), none, none, [], false⟩,
⟨1, some 18, .p (.mv (.t 2)), none, none, [], false⟩,
⟨2, some 19, .p (.bin .lss (.t 17) (.t 18)), none, none, [], false⟩,
⟨3, some 20, .p (.mv (.t 19)), none, none, [], false⟩,
⟨4, some 21, .p (.mv (.t 0)), (some (20, true)), none, [], false⟩,
⟨5, some 22, .p (.mv (.t 7)), (some (20, true)), none, [], false⟩,
⟨6, some 23, .p (.iaddr 1 (.t 21) (.t 22)), (some (20, true)), none, [], false⟩,
⟨7, some 24, .l (.load false 1 (.t 23)), (some (20, true)), none, [], false⟩,
⟨8, some 25, .p (.mv (.t 0)), (some (20, true)), none, [], false⟩,
⟨9, some 26, .p (.mv (.t 7)), (some (20, true)), none, [], false⟩,
⟨10, some 27, .p (.bin .sub (.t 26) (.c (.one (.int .i64 1)))), (some (20, true)), none, [], false⟩,
⟨11, some 28, .p (.iaddr 1 (.t 25) (.t 27)), (some (20, true)), none, [], false⟩,
⟨12, some 29, .l (.load false 1 (.t 28)), (some (20, true)), none, [], false⟩,
⟨13, some 30, .cf 59 [(.t 24), (.t 29)], (some (20, true)), none, [], false⟩,
⟨14, some 31, .p (.not (.t 30)), (some (20, true)), none, [], false⟩,
⟨15, some 32, .p (.pick (.t 20) (.t 31) (.c (.one (.bool false)))), none, none, [], false⟩]
def f78r5 : List SOper := [
⟨0, some 33, .p (.mv (.t 7)), none, none, [], false⟩,
⟨1, some 34, .p (.bin .add (.t 33) (.c (.one (.int .i64 1)))), none, none, [], false⟩,
⟨2, some 7, .p (.mv (.t 34)), none, none, [], false⟩]
def f78b0 : SC := (.seq (.seq (.ops f78r4 16) (.cond (.t 32) .skip (.exit 2))) (.block 3 (.ops f78r5 0)))
def f78r6 : List SOper := [
⟨0, some 35, .p (.mv (.t 7)), none, none, [], false⟩,
⟨1, some 36, .p (.mv (.t 2)), none, none, [], false⟩,
⟨2, some 37, .p (.bin .eql (.t 35) (.t 36)), none, none, [], false⟩]
def f78r7 : List SOper := [
⟨0, some 6, .p (.mv (.c (.one (.bool true)))), none, none, [], false⟩]
def f78r8 : List SOper := [
⟨0, some 38, .p (.mv (.t 2)), none, none, [], false⟩,
⟨1, some 39, .p (.mv (.t 1)), none, none, [], false⟩,
⟨2, some 40, .p (.bin .sub (.t 38) (.t 39)), none, none, [], false⟩,
⟨3, some 41, .p (.bin .lss (.t 40) (.c (.one (.int .i64 50)))), none, none, [], false⟩]
def f78r9 : List SOper := [
⟨0, some 6, .p (.mv (.c (.one (.bool false)))), none, none, [], false⟩]
def f78r10 : List SOper := [
⟨0, some 42, .p (.mv (.t 0)), none, none, [], false⟩,
⟨1, some 43, .p (.mv (.t 7)), none, none, [], false⟩,
⟨2, some 44, .p (.mv (.t 0)), none, none, [], false⟩,
⟨3, some 45, .p (.mv (.t 7)), none, none, [], false⟩,
⟨4, some 46, .p (.bin .sub (.t 45) (.c (.one (.int .i64 1)))), none, none, [], false⟩,
⟨5, some 47, .p (.mv (.t 0)), none, none, [], false⟩,
⟨6, some 48, .p (.mv (.t 7)), none, none, [], false⟩,
⟨7, some 49, .p (.bin .sub (.t 48) (.c (.one (.int .i64 1)))), none, none, [], false⟩,
⟨8, some 50, .p (.iaddr 1 (.t 47) (.t 49)), none, none, [], false⟩,
⟨9, some 51, .l (.load false 1 (.t 50)), none, none, [], false⟩,
⟨10, some 52, .p (.mv (.t 0)), none, none, [], false⟩,
⟨11, some 53, .p (.mv (.t 7)), none, none, [], false⟩,
⟨12, some 54, .p (.iaddr 1 (.t 52) (.t 53)), none, none, [], false⟩,
⟨13, some 55, .l (.load false 1 (.t 54)), none, none, [], false⟩,
⟨14, some 56, .p (.iaddr 1 (.t 42) (.t 43)), none, none, [], false⟩,
⟨15, none, .e (.store 1 (.t 56) (.t 51)), none, none, [], false⟩,
⟨16, some 57, .p (.iaddr 1 (.t 44) (.t 46)), none, none, [], false⟩,
⟨17, none, .e (.store 1 (.t 57) (.t 55)), none, none, [], false⟩]
def f78r11 : List SOper := [
⟨0, some 58, .p (.mv (.t 7)), none, none, [], false⟩,
⟨1, some 59, .p (.mv (.t 1)), none, none, [], false⟩,
⟨2, some 60, .p (.bin .sub (.t 58) (.t 59)), none, none, [], false⟩,
⟨3, some 61, .p (.bin .geq (.t 60) (.c (.one (.int .i64 2)))), none, none, [], false⟩]
def f78r12 : List SOper := [
⟨0, some 62, .p (.mv (.t 7)), none, none, [], false⟩,
⟨1, some 63, .p (.bin .sub (.t 62) (.c (.one (.int .i64 1)))), none, none, [], false⟩,
⟨2, some 9, .p (.mv (.t 63)), none, none, [], false⟩]
def f78r13 : List SOper := [
⟨0, some 64, .p (.mv (.t 9)), none, none, [], false⟩,
⟨1, some 65, .p (.bin .geq (.t 64) (.c (.one (.int .i64 1)))), none, none, [], false⟩]
def f78r14 : List SOper := [
⟨0, some 68, .p (.mv (.t 0)), none, none, [], false⟩,
⟨1, some 69, .p (.mv (.t 9)), none, none, [], false⟩,
⟨2, some 70, .p (.iaddr 1 (.t 68) (.t 69)), none, none, [], false⟩,
⟨3, some 71, .l (.load false 1 (.t 70)), none, none, [], false⟩,
⟨4, some 72, .p (.mv (.t 0)), none, none, [], false⟩,
⟨5, some 73, .p (.mv (.t 9)), none, none, [], false⟩,
⟨6, some 74, .p (.bin .sub (.t 73) (.c (.one (.int .i64 1)))), none, none, [], false⟩,
⟨7, some 75, .p (.iaddr 1 (.t 72) (.t 74)), none, none, [], false⟩,
⟨8, some 76, .l (.load false 1 (.t 75)), none, none, [], false⟩,
⟨9, some 77, .cf 59 [(.t 71), (.t 76)], none, none, [], false⟩,
⟨10, some 78, .p (.not (.t 77)), none, none, [], false⟩]
def f78r15 : List SOper := [
⟨0, some 79, .p (.mv (.t 0)), none, none, [], false⟩,
⟨1, some 80, .p (.mv (.t 9)), none, none, [], false⟩,
⟨2, some 81, .p (.mv (.t 0)), none, none, [], false⟩,
⟨3, some 82, .p (.mv (.t 9)), none, none, [], false⟩,
⟨4, some 83, .p (.bin .sub (.t 82) (.c (.one (.int .i64 1)))), none, none, [], false⟩,
⟨5, some 84, .p (.mv (.t 0)), none, none, [], false⟩,
⟨6, some 85, .p (.mv (.t 9)), none, none, [], false⟩,
⟨7, some 86, .p (.bin .sub (.t 85) (.c (.one (.int .i64 1)))), none, none, [], false⟩,
⟨8, some 87, .p (.iaddr 1 (.t 84) (.t 86)), none, none, [], false⟩,
⟨9, some 88, .l (.load false 1 (.t 87)), none, none, [], false⟩,
⟨10, some 89, .p (.mv (.t 0)), none, none, [], false⟩,
⟨11, some 90, .p (.mv (.t 9)), none, none, [], false⟩,
⟨12, some 91, .p (.iaddr 1 (.t 89) (.t 90)), none, none, [], false⟩,
⟨13, some 92, .l (.load false 1 (.t 91)), none, none, [], false⟩,
⟨14, some 93, .p (.iaddr 1 (.t 79) (.t 80)), none, none, [], false⟩,
⟨15, none, .e (.store 1 (.t 93) (.t 88)), none, none, [], false⟩,
⟨16, some 94, .p (.iaddr 1 (.t 81) (.t 83)), none, none, [], false⟩,
⟨17, none, .e (.store 1 (.t 94) (.t 92)), none, none, [], false⟩]
def f78r16 : List SOper := [
⟨0, some 66, .p (.mv (.t 9)), none, none, [], false⟩,
⟨1, some 67, .p (.bin .sub (.t 66) (.c (.one (.int .i64 1)))), none, none, [], false⟩,
⟨2, some 9, .p (.mv (.t 67)), none, none, [], false⟩]
def f78b1 : SC := (.seq (.seq (.ops f78r13 0) (.cond (.t 65) .skip (.exit 4))) (.seq (.block 5 (.seq (.seq (.ops f78r14 11) (.cond (.t 78) (.exit 4) .skip)) (.ops f78r15 18))) (.ops f78r16 0)))
def f78r17 : List SOper := [
⟨0, some 95, .p (.mv (.t 2)), none, none, [], false⟩,
⟨1, some 96, .p (.mv (.t 7)), none, none, [], false⟩,
⟨2, some 97, .p (.bin .sub (.t 95) (.t 96)), none, none, [], false⟩,
⟨3, some 98, .p (.bin .geq (.t 97) (.c (.one (.int .i64 2)))), none, none, [], false⟩]
def f78r18 : List SOper := [
⟨0, some 99, .p (.mv (.t 7)), none, none, [], false⟩,
⟨1, some 100, .p (.bin .add (.t 99) (.c (.one (.int .i64 1)))), none, none, [], false⟩,
⟨2, some 10, .p (.mv (.t 100)), none, none, [], false⟩]
def f78r19 : List SOper := [
⟨0, some 101, .p (.mv (.t 10)), none, none, [], false⟩,
⟨1, some 102, .p (.mv (.t 2)), none, none, [], false⟩,
⟨2, some 103, .p (.bin .lss (.t 101) (.t 102)), none, none, [], false⟩]
def f78r20 : List SOper := [
⟨0, some 106, .p (.mv (.t 0)), none, none, [], false⟩,
⟨1, some 107, .p (.mv (.t 10)), none, none, [], false⟩,
⟨2, some 108, .p (.iaddr 1 (.t 106) (.t 107)), none, none, [], false⟩,
⟨3, some 109, .l (.load false 1 (.t 108)), none, none, [], false⟩,
⟨4, some 110, .p (.mv (.t 0)), none, none, [], false⟩,
⟨5, some 111, .p (.mv (.t 10)), none, none, [], false⟩,
⟨6, some 112, .p (.bin .sub (.t 111) (.c (.one (.int .i64 1)))), none, none, [], false⟩,
⟨7, some 113, .p (.iaddr 1 (.t 110) (.t 112)), none, none, [], false⟩,
⟨8, some 114, .l (.load false 1 (.t 113)), none, none, [], false⟩,
⟨9, some 115, .cf 59 [(.t 109), (.t 114)], none, none, [], false⟩,
⟨10, some 116, .p (.not (.t 115)), none, none, [], false⟩]
def f78r21 : List SOper := [
⟨0, some 117, .p (.mv (.t 0)), none, none, [], false⟩,
⟨1, some 118, .p (.mv (.t 10)), none, none, [], false⟩,
⟨2, some 119, .p (.mv (.t 0)), none, none, [], false⟩,
⟨3, some 120, .p (.mv (.t 10)), none, none, [], false⟩,
⟨4, some 121, .p (.bin .sub (.t 120) (.c (.one (.int .i64 1)))), none, none, [], false⟩,
⟨5, some 122, .p (.mv (.t 0)), none, none, [], false⟩,
⟨6, some 123, .p (.mv (.t 10)), none, none, [], false⟩,
⟨7, some 124, .p (.bin .sub (.t 123) (.c (.one (.int .i64 1)))), none, none, [], false⟩,
⟨8, some 125, .p (.iaddr 1 (.t 122) (.t 124)), none, none, [], false⟩,
⟨9, some 126, .l (.load false 1 (.t 125)), none, none, [], false⟩,
⟨10, some 127, .p (.mv (.t 0)), none, none, [], false⟩,
⟨11, some 128, .p (.mv (.t 10)), none, none, [], false⟩,
⟨12, some 129, .p (.iaddr 1 (.t 127) (.t 128)), none, none, [], false⟩,
⟨13, some 130, .l (.load false 1 (.t 129)), none, none, [], false⟩,
⟨14, some 131, .p (.iaddr 1 (.t 117) (.t 118)), none, none, [], false⟩,
⟨15, none, .e (.store 1 (.t 131) (.t 126)), none, none, [], false⟩,
⟨16, some 132, .p (.iaddr 1 (.t 119) (.t 121)), none, none, [], false⟩,
⟨17, none, .e (.store 1 (.t 132) (.t 130)), none, none, [], false⟩]
def f78r22 : List SOper := [
⟨0, some 104, .p (.mv (.t 10)), none, none, [], false⟩,
⟨1, some 105, .p (.bin .add (.t 104) (.c (.one (.int .i64 1)))), none, none, [], false⟩,
⟨2, some 10, .p (.mv (.t 105)), none, none, [], false⟩]
def f78b2 : SC := (.seq (.seq (.ops f78r19 0) (.cond (.t 103) .skip (.exit 6))) (.seq (.block 7 (.seq (.seq (.ops f78r20 11) (.cond (.t 116) (.exit 6) .skip)) (.ops f78r21 18))) (.ops f78r22 0)))
def f78r23 : List SOper := [
⟨0, some 15, .p (.mv (.t 8)), none, none, [], false⟩,
⟨1, some 16, .p (.bin .add (.t 15) (.c (.one (.int .i64 1)))), none, none, [], false⟩,
⟨2, some 8, .p (.mv (.t 16)), none, none, [], false⟩]
def f78b3 : SC := (.seq (.seq (.ops f78r3 0) (.cond (.t 14) .skip (.exit 0))) (.seq (.block 1 (.seq (.block 2 (.loop f78b0)) (.seq (.seq (.ops f78r6 0) (.cond (.t 37) (.seq (.ops f78r7 0) .ret) .skip)) (.seq (.seq (.ops f78r8 0) (.cond (.t 41) (.seq (.ops f78r9 0) .ret) .skip)) (.seq (.ops f78r10 18) (.seq (.seq (.ops f78r11 0) (.cond (.t 61) (.seq (.ops f78r12 0) (.block 4 (.loop f78b1))) .skip)) (.seq (.ops f78r17 0) (.cond (.t 98) (.seq (.ops f78r18 0) (.block 6 (.loop f78b2))) .skip)))))))) (.ops f78r23 0)))
def f78r24 : List SOper := [
⟨0, some 6, .p (.mv (.c (.one (.bool false)))), none, none, [], false⟩]
def f78c : SC := (.seq (.ops f78r0 0) (.seq (.ops f78r1 0) (.seq (.seq (.ops f78r2 0) (.block 0 (.loop f78b3))) (.seq (.ops f78r24 0) .ret))))
def f78 : SFn := ⟨133, f78c, [.t 6]⟩

/- slices.partitionEqualOrdered[int] -/
def f79r0 : List SOper := [
⟨0, some 8, .p (.mv (.c (.one (.int .i64 0)))), none, none, [], false⟩]
def f79r1 : List SOper := [
⟨0, some 11, .p (.mv (.t 0)), none, none, [], false⟩,
⟨1, some 12, .p (.mv (.t 1)), none, none, [], false⟩,
⟨2, some 13, .p (.mv (.t 0)), none, none, [], false⟩,
⟨3, some 14, .p (.mv (.t 3)), none, none, [], false⟩,
⟨4, some 15, .p (.mv (.t 0)), none, none, [], false⟩,
⟨5, some 16, .p (.mv (.t 3)), none, none, [], false⟩,
⟨6, some 17, .p (.iaddr 1 (.t 15) (.t 16)), none, none, [], false⟩,
⟨7, some 18, .l (.load false 1 (.t 17)), none, none, [], false⟩,
⟨8, some 19, .p (.mv (.t 0)), none, none, [], false⟩,
⟨9, some 20, .p (.mv (.t 1)), none, none, [], false⟩,
⟨10, some 21, .p (.iaddr 1 (.t 19) (.t 20)), none, none, [], false⟩,
⟨11, some 22, .l (.load false 1 (.t 21)), none, none, [], false⟩,
⟨12, some 23, .p (.iaddr 1 (.t 11) (.t 12)), none, none, [], false⟩,
⟨13, none, .e (.store 1 (.t 23) (.t 18)), none, none, [], false⟩,
⟨14, some 24, .p (.iaddr 1 (.t 13) (.t 14)), none, none, [], false⟩,
⟨15, none, .e (.store 1 (.t 24) (.t 22)), none, none, [], false⟩]
def f79r2 : List SOper := [
⟨0, some 25, .p (.mv (.t 1)), none, none, [], false⟩,
⟨1, some 26, .p (.bin .add (.t 25) (.c (.one (.int .i64 1)))), none, none, [], false⟩,
⟨2, some 27, .p (.mv (.t 2)), none, none, [], false⟩,
⟨3, some 28, .p (.bin .sub (.t 27) (.c (.one (.int .i64 1)))), none, none, [], false⟩,
⟨4, some 9, .p (.mv (.t 26)), none, none, [], false⟩,
⟨5, some 10, .p (.mv (.t 28)), none, none, [], false⟩]
def f79r3 : List SOper := [
⟨0, some 29, .p (.mv (.t 9)), none, none, [], false⟩,
⟨1, some 30, .p (.mv (.t 10)), none, none, [], false⟩,
⟨2, some 31, .p (.bin .leq (.t 29) (.t 30)), none, none, [], false⟩,
⟨3, some 32, .p (.mv (.t 31)), none, none, [], false⟩,
⟨4, some 33, .p (.mv (.t 0)), (some (32, true)), none, [], false⟩,
⟨5, some 34, .p (.mv (.t 1)), (some (32, true)), none, [], false⟩,
⟨6, some 35, .p (.iaddr 1 (.t 33) (.t 34)), (some (32, true)), none, [], false⟩,
⟨7, some 36, .l (.load false 1 (.t 35)), (some (32, true)), none, [], false⟩,
⟨8, some 37, .p (.mv (.t 0)), (some (32, true)), none, [], false⟩,
⟨9, some 38, .p (.mv (.t 9)), (some (32, true)), none, [], false⟩,
⟨10, some 39, .p (.iaddr 1 (.t 37) (.t 38)), (some (32, true)), none, [], false⟩,
⟨11, some 40, .l (.load false 1 (.t 39)), (some (32, true)), none, [], false⟩,
⟨12, some 41, .cf 59 [(.t 36), (.t 40)], (some (32, true)), none, [], false⟩,
⟨13, some 42, .p (.not (.t 41)), (some (32, true)), none, [], false⟩,
⟨14, some 43, .p (.pick (.t 32) (.t 42) (.c (.one (.bool false)))), none, none, [], false⟩]
def f79r4 : List SOper := [
⟨0, some 44, .p (.mv (.t 9)), none, none, [], false⟩,
⟨1, some 45, .p (.bin .add (.t 44) (.c (.one (.int .i64 1)))), none, none, [], false⟩,
⟨2, some 9, .p (.mv (.t 45)), none, none, [], false⟩]
def f79b0 : SC := (.seq (.seq (.ops f79r3 15) (.cond (.t 43) .skip (.exit 2))) (.block 3 (.ops f79r4 0)))
def f79r5 : List SOper := [
⟨0, some 46, .p (.mv (.t 9)), none, none, [], false⟩,
⟨1, some 47, .p (.mv (.t 10)), none, none, [], false⟩,
⟨2, some 48, .p (.bin .leq (.t 46) (.t 47)), none, none, [], false⟩,
⟨3, some 49, .p (.mv (.t 48)), none, none, [], false⟩,
⟨4, some 50, .p (.mv (.t 0)), (some (49, true)), none, [], false⟩,
⟨5, some 51, .p (.mv (.t 1)), (some (49, true)), none, [], false⟩,
⟨6, some 52, .p (.iaddr 1 (.t 50) (.t 51)), (some (49, true)), none, [], false⟩,
⟨7, some 53, .l (.load false 1 (.t 52)), (some (49, true)), none, [], false⟩,
⟨8, some 54, .p (.mv (.t 0)), (some (49, true)), none, [], false⟩,
⟨9, some 55, .p (.mv (.t 10)), (some (49, true)), none, [], false⟩,
⟨10, some 56, .p (.iaddr 1 (.t 54) (.t 55)), (some (49, true)), none, [], false⟩,
⟨11, some 57, .l (.load false 1 (.t 56)), (some (49, true)), none, [], false⟩,
⟨12, some 58, .cf 59 [(.t 53), (.t 57)], (some (49, true)), none, [], false⟩,
⟨13, some 59, .p (.pick (.t 49) (.t 58) (.c (.one (.bool false)))), none, none, [], false⟩]
def f79r6 : List SOper := [
⟨0, some 60, .p (.mv (.t 10)), none, none, [], false⟩,
⟨1, some 61, .p (.bin .sub (.t 60) (.c (.one (.int .i64 1)))), none, none, [], false⟩,
⟨2, some 10, .p (.mv (.t 61)), none, none, [], false⟩]
def f79b1 : SC := (.seq (.seq (.ops f79r5 14) (.cond (.t 59) .skip (.exit 4))) (.block 5 (.ops f79r6 0)))
def f79r7 : List SOper := [
⟨0, some 62, .p (.mv (.t 9)), none, none, [], false⟩,
⟨1, some 63, .p (.mv (.t 10)), none, none, [], false⟩,
⟨2, some 64, .p (.bin .gtr (.t 62) (.t 63)), none, none, [], false⟩]
def f79r8 : List SOper := [
⟨0, some 65, .p (.mv (.t 0)), none, none, [], false⟩,
⟨1, some 66, .p (.mv (.t 9)), none, none, [], false⟩,
⟨2, some 67, .p (.mv (.t 0)), none, none, [], false⟩,
⟨3, some 68, .p (.mv (.t 10)), none, none, [], false⟩,
⟨4, some 69, .p (.mv (.t 0)), none, none, [], false⟩,
⟨5, some 70, .p (.mv (.t 10)), none, none, [], false⟩,
⟨6, some 71, .p (.iaddr 1 (.t 69) (.t 70)), none, none, [], false⟩,
⟨7, some 72, .l (.load false 1 (.t 71)), none, none, [], false⟩,
⟨8, some 73, .p (.mv (.t 0)), none, none, [], false⟩,
⟨9, some 74, .p (.mv (.t 9)), none, none, [], false⟩,
⟨10, some 75, .p (.iaddr 1 (.t 73) (.t 74)), none, none, [], false⟩,
⟨11, some 76, .l (.load false 1 (.t 75)), none, none, [], false⟩,
⟨12, some 77, .p (.iaddr 1 (.t 65) (.t 66)), none, none, [], false⟩,
⟨13, none, .e (.store 1 (.t 77) (.t 72)), none, none, [], false⟩,
⟨14, some 78, .p (.iaddr 1 (.t 67) (.t 68)), none, none, [], false⟩,
⟨15, none, .e (.store 1 (.t 78) (.t 76)), none, none, [], false⟩]
def f79r9 : List SOper := [
⟨0, some 79, .p (.mv (.t 9)), none, none, [], false⟩,
⟨1, some 80, .p (.bin .add (.t 79) (.c (.one (.int .i64 1)))), none, none, [], false⟩,
⟨2, some 9, .p (.mv (.t 80)), none, none, [], false⟩]
def f79r10 : List SOper := [
⟨0, some 81, .p (.mv (.t 10)), none, none, [], false⟩,
⟨1, some 82, .p (.bin .sub (.t 81) (.c (.one (.int .i64 1)))), none, none, [], false⟩,
⟨2, some 10, .p (.mv (.t 82)), none, none, [], false⟩]
def f79b2 : SC := (.block 1 (.seq (.block 2 (.loop f79b0)) (.seq (.block 4 (.loop f79b1)) (.seq (.seq (.ops f79r7 0) (.cond (.t 64) (.exit 0) .skip)) (.seq (.ops f79r8 16) (.seq (.ops f79r9 0) (.ops f79r10 0)))))))
def f79r11 : List SOper := [
⟨0, some 83, .p (.mv (.t 9)), none, none, [], false⟩,
⟨1, some 8, .p (.mv (.t 83)), none, none, [], false⟩]
def f79c : SC := (.seq (.ops f79r0 0) (.seq (.ops f79r1 16) (.seq (.ops f79r2 0) (.seq (.block 0 (.loop f79b2)) (.seq (.ops f79r11 0) .ret)))))
def f79 : SFn := ⟨84, f79c, [.t 8]⟩

/- slices.partitionOrdered[int] -/
def f80r0 : List SOper := [
⟨0, some 8, .p (.mv (.c (.one (.int .i64 0)))), none, none, [], false⟩,
⟨1, some 9, .p (.mv (.c (.one (.bool false)))), none, none, [], false⟩]
def f80r1 : List SOper := [
⟨0, some 12, .p (.mv (.t 0)), none, none, [], false⟩,
⟨1, some 13, .p (.mv (.t 1)), none, none, [], false⟩,
⟨2, some 14, .p (.mv (.t 0)), none, none, [], false⟩,
⟨3, some 15, .p (.mv (.t 3)), none, none, [], false⟩,
⟨4, some 16, .p (.mv (.t 0)), none, none, [], false⟩,
⟨5, some 17, .p (.mv (.t 3)), none, none, [], false⟩,
⟨6, some 18, .p (.iaddr 1 (.t 16) (.t 17)), none, none, [], false⟩,
⟨7, some 19, .l (.load false 1 (.t 18)), none, none, [], false⟩,
⟨8, some 20, .p (.mv (.t 0)), none, none, [], false⟩,
⟨9, some 21, .p (.mv (.t 1)), none, none, [], false⟩,
⟨10, some 22, .p (.iaddr 1 (.t 20) (.t 21)), none, none, [], false⟩,
⟨11, some 23, .l (.load false 1 (.t 22)), none, none, [], false⟩,
⟨12, some 24, .p (.iaddr 1 (.t 12) (.t 13)), none, none, [], false⟩,
⟨13, none, .e (.store 1 (.t 24) (.t 19)), none, none, [], false⟩,
⟨14, some 25, .p (.iaddr 1 (.t 14) (.t 15)), none, none, [], false⟩,
⟨15, none, .e (.store 1 (.t 25) (.t 23)), none, none, [], false⟩]
def f80r2 : List SOper := [
⟨0, some 26, .p (.mv (.t 1)), none, none, [], false⟩,
⟨1, some 27, .p (.bin .add (.t 26) (.c (.one (.int .i64 1)))), none, none, [], false⟩,
⟨2, some 28, .p (.mv (.t 2)), none, none, [], false⟩,
⟨3, some 29, .p (.bin .sub (.t 28) (.c (.one (.int .i64 1)))), none, none, [], false⟩,
⟨4, some 10, .p (.mv (.t 27)), none, none, [], false⟩,
⟨5, some 11, .p (.mv (.t 29)), none, none, [], false⟩]
def f80r3 : List SOper := [
⟨0, some 30, .p (.mv (.t 10)), none, none, [], false⟩,
⟨1, some 31, .p (.mv (.t 11)), none, none, [], false⟩,
⟨2, some 32, .p (.bin .leq (.t 30) (.t 31)), none, none, [], false⟩,
⟨3, some 33, .p (.mv (.t 32)), none, none, [], false⟩,
⟨4, some 34, .p (.mv (.t 0)), (some (33, true)), none, [], false⟩,
⟨5, some 35, .p (.mv (.t 10)), (some (33, true)), none, [], false⟩,
⟨6, some 36, .p (.iaddr 1 (.t 34) (.t 35)), (some (33, true)), none, [], false⟩,
⟨7, some 37, .l (.load false 1 (.t 36)), (some (33, true)), none, [], false⟩,
⟨8, some 38, .p (.mv (.t 0)), (some (33, true)), none, [], false⟩,
⟨9, some 39, .p (.mv (.t 1)), (some (33, true)), none, [], false⟩,
⟨10, some 40, .p (.iaddr 1 (.t 38) (.t 39)), (some (33, true)), none, [], false⟩,
⟨11, some 41, .l (.load false 1 (.t 40)), (some (33, true)), none, [], false⟩,
⟨12, some 42, .cf 59 [(.t 37), (.t 41)], (some (33, true)), none, [], false⟩,
⟨13, some 43, .p (.pick (.t 33) (.t 42) (.c (.one (.bool false)))), none, none, [], false⟩]
def f80r4 : List SOper := [
⟨0, some 44, .p (.mv (.t 10)), none, none, [], false⟩,
⟨1, some 45, .p (.bin .add (.t 44) (.c (.one (.int .i64 1)))), none, none, [], false⟩,
⟨2, some 10, .p (.mv (.t 45)), none, none, [], false⟩]
def f80b0 : SC := (.seq (.seq (.ops f80r3 14) (.cond (.t 43) .skip (.exit 0))) (.block 1 (.ops f80r4 0)))
def f80r5 : List SOper := [
⟨0, some 46, .p (.mv (.t 10)), none, none, [], false⟩,
⟨1, some 47, .p (.mv (.t 11)), none, none, [], false⟩,
⟨2, some 48, .p (.bin .leq (.t 46) (.t 47)), none, none, [], false⟩,
⟨3, some 49, .p (.mv (.t 48)), none, none, [], false⟩,
⟨4, some 50, .p (.mv (.t 0)), (some (49, true)), none, [], false⟩,
⟨5, some 51, .p (.mv (.t 11)), (some (49, true)), none, [], false⟩,
⟨6, some 52, .p (.iaddr 1 (.t 50) (.t 51)), (some (49, true)), none, [], false⟩,
⟨7, some 53, .l (.load false 1 (.t 52)), (some (49, true)), none, [], false⟩,
⟨8, some 54, .p (.mv (.t 0)), (some (49, true)), none, [], false⟩,
⟨9, some 55, .p (.mv (.t 1)), (some (49, true)), none, [], false⟩,
⟨10, some 56, .p (.iaddr 1 (.t 54) (.t 55)), (some (49, true)), none, [], false⟩,
⟨11, some 57, .l (.load false 1 (.t 56)), (some (49, true)), none, [], false⟩,
⟨12, some 58, .cf 59 [(.t 53), (.t 57)], (some (49, true)), none, [], false⟩,
⟨13, some 59, .p (.not (.t 58)), (some (49, true)), none, [], false⟩,
⟨14, some 60, .p (.pick (.t 49) (.t 59) (.c (.one (.bool false)))), none, none, [], false⟩]
def f80r6 : List SOper := [
⟨0, some 61, .p (.mv (.t 11)), none, none, [], false⟩,
⟨1, some 62, .p (.bin .sub (.t 61) (.c (.one (.int .i64 1)))), none, none, [], false⟩,
⟨2, some 11, .p (.mv (.t 62)), none, none, [], false⟩]
def f80b1 : SC := (.seq (.seq (.ops f80r5 15) (.cond (.t 60) .skip (.exit 2))) (.block 3 (.ops f80r6 0)))
def f80r7 : List SOper := [
⟨0, some 63, .p (.mv (.t 10)), none, none, [], false⟩,
⟨1, some 64, .p (.mv (.t 11)), none, none, [], false⟩,
⟨2, some 65, .p (.bin .gtr (.t 63) (.t 64)), none, none, [], false⟩]
def f80r8 : List SOper := [
⟨0, some 66, .p (.mv (.t 0)), none, none, [], false⟩,
⟨1, some 67, .p (.mv (.t 11)), none, none, [], false⟩,
⟨2, some 68, .p (.mv (.t 0)), none, none, [], false⟩,
⟨3, some 69, .p (.mv (.t 1)), none, none, [], false⟩,
⟨4, some 70, .p (.mv (.t 0)), none, none, [], false⟩,
⟨5, some 71, .p (.mv (.t 1)), none, none, [], false⟩,
⟨6, some 72, .p (.iaddr 1 (.t 70) (.t 71)), none, none, [], false⟩,
⟨7, some 73, .l (.load false 1 (.t 72)), none, none, [], false⟩,
⟨8, some 74, .p (.mv (.t 0)), none, none, [], false⟩,
⟨9, some 75, .p (.mv (.t 11)), none, none, [], false⟩,
⟨10, some 76, .p (.iaddr 1 (.t 74) (.t 75)), none, none, [], false⟩,
⟨11, some 77, .l (.load false 1 (.t 76)), none, none, [], false⟩,
⟨12, some 78, .p (.iaddr 1 (.t 66) (.t 67)), none, none, [], false⟩,
⟨13, none, .e (.store 1 (.t 78) (.t 73)), none, none, [], false⟩,
⟨14, some 79, .p (.iaddr 1 (.t 68) (.t 69)), none, none, [], false⟩,
⟨15, none, .e (.store 1 (.t 79) (.t 77)), none, none, [], false⟩]
def f80r9 : List SOper := [
⟨0, some 80, .p (.mv (.t 11)), none, none, [], false⟩,
⟨1, some 8, .p (.mv (.t 80)), none, none, [], false⟩,
⟨2, some 9, .p (.mv (.c (.one (.bool true)))), none, none, [], false⟩]
def f80r10 : List SOper := [
⟨0, some 81, .p (.mv (.t 0)), none, none, [], false⟩,
⟨1, some 82, .p (.mv (.t 10)), none, none, [], false⟩,
⟨2, some 83, .p (.mv (.t 0)), none, none, [], false⟩,
⟨3, some 84, .p (.mv (.t 11)), none, none, [], false⟩,
⟨4, some 85, .p (.mv (.t 0)), none, none, [], false⟩,
⟨5, some 86, .p (.mv (.t 11)), none, none, [], false⟩,
⟨6, some 87, .p (.iaddr 1 (.t 85) (.t 86)), none, none, [], false⟩,
⟨7, some 88, .l (.load false 1 (.t 87)), none, none, [], false⟩,
⟨8, some 89, .p (.mv (.t 0)), none, none, [], false⟩,
⟨9, some 90, .p (.mv (.t 10)), none, none, [], false⟩,
⟨10, some 91, .p (.iaddr 1 (.t 89) (.t 90)), none, none, [], false⟩,
⟨11, some 92, .l (.load false 1 (.t 91)), none, none, [], false⟩,
⟨12, some 93, .p (.iaddr 1 (.t 81) (.t 82)), none, none, [], false⟩,
⟨13, none, .e (.store 1 (.t 93) (.t 88)), none, none, [], false⟩,
⟨14, some 94, .p (.iaddr 1 (.t 83) (.t 84)), none, none, [], false⟩,
⟨15, none, .e (.store 1 (.t 94) (.t 92)), none, none, [], false⟩]
def f80r11 : List SOper := [
⟨0, some 95, .p (.mv (.t 10)), none, none, [], false⟩,
⟨1, some 96, .p (.bin .add (.t 95) (.c (.one (.int .i64 1)))), none, none, [], false⟩,
⟨2, some 10, .p (.mv (.t 96)), none, none, [], false⟩]
def f80r12 : List SOper := [
⟨0, some 97, .p (.mv (.t 11)), none, none, [], false⟩,
⟨1, some 98, .p (.bin .sub (.t 97) (.c (.one (.int .i64 1)))), none, none, [], false⟩,
⟨2, some 11, .p (.mv (.t 98)), none, none, [], false⟩]
def f80r13 : List SOper := [
⟨0, some 99, .p (.mv (.t 10)), none, none, [], false⟩,
⟨1, some 100, .p (.mv (.t 11)), none, none, [], false⟩,
⟨2, some 101, .p (.bin .leq (.t 99) (.t 100)), none, none, [], false⟩,
⟨3, some 102, .p (.mv (.t 101)), none, none, [], false⟩,
⟨4, some 103, .p (.mv (.t 0)), (some (102, true)), none, [], false⟩,
⟨5, some 104, .p (.mv (.t 10)), (some (102, true)), none, [], false⟩,
⟨6, some 105, .p (.iaddr 1 (.t 103) (.t 104)), (some (102, true)), none, [], false⟩,
⟨7, some 106, .l (.load false 1 (.t 105)), (some (102, true)), none, [], false⟩,
⟨8, some 107, .p (.mv (.t 0)), (some (102, true)), none, [], false⟩,
⟨9, some 108, .p (.mv (.t 1)), (some (102, true)), none, [], false⟩,
⟨10, some 109, .p (.iaddr 1 (.t 107) (.t 108)), (some (102, true)), none, [], false⟩,
⟨11, some 110, .l (.load false 1 (.t 109)), (some (102, true)), none, [], false⟩,
⟨12, some 111, .cf 59 [(.t 106), (.t 110)], (some (102, true)), none, [], false⟩,
⟨13, some 112, .p (.pick (.t 102) (.t 111) (.c (.one (.bool false)))), none, none, [], false⟩]
def f80r14 : List SOper := [
⟨0, some 113, .p (.mv (.t 10)), none, none, [], false⟩,
⟨1, some 114, .p (.bin .add (.t 113) (.c (.one (.int .i64 1)))), none, none, [], false⟩,
⟨2, some 10, .p (.mv (.t 114)), none, none, [], false⟩]
def f80b2 : SC := (.seq (.seq (.ops f80r13 14) (.cond (.t 112) .skip (.exit 6))) (.block 7 (.ops f80r14 0)))
def f80r15 : List SOper := [
⟨0, some 115, .p (.mv (.t 10)), none, none, [], false⟩,
⟨1, some 116, .p (.mv (.t 11)), none, none, [], false⟩,
⟨2, some 117, .p (.bin .leq (.t 115) (.t 116)), none, none, [], false⟩,
⟨3, some 118, .p (.mv (.t 117)), none, none, [], false⟩,
⟨4, some 119, .p (.mv (.t 0)), (some (118, true)), none, [], false⟩,
⟨5, some 120, .p (.mv (.t 11)), (some (118, true)), none, [], false⟩,
⟨6, some 121, .p (.iaddr 1 (.t 119) (.t 120)), (some (118, true)), none, [], false⟩,
⟨7, some 122, .l (.load false 1 (.t 121)), (some (118, true)), none, [], false⟩,
⟨8, some 123, .p (.mv (.t 0)), (some (118, true)), none, [], false⟩,
⟨9, some 124, .p (.mv (.t 1)), (some (118, true)), none, [], false⟩,
⟨10, some 125, .p (.iaddr 1 (.t 123) (.t 124)), (some (118, true)), none, [], false⟩,
⟨11, some 126, .l (.load false 1 (.t 125)), (some (118, true)), none, [], false⟩,
⟨12, some 127, .cf 59 [(.t 122), (.t 126)], (some (118, true)), none, [], false⟩,
⟨13, some 128, .p (.not (.t 127)), (some (118, true)), none, [], false⟩,
⟨14, some 129, .p (.pick (.t 118) (.t 128) (.c (.one (.bool false)))), none, none, [], false⟩]
def f80r16 : List SOper := [
⟨0, some 130, .p (.mv (.t 11)), none, none, [], false⟩,
⟨1, some 131, .p (.bin .sub (.t 130) (.c (.one (.int .i64 1)))), none, none, [], false⟩,
⟨2, some 11, .p (.mv (.t 131)), none, none, [], false⟩]
def f80b3 : SC := (.seq (.seq (.ops f80r15 15) (.cond (.t 129) .skip (.exit 8))) (.block 9 (.ops f80r16 0)))
def f80r17 : List SOper := [
⟨0, some 132, .p (.mv (.t 10)), none, none, [], false⟩,
⟨1, some 133, .p (.mv (.t 11)), none, none, [], false⟩,
⟨2, some 134, .p (.bin .gtr (.t 132) (.t 133)), none, none, [], false⟩]
def f80r18 : List SOper := [
⟨0, some 135, .p (.mv (.t 0)), none, none, [], false⟩,
⟨1, some 136, .p (.mv (.t 10)), none, none, [], false⟩,
⟨2, some 137, .p (.mv (.t 0)), none, none, [], false⟩,
⟨3, some 138, .p (.mv (.t 11)), none, none, [], false⟩,
⟨4, some 139, .p (.mv (.t 0)), none, none, [], false⟩,
⟨5, some 140, .p (.mv (.t 11)), none, none, [], false⟩,
⟨6, some 141, .p (.iaddr 1 (.t 139) (.t 140)), none, none, [], false⟩,
⟨7, some 142, .l (.load false 1 (.t 141)), none, none, [], false⟩,
⟨8, some 143, .p (.mv (.t 0)), none, none, [], false⟩,
⟨9, some 144, .p (.mv (.t 10)), none, none, [], false⟩,
⟨10, some 145, .p (.iaddr 1 (.t 143) (.t 144)), none, none, [], false⟩,
⟨11, some 146, .l (.load false 1 (.t 145)), none, none, [], false⟩,
⟨12, some 147, .p (.iaddr 1 (.t 135) (.t 136)), none, none, [], false⟩,
⟨13, none, .e (.store 1 (.t 147) (.t 142)), none, none, [], false⟩,
⟨14, some 148, .p (.iaddr 1 (.t 137) (.t 138)), none, none, [], false⟩,
⟨15, none, .e (.store 1 (.t 148) (.t 146)), none, none, [], false⟩]
def f80r19 : List SOper := [
⟨0, some 149, .p (.mv (.t 10)), none, none, [], false⟩,
⟨1, some 150, .p (.bin .add (.t 149) (.c (.one (.int .i64 1)))), none, none, [], false⟩,
⟨2, some 10, .p (.mv (.t 150)), none, none, [], false⟩]
def f80r20 : List SOper := [
⟨0, some 151, .p (.mv (.t 11)), none, none, [], false⟩,
⟨1, some 152, .p (.bin .sub (.t 151) (.c (.one (.int .i64 1)))), none, none, [], false⟩,
⟨2, some 11, .p (.mv (.t 152)), none, none, [], false⟩]
def f80b4 : SC := (.block 5 (.seq (.block 6 (.loop f80b2)) (.seq (.block 8 (.loop f80b3)) (.seq (.seq (.ops f80r17 0) (.cond (.t 134) (.exit 4) .skip)) (.seq (.ops f80r18 16) (.seq (.ops f80r19 0) (.ops f80r20 0)))))))
def f80r21 : List SOper := [
⟨0, some 153, .p (.mv (.t 0)), none, none, [], false⟩,
⟨1, some 154, .p (.mv (.t 11)), none, none, [], false⟩,
⟨2, some 155, .p (.mv (.t 0)), none, none, [], false⟩,
⟨3, some 156, .p (.mv (.t 1)), none, none, [], false⟩,
⟨4, some 157, .p (.mv (.t 0)), none, none, [], false⟩,
⟨5, some 158, .p (.mv (.t 1)), none, none, [], false⟩,
⟨6, some 159, .p (.iaddr 1 (.t 157) (.t 158)), none, none, [], false⟩,
⟨7, some 160, .l (.load false 1 (.t 159)), none, none, [], false⟩,
⟨8, some 161, .p (.mv (.t 0)), none, none, [], false⟩,
⟨9, some 162, .p (.mv (.t 11)), none, none, [], false⟩,
⟨10, some 163, .p (.iaddr 1 (.t 161) (.t 162)), none, none, [], false⟩,
⟨11, some 164, .l (.load false 1 (.t 163)), none, none, [], false⟩,
⟨12, some 165, .p (.iaddr 1 (.t 153) (.t 154)), none, none, [], false⟩,
⟨13, none, .e (.store 1 (.t 165) (.t 160)), none, none, [], false⟩,
⟨14, some 166, .p (.iaddr 1 (.t 155) (.t 156)), none, none, [], false⟩,
⟨15, none, .e (.store 1 (.t 166) (.t 164)), none, none, [], false⟩]
def f80r22 : List SOper := [
⟨0, some 167, .p (.mv (.t 11)), none, none, [], false⟩,
⟨1, some 8, .p (.mv (.t 167)), none, none, [], false⟩,
⟨2, some 9, .p (.mv (.c (.one (.bool false)))), none, none, [], false⟩]
def f80c : SC := (.seq (.ops f80r0 0) (.seq (.ops f80r1 16) (.seq (.ops f80r2 0) (.seq (.block 0 (.loop f80b0)) (.seq (.block 2 (.loop f80b1)) (.seq (.seq (.ops f80r7 0) (.cond (.t 65) (.seq (.ops f80r8 16) (.seq (.ops f80r9 0) .ret)) .skip)) (.seq (.ops f80r10 16) (.seq (.ops f80r11 0) (.seq (.ops f80r12 0) (.seq (.block 4 (.loop f80b4)) (.seq (.ops f80r21 16) (.seq (.ops f80r22 0) .ret))))))))))))
def f80 : SFn := ⟨168, f80c, [.t 8, .t 9]⟩

/- slices.siftDownCmpFunc[sixdot/api.Point] -/
def f81r0 : List SOper := [
⟨0, some 12, .p (.mv (.t 1)), none, none, [], false⟩,
⟨1, some 10, .p (.mv (.t 12)), none, none, [], false⟩]
def f81r1 : List SOper := [
⟨0, some 13, .p (.mv (.t 10)), none, none, [], false⟩,
⟨1, some 14, .p (.bin .mul (.c (.one (.int .i64 2))) (.t 13)), none, none, [], false⟩,
⟨2, some 15, .p (.bin .add (.t 14) (.c (.one (.int .i64 1)))), none, none, [], false⟩,
⟨3, some 11, .p (.mv (.t 15)), none, none, [], false⟩]
def f81r2 : List SOper := [
⟨0, some 16, .p (.mv (.t 11)), none, none, [], false⟩,
⟨1, some 17, .p (.mv (.t 2)), none, none, [], false⟩,
⟨2, some 18, .p (.bin .geq (.t 16) (.t 17)), none, none, [], false⟩]
def f81r3 : List SOper := [
⟨0, some 19, .p (.mv (.t 11)), none, none, [], false⟩,
⟨1, some 20, .p (.bin .add (.t 19) (.c (.one (.int .i64 1)))), none, none, [], false⟩,
⟨2, some 21, .p (.mv (.t 2)), none, none, [], false⟩,
⟨3, some 22, .p (.bin .lss (.t 20) (.t 21)), none, none, [], false⟩,
⟨4, some 23, .p (.mv (.t 22)), none, none, [], false⟩,
⟨5, some 24, .p (.mv (.t 4)), (some (23, true)), none, [], false⟩,
⟨6, some 25, .p (.mv (.t 0)), (some (23, true)), none, [], false⟩,
⟨7, some 26, .p (.mv (.t 3)), (some (23, true)), none, [], false⟩,
⟨8, some 27, .p (.mv (.t 11)), (some (23, true)), none, [], false⟩,
⟨9, some 28, .p (.bin .add (.t 26) (.t 27)), (some (23, true)), none, [], false⟩,
⟨10, some 29, .p (.iaddr 2 (.t 25) (.t 28)), (some (23, true)), none, [], false⟩,
⟨11, some 30, .l (.load true 2 (.t 29)), (some (23, true)), none, [], false⟩,
⟨12, some 31, .p (.mv (.t 0)), (some (23, true)), none, [], false⟩,
⟨13, some 32, .p (.mv (.t 3)), (some (23, true)), none, [], false⟩,
⟨14, some 33, .p (.mv (.t 11)), (some (23, true)), none, [], false⟩,
⟨15, some 34, .p (.bin .add (.t 32) (.t 33)), (some (23, true)), none, [], false⟩,
⟨16, some 35, .p (.bin .add (.t 34) (.c (.one (.int .i64 1)))), (some (23, true)), none, [], false⟩,
⟨17, some 36, .p (.iaddr 2 (.t 31) (.t 35)), (some (23, true)), none, [], false⟩,
⟨18, some 37, .l (.load true 2 (.t 36)), (some (23, true)), none, [], false⟩,
⟨19, some 38, .cv (.t 24) [(.t 30), (.t 37)], (some (23, true)), none, [], false⟩,
⟨20, some 39, .p (.bin .lss (.t 38) (.c (.one (.int .i64 0)))), (some (23, true)), none, [], false⟩,
⟨21, some 40, .p (.pick (.t 23) (.t 39) (.c (.one (.bool false)))), none, none, [], false⟩]
def f81r4 : List SOper := [
⟨0, some 41, .p (.mv (.t 11)), none, none, [], false⟩,
⟨1, some 42, .p (.bin .add (.t 41) (.c (.one (.int .i64 1)))), none, none, [], false⟩,
⟨2, some 11, .p (.mv (.t 42)), none, none, [], false⟩]
def f81r5 : List SOper := [
⟨0, some 43, .p (.mv (.t 4)), none, none, [], false⟩,
⟨1, some 44, .p (.mv (.t 0)), none, none, [], false⟩,
⟨2, some 45, .p (.mv (.t 3)), none, none, [], false⟩,
⟨3, some 46, .p (.mv (.t 10)), none, none, [], false⟩,
⟨4, some 47, .p (.bin .add (.t 45) (.t 46)), none, none, [], false⟩,
⟨5, some 48, .p (.iaddr 2 (.t 44) (.t 47)), none, none, [], false⟩,
⟨6, some 49, .l (.load true 2 (.t 48)), none, none, [], false⟩,
⟨7, some 50, .p (.mv (.t 0)), none, none, [], false⟩,
⟨8, some 51, .p (.mv (.t 3)), none, none, [], false⟩,
⟨9, some 52, .p (.mv (.t 11)), none, none, [], false⟩,
⟨10, some 53, .p (.bin .add (.t 51) (.t 52)), none, none, [], false⟩,
⟨11, some 54, .p (.iaddr 2 (.t 50) (.t 53)), none, none, [], false⟩,
⟨12, some 55, .l (.load true 2 (.t 54)), none, none, [], false⟩,
⟨13, some 56, .cv (.t 43) [(.t 49), (.t 55)], none, none, [], false⟩,
⟨14, some 57, .p (.bin .lss (.t 56) (.c (.one (.int .i64 0)))), none, none, [], false⟩,
⟨15, some 58, .p (.not (.t 57)), none, none, [], false⟩]
def f81r6 : List SOper := [
⟨0, some 59, .p (.mv (.t 0)), none, none, [], false⟩,
⟨1, some 60, .p (.mv (.t 3)), none, none, [], false⟩,
⟨2, some 61, .p (.mv (.t 10)), none, none, [], false⟩,
⟨3, some 62, .p (.bin .add (.t 60) (.t 61)), none, none, [], false⟩,
⟨4, some 63, .p (.mv (.t 0)), none, none, [], false⟩,
⟨5, some 64, .p (.mv (.t 3)), none, none, [], false⟩,
⟨6, some 65, .p (.mv (.t 11)), none, none, [], false⟩,
⟨7, some 66, .p (.bin .add (.t 64) (.t 65)), none, none, [], false⟩,
⟨8, some 67, .p (.mv (.t 0)), none, none, [], false⟩,
⟨9, some 68, .p (.mv (.t 3)), none, none, [], false⟩,
⟨10, some 69, .p (.mv (.t 11)), none, none, [], false⟩,
⟨11, some 70, .p (.bin .add (.t 68) (.t 69)), none, none, [], false⟩,
⟨12, some 71, .p (.iaddr 2 (.t 67) (.t 70)), none, none, [], false⟩,
⟨13, some 72, .l (.load true 2 (.t 71)), none, none, [], false⟩,
⟨14, some 73, .p (.mv (.t 0)), none, none, [], false⟩,
⟨15, some 74, .p (.mv (.t 3)), none, none, [], false⟩,
⟨16, some 75, .p (.mv (.t 10)), none, none, [], false⟩,
⟨17, some 76, .p (.bin .add (.t 74) (.t 75)), none, none, [], false⟩,
⟨18, some 77, .p (.iaddr 2 (.t 73) (.t 76)), none, none, [], false⟩,
⟨19, some 78, .l (.load true 2 (.t 77)), none, none, [], false⟩,
⟨20, some 79, .p (.iaddr 2 (.t 59) (.t 62)), none, none, [], false⟩,
⟨21, none, .e (.store 2 (.t 79) (.t 72)), none, none, [], false⟩,
⟨22, some 80, .p (.iaddr 2 (.t 63) (.t 66)), none, none, [], false⟩,
⟨23, none, .e (.store 2 (.t 80) (.t 78)), none, none, [], false⟩]
def f81r7 : List SOper := [
⟨0, some 81, .p (.mv (.t 11)), none, none, [], false⟩,
⟨1, some 10, .p (.mv (.t 81)), none, none, [], false⟩]
def f81b0 : SC := (.block 1 (.seq (.ops f81r1 0) (.seq (.seq (.ops f81r2 0) (.cond (.t 18) (.exit 0) .skip)) (.seq (.seq (.ops f81r3 22) (.cond (.t 40) (.ops f81r4 0) .skip)) (.seq (.seq (.ops f81r5 16) (.cond (.t 58) .ret .skip)) (.seq (.ops f81r6 24) (.ops f81r7 0)))))))
def f81c : SC := (.seq (.ops f81r0 0) (.block 0 (.loop f81b0)))
def f81 : SFn := ⟨82, f81c, []⟩

/- slices.nextPowerOfTwo -/
def f82r0 : List SOper := [
⟨0, some 2, .p (.mv (.c (.one (.int .u64 0)))), none, none, [], false⟩]
def f82r1 : List SOper := [
⟨0, some 3, .p (.mv (.t 0)), none, none, [], false⟩,
⟨1, some 4, .p (.conv .u64 (.t 3)), none, none, [], false⟩,
⟨2, some 5, .cf 58 [(.t 4)], none, none, [], false⟩,
⟨3, some 6, .p (.bin .shl (.c (.one (.int .u64 1))) (.t 5)), none, none, [], false⟩,
⟨4, some 2, .p (.mv (.t 6)), none, none, [], false⟩]
def f82c : SC := (.seq (.ops f82r0 0) (.seq (.ops f82r1 0) .ret))
def f82 : SFn := ⟨7, f82c, [.t 2]⟩

/- (*slices.xorshift).Next -/
def f83r0 : List SOper := [
⟨0, some 2, .p (.mv (.c (.one (.int .u64 0)))), none, none, [], false⟩]
def f83r1 : List SOper := [
⟨0, some 3, .p (.mv (.t 0)), none, none, [], false⟩,
⟨1, some 4, .p (.nilck (.t 3)), none, none, [], false⟩,
⟨2, some 5, .l (.load false 1 (.t 4)), none, none, [], false⟩,
⟨3, some 6, .p (.mv (.t 0)), none, none, [], false⟩,
⟨4, some 7, .p (.nilck (.t 6)), none, none, [], false⟩,
⟨5, some 8, .l (.load false 1 (.t 7)), none, none, [], false⟩,
⟨6, some 9, .p (.bin .shl (.t 8) (.c (.one (.int .u64 13)))), none, none, [], false⟩,
⟨7, some 10, .p (.bin .xor (.t 5) (.t 9)), none, none, [], false⟩,
⟨8, some 11, .p (.nilck (.t 3)), none, none, [], false⟩,
⟨9, none, .e (.store 1 (.t 11) (.t 10)), none, none, [], false⟩]
def f83r2 : List SOper := [
⟨0, some 12, .p (.mv (.t 0)), none, none, [], false⟩,
⟨1, some 13, .p (.nilck (.t 12)), none, none, [], false⟩,
⟨2, some 14, .l (.load false 1 (.t 13)), none, none, [], false⟩,
⟨3, some 15, .p (.mv (.t 0)), none, none, [], false⟩,
⟨4, some 16, .p (.nilck (.t 15)), none, none, [], false⟩,
⟨5, some 17, .l (.load false 1 (.t 16)), none, none, [], false⟩,
⟨6, some 18, .p (.bin .shr (.t 17) (.c (.one (.int .u64 7)))), none, none, [], false⟩,
⟨7, some 19, .p (.bin .xor (.t 14) (.t 18)), none, none, [], false⟩,
⟨8, some 20, .p (.nilck (.t 12)), none, none, [], false⟩,
⟨9, none, .e (.store 1 (.t 20) (.t 19)), none, none, [], false⟩]
def f83r3 : List SOper := [
⟨0, some 21, .p (.mv (.t 0)), none, none, [], false⟩,
⟨1, some 22, .p (.nilck (.t 21)), none, none, [], false⟩,
⟨2, some 23, .l (.load false 1 (.t 22)), none, none, [], false⟩,
⟨3, some 24, .p (.mv (.t 0)), none, none, [], false⟩,
⟨4, some 25, .p (.nilck (.t 24)), none, none, [], false⟩,
⟨5, some 26, .l (.load false 1 (.t 25)), none, none, [], false⟩,
⟨6, some 27, .p (.bin .shl (.t 26) (.c (.one (.int .u64 17)))), none, none, [], false⟩,
⟨7, some 28, .p (.bin .xor (.t 23) (.t 27)), none, none, [], false⟩,
⟨8, some 29, .p (.nilck (.t 21)), none, none, [], false⟩,
⟨9, none, .e (.store 1 (.t 29) (.t 28)), none, none, [], false⟩]
def f83r4 : List SOper := [
⟨0, some 30, .p (.mv (.t 0)), none, none, [], false⟩,
⟨1, some 31, .p (.nilck (.t 30)), none, none, [], false⟩,
⟨2, some 32, .l (.load false 1 (.t 31)), none, none, [], false⟩,
⟨3, some 2, .p (.mv (.t 32)), none, none, [], false⟩]
def f83c : SC := (.seq (.ops f83r0 0) (.seq (.ops f83r1 10) (.seq (.ops f83r2 10) (.seq (.ops f83r3 10) (.seq (.ops f83r4 0) .ret)))))
def f83 : SFn := ⟨33, f83c, [.t 2]⟩

/- slices.medianAdjacentCmpFunc[sixdot/api.Point] -/
def f84r0 : List SOper := [
⟨0, some 8, .p (.mv (.c (.one (.int .i64 0)))), none, none, [], false⟩]
def f84r1 : List SOper := [
⟨0, some 9, .p (.mv (.t 0)), none, none, [], false⟩,
⟨1, some 10, .p (.mv (.t 1)), none, none, [], false⟩,
⟨2, some 11, .p (.bin .sub (.t 10) (.c (.one (.int .i64 1)))), none, none, [], false⟩,
⟨3, some 12, .p (.mv (.t 1)), none, none, [], false⟩,
⟨4, some 13, .p (.mv (.t 1)), none, none, [], false⟩,
⟨5, some 14, .p (.bin .add (.t 13) (.c (.one (.int .i64 1)))), none, none, [], false⟩,
⟨6, some 15, .p (.mv (.t 2)), none, none, [], false⟩,
⟨7, some 16, .p (.mv (.t 3)), none, none, [], false⟩,
⟨8, some 17, .cf 85 [(.t 9), (.t 11), (.t 12), (.t 14), (.t 15), (.t 16)], none, none, [], false⟩,
⟨9, some 8, .p (.mv (.t 17)), none, none, [], false⟩]
def f84c : SC := (.seq (.ops f84r0 0) (.seq (.ops f84r1 0) .ret))
def f84 : SFn := ⟨18, f84c, [.t 8]⟩

/- slices.medianCmpFunc[sixdot/api.Point] -/
def f85r0 : List SOper := [
⟨0, some 12, .p (.mv (.c (.one (.int .i64 0)))), none, none, [], false⟩]
def f85r1 : List SOper := [
⟨0, some 14, .p (.mv (.t 0)), none, none, [], false⟩,
⟨1, some 15, .p (.mv (.t 1)), none, none, [], false⟩,
⟨2, some 16, .p (.mv (.t 2)), none, none, [], false⟩,
⟨3, some 17, .p (.mv (.t 4)), none, none, [], false⟩,
⟨4, some 18, .p (.mv (.t 5)), none, none, [], false⟩,
⟨5, some 19, .cf 89 [(.t 14), (.t 15), (.t 16), (.t 17), (.t 18)], none, none, [], false⟩,
⟨6, some 13, .p (.mv (.t 19)), none, none, [], false⟩,
⟨7, some 20, .p (.extract (.t 13) 0), none, none, [], false⟩,
⟨8, some 21, .p (.extract (.t 13) 1), none, none, [], false⟩,
⟨9, some 1, .p (.mv (.t 20)), none, none, [], false⟩,
⟨10, some 2, .p (.mv (.t 21)), none, none, [], false⟩]
def f85r2 : List SOper := [
⟨0, some 23, .p (.mv (.t 0)), none, none, [], false⟩,
⟨1, some 24, .p (.mv (.t 2)), none, none, [], false⟩,
⟨2, some 25, .p (.mv (.t 3)), none, none, [], false⟩,
⟨3, some 26, .p (.mv (.t 4)), none, none, [], false⟩,
⟨4, some 27, .p (.mv (.t 5)), none, none, [], false⟩,
⟨5, some 28, .cf 89 [(.t 23), (.t 24), (.t 25), (.t 26), (.t 27)], none, none, [], false⟩,
⟨6, some 22, .p (.mv (.t 28)), none, none, [], false⟩,
⟨7, some 29, .p (.extract (.t 22) 0), none, none, [], false⟩,
⟨8, some 30, .p (.extract (.t 22) 1), none, none, [], false⟩,
⟨9, some 2, .p (.mv (.t 29)), none, none, [], false⟩,
⟨10, some 3, .p (.mv (.t 30)), none, none, [], false⟩]
def f85r3 : List SOper := [
⟨0, some 32, .p (.mv (.t 0)), none, none, [], false⟩,
⟨1, some 33, .p (.mv (.t 1)), none, none, [], false⟩,
⟨2, some 34, .p (.mv (.t 2)), none, none, [], false⟩,
⟨3, some 35, .p (.mv (.t 4)), none, none, [], false⟩,
⟨4, some 36, .p (.mv (.t 5)), none, none, [], false⟩,
⟨5, some 37, .cf 89 [(.t 32), (.t 33), (.t 34), (.t 35), (.t 36)], none, none, [], false⟩,
⟨6, some 31, .p (.mv (.t 37)), none, none, [], false⟩,
⟨7, some 38, .p (.extract (.t 31) 0), none, none, [], false⟩,
⟨8, some 39, .p (.extract (.t 31) 1), none, none, [], false⟩,
⟨9, some 1, .p (.mv (.t 38)), none, none, [], false⟩,
⟨10, some 2, .p (.mv (.t 39)), none, none, [], false⟩]
def f85r4 : List SOper := [
⟨0, some 40, .p (.mv (.t 2)), none, none, [], false⟩,
⟨1, some 12, .p (.mv (.t 40)), none, none, [], false⟩]
def f85c : SC := (.seq (.ops f85r0 0) (.seq (.ops f85r1 0) (.seq (.ops f85r2 0) (.seq (.ops f85r3 0) (.seq (.ops f85r4 0) .ret)))))
def f85 : SFn := ⟨41, f85c, [.t 12]⟩

/- slices.siftDownOrdered[int] -/
def f86r0 : List SOper := [
⟨0, some 10, .p (.mv (.t 1)), none, none, [], false⟩,
⟨1, some 8, .p (.mv (.t 10)), none, none, [], false⟩]
def f86r1 : List SOper := [
⟨0, some 11, .p (.mv (.t 8)), none, none, [], false⟩,
⟨1, some 12, .p (.bin .mul (.c (.one (.int .i64 2))) (.t 11)), none, none, [], false⟩,
⟨2, some 13, .p (.bin .add (.t 12) (.c (.one (.int .i64 1)))), none, none, [], false⟩,
⟨3, some 9, .p (.mv (.t 13)), none, none, [], false⟩]
def f86r2 : List SOper := [
⟨0, some 14, .p (.mv (.t 9)), none, none, [], false⟩,
⟨1, some 15, .p (.mv (.t 2)), none, none, [], false⟩,
⟨2, some 16, .p (.bin .geq (.t 14) (.t 15)), none, none, [], false⟩]
def f86r3 : List SOper := [
⟨0, some 17, .p (.mv (.t 9)), none, none, [], false⟩,
⟨1, some 18, .p (.bin .add (.t 17) (.c (.one (.int .i64 1)))), none, none, [], false⟩,
⟨2, some 19, .p (.mv (.t 2)), none, none, [], false⟩,
⟨3, some 20, .p (.bin .lss (.t 18) (.t 19)), none, none, [], false⟩,
⟨4, some 21, .p (.mv (.t 20)), none, none, [], false⟩,
⟨5, some 22, .p (.mv (.t 0)), (some (21, true)), none, [], false⟩,
⟨6, some 23, .p (.mv (.t 3)), (some (21, true)), none, [], false⟩,
⟨7, some 24, .p (.mv (.t 9)), (some (21, true)), none, [], false⟩,
⟨8, some 25, .p (.bin .add (.t 23) (.t 24)), (some (21, true)), none, [], false⟩,
⟨9, some 26, .p (.iaddr 1 (.t 22) (.t 25)), (some (21, true)), none, [], false⟩,
⟨10, some 27, .l (.load false 1 (.t 26)), (some (21, true)), none, [], false⟩,
⟨11, some 28, .p (.mv (.t 0)), (some (21, true)), none, [], false⟩,
⟨12, some 29, .p (.mv (.t 3)), (some (21, true)), none, [], false⟩,
⟨13, some 30, .p (.mv (.t 9)), (some (21, true)), none, [], false⟩,
⟨14, some 31, .p (.bin .add (.t 29) (.t 30)), (some (21, true)), none, [], false⟩,
⟨15, some 32, .p (.bin .add (.t 31) (.c (.one (.int .i64 1)))), (some (21, true)), none, [], false⟩,
⟨16, some 33, .p (.iaddr 1 (.t 28) (.t 32)), (some (21, true)), none, [], false⟩,
⟨17, some 34, .l (.load false 1 (.t 33)), (some (21, true)), none, [], false⟩,
⟨18, some 35, .cf 59 [(.t 27), (.t 34)], (some (21, true)), none, [], false⟩,
⟨19, some 36, .p (.pick (.t 21) (.t 35) (.c (.one (.bool false)))), none, none, [], false⟩]
def f86r4 : List SOper := [
⟨0, some 37, .p (.mv (.t 9)), none, none, [], false⟩,
⟨1, some 38, .p (.bin .add (.t 37) (.c (.one (.int .i64 1)))), none, none, [], false⟩,
⟨2, some 9, .p (.mv (.t 38)), none, none, [], false⟩]
def f86r5 : List SOper := [
⟨0, some 39, .p (.mv (.t 0)), none, none, [], false⟩,
⟨1, some 40, .p (.mv (.t 3)), none, none, [], false⟩,
⟨2, some 41, .p (.mv (.t 8)), none, none, [], false⟩,
⟨3, some 42, .p (.bin .add (.t 40) (.t 41)), none, none, [], false⟩,
⟨4, some 43, .p (.iaddr 1 (.t 39) (.t 42)), none, none, [], false⟩,
⟨5, some 44, .l (.load false 1 (.t 43)), none, none, [], false⟩,
⟨6, some 45, .p (.mv (.t 0)), none, none, [], false⟩,
⟨7, some 46, .p (.mv (.t 3)), none, none, [], false⟩,
⟨8, some 47, .p (.mv (.t 9)), none, none, [], false⟩,
⟨9, some 48, .p (.bin .add (.t 46) (.t 47)), none, none, [], false⟩,
⟨10, some 49, .p (.iaddr 1 (.t 45) (.t 48)), none, none, [], false⟩,
⟨11, some 50, .l (.load false 1 (.t 49)), none, none, [], false⟩,
⟨12, some 51, .cf 59 [(.t 44), (.t 50)], none, none, [], false⟩,
⟨13, some 52, .p (.not (.t 51)), none, none, [], false⟩]
def f86r6 : List SOper := [
⟨0, some 53, .p (.mv (.t 0)), none, none, [], false⟩,
⟨1, some 54, .p (.mv (.t 3)), none, none, [], false⟩,
⟨2, some 55, .p (.mv (.t 8)), none, none, [], false⟩,
⟨3, some 56, .p (.bin .add (.t 54) (.t 55)), none, none, [], false⟩,
⟨4, some 57, .p (.mv (.t 0)), none, none, [], false⟩,
⟨5, some 58, .p (.mv (.t 3)), none, none, [], false⟩,
⟨6, some 59, .p (.mv (.t 9)), none, none, [], false⟩,
⟨7, some 60, .p (.bin .add (.t 58) (.t 59)), none, none, [], false⟩,
⟨8, some 61, .p (.mv (.t 0)), none, none, [], false⟩,
⟨9, some 62, .p (.mv (.t 3)), none, none, [], false⟩,
⟨10, some 63, .p (.mv (.t 9)), none, none, [], false⟩,
⟨11, some 64, .p (.bin .add (.t 62) (.t 63)), none, none, [], false⟩,
⟨12, some 65, .p (.iaddr 1 (.t 61) (.t 64)), none, none, [], false⟩,
⟨13, some 66, .l (.load false 1 (.t 65)), none, none, [], false⟩,
⟨14, some 67, .p (.mv (.t 0)), none, none, [], false⟩,
⟨15, some 68, .p (.mv (.t 3)), none, none, [], false⟩,
⟨16, some 69, .p (.mv (.t 8)), none, none, [], false⟩,
⟨17, some 70, .p (.bin .add (.t 68) (.t 69)), none, none, [], false⟩,
⟨18, some 71, .p (.iaddr 1 (.t 67) (.t 70)), none, none, [], false⟩,
⟨19, some 72, .l (.load false 1 (.t 71)), none, none, [], false⟩,
⟨20, some 73, .p (.iaddr 1 (.t 53) (.t 56)), none, none, [], false⟩,
⟨21, none, .e (.store 1 (.t 73) (.t 66)), none, none, [], false⟩,
⟨22, some 74, .p (.iaddr 1 (.t 57) (.t 60)), none, none, [], false⟩,
⟨23, none, .e (.store 1 (.t 74) (.t 72)), none, none, [], false⟩]
def f86r7 : List SOper := [
⟨0, some 75, .p (.mv (.t 9)), none, none, [], false⟩,
⟨1, some 8, .p (.mv (.t 75)), none, none, [], false⟩]
def f86b0 : SC := (.block 1 (.seq (.ops f86r1 0) (.seq (.seq (.ops f86r2 0) (.cond (.t 16) (.exit 0) .skip)) (.seq (.seq (.ops f86r3 20) (.cond (.t 36) (.ops f86r4 0) .skip)) (.seq (.seq (.ops f86r5 14) (.cond (.t 52) .ret .skip)) (.seq (.ops f86r6 24) (.ops f86r7 0)))))))
def f86c : SC := (.seq (.ops f86r0 0) (.block 0 (.loop f86b0)))
def f86 : SFn := ⟨76, f86c, []⟩

/- slices.medianAdjacentOrdered[int] -/
def f87r0 : List SOper := [
⟨0, some 6, .p (.mv (.c (.one (.int .i64 0)))), none, none, [], false⟩]
def f87r1 : List SOper := [
⟨0, some 7, .p (.mv (.t 0)), none, none, [], false⟩,
⟨1, some 8, .p (.mv (.t 1)), none, none, [], false⟩,
⟨2, some 9, .p (.bin .sub (.t 8) (.c (.one (.int .i64 1)))), none, none, [], false⟩,
⟨3, some 10, .p (.mv (.t 1)), none, none, [], false⟩,
⟨4, some 11, .p (.mv (.t 1)), none, none, [], false⟩,
⟨5, some 12, .p (.bin .add (.t 11) (.c (.one (.int .i64 1)))), none, none, [], false⟩,
⟨6, some 13, .p (.mv (.t 2)), none, none, [], false⟩,
⟨7, some 14, .cf 88 [(.t 7), (.t 9), (.t 10), (.t 12), (.t 13)], none, none, [], false⟩,
⟨8, some 6, .p (.mv (.t 14)), none, none, [], false⟩]
def f87c : SC := (.seq (.ops f87r0 0) (.seq (.ops f87r1 0) .ret))
def f87 : SFn := ⟨15, f87c, [.t 6]⟩

/- slices.medianOrdered[int] -/
def f88r0 : List SOper := [
⟨0, some 10, .p (.mv (.c (.one (.int .i64 0)))), none, none, [], false⟩]
def f88r1 : List SOper := [
⟨0, some 12, .p (.mv (.t 0)), none, none, [], false⟩,
⟨1, some 13, .p (.mv (.t 1)), none, none, [], false⟩,
⟨2, some 14, .p (.mv (.t 2)), none, none, [], false⟩,
⟨3, some 15, .p (.mv (.t 4)), none, none, [], false⟩,
⟨4, some 16, .cf 90 [(.t 12), (.t 13), (.t 14), (.t 15)], none, none, [], false⟩,
⟨5, some 11, .p (.mv (.t 16)), none, none, [], false⟩,
⟨6, some 17, .p (.extract (.t 11) 0), none, none, [], false⟩,
⟨7, some 18, .p (.extract (.t 11) 1), none, none, [], false⟩,
⟨8, some 1, .p (.mv (.t 17)), none, none, [], false⟩,
⟨9, some 2, .p (.mv (.t 18)), none, none, [], false⟩]
def f88r2 : List SOper := [
⟨0, some 20, .p (.mv (.t 0)), none, none, [], false⟩,
⟨1, some 21, .p (.mv (.t 2)), none, none, [], false⟩,
⟨2, some 22, .p (.mv (.t 3)), none, none, [], false⟩,
⟨3, some 23, .p (.mv (.t 4)), none, none, [], false⟩,
⟨4, some 24, .cf 90 [(.t 20), (.t 21), (.t 22), (.t 23)], none, none, [], false⟩,
⟨5, some 19, .p (.mv (.t 24)), none, none, [], false⟩,
⟨6, some 25, .p (.extract (.t 19) 0), none, none, [], false⟩,
⟨7, some 26, .p (.extract (.t 19) 1), none, none, [], false⟩,
⟨8, some 2, .p (.mv (.t 25)), none, none, [], false⟩,
⟨9, some 3, .p (.mv (.t 26)), none, none, [], false⟩]
def f88r3 : List SOper := [
⟨0, some 28, .p (.mv (.t 0)), none, none, [], false⟩,
⟨1, some 29, .p (.mv (.t 1)), none, none, [], false⟩,
⟨2, some 30, .p (.mv (.t 2)), none, none, [], false⟩,
⟨3, some 31, .p (.mv (.t 4)), none, none, [], false⟩,
⟨4, some 32, .cf 90 [(.t 28), (.t 29), (.t 30), (.t 31)], none, none, [], false⟩,
⟨5, some 27, .p (.mv (.t 32)), none, none, [], false⟩,
⟨6, some 33, .p (.extract (.t 27) 0), none, none, [], false⟩,
⟨7, some 34, .p (.extract (.t 27) 1), none, none, [], false⟩,
⟨8, some 1, .p (.mv (.t 33)), none, none, [], false⟩,
⟨9, some 2, .p (.mv (.t 34)), none, none, [], false⟩]
def f88r4 : List SOper := [
⟨0, some 35, .p (.mv (.t 2)), none, none, [], false⟩,
⟨1, some 10, .p (.mv (.t 35)), none, none, [], false⟩]
def f88c : SC := (.seq (.ops f88r0 0) (.seq (.ops f88r1 0) (.seq (.ops f88r2 0) (.seq (.ops f88r3 0) (.seq (.ops f88r4 0) .ret)))))
def f88 : SFn := ⟨36, f88c, [.t 10]⟩

/- slices.order2CmpFunc[sixdot/api.Point] -/
def f89r0 : List SOper := [
⟨0, some 10, .p (.mv (.c (.one (.int .i64 0)))), none, none, [], false⟩,
⟨1, some 11, .p (.mv (.c (.one (.int .i64 0)))), none, none, [], false⟩]
def f89r1 : List SOper := [
⟨0, some 12, .p (.mv (.t 4)), none, none, [], false⟩,
⟨1, some 13, .p (.mv (.t 0)), none, none, [], false⟩,
⟨2, some 14, .p (.mv (.t 2)), none, none, [], false⟩,
⟨3, some 15, .p (.iaddr 2 (.t 13) (.t 14)), none, none, [], false⟩,
⟨4, some 16, .l (.load true 2 (.t 15)), none, none, [], false⟩,
⟨5, some 17, .p (.mv (.t 0)), none, none, [], false⟩,
⟨6, some 18, .p (.mv (.t 1)), none, none, [], false⟩,
⟨7, some 19, .p (.iaddr 2 (.t 17) (.t 18)), none, none, [], false⟩,
⟨8, some 20, .l (.load true 2 (.t 19)), none, none, [], false⟩,
⟨9, some 21, .cv (.t 12) [(.t 16), (.t 20)], none, none, [], false⟩,
⟨10, some 22, .p (.bin .lss (.t 21) (.c (.one (.int .i64 0)))), none, none, [], false⟩]
def f89r2 : List SOper := [
⟨0, some 23, .p (.mv (.t 3)), none, none, [], false⟩,
⟨1, some 24, .p (.nilck (.t 23)), none, none, [], false⟩,
⟨2, some 25, .l (.load false 1 (.t 24)), none, none, [], false⟩,
⟨3, some 26, .p (.bin .add (.t 25) (.c (.one (.int .i64 1)))), none, none, [], false⟩,
⟨4, some 27, .p (.nilck (.t 23)), none, none, [], false⟩,
⟨5, none, .e (.store 1 (.t 27) (.t 26)), none, none, [], false⟩]
def f89r3 : List SOper := [
⟨0, some 28, .p (.mv (.t 2)), none, none, [], false⟩,
⟨1, some 29, .p (.mv (.t 1)), none, none, [], false⟩,
⟨2, some 10, .p (.mv (.t 28)), none, none, [], false⟩,
⟨3, some 11, .p (.mv (.t 29)), none, none, [], false⟩]
def f89r4 : List SOper := [
⟨0, some 30, .p (.mv (.t 1)), none, none, [], false⟩,
⟨1, some 31, .p (.mv (.t 2)), none, none, [], false⟩,
⟨2, some 10, .p (.mv (.t 30)), none, none, [], false⟩,
⟨3, some 11, .p (.mv (.t 31)), none, none, [], false⟩]
def f89c : SC := (.seq (.ops f89r0 0) (.seq (.seq (.ops f89r1 11) (.cond (.t 22) (.seq (.ops f89r2 0) (.seq (.ops f89r3 0) .ret)) .skip)) (.seq (.ops f89r4 0) .ret)))
def f89 : SFn := ⟨32, f89c, [.t 10, .t 11]⟩

/- slices.order2Ordered[int] -/
def f90r0 : List SOper := [
⟨0, some 8, .p (.mv (.c (.one (.int .i64 0)))), none, none, [], false⟩,
⟨1, some 9, .p (.mv (.c (.one (.int .i64 0)))), none, none, [], false⟩]
def f90r1 : List SOper := [
⟨0, some 10, .p (.mv (.t 0)), none, none, [], false⟩,
⟨1, some 11, .p (.mv (.t 2)), none, none, [], false⟩,
⟨2, some 12, .p (.iaddr 1 (.t 10) (.t 11)), none, none, [], false⟩,
⟨3, some 13, .l (.load false 1 (.t 12)), none, none, [], false⟩,
⟨4, some 14, .p (.mv (.t 0)), none, none, [], false⟩,
⟨5, some 15, .p (.mv (.t 1)), none, none, [], false⟩,
⟨6, some 16, .p (.iaddr 1 (.t 14) (.t 15)), none, none, [], false⟩,
⟨7, some 17, .l (.load false 1 (.t 16)), none, none, [], false⟩,
⟨8, some 18, .cf 59 [(.t 13), (.t 17)], none, none, [], false⟩]
def f90r2 : List SOper := [
⟨0, some 19, .p (.mv (.t 3)), none, none, [], false⟩,
⟨1, some 20, .p (.nilck (.t 19)), none, none, [], false⟩,
⟨2, some 21, .l (.load false 1 (.t 20)), none, none, [], false⟩,
⟨3, some 22, .p (.bin .add (.t 21) (.c (.one (.int .i64 1)))), none, none, [], false⟩,
⟨4, some 23, .p (.nilck (.t 19)), none, none, [], false⟩,
⟨5, none, .e (.store 1 (.t 23) (.t 22)), none, none, [], false⟩]
def f90r3 : List SOper := [
⟨0, some 24, .p (.mv (.t 2)), none, none, [], false⟩,
⟨1, some 25, .p (.mv (.t 1)), none, none, [], false⟩,
⟨2, some 8, .p (.mv (.t 24)), none, none, [], false⟩,
⟨3, some 9, .p (.mv (.t 25)), none, none, [], false⟩]
def f90r4 : List SOper := [
⟨0, some 26, .p (.mv (.t 1)), none, none, [], false⟩,
⟨1, some 27, .p (.mv (.t 2)), none, none, [], false⟩,
⟨2, some 8, .p (.mv (.t 26)), none, none, [], false⟩,
⟨3, some 9, .p (.mv (.t 27)), none, none, [], false⟩]
def f90c : SC := (.seq (.ops f90r0 0) (.seq (.seq (.ops f90r1 9) (.cond (.t 18) (.seq (.ops f90r2 0) (.seq (.ops f90r3 0) .ret)) .skip)) (.seq (.ops f90r4 0) .ret)))
def f90 : SFn := ⟨28, f90c, [.t 8, .t 9]⟩

end Go.Ab.Fn
