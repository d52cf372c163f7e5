/- Contracts of functions of the program over the abstract semantics. -/
import Derived.Test.YtbjkifniloohcaaGreatAb6
set_option linter.unusedVariables false
set_option linter.unusedSimpArgs false
namespace Go.Ad
open Go.Ab
abbrev oX (i d : Nat) (p : SOp) : SOper := ⟨i, some d, p, none, none, [], false⟩
abbrev pX (i d : Nat) (p : PureOp) : SOper := ⟨i, some d, .p p, none, none, [], false⟩
abbrev mX (i d s : Nat) : SOper := ⟨i, some d, .p (.mv (.t s)), none, none, [], false⟩
abbrev lX (i d s : Nat) : SOper := ⟨i, some d, .l (.load false 1 (.t s)), none, none, [], false⟩
abbrev iX (i d e x y : Nat) : SOper := ⟨i, some d, .p (.iaddr e (.t x) (.t y)), none, none, [], false⟩
abbrev aX (i d k x : Nat) : SOper := ⟨i, some d, .p (.faddr k (.t x)), none, none, [], false⟩
abbrev gX (i d s g : Nat) (b : Bool) : SOper := ⟨i, some d, .p (.mv (.t s)), some (g, b), none, [], false⟩
def f6r0 : List SOper := [
 oX 0 2 (.a (.box (.t 0))),
 oX 1 3 (.a (.box (.t 1))),
 pX 2 4 (.mv (.c (.one (.bool false))))]
def f6r1 : List SOper := [
 oX 0 11 (.cf 9 []),
 mX 1 5 11]
def f6r2 : List SOper := [
 oX 0 12 (.l (.load true 4 (.t 2))),
 oX 1 13 (.cf 10 [(.t 12)]),
 oX 2 6 (.a (.alloc [(.int .i64 0), (.int .i64 0), (.int .i64 0), .nils])),
⟨3, none, .e (.store 4 (.t 6) (.t 13)), none, none, [], false⟩]
def f6r3 : List SOper := [
 pX 0 14 (.aaddr 2 1 (.t 3) (.c (.one (.int .i64 0)))),
 lX 1 15 14,
 pX 2 16 (.bin .rem (.t 15) (.c (.one (.int .u8 4)))),
 pX 3 17 (.conv .i64 (.t 16)),
 pX 4 18 (.bin .mul (.c (.one (.int .i64 2))) (.t 17)),
 pX 5 19 (.aaddr 2 1 (.t 3) (.c (.one (.int .i64 1)))),
 lX 6 20 19,
 pX 7 21 (.bin .rem (.t 20) (.c (.one (.int .u8 3)))),
 pX 8 22 (.conv .i64 (.t 21)),
 pX 9 23 (.bin .mul (.c (.one (.int .i64 3))) (.t 22)),
 pX 10 24 (.build [(.int .i64 0), (.int .i64 0)] [(0, 1, (.t 18)), (1, 1, (.t 23))]),
 oX 11 7 (.a (.alloc [(.int .i64 0), (.int .i64 0)])),
⟨12, none, .e (.store 2 (.t 7) (.t 24)), none, none, [], false⟩]
def f6r4 : List SOper := [
 aX 0 25 0 6,
 lX 1 26 25,
 aX 2 27 0 7,
 lX 3 28 27,
 pX 4 29 (.bin .add (.t 26) (.t 28)),
 pX 5 30 (.mm false (.t 29) (.c (.one (.int .i64 60)))),
 aX 6 31 1 6,
 lX 7 32 31,
 aX 8 33 1 7,
 lX 9 34 33,
 pX 10 35 (.bin .add (.t 32) (.t 34)),
 pX 11 36 (.mm false (.t 35) (.c (.one (.int .i64 60)))),
 aX 12 37 2 6,
 lX 13 38 37,
 pX 14 39 (.build [(.int .i64 0), (.int .i64 0), (.int .i64 0), .nils] [(0, 1, (.t 30)), (1, 1, (.t 36)), (2, 1, (.t 38))]),
 oX 15 8 (.a (.alloc [(.int .i64 0), (.int .i64 0), (.int .i64 0), .nils])),
⟨16, none, .e (.store 4 (.t 8) (.t 39)), none, none, [], false⟩]
def f6r5 : List SOper := [
 pX 0 9 (.mv (.c (.one (.int .i64 0))))]
def f6r6 : List SOper := [
 mX 0 40 9,
 aX 1 41 3 6,
 lX 2 42 41,
 pX 3 43 (.len (.t 42)),
 pX 4 44 (.bin .lss (.t 40) (.t 43))]
def f6r7 : List SOper := [
 aX 0 47 3 6,
 lX 1 48 47,
 mX 2 49 9,
 iX 3 50 3 48 49,
 oX 4 51 (.l (.load true 3 (.t 50))),
 oX 5 10 (.a (.alloc [(.int .i64 0), (.int .i64 0), .nils])),
⟨6, none, .e (.store 3 (.t 10) (.t 51)), none, none, [], false⟩]
def f6r8 : List SOper := [
 aX 0 52 1 10,
 lX 1 53 52,
 pX 2 54 (.bin .eql (.t 53) (.c (.one (.int .i64 1)))),
 mX 3 55 54,
⟨4, some 56, .p (.faddr 1 (.t 10)), (some (55, false)), none, [], false⟩,
⟨5, some 57, .l (.load false 1 (.t 56)), (some (55, false)), none, [], false⟩,
⟨6, some 58, .p (.bin .eql (.t 57) (.c (.one (.int .i64 2)))), (some (55, false)), none, [], false⟩,
 pX 7 59 (.pick (.t 55) (.c (.one (.bool true))) (.t 58))]
def f6r9 : List SOper := [
 mX 0 60 5,
 mX 1 4 60]
def f6r10 : List SOper := [
 aX 0 61 2 10,
 lX 1 62 61,
 oX 2 63 (.l (.load true 2 (.t 7))),
 oX 3 64 (.cf 26 [(.t 62), (.t 63)]),
 aX 4 65 2 10,
⟨5, none, .e (.store 1 (.t 65) (.t 64)), none, none, [], false⟩]
def f6r11 : List SOper := [
 aX 0 66 3 8,
 lX 1 67 66,
 oX 2 68 (.l (.load true 3 (.t 10))),
 oX 3 69 (.a (.bslice 3 1 [(.int .i64 0), (.int .i64 0), .nils] [(0, 3, (.t 68))])),
 oX 4 70 (.e (.append 3 40 (.t 67) (.t 69))),
 aX 5 71 3 8,
⟨6, none, .e (.store 1 (.t 71) (.t 70)), none, none, [], false⟩]
def f6r12 : List SOper := [
 mX 0 45 9,
 pX 1 46 (.bin .add (.t 45) (.c (.one (.int .i64 1)))),
 mX 2 9 46]
def f6b0 : SC := (.seq (.seq (.ops f6r6 0) (.cond (.t 44) .skip (.exit 0))) (.seq (.block 1 (.seq (.ops f6r7 0) (.seq (.seq (.ops f6r8 0) (.cond (.t 59) (.seq (.ops f6r9 0) .ret) .skip)) (.seq (.ops f6r10 0) (.ops f6r11 0))))) (.ops f6r12 0)))
def f6r13 : List SOper := [
 oX 0 72 (.l (.load true 4 (.t 6))),
 oX 1 73 (.cf 12 [(.t 72)]),
 pX 2 74 (.not (.t 73)),
 mX 3 75 74,
⟨4, some 76, .l (.load true 4 (.t 8)), (some (75, false)), none, [], false⟩,
⟨5, some 77, .cf 12 [(.t 76)], (some (75, false)), none, [], false⟩,
⟨6, some 78, .p (.not (.t 77)), (some (75, false)), none, [], false⟩,
 pX 7 79 (.pick (.t 75) (.c (.one (.bool true))) (.t 78))]
def f6r14 : List SOper := [
 mX 0 80 5,
 mX 1 4 80]
def f6r15 : List SOper := [
 oX 0 81 (.l (.load true 4 (.t 6))),
⟨2, some 83, .l (.load true 4 (.t 8)), none, none, [], true⟩,
⟨1, some 82, .cf 13 [(.t 81)], none, none, [2], false⟩,
 oX 3 84 (.cf 13 [(.t 83)]),
 pX 4 85 (.eqs false [(0, false), (1, false), (2, false)] (.t 82) (.t 84)),
 mX 5 86 85,
⟨6, some 87, .l (.load true 4 (.t 6)), (some (86, true)), none, [], false⟩,
⟨8, some 89, .l (.load true 4 (.t 8)), (some (86, true)), none, [], true⟩,
⟨7, some 88, .cf 16 [(.t 87)], (some (86, true)), none, [8], false⟩,
⟨9, some 90, .cf 16 [(.t 89)], (some (86, true)), none, [], false⟩,
⟨10, some 91, .cf 15 [(.t 88), (.t 90)], (some (86, true)), none, [], false⟩,
 pX 11 92 (.pick (.t 86) (.t 91) (.c (.one (.bool false)))),
 mX 12 93 92,
 gX 13 94 5 93 true,
 pX 14 95 (.pick (.t 93) (.t 94) (.c (.one (.bool false)))),
 mX 15 4 95]
def f6c : SC := (.seq (.ops f6r0 0) (.seq (.ops f6r1 0) (.seq (.ops f6r2 0) (.seq (.ops f6r3 0) (.seq (.ops f6r4 0) (.seq (.seq (.ops f6r5 0) (.block 0 (.loop f6b0))) (.seq (.seq (.ops f6r13 0) (.cond (.t 79) (.seq (.ops f6r14 0) .ret) .skip)) (.seq (.ops f6r15 16) .ret))))))))
def f6 : SFn := ⟨96, f6c, [.t 4]⟩

def f9r0 : List SOper := [
 pX 0 0 (.mv (.c (.one (.bool false))))]
def f9r1 : List SOper := [
 pX 0 9 (.build [(.int .i64 0), (.int .i64 0)] []),
 pX 1 10 (.build [(.int .i64 0), (.int .i64 0)] [(0, 1, (.c (.one (.int .i64 4))))]),
 oX 2 11 (.a (.bslice 2 2 [(.int .i64 0), (.int .i64 0)] [(0, 2, (.t 9)), (2, 2, (.t 10))])),
 oX 3 12 (.cf 27 [(.t 11)]),
 pX 4 13 (.build [(.int .i64 0), (.int .i64 0)] []),
 pX 5 14 (.build [(.int .i64 0), (.int .i64 0)] [(0, 1, (.c (.one (.int .i64 3))))]),
 oX 6 15 (.a (.bslice 2 2 [(.int .i64 0), (.int .i64 0)] [(0, 2, (.t 13)), (2, 2, (.t 14))])),
 oX 7 16 (.cf 27 [(.t 15)]),
 pX 8 17 (.build [(.int .i64 0), (.int .i64 0)] []),
 pX 9 18 (.build [(.int .i64 0), (.int .i64 0)] []),
 oX 10 19 (.a (.bslice 2 2 [(.int .i64 0), (.int .i64 0)] [(0, 2, (.t 17)), (2, 2, (.t 18))])),
 oX 11 20 (.cf 27 [(.t 19)]),
 oX 12 1 (.a (.alloc [(.int .i64 0), (.int .i64 0), (.int .i64 0), .nils])),
 oX 13 2 (.a (.alloc [(.int .i64 0), (.int .i64 0), (.int .i64 0), .nils])),
 oX 14 3 (.a (.alloc [(.int .i64 0), (.int .i64 0), (.int .i64 0), .nils])),
⟨15, none, .e (.store 4 (.t 1) (.t 12)), none, none, [], false⟩,
⟨16, none, .e (.store 4 (.t 2) (.t 16)), none, none, [], false⟩,
⟨17, none, .e (.store 4 (.t 3) (.t 20)), none, none, [], false⟩]
def f9r2 : List SOper := [
⟨0, some 21, .l (.load true 4 (.t 1)), none, none, [], true⟩,
⟨1, some 22, .l (.load true 4 (.t 1)), none, none, [], true⟩,
 pX 2 23 (.build [(.int .i64 0), (.int .i64 0)] [(1, 1, (.c (.one (.int .i64 59))))]),
⟨3, some 24, .a (.bslice 2 1 [(.int .i64 0), (.int .i64 0)] [(0, 2, (.t 23))]), none, (some 3), [], false⟩,
⟨4, some 25, .cf 27 [(.t 24)], none, none, [1, 0], false⟩,
⟨5, some 4, .a (.alloc [(.int .i64 0), (.int .i64 0), (.int .i64 0), .nils]), none, (some 5), [], false⟩,
⟨6, some 5, .a (.alloc [(.int .i64 0), (.int .i64 0), (.int .i64 0), .nils]), none, (some 6), [], false⟩,
⟨7, some 6, .a (.alloc [(.int .i64 0), (.int .i64 0), (.int .i64 0), .nils]), none, (some 7), [], false⟩,
⟨8, none, .e (.store 4 (.t 4) (.t 21)), none, none, [1], false⟩,
⟨9, none, .e (.store 4 (.t 5) (.t 22)), none, none, [], false⟩,
⟨10, none, .e (.store 4 (.t 6) (.t 25)), none, none, [], false⟩]
def f9r3 : List SOper := [
 aX 0 26 2 4,
⟨1, none, .e (.store 1 (.t 26) (.c (.one (.int .i64 7)))), none, none, [], false⟩,
 aX 2 27 0 5,
⟨3, none, .e (.store 1 (.t 27) (.c (.one (.int .i64 5)))), none, none, [], false⟩,
 aX 4 28 1 6,
⟨5, none, .e (.store 1 (.t 28) (.c (.one (.int .i64 30)))), none, none, [], false⟩]
def f9r4 : List SOper := [
 pX 0 29 (.build [(.int .i64 0), (.int .i64 0), (.int .i64 0)] [(2, 1, (.c (.one (.int .i64 1))))]),
 oX 1 7 (.a (.alloc [(.int .i64 0), (.int .i64 0), (.int .i64 0)])),
⟨2, none, .e (.store 3 (.t 7) (.t 29)), none, none, [], false⟩]
def f9r5 : List SOper := [
 oX 0 30 (.l (.load true 4 (.t 1))),
 oX 1 31 (.cf 13 [(.t 30)]),
 pX 2 32 (.build [(.int .i64 0), (.int .i64 0), (.int .i64 0)] []),
 pX 3 33 (.eqs false [(0, false), (1, false), (2, false)] (.t 31) (.t 32)),
 mX 4 34 33,
⟨5, some 35, .l (.load true 4 (.t 1)), (some (34, true)), none, [], false⟩,
⟨6, some 36, .cf 16 [(.t 35)], (some (34, true)), none, [], false⟩,
⟨7, some 37, .a (.bslice 1 2 [(.int .i64 0)] [(0, 1, (.c (.one (.int .i64 0)))), (1, 1, (.c (.one (.int .i64 4))))]), (some (34, true)), none, [], false⟩,
⟨8, some 38, .a (.bslice 1 2 [(.int .i64 0)] [(0, 1, (.c (.one (.int .i64 4)))), (1, 1, (.c (.one (.int .i64 0))))]), (some (34, true)), none, [], false⟩,
⟨9, some 39, .a (.bslice 1 2 [.nils] [(0, 1, (.t 37)), (1, 1, (.t 38))]), (some (34, true)), none, [], false⟩,
⟨10, some 40, .cf 15 [(.t 36), (.t 39)], (some (34, true)), none, [], false⟩,
 pX 11 41 (.pick (.t 34) (.t 40) (.c (.one (.bool false)))),
 mX 12 42 41,
⟨13, some 43, .l (.load true 4 (.t 2)), (some (42, true)), none, [], false⟩,
⟨14, some 44, .cf 13 [(.t 43)], (some (42, true)), none, [], false⟩,
⟨15, some 45, .p (.build [(.int .i64 0), (.int .i64 0), (.int .i64 0)] [(1, 1, (.c (.one (.int .i64 1)))), (2, 1, (.c (.one (.int .i64 140))))]), (some (42, true)), none, [], false⟩,
⟨16, some 46, .p (.eqs false [(0, false), (1, false), (2, false)] (.t 44) (.t 45)), (some (42, true)), none, [], false⟩,
 pX 17 47 (.pick (.t 42) (.t 46) (.c (.one (.bool false)))),
 mX 18 48 47,
⟨19, some 49, .l (.load true 4 (.t 3)), (some (48, true)), none, [], false⟩,
⟨20, some 50, .cf 13 [(.t 49)], (some (48, true)), none, [], false⟩,
⟨21, some 51, .p (.build [(.int .i64 0), (.int .i64 0), (.int .i64 0)] [(1, 1, (.c (.one (.int .i64 1)))), (2, 1, (.c (.one (.int .i64 140))))]), (some (48, true)), none, [], false⟩,
⟨22, some 52, .p (.eqs false [(0, false), (1, false), (2, false)] (.t 50) (.t 51)), (some (48, true)), none, [], false⟩,
 pX 23 53 (.pick (.t 48) (.t 52) (.c (.one (.bool false)))),
 mX 24 8 53]
def f9r6 : List SOper := [
 mX 0 54 8,
 mX 1 55 54,
⟨4, some 58, .l (.load true 3 (.t 7)), (some (55, true)), none, [], true⟩,
⟨2, some 56, .cf 27 [(.c (.one .nils))], (some (55, true)), none, [4], false⟩,
⟨3, some 57, .cf 13 [(.t 56)], (some (55, true)), none, [4], false⟩,
⟨5, some 59, .p (.eqs false [(0, false), (1, false), (2, false)] (.t 57) (.t 58)), (some (55, true)), none, [], false⟩,
 pX 6 60 (.pick (.t 55) (.t 59) (.c (.one (.bool false)))),
 mX 7 61 60,
⟨8, some 62, .l (.load true 4 (.t 4)), (some (61, true)), none, [], false⟩,
⟨10, some 64, .l (.load true 3 (.t 7)), (some (61, true)), none, [], true⟩,
⟨9, some 63, .cf 13 [(.t 62)], (some (61, true)), none, [10], false⟩,
⟨11, some 65, .p (.eqs false [(0, false), (1, false), (2, false)] (.t 63) (.t 64)), (some (61, true)), none, [], false⟩,
 pX 12 66 (.pick (.t 61) (.t 65) (.c (.one (.bool false)))),
 mX 13 67 66,
⟨14, some 68, .l (.load true 4 (.t 5)), (some (67, true)), none, [], false⟩,
⟨16, some 70, .l (.load true 3 (.t 7)), (some (67, true)), none, [], true⟩,
⟨15, some 69, .cf 13 [(.t 68)], (some (67, true)), none, [16], false⟩,
⟨17, some 71, .p (.eqs false [(0, false), (1, false), (2, false)] (.t 69) (.t 70)), (some (67, true)), none, [], false⟩,
 pX 18 72 (.pick (.t 67) (.t 71) (.c (.one (.bool false)))),
 mX 19 73 72,
⟨20, some 74, .l (.load true 4 (.t 6)), (some (73, true)), none, [], false⟩,
⟨22, some 76, .l (.load true 3 (.t 7)), (some (73, true)), none, [], true⟩,
⟨21, some 75, .cf 13 [(.t 74)], (some (73, true)), none, [22], false⟩,
⟨23, some 77, .p (.eqs false [(0, false), (1, false), (2, false)] (.t 75) (.t 76)), (some (73, true)), none, [], false⟩,
 pX 24 78 (.pick (.t 73) (.t 77) (.c (.one (.bool false)))),
 mX 25 79 78,
⟨26, some 80, .l (.load true 4 (.t 6)), (some (79, true)), none, [], false⟩,
⟨27, some 81, .cf 16 [(.t 80)], (some (79, true)), none, [], false⟩,
⟨28, some 82, .p (.len (.t 81)), (some (79, true)), none, [], false⟩,
⟨29, some 83, .p (.bin .eql (.t 82) (.c (.one (.int .i64 0)))), (some (79, true)), none, [], false⟩,
 pX 30 84 (.pick (.t 79) (.t 83) (.c (.one (.bool false)))),
 mX 31 85 84,
⟨32, some 86, .l (.load true 4 (.t 1)), (some (85, true)), none, [], false⟩,
⟨33, some 87, .cf 11 [(.t 86)], (some (85, true)), none, [], false⟩,
 pX 34 88 (.pick (.t 85) (.t 87) (.c (.one (.bool false)))),
 mX 35 89 88,
⟨36, some 90, .l (.load true 4 (.t 6)), (some (89, true)), none, [], false⟩,
⟨37, some 91, .cf 11 [(.t 90)], (some (89, true)), none, [], false⟩,
⟨38, some 92, .p (.not (.t 91)), (some (89, true)), none, [], false⟩,
 pX 39 93 (.pick (.t 89) (.t 92) (.c (.one (.bool false)))),
 mX 40 0 93]
def f9c : SC := (.seq (.ops f9r0 0) (.seq (.ops f9r1 0) (.seq (.ops f9r2 11) (.seq (.ops f9r3 0) (.seq (.ops f9r4 0) (.seq (.ops f9r5 0) (.seq (.ops f9r6 41) .ret)))))))
def f9 : SFn := ⟨94, f9c, [.t 0]⟩

def f10r0 : List SOper := [
 oX 0 1 (.a (.box (.t 0))),
 oX 1 2 (.a (.alloc [(.int .i64 0), (.int .i64 0), (.int .i64 0), .nils]))]
def f10r1 : List SOper := [
 aX 0 5 0 1,
 lX 1 6 5,
 pX 2 7 (.bin .rem (.t 6) (.c (.one (.int .u8 13)))),
 pX 3 8 (.conv .i64 (.t 7)),
 pX 4 9 (.bin .mul (.c (.one (.int .i64 2))) (.t 8)),
 pX 5 10 (.bin .add (.c (.one (.int .i64 12))) (.t 9)),
 aX 6 11 1 1,
 lX 7 12 11,
 pX 8 13 (.bin .rem (.t 12) (.c (.one (.int .u8 9)))),
 pX 9 14 (.conv .i64 (.t 13)),
 pX 10 15 (.bin .mul (.c (.one (.int .i64 3))) (.t 14)),
 pX 11 16 (.bin .add (.c (.one (.int .i64 12))) (.t 15)),
 aX 12 17 2 1,
 lX 13 18 17,
 pX 14 19 (.bin .rem (.t 18) (.c (.one (.int .u8 3)))),
 pX 15 20 (.conv .i64 (.t 19)),
 pX 16 21 (.bin .add (.c (.one (.int .i64 2))) (.t 20)),
 pX 17 22 (.build [(.int .i64 0), (.int .i64 0), (.int .i64 0), .nils] [(0, 1, (.t 10)), (1, 1, (.t 16)), (2, 1, (.t 21))]),
 oX 18 3 (.a (.alloc [(.int .i64 0), (.int .i64 0), (.int .i64 0), .nils])),
⟨19, none, .e (.store 4 (.t 3) (.t 22)), none, none, [], false⟩]
def f10r2 : List SOper := [
 pX 0 4 (.mv (.c (.one (.int .i64 0))))]
def f10r3 : List SOper := [
 mX 0 23 4,
 aX 1 24 3 1,
 lX 2 25 24,
 pX 3 26 (.len (.t 25)),
 pX 4 27 (.bin .lss (.t 23) (.t 26)),
 mX 5 28 27,
 gX 6 29 4 28 true,
⟨7, some 30, .p (.bin .lss (.t 29) (.c (.one (.int .i64 4)))), (some (28, true)), none, [], false⟩,
 pX 8 31 (.pick (.t 28) (.t 30) (.c (.one (.bool false))))]
def f10r4 : List SOper := [
 aX 0 34 3 3,
⟨1, some 35, .l (.load false 1 (.t 34)), none, none, [], true⟩,
 aX 2 36 3 1,
 lX 3 37 36,
 mX 4 38 4,
 iX 5 39 6 37 38,
 oX 6 40 (.l (.load true 6 (.t 39))),
 aX 7 41 0 3,
 lX 8 42 41,
 aX 9 43 1 3,
 lX 10 44 43,
⟨11, some 45, .cf 28 [(.t 40), (.t 42), (.t 44)], none, none, [1], false⟩,
⟨12, some 46, .a (.bslice 3 1 [(.int .i64 0), (.int .i64 0), .nils] [(0, 3, (.t 45))]), none, (some 12), [], false⟩,
 oX 13 47 (.e (.append 3 40 (.t 35) (.t 46))),
 aX 14 48 3 3,
⟨15, none, .e (.store 1 (.t 48) (.t 47)), none, none, [], false⟩]
def f10r5 : List SOper := [
 mX 0 32 4,
 pX 1 33 (.bin .add (.t 32) (.c (.one (.int .i64 1)))),
 mX 2 4 33]
def f10b0 : SC := (.seq (.seq (.ops f10r3 0) (.cond (.t 31) .skip (.exit 0))) (.seq (.block 1 (.ops f10r4 16)) (.ops f10r5 0)))
def f10r6 : List SOper := [
 aX 0 49 3 3,
 lX 1 50 49,
 pX 2 51 (.len (.t 50)),
 pX 3 52 (.bin .eql (.t 51) (.c (.one (.int .i64 0))))]
def f10r7 : List SOper := [
 pX 0 53 (.build [(.int .i64 0), (.int .i64 0)] [(0, 1, (.c (.one (.int .i64 1)))), (1, 1, (.c (.one (.int .i64 1))))]),
 oX 1 54 (.a (.bslice 2 1 [(.int .i64 0), (.int .i64 0)] [(0, 2, (.t 53))])),
 pX 2 55 (.build [(.int .i64 0), (.int .i64 0), .nils] [(0, 1, (.c (.one (.int .i64 1)))), (2, 1, (.t 54))]),
 oX 3 56 (.a (.bslice 3 1 [(.int .i64 0), (.int .i64 0), .nils] [(0, 3, (.t 55))])),
 aX 4 57 3 3,
⟨5, none, .e (.store 1 (.t 57) (.t 56)), none, none, [], false⟩]
def f10r8 : List SOper := [
 oX 0 58 (.l (.load true 4 (.t 3))),
⟨1, none, .e (.store 4 (.t 2) (.t 58)), none, none, [], false⟩]
def f10c : SC := (.seq (.ops f10r0 0) (.seq (.ops f10r1 0) (.seq (.seq (.ops f10r2 0) (.block 0 (.loop f10b0))) (.seq (.seq (.ops f10r6 0) (.cond (.t 52) (.ops f10r7 0) .skip)) (.seq (.ops f10r8 0) .ret)))))
def f10 : SFn := ⟨59, f10c, [.cell true 4 2]⟩

def f11r0 : List SOper := [
 oX 0 1 (.a (.box (.t 0))),
 pX 1 2 (.mv (.c (.one (.bool false))))]
def f11r1 : List SOper := [
 aX 0 7 0 1,
 lX 1 8 7,
 pX 2 9 (.bin .lss (.t 8) (.c (.one (.int .i64 4)))),
 mX 3 10 9,
⟨4, some 11, .p (.faddr 0 (.t 1)), (some (10, false)), none, [], false⟩,
⟨5, some 12, .l (.load false 1 (.t 11)), (some (10, false)), none, [], false⟩,
⟨6, some 13, .p (.bin .gtr (.t 12) (.c (.one (.int .i64 60)))), (some (10, false)), none, [], false⟩,
 pX 7 14 (.pick (.t 10) (.c (.one (.bool true))) (.t 13)),
 mX 8 15 14,
⟨9, some 16, .p (.faddr 0 (.t 1)), (some (15, false)), none, [], false⟩,
⟨10, some 17, .l (.load false 1 (.t 16)), (some (15, false)), none, [], false⟩,
⟨11, some 18, .p (.bin .rem (.t 17) (.c (.one (.int .i64 2)))), (some (15, false)), none, [], false⟩,
⟨12, some 19, .p (.bin .neq (.t 18) (.c (.one (.int .i64 0)))), (some (15, false)), none, [], false⟩,
 pX 13 20 (.pick (.t 15) (.c (.one (.bool true))) (.t 19)),
 mX 14 21 20,
⟨15, some 22, .p (.faddr 1 (.t 1)), (some (21, false)), none, [], false⟩,
⟨16, some 23, .l (.load false 1 (.t 22)), (some (21, false)), none, [], false⟩,
⟨17, some 24, .p (.bin .lss (.t 23) (.c (.one (.int .i64 3)))), (some (21, false)), none, [], false⟩,
 pX 18 25 (.pick (.t 21) (.c (.one (.bool true))) (.t 24)),
 mX 19 26 25,
⟨20, some 27, .p (.faddr 1 (.t 1)), (some (26, false)), none, [], false⟩,
⟨21, some 28, .l (.load false 1 (.t 27)), (some (26, false)), none, [], false⟩,
⟨22, some 29, .p (.bin .gtr (.t 28) (.c (.one (.int .i64 60)))), (some (26, false)), none, [], false⟩,
 pX 23 30 (.pick (.t 26) (.c (.one (.bool true))) (.t 29)),
 mX 24 31 30,
⟨25, some 32, .p (.faddr 1 (.t 1)), (some (31, false)), none, [], false⟩,
⟨26, some 33, .l (.load false 1 (.t 32)), (some (31, false)), none, [], false⟩,
⟨27, some 34, .p (.bin .rem (.t 33) (.c (.one (.int .i64 3)))), (some (31, false)), none, [], false⟩,
⟨28, some 35, .p (.bin .neq (.t 34) (.c (.one (.int .i64 0)))), (some (31, false)), none, [], false⟩,
 pX 29 36 (.pick (.t 31) (.c (.one (.bool true))) (.t 35))]
def f11r2 : List SOper := [
 pX 0 2 (.mv (.c (.one (.bool false))))]
def f11r3 : List SOper := [
 aX 0 37 2 1,
 lX 1 38 37,
 pX 2 39 (.bin .lss (.t 38) (.c (.one (.int .i64 2)))),
 mX 3 40 39,
⟨4, some 41, .p (.faddr 2 (.t 1)), (some (40, false)), none, [], false⟩,
⟨5, some 42, .l (.load false 1 (.t 41)), (some (40, false)), none, [], false⟩,
⟨6, some 43, .p (.bin .gtr (.t 42) (.c (.one (.int .i64 6)))), (some (40, false)), none, [], false⟩,
 pX 7 44 (.pick (.t 40) (.c (.one (.bool true))) (.t 43)),
 mX 8 45 44,
⟨9, some 46, .p (.faddr 3 (.t 1)), (some (45, false)), none, [], false⟩,
⟨10, some 47, .l (.load false 1 (.t 46)), (some (45, false)), none, [], false⟩,
⟨11, some 48, .p (.len (.t 47)), (some (45, false)), none, [], false⟩,
⟨12, some 49, .p (.bin .lss (.t 48) (.c (.one (.int .i64 1)))), (some (45, false)), none, [], false⟩,
 pX 13 50 (.pick (.t 45) (.c (.one (.bool true))) (.t 49)),
 mX 14 51 50,
⟨15, some 52, .p (.faddr 3 (.t 1)), (some (51, false)), none, [], false⟩,
⟨16, some 53, .l (.load false 1 (.t 52)), (some (51, false)), none, [], false⟩,
⟨17, some 54, .p (.len (.t 53)), (some (51, false)), none, [], false⟩,
⟨18, some 55, .p (.bin .gtr (.t 54) (.c (.one (.int .i64 8)))), (some (51, false)), none, [], false⟩,
 pX 19 56 (.pick (.t 51) (.c (.one (.bool true))) (.t 55))]
def f11r4 : List SOper := [
 pX 0 2 (.mv (.c (.one (.bool false))))]
def f11r5 : List SOper := [
 aX 0 57 3 1,
 lX 1 58 57,
 pX 2 59 (.len (.t 58)),
 pX 3 60 (.mv (.c (.one (.int .i64 0))))]
def f11r6 : List SOper := [
 pX 0 61 (.bin .lss (.t 60) (.t 59))]
def f11r7 : List SOper := [
 iX 0 62 3 58 60,
 oX 1 63 (.l (.load true 3 (.t 62))),
 oX 2 4 (.a (.alloc [(.int .i64 0), (.int .i64 0), .nils])),
⟨3, none, .e (.store 3 (.t 4) (.t 63)), none, none, [], false⟩]
def f11r8 : List SOper := [
 oX 0 64 (.l (.load true 3 (.t 4))),
 oX 1 65 (.cf 29 [(.t 64)]),
 pX 2 66 (.not (.t 65))]
def f11r9 : List SOper := [
 pX 0 2 (.mv (.c (.one (.bool false))))]
def f11r10 : List SOper := [
 aX 0 67 2 4,
 lX 1 68 67,
 pX 2 69 (.len (.t 68)),
 pX 3 70 (.mv (.c (.one (.int .i64 0))))]
def f11r11 : List SOper := [
 pX 0 71 (.bin .lss (.t 70) (.t 69))]
def f11r12 : List SOper := [
 iX 0 72 2 68 70,
 oX 1 73 (.l (.load true 2 (.t 72))),
 oX 2 6 (.a (.alloc [(.int .i64 0), (.int .i64 0)])),
⟨3, none, .e (.store 2 (.t 6) (.t 73)), none, none, [], false⟩]
def f11r13 : List SOper := [
 aX 0 74 0 6,
 lX 1 75 74,
 aX 2 76 0 1,
 lX 3 77 76,
 pX 4 78 (.bin .geq (.t 75) (.t 77)),
 mX 5 79 78,
⟨6, some 80, .p (.faddr 1 (.t 6)), (some (79, false)), none, [], false⟩,
⟨7, some 81, .l (.load false 1 (.t 80)), (some (79, false)), none, [], false⟩,
⟨8, some 82, .p (.faddr 1 (.t 1)), (some (79, false)), none, [], false⟩,
⟨9, some 83, .l (.load false 1 (.t 82)), (some (79, false)), none, [], false⟩,
⟨10, some 84, .p (.bin .geq (.t 81) (.t 83)), (some (79, false)), none, [], false⟩,
 pX 11 85 (.pick (.t 79) (.c (.one (.bool true))) (.t 84))]
def f11r14 : List SOper := [
 pX 0 2 (.mv (.c (.one (.bool false))))]
def f11r15 : List SOper := [
 pX 0 86 (.bin .add (.t 70) (.c (.one (.int .i64 1)))),
 mX 1 70 86]
def f11b0 : SC := (.seq (.ops f11r11 0) (.seq (.cond (.t 71) .skip (.exit 2)) (.seq (.block 3 (.seq (.ops f11r12 0) (.seq (.ops f11r13 0) (.cond (.t 85) (.seq (.ops f11r14 0) .ret) .skip)))) (.ops f11r15 0))))
def f11r16 : List SOper := [
 pX 0 87 (.bin .add (.t 60) (.c (.one (.int .i64 1)))),
 mX 1 60 87]
def f11b1 : SC := (.seq (.ops f11r6 0) (.seq (.cond (.t 61) .skip (.exit 0)) (.seq (.block 1 (.seq (.ops f11r7 0) (.seq (.seq (.ops f11r8 0) (.cond (.t 66) (.seq (.ops f11r9 0) .ret) .skip)) (.seq (.ops f11r10 0) (.block 2 (.loop f11b0)))))) (.ops f11r16 0))))
def f11r17 : List SOper := [
 pX 0 2 (.mv (.c (.one (.bool true))))]
def f11c : SC := (.seq (.ops f11r0 0) (.seq (.seq (.ops f11r1 0) (.cond (.t 36) (.seq (.ops f11r2 0) .ret) .skip)) (.seq (.seq (.ops f11r3 0) (.cond (.t 56) (.seq (.ops f11r4 0) .ret) .skip)) (.seq (.seq (.ops f11r5 0) (.block 0 (.loop f11b1))) (.seq (.ops f11r17 0) .ret)))))
def f11 : SFn := ⟨88, f11c, [.t 2]⟩

def f12r0 : List SOper := [
 oX 0 1 (.a (.box (.t 0))),
 pX 1 2 (.mv (.c (.one (.bool false))))]
def f12r1 : List SOper := [
 aX 0 5 0 1,
 lX 1 6 5,
 pX 2 7 (.bin .lss (.t 6) (.c (.one (.int .i64 4)))),
 mX 3 8 7,
⟨4, some 9, .p (.faddr 0 (.t 1)), (some (8, false)), none, [], false⟩,
⟨5, some 10, .l (.load false 1 (.t 9)), (some (8, false)), none, [], false⟩,
⟨6, some 11, .p (.bin .gtr (.t 10) (.c (.one (.int .i64 60)))), (some (8, false)), none, [], false⟩,
 pX 7 12 (.pick (.t 8) (.c (.one (.bool true))) (.t 11)),
 mX 8 13 12,
⟨9, some 14, .p (.faddr 0 (.t 1)), (some (13, false)), none, [], false⟩,
⟨10, some 15, .l (.load false 1 (.t 14)), (some (13, false)), none, [], false⟩,
⟨11, some 16, .p (.bin .rem (.t 15) (.c (.one (.int .i64 2)))), (some (13, false)), none, [], false⟩,
⟨12, some 17, .p (.bin .neq (.t 16) (.c (.one (.int .i64 0)))), (some (13, false)), none, [], false⟩,
 pX 13 18 (.pick (.t 13) (.c (.one (.bool true))) (.t 17)),
 mX 14 19 18,
⟨15, some 20, .p (.faddr 1 (.t 1)), (some (19, false)), none, [], false⟩,
⟨16, some 21, .l (.load false 1 (.t 20)), (some (19, false)), none, [], false⟩,
⟨17, some 22, .p (.bin .lss (.t 21) (.c (.one (.int .i64 3)))), (some (19, false)), none, [], false⟩,
 pX 18 23 (.pick (.t 19) (.c (.one (.bool true))) (.t 22)),
 mX 19 24 23,
⟨20, some 25, .p (.faddr 1 (.t 1)), (some (24, false)), none, [], false⟩,
⟨21, some 26, .l (.load false 1 (.t 25)), (some (24, false)), none, [], false⟩,
⟨22, some 27, .p (.bin .gtr (.t 26) (.c (.one (.int .i64 60)))), (some (24, false)), none, [], false⟩,
 pX 23 28 (.pick (.t 24) (.c (.one (.bool true))) (.t 27)),
 mX 24 29 28,
⟨25, some 30, .p (.faddr 1 (.t 1)), (some (29, false)), none, [], false⟩,
⟨26, some 31, .l (.load false 1 (.t 30)), (some (29, false)), none, [], false⟩,
⟨27, some 32, .p (.bin .rem (.t 31) (.c (.one (.int .i64 3)))), (some (29, false)), none, [], false⟩,
⟨28, some 33, .p (.bin .neq (.t 32) (.c (.one (.int .i64 0)))), (some (29, false)), none, [], false⟩,
 pX 29 34 (.pick (.t 29) (.c (.one (.bool true))) (.t 33)),
 mX 30 35 34,
⟨31, some 36, .p (.faddr 2 (.t 1)), (some (35, false)), none, [], false⟩,
⟨32, some 37, .l (.load false 1 (.t 36)), (some (35, false)), none, [], false⟩,
⟨33, some 38, .p (.bin .lss (.t 37) (.c (.one (.int .i64 2)))), (some (35, false)), none, [], false⟩,
 pX 34 39 (.pick (.t 35) (.c (.one (.bool true))) (.t 38)),
 mX 35 40 39,
⟨36, some 41, .p (.faddr 2 (.t 1)), (some (40, false)), none, [], false⟩,
⟨37, some 42, .l (.load false 1 (.t 41)), (some (40, false)), none, [], false⟩,
⟨38, some 43, .p (.bin .gtr (.t 42) (.c (.one (.int .i64 6)))), (some (40, false)), none, [], false⟩,
 pX 39 44 (.pick (.t 40) (.c (.one (.bool true))) (.t 43)),
 mX 40 45 44,
⟨41, some 46, .p (.faddr 3 (.t 1)), (some (45, false)), none, [], false⟩,
⟨42, some 47, .l (.load false 1 (.t 46)), (some (45, false)), none, [], false⟩,
⟨43, some 48, .p (.len (.t 47)), (some (45, false)), none, [], false⟩,
⟨44, some 49, .p (.bin .lss (.t 48) (.c (.one (.int .i64 1)))), (some (45, false)), none, [], false⟩,
 pX 45 50 (.pick (.t 45) (.c (.one (.bool true))) (.t 49)),
 mX 46 51 50,
⟨47, some 52, .p (.faddr 3 (.t 1)), (some (51, false)), none, [], false⟩,
⟨48, some 53, .l (.load false 1 (.t 52)), (some (51, false)), none, [], false⟩,
⟨49, some 54, .p (.len (.t 53)), (some (51, false)), none, [], false⟩,
⟨50, some 55, .p (.bin .gtr (.t 54) (.c (.one (.int .i64 8)))), (some (51, false)), none, [], false⟩,
 pX 51 56 (.pick (.t 51) (.c (.one (.bool true))) (.t 55))]
def f12r2 : List SOper := [
 pX 0 2 (.mv (.c (.one (.bool false))))]
def f12r3 : List SOper := [
 pX 0 3 (.mv (.c (.one (.int .i64 0))))]
def f12r4 : List SOper := [
 mX 0 57 3,
 aX 1 58 3 1,
 lX 2 59 58,
 pX 3 60 (.len (.t 59)),
 pX 4 61 (.bin .lss (.t 57) (.t 60))]
def f12r5 : List SOper := [
 aX 0 64 3 1,
 lX 1 65 64,
 mX 2 66 3,
 iX 3 67 3 65 66,
 oX 4 68 (.l (.load true 3 (.t 67))),
 oX 5 69 (.cf 30 [(.t 68)]),
 mX 6 4 69]
def f12r6 : List SOper := [
 mX 0 70 4,
 pX 1 71 (.not (.t 70)),
 mX 2 72 71,
⟨3, some 73, .p (.faddr 3 (.t 1)), (some (72, false)), none, [], false⟩,
⟨4, some 74, .l (.load false 1 (.t 73)), (some (72, false)), none, [], false⟩,
 gX 5 75 3 72 false,
⟨6, some 76, .p (.iaddr 3 (.t 74) (.t 75)), (some (72, false)), none, [], false⟩,
⟨7, some 77, .l (.load true 3 (.t 76)), (some (72, false)), none, [], false⟩,
⟨9, some 79, .p (.faddr 0 (.t 1)), (some (72, false)), none, [], false⟩,
⟨10, some 80, .l (.load false 1 (.t 79)), (some (72, false)), none, [], true⟩,
⟨11, some 81, .p (.faddr 1 (.t 1)), (some (72, false)), none, [], false⟩,
⟨12, some 82, .l (.load false 1 (.t 81)), (some (72, false)), none, [], true⟩,
⟨8, some 78, .cf 19 [(.t 77)], (some (72, false)), none, [12, 10], false⟩,
⟨13, some 83, .cf 31 [(.t 78), (.t 80), (.t 82)], (some (72, false)), none, [], false⟩,
⟨14, some 84, .p (.not (.t 83)), (some (72, false)), none, [], false⟩,
 pX 15 85 (.pick (.t 72) (.c (.one (.bool true))) (.t 84))]
def f12r7 : List SOper := [
 pX 0 2 (.mv (.c (.one (.bool false))))]
def f12r8 : List SOper := [
 mX 0 62 3,
 pX 1 63 (.bin .add (.t 62) (.c (.one (.int .i64 1)))),
 mX 2 3 63]
def f12b0 : SC := (.seq (.seq (.ops f12r4 0) (.cond (.t 61) .skip (.exit 0))) (.seq (.block 1 (.seq (.ops f12r5 0) (.seq (.ops f12r6 16) (.cond (.t 85) (.seq (.ops f12r7 0) .ret) .skip)))) (.ops f12r8 0)))
def f12r9 : List SOper := [
 pX 0 2 (.mv (.c (.one (.bool true))))]
def f12c : SC := (.seq (.ops f12r0 0) (.seq (.seq (.ops f12r1 0) (.cond (.t 56) (.seq (.ops f12r2 0) .ret) .skip)) (.seq (.seq (.ops f12r3 0) (.block 0 (.loop f12b0))) (.seq (.ops f12r9 0) .ret))))
def f12 : SFn := ⟨86, f12c, [.t 2]⟩

def f13r0 : List SOper := [
 oX 0 1 (.a (.box (.t 0))),
 oX 1 2 (.a (.alloc [(.int .i64 0), (.int .i64 0), (.int .i64 0)]))]
def f13r1 : List SOper := [
 oX 0 7 (.l (.load true 4 (.t 1))),
 oX 1 8 (.cf 32 [(.t 7)]),
 mX 2 6 8,
 pX 3 9 (.extract (.t 6) 0),
 pX 4 10 (.extract (.t 6) 1),
 pX 5 11 (.extract (.t 6) 2),
 mX 6 3 9,
 mX 7 4 10,
 mX 8 5 11]
def f13r2 : List SOper := [
 mX 0 12 3,
 mX 1 13 4,
 mX 2 14 5,
 pX 3 15 (.build [(.int .i64 0), (.int .i64 0), (.int .i64 0)] [(0, 1, (.t 12)), (1, 1, (.t 13)), (2, 1, (.t 14))]),
⟨4, none, .e (.store 3 (.t 2) (.t 15)), none, none, [], false⟩]
def f13c : SC := (.seq (.ops f13r0 0) (.seq (.ops f13r1 0) (.seq (.ops f13r2 0) .ret)))
def f13 : SFn := ⟨16, f13c, [.cell true 3 2]⟩

def f15r0 : List SOper := [
 pX 0 4 (.mv (.c (.one (.bool false))))]
def f15r1 : List SOper := [
 mX 0 7 0,
 pX 1 8 (.len (.t 7)),
 mX 2 9 1,
 pX 3 10 (.len (.t 9)),
 pX 4 11 (.bin .neq (.t 8) (.t 10))]
def f15r2 : List SOper := [
 pX 0 4 (.mv (.c (.one (.bool false))))]
def f15r3 : List SOper := [
 pX 0 5 (.mv (.c (.one (.int .i64 0))))]
def f15r4 : List SOper := [
 mX 0 12 5,
 mX 1 13 0,
 pX 2 14 (.len (.t 13)),
 pX 3 15 (.bin .lss (.t 12) (.t 14))]
def f15r5 : List SOper := [
 mX 0 18 0,
 mX 1 19 5,
 iX 2 20 1 18 19,
 lX 3 21 20,
 pX 4 22 (.len (.t 21)),
 mX 5 23 1,
 mX 6 24 5,
 iX 7 25 1 23 24,
 lX 8 26 25,
 pX 9 27 (.len (.t 26)),
 pX 10 28 (.bin .neq (.t 22) (.t 27))]
def f15r6 : List SOper := [
 pX 0 4 (.mv (.c (.one (.bool false))))]
def f15r7 : List SOper := [
 pX 0 6 (.mv (.c (.one (.int .i64 0))))]
def f15r8 : List SOper := [
 mX 0 29 6,
 mX 1 30 0,
 mX 2 31 5,
 iX 3 32 1 30 31,
 lX 4 33 32,
 pX 5 34 (.len (.t 33)),
 pX 6 35 (.bin .lss (.t 29) (.t 34))]
def f15r9 : List SOper := [
 mX 0 38 0,
 mX 1 39 5,
 iX 2 40 1 38 39,
 lX 3 41 40,
 mX 4 42 6,
 iX 5 43 1 41 42,
 lX 6 44 43,
 mX 7 45 1,
 mX 8 46 5,
 iX 9 47 1 45 46,
 lX 10 48 47,
 mX 11 49 6,
 iX 12 50 1 48 49,
 lX 13 51 50,
 pX 14 52 (.bin .neq (.t 44) (.t 51))]
def f15r10 : List SOper := [
 pX 0 4 (.mv (.c (.one (.bool false))))]
def f15r11 : List SOper := [
 mX 0 36 6,
 pX 1 37 (.bin .add (.t 36) (.c (.one (.int .i64 1)))),
 mX 2 6 37]
def f15b0 : SC := (.seq (.seq (.ops f15r8 0) (.cond (.t 35) .skip (.exit 2))) (.seq (.block 3 (.seq (.ops f15r9 15) (.cond (.t 52) (.seq (.ops f15r10 0) .ret) .skip))) (.ops f15r11 0)))
def f15r12 : List SOper := [
 mX 0 16 5,
 pX 1 17 (.bin .add (.t 16) (.c (.one (.int .i64 1)))),
 mX 2 5 17]
def f15b1 : SC := (.seq (.seq (.ops f15r4 0) (.cond (.t 15) .skip (.exit 0))) (.seq (.block 1 (.seq (.seq (.ops f15r5 11) (.cond (.t 28) (.seq (.ops f15r6 0) .ret) .skip)) (.seq (.ops f15r7 0) (.block 2 (.loop f15b0))))) (.ops f15r12 0)))
def f15r13 : List SOper := [
 pX 0 4 (.mv (.c (.one (.bool true))))]
def f15c : SC := (.seq (.ops f15r0 0) (.seq (.seq (.ops f15r1 0) (.cond (.t 11) (.seq (.ops f15r2 0) .ret) .skip)) (.seq (.seq (.ops f15r3 0) (.block 0 (.loop f15b1))) (.seq (.ops f15r13 0) .ret))))
def f15 : SFn := ⟨53, f15c, [.t 4]⟩

def f16r0 : List SOper := [
 oX 0 1 (.a (.box (.t 0))),
 pX 1 2 (.mv (.c (.one .nils)))]
def f16r1 : List SOper := [
 oX 0 9 (.l (.load true 4 (.t 1))),
 oX 1 10 (.cf 11 [(.t 9)]),
 pX 2 11 (.not (.t 10))]
def f16r2 : List SOper := [
 pX 0 2 (.mv (.c (.one .nils)))]
def f16r3 : List SOper := [
 oX 0 12 (.l (.load true 4 (.t 1))),
 oX 1 13 (.cf 33 [(.t 12)]),
 oX 2 3 (.a (.alloc [.nils])),
⟨3, none, .e (.store 1 (.t 3) (.t 13)), none, none, [], false⟩]
def f16r4 : List SOper := [
 lX 0 14 3,
 pX 1 15 (.len (.t 14)),
 oX 2 16 (.a (.mkslice 1 24 [.nils] (.t 15) (.t 15))),
 oX 3 4 (.a (.alloc [.nils])),
⟨4, none, .e (.store 1 (.t 4) (.t 16)), none, none, [], false⟩]
def f16r5 : List SOper := [
 lX 0 17 4,
 pX 1 18 (.len (.t 17)),
 pX 2 19 (.mv (.c (.one (.int .i64 0))))]
def f16r6 : List SOper := [
 pX 0 20 (.bin .lss (.t 19) (.t 18))]
def f16r7 : List SOper := [
 mX 0 21 19,
 mX 1 5 21]
def f16r8 : List SOper := [
 lX 0 22 4,
 mX 1 23 5,
 lX 2 24 3,
 pX 3 25 (.len (.t 24)),
⟨4, some 26, .a (.mkslice 1 8 [(.int .i64 0)] (.t 25) (.t 25)), none, (some 4), [], false⟩,
 iX 5 27 1 22 23,
⟨6, none, .e (.store 1 (.t 27) (.t 26)), none, none, [], false⟩]
def f16r9 : List SOper := [
 pX 0 28 (.bin .add (.t 19) (.c (.one (.int .i64 1)))),
 mX 1 19 28]
def f16b0 : SC := (.seq (.ops f16r6 0) (.seq (.cond (.t 20) .skip (.exit 0)) (.seq (.block 1 (.seq (.ops f16r7 0) (.ops f16r8 7))) (.ops f16r9 0))))
def f16r10 : List SOper := [
 lX 0 29 3,
 pX 1 30 (.len (.t 29)),
 oX 2 31 (.cf 34 [(.t 30)])]
def f16r11 : List SOper := [
 mX 0 6 32]
def f16r12 : List SOper := [
 mX 0 7 33]
def f16r13 : List SOper := [
 lX 0 34 3,
 mX 1 35 6,
 iX 2 36 1 34 35,
 lX 3 37 36,
 lX 4 38 3,
 mX 5 39 7,
 iX 6 40 1 38 39,
 lX 7 41 40,
 oX 8 42 (.cf 35 [(.t 37), (.t 41)]),
 mX 9 8 42]
def f16r14 : List SOper := [
 lX 0 43 4,
 mX 1 44 6,
 iX 2 45 1 43 44,
 lX 3 46 45,
 mX 4 47 7,
 lX 5 48 4,
 mX 6 49 7,
 iX 7 50 1 48 49,
 lX 8 51 50,
 mX 9 52 6,
 mX 10 53 8,
 mX 11 54 8,
 iX 12 55 1 46 47,
⟨13, none, .e (.store 1 (.t 55) (.t 53)), none, none, [], false⟩,
 iX 14 56 1 51 52,
⟨15, none, .e (.store 1 (.t 56) (.t 54)), none, none, [], false⟩]
def f16b1 : SC := (.block 3 (.seq (.ops f16r13 10) (.ops f16r14 16)))
def f16r15 : List SOper := [
 lX 0 57 4,
 mX 1 2 57]
def f16c : SC := (.seq (.ops f16r0 0) (.seq (.seq (.ops f16r1 0) (.cond (.t 11) (.seq (.ops f16r2 0) .ret) .skip)) (.seq (.ops f16r3 0) (.seq (.ops f16r4 0) (.seq (.seq (.ops f16r5 0) (.block 0 (.loop f16b0))) (.seq (.seq (.ops f16r10 0) (.block 2 (.rf (.t 31) [32, 33] (.seq (.ops f16r11 0) (.ops f16r12 0)) f16b1))) (.seq (.ops f16r15 0) .ret)))))))
def f16 : SFn := ⟨58, f16c, [.t 2]⟩

def f19r0 : List SOper := [
 oX 0 1 (.a (.box (.t 0))),
 pX 1 2 (.mv (.c (.one .nils)))]
def f19r1 : List SOper := [
 aX 0 7 0 1,
 lX 1 8 7]
def f19r2 : List SOper := [
 pX 0 10 (.bin .eql (.t 8) (.c (.one (.int .i64 1)))),
 mX 1 9 10]
def f19r3 : List SOper := [
 aX 0 11 2 1,
 lX 1 12 11,
 mX 2 2 12]
def f19r4 : List SOper := [
 pX 0 14 (.bin .eql (.t 8) (.c (.one (.int .i64 2)))),
 mX 1 13 14]
def f19r5 : List SOper := [
 aX 0 15 2 1,
 lX 1 16 15,
 aX 2 17 2 1,
 lX 3 18 17,
 pX 4 19 (.len (.t 18)),
 pX 5 20 (.bin .sub (.t 19) (.c (.one (.int .i64 1)))),
 oX 6 21 (.cf 38 [(.t 16), (.t 20)]),
 oX 7 22 (.cf 37 [(.t 21)]),
 mX 8 2 22]
def f19r6 : List SOper := [
 aX 0 23 2 1,
 lX 1 24 23,
 aX 2 25 2 1,
 lX 3 26 25,
 pX 4 27 (.len (.t 26)),
 oX 5 28 (.cf 38 [(.t 24), (.t 27)]),
 mX 6 3 28]
def f19r7 : List SOper := [
 pX 0 4 (.mv (.c (.one (.int .i64 0))))]
def f19r8 : List SOper := [
 mX 0 29 4,
 pX 1 30 (.bin .lss (.t 29) (.c (.one (.int .i64 60))))]
def f19r9 : List SOper := [
 pX 0 5 (.mv (.c (.one (.int .i64 0))))]
def f19r10 : List SOper := [
 mX 0 33 5,
 pX 1 34 (.bin .lss (.t 33) (.c (.one (.int .i64 60))))]
def f19r11 : List SOper := [
 mX 0 37 5,
 mX 1 38 4,
 pX 2 39 (.build [(.int .i64 0), (.int .i64 0)] [(0, 1, (.t 37)), (1, 1, (.t 38))]),
 oX 3 6 (.a (.alloc [(.int .i64 0), (.int .i64 0)])),
⟨4, none, .e (.store 2 (.t 6) (.t 39)), none, none, [], false⟩]
def f19r12 : List SOper := [
 aX 0 40 1 1,
 lX 1 41 40,
 oX 2 42 (.l (.load true 2 (.t 6))),
 oX 3 43 (.cf 39 [(.t 41), (.t 42)]),
 mX 4 44 43,
⟨5, some 45, .p (.faddr 2 (.t 1)), (some (44, true)), none, [], false⟩,
⟨6, some 46, .l (.load false 1 (.t 45)), (some (44, true)), none, [], false⟩,
⟨7, some 47, .l (.load true 2 (.t 6)), (some (44, true)), none, [], false⟩,
⟨8, some 48, .cf 40 [(.t 46), (.t 47)], (some (44, true)), none, [], false⟩,
 pX 9 49 (.pick (.t 44) (.t 48) (.c (.one (.bool false))))]
def f19r13 : List SOper := [
 mX 0 50 3,
 oX 1 51 (.l (.load true 2 (.t 6))),
 oX 2 52 (.a (.bslice 2 1 [(.int .i64 0), (.int .i64 0)] [(0, 2, (.t 51))])),
 oX 3 53 (.e (.append 2 16 (.t 50) (.t 52))),
 mX 4 3 53]
def f19r14 : List SOper := [
 mX 0 35 5,
 pX 1 36 (.bin .add (.t 35) (.c (.one (.int .i64 1)))),
 mX 2 5 36]
def f19b0 : SC := (.seq (.seq (.ops f19r10 0) (.cond (.t 34) .skip (.exit 3))) (.seq (.block 4 (.seq (.ops f19r11 0) (.seq (.ops f19r12 0) (.cond (.t 49) (.ops f19r13 0) .skip)))) (.ops f19r14 0)))
def f19r15 : List SOper := [
 mX 0 31 4,
 pX 1 32 (.bin .add (.t 31) (.c (.one (.int .i64 1)))),
 mX 2 4 32]
def f19b1 : SC := (.seq (.seq (.ops f19r8 0) (.cond (.t 30) .skip (.exit 1))) (.seq (.block 2 (.seq (.ops f19r9 0) (.block 3 (.loop f19b0)))) (.ops f19r15 0)))
def f19r16 : List SOper := [
 mX 0 54 3,
 oX 1 55 (.cf 37 [(.t 54)]),
 mX 2 2 55]
def f19c : SC := (.seq (.ops f19r0 0) (.seq (.seq (.ops f19r1 0) (.block 0 (.seq (.ops f19r2 0) (.cond (.t 9) (.seq (.ops f19r3 0) .ret) (.seq (.ops f19r4 0) (.cond (.t 13) (.seq (.ops f19r5 0) .ret) .skip)))))) (.seq (.ops f19r6 0) (.seq (.seq (.ops f19r7 0) (.block 1 (.loop f19b1))) (.seq (.ops f19r16 0) .ret)))))
def f19 : SFn := ⟨56, f19c, [.t 2]⟩

def f21r0 : List SOper := [
 oX 0 2 (.a (.box (.t 0))),
 oX 1 3 (.a (.box (.t 1))),
 pX 2 4 (.mv (.c (.one (.int .i64 0))))]
def f21r1 : List SOper := [
 aX 0 5 0 2,
 lX 1 6 5,
 aX 2 7 0 3,
 lX 3 8 7,
 pX 4 9 (.bin .sub (.t 6) (.t 8)),
 aX 6 11 1 2,
⟨7, some 12, .l (.load false 1 (.t 11)), none, none, [], true⟩,
 aX 8 13 1 3,
⟨9, some 14, .l (.load false 1 (.t 13)), none, none, [], true⟩,
 pX 10 15 (.bin .sub (.t 12) (.t 14)),
⟨5, some 10, .cf 41 [(.t 9)], none, none, [9, 7], false⟩,
 oX 11 16 (.cf 41 [(.t 15)]),
 pX 12 17 (.mm true (.t 10) (.t 16)),
 mX 13 4 17]
def f21c : SC := (.seq (.ops f21r0 0) (.seq (.ops f21r1 14) .ret))
def f21 : SFn := ⟨18, f21c, [.t 4]⟩

def f26r0 : List SOper := [
 oX 0 3 (.a (.box (.t 1))),
 pX 1 4 (.mv (.c (.one .nils)))]
def f26r1 : List SOper := [
 oX 0 7 (.a (.bslice 2 0 [(.int .i64 0), (.int .i64 0)] [])),
 mX 1 5 7]
def f26r2 : List SOper := [
 pX 0 6 (.mv (.c (.one (.int .i64 0))))]
def f26r3 : List SOper := [
 mX 0 8 6,
 mX 1 9 0,
 pX 2 10 (.len (.t 9)),
 pX 3 11 (.bin .lss (.t 8) (.t 10))]
def f26r4 : List SOper := [
 mX 0 14 5,
 mX 1 15 0,
 mX 2 16 6,
 iX 3 17 2 15 16,
 aX 4 18 0 17,
 lX 5 19 18,
 aX 6 20 0 3,
 lX 7 21 20,
 pX 8 22 (.bin .add (.t 19) (.t 21)),
 mX 9 23 0,
 mX 10 24 6,
 iX 11 25 2 23 24,
 aX 12 26 1 25,
 lX 13 27 26,
 aX 14 28 1 3,
 lX 15 29 28,
 pX 16 30 (.bin .add (.t 27) (.t 29)),
 pX 17 31 (.build [(.int .i64 0), (.int .i64 0)] [(0, 1, (.t 22)), (1, 1, (.t 30))]),
⟨18, some 32, .a (.bslice 2 1 [(.int .i64 0), (.int .i64 0)] [(0, 2, (.t 31))]), none, (some 18), [], false⟩,
 oX 19 33 (.e (.append 2 16 (.t 14) (.t 32))),
 mX 20 5 33]
def f26r5 : List SOper := [
 mX 0 12 6,
 pX 1 13 (.bin .add (.t 12) (.c (.one (.int .i64 1)))),
 mX 2 6 13]
def f26b0 : SC := (.seq (.seq (.ops f26r3 0) (.cond (.t 11) .skip (.exit 0))) (.seq (.block 1 (.ops f26r4 21)) (.ops f26r5 0)))
def f26r6 : List SOper := [
 mX 0 34 5,
 mX 1 4 34]
def f26c : SC := (.seq (.ops f26r0 0) (.seq (.ops f26r1 0) (.seq (.seq (.ops f26r2 0) (.block 0 (.loop f26b0))) (.seq (.ops f26r6 0) .ret))))
def f26 : SFn := ⟨35, f26c, [.t 4]⟩

def f27r0 : List SOper := [
 oX 0 2 (.a (.alloc [(.int .i64 0), (.int .i64 0), (.int .i64 0), .nils]))]
def f27r1 : List SOper := [
 pX 0 5 (.build [(.int .i64 0), (.int .i64 0), (.int .i64 0), .nils] [(0, 1, (.c (.one (.int .i64 60)))), (1, 1, (.c (.one (.int .i64 60)))), (2, 1, (.c (.one (.int .i64 3))))]),
 oX 1 3 (.a (.alloc [(.int .i64 0), (.int .i64 0), (.int .i64 0), .nils])),
⟨2, none, .e (.store 4 (.t 3) (.t 5)), none, none, [], false⟩]
def f27r2 : List SOper := [
 pX 0 4 (.mv (.c (.one (.int .i64 0))))]
def f27r3 : List SOper := [
 mX 0 6 4,
 mX 1 7 0,
 pX 2 8 (.len (.t 7)),
 pX 3 9 (.bin .lss (.t 6) (.t 8))]
def f27r4 : List SOper := [
 aX 0 12 3 3,
 lX 1 13 12,
 mX 2 14 0,
 mX 3 15 4,
 iX 4 16 2 14 15,
 oX 5 17 (.l (.load true 2 (.t 16))),
⟨6, some 18, .a (.bslice 2 1 [(.int .i64 0), (.int .i64 0)] [(0, 2, (.t 17))]), none, (some 6), [], false⟩,
 pX 7 19 (.build [(.int .i64 0), (.int .i64 0), .nils] [(0, 1, (.c (.one (.int .i64 1)))), (2, 1, (.t 18))]),
⟨8, some 20, .a (.bslice 3 1 [(.int .i64 0), (.int .i64 0), .nils] [(0, 3, (.t 19))]), none, (some 8), [], false⟩,
 oX 9 21 (.e (.append 3 40 (.t 13) (.t 20))),
 aX 10 22 3 3,
⟨11, none, .e (.store 1 (.t 22) (.t 21)), none, none, [], false⟩]
def f27r5 : List SOper := [
 mX 0 10 4,
 pX 1 11 (.bin .add (.t 10) (.c (.one (.int .i64 1)))),
 mX 2 4 11]
def f27b0 : SC := (.seq (.seq (.ops f27r3 0) (.cond (.t 9) .skip (.exit 0))) (.seq (.block 1 (.ops f27r4 12)) (.ops f27r5 0)))
def f27r6 : List SOper := [
 oX 0 23 (.l (.load true 4 (.t 3))),
⟨1, none, .e (.store 4 (.t 2) (.t 23)), none, none, [], false⟩]
def f27c : SC := (.seq (.ops f27r0 0) (.seq (.ops f27r1 0) (.seq (.seq (.ops f27r2 0) (.block 0 (.loop f27b0))) (.seq (.ops f27r6 0) .ret))))
def f27 : SFn := ⟨24, f27c, [.cell true 4 2]⟩

def f28r0 : List SOper := [
 oX 0 3 (.a (.box (.t 0))),
 oX 1 6 (.a (.alloc [(.int .i64 0), (.int .i64 0), .nils]))]
def f28r1 : List SOper := [
 pX 0 19 (.aaddr 6 1 (.t 3) (.c (.one (.int .i64 1)))),
 lX 1 20 19,
 pX 2 21 (.conv .i64 (.t 20)),
 mX 3 22 1,
 pX 4 23 (.bin .rem (.t 21) (.t 22)),
 pX 5 24 (.aaddr 6 1 (.t 3) (.c (.one (.int .i64 2)))),
 lX 6 25 24,
 pX 7 26 (.conv .i64 (.t 25)),
 mX 8 27 2,
 pX 9 28 (.bin .rem (.t 26) (.t 27)),
 pX 10 29 (.aaddr 6 1 (.t 3) (.c (.one (.int .i64 3)))),
 lX 11 30 29,
 pX 12 31 (.conv .i64 (.t 30)),
 pX 13 32 (.bin .rem (.t 31) (.c (.one (.int .i64 8)))),
 pX 14 33 (.bin .add (.c (.one (.int .i64 1))) (.t 32)),
 pX 15 34 (.aaddr 6 1 (.t 3) (.c (.one (.int .i64 4)))),
 lX 16 35 34,
 pX 17 36 (.conv .i64 (.t 35)),
 pX 18 37 (.bin .rem (.t 36) (.c (.one (.int .i64 8)))),
 pX 19 38 (.bin .add (.c (.one (.int .i64 1))) (.t 37)),
 mX 20 7 23,
 mX 21 8 28,
 mX 22 9 33,
 mX 23 10 38]
def f28r2 : List SOper := [
 mX 0 39 7,
 mX 1 40 9,
 pX 2 41 (.bin .add (.t 39) (.t 40)),
 mX 3 42 1,
 pX 4 43 (.bin .sub (.t 42) (.c (.one (.int .i64 1)))),
 pX 5 44 (.mm false (.t 41) (.t 43)),
 mX 6 45 8,
 mX 7 46 10,
 pX 8 47 (.bin .add (.t 45) (.t 46)),
 mX 9 48 2,
 pX 10 49 (.bin .sub (.t 48) (.c (.one (.int .i64 1)))),
 pX 11 50 (.mm false (.t 47) (.t 49)),
 mX 12 11 44,
 mX 13 12 50]
def f28r3 : List SOper := [
 mX 0 51 7,
 mX 1 52 8,
 pX 2 53 (.build [(.int .i64 0), (.int .i64 0)] [(0, 1, (.t 51)), (1, 1, (.t 52))]),
 mX 3 54 11,
 mX 4 55 12,
 pX 5 56 (.build [(.int .i64 0), (.int .i64 0)] [(0, 1, (.t 54)), (1, 1, (.t 55))]),
 oX 6 13 (.a (.alloc [(.int .i64 0), (.int .i64 0)])),
 oX 7 14 (.a (.alloc [(.int .i64 0), (.int .i64 0)])),
⟨8, none, .e (.store 2 (.t 13) (.t 53)), none, none, [], false⟩,
⟨9, none, .e (.store 2 (.t 14) (.t 56)), none, none, [], false⟩]
def f28r4 : List SOper := [
 pX 0 57 (.aaddr 6 1 (.t 3) (.c (.one (.int .i64 0)))),
 lX 1 58 57,
 pX 2 59 (.bin .rem (.t 58) (.c (.one (.int .u8 3)))),
 pX 3 60 (.conv .i64 (.t 59)),
 pX 4 61 (.bin .add (.c (.one (.int .i64 1))) (.t 60)),
 pX 5 62 (.aaddr 6 1 (.t 3) (.c (.one (.int .i64 0)))),
 lX 6 63 62,
 pX 7 64 (.bin .quo (.t 63) (.c (.one (.int .u8 3)))),
 pX 8 65 (.bin .rem (.t 64) (.c (.one (.int .u8 4)))),
 pX 9 66 (.conv .i64 (.t 65)),
 mX 10 15 61,
 mX 11 16 66]
def f28r5 : List SOper := [
 mX 0 67 15,
 pX 1 68 (.bin .eql (.t 67) (.c (.one (.int .i64 1))))]
def f28r6 : List SOper := [
 mX 0 69 15,
 oX 1 70 (.l (.load true 2 (.t 13))),
 oX 2 71 (.a (.bslice 2 1 [(.int .i64 0), (.int .i64 0)] [(0, 2, (.t 70))])),
 pX 3 72 (.build [(.int .i64 0), (.int .i64 0), .nils] [(0, 1, (.t 69)), (2, 1, (.t 71))]),
⟨4, none, .e (.store 3 (.t 6) (.t 72)), none, none, [], false⟩]
def f28r7 : List SOper := [
 mX 0 73 15,
 pX 1 74 (.bin .eql (.t 73) (.c (.one (.int .i64 2))))]
def f28r8 : List SOper := [
 oX 0 75 (.l (.load true 2 (.t 13))),
 oX 1 76 (.l (.load true 2 (.t 14))),
 oX 2 77 (.a (.bslice 2 2 [(.int .i64 0), (.int .i64 0)] [(0, 2, (.t 75)), (2, 2, (.t 76))])),
 mX 3 17 77]
def f28r9 : List SOper := [
 pX 0 78 (.aaddr 6 1 (.t 3) (.c (.one (.int .i64 5)))),
 lX 1 79 78,
 pX 2 80 (.bin .rem (.t 79) (.c (.one (.int .u8 2)))),
 pX 3 81 (.bin .eql (.t 80) (.c (.one (.int .u8 1))))]
def f28r10 : List SOper := [
 mX 0 82 17,
 mX 1 83 7,
 mX 2 84 12,
 pX 3 85 (.build [(.int .i64 0), (.int .i64 0)] [(0, 1, (.t 83)), (1, 1, (.t 84))]),
 oX 4 86 (.a (.bslice 2 1 [(.int .i64 0), (.int .i64 0)] [(0, 2, (.t 85))])),
 oX 5 87 (.e (.append 2 16 (.t 82) (.t 86))),
 mX 6 17 87]
def f28r11 : List SOper := [
 mX 0 88 15,
 mX 1 89 17,
 pX 2 90 (.build [(.int .i64 0), (.int .i64 0), .nils] [(0, 1, (.t 88)), (2, 1, (.t 89))]),
⟨3, none, .e (.store 3 (.t 6) (.t 90)), none, none, [], false⟩]
def f28r12 : List SOper := [
 oX 0 91 (.l (.load true 2 (.t 13))),
 mX 1 92 11,
 mX 2 93 8,
 pX 3 94 (.build [(.int .i64 0), (.int .i64 0)] [(0, 1, (.t 92)), (1, 1, (.t 93))]),
 oX 4 95 (.l (.load true 2 (.t 14))),
 oX 5 96 (.a (.bslice 2 3 [(.int .i64 0), (.int .i64 0)] [(0, 2, (.t 91)), (2, 2, (.t 94)), (4, 2, (.t 95))])),
 mX 6 18 96]
def f28r13 : List SOper := [
 pX 0 97 (.aaddr 6 1 (.t 3) (.c (.one (.int .i64 5)))),
 lX 1 98 97,
 pX 2 99 (.bin .rem (.t 98) (.c (.one (.int .u8 2)))),
 pX 3 100 (.bin .eql (.t 99) (.c (.one (.int .u8 1))))]
def f28r14 : List SOper := [
 mX 0 101 18,
 mX 1 102 7,
 mX 2 103 12,
 pX 3 104 (.build [(.int .i64 0), (.int .i64 0)] [(0, 1, (.t 102)), (1, 1, (.t 103))]),
 oX 4 105 (.a (.bslice 2 1 [(.int .i64 0), (.int .i64 0)] [(0, 2, (.t 104))])),
 oX 5 106 (.e (.append 2 16 (.t 101) (.t 105))),
 mX 6 18 106]
def f28r15 : List SOper := [
 mX 0 107 15,
 mX 1 108 16,
 mX 2 109 18,
 pX 3 110 (.build [(.int .i64 0), (.int .i64 0), .nils] [(0, 1, (.t 107)), (1, 1, (.t 108)), (2, 1, (.t 109))]),
⟨4, none, .e (.store 3 (.t 6) (.t 110)), none, none, [], false⟩]
def f28c : SC := (.seq (.ops f28r0 0) (.seq (.ops f28r1 24) (.seq (.ops f28r2 0) (.seq (.ops f28r3 0) (.seq (.ops f28r4 12) (.seq (.seq (.ops f28r5 0) (.cond (.t 68) (.seq (.ops f28r6 0) .ret) .skip)) (.seq (.seq (.ops f28r7 0) (.cond (.t 74) (.seq (.ops f28r8 0) (.seq (.seq (.ops f28r9 0) (.cond (.t 81) (.ops f28r10 0) .skip)) (.seq (.ops f28r11 0) .ret))) .skip)) (.seq (.ops f28r12 0) (.seq (.seq (.ops f28r13 0) (.cond (.t 100) (.ops f28r14 0) .skip)) (.seq (.ops f28r15 0) .ret))))))))))
def f28 : SFn := ⟨111, f28c, [.cell true 3 6]⟩

def f29r0 : List SOper := [
 oX 0 1 (.a (.box (.t 0))),
 pX 1 2 (.mv (.c (.one (.bool false))))]
def f29r1 : List SOper := [
 aX 0 6 2 1,
 lX 1 7 6,
 pX 2 8 (.len (.t 7)),
 mX 3 3 8]
def f29r2 : List SOper := [
 mX 0 9 3,
 pX 1 10 (.bin .lss (.t 9) (.c (.one (.int .i64 1)))),
 mX 2 11 10,
 gX 3 12 3 11 false,
⟨4, some 13, .p (.bin .gtr (.t 12) (.c (.one (.int .i64 12)))), (some (11, false)), none, [], false⟩,
 pX 5 14 (.pick (.t 11) (.c (.one (.bool true))) (.t 13))]
def f29r3 : List SOper := [
 pX 0 2 (.mv (.c (.one (.bool false))))]
def f29r4 : List SOper := [
 aX 0 15 2 1,
 lX 1 16 15,
 pX 2 17 (.len (.t 16)),
 pX 3 18 (.mv (.c (.one (.int .i64 0))))]
def f29r5 : List SOper := [
 pX 0 19 (.bin .lss (.t 18) (.t 17))]
def f29r6 : List SOper := [
 iX 0 20 2 16 18,
 oX 1 21 (.l (.load true 2 (.t 20))),
 oX 2 5 (.a (.alloc [(.int .i64 0), (.int .i64 0)])),
⟨3, none, .e (.store 2 (.t 5) (.t 21)), none, none, [], false⟩]
def f29r7 : List SOper := [
 aX 0 22 0 5,
 lX 1 23 22,
 pX 2 24 (.bin .lss (.t 23) (.c (.one (.int .i64 0)))),
 mX 3 25 24,
⟨4, some 26, .p (.faddr 0 (.t 5)), (some (25, false)), none, [], false⟩,
⟨5, some 27, .l (.load false 1 (.t 26)), (some (25, false)), none, [], false⟩,
⟨6, some 28, .p (.bin .geq (.t 27) (.c (.one (.int .i64 60)))), (some (25, false)), none, [], false⟩,
 pX 7 29 (.pick (.t 25) (.c (.one (.bool true))) (.t 28)),
 mX 8 30 29,
⟨9, some 31, .p (.faddr 1 (.t 5)), (some (30, false)), none, [], false⟩,
⟨10, some 32, .l (.load false 1 (.t 31)), (some (30, false)), none, [], false⟩,
⟨11, some 33, .p (.bin .lss (.t 32) (.c (.one (.int .i64 0)))), (some (30, false)), none, [], false⟩,
 pX 12 34 (.pick (.t 30) (.c (.one (.bool true))) (.t 33)),
 mX 13 35 34,
⟨14, some 36, .p (.faddr 1 (.t 5)), (some (35, false)), none, [], false⟩,
⟨15, some 37, .l (.load false 1 (.t 36)), (some (35, false)), none, [], false⟩,
⟨16, some 38, .p (.bin .geq (.t 37) (.c (.one (.int .i64 60)))), (some (35, false)), none, [], false⟩,
 pX 17 39 (.pick (.t 35) (.c (.one (.bool true))) (.t 38))]
def f29r8 : List SOper := [
 pX 0 2 (.mv (.c (.one (.bool false))))]
def f29r9 : List SOper := [
 pX 0 40 (.bin .add (.t 18) (.c (.one (.int .i64 1)))),
 mX 1 18 40]
def f29b0 : SC := (.seq (.ops f29r5 0) (.seq (.cond (.t 19) .skip (.exit 0)) (.seq (.block 1 (.seq (.ops f29r6 0) (.seq (.ops f29r7 0) (.cond (.t 39) (.seq (.ops f29r8 0) .ret) .skip)))) (.ops f29r9 0))))
def f29r10 : List SOper := [
 aX 0 41 0 1,
 lX 1 42 41]
def f29r11 : List SOper := [
 pX 0 44 (.bin .eql (.t 42) (.c (.one (.int .i64 1)))),
 mX 1 43 44]
def f29r12 : List SOper := [
 mX 0 45 3,
 pX 1 46 (.bin .eql (.t 45) (.c (.one (.int .i64 1)))),
 mX 2 47 46,
⟨3, some 48, .p (.faddr 1 (.t 1)), (some (47, true)), none, [], false⟩,
⟨4, some 49, .l (.load false 1 (.t 48)), (some (47, true)), none, [], false⟩,
⟨5, some 50, .p (.bin .eql (.t 49) (.c (.one (.int .i64 0)))), (some (47, true)), none, [], false⟩,
 pX 6 51 (.pick (.t 47) (.t 50) (.c (.one (.bool false)))),
 mX 7 2 51]
def f29r13 : List SOper := [
 pX 0 53 (.bin .eql (.t 42) (.c (.one (.int .i64 2)))),
 mX 1 52 53]
def f29r14 : List SOper := [
 mX 0 54 3,
 pX 1 55 (.bin .geq (.t 54) (.c (.one (.int .i64 2)))),
 mX 2 56 55,
⟨3, some 57, .p (.faddr 1 (.t 1)), (some (56, true)), none, [], false⟩,
⟨4, some 58, .l (.load false 1 (.t 57)), (some (56, true)), none, [], false⟩,
⟨5, some 59, .p (.bin .eql (.t 58) (.c (.one (.int .i64 0)))), (some (56, true)), none, [], false⟩,
 pX 6 60 (.pick (.t 56) (.t 59) (.c (.one (.bool false)))),
 mX 7 2 60]
def f29r15 : List SOper := [
 pX 0 62 (.bin .eql (.t 42) (.c (.one (.int .i64 3)))),
 mX 1 61 62]
def f29r16 : List SOper := [
 mX 0 63 3,
 pX 1 64 (.bin .geq (.t 63) (.c (.one (.int .i64 3)))),
 mX 2 65 64,
⟨3, some 66, .p (.faddr 1 (.t 1)), (some (65, true)), none, [], false⟩,
⟨4, some 67, .l (.load false 1 (.t 66)), (some (65, true)), none, [], false⟩,
⟨5, some 68, .p (.bin .geq (.t 67) (.c (.one (.int .i64 0)))), (some (65, true)), none, [], false⟩,
 pX 6 69 (.pick (.t 65) (.t 68) (.c (.one (.bool false)))),
 mX 7 70 69,
⟨8, some 71, .p (.faddr 1 (.t 1)), (some (70, true)), none, [], false⟩,
⟨9, some 72, .l (.load false 1 (.t 71)), (some (70, true)), none, [], false⟩,
⟨10, some 73, .p (.bin .leq (.t 72) (.c (.one (.int .i64 3)))), (some (70, true)), none, [], false⟩,
 pX 11 74 (.pick (.t 70) (.t 73) (.c (.one (.bool false)))),
 mX 12 2 74]
def f29r17 : List SOper := [
 pX 0 2 (.mv (.c (.one (.bool false))))]
def f29c : SC := (.seq (.ops f29r0 0) (.seq (.ops f29r1 0) (.seq (.seq (.ops f29r2 0) (.cond (.t 14) (.seq (.ops f29r3 0) .ret) .skip)) (.seq (.seq (.ops f29r4 0) (.block 0 (.loop f29b0))) (.seq (.seq (.ops f29r10 0) (.block 2 (.seq (.ops f29r11 0) (.cond (.t 43) (.seq (.ops f29r12 0) .ret) (.seq (.ops f29r13 0) (.cond (.t 52) (.seq (.ops f29r14 0) .ret) (.seq (.ops f29r15 0) (.cond (.t 61) (.seq (.ops f29r16 0) .ret) .skip)))))))) (.seq (.ops f29r17 0) .ret))))))
def f29 : SFn := ⟨75, f29c, [.t 2]⟩

def f30r0 : List SOper := [
 oX 0 1 (.a (.box (.t 0))),
 pX 1 2 (.mv (.c (.one (.bool false))))]
def f30r1 : List SOper := [
 aX 0 6 2 1,
 lX 1 7 6,
 pX 2 8 (.len (.t 7)),
 mX 3 3 8]
def f30r2 : List SOper := [
 pX 0 4 (.mv (.c (.one (.int .i64 0))))]
def f30r3 : List SOper := [
 mX 0 9 4,
 mX 1 10 3,
 pX 2 11 (.bin .lss (.t 9) (.t 10))]
def f30r4 : List SOper := [
 aX 0 14 2 1,
 lX 1 15 14,
 mX 2 16 4,
 iX 3 17 2 15 16,
 oX 4 18 (.l (.load true 2 (.t 17))),
 oX 5 5 (.a (.alloc [(.int .i64 0), (.int .i64 0)])),
⟨6, none, .e (.store 2 (.t 5) (.t 18)), none, none, [], false⟩]
def f30r5 : List SOper := [
 aX 0 19 0 5,
 lX 1 20 19,
 pX 2 21 (.bin .lss (.t 20) (.c (.one (.int .i64 0)))),
 mX 3 22 21,
⟨4, some 23, .p (.faddr 1 (.t 5)), (some (22, false)), none, [], false⟩,
⟨5, some 24, .l (.load false 1 (.t 23)), (some (22, false)), none, [], false⟩,
⟨6, some 25, .p (.bin .lss (.t 24) (.c (.one (.int .i64 0)))), (some (22, false)), none, [], false⟩,
 pX 7 26 (.pick (.t 22) (.c (.one (.bool true))) (.t 25)),
 mX 8 27 26,
⟨9, some 28, .p (.faddr 0 (.t 5)), (some (27, false)), none, [], false⟩,
⟨10, some 29, .l (.load false 1 (.t 28)), (some (27, false)), none, [], false⟩,
⟨11, some 30, .p (.bin .geq (.t 29) (.c (.one (.int .i64 60)))), (some (27, false)), none, [], false⟩,
 pX 12 31 (.pick (.t 27) (.c (.one (.bool true))) (.t 30)),
 mX 13 32 31,
⟨14, some 33, .p (.faddr 1 (.t 5)), (some (32, false)), none, [], false⟩,
⟨15, some 34, .l (.load false 1 (.t 33)), (some (32, false)), none, [], false⟩,
⟨16, some 35, .p (.bin .geq (.t 34) (.c (.one (.int .i64 60)))), (some (32, false)), none, [], false⟩,
 pX 17 36 (.pick (.t 32) (.c (.one (.bool true))) (.t 35))]
def f30r6 : List SOper := [
 pX 0 2 (.mv (.c (.one (.bool false))))]
def f30r7 : List SOper := [
 mX 0 12 4,
 pX 1 13 (.bin .add (.t 12) (.c (.one (.int .i64 1)))),
 mX 2 4 13]
def f30b0 : SC := (.seq (.seq (.ops f30r3 0) (.cond (.t 11) .skip (.exit 0))) (.seq (.block 1 (.seq (.ops f30r4 0) (.seq (.ops f30r5 0) (.cond (.t 36) (.seq (.ops f30r6 0) .ret) .skip)))) (.ops f30r7 0)))
def f30r8 : List SOper := [
 mX 0 37 3,
 pX 1 38 (.bin .gtr (.t 37) (.c (.one (.int .i64 12))))]
def f30r9 : List SOper := [
 pX 0 2 (.mv (.c (.one (.bool false))))]
def f30r10 : List SOper := [
 aX 0 39 0 1,
 lX 1 40 39]
def f30r11 : List SOper := [
 pX 0 42 (.bin .eql (.t 40) (.c (.one (.int .i64 1)))),
 mX 1 41 42]
def f30r12 : List SOper := [
 mX 0 43 3,
 pX 1 44 (.bin .eql (.t 43) (.c (.one (.int .i64 1)))),
 mX 2 45 44,
⟨3, some 46, .p (.faddr 1 (.t 1)), (some (45, true)), none, [], false⟩,
⟨4, some 47, .l (.load false 1 (.t 46)), (some (45, true)), none, [], false⟩,
⟨5, some 48, .p (.bin .eql (.t 47) (.c (.one (.int .i64 0)))), (some (45, true)), none, [], false⟩,
 pX 6 49 (.pick (.t 45) (.t 48) (.c (.one (.bool false)))),
 mX 7 2 49]
def f30r13 : List SOper := [
 pX 0 51 (.bin .eql (.t 40) (.c (.one (.int .i64 2)))),
 mX 1 50 51]
def f30r14 : List SOper := [
 mX 0 52 3,
 pX 1 53 (.bin .geq (.t 52) (.c (.one (.int .i64 2)))),
 mX 2 54 53,
⟨3, some 55, .p (.faddr 1 (.t 1)), (some (54, true)), none, [], false⟩,
⟨4, some 56, .l (.load false 1 (.t 55)), (some (54, true)), none, [], false⟩,
⟨5, some 57, .p (.bin .eql (.t 56) (.c (.one (.int .i64 0)))), (some (54, true)), none, [], false⟩,
 pX 6 58 (.pick (.t 54) (.t 57) (.c (.one (.bool false)))),
 mX 7 2 58]
def f30r15 : List SOper := [
 pX 0 60 (.bin .eql (.t 40) (.c (.one (.int .i64 3)))),
 mX 1 59 60]
def f30r16 : List SOper := [
 mX 0 61 3,
 pX 1 62 (.bin .geq (.t 61) (.c (.one (.int .i64 3)))),
 mX 2 63 62,
⟨3, some 64, .p (.faddr 1 (.t 1)), (some (63, true)), none, [], false⟩,
⟨4, some 65, .l (.load false 1 (.t 64)), (some (63, true)), none, [], false⟩,
⟨5, some 66, .p (.bin .geq (.t 65) (.c (.one (.int .i64 0)))), (some (63, true)), none, [], false⟩,
 pX 6 67 (.pick (.t 63) (.t 66) (.c (.one (.bool false)))),
 mX 7 68 67,
⟨8, some 69, .p (.faddr 1 (.t 1)), (some (68, true)), none, [], false⟩,
⟨9, some 70, .l (.load false 1 (.t 69)), (some (68, true)), none, [], false⟩,
⟨10, some 71, .p (.bin .leq (.t 70) (.c (.one (.int .i64 3)))), (some (68, true)), none, [], false⟩,
 pX 11 72 (.pick (.t 68) (.t 71) (.c (.one (.bool false)))),
 mX 12 2 72]
def f30r17 : List SOper := [
 pX 0 2 (.mv (.c (.one (.bool false))))]
def f30c : SC := (.seq (.ops f30r0 0) (.seq (.ops f30r1 0) (.seq (.seq (.ops f30r2 0) (.block 0 (.loop f30b0))) (.seq (.seq (.ops f30r8 0) (.cond (.t 38) (.seq (.ops f30r9 0) .ret) .skip)) (.seq (.seq (.ops f30r10 0) (.block 2 (.seq (.ops f30r11 0) (.cond (.t 41) (.seq (.ops f30r12 0) .ret) (.seq (.ops f30r13 0) (.cond (.t 50) (.seq (.ops f30r14 0) .ret) (.seq (.ops f30r15 0) (.cond (.t 59) (.seq (.ops f30r16 0) .ret) .skip)))))))) (.seq (.ops f30r17 0) .ret))))))
def f30 : SFn := ⟨73, f30c, [.t 2]⟩

def f31r0 : List SOper := [
 pX 0 6 (.mv (.c (.one (.bool false))))]
def f31r1 : List SOper := [
 pX 0 7 (.mv (.c (.one (.int .i64 0))))]
def f31r2 : List SOper := [
 mX 0 8 7,
 mX 1 9 0,
 pX 2 10 (.len (.t 9)),
 pX 3 11 (.bin .lss (.t 8) (.t 10))]
def f31r3 : List SOper := [
 mX 0 14 0,
 mX 1 15 7,
 iX 2 16 2 14 15,
 aX 3 17 0 16,
 lX 4 18 17,
 pX 5 19 (.bin .lss (.t 18) (.c (.one (.int .i64 0)))),
 mX 6 20 19,
 gX 7 21 0 20 false,
 gX 8 22 7 20 false,
⟨9, some 23, .p (.iaddr 2 (.t 21) (.t 22)), (some (20, false)), none, [], false⟩,
⟨10, some 24, .p (.faddr 0 (.t 23)), (some (20, false)), none, [], false⟩,
⟨11, some 25, .l (.load false 1 (.t 24)), (some (20, false)), none, [], false⟩,
 gX 12 26 1 20 false,
⟨13, some 27, .p (.bin .geq (.t 25) (.t 26)), (some (20, false)), none, [], false⟩,
 pX 14 28 (.pick (.t 20) (.c (.one (.bool true))) (.t 27)),
 mX 15 29 28,
 gX 16 30 0 29 false,
 gX 17 31 7 29 false,
⟨18, some 32, .p (.iaddr 2 (.t 30) (.t 31)), (some (29, false)), none, [], false⟩,
⟨19, some 33, .p (.faddr 1 (.t 32)), (some (29, false)), none, [], false⟩,
⟨20, some 34, .l (.load false 1 (.t 33)), (some (29, false)), none, [], false⟩,
⟨21, some 35, .p (.bin .lss (.t 34) (.c (.one (.int .i64 0)))), (some (29, false)), none, [], false⟩,
 pX 22 36 (.pick (.t 29) (.c (.one (.bool true))) (.t 35)),
 mX 23 37 36,
 gX 24 38 0 37 false,
 gX 25 39 7 37 false,
⟨26, some 40, .p (.iaddr 2 (.t 38) (.t 39)), (some (37, false)), none, [], false⟩,
⟨27, some 41, .p (.faddr 1 (.t 40)), (some (37, false)), none, [], false⟩,
⟨28, some 42, .l (.load false 1 (.t 41)), (some (37, false)), none, [], false⟩,
 gX 29 43 2 37 false,
⟨30, some 44, .p (.bin .geq (.t 42) (.t 43)), (some (37, false)), none, [], false⟩,
 pX 31 45 (.pick (.t 37) (.c (.one (.bool true))) (.t 44))]
def f31r4 : List SOper := [
 pX 0 6 (.mv (.c (.one (.bool false))))]
def f31r5 : List SOper := [
 mX 0 12 7,
 pX 1 13 (.bin .add (.t 12) (.c (.one (.int .i64 1)))),
 mX 2 7 13]
def f31b0 : SC := (.seq (.seq (.ops f31r2 0) (.cond (.t 11) .skip (.exit 0))) (.seq (.block 1 (.seq (.ops f31r3 0) (.cond (.t 45) (.seq (.ops f31r4 0) .ret) .skip))) (.ops f31r5 0)))
def f31r6 : List SOper := [
 pX 0 6 (.mv (.c (.one (.bool true))))]
def f31c : SC := (.seq (.ops f31r0 0) (.seq (.seq (.ops f31r1 0) (.block 0 (.loop f31b0))) (.seq (.ops f31r6 0) .ret)))
def f31 : SFn := ⟨46, f31c, [.t 6]⟩

def f32r0 : List SOper := [
 oX 0 1 (.a (.box (.t 0))),
 oX 1 2 (.a (.alloc [(.int .i64 0)])),
 oX 2 3 (.a (.alloc [(.int .i64 0)])),
 oX 3 4 (.a (.alloc [(.int .i64 0)]))]
def f32r1 : List SOper := [
 oX 0 10 (.l (.load true 4 (.t 1))),
 oX 1 11 (.cf 11 [(.t 10)]),
 pX 2 12 (.not (.t 11))]
def f32r2 : List SOper := [
⟨0, none, .e (.store 1 (.t 2) (.c (.one (.int .i64 0)))), none, none, [], false⟩,
⟨1, none, .e (.store 1 (.t 3) (.c (.one (.int .i64 0)))), none, none, [], false⟩,
⟨2, none, .e (.store 1 (.t 4) (.c (.one (.int .i64 1)))), none, none, [], false⟩]
def f32r3 : List SOper := [
 oX 0 13 (.l (.load true 4 (.t 1))),
 oX 1 14 (.cf 33 [(.t 13)]),
 oX 2 5 (.a (.alloc [.nils])),
⟨3, none, .e (.store 1 (.t 5) (.t 14)), none, none, [], false⟩]
def f32r4 : List SOper := [
 lX 0 15 5,
 pX 1 16 (.len (.t 15)),
 pX 2 17 (.mv (.c (.one (.int .i64 0))))]
def f32r5 : List SOper := [
 pX 0 18 (.bin .lss (.t 17) (.t 16))]
def f32r6 : List SOper := [
 mX 0 19 17,
 iX 1 20 1 15 17,
 lX 2 21 20,
 mX 3 6 19,
 mX 4 7 21]
def f32r7 : List SOper := [
 mX 0 22 7,
 aX 1 23 2 1,
 lX 2 24 23,
 oX 3 25 (.cf 43 [(.t 22), (.t 24)]),
 pX 4 26 (.len (.t 25)),
 pX 5 27 (.bin .neq (.t 26) (.c (.one (.int .i64 1))))]
def f32r8 : List SOper := [
 mX 0 28 6,
 mX 1 29 6,
⟨2, none, .e (.store 1 (.t 2) (.t 28)), none, none, [], false⟩,
⟨3, none, .e (.store 1 (.t 3) (.t 29)), none, none, [], false⟩,
⟨4, none, .e (.store 1 (.t 4) (.c (.one (.int .i64 130)))), none, none, [], false⟩]
def f32r9 : List SOper := [
 pX 0 30 (.bin .add (.t 17) (.c (.one (.int .i64 1)))),
 mX 1 17 30]
def f32b0 : SC := (.seq (.ops f32r5 0) (.seq (.cond (.t 18) .skip (.exit 0)) (.seq (.block 1 (.seq (.ops f32r6 0) (.seq (.ops f32r7 0) (.cond (.t 27) (.seq (.ops f32r8 0) .ret) .skip)))) (.ops f32r9 0))))
def f32r10 : List SOper := [
 lX 0 31 5,
 pX 1 32 (.len (.t 31)),
 oX 2 33 (.cf 34 [(.t 32)])]
def f32r11 : List SOper := [
 mX 0 8 34]
def f32r12 : List SOper := [
 mX 0 9 35]
def f32r13 : List SOper := [
 lX 0 36 5,
 mX 1 37 8,
 iX 2 38 1 36 37,
 lX 3 39 38,
 lX 4 40 5,
 mX 5 41 9,
 iX 6 42 1 40 41,
 lX 7 43 42,
 aX 9 45 2 1,
⟨10, some 46, .l (.load false 1 (.t 45)), none, none, [], true⟩,
⟨8, some 44, .cf 35 [(.t 39), (.t 43)], none, none, [10], false⟩,
 pX 11 47 (.bin .leq (.t 44) (.t 46))]
def f32r14 : List SOper := [
 mX 0 48 8,
 mX 1 49 9,
⟨2, none, .e (.store 1 (.t 2) (.t 48)), none, none, [], false⟩,
⟨3, none, .e (.store 1 (.t 3) (.t 49)), none, none, [], false⟩,
⟨4, none, .e (.store 1 (.t 4) (.c (.one (.int .i64 140)))), none, none, [], false⟩]
def f32b1 : SC := (.block 3 (.seq (.ops f32r13 12) (.cond (.t 47) (.seq (.ops f32r14 0) .ret) .skip)))
def f32r15 : List SOper := [
⟨0, none, .e (.store 1 (.t 2) (.c (.one (.int .i64 0)))), none, none, [], false⟩,
⟨1, none, .e (.store 1 (.t 3) (.c (.one (.int .i64 0)))), none, none, [], false⟩,
⟨2, none, .e (.store 1 (.t 4) (.c (.one (.int .i64 0)))), none, none, [], false⟩]
def f32c : SC := (.seq (.ops f32r0 0) (.seq (.seq (.ops f32r1 0) (.cond (.t 12) (.seq (.ops f32r2 0) .ret) .skip)) (.seq (.ops f32r3 0) (.seq (.seq (.ops f32r4 0) (.block 0 (.loop f32b0))) (.seq (.seq (.ops f32r10 0) (.block 2 (.rf (.t 33) [34, 35] (.seq (.ops f32r11 0) (.ops f32r12 0)) f32b1))) (.seq (.ops f32r15 0) .ret))))))
def f32 : SFn := ⟨50, f32c, [.cell false 1 2, .cell false 1 3, .cell false 1 4]⟩

def f33r0 : List SOper := [
 oX 0 1 (.a (.box (.t 0))),
 pX 1 2 (.mv (.c (.one .nils)))]
def f33r1 : List SOper := [
 aX 0 5 3 1,
 lX 1 6 5,
 pX 2 7 (.len (.t 6)),
 oX 3 8 (.a (.mkslice 1 24 [.nils] (.t 7) (.t 7))),
 mX 4 3 8]
def f33r2 : List SOper := [
 aX 0 9 3 1,
 lX 1 10 9,
 pX 2 11 (.len (.t 10)),
 pX 3 12 (.mv (.c (.one (.int .i64 0))))]
def f33r3 : List SOper := [
 pX 0 13 (.bin .lss (.t 12) (.t 11))]
def f33r4 : List SOper := [
 mX 0 14 12,
 mX 1 4 14]
def f33r5 : List SOper := [
 mX 0 15 3,
 mX 1 16 4,
 aX 2 17 3 1,
 lX 3 18 17,
 mX 4 19 4,
 iX 5 20 3 18 19,
 oX 6 21 (.l (.load true 3 (.t 20))),
 oX 7 22 (.cf 44 [(.t 21)]),
 iX 8 23 1 15 16,
⟨9, none, .e (.store 1 (.t 23) (.t 22)), none, none, [], false⟩]
def f33r6 : List SOper := [
 pX 0 24 (.bin .add (.t 12) (.c (.one (.int .i64 1)))),
 mX 1 12 24]
def f33b0 : SC := (.seq (.ops f33r3 0) (.seq (.cond (.t 13) .skip (.exit 0)) (.seq (.block 1 (.seq (.ops f33r4 0) (.ops f33r5 0))) (.ops f33r6 0))))
def f33r7 : List SOper := [
 mX 0 25 3,
 mX 1 2 25]
def f33c : SC := (.seq (.ops f33r0 0) (.seq (.ops f33r1 0) (.seq (.seq (.ops f33r2 0) (.block 0 (.loop f33b0))) (.seq (.ops f33r7 0) .ret))))
def f33 : SFn := ⟨26, f33c, [.t 2]⟩

def f34r0 : List SOper := [
 oX 0 1 (.a (.box (.t 0))),
 pX 1 2 (.mv (.c (.one .nilf)))]
def f34r1 : List SOper := [
 pX 0 3 (.mkfn 45 [(.t 1)]),
 mX 1 2 3]
def f34c : SC := (.seq (.ops f34r0 0) (.seq (.ops f34r1 0) .ret))
def f34 : SFn := ⟨4, f34c, [.t 2]⟩

def f35r0 : List SOper := [
 pX 0 4 (.mv (.c (.one (.int .i64 0))))]
def f35r1 : List SOper := [
 mX 0 10 0,
 pX 1 11 (.len (.t 10)),
 pX 2 12 (.bin .eql (.t 11) (.c (.one (.int .i64 0)))),
 mX 3 13 12,
 gX 4 14 1 13 false,
⟨5, some 15, .p (.len (.t 14)), (some (13, false)), none, [], false⟩,
⟨6, some 16, .p (.bin .eql (.t 15) (.c (.one (.int .i64 0)))), (some (13, false)), none, [], false⟩,
 pX 7 17 (.pick (.t 13) (.c (.one (.bool true))) (.t 16))]
def f35r2 : List SOper := [
 pX 0 4 (.mv (.c (.one (.int .i64 (-1)))))]
def f35r3 : List SOper := [
 mX 0 18 0,
 pX 1 19 (.len (.t 18)),
 mX 2 20 1,
 pX 3 21 (.len (.t 20)),
 pX 4 22 (.bin .mul (.t 19) (.t 21)),
 pX 5 23 (.bin .gtr (.t 22) (.c (.one (.int .i64 65536)))),
 mX 6 24 23,
 gX 7 25 0 24 true,
⟨8, some 26, .cf 46 [(.t 25)], (some (24, true)), none, [], false⟩,
 pX 9 27 (.pick (.t 24) (.t 26) (.c (.one (.bool false)))),
 mX 10 28 27,
 gX 11 29 1 28 true,
⟨12, some 30, .cf 46 [(.t 29)], (some (28, true)), none, [], false⟩,
 pX 13 31 (.pick (.t 28) (.t 30) (.c (.one (.bool false))))]
def f35r4 : List SOper := [
 mX 0 32 0,
 mX 1 33 1,
 oX 2 34 (.cf 47 [(.t 32), (.t 33)]),
 mX 3 4 34]
def f35r5 : List SOper := [
 mX 0 35 0,
 pX 1 36 (.iaddr 2 (.t 35) (.c (.one (.int .i64 0)))),
 oX 2 37 (.l (.load true 2 (.t 36))),
 mX 3 38 1,
 pX 4 39 (.iaddr 2 (.t 38) (.c (.one (.int .i64 0)))),
 oX 5 40 (.l (.load true 2 (.t 39))),
 oX 6 41 (.cf 48 [(.t 37), (.t 40)]),
 mX 7 5 41]
def f35r6 : List SOper := [
 mX 0 42 0,
 pX 1 43 (.len (.t 42)),
 pX 2 44 (.mv (.c (.one (.int .i64 0))))]
def f35r7 : List SOper := [
 pX 0 45 (.bin .lss (.t 44) (.t 43))]
def f35r8 : List SOper := [
 iX 0 46 2 42 44,
 oX 1 47 (.l (.load true 2 (.t 46))),
 oX 2 7 (.a (.alloc [(.int .i64 0), (.int .i64 0)])),
⟨3, none, .e (.store 2 (.t 7) (.t 47)), none, none, [], false⟩]
def f35r9 : List SOper := [
 mX 0 48 1,
 pX 1 49 (.len (.t 48)),
 pX 2 50 (.mv (.c (.one (.int .i64 0))))]
def f35r10 : List SOper := [
 pX 0 51 (.bin .lss (.t 50) (.t 49))]
def f35r11 : List SOper := [
 iX 0 52 2 48 50,
 oX 1 53 (.l (.load true 2 (.t 52))),
 oX 2 9 (.a (.alloc [(.int .i64 0), (.int .i64 0)])),
⟨3, none, .e (.store 2 (.t 9) (.t 53)), none, none, [], false⟩]
def f35r12 : List SOper := [
 mX 0 54 5,
 oX 1 55 (.l (.load true 2 (.t 7))),
 oX 2 56 (.l (.load true 2 (.t 9))),
 oX 3 57 (.cf 48 [(.t 55), (.t 56)]),
 pX 4 58 (.mm false (.t 54) (.t 57)),
 mX 5 5 58]
def f35r13 : List SOper := [
 pX 0 59 (.bin .add (.t 50) (.c (.one (.int .i64 1)))),
 mX 1 50 59]
def f35b0 : SC := (.seq (.ops f35r10 0) (.seq (.cond (.t 51) .skip (.exit 2)) (.seq (.block 3 (.seq (.ops f35r11 0) (.ops f35r12 0))) (.ops f35r13 0))))
def f35r14 : List SOper := [
 pX 0 60 (.bin .add (.t 44) (.c (.one (.int .i64 1)))),
 mX 1 44 60]
def f35b1 : SC := (.seq (.ops f35r7 0) (.seq (.cond (.t 45) .skip (.exit 0)) (.seq (.block 1 (.seq (.ops f35r8 0) (.seq (.ops f35r9 0) (.block 2 (.loop f35b0))))) (.ops f35r14 0))))
def f35r15 : List SOper := [
 mX 0 61 5,
 mX 1 4 61]
def f35c : SC := (.seq (.ops f35r0 0) (.seq (.seq (.ops f35r1 0) (.cond (.t 17) (.seq (.ops f35r2 0) .ret) .skip)) (.seq (.seq (.ops f35r3 0) (.cond (.t 31) (.seq (.ops f35r4 0) .ret) .skip)) (.seq (.ops f35r5 8) (.seq (.seq (.ops f35r6 0) (.block 0 (.loop f35b1))) (.seq (.ops f35r15 0) .ret))))))
def f35 : SFn := ⟨62, f35c, [.t 4]⟩

def f37r0 : List SOper := [
 pX 0 2 (.mv (.c (.one .nils)))]
def f37r1 : List SOper := [
 pX 0 9 (.build (List.replicate 3600 (.bool false)) []),
 oX 1 3 (.a (.alloc (List.replicate 3600 (.bool false)))),
⟨2, none, .e (.store 3600 (.t 3) (.t 9)), none, none, [], false⟩]
def f37r2 : List SOper := [
 pX 0 4 (.mv (.c (.one (.int .i64 0))))]
def f37r3 : List SOper := [
 mX 0 10 4,
 mX 1 11 0,
 pX 2 12 (.len (.t 11)),
 pX 3 13 (.bin .lss (.t 10) (.t 12))]
def f37r4 : List SOper := [
 mX 0 16 0,
 mX 1 17 4,
 iX 2 18 2 16 17,
 oX 3 19 (.l (.load true 2 (.t 18))),
 oX 4 5 (.a (.alloc [(.int .i64 0), (.int .i64 0)])),
⟨5, none, .e (.store 2 (.t 5) (.t 19)), none, none, [], false⟩]
def f37r5 : List SOper := [
 aX 0 20 0 5,
 lX 1 21 20,
 pX 2 22 (.bin .geq (.t 21) (.c (.one (.int .i64 0)))),
 mX 3 23 22,
⟨4, some 24, .p (.faddr 1 (.t 5)), (some (23, true)), none, [], false⟩,
⟨5, some 25, .l (.load false 1 (.t 24)), (some (23, true)), none, [], false⟩,
⟨6, some 26, .p (.bin .geq (.t 25) (.c (.one (.int .i64 0)))), (some (23, true)), none, [], false⟩,
 pX 7 27 (.pick (.t 23) (.t 26) (.c (.one (.bool false)))),
 mX 8 28 27,
⟨9, some 29, .p (.faddr 0 (.t 5)), (some (28, true)), none, [], false⟩,
⟨10, some 30, .l (.load false 1 (.t 29)), (some (28, true)), none, [], false⟩,
⟨11, some 31, .p (.bin .lss (.t 30) (.c (.one (.int .i64 60)))), (some (28, true)), none, [], false⟩,
 pX 12 32 (.pick (.t 28) (.t 31) (.c (.one (.bool false)))),
 mX 13 33 32,
⟨14, some 34, .p (.faddr 1 (.t 5)), (some (33, true)), none, [], false⟩,
⟨15, some 35, .l (.load false 1 (.t 34)), (some (33, true)), none, [], false⟩,
⟨16, some 36, .p (.bin .lss (.t 35) (.c (.one (.int .i64 60)))), (some (33, true)), none, [], false⟩,
 pX 17 37 (.pick (.t 33) (.t 36) (.c (.one (.bool false))))]
def f37r6 : List SOper := [
 aX 0 38 1 5,
 lX 1 39 38,
 aX 2 40 0 5,
 lX 3 41 40,
 pX 4 42 (.aaddr 60 60 (.t 3) (.t 39)),
 pX 5 43 (.aaddr 60 1 (.t 42) (.t 41)),
⟨6, none, .e (.store 1 (.t 43) (.c (.one (.bool true)))), none, none, [], false⟩]
def f37r7 : List SOper := [
 mX 0 14 4,
 pX 1 15 (.bin .add (.t 14) (.c (.one (.int .i64 1)))),
 mX 2 4 15]
def f37b0 : SC := (.seq (.seq (.ops f37r3 0) (.cond (.t 13) .skip (.exit 0))) (.seq (.block 1 (.seq (.ops f37r4 0) (.seq (.ops f37r5 0) (.cond (.t 37) (.ops f37r6 7) .skip)))) (.ops f37r7 0)))
def f37r8 : List SOper := [
 oX 0 44 (.a (.bslice 2 0 [(.int .i64 0), (.int .i64 0)] [])),
 mX 1 6 44]
def f37r9 : List SOper := [
 pX 0 7 (.mv (.c (.one (.int .i64 0))))]
def f37r10 : List SOper := [
 mX 0 45 7,
 pX 1 46 (.bin .lss (.t 45) (.c (.one (.int .i64 60))))]
def f37r11 : List SOper := [
 pX 0 8 (.mv (.c (.one (.int .i64 0))))]
def f37r12 : List SOper := [
 mX 0 49 8,
 pX 1 50 (.bin .lss (.t 49) (.c (.one (.int .i64 60))))]
def f37r13 : List SOper := [
 mX 0 53 7,
 mX 1 54 8,
 pX 2 55 (.aaddr 60 60 (.t 3) (.t 53)),
 pX 3 56 (.aaddr 60 1 (.t 55) (.t 54)),
 lX 4 57 56]
def f37r14 : List SOper := [
 mX 0 58 6,
 mX 1 59 8,
 mX 2 60 7,
 pX 3 61 (.build [(.int .i64 0), (.int .i64 0)] [(0, 1, (.t 59)), (1, 1, (.t 60))]),
 oX 4 62 (.a (.bslice 2 1 [(.int .i64 0), (.int .i64 0)] [(0, 2, (.t 61))])),
 oX 5 63 (.e (.append 2 16 (.t 58) (.t 62))),
 mX 6 6 63]
def f37r15 : List SOper := [
 mX 0 51 8,
 pX 1 52 (.bin .add (.t 51) (.c (.one (.int .i64 1)))),
 mX 2 8 52]
def f37b1 : SC := (.seq (.seq (.ops f37r12 0) (.cond (.t 50) .skip (.exit 4))) (.seq (.block 5 (.seq (.ops f37r13 0) (.cond (.t 57) (.ops f37r14 0) .skip))) (.ops f37r15 0)))
def f37r16 : List SOper := [
 mX 0 47 7,
 pX 1 48 (.bin .add (.t 47) (.c (.one (.int .i64 1)))),
 mX 2 7 48]
def f37b2 : SC := (.seq (.seq (.ops f37r10 0) (.cond (.t 46) .skip (.exit 2))) (.seq (.block 3 (.seq (.ops f37r11 0) (.block 4 (.loop f37b1)))) (.ops f37r16 0)))
def f37r17 : List SOper := [
 mX 0 64 6,
 mX 1 2 64]
def f37c : SC := (.seq (.ops f37r0 0) (.seq (.ops f37r1 0) (.seq (.seq (.ops f37r2 0) (.block 0 (.loop f37b0))) (.seq (.ops f37r8 0) (.seq (.seq (.ops f37r9 0) (.block 2 (.loop f37b2))) (.seq (.ops f37r17 0) .ret))))))
def f37 : SFn := ⟨65, f37c, [.t 2]⟩

def f38r0 : List SOper := [
 pX 0 4 (.mv (.c (.one .nils)))]
def f38r1 : List SOper := [
 oX 0 9 (.a (.bslice 2 0 [(.int .i64 0), (.int .i64 0)] [])),
 mX 1 5 9]
def f38r2 : List SOper := [
 pX 0 6 (.mv (.c (.one (.int .i64 0))))]
def f38r3 : List SOper := [
 mX 0 10 6,
 mX 1 11 1,
 pX 2 12 (.bin .lss (.t 10) (.t 11))]
def f38r4 : List SOper := [
 mX 0 16 0,
 mX 1 17 6,
 oX 2 18 (.cf 49 [(.t 16), (.t 17)]),
 mX 3 15 18,
 pX 4 19 (.extract (.t 15) 0),
 pX 5 20 (.extract (.t 15) 1),
 oX 6 7 (.a (.alloc [(.int .i64 0), (.int .i64 0)])),
 oX 7 8 (.a (.alloc [(.int .i64 0), (.int .i64 0)])),
⟨8, none, .e (.store 2 (.t 7) (.t 19)), none, none, [], false⟩,
⟨9, none, .e (.store 2 (.t 8) (.t 20)), none, none, [], false⟩]
def f38r5 : List SOper := [
 mX 0 21 5,
 oX 1 22 (.l (.load true 2 (.t 7))),
 oX 2 23 (.l (.load true 2 (.t 8))),
 oX 3 24 (.cf 50 [(.t 22), (.t 23)]),
 oX 4 25 (.e (.append 2 16 (.t 21) (.t 24))),
 mX 5 5 25]
def f38r6 : List SOper := [
 mX 0 13 6,
 pX 1 14 (.bin .add (.t 13) (.c (.one (.int .i64 1)))),
 mX 2 6 14]
def f38b0 : SC := (.seq (.seq (.ops f38r3 0) (.cond (.t 12) .skip (.exit 0))) (.seq (.block 1 (.seq (.ops f38r4 0) (.ops f38r5 0))) (.ops f38r6 0)))
def f38r7 : List SOper := [
 mX 0 26 5,
 mX 1 4 26]
def f38c : SC := (.seq (.ops f38r0 0) (.seq (.ops f38r1 0) (.seq (.seq (.ops f38r2 0) (.block 0 (.loop f38b0))) (.seq (.ops f38r7 0) .ret))))
def f38 : SFn := ⟨27, f38c, [.t 4]⟩

def f39r0 : List SOper := [
 oX 0 3 (.a (.box (.t 1))),
 pX 1 4 (.mv (.c (.one (.bool false))))]
def f39r1 : List SOper := [
 mX 0 5 0,
 pX 1 6 (.bin .eql (.t 5) (.c (.one (.int .i64 3)))),
 mX 2 7 6,
 gX 3 8 0 7 false,
⟨4, some 9, .p (.bin .eql (.t 8) (.c (.one (.int .i64 2)))), (some (7, false)), none, [], false⟩,
 gX 5 10 9 7 false,
⟨6, some 11, .p (.faddr 1 (.t 3)), (some (10, true)), none, [], false⟩,
⟨7, some 12, .l (.load false 1 (.t 11)), (some (10, true)), none, [], false⟩,
⟨8, some 13, .p (.bin .rem (.t 12) (.c (.one (.int .i64 2)))), (some (10, true)), none, [], false⟩,
⟨9, some 14, .p (.bin .eql (.t 13) (.c (.one (.int .i64 0)))), (some (10, true)), none, [], false⟩,
⟨10, some 15, .p (.pick (.t 10) (.t 14) (.c (.one (.bool false)))), (some (7, false)), none, [], false⟩,
 pX 11 16 (.pick (.t 7) (.c (.one (.bool true))) (.t 15)),
 mX 12 17 16,
 gX 13 18 0 17 false,
⟨14, some 19, .p (.bin .eql (.t 18) (.c (.one (.int .i64 1)))), (some (17, false)), none, [], false⟩,
 gX 15 20 19 17 false,
⟨16, some 21, .p (.faddr 0 (.t 3)), (some (20, true)), none, [], false⟩,
⟨17, some 22, .l (.load false 1 (.t 21)), (some (20, true)), none, [], false⟩,
⟨18, some 23, .p (.faddr 1 (.t 3)), (some (20, true)), none, [], false⟩,
⟨19, some 24, .l (.load false 1 (.t 23)), (some (20, true)), none, [], false⟩,
⟨20, some 25, .p (.bin .add (.t 22) (.t 24)), (some (20, true)), none, [], false⟩,
⟨21, some 26, .p (.bin .rem (.t 25) (.c (.one (.int .i64 2)))), (some (20, true)), none, [], false⟩,
⟨22, some 27, .p (.bin .eql (.t 26) (.c (.one (.int .i64 0)))), (some (20, true)), none, [], false⟩,
⟨23, some 28, .p (.pick (.t 20) (.t 27) (.c (.one (.bool false)))), (some (17, false)), none, [], false⟩,
 pX 24 29 (.pick (.t 17) (.c (.one (.bool true))) (.t 28)),
 mX 25 4 29]
def f39c : SC := (.seq (.ops f39r0 0) (.seq (.ops f39r1 0) .ret))
def f39 : SFn := ⟨30, f39c, [.t 4]⟩

def f40r0 : List SOper := [
 oX 0 3 (.a (.box (.t 1))),
 pX 1 4 (.mv (.c (.one (.bool false))))]
def f40r1 : List SOper := [
 pX 0 5 (.mv (.c (.one (.bool false))))]
def f40r2 : List SOper := [
 pX 0 6 (.mv (.c (.one (.int .i64 0))))]
def f40r3 : List SOper := [
 mX 0 9 6,
 mX 1 10 0,
 pX 2 11 (.len (.t 10)),
 pX 3 12 (.bin .lss (.t 9) (.t 11))]
def f40r4 : List SOper := [
 mX 0 16 0,
 mX 1 17 6,
 oX 2 18 (.cf 49 [(.t 16), (.t 17)]),
 mX 3 15 18,
 pX 4 19 (.extract (.t 15) 0),
 pX 5 20 (.extract (.t 15) 1),
 oX 6 7 (.a (.alloc [(.int .i64 0), (.int .i64 0)])),
 oX 7 8 (.a (.alloc [(.int .i64 0), (.int .i64 0)])),
⟨8, none, .e (.store 2 (.t 7) (.t 19)), none, none, [], false⟩,
⟨9, none, .e (.store 2 (.t 8) (.t 20)), none, none, [], false⟩]
def f40r5 : List SOper := [
 oX 0 21 (.l (.load true 2 (.t 7))),
 oX 1 22 (.l (.load true 2 (.t 8))),
 oX 2 23 (.l (.load true 2 (.t 3))),
 oX 3 24 (.cf 51 [(.t 21), (.t 22), (.t 23)])]
def f40r6 : List SOper := [
 pX 0 4 (.mv (.c (.one (.bool true))))]
def f40r7 : List SOper := [
 oX 0 25 (.l (.load true 2 (.t 7))),
 oX 1 26 (.l (.load true 2 (.t 8))),
 oX 2 27 (.l (.load true 2 (.t 3))),
 oX 3 28 (.cf 52 [(.t 25), (.t 26), (.t 27)])]
def f40r8 : List SOper := [
 mX 0 29 5,
 pX 1 30 (.not (.t 29)),
 mX 2 5 30]
def f40r9 : List SOper := [
 mX 0 13 6,
 pX 1 14 (.bin .add (.t 13) (.c (.one (.int .i64 1)))),
 mX 2 6 14]
def f40b0 : SC := (.seq (.seq (.ops f40r3 0) (.cond (.t 12) .skip (.exit 0))) (.seq (.block 1 (.seq (.ops f40r4 0) (.seq (.seq (.ops f40r5 0) (.cond (.t 24) (.seq (.ops f40r6 0) .ret) .skip)) (.seq (.ops f40r7 0) (.cond (.t 28) (.ops f40r8 0) .skip))))) (.ops f40r9 0)))
def f40r10 : List SOper := [
 mX 0 31 5,
 mX 1 4 31]
def f40c : SC := (.seq (.ops f40r0 0) (.seq (.ops f40r1 0) (.seq (.seq (.ops f40r2 0) (.block 0 (.loop f40b0))) (.seq (.ops f40r10 0) .ret))))
def f40 : SFn := ⟨32, f40c, [.t 4]⟩

def f41r0 : List SOper := [
 pX 0 2 (.mv (.c (.one (.int .i64 0))))]
def f41r1 : List SOper := [
 mX 0 3 0,
 mX 1 4 0,
 pX 2 5 (.neg (.t 4)),
 pX 3 6 (.mm true (.t 3) (.t 5)),
 mX 4 2 6]
def f41c : SC := (.seq (.ops f41r0 0) (.seq (.ops f41r1 0) .ret))
def f41 : SFn := ⟨7, f41c, [.t 2]⟩

def f43r0 : List SOper := [
 pX 0 4 (.mv (.c (.one .nils)))]
def f43r1 : List SOper := [
 mX 0 18 0,
 oX 1 19 (.cf 53 [(.t 18)]),
 mX 2 5 19]
def f43r2 : List SOper := [
 mX 0 20 5,
 oX 1 21 (.cf 54 [(.t 20), (.c (.one (.fn 55 [])))])]
def f43r3 : List SOper := [
 mX 0 22 5,
 oX 1 23 (.cf 56 [(.t 22)]),
 mX 2 5 23]
def f43r4 : List SOper := [
 oX 0 24 (.a (.mkmap)),
 mX 1 25 5,
 pX 2 26 (.len (.t 25)),
 oX 3 6 (.a (.alloc [.nilm])),
 oX 4 7 (.a (.alloc [(.int .i64 0)])),
⟨5, none, .e (.store 1 (.t 6) (.t 24)), none, none, [], false⟩,
⟨6, none, .e (.store 1 (.t 7) (.t 26)), none, none, [], false⟩]
def f43r5 : List SOper := [
 mX 0 27 5,
 pX 1 28 (.len (.t 27)),
 pX 2 29 (.mv (.c (.one (.int .i64 0))))]
def f43r6 : List SOper := [
 pX 0 30 (.bin .lss (.t 29) (.t 28))]
def f43r7 : List SOper := [
 iX 0 31 2 27 29,
 oX 1 32 (.l (.load true 2 (.t 31))),
 oX 2 9 (.a (.alloc [(.int .i64 0), (.int .i64 0)])),
⟨3, none, .e (.store 2 (.t 9) (.t 32)), none, none, [], false⟩]
def f43r8 : List SOper := [
⟨0, some 33, .l (.load false 1 (.t 6)), none, none, [], true⟩,
 aX 1 34 1 9,
⟨2, some 35, .l (.load false 1 (.t 34)), none, none, [], true⟩,
 lX 3 36 6,
 aX 4 37 1 9,
 lX 5 38 37,
 oX 6 39 (.l (.lookup (.one .nils) false (.t 36) (.t 38))),
 aX 7 40 0 9,
 lX 8 41 40,
⟨9, some 42, .a (.bslice 1 1 [(.int .i64 0)] [(0, 1, (.t 41))]), none, (some 9), [], false⟩,
⟨10, some 43, .e (.append 1 8 (.t 39) (.t 42)), none, none, [2, 0], false⟩,
⟨11, none, .e (.mapupd (.t 33) (.t 35) (.t 43)), none, none, [], false⟩]
def f43r9 : List SOper := [
 pX 0 44 (.bin .add (.t 29) (.c (.one (.int .i64 1)))),
 mX 1 29 44]
def f43b0 : SC := (.seq (.ops f43r6 0) (.seq (.cond (.t 30) .skip (.exit 0)) (.seq (.block 1 (.seq (.ops f43r7 0) (.ops f43r8 12))) (.ops f43r9 0))))
def f43r10 : List SOper := [
 pX 0 45 (.mkfn 57 [(.t 6), (.t 7)]),
 mX 1 10 45]
def f43r11 : List SOper := [
 mX 0 46 1,
 pX 1 47 (.mm true (.t 46) (.c (.one (.int .i64 0)))),
 pX 2 48 (.mm false (.t 47) (.c (.one (.int .i64 2000)))),
 mX 3 1 48]
def f43r12 : List SOper := [
 pX 0 11 (.mv (.c (.one .nils)))]
def f43r13 : List SOper := [
 mX 0 49 5,
 pX 1 50 (.len (.t 49)),
 pX 2 51 (.mv (.c (.one (.int .i64 0))))]
def f43r14 : List SOper := [
 pX 0 52 (.bin .lss (.t 51) (.t 50))]
def f43r15 : List SOper := [
 iX 0 53 2 49 51,
 oX 1 54 (.l (.load true 2 (.t 53))),
 oX 2 13 (.a (.alloc [(.int .i64 0), (.int .i64 0)])),
⟨3, none, .e (.store 2 (.t 13) (.t 54)), none, none, [], false⟩]
def f43r16 : List SOper := [
 mX 0 55 10,
 aX 1 56 1 13,
 lX 2 57 56,
 aX 3 58 0 13,
 lX 4 59 58,
 aX 5 60 0 13,
 lX 6 61 60,
 oX 7 62 (.cv (.t 55) [(.t 57), (.t 59), (.t 61)]),
 mX 8 14 62]
def f43r17 : List SOper := [
 mX 0 63 14,
 pX 1 64 (.len (.t 63)),
 pX 2 65 (.bin .eql (.t 64) (.c (.one (.int .i64 0))))]
def f43r18 : List SOper := [
 pX 0 15 (.mv (.c (.one (.int .i64 0))))]
def f43r19 : List SOper := [
 mX 0 66 15,
 mX 1 67 14,
 pX 2 68 (.len (.t 67)),
 pX 3 69 (.bin .lss (.t 66) (.t 68)),
 mX 4 70 69,
⟨5, some 71, .l (.load false 1 (.t 7)), (some (70, true)), none, [], false⟩,
⟨6, some 72, .p (.bin .gtr (.t 71) (.c (.one (.int .i64 0)))), (some (70, true)), none, [], false⟩,
 pX 7 73 (.pick (.t 70) (.t 72) (.c (.one (.bool false))))]
def f43r20 : List SOper := [
 mX 0 76 14,
 mX 1 77 15,
 iX 2 78 2 76 77,
 oX 3 79 (.l (.load true 2 (.t 78))),
 oX 4 16 (.a (.alloc [(.int .i64 0), (.int .i64 0)])),
⟨5, none, .e (.store 2 (.t 16) (.t 79)), none, none, [], false⟩]
def f43r21 : List SOper := [
 mX 0 80 1,
 pX 1 81 (.neg (.t 80)),
 mX 2 17 81]
def f43r22 : List SOper := [
 mX 0 82 17,
 mX 1 83 1,
 pX 2 84 (.bin .leq (.t 82) (.t 83))]
def f43r23 : List SOper := [
 mX 0 87 14,
 mX 1 88 10,
 aX 2 89 1 16,
 lX 3 90 89,
 mX 4 91 17,
 pX 5 92 (.bin .add (.t 90) (.t 91)),
 aX 6 93 0 16,
 lX 7 94 93,
 mX 8 95 1,
 pX 9 96 (.bin .sub (.t 94) (.t 95)),
 aX 10 97 0 16,
 lX 11 98 97,
 mX 12 99 1,
 pX 13 100 (.bin .add (.t 98) (.t 99)),
 oX 14 101 (.cv (.t 88) [(.t 92), (.t 96), (.t 100)]),
 oX 15 102 (.e (.append 2 16 (.t 87) (.t 101))),
 mX 16 14 102]
def f43r24 : List SOper := [
 mX 0 85 17,
 pX 1 86 (.bin .add (.t 85) (.c (.one (.int .i64 1)))),
 mX 2 17 86]
def f43b1 : SC := (.seq (.seq (.ops f43r22 0) (.cond (.t 84) .skip (.exit 6))) (.seq (.block 7 (.ops f43r23 0)) (.ops f43r24 0)))
def f43r25 : List SOper := [
 mX 0 74 15,
 pX 1 75 (.bin .add (.t 74) (.c (.one (.int .i64 1)))),
 mX 2 15 75]
def f43b2 : SC := (.seq (.seq (.ops f43r19 0) (.cond (.t 73) .skip (.exit 4))) (.seq (.block 5 (.seq (.ops f43r20 0) (.seq (.ops f43r21 0) (.block 6 (.loop f43b1))))) (.ops f43r25 0)))
def f43r26 : List SOper := [
 mX 0 103 14,
 oX 1 104 (.cf 54 [(.t 103), (.c (.one (.fn 55 [])))])]
def f43r27 : List SOper := [
 mX 0 105 11,
 mX 1 106 14,
 oX 2 107 (.a (.bslice 1 1 [.nils] [(0, 1, (.t 106))])),
 oX 3 108 (.e (.append 1 24 (.t 105) (.t 107))),
 mX 4 11 108]
def f43r28 : List SOper := [
 pX 0 109 (.bin .add (.t 51) (.c (.one (.int .i64 1)))),
 mX 1 51 109]
def f43b3 : SC := (.seq (.ops f43r14 0) (.seq (.cond (.t 52) .skip (.exit 2)) (.seq (.block 3 (.seq (.ops f43r15 0) (.seq (.ops f43r16 0) (.seq (.seq (.ops f43r17 0) (.cond (.t 65) (.exit 3) .skip)) (.seq (.seq (.ops f43r18 0) (.block 4 (.loop f43b2))) (.seq (.ops f43r26 0) (.ops f43r27 0))))))) (.ops f43r28 0))))
def f43r29 : List SOper := [
 mX 0 110 11,
 mX 1 4 110]
def f43c : SC := (.seq (.ops f43r0 0) (.seq (.ops f43r1 0) (.seq (.ops f43r2 0) (.seq (.ops f43r3 0) (.seq (.ops f43r4 0) (.seq (.seq (.ops f43r5 0) (.block 0 (.loop f43b0))) (.seq (.ops f43r10 0) (.seq (.ops f43r11 0) (.seq (.ops f43r12 0) (.seq (.seq (.ops f43r13 0) (.block 2 (.loop f43b3))) (.seq (.ops f43r29 0) .ret)))))))))))
def f43 : SFn := ⟨111, f43c, [.t 4]⟩

def f44r0 : List SOper := [
 oX 0 1 (.a (.box (.t 0))),
 pX 1 2 (.mv (.c (.one .nils)))]
def f44r1 : List SOper := [
 oX 0 12 (.l (.load true 3 (.t 1))),
 oX 1 13 (.cf 29 [(.t 12)]),
 pX 2 14 (.not (.t 13))]
def f44r2 : List SOper := [
 pX 0 2 (.mv (.c (.one .nils)))]
def f44r3 : List SOper := [
 aX 0 15 0 1,
 lX 1 16 15]
def f44r4 : List SOper := [
 pX 0 18 (.bin .eql (.t 16) (.c (.one (.int .i64 1)))),
 mX 1 17 18]
def f44r5 : List SOper := [
 aX 0 19 2 1,
 lX 1 20 19,
 pX 2 21 (.iaddr 2 (.t 20) (.c (.one (.int .i64 0)))),
 oX 3 22 (.l (.load true 2 (.t 21))),
 oX 4 23 (.a (.bslice 2 1 [(.int .i64 0), (.int .i64 0)] [(0, 2, (.t 22))])),
 mX 5 2 23]
def f44r6 : List SOper := [
 pX 0 25 (.bin .eql (.t 16) (.c (.one (.int .i64 2)))),
 mX 1 24 25]
def f44r7 : List SOper := [
 aX 0 26 2 1,
 lX 1 27 26,
 oX 2 28 (.cf 61 [(.t 27)]),
 oX 3 29 (.cf 60 [(.t 28)]),
 mX 4 2 29]
def f44r8 : List SOper := [
 aX 0 30 2 1,
 lX 1 31 30,
 oX 2 32 (.cf 62 [(.t 31)]),
 mX 3 3 32]
def f44r9 : List SOper := [
 aX 0 33 2 1,
 lX 1 34 33,
 pX 2 35 (.iaddr 2 (.t 34) (.c (.one (.int .i64 0)))),
 oX 3 36 (.l (.load true 2 (.t 35))),
 aX 4 37 2 1,
⟨5, some 38, .l (.load false 1 (.t 37)), none, none, [], true⟩,
 pX 6 39 (.iaddr 2 (.t 38) (.c (.one (.int .i64 0)))),
⟨7, some 40, .l (.load true 2 (.t 39)), none, none, [], true⟩,
⟨8, some 4, .a (.alloc [(.int .i64 0), (.int .i64 0)]), none, (some 8), [], false⟩,
⟨9, some 5, .a (.alloc [(.int .i64 0), (.int .i64 0)]), none, (some 9), [], false⟩,
⟨10, none, .e (.store 2 (.t 4) (.t 36)), none, none, [7, 5], false⟩,
⟨11, none, .e (.store 2 (.t 5) (.t 40)), none, none, [], false⟩]
def f44r10 : List SOper := [
 aX 0 41 2 1,
 lX 1 42 41,
 pX 2 43 (.len (.t 42)),
 pX 3 44 (.mv (.c (.one (.int .i64 0))))]
def f44r11 : List SOper := [
 pX 0 45 (.bin .lss (.t 44) (.t 43))]
def f44r12 : List SOper := [
 iX 0 46 2 42 44,
 oX 1 47 (.l (.load true 2 (.t 46))),
 oX 2 7 (.a (.alloc [(.int .i64 0), (.int .i64 0)])),
⟨3, none, .e (.store 2 (.t 7) (.t 47)), none, none, [], false⟩]
def f44r13 : List SOper := [
 aX 0 48 0 4,
 lX 1 49 48,
 aX 2 50 0 7,
 lX 3 51 50,
 pX 4 52 (.mm false (.t 49) (.t 51)),
 aX 5 53 1 4,
 lX 6 54 53,
 aX 7 55 1 7,
 lX 8 56 55,
 pX 9 57 (.mm false (.t 54) (.t 56)),
 pX 10 58 (.build [(.int .i64 0), (.int .i64 0)] [(0, 1, (.t 52)), (1, 1, (.t 57))]),
⟨11, none, .e (.store 2 (.t 4) (.t 58)), none, none, [], false⟩]
def f44r14 : List SOper := [
 aX 0 59 0 5,
 lX 1 60 59,
 aX 2 61 0 7,
 lX 3 62 61,
 pX 4 63 (.mm true (.t 60) (.t 62)),
 aX 5 64 1 5,
 lX 6 65 64,
 aX 7 66 1 7,
 lX 8 67 66,
 pX 9 68 (.mm true (.t 65) (.t 67)),
 pX 10 69 (.build [(.int .i64 0), (.int .i64 0)] [(0, 1, (.t 63)), (1, 1, (.t 68))]),
⟨11, none, .e (.store 2 (.t 5) (.t 69)), none, none, [], false⟩]
def f44r15 : List SOper := [
 pX 0 70 (.bin .add (.t 44) (.c (.one (.int .i64 1)))),
 mX 1 44 70]
def f44b0 : SC := (.seq (.ops f44r11 0) (.seq (.cond (.t 45) .skip (.exit 1)) (.seq (.block 2 (.seq (.ops f44r12 0) (.seq (.ops f44r13 0) (.ops f44r14 0)))) (.ops f44r15 0))))
def f44r16 : List SOper := [
 aX 0 71 1 1,
 lX 1 72 71,
 oX 2 73 (.cf 63 [(.t 72)]),
 mX 3 8 73]
def f44r17 : List SOper := [
 aX 0 74 1 4,
 lX 1 75 74,
 mX 2 9 75]
def f44r18 : List SOper := [
 mX 0 76 9,
 aX 1 77 1 5,
 lX 2 78 77,
 pX 3 79 (.bin .leq (.t 76) (.t 78))]
def f44r19 : List SOper := [
 aX 0 82 0 4,
 lX 1 83 82,
 mX 2 10 83]
def f44r20 : List SOper := [
 mX 0 84 10,
 aX 1 85 0 5,
 lX 2 86 85,
 pX 3 87 (.bin .leq (.t 84) (.t 86))]
def f44r21 : List SOper := [
 mX 0 90 10,
 mX 1 91 9,
 pX 2 92 (.build [(.int .i64 0), (.int .i64 0)] [(0, 1, (.t 90)), (1, 1, (.t 91))]),
 oX 3 11 (.a (.alloc [(.int .i64 0), (.int .i64 0)])),
⟨4, none, .e (.store 2 (.t 11) (.t 92)), none, none, [], false⟩]
def f44r22 : List SOper := [
 mX 0 93 8,
 oX 1 94 (.l (.load true 2 (.t 11))),
 oX 2 95 (.cv (.t 93) [(.t 94)]),
 mX 3 96 95,
⟨4, some 97, .p (.faddr 2 (.t 1)), (some (96, true)), none, [], false⟩,
⟨5, some 98, .l (.load false 1 (.t 97)), (some (96, true)), none, [], false⟩,
⟨6, some 99, .l (.load true 2 (.t 11)), (some (96, true)), none, [], false⟩,
⟨7, some 100, .cf 64 [(.t 98), (.t 99)], (some (96, true)), none, [], false⟩,
 pX 8 101 (.pick (.t 96) (.t 100) (.c (.one (.bool false))))]
def f44r23 : List SOper := [
 mX 0 102 3,
 oX 1 103 (.l (.load true 2 (.t 11))),
⟨2, none, .e (.stupd (.t 102) (.t 103) (.c (.one (.bool true)))), none, none, [], false⟩]
def f44r24 : List SOper := [
 mX 0 88 10,
 pX 1 89 (.bin .add (.t 88) (.c (.one (.int .i64 1)))),
 mX 2 10 89]
def f44b1 : SC := (.seq (.seq (.ops f44r20 0) (.cond (.t 87) .skip (.exit 5))) (.seq (.block 6 (.seq (.ops f44r21 0) (.seq (.ops f44r22 0) (.cond (.t 101) (.ops f44r23 0) .skip)))) (.ops f44r24 0)))
def f44r25 : List SOper := [
 mX 0 80 9,
 pX 1 81 (.bin .add (.t 80) (.c (.one (.int .i64 1)))),
 mX 2 9 81]
def f44b2 : SC := (.seq (.seq (.ops f44r18 0) (.cond (.t 79) .skip (.exit 3))) (.seq (.block 4 (.seq (.ops f44r19 0) (.block 5 (.loop f44b1)))) (.ops f44r25 0)))
def f44r26 : List SOper := [
 mX 0 104 3,
 oX 1 105 (.cf 60 [(.t 104)]),
 mX 2 2 105]
def f44c : SC := (.seq (.ops f44r0 0) (.seq (.seq (.ops f44r1 0) (.cond (.t 14) (.seq (.ops f44r2 0) .ret) .skip)) (.seq (.seq (.ops f44r3 0) (.block 0 (.seq (.ops f44r4 0) (.cond (.t 17) (.seq (.ops f44r5 0) .ret) (.seq (.ops f44r6 0) (.cond (.t 24) (.seq (.ops f44r7 0) .ret) .skip)))))) (.seq (.ops f44r8 0) (.seq (.ops f44r9 12) (.seq (.seq (.ops f44r10 0) (.block 1 (.loop f44b0))) (.seq (.ops f44r16 0) (.seq (.seq (.ops f44r17 0) (.block 3 (.loop f44b2))) (.seq (.ops f44r26 0) .ret)))))))))
def f44 : SFn := ⟨106, f44c, [.t 2]⟩

def f45r0 : List SOper := [
 lX 0 5 1,
 pX 1 6 (.mv (.c (.one (.int .i64 0))))]
def f45r1 : List SOper := [
 pX 0 7 (.bin .lss (.t 6) (.t 5))]
def f45r2 : List SOper := [
 mX 0 8 6,
 mX 1 3 8]
def f45r3 : List SOper := [
 mX 0 9 3,
 pX 1 10 (.bin .add (.t 9) (.c (.one (.int .i64 1)))),
 mX 2 4 10]
def f45r4 : List SOper := [
 mX 0 11 4,
 lX 1 12 1,
 pX 2 13 (.bin .lss (.t 11) (.t 12))]
def f45r5 : List SOper := [
 mX 0 16 0,
 mX 1 17 3,
 mX 2 18 4,
 oX 3 19 (.cv (.t 16) [(.t 17), (.t 18)]),
 pX 4 20 (.not (.t 19))]
def f45r6 : List SOper := [
 mX 0 14 4,
 pX 1 15 (.bin .add (.t 14) (.c (.one (.int .i64 1)))),
 mX 2 4 15]
def f45b0 : SC := (.seq (.seq (.ops f45r4 0) (.cond (.t 13) .skip (.exit 2))) (.seq (.block 3 (.seq (.ops f45r5 0) (.cond (.t 20) .ret .skip))) (.ops f45r6 0)))
def f45r7 : List SOper := [
 pX 0 21 (.bin .add (.t 6) (.c (.one (.int .i64 1)))),
 mX 1 6 21]
def f45b1 : SC := (.seq (.ops f45r1 0) (.seq (.cond (.t 7) .skip (.exit 0)) (.seq (.block 1 (.seq (.ops f45r2 0) (.seq (.ops f45r3 0) (.block 2 (.loop f45b0))))) (.ops f45r7 0))))
def f45c : SC := (.seq (.ops f45r0 0) (.block 0 (.loop f45b1)))
def f45 : SFn := ⟨22, f45c, []⟩

def f46r0 : List SOper := [
 pX 0 2 (.mv (.c (.one (.bool false))))]
def f46r1 : List SOper := [
 mX 0 5 0,
 pX 1 6 (.len (.t 5)),
 pX 2 7 (.mv (.c (.one (.int .i64 0))))]
def f46r2 : List SOper := [
 pX 0 8 (.bin .lss (.t 7) (.t 6))]
def f46r3 : List SOper := [
 iX 0 9 2 5 7,
 oX 1 10 (.l (.load true 2 (.t 9))),
 oX 2 4 (.a (.alloc [(.int .i64 0), (.int .i64 0)])),
⟨3, none, .e (.store 2 (.t 4) (.t 10)), none, none, [], false⟩]
def f46r4 : List SOper := [
 aX 0 11 0 4,
 lX 1 12 11,
 pX 2 13 (.bin .lss (.t 12) (.c (.one (.int .i64 (-1000))))),
 mX 3 14 13,
⟨4, some 15, .p (.faddr 0 (.t 4)), (some (14, false)), none, [], false⟩,
⟨5, some 16, .l (.load false 1 (.t 15)), (some (14, false)), none, [], false⟩,
⟨6, some 17, .p (.bin .gtr (.t 16) (.c (.one (.int .i64 1000)))), (some (14, false)), none, [], false⟩,
 pX 7 18 (.pick (.t 14) (.c (.one (.bool true))) (.t 17)),
 mX 8 19 18,
⟨9, some 20, .p (.faddr 1 (.t 4)), (some (19, false)), none, [], false⟩,
⟨10, some 21, .l (.load false 1 (.t 20)), (some (19, false)), none, [], false⟩,
⟨11, some 22, .p (.bin .lss (.t 21) (.c (.one (.int .i64 (-1000))))), (some (19, false)), none, [], false⟩,
 pX 12 23 (.pick (.t 19) (.c (.one (.bool true))) (.t 22)),
 mX 13 24 23,
⟨14, some 25, .p (.faddr 1 (.t 4)), (some (24, false)), none, [], false⟩,
⟨15, some 26, .l (.load false 1 (.t 25)), (some (24, false)), none, [], false⟩,
⟨16, some 27, .p (.bin .gtr (.t 26) (.c (.one (.int .i64 1000)))), (some (24, false)), none, [], false⟩,
 pX 17 28 (.pick (.t 24) (.c (.one (.bool true))) (.t 27))]
def f46r5 : List SOper := [
 pX 0 2 (.mv (.c (.one (.bool false))))]
def f46r6 : List SOper := [
 pX 0 29 (.bin .add (.t 7) (.c (.one (.int .i64 1)))),
 mX 1 7 29]
def f46b0 : SC := (.seq (.ops f46r2 0) (.seq (.cond (.t 8) .skip (.exit 0)) (.seq (.block 1 (.seq (.ops f46r3 0) (.seq (.ops f46r4 0) (.cond (.t 28) (.seq (.ops f46r5 0) .ret) .skip)))) (.ops f46r6 0))))
def f46r7 : List SOper := [
 pX 0 2 (.mv (.c (.one (.bool true))))]
def f46c : SC := (.seq (.ops f46r0 0) (.seq (.seq (.ops f46r1 0) (.block 0 (.loop f46b0))) (.seq (.ops f46r7 0) .ret)))
def f46 : SFn := ⟨30, f46c, [.t 2]⟩

def f48r0 : List SOper := [
 oX 0 2 (.a (.box (.t 0))),
 oX 1 3 (.a (.box (.t 1))),
 pX 2 4 (.mv (.c (.one (.int .i64 0))))]
def f48r1 : List SOper := [
 aX 0 5 0 2,
 lX 1 6 5,
 aX 2 7 0 3,
 lX 3 8 7,
 pX 4 9 (.bin .sub (.t 6) (.t 8)),
 aX 6 11 1 2,
⟨7, some 12, .l (.load false 1 (.t 11)), none, none, [], true⟩,
 aX 8 13 1 3,
⟨9, some 14, .l (.load false 1 (.t 13)), none, none, [], true⟩,
 pX 10 15 (.bin .sub (.t 12) (.t 14)),
⟨5, some 10, .cf 66 [(.t 9)], none, none, [9, 7], false⟩,
 oX 11 16 (.cf 66 [(.t 15)]),
 pX 12 17 (.mm true (.t 10) (.t 16)),
 mX 13 4 17]
def f48c : SC := (.seq (.ops f48r0 0) (.seq (.ops f48r1 14) .ret))
def f48 : SFn := ⟨18, f48c, [.t 4]⟩

def f49r0 : List SOper := [
 oX 0 4 (.a (.alloc [(.int .i64 0), (.int .i64 0)])),
 oX 1 5 (.a (.alloc [(.int .i64 0), (.int .i64 0)]))]
def f49r1 : List SOper := [
 mX 0 6 0,
 mX 1 7 1,
 iX 2 8 2 6 7,
 oX 3 9 (.l (.load true 2 (.t 8))),
 mX 4 10 0,
 mX 5 11 1,
 pX 6 12 (.bin .add (.t 11) (.c (.one (.int .i64 1)))),
 mX 7 13 0,
 pX 8 14 (.len (.t 13)),
 pX 9 15 (.bin .rem (.t 12) (.t 14)),
 iX 10 16 2 10 15,
⟨11, some 17, .l (.load true 2 (.t 16)), none, none, [], true⟩,
⟨12, none, .e (.store 2 (.t 4) (.t 9)), none, none, [11], false⟩,
⟨13, none, .e (.store 2 (.t 5) (.t 17)), none, none, [], false⟩]
def f49c : SC := (.seq (.ops f49r0 0) (.seq (.ops f49r1 14) .ret))
def f49 : SFn := ⟨18, f49c, [.cell true 2 4, .cell true 2 5]⟩

def f50r0 : List SOper := [
 oX 0 2 (.a (.box (.t 0))),
 oX 1 3 (.a (.box (.t 1))),
 pX 2 4 (.mv (.c (.one .nils)))]
def f50r1 : List SOper := [
 oX 0 10 (.l (.load true 2 (.t 2))),
 oX 1 11 (.l (.load true 2 (.t 3))),
 oX 2 12 (.cf 21 [(.t 10), (.t 11)]),
 oX 3 13 (.a (.bslice 2 0 [(.int .i64 0), (.int .i64 0)] [])),
 mX 4 5 12,
 mX 5 6 13]
def f50r2 : List SOper := [
 mX 0 14 5,
 pX 1 15 (.bin .eql (.t 14) (.c (.one (.int .i64 0))))]
def f50r3 : List SOper := [
 oX 0 16 (.l (.load true 2 (.t 2))),
 oX 1 17 (.a (.bslice 2 1 [(.int .i64 0), (.int .i64 0)] [(0, 2, (.t 16))])),
 mX 2 4 17]
def f50r4 : List SOper := [
 pX 0 7 (.mv (.c (.one (.int .i64 0))))]
def f50r5 : List SOper := [
 mX 0 18 7,
 mX 1 19 5,
 pX 2 20 (.bin .leq (.t 18) (.t 19))]
def f50r6 : List SOper := [
 aX 0 23 0 2,
 lX 1 24 23,
 mX 2 25 5,
 pX 3 26 (.bin .mul (.t 24) (.t 25)),
 mX 4 27 7,
 aX 5 28 0 3,
 lX 6 29 28,
 aX 7 30 0 2,
 lX 8 31 30,
 pX 9 32 (.bin .sub (.t 29) (.t 31)),
 pX 10 33 (.bin .mul (.t 27) (.t 32)),
 pX 11 34 (.bin .add (.t 26) (.t 33)),
 pX 12 35 (.bin .mul (.c (.one (.int .i64 2))) (.t 34)),
 mX 13 36 5,
 pX 14 37 (.bin .add (.t 35) (.t 36)),
 mX 15 38 5,
 pX 16 39 (.bin .mul (.c (.one (.int .i64 2))) (.t 38)),
 oX 17 40 (.cf 67 [(.t 37), (.t 39)]),
 mX 18 8 40]
def f50r7 : List SOper := [
 aX 0 41 1 2,
 lX 1 42 41,
 mX 2 43 5,
 pX 3 44 (.bin .mul (.t 42) (.t 43)),
 mX 4 45 7,
 aX 5 46 1 3,
 lX 6 47 46,
 aX 7 48 1 2,
 lX 8 49 48,
 pX 9 50 (.bin .sub (.t 47) (.t 49)),
 pX 10 51 (.bin .mul (.t 45) (.t 50)),
 pX 11 52 (.bin .add (.t 44) (.t 51)),
 pX 12 53 (.bin .mul (.c (.one (.int .i64 2))) (.t 52)),
 mX 13 54 5,
 pX 14 55 (.bin .add (.t 53) (.t 54)),
 mX 15 56 5,
 pX 16 57 (.bin .mul (.c (.one (.int .i64 2))) (.t 56)),
 oX 17 58 (.cf 67 [(.t 55), (.t 57)]),
 mX 18 9 58]
def f50r8 : List SOper := [
 mX 0 59 6,
 mX 1 60 8,
 mX 2 61 9,
 pX 3 62 (.build [(.int .i64 0), (.int .i64 0)] [(0, 1, (.t 60)), (1, 1, (.t 61))]),
 oX 4 63 (.a (.bslice 2 1 [(.int .i64 0), (.int .i64 0)] [(0, 2, (.t 62))])),
 oX 5 64 (.e (.append 2 16 (.t 59) (.t 63))),
 mX 6 6 64]
def f50r9 : List SOper := [
 mX 0 21 7,
 pX 1 22 (.bin .add (.t 21) (.c (.one (.int .i64 1)))),
 mX 2 7 22]
def f50b0 : SC := (.seq (.seq (.ops f50r5 0) (.cond (.t 20) .skip (.exit 0))) (.seq (.block 1 (.seq (.ops f50r6 0) (.seq (.ops f50r7 0) (.ops f50r8 0)))) (.ops f50r9 0)))
def f50r10 : List SOper := [
 mX 0 65 6,
 mX 1 4 65]
def f50c : SC := (.seq (.ops f50r0 0) (.seq (.ops f50r1 0) (.seq (.seq (.ops f50r2 0) (.cond (.t 15) (.seq (.ops f50r3 0) .ret) .skip)) (.seq (.seq (.ops f50r4 0) (.block 0 (.loop f50b0))) (.seq (.ops f50r10 0) .ret)))))
def f50 : SFn := ⟨66, f50c, [.t 4]⟩

def f51r0 : List SOper := [
 oX 0 3 (.a (.box (.t 0))),
 oX 1 4 (.a (.box (.t 1))),
 oX 2 5 (.a (.box (.t 2))),
 pX 3 6 (.mv (.c (.one (.bool false))))]
def f51r1 : List SOper := [
 oX 0 7 (.l (.load true 2 (.t 3))),
 oX 1 8 (.l (.load true 2 (.t 4))),
 oX 2 9 (.l (.load true 2 (.t 5))),
 oX 3 10 (.cf 68 [(.t 7), (.t 8), (.t 9)]),
 pX 4 11 (.bin .eql (.t 10) (.c (.one (.int .i64 0)))),
 mX 5 12 11,
⟨6, some 13, .p (.faddr 0 (.t 5)), (some (12, true)), none, [], false⟩,
⟨7, some 14, .l (.load false 1 (.t 13)), (some (12, true)), none, [], false⟩,
⟨8, some 15, .p (.faddr 0 (.t 3)), (some (12, true)), none, [], false⟩,
⟨9, some 16, .l (.load false 1 (.t 15)), (some (12, true)), none, [], false⟩,
⟨10, some 17, .p (.faddr 0 (.t 4)), (some (12, true)), none, [], false⟩,
⟨11, some 18, .l (.load false 1 (.t 17)), (some (12, true)), none, [], false⟩,
⟨12, some 19, .p (.mm false (.t 16) (.t 18)), (some (12, true)), none, [], false⟩,
⟨13, some 20, .p (.bin .geq (.t 14) (.t 19)), (some (12, true)), none, [], false⟩,
 pX 14 21 (.pick (.t 12) (.t 20) (.c (.one (.bool false)))),
 mX 15 22 21,
⟨16, some 23, .p (.faddr 0 (.t 5)), (some (22, true)), none, [], false⟩,
⟨17, some 24, .l (.load false 1 (.t 23)), (some (22, true)), none, [], false⟩,
⟨18, some 25, .p (.faddr 0 (.t 3)), (some (22, true)), none, [], false⟩,
⟨19, some 26, .l (.load false 1 (.t 25)), (some (22, true)), none, [], false⟩,
⟨20, some 27, .p (.faddr 0 (.t 4)), (some (22, true)), none, [], false⟩,
⟨21, some 28, .l (.load false 1 (.t 27)), (some (22, true)), none, [], false⟩,
⟨22, some 29, .p (.mm true (.t 26) (.t 28)), (some (22, true)), none, [], false⟩,
⟨23, some 30, .p (.bin .leq (.t 24) (.t 29)), (some (22, true)), none, [], false⟩,
 pX 24 31 (.pick (.t 22) (.t 30) (.c (.one (.bool false)))),
 mX 25 32 31,
⟨26, some 33, .p (.faddr 1 (.t 5)), (some (32, true)), none, [], false⟩,
⟨27, some 34, .l (.load false 1 (.t 33)), (some (32, true)), none, [], false⟩,
⟨28, some 35, .p (.faddr 1 (.t 3)), (some (32, true)), none, [], false⟩,
⟨29, some 36, .l (.load false 1 (.t 35)), (some (32, true)), none, [], false⟩,
⟨30, some 37, .p (.faddr 1 (.t 4)), (some (32, true)), none, [], false⟩,
⟨31, some 38, .l (.load false 1 (.t 37)), (some (32, true)), none, [], false⟩,
⟨32, some 39, .p (.mm false (.t 36) (.t 38)), (some (32, true)), none, [], false⟩,
⟨33, some 40, .p (.bin .geq (.t 34) (.t 39)), (some (32, true)), none, [], false⟩,
 pX 34 41 (.pick (.t 32) (.t 40) (.c (.one (.bool false)))),
 mX 35 42 41,
⟨36, some 43, .p (.faddr 1 (.t 5)), (some (42, true)), none, [], false⟩,
⟨37, some 44, .l (.load false 1 (.t 43)), (some (42, true)), none, [], false⟩,
⟨38, some 45, .p (.faddr 1 (.t 3)), (some (42, true)), none, [], false⟩,
⟨39, some 46, .l (.load false 1 (.t 45)), (some (42, true)), none, [], false⟩,
⟨40, some 47, .p (.faddr 1 (.t 4)), (some (42, true)), none, [], false⟩,
⟨41, some 48, .l (.load false 1 (.t 47)), (some (42, true)), none, [], false⟩,
⟨42, some 49, .p (.mm true (.t 46) (.t 48)), (some (42, true)), none, [], false⟩,
⟨43, some 50, .p (.bin .leq (.t 44) (.t 49)), (some (42, true)), none, [], false⟩,
 pX 44 51 (.pick (.t 42) (.t 50) (.c (.one (.bool false)))),
 mX 45 6 51]
def f51c : SC := (.seq (.ops f51r0 0) (.seq (.ops f51r1 0) .ret))
def f51 : SFn := ⟨52, f51c, [.t 6]⟩

def f52r0 : List SOper := [
 oX 0 3 (.a (.box (.t 0))),
 oX 1 4 (.a (.box (.t 1))),
 oX 2 5 (.a (.box (.t 2))),
 pX 3 6 (.mv (.c (.one (.bool false))))]
def f52r1 : List SOper := [
 aX 0 9 1 3,
 lX 1 10 9,
 aX 2 11 1 5,
 lX 3 12 11,
 pX 4 13 (.bin .leq (.t 10) (.t 12)),
 aX 5 14 1 4,
 lX 6 15 14,
 aX 7 16 1 5,
 lX 8 17 16,
 pX 9 18 (.bin .leq (.t 15) (.t 17)),
 pX 10 19 (.beq false (.t 13) (.t 18))]
def f52r2 : List SOper := [
 pX 0 6 (.mv (.c (.one (.bool false))))]
def f52r3 : List SOper := [
 aX 0 20 0 5,
 lX 1 21 20,
 aX 2 22 0 3,
 lX 3 23 22,
 pX 4 24 (.bin .sub (.t 21) (.t 23)),
 aX 5 25 1 4,
 lX 6 26 25,
 aX 7 27 1 3,
 lX 8 28 27,
 pX 9 29 (.bin .sub (.t 26) (.t 28)),
 pX 10 30 (.bin .mul (.t 24) (.t 29)),
 mX 11 7 30]
def f52r4 : List SOper := [
 aX 0 31 1 5,
 lX 1 32 31,
 aX 2 33 1 3,
 lX 3 34 33,
 pX 4 35 (.bin .sub (.t 32) (.t 34)),
 aX 5 36 0 4,
 lX 6 37 36,
 aX 7 38 0 3,
 lX 8 39 38,
 pX 9 40 (.bin .sub (.t 37) (.t 39)),
 pX 10 41 (.bin .mul (.t 35) (.t 40)),
 mX 11 8 41]
def f52r5 : List SOper := [
 aX 0 42 1 4,
 lX 1 43 42,
 aX 2 44 1 3,
 lX 3 45 44,
 pX 4 46 (.bin .gtr (.t 43) (.t 45))]
def f52r6 : List SOper := [
 mX 0 47 7,
 mX 1 48 8,
 pX 2 49 (.bin .lss (.t 47) (.t 48)),
 mX 3 6 49]
def f52r7 : List SOper := [
 mX 0 50 7,
 mX 1 51 8,
 pX 2 52 (.bin .gtr (.t 50) (.t 51)),
 mX 3 6 52]
def f52c : SC := (.seq (.ops f52r0 0) (.seq (.seq (.ops f52r1 0) (.cond (.t 19) (.seq (.ops f52r2 0) .ret) .skip)) (.seq (.ops f52r3 0) (.seq (.ops f52r4 0) (.seq (.seq (.ops f52r5 0) (.cond (.t 46) (.seq (.ops f52r6 0) .ret) .skip)) (.seq (.ops f52r7 0) .ret))))))
def f52 : SFn := ⟨53, f52c, [.t 6]⟩

def f53r0 : List SOper := [
 pX 0 2 (.mv (.c (.one .nils)))]
def f53r1 : List SOper := [
 mX 0 3 0,
 pX 1 4 (.nileq false (.t 3))]
def f53r2 : List SOper := [
 pX 0 2 (.mv (.c (.one .nils)))]
def f53r3 : List SOper := [
 oX 0 5 (.a (.bslice 2 0 [(.int .i64 0), (.int .i64 0)] [])),
 mX 1 6 0,
 oX 2 7 (.e (.append 2 16 (.t 5) (.t 6))),
 mX 3 2 7]
def f53c : SC := (.seq (.ops f53r0 0) (.seq (.seq (.ops f53r1 0) (.cond (.t 4) (.seq (.ops f53r2 0) .ret) .skip)) (.seq (.ops f53r3 0) .ret)))
def f53 : SFn := ⟨8, f53c, [.t 2]⟩

def f54r0 : List SOper := [
 mX 0 5 0,
 pX 1 6 (.len (.t 5)),
 mX 2 4 6]
def f54r1 : List SOper := [
 mX 0 7 0,
 mX 1 8 4,
 mX 2 9 4,
 pX 3 10 (.conv .u64 (.t 9)),
 oX 4 11 (.cf 70 [(.t 10)]),
 mX 5 12 1,
 oX 6 13 (.cf 69 [(.t 7), (.c (.one (.int .i64 0))), (.t 8), (.t 11), (.t 12)])]
def f54c : SC := (.seq (.ops f54r0 0) (.ops f54r1 0))
def f54 : SFn := ⟨14, f54c, []⟩

def f55r0 : List SOper := [
 oX 0 2 (.a (.box (.t 0))),
 oX 1 3 (.a (.box (.t 1))),
 pX 2 4 (.mv (.c (.one (.int .i64 0))))]
def f55r1 : List SOper := [
 aX 0 6 1 2,
 lX 1 7 6,
 aX 2 8 1 3,
 lX 3 9 8,
 pX 4 10 (.bin .lss (.t 7) (.t 9)),
 mX 5 11 10,
⟨6, some 12, .p (.faddr 1 (.t 2)), (some (11, false)), none, [], false⟩,
⟨7, some 13, .l (.load false 1 (.t 12)), (some (11, false)), none, [], false⟩,
⟨8, some 14, .p (.faddr 1 (.t 3)), (some (11, false)), none, [], false⟩,
⟨9, some 15, .l (.load false 1 (.t 14)), (some (11, false)), none, [], false⟩,
⟨10, some 16, .p (.bin .eql (.t 13) (.t 15)), (some (11, false)), none, [], false⟩,
 gX 11 17 16 11 false,
⟨12, some 18, .p (.faddr 0 (.t 2)), (some (17, true)), none, [], false⟩,
⟨13, some 19, .l (.load false 1 (.t 18)), (some (17, true)), none, [], false⟩,
⟨14, some 20, .p (.faddr 0 (.t 3)), (some (17, true)), none, [], false⟩,
⟨15, some 21, .l (.load false 1 (.t 20)), (some (17, true)), none, [], false⟩,
⟨16, some 22, .p (.bin .lss (.t 19) (.t 21)), (some (17, true)), none, [], false⟩,
⟨17, some 23, .p (.pick (.t 17) (.t 22) (.c (.one (.bool false)))), (some (11, false)), none, [], false⟩,
 pX 18 24 (.pick (.t 11) (.c (.one (.bool true))) (.t 23)),
 mX 19 5 24]
def f55r2 : List SOper := [
 pX 0 4 (.mv (.c (.one (.int .i64 (-1)))))]
def f55r3 : List SOper := [
 oX 0 26 (.l (.load true 2 (.t 2))),
 oX 1 27 (.l (.load true 2 (.t 3))),
 pX 2 28 (.eqs false [(0, false), (1, false)] (.t 26) (.t 27)),
 mX 3 25 28]
def f55r4 : List SOper := [
 pX 0 4 (.mv (.c (.one (.int .i64 0))))]
def f55r5 : List SOper := [
 pX 0 4 (.mv (.c (.one (.int .i64 1))))]
def f55c : SC := (.seq (.ops f55r0 0) (.seq (.block 0 (.seq (.ops f55r1 0) (.cond (.t 5) (.seq (.ops f55r2 0) .ret) (.seq (.ops f55r3 0) (.cond (.t 25) (.seq (.ops f55r4 0) .ret) .skip))))) (.seq (.ops f55r5 0) .ret)))
def f55 : SFn := ⟨29, f55c, [.t 4]⟩

def f56r0 : List SOper := [
 pX 0 2 (.mv (.c (.one .nils)))]
def f56r1 : List SOper := [
 mX 0 6 0,
 pX 1 7 (.len (.t 6)),
 pX 2 8 (.bin .lss (.t 7) (.c (.one (.int .i64 2))))]
def f56r2 : List SOper := [
 mX 0 9 0,
 mX 1 2 9]
def f56r3 : List SOper := [
 pX 0 3 (.mv (.c (.one (.int .i64 1))))]
def f56r4 : List SOper := [
 mX 0 10 3,
 mX 1 11 0,
 pX 2 12 (.len (.t 11)),
 pX 3 13 (.bin .lss (.t 10) (.t 12))]
def f56r5 : List SOper := [
 mX 0 16 0,
 mX 1 17 3,
 iX 2 18 2 16 17,
 oX 3 19 (.l (.load true 2 (.t 18))),
 mX 4 20 0,
 mX 5 21 3,
 pX 6 22 (.bin .sub (.t 21) (.c (.one (.int .i64 1)))),
 iX 7 23 2 20 22,
 oX 8 24 (.l (.load true 2 (.t 23))),
 pX 9 25 (.eqs false [(0, false), (1, false)] (.t 19) (.t 24))]
def f56r6 : List SOper := [
 mX 0 26 0,
 mX 1 27 3,
 pX 2 28 (.slice 2 (.t 26) (some (.t 27)) none none),
 mX 3 4 28]
def f56r7 : List SOper := [
 pX 0 5 (.mv (.c (.one (.int .i64 1))))]
def f56r8 : List SOper := [
 mX 0 29 5,
 mX 1 30 4,
 pX 2 31 (.len (.t 30)),
 pX 3 32 (.bin .lss (.t 29) (.t 31))]
def f56r9 : List SOper := [
 mX 0 35 4,
 mX 1 36 5,
 iX 2 37 2 35 36,
 oX 3 38 (.l (.load true 2 (.t 37))),
 mX 4 39 4,
 mX 5 40 5,
 pX 6 41 (.bin .sub (.t 40) (.c (.one (.int .i64 1)))),
 iX 7 42 2 39 41,
 oX 8 43 (.l (.load true 2 (.t 42))),
 pX 9 44 (.eqs true [(0, false), (1, false)] (.t 38) (.t 43))]
def f56r10 : List SOper := [
 mX 0 45 0,
 mX 1 46 3,
 mX 2 47 4,
 mX 3 48 5,
 iX 4 49 2 47 48,
 oX 5 50 (.l (.load true 2 (.t 49))),
 iX 6 51 2 45 46,
⟨7, none, .e (.store 2 (.t 51) (.t 50)), none, none, [], false⟩]
def f56r11 : List SOper := [
 mX 0 52 3,
 pX 1 53 (.bin .add (.t 52) (.c (.one (.int .i64 1)))),
 mX 2 3 53]
def f56r12 : List SOper := [
 mX 0 33 5,
 pX 1 34 (.bin .add (.t 33) (.c (.one (.int .i64 1)))),
 mX 2 5 34]
def f56b0 : SC := (.seq (.seq (.ops f56r8 0) (.cond (.t 32) .skip (.exit 2))) (.seq (.block 3 (.seq (.ops f56r9 10) (.cond (.t 44) (.seq (.ops f56r10 0) (.ops f56r11 0)) .skip))) (.ops f56r12 0)))
def f56r13 : List SOper := [
 mX 0 54 0,
 mX 1 55 3,
 pX 2 56 (.slice 2 (.t 54) (some (.t 55)) none none),
⟨3, none, .e (.clear 2 [(.int .i64 0), (.int .i64 0)] (.t 56)), none, none, [], false⟩]
def f56r14 : List SOper := [
 mX 0 57 0,
 mX 1 58 3,
 pX 2 59 (.slice 2 (.t 57) none (some (.t 58)) none),
 mX 3 2 59]
def f56r15 : List SOper := [
 mX 0 14 3,
 pX 1 15 (.bin .add (.t 14) (.c (.one (.int .i64 1)))),
 mX 2 3 15]
def f56b1 : SC := (.seq (.seq (.ops f56r4 0) (.cond (.t 13) .skip (.exit 0))) (.seq (.block 1 (.seq (.ops f56r5 10) (.cond (.t 25) (.seq (.ops f56r6 0) (.seq (.seq (.ops f56r7 0) (.block 2 (.loop f56b0))) (.seq (.ops f56r13 0) (.seq (.ops f56r14 0) .ret)))) .skip))) (.ops f56r15 0)))
def f56r16 : List SOper := [
 mX 0 60 0,
 mX 1 2 60]
def f56c : SC := (.seq (.ops f56r0 0) (.seq (.seq (.ops f56r1 0) (.cond (.t 8) (.seq (.ops f56r2 0) .ret) .skip)) (.seq (.seq (.ops f56r3 0) (.block 0 (.loop f56b1))) (.seq (.ops f56r16 0) .ret))))
def f56 : SFn := ⟨61, f56c, [.t 2]⟩

def f57r0 : List SOper := [
 pX 0 8 (.mv (.c (.one .nils)))]
def f57r1 : List SOper := [
 lX 0 14 3,
 mX 1 15 0,
 oX 2 16 (.l (.lookup (.one .nils) false (.t 14) (.t 15))),
 mX 3 9 16]
def f57r2 : List SOper := [
 mX 0 18 9,
 mX 1 19 1,
 oX 2 20 (.cf 58 [(.t 18), (.t 19)]),
 mX 3 17 20,
 pX 4 21 (.extract (.t 17) 0),
 pX 5 22 (.extract (.t 17) 1),
 mX 6 10 21,
 mX 7 11 22]
def f57r3 : List SOper := [
 mX 0 23 10,
 mX 1 12 23]
def f57r4 : List SOper := [
 pX 0 13 (.mv (.c (.one .nils)))]
def f57r5 : List SOper := [
 mX 0 24 12,
 mX 1 25 9,
 pX 2 26 (.len (.t 25)),
 pX 3 27 (.bin .lss (.t 24) (.t 26)),
 mX 4 28 27,
 gX 5 29 9 28 true,
 gX 6 30 12 28 true,
⟨7, some 31, .p (.iaddr 1 (.t 29) (.t 30)), (some (28, true)), none, [], false⟩,
⟨8, some 32, .l (.load false 1 (.t 31)), (some (28, true)), none, [], false⟩,
 gX 9 33 2 28 true,
⟨10, some 34, .p (.bin .leq (.t 32) (.t 33)), (some (28, true)), none, [], false⟩,
 pX 11 35 (.pick (.t 28) (.t 34) (.c (.one (.bool false))))]
def f57r6 : List SOper := [
 mX 0 38 13,
 mX 1 39 9,
 mX 2 40 12,
 iX 3 41 1 39 40,
 lX 4 42 41,
 mX 5 43 0,
 pX 6 44 (.build [(.int .i64 0), (.int .i64 0)] [(0, 1, (.t 42)), (1, 1, (.t 43))]),
 oX 7 45 (.a (.bslice 2 1 [(.int .i64 0), (.int .i64 0)] [(0, 2, (.t 44))])),
 oX 8 46 (.e (.append 2 16 (.t 38) (.t 45))),
 mX 9 13 46]
def f57r7 : List SOper := [
 mX 0 36 12,
 pX 1 37 (.bin .add (.t 36) (.c (.one (.int .i64 1)))),
 mX 2 12 37]
def f57b0 : SC := (.seq (.seq (.ops f57r5 0) (.cond (.t 35) .skip (.exit 0))) (.seq (.block 1 (.ops f57r6 0)) (.ops f57r7 0)))
def f57r8 : List SOper := [
 mX 0 47 12,
 mX 1 48 10,
 pX 2 49 (.bin .gtr (.t 47) (.t 48))]
def f57r9 : List SOper := [
⟨0, some 50, .l (.load false 1 (.t 3)), none, none, [], true⟩,
 mX 1 51 0,
 mX 2 52 9,
 mX 3 53 10,
 mX 4 54 12,
⟨5, some 55, .cf 59 [(.t 52), (.t 53), (.t 54)], none, none, [0], false⟩,
⟨6, none, .e (.mapupd (.t 50) (.t 51) (.t 55)), none, none, [], false⟩]
def f57r10 : List SOper := [
 lX 0 56 4,
 mX 1 57 12,
 mX 2 58 10,
 pX 3 59 (.bin .sub (.t 57) (.t 58)),
 pX 4 60 (.bin .sub (.t 56) (.t 59)),
⟨5, none, .e (.store 1 (.t 4) (.t 60)), none, none, [], false⟩]
def f57r11 : List SOper := [
 mX 0 61 13,
 mX 1 8 61]
def f57c : SC := (.seq (.ops f57r0 0) (.seq (.ops f57r1 0) (.seq (.ops f57r2 0) (.seq (.ops f57r3 0) (.seq (.ops f57r4 0) (.seq (.block 0 (.loop f57b0)) (.seq (.seq (.ops f57r8 0) (.cond (.t 49) (.seq (.ops f57r9 7) (.ops f57r10 0)) .skip)) (.seq (.ops f57r11 0) .ret))))))))
def f57 : SFn := ⟨62, f57c, [.t 8]⟩

def f58r0 : List SOper := [
 pX 0 4 (.mv (.c (.one (.int .i64 0)))),
 pX 1 5 (.mv (.c (.one (.bool false))))]
def f58r1 : List SOper := [
 mX 0 10 0,
 pX 1 11 (.len (.t 10)),
 mX 2 6 11]
def f58r2 : List SOper := [
 mX 0 12 6,
 pX 1 7 (.mv (.c (.one (.int .i64 0)))),
 mX 2 8 12]
def f58r3 : List SOper := [
 mX 0 13 7,
 mX 1 14 8,
 pX 2 15 (.bin .lss (.t 13) (.t 14))]
def f58r4 : List SOper := [
 mX 0 16 7,
 mX 1 17 8,
 pX 2 18 (.bin .add (.t 16) (.t 17)),
 pX 3 19 (.conv .u64 (.t 18)),
 pX 4 20 (.bin .shr (.t 19) (.c (.one (.int .u64 1)))),
 pX 5 21 (.conv .i64 (.t 20)),
 mX 6 9 21]
def f58r5 : List SOper := [
 mX 0 22 0,
 mX 1 23 9,
 iX 2 24 1 22 23,
 lX 3 25 24,
 mX 4 26 1,
 oX 5 27 (.cf 71 [(.t 25), (.t 26)])]
def f58r6 : List SOper := [
 mX 0 28 9,
 pX 1 29 (.bin .add (.t 28) (.c (.one (.int .i64 1)))),
 mX 2 7 29]
def f58r7 : List SOper := [
 mX 0 30 9,
 mX 1 8 30]
def f58b0 : SC := (.seq (.seq (.ops f58r3 0) (.cond (.t 15) .skip (.exit 0))) (.block 1 (.seq (.ops f58r4 0) (.seq (.ops f58r5 0) (.cond (.t 27) (.ops f58r6 0) (.ops f58r7 0))))))
def f58r8 : List SOper := [
 mX 0 31 7,
 mX 1 32 7,
 mX 2 33 6,
 pX 3 34 (.bin .lss (.t 32) (.t 33)),
 mX 4 35 34,
 gX 5 36 0 35 true,
 gX 6 37 7 35 true,
⟨7, some 38, .p (.iaddr 1 (.t 36) (.t 37)), (some (35, true)), none, [], false⟩,
⟨8, some 39, .l (.load false 1 (.t 38)), (some (35, true)), none, [], false⟩,
 gX 9 40 1 35 true,
⟨10, some 41, .p (.bin .eql (.t 39) (.t 40)), (some (35, true)), none, [], false⟩,
 gX 11 42 41 35 true,
 gX 12 43 0 42 false,
 gX 13 44 7 42 false,
⟨14, some 45, .p (.iaddr 1 (.t 43) (.t 44)), (some (42, false)), none, [], false⟩,
⟨15, some 46, .l (.load false 1 (.t 45)), (some (42, false)), none, [], false⟩,
⟨16, some 47, .cf 72 [(.t 46)], (some (42, false)), none, [], false⟩,
 gX 17 48 47 42 false,
 gX 18 49 1 48 true,
⟨19, some 50, .cf 72 [(.t 49)], (some (48, true)), none, [], false⟩,
⟨20, some 51, .p (.pick (.t 48) (.t 50) (.c (.one (.bool false)))), (some (42, false)), none, [], false⟩,
⟨21, some 52, .p (.pick (.t 42) (.c (.one (.bool true))) (.t 51)), (some (35, true)), none, [], false⟩,
 pX 22 53 (.pick (.t 35) (.t 52) (.c (.one (.bool false)))),
 mX 23 4 31,
 mX 24 5 53]
def f58c : SC := (.seq (.ops f58r0 0) (.seq (.ops f58r1 0) (.seq (.ops f58r2 0) (.seq (.block 0 (.loop f58b0)) (.seq (.ops f58r8 0) .ret)))))
def f58 : SFn := ⟨54, f58c, [.t 4, .t 5]⟩

def f59r0 : List SOper := [
 pX 0 6 (.mv (.c (.one .nils)))]
def f59r1 : List SOper := [
 mX 0 8 0,
 mX 1 9 1,
 mX 2 10 2,
 mX 3 11 0,
 pX 4 12 (.len (.t 11)),
 pX 5 13 (.slice 1 (.t 8) (some (.t 9)) (some (.t 10)) (some (.t 12)))]
def f59r2 : List SOper := [
 mX 0 14 1,
 mX 1 15 2,
 pX 2 16 (.bin .eql (.t 14) (.t 15))]
def f59r3 : List SOper := [
 mX 0 17 0,
 mX 1 6 17]
def f59r4 : List SOper := [
 mX 0 18 0,
 pX 1 19 (.len (.t 18)),
 mX 2 7 19]
def f59r5 : List SOper := [
 mX 0 20 0,
 mX 1 21 1,
 pX 2 22 (.slice 1 (.t 20) none (some (.t 21)) none),
 mX 3 23 0,
 mX 4 24 2,
 pX 5 25 (.slice 1 (.t 23) (some (.t 24)) none none),
 oX 6 26 (.e (.append 1 8 (.t 22) (.t 25))),
 mX 7 0 26]
def f59r6 : List SOper := [
 mX 0 27 0,
 mX 1 28 0,
 pX 2 29 (.len (.t 28)),
 mX 3 30 7,
 pX 4 31 (.slice 1 (.t 27) (some (.t 29)) (some (.t 30)) none),
⟨5, none, .e (.clear 1 [(.int .i64 0)] (.t 31)), none, none, [], false⟩]
def f59r7 : List SOper := [
 mX 0 32 0,
 mX 1 6 32]
def f59c : SC := (.seq (.ops f59r0 0) (.seq (.ops f59r1 0) (.seq (.seq (.ops f59r2 0) (.cond (.t 16) (.seq (.ops f59r3 0) .ret) .skip)) (.seq (.ops f59r4 0) (.seq (.ops f59r5 8) (.seq (.ops f59r6 0) (.seq (.ops f59r7 0) .ret)))))))
def f59 : SFn := ⟨33, f59c, [.t 6]⟩

def f60r0 : List SOper := [
 pX 0 2 (.mv (.c (.one .nils)))]
def f60r1 : List SOper := [
 mX 0 3 0,
 oX 1 4 (.cf 74 [(.t 3)]),
 oX 2 5 (.cf 73 [(.t 4), (.c (.one (.fn 75 [])))]),
 mX 3 2 5]
def f60c : SC := (.seq (.ops f60r0 0) (.seq (.ops f60r1 0) .ret))
def f60 : SFn := ⟨6, f60c, [.t 2]⟩

def f61r0 : List SOper := [
 pX 0 2 (.mv (.c (.one .nilm)))]
def f61r1 : List SOper := [
 oX 0 5 (.a (.mkst)),
 mX 1 3 5]
def f61r2 : List SOper := [
 pX 0 4 (.mv (.c (.one (.int .i64 1))))]
def f61r3 : List SOper := [
 mX 0 6 4,
 mX 1 7 0,
 pX 2 8 (.len (.t 7)),
 pX 3 9 (.bin .lss (.t 6) (.t 8))]
def f61r4 : List SOper := [
 mX 0 12 3,
 mX 1 13 0,
 mX 2 14 4,
 pX 3 15 (.bin .sub (.t 14) (.c (.one (.int .i64 1)))),
 iX 4 16 2 13 15,
 oX 5 17 (.l (.load true 2 (.t 16))),
 mX 6 18 0,
 mX 7 19 4,
 iX 8 20 2 18 19,
 oX 9 21 (.l (.load true 2 (.t 20))),
 oX 10 22 (.cf 78 [(.t 12), (.t 17), (.t 21)])]
def f61r5 : List SOper := [
 mX 0 10 4,
 pX 1 11 (.bin .add (.t 10) (.c (.one (.int .i64 1)))),
 mX 2 4 11]
def f61b0 : SC := (.seq (.seq (.ops f61r3 0) (.cond (.t 9) .skip (.exit 0))) (.seq (.block 1 (.ops f61r4 11)) (.ops f61r5 0)))
def f61r6 : List SOper := [
 mX 0 23 3,
 mX 1 2 23]
def f61c : SC := (.seq (.ops f61r0 0) (.seq (.ops f61r1 0) (.seq (.seq (.ops f61r2 0) (.block 0 (.loop f61b0))) (.seq (.ops f61r6 0) .ret))))
def f61 : SFn := ⟨24, f61c, [.t 2]⟩

def f62r0 : List SOper := [
 pX 0 2 (.mv (.c (.one .nilm)))]
def f62r1 : List SOper := [
 mX 0 4 0,
 oX 1 5 (.cf 61 [(.t 4)]),
 mX 2 3 5]
def f62r2 : List SOper := [
 mX 0 6 0,
 pX 1 7 (.len (.t 6)),
 pX 2 8 (.bin .gtr (.t 7) (.c (.one (.int .i64 0))))]
def f62r3 : List SOper := [
 mX 0 9 3,
 mX 1 10 0,
 mX 2 11 0,
 pX 3 12 (.len (.t 11)),
 pX 4 13 (.bin .sub (.t 12) (.c (.one (.int .i64 1)))),
 iX 5 14 2 10 13,
 oX 6 15 (.l (.load true 2 (.t 14))),
 mX 7 16 0,
 pX 8 17 (.iaddr 2 (.t 16) (.c (.one (.int .i64 0)))),
 oX 9 18 (.l (.load true 2 (.t 17))),
 oX 10 19 (.cf 78 [(.t 9), (.t 15), (.t 18)])]
def f62r4 : List SOper := [
 mX 0 20 3,
 mX 1 2 20]
def f62c : SC := (.seq (.ops f62r0 0) (.seq (.ops f62r1 0) (.seq (.seq (.ops f62r2 0) (.cond (.t 8) (.ops f62r3 11) .skip)) (.seq (.ops f62r4 0) .ret))))
def f62 : SFn := ⟨21, f62c, [.t 2]⟩

def f63r0 : List SOper := [
 pX 0 2 (.mv (.c (.one .nilf)))]
def f63r1 : List SOper := [
 pX 0 4 (.build [.nilf, .nilf, .nilf, .nilf] [(0, 1, (.c (.one (.fn 79 [])))), (1, 1, (.c (.one (.fn 80 [])))), (2, 1, (.c (.one (.fn 81 [])))), (3, 1, (.c (.one (.fn 82 []))))]),
 oX 1 3 (.a (.alloc [.nilf, .nilf, .nilf, .nilf])),
⟨2, none, .e (.store 4 (.t 3) (.t 4)), none, none, [], false⟩]
def f63r2 : List SOper := [
 mX 0 5 0,
 pX 1 6 (.aaddr 4 1 (.t 3) (.t 5)),
 lX 2 7 6,
 mX 3 2 7]
def f63c : SC := (.seq (.ops f63r0 0) (.seq (.ops f63r1 0) (.seq (.ops f63r2 0) .ret)))
def f63 : SFn := ⟨8, f63c, [.t 2]⟩

def f64r0 : List SOper := [
 oX 0 3 (.a (.box (.t 1))),
 pX 1 4 (.mv (.c (.one (.bool false))))]
def f64r1 : List SOper := [
 pX 0 5 (.mv (.c (.one (.bool false))))]
def f64r2 : List SOper := [
 mX 0 9 0,
 pX 1 10 (.len (.t 9)),
 pX 2 11 (.mv (.c (.one (.int .i64 0))))]
def f64r3 : List SOper := [
 pX 0 12 (.bin .lss (.t 11) (.t 10))]
def f64r4 : List SOper := [
 mX 0 13 11,
 iX 1 14 2 9 11,
 oX 2 15 (.l (.load true 2 (.t 14))),
 oX 3 7 (.a (.alloc [(.int .i64 0), (.int .i64 0)])),
 mX 4 6 13,
⟨5, none, .e (.store 2 (.t 7) (.t 15)), none, none, [], false⟩]
def f64r5 : List SOper := [
 mX 0 16 0,
 mX 1 17 6,
 pX 2 18 (.bin .add (.t 17) (.c (.one (.int .i64 1)))),
 mX 3 19 0,
 pX 4 20 (.len (.t 19)),
 pX 5 21 (.bin .rem (.t 18) (.t 20)),
 iX 6 22 2 16 21,
 oX 7 23 (.l (.load true 2 (.t 22))),
 oX 8 8 (.a (.alloc [(.int .i64 0), (.int .i64 0)])),
⟨9, none, .e (.store 2 (.t 8) (.t 23)), none, none, [], false⟩]
def f64r6 : List SOper := [
 oX 0 24 (.l (.load true 2 (.t 7))),
 oX 1 25 (.l (.load true 2 (.t 8))),
 oX 2 26 (.l (.load true 2 (.t 3))),
 oX 3 27 (.cf 83 [(.t 24), (.t 25), (.t 26)])]
def f64r7 : List SOper := [
 pX 0 4 (.mv (.c (.one (.bool true))))]
def f64r8 : List SOper := [
 oX 0 28 (.l (.load true 2 (.t 7))),
 oX 1 29 (.l (.load true 2 (.t 8))),
 oX 2 30 (.l (.load true 2 (.t 3))),
 oX 3 31 (.cf 84 [(.t 28), (.t 29), (.t 30)])]
def f64r9 : List SOper := [
 mX 0 32 5,
 pX 1 33 (.not (.t 32)),
 mX 2 5 33]
def f64r10 : List SOper := [
 pX 0 34 (.bin .add (.t 11) (.c (.one (.int .i64 1)))),
 mX 1 11 34]
def f64b0 : SC := (.seq (.ops f64r3 0) (.seq (.cond (.t 12) .skip (.exit 0)) (.seq (.block 1 (.seq (.ops f64r4 0) (.seq (.ops f64r5 0) (.seq (.seq (.ops f64r6 0) (.cond (.t 27) (.seq (.ops f64r7 0) .ret) .skip)) (.seq (.ops f64r8 0) (.cond (.t 31) (.ops f64r9 0) .skip)))))) (.ops f64r10 0))))
def f64r11 : List SOper := [
 mX 0 35 5,
 mX 1 4 35]
def f64c : SC := (.seq (.ops f64r0 0) (.seq (.ops f64r1 0) (.seq (.seq (.ops f64r2 0) (.block 0 (.loop f64b0))) (.seq (.ops f64r11 0) .ret))))
def f64 : SFn := ⟨36, f64c, [.t 4]⟩

def f66r0 : List SOper := [
 pX 0 2 (.mv (.c (.one (.int .i64 0))))]
def f66r1 : List SOper := [
 mX 0 3 0,
 pX 1 4 (.bin .lss (.t 3) (.c (.one (.int .i64 0))))]
def f66r2 : List SOper := [
 mX 0 5 0,
 pX 1 6 (.neg (.t 5)),
 mX 2 2 6]
def f66r3 : List SOper := [
 mX 0 7 0,
 mX 1 2 7]
def f66c : SC := (.seq (.ops f66r0 0) (.seq (.seq (.ops f66r1 0) (.cond (.t 4) (.seq (.ops f66r2 0) .ret) .skip)) (.seq (.ops f66r3 0) .ret)))
def f66 : SFn := ⟨8, f66c, [.t 2]⟩

def f67r0 : List SOper := [
 pX 0 4 (.mv (.c (.one (.int .i64 0))))]
def f67r1 : List SOper := [
 mX 0 6 0,
 mX 1 7 1,
 pX 2 8 (.bin .quo (.t 6) (.t 7)),
 mX 3 5 8]
def f67r2 : List SOper := [
 mX 0 9 0,
 mX 1 10 1,
 pX 2 11 (.bin .rem (.t 9) (.t 10)),
 pX 3 12 (.bin .lss (.t 11) (.c (.one (.int .i64 0))))]
def f67r3 : List SOper := [
 mX 0 13 5,
 pX 1 14 (.bin .sub (.t 13) (.c (.one (.int .i64 1)))),
 mX 2 5 14]
def f67r4 : List SOper := [
 mX 0 15 5,
 mX 1 4 15]
def f67c : SC := (.seq (.ops f67r0 0) (.seq (.ops f67r1 0) (.seq (.seq (.ops f67r2 0) (.cond (.t 12) (.ops f67r3 0) .skip)) (.seq (.ops f67r4 0) .ret))))
def f67 : SFn := ⟨16, f67c, [.t 4]⟩

def f68r0 : List SOper := [
 oX 0 3 (.a (.box (.t 0))),
 oX 1 4 (.a (.box (.t 1))),
 oX 2 5 (.a (.box (.t 2))),
 pX 3 6 (.mv (.c (.one (.int .i64 0))))]
def f68r1 : List SOper := [
 aX 0 7 0 4,
 lX 1 8 7,
 aX 2 9 0 3,
 lX 3 10 9,
 pX 4 11 (.bin .sub (.t 8) (.t 10)),
 aX 5 12 1 5,
 lX 6 13 12,
 aX 7 14 1 3,
 lX 8 15 14,
 pX 9 16 (.bin .sub (.t 13) (.t 15)),
 pX 10 17 (.bin .mul (.t 11) (.t 16)),
 aX 11 18 1 4,
 lX 12 19 18,
 aX 13 20 1 3,
 lX 14 21 20,
 pX 15 22 (.bin .sub (.t 19) (.t 21)),
 aX 16 23 0 5,
 lX 17 24 23,
 aX 18 25 0 3,
 lX 19 26 25,
 pX 20 27 (.bin .sub (.t 24) (.t 26)),
 pX 21 28 (.bin .mul (.t 22) (.t 27)),
 pX 22 29 (.bin .sub (.t 17) (.t 28)),
 mX 23 6 29]
def f68c : SC := (.seq (.ops f68r0 0) (.seq (.ops f68r1 0) .ret))
def f68 : SFn := ⟨30, f68c, [.t 6]⟩

def f69r0 : List SOper := [
 pX 0 10 (.mv (.c (.one (.bool true))))]
def f69r1 : List SOper := [
 pX 0 11 (.mv (.c (.one (.bool true))))]
def f69r2 : List SOper := [
 mX 0 21 2,
 mX 1 22 1,
 pX 2 23 (.bin .sub (.t 21) (.t 22)),
 mX 3 12 23]
def f69r3 : List SOper := [
 mX 0 24 12,
 pX 1 25 (.bin .leq (.t 24) (.c (.one (.int .i64 12))))]
def f69r4 : List SOper := [
 mX 0 26 0,
 mX 1 27 1,
 mX 2 28 2,
 mX 3 29 4,
 oX 4 30 (.cf 86 [(.t 26), (.t 27), (.t 28), (.t 29)])]
def f69r5 : List SOper := [
 mX 0 31 3,
 pX 1 32 (.bin .eql (.t 31) (.c (.one (.int .i64 0))))]
def f69r6 : List SOper := [
 mX 0 33 0,
 mX 1 34 1,
 mX 2 35 2,
 mX 3 36 4,
 oX 4 37 (.cf 87 [(.t 33), (.t 34), (.t 35), (.t 36)])]
def f69r7 : List SOper := [
 mX 0 38 10,
 pX 1 39 (.not (.t 38))]
def f69r8 : List SOper := [
 mX 0 40 0,
 mX 1 41 1,
 mX 2 42 2,
 mX 3 43 4,
 oX 4 44 (.cf 88 [(.t 40), (.t 41), (.t 42), (.t 43)])]
def f69r9 : List SOper := [
 mX 0 45 3,
 pX 1 46 (.bin .sub (.t 45) (.c (.one (.int .i64 1)))),
 mX 2 3 46]
def f69r10 : List SOper := [
 mX 0 48 0,
 mX 1 49 1,
 mX 2 50 2,
 mX 3 51 4,
 oX 4 52 (.cf 89 [(.t 48), (.t 49), (.t 50), (.t 51)]),
 mX 5 47 52,
 pX 6 53 (.extract (.t 47) 0),
 pX 7 54 (.extract (.t 47) 1),
 mX 8 13 53,
 mX 9 14 54]
def f69r11 : List SOper := [
 mX 0 55 14,
 pX 1 56 (.bin .eql (.t 55) (.c (.one (.int .i64 2))))]
def f69r12 : List SOper := [
 mX 0 57 0,
 mX 1 58 1,
 mX 2 59 2,
 mX 3 60 4,
 oX 4 61 (.cf 90 [(.t 57), (.t 58), (.t 59), (.t 60)])]
def f69r13 : List SOper := [
 mX 0 62 2,
 pX 1 63 (.bin .sub (.t 62) (.c (.one (.int .i64 1)))),
 mX 2 64 13,
 mX 3 65 1,
 pX 4 66 (.bin .sub (.t 64) (.t 65)),
 pX 5 67 (.bin .sub (.t 63) (.t 66)),
 mX 6 13 67]
def f69r14 : List SOper := [
 pX 0 14 (.mv (.c (.one (.int .i64 1))))]
def f69r15 : List SOper := [
 mX 0 68 10,
 mX 1 69 68,
 gX 2 70 11 69 true,
 pX 3 71 (.pick (.t 69) (.t 70) (.c (.one (.bool false)))),
 mX 4 72 71,
 gX 5 73 14 72 true,
⟨6, some 74, .p (.bin .eql (.t 73) (.c (.one (.int .i64 1)))), (some (72, true)), none, [], false⟩,
 pX 7 75 (.pick (.t 72) (.t 74) (.c (.one (.bool false))))]
def f69r16 : List SOper := [
 mX 0 76 0,
 mX 1 77 1,
 mX 2 78 2,
 mX 3 79 4,
 oX 4 80 (.cf 91 [(.t 76), (.t 77), (.t 78), (.t 79)])]
def f69r17 : List SOper := [
 mX 0 81 1,
 pX 1 82 (.bin .gtr (.t 81) (.c (.one (.int .i64 0)))),
 mX 2 83 82,
 gX 3 84 4 83 true,
 gX 4 85 0 83 true,
 gX 5 86 1 83 true,
⟨6, some 87, .p (.bin .sub (.t 86) (.c (.one (.int .i64 1)))), (some (83, true)), none, [], false⟩,
⟨7, some 88, .p (.iaddr 2 (.t 85) (.t 87)), (some (83, true)), none, [], false⟩,
⟨8, some 89, .l (.load true 2 (.t 88)), (some (83, true)), none, [], false⟩,
 gX 9 90 0 83 true,
 gX 10 91 13 83 true,
⟨11, some 92, .p (.iaddr 2 (.t 90) (.t 91)), (some (83, true)), none, [], false⟩,
⟨12, some 93, .l (.load true 2 (.t 92)), (some (83, true)), none, [], false⟩,
⟨13, some 94, .cv (.t 84) [(.t 89), (.t 93)], (some (83, true)), none, [], false⟩,
⟨14, some 95, .p (.bin .lss (.t 94) (.c (.one (.int .i64 0)))), (some (83, true)), none, [], false⟩,
⟨15, some 96, .p (.not (.t 95)), (some (83, true)), none, [], false⟩,
 pX 16 97 (.pick (.t 83) (.t 96) (.c (.one (.bool false))))]
def f69r18 : List SOper := [
 mX 0 98 0,
 mX 1 99 1,
 mX 2 100 2,
 mX 3 101 13,
 mX 4 102 4,
 oX 5 103 (.cf 92 [(.t 98), (.t 99), (.t 100), (.t 101), (.t 102)]),
 mX 6 15 103]
def f69r19 : List SOper := [
 mX 0 104 15,
 mX 1 1 104]
def f69r20 : List SOper := [
 mX 0 106 0,
 mX 1 107 1,
 mX 2 108 2,
 mX 3 109 13,
 mX 4 110 4,
 oX 5 111 (.cf 93 [(.t 106), (.t 107), (.t 108), (.t 109), (.t 110)]),
 mX 6 105 111,
 pX 7 112 (.extract (.t 105) 0),
 pX 8 113 (.extract (.t 105) 1),
 mX 9 16 112,
 mX 10 17 113]
def f69r21 : List SOper := [
 mX 0 114 17,
 mX 1 11 114]
def f69r22 : List SOper := [
 mX 0 115 16,
 mX 1 116 1,
 pX 2 117 (.bin .sub (.t 115) (.t 116)),
 mX 3 118 2,
 mX 4 119 16,
 pX 5 120 (.bin .sub (.t 118) (.t 119)),
 mX 6 18 117,
 mX 7 19 120]
def f69r23 : List SOper := [
 mX 0 121 12,
 pX 1 122 (.bin .quo (.t 121) (.c (.one (.int .i64 8)))),
 mX 2 20 122]
def f69r24 : List SOper := [
 mX 0 123 18,
 mX 1 124 19,
 pX 2 125 (.bin .lss (.t 123) (.t 124))]
def f69r25 : List SOper := [
 mX 0 126 18,
 mX 1 127 20,
 pX 2 128 (.bin .geq (.t 126) (.t 127)),
 mX 3 10 128]
def f69r26 : List SOper := [
 mX 0 129 0,
 mX 1 130 1,
 mX 2 131 16,
 mX 3 132 3,
 mX 4 133 4,
 oX 5 134 (.cf 69 [(.t 129), (.t 130), (.t 131), (.t 132), (.t 133)])]
def f69r27 : List SOper := [
 mX 0 135 16,
 pX 1 136 (.bin .add (.t 135) (.c (.one (.int .i64 1)))),
 mX 2 1 136]
def f69r28 : List SOper := [
 mX 0 137 19,
 mX 1 138 20,
 pX 2 139 (.bin .geq (.t 137) (.t 138)),
 mX 3 10 139]
def f69r29 : List SOper := [
 mX 0 140 0,
 mX 1 141 16,
 pX 2 142 (.bin .add (.t 141) (.c (.one (.int .i64 1)))),
 mX 3 143 2,
 mX 4 144 3,
 mX 5 145 4,
 oX 6 146 (.cf 69 [(.t 140), (.t 142), (.t 143), (.t 144), (.t 145)])]
def f69r30 : List SOper := [
 mX 0 147 16,
 mX 1 2 147]
def f69b0 : SC := (.block 1 (.seq (.ops f69r2 0) (.seq (.seq (.ops f69r3 0) (.cond (.t 25) (.seq (.ops f69r4 0) .ret) .skip)) (.seq (.seq (.ops f69r5 0) (.cond (.t 32) (.seq (.ops f69r6 0) .ret) .skip)) (.seq (.seq (.ops f69r7 0) (.cond (.t 39) (.seq (.ops f69r8 0) (.ops f69r9 0)) .skip)) (.seq (.ops f69r10 0) (.seq (.seq (.ops f69r11 0) (.cond (.t 56) (.seq (.ops f69r12 0) (.seq (.ops f69r13 0) (.ops f69r14 0))) .skip)) (.seq (.seq (.ops f69r15 0) (.cond (.t 75) (.seq (.ops f69r16 0) (.cond (.t 80) .ret .skip)) .skip)) (.seq (.seq (.ops f69r17 17) (.cond (.t 97) (.seq (.ops f69r18 0) (.seq (.ops f69r19 0) (.exit 1))) .skip)) (.seq (.ops f69r20 0) (.seq (.ops f69r21 0) (.seq (.ops f69r22 0) (.seq (.ops f69r23 0) (.seq (.ops f69r24 0) (.cond (.t 125) (.seq (.ops f69r25 0) (.seq (.ops f69r26 0) (.ops f69r27 0))) (.seq (.ops f69r28 0) (.seq (.ops f69r29 0) (.ops f69r30 0))))))))))))))))))
def f69c : SC := (.seq (.ops f69r0 0) (.seq (.ops f69r1 0) (.block 0 (.loop f69b0))))
def f69 : SFn := ⟨148, f69c, []⟩

def f70r0 : List SOper := [
 pX 0 2 (.mv (.c (.one (.int .i64 0))))]
def f70r1 : List SOper := [
 mX 0 3 0,
 pX 1 4 (.conv .u32 (.t 3)),
 oX 2 5 (.cf 94 [(.t 4)]),
 mX 3 2 5]
def f70r2 : List SOper := [
 mX 0 6 0,
 oX 1 7 (.cf 95 [(.t 6)]),
 mX 2 2 7]
def f70c : SC := (.seq (.ops f70r0 0) (.seq (.cond (.c (.one (.bool false))) (.seq (.ops f70r1 0) .ret) .skip) (.seq (.ops f70r2 0) .ret)))
def f70 : SFn := ⟨8, f70c, [.t 2]⟩

def f71r0 : List SOper := [
 pX 0 4 (.mv (.c (.one (.bool false))))]
def f71r1 : List SOper := [
 mX 0 5 0,
 oX 1 6 (.cf 96 [(.t 5)]),
 mX 2 7 6,
 gX 3 8 1 7 true,
⟨4, some 9, .cf 96 [(.t 8)], (some (7, true)), none, [], false⟩,
⟨5, some 10, .p (.not (.t 9)), (some (7, true)), none, [], false⟩,
 pX 6 11 (.pick (.t 7) (.t 10) (.c (.one (.bool false)))),
 mX 7 12 11,
 gX 8 13 0 12 false,
 gX 9 14 1 12 false,
⟨10, some 15, .p (.bin .lss (.t 13) (.t 14)), (some (12, false)), none, [], false⟩,
 pX 11 16 (.pick (.t 12) (.c (.one (.bool true))) (.t 15)),
 mX 12 4 16]
def f71c : SC := (.seq (.ops f71r0 0) (.seq (.ops f71r1 0) .ret))
def f71 : SFn := ⟨17, f71c, [.t 4]⟩

def f72r0 : List SOper := [
 pX 0 2 (.mv (.c (.one (.bool false))))]
def f72r1 : List SOper := [
 mX 0 3 0,
 mX 1 4 0,
 pX 2 5 (.bin .neq (.t 3) (.t 4)),
 mX 3 2 5]
def f72c : SC := (.seq (.ops f72r0 0) (.seq (.ops f72r1 0) .ret))
def f72 : SFn := ⟨6, f72c, [.t 2]⟩

def f73r0 : List SOper := [
 pX 0 4 (.mv (.c (.one .nils)))]
def f73r1 : List SOper := [
 mX 0 6 0,
 oX 1 7 (.cf 97 [(.t 6)]),
 mX 2 5 7]
def f73r2 : List SOper := [
 mX 0 8 5,
 mX 1 9 1,
 oX 2 10 (.cf 54 [(.t 8), (.t 9)])]
def f73r3 : List SOper := [
 mX 0 11 5,
 mX 1 4 11]
def f73c : SC := (.seq (.ops f73r0 0) (.seq (.ops f73r1 0) (.seq (.ops f73r2 0) (.seq (.ops f73r3 0) .ret))))
def f73 : SFn := ⟨12, f73c, [.t 4]⟩

def f74r0 : List SOper := [
 oX 0 1 (.a (.box (.t 0))),
 pX 1 2 (.mv (.c (.one .nilf)))]
def f74r1 : List SOper := [
 pX 0 3 (.mkfn 98 [(.t 1)]),
 mX 1 2 3]
def f74c : SC := (.seq (.ops f74r0 0) (.seq (.ops f74r1 0) .ret))
def f74 : SFn := ⟨4, f74c, [.t 2]⟩

def f75r0 : List SOper := [
 oX 0 2 (.a (.box (.t 0))),
 oX 1 3 (.a (.box (.t 1))),
 pX 2 4 (.mv (.c (.one (.int .i64 0))))]
def f75r1 : List SOper := [
 aX 0 5 1 2,
 lX 1 6 5,
 aX 2 7 1 3,
 lX 3 8 7,
 aX 5 10 0 2,
⟨6, some 11, .l (.load false 1 (.t 10)), none, none, [], true⟩,
 aX 7 12 0 3,
⟨8, some 13, .l (.load false 1 (.t 12)), none, none, [], true⟩,
⟨4, some 9, .cf 77 [(.t 6), (.t 8)], none, none, [8, 6], false⟩,
 oX 9 14 (.cf 77 [(.t 11), (.t 13)]),
⟨10, some 15, .a (.bslice 1 2 [(.int .i64 0)] [(0, 1, (.t 9)), (1, 1, (.t 14))]), none, (some 10), [], false⟩,
 oX 11 16 (.cf 76 [(.t 15)]),
 mX 12 4 16]
def f75c : SC := (.seq (.ops f75r0 0) (.seq (.ops f75r1 13) .ret))
def f75 : SFn := ⟨17, f75c, [.t 4]⟩

def f76r0 : List SOper := [
 pX 0 2 (.mv (.c (.one (.int .i64 0))))]
def f76r1 : List SOper := [
 pX 0 3 (.mv (.c (.one (.int .i64 0))))]
def f76r2 : List SOper := [
 mX 0 6 0,
 pX 1 7 (.len (.t 6)),
 pX 2 8 (.mv (.c (.one (.int .i64 0))))]
def f76r3 : List SOper := [
 pX 0 9 (.bin .lss (.t 8) (.t 7))]
def f76r4 : List SOper := [
 iX 0 10 1 6 8,
 lX 1 11 10,
 mX 2 5 11]
def f76r5 : List SOper := [
 mX 0 12 5,
 mX 1 13 3,
 pX 2 14 (.bin .neq (.t 12) (.t 13))]
def f76r6 : List SOper := [
 mX 0 15 5,
 mX 1 2 15]
def f76r7 : List SOper := [
 pX 0 16 (.bin .add (.t 8) (.c (.one (.int .i64 1)))),
 mX 1 8 16]
def f76b0 : SC := (.seq (.ops f76r3 0) (.seq (.cond (.t 9) .skip (.exit 0)) (.seq (.block 1 (.seq (.ops f76r4 0) (.seq (.ops f76r5 0) (.cond (.t 14) (.seq (.ops f76r6 0) .ret) .skip)))) (.ops f76r7 0))))
def f76r8 : List SOper := [
 mX 0 17 3,
 mX 1 2 17]
def f76c : SC := (.seq (.ops f76r0 0) (.seq (.ops f76r1 0) (.seq (.seq (.ops f76r2 0) (.block 0 (.loop f76b0))) (.seq (.ops f76r8 0) .ret))))
def f76 : SFn := ⟨18, f76c, [.t 2]⟩

def f77r0 : List SOper := [
 pX 0 4 (.mv (.c (.one (.int .i64 0))))]
def f77r1 : List SOper := [
 mX 0 7 0,
 oX 1 8 (.cf 96 [(.t 7)]),
 mX 2 5 8]
def f77r2 : List SOper := [
 mX 0 9 1,
 oX 1 10 (.cf 96 [(.t 9)]),
 mX 2 6 10]
def f77r3 : List SOper := [
 mX 0 11 5]
def f77r4 : List SOper := [
 mX 0 12 6]
def f77r5 : List SOper := [
 pX 0 4 (.mv (.c (.one (.int .i64 0))))]
def f77r6 : List SOper := [
 pX 0 4 (.mv (.c (.one (.int .i64 (-1)))))]
def f77r7 : List SOper := [
 mX 0 13 6]
def f77r8 : List SOper := [
 pX 0 4 (.mv (.c (.one (.int .i64 1))))]
def f77r9 : List SOper := [
 mX 0 14 0,
 mX 1 15 1,
 pX 2 16 (.bin .lss (.t 14) (.t 15))]
def f77r10 : List SOper := [
 pX 0 4 (.mv (.c (.one (.int .i64 (-1)))))]
def f77r11 : List SOper := [
 mX 0 17 0,
 mX 1 18 1,
 pX 2 19 (.bin .gtr (.t 17) (.t 18))]
def f77r12 : List SOper := [
 pX 0 4 (.mv (.c (.one (.int .i64 1))))]
def f77r13 : List SOper := [
 pX 0 4 (.mv (.c (.one (.int .i64 0))))]
def f77c : SC := (.seq (.ops f77r0 0) (.seq (.ops f77r1 0) (.seq (.ops f77r2 0) (.seq (.seq (.ops f77r3 0) (.cond (.t 11) (.seq (.seq (.ops f77r4 0) (.cond (.t 12) (.seq (.ops f77r5 0) .ret) .skip)) (.seq (.ops f77r6 0) .ret)) .skip)) (.seq (.seq (.ops f77r7 0) (.cond (.t 13) (.seq (.ops f77r8 0) .ret) .skip)) (.seq (.seq (.ops f77r9 0) (.cond (.t 16) (.seq (.ops f77r10 0) .ret) .skip)) (.seq (.seq (.ops f77r11 0) (.cond (.t 19) (.seq (.ops f77r12 0) .ret) .skip)) (.seq (.ops f77r13 0) .ret))))))))
def f77 : SFn := ⟨20, f77c, [.t 4]⟩

def f78r0 : List SOper := [
 oX 0 4 (.a (.box (.t 1))),
 oX 1 5 (.a (.box (.t 2)))]
def f78r1 : List SOper := [
 oX 0 8 (.l (.load true 2 (.t 4))),
 oX 1 9 (.l (.load true 2 (.t 5))),
 oX 2 10 (.cf 99 [(.t 8), (.t 9)]),
 pX 3 11 (.len (.t 10)),
 pX 4 12 (.mv (.c (.one (.int .i64 0))))]
def f78r2 : List SOper := [
 pX 0 13 (.bin .lss (.t 12) (.t 11))]
def f78r3 : List SOper := [
 iX 0 14 2 10 12,
 oX 1 15 (.l (.load true 2 (.t 14))),
 oX 2 7 (.a (.alloc [(.int .i64 0), (.int .i64 0)])),
⟨3, none, .e (.store 2 (.t 7) (.t 15)), none, none, [], false⟩]
def f78r4 : List SOper := [
 mX 0 16 0,
 oX 1 17 (.l (.load true 2 (.t 7))),
⟨2, none, .e (.stupd (.t 16) (.t 17) (.c (.one (.bool true)))), none, none, [], false⟩]
def f78r5 : List SOper := [
 pX 0 18 (.bin .add (.t 12) (.c (.one (.int .i64 1)))),
 mX 1 12 18]
def f78b0 : SC := (.seq (.ops f78r2 0) (.seq (.cond (.t 13) .skip (.exit 0)) (.seq (.block 1 (.seq (.ops f78r3 0) (.ops f78r4 0))) (.ops f78r5 0))))
def f78c : SC := (.seq (.ops f78r0 0) (.seq (.ops f78r1 0) (.block 0 (.loop f78b0))))
def f78 : SFn := ⟨19, f78c, []⟩

def f79r0 : List SOper := [
 oX 0 1 (.a (.box (.t 0))),
 pX 1 2 (.mv (.c (.one (.bool false))))]
def f79r1 : List SOper := [
 pX 0 2 (.mv (.c (.one (.bool false))))]
def f79c : SC := (.seq (.ops f79r0 0) (.seq (.ops f79r1 0) .ret))
def f79 : SFn := ⟨3, f79c, [.t 2]⟩

def f80r0 : List SOper := [
 oX 0 1 (.a (.box (.t 0))),
 pX 1 2 (.mv (.c (.one (.bool false))))]
def f80r1 : List SOper := [
 aX 0 3 0 1,
 lX 1 4 3,
 aX 2 5 1 1,
 lX 3 6 5,
 pX 4 7 (.bin .add (.t 4) (.t 6)),
 pX 5 8 (.bin .rem (.t 7) (.c (.one (.int .i64 2)))),
 pX 6 9 (.bin .eql (.t 8) (.c (.one (.int .i64 0)))),
 mX 7 2 9]
def f80c : SC := (.seq (.ops f80r0 0) (.seq (.ops f80r1 0) .ret))
def f80 : SFn := ⟨10, f80c, [.t 2]⟩

def f81r0 : List SOper := [
 oX 0 1 (.a (.box (.t 0))),
 pX 1 2 (.mv (.c (.one (.bool false))))]
def f81r1 : List SOper := [
 aX 0 3 1 1,
 lX 1 4 3,
 pX 2 5 (.bin .rem (.t 4) (.c (.one (.int .i64 2)))),
 pX 3 6 (.bin .eql (.t 5) (.c (.one (.int .i64 0)))),
 mX 4 2 6]
def f81c : SC := (.seq (.ops f81r0 0) (.seq (.ops f81r1 0) .ret))
def f81 : SFn := ⟨7, f81c, [.t 2]⟩

def f82r0 : List SOper := [
 oX 0 1 (.a (.box (.t 0))),
 pX 1 2 (.mv (.c (.one (.bool false))))]
def f82r1 : List SOper := [
 pX 0 2 (.mv (.c (.one (.bool true))))]
def f82c : SC := (.seq (.ops f82r0 0) (.seq (.ops f82r1 0) .ret))
def f82 : SFn := ⟨3, f82c, [.t 2]⟩

def f83r0 : List SOper := [
 oX 0 3 (.a (.box (.t 0))),
 oX 1 4 (.a (.box (.t 1))),
 oX 2 5 (.a (.box (.t 2))),
 pX 3 6 (.mv (.c (.one (.bool false))))]
def f83r1 : List SOper := [
 oX 0 7 (.l (.load true 2 (.t 5))),
 oX 1 8 (.l (.load true 2 (.t 3))),
 pX 2 9 (.eqs false [(0, false), (1, false)] (.t 7) (.t 8)),
 mX 3 10 9,
⟨4, some 11, .l (.load true 2 (.t 5)), (some (10, false)), none, [], false⟩,
⟨5, some 12, .l (.load true 2 (.t 4)), (some (10, false)), none, [], false⟩,
⟨6, some 13, .p (.eqs false [(0, false), (1, false)] (.t 11) (.t 12)), (some (10, false)), none, [], false⟩,
 pX 7 14 (.pick (.t 10) (.c (.one (.bool true))) (.t 13))]
def f83r2 : List SOper := [
 pX 0 6 (.mv (.c (.one (.bool true))))]
def f83r3 : List SOper := [
 aX 0 15 0 4,
 lX 1 16 15,
 aX 2 17 0 3,
 lX 3 18 17,
 pX 4 19 (.bin .sub (.t 16) (.t 18)),
 aX 5 20 1 5,
 lX 6 21 20,
 aX 7 22 1 3,
 lX 8 23 22,
 pX 9 24 (.bin .sub (.t 21) (.t 23)),
 pX 10 25 (.bin .mul (.t 19) (.t 24)),
 aX 11 26 1 4,
 lX 12 27 26,
 aX 13 28 1 3,
 lX 14 29 28,
 pX 15 30 (.bin .sub (.t 27) (.t 29)),
 aX 16 31 0 5,
 lX 17 32 31,
 aX 18 33 0 3,
 lX 19 34 33,
 pX 20 35 (.bin .sub (.t 32) (.t 34)),
 pX 21 36 (.bin .mul (.t 30) (.t 35)),
 pX 22 37 (.bin .neq (.t 25) (.t 36))]
def f83r4 : List SOper := [
 pX 0 6 (.mv (.c (.one (.bool false))))]
def f83r5 : List SOper := [
 aX 0 38 0 3,
 lX 1 39 38,
 aX 2 40 0 4,
 lX 3 41 40,
 pX 4 42 (.mm false (.t 39) (.t 41)),
 aX 5 43 0 5,
 lX 6 44 43,
 pX 7 45 (.bin .leq (.t 42) (.t 44)),
 mX 8 46 45,
⟨9, some 47, .p (.faddr 0 (.t 5)), (some (46, true)), none, [], false⟩,
⟨10, some 48, .l (.load false 1 (.t 47)), (some (46, true)), none, [], false⟩,
⟨11, some 49, .p (.faddr 0 (.t 3)), (some (46, true)), none, [], false⟩,
⟨12, some 50, .l (.load false 1 (.t 49)), (some (46, true)), none, [], false⟩,
⟨13, some 51, .p (.faddr 0 (.t 4)), (some (46, true)), none, [], false⟩,
⟨14, some 52, .l (.load false 1 (.t 51)), (some (46, true)), none, [], false⟩,
⟨15, some 53, .p (.mm true (.t 50) (.t 52)), (some (46, true)), none, [], false⟩,
⟨16, some 54, .p (.bin .leq (.t 48) (.t 53)), (some (46, true)), none, [], false⟩,
 pX 17 55 (.pick (.t 46) (.t 54) (.c (.one (.bool false)))),
 mX 18 56 55,
⟨19, some 57, .p (.faddr 1 (.t 3)), (some (56, true)), none, [], false⟩,
⟨20, some 58, .l (.load false 1 (.t 57)), (some (56, true)), none, [], false⟩,
⟨21, some 59, .p (.faddr 1 (.t 4)), (some (56, true)), none, [], false⟩,
⟨22, some 60, .l (.load false 1 (.t 59)), (some (56, true)), none, [], false⟩,
⟨23, some 61, .p (.mm false (.t 58) (.t 60)), (some (56, true)), none, [], false⟩,
⟨24, some 62, .p (.faddr 1 (.t 5)), (some (56, true)), none, [], false⟩,
⟨25, some 63, .l (.load false 1 (.t 62)), (some (56, true)), none, [], false⟩,
⟨26, some 64, .p (.bin .leq (.t 61) (.t 63)), (some (56, true)), none, [], false⟩,
 pX 27 65 (.pick (.t 56) (.t 64) (.c (.one (.bool false)))),
 mX 28 66 65,
⟨29, some 67, .p (.faddr 1 (.t 5)), (some (66, true)), none, [], false⟩,
⟨30, some 68, .l (.load false 1 (.t 67)), (some (66, true)), none, [], false⟩,
⟨31, some 69, .p (.faddr 1 (.t 3)), (some (66, true)), none, [], false⟩,
⟨32, some 70, .l (.load false 1 (.t 69)), (some (66, true)), none, [], false⟩,
⟨33, some 71, .p (.faddr 1 (.t 4)), (some (66, true)), none, [], false⟩,
⟨34, some 72, .l (.load false 1 (.t 71)), (some (66, true)), none, [], false⟩,
⟨35, some 73, .p (.mm true (.t 70) (.t 72)), (some (66, true)), none, [], false⟩,
⟨36, some 74, .p (.bin .leq (.t 68) (.t 73)), (some (66, true)), none, [], false⟩,
 pX 37 75 (.pick (.t 66) (.t 74) (.c (.one (.bool false)))),
 mX 38 6 75]
def f83c : SC := (.seq (.ops f83r0 0) (.seq (.seq (.ops f83r1 0) (.cond (.t 14) (.seq (.ops f83r2 0) .ret) .skip)) (.seq (.seq (.ops f83r3 0) (.cond (.t 37) (.seq (.ops f83r4 0) .ret) .skip)) (.seq (.ops f83r5 0) .ret))))
def f83 : SFn := ⟨76, f83c, [.t 6]⟩

def f84r0 : List SOper := [
 oX 0 3 (.a (.box (.t 0))),
 oX 1 4 (.a (.box (.t 1))),
 oX 2 5 (.a (.box (.t 2))),
 pX 3 6 (.mv (.c (.one (.bool false))))]
def f84r1 : List SOper := [
 aX 0 9 1 3,
 lX 1 10 9,
 aX 2 11 1 5,
 lX 3 12 11,
 pX 4 13 (.bin .leq (.t 10) (.t 12)),
 aX 5 14 1 4,
 lX 6 15 14,
 aX 7 16 1 5,
 lX 8 17 16,
 pX 9 18 (.bin .leq (.t 15) (.t 17)),
 pX 10 19 (.beq false (.t 13) (.t 18))]
def f84r2 : List SOper := [
 pX 0 6 (.mv (.c (.one (.bool false))))]
def f84r3 : List SOper := [
 aX 0 20 1 5,
 lX 1 21 20,
 aX 2 22 1 3,
 lX 3 23 22,
 pX 4 24 (.bin .sub (.t 21) (.t 23)),
 aX 5 25 0 4,
 lX 6 26 25,
 aX 7 27 0 3,
 lX 8 28 27,
 pX 9 29 (.bin .sub (.t 26) (.t 28)),
 pX 10 30 (.bin .mul (.t 24) (.t 29)),
 aX 11 31 0 5,
 lX 12 32 31,
 aX 13 33 0 3,
 lX 14 34 33,
 pX 15 35 (.bin .sub (.t 32) (.t 34)),
 aX 16 36 1 4,
 lX 17 37 36,
 aX 18 38 1 3,
 lX 19 39 38,
 pX 20 40 (.bin .sub (.t 37) (.t 39)),
 pX 21 41 (.bin .mul (.t 35) (.t 40)),
 mX 22 7 30,
 mX 23 8 41]
def f84r4 : List SOper := [
 aX 0 42 1 4,
 lX 1 43 42,
 aX 2 44 1 3,
 lX 3 45 44,
 pX 4 46 (.bin .gtr (.t 43) (.t 45))]
def f84r5 : List SOper := [
 mX 0 47 7,
 mX 1 48 8,
 pX 2 49 (.bin .gtr (.t 47) (.t 48)),
 mX 3 6 49]
def f84r6 : List SOper := [
 mX 0 50 7,
 mX 1 51 8,
 pX 2 52 (.bin .lss (.t 50) (.t 51)),
 mX 3 6 52]
def f84c : SC := (.seq (.ops f84r0 0) (.seq (.seq (.ops f84r1 0) (.cond (.t 19) (.seq (.ops f84r2 0) .ret) .skip)) (.seq (.ops f84r3 24) (.seq (.seq (.ops f84r4 0) (.cond (.t 46) (.seq (.ops f84r5 0) .ret) .skip)) (.seq (.ops f84r6 0) .ret)))))
def f84 : SFn := ⟨53, f84c, [.t 6]⟩

def f86r0 : List SOper := [
 mX 0 10 1,
 pX 1 11 (.bin .add (.t 10) (.c (.one (.int .i64 1)))),
 mX 2 8 11]
def f86r1 : List SOper := [
 mX 0 12 8,
 mX 1 13 2,
 pX 2 14 (.bin .lss (.t 12) (.t 13))]
def f86r2 : List SOper := [
 mX 0 17 8,
 mX 1 9 17]
def f86r3 : List SOper := [
 mX 0 18 9,
 mX 1 19 1,
 pX 2 20 (.bin .gtr (.t 18) (.t 19)),
 mX 3 21 20,
 gX 4 22 3 21 true,
 gX 5 23 0 21 true,
 gX 6 24 9 21 true,
⟨7, some 25, .p (.iaddr 2 (.t 23) (.t 24)), (some (21, true)), none, [], false⟩,
⟨8, some 26, .l (.load true 2 (.t 25)), (some (21, true)), none, [], false⟩,
 gX 9 27 0 21 true,
 gX 10 28 9 21 true,
⟨11, some 29, .p (.bin .sub (.t 28) (.c (.one (.int .i64 1)))), (some (21, true)), none, [], false⟩,
⟨12, some 30, .p (.iaddr 2 (.t 27) (.t 29)), (some (21, true)), none, [], false⟩,
⟨13, some 31, .l (.load true 2 (.t 30)), (some (21, true)), none, [], false⟩,
⟨14, some 32, .cv (.t 22) [(.t 26), (.t 31)], (some (21, true)), none, [], false⟩,
⟨15, some 33, .p (.bin .lss (.t 32) (.c (.one (.int .i64 0)))), (some (21, true)), none, [], false⟩,
 pX 16 34 (.pick (.t 21) (.t 33) (.c (.one (.bool false))))]
def f86r4 : List SOper := [
 mX 0 37 0,
 mX 1 38 9,
 mX 2 39 0,
 mX 3 40 9,
 pX 4 41 (.bin .sub (.t 40) (.c (.one (.int .i64 1)))),
 mX 5 42 0,
 mX 6 43 9,
 pX 7 44 (.bin .sub (.t 43) (.c (.one (.int .i64 1)))),
 iX 8 45 2 42 44,
 oX 9 46 (.l (.load true 2 (.t 45))),
 mX 10 47 0,
 mX 11 48 9,
 iX 12 49 2 47 48,
 oX 13 50 (.l (.load true 2 (.t 49))),
 iX 14 51 2 37 38,
⟨15, none, .e (.store 2 (.t 51) (.t 46)), none, none, [], false⟩,
 iX 16 52 2 39 41,
⟨17, none, .e (.store 2 (.t 52) (.t 50)), none, none, [], false⟩]
def f86r5 : List SOper := [
 mX 0 35 9,
 pX 1 36 (.bin .sub (.t 35) (.c (.one (.int .i64 1)))),
 mX 2 9 36]
def f86b0 : SC := (.seq (.seq (.ops f86r3 17) (.cond (.t 34) .skip (.exit 2))) (.seq (.block 3 (.ops f86r4 18)) (.ops f86r5 0)))
def f86r6 : List SOper := [
 mX 0 15 8,
 pX 1 16 (.bin .add (.t 15) (.c (.one (.int .i64 1)))),
 mX 2 8 16]
def f86b1 : SC := (.seq (.seq (.ops f86r1 0) (.cond (.t 14) .skip (.exit 0))) (.seq (.block 1 (.seq (.ops f86r2 0) (.block 2 (.loop f86b0)))) (.ops f86r6 0)))
def f86c : SC := (.seq (.ops f86r0 0) (.block 0 (.loop f86b1)))
def f86 : SFn := ⟨53, f86c, []⟩

def f94r0 : List SOper := [
 pX 0 2 (.mv (.c (.one (.int .i64 0))))]
def f94r1 : List SOper := [
 mX 0 3 0,
 pX 1 4 (.bin .geq (.t 3) (.c (.one (.int .u32 65536))))]
def f94r2 : List SOper := [
 mX 0 5 0,
 pX 1 6 (.bin .shr (.t 5) (.c (.one (.int .u64 16)))),
 mX 2 0 6]
def f94r3 : List SOper := [
 pX 0 2 (.mv (.c (.one (.int .i64 16))))]
def f94r4 : List SOper := [
 mX 0 7 0,
 pX 1 8 (.bin .geq (.t 7) (.c (.one (.int .u32 256))))]
def f94r5 : List SOper := [
 mX 0 9 0,
 pX 1 10 (.bin .shr (.t 9) (.c (.one (.int .u64 8)))),
 mX 2 0 10]
def f94r6 : List SOper := [
 mX 0 11 2,
 pX 1 12 (.bin .add (.t 11) (.c (.one (.int .i64 8)))),
 mX 2 2 12]
def f94r7 : List SOper := [
 mX 0 13 2,
 mX 1 14 0,
 pX 2 15 (.conv .u8 (.t 14)),
 pX 3 16 (.sindex (.c (.one (.str ⟨#[0, 1, 2, 2, 3, 3, 3, 3, 4, 4, 4, 4, 4, 4, 4, 4, 5, 5, 5, 5, 5, 5, 5, 5, 5, 5, 5, 5, 5, 5, 5, 5, 6, 6, 6, 6, 6, 6, 6, 6, 6, 6, 6, 6, 6, 6, 6, 6, 6, 6, 6, 6, 6, 6, 6, 6, 6, 6, 6, 6, 6, 6, 6, 6, 7, 7, 7, 7, 7, 7, 7, 7, 7, 7, 7, 7, 7, 7, 7, 7, 7, 7, 7, 7, 7, 7, 7, 7, 7, 7, 7, 7, 7, 7, 7, 7, 7, 7, 7, 7, 7, 7, 7, 7, 7, 7, 7, 7, 7, 7, 7, 7, 7, 7, 7, 7, 7, 7, 7, 7, 7, 7, 7, 7, 7, 7, 7, 7, 8, 8, 8, 8, 8, 8, 8, 8, 8, 8, 8, 8, 8, 8, 8, 8, 8, 8, 8, 8, 8, 8, 8, 8, 8, 8, 8, 8, 8, 8, 8, 8, 8, 8, 8, 8, 8, 8, 8, 8, 8, 8, 8, 8, 8, 8, 8, 8, 8, 8, 8, 8, 8, 8, 8, 8, 8, 8, 8, 8, 8, 8, 8, 8, 8, 8, 8, 8, 8, 8, 8, 8, 8, 8, 8, 8, 8, 8, 8, 8, 8, 8, 8, 8, 8, 8, 8, 8, 8, 8, 8, 8, 8, 8, 8, 8, 8, 8, 8, 8, 8, 8, 8, 8, 8, 8, 8, 8, 8, 8, 8, 8, 8, 8, 8, 8, 8, 8, 8, 8, 8, 8, 8, 8, 8, 8, 8, 8]⟩))) (.t 15)),
 pX 4 17 (.conv .i64 (.t 16)),
 pX 5 18 (.bin .add (.t 13) (.t 17)),
 mX 6 2 18]
def f94c : SC := (.seq (.ops f94r0 0) (.seq (.seq (.ops f94r1 0) (.cond (.t 4) (.seq (.ops f94r2 0) (.ops f94r3 0)) .skip)) (.seq (.seq (.ops f94r4 0) (.cond (.t 8) (.seq (.ops f94r5 0) (.ops f94r6 0)) .skip)) (.seq (.ops f94r7 0) .ret))))
def f94 : SFn := ⟨19, f94c, [.t 2]⟩

def f95r0 : List SOper := [
 pX 0 2 (.mv (.c (.one (.int .i64 0))))]
def f95r1 : List SOper := [
 mX 0 3 0,
 pX 1 4 (.bin .geq (.t 3) (.c (.one (.int .u64 4294967296))))]
def f95r2 : List SOper := [
 mX 0 5 0,
 pX 1 6 (.bin .shr (.t 5) (.c (.one (.int .u64 32)))),
 mX 2 0 6]
def f95r3 : List SOper := [
 pX 0 2 (.mv (.c (.one (.int .i64 32))))]
def f95r4 : List SOper := [
 mX 0 7 0,
 pX 1 8 (.bin .geq (.t 7) (.c (.one (.int .u64 65536))))]
def f95r5 : List SOper := [
 mX 0 9 0,
 pX 1 10 (.bin .shr (.t 9) (.c (.one (.int .u64 16)))),
 mX 2 0 10]
def f95r6 : List SOper := [
 mX 0 11 2,
 pX 1 12 (.bin .add (.t 11) (.c (.one (.int .i64 16)))),
 mX 2 2 12]
def f95r7 : List SOper := [
 mX 0 13 0,
 pX 1 14 (.bin .geq (.t 13) (.c (.one (.int .u64 256))))]
def f95r8 : List SOper := [
 mX 0 15 0,
 pX 1 16 (.bin .shr (.t 15) (.c (.one (.int .u64 8)))),
 mX 2 0 16]
def f95r9 : List SOper := [
 mX 0 17 2,
 pX 1 18 (.bin .add (.t 17) (.c (.one (.int .i64 8)))),
 mX 2 2 18]
def f95r10 : List SOper := [
 mX 0 19 2,
 mX 1 20 0,
 pX 2 21 (.conv .u8 (.t 20)),
 pX 3 22 (.sindex (.c (.one (.str ⟨#[0, 1, 2, 2, 3, 3, 3, 3, 4, 4, 4, 4, 4, 4, 4, 4, 5, 5, 5, 5, 5, 5, 5, 5, 5, 5, 5, 5, 5, 5, 5, 5, 6, 6, 6, 6, 6, 6, 6, 6, 6, 6, 6, 6, 6, 6, 6, 6, 6, 6, 6, 6, 6, 6, 6, 6, 6, 6, 6, 6, 6, 6, 6, 6, 7, 7, 7, 7, 7, 7, 7, 7, 7, 7, 7, 7, 7, 7, 7, 7, 7, 7, 7, 7, 7, 7, 7, 7, 7, 7, 7, 7, 7, 7, 7, 7, 7, 7, 7, 7, 7, 7, 7, 7, 7, 7, 7, 7, 7, 7, 7, 7, 7, 7, 7, 7, 7, 7, 7, 7, 7, 7, 7, 7, 7, 7, 7, 7, 8, 8, 8, 8, 8, 8, 8, 8, 8, 8, 8, 8, 8, 8, 8, 8, 8, 8, 8, 8, 8, 8, 8, 8, 8, 8, 8, 8, 8, 8, 8, 8, 8, 8, 8, 8, 8, 8, 8, 8, 8, 8, 8, 8, 8, 8, 8, 8, 8, 8, 8, 8, 8, 8, 8, 8, 8, 8, 8, 8, 8, 8, 8, 8, 8, 8, 8, 8, 8, 8, 8, 8, 8, 8, 8, 8, 8, 8, 8, 8, 8, 8, 8, 8, 8, 8, 8, 8, 8, 8, 8, 8, 8, 8, 8, 8, 8, 8, 8, 8, 8, 8, 8, 8, 8, 8, 8, 8, 8, 8, 8, 8, 8, 8, 8, 8, 8, 8, 8, 8, 8, 8, 8, 8, 8, 8, 8, 8]⟩))) (.t 21)),
 pX 4 23 (.conv .i64 (.t 22)),
 pX 5 24 (.bin .add (.t 19) (.t 23)),
 mX 6 2 24]
def f95c : SC := (.seq (.ops f95r0 0) (.seq (.seq (.ops f95r1 0) (.cond (.t 4) (.seq (.ops f95r2 0) (.ops f95r3 0)) .skip)) (.seq (.seq (.ops f95r4 0) (.cond (.t 8) (.seq (.ops f95r5 0) (.ops f95r6 0)) .skip)) (.seq (.seq (.ops f95r7 0) (.cond (.t 14) (.seq (.ops f95r8 0) (.ops f95r9 0)) .skip)) (.seq (.ops f95r10 0) .ret)))))
def f95 : SFn := ⟨25, f95c, [.t 2]⟩

def f96r0 : List SOper := [
 pX 0 2 (.mv (.c (.one (.bool false))))]
def f96r1 : List SOper := [
 mX 0 3 0,
 mX 1 4 0,
 pX 2 5 (.bin .neq (.t 3) (.t 4)),
 mX 3 2 5]
def f96c : SC := (.seq (.ops f96r0 0) (.seq (.ops f96r1 0) .ret))
def f96 : SFn := ⟨6, f96c, [.t 2]⟩

def f97r0 : List SOper := [
 pX 0 2 (.mv (.c (.one .nils)))]
def f97r1 : List SOper := [
 mX 0 3 0,
 oX 1 4 (.cf 113 [(.c (.one .nils)), (.t 3)]),
 mX 2 2 4]
def f97c : SC := (.seq (.ops f97r0 0) (.seq (.ops f97r1 0) .ret))
def f97 : SFn := ⟨5, f97c, [.t 2]⟩

def f98r0 : List SOper := [
 lX 0 4 1,
 oX 1 5 (.e (.rng (.t 4)))]
def f98r1 : List SOper := [
 oX 0 6 (.nx (.t 5)),
 pX 1 7 (.extract (.t 6) 0)]
def f98r2 : List SOper := [
 oX 0 8 (.e (.ent (.t 5))),
 pX 1 9 (.extract (.t 8) 0),
 oX 2 3 (.a (.alloc [(.int .i64 0), (.int .i64 0)])),
⟨3, none, .e (.store 2 (.t 3) (.t 9)), none, none, [], false⟩]
def f98r3 : List SOper := [
 mX 0 10 0,
 oX 1 11 (.l (.load true 2 (.t 3))),
 oX 2 12 (.cv (.t 10) [(.t 11)]),
 pX 3 13 (.not (.t 12))]
def f98b0 : SC := (.seq (.ops f98r1 0) (.seq (.cond (.t 7) .skip (.exit 0)) (.block 1 (.seq (.ops f98r2 0) (.seq (.ops f98r3 0) (.cond (.t 13) .ret .skip))))))
def f98c : SC := (.seq (.ops f98r0 0) (.block 0 (.loop f98b0)))
def f98 : SFn := ⟨14, f98c, []⟩

def f99r0 : List SOper := [
 oX 0 2 (.a (.box (.t 0))),
 oX 1 3 (.a (.box (.t 1))),
 pX 2 4 (.mv (.c (.one .nils)))]
def f99r1 : List SOper := [
 oX 0 8 (.l (.load true 2 (.t 2))),
 oX 1 9 (.l (.load true 2 (.t 3))),
 oX 2 10 (.a (.bslice 2 2 [(.int .i64 0), (.int .i64 0)] [(0, 2, (.t 8)), (2, 2, (.t 9))])),
 oX 3 11 (.cf 46 [(.t 10)]),
 pX 4 12 (.not (.t 11))]
def f99r2 : List SOper := [
 pX 0 4 (.mv (.c (.one .nils)))]
def f99r3 : List SOper := [
 oX 0 13 (.l (.load true 2 (.t 2))),
 oX 1 14 (.l (.load true 2 (.t 3))),
 oX 2 15 (.cf 48 [(.t 13), (.t 14)]),
 mX 3 5 15]
def f99r4 : List SOper := [
 mX 0 16 5,
 pX 1 17 (.bin .eql (.t 16) (.c (.one (.int .i64 0))))]
def f99r5 : List SOper := [
 oX 0 18 (.l (.load true 2 (.t 2))),
 oX 1 19 (.a (.bslice 2 1 [(.int .i64 0), (.int .i64 0)] [(0, 2, (.t 18))])),
 mX 2 4 19]
def f99r6 : List SOper := [
 mX 0 20 5,
 pX 1 21 (.bin .add (.t 20) (.c (.one (.int .i64 1)))),
 oX 2 22 (.a (.mkslice 2 16 [(.int .i64 0), (.int .i64 0)] (.c (.one (.int .i64 0))) (.t 21))),
 mX 3 6 22]
def f99r7 : List SOper := [
 mX 0 23 5,
 pX 1 24 (.bin .add (.t 23) (.c (.one (.int .i64 1)))),
 pX 2 25 (.mv (.c (.one (.int .i64 0))))]
def f99r8 : List SOper := [
 pX 0 26 (.bin .lss (.t 25) (.t 24))]
def f99r9 : List SOper := [
 mX 0 27 25,
 mX 1 7 27]
def f99r10 : List SOper := [
 mX 0 28 6,
 aX 1 29 0 2,
 lX 2 30 29,
 aX 3 31 0 3,
 lX 4 32 31,
 mX 5 33 7,
 mX 6 34 5,
 aX 8 36 1 2,
⟨9, some 37, .l (.load false 1 (.t 36)), none, none, [], true⟩,
 aX 10 38 1 3,
⟨11, some 39, .l (.load false 1 (.t 38)), none, none, [], true⟩,
 mX 12 40 7,
 mX 13 41 5,
⟨7, some 35, .cf 114 [(.t 30), (.t 32), (.t 33), (.t 34)], none, none, [11, 9], false⟩,
 oX 14 42 (.cf 114 [(.t 37), (.t 39), (.t 40), (.t 41)]),
 pX 15 43 (.build [(.int .i64 0), (.int .i64 0)] [(0, 1, (.t 35)), (1, 1, (.t 42))]),
⟨16, some 44, .a (.bslice 2 1 [(.int .i64 0), (.int .i64 0)] [(0, 2, (.t 43))]), none, (some 16), [], false⟩,
 oX 17 45 (.e (.append 2 16 (.t 28) (.t 44))),
 mX 18 6 45]
def f99r11 : List SOper := [
 pX 0 46 (.bin .add (.t 25) (.c (.one (.int .i64 1)))),
 mX 1 25 46]
def f99b0 : SC := (.seq (.ops f99r8 0) (.seq (.cond (.t 26) .skip (.exit 0)) (.seq (.block 1 (.seq (.ops f99r9 0) (.ops f99r10 19))) (.ops f99r11 0))))
def f99r12 : List SOper := [
 mX 0 47 6,
 mX 1 4 47]
def f99c : SC := (.seq (.ops f99r0 0) (.seq (.seq (.ops f99r1 0) (.cond (.t 12) (.seq (.ops f99r2 0) .ret) .skip)) (.seq (.ops f99r3 0) (.seq (.seq (.ops f99r4 0) (.cond (.t 17) (.seq (.ops f99r5 0) .ret) .skip)) (.seq (.ops f99r6 0) (.seq (.seq (.ops f99r7 0) (.block 0 (.loop f99b0))) (.seq (.ops f99r12 0) .ret)))))))
def f99 : SFn := ⟨48, f99c, [.t 4]⟩

def f113r0 : List SOper := [
 oX 0 2 (.a (.box (.t 0))),
 pX 1 4 (.mv (.c (.one .nils)))]
def f113r1 : List SOper := [
 mX 0 6 1]
def f113r2 : List SOper := [
 oX 0 5 (.a (.alloc [(.int .i64 0), (.int .i64 0)])),
⟨1, none, .e (.store 2 (.t 5) (.t 7)), none, none, [], false⟩]
def f113r3 : List SOper := [
 lX 0 8 2,
 oX 1 9 (.l (.load true 2 (.t 5))),
 oX 2 10 (.a (.bslice 2 1 [(.int .i64 0), (.int .i64 0)] [(0, 2, (.t 9))])),
 oX 3 11 (.e (.append 2 16 (.t 8) (.t 10))),
⟨4, none, .e (.store 1 (.t 2) (.t 11)), none, none, [], false⟩]
def f113b0 : SC := (.block 1 (.ops f113r3 0))
def f113r4 : List SOper := [
 lX 0 12 2,
 mX 1 4 12]
def f113c : SC := (.seq (.ops f113r0 0) (.seq (.seq (.ops f113r1 0) (.block 0 (.rf (.t 6) [7] (.ops f113r2 0) f113b0))) (.seq (.ops f113r4 0) .ret)))
def f113 : SFn := ⟨13, f113c, [.t 4]⟩

def f114r0 : List SOper := [
 pX 0 8 (.mv (.c (.one (.int .i64 0))))]
def f114r1 : List SOper := [
 mX 0 11 0,
 mX 1 12 3,
 pX 2 13 (.bin .mul (.t 11) (.t 12)),
 mX 3 14 2,
 mX 4 15 1,
 mX 5 16 0,
 pX 6 17 (.bin .sub (.t 15) (.t 16)),
 pX 7 18 (.bin .mul (.t 14) (.t 17)),
 pX 8 19 (.bin .add (.t 13) (.t 18)),
 pX 9 20 (.bin .mul (.c (.one (.int .i64 2))) (.t 19)),
 mX 10 21 3,
 pX 11 22 (.bin .add (.t 20) (.t 21)),
 mX 12 9 22]
def f114r2 : List SOper := [
 mX 0 23 9,
 mX 1 24 3,
 pX 2 25 (.bin .mul (.c (.one (.int .i64 2))) (.t 24)),
 pX 3 26 (.bin .quo (.t 23) (.t 25)),
 mX 4 10 26]
def f114r3 : List SOper := [
 mX 0 27 9,
 mX 1 28 3,
 pX 2 29 (.bin .mul (.c (.one (.int .i64 2))) (.t 28)),
 pX 3 30 (.bin .rem (.t 27) (.t 29)),
 pX 4 31 (.bin .lss (.t 30) (.c (.one (.int .i64 0))))]
def f114r4 : List SOper := [
 mX 0 32 10,
 pX 1 33 (.bin .sub (.t 32) (.c (.one (.int .i64 1)))),
 mX 2 10 33]
def f114r5 : List SOper := [
 mX 0 34 10,
 mX 1 8 34]
def f114c : SC := (.seq (.ops f114r0 0) (.seq (.ops f114r1 0) (.seq (.ops f114r2 0) (.seq (.seq (.ops f114r3 0) (.cond (.t 31) (.ops f114r4 0) .skip)) (.seq (.ops f114r5 0) .ret)))))
def f114 : SFn := ⟨35, f114c, [.t 8]⟩

end Go.Ad

namespace Go.Ad
open Go.Ab
set_option maxRecDepth 100000
def tab : T SFn := (.nd none (.nd none (.nd none (.nd none (.nd (some f15) (.nd (some f31) (.nd (some f63) .lf .lf) (.nd (some f95) .lf .lf)) (.nd none (.nd (some f79) .lf .lf) .lf)) (.nd none (.nd (some f39) (.nd (some f71) .lf .lf) .lf) (.nd (some f55) .lf .lf))) (.nd (some f11) (.nd (some f19) (.nd (some f35) (.nd (some f67) .lf .lf) (.nd (some f99) .lf .lf)) (.nd (some f51) (.nd (some f83) .lf .lf) .lf)) (.nd (some f27) (.nd (some f43) (.nd (some f75) .lf .lf) .lf) (.nd (some f59) .lf .lf)))) (.nd none (.nd (some f9) (.nd none (.nd (some f33) .lf (.nd (some f97) .lf .lf)) (.nd (some f49) (.nd (some f81) .lf .lf) (.nd (some f113) .lf .lf))) (.nd none (.nd (some f41) (.nd (some f73) .lf .lf) .lf) (.nd (some f57) .lf .lf))) (.nd (some f13) (.nd (some f21) (.nd (some f37) (.nd (some f69) .lf .lf) .lf) (.nd (some f53) .lf .lf)) (.nd (some f29) (.nd (some f45) (.nd (some f77) .lf .lf) .lf) (.nd (some f61) .lf .lf))))) (.nd none (.nd none (.nd none (.nd (some f16) (.nd (some f32) (.nd (some f64) .lf .lf) (.nd (some f96) .lf .lf)) (.nd (some f48) (.nd (some f80) .lf .lf) .lf)) (.nd none (.nd (some f40) (.nd (some f72) .lf .lf) .lf) (.nd (some f56) .lf .lf))) (.nd (some f12) (.nd none (.nd none (.nd (some f68) .lf .lf) .lf) (.nd (some f52) (.nd (some f84) .lf .lf) .lf)) (.nd (some f28) (.nd (some f44) (.nd (some f76) .lf .lf) .lf) (.nd (some f60) .lf .lf)))) (.nd (some f6) (.nd (some f10) (.nd none (.nd (some f34) (.nd (some f66) .lf .lf) (.nd (some f98) .lf .lf)) (.nd (some f50) (.nd (some f82) .lf .lf) (.nd (some f114) .lf .lf))) (.nd (some f26) (.nd none (.nd (some f74) .lf .lf) .lf) (.nd (some f58) .lf .lf))) (.nd none (.nd none (.nd (some f38) (.nd (some f70) .lf .lf) .lf) (.nd (some f54) (.nd (some f86) .lf .lf) .lf)) (.nd (some f30) (.nd (some f46) (.nd (some f78) .lf .lf) .lf) (.nd (some f62) (.nd (some f94) .lf .lf) .lf))))))
end Go.Ad
