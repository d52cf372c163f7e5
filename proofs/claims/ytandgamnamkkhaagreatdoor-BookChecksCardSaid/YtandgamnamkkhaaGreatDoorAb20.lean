/- -/
import Derived.Test.YtandgamnamkkhaaGreatDoorAb19
set_option linter.unusedSimpArgs false
set_option linter.unusedVariables false
set_option maxRecDepth 8000
namespace Go.Ah
open Go.Ab
def IJ:L:=[qk 0 102 3,yw 1 103 2 11,Ds 102 103]
def II:L:=[qk 0 88 10,kF 1 89 88,qk 2 10 89]
def ST:SC:=(.seq (.seq (.ops IM 0 true) (.cond (.t 87) .skip (.exit 5))) (.seq (.block 6 (.seq (.ops IL 0 true) (.seq (.ops IK 0 true) (.cond (.t 101) (.ops IJ 0 true) .skip)))) (.ops II 0 true)))
def IH:L:=[qk 0 80 9,kF 1 81 80,qk 2 9 81]
def SQ:SC:=(.seq (.seq (.ops IO 0 true) (.cond (.t 79) .skip (.exit 3))) (.seq (.block 4 (.seq (.ops IN 0 true) (.block 5 (.loop ST)))) (.ops IH 0 true)))
def IG:L:=[qk 0 104 3,Q1 1 105 183 104,qk 2 2 105]
def Ci:SC:=(.seq (.ops SP 0 true) (.seq (.seq (.ops SO 0 true) (.cond (.t 14) (.seq (.ops SN 0 true) .ret) .skip)) (.seq (.seq (.ops SM 0 true) (.block 0 (.seq (.ops SL 0 true) (.cond (.t 17) (.seq (.ops SK 0 true) .ret) (.seq (.ops SJ 0 true) (.cond (.t 24) (.seq (.ops SI 0 true) .ret) .skip)))))) (.seq (.ops SH 0 true) (.seq (.ops SG 12 true) (.seq (.seq (.ops IW 0 true) (.block 1 (.loop SU))) (.seq (.ops IQ 0 true) (.seq (.seq (.ops IP 0 true) (.block 3 (.loop SQ))) (.seq (.ops IG 0 true) .ret)))))))))
def Fn:SFn:=⟨106,Ci,[.t 2]⟩

def SF:L:=[YI 0 2 0,YI 1 3 1,kT 2 4 0]
def SE:L:=[xM 0 6 1 2,xu 1 7 6,xM 2 8 1 3,xu 3 9 8,Qk 4 10 7 9,qk 5 11 10,MS 6 12 1 2 11,MU 7 13 12 11,MS 8 14 1 3 11,MU 9 15 14 11,⟨10,some 16,.p (.bin .eql (.t 13) (.t 15)),(some (11,false)),none,[],false⟩,E8 11 17 16 11,Q2 12 18 0 2 17,Ql 13 19 18 17,Q2 14 20 0 3 17,Ql 15 21 20 17,MV 16 22 19 21 17,Dw 17 23 17 22 11,Du 18 24 11 23,qk 19 5 24]
def SD:L:=[⟨0,some 4,.p (.mv (.c (.one (.int .i64 (-1))))),none,none,[],false⟩]
def SB:L:=[yw 0 26 2 2,yw 1 27 2 3,FG 2 28 26 27,qk 3 25 28]
def SA:L:=[kT 0 4 0]
def R9:L:=[kT 0 4 1]
def Ch:SC:=(.seq (.ops SF 0 true) (.seq (.block 0 (.seq (.ops SE 0 true) (.cond (.t 5) (.seq (.ops SD 0 true) .ret) (.seq (.ops SB 0 true) (.cond (.t 25) (.seq (.ops SA 0 true) .ret) .skip))))) (.seq (.ops R9 0 true) .ret)))
def Fm:SFn:=⟨29,Ch,[.t 4]⟩

def R6:L:=[Ww 0 2]
def R5:L:=[qk 0 6 0,j7 1 7 6,⟨2,some 8,.p (.bin .lss (.t 7) (.c (.one (.int .i64 2)))),none,none,[],false⟩]
def R4:L:=[qk 0 9 0,qk 1 2 9]
def R3:L:=[kT 0 3 1]
def RZ:L:=[qk 0 10 3,qk 1 11 0,j7 2 12 11,Qk 3 13 10 12]
def RY:L:=[qk 0 16 0,qk 1 17 3,j9 2 18 2 16 17,yw 3 19 2 18,qk 4 20 0,qk 5 21 3,dM 6 22 21,j9 7 23 2 20 22,yw 8 24 2 23,FG 9 25 19 24]
def RX:L:=[qk 0 26 0,qk 1 27 3,FB 2 28 2 26 27,qk 3 4 28]
def RW:L:=[kT 0 5 1]
def RU:L:=[qk 0 29 5,qk 1 30 4,j7 2 31 30,Qk 3 32 29 31]
def RT:L:=[qk 0 35 4,qk 1 36 5,j9 2 37 2 35 36,yw 3 38 2 37,qk 4 39 4,qk 5 40 5,dM 6 41 40,j9 7 42 2 39 41,yw 8 43 2 42,⟨9,some 44,.p (.eqs true [(0,false),(1,false)] (.t 38) (.t 43)),none,none,[],false⟩]
def IF:L:=[qk 0 45 0,qk 1 46 3,qk 2 47 4,qk 3 48 5,j9 4 49 2 47 48,yw 5 50 2 49,j9 6 51 2 45 46,wO 7 2 51 50]
def IE:L:=[qk 0 52 3,kF 1 53 52,qk 2 3 53]
def ID:L:=[qk 0 33 5,kF 1 34 33,qk 2 5 34]
def R8:SC:=Dy RU 32 2 3 RT 10 44 IF IE ID
def IC:L:=[qk 0 54 0,qk 1 55 3,FB 2 56 2 54 55,⟨3,none,.e (.clear 2 [(.int .i64 0),(.int .i64 0)] (.t 56)),none,none,[],false⟩]
def IB:L:=[qk 0 57 0,qk 1 58 3,Dp 59 57 58,qk 3 2 59]
def IA:L:=[qk 0 14 3,kF 1 15 14,qk 2 3 15]
def R7:SC:=(.seq (.seq (.ops RZ 0 true) (.cond (.t 13) .skip (.exit 0))) (.seq (.block 1 (.seq (.ops RY 10 true) (.cond (.t 25) (.seq (.ops RX 0 true) (.seq (.seq (.ops RW 0 true) (.block 2 (.loop R8))) (.seq (.ops IC 0 true) (.seq (.ops IB 0 true) .ret)))) .skip))) (.ops IA 0 true)))
def H9:L:=[qk 0 60 0,qk 1 2 60]
def Cg:SC:=(.seq (.ops R6 0 true) (.seq (.seq (.ops R5 0 true) (.cond (.t 8) (.seq (.ops R4 0 true) .ret) .skip)) (.seq (.seq (.ops R3 0 true) (.block 0 (.loop R7))) (.seq (.ops H9 0 true) .ret))))
def Fl:SFn:=⟨61,Cg,[.t 2]⟩

def RR:L:=[Ww 0 8]
def RQ:L:=[xu 0 14 3,qk 1 15 0,Dq 2 16 14 15,qk 3 9 16]
def RP:L:=[qk 0 18 9,qk 1 19 1,lC 2 20 147 18 19,qk 3 17 20,⟨4,some 21,.p (.extract (.t 17) 0),none,none,[],false⟩,⟨5,some 22,.p (.extract (.t 17) 1),none,none,[],false⟩,qk 6 10 21,qk 7 11 22]
def RO:L:=[qk 0 23 10,qk 1 12 23]
def RN:L:=[Ww 0 13]
def RM:L:=[qk 0 24 12,qk 1 25 9,j7 2 26 25,Qk 3 27 24 26,qk 4 28 27,j8 5 29 9 28,j8 6 30 12 28,rT 7 31 1 29 30 28,Ql 8 32 31 28,j8 9 33 2 28,FA 10 34 32 33 28,Q3 11 35 28 34]
def RK:L:=[qk 0 38 13,qk 1 39 9,qk 2 40 12,j9 3 41 1 39 40,xu 4 42 41,qk 5 43 0,FH 6 44 42 43,dN 7 45 44,YS 8 46 2 16 38 45,qk 9 13 46]
def RJ:L:=[qk 0 36 12,kF 1 37 36,qk 2 12 37]
def RS:SC:=MY RM 35 0 1 RK 0 RJ
def u4:L:=[qk 0 47 12,qk 1 48 10,⟨2,some 49,.p (.bin .gtr (.t 47) (.t 48)),none,none,[],false⟩]
def u0:L:=[rR 0 50 3,qk 1 51 0,qk 2 52 9,qk 3 53 10,qk 4 54 12,⟨5,some 55,.cf 148 [(.t 52),(.t 53),(.t 54)],none,none,[0],false⟩,⟨6,none,.e (.mapupd (.t 50) (.t 51) (.t 55)),none,none,[],false⟩]
def mZ:L:=[xu 0 56 4,qk 1 57 12,qk 2 58 10,dJ 3 59 57 58,dJ 4 60 56 59,wO 5 1 4 60]
def mY:L:=[qk 0 61 13,qk 1 8 61]
def Cf:SC:=(.seq (.ops RR 0 true) (.seq (.ops RQ 0 true) (.seq (.ops RP 0 true) (.seq (.ops RO 0 true) (.seq (.ops RN 0 true) (.seq (.block 0 (.loop RS)) (.seq (.seq (.ops u4 0 true) (.cond (.t 49) (.seq (.ops u0 7 true) (.ops mZ 0 true)) .skip)) (.seq (.ops mY 0 true) .ret))))))))
def C2:SFn:=⟨62,Cf,[.t 8]⟩

def RE:L:=[Ww 0 2]
def P9:L:=[Dv 7,qk 1 3 7]
def P8:L:=[kT 0 4 0]
def P7:L:=[qk 0 8 4,qk 1 9 0,j7 2 10 9,Qk 3 11 8 10]
def P6:L:=[qk 0 14 3,qk 1 15 0,qk 2 16 4,j9 3 17 2 15 16,yw 4 18 2 17,lC 5 19 163 14 18]
def P5:L:=[qk 0 20 3,j7 1 21 20,qk 2 5 21]
def P4:L:=[qk 0 22 5,lE 1 23 22,qk 2 24 23,j8 3 25 0 24,j8 4 26 4 24,rT 5 27 2 25 26 24,MT 6 28 27 24,j8 7 29 3 24,j8 8 30 5 24,rV 9 31 30 24,rT 10 32 2 29 31 24,MT 11 33 32 24,⟨12,some 34,.cf 200 [(.t 28),(.t 33)],(some (24,true)),none,[],false⟩,Q3 13 35 24 34]
def P3:L:=[qk 0 36 5,dM 1 37 36,qk 2 5 37]
def RH:SC:=(.seq (.seq (.ops P4 14 true) (.cond (.t 35) .skip (.exit 2))) (.block 3 (.ops P3 0 true)))
def uZ:L:=[Dv 38,qk 1 39 3,qk 2 40 5,FB 3 41 2 39 40,YS 4 42 2 16 38 41,qk 5 6 42]
def uY:L:=[qk 0 43 3,qk 1 44 5,Dp 45 43 44,qk 3 46 0,qk 4 47 4,j9 5 48 2 46 47,yw 6 49 2 48,⟨7,some 50,.a (.bslice 2 1 [(.int .i64 0),(.int .i64 0)] [(0,2,(.t 49))]),none,(some 7),[],false⟩,YS 8 51 2 16 45 50,qk 9 3 51]
def mV:L:=[qk 0 52 3,qk 1 53 6,YS 2 54 2 16 52 53,qk 3 3 54]
def H8:L:=[qk 0 12 4,kF 1 13 12,qk 2 4 13]
def RG:SC:=(.seq (.seq (.ops P7 0 true) (.cond (.t 11) .skip (.exit 0))) (.seq (.block 1 (.seq (.seq (.ops P6 0 true) (.cond (.t 19) (.exit 1) .skip)) (.seq (.ops P5 0 true) (.seq (.block 2 (.loop RH)) (.seq (.ops uZ 0 true) (.seq (.ops uY 10 true) (.ops mV 0 true))))))) (.ops H8 0 true)))
def H7:L:=[qk 0 55 3,qk 1 2 55]
def Ce:SC:=Dx RE P9 P8 RG H7
def RI:SFn:=⟨56,Ce,[.t 2]⟩

def P1:L:=[YI 0 3 1,lD 1 4]
def P0:L:=[kT 0 5 0]
def PZ:L:=[qk 0 6 5,qk 1 7 0,j7 2 8 7,Qk 3 9 6 8]
def PY:L:=[qk 0 12 0,qk 1 13 5,j9 2 14 2 12 13,yw 3 15 2 14,yw 4 16 2 3,FG 5 17 15 16]
def PX:L:=[MR 0 4]
def PV:L:=[qk 0 10 5,kF 1 11 10,qk 2 5 11]
def P2:SC:=(.seq (.seq (.ops PZ 0 true) (.cond (.t 9) .skip (.exit 0))) (.seq (.block 1 (.seq (.ops PY 6 true) (.cond (.t 17) (.seq (.ops PX 0 true) .ret) .skip))) (.ops PV 0 true)))
def PU:L:=[lD 0 4]
def Cd:SC:=(.seq (.ops P1 0 true) (.seq (.seq (.ops P0 0 true) (.block 0 (.loop P2))) (.seq (.ops PU 0 true) .ret)))
def Fk:SFn:=⟨18,Cd,[.t 4]⟩

def PR:L:=[⟨0,some 2,.p (.mv (.c (.one .nilm))),none,none,[],false⟩]
def PQ:L:=[⟨0,some 5,.a (.mkst),none,none,[],false⟩,qk 1 3 5]
def PP:L:=[kT 0 4 1]
def PO:L:=[qk 0 6 4,qk 1 7 0,j7 2 8 7,Qk 3 9 6 8]
def PN:L:=[qk 0 12 3,qk 1 13 0,qk 2 14 4,dM 3 15 14,j9 4 16 2 13 15,yw 5 17 2 16,qk 6 18 0,qk 7 19 4,j9 8 20 2 18 19,yw 9 21 2 20,⟨10,some 22,.cf 223 [(.t 12),(.t 17),(.t 21)],none,none,[],false⟩]
def PM:L:=[qk 0 10 4,kF 1 11 10,qk 2 4 11]
def PT:SC:=MY PO 9 0 1 PN 11 PM
def PL:L:=[qk 0 23 3,qk 1 2 23]
def Cc:SC:=Dx PR PQ PP PT PL
def Fj:SFn:=⟨24,Cc,[.t 2]⟩

def PJ:L:=[YI 0 4 1,YI 1 5 2]
def PI:L:=[yw 0 8 2 4,yw 1 9 2 5,lC 2 10 248 8 9,j7 3 11 10,kT 4 12 0]
def PH:L:=[Qk 0 13 12 11]
def PG:L:=[j9 0 14 2 10 12,yw 1 15 2 14,dK 2 7,wO 3 2 7 15]
def PF:L:=[qk 0 16 0,yw 1 17 2 7,Ds 16 17]
def PE:L:=[kF 0 18 12,qk 1 12 18]
def PK:SC:=(.seq (.ops PH 0 true) (.seq (.cond (.t 13) .skip (.exit 0)) (.seq (.block 1 (.seq (.ops PG 0 true) (.ops PF 0 true))) (.ops PE 0 true))))
def Cb:SC:=(.seq (.ops PJ 0 true) (.seq (.ops PI 0 true) (.block 0 (.loop PK))))
def Fi:SFn:=⟨19,Cb,[]⟩

def PD:L:=[YI 0 3 0,YI 1 4 1,YI 2 5 2,lD 3 6]
def PC:L:=[yw 0 7 2 5,yw 1 8 2 3,FG 2 9 7 8,qk 3 10 9,Dn 4 11 5,Dn 5 12 4,⟨6,some 13,.p (.eqs false [(0,false),(1,false)] (.t 11) (.t 12)),(some (10,false)),none,[],false⟩,Du 7 14 10 13]
def PB:L:=[MR 0 6]
def PA:L:=[xM 0 15 0 4,xu 1 16 15,xM 2 17 0 3,xu 3 18 17,dJ 4 19 16 18,xM 5 20 1 5,xu 6 21 20,xM 7 22 1 3,xu 8 23 22,dJ 9 24 21 23,E7 10 25 19 24,xM 11 26 1 4,xu 12 27 26,xM 13 28 1 3,xu 14 29 28,dJ 15 30 27 29,xM 16 31 0 5,xu 17 32 31,xM 18 33 0 3,xu 19 34 33,dJ 20 35 32 34,E7 21 36 30 35,⟨22,some 37,.p (.bin .neq (.t 25) (.t 36)),none,none,[],false⟩]
def O9:L:=[lD 0 6]
def O8:L:=[xM 0 38 0 3,xu 1 39 38,xM 2 40 0 4,xu 3 41 40,MP 4 42 39 41,xM 5 43 0 5,xu 6 44 43,rS 7 45 42 44,qk 8 46 45,Q2 9 47 0 5 46,Ql 10 48 47 46,Q2 11 49 0 3 46,Ql 12 50 49 46,Q2 13 51 0 4 46,Ql 14 52 51 46,⟨15,some 53,.p (.mm true (.t 50) (.t 52)),(some (46,true)),none,[],false⟩,FA 16 54 48 53 46,Q3 17 55 46 54,qk 18 56 55,Q2 19 57 1 3 56,Ql 20 58 57 56,Q2 21 59 1 4 56,Ql 22 60 59 56,⟨23,some 61,.p (.mm false (.t 58) (.t 60)),(some (56,true)),none,[],false⟩,Q2 24 62 1 5 56,Ql 25 63 62 56,FA 26 64 61 63 56,Q3 27 65 56 64,qk 28 66 65,Q2 29 67 1 5 66,Ql 30 68 67 66,Q2 31 69 1 3 66,Ql 32 70 69 66,Q2 33 71 1 4 66,Ql 34 72 71 66,⟨35,some 73,.p (.mm true (.t 70) (.t 72)),(some (66,true)),none,[],false⟩,FA 36 74 68 73 66,Q3 37 75 66 74,qk 38 6 75]
def Ca:SC:=(.seq (.ops PD 0 true) (.seq (.seq (.ops PC 0 true) (.cond (.t 14) (.seq (.ops PB 0 true) .ret) .skip)) (.seq (.seq (.ops PA 0 true) (.cond (.t 37) (.seq (.ops O9 0 true) .ret) .skip)) (.seq (.ops O8 0 true) .ret))))
def Fh:SFn:=⟨76,Ca,[.t 6]⟩

def O7:L:=[YI 0 2 0,Ww 1 4]
def O6:L:=[qk 0 6 1]
def f9:L:=[dK 0 5,wO 1 2 5 7]
def O5:L:=[xu 0 8 2,yw 1 9 2 5,dN 2 10 9,YS 3 11 2 16 8 10,wO 4 1 2 11]
def gA:SC:=(.block 1 (.ops O5 0 true))
def O4:L:=[xu 0 12 2,qk 1 4 12]
def Bz:SC:=(.seq (.ops O7 0 true) (.seq (.seq (.ops O6 0 true) (.block 0 (.rf (.t 6) [7] (.ops f9 0 true) gA))) (.seq (.ops O4 0 true) .ret)))
def vn:SFn:=⟨13,Bz,[.t 4]⟩

end Go.Ah
