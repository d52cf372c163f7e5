/- -/
import Derived.Test.YtdlelodnhjacgaaGreatDoorAb17
import Derived.KernelRfl
set_option linter.unusedSimpArgs false
set_option linter.unusedVariables false
set_option maxRecDepth 8000
set_option maxHeartbeats 16000000
namespace Go.Ak
open Go.Ab
abbrev L:=List SOper
abbrev qJ(a b c:Nat):SOper:=⟨a,some b,.p (.mv (.t c)),none,none,[],false⟩
abbrev ji(a b c d:Nat):SOper:=⟨a,some b,.p (.faddr c (.t d)),none,none,[],false⟩
abbrev kO(a b:Nat)(c:Int):SOper:=⟨a,some b,.p (.mv (.c (.one (.int .i64 c)))),none,none,[],false⟩
abbrev vA(a b c d:Nat):SOper:=⟨a,none,.e (.store b (.t c) (.t d)),none,none,[],false⟩
abbrev Q8(a b c d:Nat):SOper:=⟨a,some b,.l (.load true c (.t d)),none,none,[],false⟩
abbrev YM(a b c:Nat):SOper:=⟨a,some b,.l (.load false 1 (.t c)),none,none,[],false⟩
abbrev eG(a b c d:Nat):SOper:=⟨a,some b,.p (.pick (.t c) (.c (.one (.bool true))) (.t d)),none,none,[],false⟩
abbrev bA(a b c d:Nat):SOper:=⟨a,some b,.l (.load true 2 (.t c)),(some (d,false)),none,[],false⟩
abbrev eF(a:Nat):SOper:=⟨0,some a,.p (.build [(.int .i64 0),(.int .i64 0),.nils,.nils] []),none,none,[],false⟩
abbrev nH(a b c d e:Nat):SOper:=⟨a,some b,.p (.faddr c (.t d)),(some (e,false)),none,[],false⟩
abbrev sN(a:Nat):SOper:=⟨9,some a,.a (.alloc [(.int .i64 0),(.int .i64 0),(.int .i64 0),(.bool false),(.int .i64 0),(.int .i64 0)]),none,none,[],false⟩
abbrev Ku(a b c d:Nat):SOper:=⟨a,some b,.p (.extract (.t c) d),none,none,[],false⟩
abbrev KL(a b c:Nat):SOper:=⟨a,some b,.p (.not (.t c)),none,none,[],false⟩
abbrev nG(a b c d e:Nat):SOper:=⟨a,some b,.cf c [(.t d),(.t e)],none,none,[],false⟩
abbrev nF(a b c:Nat):SOper:=⟨a,some b,.p (.bin .add (.t c) (.c (.one (.int .i64 1)))),none,none,[],false⟩
abbrev sL(a b:Nat):SOper:=⟨a,some b,.a (.alloc [(.int .i64 0),(.int .i64 0)]),none,(some a),[],false⟩
abbrev sK(a b:Nat):SOper:=⟨4,some a,.p (.bin .quo (.t b) (.c (.one (.int .i64 2)))),none,none,[],false⟩
abbrev nE(a b:Nat):SOper:=⟨a,some b,.a (.box (.t a)),none,none,[],false⟩
abbrev nD(a b c:Nat):SOper:=⟨4,some a,.l (.load false 1 (.t b)),(some (c,false)),none,[],false⟩
def VB:L:=[nE 0 2,nE 1 3,⟨2,some 4,.p (.mv (.c (.one (.bool false)))),none,none,[],false⟩]
def VA:L:=[ji 0 7 0 2,YM 1 8 7,nF 2 9 8,⟨3,some 10,.p (.build [(.int .i64 0),(.int .i64 0)] [(0,1,(.t 9))]),none,none,[],false⟩,ji 4 11 0 2,⟨5,some 12,.l (.load false 1 (.t 11)),none,none,[],true⟩,ji 6 13 1 2,⟨7,some 14,.l (.load false 1 (.t 13)),none,none,[],true⟩,nF 8 15 14,⟨9,some 16,.p (.build [(.int .i64 0),(.int .i64 0)] [(0,1,(.t 12)),(1,1,(.t 15))]),none,none,[],false⟩,sL 10 5,sL 11 6,⟨12,none,.e (.store 2 (.t 5) (.t 10)),none,none,[7,5],false⟩,vA 13 2 6 16]
def Vz:L:=[Q8 0 17 2 3,Q8 1 18 2 5,⟨2,some 19,.p (.eqs false [(0,false),(1,false)] (.t 17) (.t 18)),none,none,[],false⟩,qJ 3 20 19,⟨4,some 21,.p (.faddr 0 (.t 3)),(some (20,true)),none,[],false⟩,⟨5,some 22,.l (.load false 1 (.t 21)),(some (20,true)),none,[],false⟩,⟨6,some 23,.p (.bin .leq (.t 22) (.c (.one (.int .i64 9999)))),(some (20,true)),none,[],false⟩,⟨7,some 24,.p (.pick (.t 20) (.t 23) (.c (.one (.bool false)))),none,none,[],false⟩,qJ 8 25 24,bA 9 26 3 25,bA 10 27 6 25,⟨11,some 28,.p (.eqs false [(0,false),(1,false)] (.t 26) (.t 27)),(some (25,false)),none,[],false⟩,⟨12,some 29,.p (.mv (.t 28)),(some (25,false)),none,[],false⟩,⟨13,some 30,.p (.faddr 1 (.t 3)),(some (29,true)),none,[],false⟩,⟨14,some 31,.l (.load false 1 (.t 30)),(some (29,true)),none,[],false⟩,⟨15,some 32,.p (.bin .leq (.t 31) (.c (.one (.int .i64 2)))),(some (29,true)),none,[],false⟩,⟨16,some 33,.p (.pick (.t 29) (.t 32) (.c (.one (.bool false)))),(some (25,false)),none,[],false⟩,eG 17 34 25 33,qJ 18 4 34]
def aY:SC:=(.seq (.ops VB 0 true) (.seq (.ops VA 14 true) (.seq (.ops Vz 0 true) .ret)))
def iB:SFn:=⟨35,aY,[.t 4]⟩
def YL:L:=[kO 0 4 0]
def YK:L:=[qJ 0 6 0,⟨1,some 7,.p (.nilck (.t 6)),none,none,[],false⟩,ji 2 8 1 7,YM 3 9 8,qJ 4 10 1,⟨5,some 11,.p (.iaddr 4 (.t 9) (.t 10)),none,none,[],false⟩,ji 6 12 0 11,Q8 7 13 2 12,⟨8,some 5,.a (.alloc [(.int .i64 0),(.int .i64 0)]),none,none,[],false⟩,vA 9 2 5 13]
def YJ:L:=[qJ 0 14 1,⟨1,some 15,.p (.bin .eql (.t 14) (.c (.one (.int .i64 0)))),none,none,[],false⟩]
def YI:L:=[Q8 0 16 2 5,⟨1,some 17,.p (.build [(.int .i64 0),(.int .i64 0)] [(0,1,(.c (.one (.int .i64 1))))]),none,none,[],false⟩,⟨2,some 18,.p (.eqs true [(0,false),(1,false)] (.t 16) (.t 17)),none,none,[],false⟩]
def YH:L:=[kO 0 4 340]
def YG:L:=[kO 0 4 0]
def YF:L:=[qJ 0 19 0,⟨1,some 20,.p (.nilck (.t 19)),none,none,[],false⟩,ji 2 21 1 20,YM 3 22 21,qJ 4 23 1,⟨5,some 24,.p (.bin .sub (.t 23) (.c (.one (.int .i64 1)))),none,none,[],false⟩,⟨6,some 25,.p (.iaddr 4 (.t 22) (.t 24)),none,none,[],false⟩,ji 7 26 0 25,Q8 8 27 2 26,Q8 9 28 2 5,nG 10 29 145 27 28,KL 11 30 29]
def YE:L:=[kO 0 4 340]
def YD:L:=[kO 0 4 0]
def JC:SC:=(.seq (.ops YL 0 true) (.seq (.ops YK 0 true) (.seq (.seq (.ops YJ 0 true) (.cond (.t 15) (.seq (.seq (.ops YI 0 true) (.cond (.t 18) (.seq (.ops YH 0 true) .ret) .skip)) (.seq (.ops YG 0 true) .ret)) .skip)) (.seq (.seq (.ops YF 12 true) (.cond (.t 30) (.seq (.ops YE 0 true) .ret) .skip)) (.seq (.ops YD 0 true) .ret)))))
def W5:SFn:=⟨31,JC,[.t 4]⟩
def gR:L:=[nE 0 1,⟨1,some 2,.a (.alloc [(.int .i64 0),(.int .i64 0),.nils,.nils]),none,none,[],false⟩,kO 2 3 0]
def gQ:L:=[Q8 0 9 4 1,⟨1,some 10,.cf 168 [(.t 9)],none,none,[],false⟩,KL 2 11 10]
def gP:L:=[eF 12,vA 1 4 2 12,kO 2 3 250]
def gO:L:=[Q8 0 13 4 1,⟨2,some 15,.l (.load true 4 (.t 1)),none,none,[],true⟩,⟨1,some 14,.cf 169 [(.t 13)],none,none,[2],false⟩,⟨3,some 16,.cf 170 [(.t 15)],none,none,[],false⟩,⟨4,some 17,.p (.build [(.int .i64 0),(.int .i64 0),.nils,.nils] [(2,1,(.t 14)),(3,1,(.t 16))]),none,none,[],false⟩,⟨5,some 4,.a (.alloc [(.int .i64 0),(.int .i64 0),.nils,.nils]),none,(some 5),[],false⟩,vA 6 4 4 17]
def gN:L:=[ji 0 19 2 4,YM 1 20 19,ji 2 21 0 1,YM 3 22 21,sK 23 22,nG 5 24 171 20 23,qJ 6 18 24,Ku 7 25 18 0,Ku 8 26 18 1,sN 5,vA 10 6 5 25,qJ 11 6 26]
def gM:L:=[qJ 0 27 6,KL 1 28 27,qJ 2 29 28,nH 3 30 3 5 29,nD 31 30 29,eG 5 32 29 31]
def gK:L:=[eF 33,vA 1 4 2 33,kO 2 3 250]
def gJ:L:=[ji 0 34 3 4,YM 1 35 34,⟨2,some 36,.p (.len (.t 35)),none,none,[],false⟩,⟨3,some 37,.p (.bin .gtr (.t 36) (.c (.one (.int .i64 0)))),none,none,[],false⟩]
def gI:L:=[ji 0 39 3 4,YM 1 40 39,ji 2 41 0 1,YM 3 42 41,sK 43 42,nG 5 44 171 40 43,qJ 6 38 44,Ku 7 45 38 0,Ku 8 46 38 1,sN 7,vA 10 6 7 45,qJ 11 8 46]
def gH:L:=[qJ 0 47 8,KL 1 48 47,qJ 2 49 48,nH 3 50 3 7 49,nD 51 50 49,⟨5,some 52,.p (.not (.t 51)),(some (49,false)),none,[],false⟩,eG 6 53 49 52,qJ 7 54 53,nH 8 55 1 7 54,bA 9 56 55 54,nH 10 57 1 5 54,bA 11 58 57 54,⟨12,some 59,.p (.eqs true [(0,false),(1,false)] (.t 56) (.t 58)),(some (54,false)),none,[],false⟩,eG 13 60 54 59]
def dD:L:=[eF 61,vA 1 4 2 61,kO 2 3 250]
def dC:L:=[ji 0 62 1 5,Q8 1 63 2 62,ji 2 64 0 4,vA 3 2 64 63]
def dB:L:=[Q8 0 65 4 4,vA 1 4 2 65,kO 2 3 0]
def l5:SC:=(.seq (.ops gR 0 true) (.seq (.seq (.ops gQ 0 true) (.cond (.t 11) (.seq (.ops gP 0 true) .ret) .skip)) (.seq (.ops gO 7 false) (.seq (.ops gN 0 true) (.seq (.seq (.ops gM 0 true) (.cond (.t 32) (.seq (.ops gK 0 true) .ret) .skip)) (.seq (.seq (.ops gJ 0 true) (.cond (.t 37) (.seq (.ops gI 0 true) (.seq (.ops gH 0 true) (.cond (.t 60) (.seq (.ops dD 0 true) .ret) .skip))) .skip)) (.seq (.ops dC 0 true) (.seq (.ops dB 0 true) .ret))))))))
def AB:SFn:=⟨66,l5,[.cell true 4 2,.t 3]⟩
end Go.Ak
namespace Go.Ak
open Go.Ab Go.Proofs Go.Ai
set_option maxRecDepth 100000
theorem cp_bind_followed:yr Tryz.prog GN 145=some iB:=by kernel_rfl
theorem cp_bind_checker_label:yr Tryz.prog GN 100=some W5:=by kernel_rfl
theorem cp_sheet_Leaf:yr Tryz.prog GN 144=some AB:=by kernel_rfl
end Go.Ak
namespace Go.Ai
open Go.Ab Go.Proofs
abbrev Lb:=Int × Int
def Tn(p:Lb):DV:=.agg [.f (.c (.int .i64 p.1)),.f (.c (.int .i64 p.2))]
def Nh(p:Lb):List FD:=[.c (.int .i64 p.1),.c (.int .i64 p.2)]
theorem Ir(p q:Lb):Zs [.int .i64 p.1,.int .i64 p.2] [.int .i64 q.1,.int .i64 q.2] [(0,false),(1,false)]=some (decide (p=q)):=by
 obtain⟨p1,p2⟩:=p;obtain⟨q1,q2⟩:=q;simp only [Zs,pV,sR,eJ,if_true];by_cases h1:p1=q1
 ·by_cases h2:p2=q2
  ·subst h1;subst h2;simp
  ·have e2:(p2==q2)=false:=by simpa using h2
   subst h1;simp [h2,e2]
 ·have e1:(p1==q1)=false:=by simpa using h1
  simp [h1,e1]
theorem iY{neg:Bool}{E:qk}{x y:Opd}{p q:Lb}(hx:ro E x=some (.agg [.f (.c (.int .i64 p.1)),.f (.c (.int .i64 p.2))]))(hy:ro E y=some (.agg [.f (.c (.int .i64 q.1)),.f (.c (.int .i64 q.2))])):zj E (.eqs neg [(0,false),(1,false)] x y)=some (.bool (match neg with|true=>!decide (p=q)|false=>decide (p=q))):=by
 have ex:Yp E x=some (.agg [.int .i64 p.1,.int .i64 p.2]):=by simp [Yp,hx,Je,bO,iD]
 have ey:Yp E y=some (.agg [.int .i64 q.1,.int .i64 q.2]):=by simp [Yp,hy,Je,bO,iD]
 simp only [zj,F7,PureOp.opds,xa,lQ,ex,ey,Option.isSome_some,PureOp.mp,rx,qp,Opd.ev,Ir];cases neg<;>rfl
def aG(a b:Lb):Bool:=(decide (b=(a.1+1,0))&&decide (b.1<=9999))||(decide (b=(a.1,a.2+1))&&decide (b.2<=2))
theorem IX{a b:Lb}(ha:0<=a.1/\a.1<100000/\0<=a.2/\a.2<100000):DK 145 [Tn a,Tn b] fun d=>d=.bool (aG a b):=by
 have e1:IntKind.i64.wrap (a.1+1)=a.1+1:=qm oM oM;have e2:IntKind.i64.wrap (a.2+1)=a.2+1:=qm oM oM;refine je Ak.cp_bind_followed O ko fun Z0 lo=>?_;refine qa ?_;intros;have q2:∀(E:qk) x y,ro E x=some (.agg [.f (.c (.int .i64 b.1)),.f (.c (.int .i64 b.2))])->ro E y=some (.agg [.f (.c (.int .i64 a.1)),.f (.c (.int .i64 (IntKind.i64.wrap (a.2+1))))])->zj E (.eqs false [(0,false),(1,false)] x y)=some (.bool (decide (b=(a.1,a.2+1)))):=fun E x y hx hy=>by
  rw [e2] at hy;exact iY (p:=b) (q:=(a.1,a.2+1)) hx hy
 have q1:∀(E:qk) x y,ro E x=some (.agg [.f (.c (.int .i64 b.1)),.f (.c (.int .i64 b.2))])->ro E y=some (.agg [.f (.c (.int .i64 (IntKind.i64.wrap (a.1+1)))),.f (.c (.int .i64 0))])->zj E (.eqs false [(0,false),(1,false)] x y)=some (.bool (decide (b=(a.1+1,0)))):=fun E x y hx hy=>by
  rw [e1] at hy;exact iY (p:=b) (q:=(a.1+1,0)) hx hy
 refine zi (q1 _ _ _ O O) ?_;obtain⟨t1,h1⟩:∃t,decide (b=(a.1+1,(0:Int)))=t:=⟨_,rfl⟩;obtain⟨t2,h2⟩:∃t,decide (b.1<=9999)=t:=⟨_,rfl⟩;obtain⟨t3,h3⟩:∃t,decide (b=(a.1,a.2+1))=t:=⟨_,rfl⟩;obtain⟨t4,h4⟩:∃t,decide (b.2<=2)=t:=⟨_,rfl⟩;have hf:aG a b=((t1&&t2)||(t3&&t4)):=by rw [aG,h1,h2,h3,h4]
 rw [hf];cases t1 with
 |true=>
  have h3':t3=false:=by
   rw [<-h3,xo h1];simp;omega
  subst h3';cases t2 with
  |true=>
   exact Da
  |false=>
   refine zh ?_;intros;refine zi (q2 _ _ _ O O) ?_;exact Da
 |false=>
  refine zh ?_;intros;refine zi (q2 _ _ _ O O) ?_;cases t3 with
  |true=>
   cases t4<;>
   ·exact Da
  |false=>
   exact Da
structure Pq where
 w:Int
 h:Int
 u:FD
 d:FD
def we(q:Pq):List FD:=[.c (.int .i64 q.w),.c (.int .i64 q.h),q.u,q.d]
def jR(l:List Pq):DC:=.f (.sl 4 l.length (l.flatMap we))
theorem JU{l:List Pq}{i:Nat}{x:Pq}(h:l[i]?=some x):xd (l.flatMap we) (i*4) 4=some (we x):=zp (e:=4) (fun _=>rfl) h
theorem FP {f:FuncId} {sf:SFn} (hf:yr Tryz.prog GN f=some sf) {ds:List DV} {S:Bx} {nk:Nat} {R:DV->Bx->Nat->Prop} (hn:Nat.ble ds.length sf.n=true)
 (h:∀Z β H lo,DPS (parX Z lo nk β H) sf.n sf.code (cG (parX Z lo nk β H) sf.res R) (jC ds 0) S nk):Q2 f ds S nk R:=fun Z0 lo anc β0 H1=>Dm (p:=parX Z0 lo anc β0 H1) hf hn fun Z β H=>h Z β H lo
theorem jA:wL Tryz.prog 98=true:=by kernel_rfl
theorem QO:wL Tryz.prog 99=true:=by kernel_rfl
theorem jk:wL Tryz.prog 100=true:=by kernel_rfl
theorem aX:wL Tryz.prog 184=true:=by kernel_rfl
theorem fY:wL Tryz.prog 185=true:=by kernel_rfl
theorem L3{l:List Pq}{i:Nat}{q q0:Pq}{lv:DC}{S0:Bx}{nk:Nat}(hq:l[i]?=some q)(hq0:l[0]?=some q0):Q2 99 [.one (.ptr 3 0),.int i] ((3,.cells [jR l,lv])::S0) nk fun d S' nk'=>d=.int (if q.w≠q0.w\/q.h≠q0.h then 340 else 0)/\S'=(3,.cells [jR l,lv])::S0/\nk'=nk:=by
 refine JD fun Z β H lo=>?_;have hi:i<l.length:=(zgs hq).1;have e1:=JU hq;have e2:=JU hq0;obtain⟨t1,h1⟩:∃t,(q.w !=q0.w)=t:=⟨_,rfl⟩;obtain⟨t2,h2⟩:∃t,(q.h !=q0.h)=t:=⟨_,rfl⟩;cases t1 with
 |true=>
  refine zh ?_;intros;refine qd O (fun ht=>?_) (fun ht=>by simp at ht);refine zh ?_;intros;refine qb ⟨_,O,O,_,wC _,?_,O,O⟩;rw [if_pos (.inl (by simpa using h1))]
 |false=>
  have n1:¬q.w≠q0.w:=by simpa using h1
  cases t2 with
  |true=>
   refine zh ?_;intros;refine qd O (fun ht=>?_) (fun ht=>by simp at ht);refine zh ?_;intros;refine qb ⟨_,O,O,_,wC _,?_,O,O⟩;rw [if_pos (.inr (by simpa using h2))]
  |false=>
   have n2:¬q.h≠q0.h:=by simpa using h2
   refine zh ?_;intros;refine qd O (fun ht=>by simp at ht) (fun ht=>?_);refine zh ?_;intros;refine qb ⟨_,O,O,_,wC _,?_,O,O⟩;rw [if_neg (fun h=>h.elim n1 n2)]
structure Lf where
 lb:Lb
 f:FD
 b:FD
def Qp(x:Lf):List FD:=[.c (.int .i64 x.lb.1),.c (.int .i64 x.lb.2),x.f,x.b]
theorem Nc{l:List Lf}{i:Nat}{x:Lf}(h:l[i]?=some x):xd (l.flatMap Qp) (i*4) 4=some (Qp x):=zp (e:=4) (fun _=>rfl) h
theorem OC{l:List Lf}{i:Nat}{x:Lf}(h:l[i]?=some x):xd (l.flatMap Qp) (i*4+0) 2=some (Nh x.lb):=by
 obtain⟨h1,h2⟩:=zT (Nc h);rw [nS,yj (by omega)];have:((l.flatMap Qp).drop (i*4)).take 2=(((l.flatMap Qp).drop (i*4)).take 4).take 2:=by rw [List.take_take];simp
 rw [this,<-h2];rfl
theorem ZN{S:Bx}{k:Nat}{x y:Bk}(h:lk S k=none):wV S (put k y ((k,x)::S)):=fun j v hj=>by
 rw [yu,qw];by_cases e:j=k
 ·subst e;rw [h] at hj;cases hj
 ·rw [if_neg e,if_neg (fun h=>e h.symm)];exact hj
theorem sU{lfs:List Lf}{x:Lf}{pl:DC}{S0:Bx}(h0:lfs=[x])(hS0:lk S0 7=none):Q2 100 [.one (.ptr 3 0),.int 0] ((3,.cells [pl,.own 6 0 1 4])::(6,.data (lfs.flatMap Qp))::S0) 7
 fun d S' nk'=>d=.int (if x.lb=(1,0) then 0 else 340)/\S'=(3,.cells [pl,.own 6 0 1 4])::(6,.data (lfs.flatMap Qp))::S0/\nk'=8:=by
 subst h0;refine FP Ak.cp_bind_checker_label O fun Z β H lo=>?_;refine qa ?_;intros;refine qd O (fun _=>?_) (fun ht=>by simp at ht);refine qa ?_;intros;refine zi (iY (p:=x.lb) (q:=(1,0)) O O) ?_;obtain⟨t1,h1⟩:∃t,decide (x.lb=((1:Int),(0:Int)))=t:=⟨_,rfl⟩;refine qa ?_;intros;refine qd O (fun ht=>?_) (fun ht=>?_)
 ·refine qa ?_;intros;refine qb ⟨_,O,O,_,ZN hS0,?_,O,O⟩;rw [if_neg (by simpa using ht)]
 ·refine qa ?_;intros;refine qb ⟨_,O,O,_,ZN hS0,?_,O,O⟩;rw [if_pos (by simpa using ht)]
theorem sT{lfs:List Lf}{i:Nat}{a x:Lf}{pl:DC}{S0:Bx}(hS0:lk S0 7=none)(ha:lfs[i]?=some a)(hx:lfs[i+1]?=some x)(hn:lfs.length=i+2)(hi:i<1000000)(hb:0<=a.lb.1/\a.lb.1<100000/\0<=a.lb.2/\a.lb.2<100000):
 Q2 100 [.one (.ptr 3 0),.int ((i+1:Nat):Int)] ((3,.cells [pl,.own 6 0 lfs.length 4])::(6,.data (lfs.flatMap Qp))::S0) 7
 fun d S' nk'=>d=.int (if aG a.lb x.lb=true then 0 else 340)/\S'=(3,.cells [pl,.own 6 0 lfs.length 4])::(6,.data (lfs.flatMap Qp))::S0/\nk'=8:=by
 refine FP Ak.cp_bind_checker_label O fun Z β H lo=>?_;have q1:=OC hx;have q1':xd (lfs.flatMap Qp) (Int.toNat ((i+1:Nat):Int)*4+0) 2=some (Nh x.lb):=q1;have q2:=OC ha;have q2':xd (lfs.flatMap Qp) (Int.toNat ((i:Nat):Int)*4+0) 2=some (Nh a.lb):=q2;refine qa ?_;intros;refine qd O (fun ht=>?_) (fun _=>?_)
 ·have:((i+1:Nat):Int)=0:=by simpa using ht
  omega
 refine qa ?_;intros;rw [show IntKind.i64.wrap (((i+1:Nat):Int)-1)=((i:Nat):Int) by rw [qm (by omega) (by omega)];omega];refine qa ?_;intros;refine x6 O O (IX (a:=a.lb) (b:=x.lb) hb) ?_;intros;refine qd O (fun ht=>?_) (fun ht=>?_)
 ·refine qa ?_;intros;refine qb ⟨_,O,O,_,ZN hS0,?_,O,O⟩;rw [if_neg (by simpa using ht)]
 ·refine qa ?_;intros;refine qb ⟨_,O,O,_,ZN hS0,?_,O,O⟩;rw [if_pos (by simpa using ht)]
def Ru:Option Lf->DV
 |some x=>.tup [.agg ((Qp x).map .f),.int 0]
 |none=>.tup [.agg [.f (.c (.int .i64 0)),.f (.c (.int .i64 0)),.f (.c .nils),.f (.c .nils)],.int 250]
def Q1(q:Pq)(r:Option Lf):Prop:=DK 144 [.agg ((we q).map .f)] fun d=>d=Ru r
theorem Ed{l:List Pq}{i:Nat}{q:Pq}{lv:DC}{S0:Bx}(hq:l[i]?=some q)(hr:Q1 q none)(hS0:lk S0 7=none):Q2 98 [.one (.ptr 3 0),.int i] ((3,.cells [jR l,lv])::S0) 7
 fun d S' nk'=>d=.int 250/\S'=(3,.cells [jR l,lv])::S0/\nk'=8:=by
 refine JD fun Z β H lo=>?_;have hi:i<l.length:=(zgs hq).1;have e1:=JU hq;refine qa ?_;intros;refine x6 O O hr ?_;intros;refine qd O (fun ht=>?_) (fun ht=>?_)
 ·refine qa ?_;intros;exact qb ⟨_,O,O,_,ZN hS0,O,O,O⟩
 ·simp at ht
theorem SF{S0:Bx}{a b c d e c':Bk}(h:∀k,6<=k->lk S0 k=none):wV ((3,c')::(9,d)::S0) (put 3 c' ((9,d)::xP 6 ((8,a)::(7,b)::(3,c)::(6,e)::S0))):=fun j v hj=>by
 rw [qw,qw] at hj;rw [yu,qw,yB,qw,qw,qw,qw];by_cases h3:j=3
 ·subst h3;simpa using hj
 ·by_cases h9:j=9
  ·subst h9;simpa using hj
  ·have hj':lk S0 j=some v:=by simpa [Ne.symm h3,Ne.symm h9] using hj
   have hlt:j<6:=by
    rcases bD j 6 with h1|h1
    ·exact h1
    ·rw [h j h1] at hj';cases hj'
   simp [h3,Ne.symm h3,show¬9=j by omega,show¬j=6 by omega,show¬8=j by omega,show¬7=j by omega,show¬6=j by omega,hj']
theorem Ec{l:List Pq}{i:Nat}{q:Pq}{x:Lf}{lfs:List Lf}{S0:Bx}(hq:l[i]?=some q)(hr:Q1 q (some x))(hn:lfs.length<1000000)(hS0:∀k,6<=k->lk S0 k=none):Q2 98 [.one (.ptr 3 0),.int i] ((3,.cells [jR l,.own 6 0 lfs.length 4])::(6,.data (lfs.flatMap Qp))::S0) 7
 fun d S' nk'=>d=.int 0/\S'=(3,.cells [jR l,.own 9 0 (lfs++[x]).length 4])::(9,.data ((lfs++[x]).flatMap Qp))::S0/\nk'=10:=by
 refine JD fun Z β H lo=>?_;have hi:i<l.length:=(zgs hq).1;have e1:=JU hq;have hfl:(lfs.flatMap Qp).length=lfs.length*4:=qO (f:=Qp) (e:=4) (fun _=>rfl) lfs;refine qa ?_;intros;refine x6 O O hr ?_;intros;refine qd O (fun ht=>by simp at ht) (fun ht=>?_);refine qa ?_;intros;refine qZ O O O (qD _ hfl) ⟨O,O,_,O,O⟩ oM oM qr O ?_;refine qa ?_;intros;refine qb ⟨_,O,O,_,SF hS0,O,?_,O⟩;rw [X0,qE];rfl
theorem MQ{S0:Bx}{a b c d e c':Bk}(h:∀k,6<=k->lk S0 k=none):wV ((3,c')::(9,d)::S0) (put 3 c' ((9,d)::xP 8 ((8,a)::(7,b)::(6,e)::(3,c)::S0))):=fun j v hj=>by
 rw [qw,qw] at hj;rw [yu,qw,yB,qw,qw,qw,qw];by_cases h3:j=3
 ·subst h3;simpa using hj
 ·by_cases h9:j=9
  ·subst h9;simpa using hj
  ·have hj':lk S0 j=some v:=by simpa [Ne.symm h3,Ne.symm h9] using hj
   have hlt:j<6:=by
    rcases bD j 6 with h1|h1
    ·exact h1
    ·rw [h j h1] at hj';cases hj'
   simp [h3,Ne.symm h3,show¬9=j by omega,show¬j=8 by omega,show¬8=j by omega,show¬7=j by omega,show¬6=j by omega,hj']
theorem Ee{l:List Pq}{i:Nat}{q:Pq}{x:Lf}{S0:Bx}(hq:l[i]?=some q)(hr:Q1 q (some x))(hS0:∀k,6<=k->lk S0 k=none):Q2 98 [.one (.ptr 3 0),.int i] ((3,.cells [jR l,.f (.c .nils)])::S0) 6
 fun d S' nk'=>d=.int 0/\S'=(3,.cells [jR l,.own 9 0 [x].length 4])::(9,.data ([x].flatMap Qp))::S0/\nk'=10:=by
 refine JD fun Z β H lo=>?_;have hi:i<l.length:=(zgs hq).1;have e1:=JU hq;refine qa ?_;intros;refine x6 O O hr ?_;intros;refine qd O (fun ht=>by simp at ht) (fun ht=>?_);refine qa ?_;intros;refine FE 24 4 O ?_;refine qZ (l':=[]) O O O O ⟨O,O,_,O,O⟩ oM oM qr O ?_;refine qa ?_;intros;refine qb ⟨_,O,O,_,MQ hS0,O,?_,O⟩;rfl
theorem R8{l:List Pq}{i:Nat}{q:Pq}{lv:DC}{S0:Bx}(hq:l[i]?=some q)(hr:Q1 q none)(hS0:lk S0 6=none):Q2 98 [.one (.ptr 3 0),.int i] ((3,.cells [jR l,lv])::S0) 6
 fun d S' nk'=>d=.int 250/\S'=(3,.cells [jR l,lv])::S0/\nk'=7:=by
 refine JD fun Z β H lo=>?_;have hi:i<l.length:=(zgs hq).1;have e1:=JU hq;refine qa ?_;intros;refine x6 O O hr ?_;intros;refine qd O (fun ht=>?_) (fun ht=>?_)
 ·refine qa ?_;intros;exact qb ⟨_,O,O,_,ZN hS0,O,O,O⟩
 ·simp at ht
theorem Ho:DK 71 [] fun d=>d=.one (.f (.sl 1 3 [.c (.fn 98 []),.c (.fn 99 []),.c (.fn 100 [])])):=by
 refine Of ?_;intros;refine qF 0 O qo qo ?_;exact qb ⟨_,O,O,O⟩
theorem Ef{S0:Bx}(hS0:lk S0 4=none):Q2 37 [.one (.ptr 3 0)] S0 4 fun d S' nk'=>d=.one (.fn 70 [(4,0)])/\S'=(4,.cells [.ptr 3 0])::S0/\nk'=5:=by
 refine JD fun Z β H lo=>?_;refine qa ?_;intros;exact qb ⟨_,O,O,_,wC _,O,O,O⟩
def Z8:Option Lb->Lb->Bool
 |none,b=>decide (b=(1,0))
 |some a,b=>aG a b
def y5(q0:Pq):Nat->Option Lb->List (Pq × Option Lf)->Nat × Int
 |i,_,[]=>(i,0)
 |i,_,(_,none)::_=>(i,250)
 |i,prev,(q,some x)::r=>if q.w≠q0.w\/q.h≠q0.h then (i,340) else if Z8 prev x.lb=true then y5 q0 (i+1) (some x.lb) r else (i,340)
theorem Ew {ρ:Nat} {Z:Nat->Prop} {β:qt} {H:Hp} {p:Par} (hp:p.P=Tryz.prog) {i e:Int} {a0 a1 a2:DC} {S0:Bx} {nk nk0:Nat} {R:DV->Bx->Nat->Prop} {st:LoopState} {j:Option Code} {f n:Nat} {ts ps:List Nat} {sg bd:Code} {l:List DC}
 (hR:R (.bool false) ((5,.mp (.lp .done (some .ret) f n ts ps sg bd) l)::(0,.cells [.f (.c .nils)])::(1,.cells [.f (.c (.int .i64 i))])::(2,.cells [.f (.c (.int .i64 e))])::S0) nk):
 DPS (p.round ρ Z nk0 β H) xC.n kg (tO 5 R) [(6,.int i),(7,.int e),(2,.one (.ptr 0 0)),(3,.one (.ptr 1 0)),(4,.one (.ptr 2 0))] ((5,.mp (.lp st j f n ts ps sg bd) l)::(0,.cells [a0])::(1,.cells [a1])::(2,.cells [a2])::S0) nk:=by
 have mixp:(p.round ρ Z nk0 β H).P.follows .mixedOrders=true:=by show p.P.follows _=_;rw [hp];exact vB
 refine jT ?_;refine yn ?_;refine yv mixp (fun base=>?_);refine qa ?_;intros;refine qb ⟨_,_,_,_,_,_,_,_,_,O,?_⟩;exact hR
abbrev Pf:DV:=.one (.f (.sl 1 3 [.c (.fn 98 []),.c (.fn 99 []),.c (.fn 100 [])]))
def GG(rec:Bk)(l:List Pq)(c0 c1 c2:Bk):List Lf->Bx
 |[]=>[(3,.cells [jR l,.f (.c .nils)]),(4,.cells [.ptr 3 0]),(5,rec),(0,c0),(1,c1),(2,c2)]
 |x::r=>[(3,.cells [jR l,.own 6 0 (x::r).length 4]),(6,.data ((x::r).flatMap Qp)),(4,.cells [.ptr 3 0]),(5,rec),(0,c0),(1,c1),(2,c2)]
def RN:List Lf->Nat
 |[]=>6
 |_::_=>7
theorem So{rec:Bk}{l:List Pq}{c0 c1 c2:Bk}{lfs:List Lf}(h:lfs≠[]):GG rec l c0 c1 c2 lfs=[(3,.cells [jR l,.own 6 0 lfs.length 4]),(6,.data (lfs.flatMap Qp)),(4,.cells [.ptr 3 0]),(5,rec),(0,c0),(1,c1),(2,c2)]/\RN lfs=7:=by
 cases lfs with
 |nil=>exact absurd O h
 |cons x r=>exact⟨O,O⟩
theorem M7{q0 q:Pq}{k:Nat}{prev:Option Lb}{L:List (Pq × Option Lf)}(h:L[k]?=some (q,none)):y5 q0 k prev (L.drop k)=(k,250):=by
 obtain⟨hk,e⟩:=zgs h;rw [kr hk,e];rfl
theorem YU{q0 q:Pq}{x:Lf}{k:Nat}{prev:Option Lb}{L:List (Pq × Option Lf)}(h:L[k]?=some (q,some x)):
 y5 q0 k prev (L.drop k)=if q.w≠q0.w\/q.h≠q0.h then (k,340) else if Z8 prev x.lb=true then y5 q0 (k+1) (some x.lb) (L.drop (k+1)) else (k,340):=by
 obtain⟨hk,e⟩:=zgs h;rw [kr hk,e];rfl
theorem SK{q0:Pq}{k:Nat}{prev:Option Lb}{L:List (Pq × Option Lf)}(h:L.length<=k):y5 q0 k prev (L.drop k)=(k,0):=by
 rw [List.drop_eq_nil_of_le h];rfl
theorem JO {p:Par} (hp:p.P=Tryz.prog) (hG:p.G=6) {i e:Int} {fid:FuncId} {sg bd:Code} (hsg:xB Tryz.prog 6 xC.n sg=some (.seq (.ops Qe 0 true) (.ops Qd 0 true))) (hbd:xB Tryz.prog 6 xC.n bd=some kg)
 {base rs:Nat} {Q:qk->Bx->Nat->Prop} {r:List SOper} {A:List Nat} {E:qk} {S:Bx} {nk:Nat} {id:Nat} {dst:Option Nat} {aid:Option Nat} {ws:List Nat} {keep:Bool} {a0 a1 a2:DC} {x y z:Opd}
 (h5:lk S 5=some (.mp (.lp .ready none fid xC.n [2,3,4] [14,15] sg bd) [.ptr 0 0,.ptr 1 0,.ptr 2 0])) (h0:lk S 0=some (.cells [a0])) (h1:lk S 1=some (.cells [a1])) (h2:lk S 2=some (.cells [a2]))
 (hx:ro E x=some (.one (.yl 5))) (hvs:Zx E [y,z]=some [.int i,.int e]) (hT:bK E=true)
 (h:DPW p base 0 Q r [] A (qI E dst (.bool false)) [(5,.mp (.lp .done (some .ret) fid xC.n [2,3,4] [14,15] sg bd) [.ptr 0 0,.ptr 1 0,.ptr 2 0]),(0,.cells [.f (.c .nils)]),(1,.cells [.f (.c (.int .i64 i))]),(2,.cells [.f (.c (.int .i64 e))])] nk):
 DPW p base rs Q (⟨id,dst,.cv x [y,z],none,aid,ws,keep⟩::r) [] A E S nk:=by
 refine Sa (R:=fun d S' nk'=>d=.bool false/\S'=[(5,.mp (.lp .done (some .ret) fid xC.n [2,3,4] [14,15] sg bd) [.ptr 0 0,.ptr 1 0,.ptr 2 0]),(0,.cells [.f (.c .nils)]),(1,.cells [.f (.c (.int .i64 i))]),(2,.cells [.f (.c (.int .i64 e))])]/\nk'=nk) hx hvs h5 O O hT (by rw [hp,hG];exact hsg) (by rw [hp,hG];exact hbd) (fun ρ Z β H=>?_) (by rintro _ _ _ ⟨rfl,rfl,rfl⟩;exact h);have mixp:(p.round ρ Z nk β H).P.follows .mixedOrders=true:=by show p.P.follows _=_;rw [hp];exact vB
 refine yn ?_;refine yv mixp (fun base=>?_);refine qa ?_;intros;refine yv mixp (fun base=>?_);refine qa ?_;intros;refine⟨O,_,_,_,_,_,_,_,_,_,O,h5,?_⟩;refine qx (E0:=[(6,.int i),(7,.int e),(2,.one (.ptr 0 0)),(3,.one (.ptr 1 0)),(4,.one (.ptr 2 0))]) (S0:=(5,.mp (.lp .busy none fid xC.n [2,3,4] [14,15] sg bd) [.ptr 0 0,.ptr 1 0,.ptr 2 0])::(0,.cells [a0])::(1,.cells [a1])::(2,.cells [a2])::[])
  (qg rfl (qg rfl (qg rfl (qg rfl (qg rfl (qv _))))))
  (qg (by rw [yu,if_pos rfl,h5];rfl) (qg (by rw [yu,if_neg (by decide),h0]) (qg (by rw [yu,if_neg (by decide),h1]) (qg (by rw [yu,if_neg (by decide),h2]) (qv _))))) ?_
 exact Ew hp ⟨O,O,O⟩
theorem Sp{lfs:List Lf}(h:lfs≠[]):RN lfs=7:=by
 cases lfs with
 |nil=>exact absurd O h
 |cons x r=>rfl
theorem Iz {l:List Pq} {rs:List (Option Lf)} {q0:Pq} (hlen:rs.length=l.length) (hl:∀(i:Nat) q r,l[i]?=some q->rs[i]?=some r->Q1 q r) (hsm:∀x,some x∈rs->0<=x.lb.1/\x.lb.1<100000/\0<=x.lb.2/\x.lb.2<100000)
 (hq0:l[0]?=some q0) (hn:l.length<1000000) {fid:FuncId} {sg bd:Code} (hsg:xB Tryz.prog 6 xC.n sg=some (.seq (.ops Qe 0 true) (.ops Qd 0 true))) (hbd:xB Tryz.prog 6 xC.n bd=some kg):
 Q2 70 [.one (.yl 5),.one (.ptr 4 0)] (GG (.mp (.lp .ready none fid xC.n [2,3,4] [14,15] sg bd) [.ptr 0 0,.ptr 1 0,.ptr 2 0]) l (.cells [.f (.c .nils)]) (.cells [.f (.c (.int .i64 0))]) (.cells [.f (.c (.int .i64 0))]) []) 6
 fun _ S' nk'=>(∃lfs,y5 q0 0 none (l.zip rs)=(l.length,0)/\S'=GG (.mp (.lp .ready none fid xC.n [2,3,4] [14,15] sg bd) [.ptr 0 0,.ptr 1 0,.ptr 2 0]) l (.cells [.f (.c .nils)]) (.cells [.f (.c (.int .i64 0))]) (.cells [.f (.c (.int .i64 0))]) lfs/\nk'=RN lfs)\/
  ((y5 q0 0 none (l.zip rs)).2≠0/\S'=[(5,.mp (.lp .done (some .ret) fid xC.n [2,3,4] [14,15] sg bd) [.ptr 0 0,.ptr 1 0,.ptr 2 0]),(0,.cells [.f (.c .nils)]),(1,.cells [.f (.c (.int .i64 (y5 q0 0 none (l.zip rs)).1))]),(2,.cells [.f (.c (.int .i64 (y5 q0 0 none (l.zip rs)).2))])]):=by
 refine JD fun Z β H lo=>?_;refine qa ?_;intros;refine qu (fun m E S nk=>∃(k:Nat) (lfs:List Lf),k+m=l.length/\lfs.length=k/\rs.take k=lfs.map some/\y5 q0 0 none (l.zip rs)=y5 q0 k (lfs.getLast?.map (·.lb)) ((l.zip rs).drop k)/\
  E=[(0,.one (.yl 5)),(1,.one (.ptr 4 0)),(11,.int l.length),(12,.int k)]/\S=GG (.mp (.lp .ready none fid xC.n [2,3,4] [14,15] sg bd) [.ptr 0 0,.ptr 1 0,.ptr 2 0]) l (.cells [.f (.c .nils)]) (.cells [.f (.c (.int .i64 0))]) (.cells [.f (.c (.int .i64 0))]) lfs/\nk=RN lfs)
  ⟨l.length,_,_,_,[],?wk,0,[],oM,rfl,rfl,rfl,rfl,rfl,rfl⟩ ?_
 case wk=>exact qs
 rintro m E S nk ⟨k,lfs,hk,hlk,htk,hsc,rfl,rfl,rfl⟩;refine qa ?_;intros;refine qd O (fun ht=>?_) (fun ht=>?_)
 ·have hkl:k<l.length:=by simpa using ht
  obtain⟨q,hq⟩:∃q,l[k]?=some q:=⟨_,zge hkl⟩;obtain⟨r,hr⟩:∃r,rs[k]?=some r:=⟨_,zge oM⟩;have hz:(l.zip rs)[k]?=some (q,r):=by
   rw [List.getElem?_zip_eq_some];exact⟨hq,hr⟩
  have s0:xd [FD.c (.fn 98 []),.c (.fn 99 []),.c (.fn 100 [])] (0*1) 1=some [.c (.fn 98 [])]:=rfl;have s1:xd [FD.c (.fn 98 []),.c (.fn 99 []),.c (.fn 100 [])] (1*1) 1=some [.c (.fn 99 [])]:=rfl;have s2:xd [FD.c (.fn 98 []),.c (.fn 99 []),.c (.fn 100 [])] (2*1) 1=some [.c (.fn 100 [])]:=rfl;refine qa ?_;intros;refine x6 O O Ho ?_;intros;refine qu (fun m2 E S nk=>∃(j:Nat),j+m2=3/\E=[(0,.one (.yl 5)),(1,.one (.ptr 4 0)),(3,.int k),(11,.int l.length),(12,.int k),(15,Pf),(16,.int 3),(17,.int j)]/\
   (
    (j=0/\S=GG (.mp (.lp .ready none fid xC.n [2,3,4] [14,15] sg bd) [.ptr 0 0,.ptr 1 0,.ptr 2 0]) l (.cells [.f (.c .nils)]) (.cells [.f (.c (.int .i64 0))]) (.cells [.f (.c (.int .i64 0))]) lfs/\nk=RN lfs)\/
    (
     ∃x,1<=j/\r=some x/\(2<=j->¬(q.w≠q0.w\/q.h≠q0.h))/\(3<=j->Z8 (lfs.getLast?.map (·.lb)) x.lb=true)/\
     S=[(3,.cells [jR l,.own 6 0 (lfs++[x]).length 4]),(6,.data ((lfs++[x]).flatMap Qp)),(4,.cells [.ptr 3 0]),(5,.mp (.lp .ready none fid xC.n [2,3,4] [14,15] sg bd) [.ptr 0 0,.ptr 1 0,.ptr 2 0]),(0,.cells [.f (.c .nils)]),(1,.cells [.f (.c (.int .i64 0))]),(2,.cells [.f (.c (.int .i64 0))])]/\nk=7)))
   ⟨3,_,_,_,[],?wk2,0,oM,rfl,.inl ⟨rfl,rfl,rfl⟩⟩ ?_
  case wk2=>
   cases lfs with
   |nil=>exact qs
   |cons a b=>exact qs
  rintro m2 E S nk ⟨j,hj,rfl,hst⟩;refine qa ?_;intros;refine qd O (fun ht=>?_) (fun ht=>?_)
  ·rcases hst with⟨rfl,rfl,rfl⟩|⟨x,h1,rfl,h2,h3,rfl,rfl⟩
   ·-- the leaf
    cases r with
    |none=>
     have fin:(y5 q0 0 none (l.zip rs))=(k,250):=by rw [hsc,M7 hz]
     cases hc:lfs with
     |nil=>
      refine qa ?_;intros;refine kB O jA O O O (R8 hq (hl _ _ _ hq hr) O _ _ _ _ _) ?_;rintro _ _ _ ⟨rfl,rfl,rfl⟩;refine qa ?_;intros;refine qd O (fun _=>?_) (fun ht=>by simp at ht);refine qa ?_;intros;refine JO O O hsg hbd O O O O O O O ?_;refine qa ?_;intros;exact qb ⟨_,O,O,_,wC _,.inr ⟨by rw [fin];show (250:Int)≠0;omega,by rw [fin]⟩⟩
     |cons x0 r0=>
      refine qa ?_;intros;refine kB O jA O O O (Ed hq (hl _ _ _ hq hr) O _ _ _ _ _) ?_;rintro _ _ _ ⟨rfl,rfl,rfl⟩;refine qa ?_;intros;refine qd O (fun _=>?_) (fun ht=>by simp at ht);refine qa ?_;intros;refine JO O O hsg hbd O O O O O O O ?_;refine qa ?_;intros;exact qb ⟨_,O,O,_,wC _,.inr ⟨by rw [fin];show (250:Int)≠0;omega,by rw [fin]⟩⟩
    |some x=>
     cases hc:lfs with
     |nil=>
      subst hc;refine qa ?_;intros;refine kB O jA O O O (Ee hq (hl _ _ _ hq hr) (fun k hk=>by
       rw [qw,if_neg (by omega),qw,if_neg (by omega),qw,if_neg (by omega),qw,if_neg (by omega),qw,if_neg (by omega)];rfl) _ _ _ _ _) ?_
      rintro _ _ _ ⟨rfl,rfl,rfl⟩;refine qa ?_;intros;refine qd O (fun ht=>by simp at ht) (fun _=>?_);refine qa ?_;intros;refine⟨m2-1,oM,_,_,_,[(6,9)],?wk3,1,oM,O,.inr ⟨x,oM,O,fun h=>oM,fun h=>oM,O,O⟩⟩
      case wk3=>exact qs
     |cons x0 r0=>
      subst hc;refine qa ?_;intros;refine kB O jA O O O (Ec (lfs:=x0::r0) hq (hl _ _ _ hq hr) oM (fun k hk=>by
       rw [qw,if_neg (by omega),qw,if_neg (by omega),qw,if_neg (by omega),qw,if_neg (by omega),qw,if_neg (by omega)];rfl) _ _ _ _ _) ?_
      rintro _ _ _ ⟨rfl,rfl,rfl⟩;refine qa ?_;intros;refine qd O (fun ht=>by simp at ht) (fun _=>?_);refine qa ?_;intros;refine⟨m2-1,oM,_,_,_,[(6,9)],?wk4,1,oM,O,.inr ⟨x,oM,O,fun h=>oM,fun h=>oM,O,O⟩⟩
      case wk4=>exact qs
   ·have hj12:j=1\/j=2:=by
     have:(j:Int)<3:=by simpa using ht
     omega
    rcases hj12 with rfl|rfl
    ·-- the size
     by_cases hw:q.w≠q0.w\/q.h≠q0.h
     ·have fin:(y5 q0 0 none (l.zip rs))=(k,340):=by rw [hsc,YU hz,if_pos hw]
      refine qa ?_;intros;refine kB O QO O O O (L3 hq hq0 _ _ _ _ _) ?_;rintro _ _ _ ⟨rfl,rfl,rfl⟩;rw [if_pos hw];refine qa ?_;intros;refine qd O (fun _=>?_) (fun ht=>by simp at ht);refine qa ?_;intros;refine JO O O hsg hbd O O O O O O O ?_;refine qa ?_;intros;exact qb ⟨_,O,O,_,wC _,.inr ⟨by rw [fin];show (340:Int)≠0;omega,by rw [fin]⟩⟩
     ·refine qa ?_;intros;refine kB O QO O O O (L3 hq hq0 _ _ _ _ _) ?_;rintro _ _ _ ⟨rfl,rfl,rfl⟩;rw [if_neg hw];refine qa ?_;intros;refine qd O (fun ht=>by simp at ht) (fun _=>?_);refine qa ?_;intros;refine⟨m2-1,oM,_,_,_,[],?wk5,2,oM,O,.inr ⟨x,oM,O,fun _=>hw,fun h=>oM,O,O⟩⟩
      case wk5=>exact qs
    ·-- the label
     cases hc:lfs with
     |nil=>
      subst hc;obtain rfl:k=0:=hlk.symm;by_cases hw:x.lb=(1,0)
      ·refine qa ?_;intros;refine kB O jk O O O (sU (lfs:=[x]) O O _ _ _ _ _) ?_;rintro _ _ _ ⟨rfl,rfl,rfl⟩;rw [if_pos hw];refine qa ?_;intros;refine qd O (fun ht=>by simp at ht) (fun _=>?_);refine qa ?_;intros;refine⟨m2-1,oM,_,_,_,[],?wk7,3,oM,O,.inr ⟨x,oM,O,fun _=>h2 oM,fun _=>?ok,O,O⟩⟩
       case wk7=>exact qs
       case ok=>exact decide_eq_true hw
      ·have fin:(y5 q0 0 none (l.zip rs))=(0,340):=by rw [hsc,YU hz,if_neg (h2 (by omega)),if_neg (show¬Z8 (Option.map (fun x=>x.lb) ([]:List Lf).getLast?) x.lb=true from fun h=>hw (xo h))]
       refine qa ?_;intros;refine kB O jk O O O (sU (lfs:=[x]) O O _ _ _ _ _) ?_;rintro _ _ _ ⟨rfl,rfl,rfl⟩;rw [if_neg hw];refine qa ?_;intros;refine qd O (fun _=>?_) (fun ht=>by simp at ht);refine qa ?_;intros;refine JO O O hsg hbd O O O O O O O ?_;refine qa ?_;intros;exact qb ⟨_,O,O,_,wC _,.inr ⟨by rw [fin];show (340:Int)≠0;omega,by rw [fin]⟩⟩
     |cons x0 r0=>
      subst hc;obtain⟨a,ha⟩:∃a,(x0::r0)[r0.length]?=some a:=⟨_,zge sM⟩;have hla:(x0::r0).getLast?=some a:=by rw [List.getLast?_eq_getElem?];simpa using ha
      have hk1:k=r0.length+1:=by rw [<-hlk];rfl
      have hsma:0<=a.lb.1/\a.lb.1<100000/\0<=a.lb.2/\a.lb.2<100000:=hsm a (by
       have h1:some a∈(x0::r0).map some:=j6.2 ⟨a,zmg ha,rfl⟩;rw [<-htk] at h1;exact nQ h1)
      have hx1:(x0::r0++[x])[r0.length]?=some a:=by rw [Qz (by simp)];exact ha
      have hx2:(x0::r0++[x])[r0.length+1]?=some x:=by rw [Q3 (by simp)];simp
      rw [hla];subst hk1;by_cases hw:aG a.lb x.lb=true
      ·refine qa ?_;intros;refine kB O jk O O O (sT (lfs:=x0::r0++[x]) (i:=r0.length) O hx1 hx2 sM (by omega) hsma _ _ _ _ _) ?_;rintro _ _ _ ⟨rfl,rfl,rfl⟩;rw [if_pos hw];refine qa ?_;intros;refine qd O (fun ht=>by simp at ht) (fun _=>?_);refine qa ?_;intros;refine⟨m2-1,oM,_,_,_,[],?wk7,3,oM,O,.inr ⟨x,oM,O,fun _=>h2 oM,fun _=>?ok,O,O⟩⟩
       case wk7=>exact qs
       case ok=>exact hw
      ·have fin:(y5 q0 0 none (l.zip rs))=(r0.length+1,340):=by rw [hsc,YU hz,if_neg (h2 (by omega)),if_neg (by rw [hla];exact hw)]
       refine qa ?_;intros;refine kB O jk O O O (sT (lfs:=x0::r0++[x]) (i:=r0.length) O hx1 hx2 sM (by omega) hsma _ _ _ _ _) ?_;rintro _ _ _ ⟨rfl,rfl,rfl⟩;rw [if_neg hw];refine qa ?_;intros;refine qd O (fun _=>?_) (fun ht=>by simp at ht);refine qa ?_;intros;refine JO O O hsg hbd O O O O O O O ?_;refine qa ?_;intros;exact qb ⟨_,O,O,_,wC _,.inr ⟨by rw [fin];show (340:Int)≠0;omega,by rw [fin]⟩⟩
  ·-- the next plate
   have hj3:j=3:=by
    have:¬(j:Int)<3:=by simpa using ht
    omega
   subst hj3;rcases hst with⟨h,_⟩|⟨x,_,rfl,h2,h3,rfl,rfl⟩
   ·omega
   refine qa ?_;intros;refine⟨m-1,by omega,_,_,7,[],?wk6,k+1,lfs++[x],by omega,by simp [hlk],?_,?_,rfl,(So (by simp)).1.symm,(Sp (by simp)).symm⟩
   case wk6=>exact qs
   ·rw [Q5,hr,htk];simp
   ·rw [hsc,YU hz,if_neg (h2 (by omega)),if_pos (h3 (by omega))];simp
 ·have hkl:¬k<l.length:=by simpa using ht
  refine qa ?_;intros;refine⟨_,O,O,_,wC _,.inl ⟨lfs,?_,O,O⟩⟩;rw [hsc,SK (by rw [List.length_zip];omega)];rw [show k=l.length by omega]
theorem DX.sub{p:Par}{f:FuncId}{ds:List DV}{S S0:Bx}{nk:Nat}{R:DV->Bx->Nat->Prop}(h:DX p f ds S0 nk R)(hs:wV S0 S):DX p f ds S nk R:=fun Z β H args hS ha=>h Z β H args (hS.keepS hs) ha
theorem TC {l:List Pq} {rs:List (Option Lf)} {q0:Pq} (hlen:rs.length=l.length) (hl:∀(i:Nat) q r,l[i]?=some q->rs[i]?=some r->Q1 q r) (hsm:∀x,some x∈rs->0<=x.lb.1/\x.lb.1<100000/\0<=x.lb.2/\x.lb.2<100000)
 (hq0:l[0]?=some q0) (hn:l.length<1000000):jg 22 [.one (jR l)] fun d S nk=>∃lv,d=.tup [lv,.int (y5 q0 0 none (l.zip rs)).1,.int (y5 q0 0 none (l.zip rs)).2]:=by
 refine wv fun Z0 lo=>?_;have h0:0<l.length:=(zgs hq0).1;refine qa ?_;intros;refine qd O (fun ht=>?_) (fun _=>?_)
 ·have:(l.length:Int)=0:=by simpa using ht
  omega
 refine qa ?_;intros;refine iL O O O (Ef O _ _ _ _ _) ?_;rintro _ _ _ ⟨rfl,rfl,rfl⟩;refine qa ?_;intros;refine qx (qg (k:=0) O (qg (k:=2) O (qg (k:=3) O (qg (k:=4) O (qg (k:=5) O (qg (k:=13) O (qv _))))))) (qg (k:=3) O (qg (k:=4) O (qg (k:=0) O (qg (k:=1) O (qg (k:=2) O (qv _)))))) ?_;refine Sd O [2,3,4] O O O O (fun fid sg bd hsg hbd=>?_);refine DX.sub (S0:=GG (.mp (.lp .ready none fid xC.n [2,3,4] [14,15] sg bd) [.ptr 0 0,.ptr 1 0,.ptr 2 0]) l (.cells [.f (.c .nils)]) (.cells [.f (.c (.int .i64 0))]) (.cells [.f (.c (.int .i64 0))]) []) ((Iz hlen hl hsm hq0 hn hsg hbd Z0 lo 0 (fun _=>none) ⟨.lf,0⟩).mono ?_) (qg O (qg O (qg O (qg O (qg O (qg O (qv _)))))));rintro _ S' nk' (⟨lfs,hsc,rfl,rfl⟩|⟨hne,rfl⟩)
 ·cases lfs with
  |nil=>
   refine⟨_,_,_,_,_,_,_,_,_,O,by simp,?_⟩;refine qa ?_;intros;refine qb ⟨_,O,O,_,wC _,.one (.f (.c .nils)),?_⟩;rw [hsc]
  |cons x0 r0=>
   refine⟨_,_,_,_,_,_,_,_,_,O,by simp,?_⟩;refine qa ?_;intros;refine qb ⟨_,O,O,_,wC _,.one (.own 6 0 (x0::r0).length 4),?_⟩;rw [hsc]
 ·refine⟨_,_,_,_,_,_,_,_,_,O,by simp,?_⟩;refine⟨_,O,O,_,wC _,_,O⟩
end Go.Ai
