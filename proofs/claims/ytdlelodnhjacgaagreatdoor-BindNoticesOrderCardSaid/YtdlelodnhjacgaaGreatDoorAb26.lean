/- -/
import Derived.Test.YtdlelodnhjacgaaGreatDoorAb19
import Derived.Test.YtdlelodnhjacgaaGreatDoorAb22
import Derived.Test.YtdlelodnhjacgaaGreatDoorAb25
set_option linter.unusedSimpArgs false
set_option linter.unusedVariables false
set_option maxRecDepth 8000
set_option maxHeartbeats 16000000
namespace Go.Ai
open Go.Ab Go.Proofs
def Eb(p:Pic):Prop:=Chk p (0,0,0)/\∃r,PlcR p r/\r.2.2=0
theorem Chk.zero{p:Pic}{r:Ra}(h:Chk p r)(h0:r.2.2=0):r=(0,0,0)/\xQ p=true:=by
 cases h with
 |arg _=>cases h0
 |bad1 i _ _=>cases h0
 |bad2 i k _ _ _=>cases h0
 |ok h _ _=>exact⟨O,h⟩
theorem BN{p:Pic}(hF:VZ p):DK 63 [Qa p] fun d=>∃b,d=.bool b/\(b=true->Eb p):=by
 refine yQ ?_;intros;refine qf O O (BL hF) ?_;rintro _ ⟨r,hr,rfl⟩;obtain⟨r1,r2,r3⟩:=r;refine qa ?_;intros;refine qd (t:=(r3 !=0)) O (fun h1=>?_) (fun h1=>?_)
 ·refine qa ?_;intros;exact qb ⟨_,O,O,false,O,fun h=>by cases h⟩
 ·have h1:r3=0:=by simpa using h1
  obtain⟨e,hv⟩:=hr.zero h1;rw [e] at hr;refine qa ?_;intros;refine qf O O (BJ hv) ?_;rintro _ ⟨q,hq,rfl⟩;obtain⟨q1,q2,q3⟩:=q;refine qa ?_;intros;exact qb ⟨_,O,O,(q3==0),O,fun h=>⟨hr,_,hq,by simpa using h⟩⟩
structure RawF where
 kind:Nat
 n:Nat
 l:List (Nat × Nat)
def CE(p:Nat × Nat):List FD:=[.c (.int .u8 p.1),.c (.int .u8 p.2)]
def Dc(x:RawF):List FD:=[.c (.int .u8 x.kind),.c (.int .u8 x.n),.sl 2 x.l.length (x.l.flatMap CE)]
structure RawF.ok (x:RawF):Prop where
 k:x.kind<256
 n:x.n<256
 l:∀p∈x.l,p.1<256/\p.2<256
 len:x.l.length<9223372036854775808
def RawF.at_(x:RawF)(i:Nat):Nat × Nat:=x.l.getD i (0,0)
theorem RawF.ok.at_{x:RawF}(h:x.ok)(i:Nat):(x.at_ i).1<256/\(x.at_ i).2<256:=by
 unfold RawF.at_;rw [qT];cases hi:x.l[i]? with
 |none=>exact⟨by decide,by decide⟩
 |some p=>exact h.l p (zmg hi)
theorem Sn{l:List (Nat × Nat)}{i:Nat}{x:Nat × Nat}(h:l[i]?=some x):xd (l.flatMap CE) (i*2) 2=some (CE x):=zp (f:=CE) (e:=2) (fun _=>rfl) h
def RawF.ent(x:RawF)(i:Nat):Tr:=if x.kind % 4=0 then kG ((x.at_ i).1*(x.at_ i).2) else wN (x.at_ i).1 (x.at_ i).2
def RawF.ents(x:RawF)(n:Nat):List Tr:=(List.range n).map x.ent
theorem o9(x:RawF)(k:Nat):x.ents (k+1)=x.ents k++[x.ent k]:=by
 unfold RawF.ents;rw [XY,JM];rfl
theorem XE(x:RawF)(k:Nat):(x.ents k).length=k:=by simp [RawF.ents]
theorem V8(n:Nat):(kG n).fl.length=1:=by simp [Tr.fl,xq]
theorem T8(x:RawF)(i:Nat):(x.ent i).fl.length<=5:=by
 unfold RawF.ent;split
 ·rw [V8];omega
 ·exact aI _ _
theorem Gh(x:RawF)(k:Nat):(xq (x.ents k)).length<=5*k:=by
 induction k with
 |zero=>simp [RawF.ents,xq]
 |succ k ih=>
  rw [o9,Qs,qE,xq,xq,yI];have:=T8 x k;omega
theorem EG{a b:Nat}(ha:a<256)(hb:b<256):a*b<=255*255:=DS oM oM
theorem Mu(l:List (Int × Int)):(l.flatMap wg).length=l.length*2:=qO (f:=wg) (fun _=>rfl) l
abbrev Dd(x:RawF):Bk:=.cells ((Dc x).map .f)
theorem lW{x:RawF}(hx:x.ok){root:Int × Int}{n:Nat}(hn:n<=16){t:Tr}(ht:t.ok)(hd:t.dep<=8)(hfl:t.fl=root::xq (x.ents n)){Z0:Nat->Prop}{lo:Nat}:
 DPS (Par.base Tryz.prog GN (H00 1) Z0 lo) QS.n (.loop KI) (CG 1 (eV (DPS (Par.base Tryz.prog GN (H00 1) Z0 lo) QS.n (.seq (.ops Wb 0 true) (.seq (.seq (.ops Wa 0 true) (.cond (.t 97) (.seq (.ops J9 0 true) .ret) .skip)) (.seq (.ops J8 0 true) .ret)))
  (Jt (Par.base Tryz.prog GN (H00 1) Z0 lo) QS.res fun r=>r=xD (if t.fl.length<=60 then t else kG x.n).fl))
  (Jt (Par.base Tryz.prog GN (H00 1) Z0 lo) QS.res fun r=>r=xD (if t.fl.length<=60 then t else kG x.n).fl)))
  [(1,.one (.ptr 0 0)),(3,.one (.own 1 0 1 2)),(4,.int n),(7,.int 0)] [(1,.data (wg root)),(0,Dd x)] 2:=by
 refine qu (fun m E S nk=>∃(k ln:Nat),k+m=n/\ln=(root::xq (x.ents k)).length/\E=[(1,.one (.ptr 0 0)),(3,.one (.own 1 0 ln 2)),(4,.int n),(7,.int k)]/\S=[(1,.data ((root::xq (x.ents k)).flatMap wg)),(0,Dd x)]/\nk=2)
  ⟨n,_,_,_,[],?wk,0,1,oM,rfl,rfl,rfl,rfl⟩ ?_
 case wk=>exact qs
 rintro m E S nk ⟨k,ln,hkm,hln,rfl,rfl,rfl⟩;have hle:=Gh x k;have hll:ln=(xq (x.ents k)).length+1:=by rw [hln,xA]
 have hnf:=Mu (root::xq (x.ents k));rw [<-hln] at hnf;refine qa ?_;intros;refine qd O (fun h1=>?_) (fun h1=>?_)
 ·have h1:=xo h1;have hat:=hx.at_ k;have hk4:(x.kind:Int).tmod 4=((x.kind % 4:Nat):Int):=(JK x.kind 4).symm;have hstep:∀(e:Tr) (c:List FD),x.ent k=e->c=e.fl.flatMap wg->(root::xq (x.ents k)).flatMap wg++c=(root::xq (x.ents (k+1))).flatMap wg/\ln+e.fl.length=(root::xq (x.ents (k+1))).length:=fun e c he hc=>by
   rw [o9,Qs,xq,xq,yI,he,hc,<-X0,vz];exact⟨O,by rw [hll,xA,qE];omega⟩
  refine qa ?_;intros;refine qd (t:=decide ((k:Int)<x.l.length)) O (fun h2=>?_) (fun h2=>?_)
  ·have h2:=xo h2;obtain⟨p,hp⟩:∃p,x.l[k]?=some p:=⟨_,zge oM⟩;have hsp:=Sn hp;have hpa:x.at_ k=p:=by unfold RawF.at_;rw [qT,hp];rfl
   rw [hpa] at hat;have hpl:=EG hat.1 hat.2;refine qa ?_;intros;refine qd (t:=((x.kind:Int).tmod 4==0)) O (fun h3=>?_) (fun h3=>?_)
   ·have h3:x.kind % 4=0:=by rw [hk4] at h3;have:=eq_of_beq h3;omega
    have hent:x.ent k=kG (p.1*p.2):=by unfold RawF.ent;rw [if_pos h3,hpa]
    have hwp:IntKind.i64.wrap (IntKind.i64.wrap (p.1:Int)*IntKind.i64.wrap (p.2:Int))=((p.1*p.2:Nat):Int):=by
     rw [qm (n:=(p.1:Int)) (by omega) (by omega),qm (n:=(p.2:Int)) (by omega) (by omega),<-L5];exact qm oM oM
    obtain⟨hdat,hnl⟩:=hstep _ [FD.c (.int .i64 0),FD.c (.int .i64 (IntKind.i64.wrap (IntKind.i64.wrap (p.1:Int)*IntKind.i64.wrap (p.2:Int))))] hent (by rw [hwp];simp [Tr.fl,xq,wg]);rw [V8] at hnl;refine qa ?_;intros;refine qZ (q:=[FD.c (.int .i64 0),FD.c (.int .i64 (IntKind.i64.wrap (IntKind.i64.wrap (p.1:Int)*IntKind.i64.wrap (p.2:Int))))]) O O O (qD _ hnf) ⟨O,O,_,O,O⟩ oM oM qr O ?_;refine qa ?_;intros;refine⟨m-1,oM,_,_,_,[(1,4)],?wk,k+1,ln+1,oM,hnl,O,O,O⟩
    case wk=>exact qs
   ·have h3:¬x.kind % 4=0:=by rw [hk4] at h3;have:=ne_of_beq_false h3;omega
    have hent:x.ent k=wN p.1 p.2:=by unfold RawF.ent;rw [if_neg h3,hpa]
    obtain⟨hdat,hnl⟩:=hstep _ _ hent rfl;have hel:=aI p.1 p.2;refine qa ?_;intros;refine x6 O O (aN hat.1 hat.2) ?_;intros;refine qZ (m:=(wN p.1 p.2).fl.length) (q:=(wN p.1 p.2).fl.flatMap wg) O O O (qD _ hnf) ⟨O,O,O⟩ oM oM qr O ?_;refine qa ?_;intros;refine⟨m-1,oM,_,_,_,[(1,3)],?wk,k+1,ln+(wN p.1 p.2).fl.length,oM,hnl,O,O,O⟩
    case wk=>exact qs
  ·have h2:=zK h2;have hpa:x.at_ k=(0,0):=by unfold RawF.at_;rw [qT,yJ (by omega)];rfl
   refine qa ?_;intros;refine qd (t:=((x.kind:Int).tmod 4==0)) O (fun h3=>?_) (fun h3=>?_)
   ·have h3:x.kind % 4=0:=by rw [hk4] at h3;have:=eq_of_beq h3;omega
    have hent:x.ent k=kG 0:=by unfold RawF.ent;rw [if_pos h3,hpa];rfl
    obtain⟨hdat,hnl⟩:=hstep _ [FD.c (.int .i64 0),FD.c (.int .i64 (IntKind.i64.wrap (IntKind.i64.wrap 0*IntKind.i64.wrap 0)))] hent (by simp [Tr.fl,xq,wg];rfl);rw [V8] at hnl;refine qa ?_;intros;refine qZ (q:=[FD.c (.int .i64 0),FD.c (.int .i64 (IntKind.i64.wrap (IntKind.i64.wrap 0*IntKind.i64.wrap 0)))]) O O O (qD _ hnf) ⟨O,O,_,O,O⟩ oM oM qr O ?_;refine qa ?_;intros;refine⟨m-1,oM,_,_,_,[(1,4)],?wk,k+1,ln+1,oM,hnl,O,O,O⟩
    case wk=>exact qs
   ·have h3:¬x.kind % 4=0:=by rw [hk4] at h3;have:=ne_of_beq_false h3;omega
    have hent:x.ent k=wN 0 0:=by unfold RawF.ent;rw [if_neg h3,hpa]
    obtain⟨hdat,hnl⟩:=hstep _ _ hent rfl;have hel:=aI 0 0;refine qa ?_;intros;refine x6 O O (aN (k:=0) (n:=0) qr qr) ?_;intros;refine qZ (m:=(wN 0 0).fl.length) (q:=(wN 0 0).fl.flatMap wg) O O O (qD _ hnf) ⟨O,O,O⟩ oM oM qr O ?_;refine qa ?_;intros;refine⟨m-1,oM,_,_,_,[(1,3)],?wk,k+1,ln+(wN 0 0).fl.length,oM,hnl,O,O,O⟩
    case wk=>exact qs
 ·have h1:=zK h1;have hk:k=n:=oM;subst hk;rw [<-hfl] at hln hnf;have hv:=Jk ht oM hd;rw [<-hfl];have hn2:=hx.n;by_cases h6:t.fl.length<=60
  ·rw [decide_eq_true h6] at hv;rw [if_pos h6];refine qF 1 O qo qo ?_;refine qa ?_;intros;rw [hln];refine x6 O O hv ?_;intros;refine qd (t:=false) O (fun h=>by cases h) (fun _=>?_);exact QK
  ·rw [decide_eq_false h6] at hv;rw [if_neg h6];refine qF 1 O qo qo ?_;refine qa ?_;intros;rw [hln];refine x6 O O hv ?_;intros;refine qd (t:=true) O (fun _=>?_) (fun h=>by cases h);refine qa ?_;intros;refine qf O O (aN (k:=0) (n:=x.n) qr hn2) ?_;rintro _ rfl;exact QK
theorem fP{op:Int}:∀{cs:List Tr} {j:Nat},(∀t∈cs,t.ok/\∀j:Nat,eA op j t.op=true)->y9 op j cs
 |[],_,_=>by unfold y9;trivial
 |c::cs,j,h=>by
  unfold y9;exact⟨(h c (QC ..)).2 j,(h c (QC ..)).1,fP fun t ht=>h t (Q7 _ ht)⟩
theorem FR{d:Nat}:∀{cs:List Tr},(∀t∈cs,t.dep<=d)->kh cs<=d
 |[],_=>by rw [kh];omega
 |c::cs,h=>by
  have h1:=h c (QC ..);have h2:=FR (d:=d) (cs:=cs) fun t ht=>h t (Q7 _ ht);rw [kh];omega
theorem WS{x:RawF}{n:Nat}{t:Tr}(h:t∈x.ents n):∃i,t=x.ent i:=by
 obtain⟨i,_,rfl⟩:=j6.1 h;exact⟨i,O⟩
theorem mV{x:RawF}(hx:x.ok)(i:Nat):(x.ent i).ok:=by
 have ha:=hx.at_ i;have hp:=EG ha.1 ha.2;unfold RawF.ent;split
 ·exact t8 oM
 ·exact O1 _ oM
theorem T9(x:RawF)(i:Nat):(x.ent i).dep<=4:=by
 unfold RawF.ent;split
 ·simp [Tr.dep,kh]
 ·exact FB _ _
def Xg(x:RawF):Tr:=
 if x.kind % 4=0 then .nd 12 (x.n % 4+2:Nat) (x.ents (x.n % 4+3))
 else if x.kind % 4=1 then .nd 13 (8*(x.n % 4+1)+(x.n/4 % 4+1):Nat) (x.ents ((x.n % 4+1)*(x.n/4 % 4+1)))
 else .nd 6 0 (x.ents 2)
def kL(x:RawF):Tr:=if x.kind % 4=3 then wN x.n (x.n/8) else if (Xg x).fl.length<=60 then Xg x else kG x.n
theorem NY{op n:Int}{x:RawF}{k:Nat}:(Tr.nd op n (x.ents k)).dep<=5:=by
 have:=FR (d:=4) (cs:=x.ents k) fun t ht=>by obtain⟨i,rfl⟩:=WS ht;exact T9 x i
 rw [Tr.dep];omega
theorem E4(x:RawF):(Xg x).dep<=5:=by
 unfold Xg;split
 ·exact NY
 ·split<;>exact NY
theorem gD{x:RawF}(hx:x.ok):(Xg x).ok:=by
 unfold Xg;split
 ·rename_i h0;unfold Tr.ok;refine⟨by omega,by omega,?_,by rw [XE];omega,fP fun t ht=>?_⟩
  ·rw [XE];unfold Zk;rw [if_neg (by decide),if_neg (by decide),if_neg (by decide),if_neg (by decide),if_pos rfl,if_neg (by omega)];simp;omega
  ·obtain⟨i,rfl⟩:=WS ht;refine⟨mV hx i,fun j=>?_⟩;unfold RawF.ent;rw [if_pos h0];rfl
 ·split
  ·have h1:x.n % 4<4:=kp _ qr;have h2:x.n/4 % 4<4:=kp _ qr;generalize x.n % 4=r at *;generalize x.n/4 % 4=c at *;have hle:(r+1)*(c+1)<=4*4:=DS oM oM;unfold Tr.ok;refine⟨by omega,by omega,?_,by rw [XE];omega,fP fun t ht=>?_⟩
   ·rw [XE];unfold Zk;rw [if_neg (by decide),if_neg (by decide),if_neg (by decide),if_neg (by decide),if_neg (by decide),if_pos rfl,if_neg (by omega)];rw [show ((8*(r+1)+(c+1):Nat):Int)/8=((r+1:Nat):Int) by omega,show ((8*(r+1)+(c+1):Nat):Int) % 8=((c+1:Nat):Int) by omega,decide_eq_true (by omega),decide_eq_true (by omega),decide_eq_true (by omega),decide_eq_true (by omega),<-L5];rfl
   ·obtain⟨i,rfl⟩:=WS ht;exact⟨mV hx i,fun j=>O⟩
  ·unfold Tr.ok;refine⟨by omega,by omega,?_,by rw [XE];omega,fP fun t ht=>?_⟩
   ·rw [XE];rfl
   ·obtain⟨i,rfl⟩:=WS ht;exact⟨mV hx i,fun j=>O⟩
theorem T3{x:RawF}(hx:x.ok):(kL x).ok/\(kL x).dep<=8/\(kL x).fl.length<=60:=by
 have hn:=hx.n;unfold kL;split
 ·have h1:=FB x.n (x.n/8);have h2:=aI x.n (x.n/8);have:x.n/8<=x.n:=L6 _ _;exact⟨O1 _ oM,oM,oM⟩
 ·split
  ·rename_i h;have:=E4 x;exact⟨gD hx,oM,h⟩
  ·exact⟨t8 (by omega),by simp [Tr.dep,kh],by rw [V8];omega⟩
theorem Lm{n q:Nat}(hn:n<256):IntKind.u8.wrap ((n:Int).tdiv (q:Int))=((n/q:Nat):Int):=by
 rw [<-Int.ofNat_tdiv];have:n/q<=n:=L6 _ _;generalize n/q=z at *;simp [IntKind.wrap,IntKind.signed,IntKind.bits];omega
theorem Hn{x:RawF}(hx:x.ok):DK 61 [.agg ((Dc x).map .f)] fun r=>r=xD (kL x).fl:=by
 have hn:=hx.n;have hkm:(x.kind:Int).tmod 4=((x.kind % 4:Nat):Int):=(JK x.kind 4).symm;have hnm:(x.n:Int).tmod 4=((x.n % 4:Nat):Int):=(JK x.n 4).symm;have hn4:x.n % 4<4:=kp _ qr;have hw4:IntKind.i64.wrap ((x.n:Int).tmod 4)=((x.n % 4:Nat):Int):=by rw [hnm];exact qm (by omega) (by omega)
 have hd5:=E4 x;have ec:x.kind % 4=0\/x.kind % 4=1\/x.kind % 4=2\/x.kind % 4=3:=oM;rcases ec with e|e|e|e
 ·rw [e] at hkm;have hm:kL x=if (Xg x).fl.length<=60 then Xg x else kG x.n:=by unfold kL;rw [if_neg (by omega)]
  have ht:Xg x=.nd 12 (x.n % 4+2:Nat) (x.ents (x.n % 4+3)):=by unfold Xg;rw [if_pos e]
  rw [hm];refine je XV O ko fun Z0 lo=>?_;refine qa ?_;intros;simp only [hkm];refine qa ?_;intros;refine qd (t:=true) O (fun _=>?_) (fun h=>by cases h);refine qa ?_;intros;have hN:IntKind.i64.wrap (3+IntKind.i64.wrap ((x.n:Int).tmod 4))=((x.n % 4+3:Nat):Int):=by rw [hw4,qm (by omega) (by omega)];omega
  have hW:IntKind.i64.wrap (IntKind.i64.wrap (3+IntKind.i64.wrap ((x.n:Int).tmod 4))-1)=((x.n % 4+2:Nat):Int):=by rw [hN,qm (by omega) (by omega)];omega
  refine W6 [(1,2)] ?wk (lW hx (root:=(12,IntKind.i64.wrap (IntKind.i64.wrap (3+IntKind.i64.wrap ((x.n:Int).tmod 4))-1))) (n:=x.n % 4+3) (by omega) (gD hx) (by omega) (by rw [ht,Tr.fl,hW]))
  case wk=>exact⟨by repeat (first|exact trivial|refine⟨by first|rfl|exact congrArg (fun z=>some (DV.int z)) hN,rfl,?_⟩),by repeat (first|exact trivial|refine⟨by rfl,rfl,rfl,?_⟩),rfl,rfl⟩
 ·rw [e] at hkm;have hm:kL x=if (Xg x).fl.length<=60 then Xg x else kG x.n:=by unfold kL;rw [if_neg (by omega)]
  have ht:Xg x=.nd 13 (8*(x.n % 4+1)+(x.n/4 % 4+1):Nat) (x.ents ((x.n % 4+1)*(x.n/4 % 4+1))):=by unfold Xg;rw [if_neg (by omega),if_pos e]
  rw [hm];refine je XV O ko fun Z0 lo=>?_;refine qa ?_;intros;simp only [hkm];refine qa ?_;intros;refine qd (t:=false) O (fun h=>by cases h) (fun _=>?_);refine qa ?_;intros;refine qd (t:=true) O (fun _=>?_) (fun h=>by cases h);refine qa ?_;intros;have hc4:x.n/4 % 4<4:=kp _ qr;have hu:IntKind.u8.wrap ((x.n:Int).tdiv 4)=((x.n/4:Nat):Int):=Lm hn;have hA:IntKind.i64.wrap (1+IntKind.i64.wrap ((x.n:Int).tmod 4))=((x.n % 4+1:Nat):Int):=by rw [hw4,qm (by omega) (by omega)];omega
  have hC:IntKind.i64.wrap (1+IntKind.i64.wrap ((IntKind.u8.wrap ((x.n:Int).tdiv 4)).tmod 4))=((x.n/4 % 4+1:Nat):Int):=by
   rw [hu,show ((x.n/4:Nat):Int).tmod 4=((x.n/4 % 4:Nat):Int) from (JK _ 4).symm,qm (n:=((x.n/4 % 4:Nat):Int)) (by omega) (by omega),qm (by omega) (by omega)];omega
  have hle:(x.n % 4+1)*(x.n/4 % 4+1)<=4*4:=DS oM oM;have hN:IntKind.i64.wrap (IntKind.i64.wrap (1+IntKind.i64.wrap ((x.n:Int).tmod 4))*IntKind.i64.wrap (1+IntKind.i64.wrap ((IntKind.u8.wrap ((x.n:Int).tdiv 4)).tmod 4)))=(((x.n % 4+1)*(x.n/4 % 4+1):Nat):Int):=by
   rw [hA,hC,<-L5];exact qm oM oM
  have hW:IntKind.i64.wrap (IntKind.i64.wrap (8*IntKind.i64.wrap (1+IntKind.i64.wrap ((x.n:Int).tmod 4)))+IntKind.i64.wrap (1+IntKind.i64.wrap ((IntKind.u8.wrap ((x.n:Int).tdiv 4)).tmod 4)))=((8*(x.n % 4+1)+(x.n/4 % 4+1):Nat):Int):=by
   rw [hA,hC,qm (n:=8*((x.n % 4+1:Nat):Int)) (by omega) (by omega),qm (by omega) (by omega)];omega
  refine W6 [(1,2)] ?wk (lW hx (root:=(13,IntKind.i64.wrap (IntKind.i64.wrap (8*IntKind.i64.wrap (1+IntKind.i64.wrap ((x.n:Int).tmod 4)))+IntKind.i64.wrap (1+IntKind.i64.wrap ((IntKind.u8.wrap ((x.n:Int).tdiv 4)).tmod 4))))) (n:=(x.n % 4+1)*(x.n/4 % 4+1)) (by omega) (gD hx) (by omega) (by rw [ht,Tr.fl,hW]))
  case wk=>exact⟨by repeat (first|exact trivial|refine⟨by first|rfl|exact congrArg (fun z=>some (DV.int z)) hN,rfl,?_⟩),by repeat (first|exact trivial|refine⟨by rfl,rfl,rfl,?_⟩),rfl,rfl⟩
 ·rw [e] at hkm;have hm:kL x=if (Xg x).fl.length<=60 then Xg x else kG x.n:=by unfold kL;rw [if_neg (by omega)]
  have ht:Xg x=.nd 6 0 (x.ents 2):=by unfold Xg;rw [if_neg (by omega),if_neg (by omega)]
  rw [hm];refine je XV O ko fun Z0 lo=>?_;refine qa ?_;intros;simp only [hkm];refine qa ?_;intros;refine qd (t:=false) O (fun h=>by cases h) (fun _=>?_);refine qa ?_;intros;refine qd (t:=false) O (fun h=>by cases h) (fun _=>?_);refine qa ?_;intros;refine qd (t:=false) O (fun h=>by cases h) (fun _=>?_);refine qa ?_;intros;refine W6 [] ?wk (lW hx (root:=(6,0)) (n:=2) (by omega) (gD hx) (by omega) (by rw [ht,Tr.fl]))
  case wk=>exact⟨by repeat (first|exact trivial|refine⟨by rfl,rfl,?_⟩),by repeat (first|exact trivial|refine⟨by rfl,rfl,rfl,?_⟩),rfl,rfl⟩
 ·rw [e] at hkm;have hm:kL x=wN x.n (x.n/8):=by unfold kL;rw [if_pos e]
  have hdl:x.n/8<=x.n:=L6 _ _;have hen:=aN (k:=x.n) (n:=x.n/8) hn oM;rw [hm];refine je XV O ko fun Z0 lo=>?_;refine qa ?_;intros;simp only [hkm];refine qa ?_;intros;refine qd (t:=false) O (fun h=>by cases h) (fun _=>?_);refine qa ?_;intros;refine qd (t:=false) O (fun h=>by cases h) (fun _=>?_);refine qa ?_;intros;refine qd (t:=true) O (fun _=>?_) (fun h=>by cases h);refine qa ?_;intros;rw [show IntKind.u8.wrap ((x.n:Int).tdiv 8)=((x.n/8:Nat):Int) from Lm hn];refine qf O O hen ?_;rintro _ rfl;exact QK
inductive MB where
 |text (note:Bool) (s:ByteArray)
 |head (lv:Nat) (s:ByteArray)
 |tab (rows:List (List ByteArray))
 |math (t:Tr)
 |map (p:Pic)
 |ink (page:Nat)
def MB.blk:MB->Blk
 |.text note s=>⟨if note then 4 else 1,0,s,[],[],0,0,0,0,[],0⟩
 |.head lv s=>⟨2,lv,s,[],[],0,0,0,0,[],0⟩
 |.tab rows=>⟨3,0,⟨#[]⟩,rows,[],0,0,0,0,[],0⟩
 |.math t=>⟨5,0,⟨#[]⟩,[],t.fl,0,0,0,0,[],0⟩
 |.map p=>⟨6,0,⟨#[]⟩,[],[],p.w,p.h,p.gap,p.fs.length,p.fs.flatMap ZA,0⟩
 |.ink page=>⟨7,0,⟨#[]⟩,[],[],0,0,0,0,[],page⟩
def MB.good:MB->Prop
 |.text _ s=>Gd 12 s
 |.head lv s=>1<=lv/\lv<=3/\Gd 12 s
 |.tab rows=>1<=rows.length/\rows.length<=3/\∃c,1<=c/\c<=3/\∀r∈rows,r.length=c/\∀s∈r,Gd 4 s
 |.math t=>t.ok/\t.dep<=8/\t.fl.length<=60
 |.map p=>VZ p/\Tu p/\Eb p
 |.ink page=>1<=page/\page<=256
theorem Qw{w h g:Int}{n:Nat}{ff:List FD}:DK 64 [.agg [.f (FD.int w),.f (FD.int h),.f (FD.int g),.f (.sl 3 n ff)]] fun d=>∃v:Bool,d=.bool v:=by
 refine yQ ?_;intros;exact qb ⟨_,O,O,_,O⟩
theorem P1{rows:List (List ByteArray)}(h:(MB.tab rows).good):DK 66 [.one (.f (YW rows))] fun d=>∃v:Bool,d=.bool v:=by
 obtain⟨h1,h2,c,h3,h4,h5⟩:=h;obtain⟨r0,hr0⟩:∃r,rows[0]?=some r:=⟨_,zge oM⟩;have hs0:=EA hr0;have hl0:=(h5 r0 (zmg hr0)).1;have e7:decide ((rows.length:Int)<1)=false:=decide_eq_false oM;have e11:decide ((rows.length:Int)>6)=false:=decide_eq_false oM;refine yQ ?_;intros;simp only [e7];refine qa ?_;intros;refine qd (t:=false) (congrArg (fun z=>some (DV.bool z)) e11) (fun h=>by cases h) (fun _=>?_);refine qa ?_;intros;refine qu (fun m E S nk=>∃i:Nat,i+m=rows.length/\E=[(0,.one (.f (YW rows))),(3,.int i)]/\S=[]/\nk=0)
  ⟨rows.length,_,_,_,[],?wk,0,oM,rfl,rfl,rfl⟩ ?_
 case wk=>exact qs
 rintro m E S nk ⟨i,him,rfl,rfl,rfl⟩;refine qa ?_;intros;refine qd O (fun hi=>?_) (fun hi=>?_)
 ·have hi:=xo hi;obtain⟨r,hr⟩:∃r,rows[i]?=some r:=⟨_,zge oM⟩;have hsr:=EA hr;have hg:=h5 r (zmg hr);have hlr:=hg.1;have e28:((r.length:Int)!=r0.length)=false:=by rw [hlr,hl0];simp
  have e35:decide ((r.length:Int)<1)=false:=decide_eq_false oM;have e43:decide ((r.length:Int)>4)=false:=decide_eq_false oM;refine qa ?_;intros;simp only [e28];refine qa ?_;intros;simp only [e35];refine qa ?_;intros;refine qd (t:=false) (congrArg (fun z=>some (DV.bool z)) e43) (fun h=>by cases h) (fun _=>?_);refine qa ?_;intros;refine qu (fun m E S nk=>∃k:Nat,k+m=r.length/\E=[(0,.one (.f (YW rows))),(3,.int i),(4,.int k)]/\S=[]/\nk=0)
   ⟨r.length,_,_,_,[],?wk,0,oM,rfl,rfl,rfl⟩ ?_
  case wk=>exact qs
  rintro m2 E S nk ⟨k,hkm,rfl,rfl,rfl⟩;refine qa ?_;intros;refine qd O (fun hk=>?_) (fun hk=>?_)
  ·have hk:=xo hk;obtain⟨s,hs⟩:∃s,r[k]?=some s:=⟨_,zge oM⟩;have hss:=Ep hs;have hgd:=hg.2 s (zmg hs);have hle:=hgd.le;have e72:decide ((s.size:Int)>40)=false:=decide_eq_false oM;refine qa ?_;intros;refine x6 O O (Kc hgd oM) ?_;intros;refine qd (t:=false) (congrArg (fun z=>some (DV.bool z)) e72) (fun h=>by cases h) (fun _=>?_);refine qa ?_;intros;refine⟨m2-1,oM,_,_,_,[],?wk,k+1,oM,O,O,O⟩
   case wk=>exact qs
  ·refine qa ?_;intros;refine⟨m-1,oM,_,_,_,[],?wk,i+1,oM,O,O,O⟩
   case wk=>exact qs
 ·refine qa ?_;intros;exact qb ⟨_,O,O,true,O⟩
def RH(R:Blk->Bool):Int->Int->Nat->List Blk->Int × Int
 |_,_,_,[]=>(0,0)
 |prev,page,i,b::l=>
  if R b=false then (i,170)
  else if b.kind=4/\(i=0\/prev≠1/\prev≠4) then (i,170)
  else if b.kind=7/\b.page<=page then (i,170)
  else RH R b.kind (if b.kind=7 then b.page else page) (i+1) l
theorem VU{l:List Blk}{i:Nat}{b:Blk}(h:l[i]?=some b):xd (l.flatMap VV) (i*10) 10=some (VV b):=zp (f:=VV) (e:=10) (fun _=>rfl) h
def Zo(l:List Blk)(i:Nat):Prop:=∀b,l[i]?=some b->(b.kind=4->∃q,0<i/\l[i-1]?=some q/\(q.kind=1\/q.kind=4))/\(b.kind=7->∀k q,k<i->l[k]?=some q->q.kind=7->q.page<b.page)
theorem Fe{l:List Blk}{i:Nat}{b:Blk}(hb:l[i]?=some b)(h:b.kind≠4/\b.kind≠7):Zo l i:=fun b' hb'=>by
 rw [hb] at hb';obtain rfl:=zsi hb';exact⟨fun e=>absurd e h.1,fun e=>absurd e h.2⟩
theorem iV{l:List Blk}{i:Nat}{m:MB}(hl:l.length<1000)(hm:m.good)(hb:l[i]?=some m.blk)(hk:m.blk.kind≠4/\m.blk.kind≠7):DK 35 [lC l,.int i] fun d=>∃v:Bool,d=.bool v/\(v=true->Zo l i):=by
 have hil:i<l.length:=(zgs hb).1;have hsb:=VU hb;have hok:=Fe hb hk
 match m,hm,hsb,hk with
 |.text true s,hm,hsb,hk=>exact absurd O hk.1
 |.ink page,hm,hsb,hk=>exact absurd O hk.2
 |.text false s,hm,hsb,hk=>
  refine vL fun Z0 lo=>?_;refine qa ?_;intros;refine qf O O Qw ?_;rintro _ ⟨v1,rfl⟩;refine qa ?_;intros
  repeat (first|(refine qd (t:=false) O (fun h=>by cases h) (fun _=>?_);refine qa ?_;intros)|(refine qd (t:=true) O (fun _=>?_) (fun h=>by cases h);refine qa ?_;intros))
  refine x6 O O (Kc hm oM) ?_;intros;exact qb ⟨_,O,O,_,O,fun _=>hok⟩
 |.head lv s,hm,hsb,hk=>
  refine vL fun Z0 lo=>?_;refine qa ?_;intros;refine qf O O Qw ?_;rintro _ ⟨v1,rfl⟩;refine qa ?_;intros
  repeat (first|(refine qd (t:=false) O (fun h=>by cases h) (fun _=>?_);refine qa ?_;intros)|(refine qd (t:=true) O (fun _=>?_) (fun h=>by cases h);refine qa ?_;intros))
  refine x6 O O (Kc hm.2.2 oM) ?_;intros;exact qb ⟨_,O,O,_,O,fun _=>hok⟩
 |.tab rows,hm,hsb,hk=>
  refine vL fun Z0 lo=>?_;refine qa ?_;intros;refine qf O O Qw ?_;rintro _ ⟨v1,rfl⟩;refine qa ?_;intros
  repeat (first|(refine qd (t:=false) O (fun h=>by cases h) (fun _=>?_);refine qa ?_;intros)|(refine qd (t:=true) O (fun _=>?_) (fun h=>by cases h);refine qa ?_;intros))
  refine qf O O (P1 hm) ?_;rintro _ ⟨v2,rfl⟩;refine qa ?_;intros;exact qb ⟨_,O,O,_,O,fun _=>hok⟩
 |.math t,hm,hsb,hk=>
  refine vL fun Z0 lo=>?_;refine qa ?_;intros;refine qf O O Qw ?_;rintro _ ⟨v1,rfl⟩;refine qa ?_;intros
  repeat (first|(refine qd (t:=false) O (fun h=>by cases h) (fun _=>?_);refine qa ?_;intros)|(refine qd (t:=true) O (fun _=>?_) (fun h=>by cases h);refine qa ?_;intros))
  refine x6 O O (Jk hm.1 (by have:=hm.2.2;omega) hm.2.1) ?_;intros;exact qb ⟨_,O,O,_,O,fun _=>hok⟩
 |.map p,hm,hsb,hk=>
  refine yQ ?_;intros;refine qf O O Qw ?_;rintro _ ⟨v1,rfl⟩;refine qa ?_;intros
  repeat (first|(refine qd (t:=false) O (fun h=>by cases h) (fun _=>?_);refine qa ?_;intros)|(refine qd (t:=true) O (fun _=>?_) (fun h=>by cases h);refine qa ?_;intros))
  refine qf O O (BN hm.1) ?_;rintro _ ⟨v2,rfl,_⟩;refine qa ?_;intros;exact qb ⟨_,O,O,_,O,fun _=>hok⟩
theorem Si{l:List Blk}{i:Nat}{s:ByteArray}(hl:l.length<1000)(hm:Gd 12 s)(hb:l[i]?=some (MB.text true s).blk):DK 35 [lC l,.int i] fun d=>∃v:Bool,d=.bool v/\(v=true->Zo l i):=by
 have hil:i<l.length:=(zgs hb).1;have hsb:=VU hb;have hcl:=Kc hm oM;have hfin (h:∃q,0<i/\l[i-1]?=some q/\(q.kind=1\/q.kind=4)):Zo l i:=fun b' hb'=>by
  rw [hb] at hb';obtain rfl:=zsi hb';exact⟨fun _=>h,fun e=>by cases e⟩
 cases i with
 |zero=>
  have e69:decide (((0:Nat):Int)>0)=false:=rfl;refine vL fun Z0 lo=>?_;refine qa ?_;intros;refine qf O O Qw ?_;rintro _ ⟨v1,rfl⟩;refine qa ?_;intros
  repeat (first|(refine qd (t:=false) O (fun h=>by cases h) (fun _=>?_);refine qa ?_;intros)|(refine qd (t:=true) O (fun _=>?_) (fun h=>by cases h);refine qa ?_;intros))
  refine x6 O O hcl ?_;intros;exact qb ⟨_,O,O,_,O,fun h=>by cases h⟩
 |succ j=>
  obtain⟨q,hq⟩:∃q,l[j]?=some q:=⟨_,zge oM⟩;have hsq:=VU hq;have e69:decide (((j+1:Nat):Int)>0)=true:=decide_eq_true oM;have hwj:IntKind.i64.wrap (((j+1:Nat):Int)-1)=((j:Nat):Int):=by rw [qm (by omega) (by omega)];omega
  refine yQ ?_;intros;refine qf O O Qw ?_;rintro _ ⟨v1,rfl⟩;refine qa ?_;intros
  repeat (first|(refine qd (t:=false) O (fun h=>by cases h) (fun _=>?_);refine qa ?_;intros)|(refine qd (t:=true) O (fun _=>?_) (fun h=>by cases h);refine qa ?_;intros))
  refine x6 O O hcl ?_;intros;simp only [e69];refine qa ?_;intros;rw [hwj];refine qa ?_;intros;cases e78:(q.kind==1) with
  |true=>
   have hok:=hfin ⟨q,by omega,by rw [bB];exact hq,.inl (by simpa using e78)⟩
   try simp only [e78]
   refine qa ?_;intros;exact qb ⟨_,O,O,_,O,fun _=>hok⟩
  |false=>
   cases e86:(q.kind==4) with
   |true=>
    have hok:=hfin ⟨q,by omega,by rw [bB];exact hq,.inr (by simpa using e86)⟩
    try simp only [e78]
    refine qa ?_;intros;rw [hwj];refine qa ?_;intros;exact qb ⟨_,O,O,_,O,fun _=>hok⟩
   |false=>
    try simp only [e78]
    refine qa ?_;intros;rw [hwj];refine qa ?_;intros
    try simp only [e86]
    refine qa ?_;intros;exact qb ⟨_,O,O,_,O,fun h=>by cases h⟩
theorem Sg{l:List Blk}{i:Nat}{page:Nat}(hl:l.length<1000)(hm:(MB.ink page).good)(hb:l[i]?=some (MB.ink page).blk):DK 35 [lC l,.int i] fun d=>∃v:Bool,d=.bool v/\(v=true->Zo l i):=by
 have hil:i<l.length:=(zgs hb).1;have hsb:=VU hb;have e103:decide ((page:Int)>=1)=true:=decide_eq_true (by have:=hm.1;omega);have e107:decide ((page:Int)<=9999)=true:=decide_eq_true (by have:=hm.2;omega);have hfin (h:∀k q,k<i->l[k]?=some q->q.kind=7->q.page<page):Zo l i:=fun b' hb'=>by
  rw [hb] at hb';obtain rfl:=zsi hb';exact⟨fun e=>(by cases e),fun _=>h⟩
 refine yQ ?_;intros;refine qf O O Qw ?_;rintro _ ⟨v1,rfl⟩;refine qa ?_;intros
 repeat (first|(refine qd (t:=false) O (fun h=>by cases h) (fun _=>?_);refine qa ?_;intros)|(refine qd (t:=true) O (fun _=>?_) (fun h=>by cases h);refine qa ?_;intros))
 refine qu (fun m E S nk=>∃(k:Nat) (fl b6 b7 b8 b9:Bool),k+m=i/\(fl=true->∀k' q,k'<k->l[k']?=some q->q.kind=7->q.page<page)/\E=[(0,lC l),(1,.int i),(5,.one (.ptr 0 0)),(6,.bool b6),(7,.bool b7),(8,.bool b8),(9,.bool b9),(10,.bool v1),(11,.bool fl),(12,.int k)]/\S=[(0,.cells ((VV (MB.ink page).blk).map .f))]/\nk=1)
  ⟨i,_,_,_,[],?wk,0,?fl,?b6,?b7,?b8,?b9,oM,fun _ k' q h=>absurd h (eL _),O,O,O⟩ ?_
 case wk=>exact qs
 rintro m E S nk ⟨k,fl,b6,b7,b8,b9,hkm,hfl,rfl,rfl,rfl⟩;refine qa ?_;intros;refine qd rfl (fun h1=>?_) (fun h1=>?_)
 ·have h1:=xo h1;obtain⟨q,hq⟩:∃q,l[k]?=some q:=⟨_,zge oM⟩;have hsq:=VU hq;cases fl with
  |false=>
   refine qa ?_;intros;refine⟨m-1,oM,_,_,_,[],?wk,k+1,false,b6,b7,b8,b9,oM,fun h=>(by cases h),rfl,rfl,rfl⟩
   case wk=>exact qs
  |true=>
   have hfl:=hfl rfl;cases e121:(q.kind !=7) with
   |true=>
    have h7:q.kind≠7:=by simpa using e121
    refine qa ?_;intros
    try simp only [e121]
    refine qa ?_;intros;refine⟨m-1,oM,_,_,_,[],?wk,k+1,true,b6,b7,b8,b9,oM,fun _ k' q' hk' hq' h=>?_,rfl,rfl,rfl⟩
    case wk=>exact qs
    by_cases e:k'=k
    ·rw [e,hq] at hq';obtain rfl:=zsi hq';exact absurd h h7
    ·exact hfl k' q' oM hq' h
   |false=>
    refine qa ?_;intros
    try simp only [e121]
    refine qa ?_;intros;refine⟨m-1,oM,_,_,_,[],?wk,k+1,decide (q.page<page),b6,b7,b8,b9,oM,fun hp k' q' hk' hq' h=>?_,rfl,rfl,rfl⟩
    case wk=>exact qs
    by_cases e:k'=k
    ·rw [e,hq] at hq';obtain rfl:=zsi hq';exact xo hp
    ·exact hfl k' q' oM hq' h
 ·have h1:=zK h1;have hki:k=i:=oM;subst hki;refine qa ?_;intros;refine qb ⟨_,rfl,rfl,_,rfl,fun hv=>?_⟩;cases fl with
  |false=>
   refine absurd hv ?_;cases b6<;>cases b7<;>cases b8<;>cases b9<;>cases v1<;>simp
  |true=>exact hfin (hfl rfl)
theorem Uk{l:List Blk}{i:Nat}{m:MB}(hl:l.length<1000)(hm:m.good)(hb:l[i]?=some m.blk):DK 35 [lC l,.int i] fun d=>∃v:Bool,d=.bool v/\(v=true->Zo l i):=by
 match m,hm,hb with
 |.text true s,hm,hb=>exact Si hl hm hb
 |.ink page,hm,hb=>exact Sg hl hm hb
 |.text false s,hm,hb=>exact iV hl (m:=.text false s) hm hb ⟨(by decide:(1:Int)≠4),(by decide:(1:Int)≠7)⟩
 |.head lv s,hm,hb=>exact iV hl (m:=.head lv s) hm hb ⟨(by decide:(2:Int)≠4),(by decide:(2:Int)≠7)⟩
 |.tab rows,hm,hb=>exact iV hl (m:=.tab rows) hm hb ⟨(by decide:(3:Int)≠4),(by decide:(3:Int)≠7)⟩
 |.math t,hm,hb=>exact iV hl (m:=.math t) hm hb ⟨(by decide:(5:Int)≠4),(by decide:(5:Int)≠7)⟩
 |.map p,hm,hb=>exact iV hl (m:=.map p) hm hb ⟨(by decide:(6:Int)≠4),(by decide:(6:Int)≠7)⟩
end Go.Ai
