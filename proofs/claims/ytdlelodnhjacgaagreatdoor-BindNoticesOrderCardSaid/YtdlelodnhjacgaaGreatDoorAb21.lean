/- -/
import Derived.Test.YtdlelodnhjacgaaGreatDoorAb17
set_option linter.unusedSimpArgs false
set_option linter.unusedVariables false
set_option maxRecDepth 8000
set_option maxHeartbeats 16000000
namespace Go.Ai
open Go.Ab Go.Proofs
abbrev rW(op n:Int):DV:=.agg [.f (.c (.int .i64 op)),.f (.c (.int .i64 n))]
def Zk(op n:Int):Int × Bool:=
 if op=0 then (0,decide (0<=n)&&decide (n<=99999))
 else if op=1 then (0,decide (0<=n)&&decide (n<=25))
 else if 2<=op/\op<=8 then (2,decide (n=0))
 else if 9<=op/\op<=11 then (1,decide (n=0))
 else if op=12 then (if n<2\/5<n then (0,false) else (n+1,true))
 else if op=13 then (if n<0 then (0,false) else (n/8*(n % 8),decide (1<=n/8)&&decide (n/8<=4)&&decide (1<=n % 8)&&decide (n % 8<=4)))
 else (0,false)
def V4(op:Int):Int:=if op=5 then 1 else if op=2\/op=3 then 2 else if op=4 then 3 else 4
def eA(op k c:Int):Bool:=
 if 2<=op/\op<=5 then (if k=0 then decide (V4 c>=V4 op) else decide (V4 c>V4 op))
 else if op=12 then decide (c=0) else true
abbrev xD(f:List (Int × Int)):DV:=.one (.f (gC f))
theorem Qm{f:List (Int × Int)}{i:Nat}{x:Int × Int}(h:f[i]?=some x):xd (f.flatMap wg) (i*2) 2=some (wg x):=zp (f:=wg) (e:=2) (fun _=>rfl) h
inductive Tr where
 |nd (op n:Int) (cs:List Tr)
def Tr.op:Tr->Int
 |.nd op _ _=>op
mutual
def Tr.fl:Tr->List (Int × Int)
 |.nd op n cs=>(op,n)::xq cs
def xq:List Tr->List (Int × Int)
 |[]=>[]
 |t::r=>t.fl++xq r
end
mutual
def Tr.dep:Tr->Nat
 |.nd _ _ cs=>kh cs+1
def kh:List Tr->Nat
 |[]=>0
 |t::r=>max t.dep (kh r)
end
mutual
def Tr.ok:Tr->Prop
 |.nd op n cs=>(0<=op/\op<=13)/\(0<=n/\n<=1000000)/\Zk op n=((cs.length:Int),true)/\cs.length<100/\y9 op 0 cs
def y9:Int->Nat->List Tr->Prop
 |_,_,[]=>True
 |op,j,t::r=>eA op j t.op=true/\t.ok/\y9 op (j+1) r
end
theorem Tr.ok_op:∀{t:Tr},t.ok->0<=t.op/\t.op<=13
 |.nd _ _ _,h=>by unfold Tr.ok at h;exact h.1
theorem wZ{α:Type}{f:List α}{i:Nat}{x:α}{r:List α}(h:f.drop i=x::r):f[i]?=some x/\f.drop (i+1)=r:=by
 refine⟨?_,?_⟩
 ·have:=congrArg (fun l=>l[0]?) h;simpa using this
 ·have:=congrArg List.tail h;simpa using this
theorem XG{α:Type}{f:List α}{i:Nat}{a r:List α}(h:f.drop i=a++r):f.drop (i+a.length)=r:=by
 have:=congrArg (List.drop a.length) h;rw [DR,List.drop_left] at this;exact this
theorem Tr.root:∀{t:Tr} {f:List (Int × Int)} {i:Nat} {r:List (Int × Int)},f.drop i=t.fl++r->∃n,f[i]?=some (t.op,n)
 |.nd op n cs,f,i,r,h=>by
  unfold Tr.fl at h;exact⟨n,(wZ h).1⟩
theorem Tr.fl_ne:∀t:Tr,t.fl≠[]
 |.nd _ _ _=>by unfold Tr.fl;simp
def HE(op n:Int):Int:=if (Zk op n).2=true then (Zk op n).1 else -1
theorem Px:((List.range 13).all fun o=>(List.range 40).all fun n=>match Wc tabS 100 155 [.agg [.int .i64 (o+1:Nat),.int .i64 n]] HS with
 |some (.one (.int .i64 c))=>decide (c=HE (o+1:Nat) n)
 |_=>false)=true:=by kernel_rfl
theorem Pw:((List.range 14).all fun n=>match Wc tabS 100 167 [.one (.int .i64 n)] HS with
 |some (.one (.int .i64 c))=>decide (c=V4 n)
 |_=>false)=true:=by kernel_rfl
theorem m8{op:Int}(h:0<=op/\op<=13):DK 167 [.int op] fun d=>d=.int (V4 op):=by
 obtain⟨n,rfl⟩:=sQ h.1;have h1:=wA.1 Pw n (jF.2 oM);split at h1
 ·rename_i c hc;have:=xo h1;subst this;exact Ji (vs:=[.one (.int .i64 n)]) ⟨O,trivial⟩ O O hc
 ·cases h1
theorem Om{o n:Nat}(ho:o<13)(hn:n<40):DK 155 [rW (o+1:Nat) n] fun d=>d=.int (HE (o+1:Nat) n):=by
 have h1:=wA.1 (wA.1 Px o (jF.2 ho)) n (jF.2 hn);split at h1
 ·rename_i c hc;have:=xo h1;subst this;exact Ji (vs:=[.agg [.int .i64 (o+1:Nat),.int .i64 n]]) ⟨O,trivial⟩ O O hc
 ·cases h1
theorem On{n:Int}(hn:0<=n/\n<=99999):DK 155 [rW 0 n] fun d=>d=.int 0:=by
 refine vL fun Z0 lo=>?_;have e1:decide (n>=0)=true:=decide_eq_true hn.1;have e2:decide (n<=99999)=true:=decide_eq_true hn.2;refine qa ?_;intros
 repeat (first|(refine qd (t:=false) O (fun h=>by cases h) (fun _=>?_);refine qa ?_;intros)|(refine qd (t:=true) O (fun _=>?_) (fun h=>by cases h);refine qa ?_;intros))
 refine qd (t:=true) ?hc (fun _=>?_) (fun h=>by cases h)
 case hc=>
  refine congrArg (fun z=>some (DV.bool z)) ?_;simp [e1,e2]
 exact QK
theorem Bp{op n:Int}{k:Nat}(ho:0<=op/\op<=13)(hn:0<=n/\n<=1000000)(h:Zk op n=((k:Int),true)):(op=0/\k=0/\n<=99999)\/(1<=op/\n<40):=by
 unfold Zk at h;by_cases h0:op=0
 ·rw [if_pos h0] at h;simp at h;exact .inl ⟨h0,oM,h.2.2⟩
 ·rw [if_neg h0] at h;refine .inr ⟨oM,?_⟩;split at h
  ·simp at h;omega
  ·split at h
   ·simp at h;omega
   ·split at h
    ·simp at h;omega
    ·split at h
     ·split at h
      ·simp at h
      ·omega
     ·split at h
      ·split at h
       ·simp at h
       ·simp at h;omega
      ·simp at h
theorem Dq{op n:Int}{k:Nat}(ho:0<=op/\op<=13)(hn:0<=n/\n<=1000000)(h:Zk op n=((k:Int),true)):DK 155 [rW op n] fun d=>d=.int k:=by
 rcases Bp ho hn h with⟨rfl,rfl,h3⟩|⟨h1,h2⟩
 ·exact On ⟨hn.1,h3⟩
 ·obtain⟨o,rfl⟩:∃o:Nat,op=((o+1:Nat):Int):=⟨(op-1).toNat,oM⟩;obtain⟨m,rfl⟩:=sQ hn.1;have:=Om (o:=o) (n:=m) oM oM
  rwa [show HE ((o+1:Nat):Int) (m:Int)=k by unfold HE;rw [h];rfl] at this
def Xf(st:List Tr):Prop:=∀t∈st,t.ok
theorem Y3:∀{cs:List Tr} {op:Int} {j:Nat},y9 op j cs->Xf cs
 |[],_,_,_=>fun t h=>by cases h
 |c::cs,op,j,h=>fun t ht=>by
  unfold y9 at h;rcases zd.1 ht with rfl|ht
  ·exact h.2.1
  ·exact Y3 h.2.2 t ht
theorem Qs:∀a b:List Tr,xq (a++b)=xq a++xq b
 |[],b=>by simp [xq]
 |t::a,b=>by rw [vz,xq,xq,Qs a b,j5]
theorem lX:∀st:List Tr,st.length<=(xq st).length
 |[]=>by simp
 |t::r=>by
  have:=lX r;have h:=List.length_pos_iff.2 t.fl_ne;rw [xq,qE,xA];omega
theorem IY{f:List (Int × Int)}(hf:f.length<1000){t:Tr}(ht:t.ok){i:Nat}{rest:List (Int × Int)}(e:f.drop i=t.fl++rest):DK 111 [xD f,.int i] fun r=>r=.int (i+t.fl.length:Nat):=by
 refine yQ ?_;intros;refine qu (fun m E S nk=>∃(st:List Tr) (at_:Nat),(xq st).length=m/\Xf st/\f.drop at_=xq st++rest/\at_+(xq st).length=i+t.fl.length/\E=[(0,xD f),(1,.int at_),(5,.int st.length)]/\S=[]/\nk=0)
  ⟨_,_,_,_,[],?wk,[t],i,rfl,fun x hx=>by rw [xM.1 hx];exact ht,by rw [e];simp [xq],by simp [xq],rfl,rfl,rfl⟩ ?_
 case wk=>exact qs
 rintro m E S nk ⟨st,at_,hm,hok,hdr,hend,rfl,rfl,rfl⟩;refine qa ?_;intros;have hst:=lX st;refine qd (t:=decide ((st.length:Int)>0)) O (fun h1=>?_) (fun h1=>?_)
 ·have h1:=xo h1
  match st,hm,hok,hdr,hend,h1,hst with
  |.nd op n cs::r,hm,hok,hdr,hend,h1,hst=>
   have hto:(Tr.nd op n cs).ok:=hok _ (QC ..);unfold Tr.ok at hto;obtain⟨g1,g2,g3,g4,g5⟩:=hto;have hra:=Dq g1 g2 g3;have hfl:xq (Tr.nd op n cs::r)=(op,n)::(xq cs++xq r):=by rw [xq,Tr.fl,vz]
   rw [hfl] at hdr hend hm;rw [vz] at hdr;have hd:=wZ hdr;have hal:at_<f.length:=(zgs hd.1).1;have hsa:=Qm hd.1;have hlen:=congrArg List.length hdr;simp only [zS,xA,qE] at hlen;have e10:decide ((at_:Int)<0)=false:=decide_eq_false oM;have e15:decide ((at_:Int)>=f.length)=false:=decide_eq_false oM;refine qa ?_;intros;simp only [e15];refine qa ?_;intros;refine qf O O hra ?_;rintro _ rfl;have e21:decide ((cs.length:Int)<0)=false:=decide_eq_false oM;refine qa ?_;intros;refine qd (t:=false) (congrArg (fun z=>some (DV.bool z)) e21) (fun h=>by cases h) (fun _=>?_);refine qa ?_;intros;refine x6 O O hra ?_;intros;have hwl:IntKind.i64.wrap (((Tr.nd op n cs::r).length:Int)+IntKind.i64.wrap ((cs.length:Int)-1))=(((cs++r).length:Nat):Int):=by
    have hlc:((Tr.nd op n cs::r).length:Int)=r.length+1:=sM;have hrb:=lX r;rw [qm (n:=(cs.length:Int)-1) (by omega) (by omega),hlc,qm (by omega) (by omega),qE];omega
   refine⟨(xq (cs++r)).length,?hlt,_,_,_,[],?wk,cs++r,at_+1,O,?hok,?hdr,?hend,O,O,O⟩
   case hlt=>rw [<-hm,Qs,xA];omega
   case hok=>
    intro t ht;rcases xu.1 ht with ht|ht
    ·exact Y3 g5 t ht
    ·exact hok t (Q7 _ ht)
   case hdr=>rw [Qs];exact hd.2
   case hend=>rw [Qs,qE];simp only [xA,qE] at hend;omega
   case wk=>
    exact⟨by repeat (first|exact trivial|refine⟨by first|rfl|exact Ds oM oM|exact congrArg (fun z=>some (DV.int z)) hwl,rfl,?_⟩),trivial,rfl,rfl⟩
 ·have h1:=zK h1;have:st=[]:=vw oM;subst this;refine qa ?_;intros;simp [xq] at hend;exact qb ⟨_,O,O,by rw [hend]⟩
def yy:Nat->List Tr->List (Nat × Nat)
 |_,[]=>[]
 |a,t::r=>(a,t.dep)::yy (a+t.fl.length) r
def Qb(p:Nat × Nat):List FD:=[FD.int p.1]
theorem uQ:∀(a:Nat) (dn:List Tr) (t:Tr),yy a (dn++[t])=yy a dn++[(a+(xq dn).length,t.dep)]
 |a,[],t=>by simp [yy,xq]
 |a,x::dn,t=>by
  rw [vz,yy,yy,uQ,vz,xq,qE,Nat.add_assoc]
theorem jo:∀(a:Nat) (cs:List Tr),(yy a cs).length=cs.length
 |_,[]=>rfl
 |a,t::r=>by rw [yy,xA,xA,jo]
abbrev XS(ps:List (Nat × Nat)):DV:=.one (.f (.sl 1 ps.length (ps.flatMap Qb)))
theorem ET(ps:List (Nat × Nat)):(ps.flatMap Qb).length=ps.length*1:=qO (f:=Qb) (fun _=>rfl) ps
theorem Wg{f:List (Int × Int)}(hf:f.length<1000){op n:Int}{cs:List Tr}(ht:(Tr.nd op n cs).ok){i:Nat}{rest:List (Int × Int)}(e:f.drop i=(Tr.nd op n cs).fl++rest):DK 110 [xD f,.int i] fun r=>r=XS (yy (i+1) cs):=by
 unfold Tr.ok at ht;obtain⟨g1,g2,g3,g4,g5⟩:=ht;have hra:=Dq g1 g2 g3;rw [Tr.fl,vz] at e;have hd:=wZ e;have hil:i<f.length:=(zgs hd.1).1;have hsi:=Qm hd.1;have hlen:=congrArg List.length hd.2;simp only [zS,qE] at hlen;refine yQ ?_;intros;refine qu (fun m E S nk=>∃(dn rs:List Tr),dn++rs=cs/\rs.length=m/\f.drop (i+1+(xq dn).length)=xq rs++rest/\E=[(0,xD f),(1,.int i),(5,.one (.own 0 0 dn.length 1)),(6,.int (i+1+(xq dn).length:Nat)),(7,.int dn.length)]/\S=[(0,.data ((yy (i+1) dn).flatMap Qb))]/\nk=1)
  ⟨_,_,_,_,[],?wk,[],cs,rfl,rfl,hd.2,rfl,rfl,rfl⟩ ?_
 case wk=>exact qs
 rintro m E S nk ⟨dn,rs,hcs,hm,hdr,rfl,rfl,rfl⟩;have hcl:=congrArg List.length hcs;rw [qE] at hcl;have hsl:=congrArg (fun l=>(xq l).length) hcs;simp only [Qs,qE] at hsl;refine qa ?_;intros;refine x6 O O hra ?_;intros;refine qd O (fun h1=>?_) (fun h1=>?_)
 ·have h1:=xo h1
  match rs,hcs,hm,hdr,hcl,hsl with
  |[],hcs,hm,hdr,hcl,hsl=>simp at hcl;omega
  |t::rs',hcs,hm,hdr,hcl,hsl=>
   have hto:t.ok:=Y3 g5 t (by rw [<-hcs];simp);rw [xq,j5] at hdr;have hen:=IY hf hto hdr;have hkl:=ET (yy (i+1) dn);rw [jo] at hkl;refine qa ?_;intros;refine qZ (q:=[FD.int (i+1+(xq dn).length:Nat)]) O O O (qD _ hkl) ⟨O,O,_,O,O⟩ oM oM qr O ?_;refine qa ?_;intros;refine x6 O O hen ?_;intros;have hdat:(yy (i+1) dn).flatMap Qb++[FD.int (i+1+(xq dn).length:Nat)]=(yy (i+1) (dn++[t])).flatMap Qb:=by
    rw [uQ,X0];rfl
   have hnl:dn.length+1=(dn++[t]).length:=sM;have hns:i+1+(xq dn).length+t.fl.length=i+1+(xq (dn++[t])).length:=by rw [Qs,qE,xq,xq,yI];omega
   have hni:IntKind.i64.wrap ((dn.length:Int)+1)=((dn++[t]).length:Nat):=by rw [qm (by omega) (by omega)];simp
   refine⟨rs'.length,by rw [<-hm];simp,_,_,_,[(0,2)],?wk,dn++[t],rs',by rw [<-hcs];simp,rfl,by rw [<-hns];exact XG hdr,rfl,rfl,rfl⟩
   case wk=>
    rw [<-hns,<-hnl,<-hdat];exact qs
 ·have h1:=zK h1;have hrs:rs=[]:=vw oM;subst hrs;rw [yI] at hcs;subst hcs;have hkl:=ET (yy (i+1) dn);rw [jo] at hkl;refine qF 0 O qo qo ?_;refine qa ?_;intros;exact qb ⟨_,O,O,by rw [XS,jo];rfl⟩
def Yc:List (Nat × Nat)->Nat
 |[]=>0
 |p::r=>max p.2 (Yc r)
theorem Ve:∀(a:Nat) (cs:List Tr),Yc (yy a cs)=kh cs
 |_,[]=>by rw [yy,Yc,kh]
 |a,t::r=>by rw [yy,Yc,kh,Ve]
theorem OD{ps:List (Nat × Nat)}{k:Nat}{p:Nat × Nat}(h:ps[k]?=some p):xd (ps.flatMap Qb) (k*1) 1=some (Qb p):=zp (f:=Qb) (e:=1) (fun _=>rfl) h
theorem UT{f:List (Int × Int)}{i:Nat}{ps:List (Nat × Nat)}(hn:ps.length<1000)(hmx:Yc ps<100)(hop:DK 110 [xD f,.int i] fun r=>r=XS ps)(hk:∀p∈ps,DK 141 [xD f,.int p.1] fun r=>r=.int p.2):DK 141 [xD f,.int i] fun r=>r=.int (Yc ps+1:Nat):=by
 refine yQ ?_;intros;refine x6 O O hop ?_;intros;refine qu (fun m E S nk=>∃(k dd:Nat),k+m=ps.length/\max dd (Yc (ps.drop k))=Yc ps/\E=[(0,xD f),(5,.int dd),(6,XS ps),(7,.int k)]/\S=[]/\nk=0)
  ⟨ps.length,_,_,_,[],?wk,0,0,by omega,by rw [Kz];omega,rfl,rfl,rfl⟩ ?_
 case wk=>exact qs
 rintro m E S nk ⟨k,dd,hkm,hdd,rfl,rfl,rfl⟩;refine qa ?_;intros;refine qd O (fun h1=>?_) (fun h1=>?_)
 ·have h1:=xo h1;obtain⟨p,hp⟩:∃p,ps[k]?=some p:=⟨_,zge oM⟩;have hsp:=OD hp;have hkp:=hk p (zmg hp);have hdr:ps.drop k=p::ps.drop (k+1):=by
   obtain⟨hi,e⟩:=zgs hp;rw [kr hi,e]
  rw [hdr,Yc] at hdd;refine qa ?_;intros;refine x6 O O hkp ?_;intros;have hmm:max (dd:Int) (p.2:Int)=((max dd p.2:Nat):Int):=oM;refine⟨m-1,oM,_,_,_,[],?wk,k+1,max dd p.2,oM,oM,O,O,O⟩
  case wk=>
   exact⟨by repeat (first|exact trivial|refine⟨by first|rfl|exact Ds oM oM|exact congrArg (fun z=>some (DV.int z)) hmm,rfl,?_⟩),trivial,rfl,rfl⟩
 ·have h1:=zK h1;have hk:k=ps.length:=oM;subst hk;rw [List.drop_length,Yc] at hdd;refine qa ?_;intros;exact qb ⟨_,O,O,by rw [qm (by omega) (by omega),show dd=Yc ps by omega];rfl⟩
mutual
theorem NI{f:List (Int × Int)}(hf:f.length<1000):∀(t:Tr),t.ok->t.dep<100->∀(i:Nat) (rest:List (Int × Int)),f.drop i=t.fl++rest->DK 141 [xD f,.int i] fun r=>r=.int t.dep
 |.nd op n cs,h,hd,i,rest,e=>by
  have hop:=Wg hf h e;have hcl:cs.length<100:=by unfold Tr.ok at h;exact h.2.2.2.1
  have hc:Xf cs:=by unfold Tr.ok at h;exact Y3 h.2.2.2.2
  unfold Tr.dep at hd;rw [Tr.fl,vz] at e;have hk:=NJ hf cs hc oM (i+1) rest (wZ e).2;have:=UT (by rw [jo];omega) (by rw [Ve];omega) hop hk;rw [Ve] at this;rw [Tr.dep];exact this
theorem NJ{f:List (Int × Int)}(hf:f.length<1000):∀(cs:List Tr),Xf cs->kh cs<100->∀(a:Nat) (rest:List (Int × Int)),f.drop a=xq cs++rest->∀p∈yy a cs,DK 141 [xD f,.int p.1] fun r=>r=.int p.2
 |[],_,_,a,rest,_=>fun p hp=>by rw [yy] at hp;cases hp
 |t::r,h,hd,a,rest,e=>fun p hp=>by
  rw [yy] at hp;rw [kh] at hd;rw [xq,j5] at e;rcases zd.1 hp with rfl|hp
  ·exact NI hf t (h t (QC ..)) oM a _ e
  ·exact NJ hf r (fun x hx=>h x (Q7 _ hx)) oM (a+t.fl.length) rest (XG e) p hp
end
theorem Ii:((List.range 26).all fun n=>match Wc tabS 100 119 [.one (.int .i64 n)] HS with
 |some (.one (.int .u8 c))=>decide (1<=c/\c<=63)
 |_=>false)=true:=by kernel_rfl
theorem iX{n:Int}(h0:0<=n)(h:n<=25):DK 119 [.int n] fun d=>∃c:Int,d=.one (.f (.c (.int .u8 c)))/\1<=c/\c<=63:=by
 obtain⟨m,rfl⟩:∃m:Nat,n=m:=⟨n.toNat,oM⟩;have h1:=wA.1 Ii m (jF.2 oM);split at h1
 ·rename_i c hc;have:=xo h1;exact (Ji (ds:=[.int m]) (vs:=[.one (.int .i64 m)]) ⟨O,trivial⟩ O O hc).mono fun d hd=>⟨c,hd,this⟩
 ·cases h1
theorem pM{n:Int}(h0:0<=n)(h:n<=9):DK 156 [.int n] fun d=>∃c:Int,d=.one (.f (.c (.int .u8 c)))/\1<=c/\c<=63:=by
 obtain⟨m,rfl⟩:∃m:Nat,n=m:=⟨n.toNat,oM⟩;refine xr ?_;intros;refine qf O O (iX (by omega) (by show (((m+9) % 10:Nat):Int)<=25;omega)) ?_;rintro _ ⟨c,rfl,hc⟩;refine qc ?_;intros;exact qb ⟨_,O,O,c,O,hc⟩
theorem qA.push{l:List Int}{c:Int}(h:qA l)(hc:0<=c/\c<=63):qA (l++[c]):=h.app fun x hx=>by rw [xM.1 hx];exact hc
theorem IT{n:Nat}(hn:n<=99999):DK 118 [.int n] fun d=>∃c:List Int,d=qq c/\c.length<=6/\qA c:=by
 refine xr ?_;intros;refine qN (fun m E S nk=>∃(k:Nat) (out:List Int),k+m=5/\out.length<=k+1/\qA out/\E=[(0,.int n),(3,.one (.own 0 0 out.length 1)),(4,.int (jX k))]/\S=[(0,.data (out.flatMap qU))]/\nk=1) 5 ⟨0,[60],by omega,by simp,by decide,rfl,rfl,rfl⟩ ?_;rintro m E S nk ⟨k,out,hk,hlen,hcc,rfl,rfl,rfl⟩;by_cases h5:k=5
 ·subst h5;have h0:jX 5=0:=rfl;refine qc ?_;intros;exact qP 2 O O ⟨_,O,O,out,O,oM,hcc⟩
 ·obtain⟨p1,p2,p3,p4,p5⟩:=ST k oM;have e3:((jX k/Int.toNat 10:Nat):Int)=((jX (k+1):Nat):Int):=by rw [p3];rfl
  have hdg:=kp (n/jX k) (show 0<10 by decide);refine qc ?_;intros;refine xT O (fun h=>?_) (fun h=>?_)
  ·refine qc ?_;intros;refine qf O O (pM (by omega) (by first|omega|(show ((n/jX k % 10:Nat):Int)<=9;omega))) ?_;rintro _ ⟨c,rfl,hc⟩;refine qc ?_;intros;exact qG ⟨k+1,out++[c],by omega,by simp;omega,hcc.push (by omega),rfl,rfl,rfl⟩
  ·refine qc ?_;intros;refine qX O (fun h4=>?_) (fun h4=>?_)
   ·refine qc ?_;intros;refine qf O O (pM (by omega) (by first|omega|(show ((n/jX k % 10:Nat):Int)<=9;omega))) ?_;rintro _ ⟨c,rfl,hc⟩;refine qc ?_;intros;exact qG ⟨k+1,out++[c],by omega,by simp;omega,hcc.push (by omega),rfl,rfl,rfl⟩
   ·refine qc ?_;intros;exact qG ⟨k+1,out,oM,oM,hcc,O,O,O⟩
theorem BO{op:Int}:DK 120 [.int op] fun d=>∃c:List Int,d=qq c/\c.length<=3/\qA c:=by
 refine va fun Z0 lo=>?_;by_cases h2:op=2
 ·refine qc ?_;intros;exact qP 2 O O ⟨_,O,O,[44],O,by decide,by decide⟩
 ·by_cases h3:op=3
  ·refine qc ?_;intros;exact qP 2 O O ⟨_,O,O,[36],O,by decide,by decide⟩
  ·by_cases h4:op=4
   ·refine qc ?_;intros;exact qP 2 O O ⟨_,O,O,[33],O,by decide,by decide⟩
   ·refine qc ?_;intros;exact qP 2 O O ⟨_,O,O,[0,54,0],O,by decide,by decide⟩
abbrev c3D(a b c:Int):DV:=.agg [.f (.c (.int .u8 a)),.f (.c (.int .u8 b)),.f (.c (.int .u8 c))]
theorem IZ{op:Int}:DK 124 [.int op] fun d=>∃a b c:Int,d=c3D a b c/\(0<=a/\a<=63)/\(0<=b/\b<=63)/\0<=c/\c<=63:=by
 refine va fun Z0 lo=>?_;by_cases h2:op=6
 ·refine qc ?_;intros;exact qb ⟨_,O,O,57,12,47,O,by decide,by decide,by decide⟩
 ·by_cases h3:op=9
  ·refine qc ?_;intros;exact qb ⟨_,O,O,28,0,59,O,by decide,by decide,by decide⟩
  ·by_cases h4:op=10
   ·refine qc ?_;intros;exact qb ⟨_,O,O,55,0,62,O,by decide,by decide,by decide⟩
   ·refine qc ?_;intros;exact qb ⟨_,O,O,42,0,46,O,by decide,by decide,by decide⟩
theorem IR{op:Int}:DK 121 [.int op] fun d=>∃b:Bool,d=.bool b:=by
 refine va fun Z0 lo=>?_
 (refine ql ?_;intros;first|(exact qb ⟨_,O,O,_,O⟩)|((first|refine qh O (fun _=>?_) (fun _=>?_)|refine qX O (fun _=>?_) (fun _=>?_)|refine xw O (fun _=>?_) (fun _=>?_)|refine qd O (fun _=>?_) (fun _=>?_)|refine xT O (fun _=>?_) (fun _=>?_)|refine zH O (fun _=>?_) (fun _=>?_)|refine yf O (fun _=>?_) (fun _=>?_)|refine xG O (fun _=>?_) (fun _=>?_))<;>(refine ql ?_;intros;first|(exact qb ⟨_,O,O,_,O⟩)|((first|refine qh O (fun _=>?_) (fun _=>?_)|refine qX O (fun _=>?_) (fun _=>?_)|refine xw O (fun _=>?_) (fun _=>?_)|refine qd O (fun _=>?_) (fun _=>?_)|refine xT O (fun _=>?_) (fun _=>?_)|refine zH O (fun _=>?_) (fun _=>?_)|refine yf O (fun _=>?_) (fun _=>?_)|refine xG O (fun _=>?_) (fun _=>?_))<;>(refine ql ?_;intros;first|(exact qb ⟨_,O,O,_,O⟩)|((first|refine qh O (fun _=>?_) (fun _=>?_)|refine qX O (fun _=>?_) (fun _=>?_)|refine xw O (fun _=>?_) (fun _=>?_)|refine qd O (fun _=>?_) (fun _=>?_)|refine xT O (fun _=>?_) (fun _=>?_)|refine zH O (fun _=>?_) (fun _=>?_)|refine yf O (fun _=>?_) (fun _=>?_)|refine xG O (fun _=>?_) (fun _=>?_))<;>(refine ql ?_;intros;first|(exact qb ⟨_,O,O,_,O⟩)|((first|refine qh O (fun _=>?_) (fun _=>?_)|refine qX O (fun _=>?_) (fun _=>?_)|refine xw O (fun _=>?_) (fun _=>?_)|refine qd O (fun _=>?_) (fun _=>?_)|refine xT O (fun _=>?_) (fun _=>?_)|refine zH O (fun _=>?_) (fun _=>?_)|refine yf O (fun _=>?_) (fun _=>?_)|refine xG O (fun _=>?_) (fun _=>?_))<;>(refine ql ?_;intros;first|(exact qb ⟨_,O,O,_,O⟩)|((first|refine qh O (fun _=>?_) (fun _=>?_)|refine qX O (fun _=>?_) (fun _=>?_)|refine xw O (fun _=>?_) (fun _=>?_)|refine qd O (fun _=>?_) (fun _=>?_)|refine xT O (fun _=>?_) (fun _=>?_)|refine zH O (fun _=>?_) (fun _=>?_)|refine yf O (fun _=>?_) (fun _=>?_)|refine xG O (fun _=>?_) (fun _=>?_))<;>(exact qb ⟨_,O,O,_,O⟩)))))))))))
theorem Kb{w:List Int}(hw:w.length<=20)(hc:qA w):DK 122 [qq w] fun d=>∃c:List Int,d=qq c/\c.length=w.length+1/\qA c:=by
 refine xr ?_;intros;refine zn (f:=qU) (l:=[16]) w O O O ⟨O,O,O⟩ O O oM oM qr (fun _=>O) O ?_;refine qc ?_;intros;exact qP 2 O O ⟨_,O,O,[16]++w,O,by simp,qA.app (by decide) hc⟩
theorem Jj{w:List Int}{op:Int}(hw:w.length<=20)(hc:qA w):DK 123 [qq w,.int op] fun d=>∃c:List Int,d=qq c/\c.length=w.length+1/\qA c:=by
 refine va fun Z0 lo=>?_;by_cases h:op=8
 ·refine qc ?_;intros;exact qP 4 O O ⟨_,O,O,w++[6],O,by simp,hc.push (by decide)⟩
 ·refine qc ?_;intros;exact qP 4 O O ⟨_,O,O,w++[24],O,by simp,hc.push (by decide)⟩
abbrev WR(z:Nat)(d:DV):Prop:=∃c:List Int,d=qq c/\c.length<=26*z/\qA c
structure WN (f:List (Int × Int)) (i:Nat) (w:List Int) (ps:List (Nat × Nat)) (zs:List Nat):Prop where
 fl:f.length<1000
 il:i<f.length
 wl:w.length<=9
 wc:qA w
 pl:ps.length<=16
 pz:ps.length=zs.length
 pin:∀k,k<ps.length->(ps.getD k default).1<f.length
 opn:DK 110 [xD f,.int i] fun r=>r=XS ps
 sm:zs.sum<=1000
 kid:∀k,k<ps.length->∀v:List Int,v.length<=w.length+1->qA v->DK 83 [xD f,.int (ps.getD k default).1,qq v] (WR (zs.getD k default))
theorem bY{zs:List Nat}{k:Nat}(h:k<zs.length):(zs.take (k+1)).sum=(zs.take k).sum+zs.getD k default:=by
 rw [List.take_succ_eq_append_getElem h,List.sum_append,qT,zge h];simp
theorem bZ{zs:List Nat}:(zs.take zs.length).sum=zs.sum:=by rw [vE]
theorem lI{zs:List Nat}{k:Nat}:(zs.take k).sum<=zs.sum:=by
 conv=>rhs;rw [<-ZV k zs]
 rw [List.sum_append];omega
theorem DW:∀{zs:List Nat},zs.length=2->zs.getD 0 default+zs.getD 1 default=zs.sum
 |[a,b],_=>rfl
theorem Ri{f:List (Int × Int)}{i:Nat}{w:List Int}{ps:List (Nat × Nat)}{zs:List Nat}(h:WN f i w ps zs)(ho:(f.getD i default).1=0)(hn:0<=(f.getD i default).2/\(f.getD i default).2<=99999):DK 83 [xD f,.int i,qq w] (WR (zs.sum+1)):=by
 have h1:=h.fl;have h2:=h.il;have hnum:=IT (n:=(f.getD i default).2.toNat) oM;rw [show (((f.getD i default).2.toNat:Nat):Int)=(f.getD i default).2 by omega] at hnum;refine xr ?_;intros;refine qS O O h.opn ?_;intros;refine qf O O hnum ?_;rintro _ ⟨c,rfl,hc,hcc⟩;refine qc ?_;intros;exact qb ⟨_,O,O,c,O,oM,hcc⟩
theorem Re{f:List (Int × Int)}{i:Nat}{w:List Int}{ps:List (Nat × Nat)}{zs:List Nat}(h:WN f i w ps zs)(ho:(f.getD i default).1=1)(hn:0<=(f.getD i default).2/\(f.getD i default).2<=25):DK 83 [xD f,.int i,qq w] (WR (zs.sum+1)):=by
 have h1:=h.fl;have h2:=h.il;refine xr ?_;intros;refine qS O O h.opn ?_;intros;refine qf O O (iX hn.1 hn.2) ?_;rintro _ ⟨c,rfl,hc⟩;refine qc ?_;intros;exact qP 6 O O ⟨_,O,O,[48,c],O,by simp;omega,qA.push (l:=[48]) (by decide) (by omega)⟩
theorem Rf{f:List (Int × Int)}{i:Nat}{w:List Int}{ps:List (Nat × Nat)}{zs:List Nat}(h:WN f i w ps zs)(ho:2<=(f.getD i default).1/\(f.getD i default).1<=5)(hk:ps.length=2):DK 83 [xD f,.int i,qq w] (WR (zs.sum+1)):=by
 have h1:=h.fl;have h2:=h.il;have hz:=h.pz;have e3:=DW (zs:=zs) oM;have hsm:=h.sm;have k0:=h.kid 0 oM w oM h.wc;have k1:=h.kid 1 oM w oM h.wc;have hopn:=h.opn;have ec:(f.getD i default).1=2\/(f.getD i default).1=3\/(f.getD i default).1=4\/(f.getD i default).1=5:=oM;rcases ec with ec|ec|ec|ec
 all_goals
  refine xr ?_;intros;refine qS O O hopn ?_;intros;refine qf O O k0 ?_;rintro _ ⟨c,rfl,hc,hcc⟩;refine qc ?_;intros;refine qf O O BO ?_;rintro _ ⟨o,rfl,ho1,ho2⟩;refine qc ?_;intros;refine qf O O k1 ?_;rintro _ ⟨c2,rfl,hc2,hcc2⟩;refine qc ?_;intros;exact qP 6 O O ⟨_,O,O,[]++c++o++c2,O,wY,((qA.app (fun x hx=>by cases hx) hcc).app ho2).app hcc2⟩
theorem Rj{f:List (Int × Int)}{i:Nat}{w:List Int}{ps:List (Nat × Nat)}{zs:List Nat}(h:WN f i w ps zs)(ho:(f.getD i default).1=13){m:Nat}(hn:(f.getD i default).2=m)(hm8:1<=m % 8):DK 83 [xD f,.int i,qq w] (WR (zs.sum+1)):=by
 have h1:=h.fl;have h2:=h.il;have hwl:=h.wl;have hpl:=h.pl;have hz:=h.pz;have hsm:=h.sm;have hopn:=h.opn;refine xr ?_;intros;refine qS O O hopn ?_;intros;refine zn (f:=qU) (l:=[]) [41] O O O ⟨O,O,_,O,O⟩ O O qr qr qr (fun _=>O) O ?_;refine qc ?_;intros;refine qN (fun m E S nk=>∃(k:Nat) (o:List Int),k+m=ps.length/\o.length<=1+k+26*(zs.take k).sum/\qA o/\E=[(0,xD f),(2,qq w),(7,.one (.ptr 0 0)),(8,XS ps),(9,.one (.own 1 0 o.length 1)),(12,.int k)]/\S=[(0,.cells ((wg (f.getD i default)).map .f)),(1,.data (o.flatMap qU))]/\nk=2) (ps.length) ⟨0,[]++[41],by omega,by simp,by decide,rfl,rfl,rfl⟩ ?_;rintro m' E S nk ⟨k,o,hm,hol,hoc,rfl,rfl,rfl⟩;refine qc ?_;intros;refine qh O (fun g=>?_) (fun g=>?_)
 ·have e1:=bY (zs:=zs) (k:=k) oM;have e2:=lI (zs:=zs) (k:=k+1);refine qc ?_;intros;refine xT O (fun g2=>?_) (fun g2=>?_)
  ·refine qc ?_;intros;rw [hn,show (m:Int).tmod 8=((m % 8:Nat):Int) from rfl];refine qc ?_;intros;refine qX O (fun g3=>?_) (fun g3=>?_)
   ·refine qc ?_;intros;refine qf O O (h.kid k oM w oM h.wc) ?_;rintro _ ⟨x,rfl,hx,hxc⟩;refine qc ?_;intros;exact qG ⟨k+1,o++[51]++x,oM,wY,(hoc.push qr).app hxc,O,O,O⟩
   ·refine qc ?_;intros;refine qf O O (h.kid k oM w oM h.wc) ?_;rintro _ ⟨x,rfl,hx,hxc⟩;refine qc ?_;intros;exact qG ⟨k+1,o++[32]++x,oM,wY,(hoc.push qr).app hxc,O,O,O⟩
  ·refine qc ?_;intros;refine qf O O (h.kid k oM w oM h.wc) ?_;rintro _ ⟨x,rfl,hx,hxc⟩;refine qc ?_;intros;exact qG ⟨k+1,o++x,oM,wY,hoc.app hxc,O,O,O⟩
 ·have e3:(zs.take k).sum=zs.sum:=by rw [show k=zs.length by omega,bZ]
  refine qc ?_;intros;exact qP 6 O O ⟨_,O,O,o++[43],O,wY,hoc.push qr⟩
end Go.Ai
