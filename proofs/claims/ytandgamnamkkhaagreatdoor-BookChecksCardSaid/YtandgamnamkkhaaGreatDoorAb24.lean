/- -/
import Derived.Test.YtandgamnamkkhaaGreatDoorAb23
set_option linter.unusedSimpArgs false
set_option maxHeartbeats 16000000
set_option linter.unusedVariables false
set_option maxRecDepth 8000
namespace Go.Ah
open Go.Ab Go.Proofs
theorem Tr.dep_pos:∀t:Tr,1<=t.dep
 |.nd _ _ _=>by unfold Tr.dep;omega
theorem jK{α:Type}{f:List α}{i:Nat}{x:α}{r:List α}(h:f.drop i=x::r):f[i]?=some x/\f.drop (i+1)=r:=by
 refine⟨?_,?_⟩
 ·have:=congrArg (fun l=>l[0]?) h;simpa using this
 ·have:=congrArg List.tail h;simpa using this
theorem XE{α:Type}{f:List α}{i:Nat}{a r:List α}(h:f.drop i=a++r):f.drop (i+a.length)=r:=by
 have:=congrArg (List.drop a.length) h;rw [List.drop_drop,List.drop_left] at this;exact this
theorem DE{α:Type}{f:List α}{i:Nat}{a r:List α}(h:f.drop i=a++r):a≠[]->i+a.length<=f.length:=by
 intro hne;have:=congrArg List.length h;rw [List.length_drop,List.length_append] at this;have:0<a.length:=List.length_pos_iff.2 hne;omega
theorem Tr.root:∀{t:Tr} {f:List (Int × Int)} {i:Nat} {r:List (Int × Int)},f.drop i=t.fl++r->∃n,f[i]?=some (t.op,n)
 |.nd op n cs,f,i,r,h=>by
  unfold Tr.fl at h;exact⟨n,(jK h).1⟩
theorem Tr.fl_ne:∀t:Tr,t.fl≠[]
 |.nd _ _ _=>by unfold Tr.fl;simp
mutual
theorem r7{f:List (Int × Int)}(hf:f.length<1000):∀(t:Tr),t.ok->t.dep<100->∀(i:Nat) (rest:List (Int × Int)),f.drop i=t.fl++rest->DK 101 [xX f,.int i] fun r=>r=.tup [.int (i+t.fl.length:Nat),.int t.dep,.bool true]
 |.nd op n cs,h,hd,i,rest,e=>by
  unfold Tr.ok at h;obtain⟨h1,h2,h3,h4,h5⟩:=h;unfold Tr.dep at hd;unfold Tr.fl at e;have e1:=jK e;have hc:=dS hf cs op 0 h5 oM (i+1) rest e1.2;rw [Nat.zero_add] at hc;have:=AZ hf e1.1 h1 h2 h3 h4 oM hc;unfold Tr.fl Tr.dep;rw [List.length_cons,show i+((xp cs).length+1)=i+1+(xp cs).length by omega];exact this
theorem dS{f:List (Int × Int)}(hf:f.length<1000):∀(cs:List Tr) (op:Int) (j:Nat),yA op j cs->j6 cs<100->∀(at_:Nat) (rest:List (Int × Int)),f.drop at_=xp cs++rest->Chain f op j (j+cs.length) at_ (at_+(xp cs).length) (j6 cs)
 |[],op,j,_,_,at_,rest,_=>by unfold xp j6;exact .nil
 |t::r,op,j,h,hd,at_,rest,e=>by
  unfold yA at h;unfold j6 at hd;unfold xp at e;rw [List.append_assoc] at e;obtain⟨n,hr⟩:=Tr.root e;have h1:=r7 hf t h.2.1 oM at_ _ e;have h2:=dS hf r op (j+1) h.2.2 oM (at_+t.fl.length) rest (XE e);have hp:=t.dep_pos;have hl:=DE e t.fl_ne;unfold xp j6;rw [List.length_cons,List.length_append,show j+(r.length+1)=j+1+r.length by omega,<-Nat.add_assoc,show t.dep=t.dep-1+1 by omega];refine .cons oM hr (Tr.ok_op h.2.1) h.1 ?_ oM oM h2;rw [show t.dep-1+1=t.dep by omega];exact h1
end
theorem D6{t:Tr}(h:t.ok)(hl:t.fl.length<=60)(hd:t.dep<=8):DK 73 [xX t.fl] fun r=>r=.int t.dep:=by
 have hm:=r7 (f:=t.fl) (by omega) t h (by omega) 0 [] (by rw [List.drop_zero,List.append_nil]);rw [Nat.zero_add] at hm;refine qI fun Z0 lo=>?_;refine qa ?_;intros;refine qb (t:=false) (congrArg (fun z=>some (DV.bool z)) (decide_eq_false (show¬(t.fl.length:Int)>60 by omega))) (fun h=>by cases h) (fun _=>?_);refine qa ?_;intros;refine qj rfl rfl hm ?_;rintro _ rfl;refine qa ?_;intros;have e1:((t.fl.length:Int)!=t.fl.length)=false:=by simp
 have e2:decide ((t.dep:Int)>8)=false:=decide_eq_false oM;refine qb (t:=false) ?hc (fun h=>by cases h) (fun _=>?_)
 case hc=>
  refine congrArg (fun z=>some (DV.bool z)) ?_;simp [e2]
 refine qa ?_;intros;exact qc ⟨_,rfl,rfl,rfl⟩
theorem D5{t:Tr}(h:t.ok)(hl:t.fl.length<=60)(hd:t.dep<=8):DK 38 [xX t.fl] fun r=>r=.bool true:=by
 refine qI fun Z0 lo=>?_;refine qa ?_;intros;refine qj rfl rfl (D6 h hl hd) ?_;rintro _ rfl;refine qa ?_;intros;have:=t.dep_pos;exact qc ⟨_,rfl,rfl,congrArg (fun z=>DV.bool z) (decide_eq_true (show (t.dep:Int)>0 by omega))⟩
def oS(op n:Int):Int:=if (yr op n).2=true then (yr op n).1 else -1
theorem UW:((List.range 13).all fun o=>(List.range 40).all fun n=>match vo tabS tabE 100 156 [.agg [.int .i64 (o+1:Nat),.int .i64 n]] HS with
 |some (.one (.int .i64 c))=>decide (c=oS (o+1:Nat) n)
 |_=>false)=true:=by kernel_rfl
theorem UV:((List.range 14).all fun n=>match vo tabS tabE 100 157 [.one (.int .i64 n)] HS with
 |some (.one (.int .i64 c))=>decide (c=km n)
 |_=>false)=true:=by kernel_rfl
theorem V2{op:Int}(h:0<=op/\op<=13):DK 157 [.int op] fun d=>d=.int (km op):=by
 obtain⟨n,rfl⟩:=Int.eq_ofNat_of_zero_le h.1;have h1:=List.all_eq_true.1 UV n (List.mem_range.2 oM);split at h1
 ·rename_i c hc;have:=qG h1;subst this;exact QQ (vs:=[.one (.int .i64 n)]) ⟨rfl,trivial⟩ rfl rfl hc
 ·cases h1
theorem TZ{o n:Nat}(ho:o<13)(hn:n<40):DK 156 [wd (o+1:Nat) n] fun d=>d=.int (oS (o+1:Nat) n):=by
 have h1:=List.all_eq_true.1 (List.all_eq_true.1 UW o (List.mem_range.2 ho)) n (List.mem_range.2 hn);split at h1
 ·rename_i c hc;have:=qG h1;subst this;exact QQ (vs:=[.agg [.int .i64 (o+1:Nat),.int .i64 n]]) ⟨rfl,trivial⟩ rfl rfl hc
 ·cases h1
theorem T1{n:Int}(hn:0<=n/\n<=99999):DK 156 [wd 0 n] fun d=>d=.int 0:=by
 refine qI fun Z0 lo=>?_;have e1:decide (n>=0)=true:=decide_eq_true hn.1;have e2:decide (n<=99999)=true:=decide_eq_true hn.2;refine qa ?_;intros
 repeat (first|(refine qb (t:=false) rfl (fun h=>by cases h) (fun _=>?_);refine qa ?_;intros)|(refine qb (t:=true) rfl (fun _=>?_) (fun h=>by cases h);refine qa ?_;intros))
 refine qb (t:=true) ?hc (fun _=>?_) (fun h=>by cases h)
 case hc=>
  refine congrArg (fun z=>some (DV.bool z)) ?_;simp [e1,e2]
 refine qa ?_;intros;exact qc ⟨_,rfl,rfl,rfl⟩
theorem ET{op n:Int}{k:Nat}(ho:0<=op/\op<=13)(hn:0<=n/\n<=1000000)(h:yr op n=((k:Int),true)):(op=0/\k=0/\n<=99999)\/(1<=op/\n<40):=by
 unfold yr at h;by_cases h0:op=0
 ·rw [if_pos h0] at h;simp at h;exact .inl ⟨h0,oM,h.2.2⟩
 ·rw [if_neg h0] at h;refine .inr ⟨oM,?_⟩;split at h
  ·simp at h;omega
  ·split at h
   ·simp at h;omega
   ·split at h
    ·simp at h;omega
    ·split at h
     ·split at h
      ·simp at h
      ·omega
     ·split at h
      ·split at h
       ·simp at h
       ·simp at h;omega
      ·simp at h
theorem GE{op n:Int}{k:Nat}(ho:0<=op/\op<=13)(hn:0<=n/\n<=1000000)(h:yr op n=((k:Int),true)):DK 156 [wd op n] fun d=>d=.int k:=by
 rcases ET ho hn h with⟨rfl,rfl,h3⟩|⟨h1,h2⟩
 ·exact T1 ⟨hn.1,h3⟩
 ·obtain⟨o,rfl⟩:∃o:Nat,op=((o+1:Nat):Int):=⟨(op-1).toNat,oM⟩;obtain⟨m,rfl⟩:=Int.eq_ofNat_of_zero_le hn.1;have:=TZ (o:=o) (n:=m) oM oM
  rwa [show oS ((o+1:Nat):Int) (m:Int)=k by unfold oS;rw [h];rfl] at this
def Xo(st:List Tr):Prop:=∀t∈st,t.ok
theorem KI:∀{cs:List Tr} {op:Int} {j:Nat},yA op j cs->Xo cs
 |[],_,_,_=>fun t h=>by cases h
 |c::cs,op,j,h=>fun t ht=>by
  unfold yA at h;rcases List.mem_cons.1 ht with rfl|ht
  ·exact h.2.1
  ·exact KI h.2.2 t ht
theorem kN:∀a b:List Tr,xp (a++b)=xp a++xp b
 |[],b=>by simp [xp]
 |t::a,b=>by rw [List.cons_append,xp,xp,kN a b,List.append_assoc]
theorem VS:∀st:List Tr,st.length<=(xp st).length
 |[]=>by simp
 |t::r=>by
  have:=VS r;have h:=List.length_pos_iff.2 t.fl_ne;rw [xp,List.length_append,List.length_cons];omega
theorem GG{f:List (Int × Int)}(hf:f.length<1000){t:Tr}(ht:t.ok){i:Nat}{rest:List (Int × Int)}(e:f.drop i=t.fl++rest):DK 112 [xX f,.int i] fun r=>r=.int (i+t.fl.length:Nat):=by
 refine qI fun Z0 lo=>?_;refine qa ?_;intros;refine qm (fun m E S nk=>∃(st:List Tr) (at_:Nat),(xp st).length=m/\Xo st/\f.drop at_=xp st++rest/\at_+(xp st).length=i+t.fl.length/\E=[(0,xX f),(1,.int at_),(5,.int st.length)]/\S=[]/\nk=0)
  ⟨_,_,_,_,[],?wk,[t],i,rfl,fun x hx=>by rw [List.mem_singleton.1 hx];exact ht,by rw [e];simp [xp],by simp [xp],rfl,rfl,rfl⟩ ?_
 case wk=>exact ql
 rintro m E S nk ⟨st,at_,hm,hok,hdr,hend,rfl,rfl,rfl⟩;refine qa ?_;intros;have hst:=VS st;refine qb (t:=decide ((st.length:Int)>0)) rfl (fun h1=>?_) (fun h1=>?_)
 ·have h1:=qG h1
  match st,hm,hok,hdr,hend,h1,hst with
  |.nd op n cs::r,hm,hok,hdr,hend,h1,hst=>
   have hto:(Tr.nd op n cs).ok:=hok _ (List.mem_cons_self ..);unfold Tr.ok at hto;obtain⟨g1,g2,g3,g4,g5⟩:=hto;have hra:=GE g1 g2 g3;have hfl:xp (Tr.nd op n cs::r)=(op,n)::(xp cs++xp r):=by rw [xp,Tr.fl,List.cons_append]
   rw [hfl] at hdr hend hm;rw [List.cons_append] at hdr;have hd:=jK hdr;have hal:at_<f.length:=(zgs hd.1).1;have hsa:=j3 hd.1;have hlen:=congrArg List.length hdr;simp only [List.length_drop,List.length_cons,List.length_append] at hlen;have e10:decide ((at_:Int)<0)=false:=decide_eq_false oM;have e15:decide ((at_:Int)>=f.length)=false:=decide_eq_false oM;refine qa ?_;intros;simp only [e15];refine qa ?_;intros;refine qj rfl rfl hra ?_;rintro _ rfl;have e21:decide ((cs.length:Int)<0)=false:=decide_eq_false oM;refine qa ?_;intros;refine qb (t:=false) (congrArg (fun z=>some (DV.bool z)) e21) (fun h=>by cases h) (fun _=>?_);refine qa ?_;intros;refine qj rfl rfl hra ?_;rintro _ rfl;refine qa ?_;intros;have hwl:IntKind.i64.wrap (((Tr.nd op n cs::r).length:Int)+IntKind.i64.wrap ((cs.length:Int)-1))=(((cs++r).length:Nat):Int):=by
    have hlc:((Tr.nd op n cs::r).length:Int)=r.length+1:=by simp
    have hrb:=VS r;rw [qg (n:=(cs.length:Int)-1) (by omega) (by omega),hlc,qg (by omega) (by omega),List.length_append];omega
   refine⟨(xp (cs++r)).length,?hlt,_,_,_,[],?wk,cs++r,at_+1,rfl,?hok,?hdr,?hend,rfl,rfl,rfl⟩
   case hlt=>rw [<-hm,kN,List.length_cons];omega
   case hok=>
    intro t ht;rcases List.mem_append.1 ht with ht|ht
    ·exact KI g5 t ht
    ·exact hok t (List.mem_cons_of_mem _ ht)
   case hdr=>rw [kN];exact hd.2
   case hend=>rw [kN,List.length_append];simp only [List.length_cons,List.length_append] at hend;omega
   case wk=>
    exact⟨by repeat (first|exact trivial|refine⟨by first|rfl|exact A9 oM oM|exact congrArg (fun z=>some (DV.int z)) hwl,rfl,?_⟩),trivial,rfl,rfl⟩
 ·have h1:=qQ h1;have:st=[]:=List.eq_nil_of_length_eq_zero oM;subst this;refine qa ?_;intros;simp [xp] at hend;exact qc ⟨_,rfl,rfl,by rw [hend]⟩
def yg:Nat->List Tr->List (Nat × Nat)
 |_,[]=>[]
 |a,t::r=>(a,t.dep)::yg (a+t.fl.length) r
def kE(p:Nat × Nat):List FD:=[FD.int p.1]
theorem fU:∀(a:Nat) (dn:List Tr) (t:Tr),yg a (dn++[t])=yg a dn++[(a+(xp dn).length,t.dep)]
 |a,[],t=>by simp [yg,xp]
 |a,x::dn,t=>by
  rw [List.cons_append,yg,yg,fU,List.cons_append,xp,List.length_append,Nat.add_assoc]
theorem vX:∀(a:Nat) (cs:List Tr),(yg a cs).length=cs.length
 |_,[]=>rfl
 |a,t::r=>by rw [yg,List.length_cons,List.length_cons,vX]
abbrev KR(ps:List (Nat × Nat)):DV:=.one (.f (.sl 1 ps.length (ps.flatMap kE)))
theorem mE(ps:List (Nat × Nat)):(ps.flatMap kE).length=ps.length*1:=zO (f:=kE) (fun _=>rfl) ps
theorem Vo{f:List (Int × Int)}(hf:f.length<1000){op n:Int}{cs:List Tr}(ht:(Tr.nd op n cs).ok){i:Nat}{rest:List (Int × Int)}(e:f.drop i=(Tr.nd op n cs).fl++rest):DK 136 [xX f,.int i] fun r=>r=KR (yg (i+1) cs):=by
 unfold Tr.ok at ht;obtain⟨g1,g2,g3,g4,g5⟩:=ht;have hra:=GE g1 g2 g3;rw [Tr.fl,List.cons_append] at e;have hd:=jK e;have hil:i<f.length:=(zgs hd.1).1;have hsi:=j3 hd.1;have hlen:=congrArg List.length hd.2;simp only [List.length_drop,List.length_append] at hlen;refine qI fun Z0 lo=>?_;refine qa ?_;intros;refine qm (fun m E S nk=>∃(dn rs:List Tr),dn++rs=cs/\rs.length=m/\f.drop (i+1+(xp dn).length)=xp rs++rest/\E=[(0,xX f),(1,.int i),(5,.one (.own 0 0 dn.length 1)),(6,.int (i+1+(xp dn).length:Nat)),(7,.int dn.length)]/\S=[(0,.data ((yg (i+1) dn).flatMap kE))]/\nk=1)
  ⟨_,_,_,_,[],?wk,[],cs,rfl,rfl,hd.2,rfl,rfl,rfl⟩ ?_
 case wk=>exact ql
 rintro m E S nk ⟨dn,rs,hcs,hm,hdr,rfl,rfl,rfl⟩;have hcl:=congrArg List.length hcs;rw [List.length_append] at hcl;have hsl:=congrArg (fun l=>(xp l).length) hcs;simp only [kN,List.length_append] at hsl;refine qa ?_;intros;refine qj rfl rfl hra ?_;rintro _ rfl;refine qa ?_;intros;refine qb rfl (fun h1=>?_) (fun h1=>?_)
 ·have h1:=qG h1
  match rs,hcs,hm,hdr,hcl,hsl with
  |[],hcs,hm,hdr,hcl,hsl=>simp at hcl;omega
  |t::rs',hcs,hm,hdr,hcl,hsl=>
   have hto:t.ok:=KI g5 t (by rw [<-hcs];simp);rw [xp,List.append_assoc] at hdr;have hen:=GG hf hto hdr;have hkl:=mE (yg (i+1) dn);rw [vX] at hkl;refine qa ?_;intros;refine qy (q:=[FD.int (i+1+(xp dn).length:Nat)]) rfl rfl rfl (qp _ hkl) ⟨rfl,rfl,_,rfl,rfl⟩ oM oM (by decide) rfl ?_;refine qa ?_;intros;refine qj rfl rfl hen ?_;rintro _ rfl;refine qa ?_;intros;have hdat:(yg (i+1) dn).flatMap kE++[FD.int (i+1+(xp dn).length:Nat)]=(yg (i+1) (dn++[t])).flatMap kE:=by
    rw [fU,List.flatMap_append];rfl
   have hnl:dn.length+1=(dn++[t]).length:=by simp
   have hns:i+1+(xp dn).length+t.fl.length=i+1+(xp (dn++[t])).length:=by rw [kN,List.length_append,xp,xp,List.append_nil];omega
   have hni:IntKind.i64.wrap ((dn.length:Int)+1)=((dn++[t]).length:Nat):=by rw [qg (by omega) (by omega)];simp
   refine⟨rs'.length,by rw [<-hm];simp,_,_,_,[(0,2)],?wk,dn++[t],rs',by rw [<-hcs];simp,rfl,by rw [<-hns];exact XE hdr,rfl,rfl,rfl⟩
   case wk=>
    rw [<-hns,<-hnl,<-hdat];exact ql
 ·have h1:=qQ h1;have hrs:rs=[]:=List.eq_nil_of_length_eq_zero oM;subst hrs;rw [List.append_nil] at hcs;subst hcs;have hkl:=mE (yg (i+1) dn);rw [vX] at hkl;refine qH 0 rfl qD qD ?_;refine qa ?_;intros;exact qc ⟨_,rfl,rfl,by rw [KR,vX];rfl⟩
def Xr:List (Nat × Nat)->Nat
 |[]=>0
 |p::r=>max p.2 (Xr r)
theorem Ji:∀(a:Nat) (cs:List Tr),Xr (yg a cs)=j6 cs
 |_,[]=>by rw [yg,Xr,j6]
 |a,t::r=>by rw [yg,Xr,j6,Ji]
theorem t8{ps:List (Nat × Nat)}{k:Nat}{p:Nat × Nat}(h:ps[k]?=some p):qT (ps.flatMap kE) (k*1) 1=some (kE p):=zC (f:=kE) (e:=1) (fun _=>rfl) h
theorem DZ{f:List (Int × Int)}{i:Nat}{ps:List (Nat × Nat)}(hn:ps.length<1000)(hmx:Xr ps<100)(hop:DK 136 [xX f,.int i] fun r=>r=KR ps)(hk:∀p∈ps,DK 114 [xX f,.int p.1] fun r=>r=.int p.2):DK 114 [xX f,.int i] fun r=>r=.int (Xr ps+1:Nat):=by
 refine qI fun Z0 lo=>?_;refine qa ?_;intros;refine qj rfl rfl hop ?_;rintro _ rfl;refine qa ?_;intros;refine qm (fun m E S nk=>∃(k dd:Nat),k+m=ps.length/\max dd (Xr (ps.drop k))=Xr ps/\E=[(0,xX f),(5,.int dd),(6,KR ps),(7,.int k)]/\S=[]/\nk=0)
  ⟨ps.length,_,_,_,[],?wk,0,0,by omega,by rw [List.drop_zero];omega,rfl,rfl,rfl⟩ ?_
 case wk=>exact ql
 rintro m E S nk ⟨k,dd,hkm,hdd,rfl,rfl,rfl⟩;refine qa ?_;intros;refine qb rfl (fun h1=>?_) (fun h1=>?_)
 ·have h1:=qG h1;obtain⟨p,hp⟩:∃p,ps[k]?=some p:=⟨_,zge oM⟩;have hsp:=t8 hp;have hkp:=hk p (zmg hp);have hdr:ps.drop k=p::ps.drop (k+1):=by
   obtain⟨hi,e⟩:=zgs hp;rw [List.drop_eq_getElem_cons hi,e]
  rw [hdr,Xr] at hdd;refine qa ?_;intros;refine qj rfl rfl hkp ?_;rintro _ rfl;refine qa ?_;intros;have hmm:max (dd:Int) (p.2:Int)=((max dd p.2:Nat):Int):=by omega
  refine⟨m-1,oM,_,_,_,[],?wk,k+1,max dd p.2,oM,oM,rfl,rfl,rfl⟩
  case wk=>
   exact⟨by repeat (first|exact trivial|refine⟨by first|rfl|exact A9 oM oM|exact congrArg (fun z=>some (DV.int z)) hmm,rfl,?_⟩),trivial,rfl,rfl⟩
 ·have h1:=qQ h1;have hk:k=ps.length:=by omega
  subst hk;rw [List.drop_length,Xr] at hdd;refine qa ?_;intros;exact qc ⟨_,rfl,rfl,by rw [qg (by omega) (by omega),show dd=Xr ps by omega];rfl⟩
mutual
theorem tA{f:List (Int × Int)}(hf:f.length<1000):∀(t:Tr),t.ok->t.dep<100->∀(i:Nat) (rest:List (Int × Int)),f.drop i=t.fl++rest->DK 114 [xX f,.int i] fun r=>r=.int t.dep
 |.nd op n cs,h,hd,i,rest,e=>by
  have hop:=Vo hf h e;have hcl:cs.length<100:=by unfold Tr.ok at h;exact h.2.2.2.1
  have hc:Xo cs:=by unfold Tr.ok at h;exact KI h.2.2.2.2
  unfold Tr.dep at hd;rw [Tr.fl,List.cons_append] at e;have hk:=tB hf cs hc oM (i+1) rest (jK e).2;have:=DZ (by rw [vX];omega) (by rw [Ji];omega) hop hk;rw [Ji] at this;rw [Tr.dep];exact this
theorem tB{f:List (Int × Int)}(hf:f.length<1000):∀(cs:List Tr),Xo cs->j6 cs<100->∀(a:Nat) (rest:List (Int × Int)),f.drop a=xp cs++rest->∀p∈yg a cs,DK 114 [xX f,.int p.1] fun r=>r=.int p.2
 |[],_,_,a,rest,_=>fun p hp=>by rw [yg] at hp;cases hp
 |t::r,h,hd,a,rest,e=>fun p hp=>by
  rw [yg] at hp;rw [j6] at hd;rw [xp,List.append_assoc] at e;rcases List.mem_cons.1 hp with rfl|hp
  ·exact tA hf t (h t (List.mem_cons_self ..)) oM a _ e
  ·exact tB hf r (fun x hx=>h x (List.mem_cons_of_mem _ hx)) oM (a+t.fl.length) rest (XE e) p hp
end
theorem DL{f:List (Int × Int)}(hf:f.length<1000){op n:Int}{x y:Tr}(h:(Tr.nd op n [x,y]).ok)(ho:2<=op/\op<=5){i:Nat}{rest:List (Int × Int)}(e:f.drop i=(Tr.nd op n [x,y]).fl++rest):DK 113 [xX f,.int i] fun r=>r=.bool true:=by
 have hop:=Vo hf h e;unfold Tr.ok yA yA at h;obtain⟨g1,g2,g3,g4,a0,o0,a1,o1,_⟩:=h;rw [Tr.fl,List.cons_append] at e;have hd:=jK e;have hd2:=hd.2;rw [xp,xp,xp,List.append_nil,List.append_assoc] at hd2;obtain⟨n0,hx⟩:=Tr.root hd2;obtain⟨n1,hy⟩:=Tr.root (XE hd2);have hsi:=j3 hd.1;have hsx:=j3 hx;have hsy:=j3 hy;have hil:i<f.length:=(zgs hd.1).1;have hxl:i+1<f.length:=(zgs hx).1;have hyl:i+1+x.fl.length<f.length:=(zgs hy).1;simp only [yg] at hop;have hk0:qT ([(i+1,x.dep),(i+1+x.fl.length,y.dep)].flatMap kE) (0*1) 1=some (kE (i+1,x.dep)):=rfl;have hk1:qT ([(i+1,x.dep),(i+1+x.fl.length,y.dep)].flatMap kE) (1*1) 1=some (kE (i+1+x.fl.length,y.dep)):=rfl;have hpo:=V2 g1;have hpx:=V2 (Tr.ok_op o0);have hpy:=V2 (Tr.ok_op o1);unfold vD at a0 a1;rw [if_pos ho,if_pos (by decide)] at a0;rw [if_pos ho,if_neg (by decide)] at a1;have ec:op=2\/op=3\/op=4\/op=5:=by omega
 rcases ec with rfl|rfl|rfl|rfl
 all_goals
  refine qI fun Z0 lo=>?_;refine qa ?_;intros;refine qj rfl rfl hop ?_;rintro _ rfl;refine qa ?_;intros
  repeat (first|(refine qb (t:=false) rfl (fun h=>by cases h) (fun _=>?_);refine qa ?_;intros)|(refine qb (t:=true) rfl (fun _=>?_) (fun h=>by cases h);refine qa ?_;intros))
  refine qj rfl rfl hpo ?_;rintro _ rfl;refine qa ?_;intros;refine xU (j:=0) (q:=kE (i+1,x.dep)) rfl rfl (by simp) (by decide) hk0 ?_;refine qa ?_;intros;refine qj rfl rfl hpx ?_;rintro _ rfl;refine qa ?_;intros;simp only [a0];refine qa ?_;intros;refine xU (j:=1) (q:=kE (i+1+x.fl.length,y.dep)) rfl rfl (by simp) (by decide) hk1 ?_;refine qa ?_;intros;refine qj rfl rfl hpy ?_;rintro _ rfl;refine qa ?_;intros;exact qc ⟨_,rfl,rfl,congrArg (fun z=>DV.bool z) a1⟩
theorem Dh{cs:List Tr}:∀{j:Nat},yA 12 j cs->∀t∈cs,t.op=0:=by
 induction cs with
 |nil=>intro j _ t ht;cases ht
 |cons c cs ih=>
  intro j h t ht;unfold yA at h;rcases List.mem_cons.1 ht with rfl|ht
  ·have:=h.1;unfold vD at this;rw [if_neg (by decide),if_pos rfl] at this;exact qG this
  ·exact ih h.2.2 t ht
theorem fV{f:List (Int × Int)}:∀{cs:List Tr} {a:Nat} {rest:List (Int × Int)},f.drop a=xp cs++rest->∀p∈yg a cs,∃t∈cs,∃n,f[p.1]?=some (t.op,n)
 |[],a,rest,_,p,hp=>by rw [yg] at hp;cases hp
 |t::r,a,rest,e,p,hp=>by
  rw [yg] at hp;rw [xp,List.append_assoc] at e;rcases List.mem_cons.1 hp with rfl|hp
  ·obtain⟨n,h⟩:=Tr.root e;exact⟨t,List.mem_cons_self ..,n,h⟩
  ·obtain⟨t',h1,h2⟩:=fV (XE e) p hp;exact⟨t',List.mem_cons_of_mem _ h1,h2⟩
theorem AQ{f:List (Int × Int)}(hf:f.length<1000){n:Int}{cs:List Tr}(h:(Tr.nd 12 n cs).ok){i:Nat}{rest:List (Int × Int)}(e:f.drop i=(Tr.nd 12 n cs).fl++rest):DK 113 [xX f,.int i] fun r=>r=.bool true:=by
 have hop:=Vo hf h e;unfold Tr.ok at h;obtain⟨g1,g2,g3,g4,g5⟩:=h;rw [Tr.fl,List.cons_append] at e;have hd:=jK e;have hsi:=j3 hd.1;have hil:i<f.length:=(zgs hd.1).1;have hall:∀p∈yg (i+1) cs,∃m,f[p.1]?=some (0,m):=fun p hp=>by
  obtain⟨t,ht,m,hm⟩:=fV hd.2 p hp;rw [Dh g5 t ht] at hm;exact⟨m,hm⟩
 have hkl:=vX (i+1) cs;generalize yg (i+1) cs=ps at *;refine qI fun Z0 lo=>?_;refine qa ?_;intros;refine qj rfl rfl hop ?_;rintro _ rfl;refine qa ?_;intros
 repeat (first|(refine qb (t:=false) rfl (fun h=>by cases h) (fun _=>?_);refine qa ?_;intros)|(refine qb (t:=true) rfl (fun _=>?_) (fun h=>by cases h);refine qa ?_;intros))
 refine qm (fun m E S nk=>∃k:Nat,k+m=ps.length/\E=[(0,xX f),(5,KR ps),(7,.int k)]/\S=[]/\nk=0)
  ⟨ps.length,_,_,_,[],?wk,0,oM,rfl,rfl,rfl⟩ ?_
 case wk=>exact ql
 rintro m E S nk ⟨k,hkm,rfl,rfl,rfl⟩;refine qa ?_;intros;refine qb rfl (fun h1=>?_) (fun h1=>?_)
 ·have h1:=qG h1;obtain⟨p,hp⟩:∃p,ps[k]?=some p:=⟨_,zge oM⟩;have hsp:=t8 hp;obtain⟨mm,hm⟩:=hall p (zmg hp);have hsn:=j3 hm;have hpl:p.1<f.length:=(zgs hm).1;refine qa ?_;intros;refine qb (t:=false) rfl (fun h=>by cases h) (fun _=>?_);refine qa ?_;intros;refine⟨m-1,oM,_,_,_,[],?wk,k+1,oM,rfl,rfl,rfl⟩
  case wk=>exact ql
 ·refine qa ?_;intros;exact qc ⟨_,rfl,rfl,rfl⟩
theorem DM{f:List (Int × Int)}(hf:f.length<1000){op n:Int}{cs:List Tr}(h:(Tr.nd op n cs).ok)(ho:op=0\/op=1\/op=6\/op=7\/op=8\/op=9\/op=10\/op=11\/op=13){i:Nat}{rest:List (Int × Int)}(e:f.drop i=(Tr.nd op n cs).fl++rest):DK 113 [xX f,.int i] fun r=>r=.bool true:=by
 have hop:=Vo hf h e;rw [Tr.fl,List.cons_append] at e;have hd:=jK e;have hsi:=j3 hd.1;have hil:i<f.length:=(zgs hd.1).1;rcases ho with rfl|rfl|rfl|rfl|rfl|rfl|rfl|rfl|rfl
 all_goals
  refine qI fun Z0 lo=>?_;refine qa ?_;intros;refine qj rfl rfl hop ?_;rintro _ rfl;refine qa ?_;intros
  repeat (first|(refine qb (t:=false) rfl (fun h=>by cases h) (fun _=>?_);refine qa ?_;intros)|(refine qb (t:=true) rfl (fun _=>?_) (fun h=>by cases h);refine qa ?_;intros))
  exact qc ⟨_,rfl,rfl,rfl⟩
theorem LN{f:List (Int × Int)}(hf:f.length<1000){t:Tr}(h:t.ok){i:Nat}{rest:List (Int × Int)}(e:f.drop i=t.fl++rest):DK 113 [xX f,.int i] fun r=>r=.bool true:=by
 match t,h,e with
 |.nd op n cs,h,e=>
  have h':=h;unfold Tr.ok at h';obtain⟨g1,g2,g3,g4,g5⟩:=h';by_cases h12:op=12
  ·subst h12;exact AQ hf h e
  ·by_cases h25:2<=op/\op<=5
   ·have hl:cs.length=2:=by
     unfold yr at g3;rw [if_neg (by omega),if_neg (by omega),if_pos (by omega)] at g3;have:=congrArg Prod.fst g3;simp only at this;omega
    match cs,hl,h,e with
    |[x,y],_,h,e=>exact DL hf h h25 e
   ·exact DM hf h oM e
mutual
theorem FM:∀(t:Tr),t.ok->∀k,k<t.fl.length->∃s:Tr,s.ok/\∃r,t.fl.drop k=s.fl++r
 |.nd op n cs,h,k,hk=>by
  cases k with
  |zero=>exact⟨.nd op n cs,h,[],by rw [List.drop_zero,List.append_nil]⟩
  |succ k=>
   have hc:Xo cs:=by unfold Tr.ok at h;exact KI h.2.2.2.2
   rw [Tr.fl,List.length_cons] at hk;obtain⟨s,hs,r,e⟩:=r6 cs hc k oM;exact⟨s,hs,r,by rw [Tr.fl,List.drop_succ_cons,e]⟩
theorem r6:∀(cs:List Tr),Xo cs->∀k,k<(xp cs).length->∃s:Tr,s.ok/\∃r,(xp cs).drop k=s.fl++r
 |[],_,k,hk=>by simp [xp] at hk
 |t::cs,h,k,hk=>by
  rw [xp,List.length_append] at hk;by_cases hl:k<t.fl.length
  ·obtain⟨s,hs,r,e⟩:=FM t (h t (List.mem_cons_self ..)) k hl;exact⟨s,hs,r++xp cs,by rw [xp,List.drop_append_of_le_length (by omega),e,List.append_assoc]⟩
  ·obtain⟨s,hs,r,e⟩:=r6 cs (fun x hx=>h x (List.mem_cons_of_mem _ hx)) (k-t.fl.length) oM;refine⟨s,hs,r,?_⟩;rw [xp,<-e,show k=t.fl.length+(k-t.fl.length) by omega,<-List.drop_drop,List.drop_left,show t.fl.length+(k-t.fl.length)-t.fl.length=k-t.fl.length by omega]
end
theorem TP{t:Tr}(h:t.ok)(hl:t.fl.length<=200):DK 78 [xX t.fl] fun r=>r=.bool true:=by
 have hpos:=List.length_pos_iff.2 t.fl_ne;have hen:=GG (f:=t.fl) (by omega) h (i:=0) (rest:=[]) (by rw [List.drop_zero,List.append_nil]);rw [Nat.zero_add] at hen;have e7:((t.fl.length:Int)==0)=false:=by rw [beq_eq_false_iff_ne];omega
 have e11:decide ((t.fl.length:Int)>200)=false:=decide_eq_false oM;refine qI fun Z0 lo=>?_;refine qa ?_;intros;simp only [e7];refine qa ?_;intros;simp only [e11];refine qa ?_;intros;refine qj rfl rfl hen ?_;rintro _ rfl;refine qa ?_;intros;refine qb (t:=false) (congrArg (fun z=>some (DV.bool z)) (by simp)) (fun h=>by cases h) (fun _=>?_);refine qa ?_;intros;refine qm (fun m E S nk=>∃k:Nat,k+m=t.fl.length/\E=[(0,xX t.fl),(3,.int k)]/\S=[]/\nk=0)
  ⟨t.fl.length,_,_,_,[],?wk,0,oM,rfl,rfl,rfl⟩ ?_
 case wk=>exact ql
 rintro m E S nk ⟨k,hkm,rfl,rfl,rfl⟩;refine qa ?_;intros;refine qb rfl (fun h1=>?_) (fun h1=>?_)
 ·have h1:=qG h1;obtain⟨s,hs,r,e⟩:=FM t h k oM;have hsd:=LN (f:=t.fl) oM hs e;refine qa ?_;intros;refine qj rfl rfl hsd ?_;rintro _ rfl;refine qa ?_;intros;refine qb (t:=false) rfl (fun h=>by cases h) (fun _=>?_);refine qa ?_;intros;refine⟨m-1,oM,_,_,_,[],?wk,k+1,oM,rfl,rfl,rfl⟩
  case wk=>exact ql
 ·refine qa ?_;intros;exact qc ⟨_,rfl,rfl,rfl⟩
theorem D0{t:Tr}(h:t.ok)(hl:t.fl.length<1000)(hd:t.dep<100):DK 79 [xX t.fl] fun r=>r=.int t.dep:=by
 have hm:=tA (f:=t.fl) hl t h hd 0 [] (by rw [List.drop_zero,List.append_nil]);refine qI fun Z0 lo=>?_;refine qa ?_;intros;refine qj rfl rfl hm ?_;rintro _ rfl;refine qa ?_;intros;exact qc ⟨_,rfl,rfl,rfl⟩
theorem bY{t:Tr}(h:t.ok)(hl:t.fl.length<1000)(hd:t.dep<=8):DK 44 [xX t.fl] fun r=>r=.bool (decide (t.fl.length<=60)):=by
 refine qI fun Z0 lo=>?_;by_cases h6:t.fl.length<=60
 ·have e5:decide ((t.fl.length:Int)<=60)=true:=decide_eq_true oM;have e8:decide ((t.dep:Int)<=8)=true:=decide_eq_true oM;refine qa ?_;intros;simp only [e5];refine qa ?_;intros;refine qj rfl rfl (TP h oM) ?_;rintro _ rfl;refine qa ?_;intros;refine qj rfl rfl (D0 h hl oM) ?_;rintro _ rfl;refine qa ?_;intros;exact qc ⟨_,rfl,rfl,congrArg (fun z=>DV.bool z) (by rw [decide_eq_true h6];exact e8)⟩
 ·have e5:decide ((t.fl.length:Int)<=60)=false:=decide_eq_false oM;refine qa ?_;intros;simp only [e5];refine qa ?_;intros;exact qc ⟨_,rfl,rfl,congrArg (fun z=>DV.bool z) (by rw [decide_eq_false h6])⟩
abbrev j5(n:Nat):Tr:=.nd 0 n []
abbrev YU(n:Nat):Tr:=.nd 1 (n % 26:Nat) []
def jE(k n:Nat):Tr:=match k % 8 with
 |1=>YU n
 |2=>.nd 2 0 [YU n,j5 n]
 |3=>.nd 3 0 [j5 n,YU n]
 |4=>.nd 4 0 [j5 n,YU n]
 |5=>.nd 7 0 [YU n,j5 n]
 |6=>.nd 9 0 [.nd 10 0 [.nd 2 0 [YU n,j5 n]]]
 |7=>.nd 6 0 [j5 n,YU n]
 |_=>j5 n
theorem eX{n:Nat}(h:n<=99999):(j5 n).ok:=by
 unfold Tr.ok yA;refine⟨by omega,by omega,?_,by simp,trivial⟩;unfold yr;rw [if_pos rfl,decide_eq_true (by omega),decide_eq_true (by omega)];rfl
theorem M5(n:Nat):(YU n).ok:=by
 unfold Tr.ok yA;refine⟨by omega,by omega,?_,by simp,trivial⟩;unfold yr;rw [if_neg (by decide),if_pos rfl,decide_eq_true (by omega),decide_eq_true (by omega)];rfl
theorem Zu{op:Int}{x y:Tr}(ho:2<=op/\op<=8)(hx:x.ok)(hy:y.ok)(h0:vD op 0 x.op=true)(h1:vD op 1 y.op=true):(Tr.nd op 0 [x,y]).ok:=by
 unfold Tr.ok yA yA yA;refine⟨by omega,by omega,?_,by simp,h0,hx,h1,hy,trivial⟩;unfold yr;rw [if_neg (by omega),if_neg (by omega),if_pos (by omega)];rfl
theorem tK{op:Int}{x:Tr}(ho:9<=op/\op<=11)(hx:x.ok)(h0:vD op 0 x.op=true):(Tr.nd op 0 [x]).ok:=by
 unfold Tr.ok yA yA;refine⟨by omega,by omega,?_,by simp,h0,hx,trivial⟩;unfold yr;rw [if_neg (by omega),if_neg (by omega),if_neg (by omega),if_pos (by omega)];rfl
theorem AD(k:Nat){n:Nat}(h:n<=99999):(jE k n).ok:=by
 have hn:=eX h;have hv:=M5 n;unfold jE;split
 ·exact hv
 ·exact Zu oM hv hn rfl rfl
 ·exact Zu oM hn hv rfl rfl
 ·exact Zu oM hn hv rfl rfl
 ·exact Zu oM hv hn rfl rfl
 ·exact tK oM (tK oM (Zu oM hv hn rfl rfl) rfl) rfl
 ·exact Zu oM hn hv rfl rfl
 ·exact hn
theorem nB(k n:Nat):(jE k n).dep<=4:=by
 unfold jE;split<;>simp [Tr.dep,j6]
theorem We(k n:Nat):(jE k n).fl.length<=5:=by
 unfold jE;split<;>simp [Tr.fl,xp]
def C4(k n:Nat):List (Int × Int):=match k % 8 with
 |1=>[(1,(n % 26:Nat))]
 |2=>[(2,0),(1,(n % 26:Nat)),(0,n)]
 |3=>[(3,0),(0,n),(1,(n % 26:Nat))]
 |4=>[(4,0),(0,n),(1,(n % 26:Nat))]
 |5=>[(7,0),(1,(n % 26:Nat)),(0,n)]
 |6=>[(9,0),(10,0),(2,0),(1,(n % 26:Nat)),(0,n)]
 |7=>[(6,0),(0,n),(1,(n % 26:Nat))]
 |_=>[(0,n)]
theorem LB(k n:Nat):C4 k n=(jE k n).fl:=by
 unfold C4 jE;split<;>simp [Tr.fl,xp]
theorem Wl{k n:Nat}(hk:k<256)(hn:n<256):DK 98 [.one (.f (.c (.int .u8 k))),.one (.f (.c (.int .u8 n)))] fun r=>r=xX (jE k n).fl:=by
 rw [<-LB];have hw1:IntKind.i64.wrap (n:Int)=n:=qg oM oM;have hw2:IntKind.i64.wrap ((n:Int).tmod 26)=((n % 26:Nat):Int):=by
  rw [show (26:Int)=((26:Nat):Int) from rfl,<-Int.ofNat_tmod];have:n % 26<=n:=Nat.mod_le _ _;exact qg oM oM
 have hm:(k:Int).tmod 8=((k % 8:Nat):Int):=(Int.ofNat_tmod k 8).symm;have h8:k % 8<8:=Nat.mod_lt _ (by decide);have ec:k % 8=0\/k % 8=1\/k % 8=2\/k % 8=3\/k % 8=4\/k % 8=5\/k % 8=6\/k % 8=7:=by omega
 rcases ec with e|e|e|e|e|e|e|e
 all_goals
  rw [e] at hm;refine qI fun Z0 lo=>?_;refine qa ?_;intros;simp only [hm]
  repeat (first|(refine qb (t:=false) rfl (fun h=>by cases h) (fun _=>?_);refine qa ?_;intros)|(refine qb (t:=true) rfl (fun _=>?_) (fun h=>by cases h);refine qa ?_;intros))
  refine qH 2 rfl qD qD ?_;exact qc ⟨_,rfl,rfl,by simp only [C4,e,hw1,hw2];rfl⟩
structure RawF where
 kind:Nat
 n:Nat
 l:List (Nat × Nat)
def iG(p:Nat × Nat):List FD:=[.c (.int .u8 p.1),.c (.int .u8 p.2)]
def FQ(x:RawF):List FD:=[.c (.int .u8 x.kind),.c (.int .u8 x.n),.sl 2 x.l.length (x.l.flatMap iG)]
structure RawF.ok (x:RawF):Prop where
 k:x.kind<256
 n:x.n<256
 l:∀p∈x.l,p.1<256/\p.2<256
 len:x.l.length<9223372036854775808
def RawF.at_(x:RawF)(i:Nat):Nat × Nat:=x.l.getD i (0,0)
theorem RawF.ok.at_{x:RawF}(h:x.ok)(i:Nat):(x.at_ i).1<256/\(x.at_ i).2<256:=by
 unfold RawF.at_;rw [List.getD_eq_getElem?_getD];cases hi:x.l[i]? with
 |none=>exact⟨by decide,by decide⟩
 |some p=>exact h.l p (zmg hi)
theorem Dg{l:List (Nat × Nat)}{i:Nat}{x:Nat × Nat}(h:l[i]?=some x):qT (l.flatMap iG) (i*2) 2=some (iG x):=zC (f:=iG) (e:=2) (fun _=>rfl) h
def RawF.ent(x:RawF)(i:Nat):Tr:=if x.kind % 4=0 then j5 ((x.at_ i).1*(x.at_ i).2) else jE (x.at_ i).1 (x.at_ i).2
def RawF.ents(x:RawF)(n:Nat):List Tr:=(List.range n).map x.ent
theorem bU(x:RawF)(k:Nat):x.ents (k+1)=x.ents k++[x.ent k]:=by
 unfold RawF.ents;rw [List.range_succ,List.map_append];rfl
theorem v8(x:RawF)(k:Nat):(x.ents k).length=k:=by simp [RawF.ents]
theorem J4(n:Nat):(j5 n).fl.length=1:=by simp [Tr.fl,xp]
theorem C5(x:RawF)(i:Nat):(x.ent i).fl.length<=5:=by
 unfold RawF.ent;split
 ·rw [J4];omega
 ·exact We _ _
theorem LA(x:RawF)(k:Nat):(xp (x.ents k)).length<=5*k:=by
 induction k with
 |zero=>simp [RawF.ents,xp]
 |succ k ih=>
  rw [bU,kN,List.length_append,xp,xp,List.append_nil];have:=C5 x k;omega
theorem lV{a b:Nat}(ha:a<256)(hb:b<256):a*b<=255*255:=Nat.mul_le_mul oM oM
theorem N7(l:List (Int × Int)):(l.flatMap jP).length=l.length*2:=zO (f:=jP) (fun _=>rfl) l
abbrev FR(x:RawF):Bk:=.cells ((FQ x).map .f)
theorem VR{x:RawF}(hx:x.ok){root:Int × Int}{n:Nat}(hn:n<=16){t:Tr}(ht:t.ok)(hd:t.dep<=8)(hfl:t.fl=root::xp (x.ents n)){Z0:Nat->Prop}{lo:Nat}:
 DPS (Par.base Tryz.prog 7 (H00 1) Z0 lo) uS.n (.loop F9) (iH 1 (oI (DPS (Par.base Tryz.prog 7 (H00 1) Z0 lo) uS.n (.seq (.ops uR 0 true) (.seq (.seq (.ops uQ 0 true) (.cond (.t 97) (.seq (.ops uP 0 true) .ret) .skip)) (.seq (.ops uO 0 true) .ret)))
  (Y5 (Par.base Tryz.prog 7 (H00 1) Z0 lo) uS.res fun r=>r=xX (if t.fl.length<=60 then t else j5 x.n).fl))
  (Y5 (Par.base Tryz.prog 7 (H00 1) Z0 lo) uS.res fun r=>r=xX (if t.fl.length<=60 then t else j5 x.n).fl)))
  [(1,.one (.ptr 0 0)),(3,.one (.own 1 0 1 2)),(4,.int n),(7,.int 0)] [(1,.data (jP root)),(0,FR x)] 2:=by
 refine qm (fun m E S nk=>∃(k ln:Nat),k+m=n/\ln=(root::xp (x.ents k)).length/\E=[(1,.one (.ptr 0 0)),(3,.one (.own 1 0 ln 2)),(4,.int n),(7,.int k)]/\S=[(1,.data ((root::xp (x.ents k)).flatMap jP)),(0,FR x)]/\nk=2)
  ⟨n,_,_,_,[],?wk,0,1,oM,rfl,rfl,rfl,rfl⟩ ?_
 case wk=>exact ql
 rintro m E S nk ⟨k,ln,hkm,hln,rfl,rfl,rfl⟩;have hle:=LA x k;have hll:ln=(xp (x.ents k)).length+1:=by rw [hln,List.length_cons]
 have hnf:=N7 (root::xp (x.ents k));rw [<-hln] at hnf;refine qa ?_;intros;refine qb rfl (fun h1=>?_) (fun h1=>?_)
 ·have h1:=qG h1;have hat:=hx.at_ k;have hk4:(x.kind:Int).tmod 4=((x.kind % 4:Nat):Int):=(Int.ofNat_tmod x.kind 4).symm;have hstep:∀(e:Tr) (c:List FD),x.ent k=e->c=e.fl.flatMap jP->(root::xp (x.ents k)).flatMap jP++c=(root::xp (x.ents (k+1))).flatMap jP/\ln+e.fl.length=(root::xp (x.ents (k+1))).length:=fun e c he hc=>by
   rw [bU,kN,xp,xp,List.append_nil,he,hc,<-List.flatMap_append,List.cons_append];exact⟨rfl,by rw [hll,List.length_cons,List.length_append];omega⟩
  refine qa ?_;intros;refine qb (t:=decide ((k:Int)<x.l.length)) rfl (fun h2=>?_) (fun h2=>?_)
  ·have h2:=qG h2;obtain⟨p,hp⟩:∃p,x.l[k]?=some p:=⟨_,zge oM⟩;have hsp:=Dg hp;have hpa:x.at_ k=p:=by unfold RawF.at_;rw [List.getD_eq_getElem?_getD,hp];rfl
   rw [hpa] at hat;have hpl:=lV hat.1 hat.2;refine qa ?_;intros;refine qb (t:=((x.kind:Int).tmod 4==0)) rfl (fun h3=>?_) (fun h3=>?_)
   ·have h3:x.kind % 4=0:=by rw [hk4] at h3;have:=eq_of_beq h3;omega
    have hent:x.ent k=j5 (p.1*p.2):=by unfold RawF.ent;rw [if_pos h3,hpa]
    have hwp:IntKind.i64.wrap (IntKind.i64.wrap (p.1:Int)*IntKind.i64.wrap (p.2:Int))=((p.1*p.2:Nat):Int):=by
     rw [qg (n:=(p.1:Int)) (by omega) (by omega),qg (n:=(p.2:Int)) (by omega) (by omega),<-Int.natCast_mul];exact qg oM oM
    obtain⟨hdat,hnl⟩:=hstep _ [FD.c (.int .i64 0),FD.c (.int .i64 (IntKind.i64.wrap (IntKind.i64.wrap (p.1:Int)*IntKind.i64.wrap (p.2:Int))))] hent (by rw [hwp];simp [Tr.fl,xp,jP]);rw [J4] at hnl;refine qa ?_;intros;refine qy (q:=[FD.c (.int .i64 0),FD.c (.int .i64 (IntKind.i64.wrap (IntKind.i64.wrap (p.1:Int)*IntKind.i64.wrap (p.2:Int))))]) rfl rfl rfl (qp _ hnf) ⟨rfl,rfl,_,rfl,rfl⟩ oM oM (by decide) rfl ?_;refine qa ?_;intros;refine⟨m-1,oM,_,_,_,[(1,4)],?wk,k+1,ln+1,oM,hnl,rfl,rfl,rfl⟩
    case wk=>exact ql
   ·have h3:¬x.kind % 4=0:=by rw [hk4] at h3;have:=ne_of_beq_false h3;omega
    have hent:x.ent k=jE p.1 p.2:=by unfold RawF.ent;rw [if_neg h3,hpa]
    obtain⟨hdat,hnl⟩:=hstep _ _ hent rfl;have hel:=We p.1 p.2;refine qa ?_;intros;refine qj rfl rfl (Wl hat.1 hat.2) ?_;rintro _ rfl;refine qa ?_;intros;refine qy (m:=(jE p.1 p.2).fl.length) (q:=(jE p.1 p.2).fl.flatMap jP) rfl rfl rfl (qp _ hnf) ⟨rfl,rfl,rfl⟩ oM oM (by decide) rfl ?_;refine qa ?_;intros;refine⟨m-1,oM,_,_,_,[(1,3)],?wk,k+1,ln+(jE p.1 p.2).fl.length,oM,hnl,rfl,rfl,rfl⟩
    case wk=>exact ql
  ·have h2:=qQ h2;have hpa:x.at_ k=(0,0):=by unfold RawF.at_;rw [List.getD_eq_getElem?_getD,List.getElem?_eq_none (by omega)];rfl
   refine qa ?_;intros;refine qb (t:=((x.kind:Int).tmod 4==0)) rfl (fun h3=>?_) (fun h3=>?_)
   ·have h3:x.kind % 4=0:=by rw [hk4] at h3;have:=eq_of_beq h3;omega
    have hent:x.ent k=j5 0:=by unfold RawF.ent;rw [if_pos h3,hpa];rfl
    obtain⟨hdat,hnl⟩:=hstep _ [FD.c (.int .i64 0),FD.c (.int .i64 (IntKind.i64.wrap (IntKind.i64.wrap 0*IntKind.i64.wrap 0)))] hent (by simp [Tr.fl,xp,jP];rfl);rw [J4] at hnl;refine qa ?_;intros;refine qy (q:=[FD.c (.int .i64 0),FD.c (.int .i64 (IntKind.i64.wrap (IntKind.i64.wrap 0*IntKind.i64.wrap 0)))]) rfl rfl rfl (qp _ hnf) ⟨rfl,rfl,_,rfl,rfl⟩ oM oM (by decide) rfl ?_;refine qa ?_;intros;refine⟨m-1,oM,_,_,_,[(1,4)],?wk,k+1,ln+1,oM,hnl,rfl,rfl,rfl⟩
    case wk=>exact ql
   ·have h3:¬x.kind % 4=0:=by rw [hk4] at h3;have:=ne_of_beq_false h3;omega
    have hent:x.ent k=jE 0 0:=by unfold RawF.ent;rw [if_neg h3,hpa]
    obtain⟨hdat,hnl⟩:=hstep _ _ hent rfl;have hel:=We 0 0;refine qa ?_;intros;refine qj rfl rfl (Wl (k:=0) (n:=0) (by decide) (by decide)) ?_;rintro _ rfl;refine qa ?_;intros;refine qy (m:=(jE 0 0).fl.length) (q:=(jE 0 0).fl.flatMap jP) rfl rfl rfl (qp _ hnf) ⟨rfl,rfl,rfl⟩ oM oM (by decide) rfl ?_;refine qa ?_;intros;refine⟨m-1,oM,_,_,_,[(1,3)],?wk,k+1,ln+(jE 0 0).fl.length,oM,hnl,rfl,rfl,rfl⟩
    case wk=>exact ql
 ·have h1:=qQ h1;have hk:k=n:=by omega
  subst hk;rw [<-hfl] at hln hnf;have hv:=bY ht oM hd;rw [<-hfl];have hn2:=hx.n;by_cases h6:t.fl.length<=60
  ·rw [decide_eq_true h6] at hv;rw [if_pos h6];refine qH 1 rfl qD qD ?_;refine qa ?_;intros;rw [hln];refine qj rfl rfl hv ?_;rintro _ rfl;refine qa ?_;intros;refine qb (t:=false) rfl (fun h=>by cases h) (fun _=>?_);refine qa ?_;intros;exact qc ⟨_,rfl,rfl,rfl⟩
  ·rw [decide_eq_false h6] at hv;rw [if_neg h6];refine qH 1 rfl qD qD ?_;refine qa ?_;intros;rw [hln];refine qj rfl rfl hv ?_;rintro _ rfl;refine qa ?_;intros;refine qb (t:=true) rfl (fun _=>?_) (fun h=>by cases h);refine qa ?_;intros;refine qj rfl rfl (Wl (k:=0) (n:=x.n) (by decide) hn2) ?_;rintro _ rfl;refine qa ?_;intros;exact qc ⟨_,rfl,rfl,rfl⟩
theorem KH{op:Int}:∀{cs:List Tr} {j:Nat},(∀t∈cs,t.ok/\∀j:Nat,vD op j t.op=true)->yA op j cs
 |[],_,_=>by unfold yA;trivial
 |c::cs,j,h=>by
  unfold yA;exact⟨(h c (List.mem_cons_self ..)).2 j,(h c (List.mem_cons_self ..)).1,KH fun t ht=>h t (List.mem_cons_of_mem _ ht)⟩
theorem nK{d:Nat}:∀{cs:List Tr},(∀t∈cs,t.dep<=d)->j6 cs<=d
 |[],_=>by rw [j6];omega
 |c::cs,h=>by
  have h1:=h c (List.mem_cons_self ..);have h2:=nK (d:=d) (cs:=cs) fun t ht=>h t (List.mem_cons_of_mem _ ht);rw [j6];omega
theorem Yg{x:RawF}{n:Nat}{t:Tr}(h:t∈x.ents n):∃i,t=x.ent i:=by
 obtain⟨i,_,rfl⟩:=List.mem_map.1 h;exact⟨i,rfl⟩
theorem V1{x:RawF}(hx:x.ok)(i:Nat):(x.ent i).ok:=by
 have ha:=hx.at_ i;have hp:=lV ha.1 ha.2;unfold RawF.ent;split
 ·exact eX oM
 ·exact AD _ oM
theorem C6(x:RawF)(i:Nat):(x.ent i).dep<=4:=by
 unfold RawF.ent;split
 ·simp [Tr.dep,j6]
 ·exact nB _ _
def vJ(x:RawF):Tr:=
 if x.kind % 4=0 then .nd 12 (x.n % 4+2:Nat) (x.ents (x.n % 4+3))
 else if x.kind % 4=1 then .nd 13 (8*(x.n % 4+1)+(x.n/4 % 4+1):Nat) (x.ents ((x.n % 4+1)*(x.n/4 % 4+1)))
 else .nd 6 0 (x.ents 2)
def wg(x:RawF):Tr:=if x.kind % 4=3 then jE x.n (x.n/8) else if (vJ x).fl.length<=60 then vJ x else j5 x.n
theorem tP{op n:Int}{x:RawF}{k:Nat}:(Tr.nd op n (x.ents k)).dep<=5:=by
 have:=nK (d:=4) (cs:=x.ents k) fun t ht=>by obtain⟨i,rfl⟩:=Yg ht;exact C6 x i
 rw [Tr.dep];omega
theorem mP(x:RawF):(vJ x).dep<=5:=by
 unfold vJ;split
 ·exact tP
 ·split<;>exact tP
theorem K5{x:RawF}(hx:x.ok):(vJ x).ok:=by
 unfold vJ;split
 ·rename_i h0;unfold Tr.ok;refine⟨by omega,by omega,?_,by rw [v8];omega,KH fun t ht=>?_⟩
  ·rw [v8];unfold yr;rw [if_neg (by decide),if_neg (by decide),if_neg (by decide),if_neg (by decide),if_pos rfl,if_neg (by omega)];simp;omega
  ·obtain⟨i,rfl⟩:=Yg ht;refine⟨V1 hx i,fun j=>?_⟩;unfold RawF.ent;rw [if_pos h0];rfl
 ·split
  ·have h1:x.n % 4<4:=Nat.mod_lt _ (by decide);have h2:x.n/4 % 4<4:=Nat.mod_lt _ (by decide);generalize x.n % 4=r at *;generalize x.n/4 % 4=c at *;have hle:(r+1)*(c+1)<=4*4:=Nat.mul_le_mul oM oM;unfold Tr.ok;refine⟨by omega,by omega,?_,by rw [v8];omega,KH fun t ht=>?_⟩
   ·rw [v8];unfold yr;rw [if_neg (by decide),if_neg (by decide),if_neg (by decide),if_neg (by decide),if_neg (by decide),if_pos rfl,if_neg (by omega)];rw [show ((8*(r+1)+(c+1):Nat):Int)/8=((r+1:Nat):Int) by omega,show ((8*(r+1)+(c+1):Nat):Int) % 8=((c+1:Nat):Int) by omega,decide_eq_true (by omega),decide_eq_true (by omega),decide_eq_true (by omega),decide_eq_true (by omega),<-Int.natCast_mul];rfl
   ·obtain⟨i,rfl⟩:=Yg ht;exact⟨V1 hx i,fun j=>rfl⟩
  ·unfold Tr.ok;refine⟨by omega,by omega,?_,by rw [v8];omega,KH fun t ht=>?_⟩
   ·rw [v8];rfl
   ·obtain⟨i,rfl⟩:=Yg ht;exact⟨V1 hx i,fun j=>rfl⟩
theorem CY{x:RawF}(hx:x.ok):(wg x).ok/\(wg x).dep<=8/\(wg x).fl.length<=60:=by
 have hn:=hx.n;unfold wg;split
 ·have h1:=nB x.n (x.n/8);have h2:=We x.n (x.n/8);have:x.n/8<=x.n:=Nat.div_le_self _ _;exact⟨AD _ oM,oM,oM⟩
 ·split
  ·rename_i h;have:=mP x;exact⟨K5 hx,oM,h⟩
  ·exact⟨eX (by omega),by simp [Tr.dep,j6],by rw [J4];omega⟩
theorem M9{n q:Nat}(hn:n<256):IntKind.u8.wrap ((n:Int).tdiv (q:Int))=((n/q:Nat):Int):=by
 rw [<-Int.ofNat_tdiv];have:n/q<=n:=Nat.div_le_self _ _;generalize n/q=z at *;simp [IntKind.wrap,IntKind.signed,IntKind.bits];omega
theorem LX{x:RawF}(hx:x.ok):DK 69 [.agg ((FQ x).map .f)] fun r=>r=xX (wg x).fl:=by
 have hn:=hx.n;have hkm:(x.kind:Int).tmod 4=((x.kind % 4:Nat):Int):=(Int.ofNat_tmod x.kind 4).symm;have hnm:(x.n:Int).tmod 4=((x.n % 4:Nat):Int):=(Int.ofNat_tmod x.n 4).symm;have hn4:x.n % 4<4:=Nat.mod_lt _ (by decide);have hw4:IntKind.i64.wrap ((x.n:Int).tmod 4)=((x.n % 4:Nat):Int):=by rw [hnm];exact qg (by omega) (by omega)
 have hd5:=mP x;have ec:x.kind % 4=0\/x.kind % 4=1\/x.kind % 4=2\/x.kind % 4=3:=by omega
 rcases ec with e|e|e|e
 ·rw [e] at hkm;have hm:wg x=if (vJ x).fl.length<=60 then vJ x else j5 x.n:=by unfold wg;rw [if_neg (by omega)]
  have ht:vJ x=.nd 12 (x.n % 4+2:Nat) (x.ents (x.n % 4+3)):=by unfold vJ;rw [if_pos e]
  rw [hm];refine zy p9 rfl jm fun Z0 lo=>?_;refine qa ?_;intros;simp only [hkm];refine qa ?_;intros;refine qb (t:=true) rfl (fun _=>?_) (fun h=>by cases h);refine qa ?_;intros;have hN:IntKind.i64.wrap (3+IntKind.i64.wrap ((x.n:Int).tmod 4))=((x.n % 4+3:Nat):Int):=by rw [hw4,qg (by omega) (by omega)];omega
  have hW:IntKind.i64.wrap (IntKind.i64.wrap (3+IntKind.i64.wrap ((x.n:Int).tmod 4))-1)=((x.n % 4+2:Nat):Int):=by rw [hN,qg (by omega) (by omega)];omega
  refine wi [(1,2)] ?wk (VR hx (root:=(12,IntKind.i64.wrap (IntKind.i64.wrap (3+IntKind.i64.wrap ((x.n:Int).tmod 4))-1))) (n:=x.n % 4+3) (by omega) (K5 hx) (by omega) (by rw [ht,Tr.fl,hW]))
  case wk=>exact⟨by repeat (first|exact trivial|refine⟨by first|rfl|exact congrArg (fun z=>some (DV.int z)) hN,rfl,?_⟩),by repeat (first|exact trivial|refine⟨by rfl,rfl,rfl,?_⟩),rfl,rfl⟩
 ·rw [e] at hkm;have hm:wg x=if (vJ x).fl.length<=60 then vJ x else j5 x.n:=by unfold wg;rw [if_neg (by omega)]
  have ht:vJ x=.nd 13 (8*(x.n % 4+1)+(x.n/4 % 4+1):Nat) (x.ents ((x.n % 4+1)*(x.n/4 % 4+1))):=by unfold vJ;rw [if_neg (by omega),if_pos e]
  rw [hm];refine zy p9 rfl jm fun Z0 lo=>?_;refine qa ?_;intros;simp only [hkm];refine qa ?_;intros;refine qb (t:=false) rfl (fun h=>by cases h) (fun _=>?_);refine qa ?_;intros;refine qb (t:=true) rfl (fun _=>?_) (fun h=>by cases h);refine qa ?_;intros;have hc4:x.n/4 % 4<4:=Nat.mod_lt _ (by decide);have hu:IntKind.u8.wrap ((x.n:Int).tdiv 4)=((x.n/4:Nat):Int):=M9 hn;have hA:IntKind.i64.wrap (1+IntKind.i64.wrap ((x.n:Int).tmod 4))=((x.n % 4+1:Nat):Int):=by rw [hw4,qg (by omega) (by omega)];omega
  have hC:IntKind.i64.wrap (1+IntKind.i64.wrap ((IntKind.u8.wrap ((x.n:Int).tdiv 4)).tmod 4))=((x.n/4 % 4+1:Nat):Int):=by
   rw [hu,show ((x.n/4:Nat):Int).tmod 4=((x.n/4 % 4:Nat):Int) from (Int.ofNat_tmod _ 4).symm,qg (n:=((x.n/4 % 4:Nat):Int)) (by omega) (by omega),qg (by omega) (by omega)];omega
  have hle:(x.n % 4+1)*(x.n/4 % 4+1)<=4*4:=Nat.mul_le_mul oM oM;have hN:IntKind.i64.wrap (IntKind.i64.wrap (1+IntKind.i64.wrap ((x.n:Int).tmod 4))*IntKind.i64.wrap (1+IntKind.i64.wrap ((IntKind.u8.wrap ((x.n:Int).tdiv 4)).tmod 4)))=(((x.n % 4+1)*(x.n/4 % 4+1):Nat):Int):=by
   rw [hA,hC,<-Int.natCast_mul];exact qg oM oM
  have hW:IntKind.i64.wrap (IntKind.i64.wrap (8*IntKind.i64.wrap (1+IntKind.i64.wrap ((x.n:Int).tmod 4)))+IntKind.i64.wrap (1+IntKind.i64.wrap ((IntKind.u8.wrap ((x.n:Int).tdiv 4)).tmod 4)))=((8*(x.n % 4+1)+(x.n/4 % 4+1):Nat):Int):=by
   rw [hA,hC,qg (n:=8*((x.n % 4+1:Nat):Int)) (by omega) (by omega),qg (by omega) (by omega)];omega
  refine wi [(1,2)] ?wk (VR hx (root:=(13,IntKind.i64.wrap (IntKind.i64.wrap (8*IntKind.i64.wrap (1+IntKind.i64.wrap ((x.n:Int).tmod 4)))+IntKind.i64.wrap (1+IntKind.i64.wrap ((IntKind.u8.wrap ((x.n:Int).tdiv 4)).tmod 4))))) (n:=(x.n % 4+1)*(x.n/4 % 4+1)) (by omega) (K5 hx) (by omega) (by rw [ht,Tr.fl,hW]))
  case wk=>exact⟨by repeat (first|exact trivial|refine⟨by first|rfl|exact congrArg (fun z=>some (DV.int z)) hN,rfl,?_⟩),by repeat (first|exact trivial|refine⟨by rfl,rfl,rfl,?_⟩),rfl,rfl⟩
 ·rw [e] at hkm;have hm:wg x=if (vJ x).fl.length<=60 then vJ x else j5 x.n:=by unfold wg;rw [if_neg (by omega)]
  have ht:vJ x=.nd 6 0 (x.ents 2):=by unfold vJ;rw [if_neg (by omega),if_neg (by omega)]
  rw [hm];refine zy p9 rfl jm fun Z0 lo=>?_;refine qa ?_;intros;simp only [hkm];refine qa ?_;intros;refine qb (t:=false) rfl (fun h=>by cases h) (fun _=>?_);refine qa ?_;intros;refine qb (t:=false) rfl (fun h=>by cases h) (fun _=>?_);refine qa ?_;intros;refine qb (t:=false) rfl (fun h=>by cases h) (fun _=>?_);refine qa ?_;intros;refine wi [] ?wk (VR hx (root:=(6,0)) (n:=2) (by omega) (K5 hx) (by omega) (by rw [ht,Tr.fl]))
  case wk=>exact⟨by repeat (first|exact trivial|refine⟨by rfl,rfl,?_⟩),by repeat (first|exact trivial|refine⟨by rfl,rfl,rfl,?_⟩),rfl,rfl⟩
 ·rw [e] at hkm;have hm:wg x=jE x.n (x.n/8):=by unfold wg;rw [if_pos e]
  have hdl:x.n/8<=x.n:=Nat.div_le_self _ _;have hen:=Wl (k:=x.n) (n:=x.n/8) hn oM;rw [hm];refine zy p9 rfl jm fun Z0 lo=>?_;refine qa ?_;intros;simp only [hkm];refine qa ?_;intros;refine qb (t:=false) rfl (fun h=>by cases h) (fun _=>?_);refine qa ?_;intros;refine qb (t:=false) rfl (fun h=>by cases h) (fun _=>?_);refine qa ?_;intros;refine qb (t:=true) rfl (fun _=>?_) (fun h=>by cases h);refine qa ?_;intros;rw [show IntKind.u8.wrap ((x.n:Int).tdiv 8)=((x.n/8:Nat):Int) from M9 hn];refine qj rfl rfl hen ?_;rintro _ rfl;refine qa ?_;intros;exact qc ⟨_,rfl,rfl,rfl⟩
end Go.Ah

namespace Go.Ah
open Go.Ab Go.Proofs
theorem BC(s t:ByteArray)(i:Nat):bt (s++t) i=if i<s.size then bt s i else bt t (i-s.size):=by
 unfold bt;rw [ByteArray.data_append,Array.toList_append,List.getD_eq_getElem?_getD,List.getD_eq_getElem?_getD,List.getD_eq_getElem?_getD,List.getElem?_append];have:s.data.toList.length=s.size:=by simp
 rw [this];split<;>rfl
theorem UK(s:ByteArray)(m i:Nat)(h:i<m):bt (s.extract 0 m) i=bt s i:=by
 unfold bt;rw [ByteArray.data_extract,Array.toList_extract,List.getD_eq_getElem?_getD,List.getD_eq_getElem?_getD,List.extract_eq_take_drop,List.drop_zero,List.getElem?_take,if_pos (by omega)]
def tL(v:Nat):Bool:=v==97||v==98||v==99||v==65||v==66||v==49||v==45
structure Out (n:Nat) (s:ByteArray):Prop where
 le:s.size<=n
 ch:∀i,i<s.size->tL (bt s i)=true\/bt s i=32
 first:0<s.size->bt s 0≠32
 adj:∀i,i+1<s.size->¬(bt s i=32/\bt s (i+1)=32)
structure Gd (n:Nat) (s:ByteArray):Prop extends Out n s where
 pos:1<=s.size
 last:bt s (s.size-1)≠32
theorem Out.nil(n:Nat):Out n ⟨#[]⟩:=⟨Nat.zero_le _,fun i h=>(Nat.not_lt_zero _ h).elim,fun h=>(Nat.lt_irrefl _ h).elim,fun i h=>(Nat.not_lt_zero _ h).elim⟩
theorem ND(c:UInt8):(⟨#[c]⟩:ByteArray).size=1:=rfl
theorem Out.push{n:Nat}{s:ByteArray}(h:Out n s){c:UInt8}(hs:s.size<n)(hc:tL c.toNat=true\/c.toNat=32)(hl:c.toNat=32->0<s.size/\bt s (s.size-1)≠32):Out n (s++⟨#[c]⟩):=by
 have hb:∀i,i<s.size->bt (s++⟨#[c]⟩) i=bt s i:=fun i hi=>by rw [BC,if_pos hi]
 have hb2:bt (s++⟨#[c]⟩) s.size=c.toNat:=by rw [BC,if_neg (Nat.lt_irrefl _),Nat.sub_self];rfl
 have hsz:(s++(⟨#[c]⟩:ByteArray)).size=s.size+1:=by rw [ByteArray.size_append,ND]
 refine⟨oM,fun i hi=>?_,fun _=>?_,fun i hi=>?_⟩
 ·by_cases e:i<s.size
  ·rw [hb i e];exact h.ch i e
  ·rw [show i=s.size by omega,hb2];exact hc
 ·by_cases e:0<s.size
  ·rw [hb 0 e];exact h.first e
  ·have e0:s.size=0:=by omega
   rw [<-e0,hb2];intro h32;have:=(hl h32).1;omega
 ·by_cases e:i+1<s.size
  ·rw [hb i (by omega),hb (i+1) e];exact h.adj i e
  ·have e1:i+1=s.size:=by omega
   rw [e1,hb2,hb i (by omega)];rintro ⟨g1,g2⟩;have:=(hl g2).2;rw [<-e1,Nat.add_sub_cancel] at this;exact this g1
end Go.Ah
