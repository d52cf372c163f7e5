/- -/
import Derived.Test.YtdlelodnhjacgaaGreatDoorAb16
set_option linter.unusedSimpArgs false
set_option linter.unusedVariables false
set_option maxRecDepth 8000
set_option maxHeartbeats 4000000
namespace Go.Ai
open Go.Ab Go.Proofs
def X3(s:List (List Int) × List Int)(c:Int):List (List Int) × List Int:=if c=0 then (s.1++[s.2],[]) else (s.1,s.2++[c])
def Co(l:List Int):List (List Int) × List Int:=l.foldl X3 ([],[])
def zG(l:List Int):List (List Int):=(Co l).1++[(Co l).2]
theorem FT{l:List Int}(hl:l.length<100000):DK 128 [qq l] fun d=>d=qW (zG l):=by
 refine va fun Z0 lo=>?_;refine EX ?_;intros;refine qu (fun m E S nk=>∃(i:Nat) (s:List (List Int) × List Int),i+m=l.length/\s=(l.take i).foldl X3 ([],[])/\s.1.length<=i/\s.2.length<=i/\E=[(0,qq l),(3,.one (.own 0 0 s.1.length 1)),(4,.one (.own 1 0 s.2.length 1)),(5,.int i)]/\S=[(0,.data (s.1.flatMap ja)),(1,.data (s.2.flatMap qU))]/\nk=2)
  ⟨l.length,_,_,_,[],?wk,0,([],[]),by omega,rfl,by simp,by simp,rfl,rfl,rfl⟩ ?_
 case wk=>exact xp
 rintro m E S nk ⟨i,s,him,hs,h1,h2,rfl,rfl,rfl⟩;refine EX ?_;intros;refine qh O (fun h=>?_) (fun h=>?_)
 ·have hf:=Vt (f:=X3) (s:=([],[])) (l:=l) (i:=i) oM;rw [<-hs] at hf;refine EX ?_;intros;refine qX O (fun h3=>?_) (fun h3=>?_)
  ·refine qF 1 O Ql Ql ?_;refine EX ?_;intros;rw [X3,if_pos h3] at hf;exact qG ⟨i+1,_,by omega,hf.symm,by simp;omega,by simp,rfl,rfl,rfl⟩
  ·refine EX ?_;intros;rw [X3,if_neg h3] at hf;exact qG ⟨i+1,_,by omega,hf.symm,by simp;omega,by simp;omega,rfl,rfl,rfl⟩
 ·have hil:i=l.length:=oM;rw [hil,u6] at hs;subst hs;refine qF 1 O Ql Ql ?_;refine EX ?_;intros;exact qP 2 O O ⟨_,O,O,O⟩
abbrev el(l:List Int)(i:Nat):Int:=l.getD i default
structure CleanP (l:List Int):Prop where
 ne:l≠[]
 le:∀i,i<l.length->0<=el l i/\el l i<=63
 bl:∀i,i<l.length->el l i=0->0<i/\el l (i-1)≠0
 last:el l (l.length-1)≠0
abbrev bo(b:Bool):DV:=.bool b
theorem P6{l:List Int}(hl:l.length<100000)(hc:∀c∈l,0<=c):DK 126 [qq l] fun d=>∃(n:Nat) (b:Bool),d=.tup [.int n,bo b]/\(b=true->CleanP l):=by
 refine jY ?_;intros;refine qu (fun m E S nk=>∃(i:Nat) (d2 d3:DV),i+m=l.length/\(∀k,k<i->el l k<=63/\(el l k=0->0<k/\el l (k-1)≠0))/\E=[(0,qq l),(4,.int i)]/\S=[]/\nk=0)
  ⟨l.length,_,_,_,[],?wk,0,.int 0,bo false,oM,fun k hk=>oM,rfl,rfl,rfl⟩ ?_
 case wk=>exact xp
 rintro m E S nk ⟨i,_,_,him,hok,rfl,rfl,rfl⟩;refine ql ?_;intros;refine qh O (fun h=>?_) (fun h=>?_)
 ·refine ql ?_;intros;refine xG O (fun h1=>?_) (fun h1=>?_)
  ·refine ql ?_;intros;exact qb ⟨_,O,O,i,false,O,fun h=>by cases h⟩
  ·have h1:=zK h1;refine ql ?_;intros;refine xG O (fun h2=>?_) (fun h2=>?_)
   ·have h2:el l i=0:=by simpa using h2
    refine ql ?_;intros;refine xG O (fun h3=>?_) (fun h3=>?_)
    ·refine ql ?_;intros;exact qb ⟨_,O,O,i,false,O,fun h=>by cases h⟩
    ·have h3:i≠0:=by simpa using h3
     refine ql ?_;intros;refine qX O (fun h4=>?_) (fun h4=>?_)
     ·refine ql ?_;intros;exact qb ⟨_,O,O,i,false,O,fun h=>by cases h⟩
     ·refine ql ?_;intros;exact qM (m':=m-1) oM ⟨i+1,.int 0,bo false,oM,fun k hk=>by
       by_cases e:k<i
       ·exact hok k e
       ·obtain rfl:k=i:=by omega
        refine⟨by simpa using h1,fun _=>⟨by omega,?_⟩⟩
        rwa [show ((k:Int)-1).toNat=k-1 by omega] at h4,rfl,rfl,rfl⟩ xp
   ·have h2:el l i≠0:=by simpa using h2
    refine ql ?_;intros;exact qM (m':=m-1) oM ⟨i+1,.int 0,bo false,oM,fun k hk=>by
     by_cases e:k<i
     ·exact hok k e
     ·obtain rfl:k=i:=by omega
      exact⟨by simpa using h1,fun h=>absurd h h2⟩,rfl,rfl,rfl⟩ xp
 ·refine ql ?_;intros;refine qX O (fun h1=>?_) (fun h1=>?_)
  ·refine ql ?_;intros;exact qb ⟨_,O,O,0,false,O,fun h=>by cases h⟩
  ·refine ql ?_;intros;refine qX O (fun h2=>?_) (fun h2=>?_)
   ·refine ql ?_;intros;exact qb ⟨_,O,O,l.length-1,false,by rw [show ((l.length:Int)-1)=((l.length-1:Nat):Int) by omega],fun h=>by cases h⟩
   ·refine ql ?_;intros;refine qb ⟨_,O,O,l.length,true,O,fun _=>⟨fun e=>h1 (by rw [e];rfl),fun k hk=>⟨hc _ (qn hk),(hok k (by omega)).1⟩,fun k hk=>(hok k (by omega)).2,?_⟩⟩
    rwa [show ((l.length:Int)-1).toNat=l.length-1 by omega] at h2
theorem L9(l:List Int):1<=(zG l).length:=by unfold zG;simp
structure WdOk (l:List Int) (i:Nat) (s:List (List Int) × List Int):Prop where
 done:∀w∈s.1,w≠[]/\∀c∈w,1<=c/\c<=63
 now:∀c∈s.2,1<=c/\c<=63
 pos:s.2=[]->i=0\/el l (i-1)=0
 len:(s.1.map fun w=>w.length+1).sum+s.2.length=i
theorem Cn{l:List Int}(h:CleanP l):∀i,i<=l.length->WdOk l i ((l.take i).foldl X3 ([],[]))
 |0,_=>⟨fun w hw=>by simp at hw,fun c hc=>by simp at hc,fun _=>.inl rfl,by simp⟩
 |i+1,hi=>by
  have ih:=Cn h i oM;rw [Vt (by omega)];generalize (l.take i).foldl X3 ([],[])=s at ih;have hle:=h.le i oM;have hbl:=h.bl i oM;unfold X3;split
  ·rename_i h0;have:=hbl h0;refine⟨fun w hw=>?_,fun c hc=>by simp at hc,fun _=>.inr (by rw [bB];exact h0),?_⟩
   ·rcases xu.1 hw with hw|hw
    ·exact ih.done w hw
    ·rw [xM.1 hw];refine⟨fun e=>?_,ih.now⟩;rcases ih.pos e with e|e
     ·omega
     ·exact this.2 e
   ·have:=ih.len;simp only [JM,List.sum_append,jr,sS,nU,List.sum_nil,zR] at *;omega
  ·rename_i h0;refine⟨ih.done,fun c hc=>?_,fun e=>by simp at e,?_⟩
   ·rcases xu.1 hc with hc|hc
    ·exact ih.now c hc
    ·rw [xM.1 hc];exact⟨by have h2:0<=l.getD i default:=hle.1;omega,hle.2⟩
   ·have:=ih.len;simp only [qE,List.length_singleton] at *;omega
theorem R9{l:List Int}(h:CleanP l):(∀w∈zG l,w≠[]/\∀c∈w,1<=c/\c<=63)/\((zG l).map fun w=>w.length+1).sum=l.length+1:=by
 have hw:=Cn h l.length (qz _);rw [u6] at hw;unfold zG Co;generalize l.foldl X3 ([],[])=s at hw;refine⟨fun w hm=>?_,?_⟩
 ·rcases xu.1 hm with hm|hm
  ·exact hw.done w hm
  ·rw [xM.1 hm];refine⟨fun e=>?_,hw.now⟩;rcases hw.pos e with e|e
   ·exact h.ne (vw e)
   ·exact h.last e
 ·have:=hw.len;simp only [JM,List.sum_append,jr,sS,nU,List.sum_nil];omega
theorem nW{l:List Int}:(zG l).length<=l.length+1/\∀w∈zG l,w.length<=l.length:=by
 have key:∀(l:List Int) (s:List (List Int) × List Int),(l.foldl X3 s).1.length<=s.1.length+l.length/\(l.foldl X3 s).2.length<=s.2.length+l.length/\∀w∈(l.foldl X3 s).1,w∈s.1\/w.length<=s.2.length+l.length:=by
  intro l;induction l with
  |nil=>intro s;exact⟨by simp,by simp,fun w hw=>.inl hw⟩
  |cons c l ih=>
   intro s;rw [YN];obtain⟨h1,h2,h3⟩:=ih (X3 s c);have e:(X3 s c).1.length<=s.1.length+1/\(X3 s c).2.length<=s.2.length+1/\∀w∈(X3 s c).1,w∈s.1\/w.length<=s.2.length:=by
    unfold X3;split
    ·refine⟨by simp,by simp,fun w hw=>?_⟩;rcases xu.1 hw with hw|hw
     ·exact .inl hw
     ·rw [xM.1 hw];exact .inr (qz _)
    ·exact⟨by simp,by simp,fun w hw=>.inl hw⟩
   simp only [xA];refine⟨oM,oM,fun w hw=>?_⟩;rcases h3 w hw with hw|hw
   ·exact (e.2.2 w hw).imp id oM
   ·exact .inr oM
 have:=key l ([],[]);unfold zG Co;refine⟨by simp at this ⊢;omega,fun w hw=>?_⟩;rcases xu.1 hw with hw|hw
 ·rcases this.2.2 w hw with h|h
  ·simp at h
  ·simpa using h
 ·rw [xM.1 hw];have:=this.2.1;simpa using this
theorem Ou{l:List Int}{most:Int}(hl:l.length<100000):DK 127 [qq l,.int most] fun d=>∃v:Int,d=.int v/\(v<0->∀w∈zG l,(w.length:Int)<=most):=by
 have hwl:=nW (l:=l);refine jY ?_;intros;refine Zh O O (FT hl) ?_;intros;refine qu (fun m E S nk=>∃(i at_:Nat),i+m=(zG l).length/\at_<=i*100001/\(∀k,k<i->(((zG l).getD k default).length:Int)<=most)/\E=[(1,.int most),(5,qW (zG l)),(6,.int at_),(7,.int i)]/\S=[]/\nk=0)
  ⟨(zG l).length,_,_,_,[],?wk,0,0,oM,oM,fun k hk=>oM,rfl,rfl,rfl⟩ ?_
 case wk=>exact xp
 rintro m E S nk ⟨i,at_,him,hat,hok,rfl,rfl,rfl⟩;refine ql ?_;intros;refine qh O (fun h=>?_) (fun h=>?_)
 ·have hwi:=hwl.2 _ (qn (l:=zG l) (i:=i) oM);refine ql ?_;intros;refine qh O (fun h1=>?_) (fun h1=>?_)
  ·refine ql ?_;intros;exact qb ⟨_,O,O,at_,O,fun h=>oM⟩
  ·refine ql ?_;intros;exact qM (m':=m-1) oM ⟨i+1,at_+(((zG l).getD i default).length+1),oM,oM,fun k hk=>by
    by_cases e:k<i
    ·exact hok k e
    ·obtain rfl:k=i:=by omega
     omega,rfl,rfl,rfl⟩ xp
 ·refine ql ?_;intros;refine qb ⟨_,O,O, -1,O,fun _ w hw=>?_⟩;obtain⟨k,hk,rfl⟩:=Cf.1 hw;have:=hok k oM
  rwa [qT,zge hk] at this
abbrev TX(a b:Nat):DV:=.agg [.f (FD.int a),.f (FD.int b)]
theorem Aa{a b:Nat}(ha:a<=16)(hb:b<=16):DK 125 [TX a b] fun d=>d=.bool true:=by
 refine jY ?_;intros;exact qb ⟨_,O,O,O⟩
structure LnOk (ind width:Nat) (l:List Int):Prop where
 ge:ind<=l.length
 le:l.length<=width
 cell:∀c∈l,0<=c/\c<=63
 ne:l≠[]
 last:∀h:l≠[],l.getLast h≠0
def Kq(a b width:Nat):List (List Int)->Prop
 |[]=>False
 |x::r=>LnOk a width x/\∀y∈r,LnOk b width y
theorem OA{a width:Nat}{w:List Int}(hw:w≠[]/\∀c∈w,1<=c/\c<=63)(hl:(w.length:Int)+a<=width):LnOk a width (List.replicate a 0++w):=by
 refine⟨by simp,by simp;omega,fun c hc=>?_,by simp [hw.1],fun h=>?_⟩
 ·rcases xu.1 hc with hc|hc
  ·rw [(DM.1 hc).2];decide
  ·have:=hw.2 c hc;omega
 ·rw [Ix _ hw.1];have:=hw.2 _ (List.getLast_mem hw.1);omega
theorem Fq{a width:Nat}{l w:List Int}(h:LnOk a width l)(hw:w≠[]/\∀c∈w,1<=c/\c<=63)(hl:(l.length:Int)+1+w.length<=width):LnOk a width (l++[0]++w):=by
 refine⟨by have:=h.ge;simp;omega,by simp;omega,fun c hc=>?_,by simp,fun h2=>?_⟩
 ·rcases xu.1 hc with hc|hc
  ·rcases xu.1 hc with hc|hc
   ·exact h.cell c hc
   ·rw [xM.1 hc];decide
  ·have:=hw.2 c hc;omega
 ·rw [Ix _ hw.1];have:=hw.2 _ (List.getLast_mem hw.1);omega
def ZM(a b width:Nat)(out:List (List Int))(line:List Int):Prop:=Kq a b width (out++[line])
theorem Fo{a b width:Nat}{out:List (List Int)}{line x:List Int}(h:ZM a b width out line)(hx:LnOk b width x):ZM a b width (out++[line]) x:=by
 unfold ZM at h ⊢
 match out,h with
 |[],h=>exact⟨h.1,fun y hy=>by simp at hy;rw [hy];exact hx⟩
 |o::out,h=>
  refine⟨h.1,fun y hy=>?_⟩;rcases xu.1 hy with hy|hy
  ·exact h.2 y hy
  ·rw [xM.1 hy];exact hx
theorem TM{a b width:Nat}{out:List (List Int)}{line x:List Int}(h:ZM a b width out line)(hx:∀k,LnOk k width line->LnOk k width x):ZM a b width out x:=by
 unfold ZM at h ⊢
 match out,h with
 |[],h=>exact⟨hx _ h.1,fun y hy=>by simp at hy⟩
 |o::out,h=>
  refine⟨h.1,fun y hy=>?_⟩;rcases xu.1 hy with hy|hy
  ·exact h.2 y (xu.2 (.inl hy))
  ·rw [xM.1 hy];exact hx _ (h.2 line (by simp))
theorem Fp{a b width:Nat}{out:List (List Int)}{line:List Int}(h:ZM a b width out line):∃k,LnOk k width line:=by
 unfold ZM at h
 match out,h with
 |[],h=>exact⟨_,h.1⟩
 |o::out,h=>exact⟨_,h.2 line sM⟩
abbrev QN(L:List (List Int))(at_ e:Int):DV:=.agg [.f (.sl 1 L.length (L.flatMap ja)),.f (FD.int at_),.f (FD.int e)]
theorem F6{l:List Int}{width a b:Nat}(hl:l.length<100000)(hc:∀c∈l,0<=c)(hw:24<=width/\width<=60)(ha:a<=16)(hb:b<=16):DK 84 [qq l,.int width,TX a b] fun d=>∃(L:List (List Int)) (at_ e:Int),d=QN L at_ e/\L.length<=l.length+2/\(e≠0->L=[])/\(e=0->Kq a b width L):=by
 refine wj ?_;refine jY ?_;intros;refine Zh O O (Aa ha hb) ?_;intros;refine qf O O (P6 hl hc) ?_;rintro _ ⟨n,cb,rfl,hcl⟩;cases cb with
 |false=>
  refine ql ?_;intros;exact qb ⟨_,O,O,QN [] n 180,nv,[],n,180,O,by simp,fun _=>rfl,fun h=>by omega⟩
 |true=>
  have hcl:=hcl rfl;have hwo:=(R9 hcl).1;have hwl:=nW (l:=l);refine ql ?_;intros;refine qf O O (Ou hl) ?_;rintro _ ⟨v,rfl,hlong⟩;refine ql ?_;intros;refine qh O (fun h1=>?_) (fun h1=>?_)
  ·refine ql ?_;intros;exact qb ⟨_,O,O,QN [] v 181,nv,[],v,181,O,by simp,fun _=>rfl,fun h=>by omega⟩
  ·have hlong:=hlong oM;have hne:=L9 l;have h0:=hwo _ (qn (l:=zG l) (i:=0) oM);have hl0:=hlong _ (qn (l:=zG l) (i:=0) oM);have hd0:=hwl.2 _ (qn (l:=zG l) (i:=0) oM);refine ql ?_;intros;refine Zh O O (FT hl) ?_;intros;refine qN (fun m E S nk=>∃(i:Nat) (out:List (List Int)) (line:List Int),i+m=(zG l).length/\1<=i/\out.length<=i/\ZM a b width out line/\E=[(1,.int width),(5,.one (.ptr 0 0)),(6,.one (.ptr 1 0)),(10,qW (zG l)),(11,.one (.own 2 0 out.length 1)),(12,.one (.own 3 0 line.length 1)),(13,.int i)]/\S=[(0,.cells [.f (FD.int a),.f (FD.int b)]),(1,.cells [.f (.c .nils),.f (FD.int 0),.f (FD.int 0)]),(2,.data (out.flatMap ja)),(3,.data (line.flatMap qU))]/\nk=4) ((zG l).length-1) ⟨1,[],List.replicate a 0++(zG l).getD 0 default,by omega,by omega,by simp,⟨OA h0 (by omega),fun y hy=>by simp at hy⟩,rfl,rfl,rfl⟩ ?_;rintro m E S nk ⟨i,out,line,him,h1i,hoi,hst,rfl,rfl,rfl⟩;obtain⟨k0,hk0⟩:=Fp hst;have hll:=hk0.le;refine ql ?_;intros;refine qh O (fun h2=>?_) (fun h2=>?_)
   ·have hwi:=hwo _ (qn (l:=zG l) (i:=i) oM);have hli:=hlong _ (qn (l:=zG l) (i:=i) oM);refine ql ?_;intros;refine qh O (fun h3=>?_) (fun h3=>?_)
    ·refine qF 3 O Ql Ql ?_;refine ql ?_;intros;exact qG ⟨i+1,out++[line],_,by omega,by omega,by simp;omega,Fo hst (OA hwi (by omega)),rfl,rfl,rfl⟩
    ·refine ql ?_;intros;exact qG ⟨i+1,out,_,oM,oM,oM,TM hst fun k hk=>Fq hk hwi oM,O,O,O⟩
   ·refine qF 3 O Ql Ql ?_;refine ql ?_;intros;refine qx (qg (k:=6) O (qv _)) (qg (k:=1) O (qg (k:=5) O (qv _))) ?_;refine qF 5 O Ql Ql ?_;exact qb ⟨_,O,O,QN (out++[line]) 0 0,nv,out++[line],0,0,O,by simp;omega,fun h=>absurd rfl h,fun _=>hst⟩
theorem iR{l:List Int}(hl:l.length<100000):DK 74 [qq l] fun d=>∃b:Bool,d=bo b/\((∀c∈l,c<=63)->b=true):=by
 refine jY ?_;intros;refine qN (fun m E S nk=>∃i:Nat,i+m=l.length/\E=[(0,qq l),(3,.int i)]/\S=[]/\nk=0) (l.length) ⟨0,oM,O,O,O⟩ ?_;rintro m E S nk ⟨i,him,rfl,rfl,rfl⟩;refine ql ?_;intros;refine qh O (fun h=>?_) (fun h=>?_)
 ·refine ql ?_;intros;refine qh O (fun h1=>?_) (fun h1=>?_)
  ·refine ql ?_;intros;refine qb ⟨_,O,O,false,O,fun hc=>?_⟩;have:=hc _ (qn (l:=l) (i:=i) oM);omega
  ·refine ql ?_;intros;exact qG ⟨i+1,oM,O,O,O⟩
 ·refine ql ?_;intros;exact qb ⟨_,O,O,true,O,fun _=>O⟩
theorem P4{l:List Int}(hl:l.length<100000):DK 153 [qq l] fun d=>∃b:Bool,d=bo b:=by
 refine jY ?_;intros;refine qf O O (iR hl) ?_;rintro _ ⟨v,rfl,_⟩;by_cases h0:l.length=0
 ·refine ql ?_;intros;exact qb ⟨_,O,O,_,O⟩
 ·cases v with
  |false=>
   refine ql ?_;intros;exact qb ⟨_,O,O,_,O⟩
  |true=>
   refine ql ?_;intros;refine xG O (fun h1=>?_) (fun h1=>?_)
   ·refine ql ?_;intros;exact qb ⟨_,O,O,_,O⟩
   ·refine ql ?_;intros;refine qX O (fun h2=>?_) (fun h2=>?_)
    ·refine ql ?_;intros;exact qb ⟨_,O,O,_,O⟩
    ·refine ql ?_;intros;refine qN (fun m E S nk=>∃i:Nat,i+m=l.length/\1<=i/\E=[(0,qq l),(4,.int i)]/\S=[]/\nk=0) (l.length-1) ⟨1,oM,oM,O,O,O⟩ ?_;rintro m E S nk ⟨i,him,h1i,rfl,rfl,rfl⟩;refine ql ?_;intros;refine qh O (fun h=>?_) (fun h=>?_)
     ·refine ql ?_;intros;refine xG O (fun h3=>?_) (fun h3=>?_)
      ·refine ql ?_;intros;refine qX O (fun h4=>?_) (fun h4=>?_)
       ·refine ql ?_;intros;exact qb ⟨_,O,O,_,O⟩
       ·refine ql ?_;intros;exact qG ⟨i+1,oM,oM,O,O,O⟩
      ·refine ql ?_;intros;exact qG ⟨i+1,oM,oM,O,O,O⟩
     ·refine ql ?_;intros;exact qb ⟨_,O,O,_,O⟩
theorem PR{l:List Int}(hl:l.length<100000):DK 102 [qq l] fun d=>∃b:Bool,d=bo b:=by
 refine jY ?_;intros;refine qf O O (P4 hl) ?_;rintro _ ⟨v,rfl⟩;refine ql ?_;intros;refine qN (fun m E S nk=>∃i:Nat,i+m=l.length/\E=[(0,qq l),(3,bo v),(4,.int i)]/\S=[]/\nk=0) (l.length) ⟨0,oM,O,O,O⟩ ?_;rintro m E S nk ⟨i,him,rfl,rfl,rfl⟩;refine ql ?_;intros;refine qh O (fun h=>?_) (fun h=>?_)
 ·refine ql ?_;intros;refine qX O (fun h1=>?_) (fun h1=>?_)
  ·refine ql ?_;intros;exact qb ⟨_,O,O,_,O⟩
  ·refine ql ?_;intros;exact qG ⟨i+1,oM,O,O,O⟩
 ·refine ql ?_;intros;exact qb ⟨_,O,O,_,O⟩
def yO(n:Nat):Int:=[26,1,3,9,25,17,11,27,19,10].getD n 26
theorem Ij:((List.range 10).all fun n=>match Wc tabS 100 89 [.one (.int .i64 n)] HS with
 |some (.one (.int .u8 c))=>decide (c=yO n)
 |_=>false)=true:=by kernel_rfl
theorem pL{n:Nat}(h:n<10):DK 89 [.int n] fun d=>d=.one (.f (.c (.int .u8 (yO n)))):=by
 have h1:=wA.1 Ij n (jF.2 h);split at h1
 ·rename_i c hc;have:=xo h1;subst this;exact Ji (vs:=[.one (.int .i64 n)]) ⟨O,trivial⟩ O O hc
 ·cases h1
def jX(k:Nat):Nat:=[10000,1000,100,10,1].getD k 0
theorem ST:∀k,k<5->1<=jX k/\jX k<=10000/\jX (k+1)=jX k/10/\(k≠4->jX k≠1)/\(k=4->jX k=1):=by decide
def yb(n:Nat)(l:List Int)(k:Nat):List Int:=if jX k<=n\/k=4 then l++[yO (n/jX k % 10)] else l
def ze(n:Nat):List Int:=(List.range 5).foldl (yb n) [60]
theorem VH{n:Nat}(hn:n<=99999):DK 52 [.int n] fun d=>d=.tup [qq (ze n),.int 0]:=by
 refine jY ?_;intros;refine qN (fun m E S nk=>∃(k:Nat) (out:List Int),k+m=5/\out=(List.range k).foldl (yb n) [60]/\out.length<=k+1/\E=[(0,.int n),(4,.one (.own 0 0 out.length 1)),(5,.int (jX k))]/\S=[(0,.data (out.flatMap qU))]/\nk=1) 5 ⟨0,[60],by omega,rfl,by simp,rfl,rfl,rfl⟩ ?_;rintro m E S nk ⟨k,out,hk,hout,hlen,rfl,rfl,rfl⟩;have hsucc:(List.range (k+1)).foldl (yb n) [60]=yb n out k:=by rw [XY,eN,<-hout];rfl
 by_cases h5:k=5
 ·subst h5;have h0:jX 5=0:=rfl;refine ql ?_;intros;subst hout;exact yV 2 3 O O O ⟨_,O,O,O⟩
 ·obtain⟨p1,p2,p3,p4,p5⟩:=ST k oM;have hdg:=pL (n:=n/jX k % 10) (kp _ qr);have e3:((jX k/Int.toNat 10:Nat):Int)=((jX (k+1):Nat):Int):=by rw [p3];rfl
  refine ql ?_;intros;refine xG O (fun h=>?_) (fun h=>?_)
  ·have h:jX k<=n:=by have:=xo h;omega
   rw [yb,if_pos (.inl h)] at hsucc;refine ql ?_;intros;refine Zh O O hdg ?_;intros;exact qG ⟨k+1,_,by omega,hsucc.symm,by simp;omega,rfl,rfl,rfl⟩
  ·have h:¬jX k<=n:=by have:=zK h;omega
   by_cases h4:k=4
   ·have p5:=p5 h4;rw [yb,if_pos (.inr h4)] at hsucc;refine ql ?_;intros;refine Zh O O hdg ?_;intros;exact qG ⟨k+1,_,by omega,hsucc.symm,by simp;omega,rfl,rfl,rfl⟩
   ·have p4:=p4 h4;rw [yb,if_neg (by omega)] at hsucc;refine ql ?_;intros;exact qG ⟨k+1,out,oM,hsucc.symm,oM,O,O,O⟩
theorem Ka{n:Int}(h0:0<=n)(hn:n<=99999):DK 52 [.int n] fun d=>d=.tup [qq (ze n.toNat),.int 0]:=by
 obtain⟨m,rfl⟩:∃m:Nat,n=m:=⟨n.toNat,oM⟩;exact VH oM
theorem TE(n:Nat)(l:List Int)(k:Nat):(yb n l k).length<=l.length+1:=by unfold yb;split<;>simp
theorem kS(n:Nat):(ze n).length<=6:=by
 have key:∀k,((List.range k).foldl (yb n) [60]).length<=k+1:=by
  intro k;induction k with
  |zero=>simp
  |succ k ih=>
   rw [XY,eN,YN,List.foldl_nil];have:=TE n ((List.range k).foldl (yb n) [60]) k;omega
 exact key 5
theorem PT{l:List Int}(hl:l.length<1000):DK 53 [x7 l] fun d=>∃r:List Int,d=x7 r/\r.length=l.length/\∀v∈r,0<=v/\v<=1000:=by
 refine jY ?_;intros;refine qN (fun m E S nk=>∃(i n:Nat) (r:List Int),i+m=l.length/\n<=i/\r.length=i/\(∀v∈r,0<=v/\v<=1000)/\E=[(0,x7 l),(3,.one (.own 0 0 r.length 1)),(4,.int n),(5,.int i)]/\S=[(0,.data (r.flatMap yL))]/\nk=1) (l.length) ⟨0,0,[],by omega,by omega,rfl,fun v hv=>by simp at hv,rfl,rfl,rfl⟩ ?_;rintro m E S nk ⟨i,n,r,him,hn,hr,hv,rfl,rfl,rfl⟩;have hpush:∀x:Int,0<=x->x<=1000->∀v∈r++[x],0<=v/\v<=1000:=fun x h0 h1 v hm=>by
  rcases xu.1 hm with hm|hm
  ·exact hv v hm
  ·rw [xM.1 hm];exact⟨h0,h1⟩
 refine ql ?_;intros;refine qh O (fun h=>?_) (fun h=>?_)
 ·refine ql ?_;intros;refine qX O (fun h1=>?_) (fun h1=>?_)
  ·refine ql ?_;intros;exact qG ⟨i+1,n+1,r++[(n:Int)+1],by omega,by omega,by simp;omega,hpush _ (by omega) (by omega),rfl,rfl,rfl⟩
  ·refine ql ?_;intros;exact qG ⟨i+1,n,r++[0],by omega,by omega,by simp;omega,hpush _ (by omega) (by omega),rfl,rfl,rfl⟩
 ·refine ql ?_;intros;exact qP 2 O O ⟨_,O,O,r,O,oM,hv⟩
theorem Ib{l:List Int}{i:Nat}(hl:l.length<1000)(hi:i<l.length):DK 28 [x7 l,.int i] fun d=>∃r:List Int,d=x7 r/\r.length<=l.length/\∀v∈r,0<=v/\v<=1000:=by
 refine jY ?_;intros;refine qX O (fun h=>?_) (fun h=>?_)
 ·refine ql ?_;intros;exact qP 4 O O ⟨_,O,O,([]:List Int),O,Xa _,fun v hv=>by cases hv⟩
 ·refine ql ?_;intros;refine qf O O (PT hl) ?_;rintro _ ⟨q,rfl,hql,hqv⟩;refine ql ?_;intros;refine qN (fun m E S nk=>∃(k:Nat) (r:List Int),k+m=l.length/\r.length<=k/\(∀v∈r,0<=v/\v<=1000)/\E=[(0,x7 l),(5,.one (.own 0 0 r.length 1)),(6,x7 q),(7,.int k)]/\S=[(0,.data (r.flatMap yL))]/\nk=1) (l.length-(i+1)) ⟨i+1,[],by omega,by simp,fun v hv=>by simp at hv,rfl,rfl,rfl⟩ ?_;rintro m E S nk ⟨k,r,him,hr,hv,rfl,rfl,rfl⟩;refine ql ?_;intros;refine xG O (fun h1=>?_) (fun h1=>?_)
  ·have h1:=xo h1;have hqk:=hqv _ (qn (l:=q) (i:=k) oM);refine ql ?_;intros;refine qX O (fun h2=>?_) (fun h2=>?_)
   ·refine ql ?_;intros;exact qM (m':=m-1) (by omega) ⟨k+1,r++[q.getD k default],by omega,by simp;omega,fun v hm=>by
     rcases xu.1 hm with hm|hm
     ·exact hv v hm
     ·rw [xM.1 hm];exact hqk,rfl,rfl,rfl⟩ xp
   ·refine ql ?_;intros;exact qP 4 O O ⟨_,O,O,r,O,oM,hv⟩
  ·refine ql ?_;intros;exact qP 4 O O ⟨_,O,O,r,O,oM,hv⟩
theorem Oh{l:List Int}(hl:l.length<100000):DK 82 [qq l] fun d=>∃n,n<=l.length/\d=qq (l.take n)/\(0<n->l.getD (n-1) default≠0):=by
 refine jY ?_;intros;refine qN (fun m E S nk=>∃n:Nat,n=m/\n<=l.length/\E=[(0,qq l),(3,.int n)]/\S=[]/\nk=0) (l.length) ⟨l.length,O,qz _,O,O,O⟩ ?_;rintro m E S nk ⟨n,rfl,hn,rfl,rfl,rfl⟩;refine ql ?_;intros;refine xT O (fun h1=>?_) (fun h1=>?_)
 ·refine ql ?_;intros;refine qX O (fun h2=>?_) (fun h2=>?_)
  ·refine ql ?_;intros;exact qG ⟨n-1,O,by omega,by rw [show ((n-1:Nat):Int)=(n:Int)-1 by omega],rfl,rfl⟩
  ·refine ql ?_;intros;refine Zc (l:=l) O O hn O (fun _=>by rfl) ?_;refine ql ?_;intros;exact qP 2 O O ⟨_,O,O,n,hn,O,fun _=>by rw [show n-1=((n:Int)-1).toNat by omega];exact h2⟩
 ·refine ql ?_;intros;refine Zc (l:=l) O O hn O (fun _=>by rfl) ?_;refine ql ?_;intros;exact qP 2 O O ⟨_,O,O,n,hn,O,fun h=>absurd h oM⟩
structure RowL where
 line:List Int
 keep:Bool
 ink:Int
 block:Int
 at_:Int
 deriving Inhabited
def zr(r:RowL):List FD:=[.sl 1 r.line.length (r.line.flatMap qU),.c (.bool r.keep),.c (.int .i64 r.ink),.c (.int .i64 r.block),.c (.int .i64 r.at_)]
abbrev KW(l:List RowL):DV:=.one (.f (.sl 5 l.length (l.flatMap zr)))
def aW(l:List RowL)(h:Nat)(a e:Int):Prop:=a<e/\e<=l.length/\e-a<=h-1/\(e<l.length->(l.getD (e-1).toNat default).keep=false)
theorem U4{l:List RowL}{a h:Nat}(hl:l.length<100000)(ha:a<l.length)(h4:4<=h)(h40:h<=40):DK 32 [KW l,.int a,.int h] fun d=>∃q:List Int,d=x7 q/\(∀e∈q,aW l h a e)/\q.length<=l.length:=by
 refine jY ?_;intros;refine qN (fun m E S nk=>∃(e:Nat) (q:List Int),e+m=l.length+1/\a<e/\(∀x∈q,aW l h a x)/\q.length+a<e/\E=[(0,KW l),(1,.int a),(2,.int h),(7,.one (.own 0 0 q.length 1)),(8,.int e)]/\S=[(0,.data (q.flatMap yL))]/\nk=1) (l.length-a) ⟨a+1,[],by omega,by omega,fun x hx=>(by cases hx),by simp,rfl,rfl,rfl⟩ ?_;rintro m E S nk ⟨e,q,hm,hae,hq,hql,rfl,rfl,rfl⟩;refine ql ?_;intros;have hpush:aW l h a e->∀x∈q++[(e:Int)],aW l h a x:=fun he x hx=>by
  rcases xu.1 hx with hx|hx
  ·exact hq x hx
  ·rw [xM.1 hx];exact he
 refine xT O (fun h1=>?_) (fun h1=>?_)
 ·refine ql ?_;intros;refine qh O (fun h2=>?_) (fun h2=>?_)
  ·refine ql ?_;intros;refine zH O (fun h3=>?_) (fun h3=>?_)
   ·refine ql ?_;intros;exact qG ⟨e+1,q++[(e:Int)],by omega,by omega,hpush ⟨by omega,by omega,by omega,fun h=>by omega⟩,by simp;omega,rfl,rfl,rfl⟩
   ·refine ql ?_;intros;refine qd O (fun h4=>?_) (fun h4=>?_)
    ·refine ql ?_;intros;exact qG ⟨e+1,q++[(e:Int)],by omega,by omega,hpush ⟨by omega,by omega,by omega,fun h=>by simpa using h4⟩,by simp;omega,rfl,rfl,rfl⟩
    ·refine ql ?_;intros;exact qG ⟨e+1,q,oM,oM,hq,oM,O,O,O⟩
  ·refine ql ?_;intros;exact qP 6 O O ⟨_,O,O,q,O,hq,oM⟩
 ·refine ql ?_;intros;exact qP 6 O O ⟨_,O,O,q,O,hq,oM⟩
def jZ(q:List Int)(i:Nat):Int:=if i=0 then 0 else q.getD (i-1) default
def Jp(l:List RowL)(h:Nat)(q:List Int):Prop:=∀i,i<q.length->aW l h (jZ q i) (q.getD i default)
theorem OO{q:List Int}{e:Int}:jZ (q++[e]) (q++[e]).length=e:=by
 have:(q++[e]).length=q.length+1:=sM;rw [this,jZ,if_neg (by omega),bB,qT,Q3 (qz _),Nat.sub_self];rfl
theorem uZ{q r:List Int}{i:Nat}(h:i<=q.length):jZ (q++r) i=jZ q i:=by
 unfold jZ;split
 ·rfl
 ·rw [qT,qT,Qz (by omega)]
theorem Jp.push{l:List RowL}{h:Nat}{q:List Int}{e:Int}(hq:Jp l h q)(he:aW l h (jZ q q.length) e):Jp l h (q++[e]):=fun i hi=>by
 have:(q++[e]).length=q.length+1:=sM;rcases bD i q.length with h1|h1
 ·rw [uZ (by omega),qT,Qz h1,<-qT];exact hq i h1
 ·obtain rfl:i=q.length:=by omega
  rw [uZ (qz _),qT,Q3 (qz _),Nat.sub_self];exact he
abbrev lY(q:List Int)(a e:Int):DV:=.agg [.f (.sl 1 q.length (q.flatMap yL)),.f (.c (.int .i64 a)),.f (.c (.int .i64 e))]
theorem BU{l:List RowL}{h:Nat}(hl:l.length<100000)(h4:4<=h)(h40:h<=40):DK 16 [KW l,.int h] fun d=>∃(q:List Int) (a e:Int),d=lY q a e/\(e=0\/e=210/\q=[])/\(e=0->Jp l h q/\jZ q q.length=l.length)/\q.length<=l.length:=by
 refine wj ?_;refine jY ?_;intros;refine qN (fun m E S nk=>∃(a:Nat) (q:List Int),a+m=l.length/\q.length<=a/\Jp l h q/\jZ q q.length=a/\E=[(0,KW l),(1,.int h),(4,.one (.ptr 0 0)),(5,.one (.own 1 0 q.length 1)),(6,.int a)]/\S=[(1,.data (q.flatMap yL)),(0,.cells (List.map Qj [C.nils,C.int IntKind.i64 0,C.int IntKind.i64 0]))]/\nk=2) (l.length) ⟨0,[],by omega,by simp,fun i hi=>(by cases hi),rfl,rfl,rfl,rfl⟩ ?_;rintro m E S nk ⟨a,q,hm,hqa,hq,hf,rfl,rfl,rfl⟩;refine ql ?_;intros;refine qh O (fun h1=>?_) (fun h1=>?_)
 ·refine ql ?_;intros;refine qf O O (U4 hl oM h4 h40) ?_;rintro _ ⟨r,rfl,hr,hrl⟩;refine ql ?_;intros;refine qX O (fun h2=>?_) (fun h2=>?_)
  ·refine ql ?_;intros;exact qb ⟨_,O,O,lY [] a 210,nv,[],a,210,O,.inr ⟨O,O⟩,fun h=>(by cases h),by simp⟩
  ·refine ql ?_;intros;have hx:=hr _ (qn (l:=r) (i:=((r.length:Int)-1).toNat) oM);generalize r.getD ((r.length:Int)-1).toNat default=x at hx;obtain⟨y,rfl⟩:∃y:Nat,x=y:=⟨x.toNat,by have:=hx.1;omega⟩;have hx1:=hx.1;have hx2:=hx.2.1;refine ql ?_;intros;exact qM (m':=l.length-y) (by omega) ⟨y,q++[(y:Int)],by omega,by simp;omega,hq.push (by rw [hf];exact hx),OO,rfl,rfl,rfl⟩ xp
 ·refine ql ?_;intros;refine qx (qg (k:=4) O (qg (k:=5) O (qv _))) (qg (k:=0) O (qg (k:=1) O (qv _))) ?_;refine qF 1 O Ql Ql ?_;refine ql ?_;intros;exact qb ⟨_,O,O,lY q 0 0,nv,q,0,0,O,.inl O,fun _=>⟨hq,oM⟩,oM⟩
structure BlsL where
 cost:List (List Int)
 beg:List Bool
 most:Int
abbrev d4(b:BlsL):DV:=.agg [.f (.sl 1 b.cost.length (b.cost.flatMap cU)),.f (.sl 1 b.beg.length (b.beg.flatMap Zj)),.f (.c (.int .i64 b.most))]
structure BlsOk (b:BlsL) (n:Nat):Prop where
 n10:n<=10
 cl:b.cost.length=n
 cs:∀r∈b.cost,r.length=n+1
 bl:b.beg.length=n
theorem Sk{b:BlsL}{n i j:Nat}(hb:BlsOk b n)(hi:i<n)(hj:j<=n):DK 90 [d4 b,.int i,.int j] fun d=>∃t:Bool,d=.bool t:=by
 have h1:=hb.cl;have h2:=hb.bl;have h3:=hb.cs _ (qn (l:=b.cost) (i:=i) oM);refine va fun Z0 lo=>?_
 (refine ql ?_;intros;first|(exact qb ⟨_,O,O,_,O⟩)|((first|refine qh O (fun _=>?_) (fun _=>?_)|refine qX O (fun _=>?_) (fun _=>?_)|refine xw O (fun _=>?_) (fun _=>?_)|refine qd O (fun _=>?_) (fun _=>?_)|refine xT O (fun _=>?_) (fun _=>?_)|refine zH O (fun _=>?_) (fun _=>?_)|refine yf O (fun _=>?_) (fun _=>?_)|refine xG O (fun _=>?_) (fun _=>?_))<;>(refine ql ?_;intros;first|(exact qb ⟨_,O,O,_,O⟩)|((first|refine qh O (fun _=>?_) (fun _=>?_)|refine qX O (fun _=>?_) (fun _=>?_)|refine xw O (fun _=>?_) (fun _=>?_)|refine qd O (fun _=>?_) (fun _=>?_)|refine xT O (fun _=>?_) (fun _=>?_)|refine zH O (fun _=>?_) (fun _=>?_)|refine yf O (fun _=>?_) (fun _=>?_)|refine xG O (fun _=>?_) (fun _=>?_))<;>(refine ql ?_;intros;first|(exact qb ⟨_,O,O,_,O⟩)|((first|refine qh O (fun _=>?_) (fun _=>?_)|refine qX O (fun _=>?_) (fun _=>?_)|refine xw O (fun _=>?_) (fun _=>?_)|refine qd O (fun _=>?_) (fun _=>?_)|refine xT O (fun _=>?_) (fun _=>?_)|refine zH O (fun _=>?_) (fun _=>?_)|refine yf O (fun _=>?_) (fun _=>?_)|refine xG O (fun _=>?_) (fun _=>?_))<;>(refine ql ?_;intros;first|(exact qb ⟨_,O,O,_,O⟩)|((first|refine qh O (fun _=>?_) (fun _=>?_)|refine qX O (fun _=>?_) (fun _=>?_)|refine xw O (fun _=>?_) (fun _=>?_)|refine qd O (fun _=>?_) (fun _=>?_)|refine xT O (fun _=>?_) (fun _=>?_)|refine zH O (fun _=>?_) (fun _=>?_)|refine yf O (fun _=>?_) (fun _=>?_)|refine xG O (fun _=>?_) (fun _=>?_))<;>(refine ql ?_;intros;first|(exact qb ⟨_,O,O,_,O⟩)|((first|refine qh O (fun _=>?_) (fun _=>?_)|refine qX O (fun _=>?_) (fun _=>?_)|refine xw O (fun _=>?_) (fun _=>?_)|refine qd O (fun _=>?_) (fun _=>?_)|refine xT O (fun _=>?_) (fun _=>?_)|refine zH O (fun _=>?_) (fun _=>?_)|refine yf O (fun _=>?_) (fun _=>?_)|refine xG O (fun _=>?_) (fun _=>?_))<;>(exact qb ⟨_,O,O,_,O⟩)))))))))))
theorem Or{b:BlsL}{n i:Nat}{j:Int}(hb:BlsOk b n)(hi:i<n)(h0:0<=j)(hj:j<=n):DK 90 [d4 b,.int i,.int j] fun d=>∃t:Bool,d=.bool t:=by
 obtain⟨k,rfl⟩:∃k:Nat,j=k:=⟨j.toNat,oM⟩;exact Sk hb hi oM
theorem UM{b:BlsL}{n:Nat}(hb:BlsOk b n):DK 54 [.one (.f (.sl 1 b.cost.length (b.cost.flatMap cU))),.int n] fun d=>d=.bool true:=by
 have h1:=hb.cl;have h2:=hb.n10;refine jY ?_;intros;refine qN (fun m E S nk=>∃i:Nat,i+m=n/\E=[(0,.one (.f (.sl 1 b.cost.length (b.cost.flatMap cU)))),(1,.int n),(5,.int i)]/\S=[]/\nk=0) n ⟨0,oM,O,O,O⟩ ?_;rintro m E S nk ⟨i,hm,rfl,rfl,rfl⟩;refine ql ?_;intros;refine qh O (fun h=>?_) (fun h=>?_)
 ·have h3:=hb.cs _ (qn (l:=b.cost) (i:=i) oM);refine ql ?_;intros;exact qG ⟨i+1,oM,O,O,O⟩
 ·exact Mj
theorem FV{b:BlsL}{n:Nat}(hb:BlsOk b n):DK 30 [d4 b] fun d=>d=.bool true:=by
 have h1:=hb.bl;refine jY ?_;intros;refine qf O O (by rw [h1];exact UM hb) ?_;rintro _ rfl;exact Mj
theorem Aq{l m:List Int}(hl:l.length<100000)(hm:m.length<100000):DK 56 [x7 l,x7 m] fun d=>∃t:Bool,d=.bool t:=by
 refine jY ?_;intros;refine xw O (fun h=>?_) (fun h=>?_)
 ·refine ql ?_;intros;exact qb ⟨_,O,O,_,O⟩
 ·refine ql ?_;intros;refine qN (fun m' E S nk=>∃i:Nat,i+m'=l.length/\E=[(0,x7 l),(1,x7 m),(5,.int i)]/\S=[]/\nk=0) (l.length) ⟨0,oM,O,O,O⟩ ?_;rintro m' E S nk ⟨i,hm',rfl,rfl,rfl⟩
  (refine ql ?_;intros;first|(first|exact qb ⟨_,O,O,_,O⟩|exact qM (m':=m'-1) oM ⟨i+1,oM,O,O,O⟩ xp)|((first|refine qh O (fun _=>?_) (fun _=>?_)|refine qX O (fun _=>?_) (fun _=>?_)|refine xw O (fun _=>?_) (fun _=>?_)|refine qd O (fun _=>?_) (fun _=>?_)|refine xT O (fun _=>?_) (fun _=>?_)|refine zH O (fun _=>?_) (fun _=>?_)|refine yf O (fun _=>?_) (fun _=>?_)|refine xG O (fun _=>?_) (fun _=>?_))<;>(refine ql ?_;intros;first|(first|exact qb ⟨_,O,O,_,O⟩|exact qM (m':=m'-1) oM ⟨i+1,oM,O,O,O⟩ xp)|((first|refine qh O (fun _=>?_) (fun _=>?_)|refine qX O (fun _=>?_) (fun _=>?_)|refine xw O (fun _=>?_) (fun _=>?_)|refine qd O (fun _=>?_) (fun _=>?_)|refine xT O (fun _=>?_) (fun _=>?_)|refine zH O (fun _=>?_) (fun _=>?_)|refine yf O (fun _=>?_) (fun _=>?_)|refine xG O (fun _=>?_) (fun _=>?_))<;>(refine ql ?_;intros;first|(first|exact qb ⟨_,O,O,_,O⟩|exact qM (m':=m'-1) oM ⟨i+1,oM,O,O,O⟩ xp)|((first|refine qh O (fun _=>?_) (fun _=>?_)|refine qX O (fun _=>?_) (fun _=>?_)|refine xw O (fun _=>?_) (fun _=>?_)|refine qd O (fun _=>?_) (fun _=>?_)|refine xT O (fun _=>?_) (fun _=>?_)|refine zH O (fun _=>?_) (fun _=>?_)|refine yf O (fun _=>?_) (fun _=>?_)|refine xG O (fun _=>?_) (fun _=>?_))<;>(refine ql ?_;intros;first|(first|exact qb ⟨_,O,O,_,O⟩|exact qM (m':=m'-1) oM ⟨i+1,oM,O,O,O⟩ xp)|((first|refine qh O (fun _=>?_) (fun _=>?_)|refine qX O (fun _=>?_) (fun _=>?_)|refine xw O (fun _=>?_) (fun _=>?_)|refine qd O (fun _=>?_) (fun _=>?_)|refine xT O (fun _=>?_) (fun _=>?_)|refine zH O (fun _=>?_) (fun _=>?_)|refine yf O (fun _=>?_) (fun _=>?_)|refine xG O (fun _=>?_) (fun _=>?_))<;>(first|exact qb ⟨_,O,O,_,O⟩|exact qM (m':=m'-1) oM ⟨i+1,oM,O,O,O⟩ xp)))))))))
theorem U9{b:BlsL}{n:Nat}{ends:List Int}(hb:BlsOk b n)(he:∀e∈ends,0<=e)(hl:ends.length<=100):DK 55 [d4 b,x7 ends] fun d=>∃t:Bool,d=.bool t:=by
 have h1:=hb.cl;have h2:=hb.bl;have h10:=hb.n10;refine jY ?_;intros;refine Zh O O (FV hb) ?_;intros;refine qN (fun m E S nk=>∃i f:Nat,i+m=ends.length/\f<=n/\(i<ends.length->f<n->True)/\E=[(1,x7 ends),(2,.one (.ptr 0 0)),(5,.int f),(6,.int i)]/\S=[(0,.cells [.f (.sl 1 b.cost.length (b.cost.flatMap cU)),.f (.sl 1 b.beg.length (b.beg.flatMap Zj)),.f (.c (.int .i64 b.most))])]/\nk=1) (ends.length) ⟨0,0,oM,oM,fun _ _=>trivial,O,O,O⟩ ?_;rintro m E S nk ⟨i,f,hm,hf, -,rfl,rfl,rfl⟩;refine ql ?_;intros;refine qh O (fun h=>?_) (fun h=>?_)
 ·have hx:=he _ (qn (l:=ends) (i:=i) oM);obtain⟨y,hy⟩:∃y:Nat,ends.getD i default=y:=⟨(ends.getD i default).toNat,oM⟩;refine ql ?_;intros;refine xT O (fun g1=>?_) (fun g1=>?_)
  ·refine ql ?_;intros;exact qb ⟨_,O,O,_,O⟩
  ·refine ql ?_;intros;refine xT O (fun g2=>?_) (fun g2=>?_)
   ·refine ql ?_;intros;exact qb ⟨_,O,O,_,O⟩
   ·refine ql ?_;intros;refine qf O O (Or hb oM oM oM) ?_;rintro _ ⟨t,rfl⟩;refine ql ?_;intros;refine qd O (fun g3=>?_) (fun g3=>?_)
    ·refine ql ?_;intros;exact qb ⟨_,O,O,_,O⟩
    ·refine ql ?_;intros;exact qG ⟨i+1,y,oM,oM,fun _ _=>trivial,O,O,O⟩
 ·refine ql ?_;intros;exact qb ⟨_,O,O,_,O⟩
theorem Pb{b:BlsL}{n:Nat}(hb:BlsOk b n):DK 31 [d4 b] fun d=>∃(q:List Int) (t:Bool),d=.tup [x7 q,.bool t]/\(∀e∈q,0<=e/\e<=n)/\q.Pairwise (·<·)/\q.length<=10:=by
 have h2:=hb.bl;have h10:=hb.n10;refine wj ?_;refine jY ?_;intros;refine qX O (fun h=>?_) (fun h=>?_)
 ·refine ql ?_;intros;exact qb ⟨_,O,O,.tup [x7 [],.bool true],nv,[],true,O,fun e he=>(by cases he),.nil,by simp⟩
 ·refine ql ?_;intros;refine qx (qg (k:=1) O (qg (k:=4) O (qg (k:=5) O (qg (k:=6) O (qg (k:=7) O (qv _)))))) (qg (k:=0) O (qg (k:=1) O (qv _))) ?_;refine qF 1 O Ql Ql ?_;refine qN (fun m E S nk=>∃(k:Nat) (q:List Int) (t:Bool),k+m=512/\(∀e∈q,0<=e/\e<=(n:Int))/\q.Pairwise (·<·)/\q.length<=10/\E=[(1,.one (.ptr 0 0)),(4,.int n),(5,x7 q),(6,.bool t),(7,.int k)]/\S=[(0,.cells [.f (.sl 1 b.cost.length (b.cost.flatMap cU)),.f (.sl 1 b.beg.length (b.beg.flatMap Zj)),.f (.c (.int .i64 b.most))])]/\nk=2) 512 ⟨0,[],false,by omega,fun e he=>(by cases he),.nil,by simp,rfl,rfl,rfl⟩ ?_;rintro m E S nk ⟨k,q,t,hm,hq,hqp,hql,rfl,rfl,rfl⟩;refine ql ?_;intros;refine Gn O O oM fun v hv=>?_;have hv2:v<=512:=by
   have:∀k,k<10->IntKind.i64.wrap (1*2^(min k 64))<=512:=by decide
   rw [hv];exact this _ oM
  refine ql ?_;intros;refine qh O (fun h1=>?_) (fun h1=>?_)
  ·refine ql ?_;intros;refine qN (fun m E S nk=>∃(i:Nat) (r:List Int),1<=i/\i+m=n/\(∀e∈r,0<=e/\e<=(n:Int))/\r.Pairwise (·<·)/\(∀e∈r,e<(i:Int))/\r.length<i/\E=[(1,.one (.ptr 0 0)),(4,.int n),(5,x7 q),(6,.bool t),(7,.int k),(8,.one (.own 2 0 r.length 1)),(9,.int i)]/\S=[(2,.data (r.flatMap yL)),(0,.cells [.f (.sl 1 b.cost.length (b.cost.flatMap cU)),.f (.sl 1 b.beg.length (b.beg.flatMap Zj)),.f (.c (.int .i64 b.most))])]/\nk=3) (n-1) ⟨1,[],by omega,by omega,fun e he=>(by cases he),.nil,fun e he=>(by cases he),by simp,rfl,rfl,rfl⟩ ?_;rintro m2 E S nk ⟨i,r,hi1,hm2,hr,hrp,hrb,hrl,rfl,rfl,rfl⟩;have hpw:∀x:Int,(i:Int)<=x->(r++[x]).Pairwise (·<·):=fun x hx=>L0.2 ⟨hrp,List.pairwise_singleton _ _,fun a ha b hb=>by rw [xM.1 hb];have:=hrb a ha;omega⟩;have hrb1:∀e∈r,e<((i+1:Nat):Int):=fun e he=>by have:=hrb e he;omega
   have hpb:∀e∈r++[(i:Int)],e<((i+1:Nat):Int):=fun e he=>by
    rcases xu.1 he with he|he
    ·exact hrb1 e he
    ·rw [xM.1 he];omega
   have hpush:∀x:Int,0<=x->x<=n->∀v∈r++[x],0<=v/\v<=(n:Int):=fun x h0 h1 v hm=>by
    rcases xu.1 hm with hm|hm
    ·exact hr v hm
    ·rw [xM.1 hm];exact⟨h0,h1⟩
   refine ql ?_;intros;refine qh O (fun g1=>?_) (fun g1=>?_)
   ·refine ql ?_;intros;refine Gm O O oM fun w hw=>?_;refine ql ?_;intros;refine qd O (fun g2=>?_) (fun g2=>?_)
    ·refine ql ?_;intros;exact qG ⟨i+1,r++[(i:Int)],by omega,by omega,hpush _ (by omega) (by omega),hpw _ (by omega),hpb,by simp;omega,rfl,rfl,rfl⟩
    ·refine ql ?_;intros;exact qG ⟨i+1,r,oM,oM,hr,hrp,hrb1,oM,O,O,O⟩
   ·refine ql ?_;intros;refine qY 4 O Ql Ql ?_;have hn:=hpush n oM oM;refine qf O O (U9 hb (fun e he=>(hn e he).1) (by simp;omega)) ?_;rintro _ ⟨u,rfl⟩;cases u with
    |false=>
     refine ql ?_;intros;exact qG ⟨k+1,q,t,oM,hq,hqp,hql,O,O,O⟩
    |true=>
     cases t with
     |false=>
      refine ql ?_;intros;exact qG ⟨k+1,r++[(n:Int)],true,by omega,hn,hpw _ (by omega),by simp;omega,rfl,rfl,rfl⟩
     |true=>
      refine ql ?_;intros;refine qf O O (Aq (by simp;omega) (by omega)) ?_;rintro _ ⟨w,rfl⟩;refine ql ?_;intros;refine qd O (fun g3=>?_) (fun g3=>?_)
      ·refine ql ?_;intros;exact qG ⟨k+1,r++[(n:Int)],true,by omega,hn,hpw _ (by omega),by simp;omega,rfl,rfl,rfl⟩
      ·refine ql ?_;intros;exact qG ⟨k+1,q,true,oM,hq,hqp,hql,O,O,O⟩
  ·refine ql ?_;intros;exact qb ⟨_,O,O,_,nv,q,t,O,hq,hqp,hql⟩
theorem Gz{b:BlsL}{n:Nat}(hb:BlsOk b n):DK 14 [d4 b] fun d=>∃(q:List Int) (e:Int),d=.tup [x7 q,.int e]/\(∀v∈q,0<=v/\v<=n)/\q.Pairwise (·<·)/\q.length<=10:=by
 refine wj ?_;refine jY ?_;intros;refine Zh O O (FV hb) ?_;intros;refine qh O (fun h=>?_) (fun h=>?_)
 ·refine ql ?_;intros;exact qb ⟨_,O,O,.tup [x7 [],.int 1],nv,[],1,O,fun e he=>(by cases he),.nil,by simp⟩
 ·refine ql ?_;intros;refine qf O O (Pb hb) ?_;rintro _ ⟨q,t,rfl,hq,hqp,hql⟩;cases t with
  |false=>
   refine ql ?_;intros;exact qb ⟨_,O,O,.tup [x7 [],.int 230],nv,[],230,O,fun e he=>(by cases he),.nil,by simp⟩
  |true=>
   refine ql ?_;intros;exact qb ⟨_,O,O,_,nv,q,0,O,hq,hqp,hql⟩
end Go.Ai
namespace Go.Ab
section
variable{p:Par}{n:Nat}{Q:Exit->qk->Bx->Nat->Prop}{E:qk}{S:Bx}{nk:Nat}
theorem yG{s:SC}(kb i esz:Nat){l:List DC}(hk:lk S kb=some (.cells l))(hi:l[i]?=some (.f (.c .nils)))(h:DPS p n s Q E ((nk,.data [])::put kb (.cells (l.set i (.own nk 0 0 esz))) S) (nk+1)):DPS p n s Q E S nk:=.mk fun Z β H F hS hE=>by
 have hT:=V1 hS;have hB:xL β (wm β nk .nil):=hS.ble .nil;have hkn:=hS.lt hk;have hkT:lk ((nk,.data [])::S) kb=some (.cells l):=by rw [qw,if_neg (by omega)];exact hk
 refine h.run Z _ H F ?_ (hE.mono (xb.refl Z H) hB);have hput:∀j,lk ((nk,.data [])::put kb (.cells (l.set i (.own nk 0 0 esz))) S) j=lk (put kb (.cells (l.set i (.own nk 0 0 esz))) ((nk,.data [])::S)) j:=fun j=>by
  simp only [put,wS (show nk≠kb by omega)]
 refine⟨hT.wf,hT.lo,hT.z,hT.zlo,hT.zz,hT.glob,hT.nk,hT.bd,fun κ y hκ=>?_,fun κ κ' y y' b N N' hj hj'=>?_,hT.blo,hT.anch,hT.ancn⟩
 ·rw [yK (hput κ.1),aA hkT rfl] at hκ;split at hκ
  ·rename_i e;split at hκ
   ·rename_i e2;obtain rfl:=Yf e e2;obtain rfl:=zsi hκ;obtain⟨s,hs,hbx⟩:=hT.box (kb,0) _ (zN hkT rfl);refine⟨s,hs,?_⟩;cases s with
    |nil=>
     have:l=[]:=vw hbx;subst this;cases hi
    |blk b N=>
     obtain⟨g1,g2,g3,cs,rest,g4,g5,g6⟩:=hbx;refine⟨g1,g2,g3,cs,rest,g4,g5,?_⟩;obtain⟨c,hc,hr⟩:=qe.at g6 i _ hi;cases hr;have hset:cs.set i .nils=cs:=by
      refine vF fun j=>?_;rw [Q4];split
      ·rename_i ej;subst ej;rw [hc];first|rfl|rw [if_pos (zgs hc).1]
      ·rfl
     show qe _ _ _
     rw [<-hset];exact qe.set g6 i (.inl ⟨xk _ _ _,O,O,O⟩)
   ·cases hκ
  ·exact hT.box κ y hκ
 ·rw [hput] at hj hj';rw [yu] at hj hj';have f:∀a z,(if a=kb then Option.map (fun _=>Bk.cells (l.set i (.own nk 0 0 esz))) (lk ((nk,.data [])::S) a) else lk ((nk,.data [])::S) a)=some z->∃z',lk ((nk,.data [])::S) a=some z':=fun a z hz=>by
   split at hz
   ·cases hl:lk ((nk,.data [])::S) a with
    |none=>rw [hl] at hz;cases hz
    |some q=>exact⟨q,O⟩
   ·exact⟨z,hz⟩
  obtain⟨z1,e1⟩:=f κ.1 y hj;obtain⟨z2,e2⟩:=f κ'.1 y' hj';exact hT.inj κ κ' z1 z2 b N N' e1 e2
end
end Go.Ab
namespace Go.Ai
open Go.Ab Go.Proofs
theorem wv{f:FuncId}{ds:List DV}{R:DV->Bx->Nat->Prop}{n:Nat}{code:SC}{res:List SRes}(h:∀Z0 lo,DPS (Par.base Tryz.prog GN (H00 1) Z0 lo) n code (cG (Par.base Tryz.prog GN (H00 1) Z0 lo) res R) (jC ds 0) [] 0)(hf:yr Tryz.prog GN f=some ⟨n,code,res⟩/\Nat.ble ds.length n=true:=by constructor;(set_option maxRecDepth 100000 in (conv=>lhs;reduce;simp only [Int.reduceOfNat,Int.reduceNegSucc]));rfl):Ws Tryz.prog GN (H00 1) f ds R:=FQ hf.1 hf.2 ko h
noncomputable abbrev parX (Z0:Nat->Prop) (lo anc:Nat) (β0:qt) (H1:Hp):Par:=⟨Tryz.prog,GN,H00 1,Z0,lo,anc,β0,H1,none⟩
abbrev Q2(f:FuncId)(ds:List DV)(S:Bx)(nk:Nat)(R:DV->Bx->Nat->Prop):Prop:=∀Z0 lo anc β0 H1,DX (parX Z0 lo anc β0 H1) f ds S nk R
abbrev jg(f:FuncId)(ds:List DV)(R:DV->Bx->Nat->Prop):Prop:=Ws Tryz.prog GN (H00 1) f ds R
theorem JD{f:FuncId}{ds:List DV}{S:Bx}{nk:Nat}{R:DV->Bx->Nat->Prop}{n:Nat}{code:SC}{res:List SRes}(h:∀Z β H lo,DPS (parX Z lo nk β H) n code (cG (parX Z lo nk β H) res R) (jC ds 0) S nk)(hf:yr Tryz.prog GN f=some ⟨n,code,res⟩/\Nat.ble ds.length n=true:=by constructor;(set_option maxRecDepth 100000 in (conv=>lhs;reduce;simp only [Int.reduceOfNat,Int.reduceNegSucc]));rfl):Q2 f ds S nk R:=fun Z0 lo anc β0 H1=>Dm (p:=parX Z0 lo anc β0 H1) hf.1 hf.2 fun Z β H=>h Z β H lo
theorem Gx(n:Nat):1<=yO n/\yO n<=27:=by
 rcases bD n 10 with h|h
 ·have:∀n,n<10->1<=yO n/\yO n<=27:=by decide
  exact this n h
 ·unfold yO;rw [qT,yJ (by simpa using h)];decide
theorem kT{n:Nat}:∀c∈ze n,1<=c/\c<=63:=by
 have key:∀k,∀c∈(List.range k).foldl (yb n) [60],1<=c/\c<=63:=by
  intro k;induction k with
  |zero=>intro c hc;rw [xM.1 hc];decide
  |succ k ih=>
   rw [XY,eN,YN,List.foldl_nil];intro c hc;unfold yb at hc;split at hc
   ·rcases xu.1 hc with hc|hc
    ·exact ih c hc
    ·rw [xM.1 hc];have:=Gx (n/jX k % 10);omega
   ·exact ih c hc
 exact key 5
abbrev qA(l:List Int):Prop:=∀c∈l,0<=c/\c<=63
theorem qA.app{l m:List Int}(h:qA l)(h2:qA m):qA (l++m):=fun c hc=>(xu.1 hc).elim (h c) (h2 c)
theorem qA.rep{n:Nat}:qA (List.replicate n 0):=fun c hc=>by rw [(DM.1 hc).2];decide
theorem qA.pos{l:List Int}(h:∀c∈l,1<=c/\c<=63):qA l:=fun c hc=>by have:=h c hc;omega
structure LineOk (l:List Int):Prop where
 cell:qA l
 last:∀h:l≠[],l.getLast h≠0
theorem LineOk.pos{l:List Int}(h:∀c∈l,1<=c/\c<=63):LineOk l:=⟨.pos h,fun h0=>by have:=h _ (List.getLast_mem h0);omega⟩
theorem LineOk.app{l m:List Int}(h:qA l)(hm:m≠[])(h2:LineOk m):LineOk (l++m):=⟨h.app h2.cell,fun h0=>by rw [Ix _ hm];exact h2.last hm⟩
theorem LineOk.trim{l:List Int}{n:Nat}(h:qA l)(hn:n<=l.length)(hz:0<n->l.getD (n-1) default≠0):LineOk (l.take n):=⟨fun c hc=>h c (nQ hc),fun h0=>by
 have h1:0<n:=by
  rcases LW n with rfl|h1
  ·exact absurd O h0
  ·exact h1
 rw [Cj,List.getElem_take];have:=hz h1;rw [qT,zge (by omega)] at this;simpa [xS,L7 hn] using this⟩
theorem LnOk.line{a w:Nat}{l:List Int}(h:LnOk a w l):LineOk l:=⟨h.cell,h.last⟩
theorem PO{w h b:Nat}(h1:24<=w/\w<=60)(h2:4<=h/\h<=40)(h3:1<=b/\b<=20):DK 25 [.agg [.f (.c (.int .i64 w)),.f (.c (.int .i64 h)),.f (.c (.int .i64 b))]] fun d=>d=.bool true:=by
 refine jY ?_;intros;exact qb ⟨_,O,O,O⟩
theorem Ym{α:Type}[Inhabited α]{l m:List α}{i:Nat}(h:i<l.length):(l++m).getD i default=l.getD i default:=by
 rw [qT,qT,Qz h]
theorem uX{α:Type}[Inhabited α]{l:List α}{x:α}:(l++[x]).getD l.length default=x:=by
 rw [qT,Q3 (qz _),Nat.sub_self];rfl
def uP(n:Int):List FD:=[.c (.int .i64 n),.c (.int .i64 0)]
theorem U7{n:Nat}(hn:n<100000):DK 17 [.int n] fun d=>∃l:List Int,d=.one (.f (.sl 2 l.length (l.flatMap uP)))/\l.length=n/\∀i,i<n->l.getD i default=(i+1:Nat):=by
 refine jY ?_;intros;refine qN (fun m E S nk=>∃(i:Nat) (l:List Int),i+m=n/\l.length=i/\(∀j,j<i->l.getD j default=(j+1:Nat))/\E=[(0,.int n),(3,.one (.own 0 0 l.length 2)),(4,.int ((i+1:Nat):Int))]/\S=[(0,.data (l.flatMap uP))]/\nk=1) n ⟨0,[],oM,O,fun j hj=>absurd hj oM,O,O,O⟩ ?_;rintro m E S nk ⟨i,l,hm,hl,hg,rfl,rfl,rfl⟩;refine ql ?_;intros;refine qh O (fun h=>?_) (fun h=>?_)
 ·refine ql ?_;intros;exact qM (m':=m-1) (by omega) ⟨i+1,l++[((i+1:Nat):Int)],by omega,by simp;omega,fun j hj=>(by
   rcases bD j l.length with h1|h1
   ·rw [Ym h1];exact hg j (by omega)
   ·obtain rfl:j=l.length:=by omega
    rw [uX,hl]),rfl,rfl,rfl⟩ xp
 ·refine ql ?_;intros;exact qP 2 O O ⟨_,O,O,l,O,oM,fun j hj=>hg j oM⟩
abbrev fW(k n:Nat)(a e:Int):DV:=.agg [.own k 0 n 5,.f (.c (.int .i64 a)),.f (.c (.int .i64 e))]
def jE(w:Nat)(r:RowL):Prop:=r.line.length<=w/\LineOk r.line/\ -1<=r.at_/\0<=r.ink/\r.ink<=9999
def rY(r:RowL):RowL:={ r with keep:=true }
theorem aU{α:Type}{P:α->Prop}{l:List α}{i:Nat}{x:α}(h:∀r∈l,P r)(hx:P x):∀r∈l.set i x,P r:=fun r hr=>by
 rcases LR hr with h1|rfl
 ·exact h r h1
 ·exact hx
abbrev wx:Bk:=.cells (List.map Qj [C.nils,C.int IntKind.i64 0,C.int IntKind.i64 0])
theorem Kq.at{a b w:Nat}:∀{L:List (List Int)} {i:Nat},Kq a b w L->i<L.length->LnOk (if i=0 then a else b) w (L.getD i default)
 |x::r,0,h,_=>h.1
 |x::r,i+1,h,hi=>by
  rw [if_neg (by omega)];exact h.2 _ (qn (l:=r) (by simpa using hi))
theorem pE{l:List Int}{w a b:Nat}(hl:l.length<60000)(hc:∀c∈l,0<=c)(hw:24<=w/\w<=60)(ha:a<=16)(hb:b<=16):jg 49 [qq l,.int w,TX a b] fun d S nk=>∃(q:List RowL) (e:Int),q.length<=l.length+2/\(∀r∈q,jE w r)/\d=fW 0 q.length 0 e/\S=[(0,.data (q.flatMap zr))]/\nk=2:=by
 refine wv fun Z0 lo=>?_;refine ql ?_;intros;refine qf O O (F6 oM hc hw ha hb) ?_;rintro _ ⟨L,at_,e,rfl,hL,he,hok⟩;refine ql ?_;intros;refine yG 3 0 5 O O ?_;refine qN (fun m E S nk=>∃(i t:Nat) (q:List RowL),i+m=L.length/\q.length=i/\(∀r∈q,jE w r)/\t<=61*i/\E=[(5,.one (.ptr 0 0)),(6,.one (.ptr 1 0)),(7,.one (.ptr 2 0)),(8,.int t),(9,.one (.ptr 3 0)),(10,.int i)]/\S=[(0,.cells [.f (FD.int a),.f (FD.int b)]),(1,wx),(2,.cells [.f (.sl 1 L.length (L.flatMap ja)),.f (FD.int at_),.f (FD.int e)]),(3,.cells [.own 4 0 q.length 5,.f (.c (.int .i64 0)),.f (.c (.int .i64 0))]),(4,.data (q.flatMap zr))]/\nk=5) (L.length) ⟨0,0,[],oM,O,fun r hr=>(by cases hr),oM,O,O,O⟩ ?_;rintro m E S nk ⟨i,t,q,hm,hq,hq2,ht,rfl,rfl,rfl⟩;refine ql ?_;intros;refine qh O (fun h=>?_) (fun h=>?_)
 ·have he0:e=0:=Classical.byContradiction fun h0=>by rw [he h0] at h;simp at h;omega
  have hln:=(hok he0).at (i:=i) oM;have hl1:=hln.ge;have hl2:=hln.le;have hab:(if i=0 then a else b)<=16:=by split<;>assumption
  refine ql ?_;intros;have hpush:∀r∈q++[(⟨L.getD i default,false,0,0,t⟩:RowL)],jE w r:=fun r hr=>by
   rcases xu.1 hr with h1|h1
   ·exact hq2 r h1
   ·rw [xM.1 h1];exact⟨hl2,hln.line,by show (-1:Int)<=t;omega,Ky 0,by show (0:Int)<=9999;decide⟩
  refine Ze (a:=⟨L.getD i default,false,0,0,t⟩) O O O ⟨O,O,_,O,O⟩ fG wY wY qr (fun _=>O) O ?_;refine ql ?_;intros;by_cases h0:i=0
  ·rw [show min (i:Int) 1=0 by omega];rw [if_pos h0] at hl1;refine ql ?_;intros;exact qG ⟨i+1,t+((L.getD i default).length-a+1),q++[⟨L.getD i default,false,0,0,t⟩],by omega,by simp;omega,hpush,by omega,rfl,rfl,rfl⟩
  ·rw [show min (i:Int) 1=1 by omega];rw [if_neg h0] at hl1;refine ql ?_;intros;exact qG ⟨i+1,t+((L.getD i default).length-b+1),q++[⟨L.getD i default,false,0,0,t⟩],by omega,by simp;omega,hpush,by omega,rfl,rfl,rfl⟩
 ·refine ql ?_;intros;refine yF (E0:=[(6,.one (.ptr 1 0))]) (S0:=[(0,.data (q.flatMap zr)),(1,.cells [.own 0 0 q.length 5,.f (.c (.int .i64 0)),.f (.c (.int .i64 e))])]) (n0:=2) xp ?_;exact qb ⟨_,O,O,_,qg O (qv _),q,e,oM,hq2,O,O,O⟩
end Go.Ai
