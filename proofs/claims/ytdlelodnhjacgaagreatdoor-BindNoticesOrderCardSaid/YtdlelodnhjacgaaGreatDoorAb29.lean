/- -/
import Derived.Test.YtdlelodnhjacgaaGreatDoorAb20
import Derived.Test.YtdlelodnhjacgaaGreatDoorAb26
set_option linter.unusedSimpArgs false
set_option linter.unusedVariables false
set_option maxRecDepth 8000
set_option maxHeartbeats 16000000
namespace Go.Ai
open Go.Ab Go.Proofs
section
variable{p:Par}{base rs:Nat}{Q:qk->Bx->Nat->Prop}{r:List SOper}{W:Wt}{A:List Nat}{E:qk}{S:Bx}{nk:Nat}{id:Nat}{dst:Option Nat}{aid:Option Nat}{ws:List Nat}{keep:Bool}
theorem A2 {α:Type} {f:α->List FD} {g:α->FD} {R:List (List α)} {bytes:Nat} {s v:Opd} {k kv k' n m:Nat} {q:List α} (hf:∀x,f x=[g x]) (hs:ro E s=some (.one (.own k 0 n 1))) (hv:ro E v=some (.one (.own kv 0 1 1))) (hk:lk S k=some (.tree (zD g R))) (hn:R.length=n) (hkv:lk S kv=some (.cells [.own k' 0 m 1])) (hk':lk S k'=some (.data (q.flatMap f))) (hq:q.length=m) (hbb:(n+1)*bytes<=140737488355328) (h62:n+1<4611686018427387904) (hw:QF S k W=true)
 (h:DPW p base rs Q r W A (qI E dst (.one (.own nk 0 (n+1) 1))) ((nk,.tree (zD g (R++[q])))::xP k' (xP kv (xP k S))) (nk+1)):DPW p base rs Q (⟨id,dst,.e (.append 1 bytes s v),none,aid,ws,keep⟩::r) W A E S nk:=by
 refine m6 hs hv hk (by rw [xX];exact hn) hkv (by rw [hk',Vu hf]) (by rw [xX];exact hq) hbb h62 hw ?_;rw [show zD g R++[q.map g]=zD g (R++[q]) by simp [zD]];exact h
end
def Um(r:List Bool):List FD:=[.sl 1 r.length (r.flatMap Zj)]
structure GrL (n m:Nat) (R:List (List Bool)):Prop where
 l:R.length=m
 r:∀i,i<m->(R.getD i default).length=n
abbrev jS(n m:Nat)(R:List (List Bool)):List DC:=[.f (FD.int n),.f (FD.int m),.f (.sl 1 m (R.flatMap Um))]
theorem GrL.new(n m:Nat):GrL n m (List.replicate m (List.replicate n false)):=⟨xN,fun i hi=>by
 rw [qT,Zu,if_pos hi];exact xN⟩
theorem GrL.set{n m:Nat}{R:List (List Bool)}(h:GrL n m R){i k:Nat}{b:Bool}:GrL n m (R.set i ((R.getD i default).set k b)):=⟨by rw [jG];exact h.l,fun j hj=>by
 by_cases e:j=i
 ·subst e;rw [qT,nI (by rw [h.l];exact hj),QB,jG];exact h.r j hj
 ·rw [qT,eI (by omega),<-qT];exact h.r j hj⟩
theorem A9{n m:Nat}(hn:n<=200)(hm:m<=200):jg 135 [.int n,.int m] fun d S nk=>d=.agg [.f (FD.int n),.f (FD.int m),.own 2 0 m 1]/\S=[(2,.tree (zD wR (List.replicate m (List.replicate n false))))]/\nk=3:=by
 refine wv fun Z0 lo=>?_;refine qc ?_;intros;rw [show min (max (n:Int) 0) 200=(n:Int) by omega,show min (max (m:Int) 0) 200=(m:Int) by omega];refine W7 1 2 O O ?_;refine qN (fun k E S nk=>∃y:Nat,y+k=m/\E=[(4,.one (.ptr 0 0)),(5,.one (.ptr 1 0)),(6,.int y)]/\S=[(0,.cells [.f (FD.int 0),.f (FD.int 0),.f (.c .nils)]),(1,.cells [.f (FD.int n),.f (FD.int m),.own 2 0 y 1]),(2,.tree (zD wR (List.replicate y (List.replicate n false))))]/\nk=3) m ⟨0,oM,O,O,O⟩ ?_;rintro k E S nk ⟨y,hy,rfl,rfl,rfl⟩;refine qc ?_;intros;refine qh O (fun g=>?_) (fun g=>?_)
 ·refine qc ?_;intros;refine We Zj false O O O O ⟨O,O,trivial⟩ O qr oM oM oM ?_;refine qc ?_;intros;refine A2 (R:=List.replicate y (List.replicate n false)) (q:=List.replicate n false) (f:=Zj) (g:=wR) (fun _=>O) O O O xN O O xN oM oM O ?_;rw [<-L1];refine qc ?_;intros;exact qG ⟨y+1,oM,O,O,O⟩
 ·obtain rfl:y=m:=by omega
  refine qc ?_;intros;refine qb ⟨_,O,O,_,qg (k:=2) O (qv _),O,O,O⟩
theorem Oo{n m:Nat}{x:FD}{p:qj}:DK 163 [.agg [.f (FD.int n),.f (FD.int m),.f x],wd p] fun d=>∃b:Bool,d=.bool b/\(b=true->(0<=p.1/\p.1<n)/\0<=p.2/\p.2<m):=by
 refine va fun Z0 lo=>?_;by_cases h1:0<=p.1
 ·by_cases h2:p.1<n
  ·by_cases h3:0<=p.2
   ·by_cases h4:p.2<m
    ·refine qc ?_;intros;exact qb ⟨_,O,O,_,O,fun _=>⟨⟨h1,h2⟩,h3,h4⟩⟩
    ·refine qc ?_;intros;exact qb ⟨_,O,O,_,O,fun h=>by cases h⟩
   ·refine qc ?_;intros;exact qb ⟨_,O,O,_,O,fun h=>by cases h⟩
  ·refine qc ?_;intros;exact qb ⟨_,O,O,_,O,fun h=>by cases h⟩
 ·refine qc ?_;intros;exact qb ⟨_,O,O,_,O,fun h=>by cases h⟩
theorem UY{n m:Nat}{R:List (List Bool)}{l:List qj}(hn:n<=200)(hm:m<=200)(hR:GrL n m R)(hl:l.length<1000000):DK 136 [.agg (jS n m R),xt l] fun d=>∃R',d=.agg (jS n m R')/\GrL n m R':=by
 have hRl:=hR.l;refine xr ?_;intros;refine zw O O (A9 hn hm) ?_;rintro _ _ _ ⟨rfl,rfl,rfl⟩;refine qc ?_;intros;refine qN (fun k E S nk=>∃(y:Nat) (T:List (List Bool)),y+k=m/\GrL n m T/\E=[(1,xt l),(2,.one (.ptr 0 0)),(4,.one (.ptr 1 0)),(5,.one (.ptr 5 0)),(6,.int y)]/\S=[(0,.cells (jS n m R)),(1,.cells [.f (FD.int 0),.f (FD.int 0),.f (.c .nils)]),(5,.cells [.f (FD.int n),.f (FD.int m),.own 4 0 m 1]),(4,.tree (zD wR T))]/\nk=6) m ⟨0,List.replicate m (List.replicate n false),oM,.new n m,O,O,O⟩ ?_;rintro k E S nk ⟨y,T,hy,hT,rfl,rfl,rfl⟩;refine qc ?_;intros;refine qh O (fun g=>?_) (fun g=>?_)
 ·refine qc ?_;intros;refine qN (fun k2 E S nk=>∃(x:Nat) (T:List (List Bool)),x+k2=n/\GrL n m T/\E=[(1,xt l),(2,.one (.ptr 0 0)),(4,.one (.ptr 1 0)),(5,.one (.ptr 5 0)),(6,.int y),(7,.int x)]/\S=[(0,.cells (jS n m R)),(1,.cells [.f (FD.int 0),.f (FD.int 0),.f (.c .nils)]),(5,.cells [.f (FD.int n),.f (FD.int m),.own 4 0 m 1]),(4,.tree (zD wR T))]/\nk=6) n ⟨0,T,oM,hT,O,O,O⟩ ?_;clear hT T;rintro k2 E S nk ⟨x,T,hx,hT,rfl,rfl,rfl⟩;have hTl:=hT.l;refine qc ?_;intros;refine qh O (fun g2=>?_) (fun g2=>?_)
  ·have hTr:=hT.r y oM;have hRr:=hR.r y oM;refine qc ?_;intros;refine ZS (g:=wR) (R:=T) ((R.getD y default).getD x default) O O O oM oM O ?_;refine qc ?_;intros;exact qG ⟨x+1,T.set y ((T.getD y default).set x ((R.getD y default).getD x default)),oM,hT.set,O,O,O⟩
  ·refine qc ?_;intros;exact qG ⟨y+1,T,oM,hT,O,O,O⟩
 ·refine qc ?_;intros;refine qN (fun k E S nk=>∃(i:Nat) (T:List (List Bool)),i+k=l.length/\GrL n m T/\E=[(1,xt l),(2,.one (.ptr 0 0)),(4,.one (.ptr 1 0)),(5,.one (.ptr 5 0)),(8,.int i)]/\S=[(0,.cells (jS n m R)),(1,.cells [.f (FD.int 0),.f (FD.int 0),.f (.c .nils)]),(5,.cells [.f (FD.int n),.f (FD.int m),.own 4 0 m 1]),(4,.tree (zD wR T))]/\nk=6) (l.length) ⟨0,T,oM,hT,O,O,O⟩ ?_;clear hT T;rintro k2 E S nk ⟨i,T,hi,hT,rfl,rfl,rfl⟩;have hTl:=hT.l;refine qc ?_;intros;refine qh O (fun g2=>?_) (fun g2=>?_)
  ·refine qc ?_;intros;refine qf O O (Oo (n:=n) (m:=m) (p:=l.getD i default)) ?_;rintro _ ⟨b,rfl,hb⟩;refine qc ?_;intros;refine qd O (fun g3=>?_) (fun g3=>?_)
   ·obtain⟨⟨b1,b2⟩,b3,b4⟩:=hb g3;have hTr:=hT.r (l.getD i default).2.toNat oM;refine qc ?_;intros;refine ZS (g:=wR) (R:=T) true O O O oM oM O ?_;refine qc ?_;intros;exact qG ⟨i+1,T.set (l.getD i default).2.toNat ((T.getD (l.getD i default).2.toNat default).set (l.getD i default).1.toNat true),oM,hT.set,O,O,O⟩
   ·refine qc ?_;intros;exact qG ⟨i+1,T,oM,hT,O,O,O⟩
  ·have hmr:m=(zD wR T).length:=by rw [xX,hTl]
   refine qx (qg (k:=4) O (qg (k:=5) O (qv _))) (qg (k:=1) O (qg (k:=5) O (qg (k:=4) O (qv _)))) ?_;refine XF 4 O qo qo ?_;refine qc ?_;intros;refine qb ⟨_,O,O,T,?_,hT⟩;show DV.agg [.f (FD.int n),.f (FD.int m),.f (.sl 1 m ((zD wR T).map xn))]=_;rw [Xl (f:=Zj) (g:=wR) (fun _=>rfl)];rfl
theorem Ln{x:List Int}{c:Nat}(h:c<x.length):xd (x.flatMap qU) c 1=some (qU (x.getD c default)):=by
 have:=zp (f:=qU) (e:=1) (fun _=>rfl) (l:=x) (i:=c) (x:=x.getD c default) (by rw [zge h,qT,zge h];rfl)
 rwa [X2] at this
theorem Id{b:Nat}{v:Int}(hb:b<6)(h0:0<=v)(h1:v<2^b):IntKind.u8.wrap (v+IntKind.u8.wrap (1*2^min ((b:Int)).toNat IntKind.u8.bits))=v+2^b/\0<=v+2^b/\v+2^b<2^(b+1)/\v+2^b<=63:=by
 have key:∀b:Nat,b<6->∀v:Nat,v<2^b->IntKind.u8.wrap ((v:Int)+IntKind.u8.wrap (1*2^min ((b:Int)).toNat IntKind.u8.bits))=(v:Int)+2^b/\(v:Int)+2^b<2^(b+1)/\(v:Int)+2^b<=63:=by decide+kernel
 obtain⟨n,rfl⟩:∃n:Nat,v=n:=⟨v.toNat,oM⟩;have h2:n<2^b:=by exact_mod_cast h1
 obtain⟨k1,k2,k3⟩:=key b hb n h2;have h3:(0:Int)<2^b:=Int.pow_pos qr;exact⟨k1,oM,k2,k3⟩
theorem C6{n m:Nat}{R:List (List Bool)}(hn:n<=200)(hm:m<=200)(hR:GrL n m R):DK 51 [.agg (jS n m R)] fun d=>∃(q:List (List Int)) (e:Int),d=.tup [qW q,.int e]/\q.length<=200/\∀x∈q,x.length<100000/\qA x:=by
 have hRl:=hR.l;refine wj ?_;refine va fun Z0 lo=>?_;by_cases h2:n % 2=0
 ·have e2:((n % Int.toNat 2:Nat):Int)=0:=by show ((n % 2:Nat):Int)=0;omega
  by_cases h3:m % 3=0
  ·have e3:((m % Int.toNat 3:Nat):Int)=0:=by show ((m % 3:Nat):Int)=0;omega
   have q2:n/Int.toNat 2=n/2:=rfl;have q3:m/Int.toNat 3=m/3:=rfl;refine qc ?_;intros;refine qN (fun k E S nk=>∃(r:Nat) (q:List (List Int)),r+k=m/3/\q.length=r/\(∀x∈q,x.length<100000/\qA x)/\E=[(1,.one (.ptr 0 0)),(4,.one (.own 1 0 q.length 1)),(5,.int r)]/\S=[(0,.cells (jS n m R)),(1,.data (q.flatMap ja))]/\nk=2) (m/3) ⟨0,[],oM,O,fun x hx=>(by cases hx),O,O,O⟩ ?_;rintro k E S nk ⟨r,q,hr,hq,hq2,rfl,rfl,rfl⟩;refine qc ?_;intros;refine qh O (fun g=>?_) (fun g=>?_)
   ·refine qc ?_;intros;refine qN (fun k2 E S nk=>∃(c:Nat) (x:List Int),c+k2=n/2/\x.length=n/2/\qA x/\(∀j,c<=j->x.getD j default=0)/\E=[(1,.one (.ptr 0 0)),(4,.one (.own 1 0 q.length 1)),(5,.int r),(6,.one (.own 2 0 (n/2) 1)),(7,.int c)]/\S=[(0,.cells (jS n m R)),(1,.data (q.flatMap ja)),(2,.data (x.flatMap qU))]/\nk=3) (n/2) ⟨0,List.replicate (n/2) 0,by omega,xN,.rep,fun j _=>(by rw [qT,Zu];split<;>rfl),rfl,rfl,rfl⟩ ?_;rintro k2 E S nk ⟨c,x,hc,hx,hxc,hx0,rfl,rfl,rfl⟩;refine qc ?_;intros;refine qh O (fun g2=>?_) (fun g2=>?_)
    ·refine qc ?_;intros;refine qN (fun k3 E S nk=>∃(b:Nat) (x:List Int),b+k3=6/\x.length=n/2/\qA x/\(∀j,c+1<=j->x.getD j default=0)/\(0<=x.getD c default/\x.getD c default<2^b)/\E=[(1,.one (.ptr 0 0)),(4,.one (.own 1 0 q.length 1)),(5,.int r),(6,.one (.own 2 0 (n/2) 1)),(7,.int c),(8,.int b)]/\S=[(0,.cells (jS n m R)),(1,.data (q.flatMap ja)),(2,.data (x.flatMap qU))]/\nk=3) 6 ⟨0,x,by omega,hx,hxc,fun j hj=>hx0 j (by omega),by rw [hx0 c (qz _)];decide,rfl,rfl,rfl⟩ ?_;clear hx hxc hx0;rintro k3 E S nk ⟨b,x,hb,hx,hxc,hx0,hxb,rfl,rfl,rfl⟩;refine qc ?_;intros;refine qh O (fun g3=>?_) (fun g3=>?_)
     ·have hb3:b % Int.toNat 3<3:=by show b % 3<3;omega
      have hb4:((b/Int.toNat 3:Nat):Int)<=1:=by show ((b/3:Nat):Int)<=1;omega
      have hb5:0<=((b/Int.toNat 3:Nat):Int):=eO _;have hrow:=hR.r (3*(r:Int)+((b % Int.toNat 3:Nat):Int)).toNat oM;have hsub:=Ln (x:=x) (c:=c) oM;refine qc ?_;intros;refine qd O (fun g4=>?_) (fun g4=>?_)
      ·have hbit:=Id (b:=b) oM hxb.1 hxb.2;have hcl:c<x.length:=oM;refine qc ?_;intros;refine QU (f:=qU) (e:=1) (i:=c) (c:=0) (l:=x) (n:=1) (q:=[.c (.int .u8 (IntKind.u8.wrap (x.getD c default+IntKind.u8.wrap (1*2^min ((b:Int)).toNat IntKind.u8.bits))))]) (IntKind.u8.wrap (x.getD c default+IntKind.u8.wrap (1*2^min ((b:Int)).toNat IntKind.u8.bits))) O oM O O O O hcl (fun _=>O) qr O O ?_;rw [hbit.1];refine qc ?_;intros;exact qM (m':=k3-1) (by omega) ⟨b+1,x.set c (x.getD c default+2^b),by omega,by rw [jG];exact hx,fun y hy=>(by
        rcases LR hy with h|rfl
        ·exact hxc y h
        ·exact⟨by have:=hbit.2.1;omega,by have:=hbit.2.2.2;omega⟩),fun j hj=>(by
        rw [qT,eI (by omega),<-qT];exact hx0 j hj),(by
        rw [qT,nI hcl,QB];exact⟨hbit.2.1,hbit.2.2.1⟩),rfl,rfl,rfl⟩ xp
      ·refine qc ?_;intros;exact qG ⟨b+1,x,by omega,hx,hxc,hx0,⟨hxb.1,by have:=hxb.2;rw [Int.pow_succ];omega⟩,rfl,rfl,rfl⟩
     ·refine qc ?_;intros;exact qG ⟨c+1,x,oM,hx,hxc,hx0,O,O,O⟩
    ·have hxl:(x.flatMap qU).length=x.length*1:=kH (fun _=>by rfl) _;rw [<-hx];refine qF 2 O qo qo ?_;refine qc ?_;intros;exact qM (m':=k-1) (by omega) ⟨r+1,q++[x],by omega,by simp;omega,fun y hy=>(by
      rcases xu.1 hy with h|h
      ·exact hq2 y h
      ·rw [xM.1 h];exact⟨by omega,hxc⟩),rfl,rfl,rfl⟩ xp
   ·refine qc ?_;intros;exact yV 2 3 O O O ⟨_,O,O,.tup [qW q,.int 0],nv,q,0,O,oM,hq2⟩
  ·have e3:((m % Int.toNat 3:Nat):Int)≠0:=by show ((m % 3:Nat):Int)≠0;omega
   refine qc ?_;intros;exact qb ⟨_,O,O,.tup [qW [],.int 1],nv,[],1,O,by simp,fun x hx=>by cases hx⟩
 ·have e2:((n % Int.toNat 2:Nat):Int)≠0:=by show ((n % 2:Nat):Int)≠0;omega
  refine qc ?_;intros;exact qb ⟨_,O,O,.tup [qW [],.int 1],nv,[],1,O,by simp,fun x hx=>by cases hx⟩
def De(l:List qj):List FD:=[.sl 2 l.length (l.flatMap qB)]
abbrev tU(cs:List (List qj)):DV:=.one (.f (.sl 1 cs.length (cs.flatMap De)))
theorem Mn(cs:List (List qj)):XP cs=tU cs:=by
 have:cs.map zV=cs.flatMap De:=by
  induction cs with
  |nil=>rfl
  |cons c cs ih=>rw [jr,wB,ih];rfl
 rw [XP,this]
theorem UX{n m:Nat}{g:Int}{x:FD}{parts:List (List qj)}(hn:n<=200)(hm:m<=200)(hp:parts.length<1000)(hs:∀a∈parts,a.length<1000000):DK 87 [.agg [.f (FD.int n),.f (FD.int m),.f (FD.int g),.f x],tU parts] fun d=>∃R,d=.agg (jS n m R)/\GrL n m R:=by
 refine xr ?_;intros;refine zw O O (A9 hn hm) ?_;rintro _ _ _ ⟨rfl,rfl,rfl⟩;have hmr:m=(zD wR (List.replicate m (List.replicate n false))).length:=by simp [zD]
 refine qc ?_;intros;refine qx (qg (k:=1) O (qg (k:=4) O (qg (k:=5) O (qg (k:=6) O (qv _))))) (qg (k:=1) O (qg (k:=4) O (qg (k:=5) O (qv _)))) ?_;refine XF 4 O qo qo ?_;rw [Xl (f:=Zj) (g:=wR) (fun _=>rfl)];refine qc ?_;intros;refine qN (fun k E S nk=>∃(i:Nat) (R:List (List Bool)),i+k=parts.length/\GrL n m R/\E=[(1,tU parts),(4,.one (.ptr 1 0)),(5,.one (.ptr 5 0)),(6,.int i)]/\S=[(1,.cells [.f (FD.int 0),.f (FD.int 0),.f (.c .nils)]),(5,.cells (jS n m R))]/\nk=6) (parts.length) ⟨0,List.replicate m (List.replicate n false),oM,.new n m,O,O,O⟩ ?_;rintro k E S nk ⟨i,R,hi,hR,rfl,rfl,rfl⟩;refine qc ?_;intros;refine qh O (fun g1=>?_) (fun g1=>?_)
 ·have hl:=hs _ (qn (l:=parts) (i:=i) oM);refine qc ?_;intros;refine qf O O (UY hn hm hR hl) ?_;rintro _ ⟨R',rfl,hR'⟩;refine qc ?_;intros;exact qG ⟨i+1,R',oM,hR',O,O,O⟩
 ·refine qc ?_;intros;exact qb ⟨_,O,O,R,O,hR⟩
theorem bX{f:qj->List qj}{N:Nat}:∀{cs:List qj},KP f N cs=[]\/∃c∈cs,KP f N cs=f c/\(f c).length=N
 |[]=>.inl rfl
 |c::cs=>by
  unfold KP;split
  ·rename_i h;exact .inr ⟨c,QC ..,O,h⟩
  ·rcases bX (f:=f) (N:=N) (cs:=cs) with h|⟨d,h1,h2⟩
   ·exact .inl h
   ·exact .inr ⟨d,Q7 _ h1,h2⟩
theorem eX{g:Int}{all:List (List qj)}{B:Int}(ha:∀c∈all,∀q∈c,xf B q):∀n l,(∀q∈l,xf B q)->∀q∈QH g all n l,xf B q
 |0,l,hl,q,hq=>hl q hq
 |n+1,l,hl,q,hq=>by
  unfold QH at hq;rcases bX (f:=fun c=>if ZF g l c l.length=true then QH g all n (l++[c]) else []) (N:=all.length) (cs:=(all[l.length]?).getD []) with h|⟨c,hc,h, -⟩
  ·rw [h] at hq;cases hq
  ·rw [h] at hq;have hcs:xf B c:=by
    cases hg:all[l.length]? with
    |none=>rw [hg] at hc;cases hc
    |some x=>rw [hg] at hc;exact ha x (zmg hg) c hc
   split at hq
   ·exact eX ha n _ (fun y hy=>(xu.1 hy).elim (hl y) fun h=>by rw [xM.1 h];exact hcs) q hq
   ·cases hq
theorem SG{g:Int}{all:List (List qj)}{n:Nat}{l:List qj}:(QH g all (n+1) l).length<=all.length:=by
 unfold QH;rcases bX (f:=fun c=>if ZF g l c l.length=true then QH g all n (l++[c]) else []) (N:=all.length) (cs:=(all[l.length]?).getD []) with h|⟨c,hc,h,h2⟩
 ·rw [h];exact Xa _
 ·rw [h,h2];exact qz _
theorem NN{p:Pic}(hv:xQ p=true){r:Rb}(h:PlcR p r):r.1.length<=8/\∀q∈r.1,xf 1000000 q:=by
 have hl8:=(zZ hv).1;cases h with
 |bad i _ _ _=>exact⟨Xa _,fun q hq=>by cases hq⟩
 |ok _=>
  refine⟨?_,fun q hq=>?_⟩
  ·have:=SG (g:=p.gap) (all:=vg p (p.fs.length-1+1)) (n:=p.fs.length-1) (l:=[]);have h2:(vg p (p.fs.length-1+1)).length=p.fs.length-1+1:=by simp [vg]
   show (KC p (p.fs.length-1)).length<=8
   unfold KC;omega
  ·refine eX (g:=p.gap) (all:=vg p (p.fs.length-1+1)) (fun c hc q hq=>?_) _ [] (fun q hq=>by cases hq) q hq;obtain⟨i,_,rfl⟩:=j6.1 hc;exact (bU hv i).1 q hq
theorem G3(l:List qj):(xy l).length<=l.length:=by
 have:=Js l [];rw [xy];simpa using this
theorem PS{p:Pic}(hv:xQ p=true){l:List qj}(hl:l.length<=8)(hs:∀q∈l,xf 1000000 q):DK 88 [Qa p,xt l] fun d=>∃cs,d=tU cs/\cs.length<1000/\∀a∈cs,a.length<1000000:=by
 have hl8:=(zZ hv).1;have hpp:=ZH (p:=p) (fun f hf=>by
  have:=(zZ hv).2.1 f hf;unfold W2 at this;rw [x8] at this;exact this.1) oM
 have hsm:=XQ hv;have hpl:(zQ p).length=p.fs.length:=by simp [zQ]
 rw [Mn] at hpp;generalize zQ p=ps at *;refine xr ?_;intros;refine qS O O hpp ?_;intros;refine qN (fun m E S nk=>∃(i:Nat) (q:List (List qj)),i+m=ps.length/\q.length=i/\(∀a∈q,a.length<1000000)/\E=[(1,xt l),(5,.one (.own 1 0 q.length 1)),(6,tU ps),(7,.int i)]/\S=[(1,.data (q.flatMap De))]/\nk=2) (ps.length) ⟨0,[],oM,O,fun a ha=>(by cases ha),O,O,O⟩ ?_;rintro m E S nk ⟨i,q,hi,hq,hq2,rfl,rfl,rfl⟩;refine qc ?_;intros;refine qh O (fun g1=>?_) (fun g1=>?_)
 ·have hf:=(hsm _ (qn (l:=ps) (i:=i) oM)).2;have hso:=G3 (ps.getD i default);refine qc ?_;intros;refine qS O O (dQ oM) ?_;intros;exact qM (m':=m-1) (by omega) ⟨i+1,q++[xy (ps.getD i default)],by omega,by simp;omega,(fun a ha=>by
   rcases xu.1 ha with h|h
   ·exact hq2 a h
   ·rw [xM.1 h];omega),rfl,rfl,rfl⟩ xp
 ·refine qc ?_;intros;refine qN (fun m E S nk=>∃(i:Nat) (r:List (List qj)),i+m=l.length/\r.length=q.length+i/\(∀a∈r,a.length<1000000)/\E=[(1,xt l),(5,.one (.own 1 0 r.length 1)),(8,.int i)]/\S=[(1,.data (r.flatMap De))]/\nk=2) (l.length) ⟨0,q,oM,oM,hq2,O,O,O⟩ ?_;rintro m2 E S nk ⟨i2,r,hi2,hr,hr2,rfl,rfl,rfl⟩;refine qc ?_;intros;refine qh O (fun g2=>?_) (fun g2=>?_)
  ·have hqs:=hs _ (qn (l:=l) (i:=i2) oM);have h12:=WW i2 (l.getD i2 default);refine qc ?_;intros;refine qS O O (ZI (i:=i2) (q:=l.getD i2 default) oM hqs) ?_;intros;exact qM (m':=m2-1) (by omega) ⟨i2+1,r++[kV i2 (l.getD i2 default)],by omega,by simp;omega,(fun a ha=>by
    rcases xu.1 ha with h|h
    ·exact hr2 a h
    ·rw [xM.1 h];omega),rfl,rfl,rfl⟩ xp
  ·refine qc ?_;intros;exact qP 4 O O ⟨_,O,O,r,O,oM,hr2⟩
theorem Ae{p:Pic}(hF:VZ p):DK 50 [Qa p] fun d=>∃(n m:Nat) (R:List (List Bool)) (a e:Int),d=.tup [.agg (jS n m R),.int a,.int e]/\n<=60/\m<=60/\GrL n m R:=by
 have h0:GrL 0 0 []:=⟨rfl,fun i hi=>absurd hi oM⟩;refine wj ?_;refine xr ?_;intros;refine qf O O (BL hF) ?_;rintro _ ⟨r,hr,rfl⟩;refine qc ?_;intros;refine xw O (fun g1=>?_) (fun g1=>?_)
 ·refine qc ?_;intros;exact qb ⟨_,O,O,.tup [.agg (jS 0 0 []),.int r.1,.int r.2.2],nv,0,0,[],_,_,O,oM,oM,h0⟩
 ·have hv:=(hr.zero g1).2;have hh:=(zZ hv).2.2.1;simp only [QR,x8,yA] at hh;obtain⟨⟨⟨hw1,hw2⟩, -⟩,⟨hh1,hh2⟩, -⟩:=hh;have hpl:=BJ hv;obtain⟨n,hn⟩:∃n:Nat,p.w=n:=⟨p.w.toNat,oM⟩;obtain⟨m,hm⟩:∃m:Nat,p.h=m:=⟨p.h.toNat,oM⟩;refine qc ?_;intros;refine qf O O hpl ?_;rintro _ ⟨q,hq,rfl⟩;obtain⟨hql,hqs⟩:=NN hv hq;refine qc ?_;intros;refine xw O (fun g2=>?_) (fun g2=>?_)
  ·refine qc ?_;intros;exact qb ⟨_,O,O,.tup [.agg (jS 0 0 []),.int q.2.1,.int q.2.2],nv,0,0,[],_,_,O,oM,oM,h0⟩
  ·refine qc ?_;intros;refine qf O O (PS hv hql hqs) ?_;rintro _ ⟨cs,rfl,hcs,hcs2⟩;have hp:=UX (n:=n) (m:=m) (g:=p.gap) (x:=.sl 3 p.fs.length (p.fs.flatMap ZA)) oM oM hcs hcs2;rw [<-hn,<-hm] at hp;refine qc ?_;intros;refine qf O O hp ?_;rintro _ ⟨R,rfl,hR⟩;refine qc ?_;intros;exact qb ⟨_,O,O,.tup [.agg (jS n m R),.int p.fs.length,.int 0],nv,n,m,R,_,_,O,oM,oM,hR⟩
end Go.Ai
