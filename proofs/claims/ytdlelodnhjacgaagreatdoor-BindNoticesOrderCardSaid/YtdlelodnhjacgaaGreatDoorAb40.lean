/- -/
import Derived.Test.YtdlelodnhjacgaaGreatDoorAb33
import Derived.Test.YtdlelodnhjacgaaGreatDoorAb39
set_option linter.unusedSimpArgs false
set_option linter.unusedVariables false
set_option maxRecDepth 8000
set_option maxHeartbeats 16000000
namespace Go.Ai
open Go.Ab Go.Proofs
theorem PF{n:Nat}(hn:n<=99999):jg 206 [.int n] fun d S nk=>d=.tup [.one (.own 0 0 (ze n).length 1),.int 0]/\S=[(0,.data ((ze n).flatMap qU))]/\nk=1:=by
 have hl:=m7 hn;have hlt:=VF n;have hby:=GF n;have hsz:=uS n;rw [Xw hn];refine wv fun Z0 lo=>?_;refine qc ?_;intros;refine qS O O (PY (n:=n) oM) ?_;intros;refine Dn O ?_;rw [hby,hsz];generalize kM n=l at *;obtain⟨s,hs⟩:∃s:List Int,s=l.map fun d=>((48+d:Nat):Int):=⟨_,rfl⟩;rw [<-hs];have hsl:s.length=l.length:=by rw [hs,xX]
 have hsg:∀j,j<l.length->s.getD j default=((48+l.getD j default:Nat):Int):=fun j hj=>by
  rw [hs,qT,jH,zge hj,qT,zge hj];rfl
 refine qc ?_;intros;refine qN (fun m E S nk=>∃(j:Nat) (o:List Int),j+m=s.length/\o=60::(l.take j).map yO/\o.length=j+1/\E=[(4,.one (.own 0 0 o.length 1)),(16,qq s),(17,.int s.length),(18,.int j)]/\S=[(0,.data (o.flatMap qU))]/\nk=1) (s.length) ⟨0,[60],oM,O,O,O,O,O⟩ ?_;rintro m E S nk ⟨j,o,hm,ho,hol,rfl,rfl,rfl⟩;refine qc ?_;intros;refine qh O (fun g=>?_) (fun g=>?_)
 ·have hd:=hsg j oM;have hd10:=hlt _ (qn (l:=l) (i:=j) oM);have hts:=Wz (l:=l) (i:=j) oM;rcases TI hd10 with h|h|h|h|h|h|h|h|h|h
  all_goals
   rw [h] at hd hts;refine qc ?_;intros;rw [hd];refine qc ?_;intros;exact qG ⟨j+1,o++[_],by omega,by rw [ho,hts,JM];rfl,by simp;omega,rfl,rfl,rfl⟩
 ·have hj:j=l.length:=oM;rw [hj,vE] at ho;refine qc ?_;intros;rw [<-ho];exact qb ⟨_,O,O,_,qg (k:=0) O (qv _),O,O,O⟩
theorem EV{j len:Nat}(h:j<len):idx (j:Int) len=some j:=by
 have hb:Nat.blt j len=true:=Ci (show j+1<=len from h);show (match Nat.blt j len with|true=>some j|false=>none)=_
 rw [hb]
theorem PD{E:qk}{i:Opd}{kd:IntKind}{j b len:Nat}(hi:ro E i=some (.one (.f (.c (.int kd (j:Nat))))))(hj:j<len):zj E (.aaddr len 1 (.c (.one (.ptr b 0))) i)=some (.one (.g b j)):=by
 have h0:ro E (.c (.one (.ptr b 0)))=some (.one (.g b 0)):=rfl;simp only [zj,h0,hi,EV hj,X2,ym]
theorem PH{Z0:Nat->Prop}{lo:Nat}{E:qk}{S:Bx}{a:Opd}{j:Nat}(ha:ro E a=some (.one (.g 1 j)))(hj:j<26):jB (Par.base Tryz.prog GN (H00 1) Z0 lo) E S false 1 a=some (.one (.f (.c (.int .u8 (wI.getD j default))))):=by
 simp only [jB,ha];rcases (by omega:j=0\/j=1\/j=2\/j=3\/j=4\/j=5\/j=6\/j=7\/j=8\/j=9\/j=10\/j=11\/j=12\/j=13\/j=14\/j=15\/j=16\/j=17\/j=18\/j=19\/j=20\/j=21\/j=22\/j=23\/j=24\/j=25) with rfl|rfl|rfl|rfl|rfl|rfl|rfl|rfl|rfl|rfl|rfl|rfl|rfl|rfl|rfl|rfl|rfl|rfl|rfl|rfl|rfl|rfl|rfl|rfl|rfl|rfl<;>rfl
theorem He{n k:Nat}{back:Bool}(hn:1<=n/\n<=9999)(hk:k<=2):DK 204 [TS n k,.bool back] fun d=>d=.tup [qq (jt n k back),.int 0]:=by
 have hnp:=kS (zJ n back);have hw:=PF (n:=zJ n back) (by unfold zJ;split<;>omega);have hs1:back=false->((2:Int)*n-1)=((zJ n back:Nat):Int):=fun h=>by rw [h];unfold zJ;simp;omega
 have hs2:back=true->((2:Int)*n)=((zJ n back:Nat):Int):=fun h=>by rw [h];unfold zJ;simp
 unfold jt;refine va fun Z0 lo=>?_;cases back
 all_goals
  refine qc ?_;intros
  first
   |rw [hs1 rfl]
   |rw [hs2 rfl]
  refine zw O O hw ?_;rintro _ _ _ ⟨rfl,rfl,rfl⟩;refine qc ?_;intros;refine qh O (fun g=>?_) (fun g=>?_)
  ·rw [if_neg (by omega)];refine qc ?_;intros;rw [show ((k:Int)-1)=((k-1:Nat):Int) by omega];refine zi (PD O oM) ?_;refine xZ (PH O oM) ?_;refine qc ?_;intros;refine zn (f:=qU) [48,wI.getD (k-1) default] O O O ⟨O,O,_,O,O⟩ O O oM oM qr (fun _=>O) O ?_;refine qc ?_;intros;exact yV 4 5 O O O ⟨_,O,O,O⟩
  ·rw [if_pos (by omega),yI];refine qc ?_;intros;exact yV 4 5 O O O ⟨_,O,O,O⟩
theorem Oq{ink part:Nat}(h1:1<=ink/\ink<=9999)(hp:part<=26):DK 203 [.int ink,.int part] fun d=>d=.tup [qq (zM ink part),.int 0]:=by
 have hnp:=kS ink;unfold zM;rw [if_neg (by omega)];refine xr ?_;intros;refine qf O O (U2 (n:=ink) oM) ?_;rintro _ rfl;generalize ze ink=q at *;refine qc ?_;intros;refine qh O (fun g=>?_) (fun g=>?_)
 ·rw [if_neg (by omega)];refine qc ?_;intros;rw [show ((part:Int)-1)=((part-1:Nat):Int) by omega];refine zi (PD O oM) ?_;refine xZ (PH O oM) ?_;refine qc ?_;intros;refine zn (f:=qU) (l:=[48,wI.getD (part-1) default]) q O O O ⟨O,O,O⟩ O O oM oM qr (fun _=>O) O ?_;refine qc ?_;intros;exact yV 4 5 O O O ⟨_,O,O,O⟩
 ·rw [if_pos (by omega)];exact jJ
theorem fF{n i:Nat}{z:List C}{c:C}(hz:z.all C.closed=true/\0<z.length)(h:(B.row n z .lf false).cell i=some c):c.closed=true:=by
 simp only [B.cell] at h;split at h
 ·rw [T.get_lf,bE] at h;obtain rfl:=zsi h;have hlt:i % z.length<z.length:=kp _ hz.2;rw [qT,zge hlt];exact wA.1 hz.1 _ (sP hlt)
 ·cases h
theorem Od{f:FuncId}{ds:List DV}{vs:List V}{c:C}{fuel:Nat}(hex:qe (fun d v=>Je d=some v) ds vs)(hcl:vs.all V.closed=true)(hc:c.closed=true)(h:Wc tabS fuel f vs (H00 1)=some (.one c)):DK f ds fun d=>d=.one (.f (.c c)):=by
 have hcl2:∀b bk,(H00 1).get b=some bk->bk.mut=false/\∀i c,bk.cell i=some c->c.closed=true:=fun b bk hb=>by
  rw [H00get] at hb;split at hb
  ·rw [<-zsi hb];exact⟨O,fun i c h=>fF (by decide) h⟩
  split at hb
  ·rw [<-zsi hb];exact⟨O,fun i c h=>fF (by decide) h⟩
  split at hb
  ·rw [<-zsi hb];exact⟨O,fun i c h=>fF (by decide) h⟩
  split at hb
  ·rw [<-zsi hb];exact⟨O,fun i c h=>fF (by decide) h⟩
  cases hb
 have hwf:WF (H00 1):=fun b bk hb=>by
  rw [H00get] at hb;show b<6;split at hb
  ·omega
  split at hb
  ·omega
  split at hb
  ·omega
  split at hb
  ·omega
  cases hb
 exact yR.of_pure hex hc fun H hH=>(xc.sub (H:=H) (O0 vB DY h) hcl (by decide) hwf (fun b bk hb=>⟨hH b bk hb,hcl2 b bk hb⟩) (fun v _ h=>by rw [h];exact hc)).mono fun v H' ⟨⟨_,h⟩,e⟩=>⟨h,e⟩
theorem Bu:((List.range 26).all fun k=>match Wc tabS 2000 196 [.one (.int .u8 (wI.getD k default))] (H00 1) with
 |some (.one (.int .i64 c))=>decide (c=((k+1:Nat):Int))
 |_=>false)=true:=by kernel_rfl
theorem BP{k:Nat}(hk:k<26):DK 196 [.one (.f (.c (.int .u8 (wI.getD k default))))] fun d=>d=.int ((k+1:Nat):Int):=by
 have h1:=wA.1 Bu k (jF.2 hk);split at h1
 ·rename_i c hc;have:=xo h1;subst this;exact Od (vs:=[.one (.int .u8 (wI.getD k default))]) ⟨O,trivial⟩ O O hc
 ·cases h1
theorem Se:∀a,a<10->yO a≠48:=by decide
theorem PJ:∀a,a<10->∀b,b<10->a≠b->yO a≠yO b:=by decide
abbrev UE:DV:=.agg [.f (.c (.int .u8 26)),.f (.c (.int .u8 1)),.f (.c (.int .u8 3)),.f (.c (.int .u8 9)),.f (.c (.int .u8 25)),.f (.c (.int .u8 17)),.f (.c (.int .u8 11)),.f (.c (.int .u8 27)),.f (.c (.int .u8 19)),.f (.c (.int .u8 10))]
theorem A7{E:qk}{x i:Opd}{j:Nat}(hx:ro E x=some UE)(hi:ro E i=some (.int j))(hj:j<10):zj E (.aindex 10 1 false x i)=some (.one (.f (.c (.int .u8 (yO j))))):=by
 simp only [zj,hx,hi,EV hj];rcases TI hj with rfl|rfl|rfl|rfl|rfl|rfl|rfl|rfl|rfl|rfl<;>rfl
theorem FY{n:Nat}(hn:n<=99999){t:List Int}(ht:t=[]\/∃x,t=[48,x]):DK 197 [qq (ze n++t)] fun d=>d=.tup [.int n,.int (ze n).length,.int 0]:=by
 have hl:=m7 hn;have hlt:=VF n;have hv:=Gy n;have hh:=UF hn;rw [Xw hn];generalize kM n=l at *;have hlen:(60::l.map yO++t).length=1+l.length+t.length:=by simp;omega
 have htl:t.length<=2:=by rcases ht with rfl|⟨x,rfl⟩<;>simp
 have hg:∀j,j<l.length->(60::l.map yO++t).getD (j+1) default=yO (l.getD j default):=fun j hj=>by
  rw [qT,vz,eJ,Qz (by simpa using hj),jH,zge hj,qT,zge hj];rfl
 have hg0:(60::l.map yO++t).getD 0 default=60:=rfl;have hg48:∀x,t=[48,x]->(60::l.map yO++t).getD (l.length+1) default=48:=fun x hx=>by
  rw [hx,qT,vz,eJ,Q3 (by simp)];simp
 generalize 60::l.map yO++t=q at *;refine xr ?_;intros;refine UA ?_;have hvs:∀j,j<l.length->(l.take (j+1)).foldl (fun v d=>10*v+d) 0=10*(l.take j).foldl (fun v d=>10*v+d) 0+l.getD j default:=fun j hj=>by
  rw [Wz hj,eN];rfl
 have hbd:∀j,j<=l.length->(l.take j).foldl (fun v d=>10*v+d) 0<10^j:=by
  intro j;induction j with
  |zero=>intro _;simp
  |succ j ih=>
   intro hj;have h1:=ih oM;have h2:=hlt _ (qn (l:=l) (i:=j) oM);rw [hvs j (by omega),Nat.pow_succ];omega
 refine qc ?_;intros;refine qN (fun m E S nk=>∃(j v:Nat),j+m=l.length+1/\j<=l.length/\v=(l.take j).foldl (fun v d=>10*v+d) 0/\E=[(0,qq q),(5,.int v),(6,.int ((j+1:Nat):Int))]/\S=[]/\nk=0) (l.length+1) ⟨0,0,oM,oM,O,O,O,O⟩ ?_;rintro m E S nk ⟨j,v,hm,hj,hvj,rfl,rfl,rfl⟩;rcases bD j l.length with hjl|hjl
 ·have hd:=hg j hjl;have hd10:=hlt _ (qn (l:=l) (i:=j) hjl);have hvs1:=hvs j hjl;have hv5:v<100000:=by
   have:=hbd j hj;have h5:10^j<=10^5:=Nat.pow_le_pow_right oM oM;omega
  generalize l.getD j default=d at *;refine qc ?_;intros;refine qN (fun m2 E S nk=>∃i:Nat,i+m2=10/\i<=d/\E=[(0,qq q),(5,.int v),(6,.int ((j+1:Nat):Int)),(22,UE),(23,.int i)]/\S=[]/\nk=0) 10 ⟨0,oM,oM,O,O,O⟩ ?_;rintro m2 E S nk ⟨i,hm2,hid,rfl,rfl,rfl⟩;by_cases hdi:d=i
  ·subst hdi;refine qc ?_;intros;refine zi (A7 O O oM) ?_;refine qc ?_;intros;exact qG ⟨j+1,10*v+d,by omega,by omega,(by rw [hvs1,<-hvj]),rfl,rfl,rfl⟩
  ·have hne:=PJ d hd10 i oM hdi;refine qc ?_;intros;refine zi (A7 O O oM) ?_;refine qc ?_;intros;exact qG ⟨i+1,oM,oM,O,O,O⟩
 ·obtain rfl:j=l.length:=by omega
  rw [vE,hv] at hvj;subst hvj;have hq1:l.length=1\/(2<=l.length/\q.getD 1 default≠26):=by
   rcases bD l.length 2 with h2|h2
   ·exact .inl oM
   ·refine .inr ⟨h2,?_⟩;have h3:=hg 0 oM;rw [ym] at h3;rw [h3];have h4:=hlt _ (qn (l:=l) (i:=0) oM);exact PJ _ h4 0 oM (hh h2)
  have hfin:(60::l.map yO).length=l.length+1:=sM;rw [hfin];rcases ht with rfl|⟨x,rfl⟩
  ·rw [zR] at hlen;rcases hq1 with hq1|⟨hq1,hq2⟩
   all_goals
    exact jJ
  ·have h48:=hg48 x rfl;have hlen:q.length=l.length+3:=by rw [hlen];simp;omega
   refine qc ?_;intros;refine qN (fun m2 E S nk=>∃i:Nat,i+m2=10/\E=[(0,qq q),(5,.int v),(6,.int ((l.length+1:Nat):Int)),(22,UE),(23,.int i)]/\S=[]/\nk=0) 10 ⟨0,oM,O,O,O⟩ ?_;rintro m2 E S nk ⟨i,hm2,rfl,rfl,rfl⟩;rcases (by omega:i<10\/i=10) with hi|rfl
   ·have hne:=Se i hi;refine qc ?_;intros;refine zi (A7 O O oM) ?_;refine qc ?_;intros;exact qG ⟨i+1,oM,O,O,O⟩
   ·rcases hq1 with hq1|⟨hq1,hq2⟩
    all_goals
     exact jJ
theorem UK{l r:List Int}{c:Int}(hl:∀x∈l,x≠c)(hn:(l++c::r).length<100000):DK 195 [qq (l++c::r),.one (.f (.c (.int .u8 c)))] fun d=>d=.int l.length:=by
 have hlen:(l++c::r).length=l.length+1+r.length:=by rw [qE,xA];omega
 have h1:∀j,j<l.length->(l++c::r).getD j default≠c:=fun j hj=>by
  rw [qT,Qz hj,zge hj];exact hl _ (sP hj)
 have h2:(l++c::r).getD l.length default=c:=by
  rw [qT,Q3 (qz _),Nat.sub_self];rfl
 generalize l++c::r=q at *;refine xr ?_;intros;refine qN (fun m E S nk=>∃j:Nat,j+m=l.length/\E=[(0,qq q),(1,.one (.f (.c (.int .u8 c)))),(7,.int q.length),(8,.int j)]/\S=[]/\nk=0) (l.length) ⟨0,oM,O,O,O⟩ ?_;rintro m E S nk ⟨j,hm,rfl,rfl,rfl⟩;rcases bD j l.length with hj|hj
 ·have h3:=h1 j hj;refine qc ?_;intros;exact qG ⟨j+1,oM,O,O,O⟩
 ·obtain rfl:j=l.length:=by omega
  exact jJ
theorem UO{l:List Int}(hn:l.length<100000):DK 199 [qq l,qq l] fun d=>d=.bool true:=by
 refine xr ?_;intros;refine qN (fun m E S nk=>∃j:Nat,j+m=l.length/\E=[(0,qq l),(1,qq l),(12,.int l.length),(13,.int j)]/\S=[]/\nk=0) (l.length) ⟨0,oM,O,O,O⟩ ?_;rintro m E S nk ⟨j,hm,rfl,rfl,rfl⟩;refine qc ?_;intros;refine qh O (fun g=>?_) (fun g=>?_)
 ·refine qc ?_;intros;exact qG ⟨j+1,oM,O,O,O⟩
 ·exact jJ
theorem Gv{n:Nat}(h0:0<n)(hn:n<100000):jg 209 [.one (.f (.c .nils)),.int n] fun d S nk=>∃b,d=.one (.own 1 0 0 1)/\S=[(1,.data b)]/\nk=2:=by
 refine wv fun Z0 lo=>?_;refine qc ?_;intros;rw [show ((n:Int)-(0-0))=((n:Nat):Int) by omega];refine FE 20 1 O ?_;refine Oa (n:=0) (m:=n) (z:=[.int .u8 0]) (l:=[]) (l':=[]) O O O O (fun c hc=>by rw [xM.1 hc];rfl) O (by omega) (by omega) (by decide) O ?_;refine qc ?_;intros;refine iI (l:=0) (h:=0) (o':=0) (n':=0) O O O oM oM O O ?_;refine qc ?_;intros;exact qb ⟨_,O,O,_,qg (k:=1) O (qv _),_,O,O,O⟩
theorem lJ{o:List Int}{n:Nat}(h:n=o.length):xd (o.flatMap qU) 0 (n*1)=some (o.flatMap qU):=qD _ (by rw [qO (f:=qU) (e:=1) (fun _=>rfl),h])
theorem P3{a b c:List Int}(h0:0<c.length)(hn:a.length+b.length+c.length<1000):DK 207 [qW [a,b,c]] fun d=>d=qq (a++b++c):=by
 refine xr ?_;intros;have hL:([a,b,c]:List (List Int)).length=3:=rfl;have l0:(([a,b,c]:List (List Int)).getD 0 default).length=a.length:=rfl;have l1:(([a,b,c]:List (List Int)).getD 1 default).length=b.length:=rfl;have l2:(([a,b,c]:List (List Int)).getD 2 default).length=c.length:=rfl;refine qN (fun m E S nk=>∃j s:Nat,j+m=3/\(j=0->s=0)/\(j=1->s=a.length)/\(j=2->s=a.length+b.length)/\(j=3->s=a.length+b.length+c.length)/\E=[(0,qW [a,b,c]),(3,.int s),(9,qW [a,b,c]),(10,.int 3),(11,.int j)]/\S=[]/\nk=0) 3 ⟨0,0,oM,fun _=>O,fun h=>absurd h oM,fun h=>absurd h oM,fun h=>absurd h oM,O,O,O⟩ ?_;rintro m E S nk ⟨j,s,hm,s0,s1,s2,s3,rfl,rfl,rfl⟩;rcases (by omega:j=0\/j=1\/j=2\/j=3) with rfl|rfl|rfl|rfl
 ·have s0:=s0 rfl;refine qc ?_;intros;exact qG ⟨1,s+a.length,oM,oM,oM,oM,oM,O,O,O⟩
 ·have s1:=s1 rfl;refine qc ?_;intros;exact qG ⟨2,s+b.length,oM,oM,oM,oM,oM,O,O,O⟩
 ·have s2:=s2 rfl;refine qc ?_;intros;exact qG ⟨3,s+c.length,oM,oM,oM,oM,oM,O,O,O⟩
 ·have s3:=s3 rfl;refine qc ?_;intros;refine zw O O (Gv (n:=s) oM oM) ?_;rintro _ _ _ ⟨d0,rfl,rfl,rfl⟩;refine qc ?_;intros;refine qN (fun m E S nk=>∃(j:Nat) (o:List Int) (dd:List FD),j+m=3/\o.length<=1000/\(j=0->o=[])/\(j=1->o=a)/\(j=2->o=a++b)/\(j=3->o=a++b++c/\dd=o.flatMap qU)/\xd dd 0 (o.length*1)=some (o.flatMap qU)/\E=[(0,qW [a,b,c]),(6,.one (.own 1 0 o.length 1)),(25,qW [a,b,c]),(26,.int 3),(27,.int j)]/\S=[(1,.data dd)]/\nk=2) 3 ⟨0,[],d0,by omega,by simp,fun _=>rfl,fun h=>absurd h (by omega),fun h=>absurd h (by omega),fun h=>absurd h (by omega),rfl,rfl,rfl,rfl⟩ ?_;rintro m E S nk ⟨j,o,dd,hm,hol,o0,o1,o2,o3,hd,rfl,rfl,rfl⟩;rcases (by omega:j=0\/j=1\/j=2\/j=3) with rfl|rfl|rfl|rfl
  ·have o0:=o0 rfl;refine qc ?_;intros;refine qZ (n:=o.length) (m:=a.length) (q:=a.flatMap qU) O O O hd ⟨O,O,O⟩ oM oM qr O ?_;rw [<-X0,<-qE];refine qc ?_;intros;exact qG ⟨1,o++a,(o++a).flatMap qU,by omega,(by rw [o0];simp;omega),(fun h=>absurd h (by omega)),(fun _=>by rw [o0];rfl),(fun h=>absurd h (by omega)),(fun h=>absurd h (by omega)),lJ rfl,rfl,rfl,rfl⟩
  ·have o1:=o1 rfl;refine qc ?_;intros;refine qZ (n:=o.length) (m:=b.length) (q:=b.flatMap qU) O O O hd ⟨O,O,O⟩ oM oM qr O ?_;rw [<-X0,<-qE];refine qc ?_;intros;exact qG ⟨2,o++b,(o++b).flatMap qU,by omega,(by rw [o1,qE];omega),(fun h=>absurd h (by omega)),(fun h=>absurd h (by omega)),(fun _=>by rw [o1]),(fun h=>absurd h (by omega)),lJ rfl,rfl,rfl,rfl⟩
  ·have o2:=o2 rfl;refine qc ?_;intros;refine qZ (n:=o.length) (m:=c.length) (q:=c.flatMap qU) O O O hd ⟨O,O,O⟩ oM oM qr O ?_;rw [<-X0,<-qE];refine qc ?_;intros;exact qG ⟨3,o++c,(o++c).flatMap qU,by omega,(by rw [o2,qE,qE];omega),(fun h=>absurd h (by omega)),(fun h=>absurd h (by omega)),(fun h=>absurd h (by omega)),(fun _=>⟨by rw [o2],rfl⟩),lJ rfl,rfl,rfl,rfl⟩
  ·obtain⟨o4,rfl⟩:=o3 rfl;refine qc ?_;intros;exact qP 2 O O ⟨_,O,O,by rw [o4]⟩
theorem FZ{a b c:List Int}(h0:0<c.length)(hn:a.length+b.length+c.length<1000):DK 205 [qW [a,b,c]] fun d=>d=qq (a++b++c):=by
 refine xr ?_;intros;refine qf O O (P3 h0 hn) ?_;rintro _ rfl;exact jJ
theorem Uf{x y:FD}{i:Nat}{a b:FD}(ha:[FD.c .nils,x,y][i]?=some a)(hb:[FD.sl 1 ([]:List Int).length (([]:List Int).flatMap qU),x,y][i]?=some b):NilF a b:=by
 match i with
 |0=>
  obtain rfl:=zsi ha;obtain rfl:=zsi hb;exact .nil 1
 |1=>
  obtain rfl:=zsi ha;obtain rfl:=zsi hb;exact .refl _
 |2=>
  obtain rfl:=zsi ha;obtain rfl:=zsi hb;exact .refl _
 |i+3=>cases ha
theorem PV{w n k ink part:Nat}{back:Bool}(hw:24<=w/\w<=60)(hn:1<=n/\n<=9999)(hk:k<=2)(hi:ink<=9999)(hp:part<=26)(h0:ink=0->part=0):DK 198 [lT w n k back ink part] fun d=>d=.tup [qq (zy w n k back ink part),.int 0]:=by
 have hP:=V5 n k back;have hI:=WZ ink part;have hP2:=He (back:=back) hn hk;have hPn:0<(jt n k back).length:=by
  unfold jt;rw [qE,Xw (by unfold zJ;split<;>omega)];simp;omega
 unfold zy;generalize jt n k back=p at *;by_cases hz:ink=0
 ·have hz2:=h0 hz;obtain⟨q,hq⟩:∃q,q=zM ink part:=⟨_,rfl⟩;have hq0:q=[]:=by rw [hq,hz];rfl
  rw [<-hq];rw [<-hq] at hI;refine va fun Z0 lo=>?_;refine qc ?_;intros;refine qS O O hP2 ?_;intros;rw [show ((w:Int)-0-p.length)=((w-p.length-q.length:Nat):Int) by rw [hq0];simp only [zR];omega];have hfl:((List.replicate (w-p.length-q.length) (0:Int)).flatMap qU).length=(w-p.length-q.length)*1:=by rw [qO (f:=qU) (e:=1) (fun _=>rfl),xN]
  have hrl:(List.replicate (w-p.length-q.length) (0:Int)).length=w-p.length-q.length:=xN;refine qc ?_;intros;refine qY 1 O qo qo ?_;refine PA 2 O O ?_;refine qY 2 O qo qo ?_;have hj:=FZ (a:=q) (b:=List.replicate (w-p.length-q.length) 0) (c:=p) hPn (by rw [hrl];omega);rw [show qW [q,List.replicate (w-p.length-q.length) 0,p]=.one (.f (.sl 1 3 [.sl 1 q.length (q.flatMap qU),.sl 1 (w-p.length-q.length) ((List.replicate (w-p.length-q.length) (0:Int)).flatMap qU),.sl 1 p.length (p.flatMap qU)])) by
   show DV.one (.f (.sl 1 3 [.sl 1 q.length (q.flatMap qU),.sl 1 (List.replicate (w-p.length-q.length) (0:Int)).length ((List.replicate (w-p.length-q.length) (0:Int)).flatMap qU),.sl 1 p.length (p.flatMap qU)]))=_
   rw [hrl]] at hj
  rw [hq0] at hj ⊢;have hj3:DK 205 [.one (.f (.sl 1 3 [.c .nils,.sl 1 (w-p.length-([]:List Int).length) ((List.replicate (w-p.length-([]:List Int).length) (0:Int)).flatMap qU),.sl 1 p.length (p.flatMap qU)]))] fun d=>d=qq ([]++List.replicate (w-p.length-([]:List Int).length) 0++p):=by
   refine BB ?_ hj;exact⟨NilF.sl O (fun i a b ha hb=>Uf ha hb),trivial⟩
  refine qf O O hj3 ?_;rintro _ rfl;exact jJ
 ·have hI2:=Oq (ink:=ink) (part:=part) oM hp;generalize zM ink part=q at *;refine xr ?_;intros;refine qS O O hI2 ?_;intros;refine qS O O hP2 ?_;intros;rw [show ((w:Int)-q.length-p.length)=((w-p.length-q.length:Nat):Int) by omega];have hfl:((List.replicate (w-p.length-q.length) (0:Int)).flatMap qU).length=(w-p.length-q.length)*1:=by rw [qO (f:=qU) (e:=1) (fun _=>rfl),xN]
  have hrl:(List.replicate (w-p.length-q.length) (0:Int)).length=w-p.length-q.length:=xN;refine qc ?_;intros;refine qY 1 O qo qo ?_;refine PA 2 O O ?_;refine qY 2 O qo qo ?_;have hj:=FZ (a:=q) (b:=List.replicate (w-p.length-q.length) 0) (c:=p) hPn (by rw [hrl];omega);rw [show qW [q,List.replicate (w-p.length-q.length) 0,p]=.one (.f (.sl 1 3 [.sl 1 q.length (q.flatMap qU),.sl 1 (w-p.length-q.length) ((List.replicate (w-p.length-q.length) (0:Int)).flatMap qU),.sl 1 p.length (p.flatMap qU)])) by
   show DV.one (.f (.sl 1 3 [.sl 1 q.length (q.flatMap qU),.sl 1 (List.replicate (w-p.length-q.length) (0:Int)).length ((List.replicate (w-p.length-q.length) (0:Int)).flatMap qU),.sl 1 p.length (p.flatMap qU)]))=_
   rw [hrl]] at hj
  refine qf O O hj ?_;rintro _ rfl;exact jJ
end Go.Ai
namespace Go.Ab
theorem Oc{p:Par}{n:Nat}{Q:Exit->qk->Bx->Nat->Prop}{E:qk}{S:Bx}{nk:Nat}{a b:SC}(E0:qk)(S0:Bx)(n0:Nat)(h1:DPS p n a (eV (fun E S _=>Wk p (oE E0 S0 E S) n0 E0 S0 E S) Q) E S nk)(h2:DPS p n b Q E0 S0 n0):DPS p n (.seq a b) Q E S nk:=
 yn (Gt h1 fun e E S nk h=>by
  cases e with
  |normal=>exact W6 _ h h2
  |_=>exact h)
theorem m9{p:Par}{E0 E:qk}{S0 S:Bx}{n0:Nat}(h:Wk p (oE E0 S0 E S) n0 E0 S0 E S):Wk p (oE E0 S0 E S) n0 E0 S0 E S:=h
end Go.Ab
namespace Go.Ai
open Go.Ab Go.Proofs
theorem UD:∀a,a<10->yO a≠0:=by decide
theorem uK:∀k,k<26->wI.getD k default≠0:=by decide
theorem cK{n:Nat}(hn:n<=99999):∀x∈ze n,x≠0:=by
 rw [Xw hn];intro x hx;rcases zd.1 hx with rfl|hx
 ·decide
 ·obtain⟨d,hd,rfl⟩:=j6.1 hx;exact UD d (VF n d hd)
theorem cD{n:Nat}{back:Bool}(hn:n<=9999):zJ n back<=99999:=by unfold zJ;split<;>omega
theorem Fc{n k:Nat}{back:Bool}(hn:n<=9999)(hk:k<=2):∀x∈jt n k back,x≠0:=by
 intro x hx;unfold jt at hx;rcases xu.1 hx with hx|hx
 ·exact cK (cD hn) x hx
 ·split at hx
  ·cases hx
  ·rcases zd.1 hx with rfl|hx
   ·decide
   ·obtain rfl:=xM.1 hx;exact uK _ oM
theorem TV{ink part:Nat}(hi:ink<=9999)(hp:part<=26):∀x∈zM ink part,x≠0:=by
 intro x hx;unfold zM at hx;split at hx
 ·cases hx
 ·split at hx
  ·exact cK oM x hx
  ·rcases xu.1 hx with hx|hx
   ·rcases zd.1 hx with rfl|hx
    ·decide
    ·obtain rfl:=xM.1 hx;exact uK _ oM
   ·exact cK oM x hx
theorem H4{l r:List Int}{j:Nat}(h:l.length<=j):(l++r).getD j default=r.getD (j-l.length) default:=by
 rw [qT,Q3 h,qT]
theorem U3{w n k ink part:Nat}{back:Bool}(hw:24<=w/\w<=60)(hn:1<=n/\n<=9999)(hk:k<=2)(hi:ink<=9999)(hp:part<=26)(h0:ink=0->part=0):DK 186 [qq (zy w n k back ink part)] fun d=>d=.tup [lT w n k back ink part,.int 0]:=by
 have hP:=V5 n k back;have hI:=WZ ink part;have hP0:=Fc (back:=back) hn.2 hk;have hI0:=TV hi hp;have hH:=PV (back:=back) hw hn hk hi hp h0;obtain⟨z,hz⟩:∃z,w-(jt n k back).length-(zM ink part).length=z+1:=⟨w-(jt n k back).length-(zM ink part).length-1,oM⟩;have hq:zy w n k back ink part=zM ink part++0::(List.replicate z 0++jt n k back):=by
  unfold zy;rw [hz,LZ,j5];rfl
 have hq2:zy w n k back ink part=(zM ink part++List.replicate (z+1) 0)++jt n k back:=by
  unfold zy;rw [hz]
 have hIz:(zM ink part++List.replicate (z+1) (0:Int)).length=w-(jt n k back).length:=by rw [qE,xN];omega
 have hlen:(zy w n k back ink part).length=w:=by rw [hq2,qE,hIz];omega
 have hS:=UK (l:=zM ink part) (r:=List.replicate z 0++jt n k back) (c:=0) hI0 (by rw [<-hq];omega);have hE:=UO (l:=zy w n k back ink part) oM;rw [<-hq] at hS;have hqT:(zy w n k back ink part).take (zM ink part).length=zM ink part:=by rw [hq,List.take_left]
 have hqD:((zy w n k back ink part).take (zy w n k back ink part).length).drop (w-(jt n k back).length)=jt n k back:=by rw [vE,hq2,<-hIz,List.drop_left]
 have hqz:(zy w n k back ink part).getD (w-1-(jt n k back).length) default=0:=by
  rw [hq2,qT,Qz (by omega),Q3 (by omega),Zu,if_pos (by omega)];rfl
 have hqj:∀j,j<(jt n k back).length->(zy w n k back ink part).getD (w-1-j) default≠0:=fun j hj=>by
  rw [hq2,H4 (by omega),hIz];exact hP0 _ (qn (l:=jt n k back) oM)
 clear hq hq2;obtain⟨T,hT⟩:∃T:List Int,T=if k=0 then [] else [48,wI.getD (k-1) default]:=⟨_,rfl⟩
 have hRd:=FY (n:=zJ n back) (cD hn.2) (t:=T) (by rw [hT];split;exact .inl O;exact .inr ⟨_,O⟩);have hPT:jt n k back=ze (zJ n back)++T:=by rw [hT];rfl
 have hTd:((jt n k back).take (jt n k back).length).drop (ze (zJ n back)).length=T:=by rw [vE,hPT,List.drop_left]
 have hPl:(jt n k back).length=(ze (zJ n back)).length+T.length:=by rw [hPT,qE]
 rw [<-hPT] at hRd;have hs9:=cD (back:=back) hn.2;have hsn:IntKind.i64.wrap ((((zJ n back:Nat):Int)+1).tdiv 2)=n:=by
  rw [DP (by omega),qm (by omega) (by omega)];unfold zJ;split<;>omega
 have hsb:(((zJ n back % Int.toNat 2:Nat):Int)==0)=back:=by
  rw [show zJ n back % Int.toNat 2=zJ n back % 2 from rfl];unfold zJ;cases back
  ·rw [if_neg (by decide)];simp;omega
  ·rw [if_pos rfl];simp
 generalize zy w n k back ink part=q at *;generalize zJ n back=s at *;generalize jt n k back=P at *;subst hlen;refine xr ?_;intros;refine qS O O hS ?_;intros;refine qN (fun m E S nk=>∃j:Nat,j+m=P.length/\E=[(0,qq q),(2,.one (.ptr 0 0)),(4,.int (zM ink part).length),(5,.int ((q.length-1-j:Nat):Int))]/\S=[(0,.cells [.f (FD.int 0),.f (FD.int 0),.f (FD.int 0),.f (.c (.bool false)),.f (FD.int 0),.f (FD.int 0)])]/\nk=1) (P.length) ⟨0,oM,O,O,O⟩ ?_;rintro m E S nk ⟨j,hm,rfl,rfl,rfl⟩;rcases bD j P.length with hj|hj
 ·have h3:=hqj j hj;refine qc ?_;intros;exact qG ⟨j+1,oM,O,O,O⟩
 ·obtain rfl:j=P.length:=by omega
  refine yn ?_;refine yn ?_;refine yv vB (fun base=>?_)
  repeat (first|refine jO O O ?_|refine iK O oM ?_|refine zi O ?_|refine xZ O ?_|refine vS O O oM O qr (fun _=>O) ?_|refine jd ?_)
  refine iO O ?_;refine yW ?_;refine yn ?_;refine yv vB (fun base=>?_)
  repeat (first|refine jO O O ?_|refine zi O ?_|refine Qf O ?_|refine wh O O O O O (jP O) O ?_|refine jd ?_)
  refine Oc [(0,qq q),(2,.one (.ptr 0 0)),(5,.int ((q.length-1-P.length:Nat):Int)),(6,.one (.ptr 1 0))] [(0,.cells [.f (FD.int 0),.f (FD.int 0),.f (FD.int 0),.f (.c (.bool false)),.f (FD.int 0),.f (FD.int 0)]),(1,.cells [.f (FD.int q.length),.f (FD.int 0),.f (FD.int 0),.f (.c (.bool false)),.f (FD.int ink),.f (FD.int part)])] 2 ?_ ?_
  ·refine qc ?_;intros;refine Zc (f:=qU) (l:=q) (b:=(zM ink part).length) O O oM O (fun _=>by rfl) ?_;rw [hqT];by_cases hz1:ink=0
   ·obtain rfl:=hz1;obtain rfl:=h0 rfl;have hIl:(zM 0 0).length=0:=rfl;refine qc ?_;intros;exact m9 xp
   ·have hRi:=FY (n:=ink) oM (.inl rfl);rw [yI] at hRi;have hnl:=Xw (n:=ink) oM;have hn0:(ze ink).getD 0 default=60:=by rw [hnl];rfl
    have hn1:1<=(ze ink).length:=by rw [hnl];simp
    clear hnl;by_cases hp0:part=0
    ·obtain rfl:=hp0;rw [show zM ink 0=ze ink by unfold zM;rw [if_neg hz1,if_pos rfl]];generalize ze ink=N at *;by_cases h2:2<N.length
     all_goals
      refine qc ?_;intros;refine qS O O hRi ?_;intros;exact m9 xp
    ·have e:zM ink part=48::wI.getD (part-1) default::ze ink:=by unfold zM;rw [if_neg hz1,if_neg hp0];rfl
     have hg0:(zM ink part).getD 0 default=48:=by rw [e];rfl
     have hg1:(zM ink part).getD 1 default=wI.getD (part-1) default:=by rw [e];rfl
     have hgl:(zM ink part).length=(ze ink).length+2:=by rw [e];rfl
     have hgd:((zM ink part).take (zM ink part).length).drop 2=ze ink:=by rw [vE,e];rfl
     clear e;generalize zM ink part=I at *;generalize ze ink=N at *;refine qc ?_;intros;rw [hg1];refine qf O O (BP (k:=part-1) oM) ?_;rintro _ rfl;rw [show part-1+1=part by omega];refine qc ?_;intros;refine Zd (f:=qU) (l:=I) (a:=2) (b:=I.length) O O O oM oM O (fun _=>by rfl) ?_;rw [hgd];refine qc ?_;intros;refine qS O O hRi ?_;intros;exact m9 xp
  ·refine qc ?_;intros;rw [show ((q.length-1-P.length:Nat):Int)+1=((q.length-P.length:Nat):Int) by omega];refine Zd (f:=qU) (l:=q) (a:=q.length-P.length) (b:=q.length) O O O oM oM O (fun _=>by rfl) ?_;rw [hqD];refine qc ?_;intros;refine qS O O hRd ?_;intros;rw [hsn,hsb];refine Zd (f:=qU) (l:=P) (a:=(ze s).length) (b:=P.length) O O O oM oM O (fun _=>by rfl) ?_;rw [hTd];by_cases hk0:k=0
   ·obtain rfl:=hk0;have hTl:T.length=0:=by rw [hT];rfl
    refine qc ?_;intros;refine qS O O hH ?_;intros;refine qf O O hE ?_;rintro _ rfl;exact jJ
   ·rw [if_neg hk0] at hT;have hTl:T.length=2:=by rw [hT];rfl
    have hT1:T.getD 1 default=wI.getD (k-1) default:=by rw [hT];rfl
    refine qc ?_;intros;rw [hT1];refine qf O O (BP (k:=k-1) oM) ?_;rintro _ rfl;rw [show k-1+1=k by omega];refine qc ?_;intros;refine qS O O hH ?_;intros;refine qf O O hE ?_;rintro _ rfl;exact jJ
end Go.Ai
