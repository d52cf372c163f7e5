/- -/
import Derived.Test.YtdlelodnhjacgaaGreatDoorAb24
set_option linter.unusedSimpArgs false
set_option linter.unusedVariables false
set_option maxRecDepth 8000
set_option maxHeartbeats 8000000
namespace Go.Ai
open Go.Ab Go.Proofs
open Classical in
noncomputable def VM (g:Int) (l:List qj):Bool:=decide (∃cs,ClS g (xy l) cs/\cs.length=1)
open Classical in
theorem Pi{g:Int}{l:List qj}{cs:List (List qj)}(h:ClS g (xy l) cs):VM g l=decide (cs.length=1):=by
 unfold VM;by_cases h1:cs.length=1
 ·rw [decide_eq_true h1];exact decide_eq_true ⟨cs,h,h1⟩
 ·rw [decide_eq_false h1];exact decide_eq_false fun⟨cs',h',h2⟩=>h1 (by rw [h.uniq h'];exact h2)
def Up(g:Int)(l:List (List qj))(i:Nat):Prop:=(∃a,l[i]?=some a/\VM g a=false)/\∀(j:Nat) b,j<i->l[j]?=some b->VM g b=true
def Uo(g:Int)(l:List (List qj))(i k:Nat):Prop:=(∃a b,i<k/\l[i]?=some a/\l[k]?=some b/\yd a b<=g)/\∀(i' k':Nat) a b,i'<k'->(i'<i\/(i'=i/\k'<k))->l[i']?=some a->l[k']?=some b->¬yd a b<=g
def LJ(g:Int)(l:List (List qj)):Prop:=∀a∈l,VM g a=true
def Ss(g:Int)(l:List (List qj)):Prop:=∀(i k:Nat) a b,i<k->l[i]?=some a->l[k]?=some b->¬yd a b<=g
abbrev Ra:=Int × Int × Int
inductive Chk (p:Pic):Ra->Prop
 |arg (h:¬xQ p=true):Chk p (0,0,1)
 |bad1 (i:Nat) (h:xQ p=true) (hb:Up p.gap (zQ p) i):Chk p ((i:Int),(i:Int),130)
 |bad2 (i k:Nat) (h:xQ p=true) (hg:LJ p.gap (zQ p)) (hb:Uo p.gap (zQ p) i k):Chk p ((i:Int),(k:Int),140)
 |ok (h:xQ p=true) (hg:LJ p.gap (zQ p)) (hb:Ss p.gap (zQ p)):Chk p (0,0,0)
def HC(r:Ra):DV:=.agg [.f (.c (.int .i64 r.1)),.f (.c (.int .i64 r.2.1)),.f (.c (.int .i64 r.2.2))]
theorem Lq{l:List (List qj)}{i:Nat}{a:List qj}(h:l[i]?=some a):(KB l)[i]?=some (l.map (yd a)):=by
 simp [KB,h]
theorem BL{p:Pic}(hF:VZ p):DK 85 [Qa p] fun d=>∃r,Chk p r/\d=HC r:=by
 refine yQ ?_;intros;refine x6 O O (iW hF) ?_;intros;refine qd O (fun hv=>?_) (fun hv=>?_)
 ·have hv:¬xQ p=true:=by simpa using hv
  refine qa ?_;intros;exact qb ⟨_,O,O,_,.arg hv,O⟩
 ·have hv:xQ p=true:=by simpa using hv
  have hT:aK p=KB (zQ p):=by rw [aK,if_pos hv]
  have hsm:=XQ hv;have hpl:(zQ p).length=p.fs.length:=by simp [zQ]
  have hl8:=(zZ hv).1;generalize hl:zQ p=l at *;refine qa ?_;intros;refine qf O O (ZH (QG hv) oM) ?_;rintro _ rfl;rw [hl];refine qa ?_;intros;refine qf O O (BK hF) ?_;rintro _ rfl;rw [hT];refine qa ?_;intros;refine qu (fun m E S nk=>∃i:Nat,i+m=l.length/\(∀(j:Nat) b,j<i->l[j]?=some b->VM p.gap b=true)/\E=[(1,.one (.ptr 0 0)),(2,.one (.ptr 1 0)),(3,XP l),(4,fM (KB l)),(5,.int i)]/\S=[(0,.cells (WP p)),(1,.cells [.f (.c (.int .i64 0)),.f (.c (.int .i64 0)),.f (.c (.int .i64 0))])]/\nk=2)
   ⟨l.length,_,_,_,[],?wk,0,oM,fun j b hj=>oM,O,O,O⟩ ?_
  case wk=>exact qs
  rintro m E S nk ⟨i,hi,hok,rfl,rfl,rfl⟩;refine qa ?_;intros;refine qd rfl (fun hi2=>?_) (fun hi2=>?_)
  ·have hi2:i<l.length:=by have:=xo hi2;omega
   obtain⟨a,ha⟩:∃r,l[i]?=some r:=⟨_,zge hi2⟩;have e1:=JT ha;have hsa:=hsm a (zmg ha);refine qa ?_;intros;refine qf rfl rfl (C8 (ZY hsa.1) oM) ?_;rintro _ ⟨cs,rfl,hcs⟩;have hc1:=Pi hcs;refine qa ?_;intros;refine qd rfl (fun hb=>?_) (fun hb=>?_)
   ·have hb:¬(cs.length:Int)=1:=RM hb;refine qa ?_;intros;exact qb ⟨_,rfl,rfl,_,.bad1 i hv (by rw [hl];exact⟨⟨a,ha,by rw [hc1];exact decide_eq_false (by omega)⟩,hok⟩),rfl⟩
   ·have hb:(cs.length:Int)=1:=I9 hb;refine qa ?_;intros;refine⟨m-1,oM,_,_,_,[],?wk1,i+1,oM,?hno,rfl,rfl,rfl⟩
    case hno=>
     intro j b hj hbj;by_cases hji:j=i
     ·subst hji;rw [ha] at hbj;rw [<-zsi hbj,hc1];exact decide_eq_true oM
     ·exact hok j b oM hbj
    case wk1=>exact qs
  ·have hi2:i=l.length:=by have:=zK hi2;omega
   subst hi2;have hg1:LJ p.gap (zQ p):=fun a ha=>by
    rw [hl] at ha;obtain⟨j,hj⟩:=eH ha;exact hok j a (zgs hj).1 hj
   refine qa ?_;intros;refine qu (fun m E S nk=>∃i:Nat,i+m=l.length/\(∀(i' k':Nat) a b,i'<k'->i'<i->l[i']?=some a->l[k']?=some b->¬yd a b<=p.gap)/\E=[(1,.one (.ptr 0 0)),(2,.one (.ptr 1 0)),(3,XP l),(4,fM (KB l)),(6,.int i)]/\S=[(0,.cells (WP p)),(1,.cells [.f (.c (.int .i64 0)),.f (.c (.int .i64 0)),.f (.c (.int .i64 0))])]/\nk=2)
    ⟨l.length,_,_,_,[],?wk2,0,oM,fun i' k' a b _ h=>oM,rfl,rfl,rfl⟩ ?_
   case wk2=>exact qs
   rintro m2 E S nk ⟨i,hi3,hok2,rfl,rfl,rfl⟩;refine qa ?_;intros;refine qd rfl (fun hi4=>?_) (fun hi4=>?_)
   ·have hi4:i<l.length:=by have:=xo hi4;omega
    obtain⟨a,ha⟩:∃r,l[i]?=some r:=⟨_,zge hi4⟩;have e1:=TT (Lq ha);refine qa ?_;intros;refine qu (fun m E S nk=>∃k:Nat,k+m=l.length/\i<k/\(∀(k':Nat) b,i<k'->k'<k->l[k']?=some b->¬yd a b<=p.gap)/\E=[(1,.one (.ptr 0 0)),(2,.one (.ptr 1 0)),(3,XP l),(4,fM (KB l)),(6,.int i),(7,.int k)]/\S=[(0,.cells (WP p)),(1,.cells [.f (.c (.int .i64 0)),.f (.c (.int .i64 0)),.f (.c (.int .i64 0))])]/\nk=2)
     ⟨l.length-(i+1),_,_,_,[],?wk3,i+1,oM,oM,fun k' b _ h=>oM,rfl,rfl,rfl⟩ ?_
    case wk3=>exact qs
    rintro m3 E S nk ⟨k,hk,hik,hok3,rfl,rfl,rfl⟩;refine qa ?_;intros;refine qd rfl (fun hk2=>?_) (fun hk2=>?_)
    ·have hk2:k<l.length:=by have:=xo hk2;omega
     obtain⟨b,hb⟩:∃r,l[k]?=some r:=⟨_,zge hk2⟩;have e2:=Rz (show (l.map (yd a))[k]?=some (yd a b) by simp [hb]);have hml:(l.map (yd a)).length=l.length:=xX _;have htl:(KB l).length=l.length:=by simp [KB]
     have hi5:i<(KB l).length:=oM;refine qa ?_;intros;refine qd rfl (fun hd=>?_) (fun hd=>?_)
     ·have hd:=xo hd;refine qa ?_;intros;refine qb ⟨_,rfl,rfl,_,.bad2 i k hv hg1 ?_,rfl⟩;rw [hl];refine⟨⟨a,b,hik,ha,hb,hd⟩,fun i' k' a' b' h1 h2 h3 h4=>?_⟩;rcases h2 with h2|⟨rfl,h2⟩
      ·exact hok2 i' k' a' b' h1 h2 h3 h4
      ·rw [ha] at h3;rw [<-zsi h3];exact hok3 k' b' h1 h2 h4
     ·have hd:=zK hd;refine qa ?_;intros;refine⟨m3-1,oM,_,_,_,[],?wk4,k+1,oM,oM,?hno2,rfl,rfl,rfl⟩
      case hno2=>
       intro k' b' h1 h2 h3;by_cases hkk:k'=k
       ·subst hkk;rw [hb] at h3;rw [<-zsi h3];exact hd
       ·exact hok3 k' b' h1 oM h3
      case wk4=>exact qs
    ·have hk2:k=l.length:=by have:=zK hk2;omega
     refine qa ?_;intros;refine⟨m2-1,oM,_,_,_,[],?wk5,i+1,oM,?hno3,rfl,rfl,rfl⟩
     case hno3=>
      intro i' k' a' b' h1 h2 h3 h4;by_cases hii:i'=i
      ·subst hii;rw [ha] at h3;rw [<-zsi h3];exact hok3 k' b' h1 (by have:=(zgs h4).1;omega) h4
      ·exact hok2 i' k' a' b' h1 oM h3 h4
     case wk5=>exact qs
   ·have hi4:i=l.length:=by have:=zK hi4;omega
    subst hi4;refine qa ?_;intros;refine qb ⟨_,rfl,rfl,_,.ok hv hg1 ?_,rfl⟩;rw [hl];exact fun i k a b h1 h2 h3=>hok2 i k a b h1 (zgs h2).1 h2 h3
end Go.Ai
namespace Go.Ai
open Go.Ab Go.Proofs
def Tu(p:Pic):Prop:=∀f∈p.fs,ye f=true->(xV f).length<=256
def Oe(i:Nat):Int:=[1,3,9,25,17,11,27,19].getD i 0
def sB(i:Nat):DV:=.one (.f (.sl 1 2 [.c (.int .u8 60),.c (.int .u8 (Oe i))]))
theorem UV{i:Nat}(hi:i<8):DK 165 [.int i] fun d=>d=sB i:=by
 refine vL fun Z0 lo=>?_
 match i,hi with
 |0,_=>
  refine qa ?_;intros;refine qx (qg (k:=2) rfl (qv _)) (qg (k:=1) rfl (qv _)) ?_;refine qF 1 rfl qo qo ?_;exact qb ⟨_,rfl,rfl,rfl⟩
 |1,_=>
  refine qa ?_;intros;refine qx (qg (k:=2) rfl (qv _)) (qg (k:=1) rfl (qv _)) ?_;refine qF 1 rfl qo qo ?_;exact qb ⟨_,rfl,rfl,rfl⟩
 |2,_=>
  refine qa ?_;intros;refine qx (qg (k:=2) rfl (qv _)) (qg (k:=1) rfl (qv _)) ?_;refine qF 1 rfl qo qo ?_;exact qb ⟨_,rfl,rfl,rfl⟩
 |3,_=>
  refine qa ?_;intros;refine qx (qg (k:=2) rfl (qv _)) (qg (k:=1) rfl (qv _)) ?_;refine qF 1 rfl qo qo ?_;exact qb ⟨_,rfl,rfl,rfl⟩
 |4,_=>
  refine qa ?_;intros;refine qx (qg (k:=2) rfl (qv _)) (qg (k:=1) rfl (qv _)) ?_;refine qF 1 rfl qo qo ?_;exact qb ⟨_,rfl,rfl,rfl⟩
 |5,_=>
  refine qa ?_;intros;refine qx (qg (k:=2) rfl (qv _)) (qg (k:=1) rfl (qv _)) ?_;refine qF 1 rfl qo qo ?_;exact qb ⟨_,rfl,rfl,rfl⟩
 |6,_=>
  refine qa ?_;intros;refine qx (qg (k:=2) rfl (qv _)) (qg (k:=1) rfl (qv _)) ?_;refine qF 1 rfl qo qo ?_;exact qb ⟨_,rfl,rfl,rfl⟩
 |7,_=>
  refine qa ?_;intros;refine qx (qg (k:=2) rfl (qv _)) (qg (k:=1) rfl (qv _)) ?_;refine qF 1 rfl qo qo ?_;exact qb ⟨_,rfl,rfl,rfl⟩
 |i+8,h=>omega
def Un(v:Int)(n:Nat):Bool:=IntKind.u8.wrap (((BitVec.ofInt 8 (v.fdiv (2^n))&&& BitVec.ofInt 8 1).toNat:Nat):Int)==1
def wJ(v:Int)(j:Nat):Bool:=Un (if j % 4<2 then 60 else v) (3*(j % 2)+j/4)
def xY(q:qj)(j:Nat):qj:=(2*q.1+(j % 4:Nat),3*q.2+(j/4:Nat))
def Ye(v:Int)(q:qj)(k:Nat):List qj:=((List.range k).filter (wJ v)).map (xY q)
theorem vQ{v:Int}{q:qj}{k:Nat}(h:wJ v k=true):Ye v q (k+1)=Ye v q k++[xY q k]:=by
 simp [Ye,XY,h]
theorem vR{v:Int}{q:qj}{k:Nat}(h:wJ v k=false):Ye v q (k+1)=Ye v q k:=by
 simp [Ye,XY,h]
theorem aB(v:Int)(q:qj)(k:Nat):(Ye v q k).length<=k:=by
 unfold Ye;rw [xX];exact aZ (nR _ _) sM
def kV(i:Nat)(q:qj):List qj:=Ye (Oe i) q 12
theorem ZI{i:Nat}{q:qj}(hi:i<8)(hq:xf 1000000 q):DK 138 [.int i,wd q] fun d=>d=xt (kV i q):=by
 refine vL fun Z0 lo=>?_;unfold xf at hq;have w1:IntKind.i64.wrap (2*q.1)=2*q.1:=qm oM oM;have w2:IntKind.i64.wrap (3*q.2)=3*q.2:=qm oM oM;refine qa ?_;intros;refine qf rfl rfl (UV hi) ?_;rintro _ rfl;unfold sB kV;generalize Oe i=v;refine qa ?_;intros;refine qu (fun m E S nk=>∃(r:Nat) (out:List qj),r+m=3/\out=Ye v q (4*r)/\E=[(3,.one (.ptr 0 0)),(5,.one (.own 1 0 out.length 2)),(6,.one (.f (.sl 1 2 [.c (.int .u8 60),.c (.int .u8 v)]))),(7,.int r)]/\S=[(0,.cells [.f (.c (.int .i64 q.1)),.f (.c (.int .i64 q.2))]),(1,.data (out.flatMap qB))]/\nk=2) ⟨3,_,_,_,[],?wk,0,[],oM,rfl,rfl,rfl,rfl⟩ ?_
 case wk=>exact qs
 rintro m E S nk ⟨r,out,hr,ho,rfl,rfl,rfl⟩;refine qa ?_;intros;refine qd rfl (fun ht=>?_) (fun ht=>?_)
 ·have ht:r<3:=by have:=xo ht;omega
  match r,ht with
  |0,_=>
   refine qa ?_;intros;refine qu (fun m E S nk=>∃(c:Nat) (out:List qj),c+m=4/\out=Ye v q (0+c)/\E=[(3,.one (.ptr 0 0)),(5,.one (.own 1 0 out.length 2)),(6,.one (.f (.sl 1 2 [.c (.int .u8 60),.c (.int .u8 v)]))),(7,.int (0:Nat)),(8,.int c)]/\S=[(0,.cells [.f (.c (.int .i64 q.1)),.f (.c (.int .i64 q.2))]),(1,.data (out.flatMap qB))]/\nk=2) ⟨4,_,_,_,[],?wk0,0,out,oM,ho,rfl,rfl,rfl⟩ ?_
   case wk0=>exact qs
   rintro m2 E S nk ⟨c,out,hc,ho,rfl,rfl,rfl⟩;have hol:=aB v q (0+c);rw [<-ho] at hol;have hfl:=zu out;refine qa ?_;intros;refine qd rfl (fun ht2=>?_) (fun ht2=>?_)
   ·have ht2:c<4:=by have:=xo ht2;omega
    match c,ht2 with
    |0,_=>
     have w3:IntKind.i64.wrap (2*q.1+((0:Nat):Int))=2*q.1+((0:Nat):Int):=qm oM oM;have w4:IntKind.i64.wrap (3*q.2+((0:Nat):Int))=3*q.2+((0:Nat):Int):=qm oM oM;refine qa ?_;intros;refine yE (j:=0) (q:=[.c (.int .u8 60)]) rfl rfl qr qr rfl ?_;refine qa ?_;intros;refine qd rfl (fun hb=>?_) (fun hb=>?_)
     ·have hb:wJ v 0=true:=hb;refine qa ?_;intros;refine qZ (m:=1) (q:=qB (xY q 0)) rfl rfl rfl (qD _ hfl) ⟨rfl,rfl,_,rfl,by rw [w1,w2,w3,w4];rfl⟩ (by omega) (by omega) (by decide) rfl ?_;rw [show out.flatMap qB++qB (xY q 0)=(out++[xY q 0]).flatMap qB by simp,show out.length+1=(out++[xY q 0]).length by simp];refine qa ?_;intros;refine⟨m2-1,by omega,_,_,_,[(1,3)],?wa,1,out++[xY q 0],by omega,by rw [ho];exact (vQ hb).symm,rfl,rfl,rfl⟩
      case wa=>exact qs
     ·have hb:wJ v 0=false:=hb;refine qa ?_;intros;refine⟨m2-1,by omega,_,_,_,[],?wb,1,out,by omega,by rw [ho];exact (vR hb).symm,rfl,rfl,rfl⟩
      case wb=>exact qs
    |1,_=>
     have w3:IntKind.i64.wrap (2*q.1+((1:Nat):Int))=2*q.1+((1:Nat):Int):=qm oM oM;have w4:IntKind.i64.wrap (3*q.2+((0:Nat):Int))=3*q.2+((0:Nat):Int):=qm oM oM;refine qa ?_;intros;refine yE (j:=0) (q:=[.c (.int .u8 60)]) rfl rfl qr qr rfl ?_;refine qa ?_;intros;refine qd rfl (fun hb=>?_) (fun hb=>?_)
     ·have hb:wJ v 1=true:=hb;refine qa ?_;intros;refine qZ (m:=1) (q:=qB (xY q 1)) rfl rfl rfl (qD _ hfl) ⟨rfl,rfl,_,rfl,by rw [w1,w2,w3,w4];rfl⟩ (by omega) (by omega) (by decide) rfl ?_;rw [show out.flatMap qB++qB (xY q 1)=(out++[xY q 1]).flatMap qB by simp,show out.length+1=(out++[xY q 1]).length by simp];refine qa ?_;intros;refine⟨m2-1,by omega,_,_,_,[(1,3)],?wa,2,out++[xY q 1],by omega,by rw [ho];exact (vQ hb).symm,rfl,rfl,rfl⟩
      case wa=>exact qs
     ·have hb:wJ v 1=false:=hb;refine qa ?_;intros;refine⟨m2-1,by omega,_,_,_,[],?wb,2,out,by omega,by rw [ho];exact (vR hb).symm,rfl,rfl,rfl⟩
      case wb=>exact qs
    |2,_=>
     have w3:IntKind.i64.wrap (2*q.1+((2:Nat):Int))=2*q.1+((2:Nat):Int):=qm oM oM;have w4:IntKind.i64.wrap (3*q.2+((0:Nat):Int))=3*q.2+((0:Nat):Int):=qm oM oM;refine qa ?_;intros;refine yE (j:=1) (q:=[.c (.int .u8 v)]) rfl rfl qr qr rfl ?_;refine qa ?_;intros;refine qd rfl (fun hb=>?_) (fun hb=>?_)
     ·have hb:wJ v 2=true:=hb;refine qa ?_;intros;refine qZ (m:=1) (q:=qB (xY q 2)) rfl rfl rfl (qD _ hfl) ⟨rfl,rfl,_,rfl,by rw [w1,w2,w3,w4];rfl⟩ (by omega) (by omega) (by decide) rfl ?_;rw [show out.flatMap qB++qB (xY q 2)=(out++[xY q 2]).flatMap qB by simp,show out.length+1=(out++[xY q 2]).length by simp];refine qa ?_;intros;refine⟨m2-1,by omega,_,_,_,[(1,3)],?wa,3,out++[xY q 2],by omega,by rw [ho];exact (vQ hb).symm,rfl,rfl,rfl⟩
      case wa=>exact qs
     ·have hb:wJ v 2=false:=hb;refine qa ?_;intros;refine⟨m2-1,by omega,_,_,_,[],?wb,3,out,by omega,by rw [ho];exact (vR hb).symm,rfl,rfl,rfl⟩
      case wb=>exact qs
    |3,_=>
     have w3:IntKind.i64.wrap (2*q.1+((3:Nat):Int))=2*q.1+((3:Nat):Int):=qm oM oM;have w4:IntKind.i64.wrap (3*q.2+((0:Nat):Int))=3*q.2+((0:Nat):Int):=qm oM oM;refine qa ?_;intros;refine yE (j:=1) (q:=[.c (.int .u8 v)]) rfl rfl qr qr rfl ?_;refine qa ?_;intros;refine qd rfl (fun hb=>?_) (fun hb=>?_)
     ·have hb:wJ v 3=true:=hb;refine qa ?_;intros;refine qZ (m:=1) (q:=qB (xY q 3)) rfl rfl rfl (qD _ hfl) ⟨rfl,rfl,_,rfl,by rw [w1,w2,w3,w4];rfl⟩ (by omega) (by omega) (by decide) rfl ?_;rw [show out.flatMap qB++qB (xY q 3)=(out++[xY q 3]).flatMap qB by simp,show out.length+1=(out++[xY q 3]).length by simp];refine qa ?_;intros;refine⟨m2-1,by omega,_,_,_,[(1,3)],?wa,4,out++[xY q 3],by omega,by rw [ho];exact (vQ hb).symm,rfl,rfl,rfl⟩
      case wa=>exact qs
     ·have hb:wJ v 3=false:=hb;refine qa ?_;intros;refine⟨m2-1,by omega,_,_,_,[],?wb,4,out,by omega,by rw [ho];exact (vR hb).symm,rfl,rfl,rfl⟩
      case wb=>exact qs
    |c+4,h=>omega
   ·have ht2:c=4:=by have:=zK ht2;omega
    subst ht2;refine qa ?_;intros;refine⟨m-1,oM,_,_,_,[],?wc,1,out,oM,ho,rfl,rfl,rfl⟩
    case wc=>exact qs
  |1,_=>
   refine qa ?_;intros;refine qu (fun m E S nk=>∃(c:Nat) (out:List qj),c+m=4/\out=Ye v q (4+c)/\E=[(3,.one (.ptr 0 0)),(5,.one (.own 1 0 out.length 2)),(6,.one (.f (.sl 1 2 [.c (.int .u8 60),.c (.int .u8 v)]))),(7,.int (1:Nat)),(8,.int c)]/\S=[(0,.cells [.f (.c (.int .i64 q.1)),.f (.c (.int .i64 q.2))]),(1,.data (out.flatMap qB))]/\nk=2) ⟨4,_,_,_,[],?wk1,0,out,oM,ho,rfl,rfl,rfl⟩ ?_
   case wk1=>exact qs
   rintro m2 E S nk ⟨c,out,hc,ho,rfl,rfl,rfl⟩;have hol:=aB v q (4+c);rw [<-ho] at hol;have hfl:=zu out;refine qa ?_;intros;refine qd rfl (fun ht2=>?_) (fun ht2=>?_)
   ·have ht2:c<4:=by have:=xo ht2;omega
    match c,ht2 with
    |0,_=>
     have w3:IntKind.i64.wrap (2*q.1+((0:Nat):Int))=2*q.1+((0:Nat):Int):=qm oM oM;have w4:IntKind.i64.wrap (3*q.2+((1:Nat):Int))=3*q.2+((1:Nat):Int):=qm oM oM;refine qa ?_;intros;refine yE (j:=0) (q:=[.c (.int .u8 60)]) rfl rfl qr qr rfl ?_;refine qa ?_;intros;refine qd rfl (fun hb=>?_) (fun hb=>?_)
     ·have hb:wJ v 4=true:=hb;refine qa ?_;intros;refine qZ (m:=1) (q:=qB (xY q 4)) rfl rfl rfl (qD _ hfl) ⟨rfl,rfl,_,rfl,by rw [w1,w2,w3,w4];rfl⟩ (by omega) (by omega) (by decide) rfl ?_;rw [show out.flatMap qB++qB (xY q 4)=(out++[xY q 4]).flatMap qB by simp,show out.length+1=(out++[xY q 4]).length by simp];refine qa ?_;intros;refine⟨m2-1,by omega,_,_,_,[(1,3)],?wa,1,out++[xY q 4],by omega,by rw [ho];exact (vQ hb).symm,rfl,rfl,rfl⟩
      case wa=>exact qs
     ·have hb:wJ v 4=false:=hb;refine qa ?_;intros;refine⟨m2-1,by omega,_,_,_,[],?wb,1,out,by omega,by rw [ho];exact (vR hb).symm,rfl,rfl,rfl⟩
      case wb=>exact qs
    |1,_=>
     have w3:IntKind.i64.wrap (2*q.1+((1:Nat):Int))=2*q.1+((1:Nat):Int):=qm oM oM;have w4:IntKind.i64.wrap (3*q.2+((1:Nat):Int))=3*q.2+((1:Nat):Int):=qm oM oM;refine qa ?_;intros;refine yE (j:=0) (q:=[.c (.int .u8 60)]) rfl rfl qr qr rfl ?_;refine qa ?_;intros;refine qd rfl (fun hb=>?_) (fun hb=>?_)
     ·have hb:wJ v 5=true:=hb;refine qa ?_;intros;refine qZ (m:=1) (q:=qB (xY q 5)) rfl rfl rfl (qD _ hfl) ⟨rfl,rfl,_,rfl,by rw [w1,w2,w3,w4];rfl⟩ (by omega) (by omega) (by decide) rfl ?_;rw [show out.flatMap qB++qB (xY q 5)=(out++[xY q 5]).flatMap qB by simp,show out.length+1=(out++[xY q 5]).length by simp];refine qa ?_;intros;refine⟨m2-1,by omega,_,_,_,[(1,3)],?wa,2,out++[xY q 5],by omega,by rw [ho];exact (vQ hb).symm,rfl,rfl,rfl⟩
      case wa=>exact qs
     ·have hb:wJ v 5=false:=hb;refine qa ?_;intros;refine⟨m2-1,by omega,_,_,_,[],?wb,2,out,by omega,by rw [ho];exact (vR hb).symm,rfl,rfl,rfl⟩
      case wb=>exact qs
    |2,_=>
     have w3:IntKind.i64.wrap (2*q.1+((2:Nat):Int))=2*q.1+((2:Nat):Int):=qm oM oM;have w4:IntKind.i64.wrap (3*q.2+((1:Nat):Int))=3*q.2+((1:Nat):Int):=qm oM oM;refine qa ?_;intros;refine yE (j:=1) (q:=[.c (.int .u8 v)]) rfl rfl qr qr rfl ?_;refine qa ?_;intros;refine qd rfl (fun hb=>?_) (fun hb=>?_)
     ·have hb:wJ v 6=true:=hb;refine qa ?_;intros;refine qZ (m:=1) (q:=qB (xY q 6)) rfl rfl rfl (qD _ hfl) ⟨rfl,rfl,_,rfl,by rw [w1,w2,w3,w4];rfl⟩ (by omega) (by omega) (by decide) rfl ?_;rw [show out.flatMap qB++qB (xY q 6)=(out++[xY q 6]).flatMap qB by simp,show out.length+1=(out++[xY q 6]).length by simp];refine qa ?_;intros;refine⟨m2-1,by omega,_,_,_,[(1,3)],?wa,3,out++[xY q 6],by omega,by rw [ho];exact (vQ hb).symm,rfl,rfl,rfl⟩
      case wa=>exact qs
     ·have hb:wJ v 6=false:=hb;refine qa ?_;intros;refine⟨m2-1,by omega,_,_,_,[],?wb,3,out,by omega,by rw [ho];exact (vR hb).symm,rfl,rfl,rfl⟩
      case wb=>exact qs
    |3,_=>
     have w3:IntKind.i64.wrap (2*q.1+((3:Nat):Int))=2*q.1+((3:Nat):Int):=qm oM oM;have w4:IntKind.i64.wrap (3*q.2+((1:Nat):Int))=3*q.2+((1:Nat):Int):=qm oM oM;refine qa ?_;intros;refine yE (j:=1) (q:=[.c (.int .u8 v)]) rfl rfl qr qr rfl ?_;refine qa ?_;intros;refine qd rfl (fun hb=>?_) (fun hb=>?_)
     ·have hb:wJ v 7=true:=hb;refine qa ?_;intros;refine qZ (m:=1) (q:=qB (xY q 7)) rfl rfl rfl (qD _ hfl) ⟨rfl,rfl,_,rfl,by rw [w1,w2,w3,w4];rfl⟩ (by omega) (by omega) (by decide) rfl ?_;rw [show out.flatMap qB++qB (xY q 7)=(out++[xY q 7]).flatMap qB by simp,show out.length+1=(out++[xY q 7]).length by simp];refine qa ?_;intros;refine⟨m2-1,by omega,_,_,_,[(1,3)],?wa,4,out++[xY q 7],by omega,by rw [ho];exact (vQ hb).symm,rfl,rfl,rfl⟩
      case wa=>exact qs
     ·have hb:wJ v 7=false:=hb;refine qa ?_;intros;refine⟨m2-1,by omega,_,_,_,[],?wb,4,out,by omega,by rw [ho];exact (vR hb).symm,rfl,rfl,rfl⟩
      case wb=>exact qs
    |c+4,h=>omega
   ·have ht2:c=4:=by have:=zK ht2;omega
    subst ht2;refine qa ?_;intros;refine⟨m-1,oM,_,_,_,[],?wc,2,out,oM,ho,rfl,rfl,rfl⟩
    case wc=>exact qs
  |2,_=>
   refine qa ?_;intros;refine qu (fun m E S nk=>∃(c:Nat) (out:List qj),c+m=4/\out=Ye v q (8+c)/\E=[(3,.one (.ptr 0 0)),(5,.one (.own 1 0 out.length 2)),(6,.one (.f (.sl 1 2 [.c (.int .u8 60),.c (.int .u8 v)]))),(7,.int (2:Nat)),(8,.int c)]/\S=[(0,.cells [.f (.c (.int .i64 q.1)),.f (.c (.int .i64 q.2))]),(1,.data (out.flatMap qB))]/\nk=2) ⟨4,_,_,_,[],?wk2,0,out,oM,ho,rfl,rfl,rfl⟩ ?_
   case wk2=>exact qs
   rintro m2 E S nk ⟨c,out,hc,ho,rfl,rfl,rfl⟩;have hol:=aB v q (8+c);rw [<-ho] at hol;have hfl:=zu out;refine qa ?_;intros;refine qd rfl (fun ht2=>?_) (fun ht2=>?_)
   ·have ht2:c<4:=by have:=xo ht2;omega
    match c,ht2 with
    |0,_=>
     have w3:IntKind.i64.wrap (2*q.1+((0:Nat):Int))=2*q.1+((0:Nat):Int):=qm oM oM;have w4:IntKind.i64.wrap (3*q.2+((2:Nat):Int))=3*q.2+((2:Nat):Int):=qm oM oM;refine qa ?_;intros;refine yE (j:=0) (q:=[.c (.int .u8 60)]) rfl rfl qr qr rfl ?_;refine qa ?_;intros;refine qd rfl (fun hb=>?_) (fun hb=>?_)
     ·have hb:wJ v 8=true:=hb;refine qa ?_;intros;refine qZ (m:=1) (q:=qB (xY q 8)) rfl rfl rfl (qD _ hfl) ⟨rfl,rfl,_,rfl,by rw [w1,w2,w3,w4];rfl⟩ (by omega) (by omega) (by decide) rfl ?_;rw [show out.flatMap qB++qB (xY q 8)=(out++[xY q 8]).flatMap qB by simp,show out.length+1=(out++[xY q 8]).length by simp];refine qa ?_;intros;refine⟨m2-1,by omega,_,_,_,[(1,3)],?wa,1,out++[xY q 8],by omega,by rw [ho];exact (vQ hb).symm,rfl,rfl,rfl⟩
      case wa=>exact qs
     ·have hb:wJ v 8=false:=hb;refine qa ?_;intros;refine⟨m2-1,by omega,_,_,_,[],?wb,1,out,by omega,by rw [ho];exact (vR hb).symm,rfl,rfl,rfl⟩
      case wb=>exact qs
    |1,_=>
     have w3:IntKind.i64.wrap (2*q.1+((1:Nat):Int))=2*q.1+((1:Nat):Int):=qm oM oM;have w4:IntKind.i64.wrap (3*q.2+((2:Nat):Int))=3*q.2+((2:Nat):Int):=qm oM oM;refine qa ?_;intros;refine yE (j:=0) (q:=[.c (.int .u8 60)]) rfl rfl qr qr rfl ?_;refine qa ?_;intros;refine qd rfl (fun hb=>?_) (fun hb=>?_)
     ·have hb:wJ v 9=true:=hb;refine qa ?_;intros;refine qZ (m:=1) (q:=qB (xY q 9)) rfl rfl rfl (qD _ hfl) ⟨rfl,rfl,_,rfl,by rw [w1,w2,w3,w4];rfl⟩ (by omega) (by omega) (by decide) rfl ?_;rw [show out.flatMap qB++qB (xY q 9)=(out++[xY q 9]).flatMap qB by simp,show out.length+1=(out++[xY q 9]).length by simp];refine qa ?_;intros;refine⟨m2-1,by omega,_,_,_,[(1,3)],?wa,2,out++[xY q 9],by omega,by rw [ho];exact (vQ hb).symm,rfl,rfl,rfl⟩
      case wa=>exact qs
     ·have hb:wJ v 9=false:=hb;refine qa ?_;intros;refine⟨m2-1,by omega,_,_,_,[],?wb,2,out,by omega,by rw [ho];exact (vR hb).symm,rfl,rfl,rfl⟩
      case wb=>exact qs
    |2,_=>
     have w3:IntKind.i64.wrap (2*q.1+((2:Nat):Int))=2*q.1+((2:Nat):Int):=qm oM oM;have w4:IntKind.i64.wrap (3*q.2+((2:Nat):Int))=3*q.2+((2:Nat):Int):=qm oM oM;refine qa ?_;intros;refine yE (j:=1) (q:=[.c (.int .u8 v)]) rfl rfl qr qr rfl ?_;refine qa ?_;intros;refine qd rfl (fun hb=>?_) (fun hb=>?_)
     ·have hb:wJ v 10=true:=hb;refine qa ?_;intros;refine qZ (m:=1) (q:=qB (xY q 10)) rfl rfl rfl (qD _ hfl) ⟨rfl,rfl,_,rfl,by rw [w1,w2,w3,w4];rfl⟩ (by omega) (by omega) (by decide) rfl ?_;rw [show out.flatMap qB++qB (xY q 10)=(out++[xY q 10]).flatMap qB by simp,show out.length+1=(out++[xY q 10]).length by simp];refine qa ?_;intros;refine⟨m2-1,by omega,_,_,_,[(1,3)],?wa,3,out++[xY q 10],by omega,by rw [ho];exact (vQ hb).symm,rfl,rfl,rfl⟩
      case wa=>exact qs
     ·have hb:wJ v 10=false:=hb;refine qa ?_;intros;refine⟨m2-1,by omega,_,_,_,[],?wb,3,out,by omega,by rw [ho];exact (vR hb).symm,rfl,rfl,rfl⟩
      case wb=>exact qs
    |3,_=>
     have w3:IntKind.i64.wrap (2*q.1+((3:Nat):Int))=2*q.1+((3:Nat):Int):=qm oM oM;have w4:IntKind.i64.wrap (3*q.2+((2:Nat):Int))=3*q.2+((2:Nat):Int):=qm oM oM;refine qa ?_;intros;refine yE (j:=1) (q:=[.c (.int .u8 v)]) rfl rfl qr qr rfl ?_;refine qa ?_;intros;refine qd rfl (fun hb=>?_) (fun hb=>?_)
     ·have hb:wJ v 11=true:=hb;refine qa ?_;intros;refine qZ (m:=1) (q:=qB (xY q 11)) rfl rfl rfl (qD _ hfl) ⟨rfl,rfl,_,rfl,by rw [w1,w2,w3,w4];rfl⟩ (by omega) (by omega) (by decide) rfl ?_;rw [show out.flatMap qB++qB (xY q 11)=(out++[xY q 11]).flatMap qB by simp,show out.length+1=(out++[xY q 11]).length by simp];refine qa ?_;intros;refine⟨m2-1,by omega,_,_,_,[(1,3)],?wa,4,out++[xY q 11],by omega,by rw [ho];exact (vQ hb).symm,rfl,rfl,rfl⟩
      case wa=>exact qs
     ·have hb:wJ v 11=false:=hb;refine qa ?_;intros;refine⟨m2-1,by omega,_,_,_,[],?wb,4,out,by omega,by rw [ho];exact (vR hb).symm,rfl,rfl,rfl⟩
      case wb=>exact qs
    |c+4,h=>omega
   ·have ht2:c=4:=by have:=zK ht2;omega
    subst ht2;refine qa ?_;intros;refine⟨m-1,oM,_,_,_,[],?wc,3,out,oM,ho,rfl,rfl,rfl⟩
    case wc=>exact qs
  |r+3,h=>omega
 ·have ht:r=3:=by have:=zK ht;omega
  subst ht;have hfl:=zu out;refine qa ?_;intros;refine qx (qg (k:=4) rfl (qv _)) (qg (k:=1) rfl (qv _)) ?_;refine qF 1 rfl qo qo ?_;refine qb ⟨_,rfl,rfl,?_⟩;rw [show Ye v q 12=out from ho.symm];rfl
theorem WV{i:Nat}{q:qj}(hq:xf 1000000 q):Zl (kV i q):=fun x hx=>by
 unfold kV Ye at hx;obtain⟨k,hk,rfl⟩:=j6.1 hx;have:=jF.1 (nM.1 hk).1;unfold xf at *;simp only [xY];omega
theorem WW(i:Nat)(q:qj):(kV i q).length<=12:=aB _ _ _
def gE(p:Pic)(q:qj):Bool:=((decide (0<=q.1)&&decide (0<=q.2))&&(decide (q.1<=60)&&decide (q.2<=60)))&&(decide (2*(q.1+2)<=p.w)&&decide (3*(q.2+1)<=p.h))
def AA(g:Int)(d l:List qj):Bool:=!decide (yd d l<=g)
def W3(p:Pic)(i:Nat)(q:qj):Bool:=gE p q&&((zQ p).all (AA p.gap (kV i q))&&decide (yd (kV i q) (((zQ p)[i]?).getD [])<=3*p.gap))
theorem Ox{p:Pic}{i:Nat}{q:qj}(hv:xQ p=true)(hi:i<p.fs.length)(hq:xf 1000000 q):DK 162 [Qa p,.int i,wd q] fun d=>d=.bool (W3 p i q):=by
 refine vL fun Z0 lo=>?_;have hl8:=(zZ hv).1;have hgap:2<=p.gap/\p.gap<=6:=by
  have:=(zZ hv).2.2.2;simp only [Jb,x8,yA] at this;exact this.1
 have hds:=WV (i:=i) hq;have hdl:=WW i q;have hsm:=XQ hv;have hpl:(zQ p).length=p.fs.length:=by simp [zQ]
 have hrp:=ZH (QG hv) oM;have hlp:=ZI (i:=i) (q:=q) oM hq;unfold xf at hq;have w1:IntKind.i64.wrap (q.1+2)=q.1+2:=qm oM oM;have w2:IntKind.i64.wrap (2*(q.1+2))=2*(q.1+2):=qm oM oM;have w3:IntKind.i64.wrap (q.2+1)=q.2+1:=qm oM oM;have w4:IntKind.i64.wrap (3*(q.2+1))=3*(q.2+1):=qm oM oM;have w5:IntKind.i64.wrap (3*p.gap)=3*p.gap:=qm oM oM;refine qa ?_;intros;refine qd rfl (fun ht=>?_) (fun ht=>?_)
 ·rw [yc,yc,yc,yc,yc,w1,w2,w3,w4] at ht;simp only [JL,yA] at ht;have hb:gE p q=false:=by
   rw [Bool.eq_false_iff];intro h2;simp only [gE,x8,yA] at h2;omega
  refine qa ?_;intros;refine qb ⟨_,rfl,rfl,?_⟩;rw [W3,hb,Bool.false_and]
 ·rw [yc,yc,yc,yc,yc,w1,w2,w3,w4] at ht;simp only [Ce,decide_eq_false_iff_not] at ht;have hb:gE p q=true:=by
   simp only [gE,x8,yA];omega
  have hfit:W3 p i q=((zQ p).all (AA p.gap (kV i q))&&decide (yd (kV i q) (((zQ p)[i]?).getD [])<=3*p.gap)):=by rw [W3,hb,DT]
  rw [hfit];clear hfit ht;generalize zQ p=l at *;refine qa ?_;intros;refine qf rfl rfl hrp ?_;rintro _ rfl;refine qf rfl rfl hlp ?_;rintro _ rfl;generalize kV i q=dd at *;refine qa ?_;intros;refine qu (fun m E S nk=>∃k:Nat,k+m=l.length/\(∀(j:Nat) a,j<k->l[j]?=some a->AA p.gap dd a=true)/\E=[(1,.int i),(3,.one (.ptr 0 0)),(5,.one (.ptr 1 0)),(7,XP l),(8,xt dd),(9,.int k)]/\S=[(0,.cells (WP p)),(1,.cells [.f (.c (.int .i64 q.1)),.f (.c (.int .i64 q.2))])]/\nk=2)
   ⟨l.length,_,_,_,[],?wk,0,oM,fun j a hj=>oM,rfl,rfl,rfl⟩ ?_
  case wk=>exact qs
  rintro m E S nk ⟨k,hk,hok,rfl,rfl,rfl⟩;refine qa ?_;intros;refine qd rfl (fun hk2=>?_) (fun hk2=>?_)
  ·have hk2:k<l.length:=by have:=xo hk2;omega
   obtain⟨a,ha⟩:∃r,l[k]?=some r:=⟨_,zge hk2⟩;have e1:=JT ha;have hsa:=hsm a (zmg ha);refine qa ?_;intros;refine x6 rfl rfl (vM hds (ZY hsa.1) oM oM) ?_;intros;refine qd rfl (fun hd=>?_) (fun hd=>?_)
   ·refine qa ?_;intros;refine qb ⟨_,rfl,rfl,?_⟩;rw [XM ha (by rw [AA,hd];rfl),Bool.false_and]
   ·refine qa ?_;intros;refine⟨m-1,oM,_,_,_,[],?wk1,k+1,oM,?hno,rfl,rfl,rfl⟩
    case hno=>
     intro j b hj hb;by_cases hjk:j=k
     ·subst hjk;rw [ha] at hb;rw [<-zsi hb,AA,hd];rfl
     ·exact hok j b oM hb
    case wk1=>exact qs
  ·have hk2:k=l.length:=by have:=zK hk2;omega
   subst hk2;obtain⟨a,ha⟩:∃r,l[i]?=some r:=⟨_,zge oM⟩;have e1:=JT ha;have hsa:=hsm a (zmg ha);rw [d9 hok,DT,ha];refine qa ?_;intros;rw [w5];refine qf rfl rfl (vM hds (ZY hsa.1) oM oM) ?_;rintro _ rfl;exact QK
def B4(g:Int)(i:Nat)(a:qj)(k:Nat)(b:qj):Bool:=decide (yd (kV i a) (kV k b)<=g)
def Xr(p:Pic)(i y n:Nat):List qj:=((List.range n).map fun x=>(((x:Nat):Int),((y:Nat):Int))).filter (W3 p i)
def Jm(p:Pic)(i w n:Nat):List qj:=(List.range n).flatMap fun y=>Xr p i y w
def vV(p:Pic)(i:Nat):List qj:=Jm p i ((p.w/2).toNat-1) (p.h/3).toNat
theorem Mf{p:Pic}{i y n:Nat}(h:W3 p i ((n:Int),(y:Int))=true):Xr p i y (n+1)=Xr p i y n++[((n:Int),(y:Int))]:=by
 simp [Xr,XY,h]
theorem Mg{p:Pic}{i y n:Nat}(h:W3 p i ((n:Int),(y:Int))=false):Xr p i y (n+1)=Xr p i y n:=by
 simp [Xr,XY,h]
theorem lA{p:Pic}{i w n:Nat}:Jm p i w (n+1)=Jm p i w n++Xr p i n w:=by
 simp [Jm,XY]
theorem tM(p:Pic)(i y n:Nat):(Xr p i y n).length<=n:=by
 unfold Xr;exact aZ (nR _ _) sM
theorem VQ(p:Pic)(i w:Nat):∀n,(Jm p i w n).length<=n*w
 |0=>by simp [Jm]
 |n+1=>by
  have h1:=VQ p i w n;have h2:=tM p i n w;rw [lA,qE,wW];omega
theorem Hq{p:Pic}{i:Nat}(hv:xQ p=true)(hi:i<p.fs.length):DK 133 [Qa p,.int i] fun d=>d=xt (vV p i):=by
 refine vL fun Z0 lo=>?_;have hh:=(zZ hv).2.2.1;simp only [QR,x8,yA] at hh;obtain⟨⟨⟨hw1,hw2⟩,hw3⟩,⟨hh1,hh2⟩,hh3⟩:=hh;rw [nK (by omega)] at hw3 hh3;obtain⟨nw,hnw⟩:∃nw:Nat,nw=(p.w/2).toNat-1:=⟨_,rfl⟩;obtain⟨nh,hnh⟩:∃nh:Nat,nh=(p.h/3).toNat:=⟨_,rfl⟩;have hw4:p.w=2*((nw:Int)+1):=oM;have hh4:p.h=3*(nh:Int):=oM;have hnw2:nw<30:=oM;have hnh2:nh<=20:=oM;refine qa ?_;intros;refine qu (fun m E S nk=>∃(y:Nat) (out:List qj),y+m=nh/\out=Jm p i nw y/\E=[(1,.int i),(2,.one (.ptr 0 0)),(5,.one (.own 1 0 out.length 2)),(6,.int y)]/\S=[(0,.cells (WP p)),(1,.data (out.flatMap qB))]/\nk=2)
  ⟨nh,_,_,_,[],?wk,0,[],oM,rfl,rfl,rfl,rfl⟩ ?_
 case wk=>exact qs
 rintro m E S nk ⟨y,out,hy,ho,rfl,rfl,rfl⟩;have w1:IntKind.i64.wrap ((y:Int)+1)=(y:Int)+1:=qm oM oM;have w2:IntKind.i64.wrap (3*((y:Int)+1))=3*((y:Int)+1):=qm oM oM;refine qa ?_;intros;refine qd rfl (fun ht=>?_) (fun ht=>?_)
 ·have ht:=xo ht;rw [w1,w2] at ht;have hy2:y<nh:=oM;have hcl:=VQ p i nw y;have hcm:y*nw<=20*30:=DS oM oM;refine qa ?_;intros;refine qu (fun m E S nk=>∃(x:Nat) (o2:List qj),x+m=nw/\o2=out++Xr p i y x/\E=[(1,.int i),(2,.one (.ptr 0 0)),(5,.one (.own 1 0 o2.length 2)),(6,.int y),(7,.int x)]/\S=[(0,.cells (WP p)),(1,.data (o2.flatMap qB))]/\nk=2)
   ⟨nw,_,_,_,[],?wk2,0,out,by omega,by simp [Xr],rfl,rfl,rfl⟩ ?_
  case wk2=>exact qs
  rintro m2 E S nk ⟨x,o2,hx,ho2,rfl,rfl,rfl⟩;have w3:IntKind.i64.wrap ((x:Int)+2)=(x:Int)+2:=qm oM oM;have w4:IntKind.i64.wrap (2*((x:Int)+2))=2*((x:Int)+2):=qm oM oM;have hrl:=tM p i y x;have hol:o2.length<=1000:=by rw [ho2,qE,ho];omega
  have hfl:=zu o2;refine qa ?_;intros;refine qd rfl (fun ht2=>?_) (fun ht2=>?_)
  ·have ht2:=xo ht2;rw [w3,w4] at ht2;have hx2:x<nw:=oM;refine qa ?_;intros;refine x6 rfl rfl (Ox (i:=i) (q:=((x:Int),(y:Int))) hv hi (by unfold xf;simp only;omega)) ?_;intros;refine qd rfl (fun hf=>?_) (fun hf=>?_)
   ·refine qa ?_;intros;refine qZ (m:=1) (q:=qB ((x:Int),(y:Int))) rfl rfl rfl (qD _ hfl) ⟨rfl,rfl,_,rfl,rfl⟩ oM oM qr rfl ?_;rw [show o2.flatMap qB++qB ((x:Int),(y:Int))=(o2++[((x:Int),(y:Int))]).flatMap qB by simp,show o2.length+1=(o2++[((x:Int),(y:Int))]).length by simp];refine qa ?_;intros;refine⟨m2-1,by omega,_,_,_,[(1,4)],?wk3,x+1,o2++[((x:Int),(y:Int))],by omega,by rw [Mf hf,ho2,j5],rfl,rfl,rfl⟩
    case wk3=>exact qs
   ·refine qa ?_;intros;refine⟨m2-1,by omega,_,_,_,[],?wk4,x+1,o2,by omega,by rw [Mg hf,ho2],rfl,rfl,rfl⟩
    case wk4=>exact qs
  ·have ht2:=zK ht2;rw [w3,w4] at ht2;have hx2:x=nw:=oM;subst hx2;refine qa ?_;intros;refine⟨m-1,by omega,_,_,_,[],?wk5,y+1,o2,by omega,by rw [lA,ho2,ho],rfl,rfl,rfl⟩
   case wk5=>exact qs
 ·have ht:=zK ht;rw [w1,w2] at ht;have hy2:y=nh:=oM;subst hy2;have hfl:=zu out;refine qa ?_;intros;refine qx (qg (k:=4) rfl (qv _)) (qg (k:=1) rfl (qv _)) ?_;refine qF 1 rfl qo qo ?_;refine qb ⟨_,rfl,rfl,?_⟩;rw [vV,<-hnw,<-hnh,<-ho];rfl
end Go.Ai
namespace Go.Ai
open Go.Ab
def hd(c:List qj):qj:=c.headD (0,0)
end Go.Ai
namespace Go.Ai
open Go.Ab Go.Proofs
def cJ(p:Pic):List FD:=[.c (.int .i64 p.w),.c (.int .i64 p.h),.c (.int .i64 p.gap),.sl 3 p.fs.length (p.fs.flatMap ZA)]
def G6(l:List qj):FD:=.sl 2 l.length (l.flatMap qB)
theorem SL{all:List (List qj)}{i:Nat}{l:List qj}(h:all[i]?=some l):xd (all.map G6) (i*1) 1=some [G6 l]:=by
 have:=zp (f:=fun l:List qj=>[G6 l]) (e:=1) (fun _=>rfl) h;rw [<-List.map_eq_flatMap] at this;exact this
def ZF(g:Int)(l:List qj)(c:qj)(k:Nat):Bool:=(List.range k).all fun j=>!B4 g l.length c j (zI l j)
theorem H5{g:Int}{l:List qj}{c b:qj}{k:Nat}(h:l[k]?=some b):ZF g l c (k+1)=(ZF g l c k&&!B4 g l.length c k b):=by
 unfold ZF;rw [XY,List.all_append,List.all_cons,List.all_nil,Bool.and_true,wT h]
def KP(f:qj->List qj)(N:Nat):List qj->List qj
 |[]=>[]
 |c::cs=>if (f c).length=N then f c else KP f N cs
def QH(g:Int)(all:List (List qj)):Nat->List qj->List qj
 |0,l=>l
 |n+1,l=>KP (fun c=>if ZF g l c l.length=true then QH g all n (l++[c]) else []) all.length ((all[l.length]?).getD [])
theorem Gp{p:Par}{base rs:Nat}{Q:qk->Bx->Nat->Prop}{r:List SOper}{W:Wt}{A:List Nat}{E:qk}{S:Bx}{nk:Nat}{t:Nat}(e:Nat){x y:DC}(ht:lk E t=some (.agg [.f (.c .nils),x,y]))(h:DPW p base rs Q r W A ((t,.agg [.f (.sl e 0 []),x,y])::E) S nk):DPW p base rs Q r W A E S nk:=.mk fun Z β H F c QP hS hE hC hA=>by
 refine h.run Z β H F c QP hS (fun k d hd=>?_) hC hA;rw [qw] at hd;split at hd
 ·rename_i e;subst e;obtain rfl:=zsi hd;obtain⟨v,hv,cs,rfl,hr⟩:=hE _ _ ht
  match cs,hr with
  |[c1,c2,c3],⟨h1,h2,h3,_⟩=>
   have h1:RF Z H (.c .nils) c1:=h1;cases h1;exact⟨_,hv,_,rfl,RF.nil _,h2,h3,trivial⟩
 ·exact hE k d hd
def vg(p:Pic)(i:Nat):List (List qj):=(List.range i).map (vV p)
def KC(p:Pic)(i:Nat):List qj:=QH p.gap (vg p (i+1)) (i+1) []
abbrev Rb:=List qj × Int × Int
def Ud(r:Rb):DV:=.agg [.f (.sl 2 r.1.length (r.1.flatMap qB)),.f (.c (.int .i64 r.2.1)),.f (.c (.int .i64 r.2.2))]
inductive PlcR (p:Pic):Rb->Prop
 |bad (i:Nat) (hi:i<p.fs.length) (hb:(KC p i).length<=i) (hok:∀j,j<i->¬(KC p j).length<=j):PlcR p ([],(i:Int),150)
 |ok (hok:∀j,j<p.fs.length->¬(KC p j).length<=j):PlcR p (KC p (p.fs.length-1),((KC p (p.fs.length-1)).length:Int),0)
theorem bU{p:Pic}(hv:xQ p=true)(i:Nat):(∀q∈vV p i,xf 1000000 q)/\(vV p i).length<1000000:=by
 have hh:=(zZ hv).2.2.1;simp only [QR,x8,yA] at hh;have h1:(p.w/2).toNat-1<=30:=oM;have h2:(p.h/3).toNat<=20:=oM;refine⟨fun q hq=>?_,?_⟩
 ·unfold vV Jm at hq;obtain⟨y,hy,hq⟩:=nN.1 hq;unfold Xr at hq;obtain⟨x,hx,rfl⟩:=j6.1 (nM.1 hq).1;have:=jF.1 hx;have:=jF.1 hy;unfold xf;simp only;omega
 ·have h3:=VQ p i ((p.w/2).toNat-1) (p.h/3).toNat;have h4:(p.h/3).toNat*((p.w/2).toNat-1)<=20*30:=DS h2 h1;unfold vV;omega
abbrev Ca(f:FuncId)(a:Nat)(ds:List DV)(S:Bx)(nk:Nat)(R:DV->Bx->Nat->Prop):Prop:=∀Z0 lo anc β0 H1,anc<=a->Rd (parK Z0 lo anc β0 H1) a f ds S nk R
theorem FC {f:FuncId} {a:Nat} {sf:SFn} (hf:yr Tryz.prog GN f=some sf) {ds:List DV} {S:Bx} {nk:Nat} {R:DV->Bx->Nat->Prop} (hn:Nat.ble ds.length sf.n=true) (hank:a<=nk)
 (h:∀Z β H lo,DPS (parK Z lo a β H) sf.n sf.code (cG (parK Z lo a β H) sf.res R) (jC ds 0) S nk):Ca f a ds S nk R:=fun Z0 lo anc β0 H1 ha=>Nu (p:=parK Z0 lo anc β0 H1) hf hn ha hank fun Z β H=>h Z β H lo
def WK(a b c:FD):Bk:=.cells [.f a,.f b,.f c]
theorem SY{cs:List (List qj)}{i:Nat}{x:List qj}(h:cs[i]?=some x):xd (cs.map zV) ((i:Int).toNat) 1=some [zV x]:=by
 have:=SL h;rw [X2] at this;exact this
theorem nV{p:Pic}{all:List (List qj)}{fa fb fc:FD}(ha8:1<=all.length/\all.length<=8)(hs:∀c∈all,(∀q∈c,xf 1000000 q)/\c.length<1000000):∀(n:Nat) {l:List qj},l.length+n=all.length->(∀q∈l,xf 1000000 q)->
 Ca 134 2 [Qa p,xt l,.one (.own 0 0 all.length 1)] [(0,.data (all.map zV)),(1,WK fa fb fc)] 2 fun d S' _=>d=xt (QH p.gap all n l)/\S'=[(0,.data (all.map zV)),(1,WK fa fb fc)]
 |0,l,hl,hsl=>by
  refine FC (pC 134).2 rfl oM fun Z β H lo=>?_;have b1:((l.length:Int)==(all.length:Int))=true:=by rw [<-hl];simp
  refine zh ?_;intros;refine qd rfl (fun _=>?_) (fun h=>by cases h);refine zh ?_;intros;exact qb ⟨_,rfl,rfl,_,qg rfl (qg rfl (qv _)),rfl,rfl⟩
 |n+1,l,hl,hsl=>by
  have ih:=fun c (hc:xf 1000000 c)=>nV (p:=p) (fa:=fa) (fb:=fb) (fc:=fc) ha8 hs n (l:=l++[c]) (by rw [qE,List.length_singleton];omega) (fun q hq=>by
   rcases xu.1 hq with hq|hq
   ·exact hsl q hq
   ·rw [xM] at hq;rw [hq];exact hc)
  refine FC (pC 134).2 rfl oM fun Z β H lo=>?_;have b1:((l.length:Int)==(all.length:Int))=false:=by
   have:¬(l.length:Int)=all.length:=oM;simpa using this
  obtain⟨C,hC⟩:∃r,all[l.length]?=some r:=⟨_,zge oM⟩;have hCs:=hs C (zmg hC);have e0:=SY hC;have hlen:all[l.length]?.getD []=C:=by rw [hC];rfl
  have hlf:=zu l;rw [QH,hlen];generalize hf:(fun c=>if ZF p.gap l c l.length=true then QH p.gap all n (l++[c]) else [])=f
  refine yn ?_;refine yv vB (fun base=>?_);refine Qf rfl ?_;refine zi rfl ?_;refine jd ?_;refine FM 2 (fs:=cJ p) rfl ?_;refine zh ?_;intros;refine qd rfl (fun h=>by cases h) (fun _=>?_);clear b1;refine qa ?_;intros;refine qu (fun m E S nk=>∃j:Nat,j+m=C.length/\KP f all.length C=KP f all.length (C.drop j)/\E=[(1,xt l),(2,.one (.own 0 0 all.length 1)),(3,.one (.fptr (cJ p))),(7,.int l.length),(8,.int j)]/\S=[(0,.data (all.map zV)),(1,WK fa fb fc)]/\nk=2)
   ⟨C.length,_,_,_,[],?wk,0,oM,rfl,rfl,rfl,rfl⟩ ?_
  case wk=>exact⟨Xb,⟨rfl,rfl,rfl,rfl,rfl,rfl,trivial⟩,rfl,rfl⟩
  rintro m E S nk ⟨j,hj,htr,rfl,rfl,rfl⟩;refine qa ?_;intros;refine qd rfl (fun hj2=>?_) (fun hj2=>?_)
  ·have hj2:j<C.length:=by have:=xo hj2;omega
   obtain⟨c,hc⟩:∃r,C[j]?=some r:=⟨_,zge hj2⟩;have e1:=jQ hc;have hcs:=hCs.1 c (zmg hc);have hdr:C.drop j=c::C.drop (j+1):=by
    rw [kr hj2];rw [(zgs hc).2]
   rw [hdr,KP] at htr;have n1:=WW l.length c;refine qa ?_;intros;refine qu (fun m E S nk=>∃(k:Nat) (w:Bool),k+m=l.length/\w=ZF p.gap l c k/\E=[(1,xt l),(2,.one (.own 0 0 all.length 1)),(3,.one (.fptr (cJ p))),(7,.int l.length),(8,.int j),(9,.bool w),(10,.int k)]/\S=[(0,.data (all.map zV)),(1,WK fa fb fc)]/\nk=2)
    ⟨l.length,_,_,_,[],?wk2,0,true,oM,rfl,rfl,rfl,rfl⟩ ?_
   case wk2=>exact⟨Xb,⟨rfl,rfl,rfl,rfl,rfl,rfl,trivial⟩,rfl,rfl⟩
   rintro m2 E S nk ⟨k,w,hk,hw,rfl,rfl,rfl⟩;refine qa ?_;intros;refine qd rfl (fun hk2=>?_) (fun hk2=>?_)
   ·have hk2:k<l.length:=by have:=xo hk2;omega
    obtain⟨b,hb⟩:∃r,l[k]?=some r:=⟨_,zge hk2⟩;have e2:=jQ hb;have hbs:=hsl b (zmg hb);have n2:=WW k b;have hfs:=H5 (g:=p.gap) (c:=c) hb;rw [<-hw] at hfs;clear hw;cases w with
    |false=>
     refine qa ?_;intros;refine⟨m2-1,oM,_,_,_,[],?wk3,k+1,false,oM,hfs.symm,rfl,rfl,rfl⟩
     case wk3=>exact⟨Xb,⟨rfl,rfl,rfl,rfl,rfl,rfl,trivial⟩,rfl,rfl⟩
    |true=>
     refine qa ?_;intros;refine x6 rfl rfl (ZI (i:=l.length) (q:=c) oM hcs) ?_;intros;refine x6 rfl rfl (ZI (i:=k) (q:=b) oM hbs) ?_;intros;refine qf rfl rfl (vM (WV hcs) (WV hbs) oM oM) ?_;rintro _ rfl;have b2:decide (yd (kV l.length c) (kV k b)>p.gap)=ZF p.gap l c (k+1):=by
      rw [hfs,DT,B4];by_cases h:yd (kV l.length c) (kV k b)<=p.gap
      ·rw [decide_eq_true h,decide_eq_false (by omega)];rfl
      ·rw [decide_eq_false h,decide_eq_true (by omega)];rfl
     clear hfs;refine zh ?_;intros;refine⟨m2-1,oM,_,_,_,[],?wk4,k+1,_,oM,rfl,rfl,rfl,rfl⟩
     case wk4=>exact⟨Xb,⟨rfl,rfl,rfl,rfl,rfl,rfl,trivial⟩,rfl,rfl⟩
   ·have hk2:k=l.length:=by have:=zK hk2;omega
    subst hk2;have hfc:f c=if w=true then QH p.gap all n (l++[c]) else []:=by rw [<-hf,hw]
    clear hw;cases w with
    |false=>
     refine qa ?_;intros;refine qd rfl (fun _=>?_) (fun h=>by cases h);refine qa ?_;intros;refine⟨m-1,by omega,_,_,_,[],?wk5,j+1,by omega,by rw [htr,if_neg (by rw [hfc];simp;omega)],rfl,rfl,rfl⟩
     case wk5=>exact⟨Xb,⟨rfl,rfl,rfl,rfl,rfl,rfl,trivial⟩,rfl,rfl⟩
    |true=>
     rw [if_pos rfl] at hfc;refine qa ?_;intros;refine qd rfl (fun h=>by cases h) (fun _=>?_);refine qa ?_;intros;refine qZ (m:=l.length) (q:=l.flatMap qB) (l':=[]) rfl rfl rfl rfl ⟨rfl,rfl,rfl⟩ oM oM qr rfl ?_;refine qa ?_;intros;refine qZ (m:=1) (q:=qB c) rfl rfl rfl (qD _ (by rw [Kv,hlf,ym])) ⟨rfl,rfl,_,rfl,rfl⟩ (by omega) (by omega) (by decide) rfl ?_;have hf4:([]++l.flatMap qB++qB c).length=(0+l.length+1)*2:=by
      rw [Kv,qE,hlf,show (qB c).length=2 from rfl];omega
     have h4:DV.one (.f (.sl 2 (0+l.length+1) ([]++l.flatMap qB++qB c)))=xt (l++[c]):=by
      rw [xt,Kv,ym];simp
     refine qY 5 rfl qo qo ?_;refine O8 (E0:=[(1,xt l),(2,.one (.own 0 0 all.length 1)),(3,.one (.fptr (cJ p))),(7,.int l.length),(8,.int j),(61,Qa p),(71,xt (l++[c])),(72,.one (.own 0 0 all.length 1))]) (S0:=[(0,.data (all.map zV)),(1,WK fa fb fc)]) (n0:=2) (a:=2) [] ⟨⟨rfl,rfl,rfl,rfl,rfl,rfl,rfl,rfl,rfl,rfl,rfl,rfl,congrArg some h4,rfl,rfl,rfl,trivial⟩,⟨rfl,rfl,rfl,rfl,rfl,rfl,trivial⟩,rfl,rfl⟩ rfl rfl rfl ⟨Xb,trivial,rfl,rfl⟩ (ih c hcs _ _ _ _ _ (qz _)) ?_;rintro _ S' nk' ⟨rfl,rfl⟩;rw [<-hfc];refine qa ?_;intros;refine qd rfl (fun hb=>?_) (fun hb=>?_)
     ·have hb:(f c).length=all.length:=by
       have h:((f c).length:Int)=all.length:=by simpa using hb
       omega
      refine qa ?_;intros;refine qb ⟨_,rfl,rfl,_,qg rfl (qg rfl (qv _)),?_,rfl⟩;rw [htr,if_pos hb];rfl
     ·have hb:¬(f c).length=all.length:=fun h=>by
       rw [h] at hb;simp at hb
      refine qa ?_;intros;refine⟨m-1,by omega,_,_,_,[],?wk6,j+1,by omega,by rw [htr,if_neg hb],rfl,rfl,rfl⟩
      case wk6=>exact⟨Xb,⟨rfl,rfl,rfl,rfl,rfl,rfl,trivial⟩,rfl,rfl⟩
  ·have hj2:j=C.length:=by have:=zK hj2;omega
   subst hj2;rw [List.drop_length] at htr;rw [htr];refine qa ?_;intros;refine PC 6 2 rfl ?_;exact qb ⟨_,rfl,rfl,_,qg rfl (qg rfl (qv _)),rfl,rfl⟩
theorem GS{p:Pic}{all:List (List qj)}{fa fb fc:FD}(ha8:1<=all.length/\all.length<=8)(hs:∀c∈all,(∀q∈c,xf 1000000 q)/\c.length<1000000):
 Ca 134 2 [Qa p,.one (.f (.c .nils)),.one (.own 0 0 all.length 1)] [(0,.data (all.map zV)),(1,WK fa fb fc)] 2 fun d S' _=>d=xt (QH p.gap all all.length [])/\S'=[(0,.data (all.map zV)),(1,WK fa fb fc)]:=fun Z0 lo anc β0 H1 ha Z β H args hS hag=>by
 refine nV (p:=p) (fa:=fa) (fb:=fb) (fc:=fc) ha8 hs all.length (l:=[]) sM (fun q hq=>by cases hq) Z0 lo anc β0 H1 ha Z β H args hS ?_
 match args,hag with
 |[v1,v2,v3],⟨h1,⟨c,hv,hc⟩,h3⟩=>
  refine⟨h1,⟨c,hv,?_⟩,h3⟩;cases hc;exact (RF.nil 2:RF Z H (.sl 2 0 []) .nils)
theorem VX(p:Pic)(i:Nat):vg p (i+1)=vg p i++[vV p i]:=by simp [vg,XY]
theorem d8(p:Pic)(i:Nat):(vg p i).length=i:=by simp [vg]
def Dv(p:Pic):Nat->List qj
 |0=>[]
 |i+1=>KC p i
theorem BJ{p:Pic}(hv:xQ p=true):DK 86 [Qa p] fun d=>∃r,PlcR p r/\d=Ud r:=by
 refine vL fun Z0 lo=>?_;have hl8:=(zZ hv).1;refine yn ?_;refine yv vB (fun base=>?_);refine Qf rfl ?_;refine Qf rfl ?_;refine jd ?_;refine FM 0 (fs:=cJ p) rfl ?_;refine qa ?_;intros;refine qF 3 rfl qo qo ?_;refine qu (fun m E S nk=>∃i:Nat,i+m=p.fs.length/\(∀j,j<i->¬(KC p j).length<=j)/\E=[(1,.one (.fptr (cJ p))),(2,.one (.ptr 1 0)),(3,.one (.own 0 0 i 1)),(4,xt (Dv p i)),(5,.int i)]/\S=[(0,.data ((vg p i).map zV)),(1,WK (.c .nils) (.c (.int .i64 0)) (.c (.int .i64 0)))]/\nk=2)
  ⟨p.fs.length,_,_,_,[(0,2)],?wk,0,oM,fun j hj=>oM,rfl,rfl,rfl⟩ ?_
 case wk=>exact⟨Xb,⟨rfl,rfl,rfl,rfl,rfl,rfl,trivial⟩,rfl,rfl⟩
 rintro m E S nk ⟨i,hi,hok,rfl,rfl,rfl⟩;refine qa ?_;intros;refine qd rfl (fun hi2=>?_) (fun hi2=>?_)
 ·have hi2:i<p.fs.length:=by have:=xo hi2;omega
  have hal:=d8 p i;have hml:((vg p i).map zV).length=i*1:=by rw [xX];omega
  have hsr:=GS (p:=p) (all:=vg p (i+1)) (fa:=.c .nils) (fb:=.c (.int .i64 0)) (fc:=.c (.int .i64 0)) (by rw [d8];omega) (fun c hc=>by
   obtain⟨k,hk,rfl⟩:=j6.1 hc;exact bU hv k)
  rw [d8,VX,JM] at hsr;have hst:QH p.gap (vg p i++[vV p i]) (i+1) []=KC p i:=by rw [KC,VX]
  rw [hst] at hsr;refine qa ?_;intros;refine x6 rfl rfl (Hq hv hi2) ?_;intros;refine qZ (m:=1) (q:=[zV (vV p i)]) rfl rfl rfl (qD _ hml) ⟨rfl,rfl,_,rfl,rfl⟩ oM oM qr rfl ?_;refine qa ?_;intros;have hmm:(vg p i).map zV++[vV p i].map zV=(vg p (i+1)).map zV:=by rw [VX,JM]
  refine O8 (E0:=[(1,.one (.fptr (cJ p))),(2,.one (.ptr 1 0)),(3,.one (.own 0 0 (i+1) 1)),(5,.int i),(22,Qa p),(23,.one (.own 0 0 (i+1) 1))]) (S0:=[(0,.data ((vg p i).map zV++[vV p i].map zV)),(1,WK (.c .nils) (.c (.int .i64 0)) (.c (.int .i64 0)))]) (n0:=2) (a:=2) [(0,3)] ⟨Xb,⟨rfl,rfl,rfl,rfl,rfl,rfl,trivial⟩,rfl,rfl⟩ rfl rfl rfl ⟨Xb,trivial,rfl,rfl⟩ (hsr _ _ _ _ _ (Xa _)) ?_;rintro _ S' nk' ⟨rfl,rfl⟩;refine qa ?_;intros;refine qd rfl (fun hb=>?_) (fun hb=>?_)
  ·have hb:=xo hb;refine yn ?_;refine yv vB (fun base=>?_);refine zi rfl ?_;refine zi rfl ?_;refine Gp (t:=30) 2 rfl ?_;refine qa ?_;intros;exact qb ⟨_,rfl,rfl,([],(i:Int),150),.bad i hi2 oM hok,rfl⟩
  ·have hb:=zK hb;refine qa ?_;intros;refine⟨m-1,oM,_,_,_,[],?wk2,i+1,oM,fun j hj=>?_,rfl,rfl,rfl⟩
   case wk2=>exact⟨Xb,⟨congrArg (fun z=>some (Bk.data z)) hmm,rfl,rfl,rfl,rfl,rfl,trivial⟩,rfl,rfl⟩
   by_cases hji:j=i
   ·subst hji;omega
   ·exact hok j oM
 ·have hi2:i=p.fs.length:=by have:=zK hi2;omega
  subst hi2;have hbest:Dv p p.fs.length=KC p (p.fs.length-1):=by
   obtain⟨k,hk⟩:∃k,p.fs.length=k+1:=⟨p.fs.length-1,oM⟩;rw [hk];rfl
  rw [hbest];refine qa ?_;intros;exact qb ⟨_,rfl,rfl,_,.ok hok,rfl⟩
end Go.Ai
