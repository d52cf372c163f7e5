/- -/
import Derived.Test.YtdlelodnhjacgaaGreatDoorAb38
set_option linter.unusedSimpArgs false
set_option linter.unusedVariables false
set_option maxRecDepth 8000
set_option maxHeartbeats 16000000
namespace Go.Ai
open Go.Ab Go.Proofs
abbrev QI(v:VolL)(w ink:Nat):List DC:=[.f (.c (.int .i64 v.first)),.f (.c (.int .i64 v.stop)),.f (.sl 5 v.rows.length (v.rows.flatMap zr)),.f (.sl 1 v.ends.length (v.ends.flatMap yL)),.f (.sl 2 v.labs.length (v.labs.flatMap uP)),.f (FD.int w),.f (FD.int ink)]
theorem U0{v:VolL}{w h ink i:Nat}(hv:VolOk w h v)(hw:24<=w/\w<=60)(hh:4<=h/\h<=40)(hi:ink<=9999)(hil:i<100000):DK 97 [.agg (QI v w ink),.int i] fun d=>∃p:qV,d=qW p/\PgOk w h p/\(i<v.ends.length->∃ink part:Nat,p.head?=some (zy w (i/2+1) 0 (((i % 2:Nat):Int)==1) ink part)/\ink<=9999/\part<=26/\(ink=0->part=0))/\(v.ends.length<=i->p=[]):=by
 have hrl:=hv.rl;have hel:=hv.el;have hll:=hv.ll;refine wj ?_;refine xr ?_;intros;refine qh O (fun g=>?_) (fun g=>?_)
 ·refine qc ?_;intros;exact qb ⟨_,O,O,qW [],nv,[],O,.nil,fun h=>absurd h oM,fun _=>O⟩
 have hlab:=hv.lab (i/2) oM;obtain⟨he1,he2,he3,he4⟩:=hv.ends i oM;have hfp:=uY hv.ends i oM;obtain⟨f0,hf0⟩:∃f0:Nat,(f0:Int)=jZ v.ends i:=⟨(jZ v.ends i).toNat,oM⟩;obtain⟨e,hee⟩:∃e:Nat,(e:Int)=v.ends.getD i default:=⟨(v.ends.getD i default).toNat,oM⟩;refine qc ?_;intros;refine qf O O (UZ (l:=v.rows) (q:=v.ends) (w:=w) (i:=i) oM oM oM hv.rows) ?_;rintro _ ⟨ik,pt,rfl,hik,hpt⟩;refine qc ?_;intros;refine qX O (fun g1=>?_) (fun g1=>?_)
 ·refine qc ?_;intros;rw [show (min (26:Int) ((i:Int)+1))=((min 26 (i+1):Nat):Int) by omega];refine qc ?_;intros;refine qX O (fun g2=>?_) (fun g2=>?_)
  ·skip
   refine qc ?_;intros;rw [show i/Int.toNat 2=i/2 from rfl];refine qc ?_;intros;rw [hlab]
   try rw [show i % Int.toNat 2=i % 2 from rfl]
   refine qf O O (ZJ (w:=w) (n:=i/2+1) (k:=0) (back:=(((i % 2:Nat):Int)==1)) (ink:=ink) (part:=0) hw oM oM oM oM oM) ?_;rintro _ rfl;have hH:=Yl (w:=w) (n:=i/2+1) (k:=0) (ink:=ink) (part:=0) (back:=(((i % 2:Nat):Int)==1)) hw.1;have hK:=J2 (w:=w) (n:=i/2+1) (k:=0) (ink:=ink) (part:=0) (back:=(((i % 2:Nat):Int)==1)) oM oM;have hX:∃ik3 pt3:Nat,zy w (i/2+1) 0 (((i % 2:Nat):Int)==1) ink 0=zy w (i/2+1) 0 (((i % 2:Nat):Int)==1) ik3 pt3/\ik3<=9999/\pt3<=26/\(ik3=0->pt3=0):=⟨_,_,rfl,oM,oM,oM⟩;generalize zy w (i/2+1) 0 (((i % 2:Nat):Int)==1) ink 0=hd at *;refine qc ?_;intros;refine qf O O (Qx (q:=v.ends) (i:=i) oM oM) ?_;rintro _ rfl;rw [<-hf0];refine qc ?_;intros;refine qN (fun m E S nk=>∃(k:Nat) (p:List (List Int)),k+m=e/\f0<=k/\p.length=k-f0+1/\(∀r∈p,r.length<=w/\LineOk r)/\p.head?=some hd/\E=[(1,.int i),(2,.one (.ptr 0 0)),(9,.one (.own 1 0 p.length 1)),(10,.int k)]/\S=[(0,.cells (QI v w ink)),(1,.data (p.flatMap ja))]/\nk=2) (e-f0) ⟨f0,[hd],by omega,by omega,by simp,(fun r hr=>by rw [xM.1 hr];exact⟨by omega,hK⟩),rfl,rfl,rfl,rfl⟩ ?_;rintro m E S nk ⟨k,p,hm,hk,hpl,hpo,hph,rfl,rfl,rfl⟩;refine qc ?_;intros;refine qh O (fun h2=>?_) (fun h2=>?_)
   ·have hrr:=hv.rows _ (qn (l:=v.rows) (i:=k) oM);refine qc ?_;intros;exact qM (m':=m-1) (by omega) ⟨k+1,p++[(v.rows.getD k default).line],by omega,by omega,by simp;omega,(fun r hr=>by
     rcases xu.1 hr with hr|hr
     ·exact hpo r hr
     ·rw [xM.1 hr];exact⟨hrr.1,hrr.2.1⟩),cY hph,rfl,rfl,rfl⟩ xp
   ·have hpf:(p.flatMap ja).length=p.length*1:=kH (fun _=>by rfl) _;have hd0:=Ja hph;refine qx (qg (k:=1) O (qg (k:=9) O (qv _))) (qg (k:=1) O (qv _)) ?_;refine qF 1 O qo qo ?_;refine qc ?_;intros;refine qN (fun m E S nk=>∃n:Nat,n=m/\1<=n/\n<=p.length/\E=[(9,qW p),(11,.int n)]/\S=[]/\nk=2) (p.length) ⟨p.length,O,oM,oM,O,O,O⟩ ?_;rintro m2 E S nk ⟨n,rfl,hn1,hn2,rfl,rfl,rfl⟩;refine qc ?_;intros;refine qX O (fun h3=>?_) (fun h3=>?_)
    ·have hn3:n≠1:=by
      intro hn;rw [hn] at h3;have h5:(p.getD 0 default).length=0:=by simpa using h3
      rw [hd0] at h5;omega
     refine qc ?_;intros;exact qG ⟨n-1,O,by omega,by omega,by rw [show ((n-1:Nat):Int)=(n:Int)-1 by omega],rfl,rfl⟩
    ·rw [show ((n:Int)-1).toNat=n-1 by omega] at h3;obtain⟨ik2,pt2,hx1,hx2⟩:=hX;refine qc ?_;intros;refine Zc (f:=ja) (l:=p) O O hn2 O (fun _=>by rfl) ?_;refine qc ?_;intros;exact qb ⟨_,O,O,qW (p.take n),nv,p.take n,O,.take hn2 (by omega) hpo hn1 (by intro h6;apply h3;rw [h6];rfl),fun _=>⟨ik2,pt2,by rw [Vn hph hn1,hx1],hx2⟩,fun h=>absurd h (by omega)⟩
  ·skip
   refine qc ?_;intros;rw [show i/Int.toNat 2=i/2 from rfl];refine qc ?_;intros;rw [hlab]
   try rw [show i % Int.toNat 2=i % 2 from rfl]
   refine qf O O (ZJ (w:=w) (n:=i/2+1) (k:=0) (back:=(((i % 2:Nat):Int)==1)) (ink:=ink) (part:=(min 26 (i+1))) hw oM oM oM oM oM) ?_;rintro _ rfl;have hH:=Yl (w:=w) (n:=i/2+1) (k:=0) (ink:=ink) (part:=(min 26 (i+1))) (back:=(((i % 2:Nat):Int)==1)) hw.1;have hK:=J2 (w:=w) (n:=i/2+1) (k:=0) (ink:=ink) (part:=(min 26 (i+1))) (back:=(((i % 2:Nat):Int)==1)) oM oM;have hX:∃ik3 pt3:Nat,zy w (i/2+1) 0 (((i % 2:Nat):Int)==1) ink (min 26 (i+1))=zy w (i/2+1) 0 (((i % 2:Nat):Int)==1) ik3 pt3/\ik3<=9999/\pt3<=26/\(ik3=0->pt3=0):=⟨_,_,rfl,oM,oM,oM⟩;generalize zy w (i/2+1) 0 (((i % 2:Nat):Int)==1) ink (min 26 (i+1))=hd at *;refine qc ?_;intros;refine qf O O (Qx (q:=v.ends) (i:=i) oM oM) ?_;rintro _ rfl;rw [<-hf0];refine qc ?_;intros;refine qN (fun m E S nk=>∃(k:Nat) (p:List (List Int)),k+m=e/\f0<=k/\p.length=k-f0+1/\(∀r∈p,r.length<=w/\LineOk r)/\p.head?=some hd/\E=[(1,.int i),(2,.one (.ptr 0 0)),(9,.one (.own 1 0 p.length 1)),(10,.int k)]/\S=[(0,.cells (QI v w ink)),(1,.data (p.flatMap ja))]/\nk=2) (e-f0) ⟨f0,[hd],by omega,by omega,by simp,(fun r hr=>by rw [xM.1 hr];exact⟨by omega,hK⟩),rfl,rfl,rfl,rfl⟩ ?_;rintro m E S nk ⟨k,p,hm,hk,hpl,hpo,hph,rfl,rfl,rfl⟩;refine qc ?_;intros;refine qh O (fun h2=>?_) (fun h2=>?_)
   ·have hrr:=hv.rows _ (qn (l:=v.rows) (i:=k) oM);refine qc ?_;intros;exact qM (m':=m-1) (by omega) ⟨k+1,p++[(v.rows.getD k default).line],by omega,by omega,by simp;omega,(fun r hr=>by
     rcases xu.1 hr with hr|hr
     ·exact hpo r hr
     ·rw [xM.1 hr];exact⟨hrr.1,hrr.2.1⟩),cY hph,rfl,rfl,rfl⟩ xp
   ·have hpf:(p.flatMap ja).length=p.length*1:=kH (fun _=>by rfl) _;have hd0:=Ja hph;refine qx (qg (k:=1) O (qg (k:=9) O (qv _))) (qg (k:=1) O (qv _)) ?_;refine qF 1 O qo qo ?_;refine qc ?_;intros;refine qN (fun m E S nk=>∃n:Nat,n=m/\1<=n/\n<=p.length/\E=[(9,qW p),(11,.int n)]/\S=[]/\nk=2) (p.length) ⟨p.length,O,oM,oM,O,O,O⟩ ?_;rintro m2 E S nk ⟨n,rfl,hn1,hn2,rfl,rfl,rfl⟩;refine qc ?_;intros;refine qX O (fun h3=>?_) (fun h3=>?_)
    ·have hn3:n≠1:=by
      intro hn;rw [hn] at h3;have h5:(p.getD 0 default).length=0:=by simpa using h3
      rw [hd0] at h5;omega
     refine qc ?_;intros;exact qG ⟨n-1,O,by omega,by omega,by rw [show ((n-1:Nat):Int)=(n:Int)-1 by omega],rfl,rfl⟩
    ·rw [show ((n:Int)-1).toNat=n-1 by omega] at h3;obtain⟨ik2,pt2,hx1,hx2⟩:=hX;refine qc ?_;intros;refine Zc (f:=ja) (l:=p) O O hn2 O (fun _=>by rfl) ?_;refine qc ?_;intros;exact qb ⟨_,O,O,qW (p.take n),nv,p.take n,O,.take hn2 (by omega) hpo hn1 (by intro h6;apply h3;rw [h6];rfl),fun _=>⟨ik2,pt2,by rw [Vn hph hn1,hx1],hx2⟩,fun h=>absurd h (by omega)⟩
 ·skip
  refine qc ?_;intros;rw [show i/Int.toNat 2=i/2 from rfl];refine qc ?_;intros;rw [hlab]
  try rw [show i % Int.toNat 2=i % 2 from rfl]
  refine qf O O (ZJ (w:=w) (n:=i/2+1) (k:=0) (back:=(((i % 2:Nat):Int)==1)) (ink:=ik) (part:=pt) hw oM oM oM oM oM) ?_;rintro _ rfl;have hH:=Yl (w:=w) (n:=i/2+1) (k:=0) (ink:=ik) (part:=pt) (back:=(((i % 2:Nat):Int)==1)) hw.1;have hK:=J2 (w:=w) (n:=i/2+1) (k:=0) (ink:=ik) (part:=pt) (back:=(((i % 2:Nat):Int)==1)) oM oM;have hX:∃ik3 pt3:Nat,zy w (i/2+1) 0 (((i % 2:Nat):Int)==1) ik pt=zy w (i/2+1) 0 (((i % 2:Nat):Int)==1) ik3 pt3/\ik3<=9999/\pt3<=26/\(ik3=0->pt3=0):=⟨_,_,rfl,oM,oM,oM⟩;generalize zy w (i/2+1) 0 (((i % 2:Nat):Int)==1) ik pt=hd at *;refine qc ?_;intros;refine qf O O (Qx (q:=v.ends) (i:=i) oM oM) ?_;rintro _ rfl;rw [<-hf0];refine qc ?_;intros;refine qN (fun m E S nk=>∃(k:Nat) (p:List (List Int)),k+m=e/\f0<=k/\p.length=k-f0+1/\(∀r∈p,r.length<=w/\LineOk r)/\p.head?=some hd/\E=[(1,.int i),(2,.one (.ptr 0 0)),(9,.one (.own 1 0 p.length 1)),(10,.int k)]/\S=[(0,.cells (QI v w ink)),(1,.data (p.flatMap ja))]/\nk=2) (e-f0) ⟨f0,[hd],by omega,by omega,by simp,(fun r hr=>by rw [xM.1 hr];exact⟨by omega,hK⟩),rfl,rfl,rfl,rfl⟩ ?_;rintro m E S nk ⟨k,p,hm,hk,hpl,hpo,hph,rfl,rfl,rfl⟩;refine qc ?_;intros;refine qh O (fun h2=>?_) (fun h2=>?_)
  ·have hrr:=hv.rows _ (qn (l:=v.rows) (i:=k) oM);refine qc ?_;intros;exact qM (m':=m-1) (by omega) ⟨k+1,p++[(v.rows.getD k default).line],by omega,by omega,by simp;omega,(fun r hr=>by
    rcases xu.1 hr with hr|hr
    ·exact hpo r hr
    ·rw [xM.1 hr];exact⟨hrr.1,hrr.2.1⟩),cY hph,rfl,rfl,rfl⟩ xp
  ·have hpf:(p.flatMap ja).length=p.length*1:=kH (fun _=>by rfl) _;have hd0:=Ja hph;refine qx (qg (k:=1) O (qg (k:=9) O (qv _))) (qg (k:=1) O (qv _)) ?_;refine qF 1 O qo qo ?_;refine qc ?_;intros;refine qN (fun m E S nk=>∃n:Nat,n=m/\1<=n/\n<=p.length/\E=[(9,qW p),(11,.int n)]/\S=[]/\nk=2) (p.length) ⟨p.length,O,oM,oM,O,O,O⟩ ?_;rintro m2 E S nk ⟨n,rfl,hn1,hn2,rfl,rfl,rfl⟩;refine qc ?_;intros;refine qX O (fun h3=>?_) (fun h3=>?_)
   ·have hn3:n≠1:=by
     intro hn;rw [hn] at h3;have h5:(p.getD 0 default).length=0:=by simpa using h3
     rw [hd0] at h5;omega
    refine qc ?_;intros;exact qG ⟨n-1,O,by omega,by omega,by rw [show ((n-1:Nat):Int)=(n:Int)-1 by omega],rfl,rfl⟩
   ·rw [show ((n:Int)-1).toNat=n-1 by omega] at h3;obtain⟨ik2,pt2,hx1,hx2⟩:=hX;refine qc ?_;intros;refine Zc (f:=ja) (l:=p) O O hn2 O (fun _=>by rfl) ?_;refine qc ?_;intros;exact qb ⟨_,O,O,qW (p.take n),nv,p.take n,O,.take hn2 (by omega) hpo hn1 (by intro h6;apply h3;rw [h6];rfl),fun _=>⟨ik2,pt2,by rw [Vn hph hn1,hx1],hx2⟩,fun h=>absurd h (by omega)⟩
end Go.Ai
