/- -/
import Derived.Test.YtdlelodnhjacgaaGreatDoorAb22
set_option linter.unusedSimpArgs false
set_option linter.unusedVariables false
set_option maxRecDepth 8000
set_option maxHeartbeats 16000000
namespace Go.Ai
open Go.Ab Go.Proofs
theorem tS{n:Nat}{x:Int}:List.replicate (n+1) x=List.replicate n x++[x]:=L1
theorem QX{v:Int}(hv:v<100000):DK 117 [.int v] fun d=>d=qq (List.replicate v.toNat 0):=by
 refine xr ?_;intros;refine qN (fun m E S nk=>∃i:Nat,i+m=v.toNat/\E=[(0,.int v),(3,.one (.own 0 0 (List.replicate i (0:Int)).length 1)),(4,.int i)]/\S=[(0,.data ((List.replicate i (0:Int)).flatMap qU))]/\nk=1) (v.toNat) ⟨0,oM,O,O,O⟩ ?_;rintro m E S nk ⟨i,hm,rfl,rfl,rfl⟩;refine qc ?_;intros;refine qh O (fun g=>?_) (fun g=>?_)
 ·have hl:(List.replicate i (0:Int)).length=i:=xN;refine qc ?_;intros;rw [<-tS];exact qG ⟨i+1,oM,O,O,O⟩
 ·obtain rfl:i=v.toNat:=by omega
  refine qc ?_;intros;exact qP 2 O O ⟨_,O,O,O⟩
theorem Hz{v:Int}(hv:v<100000):DK 116 [.int v] fun d=>d=qq (List.replicate v.toNat 36):=by
 refine xr ?_;intros;refine qN (fun m E S nk=>∃i:Nat,i+m=v.toNat/\E=[(0,.int v),(3,.one (.own 0 0 (List.replicate i (36:Int)).length 1)),(4,.int i)]/\S=[(0,.data ((List.replicate i (36:Int)).flatMap qU))]/\nk=1) (v.toNat) ⟨0,oM,O,O,O⟩ ?_;rintro m E S nk ⟨i,hm,rfl,rfl,rfl⟩;refine qc ?_;intros;refine qh O (fun g=>?_) (fun g=>?_)
 ·have hl:(List.replicate i (36:Int)).length=i:=xN;refine qc ?_;intros;rw [<-tS];exact qG ⟨i+1,oM,O,O,O⟩
 ·obtain rfl:i=v.toNat:=by omega
  refine qc ?_;intros;exact qP 2 O O ⟨_,O,O,O⟩
theorem vq{a b:List Int}(ha:a.length<100000)(hb:b.length<100000):DK 113 [qq a,qq b] fun d=>d=qq (a++b):=by
 refine xr ?_;intros;exact qP 4 O O ⟨_,O,O,O⟩
theorem bQ{a b:List Int}(ha:a.length<100000)(hb:b.length<100000):jg 113 [qq a,qq b] fun d S nk=>d=.one (.own 0 0 (a++b).length 1)/\S=[(0,.data ((a++b).flatMap qU))]/\nk=1:=by
 refine wv fun Z0 lo=>?_;refine qc ?_;intros;refine yF (E0:=[(4,.one (.own 0 0 (a++b).length 1))]) (S0:=[(0,.data ((a++b).flatMap qU))]) (n0:=1) xp ?_;exact qb ⟨_,O,O,_,wC _,O,O,O⟩
theorem BQ{l:List Int}{n:Nat}(hl:l.length<5000)(hn:n<5000):DK 114 [qq l,.int n] fun d=>d=qq (List.replicate ((n:Int)-l.length).toNat 0++l):=by
 refine xr ?_;intros;refine qS O O (QX oM) ?_;intros;refine qf O O (vq (by rw [xN];omega) (by omega)) ?_;rintro _ rfl;exact jJ
theorem VI{l:List Int}{n:Nat}(hl:l.length<5000)(hn:n<5000):DK 115 [qq l,.int n] fun d=>d=qq (l++List.replicate ((n:Int)-l.length).toNat 0):=by
 refine xr ?_;intros;refine qS O O (QX oM) ?_;intros;refine qf O O (vq (by omega) (by rw [xN];omega)) ?_;rintro _ rfl;exact jJ
def YA(q:List (List Int)):Prop:=∀x∈q,x.length<100000/\qA x
theorem YA.nil:YA []:=fun _ h=>by cases h
theorem YA.push{q:List (List Int)}{x:List Int}(h:YA q)(hl:x.length<100000)(hc:qA x):YA (q++[x]):=fun y hy=>by
 rcases xu.1 hy with hy|hy
 ·exact h y hy
 ·rw [xM.1 hy];exact⟨hl,hc⟩
def Bz(l:List (List Int)):Prop:=∀x∈l,x.length<=1560/\qA x
theorem IU{l:List (List Int)}{c:Nat}(hl:Bz l)(hll:l.length<=16)(hc:1<=c/\c<=8)(hd:c ∣ l.length):DK 112 [qW l,.int c] fun d=>∃q:List (List Int),d=qW q/\q.length<=16/\(0<l.length->0<q.length)/\YA q:=by
 refine xr ?_;intros;refine qN (fun m E S nk=>∃(i:Nat) (q:List (List Int)),i+m=l.length/\c ∣ m/\q.length<=i/\(0<i->0<q.length)/\YA q/\E=[(0,qW l),(1,.int c),(5,.one (.own 0 0 q.length 1)),(6,.int i)]/\S=[(0,.data (q.flatMap ja))]/\nk=1) (l.length) ⟨0,[],oM,hd,qz _,fun h=>absurd h oM,.nil,O,O,O⟩ ?_;rintro m E S nk ⟨i,q,hm,hdm,hq,hq0,hq2,rfl,rfl,rfl⟩;refine qc ?_;intros;refine qh O (fun g=>?_) (fun g=>?_)
 ·have hcm:c<=m:=Nat.le_of_dvd oM hdm;have hdm2:c ∣ m-c:=Nat.dvd_sub hdm (Nat.dvd_refl c);refine qc ?_;intros;refine qN (fun m2 E S nk=>∃(k:Nat) (x:List Int),k+m2=c/\x.length<=2+1562*k/\qA x/\E=[(0,qW l),(1,.int c),(5,.one (.own 0 0 q.length 1)),(6,.int i),(7,.one (.own 1 0 x.length 1)),(8,.int k)]/\S=[(0,.data (q.flatMap ja)),(1,.data (x.flatMap qU))]/\nk=2) c ⟨0,[55,0],by omega,by simp,by decide,rfl,rfl,rfl⟩ ?_;rintro m2 E S nk ⟨k,x,hm2,hx,hxc,rfl,rfl,rfl⟩;refine qc ?_;intros;refine qh O (fun g2=>?_) (fun g2=>?_)
  ·have hxl:(x.flatMap qU).length=x.length*1:=kH (fun _=>by rfl) _;refine qF 1 O qo qo ?_;refine qc ?_;intros;refine qN (fun m3 E S nk=>∃(j w:Nat),m3=l.length-j/\j<=l.length+c/\w<=1560/\E=[(0,qW l),(1,.int c),(5,.one (.own 0 0 q.length 1)),(6,.int i),(7,qq x),(8,.int k),(9,.int w),(10,.int j)]/\S=[(0,.data (q.flatMap ja))]/\nk=2) (l.length-k) ⟨k,0,O,oM,oM,O,O,O⟩ ?_;rintro m3 E S nk ⟨j,w,hm3,hj,hw,rfl,rfl,rfl⟩;refine qc ?_;intros;refine qh O (fun g3=>?_) (fun g3=>?_)
   ·have he:=(hl _ (qn (l:=l) (i:=j) oM)).1;refine qc ?_;intros;exact qM (m':=l.length-(j+c)) oM ⟨j+c,max w (l.getD j default).length,O,oM,oM,O,O,O⟩ xp
   ·have he:=hl _ (qn (l:=l) (i:=i+k) oM);have he1:=he.1;refine qc ?_;intros;refine qS O O (VI oM oM) ?_;intros;refine zw O O (bQ (by omega) (by rw [qE,xN];omega)) ?_;rintro _ _ _ ⟨rfl,rfl,rfl⟩;have hyl:(x++(l.getD (i+k) default++List.replicate ((w:Int)-(l.getD (i+k) default).length).toNat 0)).length<=2+1562*k+1560:=by simp only [qE,xN];omega
    have hyc:qA (x++(l.getD (i+k) default++List.replicate ((w:Int)-(l.getD (i+k) default).length).toNat 0)):=hxc.app (he.2.app .rep);generalize x++(l.getD (i+k) default++List.replicate ((w:Int)-(l.getD (i+k) default).length).toNat 0)=y at *;have hyf:(y.flatMap qU).length=y.length*1:=kH (fun _=>by rfl) _;refine qc ?_;intros;refine qh O (fun g4=>?_) (fun g4=>?_)
    ·refine qF 2 O qo qo ?_;refine qc ?_;intros;refine qS O O (QX qr) ?_;intros;refine zw O O (bQ oM qr) ?_;rintro _ _ _ ⟨rfl,rfl,rfl⟩;refine qc ?_;intros;exact qG ⟨k+1,y++List.replicate (2:Int).toNat 0,by omega,by rw [qE,xN];omega,hyc.app .rep,rfl,rfl,rfl⟩
    ·refine qc ?_;intros;exact qG ⟨k+1,y,oM,oM,hyc,O,O,O⟩
  ·refine qc ?_;intros;refine zn (f:=qU) (l:=x) [0,62] O O O ⟨O,O,_,O,O⟩ O O oM oM qr (fun _=>O) O ?_;have hxl:((x++[0,62]).flatMap qU).length=(x++[0,62]).length*1:=kH (fun _=>by rfl) _;refine qY 3 O qo qo ?_;refine qc ?_;intros;exact qM (m':=m-c) (by omega) ⟨i+c,q++[x++[0,62]],by omega,hdm2,by simp;omega,fun _=>by simp,hq2.push (by rw [qE];simp;omega) (hxc.app (by decide)),rfl,rfl,rfl⟩ xp
 ·refine qc ?_;intros;exact qP 4 O O ⟨_,O,O,q,O,oM,fun h=>hq0 oM,hq2⟩
theorem Rh{f:List (Int × Int)}{i:Nat}{w:List Int}{ps:List (Nat × Nat)}{zs:List Nat}(h:WN f i w ps zs)(ho:(f.getD i default).1=7\/(f.getD i default).1=8)(hk:ps.length=2):DK 83 [xD f,.int i,qq w] (WR (zs.sum+1)):=by
 have h1:=h.fl;have h2:=h.il;have hwl:=h.wl;have hz:=h.pz;have e3:=DW (zs:=zs) oM;have hsm:=h.sm;have k0:=h.kid 0 oM w oM h.wc;have hp0:=h.pin 0 oM;have hopn:=h.opn;rcases ho with ec|ec
 all_goals
  refine xr ?_;intros;refine qS O O hopn ?_;intros;refine qf O O k0 ?_;rintro _ ⟨c,rfl,hc,hcc⟩;refine qc ?_;intros;refine qf O O IR ?_;rintro _ ⟨b,rfl⟩;refine qc ?_;intros;refine qd O (fun g=>?_) (fun g=>?_)
  ·refine qc ?_;intros;refine qf O O (Jj oM h.wc) ?_;rintro _ ⟨v,rfl,hv,hvc⟩;refine qc ?_;intros;refine qf O O (Kb oM hvc) ?_;rintro _ ⟨s1,rfl,hs1,hsc1⟩;refine qc ?_;intros;refine qf O O (Jj oM h.wc) ?_;rintro _ ⟨v2,rfl,hv2,hvc2⟩;refine qc ?_;intros;refine qf O O (h.kid 1 oM v2 oM hvc2) ?_;rintro _ ⟨c2,rfl,hc2,hcc2⟩;refine qc ?_;intros;refine qf O O (Kb oM h.wc) ?_;rintro _ ⟨s2,rfl,hs2,hsc2⟩;refine qc ?_;intros;exact qP 6 O O ⟨_,O,O,[]++c++s1++c2++s2,O,wY,(((qA.app (fun x hx=>by cases hx) hcc).app hsc1).app hcc2).app hsc2⟩
  ·refine qc ?_;intros;refine zn (f:=qU) (l:=[]) [35] O O O ⟨O,O,_,O,O⟩ O O qr qr qr (fun _=>O) O ?_;refine qc ?_;intros;refine qf O O (Jj oM h.wc) ?_;rintro _ ⟨v,rfl,hv,hvc⟩;refine qc ?_;intros;refine qf O O (Kb oM hvc) ?_;rintro _ ⟨s1,rfl,hs1,hsc1⟩;refine qc ?_;intros;refine qf O O (Jj oM h.wc) ?_;rintro _ ⟨v2,rfl,hv2,hvc2⟩;refine qc ?_;intros;refine qf O O (h.kid 1 oM v2 oM hvc2) ?_;rintro _ ⟨c2,rfl,hc2,hcc2⟩;refine qc ?_;intros;refine qf O O (Kb oM h.wc) ?_;rintro _ ⟨s2,rfl,hs2,hsc2⟩;refine qc ?_;intros;exact qP 6 O O ⟨_,O,O,[]++[35]++c++[50]++s1++c2++s2,O,wY,(((((qA.app (fun x hx=>by cases hx) qr).app hcc).app qr).app hsc1).app hcc2).app hsc2⟩
theorem Lj{f:List (Int × Int)}{i:Nat}{w:List Int}{ps:List (Nat × Nat)}{zs:List Nat}(h:WN f i w ps zs)(ho:(f.getD i default).1=6\/(f.getD i default).1=9\/(f.getD i default).1=10\/(f.getD i default).1=11):DK 83 [xD f,.int i,qq w] (WR (zs.sum+1)):=by
 have h1:=h.fl;have h2:=h.il;have hwl:=h.wl;have hpl:=h.pl;have hz:=h.pz;have hsm:=h.sm;have hopn:=h.opn;rcases ho with ec|ec|ec|ec
 all_goals
  refine xr ?_;intros;refine qS O O hopn ?_;intros;refine qf O O IZ ?_;rintro _ ⟨a,b,c,rfl,ha,hb,hc⟩;refine qc ?_;intros;refine zn (f:=qU) (l:=[]) [a] O O O ⟨O,O,_,O,O⟩ O O qr qr qr (fun _=>O) O ?_;refine qc ?_;intros;refine qN (fun m E S nk=>∃(k:Nat) (o:List Int),k+m=ps.length/\o.length<=1+k+26*(zs.take k).sum/\qA o/\E=[(0,xD f),(2,qq w),(8,XS ps),(9,.one (.own 2 0 o.length 1)),(13,.one (.ptr 1 0)),(14,.int k)]/\S=[(1,.cells [.f (.c (.int .u8 a)),.f (.c (.int .u8 b)),.f (.c (.int .u8 c))]),(2,.data (o.flatMap qU))]/\nk=3) (ps.length) ⟨0,[]++[a],by omega,by simp,qA.app (fun x hx=>by cases hx) (qA.push (l:=[]) (fun x hx=>by cases hx) ha),rfl,rfl,rfl⟩ ?_;rintro m E S nk ⟨k,o,hm,hol,hoc,rfl,rfl,rfl⟩;refine qc ?_;intros;refine qh O (fun g=>?_) (fun g=>?_)
  ·have e1:=bY (zs:=zs) (k:=k) oM;have e2:=lI (zs:=zs) (k:=k+1);refine qc ?_;intros;refine qh O (fun g2=>?_) (fun g2=>?_)
   ·refine qc ?_;intros;refine qf O O (h.kid k oM w oM h.wc) ?_;rintro _ ⟨x,rfl,hx,hxc⟩;refine qc ?_;intros;exact qG ⟨k+1,o++[b]++x,oM,wY,(hoc.push hb).app hxc,O,O,O⟩
   ·refine qc ?_;intros;refine qf O O (h.kid k oM w oM h.wc) ?_;rintro _ ⟨x,rfl,hx,hxc⟩;refine qc ?_;intros;exact qG ⟨k+1,o++x,oM,wY,hoc.app hxc,O,O,O⟩
  ·have e3:(zs.take k).sum=zs.sum:=by rw [show k=zs.length by omega,bZ]
   refine qc ?_;intros;exact qP 6 O O ⟨_,O,O,o++[c],O,wY,hoc.push hc⟩
theorem Rg{f:List (Int × Int)}{i:Nat}{w:List Int}{ps:List (Nat × Nat)}{zs:List Nat}(h:WN f i w ps zs)(ho:(f.getD i default).1=12):DK 83 [xD f,.int i,qq w] (WR (zs.sum+1)):=by
 have h1:=h.fl;have h2:=h.il;have hwl:=h.wl;have hpl:=h.pl;have hz:=h.pz;have hsm:=h.sm;have hopn:=h.opn;refine xr ?_;intros;refine qS O O hopn ?_;intros;refine zn (f:=qU) (l:=[]) [56] O O O ⟨O,O,_,O,O⟩ O O qr qr qr (fun _=>O) O ?_;refine qc ?_;intros;refine qN (fun m E S nk=>∃(k:Nat) (o:List Int),k+m=ps.length/\o.length<=1+k+26*(zs.take k).sum/\qA o/\E=[(0,xD f),(2,qq w),(8,XS ps),(9,.one (.own 1 0 o.length 1)),(11,.int k)]/\S=[(1,.data (o.flatMap qU))]/\nk=2) (ps.length) ⟨0,[]++[56],by omega,by simp,by decide,rfl,rfl,rfl⟩ ?_;rintro m E S nk ⟨k,o,hm,hol,hoc,rfl,rfl,rfl⟩;refine qc ?_;intros;refine qh O (fun g=>?_) (fun g=>?_)
 ·have e1:=bY (zs:=zs) (k:=k) oM;have e2:=lI (zs:=zs) (k:=k+1);refine qc ?_;intros;refine qX O (fun g2=>?_) (fun g2=>?_)
  ·refine qc ?_;intros;refine qf O O (h.kid k oM w oM h.wc) ?_;rintro _ ⟨x,rfl,hx,hxc⟩;refine qc ?_;intros;exact qG ⟨k+1,o++[51]++x,oM,wY,(hoc.push qr).app hxc,O,O,O⟩
  ·refine qc ?_;intros;refine qh O (fun g3=>?_) (fun g3=>?_)
   ·refine qc ?_;intros;refine qf O O (h.kid k oM w oM h.wc) ?_;rintro _ ⟨x,rfl,hx,hxc⟩;refine qc ?_;intros;exact qG ⟨k+1,o++[32]++x,oM,wY,(hoc.push qr).app hxc,O,O,O⟩
   ·refine qc ?_;intros;refine qf O O (h.kid k oM w oM h.wc) ?_;rintro _ ⟨x,rfl,hx,hxc⟩;refine qc ?_;intros;exact qG ⟨k+1,o++x,oM,wY,hoc.app hxc,O,O,O⟩
 ·have e3:(zs.take k).sum=zs.sum:=by rw [show k=zs.length by omega,bZ]
  refine qc ?_;intros;exact qP 6 O O ⟨_,O,O,o++[34],O,wY,hoc.push qr⟩
theorem Dx{op n:Int}{k:Nat}(ho:0<=op/\op<=13)(h:Zk op n=((k:Int),true)):k<=16/\(op=0->0<=n/\n<=99999)/\(op=1->0<=n/\n<=25)/\(2<=op/\op<=8->k=2)/\(op=13->0<=n/\1<=n % 8):=by
 unfold Zk at h;by_cases h0:op=0
 ·subst h0;simp only [if_true,zpi,x8,yA] at h;omega
 by_cases h1:op=1
 ·subst h1;simp only [if_neg (show¬(1:Int)=0 by decide),if_true,zpi,x8,yA] at h;omega
 rw [if_neg h0,if_neg h1] at h;by_cases h2:2<=op/\op<=8
 ·rw [if_pos h2] at h;simp only [zpi] at h;omega
 rw [if_neg h2] at h;by_cases h3:9<=op/\op<=11
 ·rw [if_pos h3] at h;simp only [zpi] at h;omega
 rw [if_neg h3] at h;by_cases h4:op=12
 ·rw [if_pos h4] at h;split at h
  ·simp at h
  ·simp only [zpi] at h;omega
 rw [if_neg h4] at h;have h5:op=13:=oM;rw [if_pos h5] at h;split at h
 ·simp at h
 ·simp only [zpi,x8,yA] at h;obtain⟨e,⟨⟨q1,q2⟩,q3⟩,q4⟩:=h;refine⟨?_,oM,oM,oM,fun _=>⟨oM,q3⟩⟩;have:n/8*(n % 8)<=4*4:=Int.mul_le_mul q2 q4 oM oM;omega
theorem KS:∀cs:List Tr,(cs.map fun t=>t.fl.length).sum=(xq cs).length
 |[]=>rfl
 |t::r=>by rw [jr,nU,KS r,xq,qE]
mutual
theorem Cp{f:List (Int × Int)}(hf:f.length<1000):∀(t:Tr),t.ok->∀(i:Nat) (rest:List (Int × Int)),f.drop i=t.fl++rest->∀w:List Int,w.length+t.dep<=10->qA w->DK 83 [xD f,.int i,qq w] (WR t.fl.length)
 |.nd op n cs,h,i,rest,e,w,hw,hwc=>by
  have hop:=Wg hf h e;have hok:=h;unfold Tr.ok at hok;obtain⟨ho, -,har,hcl,hos⟩:=hok;have hc:Xf cs:=Y3 hos;have hal:=Dx ho har;unfold Tr.dep at hw;have e2:=e;rw [Tr.fl,vz] at e2;have hdr:=wZ e2;have hall:=Cq hf cs hc (i+1) rest hdr.2;have hfi:f.getD i default=(op,n):=by rw [qT,hdr.1];rfl
  have hil:i<f.length:=(zgs hdr.1).1;have hfl:(xq cs).length<=f.length:=by
   have:=congrArg List.length hdr.2;rw [zS,qE] at this;omega
  have hN:WN f i w (yy (i+1) cs) (cs.map fun t=>t.fl.length):={
   fl:=hf
   il:=hil
   wl:=by omega
   wc:=hwc
   pl:=by rw [jo];exact hal.1
   pz:=by rw [jo,xX]
   pin:=fun k hk=>by
    obtain⟨t, -,m,hm⟩:=cR (f:=f) hdr.2 _ (qn hk);exact (zgs hm).1
   opn:=hop
   sm:=by rw [KS];omega
   kid:=fun k hk v hv hvc=>hall k (by rwa [jo] at hk) v oM hvc }
  have hz:(Tr.nd op n cs).fl.length=(cs.map fun t=>t.fl.length).sum+1:=by rw [Tr.fl,xA,KS]
  have h1:(f.getD i default).1=op:=by rw [hfi]
  have h2:(f.getD i default).2=n:=by rw [hfi]
  rw [hz];have ec:op=0\/op=1\/(2<=op/\op<=5)\/(op=7\/op=8)\/op=12\/op=13\/(op=6\/op=9\/op=10\/op=11):=oM;rcases ec with ec|ec|ec|ec|ec|ec|ec
  ·exact Ri hN oM (by have:=hal.2.1 ec;omega)
  ·exact Re hN oM (by have:=hal.2.2.1 ec;omega)
  ·exact Rf hN (by omega) (by rw [jo];exact hal.2.2.2.1 (by omega))
  ·exact Rh hN (by omega) (by rw [jo];exact hal.2.2.2.1 (by omega))
  ·exact Rg hN oM
  ·exact Rj hN oM (m:=n.toNat) (by have:=hal.2.2.2.2 ec;omega) (by have:=hal.2.2.2.2 ec;omega)
  ·exact Lj hN oM
theorem Cq{f:List (Int × Int)}(hf:f.length<1000):∀(cs:List Tr),Xf cs->∀(a:Nat) (rest:List (Int × Int)),f.drop a=xq cs++rest->∀k,k<cs.length->∀v:List Int,v.length+kh cs<=10->qA v->DK 83 [xD f,.int ((yy a cs).getD k default).1,qq v] (WR ((cs.map fun t=>t.fl.length).getD k default))
 |[],_,_,_,_,k,hk,_,_,_=>absurd hk (eL _)
 |t::r,h,a,rest,e,0,_,v,hv,hvc=>by
  rw [xq,j5] at e;rw [kh] at hv;exact Cp hf t (h t (QC ..)) a _ e v oM hvc
 |t::r,h,a,rest,e,k+1,hk,v,hv,hvc=>by
  rw [xq,j5] at e;rw [kh] at hv;exact Cq hf r (fun x hx=>h x (Q7 _ hx)) (a+t.fl.length) rest (XG e) k (by simpa using hk) v (by omega) hvc
end
theorem pG{t:Tr}(h:t.ok)(hl:t.fl.length<=60)(hd:t.dep<=8):DK 48 [xD t.fl] fun d=>∃(c:List Int) (e:Int),d=.tup [qq c,.int e]/\c.length<=1560/\qA c:=by
 have hv:=Jk h oM hd;rw [decide_eq_true hl] at hv;refine xr ?_;intros;refine qS O O hv ?_;intros;refine qY 0 O qo qo ?_;refine qf O O (Cp (f:=t.fl) (by omega) t h 0 [] (by rw [Kz,yI]) [] (by simp;omega) (fun c hc=>by cases hc)) ?_;rintro _ ⟨c,rfl,hc,hcc⟩;refine qc ?_;intros;exact qb ⟨_,O,O,c,0,O,oM,hcc⟩
theorem UR{l:List (List Int)}{op n:Int}(hl:Bz l)(hll:l.length<=16)(hl1:1<=l.length)(hm:op=13->∃c:Nat,n.tmod 8=c/\(1<=c/\c<=8)/\c ∣ l.length):DK 81 [rW op n,qW l] fun d=>∃q:List (List Int),d=qW q/\q.length<=20/\0<q.length/\YA q:=by
 refine xr ?_;intros;refine qN (fun m E S nk=>∃(i w:Nat),i+m=l.length/\w<=1560/\E=[(1,qW l),(2,.one (.ptr 0 0)),(5,.int w),(6,.one (.own 1 0 0 1)),(7,.int i)]/\S=[(0,.cells [.f (FD.int op),.f (FD.int n)]),(1,.data [])]/\nk=2) (l.length) ⟨0,0,oM,oM,O,O,O⟩ ?_;rintro m E S nk ⟨i,w,hm2,hw,rfl,rfl,rfl⟩;refine qc ?_;intros;refine qh O (fun g=>?_) (fun g=>?_)
 ·have he:=(hl _ (qn (l:=l) (i:=i) oM)).1;refine qc ?_;intros;exact qG ⟨i+1,max w (l.getD i default).length,oM,oM,O,O,O⟩
 ·refine qc ?_;intros;refine qX O (fun g2=>?_) (fun g2=>?_)
  ·obtain⟨c,hc,hc1,hcd⟩:=hm g2;have hmx:=IU hl hll hc1 hcd;rw [<-hc] at hmx;refine qc ?_;intros;refine qf O O hmx ?_;rintro _ ⟨q,rfl,hq,hq0,hq2⟩;refine qc ?_;intros;exact qb ⟨_,O,O,q,O,oM,hq0 oM,hq2⟩
  ·refine qc ?_;intros;refine qN (fun m E S nk=>∃(k:Nat) (q:List (List Int)),k+m=l.length-1/\q.length=k/\YA q/\E=[(1,qW l),(2,.one (.ptr 0 0)),(5,.int w),(6,.one (.own 1 0 q.length 1)),(8,.int ((l.length:Int)-1)),(9,.int k)]/\S=[(0,.cells [.f (FD.int op),.f (FD.int n)]),(1,.data (q.flatMap ja))]/\nk=2) (l.length-1) ⟨0,[],oM,O,.nil,O,O,O⟩ ?_;rintro m3 E S nk ⟨k,q,hm3,hq,hq2,rfl,rfl,rfl⟩;refine qc ?_;intros;refine qh O (fun g3=>?_) (fun g3=>?_)
   ·have he:=hl _ (qn (l:=l) (i:=k) oM);have he1:=he.1;refine qc ?_;intros;refine qX O (fun g4=>?_) (fun g4=>?_)
    ·refine qc ?_;intros;refine qf O O (BQ oM oM) ?_;rintro _ rfl;refine qY 2 O qo qo ?_;refine qS O O (vq (a:=[44,0]) (by decide) (by rw [qE,xN];omega)) ?_;intros;exact qG ⟨k+1,q++[[44,0]++(List.replicate ((w:Int)-(l.getD k default).length).toNat 0++l.getD k default)],by omega,by simp;omega,hq2.push (by simp only [qE,xN,xA,zR];omega) (qA.app (by decide) (.app .rep he.2)),rfl,rfl,rfl⟩
    ·refine qc ?_;intros;refine qf O O (VI oM oM) ?_;rintro _ rfl;refine qY 2 O qo qo ?_;refine qS O O (vq (a:=[57,0]) (by decide) (by rw [qE,xN];omega)) ?_;intros;exact qG ⟨k+1,q++[[57,0]++(l.getD k default++List.replicate ((w:Int)-(l.getD k default).length).toNat 0)],by omega,by simp;omega,hq2.push (by simp only [qE,xN,xA,zR];omega) (qA.app (by decide) (he.2.app .rep)),rfl,rfl,rfl⟩
   ·have he:=hl _ (qn (l:=l) (i:=l.length-1) oM);have he1:=he.1;rw [show ((l.length:Int)-1)=((l.length-1:Nat):Int) by omega];have hrc:qA (List.replicate ((w:Int)+2).toNat 36):=fun c hc=>by rw [(DM.1 hc).2];decide
    have hq3:YA (q++[List.replicate ((w:Int)+2).toNat 36]):=hq2.push (by rw [xN];omega) hrc;refine qc ?_;intros;refine qS O O (Hz oM) ?_;intros;refine qX O (fun g4=>?_) (fun g4=>?_)
    ·refine qc ?_;intros;refine qS O O (QX qr) ?_;intros;refine qS O O (BQ oM oM) ?_;intros;refine qS O O (vq (by decide) (by rw [qE,xN];omega)) ?_;intros;exact qP 4 O O ⟨_,O,O,q++[List.replicate ((w:Int)+2).toNat 36]++[List.replicate (2:Int).toNat 0++(List.replicate ((w:Int)-(l.getD (l.length-1) default).length).toNat 0++l.getD (l.length-1) default)],O,by simp;omega,by simp,hq3.push (by simp only [qE,xN];omega) (qA.app .rep (.app .rep he.2))⟩
    ·refine qc ?_;intros;refine qS O O (QX qr) ?_;intros;refine qS O O (VI oM oM) ?_;intros;refine qS O O (vq (by decide) (by rw [qE,xN];omega)) ?_;intros;exact qP 4 O O ⟨_,O,O,q++[List.replicate ((w:Int)+2).toNat 36]++[List.replicate (2:Int).toNat 0++(l.getD (l.length-1) default++List.replicate ((w:Int)-(l.getD (l.length-1) default).length).toNat 0)],O,by simp;omega,by simp,hq3.push (by simp only [qE,xN];omega) (qA.app .rep (he.2.app .rep))⟩
instance:Inhabited Tr:=⟨.nd 0 0 []⟩
def Lo(t:Tr):List FD:=[gC t.fl]
theorem ES{f:List (Int × Int)}:∀{cs:List Tr} {a:Nat} {rest:List (Int × Int)},f.drop a=xq cs++rest->∀k,k<cs.length->∃r,f.drop ((yy a cs).getD k default).1=(cs.getD k default).fl++r
 |[],_,_,_,k,hk=>absurd hk (eL _)
 |t::r,a,rest,e,0,_=>by
  rw [xq,j5] at e;exact⟨_,e⟩
 |t::r,a,rest,e,k+1,hk=>by
  rw [xq,j5] at e;exact ES (XG e) k (by simpa using hk)
theorem Pd{f a r:List (Int × Int)}{i:Nat}(h:f.drop i=a++r):(f.take (i+a.length)).drop i=a:=by
 rw [List.drop_take,Nat.add_sub_cancel_left,h,List.take_left]
theorem DB{op n:Int}{cs:List Tr}(ht:(Tr.nd op n cs).ok)(hl:(Tr.nd op n cs).fl.length<=60):DK 80 [xD (Tr.nd op n cs).fl] fun d=>d=.one (.f (.sl 1 cs.length (cs.flatMap Lo))):=by
 have e0:(Tr.nd op n cs).fl.drop 0=(Tr.nd op n cs).fl++[]:=by rw [Kz,yI]
 have hop:=Wg (f:=(Tr.nd op n cs).fl) oM ht e0;have hok:=ht;unfold Tr.ok at hok;have hcl:=hok.2.2.2.1;have hc:Xf cs:=Y3 hok.2.2.2.2;have e1:(Tr.nd op n cs).fl.drop (0+1)=xq cs++[]:=by rw [Tr.fl];simp
 have hat:=ES e1;have hkl:=jo (0+1) cs;generalize hf:(Tr.nd op n cs).fl=f at *;generalize yy (0+1) cs=ps at *;refine xr ?_;intros;refine qS O O hop ?_;intros;refine qN (fun m E S nk=>∃(k:Nat) (q:List Tr),k+m=cs.length/\q=cs.take k/\q.length=k/\E=[(0,xD f),(3,.one (.own 0 0 q.length 1)),(4,XS ps),(5,.int k)]/\S=[(0,.data (q.flatMap Lo))]/\nk=1) (cs.length) ⟨0,[],oM,O,O,O,O,O⟩ ?_;rintro m E S nk ⟨k,q,hm,hq,hql,rfl,rfl,rfl⟩;refine qc ?_;intros;refine qh O (fun g=>?_) (fun g=>?_)
 ·obtain⟨r,hr⟩:=hat k oM;have hck:=hc _ (qn (l:=cs) (i:=k) oM);have hen:=IY (f:=f) oM hck hr;have hlen:(ps.getD k default).1+(cs.getD k default).fl.length<=f.length:=by
   have h1:=congrArg List.length hr;rw [zS,qE] at h1;have h2:=List.length_pos_iff.2 (cs.getD k default).fl_ne;omega
  have hcut:=Pd hr;have hqs:q++[cs.getD k default]=cs.take (k+1):=by
   rw [hq,Q5,qT,zge (show k<cs.length by omega)];rfl
  refine qc ?_;intros;refine qS O O hen ?_;intros;refine Zd (f:=wg) (l:=f) (a:=(ps.getD k default).1) (b:=(ps.getD k default).1+(cs.getD k default).fl.length) O O O oM hlen O (fun _=>O) ?_;rw [hcut];refine qc ?_;intros;exact qG ⟨k+1,q++[cs.getD k default],by omega,hqs,by simp;omega,rfl,rfl,rfl⟩
 ·have hqa:q=cs:=by rw [hq,show k=cs.length by omega,vE]
  subst hqa;refine qc ?_;intros;exact qP 2 O O ⟨_,O,O,O⟩
theorem BD:∀{cs:List Tr} {t:Tr},t∈cs->t.dep<=kh cs
 |_::r,t,h=>by
  rw [kh];rcases zd.1 h with rfl|h
  ·omega
  ·have:=BD (cs:=r) h;omega
theorem E6:∀{cs:List Tr} {t:Tr},t∈cs->t.fl.length<=(xq cs).length
 |_::r,t,h=>by
  rw [xq,qE];rcases zd.1 h with rfl|h
  ·omega
  ·have:=E6 (cs:=r) h;omega
theorem Ih{op n:Int}{k:Nat}(h:Zk op n=((k:Int),true)):((op=12\/op=13\/op=6)->1<=k)/\(op=13->∃c:Nat,n.tmod 8=c/\(1<=c/\c<=8)/\c ∣ k):=by
 unfold Zk at h;refine⟨fun ho=>?_,fun ho=>?_⟩
 ·rcases ho with rfl|rfl|rfl
  ·simp only [if_neg (show¬(12:Int)=0 by decide),if_neg (show¬(12:Int)=1 by decide),if_neg (show¬(2<=(12:Int)/\(12:Int)<=8) by decide),if_neg (show¬(9<=(12:Int)/\(12:Int)<=11) by decide),if_true] at h;split at h
   ·simp at h
   ·simp only [zpi] at h;omega
  ·simp only [if_neg (show¬(13:Int)=0 by decide),if_neg (show¬(13:Int)=1 by decide),if_neg (show¬(2<=(13:Int)/\(13:Int)<=8) by decide),if_neg (show¬(9<=(13:Int)/\(13:Int)<=11) by decide),if_neg (show¬(13:Int)=12 by decide),if_true] at h;split at h
   ·simp at h
   ·simp only [zpi,x8,yA] at h;obtain⟨e,⟨⟨q1,q2⟩,q3⟩,q4⟩:=h;have:1*1<=n/8*(n % 8):=Int.mul_le_mul q1 q3 oM oM;omega
  ·simp only [if_neg (show¬(6:Int)=0 by decide),if_neg (show¬(6:Int)=1 by decide),if_pos (show (2<=(6:Int)/\(6:Int)<=8) by decide),zpi] at h;omega
 ·subst ho;simp only [if_neg (show¬(13:Int)=0 by decide),if_neg (show¬(13:Int)=1 by decide),if_neg (show¬(2<=(13:Int)/\(13:Int)<=8) by decide),if_neg (show¬(9<=(13:Int)/\(13:Int)<=11) by decide),if_neg (show¬(13:Int)=12 by decide),if_true] at h;split at h
  ·simp at h
  ·rename_i hn;simp only [zpi,x8,yA] at h;obtain⟨e,⟨⟨q1,q2⟩,q3⟩,q4⟩:=h;refine⟨(n % 8).toNat,?_,oM,?_⟩
   ·rw [nK (by omega)];omega
   ·refine⟨(n/8).toNat,?_⟩;have:((k:Nat):Int)=(((n % 8).toNat*(n/8).toNat:Nat):Int):=by
     rw [L5,LY (by omega),LY (by omega),eP];exact e.symm
    exact_mod_cast this
theorem F4{t:Tr}(h:t.ok)(hl:t.fl.length<=60)(hd:t.dep<=8):DK 46 [xD t.fl] fun d=>∃(q:List (List Int)) (e:Int),d=.tup [qW q,.int e]/\q.length<=20/\YA q:=by
 obtain⟨op,n,cs⟩:=t;have hv:=Jk h oM hd;rw [decide_eq_true hl] at hv;have hent:=DB h hl;have hok:=h;unfold Tr.ok at hok;have har:=hok.2.2.1;have hc:Xf cs:=Y3 hok.2.2.2.2;have hcl16:=(Dx hok.1 har).1;have hmore:=Ih har;have hfl:(Tr.nd op n cs).fl=(op,n)::xq cs:=by rw [Tr.fl]
 have hdp:kh cs+1<=8:=by rw [Tr.dep] at hd;exact hd
 have hsz:(xq cs).length+1<=60:=by rw [hfl,xA] at hl;exact hl
 have hf0:((Tr.nd op n cs).fl).getD 0 default=(op,n):=by rw [hfl];rfl
 have hp0:0<((Tr.nd op n cs).fl).length:=by rw [hfl];simp
 have hop:(((Tr.nd op n cs).fl).getD 0 default).1=op:=by rw [hf0]
 have hn0:(((Tr.nd op n cs).fl).getD 0 default).2=n:=by rw [hf0]
 generalize (Tr.nd op n cs).fl=f at *;refine wj ?_;refine xr ?_;intros;refine qf O O hv ?_;rintro _ rfl;by_cases ho:op=12\/op=13\/op=6
 ·have hcl1:=hmore.1 ho;have tail:∀{Q:Prop},Q->Q:=fun h=>h;rcases ho with ho|ho|ho
  all_goals
   refine qc ?_;intros;refine qS O O hent ?_;intros;refine qN (fun m E S nk=>∃(k:Nat) (q:List (List Int)),k+m=cs.length/\q.length=k/\Bz q/\E=[(0,xD f),(5,.one (.f (.sl 1 cs.length (cs.flatMap Lo)))),(6,.one (.own 0 0 q.length 1)),(7,.int k)]/\S=[(0,.data (q.flatMap ja))]/\nk=1) (cs.length) ⟨0,[],oM,O,fun x hx=>(by cases hx),O,O,O⟩ ?_;rintro m E S nk ⟨k,q,hm,hq,hqe,rfl,rfl,rfl⟩;refine qc ?_;intros;refine qh O (fun g=>?_) (fun g=>?_)
   ·have hmem:=qn (l:=cs) (i:=k) oM;have h1:=BD hmem;have h2:=E6 hmem;refine qc ?_;intros;refine qf O O (pG (hc _ hmem) oM oM) ?_;rintro _ ⟨c,e,rfl,hcl,hcc⟩;refine qc ?_;intros;refine xw O (fun g2=>?_) (fun g2=>?_)
    ·refine qc ?_;intros;exact qb ⟨_,O,O,.tup [qW [],.int 110],nv,[],110,O,by simp,.nil⟩
    ·refine qc ?_;intros;exact qM (m':=m-1) (by omega) ⟨k+1,q++[c],by omega,by simp;omega,fun x hx=>(by
      rcases xu.1 hx with h3|h3
      ·exact hqe x h3
      ·rw [xM.1 h3];exact⟨hcl,hcc⟩),rfl,rfl,rfl⟩ xp
   ·have hqc:q.length=cs.length:=oM;have hrw:=UR (l:=q) (op:=(f.getD 0 default).1) (n:=(f.getD 0 default).2) hqe (by omega) (by omega) (fun h13=>by rw [hn0,hqc];exact hmore.2 (by rw [<-hop];exact h13));have hql:(q.flatMap ja).length=q.length*1:=kH (fun _=>by rfl) _;refine qF 0 O qo qo ?_;refine qc ?_;intros;refine qf O O hrw ?_;rintro _ ⟨q2,rfl,hq2,hq20,hq2l⟩;refine qc ?_;intros;refine qh O (fun g2=>?_) (fun g2=>?_)
    ·refine qc ?_;intros;exact qb ⟨_,O,O,.tup [qW [],.int 110],nv,[],110,O,by simp,.nil⟩
    ·refine qc ?_;intros;exact qb ⟨_,O,O,.tup [qW q2,.int 0],nv,q2,0,O,hq2,hq2l⟩
 ·refine qc ?_;intros;exact qb ⟨_,O,O,.tup [qW [],.int 110],nv,[],110,O,by simp,.nil⟩
theorem Ac{t:Tr}(h:t.ok)(hl:t.fl.length<=60)(hd:t.dep<=8):DK 45 [xD t.fl] fun d=>∃b:Bool,d=.bool b:=by
 refine xr ?_;intros;refine qf O O (F4 h hl hd) ?_;rintro _ ⟨q,e,rfl, -, -⟩;refine qc ?_;intros;exact qb ⟨_,O,O,_,O⟩
end Go.Ai
