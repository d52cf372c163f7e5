/- -/
import Derived.Test.YtdlelodnhjacgaaGreatDoorAb19
set_option linter.unusedSimpArgs false
set_option linter.unusedVariables false
set_option maxRecDepth 8000
set_option maxHeartbeats 16000000
namespace Go.Ai
open Go.Ab Go.Proofs
def wR(b:Bool):FD:=.c (.bool b)
abbrev Mp(s:ByteArray)(i:Int)(st:StL)(l:List StL):List FD:=[.c (.str s),FD.int i,FD.int st.mode,FD.int st.last,.c (.int .u8 st.need),.sl 3 l.length (l.flatMap n4)]
abbrev Tj(s:ByteArray)(i:Int)(st:StL)(l:List StL):DV:=.agg ((Mp s i st l).map .f)
abbrev uE(R:List (List Int)):DV:=.one (.f (.sl 1 R.length (R.flatMap cU)))
theorem BX{t:TbL}{s:ByteArray}{l:List StL}{R:List (List Int)}{i r:Nat}{st:StL}(hl:StsOk t l)(hrl:t.rules.length<1000)(hr:r<t.rules.length)(hru:KY (t.rules.getD r default)=true)(hst:st∈l)(hs:s.size<1000)(hi:i<=s.size)(hR:R.length=s.size+1)(hrow:∀j,i<=j->j<=s.size->(R.getD j default).length=l.length)(hbd:∀j m,i<=j->j<=s.size->m<l.length->zF R j m<1000000):DK 151 [Zv t,Tj s i st l,.int r,uE R] fun d=>d=.int (yY t s l R i st r):=by
 obtain⟨a1,a2,a3, -⟩:=(Z4 hru).1;have hnn:=hl.nn;refine xr ?_;intros;refine qf O O (iT hrl hr hru (hl.ok _ hst)) ?_;rintro _ rfl;cases hsp:jv st (t.rules.getD r default) with
 |none=>
  refine qc ?_;intros;exact qb ⟨_,O,O,by rw [yY,hsp]⟩
 |some s2=>
  have hm2:=hl.cl _ hst _ (qn hr) _ hsp;have hix:yN l s2<l.length:=LT hm2;refine qc ?_;intros;refine qf O O (BW oM hi oM) ?_;rintro _ rfl;cases hb:Zr s i (t.rules.getD r default).pr with
  |false=>
   refine qc ?_;intros;exact qb ⟨_,O,O,by rw [yY,hsp];simp only [hb];rfl⟩
  |true=>
   have hle:i+(t.rules.getD r default).pr.size<=s.size:=by
    unfold Zr at hb;rw [x8] at hb;exact xo hb.1
   have hrw:=hrow _ (Nat.le_add_right i (t.rules.getD r default).pr.size) hle;have hbw:(R.getD (i+(t.rules.getD r default).pr.size) default).getD (yN l s2) default<1000000:=hbd _ (yN l s2) (Nat.le_add_right i (t.rules.getD r default).pr.size) hle hix;refine qc ?_;intros;refine qS O O (Yt oM hm2) ?_;intros;refine qh O (fun g=>?_) (fun g=>?_)
   ·refine qc ?_;intros;refine qb ⟨_,O,O,?_⟩;rw [yY,hsp];simp only [hb,if_true];rw [if_pos g]
   ·refine qc ?_;intros;refine qb ⟨_,O,O,?_⟩;rw [yY,hsp];simp only [hb,if_true];rw [if_neg g]
def Qr(v:Int):FD:=.c (.int .i64 v)
theorem RowG.rows{t:TbL}{s:ByteArray}{l:List StL}{R:List (List Int)}{i:Nat}(h:RowG t s l R i)(j:Nat)(hj:i<=j)(hs:j<=s.size):(R.getD j default).length=l.length:=by
 rcases bD i j with h1|h1
 ·exact (h.done j h1 hs).len
 ·obtain rfl:i=j:=by omega
  exact h.len
theorem RowG.val{t:TbL}{s:ByteArray}{l:List StL}{R:List (List Int)}{i:Nat}(h:RowG t s l R i)(hl:l.length<=8)(hs:s.size<1000)(j m:Nat)(hj:i<=j)(hjs:j<=s.size)(hm:m<l.length):zF R j m<1000000:=by
 rcases bD i j with h1|h1
 ·have:=((h.done j h1 hjs).bd m hm).2;omega
 ·obtain rfl:i=j:=by omega
  have h2:=(h.bd m hm).2;have h3:=u9 (R.getD i default);have h4:=h.len;omega
theorem RowF.congr{t:TbL}{s:ByteArray}{l:List StL}{R R':List (List Int)}{j:Nat}(h:RowF t s l R j)(e:∀a,j<=a->R'.getD a default=R.getD a default):RowF t s l R' j:=by
 have hat:∀a m,j<=a->zF R' a m=zF R a m:=fun a m ha=>by unfold zF;rw [e a ha]
 refine⟨by rw [e j (qz _)];exact h.len,fun k hk=>by rw [hat _ _ (qz _)];exact h.bd k hk,fun k hk hp=>?_⟩;rw [hat _ _ (qz _)] at hp ⊢;obtain⟨r,h1,h2⟩:=h.wit k hk hp;exact⟨r,h1,by rw [pT hat];exact h2⟩
theorem lU{l:List (List Int)}{i j:Nat}{x:List Int}(h:j≠i):(l.set i x).getD j default=l.getD j default:=by
 rw [qT,eI (by omega),<-qT]
def CS(t:TbL)(s:ByteArray)(l:List StL)(R:List (List Int))(i k r:Nat):Prop:=0<=yY t s l R i (l.getD k default) r->¬(zF R i k<0\/yY t s l R i (l.getD k default) r<zF R i k)
theorem TO{v c:Int}(h0:0<=c)(h:QM v c≠v):v<0\/c<v:=by
 unfold QM at h;split at h
 ·rename_i h1;omega
 ·exact absurd O h
theorem TP{v c:Int}(h0:0<=c)(h:QM v c=v):¬(v<0\/c<v):=by
 unfold QM at h;split at h
 ·rename_i h1;omega
 ·rename_i h1;omega
abbrev YR(t:TbL):Bk:=.cells [.f (FD.int t.modes),.f (.c (.int .u8 t.acc)),.f (Z3 t)]
theorem Lc{R:List (List Int)}{i k:Nat}{c:Int}(hi:i<R.length)(hk:k<(R.getD i default).length)(h0:0<=c)(hc:c<1000000)(h:zF R i k<0\/c<zF R i k):wt ((yT R i k c).getD i default)<wt (R.getD i default):=by
 unfold yT;rw [Qc hi];exact La hk h0 hc h
theorem IQ7{U:List StL}{t:TbL}{s:ByteArray}(hu:TOk U t)(hs:s.size<1000):DK 146 [Zv t,xI s] fun d=>∃R,d=uE R/\R.length=s.size+1/\StsOk t (vj t)/\∀j,j<=s.size->RowF t s (vj t) R j:=by
 have hrl:=hu.rl;refine xr ?_;intros;refine qf O O (dP hu) ?_;rintro _ ⟨rfl,hl⟩;generalize vj t=l at *;have hnn:=hl.nn;refine qc ?_;intros;refine A0 (n:=s.size+1) O O oM oM ?_;refine qc ?_;intros;refine qN (fun m E S nk=>∃(R:List (List Int)),m<=s.size+1/\R.length=s.size+1/\(∀j,m<=j->j<=s.size->RowF t s l R j)/\E=[(1,xI s),(2,.one (.ptr 0 0)),(5,w9 l),(6,.one (.own 1 0 (s.size+1) 1)),(7,.int ((m:Int)-1))]/\S=[(0,YR t),(1,.tree (zD Qr R))]/\nk=2) (s.size+1) ⟨List.replicate (s.size+1) [],by omega,by simp,fun j h1 h2=>by omega,rfl,rfl,rfl⟩ ?_;rintro m E S nk ⟨R,hm,hR,hdone,rfl,rfl,rfl⟩;refine qc ?_;intros;refine qh O (fun g=>?_) (fun g=>?_)
 ·obtain⟨i,rfl⟩:∃i,m=i+1:=⟨m-1,oM⟩;rw [show ((i+1:Nat):Int)-1=(i:Nat) by omega];refine qc ?_;intros;refine pA (R:=R) (g:=Qr) (f:=yL) (q:=List.replicate l.length 0) (fun _=>O) O O O O sM (by omega) O ?_;refine qc ?_;intros;refine qN (fun m E S nk=>∃(k:Nat) (R':List (List Int)),k+m=l.length/\R'.length=s.size+1/\(∀j,j≠i->R'.getD j default=R.getD j default)/\(R'.getD i default).length=l.length/\(∀a,a<k->zF R' i a= -1\/zF R' i a=0)/\E=[(1,xI s),(2,.one (.ptr 0 0)),(5,w9 l),(6,.one (.own 1 0 (s.size+1) 1)),(7,.int i),(8,.int k)]/\S=[(0,YR t),(1,.tree (zD Qr R'))]/\nk=2) (l.length) ⟨0,R.set i (List.replicate l.length 0),by omega,by simp;exact hR,fun j hj=>lU hj,by rw [Qc (by omega)];simp,fun a ha=>absurd ha (by omega),rfl,rfl,rfl⟩ ?_;rintro m2 E S nk ⟨k,R',hm2,hR',hoth,hlen,hval,rfl,rfl,rfl⟩;refine qc ?_;intros;refine qh O (fun g2=>?_) (fun g2=>?_)
  ·have hkl:k<(R'.getD i default).length:=oM;have hir:i<R'.length:=oM;refine qc ?_;intros;refine ZS (g:=Qr) (R:=R') (-1) O O O hir hkl O ?_;have hlen2:((yT R' i k (-1)).getD i default).length=l.length:=by unfold yT;rw [Qc hir,jG];exact hlen
   have hR2:(yT R' i k (-1)).length=s.size+1:=by unfold yT;rw [jG];exact hR'
   have hoth2:∀j,j≠i->(yT R' i k (-1)).getD j default=R.getD j default:=fun j hj=>by unfold yT;rw [lU hj];exact hoth j hj
   have hval2:∀a,a<k+1->zF (yT R' i k (-1)) i a= -1\/zF (yT R' i k (-1)) i a=0:=fun a ha=>by
    rw [Wn hir hkl];split
    ·exact .inl O
    ·rename_i h1;exact hval a oM
   have fold:R'.set i ((R'.getD i default).set k (-1))=yT R' i k (-1):=rfl;rw [fold];clear fold;generalize yT R' i k (-1)=R2 at *;have hkl2:k<(R2.getD i default).length:=oM;have hir2:i<R2.length:=oM;have hnext:∀v,v= -1\/v=0->∀a,a<k+1->zF (yT R2 i k v) i a= -1\/zF (yT R2 i k v) i a=0:=fun v hv a ha=>by
    rw [Wn hir2 hkl2];split
    ·exact hv
    ·exact hval2 a ha
   refine qc ?_;intros;refine zH O (fun g3=>?_) (fun g3=>?_)
   ·refine qc ?_;intros;refine qf O O (P9 hu.m hu.a (hl.ok _ (qn oM))) ?_;rintro _ ⟨b,rfl⟩;refine qc ?_;intros;refine qd O (fun g4=>?_) (fun g4=>?_)
    ·refine qc ?_;intros;refine ZS (g:=Qr) (R:=R2) 0 O O O hir2 hkl2 O ?_;refine qc ?_;intros;exact qG ⟨k+1,yT R2 i k 0,by omega,by unfold yT;rw [jG];exact hR2,fun j hj=>(by unfold yT;rw [lU hj];exact hoth2 j hj),by unfold yT;rw [Qc hir2,jG];exact hlen2,hnext 0 (.inr rfl),rfl,rfl,rfl⟩
    ·refine qc ?_;intros;exact qG ⟨k+1,R2,oM,hR2,hoth2,hlen2,hval2,O,O,O⟩
   ·refine qc ?_;intros;exact qG ⟨k+1,R2,oM,hR2,hoth2,hlen2,hval2,O,O,O⟩
  ·have hG:RowG t s l R' i:=by
    refine⟨hR',oM,hlen,fun a ha=>?_,fun a ha hp=>?_,fun j h1 h2=>(hdone j oM h2).congr fun a ha=>hoth a oM⟩
    ·have:=hval a oM;omega
    ·have:=hval a oM;omega
   clear hval hlen hoth hR' hdone hR;refine qc ?_;intros;refine qN (fun m E S nk=>∃(R:List (List Int)) (c:Bool),wt (R.getD i default)+(if c then 1 else 0)<=m/\RowG t s l R i/\(c=false->∀k,k<l.length->∀r,r<t.rules.length->CS t s l R i k r)/\E=[(1,xI s),(2,.one (.ptr 0 0)),(5,w9 l),(6,.one (.own 1 0 (s.size+1) 1)),(7,.int i),(9,.bool c)]/\S=[(0,YR t),(1,.tree (zD Qr R))]/\nk=2) (wt (R'.getD i default)+1) ⟨R',true,by simp,hG,fun h=>(by cases h),rfl,rfl,rfl⟩ ?_
   clear hG R' g2 R;rintro m3 E S nk ⟨R,c,hw,hG,hst,rfl,rfl,rfl⟩;refine qc ?_;intros;refine qd O (fun g5=>?_) (fun g5=>?_)
   ·subst g5;have hw:wt (R.getD i default)+1<=m3:=hw;refine qc ?_;intros;refine qN (fun m E S nk=>∃(k:Nat) (R':List (List Int)) (c:Bool),k+m=l.length/\RowG t s l R' i/\wt (R'.getD i default)+(if c then 1 else 0)<=wt (R.getD i default)/\(c=false->∀a,a<k->∀r,r<t.rules.length->CS t s l R' i a r)/\E=[(1,xI s),(2,.one (.ptr 0 0)),(5,w9 l),(6,.one (.own 1 0 (s.size+1) 1)),(7,.int i),(9,.bool c),(10,.int k)]/\S=[(0,YR t),(1,.tree (zD Qr R'))]/\nk=2) (l.length) ⟨0,R,false,by omega,hG,by simp,fun _ a ha=>absurd ha (by omega),rfl,rfl,rfl⟩ ?_
    rintro m4 E S nk ⟨k,R1,c,hm4,hG1,hw1,hst1,rfl,rfl,rfl⟩;refine qc ?_;intros;refine qh O (fun g6=>?_) (fun g6=>?_)
    ·refine qc ?_;intros;refine qN (fun m E S nk=>∃(r:Nat) (R':List (List Int)) (c:Bool),r+m=t.rules.length/\RowG t s l R' i/\wt (R'.getD i default)+(if c then 1 else 0)<=wt (R.getD i default)/\(c=false->(∀a,a<k->∀r,r<t.rules.length->CS t s l R' i a r)/\∀b,b<r->CS t s l R' i k b)/\E=[(1,xI s),(2,.one (.ptr 0 0)),(5,w9 l),(6,.one (.own 1 0 (s.size+1) 1)),(7,.int i),(9,.bool c),(10,.int k),(11,.int r)]/\S=[(0,YR t),(1,.tree (zD Qr R'))]/\nk=2) (t.rules.length) ⟨0,R1,c,oM,hG1,hw1,fun h=>⟨hst1 h,fun b hb=>absurd hb oM⟩,O,O,O⟩ ?_
     clear hG1 hw1 hst1 R1 c;rintro m5 E S nk ⟨r,R1,c,hm5,hG1,hw1,hst1,rfl,rfl,rfl⟩;refine qc ?_;intros;refine qh O (fun g7=>?_) (fun g7=>?_)
     ·have hR1:=hG1.rl;have hil:=hG1.il;have hrow:=hG1.rows i (qz _) hil;have hru:=hu.r _ (qn (l:=t.rules) (i:=r) oM);have haf:=BX (R:=R1) (i:=i) hl oM (r:=r) oM hru (st:=l.getD k default) (qn oM) hs hil hR1 hG1.rows (fun j m=>hG1.val hnn hs j m);have hbd:=R4 (s:=s) (R:=R1) (i:=i) hl hu.r hG1 (qn (l:=l) (i:=k) oM) (r:=r) oM;have hfl:=u9 (R1.getD i default);refine qc ?_;intros;refine Ys (ds:=[Zv t,Tj s i (l.getD k default) l,.int r,uE R1]) O ⟨⟨_,O,⟨O,O⟩,⟨O,O⟩,⟨O,O⟩,trivial⟩,⟨_,O,⟨O,O⟩,⟨O,O⟩,⟨O,O⟩,⟨O,O⟩,⟨O,O⟩,⟨O,O⟩,trivial⟩,⟨_,O,O,O⟩,SB (f:=yL) (g:=Qr) (fun _=>O) O hR1,trivial⟩ haf (by rintro _ rfl;rfl) ?_;rintro _ rfl;have hsame:CS t s l R1 i k r->c=false->(∀a,a<k->∀r,r<t.rules.length->CS t s l R1 i a r)/\∀b,b<r+1->CS t s l R1 i k b:=fun hb hc=>⟨(hst1 hc).1,fun b hb2=>by
       rcases bD b r with h1|h1
       ·exact (hst1 hc).2 b h1
       ·obtain rfl:b=r:=by omega
        exact hb⟩
      generalize hcv:yY t s l R1 i (l.getD k default) r=cv at *;refine qc ?_;intros;refine xT O (fun g8=>?_) (fun g8=>?_)
      ·refine qc ?_;intros;refine qS O O Hi ?_;intros;refine xw O (fun g9=>?_) (fun g9=>?_)
       ·have hb:=TO oM g9;have hput:=hG1.put hl hu.r (k:=k) (r:=r) oM oM hcv oM hb;have hwp:=Lc (R:=R1) (i:=i) (k:=k) (c:=cv) oM oM oM oM hb;refine qc ?_;intros;refine ZS (g:=Qr) (R:=R1) cv O O O oM oM O ?_;refine qc ?_;intros;exact qG ⟨r+1,yT R1 i k cv,true,by omega,hput,by show wt _+1<=wt _;omega,fun h=>(by cases h),rfl,rfl,rfl⟩
       ·refine qc ?_;intros;exact qG ⟨r+1,R1,c,by omega,hG1,hw1,hsame (fun h0=>by rw [hcv];exact TP (by omega) g9),rfl,rfl,rfl⟩
      ·refine qc ?_;intros;exact qG ⟨r+1,R1,c,by omega,hG1,hw1,hsame (fun h0=>absurd h0 (by rw [hcv];omega)),rfl,rfl,rfl⟩
     ·refine qc ?_;intros;exact qM (m':=m4-1) oM ⟨k+1,R1,c,oM,hG1,hw1,fun hc a ha b hb=>(by
       rcases bD a k with h1|h1
       ·exact (hst1 hc).1 a h1 b hb
       ·obtain rfl:a=k:=by omega
        exact (hst1 hc).2 b oM),O,O,O⟩ xp
    ·refine qc ?_;intros;exact qM (m':=wt (R1.getD i default)+(if c then 1 else 0)) oM ⟨R1,c,qz _,hG1,fun hc a ha b hb=>hst1 hc a oM b hb,O,O,O⟩ xp
   ·have hF:=hG.fin hl (hst g5);have hrl2:=hG.rl;refine qc ?_;intros;exact qM (m':=i) oM ⟨R,oM,hG.rl,fun j h1 h2=>(by
     rcases bD i j with h3|h3
     ·exact hG.done j h3 h2
     ·obtain rfl:i=j:=by omega
      exact hF),by rw [show (i:Int)-1=(i:Int)-1 from rfl],rfl,rfl⟩ xp
 ·obtain rfl:m=0:=by omega
  have hrr:s.size+1=(zD Qr R).length:=by rw [xX,hR]
  refine qc ?_;intros;refine XF 1 O qo qo ?_;refine qc ?_;intros;refine qb ⟨_,O,O,R,?_,hR,hl,fun j hj=>hdone j oM hj⟩;show DV.one (.f (.sl 1 (s.size+1) ((zD Qr R).map xn)))=_;rw [Xl (f:=yL) (g:=Qr) (fun _=>rfl),<-hR];rfl
abbrev Bm(R:List (List Bool))(j k:Nat):Bool:=(R.getD j default).getD k default
def B3(r:List Bool):Nat:=(r.map fun b=>if b then 0 else 1).sum
def XI(R:List (List Bool)):Nat:=(R.map B3).sum
def setB(R:List (List Bool))(i k:Nat):List (List Bool):=R.set i ((R.getD i default).set k true)
theorem Aw{r:List Bool}{k:Nat}(hk:k<r.length)(h:r.getD k default=false):B3 (r.set k true)<B3 r:=by
 induction r generalizing k with
 |nil=>exact absurd hk (eL _)
 |cons v r ih=>
  cases k with
  |zero=>
   have:v=false:=h;subst this;simp [B3]
  |succ k=>
   have:=ih (k:=k) (by simpa using hk) h;simp only [DN,B3,jr,nU] at this ⊢;omega
theorem Ax{R:List (List Bool)}{i k:Nat}(hi:i<R.length)(hk:k<(R.getD i default).length)(h:Bm R i k=false):XI (setB R i k)<XI R:=by
 unfold setB Bm at *;induction R generalizing i with
 |nil=>exact absurd hi (eL _)
 |cons v R ih=>
  cases i with
  |zero=>
   have:=Aw (r:=v) hk h;simp only [LV,XI,jr,nU];exact Nat.add_lt_add_right this _
  |succ i=>
   have:=ih (i:=i) (by simpa using hi) hk h;simp only [DN,XI,jr,nU] at this ⊢;exact Nat.add_lt_add_left this _
theorem WG{R:List (List Bool)}{i k:Nat}:(setB R i k).length=R.length:=jG
theorem tH{R:List (List Bool)}{i k j n:Nat}(hi:i<R.length)(h:∀j,j<R.length->(R.getD j default).length=n)(hj:j<R.length):((setB R i k).getD j default).length=n:=by
 unfold setB;by_cases e:j=i
 ·subst e;rw [qT,nI hi,QB,jG];exact h j hj
 ·rw [qT,eI (by omega),<-qT];exact h j hj
theorem T1{l:List (List Bool)}{i j:Nat}{x:List Bool}(h:j≠i):(l.set i x).getD j default=l.getD j default:=by
 rw [qT,eI (by omega),<-qT]
theorem OM{l:List (List Bool)}{i:Nat}{x:List Bool}(hi:i<l.length):(l.set i x).getD i default=x:=by
 rw [qT,nI hi,QB]
section
variable{p:Par}{base rs:Nat}{Q:qk->Bx->Nat->Prop}{r:List SOper}{W:Wt}{A:List Nat}{E:qk}{S:Bx}{nk:Nat}{id:Nat}{dst:Option Nat}{aid:Option Nat}{ws:List Nat}{keep:Bool}
theorem mX {α:Type} {g:α->FD} {R:List (List α)} {i o k:Nat} (y:α) {a v:Opd} (ha:ro E a=some (.one (.tptr k i o))) (hv:ro E v=some (.one (.f (g y)))) (hk:lk S k=some (.tree (zD g R))) (hi:i<R.length) (ho:o<(R.getD i default).length) (hw:KN S k W=true)
 (h:DPW p base rs Q r W A (qI E dst .undef) (put k (.tree (zD g (R.set i ((R.getD i default).set o y)))) S) nk):DPW p base rs Q (⟨id,dst,.e (.store 1 a v),none,aid,ws,keep⟩::r) W A E S nk:=by
 refine Nv ha hv hk (eU hi) (by rw [xX];exact ho) hw ?_;rw [show ((R.getD i default).map g).set o (g y)=((R.getD i default).set o y).map g by simp [eQ],lH];exact h
end
theorem PP{U:List StL}{t:TbL}{s:ByteArray}(hu:TOk U t)(hs:s.size<1000):DK 147 [Zv t,xI s] fun d=>∃n:Nat,d=.int n:=by
 have hrl:=hu.rl;refine xr ?_;intros;refine qf O O (dP hu) ?_;rintro _ ⟨rfl,hl⟩;generalize vj t=l at *;have hnn:=hl.nn;have hne:=hl.ne;refine qc ?_;intros;refine A0 (n:=s.size+1) O O oM oM ?_;refine qc ?_;intros;refine qN (fun m E S nk=>∃(i:Nat) (R:List (List Bool)),i+m=s.size+1/\R.length=s.size+1/\(∀j,j<i->(R.getD j default).length=l.length)/\E=[(1,xI s),(2,.one (.ptr 0 0)),(5,w9 l),(6,.one (.own 1 0 (s.size+1) 1)),(7,.int 0),(8,.int i)]/\S=[(0,YR t),(1,.tree (zD wR R))]/\nk=2) (s.size+1) ⟨0,List.replicate (s.size+1) [],by omega,by simp,fun j h=>absurd h (by omega),rfl,rfl,rfl⟩ ?_;rintro m E S nk ⟨i,R,hm,hR,hrow,rfl,rfl,rfl⟩;refine qc ?_;intros;refine qh O (fun g=>?_) (fun g=>?_)
 ·refine qc ?_;intros;refine pA (R:=R) (g:=wR) (f:=Zj) (q:=List.replicate l.length false) (fun _=>O) O O O O sM (by omega) O ?_;refine qc ?_;intros;exact qM (m':=m-1) (by omega) ⟨i+1,R.set i (List.replicate l.length false),by omega,by rw [jG];exact hR,fun j hj=>(by
   by_cases e:j=i
   ·subst e;rw [OM (by omega)];simp
   ·rw [T1 e];exact hrow j (by omega)),rfl,rfl,rfl⟩ xp
 ·have hrows:∀j,j<R.length->(R.getD j default).length=l.length:=fun j hj=>hrow j oM;have hrow0:=hrows 0 oM;refine qc ?_;intros;refine ZS (g:=wR) (R:=R) true O O O oM oM O ?_;have hRl:(setB R 0 0).length=s.size+1:=by rw [WG];exact hR
  have hRr:∀j,j<(setB R 0 0).length->((setB R 0 0).getD j default).length=l.length:=fun j hj=>tH (by omega) hrows (by rw [WG] at hj;exact hj);have fold:R.set 0 ((R.getD 0 default).set 0 true)=setB R 0 0:=rfl;rw [fold];clear fold;generalize setB R 0 0=R2 at *;clear hrow0 hrows hrow hR;refine qc ?_;intros;refine qN (fun m E S nk=>∃(i:Nat) (o:Nat) (R:List (List Bool)),i+m=s.size+1/\R.length=s.size+1/\(∀j,j<R.length->(R.getD j default).length=l.length)/\E=[(1,xI s),(2,.one (.ptr 0 0)),(5,w9 l),(6,.one (.own 1 0 (s.size+1) 1)),(7,.int o),(9,.int i)]/\S=[(0,YR t),(1,.tree (zD wR R))]/\nk=2) (s.size+1) ⟨0,0,R2,oM,hRl,hRr,O,O,O⟩ ?_;clear hRr hRl R2 g hm i m;rintro m E S nk ⟨i,o,R,hm,hR,hrow,rfl,rfl,rfl⟩;refine qc ?_;intros;refine qh O (fun g=>?_) (fun g=>?_)
  ·refine qc ?_;intros;refine qN (fun m E S nk=>∃(R:List (List Bool)) (c:Bool),XI R+(if c then 1 else 0)<=m/\R.length=s.size+1/\(∀j,j<R.length->(R.getD j default).length=l.length)/\E=[(1,xI s),(2,.one (.ptr 0 0)),(5,w9 l),(6,.one (.own 1 0 (s.size+1) 1)),(7,.int o),(9,.int i),(10,.bool c)]/\S=[(0,YR t),(1,.tree (zD wR R))]/\nk=2) (XI R+1) ⟨R,true,qz _,hR,hrow,O,O,O⟩ ?_
   clear hrow hR R;rintro m2 E S nk ⟨R,c,hw,hR,hrow,rfl,rfl,rfl⟩;refine qc ?_;intros;refine qd O (fun g5=>?_) (fun g5=>?_)
   ·subst g5;have hw:XI R+1<=m2:=hw;refine qc ?_;intros;refine qN (fun m E S nk=>∃(k:Nat) (R':List (List Bool)) (c:Bool),k+m=l.length/\XI R'+(if c then 1 else 0)<=XI R/\R'.length=s.size+1/\(∀j,j<R'.length->(R'.getD j default).length=l.length)/\E=[(1,xI s),(2,.one (.ptr 0 0)),(5,w9 l),(6,.one (.own 1 0 (s.size+1) 1)),(7,.int o),(9,.int i),(10,.bool c),(11,.int k)]/\S=[(0,YR t),(1,.tree (zD wR R'))]/\nk=2) (l.length) ⟨0,R,false,oM,qz _,hR,hrow,O,O,O⟩ ?_
    clear hrow hR;rintro m3 E S nk ⟨k,R1,c,hm3,hw1,hR,hrow,rfl,rfl,rfl⟩;refine qc ?_;intros;refine qh O (fun g6=>?_) (fun g6=>?_)
    ·refine qc ?_;intros;refine qN (fun m E S nk=>∃(r:Nat) (R':List (List Bool)) (c:Bool),r+m=t.rules.length/\XI R'+(if c then 1 else 0)<=XI R/\R'.length=s.size+1/\(∀j,j<R'.length->(R'.getD j default).length=l.length)/\E=[(1,xI s),(2,.one (.ptr 0 0)),(5,w9 l),(6,.one (.own 1 0 (s.size+1) 1)),(7,.int o),(9,.int i),(10,.bool c),(11,.int k),(12,.int r)]/\S=[(0,YR t),(1,.tree (zD wR R'))]/\nk=2) (t.rules.length) ⟨0,R1,c,oM,hw1,hR,hrow,O,O,O⟩ ?_
     clear hrow hR hw1 R1 c;rintro m4 E S nk ⟨r,R1,c,hm4,hw1,hR,hrow,rfl,rfl,rfl⟩;have hri:=hrow i oM;refine qc ?_;intros;refine xT O (fun g7=>?_) (fun g7=>?_)
     ·refine qc ?_;intros;refine qd O (fun g8=>?_) (fun g8=>?_)
      ·have hru:=hu.r _ (qn (l:=t.rules) (i:=r) oM);obtain⟨a1, -⟩:=(Z4 hru).1;have hkm:=qn (l:=l) (i:=k) oM;refine qc ?_;intros;refine qf O O (iT oM oM hru (hl.ok _ hkm)) ?_;rintro _ rfl;cases hsp:jv (l.getD k default) (t.rules.getD r default) with
       |none=>
        refine qc ?_;intros;exact qG ⟨r+1,R1,c,oM,hw1,hR,hrow,O,O,O⟩
       |some s2=>
        have hm2:=hl.cl _ hkm _ (qn (l:=t.rules) (i:=r) oM) _ hsp;have hix:yN l s2<l.length:=LT hm2;refine qc ?_;intros;refine qf O O (BW oM oM oM) ?_;rintro _ rfl;cases hb:Zr s i (t.rules.getD r default).pr with
        |false=>
         refine qc ?_;intros;exact qG ⟨r+1,R1,c,oM,hw1,hR,hrow,O,O,O⟩
        |true=>
         have hle:i+(t.rules.getD r default).pr.size<=s.size:=by
          unfold Zr at hb;rw [x8] at hb;exact xo hb.1
         have hrt:=hrow (i+(t.rules.getD r default).pr.size) oM;refine qc ?_;intros;refine qS O O (Yt oM hm2) ?_;intros;cases hv:Bm R1 (i+(t.rules.getD r default).pr.size) (yN l s2) with
         |true=>
          refine qd (t:=false) (by rw [show (R1.getD (i+(t.rules.getD r default).pr.size) default).getD (yN l s2) default=true from hv];rfl) (fun h=>by cases h) (fun _=>?_);refine qc ?_;intros;exact qG ⟨r+1,R1,c,oM,hw1,hR,hrow,O,O,O⟩
         |false=>
          have hcs:=Ax (R:=R1) oM oM hv;refine qd (t:=true) (by rw [show (R1.getD (i+(t.rules.getD r default).pr.size) default).getD (yN l s2) default=false from hv];rfl) (fun _=>?_) (fun h=>by cases h);refine qc ?_;intros;refine qS O O (Yt oM hm2) ?_;intros;refine mX (g:=wR) (R:=R1) true O O O oM oM O ?_;refine qc ?_;intros;exact qG ⟨r+1,setB R1 (i+(t.rules.getD r default).pr.size) (yN l s2),true,by omega,by show XI _+1<=_;omega,by rw [WG];exact hR,fun j hj=>tH (by omega) hrow (by rw [WG] at hj;exact hj),rfl,rfl,rfl⟩
      ·refine qc ?_;intros;exact qG ⟨k+1,R1,c,oM,hw1,hR,hrow,O,O,O⟩
     ·refine qc ?_;intros;exact qG ⟨k+1,R1,c,oM,hw1,hR,hrow,O,O,O⟩
    ·refine qc ?_;intros;exact qM (m':=XI R1+(if c then 1 else 0)) oM ⟨R1,c,qz _,hR,hrow,O,O,O⟩ xp
   ·have hri:=hrow i oM;refine qc ?_;intros;refine qh O (fun g6=>?_) (fun g6=>?_)
    ·refine qc ?_;intros;refine jL (j:=i) O O oM ?_;refine qc ?_;intros;refine qf O O (dS (XW _ _)) ?_;rintro _ rfl;have hcb:=RG (bt s i);refine qc ?_;intros;refine qN (fun m E S nk=>∃(k o:Nat),k+m=l.length/\E=[(1,xI s),(2,.one (.ptr 0 0)),(5,w9 l),(6,.one (.own 1 0 (s.size+1) 1)),(7,.int o),(9,.int i),(16,.int (JG (bt s i))),(17,.int k)]/\S=[(0,YR t),(1,.tree (zD wR R))]/\nk=2) (l.length) ⟨0,o,oM,O,O,O⟩ ?_;clear o;rintro m3 E S nk ⟨k,o,hm3,rfl,rfl,rfl⟩;refine qc ?_;intros;refine qh O (fun g7=>?_) (fun g7=>?_)
     ·obtain⟨b1,b2,b3,b4,b5,b6⟩:=WB (hl.ok _ (qn (l:=l) (i:=k) oM));refine qc ?_;intros;refine xG O (fun g8=>?_) (fun g8=>?_)
      ·refine qc ?_;intros;refine qS O O (aO b5 b6 hcb.1 hcb.2) ?_;intros;refine qd O (fun g9=>?_) (fun g9=>?_)
       ·refine qc ?_;intros;exact qG ⟨k+1,i,oM,O,O,O⟩
       ·refine qc ?_;intros;exact qG ⟨k+1,o,oM,O,O,O⟩
      ·refine qc ?_;intros;exact qG ⟨k+1,o,oM,O,O,O⟩
     ·refine qc ?_;intros;exact qG ⟨i+1,o,R,oM,hR,hrow,O,O,O⟩
    ·refine qc ?_;intros;refine qN (fun m E S nk=>∃(k o:Nat),k+m=l.length/\E=[(1,xI s),(2,.one (.ptr 0 0)),(5,w9 l),(6,.one (.own 1 0 (s.size+1) 1)),(7,.int o),(9,.int i),(16,.int 0),(17,.int k)]/\S=[(0,YR t),(1,.tree (zD wR R))]/\nk=2) (l.length) ⟨0,o,oM,O,O,O⟩ ?_;clear o;rintro m3 E S nk ⟨k,o,hm3,rfl,rfl,rfl⟩;refine qc ?_;intros;refine qh O (fun g7=>?_) (fun g7=>?_)
     ·obtain⟨b1,b2,b3,b4,b5,b6⟩:=WB (hl.ok _ (qn (l:=l) (i:=k) oM));refine qc ?_;intros;refine xG O (fun g8=>?_) (fun g8=>?_)
      ·refine qc ?_;intros;refine qS O O (aO b5 b6 (Ky 0) qr) ?_;intros;refine qd O (fun g9=>?_) (fun g9=>?_)
       ·refine qc ?_;intros;exact qG ⟨k+1,i,oM,O,O,O⟩
       ·refine qc ?_;intros;exact qG ⟨k+1,o,oM,O,O,O⟩
      ·refine qc ?_;intros;exact qG ⟨k+1,o,oM,O,O,O⟩
     ·refine qc ?_;intros;exact qG ⟨i+1,o,R,oM,hR,hrow,O,O,O⟩
  ·refine qc ?_;intros;exact qb ⟨_,O,O,o,O⟩
theorem Im{t:TbL}{s:ByteArray}{l:List StL}{R:List (List Int)}{i r:Nat}{st:StL}(h:0<yY t s l R i st r):∃s2,jv st (t.rules.getD r default)=some s2/\i+(t.rules.getD r default).pr.size<=s.size/\0<=zF R (i+(t.rules.getD r default).pr.size) (yN l s2)/\yY t s l R i st r=zF R (i+(t.rules.getD r default).pr.size) (yN l s2)+(t.rules.getD r default).cells.length:=by
 unfold yY at *;split at h
 ·omega
 ·rename_i s2 e;by_cases hb:Zr s i (t.rules.getD r default).pr=true
  ·simp only [if_pos hb] at h ⊢;have hle:i+(t.rules.getD r default).pr.size<=s.size:=by
    unfold Zr at hb;rw [x8] at hb;exact xo hb.1
   split at h
   ·omega
   ·rename_i hc;exact⟨s2,e,hle,by omega,by rw [if_neg hc]⟩
  ·rw [if_neg hb] at h;omega
abbrev Lg(c p:List Int)(a e:Int):DV:=.agg [.f (.sl 1 c.length (c.flatMap qU)),.f (.sl 1 p.length (p.flatMap yL)),.f (FD.int a),.f (FD.int e)]
theorem UG{U:List StL}{t:TbL}{n:Nat}{s:ByteArray}(hu:TOk U t)(ho:Out n s)(hn:n<900):DK 101 [Zv t,xI s] fun d=>∃(c p:List Int) (a e:Int),d=Lg c p a e/\c.length<=16*(n+1)/\qA c:=by
 have hle:=ho.le;have hs:s.size<1000:=oM;have hrl:=hu.rl;refine wj ?_;refine xr ?_;intros;refine qS O O (FW ho oM) ?_;intros;refine qf O O (IQ7 hu hs) ?_;rintro _ ⟨R,rfl,hR,hl,hF⟩;have hsd:=dP hu;have hrd:=PP hu hs;have hs0:=hl.hd;generalize vj t=l at *;have hnn:=hl.nn;have hne:=hl.ne;have hrow:∀j,j<=s.size->(R.getD j default).length=l.length:=fun j hj=>(hF j hj).len;have hl0:=hrow 0 (Xa _);have hbd0:=(hF 0 (Xa _)).bd 0 hne;refine qc ?_;intros;refine qh O (fun g0=>?_) (fun g0=>?_)
 ·refine qc ?_;intros;refine qf O O hrd ?_;rintro _ ⟨k,rfl⟩;refine qc ?_;intros;exact qb ⟨_,O,O,Lg [] [] k 61,nv,[],[],k,61,O,by simp,fun c hc=>by cases hc⟩
 ·refine qc ?_;intros;refine qf O O hsd ?_;rintro _ ⟨rfl, -⟩;refine qc ?_;intros;refine qS O O BG ?_;intros;refine yG 2 0 1 O O ?_;refine yG 2 1 1 O O ?_;have g0:¬zF R 0 0<0:=g0;have hix0:yN l ⟨0,0,63⟩=0:=uU hne (fun j hj=>absurd hj oM) hs0;refine qN (fun m E S nk=>∃(i:Nat) (st:StL) (c p:List Int),i<=s.size/\st∈l/\zF R i (yN l st)=m/\(c.length:Int)+m=zF R 0 0/\qA c/\p.length<=c.length/\E=[(1,xI s),(2,.one (.ptr 0 0)),(4,.one (.ptr 1 0)),(7,uE R),(8,w9 l),(9,.one (.ptr 2 0)),(10,.one (.ptr 3 0))]/\S=[(0,YR t),(1,.cells [.f (.c .nils),.f (.c .nils),.f (FD.int 0),.f (FD.int 0)]),(2,.cells [.own 4 0 c.length 1,.own 5 0 p.length 1,.f (FD.int s.size),.f (FD.int 0)]),(3,.cells ((Mp s i st l).map .f)),(4,.data (c.flatMap qU)),(5,.data (p.flatMap yL))]/\nk=6) ((zF R 0 0).toNat) ⟨0,⟨0,0,63⟩,[],[],Xa _,hl.hm,by rw [hix0];omega,by rw [zR];omega,fun c hc=>(by cases hc),qz _,rfl,rfl,rfl⟩ ?_;rintro m E S nk ⟨i,st,c,p,hi,hst,hm,hc,hcc,hp,rfl,rfl,rfl⟩;have hix:yN l st<l.length:=LT hst;have hri:=hrow i hi;have hm':(R.getD i default).getD (yN l st) default=m:=hm;refine qc ?_;intros;refine qS O O (Yt oM hst) ?_;intros;refine qh O (fun g1=>?_) (fun g1=>?_)
  ·refine qc ?_;intros;refine qf O O (Yt oM hst) ?_;rintro _ rfl;obtain⟨r0,hr0,hw0⟩:=(hF i hi).wit (yN l st) hix oM;have hgi:l.getD (yN l st) default=st:=by
    rw [qT,zge hix];exact List.getElem_idxOf hix
   rw [hgi,hm] at hw0;refine qc ?_;intros;refine qN (fun m2 E S nk=>∃(r:Nat),r+m2=r0/\E=[(1,xI s),(2,.one (.ptr 0 0)),(4,.one (.ptr 1 0)),(7,uE R),(8,w9 l),(9,.one (.ptr 2 0)),(10,.one (.ptr 3 0)),(11,.int m),(12,.int r)]/\S=[(0,YR t),(1,.cells [.f (.c .nils),.f (.c .nils),.f (FD.int 0),.f (FD.int 0)]),(2,.cells [.own 4 0 c.length 1,.own 5 0 p.length 1,.f (FD.int s.size),.f (FD.int 0)]),(3,.cells ((Mp s i st l).map .f)),(4,.data (c.flatMap qU)),(5,.data (p.flatMap yL))]/\nk=6) r0 ⟨0,by omega,by first|rfl|(rw [hm']),rfl,rfl⟩ ?_;rintro m2 E S nk ⟨r,hr,rfl,rfl,rfl⟩;have hru:=hu.r _ (qn (l:=t.rules) (i:=r) oM);have haf:=BX (R:=R) (i:=i) hl oM (r:=r) oM hru hst hs hi hR (fun j _ hj=>hrow j hj) (fun j k _ hj hk=>by have:=((hF j hj).bd k hk).2;omega);refine qc ?_;intros;refine qS O O haf ?_;intros;refine xw O (fun g2=>?_) (fun g2=>?_)
   ·have hrr:r≠r0:=fun e=>g2 (by rw [e];exact hw0);refine qc ?_;intros;exact qG ⟨r+1,oM,O,O,O⟩
   ·obtain⟨s2,hsp,hle2,hc2,hcs⟩:=Im (t:=t) (s:=s) (l:=l) (R:=R) (i:=i) (r:=r) (st:=st) oM;obtain⟨⟨a1,a2,a3, -⟩,hrc⟩:=Z4 hru;have hm2:=hl.cl _ hst _ (qn (l:=t.rules) (i:=r) oM) _ hsp;refine qc ?_;intros;refine qf O O (iT oM oM hru (hl.ok _ hst)) ?_;rintro _ rfl;rw [hsp];refine qc ?_;intros;exact qM (m':=(zF R (i+(t.rules.getD r default).pr.size) (yN l s2)).toNat) (by omega) ⟨i+(t.rules.getD r default).pr.size,s2,c++(t.rules.getD r default).cells,p++[(r:Int)],hle2,hm2,by omega,by rw [qE];omega,hcc.app (fun x hx=>by have:=hrc x hx;omega),by rw [qE,qE,List.length_singleton];omega,rfl,rfl,rfl⟩ xp
  ·refine qc ?_;intros;have hcl:(c.flatMap qU).length=c.length*1:=kH (fun _=>by rfl) _;have hpl:(p.flatMap yL).length=p.length*1:=kH (fun _=>by rfl) _;refine qx (qg (k:=4) O (qg (k:=9) O (qv _))) (qg (k:=1) O (qg (k:=2) O (qg (k:=4) O (qg (k:=5) O (qv _))))) ?_;refine qF 4 O qo qo ?_;refine qF 5 O qo qo ?_;refine qc ?_;intros;exact qb ⟨_,O,O,Lg c p s.size 0,nv,c,p,s.size,0,O,oM,hcc⟩
end Go.Ai
