/- -/
import Derived.Test.YtandgamnamkkhaaGreatDoorAb29
set_option linter.unusedSimpArgs false
set_option maxHeartbeats 8000000
set_option linter.unusedVariables false
set_option maxRecDepth 8000
namespace Go.Ah
open Go.Ab Go.Proofs
def qV(l:List qd):FD:=.sl 2 l.length (l.flatMap qh)
def wE(cs:List (List qd)):DV:=.one (.f (.sl 1 cs.length (cs.map qV)))
theorem kH{cs:List (List qd)}{i:Nat}{c:List qd}(h:cs[i]?=some c):qT (cs.map qV) (i*1) 1=some [qV c]:=by
 have hi:i<cs.length:=(zgs h).1;rw [zw (by simp;omega)];rw [Nat.mul_one,List.drop_eq_getElem_cons (by simpa using hi)];have:cs[i]=c:=(zgs h).2;simp [this]
theorem lA{l:List qd}{gap:Int}(hs:ki l)(hn:l.length<100000):DK 118 [qx l,.int gap] fun d=>∃cs,d=wE cs/\ClS gap (qt l) cs:=by
 have hsl:(qt l).length<100000:=by
  have:=wD (xv l).nodup (fun x hx=>xi.1 hx);omega
 have hss:ki (qt l):=fun x hx=>hs x (xi.1 hx);refine qI fun Z0 lo=>?_;refine qa ?_;intros;refine qj rfl rfl (gR oM) ?_;rintro _ rfl;refine qa ?_;intros;refine qu (qf (k:=1) rfl (qf (k:=5) rfl (qf (k:=6) rfl (qw _)))) (zj _) ?_;refine qm (fun m E S nk=>∃rest out,m=rest.length/\qS rest/\(∀x∈rest,x∈qt l)/\out.length+rest.length<=(qt l).length/\(∀cs,ClS gap rest cs->ClS gap (qt l) (out++cs))/\E=[(1,.int gap),(5,qx rest),(6,.one (.own 0 0 out.length 1))]/\S=[(0,.data (out.map qV))]/\nk=1) ⟨(qt l).length,_,_,_,[],?wk,qt l,[],rfl,xv l,fun x h=>h,by simp,fun cs h=>h,rfl,rfl,rfl⟩ ?_
 case wk=>exact ql
 rintro m E S nk ⟨rest,out,hm,hrows,hsub,hout,hcls,rfl,rfl,rfl⟩;have hrl:rest.length<100000:=by omega
 have hol:(out.map qV).length=out.length*1:=by simp
 have hrs:ki rest:=fun x hx=>hss x (hsub x hx);refine qa ?_;intros;refine qb rfl (fun ht=>?_) (fun ht=>?_)
 ·simp at ht;obtain⟨p,r,rfl⟩:∃p r,rest=p::r:=by
   cases rest with
   |nil=>simp at ht
   |cons p r=>exact⟨p,r,rfl⟩
  have e0:=qY (l:=p::r) (i:=0) (x:=p) rfl;obtain⟨N,hN⟩:∃N,(p::r).length=N:=⟨_,rfl⟩;refine qa ?_;intros;refine qu (qf (k:=1) rfl (qf (k:=5) rfl (qf (k:=6) rfl (qf (k:=7) rfl (qf (k:=8) rfl (qw _)))))) (zj _) ?_;refine qm (fun m E S nk=>∃(one:List qd) (g:Bool),p∈one/\one.Nodup/\(∀x∈one,Conn gap (p::r) p x)/\(g=false->∀x∈one,∀y∈(p::r),xg x y<=gap->y∈one)/\m=2*(N-one.length)+(if g=true then 1 else 0)/\E=[(1,.int gap),(5,qx (p::r)),(6,.one (.own 0 0 out.length 1)),(7,.one (.own 1 0 one.length 2)),(8,.bool g)]/\S=[(0,.data (out.map qV)),(1,.data (one.flatMap qh))]/\nk=2) ⟨2*(N-1)+1,_,_,_,[],?wk1,[p],true,by simp,by simp,fun x hx=>?hx,fun h=>(by cases h),by simp,rfl,rfl,rfl⟩ ?_
  case wk1=>exact ql
  case hx=>simp at hx;subst hx;exact .base (by simp)
  rintro m2 E S nk ⟨one,g,hp,hnd,hconn,hclo,hm2,rfl,rfl,rfl⟩;have honl:=wD hnd fun x hx=>(hconn x hx).mem;refine qa ?_;intros;refine qb rfl (fun hg=>?_) (fun hg=>?_)
  ·subst hg;refine qa ?_;intros;refine qu (qf (k:=1) rfl (qf (k:=5) rfl (qf (k:=6) rfl (qf (k:=7) rfl (qf (k:=8) rfl (qf (k:=9) rfl (qw _))))))) (zj _) ?_;refine qm (fun k E S nk=>∃(i:Nat) (one':List qd) (g:Bool),i+k=N/\p∈one'/\one'.Nodup/\(∀x∈one',Conn gap (p::r) p x)/\one.length<=one'.length/\(g=true->one.length<one'.length)/\(g=false->∀(j:Nat) y,j<i->(p::r)[j]?=some y->∀x∈one',xg x y<=gap->y∈one')/\E=[(1,.int gap),(5,qx (p::r)),(6,.one (.own 0 0 out.length 1)),(7,.one (.own 1 0 one'.length 2)),(8,.bool g),(9,.int i)]/\S=[(0,.data (out.map qV)),(1,.data (one'.flatMap qh))]/\nk=2) ⟨N,_,_,_,[],?wk2,0,one,false,oM,hp,hnd,hconn,Nat.le_refl _,fun h=>(by cases h),fun _ j y h=>oM,rfl,rfl,rfl⟩ ?_
   case wk2=>exact ql
   rintro k E S nk ⟨i,one',g,hik,hp',hnd',hconn',hle,hgt,hg',rfl,rfl,rfl⟩;have honl':=wD hnd' fun x hx=>(hconn' x hx).mem;have hflat:=qL one';have hos:ki one':=fun x hx=>hrs x (hconn' x hx).mem;refine qa ?_;intros;refine qb rfl (fun ht2=>?_) (fun ht2=>?_)
   ·simp at ht2;have hil:i<(p::r).length:=by simp only [List.length_cons];omega
    obtain⟨y,hy⟩:∃y,(p::r)[i]?=some y:=⟨_,zge hil⟩;have hym:y∈(p::r):=zmg hy;have e1:=qY hy;refine qa ?_;intros;refine XC (ds:=[qx one',xI y]) rfl ⟨⟨_,rfl,_,_,rfl,qp _ hflat,rfl⟩,⟨_,rfl,⟨rfl,rfl⟩,⟨rfl,rfl⟩,trivial⟩,trivial⟩ (pV (l:=one') (p:=y) oM) (by rintro _ rfl;rfl) ?_;rintro _ rfl;by_cases hyo:y∈one'
    ·have g1:(!decide (y∈one'))=false:=by simp [hyo]
     refine xn ?_;intros;refine qb rfl (fun h=>by cases h) (fun _=>?_);refine qa ?_;intros;refine⟨k-1,oM,_,_,_,[],?wk3,i+1,one',g,oM,hp',hnd',hconn',hle,hgt,fun hg j z hj hz x hx hf=>?_,rfl,rfl,rfl⟩
     case wk3=>exact ql
     by_cases hji:j=i
     ·subst hji;rw [hy] at hz;obtain rfl:=zsi hz;exact hyo
     ·exact hg' hg j z oM hz x hx hf
    ·have g1:(!decide (y∈one'))=true:=by simp [hyo]
     refine xn ?_;intros;rw [show IntKind.i64.wrap ((i:Int)+1)=((i+1:Nat):Int) by rw [qg (by omega) (by omega)];omega];refine Vd (q:=qh y) (n':=1) rfl rfl rfl (by omega) (by simp;omega) (by omega) e1 ?_;refine qa ?_;intros;refine XC (ds:=[qx one',qx [y]]) rfl ⟨⟨_,rfl,_,_,rfl,qp _ hflat,rfl⟩,⟨_,rfl,rfl,rfl⟩,trivial⟩ (ka hos (fun x hx=>by simp at hx;subst hx;exact hrs x hym) (by omega) (by simp)) (by rintro _ rfl;rfl) ?_;rintro _ rfl;by_cases hd:xC one' [y]<=gap
     ·have g2:decide (xC one' [y]<=gap)=true:=by simpa using hd
      obtain⟨x,hx,hxy⟩:=(gP (fun e=>by rw [e] at hp';simp at hp') y).1 hd;refine xn ?_;intros;refine qb rfl (fun _=>?_) (fun h=>by cases h);refine qa ?_;intros;refine qy rfl rfl rfl (qp _ hflat) ⟨rfl,rfl,_,rfl,rfl⟩ oM oM (by decide) rfl ?_;refine qa ?_;intros;have hD:one'.flatMap qh++qh y=(one'++[y]).flatMap qh:=by simp
      have hL:one'.length+1=(one'++[y]).length:=by simp
      refine⟨k-1,by omega,_,_,_,[(1,3)],?wk4,i+1,one'++[y],true,by omega,by simp [hp'],?hnd,fun z hz=>?hc,by simp;omega,fun _=>by simp;omega,fun h=>(by cases h),rfl,rfl,rfl⟩
      case wk4=>rw [<-hD,<-hL];exact ql
      case hnd=>exact List.nodup_append.2 ⟨hnd',by simp,fun a ha b hb e=>by simp at hb;subst hb;subst e;exact hyo ha⟩
      case hc=>
       rcases List.mem_append.1 hz with h|h
       ·exact hconn' z h
       ·simp at h;subst h;exact .step (hconn' x hx) hym hxy
     ·have g2:decide (xC one' [y]<=gap)=false:=by simpa using hd
      refine xn ?_;intros;refine qb rfl (fun h=>by cases h) (fun _=>?_);refine qa ?_;intros;refine⟨k-1,oM,_,_,_,[],?wk5,i+1,one',g,oM,hp',hnd',hconn',hle,hgt,fun hg j z hj hz x hx hf=>?_,rfl,rfl,rfl⟩
      case wk5=>exact ql
      by_cases hji:j=i
      ·subst hji;rw [hy] at hz;obtain rfl:=zsi hz;exact absurd ((gP (fun e=>by rw [e] at hx;simp at hx) y).2 ⟨x,hx,hf⟩) hd
      ·exact hg' hg j z oM hz x hx hf
   ·simp at ht2;refine qa ?_;intros;refine⟨2*(N-one'.length)+(if g=true then 1 else 0),?hlt,_,_,_,[],?wk6,one',g,hp',hnd',hconn',fun hg x hx y hy hf=>?_,rfl,rfl,rfl,rfl⟩
    case wk6=>exact ql
    case hlt=>
     rw [hm2];cases g with
     |true=>have:=hgt rfl;simp;omega
     |false=>simp;omega
    obtain⟨j,hj⟩:=List.getElem?_of_mem hy;have hjl:=(zgs hj).1;simp at hjl;exact hg' hg j y (by simp at hN;omega) hj x hx hf
  ·subst hg;have hclo:=hclo rfl;have hcc:=WH hp hconn hclo;have hflat:=qL one;refine qa ?_;intros;refine qu (qf (k:=1) rfl (qf (k:=5) rfl (qf (k:=6) rfl (qf (k:=7) rfl (qf (k:=10) rfl (qf (k:=11) rfl (qw _))))))) (zj _) ?_;refine qm (fun k E S nk=>∃(i:Nat) (left:List qd),i+k=N/\left=minus ((p::r).take i) one/\E=[(1,.int gap),(5,qx (p::r)),(6,.one (.own 0 0 out.length 1)),(7,.one (.own 1 0 one.length 2)),(10,.one (.own 2 0 left.length 2)),(11,.int i)]/\S=[(0,.data (out.map qV)),(1,.data (one.flatMap qh)),(2,.data (left.flatMap qh))]/\nk=3) ⟨N,_,_,_,[],?wk7,0,[],by omega,by simp [minus],rfl,rfl,rfl⟩ ?_
   case wk7=>exact ql
   rintro k E S nk ⟨i,left,hik,hleft,rfl,rfl,rfl⟩;have hll:left.length<=i:=by
    rw [hleft];unfold minus;have:=List.length_filter_le (fun x=>!decide (x∈one)) ((p::r).take i);have h2:=List.length_take_le i (p::r);omega
   have hlfl:=qL left;refine qa ?_;intros;refine qb rfl (fun ht2=>?_) (fun ht2=>?_)
   ·simp at ht2;have hil:i<(p::r).length:=by simp only [List.length_cons];omega
    obtain⟨y,hy⟩:∃y,(p::r)[i]?=some y:=⟨_,zge hil⟩;have e1:=qY hy;refine qa ?_;intros;refine XC (ds:=[qx one,xI y]) rfl ⟨⟨_,rfl,_,_,rfl,qp _ hflat,rfl⟩,⟨_,rfl,⟨rfl,rfl⟩,⟨rfl,rfl⟩,trivial⟩,trivial⟩ (pV (l:=one) (p:=y) oM) (by rintro _ rfl;rfl) ?_;rintro _ rfl;refine qa ?_;intros;have hstep:minus ((p::r).take (i+1)) one=if y∈one then left else left++[y]:=by
     rw [List.take_add_one,hy,minus,List.filter_append,hleft,minus];by_cases hyo:y∈one<;>simp [hyo]
    refine qb rfl (fun hb=>?_) (fun hb=>?_)
    ·have hyo:y∉one:=by simpa using hb
     rw [if_neg hyo] at hstep;refine qa ?_;intros;refine qy rfl rfl rfl (qp _ hlfl) ⟨rfl,rfl,_,rfl,rfl⟩ oM oM (by decide) rfl ?_;refine qa ?_;intros;have hD:left.flatMap qh++qh y=(left++[y]).flatMap qh:=by simp
     have hL:left.length+1=(left++[y]).length:=by simp
     refine⟨k-1,oM,_,_,_,[(2,4)],?wk8,i+1,left++[y],oM,hstep.symm,rfl,rfl,rfl⟩
     case wk8=>rw [<-hD,<-hL];exact ql
    ·have hyo:y∈one:=by simpa using hb
     rw [if_pos hyo] at hstep;refine qa ?_;intros;refine⟨k-1,oM,_,_,_,[],?wk9,i+1,left,oM,hstep.symm,rfl,rfl,rfl⟩
     case wk9=>exact ql
   ·simp at ht2;have hlr:left=minus (p::r) one:=by rw [hleft,List.take_of_length_le (by simp at hN ⊢;omega)]
    refine qH 1 rfl qD qD ?_;refine qa ?_;intros;refine qj (ds:=[qx one]) rfl rfl (gR (l:=one) oM) ?_;rintro _ rfl;refine qa ?_;intros;refine qy rfl rfl rfl (qp _ hol) ⟨rfl,rfl,_,rfl,rfl⟩ oM oM (by decide) rfl ?_;refine JB 2 rfl qD qD ?_;refine qa ?_;intros;have hD:out.map qV++[qV (qt one)]=(out++[qt one]).map qV:=by simp
    have hL:out.length+1=(out++[qt one]).length:=by simp
    refine⟨left.length,?hlt,_,_,_,[(0,4)],?wka,left,out++[qt one],rfl,?hr,fun x hx=>?hs2,?hle,fun cs hcs=>?hcl,rfl,rfl,rfl⟩
    case wka=>rw [<-hD,<-hL];exact ql
    case hlt=>have:=X0 (r:=r) hp;rw [hlr,hm];simp;omega
    case hr=>rw [hlr];exact hrows.minus _
    case hs2=>rw [hlr,yX] at hx;exact hsub x hx.1
    case hle=>have:=X0 (r:=r) hp;rw [hlr];simp at hout ⊢;omega
    case hcl=>
     rw [List.append_assoc];refine hcls _ (.cons (xv one) (fun x=>xi.trans (hcc x)) ?_);have:minus (p::r) (qt one)=left:=by
      rw [hlr];unfold minus;congr 1;funext x;simp [xi]
     rw [this];exact hcs
 ·simp at ht;subst ht;refine qa ?_;intros;refine qu (qf (k:=4) rfl (qw _)) (zj _) ?_;refine qH 0 rfl qD qD ?_;refine qa ?_;intros;refine qc ⟨_,rfl,rfl,out,rfl,?_⟩;have:=hcls [] .nil;simpa using this
def S3(R:xk)(left:Int):Bx:=[(0,.mt (qU R)),(1,.cells [.om 0]),(2,.cells [.f (.c (.int .i64 left))])]
def S4(R:xk)(left:Int)(A:List FD):Bx:=[(0,.mt (qU R)),(1,.cells [.om 0]),(2,.cells [.f (.c (.int .i64 left))]),(3,.data A)]
def S5(R:xk)(left:Int)(A B:List FD):Bx:=[(0,.mt (qU R)),(1,.cells [.om 0]),(2,.cells [.f (.c (.int .i64 left))]),(3,.data A),(4,.data B)]
theorem oD{ρ:List (Nat × Nat)}{n0:Nat}{S:Bx}{R:xk}{left:Int}(h0:lk S (rn ρ 0)=some (.mt (qU R)))(h1:lk S (rn ρ 1)=some (.cells [.om (rn ρ 0)]))(h2:lk S (rn ρ 2)=some (.cells [.f (.c (.int .i64 left))]))(hn:3<=n0):WN ρ n0 S (S3 R left):=by
 have hb:∀k,k<3->Nat.blt k n0=true:=fun k hk=>Nat.ble_eq_true_of_le oM;have hb0:=hb 0 oM;refine⟨?_,Q7 n0 R,hb 0 oM,h1,?_,hb 1 oM,h2,rfl,hb 2 oM,trivial⟩
 ·rw [h0];simp only [Xc,wF]
 ·simp only [Wz,qE,wX,hb0]
theorem dP{ρ:List (Nat × Nat)}{n0:Nat}{S:Bx}{R:xk}{left:Int}{A:List FD}(h0:lk S (rn ρ 0)=some (.mt (qU R)))(h1:lk S (rn ρ 1)=some (.cells [.om (rn ρ 0)]))(h2:lk S (rn ρ 2)=some (.cells [.f (.c (.int .i64 left))]))(h3:lk S (rn ρ 3)=some (.data A))(hn:4<=n0):WN ρ n0 S (S4 R left A):=by
 have hb:∀k,k<4->Nat.blt k n0=true:=fun k hk=>Nat.ble_eq_true_of_le oM;have hb0:=hb 0 oM;refine⟨?_,Q7 n0 R,hb 0 oM,h1,?_,hb 1 oM,h2,rfl,hb 2 oM,h3,rfl,hb 3 oM,trivial⟩
 ·rw [h0];simp only [Xc,wF]
 ·simp only [Wz,qE,wX,hb0]
theorem M4{ρ:List (Nat × Nat)}{n0:Nat}{S:Bx}{R:xk}{left:Int}{A B:List FD}(h0:lk S (rn ρ 0)=some (.mt (qU R)))(h1:lk S (rn ρ 1)=some (.cells [.om (rn ρ 0)]))(h2:lk S (rn ρ 2)=some (.cells [.f (.c (.int .i64 left))]))(h3:lk S (rn ρ 3)=some (.data A))(h4:lk S (rn ρ 4)=some (.data B))(hn:5<=n0):WN ρ n0 S (S5 R left A B):=by
 have hb:∀k,k<5->Nat.blt k n0=true:=fun k hk=>Nat.ble_eq_true_of_le oM;have hb0:=hb 0 oM;refine⟨?_,Q7 n0 R,hb 0 oM,h1,?_,hb 1 oM,h2,rfl,hb 2 oM,h3,rfl,hb 3 oM,h4,rfl,hb 4 oM,trivial⟩
 ·rw [h0];simp only [Xc,wF]
 ·simp only [Wz,qE,wX,hb0]
theorem CF{k:Nat}{ok:Nat->Nat->Nat->Prop}(R:xk):tM k ok (qU R):=by
 unfold qU;induction R with
 |nil=>trivial
 |cons e R ih=>exact ih
theorem a6{d:DC}(hd:jB 0 d=true)(y:Int):∀R:xk,jQ 0 (qU R++[(y,.out d)])=true
 |[]=>by
  show jQ 0 [(y,.out d)]=true
  simp only [jQ,hd]
 |e::R=>a6 hd y R
theorem oP(R:xk)(y:Int)(xs:List Int):qU (R++[(y,xs)])=qU R++[(y,.row (xs.map iF))]:=by simp [qU]
theorem B4{α:Type}(l:List α)(a b:α):(l++[a]).set l.length b=l++[b]:=by
 rw [List.set_append_right _ _ (Nat.le_refl _)];simp
theorem a8(l a b:List qd):minus (minus l a) b=minus l (a++b):=by
 unfold minus;rw [List.filter_filter];congr 1;funext x;by_cases h1:x∈a<;>by_cases h2:x∈b<;>simp [h1,h2]
theorem tU(l:List qd):minus l []=l:=by unfold minus;exact List.filter_eq_self.2 (by simp)
theorem Zx{c:List qd}(hs:Qc c)(hn:c.Nodup):qS c:=by
 rw [qS,List.pairwise_iff_getElem];intro i j hi hj hij;refine hs.step (zge hi) (zge hj) hij fun e=>?_;have:=(List.getElem?_inj (i:=i) (j:=j) hi hn).1 (by rw [zge hi,zge hj,e]);omega
theorem K7(q y:qd)(g:Int):xg q y<=g↔q.1-g<=y.1/\y.1<=q.1+g/\q.2-g<=y.2/\y.2<=q.2+g:=by
 simp only [xg];omega
theorem cB {Z0:Nat->Prop} {lo:Nat} {R:xk} {L g:Int} {out:List (List qd)} {c P:List qd} {N j:Nat} (hc:0<c.length) (hcn:c.Nodup) (hcl:c.length<1000000) (hol:out.length<1000000) {Q:Exit->qo->Bx->Nat->Prop}
 (hQ:Q .normal [(1,.int g),(7,.one (.ptr 2 0)),(10,.one (.fn 146 [(1,0),(2,0)])),(11,.one (.own 6 0 (out.length+1) 1)),(49,qx P),(50,.int N),(51,.int j)] [(0,.mt (qU R)),(1,.cells [.om 0]),(2,.cells [.f (.c (.int .i64 L))]),(6,.data ((out++[qt c]).map qV))] 7):
 DPS (Par.base Tryz.prog 7 (H00 1) Z0 lo) Kb.n (.seq (.ops m6 0 true) (.ops m5 0 true)) Q [(1,.int g),(7,.one (.ptr 2 0)),(10,.one (.fn 146 [(1,0),(2,0)])),(11,.one (.own 3 0 out.length 1)),(14,.one (.own 4 0 c.length 2)),(49,qx P),(50,.int N),(51,.int j)] (S5 R L (out.map qV) (c.flatMap qh)) 5:=by
 refine qa ?_;intros;refine ko rfl rfl rfl (nD (k:=4) (l:=c) rfl hc oM _ _ _ _ _) ?_;rintro _ _ _ ⟨rfl,rfl,c',hperm,hsort,rfl⟩;have hfl:(c'.flatMap qh).length=c.length*2:=by rw [qL,hperm.length_eq]
 have hcl':c'.length=c.length:=hperm.length_eq;have hc':c'=qt c:=qS.ext (Zx hsort (hperm.nodup_iff.2 hcn)) (xv c) (fun p=>by rw [hperm.mem_iff,xi]);rw [<-hc'] at hQ;have hok:=CF (k:=4) (ok:=aW (c'.flatMap qh)) R;have hol':(out.map qV).length=out.length*1:=by simp
 refine zE ?_;refine qH 4 rfl qD qD ?_;refine wi [] (n0:=5) (E0:=[(1,.int g),(7,.one (.ptr 2 0)),(10,.one (.fn 146 [(1,0),(2,0)])),(11,.one (.own 3 0 out.length 1)),(14,.one (.f (.sl 2 c.length (c'.flatMap qh)))),(49,qx P),(50,.int N),(51,.int j)]) (S0:=S4 R L (out.map qV)) ⟨xH,dP (congrArg (fun z=>some (Bk.mt z)) (wF _ R)) rfl rfl rfl oM,rfl,rfl⟩ ?_;refine qa ?_;intros;refine qy (q:=[.sl 2 c.length (c'.flatMap qh)]) rfl rfl rfl (qp _ hol') ⟨rfl,rfl,_,rfl,rfl⟩ oM oM (by decide) rfl ?_;have hD:out.map qV++[.sl 2 c.length (c'.flatMap qh)]=(out++[c']).map qV:=by simp [qV,hcl']
 refine xT rfl ?_;rw [hD];refine zW (qf (k:=1) rfl (qf (k:=7) rfl (qf (k:=10) rfl (qf (k:=11) rfl (qf (k:=49) rfl (qf (k:=50) rfl (qf (k:=51) rfl (qw _)))))))) (qf (k:=0) rfl (qf (k:=1) rfl (qf (k:=2) rfl (qf (k:=6) rfl (qw _))))) ?_;exact zE hQ
theorem EG {Z0:Nat->Prop} {lo:Nat} {gap:Int} {P:List qd} (hP:qS P) (hl:P.length<900000) {Q:Exit->qo->Bx->Nat->Prop}
 (hQ:∀R,wN R P->Q (.exit 0) [(1,.int gap),(4,.one (.f (.c .nils))),(5,qx P),(6,.one (.ptr 1 0)),(7,.one (.ptr 2 0))] (S3 R P.length) 3):
 DPS (Par.base Tryz.prog 7 (H00 1) Z0 lo) Kb.n (.loop K8) Q [(1,.int gap),(4,.one (.f (.c .nils))),(5,qx P),(6,.one (.ptr 1 0)),(7,.one (.ptr 2 0)),(27,qx P),(28,.int P.length),(29,.int 0)] (S3 [] P.length) 3:=by
 refine qm (fun m E S nk=>∃(i:Nat) (R:xk),i+m=P.length/\wN R (P.take i)/\E=[(1,.int gap),(4,.one (.f (.c .nils))),(5,qx P),(6,.one (.ptr 1 0)),(7,.one (.ptr 2 0)),(27,qx P),(28,.int P.length),(29,.int i)]/\S=S3 R P.length/\nk=3) ⟨P.length,_,_,_,[],?wk,0,[],by omega,⟨RowsS.nil,fun p=>by simp [iU]⟩,rfl,rfl,rfl⟩ ?_
 case wk=>exact⟨xH,oD rfl rfl rfl oM,rfl,rfl⟩
 rintro m E S nk ⟨i,R,him,hR,rfl,rfl,rfl⟩;refine qa ?_;intros;refine qb rfl (fun ht=>?_) (fun ht=>?_)
 ·simp at ht;obtain⟨⟨px,py⟩,hp⟩:∃p,P[i]?=some p:=⟨_,zge oM⟩;have e1:=qY hp;have htk:P.take (i+1)=P.take i++[(px,py)]:=by rw [List.take_add_one,hp];rfl
  have hPl:∀e∈R,e.2.length<=i:=fun e he=>by
   have h1:=hR.1.str e he;have h2:(e.2.map fun x=>(x,e.1)).Nodup:=by
    rw [List.Nodup,List.pairwise_map];exact List.Pairwise.imp (fun {a b} hab h=>by injection h;omega) h1
   have h3:=wD h2 (b:=P.take i) fun x hx=>by
    obtain⟨z,hz,rfl⟩:=List.mem_map.1 hx;exact (hR.2 _).1 ⟨e,he,rfl,hz⟩
   have h4:=List.length_take_le i P;simp at h3;omega
  refine qa ?_;intros;by_cases hy:∃(i0:Nat) (xs:List Int),R[i0]?=some (py,xs)
  ·obtain⟨i0,xs,hi0⟩:=hy;obtain⟨M,hM⟩:∃M,(xs.map iF).length=M:=⟨_,rfl⟩;have hM':xs.length=M:=by rw [<-hM];simp
   have hMi:=hPl _ (zmg hi0);simp only at hMi;have hlt:∀z∈xs,z<px:=fun z hz=>by
    have:(z,py)∈P.take i:=(hR.2 _).1 ⟨_,zmg hi0,rfl,hz⟩;obtain⟨k,hk⟩:=List.getElem?_of_mem this;rw [List.getElem?_take] at hk;split at hk
    ·rename_i hki;obtain⟨a1,a2⟩:=zgs hk;obtain⟨b1,b2⟩:=zgs hp;have:=List.pairwise_iff_getElem.1 hP k i a1 b1 hki;rw [a2,b2,wK] at this;simp at this;exact this
    ·cases hk
   have hset:=hR.set hi0 hlt oM;rw [<-htk] at hset;have hes:∀d:DC,((qU R).set i0 (py,.out d))[i0]?=some (py,.out d):=fun d=>by
    have:i0<(qU R).length:=by have:=(zgs hi0).1;simpa [qU] using this
    rw [List.getElem?_set_self this]
   have hfs:∀(d:DC) (j:Nat) (e':Int × ME),j<i0->((qU R).set i0 (py,.out d))[j]?=some e'->e'.1≠py:=fun d j e' hj he=>by
    rcases Q8 he with⟨h,_⟩|⟨_,h⟩
    ·omega
    ·exact Yq hR.1.nd hi0 j e' hj h
   refine gK (y:=py) (q:=xs.map iF) rfl rfl rfl (WT hi0) (Yq hR.1.nd hi0) rfl (Jf R) rfl rfl ?_;rw [hM];refine qa ?_;intros;refine qy (l':=xs.map iF) (q:=[iF px]) rfl rfl rfl (qp _ oM) ⟨rfl,rfl,_,rfl,rfl⟩ oM oM (by decide) rfl ?_;refine nF (y:=py) rfl rfl rfl rfl (hes _) (hfs _) rfl ?_;rw [List.set_set];have hq:(xs.map iF++[iF px]).length=M+1:=by simp;omega
   refine AJ 0 6 i0 rfl rfl (by rw [hq];exact hes _) rfl (Yd rfl py R i0) rfl rfl ?_;rw [List.set_set];have hm1:qU (R.set i0 (py,xs++[px]))=(qU R).set i0 (py,.row (xs.map iF++[iF px])):=by rw [Y3];simp
   refine qa ?_;intros;refine⟨m-1,oM,_,_,_,[],?wk1,i+1,R.set i0 (py,xs++[px]),oM,hset,rfl,rfl,rfl⟩
   case wk1=>exact⟨xH,oD (congrArg (fun z=>some (Bk.mt z)) hm1.symm) rfl rfl oM,rfl,rfl⟩
  ·have hn:∀e∈R,e.1≠py:=fun e he h=>hy (by
    obtain⟨k,hk⟩:=List.getElem?_of_mem he;exact⟨k,e.2,by rw [hk,<-h]⟩)
   have hn':∀e∈qU R,e.1≠py:=fun e he=>by
    simp only [qU,List.mem_map] at he;obtain⟨e',he',rfl⟩:=he;exact hn e' he'
   have hpush:=hR.push (x:=px) hn;rw [<-htk] at hpush;refine bV rfl rfl rfl hn' rfl ?_;refine qa ?_;intros;refine LF 39 1 rfl ?_;refine qy (l':=[]) (q:=[iF px]) rfl rfl rfl rfl ⟨rfl,rfl,_,rfl,rfl⟩ oM oM (by decide) rfl ?_;refine C7 (y:=py) rfl rfl rfl rfl hn' rfl ?_;refine AJ (y:=py) (q:=[]++[iF px]) 0 6 (qU R).length rfl rfl (by simp) rfl (a6 rfl py R) rfl rfl ?_;rw [B4];refine qa ?_;intros;refine⟨m-1,oM,_,_,_,[],?wk2,i+1,R++[(py,[px])],oM,hpush,rfl,rfl,rfl⟩
   case wk2=>exact⟨xH,oD (congrArg (fun z=>some (Bk.mt z)) (oP R py [px]).symm) rfl rfl oM,rfl,rfl⟩
 ·simp at ht;rw [List.take_of_length_le (by omega)] at hR;refine qu (qf (k:=1) rfl (qf (k:=4) rfl (qf (k:=5) rfl (qf (k:=6) rfl (qf (k:=7) rfl (qw _)))))) (qf (k:=0) rfl (qf (k:=1) rfl (qf (k:=2) rfl (qw _)))) ?_;exact ya (hQ R hR)
theorem fG{a b:Int}(hb:0<b)(h1: -1000000000000000000<a)(h2:a<1000000000000000000):DK 262 [.int a,.int b] fun d=>d=.int (a/b):=by
 have hd:=lH (b:=b) h1 h2;have hf:=aI (a:=a) hb;refine qI fun Z0 lo=>?_;refine qa ?_;intros;refine AG rfl rfl oM ?_;rw [qg (n:=a.tdiv b) (by omega) (by omega)];refine qa ?_;intros;refine XB rfl rfl oM ?_;refine qa ?_;intros;refine qb rfl (fun ht=>?_) (fun ht=>?_)
 ·have ht:=qG ht;rw [if_pos ht] at hf;refine qa ?_;intros;exact qc ⟨_,rfl,rfl,congrArg (fun z=>DV.int z) (by rw [qg (by omega) (by omega)];exact hf)⟩
 ·have ht:=qQ ht;rw [if_neg ht] at hf;refine qa ?_;intros;exact qc ⟨_,rfl,rfl,congrArg (fun z=>DV.int z) hf⟩
theorem KL{a b k n:Int}(ha: -1000000<=a)(ha':a<=1000000)(hb: -1000000<=b)(hb':b<=1000000)(hk:0<=k)(hk':k<=1000000)(hn:0<n)(hn':n<=1000000):DK 265 [.int a,.int b,.int k,.int n] fun d=>d=.int (XI a b k n):=by
 have m1:=vb (a:=a) (b:=n) (A:=1000000) (B:=1000000) oM oM oM oM;have m2:=vb (a:=k) (b:=b-a) (A:=1000000) (B:=2000000) oM oM oM oM;have hd:=lH (a:=2*(a*n+k*(b-a))+n) (b:=2*n) oM oM;have hf:=aI (a:=2*(a*n+k*(b-a))+n) (b:=2*n) oM;refine qI fun Z0 lo=>?_;refine qa ?_;intros;rw [qg (n:=a*n) (by omega) (by omega),qg (n:=b-a) (by omega) (by omega),qg (n:=k*(b-a)) (by omega) (by omega),qg (n:=a*n+k*(b-a)) (by omega) (by omega),qg (n:=2*(a*n+k*(b-a))) (by omega) (by omega),qg (n:=2*(a*n+k*(b-a))+n) (by omega) (by omega),qg (n:=2*n) (by omega) (by omega)];unfold XI;generalize 2*(a*n+k*(b-a))+n=N at *;refine AG rfl rfl oM ?_;rw [qg (n:=N.tdiv (2*n)) (by omega) (by omega)];refine qa ?_;intros;rw [qg (n:=2*n) (by omega) (by omega)];refine XB rfl rfl oM ?_;refine qa ?_;intros;refine qb rfl (fun ht=>?_) (fun ht=>?_)
 ·have ht:=qG ht;rw [if_pos ht] at hf;refine qa ?_;intros;exact qc ⟨_,rfl,rfl,congrArg (fun z=>DV.int z) (by rw [qg (by omega) (by omega)];exact hf)⟩
 ·have ht:=qQ ht;rw [if_neg ht] at hf;refine qa ?_;intros;exact qc ⟨_,rfl,rfl,congrArg (fun z=>DV.int z) hf⟩
abbrev QD(p q:qd)(n:Int)(k:Nat):List qd:=(List.range k).map (Qi p q n)
theorem nL{p q:qd}(hp:qB 1000 p)(hq:qB 1000 q):DK 242 [xI p,xI q] fun d=>d=qx (xz p q):=by
 have hfb:=uN hp hq;obtain⟨p1,p2,p3,p4⟩:=hp;obtain⟨q1,q2,q3,q4⟩:=hq;have hfar:=KK (.inr rfl:(199:FuncId)=152\/(199:FuncId)=199) (p:=p) (q:=q) ⟨oM,oM,oM,oM⟩ ⟨oM,oM,oM,oM⟩;unfold xz;generalize xg p q=n at *;refine qI fun Z0 lo=>?_;refine qa ?_;intros;refine qj rfl rfl hfar ?_;rintro _ rfl;refine qa ?_;intros;refine qb (t:=decide (n=0)) rfl (fun ht=>?_) (fun ht=>?_)
 ·have ht:=qG ht;rw [if_pos ht];refine qa ?_;intros;refine qu (qf (k:=4) rfl (qw _)) (qf (k:=3) rfl (qw _)) ?_;refine qH 3 rfl qD qD ?_;exact qc ⟨_,rfl,rfl,rfl⟩
 ·have ht:=qQ ht;rw [if_neg ht];refine qa ?_;intros;refine qm (fun m E S nk=>∃k:Nat,k+m=n.toNat+1/\E=[(2,.one (.ptr 0 0)),(3,.one (.ptr 1 0)),(5,.int n),(6,.one (.own 2 0 k 2)),(7,.int k)]/\S=[(2,.data ((QD p q n k).flatMap qh)),(0,.cells ((qh p).map .f)),(1,.cells ((qh q).map .f))]/\nk=3)
   ⟨n.toNat+1,_,_,_,[],?wk,0,oM,rfl,rfl,rfl⟩ ?_
  case wk=>exact ql
  rintro m E S nk ⟨k,hk,rfl,rfl,rfl⟩;have hfl:((QD p q n k).flatMap qh).length=k*2:=by rw [zO (f:=qh) (e:=2) (fun _=>rfl)];simp
  refine qa ?_;intros;refine qb rfl (fun ht2=>?_) (fun ht2=>?_)
  ·have ht2:=qG ht2;have m1:=vb (a:=p.1) (b:=n) (A:=1000) (B:=2000) oM oM oM oM;have m2:=vb (a:=(k:Int)) (b:=q.1-p.1) (A:=2000) (B:=2000) oM oM oM oM;have m3:=vb (a:=p.2) (b:=n) (A:=1000) (B:=2000) oM oM oM oM;have m4:=vb (a:=(k:Int)) (b:=q.2-p.2) (A:=2000) (B:=2000) oM oM oM oM;refine qa ?_;intros;rw [qg (n:=p.1*n) (by omega) (by omega),qg (n:=q.1-p.1) (by omega) (by omega),qg (n:=k*(q.1-p.1)) (by omega) (by omega),qg (n:=p.1*n+k*(q.1-p.1)) (by omega) (by omega),qg (n:=2*(p.1*n+k*(q.1-p.1))) (by omega) (by omega),qg (n:=2*(p.1*n+k*(q.1-p.1))+n) (by omega) (by omega),qg (n:=2*n) (by omega) (by omega)];refine qj rfl rfl (fG oM oM oM) ?_;rintro _ rfl;refine qa ?_;intros;rw [qg (n:=p.2*n) (by omega) (by omega),qg (n:=q.2-p.2) (by omega) (by omega),qg (n:=k*(q.2-p.2)) (by omega) (by omega),qg (n:=p.2*n+k*(q.2-p.2)) (by omega) (by omega),qg (n:=2*(p.2*n+k*(q.2-p.2))) (by omega) (by omega),qg (n:=2*(p.2*n+k*(q.2-p.2))+n) (by omega) (by omega),qg (n:=2*n) (by omega) (by omega)];refine qj rfl rfl (fG oM oM oM) ?_;rintro _ rfl;refine qa ?_;intros;refine qy (q:=qh (Qi p q n k)) rfl rfl rfl (qp _ hfl) ⟨rfl,rfl,_,rfl,rfl⟩ oM oM (by decide) rfl ?_;have hdat:(QD p q n k).flatMap qh++qh (Qi p q n k)=(QD p q n (k+1)).flatMap qh:=by
    unfold QD;rw [List.range_succ,List.map_append,List.flatMap_append];simp
   refine qa ?_;intros;refine⟨m-1,oM,_,_,_,[(2,4)],?wk,k+1,oM,rfl,rfl,rfl⟩
   case wk=>exact ql
  ·have ht2:=qQ ht2;have hkn:n.toNat+1=k:=by omega
   refine qu (qf (k:=6) rfl (qw _)) (qf (k:=2) rfl (qw _)) ?_;refine qH 2 rfl qD qD ?_;refine qa ?_;intros;exact qc ⟨_,rfl,rfl,by
    rw [hkn];show _=DV.one (.f (.sl 2 (QD p q n k).length ((QD p q n k).flatMap qh)));rw [show (QD p q n k).length=k by simp];rfl⟩
theorem HK{l:List qd}(hs:∀p∈l,qB 1000 p)(hn:l.length<1000):DK 150 [qx l] fun d=>d=.bool true:=by
 refine qI fun Z0 lo=>?_;refine qa ?_;intros;refine qm (fun m E S nk=>∃k:Nat,k+m=l.length/\E=[(5,qx l),(6,.int l.length),(7,.int k)]/\S=[]/\nk=0)
  ⟨l.length,_,_,_,[],?wk,0,oM,rfl,rfl,rfl⟩ ?_
 case wk=>exact ql
 rintro m E S nk ⟨k,hk,rfl,rfl,rfl⟩;refine qa ?_;intros;refine qb rfl (fun h1=>?_) (fun h1=>?_)
 ·have h1:=qG h1;obtain⟨p,hp⟩:∃p,l[k]?=some p:=⟨_,zge oM⟩;have hsp:=qY hp;obtain⟨p1,p2,p3,p4⟩:=hs p (zmg hp);have e1:decide (p.1< -1000)=false:=decide_eq_false oM;have e2:decide (p.1>1000)=false:=decide_eq_false oM;have e3:decide (p.2< -1000)=false:=decide_eq_false oM;have e4:decide (p.2>1000)=false:=decide_eq_false oM;refine qa ?_;intros;refine qb (t:=false) (congrArg (fun z=>some (DV.bool z)) (by simp [e1,e2,e3,e4])) (fun h=>by cases h) (fun _=>?_);refine qa ?_;intros;refine⟨m-1,oM,_,_,_,[],?wk,k+1,oM,rfl,rfl,rfl⟩
  case wk=>exact ql
 ·refine qa ?_;intros;exact qc ⟨_,rfl,rfl,rfl⟩
theorem T5{p q:qd}(hp:qB 1000 p)(hq:qB 1000 q):DK 248 [xI p,xI q] fun d=>d=qx (xz p q):=by
 have hfb:=uN hp hq;have hnear:=HK (l:=[p,q]) (fun x hx=>by
  rcases List.mem_cons.1 hx with rfl|hx;· exact hp
  ·rw [List.mem_singleton.1 hx];exact hq) (by simp)
 obtain⟨p1,p2,p3,p4⟩:=hp;obtain⟨q1,q2,q3,q4⟩:=hq;have hfar:=KK (.inl rfl:(152:FuncId)=152\/(152:FuncId)=199) (p:=p) (q:=q) ⟨oM,oM,oM,oM⟩ ⟨oM,oM,oM,oM⟩;unfold xz;generalize xg p q=n at *;have hw:IntKind.i64.wrap (n+1)=((n.toNat+1:Nat):Int):=by rw [qg (by omega) (by omega)];omega
 refine qI fun Z0 lo=>?_;refine qa ?_;intros;refine JB 2 rfl qD qD ?_;refine qj rfl rfl hnear ?_;rintro _ rfl;refine qa ?_;intros;refine qb (t:=false) rfl (fun h=>by cases h) (fun _=>?_);refine qa ?_;intros;refine qj rfl rfl hfar ?_;rintro _ rfl;refine qa ?_;intros;refine qb (t:=decide (n=0)) rfl (fun ht=>?_) (fun ht=>?_)
 ·have ht:=qG ht;rw [if_pos ht];refine qa ?_;intros;refine qu (qf (k:=4) rfl (qw _)) (qf (k:=3) rfl (qw _)) ?_;refine qH 3 rfl qD qD ?_;exact qc ⟨_,rfl,rfl,rfl⟩
 ·have ht:=qQ ht;rw [if_neg ht];refine qa ?_;intros;rw [hw];refine pR (n:=0) (m:=n.toNat+1) [.c (.int .i64 0),.c (.int .i64 0)] rfl rfl ⟨rfl,rfl,rfl,rfl,trivial⟩ rfl (by decide) oM oM oM ?_;refine qa ?_;intros;refine qm (fun m E S nk=>∃k:Nat,k+m=n.toNat+1/\E=[(2,.one (.ptr 0 0)),(3,.one (.ptr 1 0)),(5,.int n),(6,.one (.own 3 0 k 2)),(24,.int (n.toNat+1:Nat)),(25,.int k)]/\S=[(3,.data ((QD p q n k).flatMap qh)),(0,.cells ((qh p).map .f)),(1,.cells ((qh q).map .f))]/\nk=4)
   ⟨n.toNat+1,_,_,_,[],?wk,0,oM,rfl,rfl,rfl⟩ ?_
  case wk=>exact⟨by repeat (first|exact trivial|refine⟨by first|rfl|exact congrArg (fun z=>some (DV.int z)) hw,rfl,?_⟩),by repeat (first|exact trivial|refine⟨by rfl,rfl,rfl,?_⟩),rfl,rfl⟩
  rintro m E S nk ⟨k,hk,rfl,rfl,rfl⟩;have hfl:((QD p q n k).flatMap qh).length=k*2:=by rw [zO (f:=qh) (e:=2) (fun _=>rfl)];simp
  refine qa ?_;intros;refine qb rfl (fun ht2=>?_) (fun ht2=>?_)
  ·have ht2:=qG ht2;have b1:=KL (a:=p.1) (b:=q.1) (k:=k) (n:=n) oM oM oM oM oM oM oM oM;have b2:=KL (a:=p.2) (b:=q.2) (k:=k) (n:=n) oM oM oM oM oM oM oM oM;refine qa ?_;intros;refine qj rfl rfl b1 ?_;rintro _ rfl;refine qa ?_;intros;refine qj rfl rfl b2 ?_;rintro _ rfl;refine qa ?_;intros;refine qy (q:=qh (Qi p q n k)) rfl rfl rfl (qp _ hfl) ⟨rfl,rfl,_,rfl,rfl⟩ oM oM (by decide) rfl ?_;have hdat:(QD p q n k).flatMap qh++qh (Qi p q n k)=(QD p q n (k+1)).flatMap qh:=by
    unfold QD;rw [List.range_succ,List.map_append,List.flatMap_append];simp
   refine qa ?_;intros;refine⟨m-1,oM,_,_,_,[(3,5)],?wk,k+1,oM,rfl,rfl,rfl⟩
   case wk=>exact ql
  ·have ht2:=qQ ht2;have hkn:n.toNat+1=k:=by omega
   refine qu (qf (k:=6) rfl (qw _)) (qf (k:=3) rfl (qw _)) ?_;refine qH 3 rfl qD qD ?_;refine qa ?_;intros;exact qc ⟨_,rfl,rfl,by
    rw [hkn];show _=DV.one (.f (.sl 2 (QD p q n k).length ((QD p q n k).flatMap qh)));rw [show (QD p q n k).length=k by simp];rfl⟩
theorem sP(x t:Int){n:Int}(hn:0<n):(x+2*n*t)/(2*n)=x/(2*n)+t:=Int.add_mul_ediv_left x t oM
theorem Yo(a:Int){n:Int}(hn:0<n):(2*(a*n)+n)/(2*n)=a:=by
 have h:=sP n a hn;rw [show n+2*n*a=2*(a*n)+n by rw [Int.mul_assoc,Int.mul_comm n a];omega] at h;rw [h,Int.ediv_eq_zero_of_lt (by omega) (by omega)];omega
theorem cF(a b:Int){n:Int}(hn:0<n):XI a b 0 n=a:=by
 unfold XI;rw [Int.zero_mul,Int.add_zero];exact Yo a hn
theorem cG(a b:Int){n:Int}(hn:0<n):XI a b n n=b:=by
 unfold XI;rw [show a*n+n*(b-a)=b*n by rw [Int.mul_sub,Int.mul_comm n b,Int.mul_comm n a];omega];exact Yo b hn
theorem nT(a b k:Int){n:Int}(hn:0<n)(h0:0<=k)(h1:k<=n):min a b<=XI a b k n/\XI a b k n<=max a b:=by
 have e:=Yo (min a b) hn;have f:=Yo (max a b) hn;have hx:min a b*n<=a*n+k*(b-a)/\a*n+k*(b-a)<=max a b*n:=by
  by_cases hab:a<=b
  ·rw [Int.min_eq_left hab,Int.max_eq_right hab];have g1:0<=k*(b-a):=Int.mul_nonneg h0 oM;have g2:k*(b-a)<=n*(b-a):=Int.mul_le_mul_of_nonneg_right h1 oM;rw [Int.mul_sub n,Int.mul_comm n b,Int.mul_comm n a] at g2;omega
  ·rw [Int.min_eq_right (by omega),Int.max_eq_left (by omega)];have g1:0<=k*(a-b):=Int.mul_nonneg h0 oM;have g2:k*(a-b)<=n*(a-b):=Int.mul_le_mul_of_nonneg_right h1 oM;rw [Int.mul_sub n,Int.mul_comm n b,Int.mul_comm n a] at g2;have g3:k*(b-a)= - (k*(a-b)):=by rw [<-Int.mul_neg];congr 1;omega
   omega
 unfold XI;constructor
 ·have:=Int.ediv_le_ediv (a:=2*(min a b*n)+n) (b:=2*(a*n+k*(b-a))+n) (c:=2*n) oM oM;omega
 ·have:=Int.ediv_le_ediv (a:=2*(a*n+k*(b-a))+n) (b:=2*(max a b*n)+n) (c:=2*n) oM oM;omega
theorem Jm(p q:qd):(xz p q).length=(xg p q).toNat+1:=by
 unfold xz;split
 ·rename_i h;rw [h];rfl
 ·simp
def wt(p q:qd)(k:Nat):qd:=if xg p q=0 then p else Qi p q (xg p q) k
theorem Yj(p q:qd){k:Nat}(hk:(k:Int)<=xg p q):(xz p q)[k]?=some (wt p q k):=by
 unfold xz wt;split
 ·rename_i h;obtain rfl:k=0:=by omega
  rfl
 ·rw [List.getElem?_map,List.getElem?_range (by omega)];rfl
theorem kP(p q:qd):xg p q=max (q.1-p.1) (max (p.1-q.1) (max (q.2-p.2) (p.2-q.2))):=by simp only [xg];omega
theorem i4(p q:qd):wt p q 0=p:=by
 have:=kP p q;unfold wt;split
 ·rfl
 ·simp only [Qi];rw [Int.natCast_zero,cF _ _ (by omega),cF _ _ (by omega)]
theorem i5(p q:qd):wt p q (xg p q).toNat=q:=by
 have h:=kP p q;unfold wt;split
 ·obtain⟨p1,p2⟩:=p;obtain⟨q1,q2⟩:=q;simp only [zpi] at *;omega
 ·simp only [Qi];rw [Int.toNat_of_nonneg (by omega),cG _ _ (by omega),cG _ _ (by omega)]
theorem bE(p q:qd){k:Nat}(hk:(k:Int)<=xg p q):min p.1 q.1<=(wt p q k).1/\(wt p q k).1<=max p.1 q.1/\min p.2 q.2<=(wt p q k).2/\(wt p q k).2<=max p.2 q.2:=by
 have h:=kP p q;unfold wt;split
 ·omega
 ·simp only [Qi];have h1:=nT p.1 q.1 k (n:=xg p q) oM oM hk;have h2:=nT p.2 q.2 k (n:=xg p q) oM oM hk;omega
theorem GX{l:List qd}(hl:l.Nodup)(h0:0<l.length)(hn:l.length<1000000):Zd 218 [.one (.fn 247 [(1,0)]),f4 220] [(0,yM l),(1,.cells [.om 0])] 2
 fun d S' nk'=>d=.one (.own 6 0 (qt l).length 2)/\zV [(6,.data ((qt l).flatMap qh))] S'/\nk'=7:=by
 refine w9 (pC 218).2 rfl fun Z β H lo=>?_;refine qa ?_;intros;refine ko rfl rfl rfl (DX.sub (M2 hl hn _ _ _ _ _) (qf rfl (qf rfl (qw _)))) ?_;rintro _ S' _ ⟨out,h1,h2,rfl,h3,h4,rfl⟩;refine zW (zj _) h4 ?_;have hp:0<out.length:=by
  cases out with
  |nil=>
   cases l with
   |nil=>simp at h0
   |cons x l=>exact absurd ((h2 x).2 (by simp)) (by simp)
  |cons=>simp
 refine qa ?_;intros;refine ko rfl rfl rfl (gI UG (k:=6) (l:=out) rfl hp oM _ _ _ _ _) ?_;rintro _ _ _ ⟨rfl,rfl,l',hp',hs,rfl⟩;have hl':l'.Nodup:=hp'.symm.nodup h1;have he:l'=qt l:=qS.ext (Zx hs hl') (xv l) fun p=>by rw [xi,hp'.mem_iff,h2]
 have hlen:out.length=(qt l).length:=by rw [<-he,hp'.length_eq]
 rw [hlen,he];refine qa ?_;intros;exact qc ⟨_,rfl,rfl,_,zj _,rfl,qf rfl (qw _),rfl⟩
theorem dO{l:List qd}(hl:l.Nodup)(h0:0<l.length)(hn:l.length<1000000):Zd 183 [.one (.om 0)] [(0,yM l)] 1
 fun d S' nk'=>d=.one (.own 6 0 (qt l).length 2)/\zV [(6,.data ((qt l).flatMap qh))] S'/\nk'=7:=by
 refine w9 (pC 183).2 rfl fun Z β H lo=>?_;refine qa ?_;intros;refine ko rfl rfl rfl (GY l _ _ _ _ _) ?_;rintro _ S' _ ⟨rfl,h4,rfl⟩;refine zW (zj _) h4 ?_;refine qa ?_;intros;refine ko rfl rfl rfl (GX hl h0 hn _ _ _ _ _) ?_;rintro _ S' _ ⟨rfl,h4,rfl⟩;refine zW (zj _) h4 ?_;refine qa ?_;intros;exact qc ⟨_,rfl,rfl,_,zj _,rfl,qf rfl (qw _),rfl⟩
def wR(l L:List qd):List qd:=L.foldl jO l
theorem WZ{p:qd}:∀{L l:List qd},p∈wR l L↔p∈l\/p∈L
 |[],l=>by simp [wR]
 |q::L,l=>by
  show p∈wR (jO l q) L↔_
  rw [WZ,eL,List.mem_cons,or_assoc]
theorem Yc:∀{L l:List qd},l.Nodup->(wR l L).Nodup
 |[],_,h=>h
 |q::L,_,h=>Yc (L:=L) (KD h)
theorem lS(l:List qd)(p:qd):l.length<=(jO l p).length/\(jO l p).length<=l.length+1:=by
 unfold jO;split
 ·omega
 ·rw [List.length_append,List.length_singleton];omega
theorem VG:∀(L l:List qd),l.length<=(wR l L).length/\(wR l L).length<=l.length+L.length
 |[],l=>by simp [wR]
 |q::L,l=>by
  have:=VG L (jO l q);have:=lS l q;show _<=(wR (jO l q) L).length/\(wR (jO l q) L).length<=_;rw [List.length_cons];omega
theorem tE{l L:List qd}{i:Nat}{p:qd}(h:L[i]?=some p):wR l (L.take (i+1))=jO (wR l (L.take i)) p:=by
 unfold wR;rw [List.take_add_one,h,List.foldl_append];rfl
theorem jD{p q:qd}(hp:qB 1000 p)(hq:qB 1000 q):(xz p q).length<=2001:=by
 have h1:=Jm p q;have h2:=kP p q;unfold qB at hp hq;omega
theorem FJ{l:List qd}{a b:qd}(ha:qB 1000 a)(hb:qB 1000 b):Zd 223 [.one (.om 0),xI a,xI b] [(0,yM l)] 1
 fun d S' nk'=>d=.tup []/\zV [(0,yM (wR l (xz a b)))] S'/\nk'=1:=by
 refine w9 Cz rfl fun Z β H lo=>?_;have hln:=jD ha hb;refine qa ?_;intros;refine qj rfl rfl (T5 ha hb) ?_;rintro _ rfl;refine qa ?_;intros;refine qm (fun m E S nk=>∃i:Nat,i+m=(xz a b).length/\E=[(0,.one (.om 0)),(10,qx (xz a b)),(11,.int (xz a b).length),(12,.int i)]/\S=[(0,yM (wR l ((xz a b).take i)))]/\nk=1)
  ⟨(xz a b).length,_,_,_,[],?wk,0,oM,rfl,rfl,rfl⟩ ?_
 case wk=>exact ql
 rintro m E S nk ⟨i,hi,rfl,rfl,rfl⟩;refine qa ?_;intros;refine qb rfl (fun ht=>?_) (fun ht=>?_)
 ·have ht:i<(xz a b).length:=by simpa using ht
  obtain⟨q,hq⟩:∃q,(xz a b)[i]?=some q:=⟨_,zge ht⟩;have e1:=qY hq;refine qa ?_;intros;refine gJ rfl rfl rfl rfl (lL _ q) rfl ?_;rw [<-tE hq];refine qa ?_;intros;refine⟨m-1,oM,_,_,_,[],?wk1,i+1,oM,rfl,rfl,rfl⟩
  case wk1=>exact ql
 ·have ht:i=(xz a b).length:=by
   have:¬i<(xz a b).length:=by simpa using ht
   omega
  subst ht;rw [List.take_length];refine qa ?_;intros;exact⟨_,rfl,rfl,_,zj _,rfl,qf rfl (qw _),rfl⟩
def yy(L:List qd):Prop:=∀p∈L,qB 1000 p
structure Along (L:List qd) (n:Nat) (l:List qd):Prop where
 nd:l.Nodup
 le:l.length<=2001*n
 mem:∀p,p∈l↔∃(i:Nat) (a b:qd),i<n/\L[i]?=some a/\L[i+1]?=some b/\p∈xz a b
theorem Along.zero(L:List qd):Along L 0 []:=⟨List.nodup_nil,by simp,fun p=>by simp⟩
theorem Along.succ{L l:List qd}{n:Nat}{a b:qd}(h:Along L n l)(ha:L[n]?=some a)(hb:L[n+1]?=some b)(hl:yy L):Along L (n+1) (wR l (xz a b)):=by
 refine⟨Yc h.nd,?_,fun p=>?_⟩
 ·have h1:=(VG (xz a b) l).2;have h2:=jD (hl a (zmg ha)) (hl b (zmg hb));have h3:=h.le;omega
 ·rw [WZ,h.mem];constructor
  ·rintro (⟨i,a',b',h1,h2,h3,h4⟩|h1)
   ·exact⟨i,a',b',oM,h2,h3,h4⟩
   ·exact⟨n,a,b,oM,ha,hb,h1⟩
  ·rintro ⟨i,a',b',h1,h2,h3,h4⟩;by_cases hi:i=n
   ·subst hi;rw [ha] at h2;rw [hb] at h3;obtain rfl:=zsi h2;obtain rfl:=zsi h3;exact .inr h4
   ·exact .inl ⟨i,a',b',oM,h2,h3,h4⟩
theorem gO{L:List qd}(hl:yy L)(hn:L.length<100):BS 184 [qx L] fun d S nk=>∃l,Along L (L.length-1) l/\d=.one (.om 0)/\S=[(0,yM l)]/\nk=1:=by
 refine ZK Da rfl jm fun Z0 lo=>?_;refine qa ?_;intros;refine LK ?_;refine qa ?_;intros;refine qm (fun m E S nk=>∃(i:Nat) (l:List qd),i+m=L.length/\(i=0\/i<L.length)/\Along L i l/\E=[(0,qx L),(3,.one (.om 0)),(4,.int (i+1:Nat))]/\S=[(0,yM l)]/\nk=1)
  ⟨L.length,_,_,_,[],?wk,0,[],oM,.inl rfl,Along.zero L,rfl,rfl,rfl⟩ ?_
 case wk=>exact ql
 rintro m E S nk ⟨i,l,hi,hi0,hA,rfl,rfl,rfl⟩;refine qa ?_;intros;refine qb rfl (fun ht=>?_) (fun ht=>?_)
 ·have ht:i+1<L.length:=by have:=qG ht;omega
  obtain⟨a,ha⟩:∃q,L[i]?=some q:=⟨_,zge oM⟩;obtain⟨b,hb⟩:∃q,L[i+1]?=some q:=⟨_,zge ht⟩;have e1:=qY ha;have e2:=qY hb;have hw:IntKind.i64.wrap (((i+1:Nat):Int)-1)=((i:Nat):Int):=by rw [qg (by omega) (by omega)];omega
  refine qa ?_;intros;rw [hw];refine qa ?_;intros;refine ko rfl rfl rfl (FJ (hl a (zmg ha)) (hl b (zmg hb)) _ _ _ _ _) ?_;rintro _ S' _ ⟨rfl,hS,rfl⟩;refine zW (zj _) hS ?_;refine qa ?_;intros;refine⟨m-1,oM,_,_,_,[],?wk1,i+1,_,oM,.inr oM,hA.succ ha hb hl,rfl,rfl,rfl⟩
  case wk1=>exact ql
 ·have ht:L.length<=i+1:=by have:=qQ ht;omega
  obtain rfl:i=L.length-1:=by omega
  refine qa ?_;intros;exact qc ⟨_,rfl,rfl,_,zj _,l,hA,rfl,rfl,rfl⟩
def zL(L:List qd)(i:Nat):Nat:=(i+1) % L.length
structure Around (L:List qd) (l:List qd):Prop where
 nd:l.Nodup
 le:l.length<=2001*L.length
 mem:∀p,p∈l↔∃(i:Nat) (a b:qd),L[i]?=some a/\L[zL L i]?=some b/\p∈xz a b
theorem Along.around{L l:List qd}{a b:qd}(h:Along L (L.length-1) l)(hl:yy L)(h0:0<L.length)(ha:L[L.length-1]?=some a)(hb:L[0]?=some b):Around L (wR l (xz a b)):=by
 refine⟨Yc h.nd,?_,fun p=>?_⟩
 ·have h1:=(VG (xz a b) l).2;have h2:=jD (hl a (zmg ha)) (hl b (zmg hb));have h3:=h.le;omega
 ·rw [WZ,h.mem];constructor
  ·rintro (⟨i,a',b',h1,h2,h3,h4⟩|h1)
   ·exact⟨i,a',b',h2,by rw [zL,Nat.mod_eq_of_lt (by omega)];exact h3,h4⟩
   ·exact⟨L.length-1,a,b,ha,by rw [zL,show L.length-1+1=L.length by omega,Nat.mod_self];exact hb,h1⟩
  ·rintro ⟨i,a',b',h2,h3,h4⟩;have hi:=(zgs h2).1;by_cases hx:i=L.length-1
   ·subst hx;rw [ha] at h2;rw [zL,show L.length-1+1=L.length by omega,Nat.mod_self,hb] at h3;obtain rfl:=zsi h2;obtain rfl:=zsi h3;exact .inr h4
   ·rw [zL,Nat.mod_eq_of_lt (by omega)] at h3;exact .inl ⟨i,a',b',oM,h2,h3,h4⟩
theorem AM{L:List qd}(hl:yy L)(h0:0<L.length)(hn:L.length<100):BS 185 [qx L] fun d S nk=>∃l,Around L l/\d=.one (.om 0)/\S=[(0,yM l)]/\nk=1:=by
 refine ZK (pC 185).2 rfl jm fun Z0 lo=>?_;obtain⟨a,ha⟩:∃q,L[L.length-1]?=some q:=⟨_,zge oM⟩;obtain⟨b,hb⟩:∃q,L[0]?=some q:=⟨_,zge oM⟩;have e1:=qY ha;have e2:=qY hb;have hw:IntKind.i64.wrap ((L.length:Int)-1)=((L.length-1:Nat):Int):=by rw [qg (by omega) (by omega)];omega
 refine qa ?_;intros;refine ZI rfl rfl (gO hl hn) ?_;rintro _ _ _ ⟨l,hA,rfl,rfl,rfl⟩;refine zW (S0:=[(0,yM l)]) (zj _) (qf rfl (qw _)) ?_;refine qa ?_;intros;refine qb rfl (fun _=>?_) (fun ht=>?_)
 ·refine qa ?_;intros;rw [hw];refine qa ?_;intros;refine ko rfl rfl rfl (FJ (hl a (zmg ha)) (hl b (zmg hb)) _ _ _ _ _) ?_;rintro _ S' _ ⟨rfl,hS,rfl⟩;refine zW (zj _) hS ?_;refine qa ?_;intros;exact qc ⟨_,rfl,rfl,_,zj _,_,hA.around hl h0 ha hb,rfl,rfl,rfl⟩
 ·have:=qQ ht;omega
def Vp(a b p:qd):Int:=(b.1-a.1)*(p.2-a.2)-(b.2-a.2)*(p.1-a.1)
def Jc(a b p:qd):Bool:=decide (Vp a b p=0)&&(decide (min a.1 b.1<=p.1)&&decide (p.1<=max a.1 b.1)&&decide (min a.2 b.2<=p.2)&&decide (p.2<=max a.2 b.2))
def kz(a b p:qd):Bool:=if decide (a.2<=p.2)=decide (b.2<=p.2) then false else if a.2<b.2 then decide ((p.1-a.1)*(b.2-a.2)<(p.2-a.2)*(b.1-a.1)) else decide ((p.2-a.2)*(b.1-a.1)<(p.1-a.1)*(b.2-a.2))
theorem xq{p q:qd}(hp:qB 1000 p)(hq:qB 1000 q):(-2000<=p.1-q.1/\p.1-q.1<=2000)/\(-2000<=p.2-q.2/\p.2-q.2<=2000):=by
 unfold qB at hp hq;omega
theorem Jg{a b:Int}(ha: -2000<=a/\a<=2000)(hb: -2000<=b/\b<=2000):IntKind.i64.wrap (IntKind.i64.wrap a*IntKind.i64.wrap b)=a*b:=by
 rw [qg (n:=a) (by omega) (by omega),qg (n:=b) (by omega) (by omega)];have:=vb (A:=2000) (B:=2000) ha.1 ha.2 hb.1 hb.2;exact qg oM oM
theorem g9{a b:qd}:Jc a b a=true/\Jc a b b=true:=by
 have e1:(b.1-a.1)*(b.2-a.2)-(b.2-a.2)*(b.1-a.1)=0:=by rw [Int.mul_comm];omega
 constructor
 ·simp [Jc,Vp];omega
 ·simp [Jc,Vp,e1];omega
theorem YD{a b:Int}(h:(a !=b)=false):a=b:=by simpa using h
theorem JM{a b:Int}(h:(a !=b)=true):a≠b:=by simpa using h
theorem Et:∀x y z w:Bool,(x&&y&&z&&w)=(if (if (if x=true then y else false)=true then z else false)=true then w else false):=by decide
theorem Es:∀v x y z w:Bool,(v&&(x&&y&&z&&w))=(if (if (if (if v=true then x else false)=true then y else false)=true then z else false)=true then w else false):=by decide
theorem Fq{a b p:qd}(ha:qB 1000 a)(hb:qB 1000 b)(hp:qB 1000 p):DK 228 [xI a,xI b,xI p] fun d=>d=.bool (Jc a b p):=by
 refine zy Cy rfl jm fun Z0 lo=>?_;have w1:=Jg (xq hb ha).1 (xq hp ha).2;have w2:=Jg (xq hb ha).2 (xq hp ha).1;by_cases h1:p=a
 ·refine qa ?_;intros;refine Wh (ke (p:=p) (q:=a) rfl rfl) (b:=true) (by simpa using h1) ?_;refine qa ?_;intros;refine qb rfl (fun _=>?_) (fun ht=>by cases ht);refine qa ?_;intros;exact qc ⟨_,rfl,rfl,by rw [h1,g9.1]⟩
 ·by_cases h2:p=b
  ·refine qa ?_;intros;refine Wh (ke (p:=p) (q:=a) rfl rfl) (b:=false) (by simpa using h1) ?_;refine qa ?_;intros;refine Wh (ke (p:=p) (q:=b) rfl rfl) (b:=true) (by simpa using h2) ?_;refine qa ?_;intros;refine qb rfl (fun _=>?_) (fun ht=>by cases ht);refine qa ?_;intros;exact qc ⟨_,rfl,rfl,by rw [h2,g9.2]⟩
  ·refine qa ?_;intros;refine Wh (ke (p:=p) (q:=a) rfl rfl) (b:=false) (by simpa using h1) ?_;refine qa ?_;intros;refine Wh (ke (p:=p) (q:=b) rfl rfl) (b:=false) (by simpa using h2) ?_;refine qa ?_;intros;refine qb rfl (fun ht=>by cases ht) (fun _=>?_);refine qa ?_;intros;refine qb rfl (fun ht=>?_) (fun ht=>?_)
   ·have ht:=JM ht;rw [w1,w2] at ht;refine qa ?_;intros;exact qc ⟨_,rfl,rfl,by rw [Jc,decide_eq_false (by unfold Vp;omega),Bool.false_and]⟩
   ·have ht:=YD ht;rw [w1,w2] at ht;have e0:Vp a b p=0:=by unfold Vp;omega
    refine qa ?_;intros;refine qc ⟨_,rfl,rfl,?_⟩;rw [Jc,decide_eq_true e0,Bool.true_and];refine congrArg DV.bool ?_;simp only [Bool.false_eq_true,if_false,if_true];rw [show (if b.1>a.1 then b.1 else a.1)=max a.1 b.1 by omega,show (if b.2>a.2 then b.2 else a.2)=max a.2 b.2 by omega,show (if b.2<a.2 then b.2 else a.2)=min a.2 b.2 by omega]
    exact (Et _ _ _ _).symm
theorem TO{a b p:qd}(ha:qB 1000 a)(hb:qB 1000 b)(hp:qB 1000 p):DK 263 [xI a,xI b,xI p] fun d=>d=.int (Vp a b p):=by
 refine qI fun Z0 lo=>?_;have w1:=Jg (xq hb ha).1 (xq hp ha).2;have w2:=Jg (xq hb ha).2 (xq hp ha).1;have b1:=vb (A:=2000) (B:=2000) (xq hb ha).1.1 (xq hb ha).1.2 (xq hp ha).2.1 (xq hp ha).2.2;have b2:=vb (A:=2000) (B:=2000) (xq hb ha).2.1 (xq hb ha).2.2 (xq hp ha).1.1 (xq hp ha).1.2;refine qa ?_;intros;refine qc ⟨_,rfl,rfl,?_⟩;refine congrArg DV.int ?_;rw [w1,w2];exact qg oM oM
theorem Cr{a b p:qd}(ha:qB 1000 a)(hb:qB 1000 b)(hp:qB 1000 p):DK 243 [xI a,xI b,xI p] fun d=>d=.bool (Jc a b p):=by
 refine qI fun Z0 lo=>?_;refine qa ?_;intros;refine qj rfl rfl (TO ha hb hp) ?_;rintro _ rfl;refine qa ?_;intros;refine qc ⟨_,rfl,rfl,?_⟩;refine congrArg DV.bool ?_;simp only [Bool.false_eq_true,if_false,if_true];rw [show (if b.1>a.1 then b.1 else a.1)=max a.1 b.1 by omega,show (if b.1<a.1 then b.1 else a.1)=min a.1 b.1 by omega,show (if b.2>a.2 then b.2 else a.2)=max a.2 b.2 by omega,show (if b.2<a.2 then b.2 else a.2)=min a.2 b.2 by omega,show (Vp a b p==0)=decide (Vp a b p=0) from rfl]
 exact (Es _ _ _ _ _).symm
theorem Cs{a b p:qd}(ha:qB 1000 a)(hb:qB 1000 b)(hp:qB 1000 p):DK 229 [xI a,xI b,xI p] fun d=>d=.bool (kz a b p):=by
 refine qI fun Z0 lo=>?_;have w1:=Jg (xq hp ha).2 (xq hb ha).1;have w2:=Jg (xq hp ha).1 (xq hb ha).2;refine qa ?_;intros;refine qb rfl (fun ht=>?_) (fun ht=>?_)
 ·refine qa ?_;intros;refine qc ⟨_,rfl,rfl,?_⟩;rw [kz,if_pos (by simpa using ht)]
 ·refine qa ?_;intros;refine qb rfl (fun h2=>?_) (fun h2=>?_)
  ·refine qa ?_;intros;refine qc ⟨_,rfl,rfl,?_⟩;have h2:=qG h2;rw [kz,if_neg (by simpa using ht),if_pos (by omega),<-w1,<-w2]
  ·refine qa ?_;intros;refine qc ⟨_,rfl,rfl,?_⟩;have h2:=qQ h2;rw [kz,if_neg (by simpa using ht),if_neg (by omega),<-w1,<-w2]
theorem TX{a b p:qd}(ha:qB 1000 a)(hb:qB 1000 b)(hp:qB 1000 p):DK 244 [xI a,xI b,xI p] fun d=>d=.bool (kz a b p):=by
 refine qI fun Z0 lo=>?_;have w1:=Jg (xq hp ha).2 (xq hb ha).1;have w2:=Jg (xq hp ha).1 (xq hb ha).2;refine qa ?_;intros;refine qb rfl (fun ht=>?_) (fun ht=>?_)
 ·refine qa ?_;intros;refine qc ⟨_,rfl,rfl,?_⟩;rw [kz,if_pos (by simpa using ht)]
 ·refine qa ?_;intros;refine qb rfl (fun h2=>?_) (fun h2=>?_)
  ·refine qa ?_;intros;refine qc ⟨_,rfl,rfl,?_⟩;have h2:=qG h2;rw [kz,if_neg (by simpa using ht),if_pos (by omega),<-w1,<-w2]
  ·refine qa ?_;intros;refine qc ⟨_,rfl,rfl,?_⟩;have h2:=qQ h2;rw [kz,if_neg (by simpa using ht),if_neg (by omega),<-w1,<-w2]
end Go.Ah
