/- -/
import Derived.Test.YtbfbplnghpdmhaaGreatDoorAb16
set_option linter.unusedSimpArgs false
set_option maxHeartbeats 8000000
set_option linter.unusedVariables false
namespace Go.Ag
open Go.Ab Go.Proofs
def qM(l:List qc):FD:=.sl 2 l.length (l.flatMap qh)
def yn(cs:List (List qc)):DV:=.one (.f (.sl 1 cs.length (cs.map qM)))
theorem j7{cs:List (List qc)}{i:Nat}{c:List qc}(h:cs[i]?=some c):xN (cs.map qM) (i*1) 1=some [qM c]:=by
 have hi:i<cs.length:=(zgs h).1;rw [yE (by simp;omega)];rw [Nat.mul_one,List.drop_eq_getElem_cons (by simpa using hi)];have:cs[i]=c:=(zgs h).2;simp [this]
theorem oN{l:List qc}{gap:Int}(hs:Qc l)(hn:l.length<100000):DK 24 [qz l,.int gap] fun d=>∃cs,d=yn cs/\ClS gap (qt l) cs:=by
 have hsl:(qt l).length<100000:=by
  have:=wC (xi l).nodup (fun x hx=>qP.1 hx);omega
 have hss:Qc (qt l):=fun x hx=>hs x (qP.1 hx);refine qD qbJ rfl qX fun Z0 lo=>?_;refine qb ?_;intros;refine qk rfl rfl (VM oM) ?_;rintro _ rfl;refine qb ?_;intros;refine qr (qd (k:=1) rfl (qd (k:=5) rfl (qd (k:=6) rfl (qu _)))) (zH _) ?_;refine ql (fun m E S nk=>∃rest out,m=rest.length/\qK rest/\(∀x∈rest,x∈qt l)/\out.length+rest.length<=(qt l).length/\(∀cs,ClS gap rest cs->ClS gap (qt l) (out++cs))/\E=[(1,.int gap),(5,qz rest),(6,.one (.own 0 0 out.length 1))]/\S=[(0,.data (out.map qM))]/\nk=1) ⟨(qt l).length,_,_,_,[],?wk,qt l,[],rfl,xi l,fun x h=>h,by simp,fun cs h=>h,rfl,rfl,rfl⟩ ?_
 case wk=>exact qm
 rintro m E S nk ⟨rest,out,hm,hrows,hsub,hout,hcls,rfl,rfl,rfl⟩;have hrl:rest.length<100000:=by omega
 have hol:(out.map qM).length=out.length*1:=by simp
 have hrs:Qc rest:=fun x hx=>hss x (hsub x hx);refine qb ?_;intros;refine qe rfl (fun ht=>?_) (fun ht=>?_)
 ·simp at ht;obtain⟨p,r,rfl⟩:∃p r,rest=p::r:=by
   cases rest with
   |nil=>simp at ht
   |cons p r=>exact⟨p,r,rfl⟩
  have e0:=xd (l:=p::r) (i:=0) (x:=p) rfl;obtain⟨N,hN⟩:∃N,(p::r).length=N:=⟨_,rfl⟩;refine qb ?_;intros;refine qr (qd (k:=1) rfl (qd (k:=5) rfl (qd (k:=6) rfl (qd (k:=7) rfl (qd (k:=8) rfl (qu _)))))) (zH _) ?_;refine ql (fun m E S nk=>∃(one:List qc) (g:Bool),p∈one/\one.Nodup/\(∀x∈one,Conn gap (p::r) p x)/\(g=false->∀x∈one,∀y∈(p::r),xz x y<=gap->y∈one)/\m=2*(N-one.length)+(if g=true then 1 else 0)/\E=[(1,.int gap),(5,qz (p::r)),(6,.one (.own 0 0 out.length 1)),(7,.one (.own 1 0 one.length 2)),(8,.bool g)]/\S=[(0,.data (out.map qM)),(1,.data (one.flatMap qh))]/\nk=2) ⟨2*(N-1)+1,_,_,_,[],?wk1,[p],true,by simp,by simp,fun x hx=>?hx,fun h=>(by cases h),by simp,rfl,rfl,rfl⟩ ?_
  case wk1=>exact qm
  case hx=>simp at hx;subst hx;exact .base (by simp)
  rintro m2 E S nk ⟨one,g,hp,hnd,hconn,hclo,hm2,rfl,rfl,rfl⟩;have honl:=wC hnd fun x hx=>(hconn x hx).mem;refine qb ?_;intros;refine qe rfl (fun hg=>?_) (fun hg=>?_)
  ·subst hg;refine qb ?_;intros;refine qr (qd (k:=1) rfl (qd (k:=5) rfl (qd (k:=6) rfl (qd (k:=7) rfl (qd (k:=8) rfl (qd (k:=9) rfl (qu _))))))) (zH _) ?_;refine ql (fun k E S nk=>∃(i:Nat) (one':List qc) (g:Bool),i+k=N/\p∈one'/\one'.Nodup/\(∀x∈one',Conn gap (p::r) p x)/\one.length<=one'.length/\(g=true->one.length<one'.length)/\(g=false->∀(j:Nat) y,j<i->(p::r)[j]?=some y->∀x∈one',xz x y<=gap->y∈one')/\E=[(1,.int gap),(5,qz (p::r)),(6,.one (.own 0 0 out.length 1)),(7,.one (.own 1 0 one'.length 2)),(8,.bool g),(9,.int i)]/\S=[(0,.data (out.map qM)),(1,.data (one'.flatMap qh))]/\nk=2) ⟨N,_,_,_,[],?wk2,0,one,false,oM,hp,hnd,hconn,Nat.le_refl _,fun h=>(by cases h),fun _ j y h=>oM,rfl,rfl,rfl⟩ ?_
   case wk2=>exact qm
   rintro k E S nk ⟨i,one',g,hik,hp',hnd',hconn',hle,hgt,hg',rfl,rfl,rfl⟩;have honl':=wC hnd' fun x hx=>(hconn' x hx).mem;have hflat:=xb one';have hos:Qc one':=fun x hx=>hrs x (hconn' x hx).mem;refine qb ?_;intros;refine qe rfl (fun ht2=>?_) (fun ht2=>?_)
   ·simp at ht2;have hil:i<(p::r).length:=by simp only [List.length_cons];omega
    obtain⟨y,hy⟩:∃y,(p::r)[i]?=some y:=⟨_,zge hil⟩;have hym:y∈(p::r):=zmg hy;have e1:=xd hy;refine qb ?_;intros;refine YV (ds:=[qz one',zd y]) rfl ⟨⟨_,rfl,_,_,rfl,qH _ hflat,rfl⟩,⟨_,rfl,⟨rfl,rfl⟩,⟨rfl,rfl⟩,trivial⟩,trivial⟩ (uK (l:=one') (p:=y) oM) (by rintro _ rfl;rfl) ?_;rintro _ rfl;by_cases hyo:y∈one'
    ·have g1:(!decide (y∈one'))=false:=by simp [hyo]
     refine qU ?_;intros;refine qe rfl (fun h=>by cases h) (fun _=>?_);refine qb ?_;intros;refine⟨k-1,oM,_,_,_,[],?wk3,i+1,one',g,oM,hp',hnd',hconn',hle,hgt,fun hg j z hj hz x hx hf=>?_,rfl,rfl,rfl⟩
     case wk3=>exact qm
     by_cases hji:j=i
     ·subst hji;rw [hy] at hz;obtain rfl:=zsi hz;exact hyo
     ·exact hg' hg j z oM hz x hx hf
    ·have g1:(!decide (y∈one'))=true:=by simp [hyo]
     refine qU ?_;intros;rw [show IntKind.i64.wrap ((i:Int)+1)=((i+1:Nat):Int) by rw [qq (by omega) (by omega)];omega];refine qad (q:=qh y) (n':=1) rfl rfl rfl (by omega) (by simp;omega) (by omega) e1 ?_;refine qb ?_;intros;refine YV (ds:=[qz one',qz [y]]) rfl ⟨⟨_,rfl,_,_,rfl,qH _ hflat,rfl⟩,⟨_,rfl,rfl,rfl⟩,trivial⟩ (kA hos (fun x hx=>by simp at hx;subst hx;exact hrs x hym) (by omega) (by simp)) (by rintro _ rfl;rfl) ?_;rintro _ rfl;by_cases hd:xZ one' [y]<=gap
     ·have g2:decide (xZ one' [y]<=gap)=true:=by simpa using hd
      obtain⟨x,hx,hxy⟩:=(mZ (fun e=>by rw [e] at hp';simp at hp') y).1 hd;refine qU ?_;intros;refine qe rfl (fun _=>?_) (fun h=>by cases h);refine qb ?_;intros;refine qV rfl rfl rfl (qH _ hflat) ⟨rfl,rfl,_,rfl,rfl⟩ oM oM (by decide) rfl ?_;refine qb ?_;intros;have hD:one'.flatMap qh++qh y=(one'++[y]).flatMap qh:=by simp
      have hL:one'.length+1=(one'++[y]).length:=by simp
      refine⟨k-1,by omega,_,_,_,[(1,3)],?wk4,i+1,one'++[y],true,by omega,by simp [hp'],?hnd,fun z hz=>?hc,by simp;omega,fun _=>by simp;omega,fun h=>(by cases h),rfl,rfl,rfl⟩
      case wk4=>rw [<-hD,<-hL];exact qm
      case hnd=>exact List.nodup_append.2 ⟨hnd',by simp,fun a ha b hb e=>by simp at hb;subst hb;subst e;exact hyo ha⟩
      case hc=>
       rcases List.mem_append.1 hz with h|h
       ·exact hconn' z h
       ·simp at h;subst h;exact .step (hconn' x hx) hym hxy
     ·have g2:decide (xZ one' [y]<=gap)=false:=by simpa using hd
      refine qU ?_;intros;refine qe rfl (fun h=>by cases h) (fun _=>?_);refine qb ?_;intros;refine⟨k-1,oM,_,_,_,[],?wk5,i+1,one',g,oM,hp',hnd',hconn',hle,hgt,fun hg j z hj hz x hx hf=>?_,rfl,rfl,rfl⟩
      case wk5=>exact qm
      by_cases hji:j=i
      ·subst hji;rw [hy] at hz;obtain rfl:=zsi hz;exact absurd ((mZ (fun e=>by rw [e] at hx;simp at hx) y).2 ⟨x,hx,hf⟩) hd
      ·exact hg' hg j z oM hz x hx hf
   ·simp at ht2;refine qb ?_;intros;refine⟨2*(N-one'.length)+(if g=true then 1 else 0),?hlt,_,_,_,[],?wk6,one',g,hp',hnd',hconn',fun hg x hx y hy hf=>?_,rfl,rfl,rfl,rfl⟩
    case wk6=>exact qm
    case hlt=>
     rw [hm2];cases g with
     |true=>have:=hgt rfl;simp;omega
     |false=>simp;omega
    obtain⟨j,hj⟩:=List.getElem?_of_mem hy;have hjl:=(zgs hj).1;simp at hjl;exact hg' hg j y (by simp at hN;omega) hj x hx hf
  ·subst hg;have hclo:=hclo rfl;have hcc:=Vd hp hconn hclo;have hflat:=xb one;refine qb ?_;intros;refine qr (qd (k:=1) rfl (qd (k:=5) rfl (qd (k:=6) rfl (qd (k:=7) rfl (qd (k:=10) rfl (qd (k:=11) rfl (qu _))))))) (zH _) ?_;refine ql (fun k E S nk=>∃(i:Nat) (left:List qc),i+k=N/\left=minus ((p::r).take i) one/\E=[(1,.int gap),(5,qz (p::r)),(6,.one (.own 0 0 out.length 1)),(7,.one (.own 1 0 one.length 2)),(10,.one (.own 2 0 left.length 2)),(11,.int i)]/\S=[(0,.data (out.map qM)),(1,.data (one.flatMap qh)),(2,.data (left.flatMap qh))]/\nk=3) ⟨N,_,_,_,[],?wk7,0,[],by omega,by simp [minus],rfl,rfl,rfl⟩ ?_
   case wk7=>exact qm
   rintro k E S nk ⟨i,left,hik,hleft,rfl,rfl,rfl⟩;have hll:left.length<=i:=by
    rw [hleft];unfold minus;have:=List.length_filter_le (fun x=>!decide (x∈one)) ((p::r).take i);have h2:=List.length_take_le i (p::r);omega
   have hlfl:=xb left;refine qb ?_;intros;refine qe rfl (fun ht2=>?_) (fun ht2=>?_)
   ·simp at ht2;have hil:i<(p::r).length:=by simp only [List.length_cons];omega
    obtain⟨y,hy⟩:∃y,(p::r)[i]?=some y:=⟨_,zge hil⟩;have e1:=xd hy;refine qb ?_;intros;refine YV (ds:=[qz one,zd y]) rfl ⟨⟨_,rfl,_,_,rfl,qH _ hflat,rfl⟩,⟨_,rfl,⟨rfl,rfl⟩,⟨rfl,rfl⟩,trivial⟩,trivial⟩ (uK (l:=one) (p:=y) oM) (by rintro _ rfl;rfl) ?_;rintro _ rfl;refine qb ?_;intros;have hstep:minus ((p::r).take (i+1)) one=if y∈one then left else left++[y]:=by
     rw [List.take_add_one,hy,minus,List.filter_append,hleft,minus];by_cases hyo:y∈one<;>simp [hyo]
    refine qe rfl (fun hb=>?_) (fun hb=>?_)
    ·have hyo:y∉one:=by simpa using hb
     rw [if_neg hyo] at hstep;refine qb ?_;intros;refine qV rfl rfl rfl (qH _ hlfl) ⟨rfl,rfl,_,rfl,rfl⟩ oM oM (by decide) rfl ?_;refine qb ?_;intros;have hD:left.flatMap qh++qh y=(left++[y]).flatMap qh:=by simp
     have hL:left.length+1=(left++[y]).length:=by simp
     refine⟨k-1,oM,_,_,_,[(2,4)],?wk8,i+1,left++[y],oM,hstep.symm,rfl,rfl,rfl⟩
     case wk8=>rw [<-hD,<-hL];exact qm
    ·have hyo:y∈one:=by simpa using hb
     rw [if_pos hyo] at hstep;refine qb ?_;intros;refine⟨k-1,oM,_,_,_,[],?wk9,i+1,left,oM,hstep.symm,rfl,rfl,rfl⟩
     case wk9=>exact qm
   ·simp at ht2;have hlr:left=minus (p::r) one:=by rw [hleft,List.take_of_length_le (by simp at hN ⊢;omega)]
    refine xt 1 rfl qO qO ?_;refine qb ?_;intros;refine qk (ds:=[qz one]) rfl rfl (VM (l:=one) oM) ?_;rintro _ rfl;refine qb ?_;intros;refine qV rfl rfl rfl (qH _ hol) ⟨rfl,rfl,_,rfl,rfl⟩ oM oM (by decide) rfl ?_;refine Qb 2 rfl qO qO ?_;refine qb ?_;intros;have hD:out.map qM++[qM (qt one)]=(out++[qt one]).map qM:=by simp
    have hL:out.length+1=(out++[qt one]).length:=by simp
    refine⟨left.length,?hlt,_,_,_,[(0,4)],?wka,left,out++[qt one],rfl,?hr,fun x hx=>?hs2,?hle,fun cs hcs=>?hcl,rfl,rfl,rfl⟩
    case wka=>rw [<-hD,<-hL];exact qm
    case hlt=>have:=Yg (r:=r) hp;rw [hlr,hm];simp;omega
    case hr=>rw [hlr];exact hrows.minus _
    case hs2=>rw [hlr,yo] at hx;exact hsub x hx.1
    case hle=>have:=Yg (r:=r) hp;rw [hlr];simp at hout ⊢;omega
    case hcl=>
     rw [List.append_assoc];refine hcls _ (.cons (xi one) (fun x=>qP.trans (hcc x)) ?_);have:minus (p::r) (qt one)=left:=by
      rw [hlr];unfold minus;congr 1;funext x;simp [qP]
     rw [this];exact hcs
 ·simp at ht;subst ht;refine qb ?_;intros;refine qr (qd (k:=4) rfl (qu _)) (zH _) ?_;refine xt 0 rfl qO qO ?_;refine qb ?_;intros;refine qf ⟨_,rfl,rfl,out,rfl,?_⟩;have:=hcls [] .nil;simpa using this
def S3(R:xT)(left:Int):Bx:=[(0,.mt (xE R)),(1,.cells [.om 0]),(2,.cells [.f (.c (.int .i64 left))])]
def S4(R:xT)(left:Int)(A:List FD):Bx:=[(0,.mt (xE R)),(1,.cells [.om 0]),(2,.cells [.f (.c (.int .i64 left))]),(3,.data A)]
def S5(R:xT)(left:Int)(A B:List FD):Bx:=[(0,.mt (xE R)),(1,.cells [.om 0]),(2,.cells [.f (.c (.int .i64 left))]),(3,.data A),(4,.data B)]
theorem sK{ρ:List (Nat × Nat)}{n0:Nat}{S:Bx}{R:xT}{left:Int}(h0:lk S (rn ρ 0)=some (.mt (xE R)))(h1:lk S (rn ρ 1)=some (.cells [.om (rn ρ 0)]))(h2:lk S (rn ρ 2)=some (.cells [.f (.c (.int .i64 left))]))(hn:3<=n0):Vh ρ n0 S (S3 R left):=by
 have hb:∀k,k<3->Nat.blt k n0=true:=fun k hk=>Nat.ble_eq_true_of_le oM;have hb0:=hb 0 oM;refine⟨?_,ZB n0 R,hb 0 oM,h1,?_,hb 1 oM,h2,rfl,hb 2 oM,trivial⟩
 ·rw [h0];simp only [XO,vp]
 ·simp only [Wa,qW,vL,hb0]
theorem gI{ρ:List (Nat × Nat)}{n0:Nat}{S:Bx}{R:xT}{left:Int}{A:List FD}(h0:lk S (rn ρ 0)=some (.mt (xE R)))(h1:lk S (rn ρ 1)=some (.cells [.om (rn ρ 0)]))(h2:lk S (rn ρ 2)=some (.cells [.f (.c (.int .i64 left))]))(h3:lk S (rn ρ 3)=some (.data A))(hn:4<=n0):Vh ρ n0 S (S4 R left A):=by
 have hb:∀k,k<4->Nat.blt k n0=true:=fun k hk=>Nat.ble_eq_true_of_le oM;have hb0:=hb 0 oM;refine⟨?_,ZB n0 R,hb 0 oM,h1,?_,hb 1 oM,h2,rfl,hb 2 oM,h3,rfl,hb 3 oM,trivial⟩
 ·rw [h0];simp only [XO,vp]
 ·simp only [Wa,qW,vL,hb0]
theorem TG{ρ:List (Nat × Nat)}{n0:Nat}{S:Bx}{R:xT}{left:Int}{A B:List FD}(h0:lk S (rn ρ 0)=some (.mt (xE R)))(h1:lk S (rn ρ 1)=some (.cells [.om (rn ρ 0)]))(h2:lk S (rn ρ 2)=some (.cells [.f (.c (.int .i64 left))]))(h3:lk S (rn ρ 3)=some (.data A))(h4:lk S (rn ρ 4)=some (.data B))(hn:5<=n0):Vh ρ n0 S (S5 R left A B):=by
 have hb:∀k,k<5->Nat.blt k n0=true:=fun k hk=>Nat.ble_eq_true_of_le oM;have hb0:=hb 0 oM;refine⟨?_,ZB n0 R,hb 0 oM,h1,?_,hb 1 oM,h2,rfl,hb 2 oM,h3,rfl,hb 3 oM,h4,rfl,hb 4 oM,trivial⟩
 ·rw [h0];simp only [XO,vp]
 ·simp only [Wa,qW,vL,hb0]
theorem FS{k:Nat}{ok:Nat->Nat->Nat->Prop}(R:xT):B5 k ok (xE R):=by
 unfold xE;induction R with
 |nil=>trivial
 |cons e R ih=>exact ih
theorem eE{d:DC}(hd:wH 0 d=true)(y:Int):∀R:xT,ka 0 (xE R++[(y,.out d)])=true
 |[]=>by
  show ka 0 [(y,.out d)]=true
  simp only [ka,hd]
 |e::R=>eE hd y R
theorem sT(R:xT)(y:Int)(xs:List Int):xE (R++[(y,xs)])=xE R++[(y,.row (xs.map iF))]:=by simp [xE]
theorem FB{α:Type}(l:List α)(a b:α):(l++[a]).set l.length b=l++[b]:=by
 rw [List.set_append_right _ _ (Nat.le_refl _)];simp
theorem eG(l a b:List qc):minus (minus l a) b=minus l (a++b):=by
 unfold minus;rw [List.filter_filter];congr 1;funext x;by_cases h1:x∈a<;>by_cases h2:x∈b<;>simp [h1,h2]
theorem CD(l:List qc):minus l []=l:=by unfold minus;exact List.filter_eq_self.2 (by simp)
theorem YG{c:List qc}(hs:Xw c)(hn:c.Nodup):qK c:=by
 rw [qK,List.pairwise_iff_getElem];intro i j hi hj hij;refine hs.step (zge hi) (zge hj) hij fun e=>?_;have:=(List.getElem?_inj (i:=i) (j:=j) hi hn).1 (by rw [zge hi,zge hj,e]);omega
theorem bE(q y:qc)(g:Int):xz q y<=g↔q.1-g<=y.1/\y.1<=q.1+g/\q.2-g<=y.2/\y.2<=q.2+g:=by
 simp only [xz];omega
theorem e9 {Z0:Nat->Prop} {lo:Nat} {R:xT} {L g:Int} {out:List (List qc)} {c P:List qc} {N j:Nat} (hc:0<c.length) (hcn:c.Nodup) (hcl:c.length<1000000) (hol:out.length<1000000) {Q:Exit->qp->Bx->Nat->Prop}
 (hQ:Q .normal [(1,.int g),(7,.one (.ptr 2 0)),(10,.one (.fn 84 [(1,0),(2,0)])),(11,.one (.own 6 0 (out.length+1) 1)),(49,qz P),(50,.int N),(51,.int j)] [(0,.mt (xE R)),(1,.cells [.om 0]),(2,.cells [.f (.c (.int .i64 L))]),(6,.data ((out++[qt c]).map qM))] 7):
 DPS (Par.base Tryz.prog 1 (H00 1) Z0 lo) Va.n (.seq (.ops C5 0) (.ops C4 0)) Q [(1,.int g),(7,.one (.ptr 2 0)),(10,.one (.fn 84 [(1,0),(2,0)])),(11,.one (.own 3 0 out.length 1)),(14,.one (.own 4 0 c.length 2)),(49,qz P),(50,.int N),(51,.int j)] (S5 R L (out.map qM) (c.flatMap qh)) 5:=by
 refine qb ?_;intros;refine vA rfl rfl rfl (rD (k:=4) (l:=c) rfl hc oM _ _ _ _ _) ?_;rintro _ _ _ ⟨rfl,rfl,c',hperm,hsort,rfl⟩;have hfl:(c'.flatMap qh).length=c.length*2:=by rw [xb,hperm.length_eq]
 have hcl':c'.length=c.length:=hperm.length_eq;have hc':c'=qt c:=qK.ext (YG hsort (hperm.nodup_iff.2 hcn)) (xi c) (fun p=>by rw [hperm.mem_iff,qP]);rw [<-hc'] at hQ;have hok:=FS (k:=4) (ok:=eA (c'.flatMap qh)) R;have hol':(out.map qM).length=out.length*1:=by simp
 refine yI ?_;refine xt 4 rfl qO qO ?_;refine Jv [] (n0:=5) (E0:=[(1,.int g),(7,.one (.ptr 2 0)),(10,.one (.fn 84 [(1,0),(2,0)])),(11,.one (.own 3 0 out.length 1)),(14,.one (.f (.sl 2 c.length (c'.flatMap qh)))),(49,qz P),(50,.int N),(51,.int j)]) (S0:=S4 R L (out.map qM)) ⟨za,gI (congrArg (fun z=>some (Bk.mt z)) (vp _ R)) rfl rfl rfl oM,rfl,rfl⟩ ?_;refine qb ?_;intros;refine qV (q:=[.sl 2 c.length (c'.flatMap qh)]) rfl rfl rfl (qH _ hol') ⟨rfl,rfl,_,rfl,rfl⟩ oM oM (by decide) rfl ?_;have hD:out.map qM++[.sl 2 c.length (c'.flatMap qh)]=(out++[c']).map qM:=by simp [qM,hcl']
 refine zJ rfl ?_;rw [hD];refine yJ (qd (k:=1) rfl (qd (k:=7) rfl (qd (k:=10) rfl (qd (k:=11) rfl (qd (k:=49) rfl (qd (k:=50) rfl (qd (k:=51) rfl (qu _)))))))) (qd (k:=0) rfl (qd (k:=1) rfl (qd (k:=2) rfl (qd (k:=6) rfl (qu _))))) ?_;exact yI hQ
theorem H7 {Z0:Nat->Prop} {lo:Nat} {gap:Int} {P:List qc} (hP:qK P) (hl:P.length<900000) {Q:Exit->qp->Bx->Nat->Prop}
 (hQ:∀R,vI R P->Q (.exit 0) [(1,.int gap),(4,.one (.f (.c .nils))),(5,qz P),(6,.one (.ptr 1 0)),(7,.one (.ptr 2 0))] (S3 R P.length) 3):
 DPS (Par.base Tryz.prog 1 (H00 1) Z0 lo) Va.n (.loop fU) Q [(1,.int gap),(4,.one (.f (.c .nils))),(5,qz P),(6,.one (.ptr 1 0)),(7,.one (.ptr 2 0)),(27,qz P),(28,.int P.length),(29,.int 0)] (S3 [] P.length) 3:=by
 refine ql (fun m E S nk=>∃(i:Nat) (R:xT),i+m=P.length/\vI R (P.take i)/\E=[(1,.int gap),(4,.one (.f (.c .nils))),(5,qz P),(6,.one (.ptr 1 0)),(7,.one (.ptr 2 0)),(27,qz P),(28,.int P.length),(29,.int i)]/\S=S3 R P.length/\nk=3) ⟨P.length,_,_,_,[],?wk,0,[],by omega,⟨RowsS.nil,fun p=>by simp [n3]⟩,rfl,rfl,rfl⟩ ?_
 case wk=>exact⟨za,sK rfl rfl rfl oM,rfl,rfl⟩
 rintro m E S nk ⟨i,R,him,hR,rfl,rfl,rfl⟩;refine qb ?_;intros;refine qe rfl (fun ht=>?_) (fun ht=>?_)
 ·simp at ht;obtain⟨⟨px,py⟩,hp⟩:∃p,P[i]?=some p:=⟨_,zge oM⟩;have e1:=xd hp;have htk:P.take (i+1)=P.take i++[(px,py)]:=by rw [List.take_add_one,hp];rfl
  have hPl:∀e∈R,e.2.length<=i:=fun e he=>by
   have h1:=hR.1.str e he;have h2:(e.2.map fun x=>(x,e.1)).Nodup:=by
    rw [List.Nodup,List.pairwise_map];exact List.Pairwise.imp (fun {a b} hab h=>by injection h;omega) h1
   have h3:=wC h2 (b:=P.take i) fun x hx=>by
    obtain⟨z,hz,rfl⟩:=List.mem_map.1 hx;exact (hR.2 _).1 ⟨e,he,rfl,hz⟩
   have h4:=List.length_take_le i P;simp at h3;omega
  refine qb ?_;intros;by_cases hy:∃(i0:Nat) (xs:List Int),R[i0]?=some (py,xs)
  ·obtain⟨i0,xs,hi0⟩:=hy;obtain⟨M,hM⟩:∃M,(xs.map iF).length=M:=⟨_,rfl⟩;have hM':xs.length=M:=by rw [<-hM];simp
   have hMi:=hPl _ (zmg hi0);simp only at hMi;have hlt:∀z∈xs,z<px:=fun z hz=>by
    have:(z,py)∈P.take i:=(hR.2 _).1 ⟨_,zmg hi0,rfl,hz⟩;obtain⟨k,hk⟩:=List.getElem?_of_mem this;rw [List.getElem?_take] at hk;split at hk
    ·rename_i hki;obtain⟨a1,a2⟩:=zgs hk;obtain⟨b1,b2⟩:=zgs hp;have:=List.pairwise_iff_getElem.1 hP k i a1 b1 hki;rw [a2,b2,jL] at this;simp at this;exact this
    ·cases hk
   have hset:=hR.set hi0 hlt oM;rw [<-htk] at hset;have hes:∀d:DC,((xE R).set i0 (py,.out d))[i0]?=some (py,.out d):=fun d=>by
    have:i0<(xE R).length:=by have:=(zgs hi0).1;simpa [xE] using this
    rw [List.getElem?_set_self this]
   have hfs:∀(d:DC) (j:Nat) (e':Int × ME),j<i0->((xE R).set i0 (py,.out d))[j]?=some e'->e'.1≠py:=fun d j e' hj he=>by
    rcases ZC he with⟨h,_⟩|⟨_,h⟩
    ·omega
    ·exact Ju hR.1.nd hi0 j e' hj h
   refine mQ (y:=py) (q:=xs.map iF) rfl rfl rfl (Vq hi0) (Ju hR.1.nd hi0) rfl (Wx R) rfl rfl ?_;rw [hM];refine qb ?_;intros;refine qV (l':=xs.map iF) (q:=[iF px]) rfl rfl rfl (qH _ oM) ⟨rfl,rfl,_,rfl,rfl⟩ oM oM (by decide) rfl ?_;refine rE (y:=py) rfl rfl rfl rfl (hes _) (hfs _) rfl ?_;rw [List.set_set];have hq:(xs.map iF++[iF px]).length=M+1:=by simp;omega
   refine DO 0 6 i0 rfl rfl (by rw [hq];exact hes _) rfl (Jl rfl py R i0) rfl rfl ?_;rw [List.set_set];have hm1:xE (R.set i0 (py,xs++[px]))=(xE R).set i0 (py,.row (xs.map iF++[iF px])):=by rw [Wh];simp
   refine qb ?_;intros;refine⟨m-1,oM,_,_,_,[],?wk1,i+1,R.set i0 (py,xs++[px]),oM,hset,rfl,rfl,rfl⟩
   case wk1=>exact⟨za,sK (congrArg (fun z=>some (Bk.mt z)) hm1.symm) rfl rfl oM,rfl,rfl⟩
  ·have hn:∀e∈R,e.1≠py:=fun e he h=>hy (by
    obtain⟨k,hk⟩:=List.getElem?_of_mem he;exact⟨k,e.2,by rw [hk,<-h]⟩)
   have hn':∀e∈xE R,e.1≠py:=fun e he=>by
    simp only [xE,List.mem_map] at he;obtain⟨e',he',rfl⟩:=he;exact hn e' he'
   have hpush:=hR.push (x:=px) hn;rw [<-htk] at hpush;refine eW rfl rfl rfl hn' rfl ?_;refine qb ?_;intros;refine P5 39 1 rfl ?_;refine qV (l':=[]) (q:=[iF px]) rfl rfl rfl rfl ⟨rfl,rfl,_,rfl,rfl⟩ oM oM (by decide) rfl ?_;refine HB (y:=py) rfl rfl rfl rfl hn' rfl ?_;refine DO (y:=py) (q:=[]++[iF px]) 0 6 (xE R).length rfl rfl (by simp) rfl (eE rfl py R) rfl rfl ?_;rw [FB];refine qb ?_;intros;refine⟨m-1,oM,_,_,_,[],?wk2,i+1,R++[(py,[px])],oM,hpush,rfl,rfl,rfl⟩
   case wk2=>exact⟨za,sK (congrArg (fun z=>some (Bk.mt z)) (sT R py [px]).symm) rfl rfl oM,rfl,rfl⟩
 ·simp at ht;rw [List.take_of_length_le (by omega)] at hR;refine qr (qd (k:=1) rfl (qd (k:=4) rfl (qd (k:=5) rfl (qd (k:=6) rfl (qd (k:=7) rfl (qu _)))))) (qd (k:=0) rfl (qd (k:=1) rfl (qd (k:=2) rfl (qu _)))) ?_;exact ja (hQ R hR)
theorem N9(l:List qc):l.flatMap qh=(zD l).map .c:=by
 induction l with
 |nil=>rfl
 |cons p l ih=>rw [List.flatMap_cons,ih];rfl
theorem n8(l:List qc):∀c∈zD l,c.closed=true:=by
 intro c hc;obtain⟨p,_,hp⟩:=List.mem_flatMap.1 hc;simp only [x6,List.mem_cons,List.not_mem_nil,or_false] at hp;rcases hp with rfl|rfl<;>rfl
theorem d6{Z:Nat->Prop}{H':Hp}{lo hi:Nat}{l:List qc}{v:V}(h:j5 H' lo hi l v)(hz:∀b,lo<=b->b<hi->Z b):xG Z H' wU (qz l) v:=by
 obtain⟨⟨h1,h2⟩,h3⟩:=h;rcases h2 with⟨rfl,h0⟩|⟨b,ex,rfl,hlo,hr⟩
 ·obtain rfl:l=[]:=List.eq_nil_of_length_eq_zero h0;exact⟨_,rfl,.nil 2⟩
 ·have hb:=h3 b rfl;refine⟨_,rfl,.sl (fun _=>hz b hb.1 hb.2) (by rw [xb]) (Nat.le_refl _) (by rw [<-h1];exact hr.2) fun i d c hd hc=>?_⟩;rw [N9,List.getElem?_map,hc] at hd;obtain rfl:=zsi hd;exact .c c (n8 l c (zmg hc))
theorem dS{a b:Int}(hb:0<b):(if a.tmod b<0 then a.tdiv b-1 else a.tdiv b)=a/b:=by
 have h1:=Int.tmod_add_mul_tdiv a b;have h2:=NU a hb;have h3:=Int.emod_add_mul_ediv a b;have h4:=Int.emod_nonneg a (by omega:b≠0);have h5:=Int.emod_lt_of_pos a hb;split
 ·rename_i h;have key:b*(a.tdiv b-1-a/b)=a % b-a.tmod b-b:=by
   rw [Int.mul_sub,Int.mul_sub];omega
  have:a.tdiv b-1-a/b=0:=by
   by_cases hc:a.tdiv b-1-a/b=0
   ·exact hc
   ·exfalso;rcases Int.lt_or_gt_of_ne hc with hlt|hgt
    ·have:b*(a.tdiv b-1-a/b)<=b*(-1):=Int.mul_le_mul_of_nonneg_left oM oM;omega
    ·have:b*1<=b*(a.tdiv b-1-a/b):=Int.mul_le_mul_of_nonneg_left oM oM;omega
  omega
 ·rename_i h;have key:b*(a.tdiv b-a/b)=a % b-a.tmod b:=by
   rw [Int.mul_sub];omega
  have:a.tdiv b-a/b=0:=by
   by_cases hc:a.tdiv b-a/b=0
   ·exact hc
   ·exfalso;rcases Int.lt_or_gt_of_ne hc with hlt|hgt
    ·have:b*(a.tdiv b-a/b)<=b*(-1):=Int.mul_le_mul_of_nonneg_left oM oM;omega
    ·have:b*1<=b*(a.tdiv b-a/b):=Int.mul_le_mul_of_nonneg_left oM oM;omega
  omega
theorem o5{a b:Int}(h1: -1000000000000000000<a)(h2:a<1000000000000000000): -1000000000000000000<a.tdiv b/\a.tdiv b<1000000000000000000:=by
 have h:(a.tdiv b).natAbs=a.natAbs/b.natAbs:=Int.natAbs_tdiv a b;have h3:a.natAbs/b.natAbs<=a.natAbs:=Nat.div_le_self _ _;rw [<-h] at h3;omega
theorem d5{H:Hp}{a b:Int}(hb:0<b)(h1: -1000000000000000000<a)(h2:a<1000000000000000000):qJ Tryz.prog 1 138 [.int a,.int b] H fun v H'=>v=.int (a/b)/\H'=H:=by
 have hd:=o5 (b:=b) h1 h2;have hf:=dS (a:=a) hb;refine v7 MQ (by simp [tW]) fun hwf=>?_;refine zP ?_;refine BQ rfl rfl rfl oM ?_;rw [xw (n:=a.tdiv b) (by omega) (by omega)];refine zP ?_;refine BP rfl rfl rfl oM ?_;refine zP ?_;refine QQ rfl rfl (fun ht=>?_) (fun ht=>?_)
 ·refine zP ?_;simp at ht;rw [if_pos ht] at hf;refine jF ⟨_,rfl,?_,rfl⟩;rw [xw (by omega) (by omega),hf]
 ·refine zP ?_;simp at ht;rw [if_neg (by omega)] at hf;exact jF ⟨_,rfl,by rw [hf],rfl⟩
def ZW(a b k n:Int):Int:=(2*(a*n+k*(b-a))+n)/(2*n)
theorem QT{a b A B:Int}(h1: -A<=a)(h2:a<=A)(h3: -B<=b)(h4:b<=B): -(A*B)<=a*b/\a*b<=A*B:=by
 have hA:0<=A:=by omega
 have hB:0<=B:=by omega
 have:(a*b).natAbs<=(A*B).natAbs:=by
  rw [Int.natAbs_mul,Int.natAbs_mul];exact Nat.mul_le_mul oM oM
 have hp:0<=A*B:=Int.mul_nonneg hA hB;omega
theorem bZ{H:Hp}{a b k n:Int}(ha: -1000000<=a)(ha':a<=1000000)(hb: -1000000<=b)(hb':b<=1000000)(hk:0<=k)(hk':k<=1000000)(hn:0<n)(hn':n<=1000000):qJ Tryz.prog 1 137 [.int a,.int b,.int k,.int n] H fun v H'=>v=.int (ZW a b k n)/\H'=H:=by
 have m1:=QT (a:=a) (b:=n) (A:=1000000) (B:=1000000) oM oM oM oM;have m2:=QT (a:=k) (b:=b-a) (A:=1000000) (B:=2000000) oM oM oM oM;have hd:=o5 (a:=2*(a*n+k*(b-a))+n) (b:=2*n) oM oM;have hf:=dS (a:=2*(a*n+k*(b-a))+n) (b:=2*n) oM;refine v7 MR (by simp [tX]) fun hwf=>?_;refine zP ?_;rw [xw (n:=a*n) (by omega) (by omega),xw (n:=b-a) (by omega) (by omega),xw (n:=k*(b-a)) (by omega) (by omega),xw (n:=a*n+k*(b-a)) (by omega) (by omega),xw (n:=2*(a*n+k*(b-a))) (by omega) (by omega),xw (n:=2*(a*n+k*(b-a))+n) (by omega) (by omega),xw (n:=2*n) (by omega) (by omega)];have hbt:ZW a b k n=(2*(a*n+k*(b-a))+n)/(2*n):=rfl;rw [hbt];clear hbt;generalize 2*(a*n+k*(b-a))+n=N at *;refine BQ rfl rfl rfl oM ?_;rw [xw (n:=N.tdiv (2*n)) (by omega) (by omega)];refine zP ?_;rw [xw (n:=2*n) (by omega) (by omega)];refine BP rfl rfl rfl oM ?_;refine zP ?_;refine QQ rfl rfl (fun ht=>?_) (fun ht=>?_)
 ·refine zP ?_;simp at ht;rw [if_pos ht] at hf;refine jF ⟨_,rfl,?_,rfl⟩;rw [xw (by omega) (by omega),hf]
 ·refine zP ?_;simp at ht;rw [if_neg (by omega)] at hf;exact jF ⟨_,rfl,by rw [hf],rfl⟩
def QS(l:List Pt):Bool:=l.all fun p=>decide (-1000<=p.1)&&decide (p.1<=1000)&&decide (-1000<=p.2)&&decide (p.2<=1000)
theorem OK{H:Hp}{l:List Pt}{v:V}(hl:Yr H l v)(hn:l.length<1000000000000):qJ Tryz.prog 1 91 [v] H fun v _=>v=.bool (QS l):=by
 refine v7 qaO (by simp [LT]) fun hwf=>?_;have hlen:=hl.len;refine zP ?_;refine cM (fun m E H'=>Yr H' l v/\∃k:Nat,k+m=l.length/\E=[(5,v),(6,.int l.length),(7,.int k)]/\QS (l.take k)=true) (m:=l.length) ⟨_,(x7.cons (k:=5) rfl (x7.cons (k:=6) rfl (x7.cons (k:=7) rfl (x7.nil _)))),hl,0,oM,rfl,rfl⟩ ?_;rintro m E H' hwf' ⟨hl',k,hk,rfl,hno⟩;refine zP ?_;refine QQ rfl rfl (fun ht=>?_) (fun ht=>?_)
 ·simp at ht;obtain⟨p,hp⟩:∃p,l[k]?=some p:=⟨_,zge oM⟩;obtain⟨b,o,e1,e2⟩:=hl'.at hp .i64;obtain⟨H3,s1,hw3,hx3,hb3,hn3⟩:=OJ hwf' [.int .i64 0,.int .i64 0] (x6 p) rfl;refine zP ?_;have c0:=hb3.cell (i:=0) rfl;have c1:=hb3.cell (i:=1) rfl;refine Xk rfl rfl (T3 rfl rfl rfl rfl s1 trivial ?_);refine zP ?_;have hpk:QS (l.take (k+1))=(QS (l.take k)&&QS [p]):=by
   rw [List.take_add_one,hp];simp [QS]
  refine QQ rfl rfl (fun ht2=>?_) (fun ht2=>?_)
  ·refine zP ?_;refine jF ⟨_,rfl,?_⟩;congr 2
   symm
   simp at ht2;simp only [QS,List.all_eq_false];refine⟨p,zmg hp,?_⟩;simp;omega
  ·refine zP ?_;simp at ht2;refine⟨m-1,oM,_,(x7.cons (k:=5) rfl (x7.cons (k:=6) rfl (x7.cons (k:=7) rfl (x7.nil _)))),hl'.ext hx3,k+1,oM,?_,?_⟩
   ·rw [xw (by omega) (by omega)];rfl
   ·rw [hpk,hno];simp [QS];omega
 ·simp at ht;obtain rfl:k=l.length:=by omega
  rw [List.take_length] at hno;refine cN ?_;refine zP ?_;exact jF ⟨_,rfl,by rw [hno]⟩
theorem OL{H:Hp}{l:List Pt}{v:V}(hl:Yr H l v)(hn:l.length<1000000000000):qJ Tryz.prog 1 91 [v] H fun v H'=>v=.bool (QS l)/\H'=H:=
 (qJ.pure (OK (hl.le (Le.ro H)) hn) (fun v _ h=>by rw [h];rfl)).mono fun v H' ⟨⟨_,h⟩,e⟩=>⟨h,e⟩
def wj(p q:Pt)(n:Int)(k:Nat):Pt:=(ZW p.1 q.1 k n,ZW p.2 q.2 k n)
def xR(p q:Pt):List Pt:=if xz p q=0 then [p] else (List.range ((xz p q).toNat+1)).map (wj p q (xz p q))
theorem CX{B:Int}{p q:Pt}(hp:qC B p)(hq:qC B q):0<=xz p q/\xz p q<=2*B:=by
 obtain⟨p1,p2,p3,p4⟩:=hp;obtain⟨q1,q2,q3,q4⟩:=hq;simp only [xz];omega
theorem FF{H:Hp}{p q:Pt}(hp:qC 1000 p)(hq:qC 1000 q):qJ Tryz.prog 1 122 [Go.Ab.ptV p,Go.Ab.ptV q] H fun v H'=>j5 H' H.nx H'.nx (xR p q) v:=by
 have hfb:=CX hp hq;have hp':qC 1000000000000000000 p:=by obtain⟨p1,p2,p3,p4⟩:=hp;exact⟨oM,oM,oM,oM⟩
 have hq':qC 1000000000000000000 q:=by obtain⟨p1,p2,p3,p4⟩:=hq;exact⟨oM,oM,oM,oM⟩
 refine v7 MW (by simp [tY]) fun hwf=>?_;obtain⟨hw1,hx1,hb1⟩:=wI hwf (x6 p) rfl;obtain⟨hw2,hx2,hb2⟩:=wI hw1 (x6 q) rfl;refine vZ (Xm wi (Xk rfl rfl (Xk rfl rfl (YJ (XP ?_)))));replace hb1:=hb1.ext hx2;have hn2:((H.push (.row (x6 p).length (x6 p) .lf true)).push (.row (x6 q).length (x6 q) .lf true)).nx=H.nx+2:=rfl;generalize ((H.push _).push _)=H2 at *;have l1:=hb1.2;have l2:=hb2.2;refine vZ (Xm wi ?_);refine Ko rfl rfl l1 (Ko rfl rfl l2 (kV rfl rfl (pA hp' hq') (by repeat (first|exact trivial|refine⟨by assumption,?_⟩)) ?_));obtain⟨hw3,hx3,hb3⟩:=wI (n:=0) hw2 [] rfl;refine Xk (bk:=.row 0 [] .lf true) (g:=fun b=>.one (.slc b 0 0 0 2 true)) rfl rfl ?_;refine YI rfl (YI rfl (XP ?_));replace hb1:=hb1.ext hx3;replace hb2:=hb2.ext hx3;have hP:j5 (H2.push (.row 0 [] .lf true)) (H.nx+2) (H.nx+3) [] (.one (.slc H2.nx 0 0 0 2 true)):=j5.none (by rw [Hp.get_push,if_pos rfl]) (by omega) (by omega);have hn3:(H2.push (.row 0 [] .lf true)).nx=H.nx+3:=by simp [hn2]
 refine BZ (x7.cons (k:=2) rfl (x7.cons (k:=3) rfl (x7.cons (k:=5) rfl (x7.cons (k:=6) rfl (x7.nil _))))) ?_;generalize (H2.push _)=H3 at *;replace l1:=hb1.2;generalize hn:xz p q=n at *;refine zP ?_;refine QQ rfl rfl (fun ht=>?_) (fun ht=>?_)
 ·simp at ht;refine zP ?_;refine sX rfl rfl rfl ?_;refine YI rfl (XP (jF ⟨_,rfl,?_⟩));rw [xR,if_pos (by omega)];refine⟨⟨rfl,.inr ⟨H3.nx,true,rfl,by omega,?_⟩⟩,fun b hb=>by obtain rfl:=zsi hb;simp;omega⟩;exact xX.new (x6 p)
 ·simp at ht;refine zP ?_;refine cM (fun m E H'=>∃k:Nat,k+m=n.toNat+1/\∃v,E=[(2,.one (.ptr H.nx 0)),(3,.one (.ptr (H.nx+1) 0)),(5,.int n),(6,v),(7,.int k)]/\H.nx+2<=H'.nx/\xX H' H.nx (x6 p)/\xX H' (H.nx+1) (x6 q)/\j5 H' (H.nx+2) H'.nx ((List.range k).map (wj p q n)) v) (m:=n.toNat+1) ⟨_,(x7.cons (k:=2) rfl (x7.cons (k:=3) rfl (x7.cons (k:=5) rfl (x7.cons (k:=6) rfl (x7.cons (k:=7) rfl (x7.nil _)))))),0,oM,_,rfl,oM,hb1,hb2,hP.mono oM oM⟩ ?_;rintro m E H' hwf' ⟨k,hk,v,rfl,hnx,g1,g2,hP'⟩;have c0:=g1.cell (i:=0) rfl;have c1:=g1.cell (i:=1) rfl;have d0:=g2.cell (i:=0) rfl;have d1:=g2.cell (i:=1) rfl;obtain⟨p1,p2,p3,p4⟩:=hp;obtain⟨q1,q2,q3,q4⟩:=hq;refine zP ?_;refine QQ rfl rfl (fun ht2=>?_) (fun ht2=>?_)
  ·simp at ht2;refine zP ?_;have m1:=QT (a:=p.1) (b:=n) (A:=1000) (B:=2000) oM oM oM oM;have m2:=QT (a:=(k:Int)) (b:=q.1-p.1) (A:=2000) (B:=2000) oM oM oM oM;have m3:=QT (a:=p.2) (b:=n) (A:=1000) (B:=2000) oM oM oM oM;have m4:=QT (a:=(k:Int)) (b:=q.2-p.2) (A:=2000) (B:=2000) oM oM oM oM;rw [xw (n:=p.1*n) (by omega) (by omega),xw (n:=q.1-p.1) (by omega) (by omega),xw (n:=k*(q.1-p.1)) (by omega) (by omega),xw (n:=p.1*n+k*(q.1-p.1)) (by omega) (by omega),xw (n:=2*(p.1*n+k*(q.1-p.1))) (by omega) (by omega),xw (n:=2*(p.1*n+k*(q.1-p.1))+n) (by omega) (by omega),xw (n:=2*n) (by omega) (by omega)];refine kV rfl rfl (d5 oM oM oM) (by repeat (first|exact trivial|refine⟨by assumption,?_⟩)) ?_;refine zP ?_;rw [xw (n:=p.2*n) (by omega) (by omega),xw (n:=q.2-p.2) (by omega) (by omega),xw (n:=k*(q.2-p.2)) (by omega) (by omega),xw (n:=p.2*n+k*(q.2-p.2)) (by omega) (by omega),xw (n:=2*(p.2*n+k*(q.2-p.2))) (by omega) (by omega),xw (n:=2*(p.2*n+k*(q.2-p.2))+n) (by omega) (by omega),xw (n:=2*n) (by omega) (by omega)];refine kV rfl rfl (d5 oM oM oM) (by repeat (first|exact trivial|refine⟨by assumption,?_⟩)) ?_;refine zP ?_;obtain⟨v',H5,a1,a2,a3,a4,a5,a6⟩:=hP'.append1 (H1:=H'.push (.row 2 (x6 (wj p q n k)) .lf true)) (bb:=H'.nx) (p:=wj p q n k) (Nat.le_refl _) (hwf'.push _) (fun b hb=>by rw [Hp.get_push,if_neg (by omega)]) (by simp) (by rw [Hp.get_push,if_pos rfl]) hnx (by simp;omega);refine sX (cs:=x6 (wj p q n k)) rfl rfl rfl ?_;refine BX rfl rfl rfl a1 a2 trivial ?_;refine zP ?_;have hne:∀b,b<H.nx+2->Wr v≠some b:=fun b hb e=>by have:=hP'.2 b e;omega
   refine⟨m-1,oM,_,(x7.cons (k:=2) rfl (x7.cons (k:=3) rfl (x7.cons (k:=5) rfl (x7.cons (k:=6) rfl (x7.cons (k:=7) rfl (x7.nil _)))))),k+1,oM,v',?_,oM,g1.same (a4 _ oM (hne _ oM)),g2.same (a4 _ oM (hne _ oM)),?_⟩
   ·rw [xw (by omega) (by omega)];rfl
   ·rw [List.range_succ,List.map_append];exact a3
  ·simp at ht2;obtain⟨c,rfl⟩:=hP'.one;refine cN ?_;refine zP ?_;refine jF ⟨_,rfl,?_⟩;rw [xR,hn,if_neg ht,show n.toNat+1=k by omega];exact hP'.mono oM (Nat.le_refl _)
theorem FG{H:Hp}{p q:Pt}(hp:qC 1000 p)(hq:qC 1000 q):qJ Tryz.prog 1 122 [Go.Ab.ptV p,Go.Ab.ptV q] H fun v H'=>j5 H' H.nx H'.nx (xR p q) v/\Ext H H':=
 (qJ.grow (FF hp hq)).mono fun v H' ⟨H1,hg,e1,e2,e3,e4,_⟩=>by
  subst e1;exact⟨hg.same fun b hb=>e4 b (hg.2 b hb).1,e3,e2⟩
theorem OT{H:Hp}{p q:Pt}(hp:qC 1000 p)(hq:qC 1000 q):qJ Tryz.prog 1 120 [Go.Ab.ptV p,Go.Ab.ptV q] H fun v H'=>j5 H' H.nx H'.nx (xR p q) v:=by
 have hfb:=CX hp hq;have hp':qC 1000000000000000000 p:=by obtain⟨p1,p2,p3,p4⟩:=hp;exact⟨oM,oM,oM,oM⟩
 have hq':qC 1000000000000000000 q:=by obtain⟨p1,p2,p3,p4⟩:=hq;exact⟨oM,oM,oM,oM⟩
 refine v7 MY (by simp [tZ]) fun hwf=>?_;obtain⟨hw1,hx1,hb1⟩:=wI hwf (x6 p) rfl;obtain⟨hw2,hx2,hb2⟩:=wI hw1 (x6 q) rfl;refine vZ (Xm wi (Xk rfl rfl (Xk rfl rfl (YJ (XP ?_)))));replace hb1:=hb1.ext hx2;have hn2:((H.push (.row (x6 p).length (x6 p) .lf true)).push (.row (x6 q).length (x6 q) .lf true)).nx=H.nx+2:=rfl;generalize ((H.push _).push _)=H2 at *;have l1:=hb1.2;have l2:=hb2.2;refine vZ (vZ (Xm wi ?_));refine Ko rfl rfl l1 (Ko rfl rfl l2 ?_);obtain⟨hw3,hx3,hb3⟩:=wI (n:=4) hw2 (x6 p++x6 q) rfl;refine Xk (bk:=.row 4 (x6 p++x6 q) .lf true) (g:=fun b=>.one (.slc b 0 2 2 2 true)) rfl rfl ?_;have hpts:Yr (H2.push (.row 4 (x6 p++x6 q) .lf true)) [p,q] (.one (.slc H2.nx 0 2 2 2 true)):=⟨rfl,.inr ⟨H2.nx,0,2,true,rfl,hb3.2⟩⟩;have hnear:QS [p,q]=true:=by
  obtain⟨p1,p2,p3,p4⟩:=hp;obtain⟨q1,q2,q3,q4⟩:=hq;simp [QS];omega
 refine kV rfl rfl (OL hpts (by simp)) (by repeat (first|exact trivial|refine⟨by assumption,?_⟩)) ?_;rw [hnear];replace hb1:=hb1.ext hx3;replace hb2:=hb2.ext hx3;replace l1:=hb1.2;replace l2:=hb2.2;have hn3:(H2.push (.row 4 (x6 p++x6 q) .lf true)).nx=H.nx+3:=by simp [hn2]
 generalize (H2.push (.row 4 (x6 p++x6 q) .lf true))=H3 at *;refine zP ?_;refine QQ rfl rfl (fun ht=>by cases ht) (fun _=>?_);refine zP ?_;refine kV rfl rfl (nT hp' hq') (by repeat (first|exact trivial|refine⟨by assumption,?_⟩)) ?_;refine zP ?_;refine BZ (x7.cons (k:=2) rfl (x7.cons (k:=3) rfl (x7.cons (k:=5) rfl (x7.cons (k:=17) rfl (x7.nil _))))) ?_;generalize hn:xz p q=n at *;refine QQ rfl rfl (fun ht=>?_) (fun ht=>?_)
 ·simp at ht;refine zP ?_;refine sX rfl rfl rfl ?_;refine YI rfl (XP (jF ⟨_,rfl,?_⟩));rw [xR,if_pos (by omega)];refine⟨⟨rfl,.inr ⟨H3.nx,true,rfl,by omega,?_⟩⟩,fun b hb=>by obtain rfl:=zsi hb;simp;omega⟩;exact xX.new (x6 p)
 ·simp at ht;refine zP ?_;obtain⟨N,hN⟩:∃N:Nat,n=N:=⟨n.toNat,oM⟩;subst hN;rw [xw (n:=(N:Int)+1) (by omega) (by omega)];refine T4 (n:=0) (m:=N+1) rfl rfl rfl oM oM oM ?_;have hr0:vF (H3.push (.row ((N+1)*2) [.int .i64 0,.int .i64 0] .lf true)) H3.nx (N+1) []:=vF.new (by rw [Hp.get_push,if_pos rfl]);have hx4:=Ext.push hw3 (Ext.refl H3) (.row ((N+1)*2) [.int .i64 0,.int .i64 0] .lf true);replace hb1:=hb1.ext hx4;replace hb2:=hb2.ext hx4;have hn4:(H3.push (.row ((N+1)*2) [.int .i64 0,.int .i64 0] .lf true)).nx=H.nx+4:=by simp [hn3]
  generalize (H3.push (.row ((N+1)*2) [.int .i64 0,.int .i64 0] .lf true))=H4 at *;rw [hn3] at hr0 ⊢;refine zP ?_;rw [xw (n:=(N:Int)+1) (by omega) (by omega)];refine cM (fun m E H'=>∃k:Nat,k+m=N+1/\E=[(2,.one (.ptr H.nx 0)),(3,.one (.ptr (H.nx+1) 0)),(5,.int N),(6,.one (.slc (H.nx+3) 0 k (N+1) 2 true)),(24,.int (N+1)),(25,.int k)]/\H.nx+4<=H'.nx/\xX H' H.nx (x6 p)/\xX H' (H.nx+1) (x6 q)/\vF H' (H.nx+3) (N+1) ((List.range k).map (wj p q N))) (m:=N+1) ⟨_,(x7.cons (k:=2) rfl (x7.cons (k:=3) rfl (x7.cons (k:=5) rfl (x7.cons (k:=6) rfl (x7.cons (k:=24) rfl (x7.cons (k:=25) rfl (x7.nil _))))))),0,oM,rfl,oM,hb1,hb2,hr0⟩ ?_;rintro m E H' hwf' ⟨k,hk,rfl,hnx,g1,g2,hP'⟩;have c0:=g1.cell (i:=0) rfl;have c1:=g1.cell (i:=1) rfl;have d0:=g2.cell (i:=0) rfl;have d1:=g2.cell (i:=1) rfl;obtain⟨p1,p2,p3,p4⟩:=hp;obtain⟨q1,q2,q3,q4⟩:=hq;refine zP ?_;refine QQ rfl rfl (fun ht2=>?_) (fun ht2=>?_)
  ·simp at ht2;refine zP ?_;refine Wo wi ?_;refine zP ?_;refine kV rfl rfl (bZ oM oM oM oM oM oM oM oM) (by repeat (first|exact trivial|refine⟨by assumption,?_⟩)) ?_;refine zP ?_;refine kV rfl rfl (bZ oM oM oM oM oM oM oM oM) (by repeat (first|exact trivial|refine⟨by assumption,?_⟩)) ?_;refine zP ?_;refine T5 (cs:=x6 (wj p q N k)) rfl rfl rfl ?_;have hkl:((List.range k).map (wj p q N)).length=k:=by simp
   generalize hH5:Hp.add (Hp.skip H' 19) (H'.nx+16) (.row (x6 (wj p q N k)).length (x6 (wj p q N k)) .lf true)=H5;have hold:∀b,b<H'.nx->H5.get b=H'.get b:=fun b hb=>by rw [<-hH5,Hp.get_add_ne _ _ (by omega),Hp.get_skip]
   have hsrc:H5.loads (H'.nx+16) 0 (1*2)=some (x6 (wj p q N k)):=XU (cs:=x6 (wj p q N k)) (rw:=true) (by rw [<-hH5,Hp.get_add_self]);obtain⟨H6,a1,a2,a3,a4⟩:=(hP'.same (hold (H.nx+3) (by omega))).append (by rw [hkl];omega) 16 true (wj p q N k);rw [hkl] at a1;refine BX rfl rfl rfl (o7 hsrc) a1 (J1 (YZ.mem ?_)) ?_
   ·refine⟨?_,?_,trivial⟩
    ·exact ((g2.same (hold _ oM)).same (a3 _ oM)).cell rfl
    ·exact ((g1.same (hold _ oM)).same (a3 _ oM)).cell rfl
   refine zP ?_;have hn6:H6.nx=H'.nx+19:=by rw [a4,<-hH5];simp
   refine⟨m-1,oM,_,(x7.cons (k:=2) rfl (x7.cons (k:=3) rfl (x7.cons (k:=5) rfl (x7.cons (k:=6) rfl (x7.cons (k:=24) rfl (x7.cons (k:=25) rfl (x7.nil _))))))),k+1,oM,?_,oM,(g1.same (hold _ oM)).same (a3 _ oM),(g2.same (hold _ oM)).same (a3 _ oM),?_⟩
   ·rw [xw (by omega) (by omega)];rfl
   ·rw [List.range_succ,List.map_append];exact a2
  ·simp at ht2;obtain rfl:k=N+1:=by omega
   refine cN ?_;refine zP ?_;refine jF ⟨_,rfl,?_⟩;rw [xR,hn,if_neg ht,Int.toNat_natCast];have:=hP'.full (lo:=H.nx) (hi:=H'.nx) (ex:=true) (by simp) (by omega) (by omega);simpa using this
theorem OU{H:Hp}{p q:Pt}(hp:qC 1000 p)(hq:qC 1000 q):qJ Tryz.prog 1 120 [Go.Ab.ptV p,Go.Ab.ptV q] H fun v H'=>j5 H' H.nx H'.nx (xR p q) v/\Ext H H':=
 (qJ.grow (OT hp hq)).mono fun v H' ⟨H1,hg,e1,e2,e3,e4,_⟩=>by
  subst e1;exact⟨hg.same fun b hb=>e4 b (hg.2 b hb).1,e3,e2⟩
theorem qaA{p q:qc}(hp:qC 1000 p)(hq:qC 1000 q):DK 120 [zd p,zd q] fun d=>d=qz (xR p q):=fun H Z args hw hz hg ha=>by
 rw [KF (ds:=[zd p,zd q]) (vs:=[Go.Ab.ptV p,Go.Ab.ptV q]) ⟨rfl,rfl,trivial⟩ ha];refine (qJ.none (qJ.wf (OU hp hq))).mono ?_;rintro v H' ⟨⟨⟨ho,hx⟩,hw'⟩,hno⟩;refine⟨hw',hx.nx,fun b hb=>?_,_,d6 ho fun b h1 h2=>.inr ⟨h1,h2⟩,rfl⟩;cases hgb:H.get b with
 |none=>exact hno b hb hgb
 |some bk=>exact hx.get b bk hgb
theorem rO{p q:qc}(hp:qC 1000 p)(hq:qC 1000 q):DK 122 [zd p,zd q] fun d=>d=qz (xR p q):=fun H Z args hw hz hg ha=>by
 rw [KF (ds:=[zd p,zd q]) (vs:=[Go.Ab.ptV p,Go.Ab.ptV q]) ⟨rfl,rfl,trivial⟩ ha];refine (qJ.none (qJ.wf (FG hp hq))).mono ?_;rintro v H' ⟨⟨⟨ho,hx⟩,hw'⟩,hno⟩;refine⟨hw',hx.nx,fun b hb=>?_,_,d6 ho fun b h1 h2=>.inr ⟨h1,h2⟩,rfl⟩;cases hgb:H.get b with
 |none=>exact hno b hb hgb
 |some bk=>exact hx.get b bk hgb
theorem BA(x t:Int){n:Int}(hn:0<n):(x+2*n*t)/(2*n)=x/(2*n)+t:=Int.add_mul_ediv_left x t oM
theorem Jr(a:Int){n:Int}(hn:0<n):(2*(a*n)+n)/(2*n)=a:=by
 have h:=BA n a hn;rw [show n+2*n*a=2*(a*n)+n by rw [Int.mul_assoc,Int.mul_comm n a];omega] at h;rw [h,Int.ediv_eq_zero_of_lt (by omega) (by omega)];omega
theorem fC(a b:Int){n:Int}(hn:0<n):ZW a b 0 n=a:=by
 unfold ZW;rw [Int.zero_mul,Int.add_zero];exact Jr a hn
theorem fD(a b:Int){n:Int}(hn:0<n):ZW a b n n=b:=by
 unfold ZW;rw [show a*n+n*(b-a)=b*n by rw [Int.mul_sub,Int.mul_comm n b,Int.mul_comm n a];omega];exact Jr b hn
theorem rZ(a b k:Int){n:Int}(hn:0<n)(h0:0<=k)(h1:k<=n):min a b<=ZW a b k n/\ZW a b k n<=max a b:=by
 have e:=Jr (min a b) hn;have f:=Jr (max a b) hn;have hx:min a b*n<=a*n+k*(b-a)/\a*n+k*(b-a)<=max a b*n:=by
  by_cases hab:a<=b
  ·rw [Int.min_eq_left hab,Int.max_eq_right hab];have g1:0<=k*(b-a):=Int.mul_nonneg h0 oM;have g2:k*(b-a)<=n*(b-a):=Int.mul_le_mul_of_nonneg_right h1 oM;rw [Int.mul_sub n,Int.mul_comm n b,Int.mul_comm n a] at g2;omega
  ·rw [Int.min_eq_right (by omega),Int.max_eq_left (by omega)];have g1:0<=k*(a-b):=Int.mul_nonneg h0 oM;have g2:k*(a-b)<=n*(a-b):=Int.mul_le_mul_of_nonneg_right h1 oM;rw [Int.mul_sub n,Int.mul_comm n b,Int.mul_comm n a] at g2;have g3:k*(b-a)= - (k*(a-b)):=by rw [<-Int.mul_neg];congr 1;omega
   omega
 unfold ZW;constructor
 ·have:=Int.ediv_le_ediv (a:=2*(min a b*n)+n) (b:=2*(a*n+k*(b-a))+n) (c:=2*n) oM oM;omega
 ·have:=Int.ediv_le_ediv (a:=2*(a*n+k*(b-a))+n) (b:=2*(max a b*n)+n) (c:=2*n) oM oM;omega
theorem WC(p q:qc):(xR p q).length=(xz p q).toNat+1:=by
 unfold xR;split
 ·rename_i h;rw [h];rfl
 ·simp
def kZ(p q:qc)(k:Nat):qc:=if xz p q=0 then p else wj p q (xz p q) k
theorem Jp(p q:qc){k:Nat}(hk:(k:Int)<=xz p q):(xR p q)[k]?=some (kZ p q k):=by
 unfold xR kZ;split
 ·rename_i h;obtain rfl:k=0:=by omega
  rfl
 ·rw [List.getElem?_map,List.getElem?_range (by omega)];rfl
theorem QD(p q:qc):xz p q=max (q.1-p.1) (max (p.1-q.1) (max (q.2-p.2) (p.2-q.2))):=by simp only [xz];omega
theorem oD(p q:qc):kZ p q 0=p:=by
 have:=QD p q;unfold kZ;split
 ·rfl
 ·simp only [wj];rw [Int.natCast_zero,fC _ _ (by omega),fC _ _ (by omega)]
theorem oE(p q:qc):kZ p q (xz p q).toNat=q:=by
 have h:=QD p q;unfold kZ;split
 ·obtain⟨p1,p2⟩:=p;obtain⟨q1,q2⟩:=q;simp only [zpi] at *;omega
 ·simp only [wj];rw [Int.toNat_of_nonneg (by omega),fD _ _ (by omega),fD _ _ (by omega)]
theorem eJ(p q:qc){k:Nat}(hk:(k:Int)<=xz p q):min p.1 q.1<=(kZ p q k).1/\(kZ p q k).1<=max p.1 q.1/\min p.2 q.2<=(kZ p q k).2/\(kZ p q k).2<=max p.2 q.2:=by
 have h:=QD p q;unfold kZ;split
 ·omega
 ·simp only [wj];have h1:=rZ p.1 q.1 k (n:=xz p q) oM oM hk;have h2:=rZ p.2 q.2 k (n:=xz p q) oM oM hk;omega
theorem NQ{l:List qc}(hl:l.Nodup)(h0:0<l.length)(hn:l.length<1000000):Z4 94 [.one (.fn 118 [(1,0)]),lY 96] [(0,j4 l),(1,.cells [.om 0])] 2
 fun d S' nk'=>d=.one (.own 6 0 (qt l).length 2)/\yC [(6,.data ((qt l).flatMap qh))] S'/\nk'=7:=by
 refine va qaM rfl fun Z β H lo=>?_;refine qb ?_;intros;refine vA rfl rfl rfl (DX.sub (TE hl hn _ _ _ _ _) (qd rfl (qd rfl (qu _)))) ?_;rintro _ S' _ ⟨out,h1,h2,rfl,h3,h4,rfl⟩;refine yJ (zH _) h4 ?_;have hp:0<out.length:=by
  cases out with
  |nil=>
   cases l with
   |nil=>simp at h0
   |cons x l=>exact absurd ((h2 x).2 (by simp)) (by simp)
  |cons=>simp
 refine qb ?_;intros;refine vA rfl rfl rfl (mO qpb (k:=6) (l:=out) rfl hp oM _ _ _ _ _) ?_;rintro _ _ _ ⟨rfl,rfl,l',hp',hs,rfl⟩;have hl':l'.Nodup:=hp'.symm.nodup h1;have he:l'=qt l:=qK.ext (YG hs hl') (xi l) fun p=>by rw [qP,hp'.mem_iff,h2]
 have hlen:out.length=(qt l).length:=by rw [<-he,hp'.length_eq]
 rw [hlen,he];refine qb ?_;intros;exact qf ⟨_,rfl,rfl,_,zH _,rfl,qd rfl (qu _),rfl⟩
theorem gH{l:List qc}(hl:l.Nodup)(h0:0<l.length)(hn:l.length<1000000):Z4 62 [.one (.om 0)] [(0,j4 l)] 1
 fun d S' nk'=>d=.one (.own 6 0 (qt l).length 2)/\yC [(6,.data ((qt l).flatMap qh))] S'/\nk'=7:=by
 refine va qbf rfl fun Z β H lo=>?_;refine qb ?_;intros;refine vA rfl rfl rfl (NR l _ _ _ _ _) ?_;rintro _ S' _ ⟨rfl,h4,rfl⟩;refine yJ (zH _) h4 ?_;refine qb ?_;intros;refine vA rfl rfl rfl (NQ hl h0 hn _ _ _ _ _) ?_;rintro _ S' _ ⟨rfl,h4,rfl⟩;refine yJ (zH _) h4 ?_;refine qb ?_;intros;exact qf ⟨_,rfl,rfl,_,zH _,rfl,qd rfl (qu _),rfl⟩
def vR(l L:List qc):List qc:=L.foldl w8 l
theorem Vx{p:qc}:∀{L l:List qc},p∈vR l L↔p∈l\/p∈L
 |[],l=>by simp [vR]
 |q::L,l=>by
  show p∈vR (w8 l q) L↔_
  rw [Vx,iM,List.mem_cons,or_assoc]
theorem Jh:∀{L l:List qc},l.Nodup->(vR l L).Nodup
 |[],_,h=>h
 |q::L,_,h=>Jh (L:=L) (aH h)
theorem pH(l:List qc)(p:qc):l.length<=(w8 l p).length/\(w8 l p).length<=l.length+1:=by
 unfold w8;split
 ·omega
 ·rw [List.length_append,List.length_singleton];omega
theorem cJ:∀(L l:List qc),l.length<=(vR l L).length/\(vR l L).length<=l.length+L.length
 |[],l=>by simp [vR]
 |q::L,l=>by
  have:=cJ L (w8 l q);have:=pH l q;show _<=(vR (w8 l q) L).length/\(vR (w8 l q) L).length<=_;rw [List.length_cons];omega
theorem BY{l L:List qc}{i:Nat}{p:qc}(h:L[i]?=some p):vR l (L.take (i+1))=w8 (vR l (L.take i)) p:=by
 unfold vR;rw [List.take_add_one,h,List.foldl_append];rfl
theorem wM{p q:qc}(hp:qC 1000 p)(hq:qC 1000 q):(xR p q).length<=2001:=by
 have h1:=WC p q;have h2:=QD p q;unfold qC at hp hq;omega
theorem LA{l:List qc}{a b:qc}(ha:qC 1000 a)(hb:qC 1000 b):Z4 99 [.one (.om 0),zd a,zd b] [(0,j4 l)] 1
 fun d S' nk'=>d=.tup []/\yC [(0,j4 (vR l (xR a b)))] S'/\nk'=1:=by
 refine va qaH rfl fun Z β H lo=>?_;have hln:=wM ha hb;refine qb ?_;intros;refine qk rfl rfl (qaA ha hb) ?_;rintro _ rfl;refine qb ?_;intros;refine ql (fun m E S nk=>∃i:Nat,i+m=(xR a b).length/\E=[(0,.one (.om 0)),(10,qz (xR a b)),(11,.int (xR a b).length),(12,.int i)]/\S=[(0,j4 (vR l ((xR a b).take i)))]/\nk=1)
  ⟨(xR a b).length,_,_,_,[],?wk,0,oM,rfl,rfl,rfl⟩ ?_
 case wk=>exact qm
 rintro m E S nk ⟨i,hi,rfl,rfl,rfl⟩;refine qb ?_;intros;refine qe rfl (fun ht=>?_) (fun ht=>?_)
 ·have ht:i<(xR a b).length:=by simpa using ht
  obtain⟨q,hq⟩:∃q,(xR a b)[i]?=some q:=⟨_,zge ht⟩;have e1:=xd hq;refine qb ?_;intros;refine mP rfl rfl rfl rfl (o6 _ q) rfl ?_;rw [<-BY hq];refine qb ?_;intros;refine⟨m-1,oM,_,_,_,[],?wk1,i+1,oM,rfl,rfl,rfl⟩
  case wk1=>exact qm
 ·have ht:i=(xR a b).length:=by
   have:¬i<(xR a b).length:=by simpa using ht
   omega
  subst ht;rw [List.take_length];refine qb ?_;intros;exact⟨_,rfl,rfl,_,zH _,rfl,qd rfl (qu _),rfl⟩
def jO(L:List qc):Prop:=∀p∈L,qC 1000 p
structure Along (L:List qc) (n:Nat) (l:List qc):Prop where
 nd:l.Nodup
 le:l.length<=2001*n
 mem:∀p,p∈l↔∃(i:Nat) (a b:qc),i<n/\L[i]?=some a/\L[i+1]?=some b/\p∈xR a b
theorem Along.zero(L:List qc):Along L 0 []:=⟨List.nodup_nil,by simp,fun p=>by simp⟩
theorem Along.succ{L l:List qc}{n:Nat}{a b:qc}(h:Along L n l)(ha:L[n]?=some a)(hb:L[n+1]?=some b)(hl:jO L):Along L (n+1) (vR l (xR a b)):=by
 refine⟨Jh h.nd,?_,fun p=>?_⟩
 ·have h1:=(cJ (xR a b) l).2;have h2:=wM (hl a (zmg ha)) (hl b (zmg hb));have h3:=h.le;omega
 ·rw [Vx,h.mem];constructor
  ·rintro (⟨i,a',b',h1,h2,h3,h4⟩|h1)
   ·exact⟨i,a',b',oM,h2,h3,h4⟩
   ·exact⟨n,a,b,oM,ha,hb,h1⟩
  ·rintro ⟨i,a',b',h1,h2,h3,h4⟩;by_cases hi:i=n
   ·subst hi;rw [ha] at h2;rw [hb] at h3;obtain rfl:=zsi h2;obtain rfl:=zsi h3;exact .inr h4
   ·exact .inl ⟨i,a',b',oM,h2,h3,h4⟩
theorem mY{L:List qc}(hl:jO L)(hn:L.length<100):fI 63 [qz L] fun d S nk=>∃l,Along L (L.length-1) l/\d=.one (.om 0)/\S=[(0,j4 l)]/\nk=1:=by
 refine QF qbe rfl qX fun Z0 lo=>?_;refine qb ?_;intros;refine RE ?_;refine qb ?_;intros;refine ql (fun m E S nk=>∃(i:Nat) (l:List qc),i+m=L.length/\(i=0\/i<L.length)/\Along L i l/\E=[(0,qz L),(3,.one (.om 0)),(4,.int (i+1:Nat))]/\S=[(0,j4 l)]/\nk=1)
  ⟨L.length,_,_,_,[],?wk,0,[],oM,.inl rfl,Along.zero L,rfl,rfl,rfl⟩ ?_
 case wk=>exact qm
 rintro m E S nk ⟨i,l,hi,hi0,hA,rfl,rfl,rfl⟩;refine qb ?_;intros;refine qe rfl (fun ht=>?_) (fun ht=>?_)
 ·have ht:i+1<L.length:=by have:=xC ht;omega
  obtain⟨a,ha⟩:∃q,L[i]?=some q:=⟨_,zge oM⟩;obtain⟨b,hb⟩:∃q,L[i+1]?=some q:=⟨_,zge ht⟩;have e1:=xd ha;have e2:=xd hb;have hw:IntKind.i64.wrap (((i+1:Nat):Int)-1)=((i:Nat):Int):=by rw [qq (by omega) (by omega)];omega
  refine qb ?_;intros;rw [hw];refine qb ?_;intros;refine vA rfl rfl rfl (LA (hl a (zmg ha)) (hl b (zmg hb)) _ _ _ _ _) ?_;rintro _ S' _ ⟨rfl,hS,rfl⟩;refine yJ (zH _) hS ?_;refine qb ?_;intros;refine⟨m-1,oM,_,_,_,[],?wk1,i+1,_,oM,.inr oM,hA.succ ha hb hl,rfl,rfl,rfl⟩
  case wk1=>exact qm
 ·have ht:L.length<=i+1:=by have:=xK ht;omega
  obtain rfl:i=L.length-1:=by omega
  refine qb ?_;intros;exact qf ⟨_,rfl,rfl,_,zH _,l,hA,rfl,rfl,rfl⟩
def yQ(L:List qc)(i:Nat):Nat:=(i+1) % L.length
structure Around (L:List qc) (l:List qc):Prop where
 nd:l.Nodup
 le:l.length<=2001*L.length
 mem:∀p,p∈l↔∃(i:Nat) (a b:qc),L[i]?=some a/\L[yQ L i]?=some b/\p∈xR a b
theorem Along.around{L l:List qc}{a b:qc}(h:Along L (L.length-1) l)(hl:jO L)(h0:0<L.length)(ha:L[L.length-1]?=some a)(hb:L[0]?=some b):Around L (vR l (xR a b)):=by
 refine⟨Jh h.nd,?_,fun p=>?_⟩
 ·have h1:=(cJ (xR a b) l).2;have h2:=wM (hl a (zmg ha)) (hl b (zmg hb));have h3:=h.le;omega
 ·rw [Vx,h.mem];constructor
  ·rintro (⟨i,a',b',h1,h2,h3,h4⟩|h1)
   ·exact⟨i,a',b',h2,by rw [yQ,Nat.mod_eq_of_lt (by omega)];exact h3,h4⟩
   ·exact⟨L.length-1,a,b,ha,by rw [yQ,show L.length-1+1=L.length by omega,Nat.mod_self];exact hb,h1⟩
  ·rintro ⟨i,a',b',h2,h3,h4⟩;have hi:=(zgs h2).1;by_cases hx:i=L.length-1
   ·subst hx;rw [ha] at h2;rw [yQ,show L.length-1+1=L.length by omega,Nat.mod_self,hb] at h3;obtain rfl:=zsi h2;obtain rfl:=zsi h3;exact .inr h4
   ·rw [yQ,Nat.mod_eq_of_lt (by omega)] at h3;exact .inl ⟨i,a',b',oM,h2,h3,h4⟩
theorem DS{L:List qc}(hl:jO L)(h0:0<L.length)(hn:L.length<100):fI 64 [qz L] fun d S nk=>∃l,Around L l/\d=.one (.om 0)/\S=[(0,j4 l)]/\nk=1:=by
 refine QF qbd rfl qX fun Z0 lo=>?_;obtain⟨a,ha⟩:∃q,L[L.length-1]?=some q:=⟨_,zge oM⟩;obtain⟨b,hb⟩:∃q,L[0]?=some q:=⟨_,zge oM⟩;have e1:=xd ha;have e2:=xd hb;have hw:IntKind.i64.wrap ((L.length:Int)-1)=((L.length-1:Nat):Int):=by rw [qq (by omega) (by omega)];omega
 refine qb ?_;intros;refine jr rfl rfl (mY hl hn) ?_;rintro _ _ _ ⟨l,hA,rfl,rfl,rfl⟩;refine yJ (S0:=[(0,j4 l)]) (zH _) (qd rfl (qu _)) ?_;refine qb ?_;intros;refine qe rfl (fun _=>?_) (fun ht=>?_)
 ·refine qb ?_;intros;rw [hw];refine qb ?_;intros;refine vA rfl rfl rfl (LA (hl a (zmg ha)) (hl b (zmg hb)) _ _ _ _ _) ?_;rintro _ S' _ ⟨rfl,hS,rfl⟩;refine yJ (zH _) hS ?_;refine qb ?_;intros;exact qf ⟨_,rfl,rfl,_,zH _,_,hA.around hl h0 ha hb,rfl,rfl,rfl⟩
 ·have:=xK ht;omega
def bU(a b p:qc):Int:=(b.1-a.1)*(p.2-a.2)-(b.2-a.2)*(p.1-a.1)
def Ws(a b p:qc):Bool:=decide (bU a b p=0)&&(decide (min a.1 b.1<=p.1)&&decide (p.1<=max a.1 b.1)&&decide (min a.2 b.2<=p.2)&&decide (p.2<=max a.2 b.2))
def Qm(a b p:qc):Bool:=if decide (a.2<=p.2)=decide (b.2<=p.2) then false else if a.2<b.2 then decide ((p.1-a.1)*(b.2-a.2)<(p.2-a.2)*(b.1-a.1)) else decide ((p.2-a.2)*(b.1-a.1)<(p.1-a.1)*(b.2-a.2))
theorem xW{p q:qc}(hp:qC 1000 p)(hq:qC 1000 q):(-2000<=p.1-q.1/\p.1-q.1<=2000)/\(-2000<=p.2-q.2/\p.2-q.2<=2000):=by
 unfold qC at hp hq;omega
theorem Wy{a b:Int}(ha: -2000<=a/\a<=2000)(hb: -2000<=b/\b<=2000):IntKind.i64.wrap (IntKind.i64.wrap a*IntKind.i64.wrap b)=a*b:=by
 rw [qq (n:=a) (by omega) (by omega),qq (n:=b) (by omega) (by omega)];have:=QT (A:=2000) (B:=2000) ha.1 ha.2 hb.1 hb.2;exact qq oM oM
theorem nD{a b:qc}:Ws a b a=true/\Ws a b b=true:=by
 have e1:(b.1-a.1)*(b.2-a.2)-(b.2-a.2)*(b.1-a.1)=0:=by rw [Int.mul_comm];omega
 constructor
 ·simp [Ws,bU];omega
 ·simp [Ws,bU,e1];omega
theorem JE{a b:Int}(h:(a !=b)=false):a=b:=by simpa using h
theorem Ka{a b:Int}(h:(a !=b)=true):a≠b:=by simpa using h
theorem qro:∀x y z w:Bool,(x&&y&&z&&w)=(if (if (if x=true then y else false)=true then z else false)=true then w else false):=by decide
theorem qrn:∀v x y z w:Bool,(v&&(x&&y&&z&&w))=(if (if (if (if v=true then x else false)=true then y else false)=true then z else false)=true then w else false):=by decide
theorem qtp{a b p:qc}(ha:qC 1000 a)(hb:qC 1000 b)(hp:qC 1000 p):DK 104 [zd a,zd b,zd p] fun d=>d=.bool (Ws a b p):=by
 refine qD NA rfl qX fun Z0 lo=>?_;have w1:=Wy (xW hb ha).1 (xW hp ha).2;have w2:=Wy (xW hb ha).2 (xW hp ha).1;by_cases h1:p=a
 ·refine qb ?_;intros;refine KH (vd (p:=p) (q:=a) rfl rfl) (b:=true) (by simpa using h1) ?_;refine qb ?_;intros;refine qe rfl (fun _=>?_) (fun ht=>by cases ht);refine qb ?_;intros;exact qf ⟨_,rfl,rfl,by rw [h1,nD.1]⟩
 ·by_cases h2:p=b
  ·refine qb ?_;intros;refine KH (vd (p:=p) (q:=a) rfl rfl) (b:=false) (by simpa using h1) ?_;refine qb ?_;intros;refine KH (vd (p:=p) (q:=b) rfl rfl) (b:=true) (by simpa using h2) ?_;refine qb ?_;intros;refine qe rfl (fun _=>?_) (fun ht=>by cases ht);refine qb ?_;intros;exact qf ⟨_,rfl,rfl,by rw [h2,nD.2]⟩
  ·refine qb ?_;intros;refine KH (vd (p:=p) (q:=a) rfl rfl) (b:=false) (by simpa using h1) ?_;refine qb ?_;intros;refine KH (vd (p:=p) (q:=b) rfl rfl) (b:=false) (by simpa using h2) ?_;refine qb ?_;intros;refine qe rfl (fun ht=>by cases ht) (fun _=>?_);refine qb ?_;intros;refine qe rfl (fun ht=>?_) (fun ht=>?_)
   ·have ht:=Ka ht;rw [w1,w2] at ht;refine qb ?_;intros;exact qf ⟨_,rfl,rfl,by rw [Ws,decide_eq_false (by unfold bU;omega),Bool.false_and]⟩
   ·have ht:=JE ht;rw [w1,w2] at ht;have e0:bU a b p=0:=by unfold bU;omega
    refine qb ?_;intros;refine qf ⟨_,rfl,rfl,?_⟩;rw [Ws,decide_eq_true e0,Bool.true_and];refine congrArg DV.bool ?_;simp only [Bool.false_eq_true,if_false,if_true];rw [show (if b.1>a.1 then b.1 else a.1)=max a.1 b.1 by omega,show (if b.2>a.2 then b.2 else a.2)=max a.2 b.2 by omega,show (if b.2<a.2 then b.2 else a.2)=min a.2 b.2 by omega]
    exact (qro _ _ _ _).symm
theorem qao{a b p:qc}(ha:qC 1000 a)(hb:qC 1000 b)(hp:qC 1000 p):DK 139 [zd a,zd b,zd p] fun d=>d=.int (bU a b p):=by
 refine qD MP rfl qX fun Z0 lo=>?_;have w1:=Wy (xW hb ha).1 (xW hp ha).2;have w2:=Wy (xW hb ha).2 (xW hp ha).1;have b1:=QT (A:=2000) (B:=2000) (xW hb ha).1.1 (xW hb ha).1.2 (xW hp ha).2.1 (xW hp ha).2.2;have b2:=QT (A:=2000) (B:=2000) (xW hb ha).2.1 (xW hb ha).2.2 (xW hp ha).1.1 (xW hp ha).1.2;refine qb ?_;intros;refine qf ⟨_,rfl,rfl,?_⟩;refine congrArg DV.int ?_;rw [w1,w2];exact qq oM oM
theorem qo5{a b p:qc}(ha:qC 1000 a)(hb:qC 1000 b)(hp:qC 1000 p):DK 123 [zd a,zd b,zd p] fun d=>d=.bool (Ws a b p):=by
 refine qD MV rfl qX fun Z0 lo=>?_;refine qb ?_;intros;refine qk rfl rfl (qao ha hb hp) ?_;rintro _ rfl;refine qb ?_;intros;refine qf ⟨_,rfl,rfl,?_⟩;refine congrArg DV.bool ?_;simp only [Bool.false_eq_true,if_false,if_true];rw [show (if b.1>a.1 then b.1 else a.1)=max a.1 b.1 by omega,show (if b.1<a.1 then b.1 else a.1)=min a.1 b.1 by omega,show (if b.2>a.2 then b.2 else a.2)=max a.2 b.2 by omega,show (if b.2<a.2 then b.2 else a.2)=min a.2 b.2 by omega,show (bU a b p==0)=decide (bU a b p=0) from rfl]
 exact (qrn _ _ _ _ _).symm
theorem qo6{a b p:qc}(ha:qC 1000 a)(hb:qC 1000 b)(hp:qC 1000 p):DK 105 [zd a,zd b,zd p] fun d=>d=.bool (Qm a b p):=by
 refine qD M9 rfl qX fun Z0 lo=>?_;have w1:=Wy (xW hp ha).2 (xW hb ha).1;have w2:=Wy (xW hp ha).1 (xW hb ha).2;refine qb ?_;intros;refine qe rfl (fun ht=>?_) (fun ht=>?_)
 ·refine qb ?_;intros;refine qf ⟨_,rfl,rfl,?_⟩;rw [Qm,if_pos (by simpa using ht)]
 ·refine qb ?_;intros;refine qe rfl (fun h2=>?_) (fun h2=>?_)
  ·refine qb ?_;intros;refine qf ⟨_,rfl,rfl,?_⟩;have h2:=xC h2;rw [Qm,if_neg (by simpa using ht),if_pos (by omega),<-w1,<-w2]
  ·refine qb ?_;intros;refine qf ⟨_,rfl,rfl,?_⟩;have h2:=xK h2;rw [Qm,if_neg (by simpa using ht),if_neg (by omega),<-w1,<-w2]
theorem qav{a b p:qc}(ha:qC 1000 a)(hb:qC 1000 b)(hp:qC 1000 p):DK 124 [zd a,zd b,zd p] fun d=>d=.bool (Qm a b p):=by
 refine qD MU rfl qX fun Z0 lo=>?_;have w1:=Wy (xW hp ha).2 (xW hb ha).1;have w2:=Wy (xW hp ha).1 (xW hb ha).2;refine qb ?_;intros;refine qe rfl (fun ht=>?_) (fun ht=>?_)
 ·refine qb ?_;intros;refine qf ⟨_,rfl,rfl,?_⟩;rw [Qm,if_pos (by simpa using ht)]
 ·refine qb ?_;intros;refine qe rfl (fun h2=>?_) (fun h2=>?_)
  ·refine qb ?_;intros;refine qf ⟨_,rfl,rfl,?_⟩;have h2:=xC h2;rw [Qm,if_neg (by simpa using ht),if_pos (by omega),<-w1,<-w2]
  ·refine qb ?_;intros;refine qf ⟨_,rfl,rfl,?_⟩;have h2:=xK h2;rw [Qm,if_neg (by simpa using ht),if_neg (by omega),<-w1,<-w2]
def xH(L:List qc)(i:Nat):qc:=(L[i]?).getD (0,0)
def JP(L:List qc)(p:qc)(i:Nat):Bool:=Ws (xH L i) (xH L (yQ L i)) p
def Jc(L:List qc)(p:qc)(i:Nat):Bool:=Qm (xH L i) (xH L (yQ L i)) p
def y8(L:List qc)(p:qc):Nat->Bool
 |0=>false
 |n+1=>xor (y8 L p n) (Jc L p n)
def vN(L:List qc)(p:qc):Bool:=(List.range L.length).any (JP L p)||y8 L p L.length
theorem xM{L:List qc}{i:Nat}{a:qc}(h:L[i]?=some a):xH L i=a:=by rw [xH,h];rfl
theorem lR{L:List qc}{p:qc}{i:Nat}(hi:i<L.length)(h:JP L p i=true):vN L p=true:=by
 rw [vN,List.any_eq_true.2 ⟨i,List.mem_range.2 hi,h⟩,Bool.true_or]
theorem pV{L:List qc}{p:qc}(h:∀i,i<L.length->JP L p i=false):vN L p=y8 L p L.length:=by
 have:(List.range L.length).any (JP L p)=false:=by
  rw [List.any_eq_false];intro i hi;rw [h i (List.mem_range.1 hi)];decide
 rw [vN,this,Bool.false_or]
theorem pQ{L:List qc}{i:Nat}(_:i<L.length):Int.tmod ((i:Int)+1) (L.length:Int)=((yQ L i:Nat):Int):=by
 rw [Int.tmod_eq_emod_of_nonneg (by omega)];simp [yQ]
theorem HQ{L:List qc}{p:qc}(hl:jO L)(hp:qC 1000 p)(hn:L.length<100):DK 66 [qz L,zd p] fun d=>d=.bool (vN L p):=by
 refine qD qbb rfl qX fun Z0 lo=>?_;refine qb ?_;intros;refine ql (fun m E S nk=>∃i:Nat,i+m=L.length/\(∀j,j<i->JP L p j=false)/\E=[(0,qz L),(3,.one (.ptr 0 0)),(5,.bool (y8 L p i)),(9,qz L),(10,.int L.length),(11,.int i)]/\S=[(0,.cells [.f (.c (.int .i64 p.1)),.f (.c (.int .i64 p.2))])]/\nk=1)
  ⟨L.length,_,_,_,[],?wk,0,oM,fun j hj=>oM,rfl,rfl,rfl⟩ ?_
 case wk=>exact qm
 rintro m E S nk ⟨i,hi,hno,rfl,rfl,rfl⟩;refine qb ?_;intros;refine qe rfl (fun ht=>?_) (fun ht=>?_)
 ·have ht:i<L.length:=by have:=xC ht;omega
  have hnx:yQ L i<L.length:=Nat.mod_lt _ oM;obtain⟨a,ha⟩:∃q,L[i]?=some q:=⟨_,zge ht⟩;obtain⟨b,hb⟩:∃q,L[yQ L i]?=some q:=⟨_,zge hnx⟩;have e1:=xd ha;have e2:=xd hb;have hsa:=hl a (zmg ha);have hsb:=hl b (zmg hb);have hw:IntKind.i64.wrap ((i:Int)+1)=(i:Int)+1:=qq oM oM;refine qb ?_;intros;rw [hw];refine Qa rfl rfl oM ?_;rw [pQ ht];refine qb ?_;intros;refine qk rfl rfl (qtp hsa hsb hp) ?_;rintro _ rfl;refine qb ?_;intros;refine qe rfl (fun ho=>?_) (fun ho=>?_)
  ·refine qb ?_;intros;refine qf ⟨_,rfl,rfl,?_⟩;rw [lR ht (by rw [JP,xM ha,xM hb];exact ho)]
  ·have ho:JP L p i=false:=by rw [JP,xM ha,xM hb];exact ho
   refine qb ?_;intros;refine qk rfl rfl (qo6 hsa hsb hp) ?_;rintro _ rfl;refine qb ?_;intros;refine qe rfl (fun hq=>?_) (fun hq=>?_)
   ·refine qb ?_;intros;refine⟨m-1,oM,_,_,_,[],?wk1,i+1,oM,?hno,rfl,rfl,rfl⟩
    case hno=>
     intro j hj;by_cases hji:j=i
     ·rw [hji,ho]
     ·exact hno j oM
    case wk1=>
     have:(!y8 L p i)=y8 L p (i+1):=by rw [y8,Jc,xM ha,xM hb,hq];cases y8 L p i<;>rfl
     rw [this];exact qm
   ·have:y8 L p (i+1)=y8 L p i:=by rw [y8,Jc,xM ha,xM hb,hq];cases y8 L p i<;>rfl
    refine qb ?_;intros;refine⟨m-1,oM,_,_,_,[],?wk2,i+1,oM,?hno2,rfl,rfl,rfl⟩
    case hno2=>
     intro j hj;by_cases hji:j=i
     ·rw [hji,ho]
     ·exact hno j oM
    case wk2=>
     rw [this];exact qm
 ·have ht:i=L.length:=by have:=xK ht;omega
  subst ht;refine qb ?_;intros;refine qf ⟨_,rfl,rfl,?_⟩;rw [pV hno]
theorem m7{L:List qc}{i:Nat}{a b:qc}(hn:L.length<100)(ht:i<L.length)(ha:L[i]?=some a)(hb:L[yQ L i]?=some b):DK 121 [qz L,.int i] fun d=>d=.tup [zd a,zd b]:=by
 refine qD MX rfl qX fun Z0 lo=>?_;have hnx:yQ L i<L.length:=Nat.mod_lt _ oM;have e1:=xd ha;have e2:=xd hb;have hw:IntKind.i64.wrap ((i:Int)+1)=(i:Int)+1:=qq oM oM;refine qb ?_;intros;rw [hw];refine Qa rfl rfl oM ?_;rw [pQ ht];refine qb ?_;intros;exact qf ⟨_,rfl,rfl,rfl⟩
theorem DY{L:List qc}{p:qc}(hl:jO L)(hp:qC 1000 p)(hn:L.length<100):DK 109 [qz L,zd p] fun d=>d=.bool (vN L p):=by
 refine qD M6 rfl qX fun Z0 lo=>?_;refine qb ?_;intros;refine ql (fun m E S nk=>∃i:Nat,i+m=L.length/\(∀j,j<i->JP L p j=false)/\E=[(0,qz L),(3,.one (.ptr 0 0)),(5,.bool (y8 L p i)),(6,.int i)]/\S=[(0,.cells [.f (.c (.int .i64 p.1)),.f (.c (.int .i64 p.2))])]/\nk=1)
  ⟨L.length,_,_,_,[],?wk,0,oM,fun j hj=>oM,rfl,rfl,rfl⟩ ?_
 case wk=>exact qm
 rintro m E S nk ⟨i,hi,hno,rfl,rfl,rfl⟩;refine qb ?_;intros;refine qe rfl (fun ht=>?_) (fun ht=>?_)
 ·have ht:i<L.length:=by have:=xC ht;omega
  have hnx:yQ L i<L.length:=Nat.mod_lt _ oM;obtain⟨a,ha⟩:∃q,L[i]?=some q:=⟨_,zge ht⟩;obtain⟨b,hb⟩:∃q,L[yQ L i]?=some q:=⟨_,zge hnx⟩;have hsa:=hl a (zmg ha);have hsb:=hl b (zmg hb);refine qb ?_;intros;refine qk rfl rfl (m7 hn ht ha hb) ?_;rintro _ rfl;refine qb ?_;intros;refine qk rfl rfl (qo5 hsa hsb hp) ?_;rintro _ rfl;refine qb ?_;intros;refine qe rfl (fun ho=>?_) (fun ho=>?_)
  ·refine qb ?_;intros;refine qf ⟨_,rfl,rfl,?_⟩;rw [lR ht (by rw [JP,xM ha,xM hb];exact ho)]
  ·have ho:JP L p i=false:=by rw [JP,xM ha,xM hb];exact ho
   refine qb ?_;intros;refine qk rfl rfl (qav hsa hsb hp) ?_;rintro _ rfl;refine qb ?_;intros;refine qe rfl (fun hq=>?_) (fun hq=>?_)
   ·refine qb ?_;intros;refine⟨m-1,oM,_,_,_,[],?wk1,i+1,oM,?hno,rfl,rfl,rfl⟩
    case hno=>
     intro j hj;by_cases hji:j=i
     ·rw [hji,ho]
     ·exact hno j oM
    case wk1=>
     have:(!y8 L p i)=y8 L p (i+1):=by rw [y8,Jc,xM ha,xM hb,hq];cases y8 L p i<;>rfl
     rw [this];exact qm
   ·have:y8 L p (i+1)=y8 L p i:=by rw [y8,Jc,xM ha,xM hb,hq];cases y8 L p i<;>rfl
    refine qb ?_;intros;refine⟨m-1,oM,_,_,_,[],?wk2,i+1,oM,?hno2,rfl,rfl,rfl⟩
    case hno2=>
     intro j hj;by_cases hji:j=i
     ·rw [hji,ho]
     ·exact hno j oM
    case wk2=>
     rw [this];exact qm
 ·have ht:i=L.length:=by have:=xK ht;omega
  subst ht;refine qb ?_;intros;refine qf ⟨_,rfl,rfl,?_⟩;rw [pV hno]
def j3(k:Int)(p:qc):Bool:=decide (k=3)||(decide (k=2)&&decide (p.2.tmod 2=0))||(decide (k=1)&&decide ((p.1+p.2).tmod 2=0))
theorem qau{k:Nat}{p:qc}(hk:k<4)(hp:qC 1000 p):DK 108 [.int k,zd p] fun d=>d=.bool (j3 k p):=by
 refine qD M7 rfl qX fun Z0 lo=>?_;have hw:IntKind.i64.wrap (p.1+p.2)=p.1+p.2:=by unfold qC at hp;exact qq oM oM
 match k,hk with
 |0,_=>
  refine qb ?_;intros;exact qf ⟨_,rfl,rfl,rfl⟩
 |1,_=>
  refine qb ?_;intros;refine qf ⟨_,rfl,rfl,?_⟩;exact congrArg DV.bool (by rw [hw];rfl)
 |2,_=>
  by_cases h:p.2.tmod 2=0
  ·have hb:(p.2.tmod 2==0)=true:=by simpa using h
   refine qU ?_;intros;exact qf ⟨_,rfl,rfl,by rw [j3];simp [h]⟩
  ·have hb:(p.2.tmod 2==0)=false:=by simpa using h
   refine qU ?_;intros;exact qf ⟨_,rfl,rfl,by rw [j3];simp [h]⟩
 |3,_=>
  refine qb ?_;intros;exact qf ⟨_,rfl,rfl,rfl⟩
 |k+4,h=>omega
def cD(n:Nat):FuncId:=100+n
theorem qat{p:qc}:DK 100 [zd p] fun d=>d=.bool (j3 0 p):=by
 refine qD NE rfl qX fun Z0 lo=>?_;refine qb ?_;intros;exact qf ⟨_,rfl,rfl,rfl⟩
theorem qaq{p:qc}:DK 103 [zd p] fun d=>d=.bool (j3 3 p):=by
 refine qD NB rfl qX fun Z0 lo=>?_;refine qb ?_;intros;exact qf ⟨_,rfl,rfl,rfl⟩
theorem qar{p:qc}:DK 102 [zd p] fun d=>d=.bool (j3 2 p):=by
 refine qD NC rfl qX fun Z0 lo=>?_;refine qb ?_;intros;refine qf ⟨_,rfl,rfl,?_⟩;exact congrArg DV.bool (by rw [j3];by_cases h:p.2.tmod 2=0<;>simp [h])
theorem qas{p:qc}(hp:qC 1000 p):DK 101 [zd p] fun d=>d=.bool (j3 1 p):=by
 refine qD ND rfl qX fun Z0 lo=>?_;have hw:IntKind.i64.wrap (p.1+p.2)=p.1+p.2:=by unfold qC at hp;exact qq oM oM
 refine qb ?_;intros;refine qf ⟨_,rfl,rfl,?_⟩;exact congrArg DV.bool (by rw [hw];rfl)
theorem DU{k:Nat}(hk:k<4):DK 65 [.int k] fun d=>d=lY (cD k):=by
 refine qD qbc rfl qX fun Z0 lo=>?_
 match k,hk with
 |0,_=>
  refine qb ?_;intros;exact qf ⟨_,rfl,rfl,rfl⟩
 |1,_=>
  refine qb ?_;intros;exact qf ⟨_,rfl,rfl,rfl⟩
 |2,_=>
  refine qb ?_;intros;exact qf ⟨_,rfl,rfl,rfl⟩
 |3,_=>
  refine qb ?_;intros;exact qf ⟨_,rfl,rfl,rfl⟩
 |k+4,h=>omega
structure Ft where
 kind:Int
 tex:Int
 pts:List qc
def zu(f:Ft):List FD:=[.c (.int .i64 f.kind),.c (.int .i64 f.tex),.sl 2 f.pts.length (f.pts.flatMap qh)]
def eP(f:Ft):DV:=.agg [.f (.c (.int .i64 f.kind)),.f (.c (.int .i64 f.tex)),.f (.sl 2 f.pts.length (f.pts.flatMap qh))]
def zO(p:qc):Bool:=decide (0<=p.1)&&decide (p.1<60)&&(decide (0<=p.2)&&decide (p.2<60))
def yr(f:Ft):Bool:=if f.kind=1 then f.pts.length==1&&f.tex==0 else if f.kind=2 then decide (2<=f.pts.length)&&f.tex==0 else if f.kind=3 then decide (3<=f.pts.length)&&decide (0<=f.tex)&&decide (f.tex<=3) else false
def x8(f:Ft):Bool:=decide (1<=f.pts.length)&&decide (f.pts.length<=12)&&f.pts.all zO&&yr f
theorem xJ(a b:Bool):(if a=true then true else b)=(a||b):=by cases a<;>rfl
theorem K6(n:Nat):((n:Int)==1)=(n==1):=by
 by_cases h:n=1
 ·subst h;rfl
 ·have:¬(n:Int)=1:=by omega
  rw [beq_eq_false_iff_ne.2 h,beq_eq_false_iff_ne.2 this]
theorem vu(a b:Bool):(if a=true then b else false)=(a&&b):=by cases a<;>rfl
theorem zx{p:qc}:zO p=true↔(0<=p.1/\p.1<60)/\0<=p.2/\p.2<60:=by simp [zO]
theorem dQ{f:Ft}(h1:1<=f.pts.length)(h2:f.pts.length<=12)(h3:∀(j:Nat) q,j<f.pts.length->f.pts[j]?=some q->zO q=true):x8 f=yr f:=by
 rw [x8,decide_eq_true h1,decide_eq_true h2,List.all_eq_true.2]
 ·simp
 ·intro x hx;obtain⟨j,hj⟩:=List.getElem?_of_mem hx;exact h3 j x (zgs hj).1 hj
theorem V6{f:Ft}{q:qc}{i:Nat}(hq:f.pts[i]?=some q)(h:¬zO q=true):x8 f=false:=by
 have:f.pts.all zO=false:=by
  rw [List.all_eq_false];exact⟨q,zmg hq,h⟩
 rw [x8,this];simp
theorem KL{f:Ft}(hn:f.pts.length<1000):DK 61 [eP f] fun d=>d=.bool (x8 f):=by
 refine qD qbg rfl qX fun Z0 lo=>?_;refine qb ?_;intros;refine qe rfl (fun ht=>?_) (fun ht=>?_)
 ·refine qb ?_;intros;refine qf ⟨_,rfl,rfl,?_⟩;rw [xJ] at ht;simp only [Bool.or_eq_true,xQ] at ht;refine congrArg DV.bool ?_;rw [x8];rcases ht with h|h
  ·rw [decide_eq_false (show¬1<=f.pts.length by omega)];rfl
  ·rw [decide_eq_false (show¬f.pts.length<=12 by omega),Bool.and_false];rfl
 ·rw [xJ] at ht;simp only [Bool.or_eq_false_iff,decide_eq_false_iff_not] at ht;refine qb ?_;intros;refine ql (fun m E S nk=>∃i:Nat,i+m=f.pts.length/\(∀(j:Nat) q,j<i->f.pts[j]?=some q->zO q=true)/\E=[(1,.one (.ptr 0 0)),(3,.int f.pts.length),(16,qz f.pts),(17,.int f.pts.length),(18,.int i)]/\S=[(0,.cells [.f (.c (.int .i64 f.kind)),.f (.c (.int .i64 f.tex)),.f (.sl 2 f.pts.length (f.pts.flatMap qh))])]/\nk=1)
   ⟨f.pts.length,_,_,_,[],?wk,0,oM,fun j q hj=>oM,rfl,rfl,rfl⟩ ?_
  case wk=>exact qm
  rintro m E S nk ⟨i,hi,hok,rfl,rfl,rfl⟩;refine qb ?_;intros;refine qe rfl (fun ht2=>?_) (fun ht2=>?_)
  ·have ht2:i<f.pts.length:=by have:=xC ht2;omega
   obtain⟨q,hq⟩:∃q,f.pts[i]?=some q:=⟨_,zge ht2⟩;have e1:=xd hq;refine qb ?_;intros;refine qe rfl (fun hb=>?_) (fun hb=>?_)
   ·rw [xJ,xJ,xJ] at hb;simp only [Bool.or_eq_true,xQ] at hb;have hb:¬zO q=true:=by rw [zx];omega
    refine qb ?_;intros;exact qf ⟨_,rfl,rfl,by rw [V6 hq hb]⟩
   ·rw [xJ,xJ,xJ] at hb;simp only [Bool.or_eq_false_iff,decide_eq_false_iff_not] at hb;have hb:zO q=true:=by rw [zx];omega
    refine qb ?_;intros;refine⟨m-1,oM,_,_,_,[],?wk1,i+1,oM,?hno,rfl,rfl,rfl⟩
    case hno=>
     intro j q' hj hq';by_cases hji:j=i
     ·subst hji;rw [hq] at hq';rw [<-zsi hq'];exact hb
     ·exact hok j q' oM hq'
    case wk1=>exact qm
  ·have ht2:i=f.pts.length:=by have:=xK ht2;omega
   subst ht2;have hv:=dQ oM oM hok;rw [hv];refine qb ?_;intros;refine qe rfl (fun h1=>?_) (fun h1=>?_)
   ·have h1:f.kind=1:=by simpa using h1
    refine qb ?_;intros;refine qf ⟨_,rfl,rfl,congrArg DV.bool ?_⟩;rw [vu,yr,if_pos h1];congr 1;exact K6 _
   ·have h1:¬f.kind=1:=by simpa using h1
    refine qb ?_;intros;refine qe rfl (fun h2=>?_) (fun h2=>?_)
    ·have h2:f.kind=2:=by simpa using h2
     refine qb ?_;intros;refine qf ⟨_,rfl,rfl,congrArg DV.bool ?_⟩;rw [vu,yr,if_neg h1,if_pos h2];congr 1;exact decide_eq_decide.2 oM
    ·have h2:¬f.kind=2:=by simpa using h2
     refine qb ?_;intros;refine qe rfl (fun h3=>?_) (fun h3=>?_)
     ·have h3:f.kind=3:=by simpa using h3
      refine qb ?_;intros;refine qf ⟨_,rfl,rfl,congrArg DV.bool ?_⟩;rw [vu,vu,yr,if_neg h1,if_neg h2,if_pos h3];congr 2;exact decide_eq_decide.2 oM
     ·have h3:¬f.kind=3:=by simpa using h3
      refine qb ?_;intros;refine qf ⟨_,rfl,rfl,congrArg DV.bool ?_⟩;rw [yr,if_neg h1,if_neg h2,if_neg h3]
theorem tJ{f:Ft}(h:f.pts.length=0):yr f=false:=by
 rw [yr,h];split
 ·rfl
 ·split
  ·rfl
  ·split<;>rfl
theorem HM{f:Ft}(hn:f.pts.length<1000):DK 76 [eP f] fun d=>d=.bool (x8 f):=by
 refine qD qa2 rfl qX fun Z0 lo=>?_;refine qb ?_;intros;refine ql (fun m E S nk=>∃i:Nat,i+m=f.pts.length/\(∀(j:Nat) q,j<i->f.pts[j]?=some q->zO q=true)/\E=[(1,.one (.ptr 0 0)),(3,.int f.pts.length),(4,.int i)]/\S=[(0,.cells [.f (.c (.int .i64 f.kind)),.f (.c (.int .i64 f.tex)),.f (.sl 2 f.pts.length (f.pts.flatMap qh))])]/\nk=1)
  ⟨f.pts.length,_,_,_,[],?wk,0,oM,fun j q hj=>oM,rfl,rfl,rfl⟩ ?_
 case wk=>exact qm
 rintro m E S nk ⟨i,hi,hok,rfl,rfl,rfl⟩;refine qb ?_;intros;refine qe rfl (fun ht2=>?_) (fun ht2=>?_)
 ·have ht2:i<f.pts.length:=by have:=xC ht2;omega
  obtain⟨q,hq⟩:∃q,f.pts[i]?=some q:=⟨_,zge ht2⟩;have e1:=xd hq;refine qb ?_;intros;refine qe rfl (fun hb=>?_) (fun hb=>?_)
  ·rw [xJ,xJ,xJ] at hb;simp only [Bool.or_eq_true,xQ] at hb;have hb:¬zO q=true:=by rw [zx];omega
   refine qb ?_;intros;exact qf ⟨_,rfl,rfl,by rw [V6 hq hb]⟩
  ·rw [xJ,xJ,xJ] at hb;simp only [Bool.or_eq_false_iff,decide_eq_false_iff_not] at hb;have hb:zO q=true:=by rw [zx];omega
   refine qb ?_;intros;refine⟨m-1,oM,_,_,_,[],?wk1,i+1,oM,?hno,rfl,rfl,rfl⟩
   case hno=>
    intro j q' hj hq';by_cases hji:j=i
    ·subst hji;rw [hq] at hq';rw [<-zsi hq'];exact hb
    ·exact hok j q' oM hq'
   case wk1=>exact qm
 ·have ht2:i=f.pts.length:=by have:=xK ht2;omega
  subst ht2;refine qb ?_;intros;refine qe rfl (fun hg=>?_) (fun hg=>?_)
  ·have hg:=xC hg;refine qb ?_;intros;refine qf ⟨_,rfl,rfl,congrArg DV.bool ?_⟩;rw [x8,decide_eq_false (show¬f.pts.length<=12 by omega),Bool.and_false];rfl
  ·have hg:=xK hg;have hv:x8 f=yr f:=by
    by_cases h0:f.pts.length=0
    ·rw [tJ h0,x8,h0];rfl
    ·exact dQ oM oM hok
   rw [hv];refine qb ?_;intros;refine qe rfl (fun h1=>?_) (fun h1=>?_)
   ·have h1:f.kind=1:=by simpa using h1
    refine qb ?_;intros;refine qf ⟨_,rfl,rfl,congrArg DV.bool ?_⟩;rw [vu,yr,if_pos h1];congr 1;exact K6 _
   ·have h1:¬f.kind=1:=by simpa using h1
    refine qb ?_;intros;refine qe rfl (fun h2=>?_) (fun h2=>?_)
    ·have h2:f.kind=2:=by simpa using h2
     refine qb ?_;intros;refine qf ⟨_,rfl,rfl,congrArg DV.bool ?_⟩;rw [vu,yr,if_neg h1,if_pos h2];congr 1;exact decide_eq_decide.2 oM
    ·have h2:¬f.kind=2:=by simpa using h2
     refine qb ?_;intros;refine qe rfl (fun h3=>?_) (fun h3=>?_)
     ·have h3:f.kind=3:=by simpa using h3
      refine qb ?_;intros;refine qf ⟨_,rfl,rfl,congrArg DV.bool ?_⟩;rw [vu,vu,yr,if_neg h1,if_neg h2,if_pos h3];congr 2;exact decide_eq_decide.2 oM
     ·have h3:¬f.kind=3:=by simpa using h3
      refine qb ?_;intros;refine qf ⟨_,rfl,rfl,congrArg DV.bool ?_⟩;rw [yr,if_neg h1,if_neg h2,if_neg h3]
def xL(lo hi p:qc):Prop:=(lo.1<=p.1/\p.1<=hi.1)/\lo.2<=p.2/\p.2<=hi.2
theorem OF{a b p lo hi:qc}(h:Ws a b p=true)(ha:xL lo hi a)(hb:xL lo hi b):xL lo hi p:=by
 simp only [Ws,xr,xQ] at h;unfold xL at *;omega
theorem EA(u v h t:Int):u*(h+t)-t*(u-v)=u*h+t*v:=by
 rw [Int.mul_add,Int.mul_sub,Int.mul_comm t u];omega
theorem nE(a b p:qc):(p.1-a.1)*(b.2-a.2)-(p.2-a.2)*(b.1-a.1)=(p.1-a.1)*(b.2-p.2)+(p.2-a.2)*(p.1-b.1):=by
 rw [<-EA,show b.2-p.2+(p.2-a.2)=b.2-a.2 by omega,show p.1-a.1-(p.1-b.1)=b.1-a.1 by omega]
theorem iS{a b p:qc}(ha:p.1<a.1)(hb:p.1<b.1):Qm a b p=xor (decide (a.2<=p.2)) (decide (b.2<=p.2)):=by
 have e:=nE a b p;unfold Qm;by_cases h1:a.2<=p.2
 ·by_cases h2:b.2<=p.2
  ·simp [h1,h2]
  ·have m1:(p.1-a.1)*(b.2-p.2)<0:=Int.mul_neg_of_neg_of_pos oM oM;have m2:(p.2-a.2)*(p.1-b.1)<=0:=Int.mul_nonpos_of_nonneg_of_nonpos oM oM;rw [decide_eq_true h1,decide_eq_false h2,if_neg (by decide),if_pos (by omega),decide_eq_true (by omega)];rfl
 ·by_cases h2:b.2<=p.2
  ·have m1:0<=(p.1-a.1)*(b.2-p.2):=Int.mul_nonneg_of_nonpos_of_nonpos oM oM;have m2:0<(p.2-a.2)*(p.1-b.1):=Int.mul_pos_of_neg_of_neg oM oM;rw [decide_eq_false h1,decide_eq_true h2,if_neg (by decide),if_neg (by omega),decide_eq_true (by omega)];rfl
  ·simp [h1,h2]
theorem B2{a b p:qc}(ha:a.1<p.1)(hb:b.1<p.1):Qm a b p=false:=by
 have e:=nE a b p;unfold Qm;by_cases h1:a.2<=p.2
 ·by_cases h2:b.2<=p.2
  ·simp [h1,h2]
  ·have m1:0<(p.1-a.1)*(b.2-p.2):=Int.mul_pos oM oM;have m2:0<=(p.2-a.2)*(p.1-b.1):=Int.mul_nonneg oM oM;rw [decide_eq_true h1,decide_eq_false h2,if_neg (by decide),if_pos (by omega),decide_eq_false (by omega)]
 ·by_cases h2:b.2<=p.2
  ·have m1:(p.1-a.1)*(b.2-p.2)<=0:=Int.mul_nonpos_of_nonneg_of_nonpos oM oM;have m2:(p.2-a.2)*(p.1-b.1)<0:=Int.mul_neg_of_neg_of_pos oM oM;rw [decide_eq_false h1,decide_eq_true h2,if_neg (by decide),if_neg (by omega),decide_eq_false (by omega)]
  ·simp [h1,h2]
theorem iT{a b p:qc}(h:decide (a.2<=p.2)=decide (b.2<=p.2)):Qm a b p=false:=by rw [Qm,if_pos h]
theorem eC{L:List qc}{p:qc}:∀{n:Nat},(∀i,i<n->Jc L p i=false)->y8 L p n=false
 |0,_=>rfl
 |n+1,h=>by rw [y8,eC (n:=n) (fun i hi=>h i (by omega)),h n (by omega)];rfl
theorem eD{L:List qc}{p:qc}(h:∀i,i<L.length->p.1<(xH L i).1):∀{n:Nat},n<L.length->y8 L p n=xor (decide ((xH L 0).2<=p.2)) (decide ((xH L n).2<=p.2))
 |0,_=>by rw [y8];simp
 |n+1,hn=>by
  have e:yQ L n=n+1:=by rw [yQ,Nat.mod_eq_of_lt (by omega)]
  rw [y8,eD h (n:=n) (by omega),Jc,e,iS (h n (by omega)) (h (n+1) (by omega))];cases decide ((xH L 0).2<=p.2)<;>cases decide ((xH L n).2<=p.2)<;>cases decide ((xH L (n+1)).2<=p.2)<;>rfl
theorem QI{L:List qc}{i:Nat}(hi:i<L.length):xH L i∈L:=by
 rw [xH,zge hi];exact List.getElem_mem hi
theorem wG{L:List qc}{i:Nat}(hi:i<L.length):yQ L i<L.length:=Nat.mod_lt _ oM
theorem pW{L:List qc}{lo hi p:qc}(hL:∀q∈L,xL lo hi q)(h:vN L p=true):xL lo hi p:=by
 have hat:∀i,i<L.length->xL lo hi (xH L i):=fun i hi=>hL _ (QI hi);rw [vN,Bool.or_eq_true] at h;rcases h with h|h
 ·obtain⟨i,hi,h⟩:=List.any_eq_true.1 h;have hi:=List.mem_range.1 hi;exact OF h (hat i hi) (hat _ (wG hi))
 ·have h0:0<L.length:=by
   cases hl:L.length with
   |zero=>rw [hl] at h;cases h
   |succ=>omega
  have no:(∀i,i<L.length->Jc L p i=false)->False:=fun hno=>by
   rw [eC hno] at h;cases h
  have h1:lo.2<=p.2:=by
   false_or_by_contra
   refine no fun i hi=>iT ?_;have g1:=hat i hi;have g2:=hat _ (wG hi);unfold xL at g1 g2;rw [decide_eq_false (by omega),decide_eq_false (by omega)]
  have h2:p.2<=hi.2:=by
   false_or_by_contra
   refine no fun i hi=>iT ?_;have g1:=hat i hi;have g2:=hat _ (wG hi);unfold xL at g1 g2;rw [decide_eq_true (by omega),decide_eq_true (by omega)]
  have h3:p.1<=hi.1:=by
   false_or_by_contra
   refine no fun i hi=>B2 ?_ ?_
   ·have g1:=hat i hi;unfold xL at g1;omega
   ·have g1:=hat _ (wG hi);unfold xL at g1;omega
  have h4:lo.1<=p.1:=by
   false_or_by_contra
   have hl:∀i,i<L.length->p.1<(xH L i).1:=fun i hi=>by
    have g1:=hat i hi;unfold xL at g1;omega
   obtain⟨n,hn⟩:∃n,L.length=n+1:=⟨L.length-1,oM⟩;have e:yQ L n=0:=by rw [yQ,<-hn,Nat.mod_self]
   rw [hn,y8,eD hl (n:=n) (by omega),Jc,e,iS (hl n (by omega)) (hl 0 h0)] at h;cases hx:decide ((xH L 0).2<=p.2)<;>cases hy:decide ((xH L n).2<=p.2)<;>rw [hx,hy] at h<;>cases h
  exact⟨⟨h4,h3⟩,h1,h2⟩
def nU(L:List qc):List qc:=(List.range (L.length-1)).flatMap fun i=>xR (xH L i) (xH L (yQ L i))
def KO(L:List qc):List qc:=(List.range L.length).flatMap fun i=>xR (xH L i) (xH L (yQ L i))
def a7:List qc:=(List.range 60).flatMap fun (y:Nat)=>(List.range 60).map fun (x:Nat)=>((x:Int),(y:Int))
theorem Yl{p:qc}:p∈a7↔zO p=true:=by
 obtain⟨x,y⟩:=p;rw [zx];simp only [a7,List.mem_flatMap,List.mem_map,List.mem_range,zpi];constructor
 ·rintro ⟨b,hb,a,ha,rfl,rfl⟩;omega
 ·rintro ⟨⟨h1,h2⟩,h3,h4⟩;exact⟨y.toNat,oM,x.toNat,oM,oM,oM⟩
def yy(f:Ft):List qc:=a7.filter fun p=>j3 f.tex p&&vN f.pts p
def xe(f:Ft):List qc:=if f.kind=1 then f.pts else if f.kind=2 then qt (nU f.pts) else qt (KO f.pts++yy f)
theorem Ve{L:List qc}{p:qc}:p∈KO L↔∃(i:Nat) (a b:qc),L[i]?=some a/\L[yQ L i]?=some b/\p∈xR a b:=by
 simp only [KO,List.mem_flatMap,List.mem_range];constructor
 ·rintro ⟨i,hi,hp⟩;exact⟨i,_,_,zge hi,zge (wG hi),by simpa [xH,zge hi,zge (wG hi)] using hp⟩
 ·rintro ⟨i,a,b,ha,hb,hp⟩;exact⟨i,(zgs ha).1,by rw [xM ha,xM hb];exact hp⟩
theorem b6{L:List qc}{p:qc}:p∈nU L↔∃(i:Nat) (a b:qc),i<L.length-1/\L[i]?=some a/\L[i+1]?=some b/\p∈xR a b:=by
 simp only [nU,List.mem_flatMap,List.mem_range];constructor
 ·rintro ⟨i,hi,hp⟩;have e:yQ L i=i+1:=by rw [yQ,Nat.mod_eq_of_lt (by omega)]
  rw [e] at hp;exact⟨i,_,_,hi,zge (by omega),zge (by omega),by simpa [xH,zge (show i<L.length by omega),zge (show i+1<L.length by omega)] using hp⟩
 ·rintro ⟨i,a,b,hi,ha,hb,hp⟩;have e:yQ L i=i+1:=by rw [yQ,Nat.mod_eq_of_lt (by omega)]
  exact⟨i,hi,by rw [e,xM ha,xM hb];exact hp⟩
theorem dU{l m:List qc}(h:∀p,p∈l↔p∈m):qt l=qt m:=qK.ext (xi l) (xi m) fun p=>by rw [qP,qP,h]
theorem uD{p:Par}{base:Nat}{Q:qp->Bx->Nat->Prop}{r:List SOper}{A:List Nat}{E E0:qp}{S S0:Bx}{nk n0:Nat}(ρ:List (Nat × Nat))(hw:Wk p ρ n0 E0 S0 E S)(h:DPW p base 0 Q r [] A E0 S0 n0):DPW p base 0 Q r [] A E S nk:=.mk fun Z β H F c hS hE hC hA=>by
 obtain⟨β0,h1,h2⟩:=fK hS hE hw;refine h.run Z β0 H F c h1 h2 (fun x hx=>?_) ⟨hA.1,fun j hj=>oM⟩;obtain⟨y,hy,_⟩:=hC x hx;cases hy
theorem jm{f:Ft}(h:x8 f=true):(1<=f.pts.length/\f.pts.length<=12)/\(∀p∈f.pts,zO p=true)/\yr f=true:=by
 simp only [x8,xr,xQ,List.all_eq_true] at h;exact⟨h.1.1,h.1.2,h.2⟩
theorem Zj{p:qc}(h:zO p=true):qC 1000 p:=by
 rw [zx] at h;unfold qC;omega
theorem Yh(a b:qc):a∈xR a b:=by
 have h:=Jp a b (k:=0) (by rw [QD];omega);rw [oD] at h;exact zmg h
theorem qap{k:Nat}{p:qc}(hk:k<4)(hp:qC 1000 p):DK (cD k) [zd p] fun d=>d=.bool (j3 k p):=by
 match k,hk with
 |0,_=>exact qat
 |1,_=>exact qas hp
 |2,_=>exact qar
 |3,_=>exact qaq
 |k+4,h=>omega
theorem F6{k:Nat}(hk:k<4):qB Tryz.prog (cD k)=true:=by
 match k,hk with
 |0,_=>exact (show qB Tryz.prog 100=true by kernel_rfl)
 |1,_=>exact (show qB Tryz.prog 101=true by kernel_rfl)
 |2,_=>exact (show qB Tryz.prog 102=true by kernel_rfl)
 |3,_=>exact (show qB Tryz.prog 103=true by kernel_rfl)
 |k+4,h=>omega
theorem uJ{t:Int}{k:Nat}(ht:t=k)(hk:k<4):DK 65 [.int t] fun d=>d=lY (cD k):=by rw [ht];exact DU hk
def arS(f:Ft)(l:List qc)(lo hi:qc):Bx:=[(0,.cells [.f (.c (.int .i64 f.kind)),.f (.c (.int .i64 f.tex)),.f (.sl 2 f.pts.length (f.pts.flatMap qh))]),(1,j4 l),(2,.cells [.f (.c (.int .i64 lo.1)),.f (.c (.int .i64 lo.2))]),(3,.cells [.f (.c (.int .i64 hi.1)),.f (.c (.int .i64 hi.2))])]
structure Fill (f:Ft) (l0:List qc) (lo hi:qc) (x y:Int) (l:List qc):Prop where
 nd:l.Nodup
 le:(l.length:Int)<=l0.length+60*(y-lo.2)+(x-lo.1)
 mem:∀p,p∈l↔p∈l0\/(xL lo hi p/\(p.2<y\/(p.2=y/\p.1<x))/\(j3 f.tex p&&vN f.pts p)=true)
theorem Fill.start{f:Ft}{l0:List qc}{lo hi:qc}(h:l0.Nodup):Fill f l0 lo hi lo.1 lo.2 l0:=⟨h,oM,fun p=>⟨.inl,fun h=>h.elim id fun h=>by
 obtain⟨h1,h2,_⟩:=h;unfold xL at h1;omega⟩⟩
theorem Fill.skip{f:Ft}{l0 l:List qc}{lo hi:qc}{x y:Int}(h:Fill f l0 lo hi x y l)(hb:(j3 f.tex (x,y)&&vN f.pts (x,y))=false):Fill f l0 lo hi (x+1) y l:=⟨h.nd,by have:=h.le;omega,fun p=>by
 rw [h.mem];constructor
 ·rintro (h1|⟨h1,h2,h3⟩)
  ·exact .inl h1
  ·exact .inr ⟨h1,oM,h3⟩
 ·rintro (h1|⟨h1,h2,h3⟩)
  ·exact .inl h1
  ·refine .inr ⟨h1,?_,h3⟩;by_cases he:p=(x,y)
   ·rw [he,hb] at h3;cases h3
   ·have:¬(p.1=x/\p.2=y):=fun h=>he (Prod.ext h.1 h.2);omega⟩
theorem Fill.put{f:Ft}{l0 l:List qc}{lo hi:qc}{x y:Int}(h:Fill f l0 lo hi x y l)(hx:xL lo hi (x,y))(hb:(j3 f.tex (x,y)&&vN f.pts (x,y))=true):Fill f l0 lo hi (x+1) y (w8 l (x,y)):=⟨aH h.nd,by have:=h.le;have:=(pH l (x,y)).2;omega,fun p=>by
 rw [iM,h.mem];constructor
 ·rintro ((h1|⟨h1,h2,h3⟩)|rfl)
  ·exact .inl h1
  ·exact .inr ⟨h1,oM,h3⟩
  ·exact .inr ⟨hx,.inr ⟨rfl,show x<x+1 by omega⟩,hb⟩
 ·rintro (h1|⟨h1,h2,h3⟩)
  ·exact .inl (.inl h1)
  ·by_cases he:p=(x,y)
   ·exact .inr he
   ·refine .inl (.inr ⟨h1,?_,h3⟩);have:¬(p.1=x/\p.2=y):=fun h=>he (Prod.ext h.1 h.2);omega⟩
theorem Fill.row{f:Ft}{l0 l:List qc}{lo hi:qc}{y:Int}(h:Fill f l0 lo hi (hi.1+1) y l)(hw:hi.1+1-lo.1<=60):Fill f l0 lo hi lo.1 (y+1) l:=⟨h.nd,by have:=h.le;omega,fun p=>by
 rw [h.mem];constructor
 ·rintro (h1|⟨h1,h2,h3⟩)
  ·exact .inl h1
  ·exact .inr ⟨h1,oM,h3⟩
 ·rintro (h1|⟨h1,h2,h3⟩)
  ·exact .inl h1
  ·refine .inr ⟨h1,?_,h3⟩;unfold xL at h1;omega⟩
theorem D1{f:Ft}(hv:x8 f=true)(h1:f.kind=1):DK 32 [eP f] fun d=>d=qz (xe f):=by
 obtain⟨⟨hn1,hn2⟩,hin,hk⟩:=jm hv;have hsm:jO f.pts:=fun p hp=>Zj (hin p hp);obtain⟨a,ha⟩:∃q,f.pts[0]?=some q:=⟨_,zge oM⟩;have e0:=xd ha;refine qD uP rfl qX fun Z0 lo=>?_;refine qb ?_;intros;refine qk rfl rfl (KL oM) ?_;rintro _ rfl;rw [hv];refine qb ?_;intros;refine qe rfl (fun ht=>by cases ht) (fun _=>?_);have b1:(f.kind==1)=true:=by simpa using h1
 refine qU ?_;intros;refine qe rfl (fun _=>?_) (fun ht=>by cases ht);refine qU ?_;intros;refine qr (E0:=[(2,.one (.own 1 0 1 2))]) (S0:=[(1,.data (qh a))]) (qd rfl (qu _)) (qd rfl (qu _)) ?_;refine xt 1 rfl qO qO ?_;refine qf ⟨_,rfl,rfl,?_⟩;rw [xe,if_pos h1];have hl:f.pts.length=1:=by
  rw [yr,if_pos h1] at hk;simp at hk;exact hk.1
 obtain⟨x,hx⟩:=List.length_eq_one_iff.1 hl;rw [hx] at ha ⊢;obtain rfl:=zsi ha;rfl
theorem D0{f:Ft}(hv:x8 f=true)(h1:¬f.kind=1)(h2:f.kind=2):DK 32 [eP f] fun d=>d=qz (xe f):=by
 obtain⟨⟨hn1,hn2⟩,hin,hk⟩:=jm hv;have hsm:jO f.pts:=fun p hp=>Zj (hin p hp);obtain⟨a,ha⟩:∃q,f.pts[0]?=some q:=⟨_,zge oM⟩;have e0:=xd ha;refine qD uP rfl qX fun Z0 lo=>?_;refine qb ?_;intros;refine qk rfl rfl (KL oM) ?_;rintro _ rfl;rw [hv];refine qb ?_;intros;refine qe rfl (fun ht=>by cases ht) (fun _=>?_);have b1:(f.kind==1)=false:=by simpa using h1
 have b2:(f.kind==2)=true:=by simpa using h2
 refine qU ?_;intros;refine qe rfl (fun ht=>by cases ht) (fun _=>?_);refine qU ?_;intros;refine qe rfl (fun _=>?_) (fun ht=>by cases ht);refine qU ?_;intros;refine jr rfl rfl (mY hsm oM) ?_;rintro _ _ _ ⟨l,hA,rfl,rfl,rfl⟩;refine uD (E0:=[(28,.one (.om 0))]) (S0:=[(0,j4 l)]) (n0:=1) [(0,1)] ?hw ?_
 case hw=>exact qm
 have hl2:2<=f.pts.length:=by
  rw [yr,if_neg h1,if_pos h2] at hk;simp at hk;exact hk.1
 have hl0:0<l.length:=by
  obtain⟨b,hb⟩:∃q,f.pts[1]?=some q:=⟨_,zge oM⟩;exact List.length_pos_of_mem ((hA.mem _).2 ⟨0,a,b,oM,ha,hb,Yh a b⟩)
 have:=hA.le;refine vA rfl rfl rfl (gH hA.nd hl0 oM _ _ _ _ _) ?_;rintro _ S' _ ⟨rfl,hS,rfl⟩;refine yJ (zH _) hS ?_;refine qU ?_;intros;refine qr (qd (k:=2) rfl (qu _)) (qd (k:=6) rfl (qu _)) ?_;have hfl:=xb (qt l);refine xt 6 rfl qO qO ?_;refine qf ⟨_,rfl,rfl,?_⟩;have he:qt l=xe f:=by
  rw [xe,if_neg h1,if_pos h2];exact dU fun p=>by rw [hA.mem,b6]
 rw [he];rfl
theorem DZ{f:Ft}(hv:x8 f=true)(h1:¬f.kind=1)(h2:¬f.kind=2):DK 32 [eP f] fun d=>d=qz (xe f):=by
 obtain⟨⟨hn1,hn2⟩,hin,hk⟩:=jm hv;have hsm:jO f.pts:=fun p hp=>Zj (hin p hp);obtain⟨a,ha⟩:∃q,f.pts[0]?=some q:=⟨_,zge oM⟩;have e0:=xd ha;refine qD uP rfl qX fun Z0 lo=>?_;refine qb ?_;intros;refine qk rfl rfl (KL oM) ?_;rintro _ rfl;rw [hv];refine qb ?_;intros;refine qe rfl (fun ht=>by cases ht) (fun _=>?_);have b1:(f.kind==1)=false:=by simpa using h1
 have b2:(f.kind==2)=false:=by simpa using h2
 refine qU ?_;intros;refine qe rfl (fun ht=>by cases ht) (fun _=>?_);refine qU ?_;intros;refine qe rfl (fun ht=>by cases ht) (fun _=>?_);refine qU ?_;intros;refine jr rfl rfl (DS hsm oM oM) ?_;rintro _ _ _ ⟨l,hA,rfl,rfl,rfl⟩;refine qU ?_;intros;refine ql (fun m E S nk=>∃(i:Nat) (lo hi:qc),i+m=f.pts.length/\zO lo=true/\zO hi=true/\(∀(j:Nat) q,j<i->f.pts[j]?=some q->xL lo hi q)/\E=[(1,.one (.ptr 0 0)),(3,.one (.om 1)),(4,.one (.ptr 2 0)),(5,.one (.ptr 3 0)),(42,qz f.pts),(43,.int f.pts.length),(44,.int i)]/\S=arS f l lo hi/\nk=4)
  ⟨f.pts.length,_,_,_,[],?wk,0,a,a,oM,hin a (zmg ha),hin a (zmg ha),fun j q hj=>oM,rfl,rfl,rfl⟩ ?_
 case wk=>exact qm
 rintro m E S nk ⟨i,lo,hi,him,hlo,hhi,hbx,rfl,rfl,rfl⟩;refine qb ?_;intros;refine qe rfl (fun ht2=>?_) (fun ht2=>?_)
 ·have ht2:i<f.pts.length:=by have:=xC ht2;omega
  obtain⟨q,hq⟩:∃q,f.pts[i]?=some q:=⟨_,zge ht2⟩;have e1:=xd hq;have hq60:=hin q (zmg hq);refine qb ?_;intros;refine⟨m-1,oM,_,_,_,[],?wk1,i+1,(min lo.1 q.1,min lo.2 q.2),(max hi.1 q.1,max hi.2 q.2),oM,?g1,?g2,?g3,rfl,rfl,rfl⟩
  case g1=>rw [zx] at *;simp only;omega
  case g2=>rw [zx] at *;simp only;omega
  case g3=>
   intro j q' hj hq';by_cases hji:j=i
   ·subst hji;rw [hq] at hq';obtain rfl:=zsi hq';unfold xL;simp only;omega
   ·have:=hbx j q' oM hq';unfold xL at *;simp only;omega
  case wk1=>exact qm
 ·have ht2:i=f.pts.length:=by have:=xK ht2;omega
  subst ht2;obtain⟨k,hk4,hft⟩:∃k:Nat,k<4/\f.tex=k:=by
   rw [yr,if_neg h1,if_neg h2] at hk;by_cases h3:f.kind=3
   ·rw [if_pos h3] at hk;simp at hk;exact⟨f.tex.toNat,oM,oM⟩
   ·rw [if_neg h3] at hk;cases hk
  have hab:=hbx 0 a oM ha;rw [zx] at hlo hhi;have hle0:=hA.le;have hfs:=Fill.start (f:=f) (l0:=l) (lo:=lo) (hi:=hi) hA.nd;refine qb ?_;intros;refine qk rfl rfl (uJ hft hk4) ?_;rintro _ rfl;refine qb ?_;intros;refine ql (fun m E S nk=>∃(y:Int) (l':List qc),lo.2<=y/\y<=hi.2+1/\m=(hi.2+1-y).toNat/\Fill f l lo hi lo.1 y l'/\E=[(1,.one (.ptr 0 0)),(3,.one (.om 1)),(4,.one (.ptr 2 0)),(5,.one (.ptr 3 0)),(8,lY (cD k)),(9,.int y)]/\S=arS f l' lo hi/\nk=4)
   ⟨_,_,_,_,[],?wk2,lo.2,l,oM,by unfold xL at hab;omega,rfl,hfs,rfl,rfl,rfl⟩ ?_
  case wk2=>exact qm
  rintro m E S nk ⟨y,l1,hy1,hy2,rfl,hF1,rfl,rfl,rfl⟩;refine qb ?_;intros;refine qe rfl (fun hy3=>?_) (fun hy3=>?_)
  ·have hy3:=xC hy3;refine qb ?_;intros;refine ql (fun m E S nk=>∃(x:Int) (l':List qc),lo.1<=x/\x<=hi.1+1/\m=(hi.1+1-x).toNat/\Fill f l lo hi x y l'/\E=[(1,.one (.ptr 0 0)),(3,.one (.om 1)),(4,.one (.ptr 2 0)),(5,.one (.ptr 3 0)),(8,lY (cD k)),(9,.int y),(10,.int x)]/\S=arS f l' lo hi/\nk=4)
    ⟨_,_,_,_,[],?wk3,lo.1,l1,oM,by unfold xL at hab;omega,rfl,hF1,rfl,rfl,rfl⟩ ?_
   case wk3=>exact qm
   rintro m E S nk ⟨x,l2,hx1,hx2,rfl,hF2,rfl,rfl,rfl⟩;refine qb ?_;intros;refine qe rfl (fun hx3=>?_) (fun hx3=>?_)
   ·have hx3:=xC hx3;have hxs:qC 1000 (x,y):=by unfold qC;simp only;omega
    have hib:xL lo hi (x,y):=by unfold xL;simp only;omega
    refine qb ?_;intros;refine qai rfl (F6 hk4) rfl rfl (qap (p:=(x,y)) hk4 hxs) ?_;rintro _ rfl;cases hb:j3 f.tex (x,y) with
    |false=>
     rw [hft] at hb;rw [hb];refine qb ?_;intros;refine qe rfl (fun ht=>by cases ht) (fun _=>?_);refine qb ?_;intros;refine⟨(hi.1+1-(x+1)).toNat,by omega,_,_,_,[],?wk4,x+1,l2,by omega,by omega,rfl,hF2.skip (by rw [hft,hb];rfl),rfl,rfl,rfl⟩
     case wk4=>exact qm
    |true=>
     rw [hft] at hb;rw [hb];refine qb ?_;intros;refine qk rfl rfl (HQ (p:=(x,y)) hsm hxs oM) ?_;rintro _ rfl;refine qb ?_;intros;refine qe rfl (fun hi2=>?_) (fun hi2=>?_)
     ·have hi2:vN f.pts (x,y)=true:=by simpa using hi2
      refine qb ?_;intros;refine mP rfl rfl rfl rfl (o6 _ (x,y)) rfl ?_;refine qb ?_;intros;refine⟨(hi.1+1-(x+1)).toNat,by omega,_,_,_,[],?wk5,x+1,w8 l2 (x,y),by omega,by omega,rfl,hF2.put hib (by rw [hft,hb,hi2];rfl),rfl,rfl,rfl⟩
      case wk5=>exact qm
     ·have hi2:vN f.pts (x,y)=false:=by simpa using hi2
      refine qb ?_;intros;refine⟨(hi.1+1-(x+1)).toNat,by omega,_,_,_,[],?wk6,x+1,l2,by omega,by omega,rfl,hF2.skip (by rw [hft,hb,hi2];rfl),rfl,rfl,rfl⟩
      case wk6=>exact qm
   ·have hx3:=xK hx3;obtain rfl:x=hi.1+1:=by omega
    refine qb ?_;intros;refine⟨(hi.2+1-(y+1)).toNat,oM,_,_,_,[],?wk7,y+1,l2,oM,oM,rfl,hF2.row oM,rfl,rfl,rfl⟩
    case wk7=>exact qm
  ·have hy3:=xK hy3;obtain rfl:y=hi.2+1:=by omega
   have hl1:=hF1.le;have hl0:0<l1.length:=by
    obtain⟨b,hb⟩:∃q,f.pts[yQ f.pts 0]?=some q:=⟨_,zge (wG oM)⟩;exact List.length_pos_of_mem ((hF1.mem _).2 (.inl ((hA.mem _).2 ⟨0,a,b,ha,hb,Yh a b⟩)))
   refine qb ?_;intros;refine uD (E0:=[(104,.one (.om 0))]) (S0:=[(0,j4 l1)]) (n0:=1) [(0,1)] ?hw ?_
   case hw=>exact qm
   refine vA rfl rfl rfl (gH hF1.nd hl0 oM _ _ _ _ _) ?_;rintro _ S' _ ⟨rfl,hS,rfl⟩;refine yJ (zH _) hS ?_;refine qb ?_;intros;refine qr (qd (k:=2) rfl (qu _)) (qd (k:=6) rfl (qu _)) ?_;have hfl:=xb (qt l1);refine xt 6 rfl qO qO ?_;refine qf ⟨_,rfl,rfl,?_⟩;have he:qt l1=xe f:=by
    rw [xe,if_neg h1,if_neg h2];refine dU fun p=>?_;rw [hF1.mem,hA.mem,List.mem_append,Ve,yy,List.mem_filter,Yl];constructor
    ·rintro (h|⟨h,_,h3⟩)
     ·exact .inl h
     ·refine .inr ⟨?_,h3⟩;rw [zx];unfold xL at h;omega
    ·rintro (h|⟨h,h3⟩)
     ·exact .inl h
     ·have hbp:xL lo hi p:=pW (L:=f.pts) (fun q hq=>by
       obtain⟨j,hj⟩:=List.getElem?_of_mem hq;exact hbx j q (zgs hj).1 hj) (by
       rw [xr] at h3;exact h3.2)
      refine .inr ⟨hbp,?_,h3⟩;unfold xL at hbp;omega
   rw [he];rfl
theorem Jx{f:Ft}(hv:x8 f=true):DK 32 [eP f] fun d=>d=qz (xe f):=by
 by_cases h1:f.kind=1
 ·exact D1 hv h1
 ·by_cases h2:f.kind=2
  ·exact D0 hv h1 h2
  ·exact DZ hv h1 h2
def Zi:Nat->List C->Bool
 |0,[]=>true
 |n+1,.bool false::l=>Zi n l
 |_,_=>false
theorem Jq:∀{n:Nat} {l:List C},Zi n l=true->l=List.replicate n (.bool false)
 |0,[],_=>rfl
 |0,c::l,h=>by simp [Zi] at h
 |n+1,[],h=>by simp [Zi] at h
 |n+1,c::l,h=>by
  cases c with
  |bool b=>
   cases b with
   |false=>
    have:=Jq (n:=n) (l:=l) h;rw [this,List.replicate_succ]
   |true=>simp [Zi] at h
  |_=>simp [Zi] at h
def bC(b:Bool):DC:=.f (.c (.bool b))
def kj(A:List Bool):Bk:=.cells (A.map bC)
theorem Xi(ρ:List (Nat × Nat))(A:List Bool):XO ρ (kj A)=kj A:=by
 simp only [XO,kj,Kl,List.map_map];congr 1
theorem VT(n:Nat):∀A:List Bool,qW (vL n) (A.map bC)=true
 |[]=>rfl
 |b::A=>by rw [List.map_cons,qW,VT n A];rfl
theorem Xf(n:Nat)(A:List Bool):Wa n (kj A)=true:=VT n A
theorem aA{α:Type}:∀(l pre X:List α),l.length=X.length->setLs (pre++X) pre.length l=pre++l
 |[],pre,[],_=>rfl
 |[],_,_::_,h=>by simp at h
 |_::_,_,[],h=>by simp at h
 |c::l,pre,x::X,h=>by
  rw [setLs];have:(pre++x::X).set pre.length c=(pre++[c])++X:=by simp
  rw [this,show pre.length+1=(pre++[c]).length by simp,aA l (pre++[c]) X (by simpa using h)];simp
theorem BF{α:Type}{l X:List α}(h:l.length=X.length):setLs X 0 l=l:=by simpa using aA l [] X h
theorem qal {p:Par} {base rs:Nat} {Q:qp->Bx->Nat->Prop} {r:List SOper} {A:List Nat} {E:qp} {i1 i2 i3 n:Nat} {z z':List C} (hz:Zi n z=true) (hz':Zi n z'=true)
 (h:DPW p base rs Q r [] A ((3,.one (.ptr 0 0))::(9,.agg ((List.replicate n (C.bool false)).map QM))::E) [(0,kj (List.replicate n false))] 1):DPW p base rs Q (⟨i1,some 9,.p (.build z []),none,none,[],false⟩::⟨i2,some 3,.a (.alloc z'),none,none,[],false⟩::⟨i3,none,.e (.store n (.t 3) (.t 9)),none,none,[],false⟩::r) [] A E [] 0:=by
 obtain rfl:=Jq hz;obtain rfl:=Jq hz';refine zJ (d:=.agg ((List.replicate n (.bool false)).map QM)) rfl ?_;refine Xs (x:=.cells ((List.replicate n (.bool false)).map QM)) rfl ?_;refine Qg (k:=0) (o:=0) rfl rfl rfl (by simp) rfl (by simp [Bk.len]) rfl ?_;have e:Zb (.cells ((List.replicate n (C.bool false)).map QM)) 0 ((List.replicate n (C.bool false)).map QM)=kj (List.replicate n false):=by
  rw [Zb,BF rfl,kj];simp [bC,QM]
 rw [<-e] at h;exact h
theorem Zw{E:qp}{x i:Opd}{k o len esz:Nat}{kd:IntKind}{j:Int}(hx:ro E x=some (.one (.ptr k o)))(hi:ro E i=some (.one (.f (.c (.int kd j)))))(h0:0<=j)(h1:j<len):ji E (.aaddr len esz x i)=some (.one (.ptr k (o+j.toNat*esz))):=by
 have e:xO j len=some j.toNat:=by
  obtain⟨n,rfl⟩:=Int.eq_ofNat_of_zero_le h0;have:n<len:=by omega
  show (match Nat.blt n len with|true=>some n|false=>none)=_
  rw [show Nat.blt n len=true by simpa using this];rfl
 simp only [ji,hx,hi,e]
theorem DT{p:Par}{E:qp}{S:Bx}{a:Opd}{k o:Nat}{A:List Bool}{b:Bool}(ha:ro E a=some (.one (.ptr k o)))(hk:lk S k=some (kj A))(hb:A[o]?=some b):wn p E S false 1 a=some (.bool b):=by
 have h1:o<A.length:=(zgs hb).1;have e:xN (A.map bC) o 1=some [bC b]:=by
  unfold xN;rw [show Nat.ble (o+1) (A.map bC).length=true by simp;omega];simp only [zoi];rw [<-List.map_drop,List.drop_eq_getElem_cons h1];simp [(zgs hb).2]
 simp only [wn,ha,YH,hk,kj,e];rfl
theorem NY(A:List Bool)(o:Nat)(b:Bool):Zb (kj A) o [bC b]=kj (A.set o b):=by
 rw [kj,Zb,setLs,setLs,kj,List.map_set]
def zZ(L:List qc)(n:Nat):List qc:=(List.range n).flatMap fun i=>xR (xH L i) (xH L (yQ L i))
theorem Yx(L:List qc)(n:Nat):zZ L (n+1)=zZ L n++xR (xH L n) (xH L (yQ L n)):=by
 simp [zZ,List.range_succ]
theorem XV{L:List qc}(hl:jO L):∀n,n<=L.length->(zZ L n).length<=2001*n
 |0,_=>by simp [zZ]
 |n+1,h=>by
  have h1:=XV hl n oM;have h2:=wM (hl _ (QI (i:=n) oM)) (hl _ (QI (wG (i:=n) oM)));rw [Yx,List.length_append];omega
theorem RS{L:List qc}{n:Nat}(hl:jO L)(hn:L.length<100)(hnl:n<=L.length):DK 107 [qz L,.int n] fun d=>d=qz (zZ L n):=by
 refine qD uR rfl qX fun Z0 lo=>?_;refine qb ?_;intros;refine ql (fun m E S nk=>∃i:Nat,i+m=n/\E=[(0,qz L),(1,.int n),(5,.one (.own 0 0 (zZ L i).length 2)),(6,.int i)]/\S=[(0,.data ((zZ L i).flatMap qh))]/\nk=1)
  ⟨n,_,_,_,[],?wk,0,oM,rfl,rfl,rfl⟩ ?_
 case wk=>exact qm
 rintro m E S nk ⟨i,hi,rfl,rfl,rfl⟩;refine qb ?_;intros;refine qe rfl (fun ht=>?_) (fun ht=>?_)
 ·have ht:i<n:=by have:=xC ht;omega
  have ha:L[i]?=some (xH L i):=by rw [xH,zge (by omega)];rfl
  have hb:L[yQ L i]?=some (xH L (yQ L i)):=by rw [xH,zge (wG (by omega))];rfl
  have hsa:=hl _ (zmg ha);have hsb:=hl _ (zmg hb);have h1:=XV hl i oM;have h2:=wM hsa hsb;have hfl:=xb (zZ L i);have hf2:=xb (xR (xH L i) (xH L (yQ L i)));refine qb ?_;intros;refine qk rfl rfl (m7 oM oM ha hb) ?_;rintro _ rfl;refine qb ?_;intros;refine qk rfl rfl (rO hsa hsb) ?_;rintro _ rfl;refine qV (m:=(xR (xH L i) (xH L (yQ L i))).length) (q:=(xR (xH L i) (xH L (yQ L i))).flatMap qh) rfl rfl rfl (qH _ hfl) ⟨rfl,rfl,rfl⟩ oM oM (by decide) rfl ?_;rw [<-List.flatMap_append,<-List.length_append,<-Yx];refine qb ?_;intros;refine⟨m-1,oM,_,_,_,[(0,3)],?wk1,i+1,oM,rfl,rfl,rfl⟩
  case wk1=>exact qm
 ·have ht:i=n:=by have:=xK ht;omega
  subst ht;have hfl:=xb (zZ L i);refine qb ?_;intros;refine qr (qd (k:=4) rfl (qu _)) (qd (k:=0) rfl (qu _)) ?_;refine xt 0 rfl qO qO ?_;exact qf ⟨_,rfl,rfl,rfl⟩
def wo(y n:Nat):List qc:=(List.range n).map fun (x:Nat)=>((x:Int),(y:Int))
def je(y:Nat):List qc:=(List.range y).flatMap fun (y:Nat)=>wo y 60
theorem Yb(y n:Nat):wo y (n+1)=wo y n++[((n:Int),(y:Int))]:=by simp [wo,List.range_succ]
theorem Zk(y:Nat):je (y+1)=je y++wo y 60:=by simp [je,List.range_succ]
theorem Vt(y n:Nat):(wo y n).length=n:=by simp [wo]
theorem XY:∀y:Nat,(je y).length=60*y
 |0=>rfl
 |y+1=>by rw [Zk,List.length_append,XY y,Vt];omega
theorem WH:je 60=a7:=rfl
theorem d3(y:Nat):∀n,qK (wo y n)
 |0=>List.Pairwise.nil
 |n+1=>by
  rw [Yb];refine List.pairwise_append.2 ⟨d3 y n,by simp,fun a ha b hb=>?_⟩;rw [List.mem_singleton] at hb;subst hb;simp only [wo,List.mem_map,List.mem_range] at ha;obtain⟨x,hx,rfl⟩:=ha;rw [jL];exact .inr ⟨rfl,show (x:Int)<(n:Int) by omega⟩
theorem aZ:∀n,qK (je n)
 |0=>List.Pairwise.nil
 |n+1=>by
  rw [Zk];refine List.pairwise_append.2 ⟨aZ n,d3 n 60,fun a ha b hb=>?_⟩;simp only [je,wo,List.mem_flatMap,List.mem_map,List.mem_range] at ha hb;obtain⟨y,hy,x,hx,rfl⟩:=ha;obtain⟨x',hx',rfl⟩:=hb;rw [jL];simp only;omega
theorem gU{l:List qc}(h:∀p∈l,zO p=true):a7.filter (fun p=>decide (p∈l))=qt l:=by
 refine qK.ext ?_ (xi l) fun p=>?_
 ·rw [<-WH];exact (aZ 60).filter _
 ·rw [List.mem_filter,Yl,qP];simp only [xQ];exact⟨fun h=>h.2,fun hp=>⟨h p hp,hp⟩⟩
structure Marks (l:List qc) (A:List Bool):Prop where
 len:A.length=3600
 at_:∀p,zO p=true->A[0+p.2.toNat*60+p.1.toNat*1]?=some (decide (p∈l))
theorem Marks.nil:Marks [] (List.replicate 3600 false):=⟨by rw [List.length_replicate],fun p hp=>by
 rw [zx] at hp;rw [List.getElem?_replicate,if_pos (by omega)];simp⟩
theorem Marks.snoc{l:List qc}{A:List Bool}{q:qc}(h:Marks l A)(hq:zO q=true):Marks (l++[q]) (A.set (0+q.2.toNat*60+q.1.toNat*1) true):=⟨by rw [List.length_set];exact h.len,fun p hp=>by
 have hl:=h.len;have h1:=h.at_ p hp;rw [zx] at hp hq;rw [List.getElem?_set];by_cases he:p=q
 ·subst he;rw [if_pos rfl,if_pos (by omega),decide_eq_true (by simp)]
 ·have hne:¬(p.1=q.1/\p.2=q.2):=fun h=>he (Prod.ext h.1 h.2);rw [if_neg (by omega),h1];simp [he]⟩
set_option maxRecDepth 100000 in
theorem Vc{l:List qc}(hin:∀p∈l,zO p=true)(hn:l.length<1000000):DK 106 [qz l] fun d=>d=qz (qt l):=by
 refine qD M8 rfl qX fun Z0 lo=>?_;refine js ?_;refine jt wi (fun base=>?_);refine zJ rfl ?_;refine yI ?_;refine js ?_;refine jt wi (fun base=>?_);refine qal (by kernel_rfl) (by kernel_rfl) ?_;refine qb ?_;intros;refine ql (fun m E S nk=>∃(i:Nat) (A:List Bool),i+m=l.length/\Marks (l.take i) A/\E=[(0,qz l),(3,.one (.ptr 0 0)),(4,.int i)]/\S=[(0,kj A)]/\nk=1)
  ⟨l.length,_,_,_,[],?wk,0,_,oM,Marks.nil,rfl,rfl,rfl⟩ ?_
 case wk=>exact⟨za,⟨by rw [Xi];rfl,Xf _ _,rfl,trivial⟩,rfl,rfl⟩
 rintro m E S nk ⟨i,A,hi,hM,rfl,rfl,rfl⟩;refine qb ?_;intros;refine qe rfl (fun ht=>?_) (fun ht=>?_)
 ·have ht:i<l.length:=by have:=xC ht;omega
  obtain⟨q,hq⟩:∃q,l[i]?=some q:=⟨_,zge ht⟩;have e1:=xd hq;have hq6:=hin q (zmg hq);have hq60:=zx.1 hq6;have b1:decide (q.1>=0)=true:=decide_eq_true hq60.1.1;have b2:decide (q.2>=0)=true:=decide_eq_true hq60.2.1;have b3:decide (q.1<60)=true:=decide_eq_true hq60.1.2;have b4:decide (q.2<60)=true:=decide_eq_true hq60.2.2;refine qU ?_;intros;refine qe rfl (fun _=>?_) (fun ht=>by cases ht);refine qU ?_;intros;refine zJ (Zw rfl rfl hq60.2.1 hq60.2.2) ?_;refine qU ?_;intros;refine zJ (Zw rfl rfl hq60.1.1 hq60.1.2) ?_;have hlen:0+q.2.toNat*60+q.1.toNat*1+1<=(kj A).len:=by
   simp only [kj,Bk.len,List.length_map,hM.len];omega
  refine Qg rfl rfl rfl rfl rfl hlen rfl ?_;refine yI ?_;have hM2:Marks (l.take (i+1)) (A.set (0+q.2.toNat*60+q.1.toNat*1) true):=by
   rw [List.take_add_one,hq];exact hM.snoc hq6
  refine qr (E0:=[(0,qz l),(3,.one (.ptr 0 0)),(4,.int i)]) (S0:=[(0,kj (A.set (0+q.2.toNat*60+q.1.toNat*1) true))]) (qd rfl (qd rfl (qd rfl (qu _)))) (qd (congrArg some (NY A _ true)) (qu _)) ?_;refine qb ?_;intros;refine⟨m-1,oM,_,_,_,[],?wk1,i+1,_,oM,hM2,rfl,rfl,rfl⟩
  case wk1=>exact⟨za,⟨by rw [Xi];rfl,Xf _ _,rfl,trivial⟩,rfl,rfl⟩
 ·have ht:i=l.length:=by have:=xK ht;omega
  subst ht;rw [List.take_length] at hM;refine qb ?_;intros;refine ql (fun m E S nk=>∃(y:Nat) (out:List qc),y+m=60/\out=(je y).filter (fun p=>decide (p∈l))/\E=[(3,.one (.ptr 0 0)),(6,.one (.own 1 0 out.length 2)),(7,.int y)]/\S=[(0,kj A),(1,.data (out.flatMap qh))]/\nk=2)
   ⟨60,_,_,_,[],?wk2,0,[],rfl,rfl,rfl,rfl,rfl⟩ ?_
  case wk2=>exact⟨za,⟨by rw [Xi];rfl,Xf _ _,rfl,rfl,rfl,rfl,trivial⟩,rfl,rfl⟩
  rintro m E S nk ⟨y,out,hy,ho,rfl,rfl,rfl⟩;refine qb ?_;intros;refine qe rfl (fun hy2=>?_) (fun hy2=>?_)
  ·have hy2:y<60:=by have:=xC hy2;omega
   refine qb ?_;intros;refine ql (fun m E S nk=>∃(x:Nat) (out:List qc),x+m=60/\out=(je y++wo y x).filter (fun p=>decide (p∈l))/\E=[(3,.one (.ptr 0 0)),(6,.one (.own 1 0 out.length 2)),(7,.int y),(8,.int x)]/\S=[(0,kj A),(1,.data (out.flatMap qh))]/\nk=2)
    ⟨60,_,_,_,[],?wk3,0,out,rfl,by rw [ho];simp [wo],rfl,rfl,rfl⟩ ?_
   case wk3=>exact⟨za,⟨by rw [Xi];rfl,Xf _ _,rfl,rfl,rfl,rfl,trivial⟩,rfl,rfl⟩
   rintro m2 E S nk ⟨x,out2,hx,ho2,rfl,rfl,rfl⟩;refine qb ?_;intros;refine qe rfl (fun hx2=>?_) (fun hx2=>?_)
   ·have hx2:x<60:=by have:=xC hx2;omega
    have hp:=hM.at_ ((x:Int),(y:Int)) (by rw [zx];simp only;omega);have hle:out2.length<=3600:=by
     have h1:out2.length<=(je y++wo y x).length:=by rw [ho2];exact List.length_filter_le _ _
     have h2:(je y++wo y x).length=60*y+x:=by rw [List.length_append,XY,Vt]
     omega
    have hfl:=xb out2;refine qb ?_;intros;refine zJ (Zw rfl rfl (Int.natCast_nonneg _) oM) ?_;refine qb ?_;intros;refine zJ (Zw rfl rfl (Int.natCast_nonneg _) oM) ?_;refine jK (DT rfl rfl hp) ?_;refine qb ?_;intros;refine qe rfl (fun hb=>?_) (fun hb=>?_)
    ·have hb:decide (((x:Int),(y:Int))∈l)=true:=hb;refine qb ?_;intros;refine qV (m:=1) (q:=qh ((x:Int),(y:Int))) rfl rfl rfl (qH _ hfl) ⟨rfl,rfl,_,rfl,rfl⟩ oM oM (by decide) rfl ?_;have h3:(je y++wo y (x+1)).filter (fun p=>decide (p∈l))=out2++[((x:Int),(y:Int))]:=by rw [Yb,<-List.append_assoc,List.filter_append,<-ho2];simp [xC hb]
     rw [show out2.flatMap qh++qh ((x:Int),(y:Int))=(out2++[((x:Int),(y:Int))]).flatMap qh by simp,show out2.length+1=(out2++[((x:Int),(y:Int))]).length by simp];refine qb ?_;intros;refine⟨m2-1,oM,_,_,_,[(1,3)],?wk6,x+1,out2++[((x:Int),(y:Int))],oM,h3.symm,rfl,rfl,rfl⟩
     case wk6=>exact⟨za,⟨by rw [Xi];rfl,Xf _ _,rfl,rfl,rfl,rfl,trivial⟩,rfl,rfl⟩
    ·have hb:decide (((x:Int),(y:Int))∈l)=false:=hb;refine qb ?_;intros;refine⟨m2-1,by omega,_,_,_,[],?wk4,x+1,out2,by omega,by rw [Yb,<-List.append_assoc,List.filter_append,<-ho2];simp [hb],rfl,rfl,rfl⟩
     case wk4=>exact⟨za,⟨by rw [Xi];rfl,Xf _ _,rfl,rfl,rfl,rfl,trivial⟩,rfl,rfl⟩
   ·have hx2:x=60:=by have:=xK hx2;omega
    subst hx2;refine qb ?_;intros;refine⟨m-1,by omega,_,_,_,[],?wk5,y+1,out2,by omega,by rw [Zk];exact ho2,rfl,rfl,rfl⟩
    case wk5=>exact⟨za,⟨by rw [Xi];rfl,Xf _ _,rfl,rfl,rfl,rfl,trivial⟩,rfl,rfl⟩
  ·have hy2:y=60:=by have:=xK hy2;omega
   subst hy2;refine qb ?_;intros;have he:out=qt l:=by rw [ho,WH];exact gU hin
   have hfl:=xb out;refine qr (qd (k:=2) rfl (qu _)) (qd (k:=1) rfl (qu _)) ?_;refine xt 1 rfl qO qO ?_;refine qf ⟨_,rfl,rfl,?_⟩;rw [<-he];rfl
end Go.Ag
