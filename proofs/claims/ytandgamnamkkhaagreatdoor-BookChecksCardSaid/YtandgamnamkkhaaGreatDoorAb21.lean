/- -/
import Derived.Test.YtandgamnamkkhaaGreatDoorAb20
import Derived.Test.YtandgamnamkkhaaGreatDoorProg
import Derived.KernelRfl
set_option linter.unusedSimpArgs false
set_option linter.unusedVariables false
set_option maxRecDepth 8000
namespace Go.Ah
open Go.Ab Go.Proofs
set_option maxRecDepth 100000
theorem Gp:zK Tryz.prog 7 6=some f6:=by kernel_rfl
theorem Fu:zK Tryz.prog 7 68=some O3:=by kernel_rfl
theorem p9:zK Tryz.prog 7 69=some uS:=by kernel_rfl
theorem Fs:zK Tryz.prog 7 74=some mU:=by kernel_rfl
theorem Df:zK Tryz.prog 7 104=some Kb:=by kernel_rfl
theorem rA:zK Tryz.prog 7 141=some Fn:=by kernel_rfl
theorem De:zK Tryz.prog 7 144=some Fm:=by kernel_rfl
theorem GJ:zK Tryz.prog 7 145=some Fl:=by kernel_rfl
theorem Dd:zK Tryz.prog 7 146=some C2:=by kernel_rfl
theorem Dc:zK Tryz.prog 7 162=some RI:=by kernel_rfl
theorem Db:zK Tryz.prog 7 163=some Fk:=by kernel_rfl
theorem Da:zK Tryz.prog 7 184=some Fj:=by kernel_rfl
theorem Cz:zK Tryz.prog 7 223=some Fi:=by kernel_rfl
theorem Cy:zK Tryz.prog 7 228=some Fh:=by kernel_rfl
theorem Cx:zK Tryz.prog 7 264=some vn:=by kernel_rfl
theorem F3:zR Tryz.prog 109=true:=by kernel_rfl
theorem FZ:zR Tryz.prog 146=true:=by kernel_rfl
end Go.Ah

namespace Go.Ab
def nS(E:qo)(d:Nat):Option Opd->Option Nat
 |none=>some d
 |some x=>match ro E x with
  |some (.one (.f (.c (.int _ (.ofNat i)))))=>some i
  |_=>none
section
variable{p:Par}{base rs:Nat}{Q:qo->Bx->Nat->Prop}{r:List SOper}{W:Wt}{A:List Nat}{E:qo}{S:Bx}{nk:Nat}{id:Nat}{dst:Option Nat}{aid:Option Nat}{ws:List Nat}{keep:Bool}
theorem Qv{Z:Nat->Prop}{β:qq}{H:Hp}{F:T V}(hE:ER Z β H E F){d i y:Nat}{x:Option Opd}(h:nS E d x=some i)(hy:i<=y):qF F d y x=some i:=by
 cases x with
 |none=>obtain rfl:=zsi h;simp only [qF,if_pos hy]
 |some x=>
  simp only [nS] at h;split at h
  ·rename_i hx;obtain rfl:=zsi h;simp only [qF,xA hE hx];rw [if_pos ⟨Int.natCast_nonneg _,Int.ofNat_le.2 hy⟩];rfl
  ·cases h
theorem XA{esz:Nat}{x:Opd}{lo hi:Option Opd}{k o n l h o' n':Nat}(hx:ro E x=some (.one (.own k o n esz)))(hlo:nS E 0 lo=some l)(hhi:nS E n hi=some h)(h1:l<=h)(h2:h<=n)(ho:o+l*esz=o')(hn:h-l=n')(hd:DPW p base rs Q r W A (qX E dst (.one (.own k o' n' esz))) S nk):DPW p base rs Q (⟨id,dst,.p (.slice esz x lo hi none),none,aid,ws,keep⟩::r) W A E S nk:=by
 subst ho;subst hn;refine js (fun {Z β H F} hE=>?_) hd;obtain⟨c,hc,hr⟩:=xj hE hx;rcases hr with⟨g1,rfl,rfl,rfl⟩|⟨b,N,cap,ex,g1,rfl,g2,g3⟩
 ·have e1:h=0:=by omega
  have e2:l=0:=by omega
  subst e1;subst e2;refine⟨.one .nils,?_,_,rfl,.inl ⟨g1,rfl,by simp,rfl⟩⟩;simp only [qn,hc,yh,Qv hE hlo (Nat.le_refl 0),Qv hE hhi (Nat.le_refl 0)];rfl
 ·refine⟨.one (.slc b (o+l*esz) (h-l) (cap-l) esz ex),?_,_,rfl,.inr ⟨b,N,cap-l,ex,g1,rfl,oM,?_⟩⟩
  ·have hm:qF F cap cap none=some cap:=by simp [qF]
   simp only [qn,hc,yh];rw [if_neg (by simp),hm];simp only [Qv hE hhi (show h<=cap by omega),Qv hE hlo h1];simp
  ·have:(cap-l)*esz+l*esz=cap*esz:=by rw [<-Nat.add_mul];congr 1;omega
   omega
theorem Vd{esz:Nat}{x:Opd}{lo hi:Option Opd}{n l h n':Nat}{m q:List FD}(hx:ro E x=some (.one (.f (.sl esz n m))))(hlo:nS E 0 lo=some l)(hhi:nS E n hi=some h)(h1:l<=h)(h2:h<=n)(hn:h-l=n')(hq:qT m (l*esz) (n'*esz)=some q)(hd:DPW p base rs Q r W A (qX E dst (.one (.f (.sl esz n' q)))) S nk):DPW p base rs Q (⟨id,dst,.p (.slice esz x lo hi none),none,aid,ws,keep⟩::r) W A E S nk:=by
 subst hn;refine js (fun {Z β H F} hE=>?_) hd;obtain⟨c,hc,hr⟩:=xj hE hx;obtain⟨hle,hqe⟩:=x6 hq;cases hr with
 |nil=>
  have e1:h=0:=by omega
  have e2:l=0:=by omega
  subst e1;subst e2;obtain rfl:q=[]:=by rw [hqe];simp
  refine⟨.one .nils,?_,_,rfl,.nil esz⟩;simp only [qn,hc,yh,Qv hE hlo (Nat.le_refl 0),Qv hE hhi (Nat.le_refl 0)];rfl
 |sl hz hl hcap hld hel=>
  rename_i b o cap ex cs;have hlen:m.length=cs.length:=by rw [hl,zq hld]
  refine⟨.one (.slc b (o+l*esz) (h-l) (cap-l) esz ex),?_,_,rfl,.sl (cs:=(cs.drop (l*esz)).take ((h-l)*esz)) (fun h0=>hz ?_) ?_ oM (kD hld oM) fun i d c hd hc=>?_⟩
  ·have hm:qF F cap cap none=some cap:=by simp [qF]
   simp only [qn,hc,yh];rw [if_neg (by simp),hm];simp only [Qv hE hhi (show h<=cap by omega),Qv hE hlo h1];simp
  ·have:(h-l)*esz<=n*esz:=Nat.mul_le_mul_right _ oM;omega
  ·rw [hqe,List.length_take,List.length_drop];omega
  ·rw [hqe] at hd;have ha:=((qe.mk hlen hel).drop (l*esz)).take ((h-l)*esz);obtain⟨c',hc',hr'⟩:=ha.at i d hd;rw [hc] at hc';obtain rfl:=zsi hc';exact hr'
end
section
variable{p:Par}{Z:Nat->Prop}{β:qq}{H H':Hp}{S S0:Bx}{nk:Nat}
end
section
variable{p:Par}{base rs:Nat}{Q:qo->Bx->Nat->Prop}{r:List SOper}{W:Wt}{A:List Nat}{E:qo}{S:Bx}{nk:Nat}{id:Nat}{dst:Option Nat}{aid:Option Nat}{ws:List Nat}{keep:Bool}
end
section
variable{p:Par}{base rs:Nat}{Q:qo->Bx->Nat->Prop}{r:List SOper}{W:Wt}{A:List Nat}{E:qo}{S:Bx}{nk:Nat}{id:Nat}{dst:Option Nat}{aid:Option Nat}{ws:List Nat}{keep:Bool}
end
section
variable{p:Par}{n:Nat}{Q:Exit->qo->Bx->Nat->Prop}{E:qo}{S:Bx}{nk:Nat}
end
def V8(P:Program)(G:Nat)(GH:Hp)(f:FuncId)(ds:List DV)(R:DV->Bx->Nat->Prop):Prop:=∀(H:Hp) (Z:Nat->Prop) (args:List V),WF H->(∀b,Z b->b<H.nx)->(∀b bk,GH.get b=some bk->Z b/\H.get b=some bk)->qe (xc Z H jA) ds args->
 qK P G f args H fun v H'=>H.nx<=H'.nx/\(∀b,b<H.nx->H'.get b=H.get b)/\∃d S' nk' Z' β',SR (Par.base P G GH Z H.nx) Z' β' H' S' nk'/\xc Z' H' β' d v/\R d S' nk'
section
variable{p:Par}{E:qo}{S:Bx}{nk:Nat}
theorem N5{Z:Nat->Prop}{β:qq}{H:Hp}{d:DV}{v:V}(hr:xc Z H β d v)(hd:Jo d=true):jq v=true/\xK Z H β d v:=by
 cases d with
 |one d=>obtain⟨c,rfl,hr⟩:=hr;exact⟨rfl,c,rfl,hr⟩
 |agg l=>obtain⟨c,rfl,hr⟩:=hr;exact⟨rfl,c,rfl,hr⟩
 |tup l=>cases hd
theorem Y7{Z:Nat->Prop}{β:qq}{H:Hp}{F:T V}(hS:SR p Z β H S nk)(hE:ER Z β H E F):∀{l:List SRes} {ds:List DV},XV p E S l=some ds->qE Jo ds=true->∃vs,yI F H l=some vs/\qe (xK Z H β) ds vs
 |[],ds,h,_=>by obtain rfl:=zsi h;exact⟨[],rfl,trivial⟩
 |r::l,ds,h,hf=>by
  simp only [XV] at h;split at h
  ·rename_i d q h1 h2;obtain rfl:=zsi h;have f1:=zo hf d (by simp);have f2:qE Jo q=true:=by simp only [qE,f1] at hf;exact hf
   obtain⟨v,e1,e2⟩:=lO hS hE h1;obtain⟨vs,e3,e4⟩:=Y7 hS hE h2 f2;obtain⟨o1,o2⟩:=N5 e2 f1;exact⟨v::vs,by simp only [yI,e1,e3,o1,if_true],o2,e4⟩
  ·cases h
def J3:DV->Bool
 |.tup l=>qE Jo l
 |_=>true
theorem Z7{Z:Nat->Prop}{β:qq}{H:Hp}{F:T V}(hS:SR p Z β H S nk)(hE:ER Z β H E F){rs:List SRes}{d:DV}(h:yO p E S rs=some d)(hf:J3 d=true):∃v,xE F H rs=some v/\xc Z H β d v:=by
 unfold yO at h;have one:∀d',XV p E S rs=some [d']->Jo d'=true->∃v,xE F H rs=some v/\xc Z H β d' v:=fun d' hd' hf'=>by
  obtain⟨vs,h1,h2⟩:=Y7 hS hE hd' (by simp [qE,hf'])
  match vs,h1,h2 with
  |[v],h1,h2=>exact⟨v,by simp only [xE,h1],xc.of1 h2.1⟩
 split at h
 ·rename_i c hd';obtain rfl:=zsi h;exact one _ hd' rfl
 ·rename_i l hd';obtain rfl:=zsi h;exact one _ hd' rfl
 ·cases h
 ·rename_i ds hn1 hn2 hn3 hds;obtain rfl:=zsi h;obtain⟨vs,h1,h2⟩:=Y7 hS hE hds hf;refine⟨.tup vs,?_,vs,rfl,h2⟩;have hl:=h2.len;unfold xE;rw [h1]
  match vs,hl with
  |[],_=>rfl
  |[v],hl=>
   match ds,hl with
   |[.one d],_=>exact (hn1 d rfl).elim
   |[.agg d],_=>exact (hn2 d rfl).elim
   |[.tup d],_=>exact (hn3 d rfl).elim
  |_::_::_,_=>rfl
 ·cases h
end
def VF(p:Par)(rs:List SRes)(R:DV->Bx->Nat->Prop):Exit->qo->Bx->Nat->Prop
 |.normal,E,S,nk=>∃d,yO p E S rs=some d/\J3 d=true/\∃S0,zV S0 S/\R d S0 nk
 |.ret,E,S,nk=>∃d,yO p E S rs=some d/\J3 d=true/\∃S0,zV S0 S/\R d S0 nk
 |_,_,_,_=>False
theorem ZK{P:Program}{G:Nat}{GH:Hp}{f:FuncId}{sf:SFn}(hf:zK P G f=some sf){ds:List DV}{R:DV->Bx->Nat->Prop}(hn:Nat.ble ds.length sf.n=true)(hG:∀b bk,GH.get b=some bk->bk.ro=some bk)(h:∀Z0 lo,DPS (Par.base P G GH Z0 lo) sf.n sf.code (VF (Par.base P G GH Z0 lo) sf.res R) (kp ds 0) [] 0):V8 P G GH f ds R:=by
 intro H Z args hw hz hg ha;have hro:qK P G f args H.ro fun v H1=>∃d S' nk' Z' β',SR (Par.base P G GH Z H.nx) Z' β' H1 S' nk'/\xc Z' H1 β' d v/\R d S' nk':=by
  have hwr:WF H.ro:=fun b bk hb=>by
   rw [Hp.get_ro,Option.bind_eq_some_iff] at hb;obtain⟨x,hx,_⟩:=hb;exact hw b x hx
  refine (KZ hf (by rw [<-ha.len];exact Nat.le_of_ble_eq_true hn) ?_);have hS:SR (Par.base P G GH Z H.nx) Z jA H.ro [] 0:=⟨hwr,Nat.le_refl _,hz,fun b hb=>.inl hb,fun b hb=>hb,fun b bk hb=>(by rcases hb with hb|⟨_,hb⟩;exact⟨(hg b bk hb).1,by rw [Hp.get_ro,(hg b bk hb).2];exact hG b bk hb⟩;cases hb),fun _ _=>rfl,fun _ _ _ hk=>(by cases hk),fun κ x hk=>(by obtain⟨y,hy⟩:=jC hk;cases hy),fun _ _ _ _ _ _ _ hk=>(by cases hk),fun _ _ _ hk=>(by cases hk),fun _ _ _=>rfl,Nat.le_refl _⟩
  have hE:ER Z jA H.ro (kp ds 0) (zr args 0):=XJ 0 (ha.mono fun _ _ hr=>xc.mono (xd.of_le (fun _ h=>h) (Le.ro H)) (xD.refl jA) hr);refine zP ((h Z H.nx).run Z jA H.ro _ hS hE) fun e F' H' ⟨E',S',nk',Z',β',h1,h2,h3⟩=>?_;have fin:(∃d,yO (Par.base P G GH Z H.nx) E' S' sf.res=some d/\J3 d=true/\∃S0,zV S0 S'/\R d S0 nk')->∃v,xE F' H' sf.res=some v/\∃d S' nk' Z' β',SR (Par.base P G GH Z H.nx) Z' β' H' S' nk'/\xc Z' H' β' d v/\R d S' nk':=fun⟨d,hd,hfr,S0,hsub,hR⟩=>by
   obtain⟨v,hv,hr⟩:=Z7 h1 h2 hd hfr;exact⟨v,hv,d,S0,nk',Z',β',h1.keepS hsub,hr,hR⟩
  cases e with
  |normal=>obtain⟨v,hv,hr⟩:=fin h3;simp only [Xd,hv];exact hr
  |ret=>obtain⟨v,hv,hr⟩:=fin h3;simp only [Xd,hv];exact hr
  |_=>exact h3.elim
 refine (qK.none (qK.wf (qK.grow hro))).mono ?_;rintro v H' ⟨⟨⟨H1,⟨d,S',nk',Z',β',hS1,hr,hR⟩,e1,e2,e3,e4,e5⟩,hw'⟩,hno⟩;have hnx:H'.nx=H1.nx:=by rw [e1];rfl
 have hold:∀b,b<H.nx->H'.get b=H.get b:=fun b hb=>by
  cases hgb:H.get b with
  |none=>exact hno b hb hgb
  |some bk=>exact e3 b bk hgb
 have hZ:xd Z' H1 Z' H':=xd.of_le (fun _ h=>h) e5;refine⟨by omega,hold,d,S',nk',Z',β',⟨hw',by simp only;omega,fun b hb=>by rw [hnx];exact hS1.z b hb,hS1.zlo,hS1.zz,fun b bk hb=>⟨(hS1.glob b bk hb).1,?_⟩,hS1.nk,fun κ b N hκ=>by rw [hnx];exact hS1.bd κ b N hκ,fun κ x hκ=>?_,hS1.inj,hS1.blo,hS1.anch,hS1.ancn⟩,hr.mono hZ (xD.refl β'),hR⟩
 ·rcases hb with hb|⟨_,hb⟩
  ·rw [hold b (hz b (hg b bk hb).1)];exact (hg b bk hb).2
  ·cases hb
 ·obtain⟨s,hs,hbx⟩:=hS1.box κ x hκ;refine⟨s,hs,?_⟩;cases s with
  |nil=>exact hbx
  |blk b N=>
   obtain⟨h1,h2,h3,cs,rest,h4,h5,h6⟩:=hbx;exact⟨h1,h2,oM,cs,rest,h4.same (e4 b h2),h5,Bk.rel_mono hZ (xD.refl _) h6⟩
def NJ(n:Nat):List (Nat × Nat)->List (Nat × Nat)
 |[]=>[]
 |(k,o)::r=>(k+n,o)::NJ n r
def XQ(n:Nat):DC->DC
 |.ptr k o=>.ptr (k+n) o
 |.own k o m e=>.own (k+n) o m e
 |.tptr k i o=>.tptr (k+n) i o
 |.trow k i o m=>.trow (k+n) i o m
 |.fn f l=>.fn f (NJ n l)
 |.om k=>.om (k+n)
 |.yl k=>.yl (k+n)
 |d=>d
def NL:Nat->DV->DV
 |n,.one d=>.one (XQ n d)
 |n,.agg l=>.agg (l.map (XQ n))
 |_,.tup l=>.tup l
def Ea(n:Nat):DV->DV
 |.one d=>.one (XQ n d)
 |.agg l=>.agg (l.map (XQ n))
 |.tup l=>.tup (l.map (NL n))
def Kv(n:Nat):Bk->Bk
 |.cells l=>.cells (l.map (XQ n))
 |.data l=>.data l
 |.tree l=>.tree l
 |.mp ks l=>.mp ks (l.map (XQ n))
 |.mt es=>.mt (yW (XQ n) es)
theorem aN(n:Nat)(x:Bk):(Kv n x).shape=x.shape:=by cases x<;>rfl
def d6(n:Nat):Bx->Bx->Bx
 |[],T=>T
 |(k,x)::r,T=>(k+n,Kv n x)::d6 n r T
section
variable{Z:Nat->Prop}{H:Hp}{β β':qq}{n:Nat}
theorem sR(hβ:∀k i,β' (k+n,i)=β (k,i)):∀{l l':List (Nat × Nat)},je β l l'->je β' (NJ n l) l'
 |[],[],_=>trivial
 |(_,_)::_,(_,_)::_,h=>⟨h.1,by obtain⟨N,hN⟩:=h.2.1;exact⟨N,by rw [hβ];exact hN⟩,sR hβ h.2.2⟩
 |[],_::_,h=>h.elim
 |(_,_)::_,[],h=>h.elim
theorem d7(hβ:∀k i,β' (k+n,i)=β (k,i)){d:DC}{c:C}(h:RD Z H β d c):RD Z H β' (XQ n d) c:=by
 cases d with
 |ptr k o=>obtain⟨b,N,h1,h2⟩:=h;exact⟨b,N,by rw [hβ];exact h1,h2⟩
 |tptr k i o=>obtain⟨b,N,h1,h2⟩:=h;exact⟨b,N,by rw [hβ];exact h1,h2⟩
 |own k o m e=>
  rcases h with⟨h1,h2⟩|⟨b,N,cap,ex,h1,h2⟩
  ·exact .inl ⟨by rw [hβ];exact h1,h2⟩
  ·exact .inr ⟨b,N,cap,ex,by rw [hβ];exact h1,h2⟩
 |trow k i o m=>
  rcases h with⟨h1,h2⟩|⟨b,N,cap,ex,h1,h2⟩
  ·exact .inl ⟨by rw [hβ];exact h1,h2⟩
  ·exact .inr ⟨b,N,cap,ex,by rw [hβ];exact h1,h2⟩
 |fn f l=>obtain⟨l',h1,h2⟩:=h;exact⟨l',h1,sR hβ h2⟩
 |f d=>exact h
 |g b o=>exact h
 |fptr l=>exact h
 |any=>trivial
 |om k=>obtain⟨b,N,h1,h2⟩:=h;exact⟨b,N,by rw [hβ];exact h1,h2⟩
 |yl k=>obtain⟨b,N,h1,h2⟩:=h;exact⟨b,N,by rw [hβ];exact h1,h2⟩
 |fz f ls=>exact h
theorem YY(hβ:∀k i,β' (k+n,i)=β (k,i)):∀{l:List DC} {cs:List C},qe (RD Z H β) l cs->qe (RD Z H β') (l.map (XQ n)) cs
 |[],[],_=>trivial
 |_::_,_::_,h=>⟨d7 hβ h.1,YY hβ h.2⟩
 |[],_::_,h=>h.elim
 |_::_,[],h=>h.elim
theorem NK(hβ:∀k i,β' (k+n,i)=β (k,i)){d:DV}{v:V}(h:xK Z H β d v):xK Z H β' (NL n d) v:=by
 cases d with
 |one d=>obtain⟨c,rfl,h⟩:=h;exact⟨c,rfl,d7 hβ h⟩
 |agg l=>obtain⟨c,rfl,h⟩:=h;exact⟨c,rfl,YY hβ h⟩
 |tup l=>exact h.elim
theorem NI(hβ:∀k i,β' (k+n,i)=β (k,i)){d:DV}{v:V}(h:xc Z H β d v):xc Z H β' (Ea n d) v:=by
 cases d with
 |one d=>obtain⟨c,rfl,h⟩:=h;exact⟨c,rfl,d7 hβ h⟩
 |agg l=>obtain⟨c,rfl,h⟩:=h;exact⟨c,rfl,YY hβ h⟩
 |tup l=>
  obtain⟨c,rfl,h⟩:=h;refine⟨c,rfl,?_⟩;have key:∀{l:List DV} {cs:List V},qe (xK Z H β) l cs->qe (xK Z H β') (l.map (NL n)) cs:=by
   intro l;induction l with
   |nil=>intro cs h;cases cs with
    |nil=>trivial
    |cons _ _=>exact h.elim
   |cons d l ih=>intro cs h;cases cs with
    |nil=>exact h.elim
    |cons c cs=>exact⟨NK hβ h.1,ih h.2⟩
  exact key h
theorem sQ(k:Nat):∀(i:Nat) (rows:List (List FD)),(zd k i rows).map (XQ n)=zd (k+n) i rows
 |_,[]=>rfl
 |i,r::rs=>by simp only [zd,List.map_cons,sQ k (i+1) rs,XQ]
end
theorem fM(n:Nat)(T:Bx)(hT:∀k x,lk T k=some x->k<n):∀(S:Bx) (k:Nat),lk (d6 n S T) k=if k<n then lk T k else (lk S (k-n)).map (Kv n)
 |[],k=>by
  simp only [d6,lk];split
  ·rfl
  ·rename_i hk;cases hl:lk T k with
   |none=>rfl
   |some x=>exact absurd (hT k x hl) hk
 |(j,x)::S,k=>by
  simp only [d6,qR];rw [fM n T hT S k];by_cases hk:k<n
  ·rw [if_pos hk,if_pos hk,if_neg (by omega)]
  ·rw [if_neg hk,if_neg hk];by_cases e:j+n=k
   ·rw [if_pos e,if_pos (by omega)];rfl
   ·rw [if_neg e,if_neg (by omega)]
theorem HQ(n:Nat)(T:Bx)(hT:∀k x,lk T k=some x->k<n)(S:Bx)(κ:x9):xb (d6 n S T) κ=if κ.1<n then xb T κ else (xb S (κ.1-n,κ.2)).map (Kv n):=by
 obtain⟨k,i⟩:=κ;have hl:=fM n T hT S k;by_cases hk:k<n
 ·rw [if_pos hk] at hl ⊢;exact y4 hl
 ·rw [if_neg hk] at hl;simp only [if_neg hk];cases i with
  |zero=>
   simp only [xb,hl];cases hs:lk S (k-n) with
   |none=>rfl
   |some x=>
    cases x with
    |tree rows=>simp only [Option.map_some,Kv,sQ];rw [Nat.sub_add_cancel (by omega)]
    |cells l=>rfl
    |data l=>rfl
    |mp ks l=>rfl
    |mt es=>
     simp only [Option.map_some,Kv];rw [ZC (XQ n) (k-n) k (fun _=>rfl) (fun i m=>by simp only [XQ];rw [Nat.sub_add_cancel (by omega)])]
  |succ i=>
   simp only [xb,hl];cases hs:lk S (k-n) with
   |none=>rfl
   |some x=>
    cases x with
    |tree rows=>
     simp only [Option.map_some,Kv];cases rows[i]?<;>rfl
    |cells l=>rfl
    |data l=>rfl
    |mp ks l=>rfl
    |mt es=>
     show yV (yW (XQ n) es)[i]?=(yV es[i]?).map (Kv n)
     rw [Jh];cases hm:yV es[i]? with
     |none=>rfl
     |some x=>obtain⟨_,r,_,rfl⟩:=jk hm;rfl
section
variable{p:Par}{base rs:Nat}{Q:qo->Bx->Nat->Prop}{r:List SOper}{W:Wt}{A:List Nat}{E:qo}{S:Bx}{nk:Nat}{id:Nat}{dst:Option Nat}{aid:Option Nat}{ws:List Nat}{keep:Bool}
theorem ZI{f:FuncId}{args:List Opd}{ds:List DV}{R:DV->Bx->Nat->Prop}(hvs:Xb E args=some ds)(hf:qE WE ds=true)(hc:V8 p.P p.G p.GH f ds R)(h:∀d S' nk',R d S' nk'->DPW p base rs Q r W A (qX E dst (Ea nk d)) (d6 nk S' S) (nk'+nk)):DPW p base rs Q (⟨id,dst,.cf f args,none,aid,ws,keep⟩::r) W A E S nk:=.mk fun Z β H F c QP hS hE hC hA=>by
 simp only [qv,qs,if_true];refine (hc H Z _ hS.wf hS.z (fun b bk hb=>hS.glob b bk (.inl hb)) (VQ hf (wY hE hvs))).monoP ?_;rintro v H' ⟨hnx,hg,d,S',nk',Z',β',hS',hr,hR⟩;have hz1:∀b,Z b->Z' b:=hS'.zz;have hz2:∀b,Z' b->b<H.nx->Z b:=fun b hb hl=>(hS'.zlo b hb).elim (fun h=>h) fun h=>by simp only at h;omega
 have hZ:xd Z H Z' H':=xd.of_get hz1 fun b hb=>hg b (hS.z b hb);let β'':qq:=fun κ=>if κ.1<nk then β κ else β' (κ.1-nk,κ.2)
 have hβ:∀k i,β'' (k+nk,i)=β' (k,i):=fun k i=>by simp only [β'',if_neg (show¬k+nk<nk by omega),Nat.add_sub_cancel]
 have hlo:∀κ,κ.1<nk->β'' κ=β κ:=fun κ h=>by simp [β'',h]
 have hhi:∀κ:x9,¬κ.1<nk->β'' κ=β' (κ.1-nk,κ.2):=fun κ h=>by simp [β'',h]
 have hB:xD β β'':=fun κ s hκ=>by rw [hlo κ (hS.lt1 hκ)];exact hκ
 have hT:∀k x,lk S k=some x->k<nk:=fun k x hk=>hS.lt hk;have hnew:∀(κ:x9) x b N,lk S' κ.1=some x->β' κ=some (.blk b N)->(∃y,xb S' κ=some y)->H.nx<=b:=fun κ x b N _ hb ⟨y,hy⟩=>hS'.lo2 hy hb;have hSS:SR p Z' β'' H' (d6 nk S' S) (nk'+nk):=by
  refine⟨hS'.wf,Nat.le_trans hS.lo hnx,hS'.z,fun b hb=>?_,fun b hb=>hz1 b (hS.zz b hb),fun b bk hb=>?_,fun κ hκ=>?_,fun κ b N hκ=>?_,fun κ x hκ=>?_,fun κ κ' x x' b N N' hκ hκ' h1 h2=>?_,fun κ b N hκ=>?_,fun κ hκ h0=>by rw [hlo κ (Nat.lt_of_lt_of_le hκ hS.ancn)];exact hS.anch κ hκ h0,by have:=hS.ancn;omega⟩
  ·rcases hS'.zlo b hb with h|h
   ·exact hS.zlo b h
   ·exact .inr (Nat.le_trans hS.lo h)
  ·obtain⟨h1,h2⟩:=hS.glob b bk hb;exact⟨hz1 b h1,by rw [hg b (hS.z b h1)];exact h2⟩
  ·rw [hhi κ (by omega)];exact hS'.nk _ (by simp only;omega)
  ·by_cases hk:κ.1<nk
   ·rw [hlo κ hk] at hκ;exact Nat.lt_of_lt_of_le (hS.bd κ b N hκ) hnx
   ·rw [hhi κ hk] at hκ;exact hS'.bd _ b N hκ
  ·rw [HQ nk S hT] at hκ;by_cases hk:κ.1<nk
   ·rw [if_pos hk] at hκ;obtain⟨s,hs,hbx⟩:=hS.box κ x hκ;refine⟨s,hB κ s hs,?_⟩;cases s with
    |nil=>exact hbx
    |blk b N=>
     obtain⟨g1,g2,g3,cs,rest,g4,g5,g6⟩:=hbx;exact⟨fun h=>g1 (hz2 b h g3),g2,oM,cs,rest,g4.same (hg b g3),g5,Bk.rel_mono hZ hB g6⟩
   ·rw [if_neg hk] at hκ;cases hs:xb S' (κ.1-nk,κ.2) with
    |none=>rw [hs] at hκ;cases hκ
    |some y=>
     rw [hs] at hκ;obtain rfl:=zsi hκ;obtain⟨s,hs',hbx⟩:=hS'.box _ y hs;refine⟨s,by rw [hhi κ hk];exact hs',?_⟩;cases s with
     |nil=>cases y<;>simpa [jI,Kv,Bk.len,yW] using hbx
     |blk b N=>
      obtain⟨g1,g2,g3,cs,rest,g4,g5,g6⟩:=hbx;refine⟨g1,Nat.le_trans hS.lo g2,g3,cs,rest,by rw [aN];exact g4,by rw [aN];exact g5,?_⟩;cases y with
      |cells l=>exact YY hβ g6
      |data l=>exact g6
      |tree l=>exact g6.elim
      |mp ks l=>exact YY hβ g6
      |mt es=>exact g6.elim
  ·rw [fM nk S hT] at hκ hκ';by_cases hk:κ.1<nk
   ·rw [if_pos hk] at hκ;rw [hlo κ hk] at h1;by_cases hk':κ'.1<nk
    ·rw [if_pos hk'] at hκ';rw [hlo κ' hk'] at h2;exact hS.inj κ κ' x x' b N N' hκ hκ' h1 h2
    ·rw [hhi κ' hk'] at h2;exact absurd (hS'.blo _ _ _ h2) fun hge=>by have:=hS.bd κ b N h1;simp only at hge;omega
   ·rw [if_neg hk] at hκ;rw [hhi κ hk] at h1;by_cases hk':κ'.1<nk
    ·rw [hlo κ' hk'] at h2;exact absurd (hS'.blo _ _ _ h1) fun hge=>by have:=hS.bd κ' b N' h2;simp only at hge;omega
    ·rw [if_neg hk'] at hκ';rw [hhi κ' hk'] at h2;cases e1:lk S' (κ.1-nk) with
     |none=>rw [e1] at hκ;cases hκ
     |some z1=>
      cases e2:lk S' (κ'.1-nk) with
      |none=>rw [e2] at hκ';cases hκ'
      |some z2=>
       have:=hS'.inj (κ.1-nk,κ.2) (κ'.1-nk,κ'.2) z1 z2 b N N' e1 e2 h1 h2;obtain⟨q1,q2⟩:=Prod.mk.inj this;obtain⟨a,i⟩:=κ;obtain⟨a',i'⟩:=κ';simp only at hk hk' q1 q2;rw [q2,show a=a' by omega]
  ·by_cases hk:κ.1<nk
   ·rw [hlo κ hk] at hκ;exact hS.blo κ b N hκ
   ·rw [hhi κ hk] at hκ;exact Nat.le_trans hS.lo (hS'.blo _ b N hκ)
 have hC':=hC.same hZ hB hg hS.wf;refine⟨hC'.watch ws,(h d S' nk' hR).run _ β'' H' _ c QP hSS ((hE.mono hZ hB).set dst (NI hβ hr)) hC' ⟨hA.1,fun j hj hjA=>?_⟩⟩;obtain⟨h1,h2,h3,h4⟩:=hA.2 j hj hjA;refine⟨by omega,by rw [hg _ h1];exact h2,fun h=>h3 (hz2 _ h h1),fun κ N hκ=>?_⟩;by_cases hk:κ.1<nk
 ·rw [hlo κ hk] at hκ;exact h4 κ N hκ
 ·rw [hhi κ hk] at hκ;have:=hS'.blo _ _ _ hκ;simp only at this;omega
end
def wV(β β':qq):Prop:=∀k s,β (k,0)=some s->β' (k,0)=some s
def W1:DC->Bool
 |.trow _ _ _ _=>false
 |.tptr _ _ _=>false
 |_=>true
def oZ:DV->Bool
 |.one d=>W1 d
 |.agg l=>qE W1 l
 |.tup _=>false
def CI:DV->Bool
 |.tup l=>qE oZ l
 |.one d=>W1 d
 |.agg l=>qE W1 l
def ZB:qo->Bool
 |[]=>true
 |(_,d)::E=>match CI d with
  |true=>ZB E
  |false=>false
section
variable{Z Z':Nat->Prop}{H H':Hp}{β β':qq}
theorem GM(hb:wV β β'):∀{l l':List (Nat × Nat)},je β l l'->je β' l l'
 |[],[],_=>trivial
 |(_,_)::_,(_,_)::_,⟨h1,⟨N,h2⟩,h3⟩=>⟨h1,⟨N,hb _ _ h2⟩,GM hb h3⟩
theorem RD.mono0(h:xd Z H Z' H')(hb:wV β β'){d:DC}{c:C}(ht:W1 d=true)(hr:RD Z H β d c):RD Z' H' β' d c:=by
 cases d with
 |f d=>exact RF.mono h hr
 |g b o=>exact hr
 |ptr k o=>obtain⟨b,N,h1,h2⟩:=hr;exact⟨b,N,hb _ _ h1,h2⟩
 |own k o n esz=>
  rcases hr with⟨h1,h2⟩|⟨b,N,cap,ex,h1,h2⟩
  ·exact .inl ⟨hb _ _ h1,h2⟩
  ·exact .inr ⟨b,N,cap,ex,hb _ _ h1,h2⟩
 |fptr l=>obtain⟨b,o,cs,h1,h2,h3,h4⟩:=hr;exact⟨b,o,cs,h1,(h b h2).1,h.loads h2 h3,h4.mono fun _ _=>RF.mono h⟩
 |fn f caps=>obtain⟨caps',h1,h2⟩:=hr;exact⟨caps',h1,GM hb h2⟩
 |any=>trivial
 |om k=>obtain⟨b,N,h1,h2⟩:=hr;exact⟨b,N,hb _ _ h1,h2⟩
 |yl k=>obtain⟨b,N,h1,h2⟩:=hr;exact⟨b,N,hb _ _ h1,h2⟩
 |fz f ls=>obtain⟨caps,h1,h2⟩:=hr;exact⟨caps,h1,h2.mono h⟩
 |tptr k i o=>cases ht
 |trow k i o n=>cases ht
theorem RDL.mono0(h:xd Z H Z' H')(hb:wV β β'):∀{l:List DC} {cs:List C},qE W1 l=true->qe (RD Z H β) l cs->qe (RD Z' H' β') l cs
 |[],[],_,_=>trivial
 |d::l,c::cs,ha,hr=>by
  have h1:=zo ha d (by simp);have h2:qE W1 l=true:=by simp only [qE,h1] at ha;exact ha
  exact⟨RD.mono0 h hb h1 hr.1,RDL.mono0 h hb h2 hr.2⟩
 |[],_::_,_,hr=>hr.elim
 |_::_,[],_,hr=>hr.elim
theorem xK.mono0(h:xd Z H Z' H')(hb:wV β β'){d:DV}{v:V}(ht:oZ d=true)(hr:xK Z H β d v):xK Z' H' β' d v:=by
 cases d with
 |one d=>obtain⟨c,h1,h2⟩:=hr;exact⟨c,h1,RD.mono0 h hb ht h2⟩
 |agg l=>obtain⟨c,h1,h2⟩:=hr;exact⟨c,h1,RDL.mono0 h hb ht h2⟩
 |tup l=>cases ht
theorem RDV1L.mono0(h:xd Z H Z' H')(hb:wV β β'):∀{l:List DV} {vs:List V},qE oZ l=true->qe (xK Z H β) l vs->qe (xK Z' H' β') l vs
 |[],[],_,_=>trivial
 |d::l,c::cs,ha,hr=>by
  have h1:=zo ha d (by simp);have h2:qE oZ l=true:=by simp only [qE,h1] at ha;exact ha
  exact⟨xK.mono0 h hb h1 hr.1,RDV1L.mono0 h hb h2 hr.2⟩
 |[],_::_,_,hr=>hr.elim
 |_::_,[],_,hr=>hr.elim
theorem xc.mono0(h:xd Z H Z' H')(hb:wV β β'){d:DV}{v:V}(ht:CI d=true)(hr:xc Z H β d v):xc Z' H' β' d v:=by
 cases d with
 |one d=>exact xK.mono0 (d:=.one d) h hb ht hr
 |agg l=>exact xK.mono0 (d:=.agg l) h hb ht hr
 |tup l=>obtain⟨vs,h1,h2⟩:=hr;exact⟨vs,h1,RDV1L.mono0 h hb ht h2⟩
theorem tN:∀{E:qo} {n:Nat} {d:DV},ZB E=true->lk E n=some d->CI d=true
 |[],_,_,_,h=>by cases h
 |(k,x)::E,n,d,ht,h=>by
  simp only [ZB] at ht;split at ht
  ·rename_i hx;rw [qR] at h;split at h
   ·obtain rfl:=zsi h;exact hx
   ·exact tN ht h
  ·cases ht
theorem ER.mono0(h:xd Z H Z' H')(hb:wV β β'){E:qo}{F:T V}(ht:ZB E=true)(hr:ER Z β H E F):ER Z' β' H' E F:=fun n d hd=>by
 obtain⟨v,h1,h2⟩:=hr n d hd;exact⟨v,h1,xc.mono0 h hb (tN ht hd) h2⟩
end
def DX(p:Par)(f:FuncId)(ds:List DV)(S:Bx)(nk:Nat)(R:DV->Bx->Nat->Prop):Prop:=∀Z β H args,SR p Z β H S nk->qe (xc Z H β) ds args->
 qK p.P p.G f args H fun v H'=>∃d S' nk' Z' β',SR p Z' β' H' S' nk'/\xc Z' H' β' d v/\xd Z H Z' H'/\wV β β'/\R d S' nk'
theorem DX.mono{p:Par}{f:FuncId}{ds:List DV}{S:Bx}{nk:Nat}{R R':DV->Bx->Nat->Prop}(h:DX p f ds S nk R)(hr:∀d S nk,R d S nk->R' d S nk):DX p f ds S nk R':=fun Z β H args h1 h2=>(h Z β H args h1 h2).mono fun _ _ ⟨d,S',nk',Z',β',g1,g2,g3,g4,g5⟩=>⟨d,S',nk',Z',β',g1,g2,g3,g4,hr _ _ _ g5⟩
abbrev Par.hold(p:Par)(Z:Nat->Prop)(nk:Nat)(β:qq)(H:Hp):Par:=⟨p.P,p.G,p.GH,Z,p.lo,nk,β,H,none⟩
theorem SR.hold{p:Par}{Z:Nat->Prop}{β:qq}{H:Hp}{S:Bx}{nk:Nat}(h:SR p Z β H S nk):SR (p.hold Z nk β H) Z β H S nk:=
 ⟨h.wf,h.lo,h.z,fun _ hb=>.inl hb,fun _ hb=>hb,fun b bk hb=>hb.elim (fun hb=>h.glob b bk (.inl hb)) fun hb=>hb,h.nk,h.bd,h.box,h.inj,h.blo,fun _ _ _=>rfl,Nat.le_refl _⟩
theorem SR.free{p:Par}{Z Z':Nat->Prop}{β β':qq}{H H':Hp}{S S':Bx}{nk nk':Nat}(h:SR p Z β H S nk)(h':SR (p.hold Z nk β H) Z' β' H' S' nk'):SR p Z' β' H' S' nk'/\xd Z H Z' H'/\wV β β':=by
 have hz:∀b,Z b->Z' b:=h'.zz;refine⟨⟨h'.wf,h'.lo,h'.z,fun b hb=>(h'.zlo b hb).elim (h.zlo b) .inr,fun b hb=>hz b (h.zz b hb),fun b bk hb=>h'.glob b bk (.inr (h.glob b bk hb)),h'.nk,h'.bd,h'.box,h'.inj,h'.blo,fun κ hκ h0=>?_,Nat.le_trans h.ancn h'.ancn⟩,fun b hb=>⟨hz b hb,fun i c hc=>?_⟩,fun k s hκ=>?_⟩
 ·exact (h'.anch κ (Nat.lt_of_lt_of_le hκ h.ancn) h0).trans (h.anch κ hκ h0)
 ·unfold Hp.cell at hc ⊢;cases hg:H.get b with
  |none=>rw [hg] at hc;cases hc
  |some bk=>rw [(h'.glob b bk (.inr ⟨hb,hg⟩)).2];rw [hg] at hc;exact hc
 ·exact (h'.anch (k,0) (h.lt1 hκ) rfl).trans hκ
theorem Ck {p:Par} {f:FuncId} {sf:SFn} (hf:zK p.P p.G f=some sf) {ds:List DV} {S:Bx} {nk:Nat} {R:DV->Bx->Nat->Prop} (hn:Nat.ble ds.length sf.n=true)
 (h:∀Z β H,DPS (p.hold Z nk β H) sf.n sf.code (VF (p.hold Z nk β H) sf.res R) (kp ds 0) S nk):DX p f ds S nk R:=by
 intro Z β H args hS ha;refine KZ hf (by rw [<-ha.len];exact Nat.le_of_ble_eq_true hn) ?_;refine zP ((h Z β H).run Z β H _ hS.hold (XJ 0 ha)) fun e F' H' ⟨E',S',nk',Z',β',h1,h2,h3⟩=>?_;have fin:(∃d,yO (p.hold Z nk β H) E' S' sf.res=some d/\J3 d=true/\∃S0,zV S0 S'/\R d S0 nk')->∃v,xE F' H' sf.res=some v/\∃d S' nk' Z' β',SR p Z' β' H' S' nk'/\xc Z' H' β' d v/\xd Z H Z' H'/\wV β β'/\R d S' nk':=fun⟨d,hd,hfr,S0,hsub,hR⟩=>by
  obtain⟨v,hv,hr⟩:=Z7 h1 h2 hd hfr;obtain⟨g1,g2,g3⟩:=hS.free (h1.keepS hsub);exact⟨v,hv,d,S0,nk',Z',β',g1,hr,g2,g3,hR⟩
 cases e with
 |normal=>obtain⟨v,hv,hr⟩:=fin h3;simp only [Xd,hv];exact hr
 |ret=>obtain⟨v,hv,hr⟩:=fin h3;simp only [Xd,hv];exact hr
 |_=>exact h3.elim
def noW:Wt->Bool
 |[]=>true
 |(_,none)::W=>noW W
 |_::_=>false
theorem CR.noW{W:Wt}{Z Z':Nat->Prop}{β β':qq}{H H':Hp}{c:za}(h:CR W Z β H c)(hW:∀y∈W,y.2=none)(hZ:xd Z H Z' H'):CR W Z' β' H' c:=fun x hx=>by
 obtain⟨y,hy,hw⟩:=h x hx;refine⟨y,hy,?_⟩;have e:=hW y hy;obtain⟨y1,y2⟩:=y;simp only at e;subst e;obtain⟨b,hb,hq⟩:=hw;exact⟨b,(hZ b hb).1,fun H'' hh=>hq H'' fun i c hc=>hh i c ((hZ b hb).2 i c hc)⟩
theorem vU:∀{W:Wt},noW W=true->∀y∈W,y.2=none
 |[],_,y,hy=>by cases hy
 |(_,none)::W,h,y,hy=>by
  rcases List.mem_cons.1 hy with rfl|hy
  ·rfl
  ·exact vU (W:=W) h y hy
 |(_,some _)::_,h,_,_=>by cases h
def Ws:List (Nat × Nat)->List DV
 |[]=>[]
 |(k,o)::r=>.one (.ptr k o)::Ws r
theorem YB{Z:Nat->Prop}{β:qq}{H:Hp}:∀{l l':List (Nat × Nat)},je β l l'->qe (xc Z H β) (Ws l) (l'.map vQ)
 |[],[],_=>trivial
 |(k,o)::r,(b,o')::r',⟨h1,⟨N,h2⟩,h3⟩=>⟨⟨_,rfl,b,N,h2,by rw [h1]⟩,YB h3⟩
section
variable{p:Par}{base rs:Nat}{Q:qo->Bx->Nat->Prop}{r:List SOper}{W:Wt}{A:List Nat}{E:qo}{S:Bx}{nk:Nat}{id:Nat}{dst:Option Nat}{aid:Option Nat}{ws:List Nat}{keep:Bool}
theorem ko{f:FuncId}{args:List Opd}{ds:List DV}{R:DV->Bx->Nat->Prop}(hvs:Xb E args=some ds)(hW:noW W=true)(hT:ZB E=true)(hc:DX p f ds S nk R)(h:∀d S' nk',R d S' nk'->DPW p base 0 Q r W A (qX E dst d) S' nk'):DPW p base rs Q (⟨id,dst,.cf f args,none,aid,ws,keep⟩::r) W A E S nk:=.mk fun Z β H F c QP hS hE hC hA=>by
 simp only [qv,qs,if_true];refine (hc Z β H _ hS (wY hE hvs)).monoP ?_;rintro v H' ⟨d,S',nk',Z',β',hS',hr,hZ,hB,hR⟩;have hC':CR W Z' β' H' c:=hC.noW (vU hW) hZ;exact⟨hC'.watch ws,(h d S' nk' hR).run Z' β' H' _ c QP hS' ((hE.mono0 hZ hB hT).set dst hr) hC' ⟨hA.1,fun j hj=>absurd hj oM⟩⟩
theorem AH{x:Opd}{f:FuncId}{caps:List (Nat × Nat)}{args:List Opd}{ds:List DV}{R:DV->Bx->Nat->Prop}(hx:ro E x=some (.one (.fn f caps)))(hf:zR p.P f=true)(hvs:Xb E args=some ds)(hW:noW W=true)(hT:ZB E=true)(hc:DX p f (ds++Ws caps) S nk R)(h:∀d S' nk',R d S' nk'->DPW p base 0 Q r W A (qX E dst d) S' nk'):DPW p base rs Q (⟨id,dst,.cv x args,none,aid,ws,keep⟩::r) W A E S nk:=.mk fun Z β H F c QP hS hE hC hA=>by
 obtain⟨cx,hcx,caps',rfl,hcaps⟩:=xj hE hx;simp only [qv,qs,if_true,hcx];refine⟨hf,?_⟩;refine (hc Z β H _ hS ((wY hE hvs).append (YB hcaps))).monoP ?_;rintro v H' ⟨d,S',nk',Z',β',hS',hr,hZ,hB,hR⟩;have hC':CR W Z' β' H' c:=hC.noW (vU hW) hZ;exact⟨hC'.watch ws,(h d S' nk' hR).run Z' β' H' _ c QP hS' ((hE.mono0 hZ hB hT).set dst hr) hC' ⟨hA.1,fun j hj=>absurd hj oM⟩⟩
theorem TK{x:Opd}{f:FuncId}{args:List Opd}{ds:List DV}{R:DV->Prop}(hx:ro E x=some (.one (.f (.c (.fn f [])))))(hfn:zR p.P f=true)(hvs:Xb E args=some ds)(hf:qE WE ds=true)(hc:yE p.P p.G p.GH f ds R)(h:∀d,R d->DPW p base rs Q r W A (qX E dst d) S nk):DPW p base rs Q (⟨id,dst,.cv x args,none,aid,ws,keep⟩::r) W A E S nk:=.mk fun Z β H F c QP hS hE hC hA=>by
 have hw:=(qj (id:=id) (dst:=dst) (aid:=aid) (ws:=ws) (keep:=keep) hvs hf hc h).run Z β H F c QP hS hE hC hA;obtain⟨cx,hcx,hr⟩:=xj hE hx;cases hr;simp only [qv,qs,if_true] at hw;simp only [qv,qs,if_true,hcx,List.map_nil,List.append_nil];exact⟨hfn,hw⟩
end
def jB(kb:Nat):DC->Bool
 |.trow k _ _ _=>!(Nat.beq k kb)
 |.tptr k _ _=>!(Nat.beq k kb)
 |_=>true
def o4(kb:Nat):DV->Bool
 |.one d=>jB kb d
 |.agg l=>qE (jB kb) l
 |.tup _=>false
def CJ(kb:Nat):DV->Bool
 |.tup l=>qE (o4 kb) l
 |.one d=>jB kb d
 |.agg l=>qE (jB kb) l
def W2(kb:Nat):qo->Bool
 |[]=>true
 |(_,d)::E=>match CJ kb d with
  |true=>W2 kb E
  |false=>false
def jQ(kb:Nat):List (Int × ME)->Bool
 |[]=>true
 |(_,.row _)::es=>jQ kb es
 |(_,.out c)::es=>match jB kb c with
  |true=>jQ kb es
  |false=>false
def o3(kb:Nat):Bk->Bool
 |.cells l=>qE (jB kb) l
 |.mp _ l=>qE (jB kb) l
 |.mt es=>jQ kb es
 |_=>true
def Zj(kb:Nat):Bx->Bool
 |[]=>true
 |(k,x)::S=>match Nat.beq k kb with
  |true=>Zj kb S
  |false=>match o3 kb x with
   |true=>Zj kb S
   |false=>false
def Qd(kb:Nat)(β β':qq):Prop:=∀κ s,(κ.1≠kb\/κ.2=0)->β κ=some s->β' κ=some s
section
variable{Z:Nat->Prop}{H H':Hp}{β β':qq}{kb:Nat}
theorem GL(hb:Qd kb β β'):∀{l l':List (Nat × Nat)},je β l l'->je β' l l'
 |[],[],_=>trivial
 |(_,_)::_,(_,_)::_,⟨h1,⟨N,h2⟩,h3⟩=>⟨h1,⟨N,hb _ _ (.inr rfl) h2⟩,GL hb h3⟩
theorem Ye{k:Nat}(h:(!(Nat.beq k kb))=true):k≠kb:=by
 rintro rfl;rw [jU] at h;cases h
theorem RD.monoK(hb:Qd kb β β'){d:DC}{c:C}(ht:jB kb d=true)(hr:RD Z H β d c):RD Z H β' d c:=by
 cases d with
 |f d=>exact hr
 |g b o=>exact hr
 |ptr k o=>obtain⟨b,N,h1,h2⟩:=hr;exact⟨b,N,hb _ _ (.inr rfl) h1,h2⟩
 |own k o n esz=>
  rcases hr with⟨h1,h2⟩|⟨b,N,cap,ex,h1,h2⟩
  ·exact .inl ⟨hb _ _ (.inr rfl) h1,h2⟩
  ·exact .inr ⟨b,N,cap,ex,hb _ _ (.inr rfl) h1,h2⟩
 |fptr l=>exact hr
 |fn f caps=>obtain⟨caps',h1,h2⟩:=hr;exact⟨caps',h1,GL hb h2⟩
 |any=>trivial
 |om k=>obtain⟨b,N,h1,h2⟩:=hr;exact⟨b,N,hb _ _ (.inr rfl) h1,h2⟩
 |yl k=>obtain⟨b,N,h1,h2⟩:=hr;exact⟨b,N,hb _ _ (.inr rfl) h1,h2⟩
 |fz f ls=>exact hr
 |tptr k i o=>obtain⟨b,N,h1,h2⟩:=hr;exact⟨b,N,hb _ _ (.inl (Ye ht)) h1,h2⟩
 |trow k i o n=>
  rcases hr with⟨h1,h2⟩|⟨b,N,cap,ex,h1,h2⟩
  ·exact .inl ⟨hb _ _ (.inl (Ye ht)) h1,h2⟩
  ·exact .inr ⟨b,N,cap,ex,hb _ _ (.inl (Ye ht)) h1,h2⟩
theorem RDL.monoK(hb:Qd kb β β'):∀{l:List DC} {cs:List C},qE (jB kb) l=true->qe (RD Z H β) l cs->qe (RD Z H β') l cs
 |[],[],_,_=>trivial
 |d::l,c::cs,ha,hr=>by
  have h1:=zo ha d (by simp);have h2:qE (jB kb) l=true:=by simp only [qE,h1] at ha;exact ha
  exact⟨RD.monoK hb h1 hr.1,RDL.monoK hb h2 hr.2⟩
 |[],_::_,_,hr=>hr.elim
 |_::_,[],_,hr=>hr.elim
theorem xK.monoK(hb:Qd kb β β'){d:DV}{v:V}(ht:o4 kb d=true)(hr:xK Z H β d v):xK Z H β' d v:=by
 cases d with
 |one d=>obtain⟨c,h1,h2⟩:=hr;exact⟨c,h1,RD.monoK hb ht h2⟩
 |agg l=>obtain⟨c,h1,h2⟩:=hr;exact⟨c,h1,RDL.monoK hb ht h2⟩
 |tup l=>cases ht
theorem RDV1L.monoK(hb:Qd kb β β'):∀{l:List DV} {vs:List V},qE (o4 kb) l=true->qe (xK Z H β) l vs->qe (xK Z H β') l vs
 |[],[],_,_=>trivial
 |d::l,c::cs,ha,hr=>by
  have h1:=zo ha d (by simp);have h2:qE (o4 kb) l=true:=by simp only [qE,h1] at ha;exact ha
  exact⟨xK.monoK hb h1 hr.1,RDV1L.monoK hb h2 hr.2⟩
 |[],_::_,_,hr=>hr.elim
 |_::_,[],_,hr=>hr.elim
theorem xc.monoK(hb:Qd kb β β'){d:DV}{v:V}(ht:CJ kb d=true)(hr:xc Z H β d v):xc Z H β' d v:=by
 cases d with
 |one d=>exact xK.monoK (d:=.one d) hb ht hr
 |agg l=>exact xK.monoK (d:=.agg l) hb ht hr
 |tup l=>obtain⟨vs,h1,h2⟩:=hr;exact⟨vs,h1,RDV1L.monoK hb ht h2⟩
theorem l8:∀{E:qo} {n:Nat} {d:DV},W2 kb E=true->lk E n=some d->CJ kb d=true
 |[],_,_,_,h=>by cases h
 |(k,x)::E,n,d,ht,h=>by
  simp only [W2] at ht;split at ht
  ·rename_i hx;rw [qR] at h;split at h
   ·obtain rfl:=zsi h;exact hx
   ·exact l8 ht h
  ·cases ht
theorem ER.monoK(hb:Qd kb β β'){E:qo}{F:T V}(ht:W2 kb E=true)(hr:ER Z β H E F):ER Z β' H E F:=fun n d hd=>by
 obtain⟨v,h1,h2⟩:=hr n d hd;exact⟨v,h1,xc.monoK hb (l8 ht hd) h2⟩
theorem VI:∀{S:Bx} {k:Nat} {x:Bk},Zj kb S=true->lk S k=some x->k≠kb->o3 kb x=true
 |[],_,_,_,h,_=>by cases h
 |(j,y)::S,k,x,ht,h,hne=>by
  simp only [Zj] at ht;rw [qR] at h;split at h
  ·rename_i e;subst e;obtain rfl:=zsi h;rw [jg hne] at ht;simp only at ht;split at ht
   ·rename_i hx;exact hx
   ·cases ht
  ·split at ht
   ·exact VI ht h hne
   ·split at ht
    ·exact VI ht h hne
    ·cases ht
theorem fE{j:Nat}(hj:j≠kb):∀(i:Nat) (rows:List (List FD)),qE (jB kb) (zd j i rows)=true
 |_,[]=>rfl
 |i,r::rs=>by simp only [zd,qE,jB,jg hj,fE hj (i+1) rs,Bool.not_false]
theorem fF{j:Nat}(hj:j≠kb):∀(i:Nat) (es:List (Int × ME)),jQ kb es=true->qE (jB kb) (wp j i es)=true
 |_,[],_=>rfl
 |i,(_,.row r)::es,h=>by
  have e0:∀y:Int,jB kb (.f (.c (.int .i64 y)))=true:=fun _=>rfl;have e1:jB kb (.trow j i 0 r.length)=true:=by simp only [jB,jg hj,Bool.not_false]
  simp only [wp,qE,e0,e1,fF hj (i+1) es h]
 |i,(_,.out c)::es,h=>by
  have e0:∀y:Int,jB kb (.f (.c (.int .i64 y)))=true:=fun _=>rfl;simp only [jQ] at h;split at h
  ·rename_i hc;simp only [wp,qE,e0,hc,fF hj (i+1) es h]
  ·cases h
theorem mB{S:Bx}{κ:x9}{x:Bk}(hs:Zj kb S=true)(h:xb S κ=some x)(hne:κ.1≠kb):o3 kb x=true:=by
 obtain⟨j,i⟩:=κ;obtain⟨y,hy⟩:=jC h;have ho:=VI hs hy hne;simp only at hy hne;cases i with
 |zero=>
  simp only [xb,hy] at h;cases y with
  |cells m=>obtain rfl:=zsi h;exact ho
  |data m=>obtain rfl:=zsi h;exact ho
  |tree rows=>obtain rfl:=zsi h;exact fE hne 0 rows
  |mp ks m=>obtain rfl:=zsi h;exact ho
  |mt es=>obtain rfl:=zsi h;exact fF hne 0 es ho
 |succ i=>
  simp only [xb,hy] at h;cases y with
  |cells m=>cases h
  |data m=>cases h
  |tree rows=>
   cases hr:rows[i]? with
   |none=>simp only [hr] at h;cases h
   |some r=>simp only [hr] at h;obtain rfl:=zsi h;rfl
  |mp ks m=>cases h
  |mt es=>obtain⟨_,r,_,rfl⟩:=jk h;rfl
theorem jI.monoK{p:Par}(hb:Qd kb β β'){x:Bk}{s:Slot}(hx:o3 kb x=true)(h:jI p Z H β x s):jI p Z H β' x s:=by
 cases s with
 |nil=>exact h
 |blk b N=>
  obtain⟨h1,h2,h3,cs,rest,h4,h5,h6⟩:=h;refine⟨h1,h2,h3,cs,rest,h4,h5,?_⟩;cases x with
  |cells m=>exact RDL.monoK hb hx h6
  |data m=>exact h6
  |tree m=>exact h6
  |mp ks m=>exact RDL.monoK hb hx h6
  |mt es=>exact h6
end
def xG(Z:Nat->Prop)(H:Hp)(β:qq)(kb:Nat):Nat->List (Int × ME)->List (V × V)->Prop
 |_,[],[]=>True
 |i,(y,.row r)::es,(k,v)::es'=>k=.one (.int .i64 y)/\(∃c,v=.one c/\RD Z H β (.trow kb i 0 r.length) c)/\xG Z H β kb (i+1) es es'
 |i,(y,.out d)::es,(k,v)::es'=>k=.one (.int .i64 y)/\(∃c,v=.one c/\RD Z H β d c)/\xG Z H β kb (i+1) es es'
 |_,_,_=>False
theorem JA{Z:Nat->Prop}{H:Hp}{β:qq}{kb:Nat}:∀{i:Nat} {es:List (Int × ME)} {es':List (V × V)},(∀e∈es',pE 0 e.1/\∃c,e.2=.one c)->qe (RD Z H β) (wp kb i es) (MF es')->xG Z H β kb i es es'
 |i,[],[],_,_=>trivial
 |i,[],(k,v)::es',hk,h=>by
  obtain⟨⟨c,h1⟩,c',h2⟩:=hk (k,v) (by simp);simp only at h1 h2;subst h1 h2;exact h.elim
 |i,(y,.row r)::es,[],hk,h=>h.elim
 |i,(y,.out d)::es,[],hk,h=>h.elim
 |i,(y,.row r)::es,(k,v)::es',hk,h=>by
  obtain⟨⟨c,h1⟩,c',h2⟩:=hk (k,v) (by simp);simp only at h1 h2;subst h1 h2;obtain⟨g1,g2,g3⟩:=(h:RD Z H β (.f (.c (.int .i64 y))) c/\RD Z H β (.trow kb i 0 r.length) c'/\qe (RD Z H β) (wp kb (i+1) es) (MF es'));cases g1;exact⟨rfl,⟨c',rfl,g2⟩,JA (fun e he=>hk e (by simp [he])) g3⟩
 |i,(y,.out d)::es,(k,v)::es',hk,h=>by
  obtain⟨⟨c,h1⟩,c',h2⟩:=hk (k,v) (by simp);simp only at h1 h2;subst h1 h2;obtain⟨g1,g2,g3⟩:=(h:RD Z H β (.f (.c (.int .i64 y))) c/\RD Z H β d c'/\qe (RD Z H β) (wp kb (i+1) es) (MF es'));cases g1;exact⟨rfl,⟨c',rfl,g2⟩,JA (fun e he=>hk e (by simp [he])) g3⟩
theorem Jz{Z:Nat->Prop}{H:Hp}{β:qq}{kb:Nat}:∀{i:Nat} {es:List (Int × ME)} {es':List (V × V)},xG Z H β kb i es es'->(∀e∈es',pE 0 e.1/\∃c,e.2=.one c)/\qe (RD Z H β) (wp kb i es) (MF es')
 |i,[],[],_=>⟨by simp,trivial⟩
 |i,[],_::_,h=>h.elim
 |i,(y,.row r)::es,[],h=>h.elim
 |i,(y,.out d)::es,[],h=>h.elim
 |i,(y,.row r)::es,(k,v)::es',⟨h1,⟨c,h2,h3⟩,h4⟩=>by
  subst h1 h2;obtain⟨g1,g2⟩:=Jz h4;refine⟨fun e he=>?_,RF.c _ rfl,h3,g2⟩;rcases List.mem_cons.1 he with rfl|he
  ·exact⟨⟨_,rfl⟩,_,rfl⟩
  ·exact g1 e he
 |i,(y,.out d)::es,(k,v)::es',⟨h1,⟨c,h2,h3⟩,h4⟩=>by
  subst h1 h2;obtain⟨g1,g2⟩:=Jz h4;refine⟨fun e he=>?_,RF.c _ rfl,h3,g2⟩;rcases List.mem_cons.1 he with rfl|he
  ·exact⟨⟨_,rfl⟩,_,rfl⟩
  ·exact g1 e he
def ME.val(kb i:Nat):ME->DC
 |.row r=>.trow kb i 0 r.length
 |.out d=>d
theorem xG.cons{Z:Nat->Prop}{H:Hp}{β:qq}{kb i:Nat}{e:Int × ME}{es:List (Int × ME)}{x:V × V}{es':List (V × V)}:xG Z H β kb i (e::es) (x::es')↔x.1=.one (.int .i64 e.1)/\(∃c,x.2=.one c/\RD Z H β (e.2.val kb i) c)/\xG Z H β kb (i+1) es es':=by
 obtain⟨y,e⟩:=e;obtain⟨k,v⟩:=x;cases e<;>rfl
theorem xG.at{Z:Nat->Prop}{H:Hp}{β:qq}{kb:Nat}:∀{j i:Nat} {es:List (Int × ME)} {es':List (V × V)} {e:Int × ME},xG Z H β kb j es es'->es[i]?=some e->∃c,es'[i]?=some (.one (.int .i64 e.1),.one c)/\RD Z H β (e.2.val kb (j+i)) c
 |j,i,[],[],e,_,h=>by simp at h
 |j,i,[],_::_,e,h,_=>h.elim
 |j,i,(y,.row r)::es,[],e,h,_=>h.elim
 |j,i,(y,.out d)::es,[],e,h,_=>h.elim
 |j,0,e0::es,x::es',e,h,he=>by
  obtain⟨h1,⟨c,h2,h3⟩,_⟩:=xG.cons.1 h;simp at he;subst he;exact⟨c,by simp [<-h1,<-h2],h3⟩
 |j,i+1,e0::es,x::es',e,h,he=>by
  obtain⟨_,_,h3⟩:=xG.cons.1 h;obtain⟨c,g1,g2⟩:=xG.at h3 (by simpa using he);exact⟨c,by simpa using g1,by rw [show j+(i+1)=j+1+i by omega];exact g2⟩
theorem xG.mono{Z Z':Nat->Prop}{H H':Hp}{β β':qq}{kb kb':Nat}:∀{j:Nat} {es es1:List (Int × ME)} {es':List (V × V)},xG Z H β kb j es es'->es1.length=es.length->(∀(i:Nat) (e e1:Int × ME),es[i]?=some e->es1[i]?=some e1->e1.1=e.1/\∀c,RD Z H β (e.2.val kb (j+i)) c->RD Z' H' β' (e1.2.val kb' (j+i)) c)->xG Z' H' β' kb' j es1 es'
 |j,[],[],[],_,_,_=>trivial
 |j,e::es,e1::es1,x::es',h,hl,hm=>by
  obtain⟨h1,⟨c,h2,h3⟩,h4⟩:=xG.cons.1 h;obtain⟨g1,g2⟩:=hm 0 e e1 rfl rfl;refine xG.cons.2 ⟨by rw [h1,g1],⟨c,h2,g2 c h3⟩,xG.mono h4 (by simpa using hl) fun i a b ha hb=>?_⟩;have:=hm (i+1) a b (by simpa using ha) (by simpa using hb);rw [show j+1+i=j+(i+1) by omega];exact this
 |j,[],_::_,_,_,hl,_=>by simp at hl
 |j,_::_,[],_,_,hl,_=>by simp at hl
 |j,[],[],_::_,h,_,_=>h.elim
 |j,(y,.row r)::es,_::_,[],h,_,_=>h.elim
 |j,(y,.out d)::es,_::_,[],h,_,_=>h.elim
theorem xG.find{Z:Nat->Prop}{H:Hp}{β:qq}{kb:Nat}{y:Int}:∀{j n:Nat} {es:List (Int × ME)} {es':List (V × V)} {i:Nat} {e:Int × ME},xG Z H β kb j es es'->es[i]?=some e->e.1=y->(∀(j:Nat) (e:Int × ME),j<i->es[j]?=some e->e.1≠y)->∃v,vd (.one (.int .i64 y)) es' n=some (some (n+i,v))/\es'[i]?=some (.one (.int .i64 y),v)
 |j,n,[],_,i,e,_,h,_,_=>by simp at h
 |j,n,(y',.row r)::es,[],i,e,h,_,_,_=>h.elim
 |j,n,(y',.out d)::es,[],i,e,h,_,_,_=>h.elim
 |j,n,e0::es,x::es',i,e,h,he,hy,hf=>by
  obtain⟨h1,⟨c,h2,h3⟩,h4⟩:=xG.cons.1 h;obtain⟨k,v⟩:=x;simp only at h1 h2;subst h1 h2;cases i with
  |zero=>
   simp at he;subst he;refine⟨.one c,?_,by simp [hy]⟩;simp [vd,X2,hy]
  |succ i=>
   have hne:=hf 0 e0 oM rfl;obtain⟨v,g1,g2⟩:=xG.find (n:=n+1) h4 (by simpa using he) hy (fun j' e' hj' he'=>hf (j'+1) e' (by omega) (by simpa using he'));refine⟨v,?_,by simpa using g2⟩;have:(y==e0.1)=false:=by simpa using fun h=>hne h.symm
   simp only [vd,X2,if_true,this];rw [g1,show n+1+i=n+(i+1) by omega]
theorem xG.none{Z:Nat->Prop}{H:Hp}{β:qq}{kb:Nat}{y:Int}:∀{j n:Nat} {es:List (Int × ME)} {es':List (V × V)},xG Z H β kb j es es'->(∀e∈es,e.1≠y)->vd (.one (.int .i64 y)) es' n=some none
 |j,n,[],[],_,_=>rfl
 |j,n,[],_::_,h,_=>h.elim
 |j,n,(y',.row r)::es,[],h,_=>h.elim
 |j,n,(y',.out d)::es,[],h,_=>h.elim
 |j,n,e0::es,x::es',h,hf=>by
  obtain⟨h1,⟨c,h2,h3⟩,h4⟩:=xG.cons.1 h;obtain⟨k,v⟩:=x;simp only at h1 h2;subst h1 h2;have:(y==e0.1)=false:=by simpa using fun h=>hf e0 (by simp) h.symm
  simp only [vd,X2,if_true,this];exact xG.none h4 fun e he=>hf e (by simp [he])
section
variable{p:Par}{base rs:Nat}{Q:qo->Bx->Nat->Prop}{r:List SOper}{W:Wt}{A:List Nat}{E:qo}{S:Bx}{nk:Nat}{id:Nat}{dst:Option Nat}{aid:Option Nat}{ws:List Nat}{keep:Bool}
theorem SR.congr2{S':Bx}{Z:Nat->Prop}{β:qq}{H:Hp}(h:SR p Z β H S nk)(h2:∀κ x,xb S' κ=some x->xb S κ=some x)(h1:∀k x,lk S' k=some x->∃y,lk S k=some y):SR p Z β H S' nk:=
 ⟨h.wf,h.lo,h.z,h.zlo,h.zz,h.glob,h.nk,h.bd,fun κ x hk=>h.box κ x (h2 κ x hk),fun κ κ' x x' b N N' hk hk'=>by
  obtain⟨y,hy⟩:=h1 _ _ hk;obtain⟨y',hy'⟩:=h1 _ _ hk';exact h.inj κ κ' y y' b N N' hy hy',h.blo,h.anch,h.ancn⟩
theorem EF{k:Nat}{Z:Nat->Prop}{β:qq}{H:Hp}(h:SR p Z β H ((k,.mp (.m 0) [])::S) nk):SR p Z β H ((k,.mt [])::S) nk:=by
 refine h.congr2 (fun κ x hk=>?_) fun j x hj=>?_
 ·obtain⟨j,i⟩:=κ;by_cases e:k=j
  ·subst e;cases i with
   |zero=>simp only [xb,qR,if_true] at hk ⊢;exact hk
   |succ i=>simp only [xb,qR,if_true] at hk;simp [yV] at hk
  ·rw [<-hk];exact y4 (by rw [qR,qR,if_neg e,if_neg e])
 ·rw [qR] at hj ⊢;split at hj
  ·rename_i e;rw [if_pos e];exact⟨_,rfl⟩
  ·rename_i e;rw [if_neg e];exact⟨x,hj⟩
theorem C8(h:DPW p base rs Q r W A (qX E dst (.one (.om nk))) ((nk,.mt [])::S) (nk+1)):DPW p base rs Q (⟨id,dst,.a .mkmap,none,none,ws,keep⟩::r) W A E S nk:=.mk fun Z β H F c QP hS hE hC hA=>by
 simp only [qv,qs,if_true,xw];have hfr:H.get H.nx=none:=hS.wf.fresh (Nat.le_refl _);have hg:∀b',b'≠H.nx->(H.push (.mp [])).get b'=H.get b':=fun b' hb'=>by rw [Hp.get_push,if_neg hb']
 have hz:¬Z H.nx:=fun hz=>absurd (hS.z _ hz) oM;obtain⟨hS',hZ,hB⟩:=hS.newB (x:=.mp (.m 0) []) (b:=H.nx) (N0:=0) (H':=H.push (.mp [])) rfl (fun β' hB hZ=>⟨hz,hS.lo,by simp,[],[],⟨[],by rw [Hp.get_push,if_pos rfl],by simp,rfl⟩,rfl,trivial⟩) hz (fun k N hk=>absurd (hS.bd k _ N hk) (by omega)) hS.lo (by simp) (by simp) (hS.wf.push _) hg;exact h.run Z _ _ _ c QP (EF hS') ((hE.mono hZ hB).set dst ⟨_,rfl,_,_,qW _ _ _,rfl⟩) (hC.new hZ hB hg hfr) (hA.new (by simp) hg fun j hj hjA e=>by have:=(hA.2 j hj hjA).1;omega)
theorem SR.mtb{Z:Nat->Prop}{β:qq}{H:Hp}(hS:SR p Z β H S nk){kb:Nat}{es:List (Int × ME)}(hb:lk S kb=some (.mt es)){c:C}(hr:RD Z H β (.om kb) c):∃b N es',c=.map b/\β (kb,0)=some (.blk b N)/\¬Z b/\p.lo<=b/\b<H.nx/\H.get b=some (.mp es')/\xG Z H β kb 0 es es':=by
 obtain⟨b,N,h1,rfl⟩:=hr;obtain⟨s,hs,hbx⟩:=hS.box (kb,0) (.mp (.m 0) (wp kb 0 es)) (by simp only [xb,hb]);rw [h1] at hs;obtain rfl:=zsi hs;obtain⟨g1,g2,g3,cs,rest,⟨es',g4,g5,g6⟩,g8,g7⟩:=hbx;have g8:rest=[]:=g8;subst g8;rw [List.append_nil] at g6;exact⟨b,N,es',rfl,h1,g1,g2,g3,g4,JA g5 (by rw [g6];exact g7)⟩
theorem bV {z:C} {m k:Opd} {kb:Nat} {y:Int} {es:List (Int × ME)} (hm:ro E m=some (.one (.om kb))) (hk:ro E k=some (.one (.f (.c (.int .i64 y))))) (hb:lk S kb=some (.mt es)) (hn:∀e∈es,e.1≠y) (hz:z.closed=true)
 (h:DPW p base rs Q r W A (qX E dst (.one (.f (.c z)))) S nk):DPW p base rs Q (⟨id,dst,.l (.lookup (.one z) false m k),none,aid,ws,false⟩::r) W A E S nk:=.mk fun Z β H F c QP hS hE hC hA=>by
 obtain⟨cm,hcm,hrm⟩:=xj hE hm;obtain⟨b,N,es',rfl,h1,h2,h3,h4,h5,h6⟩:=hS.mtb hb hrm;simp only [qv,qs,if_true,qA,hcm,xA hE hk,jl,h5,h6.none hn,yG,Bool.false_eq_true,if_false];exact h.run Z β H _ c QP hS (hE.set dst (zT hz)) hC hA
def kB(β:qq)(nk kb i:Nat):qq:=fun κ=>if κ=(nk,0) then β (kb,i+1) else if κ=(kb,i+1) then none else β κ
theorem lG{kb:Nat}(h:kr S kb W=true):∀y∈W,∀(j:x9) o n,y.2=some (j,o,n)->j.1≠kb:=fun y hy j o n e=>(Q5 h y hy j o n e).2
theorem CR.monoK{Z:Nat->Prop}{β β':qq}{H:Hp}{c:za}{kb:Nat}(h:CR W Z β H c)(hw:∀y∈W,∀(j:x9) o n,y.2=some (j,o,n)->j.1≠kb)(hb:Qd kb β β'):CR W Z β' H c:=fun x hx=>by
 obtain⟨y,hy,hq⟩:=h x hx;refine⟨y,hy,?_⟩;obtain⟨y1,y2⟩:=y
 match y2,hq,hy with
 |none,hq,_=>exact hq
 |some (k,o,n),⟨b,N,h1,h2⟩,hy=>exact⟨b,N,hb _ _ (.inl (hw _ hy k o n rfl)) h1,h2⟩
theorem AR.monoK{Z:Nat->Prop}{β β':qq}{H:Hp}(h:AR p base rs A Z β H)(hb:∀κ b N,β' κ=some (.blk b N)->∃κ' N',β κ'=some (.blk b N')):AR p base rs A Z β' H:=⟨h.1,fun j hj hjA=>by
 obtain⟨h1,h2,h3,h4⟩:=h.2 j hj hjA;refine⟨h1,h2,h3,fun k N hk=>?_⟩;obtain⟨κ',N',hk'⟩:=hb k _ N hk;exact h4 κ' N' hk'⟩
theorem Q8{α:Type}{l:List α}{i j:Nat}{x e:α}(h:(l.set i x)[j]?=some e):(j=i/\e=x)\/(j≠i/\l[j]?=some e):=by
 rw [List.getElem?_set] at h;split at h
 ·rename_i e';split at h
  ·exact .inl ⟨e'.symm,(zsi h).symm⟩
  ·cases h
 ·rename_i e';exact .inr ⟨fun h=>e' h.symm,h⟩
theorem J6{kb:Nat}:∀{es:List (Int × ME)} {i:Nat} {y:Int} {d:DC},jQ kb es=true->es[i]?=some (y,.out d)->jB kb d=true
 |[],_,_,_,_,h=>by simp at h
 |(_,.row _)::es,0,_,_,_,h=>by simp at h
 |(_,.row _)::es,i+1,_,_,hk,h=>J6 (es:=es) hk (by simpa using h)
 |(_,.out c)::es,i,_,_,hk,h=>by
  simp only [jQ] at hk;split at hk
  ·rename_i hc;cases i with
   |zero=>simp at h;rw [<-h.2];exact hc
   |succ i=>exact J6 (es:=es) hk (by simpa using h)
  ·cases hk
theorem Yh{S:Bx}{kb:Nat}{es es1:List (Int × ME)}(hb:lk S kb=some (.mt es))(κ:x9):xb (put kb (.mt es1) S) κ=if κ.1=kb then (match κ.2 with|0=>some (.mp (.m 0) (wp kb 0 es1))|i+1=>yV es1[i]?) else xb S κ:=by
 obtain⟨k,i⟩:=κ;by_cases e:k=kb
 ·subst e;rw [if_pos rfl];have hl:lk (put k (.mt es1) S) k=some (.mt es1):=by rw [yY,if_pos rfl,hb];rfl
  cases i with
  |zero=>simp only [xb,hl]
  |succ i=>simp only [xb,hl]
 ·rw [if_neg e];exact y4 (by rw [yY,if_neg e])
theorem SR.detach{Z:Nat->Prop}{β:qq}{H:Hp}(hS:SR p Z β H S nk){kb i:Nat}{y:Int}{es:List (Int × ME)}{q:List FD}(hb:lk S kb=some (.mt es))(hi:es[i]?=some (y,.row q))(hKS:Zj kb S=true)(hKM:jQ kb es=true):
 SR p Z (kB β nk kb i) H ((nk,.data q)::put kb (.mt (es.set i (y,.out (.own nk 0 q.length 1)))) S) (nk+1)/\Qd kb β (kB β nk kb i)/\(∀κ b N,kB β nk kb i κ=some (.blk b N)->∃κ' N',β κ'=some (.blk b N')):=by
 have hkn:=hS.lt hb;have hrow:xb S (kb,i+1)=some (.data q):=by simp only [xb,hb,hi,yV]
 have hself:kB β nk kb i (nk,0)=β (kb,i+1):=by simp [kB]
 have hgone:kB β nk kb i (kb,i+1)=none:=by simp [kB]
 have hoth:∀κ,κ≠(nk,0)->κ≠(kb,i+1)->kB β nk kb i κ=β κ:=fun κ h1 h2=>by simp [kB,h1,h2]
 have hB:Qd kb β (kB β nk kb i):=fun κ s hne hκ=>by
  rw [hoth κ (fun e=>by have:=hS.lt1 hκ;rw [e] at this;simp only at this;omega) (fun e=>by rw [e] at hne;simp at hne)];exact hκ
 have himg:∀κ b N,kB β nk kb i κ=some (.blk b N)->∃κ',β κ'=some (.blk b N)/\((κ=(nk,0)/\κ'=(kb,i+1))\/(κ≠(nk,0)/\κ≠(kb,i+1)/\κ'=κ)):=fun κ b N h=>by
  by_cases e1:κ=(nk,0)
  ·subst e1;rw [hself] at h;exact⟨_,h,.inl ⟨rfl,rfl⟩⟩
  ·by_cases e2:κ=(kb,i+1)
   ·subst e2;rw [hgone] at h;cases h
   ·rw [hoth κ e1 e2] at h;exact⟨κ,h,.inr ⟨e1,e2,rfl⟩⟩
 refine⟨⟨hS.wf,hS.lo,hS.z,hS.zlo,hS.zz,hS.glob,fun κ hκ=>?_,fun κ b N hκ=>?_,fun κ x hκ=>?_,fun κ κ' x x' b N N' hj hj' h1 h2=>?_,fun κ b N hκ=>?_,fun κ hκ h0=>?_,Nat.le_succ_of_le hS.ancn⟩,hB,fun κ b N h=>by obtain⟨κ',h',_⟩:=himg κ b N h;exact⟨κ',N,h'⟩⟩
 ·rw [hoth κ (fun e=>by rw [e] at hκ;simp only at hκ;omega) (fun e=>by rw [e] at hκ;simp only at hκ;omega)];exact hS.nk κ oM
 ·obtain⟨κ',h',_⟩:=himg κ b N hκ;exact hS.bd κ' b N h'
 ·rw [Yi rfl] at hκ;split at hκ
  ·rename_i e1;split at hκ
   ·rename_i e2;obtain rfl:=vg e1 e2;obtain rfl:=zsi hκ;obtain⟨s,hs,hbx⟩:=hS.box _ _ hrow;refine⟨s,by rw [hself];exact hs,?_⟩;exact jI.monoK hB rfl hbx
   ·cases hκ
  ·rename_i e1;rw [Yh hb] at hκ;split at hκ
   ·rename_i e2;obtain⟨k,j⟩:=κ;simp only at e2;subst e2;cases j with
    |zero=>
     simp only at hκ;obtain rfl:=zsi hκ;obtain⟨s,hs,hbx⟩:=hS.box (k,0) (.mp (.m 0) (wp k 0 es)) (by simp only [xb,hb]);refine⟨s,hB _ _ (.inr rfl) hs,?_⟩;cases s with
     |nil=>
      have:es=[]:=by
       cases es with
       |nil=>rfl
       |cons e es=>obtain⟨y',e⟩:=e;cases e<;>cases hbx
      subst this;simp at hi
     |blk b N=>
      obtain⟨g1,g2,g3,cs,rest,⟨es',g4,g5,g6⟩,g8,g7⟩:=hbx;have g8:rest=[]:=g8;subst g8;rw [List.append_nil] at g6;have hent:=JA (kb:=k) (i:=0) g5 (by rw [g6];exact g7);have hent':xG Z H (kB β nk k i) k 0 (es.set i (y,.out (.own nk 0 q.length 1))) es':=hent.mono (by simp) fun j e e1 he he1=>by
       rw [Nat.zero_add];rcases Q8 he1 with⟨rfl,rfl⟩|⟨hne,he1⟩
       ·rw [hi] at he;obtain rfl:=zsi he;refine⟨rfl,fun c hc=>?_⟩;rcases hc with⟨h1,h2⟩|⟨b',N',cap,ex,h1,h2⟩
        ·exact .inl ⟨by rw [hself];exact h1,h2⟩
        ·exact .inr ⟨b',N',cap,ex,by rw [hself];exact h1,h2⟩
       ·rw [he] at he1;obtain rfl:=zsi he1;refine⟨rfl,fun c hc=>?_⟩;obtain⟨y',e⟩:=e;cases e with
        |out d=>exact RD.monoK hB (J6 hKM he) hc
        |row r=>
         have hk1:kB β nk k i (k,j+1)=β (k,j+1):=hoth _ (fun e=>by have:=(Prod.mk.inj e).1;omega) (fun e=>by have:=(Prod.mk.inj e).2;omega);rcases hc with⟨h1,h2⟩|⟨b',N',cap,ex,h1,h2⟩
         ·exact .inl ⟨hk1.trans h1,h2⟩
         ·exact .inr ⟨b',N',cap,ex,hk1.trans h1,h2⟩
      obtain⟨t1,t2⟩:=Jz hent';exact⟨g1,g2,g3,MF es',[],⟨es',g4,t1,by simp⟩,rfl,t2⟩
    |succ j=>
     simp only at hκ;obtain⟨y',r',h1,rfl⟩:=jk hκ;rcases Q8 h1 with⟨rfl,h2⟩|⟨hne,h2⟩
     ·cases h2
     ·obtain⟨s,hs,hbx⟩:=hS.box (k,j+1) (.data r') (by simp only [xb,hb,h2,yV]);exact⟨s,by rw [hoth _ (fun e=>by have:=(Prod.mk.inj e).1;omega) (fun e=>by have:=(Prod.mk.inj e).2;omega)];exact hs,jI.monoK hB rfl hbx⟩
   ·rename_i e2;obtain⟨s,hs,hbx⟩:=hS.box κ x hκ;exact⟨s,hB _ _ (.inl e2) hs,jI.monoK hB (mB hKS hκ e2) hbx⟩
 ·have live:∀(κ:x9) w,lk ((nk,.data q)::put kb (.mt (es.set i (y,.out (.own nk 0 q.length 1)))) S) κ.1=some w->κ.1≠nk->∃w',lk S κ.1=some w':=fun κ w hw hne=>by
   rw [qR,if_neg (fun h=>hne h.symm),yY] at hw;split at hw
   ·cases hl:lk S κ.1 with
    |none=>rw [hl] at hw;cases hw
    |some w'=>exact⟨w',rfl⟩
   ·exact⟨w,hw⟩
  obtain⟨κ1,b1,c1⟩:=himg κ b N h1;obtain⟨κ2,b2,c2⟩:=himg κ' b N' h2;have l1:∃w,lk S κ1.1=some w:=by
   rcases c1 with⟨_,rfl⟩|⟨e1,_,rfl⟩
   ·exact⟨_,hb⟩
   ·exact live κ1 x hj (fun e=>by have:=hS.lt1 b1;omega)
  have l2:∃w,lk S κ2.1=some w:=by
   rcases c2 with⟨_,rfl⟩|⟨e1,_,rfl⟩
   ·exact⟨_,hb⟩
   ·exact live κ2 x' hj' (fun e=>by have:=hS.lt1 b2;omega)
  obtain⟨w1,l1⟩:=l1;obtain⟨w2,l2⟩:=l2;have:=hS.inj κ1 κ2 w1 w2 b N N' l1 l2 b1 b2;rcases c1 with⟨r1,r2⟩|⟨r1,r2,r3⟩
  ·rcases c2 with⟨s1,s2⟩|⟨s1,s2,s3⟩
   ·rw [r1,s1]
   ·exact absurd (by rw [<-s3,<-this,r2]) s2
  ·rcases c2 with⟨s1,s2⟩|⟨s1,s2,s3⟩
   ·exact absurd (by rw [<-r3,this,s2]) r2
   ·rw [<-r3,this,s3]
 ·obtain⟨κ',h',_⟩:=himg κ b N hκ;exact hS.blo κ' b N h'
 ·have:=hS.ancn;rw [hoth κ (fun e=>by rw [e] at hκ;simp only at hκ;omega) (fun e=>by rw [e] at h0;cases h0)];exact hS.anch κ hκ h0
end
end Go.Ab
