/- -/
import Derived.Test.YtbfbplnghpdmhaaGreatDoorAb19
set_option linter.unusedSimpArgs false
set_option maxHeartbeats 16000000
set_option linter.unusedVariables false
namespace Go.Ag
open Go.Ab Go.Proofs
def Zd(A:List Bool)(P:Nat->Nat->Prop):Prop:=A.length=3600/\∀y x,y<60->x<60->(A[y*60+x]?=some true↔P y x)
theorem Zd.congr{A:List Bool}{P Q:Nat->Nat->Prop}(h:Zd A P)(he:∀y x,y<60->x<60->(P y x↔Q y x)):Zd A Q:=⟨h.1,fun y x hy hx=>(h.2 y x hy hx).trans (he y x hy hx)⟩
theorem Zd.none:Zd (List.replicate 3600 false) fun _ _=>False:=⟨List.length_replicate,fun y x hy hx=>by
 rw [List.getElem?_replicate,if_pos (by omega)];simp⟩
theorem Zd.set{A:List Bool}{P:Nat->Nat->Prop}(h:Zd A P){y x:Nat}(hy:y<60)(hx:x<60):Zd (A.set (y*60+x) true) fun j i=>P j i\/(j=y/\i=x):=by
 refine⟨by rw [List.length_set];exact h.1,fun j i hj hi=>?_⟩;rw [List.getElem?_set];by_cases e:y*60+x=j*60+i
 ·have:j=y/\i=x:=by omega
  rw [if_pos e,if_pos (by rw [h.1];omega)];exact⟨fun _=>.inr this,fun _=>rfl⟩
 ·rw [if_neg e,h.2 j i hj hi];constructor
  ·exact .inl
  ·rintro (h|⟨rfl,rfl⟩)
   ·exact h
   ·exact absurd rfl e
theorem Zd.at{A:List Bool}{P:Nat->Nat->Prop}(h:Zd A P){y x:Nat}(hy:y<60)(hx:x<60):∃b,A[y*60+x]?=some b/\(b=true↔P y x):=by
 obtain⟨b,hb⟩:∃b,A[y*60+x]?=some b:=⟨_,zge (by rw [h.1];omega)⟩;refine⟨b,hb,?_⟩;rw [<-h.2 y x hy hx,hb];simp
def Kt(p:Pic)(q:qc)(j i:Nat):Prop:=(i:Int)<p.w/\(j:Int)<p.h/\xz q ((i:Int),(j:Int))<=p.gap
def kI(p:Pic)(l:List qc)(j i:Nat):Prop:=∃q∈l,Kt p q j i
theorem tE{p:Pic}{l:List qc}{q:qc}{j i:Nat}:kI p (l++[q]) j i↔kI p l j i\/Kt p q j i:=by
 unfold kI;constructor
 ·rintro ⟨r,hr,h⟩;rcases List.mem_append.1 hr with hr|hr
  ·exact .inl ⟨r,hr,h⟩
  ·rw [List.mem_singleton] at hr;subst hr;exact .inr h
 ·rintro (⟨r,hr,h⟩|h)
  ·exact⟨r,List.mem_append_left _ hr,h⟩
  ·exact⟨q,by simp,h⟩
theorem ZG{p:Pic}{q:qc}{j i:Nat}:Kt p q j i↔(i:Int)<p.w/\(j:Int)<p.h/\q.1-p.gap<=(i:Int)/\(i:Int)<=q.1+p.gap/\q.2-p.gap<=(j:Int)/\(j:Int)<=q.2+p.gap:=by
 unfold Kt xz;constructor
 ·rintro ⟨h1,h2,h3⟩;simp only at h3;refine⟨h1,h2,?_⟩;omega
 ·rintro ⟨h1,h2,h3⟩;refine⟨h1,h2,?_⟩;simp only;omega
def aS(p:Pic)(l:List qc)(q:qc)(y:Int)(j i:Nat):Prop:=kI p l j i\/(Kt p q j i/\(j:Int)<y)
def aT(p:Pic)(l:List qc)(q:qc)(y x:Int)(j i:Nat):Prop:=kI p l j i\/(Kt p q j i/\((j:Int)<y\/((j:Int)=y/\(i:Int)<x)))
theorem CB{p:Pic}{l:List qc}{q:qc}{j i:Nat}:kI p l j i↔aS p l q (max 0 (q.2-p.gap)) j i:=by
 unfold aS;rw [ZG];constructor
 ·exact .inl
 ·rintro (h|h)
  ·exact h
  ·omega
theorem OM{p:Pic}{l:List qc}{q:qc}{y:Int}{j i:Nat}(h:¬y<=min (p.h-1) (q.2+p.gap)):aS p l q y j i↔kI p (l++[q]) j i:=by
 unfold aS;rw [tE,ZG];constructor
 ·rintro (h|h)
  ·exact .inl h
  ·exact .inr h.1
 ·rintro (h|h)
  ·exact .inl h
  ·exact .inr ⟨h,oM⟩
theorem CC{p:Pic}{l:List qc}{q:qc}{y:Int}{j i:Nat}:aS p l q y j i↔aT p l q y (max 0 (q.1-p.gap)) j i:=by
 unfold aS aT;rw [ZG];constructor
 ·rintro (h|h)
  ·exact .inl h
  ·exact .inr ⟨h.1,.inl h.2⟩
 ·rintro (h|⟨h,h2⟩)
  ·exact .inl h
  ·exact .inr ⟨h,oM⟩
theorem ON{p:Pic}{l:List qc}{q:qc}{y x:Int}{j i:Nat}(h:¬x<=min (p.w-1) (q.1+p.gap)):aT p l q y x j i↔aS p l q (y+1) j i:=by
 unfold aS aT;rw [ZG];constructor
 ·rintro (h|⟨h,h2⟩)
  ·exact .inl h
  ·exact .inr ⟨h,oM⟩
 ·rintro (h|⟨h,h2⟩)
  ·exact .inl h
  ·exact .inr ⟨h,oM⟩
theorem FZ{p:Pic}{l:List qc}{q:qc}{y x:Nat}{j i:Nat}(h1:max 0 (q.2-p.gap)<=(y:Int))(h2:(y:Int)<=min (p.h-1) (q.2+p.gap))(h3:max 0 (q.1-p.gap)<=(x:Int))(h4:(x:Int)<=min (p.w-1) (q.1+p.gap)):(aT p l q y x j i\/(j=y/\i=x))↔aT p l q y ((x:Int)+1) j i:=by
 unfold aT;rw [ZG];constructor
 ·rintro ((h|⟨h,h2⟩)|⟨rfl,rfl⟩)
  ·exact .inl h
  ·exact .inr ⟨h,oM⟩
  ·exact .inr ⟨oM,oM⟩
 ·rintro (h|⟨h,h2⟩)
  ·exact .inl (.inl h)
  ·by_cases e:j=y/\i=x
   ·exact .inr e
   ·exact .inl (.inr ⟨h,oM⟩)
def zI(p:Pic)(d:DC)(A:List Bool):List DC:=yj p++d::A.map bC
def bF(b:Bool):FD:=.c (.bool b)
def Z9(p:Pic)(n:Nat)(rows:List FD)(A:List Bool):List FD:=[.c (.int .i64 p.w),.c (.int .i64 p.h),.c (.int .i64 p.gap),.sl 3 p.fs.length (p.fs.flatMap zu),.sl 1 n rows]++A.map bF
theorem N5(p:Pic)(n:Nat)(rows:List FD)(A:List Bool):zI p (.f (.sl 1 n rows)) A=(Z9 p n rows A).map .f:=by
 simp [zI,Z9,yj,bC,bF]
theorem A7(p:Pic)(d:DC)(A:List Bool)(n:Nat)(b:Bool):(zI p d A).set (5+n) (bC b)=zI p d (A.set n b):=by
 simp only [zI,yj,List.cons_append,List.nil_append];rw [show 5+n=n+1+1+1+1+1 by omega];simp only [List.set_cons_succ,List.map_set]
def Xz(p:Pic)(A:List Bool):DV:=.one (.fptr (Z9 p (qo p).length ((qo p).map fun l=>.sl 2 l.length (l.flatMap qh)) A))
def nY(p:Pic)(A:List Bool):Prop:=Zd A (kI p (qo p).flatten)
theorem cU{p:Pic}{i:Nat}{q:qc}(h0:0<=q.1/\0<=q.2)(h1:2*(q.1+2)<=p.w)(h2:3*(q.2+1)<=p.h):∀r∈qS i q,(0<=r.1/\r.1<p.w)/\0<=r.2/\r.2<p.h:=fun r hr=>by
 unfold qS wV at hr;obtain⟨k,hk,rfl⟩:=List.mem_map.1 hr;have:=List.mem_range.1 (List.mem_filter.1 hk).1;simp only [qN];omega
theorem Zh(i:Nat)(q:qc):qN q 1∈qS i q:=by
 unfold qS wV;exact List.mem_map.2 ⟨1,List.mem_filter.2 ⟨by simp,(show uZ 60 3=true by kernel_rfl)⟩,rfl⟩
theorem Xp(i:Nat)(q:qc):qS i q≠[]:=fun e=>by
 have:=Zh i q;rw [e] at this;cases this
end Go.Ag

namespace Go.Ab
def UM(k:Nat)(l:List FD):DC->DC
 |.ptr j o=>match Nat.beq j k with
  |true=>.fptr (l.drop o)
  |false=>.ptr j o
 |d=>d
def fpV(k:Nat)(l:List FD):DV->DV
 |.one d=>.one (UM k l d)
 |d=>d
section
variable{p:Par}{base rs n:Nat}{W:Wt}{A:List Nat}{E:qp}{S:Bx}{nk:Nat}
theorem nX{Z:Nat->Prop}{β:qw}{H:Hp}:∀{fs:List FD} {cs:List C},qg (RD Z H β) (fs.map .f) cs->qg (RF Z H) fs cs
 |[],[],_=>trivial
 |_::_,_::_,h=>⟨h.1,nX h.2⟩
 |[],_::_,h=>h.elim
 |_::_,[],h=>h.elim
theorem O0{Z:Nat->Prop}{β:qw}{H:Hp}{F:T V}(hS:SR p Z β H S nk)(hE:ER Z β H E F){k:Nat}{fs:List FD}(hk:lk S k=some (.cells (fs.map .f))):
 ∃Z',SR p Z' β H (zE k S) nk/\ER Z' β H (yB (fpV k fs) E) F/\xo Z H Z' H/\∀b,Z' b↔Z b\/∃N,β (k,0)=some (.blk b N):=by
 have hZ:xo Z H (fun b=>Z b\/∃N,β (k,0)=some (.blk b N)) H:=fun b hb=>⟨.inl hb,fun _ _ h=>h⟩;obtain⟨s0,hs0,hb0⟩:=hS.box (k,0) _ (xV hk rfl);have hC:∀d c,RD Z H β d c->RD (fun b=>Z b\/∃N,β (k,0)=some (.blk b N)) H β (UM k fs d) c:=fun d c hr=>by
  cases d with
  |ptr j o=>
   simp only [UM];by_cases hj:j=k
   ·subst hj;rw [jS];obtain⟨b,N,h1,rfl⟩:=hr;rw [hs0] at h1;obtain rfl:=zsi h1;obtain⟨_,_,_,cs,rest,hrow,_,hrel⟩:=hb0;have hrel:qg (RD Z H β) (fs.map .f) cs:=hrel;have hrow:xX H b (cs++rest):=hrow;have ha:=(nX hrel).mono fun _ _=>RF.mono hZ;have hlen:fs.length=cs.length:=ha.len;refine⟨b,o,cs.drop o,rfl,.inr ⟨N,hs0⟩,?_,ha.drop o⟩;by_cases ho:o<=cs.length
    ·have h1:=QW (m:=o) (yw hrow.2 (m:=cs.length) (by rw [List.length_append];omega)) (by omega);rw [List.length_drop,hlen];rw [Nat.zero_add,List.take_append_of_le_length (Nat.le_refl _),List.take_length] at h1;exact h1
    ·rw [List.drop_of_length_le (by omega),List.drop_of_length_le (by omega)];rfl
   ·rw [jv hj];exact hr
  |own j o n e=>exact RD.mono (d:=.own j o n e) hZ (xP.refl β) hr
  |trow j i o n=>exact RD.mono (d:=.trow j i o n) hZ (xP.refl β) hr
  |f d=>exact RD.mono (d:=.f d) hZ (xP.refl β) hr
  |g b o=>exact hr
  |tptr j i o=>exact hr
  |fptr q=>exact RD.mono (d:=.fptr q) hZ (xP.refl β) hr
  |fn f caps=>exact hr
  |any=>trivial
  |om j=>exact hr
  |yl j=>exact hr
  |fz f ls=>exact RD.mono (d:=.fz f ls) hZ (xP.refl β) hr
 refine⟨fun b=>Z b\/∃N,β (k,0)=some (.blk b N),⟨hS.wf,hS.lo,fun b hb=>hb.elim (hS.z b) fun⟨N,h⟩=>hS.bd _ b N h,fun b hb=>?_,fun b hb=>.inl (hS.zz b hb),fun b bk hb=>⟨.inl (hS.glob b bk hb).1,(hS.glob b bk hb).2⟩,hS.nk,hS.bd,fun j y hj=>?_,fun j j' y y' b N N' hj hj' h1 h2=>?_,hS.blo,hS.anch,hS.ancn⟩,fun n d hd=>?_,hZ,fun b=>Iff.rfl⟩
 ·rcases hb with hb|⟨N,hb⟩
  ·exact hS.zlo b hb
  ·exact .inr (hS.blo _ b N hb)
 ·rw [QB] at hj;split at hj
  ·cases hj
  ·rename_i hne;obtain⟨s,hs,hbx⟩:=hS.box j y hj;obtain⟨w,hw⟩:=yG hj;refine⟨s,hs,?_⟩;cases s with
   |nil=>exact hbx
   |blk b N=>
    obtain⟨h1,h2,h3,cs,rest,h4,h5,h6⟩:=hbx;exact⟨fun h=>h.elim h1 fun⟨M,hM⟩=>hne (by rw [hS.inj j (k,0) w _ b N M hw hk hs hM]),h2,h3,cs,rest,h4,h5,Bk.rel_mono hZ (xP.refl β) h6⟩
 ·have f:∀i z,lk (zE k S) i=some z->lk S i=some z:=fun i z hz=>by
   rw [yT] at hz;split at hz
   ·cases hz
   ·exact hz
  exact hS.inj j j' y y' b N N' (f _ _ hj) (f _ _ hj') h1 h2
 ·rw [wL] at hd;cases hl:lk E n with
  |none=>rw [hl] at hd;cases hd
  |some y=>
   rw [hl] at hd;obtain rfl:=zsi hd;obtain⟨v,hv,hr⟩:=hE n y hl;refine⟨v,hv,?_⟩;cases y with
   |one d=>obtain⟨c,rfl,hr⟩:=hr;exact⟨c,rfl,hC d c hr⟩
   |agg m=>exact xG.mono (d:=.agg m) hZ (xP.refl β) hr
   |tup m=>exact xG.mono (d:=.tup m) hZ (xP.refl β) hr
theorem kz{Q:Exit->qp->Bx->Nat->Prop}{s:SC}(k:Nat){fs:List FD}(hk:lk S k=some (.cells (fs.map .f)))(h:DPS p n s Q (yB (fpV k fs) E) (zE k S) nk):DPS p n s Q E S nk:=.mk fun Z β H F hS hE=>by
 obtain⟨Z',hS',hE',_,_⟩:=O0 hS hE hk;exact h.run Z' β H F hS' hE'
end
def AB(a:Nat)(β β':qw):Prop:=∀k s,k<a->β (k,0)=some s->β' (k,0)=some s
def NO(p:Par)(a:Nat)(f:FuncId)(ds:List DV)(S:Bx)(nk:Nat)(R:DV->Bx->Nat->Prop):Prop:=∀Z β H args,SR p Z β H S nk->qg (xG Z H β) ds args->
 qJ p.P p.G f args H fun v H'=>∃d S' nk' Z' β',SR p Z' β' H' S' nk'/\xG Z' H' β' d v/\xo Z H Z' H'/\AB a β β'/\R d S' nk'
abbrev Par.holdA(p:Par)(a:Nat)(Z:Nat->Prop)(β:qw)(H:Hp):Par:=⟨p.P,p.G,p.GH,Z,p.lo,a,β,H,none⟩
theorem SR.holdA{p:Par}{a:Nat}{Z:Nat->Prop}{β:qw}{H:Hp}{S:Bx}{nk:Nat}(h:SR p Z β H S nk)(ha:a<=nk):SR (p.holdA a Z β H) Z β H S nk:=
 ⟨h.wf,h.lo,h.z,fun _ hb=>.inl hb,fun _ hb=>hb,fun b bk hb=>hb.elim (fun hb=>h.glob b bk (.inl hb)) fun hb=>hb,h.nk,h.bd,h.box,h.inj,h.blo,fun _ _ _=>rfl,ha⟩
theorem SR.freeA{p:Par}{a:Nat}{Z Z':Nat->Prop}{β β':qw}{H H':Hp}{S S':Bx}{nk nk':Nat}(h:SR p Z β H S nk)(ha:p.anc<=a)(h':SR (p.holdA a Z β H) Z' β' H' S' nk'):SR p Z' β' H' S' nk'/\xo Z H Z' H'/\AB a β β':=by
 have hz:∀b,Z b->Z' b:=h'.zz;refine⟨⟨h'.wf,h'.lo,h'.z,fun b hb=>(h'.zlo b hb).elim (h.zlo b) .inr,fun b hb=>hz b (h.zz b hb),fun b bk hb=>h'.glob b bk (.inr (h.glob b bk hb)),h'.nk,h'.bd,h'.box,h'.inj,h'.blo,fun κ hκ h0=>?_,Nat.le_trans ha h'.ancn⟩,fun b hb=>⟨hz b hb,fun i c hc=>?_⟩,fun k s hk hκ=>?_⟩
 ·exact (h'.anch κ (Nat.lt_of_lt_of_le hκ ha) h0).trans (h.anch κ hκ h0)
 ·unfold Hp.cell at hc ⊢;cases hg:H.get b with
  |none=>rw [hg] at hc;cases hc
  |some bk=>rw [(h'.glob b bk (.inr ⟨hb,hg⟩)).2];rw [hg] at hc;exact hc
 ·exact (h'.anch (k,0) hk rfl).trans hκ
theorem qac {p:Par} {a:Nat} {f:FuncId} {sf:SFn} (hf:qG p.P p.G f=some sf) {ds:List DV} {S:Bx} {nk:Nat} {R:DV->Bx->Nat->Prop} (hn:Nat.ble ds.length sf.n=true) (ha:p.anc<=a) (hank:a<=nk)
 (h:∀Z β H,DPS (p.holdA a Z β H) sf.n sf.code (cI (p.holdA a Z β H) sf.res R) (Q6 ds 0) S nk):NO p a f ds S nk R:=by
 intro Z β H args hS hag;refine Jt hf (by rw [<-hag.len];exact Nat.le_of_ble_eq_true hn) ?_;refine yR ((h Z β H).run Z β H _ (hS.holdA hank) (ZX 0 hag)) fun e F' H' ⟨E',S',nk',Z',β',h1,h2,h3⟩=>?_;have fin:(∃d,j6 (p.holdA a Z β H) E' S' sf.res=some d/\Kq d=true/\∃S0,yC S0 S'/\R d S0 nk')->∃v,ye F' H' sf.res=some v/\∃d S' nk' Z' β',SR p Z' β' H' S' nk'/\xG Z' H' β' d v/\xo Z H Z' H'/\AB a β β'/\R d S' nk':=fun⟨d,hd,hfr,S0,hsub,hR⟩=>by
  obtain⟨v,hv,hr⟩:=Jf h1 h2 hd hfr;obtain⟨g1,g2,g3⟩:=hS.freeA ha (h1.keepS hsub);exact⟨v,hv,d,S0,nk',Z',β',g1,hr,g2,g3,hR⟩
 cases e with
 |normal=>obtain⟨v,hv,hr⟩:=fin h3;simp only [Xj,hv];exact hr
 |ret=>obtain⟨v,hv,hr⟩:=fin h3;simp only [Xj,hv];exact hr
 |_=>exact h3.elim
section
variable{p:Par}{base rs:Nat}{Q:qp->Bx->Nat->Prop}{r:List SOper}{W:Wt}{A:List Nat}{E:qp}{S:Bx}{nk:Nat}{id:Nat}{dst:Option Nat}{aid:Option Nat}{ws:List Nat}{keep:Bool}
theorem nQ{a:Nat}{β β':qw}(h:AB a β β'):vV (wE [] a β) β':=fun k s hk=>by
 by_cases hka:k<a
 ·simp only [wE,if_pos hka] at hk;exact h k s hka hk
 ·simp only [wE,if_neg hka] at hk;cases hk
theorem SR.none{Z:Nat->Prop}{β:qw}{H:Hp}(h:SR p Z β H S nk):SR p Z β H [] nk:=h.keepS (qu _)
theorem DN{f:FuncId}{args:List Opd}{ds:List DV}{R:DV->Bx->Nat->Prop}{E0:qp}{S0:Bx}{n0 a:Nat}(ρ:List (Nat × Nat))(hw:Wk p ρ n0 E0 S0 E S)(hvs:Zc E0 args=some ds)(hW:noW W=true)(hT:YO E0=true)(hsm:Wk p [] a E0 [] E0 [])(hc:NO p a f ds S0 n0 R)(h:∀d S' nk',R d S' nk'->DPW p base 0 Q r W A (xn E0 dst d) S' nk'):DPW p base rs Q (⟨id,dst,.cf f args,none,aid,ws,keep⟩::r) W A E S nk:=.mk fun Z β H F c hS hE hC hA=>by
 obtain⟨hS0,hE0⟩:=YD hS hE hw;obtain⟨_,hEa⟩:=YD hS0.none hE0 hsm;simp only [qE,qv,if_true];refine (hc Z _ H _ hS0 (kS hE0 hvs)).mono ?_;rintro v H' ⟨d,S',nk',Z',β',hS',hr,hZ,hB,hR⟩;have hC':CR W Z' β' H' c:=hC.noW (Xn hW) hZ;exact⟨hC'.watch ws,(h d S' nk' hR).run Z' β' H' _ c hS' ((hEa.mono0 hZ (nQ hB) hT).set dst hr) hC' ⟨hA.1,fun j hj=>absurd hj oM⟩⟩
theorem rG{x:Opd}{f:FuncId}{caps:List (Nat × Nat)}{args:List Opd}{ds:List DV}{R:DV->Bx->Nat->Prop}{E0:qp}{S0:Bx}{n0 a:Nat}(ρ:List (Nat × Nat))(hw:Wk p ρ n0 E0 S0 E S)(hx:ro E0 x=some (.one (.fn f caps)))(hf:qB p.P f=true)(hvs:Zc E0 args=some ds)(hW:noW W=true)(hT:YO E0=true)(hsm:Wk p [] a E0 [] E0 [])(hc:NO p a f (ds++KN caps) S0 n0 R)(h:∀d S' nk',R d S' nk'->DPW p base 0 Q r W A (xn E0 dst d) S' nk'):DPW p base rs Q (⟨id,dst,.cv x args,none,aid,ws,keep⟩::r) W A E S nk:=.mk fun Z β H F c hS hE hC hA=>by
 obtain⟨hS0,hE0⟩:=YD hS hE hw;obtain⟨_,hEa⟩:=YD hS0.none hE0 hsm;obtain⟨cx,hcx,caps',rfl,hcaps⟩:=xg hE0 hx;simp only [qE,qv,if_true,hcx];refine⟨hf,?_⟩;refine (hc Z _ H _ hS0 ((kS hE0 hvs).append (JC hcaps))).mono ?_;rintro v H' ⟨d,S',nk',Z',β',hS',hr,hZ,hB,hR⟩;have hC':CR W Z' β' H' c:=hC.noW (Xn hW) hZ;exact⟨hC'.watch ws,(h d S' nk' hR).run Z' β' H' _ c hS' ((hEa.mono0 hZ (nQ hB) hT).set dst hr) hC' ⟨hA.1,fun j hj=>absurd hj oM⟩⟩
theorem uD{E0:qp}{S0:Bx}{n0:Nat}(ρ:List (Nat × Nat))(hw:Wk p ρ n0 E0 S0 E S)(hW:noW W=true)(h:DPW p base 0 Q r W A E0 S0 n0):DPW p base rs Q r W A E S nk:=.mk fun Z β H F c hS hE hC hA=>by
 obtain⟨hS0,hE0⟩:=YD hS hE hw;exact h.run Z _ H F c hS0 hE0 (hC.noW (Xn hW) (xo.refl Z H)) ⟨hA.1,fun j hj=>absurd hj oM⟩
end
section
variable{p:Par}{n:Nat}{Q:Exit->qp->Bx->Nat->Prop}{E:qp}{S:Bx}{nk:Nat}
theorem mS{s:SC}(kb i esz:Nat){l:List DC}(hk:lk S kb=some (.cells l))(hi:l[i]?=some (.f (.c .nils)))(h:DPS p n s Q E ((nk,.data [])::put kb (.cells (l.set i (.own nk 0 0 esz))) S) (nk+1)):DPS p n s Q E S nk:=.mk fun Z β H F hS hE=>by
 have hT:=Zo hS;have hB:=hS.ble .nil;have hkn:=hS.lt hk;have hkT:lk ((nk,.data [])::S) kb=some (.cells l):=by rw [qT,if_neg (by omega)];exact hk
 refine h.run Z _ H F ?_ (hE.mono (xo.refl Z H) hB);have hput:∀j,lk ((nk,.data [])::put kb (.cells (l.set i (.own nk 0 0 esz))) S) j=lk (put kb (.cells (l.set i (.own nk 0 0 esz))) ((nk,.data [])::S)) j:=fun j=>by
  simp only [put,jv (show nk≠kb by omega)]
 refine⟨hT.wf,hT.lo,hT.z,hT.zlo,hT.zz,hT.glob,hT.nk,hT.bd,fun κ y hκ=>?_,fun κ κ' y y' b N N' hj hj'=>?_,hT.blo,hT.anch,hT.ancn⟩
 ·rw [ya (hput κ.1),Zt hkT rfl] at hκ;split at hκ
  ·rename_i e;split at hκ
   ·rename_i e2;obtain rfl:=v8 e e2;obtain rfl:=zsi hκ;obtain⟨s,hs,hbx⟩:=hT.box (kb,0) _ (xV hkT rfl);refine⟨s,hs,?_⟩;cases s with
    |nil=>
     have:l=[]:=List.eq_nil_of_length_eq_zero hbx;subst this;cases hi
    |blk b N=>
     obtain⟨g1,g2,g3,cs,rest,g4,g5,g6⟩:=hbx;refine⟨g1,g2,g3,cs,rest,g4,g5,?_⟩;obtain⟨c,hc,hr⟩:=qg.at g6 i _ hi;cases hr;have hset:cs.set i .nils=cs:=by
      refine List.ext_getElem? fun j=>?_;rw [List.getElem?_set];split
      ·rename_i ej;subst ej;rw [hc];first|rfl|rw [if_pos (zgs hc).1]
      ·rfl
     show qg _ _ _
     rw [<-hset];exact qg.set g6 i (.inl ⟨xy _ _ _,rfl,rfl,rfl⟩)
   ·cases hκ
  ·exact hT.box κ y hκ
 ·rw [hput] at hj hj';rw [yF] at hj hj';have f:∀a z,(if a=kb then Option.map (fun _=>Bk.cells (l.set i (.own nk 0 0 esz))) (lk ((nk,.data [])::S) a) else lk ((nk,.data [])::S) a)=some z->∃z',lk ((nk,.data [])::S) a=some z':=fun a z hz=>by
   split at hz
   ·cases hl:lk ((nk,.data [])::S) a with
    |none=>rw [hl] at hz;cases hz
    |some q=>exact⟨q,rfl⟩
   ·exact⟨z,hz⟩
  obtain⟨z1,e1⟩:=f κ.1 y hj;obtain⟨z2,e2⟩:=f κ'.1 y' hj';exact hT.inj κ κ' z1 z2 b N N' e1 e2
def TU(Q:Exit->qp->Bx->Nat->Prop):Exit->qp->Bx->Nat->Prop
 |.goto _,_,_,_=>False
 |e,E,S,nk=>Q e E S nk
theorem mT{a:SC}(h:DPS p n a (TU Q) E S nk):DPS p n (.scope a) Q E S nk:=.mk fun Z β H F hS hE=>dT (yR (h.run Z β H F hS hE) fun e F' H' ⟨E',S',nk',Z',β',h1,h2,h3⟩=>by
 cases e with
 |goto _=>exact h3.elim
 |_=>exact⟨E',S',nk',Z',β',h1,h2,h3⟩)
end
end Go.Ab

namespace Go.Ag
open Go.Ab Go.Proofs
def y7(p:Pic):List FD:=[.c (.int .i64 p.w),.c (.int .i64 p.h),.c (.int .i64 p.gap),.sl 3 p.fs.length (p.fs.flatMap zu)]
def yL(l:List qc):FD:=.sl 2 l.length (l.flatMap qh)
theorem kT(ρ:List (Nat × Nat))(p:Pic)(d:DC)(A:List Bool):XO ρ (.cells (zI p d A))=.cells (zI p (Wj ρ d) A):=by
 have e:List.map (Wj ρ) (A.map bC)=A.map bC:=by
  rw [List.map_map];congr 1
 simp only [XO,zI,yj,Kl,List.cons_append,List.nil_append,List.map_cons,e];rfl
theorem kN{n:Nat}{p:Pic}{d:DC}{A:List Bool}(h:vL n d=true):Wa n (.cells (zI p d A))=true:=by
 have e:∀x,vL n (.f x)=true:=fun _=>rfl;simp only [Wa,zI,yj,List.cons_append,List.nil_append,qW,e,h,VT]
theorem GE{k n e:Nat}{l:List FD}{p:Pic}{A:List Bool}:vO k l (.cells (zI p (.own k 0 n e) A))=.cells (zI p (.f (.sl e n l)) A):=by
 have e1:List.map (ZN k l) (A.map bC)=A.map bC:=by
  rw [List.map_map];congr 1
 simp only [vO,zI,yj,List.cons_append,List.nil_append,List.map_cons,e1,ZN,jS]
theorem pO{k:Nat}{ok:Nat->Nat->Nat->Prop}:∀A:List Bool,eB k ok (A.map bC)
 |[]=>trivial
 |_::A=>⟨trivial,pO A⟩
theorem FT{k n:Nat}{l:List FD}{p:Pic}{A:List Bool}(h:l.length=n*1):aQ k (eA l) (.cells (zI p (.own k 0 n 1) A)):=by
 refine⟨trivial,trivial,trivial,trivial,?_,pO A⟩;simp only [pP,jS];exact⟨rfl,h⟩
theorem AZ(p:Pic)(d d':DC)(A:List Bool):Zb (.cells (zI p d A)) 4 [d']=.cells (zI p d' A):=rfl
theorem AY(p:Pic)(d:DC)(A:List Bool)(n:Nat)(b:Bool):Zb (.cells (zI p d A)) (5+n) [bC b]=.cells (zI p d (A.set n b)):=by
 rw [Zb,setLs,setLs,A7]
theorem lG(p:Pic)(d:DC)(A:List Bool):(Bk.cells (zI p d A)).len=A.length+5:=by
 simp [Bk.len,zI,yj]
theorem P6 {par:Par} {base rs:Nat} {Q:qp->Bx->Nat->Prop} {r:List SOper} {A:List Nat} {E:qp} {S:Bx} {nk i1 i2 n:Nat} {p:Pic} {z:List C} (hz:Zi n z=true) (hl:lk E 11=some (yi p))
 (h:DPW par base rs Q r [] A ((13,.one (.ptr nk 0))::(12,.agg (zI p (.f (.c .nils)) (List.replicate n false)))::E) ((nk,.cells (zI p (.f (.c .nils)) (List.replicate n false)))::S) (nk+1)):
 DPW par base rs Q (⟨i1,some 12,.p (.build (.int .i64 0::.int .i64 0::.int .i64 0::.nils::.nils::z) [(0,4,.t 11)]),none,none,[],false⟩::⟨i2,some 13,.a (.box (.t 12)),none,none,[],false⟩::r) [] A E S nk:=by
 obtain rfl:=Jq hz;have e1:(List.replicate n (C.bool false)).map QM=(List.replicate n false).map bC:=by
  simp only [List.map_replicate];rfl
 refine zJ (d:=.agg (zI p (.f (.c .nils)) (List.replicate n false))) ?_ (Xs (x:=.cells (zI p (.f (.c .nils)) (List.replicate n false))) rfl h);have hro:ro E (.t 11)=some (yi p):=hl;have hc:W7 (yi p)=some (yj p):=rfl;have hle:∀l:List DC,Nat.ble (0+4) (l.length+1+1+1+1+1)=true:=fun l=>by simp
 simp only [ji,KE,List.map_cons,hro,hc,List.length_cons,hle,e1];rfl
theorem m6{p:Pic}(hv:qx p=true):DK 68 [yi p] fun d=>∃A,nY p A/\d=Xz p A:=by
 refine qD qa9 rfl qX fun Z0 lo=>?_;have hh:=(qL hv).2.2.1;simp only [yb,xr,xQ] at hh;obtain⟨⟨⟨hw1,hw2⟩,_⟩,⟨hh1,hh2⟩,_⟩:=hh;have hgap:2<=p.gap/\p.gap<=6:=by
  have:=(qL hv).2.2.2;simp only [jV,xr,xQ] at this;exact this.1
 have hl8:=(qL hv).1;have hpl:(qo p).length=p.fs.length:=by simp [qo]
 refine js ?_;refine jt wi (fun base=>?_);refine Xs rfl ?_;refine zJ rfl ?_;refine yI ?_;refine kz 0 (fs:=y7 p) rfl ?_;refine js ?_;refine jt wi (fun base=>?_);refine jK (d:=yi p) rfl ?_;refine P6 (n:=3600) (by kernel_rfl) rfl ?_;refine zJ rfl ?_;refine yI ?_;refine qr (qd (k:=1) rfl (qd (k:=3) rfl (qu _))) (qd (k:=1) rfl (qu _)) ?_;refine qb ?_;intros;refine mS 1 4 1 (l:=zI p (.f (.c .nils)) (List.replicate 3600 false)) rfl rfl ?_;refine ql (fun m E S nk=>∃(i:Nat) (A:List Bool),i+m=p.fs.length/\Zd A (kI p ((qo p).take i).flatten)/\E=[(1,.one (.fptr (y7 p))),(3,.one (.ptr 1 0)),(15,.one (.f (.sl 3 p.fs.length (p.fs.flatMap zu)))),(16,.int p.fs.length),(17,.int i)]/\S=[(1,.cells (zI p (.own 2 0 i 1) A)),(2,.data (((qo p).take i).map yL))]/\nk=3)
  ⟨p.fs.length,_,_,_,[],?wk,0,List.replicate 3600 false,by omega,Zd.none.congr fun _ _ _ _=>by simp [kI],rfl,rfl,rfl⟩ ?_
 case wk=>exact⟨za,⟨by rw [kT];rfl,kN rfl,rfl,rfl,rfl,rfl,trivial⟩,rfl,rfl⟩
 rintro m E S nk ⟨i,A,hi,hA,rfl,rfl,rfl⟩;refine qb ?_;intros;refine qe rfl (fun hi2=>?_) (fun hi2=>?_)
 ·have hi2:i<p.fs.length:=by have:=xC hi2;omega
  obtain⟨f,hf⟩:∃f,p.fs[i]?=some f:=⟨_,zge hi2⟩;have e1:=ZO hf;have hvf:=zL hv f (zmg hf);have hcp:=Jx hvf;have hpi:(qo p)[i]?=some (xe f):=by simp [qo,hf]
  have hin:=ZE hvf;have hln:=XC hvf;generalize xe f=l at hcp hpi hin hln;have htk:(qo p).take (i+1)=(qo p).take i++[l]:=by rw [List.take_add_one,hpi];rfl
  have htm:((qo p).take (i+1)).map yL=((qo p).take i).map yL++[yL l]:=by rw [htk,List.map_append];rfl
  have htf:((qo p).take (i+1)).flatten=((qo p).take i).flatten++l:=by rw [htk];simp
  have hrl:(((qo p).take i).map yL).length=i*1:=by rw [List.length_map,List.length_take];omega
  clear htk;generalize ((qo p).take i).map yL=rows at htm hrl;generalize ((qo p).take i).flatten=D at htf hA;refine qb ?_;intros;refine qk rfl rfl hcp ?_;rintro _ rfl;refine qb ?_;intros;refine qV (m:=1) (q:=[yL l]) rfl rfl rfl (qH _ hrl) ⟨rfl,rfl,_,rfl,rfl⟩ oM oM (by decide) rfl ?_;refine zJ rfl ?_;refine zJ rfl ?_;refine Qg (k:=1) (o:=4) rfl rfl rfl rfl rfl (by rw [lG];omega) rfl ?_;rw [AZ];refine qb ?_;intros;have hrl2:(rows++[yL l]).length=(i+1)*1:=by rw [List.length_append,List.length_singleton];omega
  refine ql (fun m E S nk=>∃(j:Nat) (A:List Bool),j+m=l.length/\Zd A (kI p (D++l.take j))/\E=[(1,.one (.fptr (y7 p))),(3,.one (.ptr 1 0)),(15,.one (.f (.sl 3 p.fs.length (p.fs.flatMap zu)))),(16,.int p.fs.length),(17,.int i),(33,qz l),(34,.int l.length),(35,.int j)]/\S=[(1,.cells (zI p (.own 2 0 (i+1) 1) A)),(2,.data (rows++[yL l]))]/\nk=3)
   ⟨l.length,_,_,_,[(2,5)],?wk2,0,A,by omega,by rw [List.take_zero,List.append_nil];exact hA,rfl,rfl,rfl⟩ ?_
  case wk2=>exact⟨za,⟨by rw [kT];rfl,kN rfl,rfl,rfl,rfl,rfl,trivial⟩,rfl,rfl⟩
  clear hA A;rintro m2 E S nk ⟨j,A,hj,hA,rfl,rfl,rfl⟩;refine qb ?_;intros;refine qe rfl (fun hj2=>?_) (fun hj2=>?_)
  ·have hj2:j<l.length:=by have:=xC hj2;omega
   obtain⟨q,hq⟩:∃q,l[j]?=some q:=⟨_,zge hj2⟩;have e2:=xd hq;have hq6:=hin q (zmg hq);rw [zx] at hq6;have hqs:D++l.take (j+1)=(D++l.take j)++[q]:=by rw [List.take_add_one,hq,List.append_assoc];rfl
   generalize D++l.take j=L at hA hqs;have w1:IntKind.i64.wrap (q.2-p.gap)=q.2-p.gap:=qq oM oM;have w2:IntKind.i64.wrap (q.2+p.gap)=q.2+p.gap:=qq oM oM;have w3:IntKind.i64.wrap (q.1-p.gap)=q.1-p.gap:=qq oM oM;have w4:IntKind.i64.wrap (q.1+p.gap)=q.1+p.gap:=qq oM oM;have w5:IntKind.i64.wrap (p.h-1)=p.h-1:=qq oM oM;have w6:IntKind.i64.wrap (p.w-1)=p.w-1:=qq oM oM;obtain⟨y0,hy0⟩:∃y0:Nat,max 0 (q.2-p.gap)=(y0:Int):=⟨(max 0 (q.2-p.gap)).toNat,oM⟩;obtain⟨x0,hx0⟩:∃x0:Nat,max 0 (q.1-p.gap)=(x0:Int):=⟨(max 0 (q.1-p.gap)).toNat,oM⟩;refine qb ?_;intros;rw [w1,hy0];refine kz 3 (fs:=qh q) rfl ?_;refine ql (fun m E S nk=>∃(y:Nat) (A:List Bool),y+m=60/\y0<=y/\Zd A (aS p L q y)/\E=[(1,.one (.fptr (y7 p))),(3,.one (.ptr 1 0)),(15,.one (.f (.sl 3 p.fs.length (p.fs.flatMap zu)))),(16,.int p.fs.length),(17,.int i),(33,qz l),(34,.int l.length),(35,.int j),(8,.one (.fptr (qh q))),(9,.int y)]/\S=[(1,.cells (zI p (.own 2 0 (i+1) 1) A)),(2,.data (rows++[yL l]))]/\nk=3)
    ⟨60-y0,_,_,_,[],?wk3,y0,A,by omega,Nat.le_refl _,by rw [<-hy0];exact hA.congr fun _ _ _ _=>CB,rfl,rfl,rfl⟩ ?_
   case wk3=>exact⟨za,⟨by rw [kT];rfl,kN rfl,rfl,rfl,rfl,rfl,trivial⟩,rfl,rfl⟩
   clear hA A;rintro m3 E S nk ⟨y,A,hym,hy1,hA,rfl,rfl,rfl⟩;refine qb ?_;intros;refine qe rfl (fun hy2=>?_) (fun hy2=>?_)
   ·have hy2:=xC hy2;rw [w5,w2] at hy2;have hyw:IntKind.i64.wrap ((y:Int)+1)=((y+1:Nat):Int):=by rw [qq (by omega) (by omega)];omega
    refine qb ?_;intros;rw [w3,hx0];refine ql (fun m E S nk=>∃(x:Nat) (A:List Bool),x+m=60/\x0<=x/\Zd A (aT p L q y x)/\E=[(1,.one (.fptr (y7 p))),(3,.one (.ptr 1 0)),(15,.one (.f (.sl 3 p.fs.length (p.fs.flatMap zu)))),(16,.int p.fs.length),(17,.int i),(33,qz l),(34,.int l.length),(35,.int j),(8,.one (.fptr (qh q))),(9,.int y),(10,.int x)]/\S=[(1,.cells (zI p (.own 2 0 (i+1) 1) A)),(2,.data (rows++[yL l]))]/\nk=3)
     ⟨60-x0,_,_,_,[],?wk4,x0,A,by omega,Nat.le_refl _,by rw [<-hx0];exact hA.congr fun _ _ _ _=>CC,rfl,rfl,rfl⟩ ?_
    case wk4=>exact⟨za,⟨by rw [kT];rfl,kN rfl,rfl,rfl,rfl,rfl,trivial⟩,rfl,rfl⟩
    clear hA A;rintro m4 E S nk ⟨x,A,hxm,hx1,hA,rfl,rfl,rfl⟩;refine qb ?_;intros;refine qe rfl (fun hx2=>?_) (fun hx2=>?_)
    ·have hx2:=xC hx2;rw [w6,w4] at hx2;refine qb ?_;intros;refine zJ (Zw rfl rfl oM oM) ?_;refine zJ (Zw rfl rfl oM oM) ?_;rw [show 0+5+(y:Int).toNat*60+(x:Int).toNat*1=5+(y*60+x) by omega];refine Qg (k:=1) (o:=5+(y*60+x)) (l:=[bC true]) rfl rfl rfl rfl rfl (by rw [lG,hA.1];omega) rfl ?_;rw [AY];have hset:=(hA.set (y:=y) (x:=x) oM oM).congr (Q:=aT p L q y ((x+1:Nat):Int)) fun j i _ _=>by
      rw [FZ (by omega) (by omega) (by omega) (by omega)];rfl
     refine qb ?_;intros;refine⟨m4-1,oM,_,_,_,[],?wk5,x+1,_,oM,oM,hset,rfl,rfl,rfl⟩
     case wk5=>exact⟨za,⟨by rw [kT];rfl,kN rfl,rfl,rfl,rfl,rfl,trivial⟩,rfl,rfl⟩
    ·have hx2:=xK hx2;rw [w6,w4] at hx2;refine qb ?_;intros;refine⟨m3-1,oM,_,_,_,[],?wk6,y+1,A,oM,oM,hA.congr fun _ _ _ _=>(ON hx2).trans (by rfl),rfl,rfl,rfl⟩
     case wk6=>exact⟨za,⟨by rw [kT];rfl,kN rfl,rfl,rfl,rfl,rfl,trivial⟩,rfl,rfl⟩
   ·have hy2:=xK hy2;rw [w5,w2] at hy2;refine qb ?_;intros;refine⟨m2-1,by omega,_,_,_,[],?wk7,j+1,A,by omega,by rw [hqs];exact hA.congr fun _ _ _ _=>OM hy2,rfl,rfl,rfl⟩
    case wk7=>exact⟨za,⟨by rw [kT];rfl,kN rfl,rfl,rfl,rfl,rfl,trivial⟩,rfl,rfl⟩
  ·have hj2:j=l.length:=by have:=xK hj2;omega
   subst hj2;rw [List.take_length,<-htf] at hA;refine qb ?_;intros;refine⟨m-1,by omega,_,_,_,[],?wk8,i+1,A,by omega,hA,rfl,by rw [htm],rfl⟩
   case wk8=>exact⟨za,⟨by rw [kT];rfl,kN rfl,rfl,rfl,rfl,rfl,trivial⟩,rfl,rfl⟩
 ·have hi2:i=p.fs.length:=by have:=xK hi2;omega
  subst hi2;have htl:(qo p).take p.fs.length=qo p:=by rw [<-hpl,List.take_length]
  rw [htl] at hA ⊢;have hml:((qo p).map yL).length=p.fs.length*1:=by rw [List.length_map];omega
  refine xt 2 (m:=(qo p).map yL) rfl ⟨trivial,trivial,trivial,trivial,trivial,trivial,trivial⟩ ⟨FT hml,trivial,trivial⟩ ?_;rw [show yB (vO 2 ((qo p).map yL)) (zE 2 [(1,Bk.cells (zI p (.own 2 0 p.fs.length 1) A)),(2,Bk.data ((qo p).map yL))])=[(1,Bk.cells (zI p (.f (.sl 1 p.fs.length ((qo p).map yL))) A))] by
   show [(1,vO 2 ((qo p).map yL) (.cells (zI p (.own 2 0 p.fs.length 1) A)))]=_
   rw [GE]]
  refine kz 1 (fs:=Z9 p p.fs.length ((qo p).map yL) A) (congrArg (fun l=>some (Bk.cells l)) (N5 ..)) ?_;refine qb ?_;intros;refine qf ⟨_,rfl,rfl,A,hA,?_⟩;rw [Xz,hpl];rfl
theorem rS{p:Pic}{A:List Bool}{i k:Nat}{a b:qc}(hi:i<8)(hk:k<8)(ha:qC 1000000 a)(hb:qC 1000000 b):DK 71 [Xz p A,.int i,zd a,.int k,zd b] fun d=>d=.bool (ju p.gap i a k b):=by
 refine qD qa7 rfl qX fun Z0 lo=>?_;have n1:=zw i a;have n2:=zw k b;refine qb ?_;intros;refine qk rfl rfl (XZ hi ha) ?_;rintro _ rfl;refine qk rfl rfl (XZ hk hb) ?_;rintro _ rfl;refine qk rfl rfl (Jz (wm ha) (wm hb) oM oM) ?_;rintro _ rfl;refine qb ?_;intros;exact qf ⟨_,rfl,rfl,rfl⟩
theorem nC{E:qp}{x i:Opd}{len esz:Nat}{kd:IntKind}{j:Int}{l:List FD}(hx:ro E x=some (.one (.fptr l)))(hi:ro E i=some (.one (.f (.c (.int kd j)))))(h0:0<=j)(h1:j<len):ji E (.aaddr len esz x i)=some (.one (.fptr (l.drop (j.toNat*esz)))):=by
 have e:xO j len=some j.toNat:=by
  obtain⟨n,rfl⟩:=Int.eq_ofNat_of_zero_le h0;have:n<len:=by omega
  show (match Nat.blt n len with|true=>some n|false=>none)=_
  rw [show Nat.blt n len=true by simpa using this];rfl
 simp only [ji,hx,hi,e]
theorem HI{p:Par}{E:qp}{S:Bx}{a:Opd}{l:List FD}{x:FD}(ha:ro E a=some (.one (.fptr l)))(hl:l[0]?=some x):wn p E S false 1 a=some (.one (.f x)):=by
 cases l with
 |nil=>simp at hl
 |cons y l=>
  simp at hl;subst hl;have e:xN (y::l) 0 1=some [y]:=by
   rw [yE (by simp)];simp
  simp only [wn,ha,YH,e];rfl
theorem N4(p:Pic)(n:Nat)(rows:List FD){A:List Bool}{y x:Nat}{b:Bool}(h:A[y*60+x]?=some b):((((Z9 p n rows A).drop 5).drop (y*60)).drop (x*1))[0]?=some (.c (.bool b)):=by
 have e:(Z9 p n rows A).drop 5=A.map bF:=rfl;rw [e,List.drop_drop,List.getElem?_drop,List.getElem?_map,show y*60+x*1+0=y*60+x by omega,h];rfl
theorem Vs{all:List (List qc)}{i:Nat}{l:List qc}(h:all[i]?=some l):xN (all.map yL) (i*1) 1=some [yL l]:=by
 have:=Qt (f:=fun l:List qc=>[yL l]) (e:=1) (fun _=>rfl) h;rw [<-List.map_eq_flatMap] at this;exact this
theorem FX{p:Pic}(hv:qx p=true){i:Nat}{q r:qc}(hr:r∈qS i q)(hx:0<=r.1)(hy:0<=r.2)(hn:kI p (qo p).flatten r.2.toNat r.1.toNat):(qo p).all (ZQ p.gap (qS i q))=false:=by
 obtain⟨s,hs,_,_,hf⟩:=hn;obtain⟨l,hl,hsl⟩:=List.mem_flatten.1 hs;rw [show ((r.1.toNat:Nat):Int)=r.1 by omega,show ((r.2.toNat:Nat):Int)=r.2 by omega] at hf;have hd:xZ (qS i q) l<=p.gap:=(Xu (Xp i q) (w9 hv l hl)).2 ⟨r,hr,s,hsl,by
  unfold xz at hf ⊢;simp only at hf;omega⟩
 rw [List.all_eq_false];exact⟨l,hl,by rw [ZQ,decide_eq_true hd];decide⟩
theorem i4{p:Pic}(hv:qx p=true){i:Nat}{q:qc}(hin:∀r∈qS i q,(0<=r.1/\r.1<p.w)/\0<=r.2/\r.2<p.h)(hn:∀r∈qS i q,¬kI p (qo p).flatten r.2.toNat r.1.toNat):(qo p).all (ZQ p.gap (qS i q))=true:=by
 rw [List.all_eq_true];intro l hl;by_cases hd:xZ (qS i q) l<=p.gap
 ·obtain⟨r,hr,s,hs,hf⟩:=(Xu (Xp i q) (w9 hv l hl)).1 hd;have h1:=hin r hr;refine absurd ⟨s,List.mem_flatten.2 ⟨l,hl,hs⟩,?_,?_,?_⟩ (hn r hr)
  ·omega
  ·omega
  ·rw [show ((r.1.toNat:Nat):Int)=r.1 by omega,show ((r.2.toNat:Nat):Int)=r.2 by omega];unfold xz at hf ⊢;simp only;omega
 ·rw [ZQ,decide_eq_false hd];rfl
theorem D4{p:Pic}{A:List Bool}{i:Nat}{q:qc}(hv:qx p=true)(hF:X3 p)(hA:nY p A)(hi:i<p.fs.length)(hq:qC 1000000 q):DK 73 [Xz p A,.int i,zd q] fun d=>d=.bool (zU p i q):=by
 refine qD qa5 rfl qX fun Z0 lo=>?_;have hh:=(qL hv).2.2.1;simp only [yb,xr,xQ] at hh;obtain⟨⟨⟨hw1,hw2⟩,hw3⟩,⟨hh1,hh2⟩,hh3⟩:=hh;rw [Int.tmod_eq_emod_of_nonneg (by omega)] at hw3 hh3;have hgap:2<=p.gap/\p.gap<=6:=by
  have:=(qL hv).2.2.2;simp only [jV,xr,xQ] at this;exact this.1
 have hl8:=(qL hv).1;have hpl:(qo p).length=p.fs.length:=by simp [qo]
 have hds:=wm (i:=i) hq;have hdl:=zw i q;have w1:IntKind.i64.wrap (p.w.tdiv 2)=p.w/2:=by rw [Int.tdiv_eq_ediv_of_nonneg (by omega),qq (by omega) (by omega)]
 have w2:IntKind.i64.wrap (p.h.tdiv 3)=p.h/3:=by rw [Int.tdiv_eq_ediv_of_nonneg (by omega),qq (by omega) (by omega)]
 have w3:IntKind.i64.wrap (p.w/2-2)=p.w/2-2:=qq oM oM;have w4:IntKind.i64.wrap (p.h/3-1)=p.h/3-1:=qq oM oM;have w5:IntKind.i64.wrap (3*p.gap)=3*p.gap:=qq oM oM;refine qb ?_;intros;refine qe rfl (fun ht=>?_) (fun ht=>?_)
 ·rw [xJ,xJ,xJ,w1,w2,w3,w4] at ht;simp only [Bool.or_eq_true,xQ] at ht;refine qb ?_;intros;refine qf ⟨_,rfl,rfl,?_⟩;have:kg p q=false:=by
   rw [Bool.eq_false_iff];intro h2;simp only [kg,xr,xQ] at h2;omega
  rw [zU,this,Bool.false_and]
 ·rw [xJ,xJ,xJ,w1,w2,w3,w4] at ht;simp only [Bool.or_eq_false_iff,decide_eq_false_iff_not] at ht;have hfh:kg p q=true:=by simp only [kg,xr,xQ];omega
  have hin:=cU (p:=p) (i:=i) (q:=q) oM oM oM;obtain⟨l,hl⟩:∃l,(qo p)[i]?=some l:=⟨_,zge oM⟩;have hlf:l.length<=256:=by
   obtain⟨f,hf,rfl⟩:=List.mem_map.1 (zmg hl);exact hF f hf (zL hv f hf)
  have hls:=kM (vY hv l (zmg hl)).1;have hfit:zU p i q=((qo p).all (ZQ p.gap (qS i q))&&decide (xZ (qS i q) l<=3*p.gap)):=by
   rw [zU,hfh,Bool.true_and,hl];rfl
  rw [hfit];have e3:=Vs hl;refine qb ?_;intros;refine qk rfl rfl (XZ (i:=i) oM hq) ?_;rintro _ rfl;refine qb ?_;intros;refine ql (fun m E S nk=>∃j:Nat,j+m=(qS i q).length/\(∀(k:Nat) r,k<j->(qS i q)[k]?=some r->¬kI p (qo p).flatten r.2.toNat r.1.toNat)/\E=[(0,Xz p A),(1,.int i),(7,qz (qS i q)),(45,qz (qS i q)),(46,.int (qS i q).length),(47,.int j)]/\S=[]/\nk=0)
   ⟨(qS i q).length,_,_,_,[],?wk,0,oM,fun k r hk=>oM,rfl,rfl,rfl⟩ ?_
  case wk=>exact qm
  rintro m E S nk ⟨j,hj,hok,rfl,rfl,rfl⟩;refine qb ?_;intros;refine qe rfl (fun hj2=>?_) (fun hj2=>?_)
  ·have hj2:j<(qS i q).length:=by have:=xC hj2;omega
   obtain⟨r,hr⟩:∃r,(qS i q)[j]?=some r:=⟨_,zge hj2⟩;have e1:=xd hr;have hrm:=zmg hr;have hri:=hin r hrm;obtain⟨b,hb,hbn⟩:=hA.at (y:=r.2.toNat) (x:=r.1.toNat) oM oM;have e2:=N4 p (qo p).length ((qo p).map yL) hb;refine qb ?_;intros;refine zJ (nC rfl rfl oM oM) ?_;refine zJ (nC rfl rfl oM oM) ?_;refine jK (HI rfl e2) ?_;refine qb ?_;intros;refine qe rfl (fun hbt=>?_) (fun hbt=>?_)
   ·refine qb ?_;intros;refine qf ⟨_,rfl,rfl,?_⟩;rw [FX hv hrm hri.1.1 hri.2.1 (hbn.1 hbt),Bool.false_and]
   ·refine qb ?_;intros;refine⟨m-1,oM,_,_,_,[],?wk2,j+1,oM,fun k r' hk hr'=>?_,rfl,rfl,rfl⟩
    case wk2=>exact qm
    by_cases hkj:k=j
    ·subst hkj;rw [hr] at hr';obtain rfl:=zsi hr';exact fun h=>by rw [hbn.2 h] at hbt;cases hbt
    ·exact hok k r' oM hr'
  ·have hj2:j=(qS i q).length:=by have:=xK hj2;omega
   subst hj2;have hall:=i4 hv hin fun r hr=>by
    obtain⟨k,hk⟩:=List.getElem?_of_mem hr;exact hok k r (zgs hk).1 hk
   rw [hall,Bool.true_and];refine qb ?_;intros;refine qk rfl rfl (Jz hds hls oM oM) ?_;rintro _ rfl;refine qb ?_;intros;refine qf ⟨_,rfl,rfl,?_⟩;rw [w5]
theorem tQ{p:Pic}(hv:qx p=true){i y x:Nat}(h:(p.w/2).toNat-1<=x):zU p i ((x:Int),(y:Int))=false:=by
 have hh:=(qL hv).2.2.1;simp only [yb,xr,xQ] at hh;obtain⟨⟨⟨hw1,hw2⟩,hw3⟩,_⟩:=hh;have:kg p ((x:Int),(y:Int))=false:=by
  rw [Bool.eq_false_iff];intro h2;simp only [kg,xr,xQ] at h2;omega
 rw [zU,this,Bool.false_and]
theorem D9{p:Pic}{A:List Bool}{i:Nat}(hv:qx p=true)(hF:X3 p)(hA:nY p A)(hi:i<p.fs.length):DK 69 [Xz p A,.int i] fun d=>d=qz (jk p i):=by
 refine qD qa8 rfl qX fun Z0 lo=>?_;have hh:=(qL hv).2.2.1;simp only [yb,xr,xQ] at hh;obtain⟨⟨⟨hw1,hw2⟩,hw3⟩,⟨hh1,hh2⟩,hh3⟩:=hh;rw [Int.tmod_eq_emod_of_nonneg (by omega)] at hw3 hh3;obtain⟨nw,hnw⟩:∃nw:Nat,nw=(p.w/2).toNat-1:=⟨_,rfl⟩;obtain⟨nh,hnh⟩:∃nh:Nat,nh=(p.h/3).toNat:=⟨_,rfl⟩;have hw4:p.w=2*((nw:Int)+1):=by omega
 have hh4:p.h=3*(nh:Int):=by omega
 have hnw2:nw<30:=by omega
 have hnh2:nh<=20:=by omega
 have w1:IntKind.i64.wrap (p.w.tdiv 2)=((nw+1:Nat):Int):=by rw [Int.tdiv_eq_ediv_of_nonneg (by omega),qq (by omega) (by omega)];omega
 have w2:IntKind.i64.wrap (p.h.tdiv 3)=(nh:Int):=by rw [Int.tdiv_eq_ediv_of_nonneg (by omega),qq (by omega) (by omega)];omega
 have hlast:∀y:Nat,zU p i ((nw:Int),(y:Int))=false:=fun y=>tQ (x:=nw) hv oM;refine qb ?_;intros;rw [w2];refine vB 5 2 rfl ?_;refine ql (fun m E S nk=>∃(y:Nat) (out:List qc),y+m=nh/\out=Q4 p i nw y/\E=[(0,Xz p A),(1,.int i),(5,.one (.own 0 0 out.length 2)),(14,.int nh),(15,.int y)]/\S=[(0,.data (out.flatMap qh))]/\nk=1)
  ⟨nh,_,_,_,[],?wk,0,[],oM,rfl,rfl,rfl,rfl⟩ ?_
 case wk=>exact qm
 rintro m E S nk ⟨y,out,hy,ho,rfl,rfl,rfl⟩;refine qb ?_;intros;refine qe rfl (fun ht=>?_) (fun ht=>?_)
 ·have ht:y<nh:=by have:=xC ht;omega
  have hcl:=Yq p i nw y;have hcm:y*nw<=20*30:=Nat.mul_le_mul oM oM;refine qb ?_;intros;rw [w1];refine ql (fun m E S nk=>∃(x:Nat) (o2:List qc),x+m=nw+1/\o2=out++kR p i y x/\E=[(0,Xz p A),(1,.int i),(5,.one (.own 0 0 o2.length 2)),(14,.int nh),(15,.int y),(6,.int y),(23,.int (nw+1:Nat)),(24,.int x)]/\S=[(0,.data (o2.flatMap qh))]/\nk=1)
   ⟨nw+1,_,_,_,[],?wk2,0,out,by omega,by simp [kR],rfl,rfl,rfl⟩ ?_
  case wk2=>exact qm
  rintro m2 E S nk ⟨x,o2,hx,ho2,rfl,rfl,rfl⟩;have hrl:=Vu p i y x;have hol:o2.length<=1000:=by rw [ho2,List.length_append,ho];omega
  have hfl:=xb o2;refine qb ?_;intros;refine qe rfl (fun ht2=>?_) (fun ht2=>?_)
  ·have ht2:x<nw+1:=by have:=xC ht2;omega
   refine qb ?_;intros;refine qk rfl rfl (D4 (i:=i) (q:=((x:Int),(y:Int))) hv hF hA hi (by unfold qC;simp only;omega)) ?_;rintro _ rfl;refine qb ?_;intros;refine qe rfl (fun hf=>?_) (fun hf=>?_)
   ·refine qb ?_;intros;refine qV (m:=1) (q:=qh ((x:Int),(y:Int))) rfl rfl rfl (qH _ hfl) ⟨rfl,rfl,_,rfl,rfl⟩ oM oM (by decide) rfl ?_;rw [show o2.flatMap qh++qh ((x:Int),(y:Int))=(o2++[((x:Int),(y:Int))]).flatMap qh by simp,show o2.length+1=(o2++[((x:Int),(y:Int))]).length by simp];refine qb ?_;intros;refine⟨m2-1,by omega,_,_,_,[(0,3)],?wk3,x+1,o2++[((x:Int),(y:Int))],by omega,by rw [BL hf,ho2,List.append_assoc],rfl,rfl,rfl⟩
    case wk3=>exact qm
   ·refine qb ?_;intros;refine⟨m2-1,by omega,_,_,_,[],?wk4,x+1,o2,by omega,by rw [iE hf,ho2],rfl,rfl,rfl⟩
    case wk4=>exact qm
  ·have ht2:x=nw+1:=by have:=xK ht2;omega
   subst ht2;rw [iE (hlast y)] at ho2;refine qb ?_;intros;refine⟨m-1,by omega,_,_,_,[],?wk5,y+1,o2,by omega,by rw [JD,ho2,ho],rfl,rfl,rfl⟩
   case wk5=>exact qm
 ·have ht:y=nh:=by have:=xK ht;omega
  subst ht;have hfl:=xb out;refine qb ?_;intros;refine qr (qd (k:=4) rfl (qu _)) (qd (k:=0) rfl (qu _)) ?_;refine xt 0 rfl qO qO ?_;refine qf ⟨_,rfl,rfl,?_⟩;rw [jk,<-hnw,<-hnh,<-ho];rfl
def wz(g:Int)(l:List qc)(c:qc)(k:Nat):Bool:=(List.range k).all fun j=>!ju g l.length c j (xH l j)
theorem tP{g:Int}{l:List qc}{c b:qc}{k:Nat}(h:l[k]?=some b):wz g l c (k+1)=(wz g l c k&&!ju g l.length c k b):=by
 unfold wz;rw [List.range_succ,List.all_append,List.all_cons,List.all_nil,Bool.and_true,xM h]
def QL(f:qc->List qc)(N:Nat):List qc->List qc
 |[]=>[]
 |c::cs=>if (f c).length=N then f c else QL f N cs
def yz(g:Int)(all:List (List qc)):Nat->List qc->List qc
 |0,l=>l
 |n+1,l=>QL (fun c=>if wz g l c l.length=true then yz g all n (l++[c]) else []) all.length ((all[l.length]?).getD [])
theorem P9{p:Par}{base rs:Nat}{Q:qp->Bx->Nat->Prop}{r:List SOper}{W:Wt}{A:List Nat}{E:qp}{S:Bx}{nk:Nat}{t:Nat}(e:Nat){x y:DC}(ht:lk E t=some (.agg [.f (.c .nils),x,y]))(h:DPW p base rs Q r W A ((t,.agg [.f (.sl e 0 []),x,y])::E) S nk):DPW p base rs Q r W A E S nk:=.mk fun Z β H F c hS hE hC hA=>by
 refine h.run Z β H F c hS (fun k d hd=>?_) hC hA;rw [qT] at hd;split at hd
 ·rename_i e;subst e;obtain rfl:=zsi hd;obtain⟨v,hv,cs,rfl,hr⟩:=hE _ _ ht
  match cs,hr with
  |[c1,c2,c3],⟨h1,h2,h3,_⟩=>
   have h1:RF Z H (.c .nils) c1:=h1;cases h1;exact⟨_,hv,_,rfl,RF.nil _,h2,h3,trivial⟩
 ·exact hE k d hd
def zo(p:Pic)(i:Nat):List (List qc):=(List.range i).map (jk p)
def kO(p:Pic)(i:Nat):List qc:=yz p.gap (zo p (i+1)) (i+1) []
abbrev cA:=List qc × Int × Int
def qp5(r:cA):DV:=.agg [.f (.sl 2 r.1.length (r.1.flatMap qh)),.f (.c (.int .i64 r.2.1)),.f (.c (.int .i64 r.2.2))]
inductive PlcR (p:Pic):cA->Prop
 |bad (i:Nat) (hi:i<p.fs.length) (hb:(kO p i).length<=i) (hok:∀j,j<i->¬(kO p j).length<=j):PlcR p ([],(i:Int),150)
 |ok (hok:∀j,j<p.fs.length->¬(kO p j).length<=j):PlcR p (kO p (p.fs.length-1),((kO p (p.fs.length-1)).length:Int),0)
theorem YB{p:Pic}(hv:qx p=true)(i:Nat):(∀q∈jk p i,qC 1000000 q)/\(jk p i).length<1000000:=by
 have hh:=(qL hv).2.2.1;simp only [yb,xr,xQ] at hh;have h1:(p.w/2).toNat-1<=30:=by omega
 have h2:(p.h/3).toNat<=20:=by omega
 refine⟨fun q hq=>?_,?_⟩
 ·unfold jk Q4 at hq;obtain⟨y,hy,hq⟩:=List.mem_flatMap.1 hq;unfold kR at hq;obtain⟨x,hx,rfl⟩:=List.mem_map.1 (List.mem_filter.1 hq).1;have:=List.mem_range.1 hx;have:=List.mem_range.1 hy;unfold qC;simp only;omega
 ·have h3:=Yq p i ((p.w/2).toNat-1) (p.h/3).toNat;have h4:(p.h/3).toNat*((p.w/2).toNat-1)<=20*30:=Nat.mul_le_mul h2 h1;unfold jk;omega
structure LegL (g:Int) (all:List (List qc)) (l:List qc):Prop where
 le:l.length<=all.length
 ch:∀(i:Nat) (q:qc),l[i]?=some q->q∈(all[i]?).getD []
 ap:∀(i k:Nat) (a b:qc),k<i->l[i]?=some a->l[k]?=some b->ju g i a k b=false
theorem XF(g:Int)(i k:Nat)(a b:qc):ju g i a k b=ju g k b i a:=by unfold ju;rw [Yp]
theorem LegL.nil(g:Int)(all:List (List qc)):LegL g all []:=⟨Nat.zero_le _,fun _ _ h=>by simp at h,fun _ _ _ _ _ h=>by simp at h⟩
theorem LegL.take{g:Int}{all:List (List qc)}{l:List qc}(h:LegL g all l)(n:Nat):LegL g all (l.take n):=by
 have e:∀{i:Nat} {q:qc},(l.take n)[i]?=some q->l[i]?=some q:=fun {i q} hi=>by
  rw [List.getElem?_take] at hi;split at hi
  ·exact hi
  ·cases hi
 exact⟨by rw [List.length_take];have:=h.le;omega,fun i q hi=>h.ch i q (e hi),fun i k a b hk ha hb=>h.ap i k a b hk (e ha) (e hb)⟩
theorem LegL.all{g:Int}{all all':List (List qc)}{l:List qc}(h:LegL g all l)(hl:l.length<=all'.length)(he:∀i,i<l.length->all'[i]?=all[i]?):LegL g all' l:=
 ⟨hl,fun i q hi=>by rw [he i (zgs hi).1];exact h.ch i q hi,h.ap⟩
theorem WI{g:Int}{l:List qc}{c:qc}:wz g l c l.length=true↔∀(j:Nat) (b:qc),l[j]?=some b->ju g l.length c j b=false:=by
 unfold wz;rw [List.all_eq_true];constructor
 ·intro h j b hb;have:=h j (List.mem_range.2 (zgs hb).1);rw [xM hb] at this;simpa using this
 ·intro h j hj;obtain⟨b,hb⟩:∃r,l[j]?=some r:=⟨_,zge (List.mem_range.1 hj)⟩;rw [xM hb,h j b hb];rfl
theorem Kk{α:Type}{l:List α}{c q:α}{i:Nat}(h:(l++[c])[i]?=some q):l[i]?=some q\/(i=l.length/\q=c):=by
 rcases Nat.lt_trichotomy i l.length with hi|hi|hi
 ·rw [List.getElem?_append_left hi] at h;exact .inl h
 ·subst hi;simp at h;exact .inr ⟨rfl,h.symm⟩
 ·rw [List.getElem?_eq_none (by simp;omega)] at h;cases h
theorem LegL.snoc{g:Int}{all:List (List qc)}{l:List qc}{c:qc}(h:LegL g all l)(hl:l.length<all.length)(hc:c∈(all[l.length]?).getD [])(hf:wz g l c l.length=true):LegL g all (l++[c]):=by
 refine⟨by rw [List.length_append,List.length_singleton];omega,fun i q hi=>?_,fun i k a b hk ha hb=>?_⟩
 ·rcases Kk hi with hi|⟨rfl,rfl⟩
  ·exact h.ch i q hi
  ·exact hc
 ·rcases Kk ha with g1|⟨g1,g2⟩
  ·rcases Kk hb with g3|⟨g3,g4⟩
   ·exact h.ap i k a b hk g1 g3
   ·have:=(zgs g1).1;omega
  ·rcases Kk hb with g3|⟨g3,g4⟩
   ·rw [g1,g2];exact WI.1 hf k b g3
   ·omega
theorem Z8{f:qc->List qc}{N:Nat}:∀cs:List qc,(QL f N cs=[]/\∀c∈cs,(f c).length≠N)\/∃(i:Nat) (c:qc),cs[i]?=some c/\(∀x∈cs.take i,(f x).length≠N)/\(f c).length=N/\QL f N cs=f c
 |[]=>.inl ⟨rfl,fun c hc=>by cases hc⟩
 |c::cs=>by
  by_cases h:(f c).length=N
  ·exact .inr ⟨0,c,rfl,fun x hx=>by simp at hx,h,by rw [QL,if_pos h]⟩
  ·rcases Z8 cs with⟨h1,h2⟩|⟨i,d,h1,h2,h3,h4⟩
   ·refine .inl ⟨by rw [QL,if_neg h,h1],fun x hx=>?_⟩;rcases List.mem_cons.1 hx with rfl|hx
    ·exact h
    ·exact h2 x hx
   ·refine .inr ⟨i+1,d,by simpa using h1,fun x hx=>?_,h3,by rw [QL,if_neg h,h4]⟩;rw [List.take_succ_cons] at hx;rcases List.mem_cons.1 hx with rfl|hx
    ·exact h
    ·exact h2 x hx
theorem NT{f:qc->List qc}{N:Nat}{cs:List qc}{i:Nat}{c:qc}(h:cs[i]?=some c)(hb:∀x∈cs.take i,(f x).length≠N)(hc:(f c).length=N):QL f N cs=f c:=by
 induction cs generalizing i with
 |nil=>simp at h
 |cons x cs ih=>
  cases i with
  |zero=>simp at h;subst h;rw [QL,if_pos hc]
  |succ i=>
   rw [QL,if_neg (hb x (by simp)),ih (by simpa using h) fun y hy=>hb y (by rw [List.take_succ_cons];exact List.mem_cons_of_mem _ hy)]
def QO(g:Int)(all:List (List qc))(n:Nat)(l:List qc)(c:qc):List qc:=if wz g l c l.length=true then yz g all n (l++[c]) else []
theorem Kj(g:Int)(all:List (List qc))(n:Nat)(l:List qc):yz g all (n+1) l=QL (QO g all n l) all.length ((all[l.length]?).getD []):=rfl
theorem gS{g:Int}{all:List (List qc)}:∀{n:Nat} {l:List qc},l.length+n=all.length->(yz g all n l).length=all.length\/yz g all n l=[]
 |0,l,h=>.inl (by rw [yz];omega)
 |n+1,l,h=>by
  rw [Kj];rcases Z8 (f:=QO g all n l) (N:=all.length) ((all[l.length]?).getD []) with⟨h1,_⟩|⟨_,c,_,_,h3,h4⟩
  ·exact .inr h1
  ·rw [h4];exact .inl h3
theorem QP{g:Int}{all:List (List qc)}:∀{n:Nat} {l:List qc},LegL g all l->l.length+n=all.length->(yz g all n l).length=all.length->LegL g all (yz g all n l)/\∃t,yz g all n l=l++t
 |0,l,hl,_,_=>⟨hl,[],by rw [yz,List.append_nil]⟩
 |n+1,l,hl,hn,hlen=>by
  rw [Kj] at hlen ⊢;rcases Z8 (f:=QO g all n l) (N:=all.length) ((all[l.length]?).getD []) with⟨h1,_⟩|⟨i,c,h1,_,h3,h4⟩
  ·rw [h1] at hlen;simp at hlen;omega
  ·rw [h4];have hpos:0<all.length:=by omega
   unfold QO at h3 ⊢;by_cases hf:wz g l c l.length=true
   ·rw [if_pos hf] at h3 ⊢;obtain⟨g1,t,g2⟩:=QP (hl.snoc (by omega) (zmg h1) hf) (by rw [List.length_append,List.length_singleton];omega) h3;exact⟨g1,c::t,by rw [g2,List.append_assoc];rfl⟩
   ·rw [if_neg hf] at h3;simp at h3;omega
theorem J6{α:Type}{m:List α}{i:Nat}{c:α}(h:m[i]?=some c):m.take (i+1)=m.take i++[c]:=by
 obtain⟨hi,rfl⟩:=zgs h;rw [List.take_add_one,h];rfl
theorem O2{g:Int}{all:List (List qc)}{m:List qc}{i:Nat}{c:qc}(hm:LegL g all m)(hi:m[i]?=some c):wz g (m.take i) c (m.take i).length=true:=by
 have hl:(m.take i).length=i:=by rw [List.length_take];have:=(zgs hi).1;omega
 refine WI.2 fun j b hb=>?_;rw [hl];have hj:=(zgs hb).1;rw [hl] at hj;rw [List.getElem?_take,if_pos hj] at hb;exact hm.ap i j c b hj hi hb
theorem JO{g:Int}{all:List (List qc)}{m:List qc}(hm:LegL g all m)(hlen:m.length=all.length):∀{n i:Nat},i+n=all.length->(yz g all n (m.take i)).length=all.length
 |0,i,h=>by rw [yz,List.length_take];omega
 |n+1,i,h=>by
  obtain⟨c,hc⟩:∃c,m[i]?=some c:=⟨_,zge oM⟩;have hl:(m.take i).length=i:=by rw [List.length_take];omega
  have ih:=JO hm hlen (n:=n) (i:=i+1) oM;rw [J6 hc] at ih;rw [Kj,hl];have hs:(QO g all n (m.take i) c).length=all.length:=by rw [QO,if_pos (O2 hm hc)];exact ih
  rcases Z8 (f:=QO g all n (m.take i)) (N:=all.length) ((all[i]?).getD []) with⟨_,h2⟩|⟨_,_,_,_,h3,h4⟩
  ·exact absurd hs (h2 c (hm.ch i c hc))
  ·rw [h4];exact h3
def EO(B:Nat)(L l:List qc):Prop:=∀j,j<l.length->B.testBit j=true->L[j]?=l[j]?
def JJ(g:Int)(all:List (List qc))(k B:Nat)(l:List qc):Prop:=∀L,LegL g all L->k<L.length->¬EO B L l
def jl(g:Int)(all:List (List qc))(k B:Nat)(l:List qc)(cs:List qc):Prop:=∀L,LegL g all L->k<L.length->EO B L l->∀q∈cs,L[l.length]?≠some q
theorem jl.nil{g:Int}{all:List (List qc)}{k B:Nat}{l:List qc}:jl g all k B l []:=fun _ _ _ _ q hq=>by cases hq
theorem jl.end{g:Int}{all:List (List qc)}{k B:Nat}{l C:List qc}(hC:all[l.length]?=some C)(hk:l.length<=k)(h:jl g all k B l C):JJ g all k B l:=fun L hL hlen ha=>by
 obtain⟨q,hq⟩:∃q,L[l.length]?=some q:=⟨_,zge oM⟩;have:=hL.ch _ q hq;rw [hC] at this;exact h L hL hlen ha q this hq
theorem jl.mono{g:Int}{all:List (List qc)}{k k' B B':Nat}{l C:List qc}(h:jl g all k B l C)(hk:k<=k')(hB:∀j,j<l.length->B.testBit j=true->B'.testBit j=true):jl g all k' B' l C:=fun L hL hlen ha=>h L hL oM fun j hj hb=>ha j hj (hB j hj hb)
theorem jl.clash{g:Int}{all:List (List qc)}{k B j:Nat}{l C:List qc}{c b:qc}(h:jl g all k B l C)(hb:l[j]?=some b)(hB:B.testBit j=true)(hc:ju g j b l.length c=true):jl g all k B l (C++[c]):=fun L hL hlen ha q hq e=>by
 rcases List.mem_append.1 hq with hq|hq
 ·exact h L hL hlen ha q hq e
 ·rw [List.mem_singleton] at hq;subst hq;have hj:=(zgs hb).1;have h1:=ha j hj hB;rw [hb] at h1;rw [XF,hL.ap l.length j q b hj e h1] at hc;cases hc
theorem jl.fail{g:Int}{all:List (List qc)}{k B B':Nat}{l C:List qc}{c:qc}(h:jl g all k B l C)(hs:JJ g all k B' (l++[c]))(hB:∀j,j<l.length->B'.testBit j=true->B.testBit j=true):jl g all k B l (C++[c]):=fun L hL hlen ha q hq e=>by
 rcases List.mem_append.1 hq with hq|hq
 ·exact h L hL hlen ha q hq e
 ·rw [List.mem_singleton] at hq;subst hq;refine hs L hL hlen fun j hj hb=>?_;by_cases hjl:j<l.length
  ·rw [List.getElem?_append_left hjl];exact ha j hjl (hB j hjl hb)
  ·have:j=l.length:=by rw [List.length_append,List.length_singleton] at hj;omega
   subst this;rw [e];simp
theorem JJ.drop{g:Int}{all:List (List qc)}{k B:Nat}{l:List qc}{c:qc}(hs:JJ g all k B (l++[c]))(hB:B.testBit l.length=false):JJ g all k B l:=fun L hL hlen ha=>hs L hL hlen fun j hj hb=>by
 by_cases hjl:j<l.length
 ·rw [List.getElem?_append_left hjl];exact ha j hjl hb
 ·have:j=l.length:=by rw [List.length_append,List.length_singleton] at hj;omega
  subst this;rw [hB] at hb;cases hb
theorem jl.step{g:Int}{all:List (List qc)}{k B n:Nat}{l C:List qc}(hl:LegL g all l)(hn:l.length+(n+1)=all.length)(hk:k<all.length)(h:jl g all k B l C)(hC:∀c∈C,c∈(all[l.length]?).getD []):∀c∈C,(QO g all n l c).length≠all.length:=fun c hc hlen=>by
 unfold QO at hlen;by_cases hf:wz g l c l.length=true
 ·rw [if_pos hf] at hlen;obtain⟨g1,t,g2⟩:=QP (hl.snoc (by omega) (hC c hc) hf) (by rw [List.length_append,List.length_singleton];omega) hlen;refine h _ g1 oM (fun j hj _=>?_) c hc ?_
  ·rw [g2,List.append_assoc,List.getElem?_append_left hj]
  ·rw [g2,List.append_assoc];simp
 ·rw [if_neg hf] at hlen;simp at hlen;omega
theorem RT{p:Pic}{l:List qc}(hFi:Qq p)(hF:X3 p)(hl:∀q∈l,qC 1000000 q):DK 43 [yi p,qz l] fun d=>d=.bool (qx p&&yH p l):=by
 refine qD qbv rfl qX fun Z0 lo=>?_;have hcv:=W1 hFi;by_cases hlen:l.length=p.fs.length
 ·have b1:((l.length:Int)!=(p.fs.length:Int))=false:=by rw [hlen];simp
  refine qU ?_;intros;refine qk rfl rfl hcv ?_;rintro _ rfl;cases hv:qx p with
  |false=>
   refine qb ?_;intros;refine qe rfl (fun _=>?_) (fun h=>by cases h);refine qb ?_;intros;exact qf ⟨_,rfl,rfl,rfl⟩
  |true=>
   have hl8:=(qL hv).1;have hlp:(true&&yH p l)=(List.range l.length).all (wN p l):=by
    rw [yH,decide_eq_true hlen,y4,decide_eq_true (by omega)];simp only [Bool.true_and]
   rw [hlp];refine qb ?_;intros;refine qe rfl (fun h=>by cases h) (fun _=>?_);refine qb ?_;intros;refine qk rfl rfl (m6 hv) ?_;rintro _ ⟨A,hA,rfl⟩;refine qb ?_;intros;refine ql (fun m E S nk=>∃i:Nat,i+m=l.length/\(∀j,j<i->wN p l j=true)/\E=[(1,qz l),(5,Xz p A),(22,qz l),(23,.int l.length),(24,.int i)]/\S=[]/\nk=0)
    ⟨l.length,_,_,_,[],?wk,0,oM,fun j hj=>oM,rfl,rfl,rfl⟩ ?_
   case wk=>exact qm
   rintro m E S nk ⟨i,hi,hok,rfl,rfl,rfl⟩;refine qb ?_;intros;refine qe rfl (fun hi2=>?_) (fun hi2=>?_)
   ·have hi2:i<l.length:=by have:=xC hi2;omega
    obtain⟨q,hq⟩:∃r,l[i]?=some r:=⟨_,zge hi2⟩;have e1:=xd hq;have hqs:=hl q (zmg hq);have hqa:=xM hq;refine qb ?_;intros;refine qk rfl rfl (D4 (i:=i) (q:=q) hv hF hA oM hqs) ?_;rintro _ rfl;refine qb ?_;intros;refine qe rfl (fun hf=>?_) (fun hf=>?_)
    ·have hf:zU p i q=false:=by simpa using hf
     refine qb ?_;intros;refine qf ⟨_,rfl,rfl,?_⟩;rw [Qy hi2 (by rw [wN,hqa,hf,Bool.false_and])]
    ·have hf:zU p i q=true:=by simpa using hf
     refine qb ?_;intros;refine kz 0 (fs:=qh q) rfl ?_;refine ql (fun m E S nk=>∃k:Nat,k+m=i/\(∀j,j<k->ju p.gap i q j (xH l j)=false)/\E=[(1,qz l),(5,Xz p A),(22,qz l),(23,.int l.length),(24,.int i),(6,.int i),(7,.one (.fptr (qh q))),(34,.int i),(35,.int k)]/\S=[]/\nk=0)
      ⟨i,_,_,_,[],?wk2,0,oM,fun j hj=>oM,rfl,rfl,rfl⟩ ?_
     case wk2=>exact qm
     rintro m2 E S nk ⟨k,hk,hok2,rfl,rfl,rfl⟩;refine qb ?_;intros;refine qe rfl (fun hk2=>?_) (fun hk2=>?_)
     ·have hk2:k<i:=by have:=xC hk2;omega
      obtain⟨b,hb⟩:∃r,l[k]?=some r:=⟨_,zge oM⟩;have e2:=xd hb;have hbs:=hl b (zmg hb);have hba:=xM hb;have hcl:=rS (p:=p) (A:=A) (i:=k) (k:=i) oM oM hbs hqs;rw [XF] at hcl;refine qb ?_;intros;refine qk rfl rfl hcl ?_;rintro _ rfl;refine qb ?_;intros;refine qe rfl (fun hd=>?_) (fun hd=>?_)
      ·refine qb ?_;intros;refine qf ⟨_,rfl,rfl,?_⟩;rw [Qy hi2 (by rw [wN,hqa,Qy hk2 (by rw [hba,hd];rfl),Bool.and_false])]
      ·refine qb ?_;intros;refine⟨m2-1,oM,_,_,_,[],?wk3,k+1,oM,?hno,rfl,rfl,rfl⟩
       case hno=>
        intro j hj;by_cases hjk:j=k
        ·subst hjk;rw [hba];exact hd
        ·exact hok2 j oM
       case wk3=>exact qm
     ·have hk2:k=i:=by have:=xK hk2;omega
      subst hk2;refine qb ?_;intros;refine⟨m-1,oM,_,_,_,[],?wk4,k+1,oM,?hno2,rfl,rfl,rfl⟩
      case hno2=>
       intro j hj;by_cases hjk:j=k
       ·subst hjk;rw [wN,hqa,hf,Bool.true_and];exact Zf fun x hx=>by rw [hok2 x hx];rfl
       ·exact hok j oM
      case wk4=>exact qm
   ·have hi2:i=l.length:=by have:=xK hi2;omega
    subst hi2;refine qb ?_;intros;refine qf ⟨_,rfl,rfl,?_⟩;rw [Zf hok]
 ·have b1:((l.length:Int)!=(p.fs.length:Int))=true:=by
   have:¬(l.length:Int)=p.fs.length:=by omega
   simpa using this
  refine qU ?_;intros;refine qe rfl (fun _=>?_) (fun h=>by cases h);refine qU ?_;intros;refine qf ⟨_,rfl,rfl,?_⟩;rw [yH,decide_eq_false hlen,Bool.false_and,Bool.and_false]
abbrev AA(f:FuncId)(a:Nat)(ds:List DV)(S:Bx)(nk:Nat)(R:DV->Bx->Nat->Prop):Prop:=∀Z0 lo anc β0 H1,anc<=a->NO (parK Z0 lo anc β0 H1) a f ds S nk R
theorem KG {f:FuncId} {a:Nat} {sf:SFn} (hf:qG Tryz.prog 1 f=some sf) {ds:List DV} {S:Bx} {nk:Nat} {R:DV->Bx->Nat->Prop} (hn:Nat.ble ds.length sf.n=true) (hank:a<=nk)
 (h:∀Z β H lo,DPS (parK Z lo a β H) sf.n sf.code (cI (parK Z lo a β H) sf.res R) (Q6 ds 0) S nk):AA f a ds S nk R:=fun Z0 lo anc β0 H1 ha=>qac (p:=parK Z0 lo anc β0 H1) hf hn ha hank fun Z β H=>h Z β H lo
def Jg(a b c:FD):Bk:=.cells [.f a,.f b,.f c]
theorem FN{cs:List (List qc)}{i:Nat}{x:List qc}(h:cs[i]?=some x):xN (cs.map qM) ((i:Int).toNat) 1=some [qM x]:=by
 have:=Vs h;rw [Nat.mul_one] at this;exact this
theorem dN{p:Pic}{all:List (List qc)}{fa fb fc:FD}(ha8:1<=all.length/\all.length<=8)(hs:∀c∈all,(∀q∈c,qC 1000000 q)/\c.length<1000000):∀(n:Nat) {l:List qc},l.length+n=all.length->(∀q∈l,qC 1000000 q)->
 AA 49 2 [yi p,qz l,.one (.own 0 0 all.length 1)] [(0,.data (all.map qM)),(1,Jg fa fb fc)] 2 fun d S' _=>d=qz (yz p.gap all n l)/\S'=[(0,.data (all.map qM)),(1,Jg fa fb fc)]
 |0,l,hl,hsl=>by
  refine KG HW rfl oM fun Z β H lo=>?_;have b1:((l.length:Int)==(all.length:Int))=true:=by rw [<-hl];simp
  refine qU ?_;intros;refine qe rfl (fun _=>?_) (fun h=>by cases h);refine qU ?_;intros;exact qf ⟨_,rfl,rfl,_,qd rfl (qd rfl (qu _)),rfl,rfl⟩
 |n+1,l,hl,hsl=>by
  have ih:=fun c (hc:qC 1000000 c)=>dN (p:=p) (fa:=fa) (fb:=fb) (fc:=fc) ha8 hs n (l:=l++[c]) (by rw [List.length_append,List.length_singleton];omega) (fun q hq=>by
   rcases List.mem_append.1 hq with hq|hq
   ·exact hsl q hq
   ·rw [List.mem_singleton] at hq;rw [hq];exact hc)
  refine KG HW rfl oM fun Z β H lo=>?_;have b1:((l.length:Int)==(all.length:Int))=false:=by
   have:¬(l.length:Int)=all.length:=by omega
   simpa using this
  obtain⟨C,hC⟩:∃r,all[l.length]?=some r:=⟨_,zge oM⟩;have hCs:=hs C (zmg hC);have e0:=FN hC;have hlen:all[l.length]?.getD []=C:=by rw [hC];rfl
  have hlf:=xb l;rw [yz,hlen];generalize hf:(fun c=>if wz p.gap l c l.length=true then yz p.gap all n (l++[c]) else [])=f
  refine js ?_;refine jt wi (fun base=>?_);refine Xs rfl ?_;refine zJ rfl ?_;refine yI ?_;refine kz 2 (fs:=y7 p) rfl ?_;refine qU ?_;intros;refine qe rfl (fun h=>by cases h) (fun _=>?_);clear b1;refine qb ?_;intros;refine ql (fun m E S nk=>∃j:Nat,j+m=C.length/\QL f all.length C=QL f all.length (C.drop j)/\E=[(1,qz l),(2,.one (.own 0 0 all.length 1)),(3,.one (.fptr (y7 p))),(7,.int l.length),(8,.int j)]/\S=[(0,.data (all.map qM)),(1,Jg fa fb fc)]/\nk=2)
   ⟨C.length,_,_,_,[],?wk,0,oM,rfl,rfl,rfl,rfl⟩ ?_
  case wk=>exact⟨za,⟨rfl,rfl,rfl,rfl,rfl,rfl,trivial⟩,rfl,rfl⟩
  rintro m E S nk ⟨j,hj,htr,rfl,rfl,rfl⟩;refine qb ?_;intros;refine qe rfl (fun hj2=>?_) (fun hj2=>?_)
  ·have hj2:j<C.length:=by have:=xC hj2;omega
   obtain⟨c,hc⟩:∃r,C[j]?=some r:=⟨_,zge hj2⟩;have e1:=xd hc;have hcs:=hCs.1 c (zmg hc);have hdr:C.drop j=c::C.drop (j+1):=by
    rw [List.drop_eq_getElem_cons hj2];rw [(zgs hc).2]
   rw [hdr,QL] at htr;have n1:=zw l.length c;refine qb ?_;intros;refine ql (fun m E S nk=>∃(k:Nat) (w:Bool),k+m=l.length/\w=wz p.gap l c k/\E=[(1,qz l),(2,.one (.own 0 0 all.length 1)),(3,.one (.fptr (y7 p))),(7,.int l.length),(8,.int j),(9,.bool w),(10,.int k)]/\S=[(0,.data (all.map qM)),(1,Jg fa fb fc)]/\nk=2)
    ⟨l.length,_,_,_,[],?wk2,0,true,oM,rfl,rfl,rfl,rfl⟩ ?_
   case wk2=>exact⟨za,⟨rfl,rfl,rfl,rfl,rfl,rfl,trivial⟩,rfl,rfl⟩
   rintro m2 E S nk ⟨k,w,hk,hw,rfl,rfl,rfl⟩;refine qb ?_;intros;refine qe rfl (fun hk2=>?_) (fun hk2=>?_)
   ·have hk2:k<l.length:=by have:=xC hk2;omega
    obtain⟨b,hb⟩:∃r,l[k]?=some r:=⟨_,zge hk2⟩;have e2:=xd hb;have hbs:=hsl b (zmg hb);have n2:=zw k b;have hfs:=tP (g:=p.gap) (c:=c) hb;rw [<-hw] at hfs;clear hw;cases w with
    |false=>
     refine qb ?_;intros;refine⟨m2-1,oM,_,_,_,[],?wk3,k+1,false,oM,hfs.symm,rfl,rfl,rfl⟩
     case wk3=>exact⟨za,⟨rfl,rfl,rfl,rfl,rfl,rfl,trivial⟩,rfl,rfl⟩
    |true=>
     refine qb ?_;intros;refine qk rfl rfl (ki (i:=l.length) (q:=c) oM hcs) ?_;rintro _ rfl;refine qb ?_;intros;refine qk rfl rfl (ki (i:=k) (q:=b) oM hbs) ?_;rintro _ rfl;refine qb ?_;intros;refine qk rfl rfl (kA (wm hcs) (wm hbs) oM oM) ?_;rintro _ rfl;have b2:decide (xZ (qS l.length c) (qS k b)>p.gap)=wz p.gap l c (k+1):=by
      rw [hfs,Bool.true_and,ju];by_cases h:xZ (qS l.length c) (qS k b)<=p.gap
      ·rw [decide_eq_true h,decide_eq_false (by omega)];rfl
      ·rw [decide_eq_false h,decide_eq_true (by omega)];rfl
     clear hfs;refine qU ?_;intros;refine⟨m2-1,oM,_,_,_,[],?wk4,k+1,_,oM,rfl,rfl,rfl,rfl⟩
     case wk4=>exact⟨za,⟨rfl,rfl,rfl,rfl,rfl,rfl,trivial⟩,rfl,rfl⟩
   ·have hk2:k=l.length:=by have:=xK hk2;omega
    subst hk2;have hfc:f c=if w=true then yz p.gap all n (l++[c]) else []:=by rw [<-hf,hw]
    clear hw;cases w with
    |false=>
     refine qb ?_;intros;refine qe rfl (fun _=>?_) (fun h=>by cases h);refine qb ?_;intros;refine⟨m-1,by omega,_,_,_,[],?wk5,j+1,by omega,by rw [htr,if_neg (by rw [hfc];simp;omega)],rfl,rfl,rfl⟩
     case wk5=>exact⟨za,⟨rfl,rfl,rfl,rfl,rfl,rfl,trivial⟩,rfl,rfl⟩
    |true=>
     rw [if_pos rfl] at hfc;refine qb ?_;intros;refine qe rfl (fun h=>by cases h) (fun _=>?_);refine qb ?_;intros;refine qV (m:=l.length) (q:=l.flatMap qh) (l':=[]) rfl rfl rfl rfl ⟨rfl,rfl,rfl⟩ oM oM (by decide) rfl ?_;refine qb ?_;intros;refine qV (m:=1) (q:=qh c) rfl rfl rfl (qH _ (by rw [List.nil_append,hlf,Nat.zero_add])) ⟨rfl,rfl,_,rfl,rfl⟩ (by omega) (by omega) (by decide) rfl ?_;have hf4:([]++l.flatMap qh++qh c).length=(0+l.length+1)*2:=by
      rw [List.nil_append,List.length_append,hlf,show (qh c).length=2 from rfl];omega
     have h4:DV.one (.f (.sl 2 (0+l.length+1) ([]++l.flatMap qh++qh c)))=qz (l++[c]):=by
      rw [qz,List.nil_append,Nat.zero_add];simp
     refine Qb 5 rfl qO qO ?_;refine DN (E0:=[(1,qz l),(2,.one (.own 0 0 all.length 1)),(3,.one (.fptr (y7 p))),(7,.int l.length),(8,.int j),(61,yi p),(71,qz (l++[c])),(72,.one (.own 0 0 all.length 1))]) (S0:=[(0,.data (all.map qM)),(1,Jg fa fb fc)]) (n0:=2) (a:=2) [] ⟨⟨rfl,rfl,rfl,rfl,rfl,rfl,rfl,rfl,rfl,rfl,rfl,rfl,congrArg some h4,rfl,rfl,rfl,trivial⟩,⟨rfl,rfl,rfl,rfl,rfl,rfl,trivial⟩,rfl,rfl⟩ rfl rfl rfl ⟨za,trivial,rfl,rfl⟩ (ih c hcs _ _ _ _ _ (Nat.le_refl _)) ?_;rintro _ S' nk' ⟨rfl,rfl⟩;rw [<-hfc];refine qb ?_;intros;refine qe rfl (fun hb=>?_) (fun hb=>?_)
     ·have hb:(f c).length=all.length:=by
       have h:((f c).length:Int)=all.length:=by simpa using hb
       omega
      refine qb ?_;intros;refine qf ⟨_,rfl,rfl,_,qd rfl (qd rfl (qu _)),?_,rfl⟩;rw [htr,if_pos hb];rfl
     ·have hb:¬(f c).length=all.length:=fun h=>by
       rw [h] at hb;simp at hb
      refine qb ?_;intros;refine⟨m-1,by omega,_,_,_,[],?wk6,j+1,by omega,by rw [htr,if_neg hb],rfl,rfl,rfl⟩
      case wk6=>exact⟨za,⟨rfl,rfl,rfl,rfl,rfl,rfl,trivial⟩,rfl,rfl⟩
  ·have hj2:j=C.length:=by have:=xK hj2;omega
   subst hj2;rw [List.drop_length] at htr;rw [htr];refine qb ?_;intros;refine bP 6 2 rfl ?_;exact qf ⟨_,rfl,rfl,_,qd rfl (qd rfl (qu _)),rfl,rfl⟩
theorem sF{p:Pic}{all:List (List qc)}{fa fb fc:FD}(ha8:1<=all.length/\all.length<=8)(hs:∀c∈all,(∀q∈c,qC 1000000 q)/\c.length<1000000):
 AA 49 2 [yi p,.one (.f (.c .nils)),.one (.own 0 0 all.length 1)] [(0,.data (all.map qM)),(1,Jg fa fb fc)] 2 fun d S' _=>d=qz (yz p.gap all all.length [])/\S'=[(0,.data (all.map qM)),(1,Jg fa fb fc)]:=fun Z0 lo anc β0 H1 ha Z β H args hS hag=>by
 refine dN (p:=p) (fa:=fa) (fb:=fb) (fc:=fc) ha8 hs all.length (l:=[]) (by simp) (fun q hq=>by cases hq) Z0 lo anc β0 H1 ha Z β H args hS ?_
 match args,hag with
 |[v1,v2,v3],⟨h1,⟨c,hv,hc⟩,h3⟩=>
  refine⟨h1,⟨c,hv,?_⟩,h3⟩;cases hc;exact (RF.nil 2:RF Z H (.sl 2 0 []) .nils)
theorem Ke(p:Pic)(i:Nat):zo p (i+1)=zo p i++[jk p i]:=by simp [zo,List.range_succ]
theorem zn(p:Pic)(i:Nat):(zo p i).length=i:=by simp [zo]
def NJ(p:Pic):Nat->List qc
 |0=>[]
 |i+1=>kO p i
theorem HN{p:Pic}(hv:qx p=true):DK 17 [yi p] fun d=>∃r,PlcR p r/\d=qp5 r:=by
 refine qD qbN rfl qX fun Z0 lo=>?_;have hl8:=(qL hv).1;refine js ?_;refine jt wi (fun base=>?_);refine Xs rfl ?_;refine Xs rfl ?_;refine yI ?_;refine kz 0 (fs:=y7 p) rfl ?_;refine qb ?_;intros;refine xt 3 rfl qO qO ?_;refine ql (fun m E S nk=>∃i:Nat,i+m=p.fs.length/\(∀j,j<i->¬(kO p j).length<=j)/\E=[(1,.one (.fptr (y7 p))),(2,.one (.ptr 1 0)),(3,.one (.own 0 0 i 1)),(4,qz (NJ p i)),(5,.int i)]/\S=[(0,.data ((zo p i).map qM)),(1,Jg (.c .nils) (.c (.int .i64 0)) (.c (.int .i64 0)))]/\nk=2)
  ⟨p.fs.length,_,_,_,[(0,2)],?wk,0,oM,fun j hj=>oM,rfl,rfl,rfl⟩ ?_
 case wk=>exact⟨za,⟨rfl,rfl,rfl,rfl,rfl,rfl,trivial⟩,rfl,rfl⟩
 rintro m E S nk ⟨i,hi,hok,rfl,rfl,rfl⟩;refine qb ?_;intros;refine qe rfl (fun hi2=>?_) (fun hi2=>?_)
 ·have hi2:i<p.fs.length:=by have:=xC hi2;omega
  have hal:=zn p i;have hml:((zo p i).map qM).length=i*1:=by rw [List.length_map];omega
  have hsr:=sF (p:=p) (all:=zo p (i+1)) (fa:=.c .nils) (fb:=.c (.int .i64 0)) (fc:=.c (.int .i64 0)) (by rw [zn];omega) (fun c hc=>by
   obtain⟨k,hk,rfl⟩:=List.mem_map.1 hc;exact YB hv k)
  rw [zn,Ke,List.map_append] at hsr;have hst:yz p.gap (zo p i++[jk p i]) (i+1) []=kO p i:=by rw [kO,Ke]
  rw [hst] at hsr;refine qb ?_;intros;refine qk rfl rfl (RY hv hi2) ?_;rintro _ rfl;refine qb ?_;intros;refine qV (m:=1) (q:=[qM (jk p i)]) rfl rfl rfl (qH _ hml) ⟨rfl,rfl,_,rfl,rfl⟩ oM oM (by decide) rfl ?_;refine qb ?_;intros;have hmm:(zo p i).map qM++[jk p i].map qM=(zo p (i+1)).map qM:=by rw [Ke,List.map_append]
  refine DN (E0:=[(1,.one (.fptr (y7 p))),(2,.one (.ptr 1 0)),(3,.one (.own 0 0 (i+1) 1)),(5,.int i),(22,yi p),(23,.one (.own 0 0 (i+1) 1))]) (S0:=[(0,.data ((zo p i).map qM++[jk p i].map qM)),(1,Jg (.c .nils) (.c (.int .i64 0)) (.c (.int .i64 0)))]) (n0:=2) (a:=2) [(0,3)] ⟨za,⟨rfl,rfl,rfl,rfl,rfl,rfl,trivial⟩,rfl,rfl⟩ rfl rfl rfl ⟨za,trivial,rfl,rfl⟩ (hsr _ _ _ _ _ (Nat.zero_le _)) ?_;rintro _ S' nk' ⟨rfl,rfl⟩;refine qb ?_;intros;refine qe rfl (fun hb=>?_) (fun hb=>?_)
  ·have hb:=xC hb;refine js ?_;refine jt wi (fun base=>?_);refine zJ rfl ?_;refine zJ rfl ?_;refine P9 (t:=30) 2 rfl ?_;refine qb ?_;intros;exact qf ⟨_,rfl,rfl,([],(i:Int),150),.bad i hi2 oM hok,rfl⟩
  ·have hb:=xK hb;refine qb ?_;intros;refine⟨m-1,oM,_,_,_,[],?wk2,i+1,oM,fun j hj=>?_,rfl,rfl,rfl⟩
   case wk2=>exact⟨za,⟨congrArg (fun z=>some (Bk.data z)) hmm,rfl,rfl,rfl,rfl,rfl,trivial⟩,rfl,rfl⟩
   by_cases hji:j=i
   ·subst hji;omega
   ·exact hok j oM
 ·have hi2:i=p.fs.length:=by have:=xK hi2;omega
  subst hi2;have hbest:NJ p p.fs.length=kO p (p.fs.length-1):=by
   obtain⟨k,hk⟩:∃k,p.fs.length=k+1:=⟨p.fs.length-1,oM⟩;rw [hk];rfl
  rw [hbest];refine qb ?_;intros;exact qf ⟨_,rfl,rfl,_,.ok hok,rfl⟩
theorem fM{n:Int}(h1:0<=n)(h2:n<18446744073709551616):IntKind.u64.wrap n=n:=by
 simp [IntKind.wrap,IntKind.signed,IntKind.bits];omega
theorem ZU{a:Nat}(ha:a<256):(BitVec.ofInt 64 (a:Int)).toNat=a:=by
 rw [BitVec.ofInt_natCast,BitVec.toNat_ofNat,Nat.mod_eq_of_lt (by omega)]
theorem Kp{k:Nat}(hk:k<8):2^k<256:=Nat.pow_lt_pow_right oM hk
theorem iV{a b:Nat}(ha:a<256)(hb:b<256):a|||b<256:=Nat.or_lt_two_pow (n:=8) ha hb
theorem qpe{k:Nat}(hk:k<8):jU .shl .u64 1 .i64 (k:Int)=some (.int .u64 ((2^k:Nat):Int)):=by
 have h1:¬(k:Int)<0:=by omega
 have h2:=Kp hk;have h3:min (k:Int).toNat IntKind.u64.bits=k:=by
  show min k 64=k
  omega
 simp only [jU,if_neg h1,h3];rw [Int.one_mul,show (2:Int)^k=((2^k:Nat):Int) by push_cast;rfl];generalize 2^k=m at h2 ⊢;rw [fM (by omega) (by omega)]
theorem qtv{a b:Nat}(ha:a<256)(hb:b<256):jU .or .u64 (a:Int) .u64 (b:Int)=some (.int .u64 ((a|||b:Nat):Int)):=by
 have h:=iV ha hb;simp only [jU,ne_eq,not_true_eq_false,if_false,reduceIte];show some (C.int .u64 (IntKind.u64.wrap ((BitVec.ofInt 64 (a:Int)|||BitVec.ofInt 64 (b:Int)).toNat:Nat)))=_;rw [BitVec.toNat_or,ZU ha,ZU hb,fM (by omega) (by omega)]
theorem qpd{a k:Nat}(hk:k<8):jU .shr .u64 (a:Int) .i64 (k:Int)=some (.int .u64 ((a/2^k:Nat):Int)):=by
 have h1:¬(k:Int)<0:=by omega
 have h3:min (k:Int).toNat IntKind.u64.bits=k:=by
  show min k 64=k
  omega
 simp only [jU,if_neg h1,h3];rw [Int.fdiv_eq_ediv_of_nonneg _ (Int.le_of_lt (Int.pow_pos (by omega))),show (2:Int)^k=((2^k:Nat):Int) by push_cast;rfl];rfl
theorem qb5{a:Nat}(ha:a<256):jU .and .u64 (a:Int) .u64 1=some (.int .u64 ((a % 2:Nat):Int)):=by
 simp only [jU,ne_eq,not_true_eq_false,if_false,reduceIte];show some (C.int .u64 (IntKind.u64.wrap ((BitVec.ofInt 64 (a:Int)&&& BitVec.ofInt 64 ((1:Nat):Int)).toNat:Nat)))=_;rw [BitVec.toNat_and,ZU ha,ZU (by omega),Nat.and_one_is_mod,fM (by omega) (by omega)]
def Yn(W i:Nat):Nat:=(BitVec.ofInt 64 (W:Int)&&& ~~~ BitVec.ofInt 64 ((2^i:Nat):Int)).toNat
theorem VL{W i:Nat}(hW:W<256):Yn W i<256:=by
 unfold Yn;rw [BitVec.toNat_and,ZU hW];exact Nat.lt_of_le_of_lt Nat.and_le_left hW
theorem DR{W i j:Nat}(hW:W<256)(hi:i<8)(hj:j<8)(hne:j≠i)(h:W.testBit j=true):(Yn W i).testBit j=true:=by
 unfold Yn;rw [BitVec.toNat_and,ZU hW,Nat.testBit_and,h,Bool.true_and,BitVec.testBit_toNat,BitVec.getLsbD_not,<-BitVec.testBit_toNat,ZU (Kp hi),Nat.testBit_two_pow_of_ne (fun e=>hne e.symm)];simp;omega
theorem IP{W i:Nat}(hW:W<256):jU .andNot .u64 (W:Int) .u64 ((2^i:Nat):Int)=some (.int .u64 (Yn W i:Int)):=by
 have h:=VL (i:=i) hW;simp only [jU,ne_eq,not_true_eq_false,if_false,reduceIte];show some (C.int .u64 (IntKind.u64.wrap (Yn W i:Nat)))=_;rw [fM (by omega) (by omega)]
theorem qtq{W i:Nat}:(((W/2^i % 2:Nat):Int)==0)=!W.testBit i:=by
 rw [Nat.testBit_eq_decide_div_mod_eq];rcases Nat.mod_two_eq_zero_or_one (W/2^i) with h|h<;>rw [h]<;>rfl
theorem LC{k:Nat}(hk:k<8):IntKind.u64.wrap (1*2^min (k:Int).toNat IntKind.u64.bits)=((2^k:Nat):Int):=by
 have h:=qpe hk;simp only [jU,if_neg (show¬(k:Int)<0 by omega),zoi,C.int.injEq,true_and] at h;exact h
theorem TH{a b:Nat}(ha:a<256)(hb:b<256):IntKind.u64.wrap ((BitVec.ofInt IntKind.u64.bits (a:Int)|||BitVec.ofInt IntKind.u64.bits (b:Int)).toNat:Nat)=((a|||b:Nat):Int):=by
 have h:=qtv ha hb;simp only [jU,ne_eq,not_true_eq_false,if_false,reduceIte,zoi,C.int.injEq,true_and] at h;exact h
theorem qca{a k:Nat}(hk:k<8):(a:Int).fdiv (2^min (k:Int).toNat IntKind.u64.bits)=((a/2^k:Nat):Int):=by
 have h:=qpd (a:=a) hk;simp only [jU,if_neg (show¬(k:Int)<0 by omega),zoi,C.int.injEq,true_and] at h;exact h
theorem TI{a:Nat}(ha:a<256):IntKind.u64.wrap ((BitVec.ofInt IntKind.u64.bits (a:Int)&&& BitVec.ofInt IntKind.u64.bits 1).toNat:Nat)=((a % 2:Nat):Int):=by
 have h:=qb5 ha;simp only [jU,ne_eq,not_true_eq_false,if_false,reduceIte,zoi,C.int.injEq,true_and] at h;exact h
theorem EZ{W i:Nat}(hW:W<256):IntKind.u64.wrap ((BitVec.ofInt IntKind.u64.bits (W:Int)&&& ~~~ BitVec.ofInt IntKind.u64.bits ((2^i:Nat):Int)).toNat:Nat)=((Yn W i:Nat):Int):=by
 have h:=IP (i:=i) hW;simp only [jU,ne_eq,not_true_eq_false,if_false,reduceIte,zoi,C.int.injEq,true_and] at h;exact h
abbrev uT:List (Nat × Nat):=[(0,0),(1,0),(2,0),(3,0),(4,0)]
abbrev VJ(p:Pic)(A:List Bool)(all:List (List qc))(k i:Nat)(D:List FD):Bx:=[(0,.cells [.own 5 0 i 2]),(1,.cells [.f (.c (.int .i64 k))]),(2,.cells [.f (.sl 1 all.length (all.map qM))]),(3,.cells [.fptr (Z9 p (qo p).length ((qo p).map yL) A)]),(4,.cells [.fn 70 uT]),(5,.data D)]
def n5(p:Pic)(all:List (List qc))(m:Nat):Prop:=∃L,LegL p.gap all L/\L.length=m
abbrev V3(B:Nat):DV:=.one (.f (.c (.int .u64 (B:Int))))
inductive TryR (p:Pic) (A:List Bool) (all:List (List qc)) (n:Nat) (l:List qc) (mst:Nat):DV->Bx->Nat->Prop
 |found (k:Nat) (D:List FD) (hl:(yz p.gap all n l).length=all.length) (hD:xN D 0 (all.length*2)=some ((yz p.gap all n l).flatMap qh)):TryR p A all n l mst (.tup [.bool true,V3 0]) (VJ p A all k all.length D) 6
 |fail (k B:Nat) (D:List FD) (hB:B<256) (h1:mst<=k) (h2:l.length<=k) (h3:k<all.length) (ha:n5 p all k) (hF:JJ p.gap all k B l) (hD:xN D 0 (l.length*2)=some (l.flatMap qh)):TryR p A all n l mst (.tup [.bool false,V3 B]) (VJ p A all k l.length D) 6
theorem gQ{α:Type}{D q r:List α}{n i m:Nat}(h:xN D 0 n=some q)(h2:xN q i m=some r):xN D i m=some r:=by
 obtain⟨h1,rfl⟩:=zW h;obtain⟨h3,rfl⟩:=zW h2;rw [List.drop_zero] at *;rw [List.length_take] at h3;rw [yE (by omega),List.drop_take,List.take_take];congr 2;omega
theorem I9{p:Pic}{A:List Bool}{all:List (List qc)}(ha8:1<=all.length/\all.length<=8)(hs:∀c∈all,(∀q∈c,qC 1000000 q)/\c.length<1000000):∀(n:Nat) {l:List qc} {i mst:Nat} {D:List FD},l.length=i->i+n=all.length->LegL p.gap all l->mst<all.length->n5 p all mst->xN D 0 (i*2)=some (l.flatMap qh)->
 AA 70 5 [.one (.ptr 0 0),.one (.ptr 1 0),.one (.ptr 2 0),.one (.ptr 3 0),.one (.ptr 4 0)] (VJ p A all mst i D) 6 (TryR p A all n l mst)
 |0,l,i,mst,D,hil,hl,hL,hm,hat,hD=>by
  subst hil;refine KG HV rfl oM fun Z β H lo=>?_;obtain⟨m1,hm1⟩:∃m1:Nat,max (mst:Int) (l.length:Int)=(m1:Int):=⟨max mst l.length,oM⟩;have b1:((l.length:Int)==(all.length:Int))=true:=by
   have:l.length=all.length:=by omega
   rw [this];simp
  refine qU ?_;intros;refine mT ?_;refine qU ?_;intros;rw [hm1];refine qe rfl (fun _=>?_) (fun h=>by cases h);refine qU ?_;intros;have hla:l.length=all.length:=by omega
  have hr:=TryR.found (p:=p) (A:=A) (all:=all) (n:=0) (l:=l) (mst:=mst) m1 D hla (by rw [<-hla];exact hD);rw [<-hla] at hr;exact qf ⟨_,rfl,rfl,_,zH _,hr⟩
 |n+1,l,i,mst,D,hil,hl,hL,hm,hat,hD=>by
  have hls:∀q∈l,qC 1000000 q:=fun q hq=>by
   obtain⟨j,hj⟩:=List.getElem?_of_mem hq;have h1:=hL.ch j q hj;cases hc:all[j]? with
   |none=>rw [hc] at h1;cases h1
   |some c=>rw [hc] at h1;exact (hs c (zmg hc)).1 q h1
  have ih:=fun (c:qc) {k:Nat} {D:List FD} (hf:wz p.gap l c l.length=true) (hc:c∈(all[l.length]?).getD [])=>I9 (p:=p) (A:=A) ha8 hs n (l:=l++[c]) (i:=i+1) (mst:=k) (D:=D) (by rw [List.length_append,List.length_singleton];omega) (by omega) (hL.snoc (by omega) hc hf);subst hil;refine KG HV rfl oM fun Z β H lo=>?_;obtain⟨m1,hm1⟩:∃m1:Nat,max (mst:Int) (l.length:Int)=(m1:Int):=⟨max mst l.length,oM⟩;have hat1:n5 p all m1:=by
   by_cases h:mst<=l.length
   ·rw [show m1=l.length by omega];exact⟨l,hL,rfl⟩
   ·rw [show m1=mst by omega];exact hat
  have b1:((l.length:Int)==(all.length:Int))=false:=by
   have:¬(l.length:Int)=all.length:=by omega
   simpa using this
  obtain⟨C,hC⟩:∃r,all[l.length]?=some r:=⟨_,zge oM⟩;have hCs:=hs C (zmg hC);have hCg:(all[l.length]?).getD []=C:=by rw [hC];rfl
  have e0:xN (all.map qM) (l.length*1) 1=some [qM C]:=Vs hC;have hlf:=xb l;have hi8:l.length<8:=by omega
  refine qU ?_;intros;refine mT ?_;refine qU ?_;intros;rw [hm1];refine qe rfl (fun h=>by cases h) (fun _=>?_);clear b1;refine qb ?_;intros;refine ql (fun m E S nk=>∃(j B k:Nat) (D:List FD),j+m=C.length/\B<256/\mst<=k/\l.length<=k/\k<all.length/\n5 p all k/\jl p.gap all k B l (C.take j)/\xN D 0 (l.length*2)=some (l.flatMap qh)/\E=[(0,.one (.ptr 0 0)),(1,.one (.ptr 1 0)),(2,.one (.ptr 2 0)),(3,.one (.ptr 3 0)),(4,.one (.ptr 4 0)),(7,.int l.length),(8,V3 B),(27,qz C),(28,.int C.length),(29,.int j)]/\S=VJ p A all k l.length D/\nk=6)
   ⟨C.length,_,_,_,[],?wk,0,0,m1,D,oM,oM,oM,oM,oM,hat1,jl.nil,hD,rfl,rfl,rfl⟩ ?_
  case wk=>exact⟨za,⟨rfl,rfl,rfl,rfl,rfl,rfl,rfl,rfl,rfl,rfl,rfl,rfl,rfl,rfl,rfl,rfl,rfl,rfl,trivial⟩,rfl,rfl⟩
  clear hD hat1 hm1 hat;clear D m1;rintro m E S nk ⟨j,B,k,D,hj,hB,hmk,hlk,hkN,hat,hF,hD,rfl,rfl,rfl⟩;refine qb ?_;intros;refine qe rfl (fun hj2=>?_) (fun hj2=>?_)
  ·have hj2:j<C.length:=by have:=xC hj2;omega
   obtain⟨q,hq⟩:∃r,C[j]?=some r:=⟨_,zge hj2⟩;have e1:=xd hq;have hqs:=hCs.1 q (zmg hq);have htk:C.take (j+1)=C.take j++[q]:=J6 hq;refine qb ?_;intros;refine kz 6 (fs:=qh q) rfl ?_;refine ql (fun m E S nk=>∃k2:Nat,k2+m=l.length/\(∀(j:Nat) b,j<k2->l[j]?=some b->ju p.gap l.length q j b=false)/\E=[(0,.one (.ptr 0 0)),(1,.one (.ptr 1 0)),(2,.one (.ptr 2 0)),(3,.one (.ptr 3 0)),(4,.one (.ptr 4 0)),(7,.int l.length),(8,V3 B),(27,qz C),(28,.int C.length),(29,.int j),(10,.one (.fptr (qh q))),(33,.one (.own 5 0 l.length 2)),(34,.int l.length),(35,.int k2)]/\S=VJ p A all k l.length D/\nk=6)
    ⟨l.length,_,_,_,[],?wk2,0,oM,fun j b hj=>oM,rfl,rfl,rfl⟩ ?_
   case wk2=>exact⟨za,⟨rfl,rfl,rfl,rfl,rfl,rfl,rfl,rfl,rfl,rfl,rfl,rfl,rfl,rfl,rfl,rfl,rfl,rfl,trivial⟩,rfl,rfl⟩
   rintro m2 E S nk ⟨k2,hk2m,hok,rfl,rfl,rfl⟩;refine qb ?_;intros;refine qe rfl (fun hk2=>?_) (fun hk2=>?_)
   ·have hk2:k2<l.length:=by have:=xC hk2;omega
    obtain⟨b,hb⟩:∃r,l[k2]?=some r:=⟨_,zge hk2⟩;have hbs:=hls b (zmg hb);have e2:xN D ((k2:Int).toNat*2) 2=some (qh b):=gQ hD (xd hb);have hcl:=rS (p:=p) (A:=A) (i:=k2) (k:=l.length) oM oM hbs hqs;refine qb ?_;intros;refine qk rfl rfl hcl ?_;rintro _ rfl;refine qb ?_;intros;refine qe rfl (fun hd=>?_) (fun hd=>?_)
    ·refine qb ?_;intros;rw [LC (k:=k2) (by omega),TH hB (Kp (by omega))];refine⟨m-1,oM,_,_,_,[],?wk3,j+1,B|||2^k2,k,D,oM,iV hB (Kp oM),hmk,hlk,hkN,hat,?_,hD,rfl,rfl,rfl⟩
     case wk3=>exact⟨za,⟨rfl,rfl,rfl,rfl,rfl,rfl,rfl,rfl,rfl,rfl,rfl,rfl,rfl,rfl,rfl,rfl,rfl,rfl,trivial⟩,rfl,rfl⟩
     rw [htk];refine jl.clash (j:=k2) (hF.mono (Nat.le_refl _) fun x _ hx=>?_) hb ?_ hd
     ·rw [Nat.testBit_or,hx,Bool.true_or]
     ·rw [Nat.testBit_or,Nat.testBit_two_pow_self,Bool.or_true]
    ·refine qb ?_;intros;refine⟨m2-1,oM,_,_,_,[],?wk4,k2+1,oM,fun x b' hx hb'=>?_,rfl,rfl,rfl⟩
     case wk4=>exact⟨za,⟨rfl,rfl,rfl,rfl,rfl,rfl,rfl,rfl,rfl,rfl,rfl,rfl,rfl,rfl,rfl,rfl,rfl,rfl,trivial⟩,rfl,rfl⟩
     by_cases hxk:x=k2
     ·subst hxk;rw [hb] at hb';obtain rfl:=zsi hb';rw [XF];exact hd
     ·exact hok x b' oM hb'
   ·have hk2:k2=l.length:=by have:=xK hk2;omega
    subst hk2;have hfree:wz p.gap l q l.length=true:=WI.2 fun x b hb=>hok x b (zgs hb).1 hb;have hqC:q∈(all[l.length]?).getD []:=by rw [hCg];exact zmg hq
    have hstep:QO p.gap all n l q=yz p.gap all n (l++[q]):=by rw [QO,if_pos hfree]
    have hsnf:(l++[q]).flatMap qh=l.flatMap qh++qh q:=by simp
    have hfl1:(l.flatMap qh++qh q).length=(l.length+1)*2:=by rw [List.length_append,hlf,show (qh q).length=2 from rfl];omega
    refine qb ?_;intros;refine qV (k:=5) (m:=1) (q:=qh q) rfl rfl rfl hD ⟨rfl,rfl,_,rfl,rfl⟩ oM oM (by decide) rfl ?_;refine qb ?_;intros;refine rG (E0:=[(0,.one (.ptr 0 0)),(1,.one (.ptr 1 0)),(2,.one (.ptr 2 0)),(3,.one (.ptr 3 0)),(4,.one (.ptr 4 0)),(7,.int l.length),(8,V3 B),(27,qz C),(28,.int C.length),(29,.int j),(56,.one (.fn 70 uT))]) (S0:=VJ p A all k (l.length+1) (l.flatMap qh++qh q)) (n0:=6) (a:=5) [(5,7)] ⟨za,⟨rfl,rfl,rfl,rfl,rfl,rfl,rfl,rfl,rfl,rfl,rfl,rfl,rfl,rfl,rfl,rfl,rfl,rfl,trivial⟩,rfl,rfl⟩ rfl F8 rfl rfl rfl ⟨za,trivial,rfl,rfl⟩ (ih q hfree hqC hkN hat (by rw [hsnf];exact qH _ hfl1) _ _ _ _ _ (Nat.le_refl _)) ?_;intro d S' nk' hR;cases hR with
    |found k' D' hlen hsub=>
     refine qb ?_;intros;refine qe rfl (fun _=>?_) (fun h=>by cases h);refine qb ?_;intros;have hCf:=jl.step (n:=n) hL (by omega) hkN hF fun c hc=>by rw [hCg];exact List.mem_of_mem_take hc
     have hs1:yz p.gap all (n+1) l=yz p.gap all n (l++[q]):=by
      rw [Kj,hCg,NT hq hCf (by rw [hstep];exact hlen),hstep]
     exact qf ⟨_,rfl,rfl,_,zH _,.found k' D' (by rw [hs1];exact hlen) (by rw [hs1];exact hsub)⟩
    |fail k' W D' hW hk1 hk2 hk3 hat' hFS hsub=>
     rw [List.length_append,List.length_singleton] at hk2 hsub;rw [List.length_append,List.length_singleton];have hD2:xN D' 0 (l.length*2)=some (l.flatMap qh):=by
      refine gQ hsub ?_;rw [hsnf,yE (by rw [hfl1];omega),List.drop_zero,<-hlf,List.take_left]
     have hF2:jl p.gap all k' B l (C.take j):=hF.mono hk1 fun _ _ h=>h;refine qb ?_;intros;refine qe rfl (fun h=>by cases h) (fun _=>?_);refine qb ?_;intros;refine YT (o':=0) (n':=l.length) rfl rfl rfl (Nat.zero_le _) oM oM oM ?_;refine qb ?_;intros;rw [qca (a:=W) (k:=l.length) hi8,TI (a:=W/2^l.length) (Nat.lt_of_le_of_lt (Nat.div_le_self _ _) hW),qtq];refine qe rfl (fun hb=>?_) (fun hb=>?_)
     ·refine qb ?_;intros;exact qf ⟨_,rfl,rfl,_,zH _,.fail k' W D' hW (by omega) (by omega) hk3 hat' (hFS.drop (by simpa using hb)) hD2⟩
     ·refine qb ?_;intros;rw [LC (k:=l.length) hi8,EZ (i:=l.length) hW,TH hB (VL hW)];refine⟨m-1,oM,_,_,_,[],?wk5,j+1,B|||Yn W l.length,k',D',oM,iV hB (VL hW),oM,oM,hk3,hat',?_,hD2,rfl,rfl,rfl⟩
      case wk5=>exact⟨za,⟨rfl,rfl,rfl,rfl,rfl,rfl,rfl,rfl,rfl,rfl,rfl,rfl,rfl,rfl,rfl,rfl,rfl,rfl,trivial⟩,rfl,rfl⟩
      rw [htk];refine jl.fail (hF2.mono (Nat.le_refl _) fun x _ hx=>?_) hFS fun x hx hxW=>?_
      ·rw [Nat.testBit_or,hx,Bool.true_or]
      ·rw [Nat.testBit_or,DR hW hi8 (by omega) (by omega) hxW,Bool.or_true]
  ·have hj2:j=C.length:=by have:=xK hj2;omega
   subst hj2;rw [List.take_length] at hF;refine qb ?_;intros;exact qf ⟨_,rfl,rfl,_,zH _,.fail k B D hB hmk hlk hkN hat (hF.end hC hlk) hD⟩
theorem uF{p:Par}{n:Nat}{Q:Exit->qp->Bx->Nat->Prop}{E:qp}{S:Bx}{nk:Nat}{s:SC}(k m:Nat){l:List FD}(hk:lk S k=some (.data l))(h:DPS p n s Q E (put k (.data (l.take m)) S) nk):DPS p n s Q E S nk:=.mk fun Z β H F hS hE=>by
 refine h.run Z β H F ?_ hE;refine⟨hS.wf,hS.lo,hS.z,hS.zlo,hS.zz,hS.glob,hS.nk,hS.bd,fun κ x hκ=>?_,fun κ κ' x x' b N N' hj hj'=>?_,hS.blo,hS.anch,hS.ancn⟩
 ·rw [Zt hk rfl] at hκ;split at hκ
  ·rename_i e;split at hκ
   ·rename_i e2;obtain rfl:=v8 e e2;obtain rfl:=zsi hκ;obtain⟨s,hs,hbx⟩:=hS.box (k,0) _ (xV hk rfl);refine⟨s,hs,?_⟩;cases s with
    |nil=>
     have:l.length=0:=hbx;show (l.take m).length=0;rw [List.length_take,this];simp
    |blk b N=>
     obtain⟨h1,h2,h3,cs,rest,h4,h5,h6⟩:=hbx;refine⟨h1,h2,h3,cs.take m,cs.drop m++rest,?_,?_,qg.take h6 m⟩
     ·rw [<-List.append_assoc,List.take_append_drop];exact h4
     ·rw [<-List.append_assoc,List.take_append_drop];exact h5
   ·cases hκ
  ·exact hS.box κ x hκ
 ·have f:∀i z,lk (put k (.data (l.take m)) S) i=some z->∃z',lk S i=some z':=fun i z hz=>by
   rw [yF] at hz;split at hz
   ·cases hl:lk S i with
    |none=>rw [hl] at hz;cases hz
    |some q=>exact⟨q,rfl⟩
   ·exact⟨z,hz⟩
  obtain⟨z1,e1⟩:=f _ x hj;obtain⟨z2,e2⟩:=f _ x' hj';exact hS.inj κ κ' z1 z2 b N N' e1 e2
def X8(l:List FD)(k:Nat):List FD:=l.take k++List.replicate (l.length-k) (.c .nils)
theorem GG{l:List FD}{k:Nat}{x:FD}(h:l[k]?=some x):(X8 l k).set k x=X8 l (k+1):=by
 have hk:=(zgs h).1;have h1:(l.take k).length=k:=by rw [List.length_take];omega
 unfold X8;rw [List.set_append_right _ _ (by omega),h1,Nat.sub_self,show l.length-k=(l.length-(k+1))+1 by omega,List.replicate_succ,List.set_cons_zero,List.take_add_one,h];simp
theorem GI{l:List FD}{k:Nat}(h:k<=l.length):(X8 l k).length=l.length:=by
 unfold X8;rw [List.length_append,List.length_take,List.length_replicate];omega
theorem j9{p:Pic}{n j:Nat}(h:j<n):(zo p n)[j]?=some (jk p j):=by simp [zo,h]
theorem pK{p:Pic}{n j:Nat}{L:List qc}(h:LegL p.gap (zo p n) L)(hj:j<L.length):¬(kO p j).length<=j:=by
 have hn:=h.le;rw [zn] at hn;have hl:(L.take (j+1)).length=j+1:=by rw [List.length_take];omega
 have h1:LegL p.gap (zo p (j+1)) (L.take (j+1)):=(h.take (j+1)).all (by rw [hl,zn];omega) fun i hi=>by
  rw [hl] at hi;rw [j9 (by omega),j9 (by omega)]
 have h2:=JO h1 (by rw [hl,zn]) (n:=j+1) (i:=0) (by rw [zn];omega);rw [zn,List.take_zero] at h2;unfold kO;omega
theorem T8{p:Pic}(h1:1<=p.fs.length)(hl:(yz p.gap (zo p p.fs.length) p.fs.length []).length=p.fs.length):PlcR p (yz p.gap (zo p p.fs.length) p.fs.length [],(p.fs.length:Int),0):=by
 have hs:=(QP (LegL.nil p.gap (zo p p.fs.length)) (n:=p.fs.length) (by rw [zn];simp) (by rw [hl,zn])).1;have he:yz p.gap (zo p p.fs.length) p.fs.length []=kO p (p.fs.length-1):=by
  obtain⟨k,hk⟩:∃k,p.fs.length=k+1:=⟨p.fs.length-1,oM⟩;rw [hk];rfl
 have hok:=PlcR.ok (p:=p) fun j hj=>pK hs oM;rw [<-he,hl] at hok;exact hok
theorem OE{p:Pic}{k B:Nat}(hk:k<p.fs.length)(ha:n5 p (zo p p.fs.length) k)(hF:JJ p.gap (zo p p.fs.length) k B []):PlcR p ([],(k:Int),150):=by
 obtain⟨L,hL,hlen⟩:=ha;refine .bad k hk ?_ fun j hj=>pK hL oM;rcases gS (g:=p.gap) (all:=zo p (k+1)) (n:=k+1) (l:=[]) (by rw [zn];simp) with h|h
 ·exfalso;rw [zn] at h;have hs:=(QP (LegL.nil p.gap (zo p (k+1))) (n:=k+1) (by rw [zn];simp) (by rw [h,zn])).1;have h2:LegL p.gap (zo p p.fs.length) (yz p.gap (zo p (k+1)) (k+1) []):=hs.all (by rw [h,zn];omega) fun i hi=>by
   rw [h] at hi;rw [j9 (by omega),j9 (by omega)]
  exact hF _ h2 (by omega) fun j hj=>by simp at hj
 ·unfold kO;rw [h];simp
def T9(r:cA):DV:=.tup [qz r.1,.int r.2.1,.int r.2.2]
theorem Jy{p:Pic}(hFi:Qq p)(hFe:X3 p):DK 35 [yi p] fun d=>∃r,(qx p=true->PlcR p r)/\(qx p=false->r=([],0,150))/\d=T9 r:=by
 refine qD qbC rfl qX fun Z0 lo=>?_;have hcv:=W1 hFi;refine js ?_;refine jt wi (fun base=>?_);refine Xs rfl ?_;refine zJ rfl ?_;refine zJ rfl ?_;refine zJ rfl ?_;refine yI ?_;refine kz 0 (fs:=y7 p) rfl ?_;refine qb ?_;intros;refine qk rfl rfl hcv ?_;rintro _ rfl;cases hv:qx p with
 |false=>
  refine qb ?_;intros;refine qe rfl (fun _=>?_) (fun h=>by cases h);refine qb ?_;intros;refine bP 2 2 rfl ?_;exact qf ⟨_,rfl,rfl,([],0,150),fun h=>(by cases h),fun _=>rfl,rfl⟩
 |true=>
  have hl8:=(qL hv).1;refine qb ?_;intros;refine qe rfl (fun h=>by cases h) (fun _=>?_);refine qb ?_;intros;refine qk rfl rfl (m6 hv) ?_;rintro _ ⟨A,hA,rfl⟩;refine qb ?_;intros;refine MJ (n:=p.fs.length) (m:=p.fs.length) [.c .nils] rfl rfl ⟨rfl,rfl,trivial⟩ rfl (by decide) (Nat.le_refl _) oM oM ?_;refine qb ?_;intros;have hal:=zn p p.fs.length;have hml:((zo p p.fs.length).map qM).length=p.fs.length:=by rw [List.length_map,hal]
  refine ql (fun m E S nk=>∃i:Nat,i+m=p.fs.length/\E=[(5,.one (.ptr 1 0)),(6,.one (.ptr 3 0)),(23,.int p.fs.length),(24,.int i)]/\S=[(1,.cells [.fptr (Z9 p (qo p).length ((qo p).map yL) A)]),(2,.data (X8 ((zo p p.fs.length).map qM) i)),(3,.cells [.own 2 0 p.fs.length 1])]/\nk=4)
   ⟨p.fs.length,_,_,_,[],?wk,0,oM,rfl,rfl,rfl⟩ ?_
  case wk=>exact⟨za,⟨rfl,rfl,rfl,by rw [X8,hml,Wn];rfl,rfl,rfl,rfl,rfl,rfl,trivial⟩,rfl,rfl⟩
  rintro m E S nk ⟨i,hi,rfl,rfl,rfl⟩;refine qb ?_;intros;refine qe rfl (fun hi2=>?_) (fun hi2=>?_)
  ·have hi2:i<p.fs.length:=by have:=xC hi2;omega
   have hx:((zo p p.fs.length).map qM)[i]?=some (qM (jk p i)):=by rw [List.getElem?_map,j9 hi2];rfl
   have hset:=GG hx;refine qb ?_;intros;refine qk rfl rfl (D9 hv hFe hA hi2) ?_;rintro _ rfl;refine qb ?_;intros;refine Qg (k:=2) (o:=i) (l:=[.f (qM (jk p i))]) rfl rfl rfl rfl rfl (show i+1<=(X8 ((zo p p.fs.length).map qM) i).length by rw [GI (by omega),hml];omega) rfl ?_;rw [show Zb (.data (X8 ((zo p p.fs.length).map qM) i)) i [.f (qM (jk p i))]=.data (X8 ((zo p p.fs.length).map qM) (i+1)) from congrArg Bk.data hset];refine qb ?_;intros;refine⟨m-1,oM,_,_,_,[],?wk2,i+1,oM,rfl,rfl,rfl⟩
   case wk2=>exact⟨za,⟨rfl,rfl,rfl,rfl,rfl,rfl,rfl,rfl,rfl,trivial⟩,rfl,rfl⟩
  ·have hi2:i=p.fs.length:=by have:=xK hi2;omega
   subst hi2;have hfil:X8 ((zo p p.fs.length).map qM) p.fs.length=(zo p p.fs.length).map qM:=by rw [X8,hml,List.take_of_length_le (by omega)];simp
   rw [hfil];have hfl:((zo p p.fs.length).map qM).length=p.fs.length*1:=by omega
   refine xt 2 rfl qO qO ?_;refine ja ?_;refine js ?_;refine jt wi (fun base=>?_);refine Xs rfl ?_;refine yI ?_;refine mS 4 0 2 rfl rfl ?_;refine qb ?_;intros;have htry:=I9 (p:=p) (A:=A) (all:=zo p p.fs.length) (by rw [hal];exact hl8) (fun c hc=>by
    obtain⟨k,hk,rfl⟩:=List.mem_map.1 hc;exact YB hv k) p.fs.length (l:=[]) (i:=0) (mst:=0) (D:=[]) rfl (by rw [hal];omega) (LegL.nil _ _) (by rw [hal];omega) ⟨[],LegL.nil _ _,rfl⟩ rfl
   refine rG (E0:=[(8,.one (.ptr 0 0)),(9,.one (.ptr 1 0)),(36,.one (.fn 70 uT))]) (S0:=VJ p A (zo p p.fs.length) 0 0 []) (n0:=6) (a:=5) [(0,4),(1,6),(2,3),(3,1),(4,7),(5,5)] ⟨za,⟨rfl,rfl,rfl,rfl,rfl,rfl,by rw [hal];rfl,rfl,rfl,rfl,rfl,rfl,rfl,rfl,rfl,rfl,rfl,rfl,trivial⟩,rfl,rfl⟩ rfl F8 rfl rfl rfl ⟨za,trivial,rfl,rfl⟩ (htry _ _ _ _ _ (Nat.zero_le _)) ?_;intro d S' nk' hR;cases hR with
   |found k D hlen hsub=>
    rw [hal] at hlen hsub ⊢;have hpl:=T8 hl8.1 hlen;have hfl2:=xb (yz p.gap (zo p p.fs.length) p.fs.length []);rw [hlen] at hfl2;obtain⟨hs1,hs2⟩:=zW hsub;rw [List.drop_zero] at hs2;have hpd:qz (yz p.gap (zo p p.fs.length) p.fs.length [])=.one (.f (.sl 2 p.fs.length (D.take (p.fs.length*2)))):=by rw [qz,hlen,hs2]
    have hfl3:(D.take (p.fs.length*2)).length=p.fs.length*2:=by rw [<-hs2];exact hfl2
    refine qb ?_;intros;refine qe rfl (fun h=>by cases h) (fun _=>?_);refine qb ?_;intros;refine qr (qd (k:=2) rfl (qd (k:=3) rfl (qd (k:=4) rfl (qu _)))) (qd (k:=5) rfl (qu _)) ?_;refine uF 5 (p.fs.length*2) rfl ?_;refine xt 5 rfl qO qO ?_;refine qf ⟨_,rfl,rfl,_,fun _=>hpl,fun h=>(by cases h),?_⟩;rw [T9,hpd];rfl
   |fail k B D hB h1 h2 h3 ha hF hD=>
    rw [hal] at h3;have hpl:=OE h3 ha hF;refine qb ?_;intros;refine qe rfl (fun _=>?_) (fun h=>by cases h);refine qb ?_;intros;refine bP 2 2 rfl ?_;exact qf ⟨_,rfl,rfl,_,fun _=>hpl,fun h=>(by cases h),rfl⟩
def uX(a:qc):List qc:=(List.range 9).flatMap fun (y:Nat)=>(List.range 9).map fun (x:Nat)=>(a.1+(x:Int),a.2+(y:Int))
theorem IA(a:qc):(uX a).length=81:=rfl
theorem H9{a p:qc}(h:xL a (a.1+8,a.2+8) p):p∈uX a:=by
 obtain⟨p1,p2⟩:=p;unfold xL at h;simp only at h;simp only [uX,List.mem_flatMap,List.mem_map,List.mem_range,zpi];exact⟨(p2-a.2).toNat,oM,(p1-a.1).toNat,oM,oM,oM⟩
theorem n9{f:Ft}{a:qc}(hv:x8 f=true)(h:∀q∈f.pts,xL a (a.1+8,a.2+8) q):(xe f).length<=256:=by
 have:=wC (JQ hv) (b:=uX a) fun p hp=>H9 (XD h p hp);rw [IA] at this;omega
theorem CW{x:Rw}{w h:Int}(hx:x.ok)(hw:0<w)(hh:0<h):∀q∈(jB x w h).pts,xL (fA x w,fB x h) (fA x w+8,fB x h+8) q:=by
 obtain⟨⟨_,hx1,hx2⟩,hx3,hx4,_⟩:=hx;unfold vM at *;have t1:0<=x.x1.tmod w/\x.x1.tmod w<w:=⟨Int.tmod_nonneg _ hx1.1,Int.tmod_lt_of_pos _ hw⟩;have t2:0<=x.x2.tmod h/\x.x2.tmod h<h:=⟨Int.tmod_nonneg _ hx2.1,Int.tmod_lt_of_pos _ hh⟩;have t3:0<=x.x3.tmod 8/\x.x3.tmod 8<8:=⟨Int.tmod_nonneg _ hx3.1,Int.tmod_lt_of_pos _ oM⟩;have t4:0<=x.x4.tmod 8/\x.x4.tmod 8<8:=⟨Int.tmod_nonneg _ hx4.1,Int.tmod_lt_of_pos _ oM⟩;have hR:fA x w<=fR x w/\fR x w<=fA x w+8:=by unfold fR fA;omega
 have hL:fB x h<=fL x h/\fL x h<=fB x h+8:=by unfold fL fB;omega
 have b1:xL (fA x w,fB x h) (fA x w+8,fB x h+8) (fA x w,fB x h):=by unfold xL;simp only;omega
 have b2:xL (fA x w,fB x h) (fA x w+8,fB x h+8) (fR x w,fL x h):=by unfold xL;simp only;omega
 have b3:xL (fA x w,fB x h) (fA x w+8,fB x h+8) (fA x w,fL x h):=by unfold xL;simp only;omega
 have b4:xL (fA x w,fB x h) (fA x w+8,fB x h+8) (fR x w,fB x h):=by unfold xL;simp only;omega
 intro q hq;unfold jB at hq;split at hq
 ·simp only [List.mem_singleton] at hq;subst hq;exact b1
 ·split at hq
  ·simp only [List.mem_append,List.mem_cons,List.not_mem_nil,or_false] at hq;rcases hq with (rfl|rfl)|hq
   ·exact b1
   ·exact b2
   ·split at hq
    ·simp only [List.mem_singleton] at hq;subst hq;exact b3
    ·cases hq
  ·simp only [List.mem_append,List.mem_cons,List.not_mem_nil,or_false] at hq;rcases hq with (rfl|rfl|rfl)|hq
   ·exact b1
   ·exact b4
   ·exact b2
   ·split at hq
    ·simp only [List.mem_singleton] at hq;subst hq;exact b3
    ·cases hq
theorem CV{x:Rw}{w h:Int}:(jB x w h).pts.length<=4:=by
 unfold jB;split
 ·exact Nat.le_add_left 1 3
 ·split
  ·split<;>simp
  ·split<;>simp
theorem CG{x:Raw}{f:Ft}(h:f∈mF x):f=s7\/∃r∈x.f,f=jB r (mW x) (mH x):=by
 unfold mF at h;split at h
 ·simp only [List.mem_singleton] at h;exact .inl h
 ·rename_i l hl;obtain⟨r,hr,rfl⟩:=List.mem_map.1 h;exact .inr ⟨r,List.mem_of_mem_take hr,rfl⟩
theorem CH(x:Raw):1<=(mF x).length/\(mF x).length<=4:=by
 unfold mF;split
 ·decide
 ·rename_i l hl;refine⟨?_,?_⟩
  ·cases h:(x.f.take 4).map (fun r=>jB r (mW x) (mH x)) with
   |nil=>exact absurd h hl
   |cons=>simp
  ·rw [List.length_map,List.length_take];omega
theorem UD{x:Raw}(hx:x.ok):(12<=mW x/\mW x<=36)/\(12<=mH x/\mH x<=36)/\2<=mG x/\mG x<=4:=by
 obtain⟨⟨hw,hh,hg⟩,hf⟩:=hx;unfold vM at hw hh hg;have t1:0<=x.w.tmod 13/\x.w.tmod 13<13:=⟨Int.tmod_nonneg _ hw.1,Int.tmod_lt_of_pos _ oM⟩;have t2:0<=x.h.tmod 9/\x.h.tmod 9<9:=⟨Int.tmod_nonneg _ hh.1,Int.tmod_lt_of_pos _ oM⟩;have t3:0<=x.g.tmod 3/\x.g.tmod 3<3:=⟨Int.tmod_nonneg _ hg.1,Int.tmod_lt_of_pos _ oM⟩;unfold mW mH mG;omega
theorem CF(x:Raw):Qq (wK x):=by
 refine⟨?_,fun f hf=>?_⟩
 ·have:=CH x;show (mF x).length<1000;omega
 ·rcases CG hf with rfl|⟨r,_,rfl⟩
  ·decide
  ·have:=CV (x:=r) (w:=mW x) (h:=mH x);omega
theorem p8{f:Ft}{q:qc}(h1:f.kind=1)(h2:f.pts=[q]):(xe f).length<=256:=by
 unfold xe;rw [if_pos h1,h2];exact Nat.le_add_left 1 255
theorem F3{x:Raw}(hx:x.ok):X3 (wK x):=fun f hf hv=>by
 have hb:=UD hx;rcases CG hf with rfl|⟨r,hr,rfl⟩
 ·exact p8 (q:=(1,1)) rfl rfl
 ·exact n9 hv (CW (hx.2 r hr) oM oM)
theorem KD:∀{l:List qc} {i:Nat} {q:qc},l[i]?=some q->(l.flatMap qh)[2*i]?=some (.c (.int .i64 q.1))/\(l.flatMap qh)[2*i+1]?=some (.c (.int .i64 q.2))
 |[],i,q,h=>by simp at h
 |y::l,0,q,h=>by
  simp at h;subst h;exact⟨rfl,rfl⟩
 |y::l,i+1,q,h=>by
  have ih:=KD (l:=l) (i:=i) (q:=q) (by simpa using h);exact ih
def Y7(q:qc):Ft:=⟨1,0,[q]⟩
end Go.Ag

namespace Go.Ag
open Go.Ab Go.Proofs
theorem PlcR.uniq{p:Pic}{a b:cA}(ha:PlcR p a)(hb:PlcR p b):a=b:=by
 cases ha with
 |bad i hi h1 h2=>
  cases hb with
  |bad j hj h3 h4=>
   have:i=j:=by
    rcases Nat.lt_trichotomy i j with h|h|h
    ·exact absurd h1 (h4 i h)
    ·exact h
    ·exact absurd h3 (h2 j h)
   rw [this]
  |ok h3=>exact absurd h1 (h3 i hi)
 |ok h1=>
  cases hb with
  |bad j hj h3 h4=>exact absurd h3 (h1 j hj)
  |ok h3=>rfl
end Go.Ag

namespace Go.Ag
open Go.Ab Go.Proofs
theorem pL{p:Pic}(h1:1<=p.fs.length)(hok:∀j,j<p.fs.length->¬(kO p j).length<=j):(kO p (p.fs.length-1)).length=p.fs.length:=by
 have h:=hok (p.fs.length-1) oM;rcases gS (g:=p.gap) (all:=zo p (p.fs.length-1+1)) (n:=p.fs.length-1+1) (l:=[]) (by rw [zn];simp) with h2|h2
 ·rw [zn] at h2;unfold kO;omega
 ·unfold kO at h;rw [h2] at h;exact absurd (Nat.zero_le _) h
theorem QG{p:Pic}(hv:qx p=true){i:Nat}{q:qc}:q∈jk p i↔zU p i q=true:=by
 have hh:=(qL hv).2.2.1;simp only [yb,xr,xQ] at hh;obtain⟨⟨⟨hw1,hw2⟩,hw3⟩,⟨hh1,hh2⟩,hh3⟩:=hh;rw [Int.tmod_eq_emod_of_nonneg (by omega)] at hw3 hh3;constructor
 ·intro h;unfold jk Q4 kR at h;obtain⟨y,_,h⟩:=List.mem_flatMap.1 h;exact (List.mem_filter.1 h).2
 ·intro h;have h2:=h;rw [zU,xr] at h2;have h3:=h2.1;simp only [kg,xr,xQ] at h3;unfold jk Q4 kR;refine List.mem_flatMap.2 ⟨q.2.toNat,List.mem_range.2 oM,List.mem_filter.2 ⟨List.mem_map.2 ⟨q.1.toNat,List.mem_range.2 oM,?_⟩,h⟩⟩
  ext
  ·simp only;omega
  ·simp only;omega
theorem vr{p:Pic}(hv:qx p=true){l:List qc}:y4 p l=true↔LegL p.gap (zo p p.fs.length) l:=by
 unfold y4;rw [xr,xQ,List.all_eq_true];constructor
 ·rintro ⟨h1,h2⟩;refine⟨by rw [zn];exact h1,fun i q hq=>?_,fun i k a b hk ha hb=>?_⟩
  ·have hi:=(zgs hq).1;have:=h2 i (List.mem_range.2 hi);rw [wN,xr,xM hq] at this;rw [j9 (by omega)];exact (QG hv).2 this.1
  ·have hi:=(zgs ha).1;have:=h2 i (List.mem_range.2 hi);rw [wN,xr,xM ha] at this;have:=List.all_eq_true.1 this.2 k (List.mem_range.2 hk);rw [xM hb] at this;simpa using this
 ·intro h;have hle:=h.le;rw [zn] at hle;refine⟨hle,fun i hi=>?_⟩;have hi:=List.mem_range.1 hi;obtain⟨q,hq⟩:∃q,l[i]?=some q:=⟨_,zge hi⟩;rw [wN,xr,xM hq];refine⟨?_,?_⟩
  ·have:=h.ch i q hq;rw [j9 (by omega)] at this;exact (QG hv).1 this
  ·rw [List.all_eq_true];intro k hk;have hk:=List.mem_range.1 hk;obtain⟨b,hb⟩:∃q,l[k]?=some q:=⟨_,zge oM⟩;rw [xM hb,h.ap i k q b hk hq hb];rfl
theorem FE{p:Pic}(h1:1<=p.fs.length):kO p (p.fs.length-1)=yz p.gap (zo p p.fs.length) p.fs.length []:=by
 obtain⟨k,hk⟩:∃k,p.fs.length=k+1:=⟨p.fs.length-1,oM⟩;rw [hk];rfl
theorem OD{p:Pic}(h1:1<=p.fs.length)(hok:∀j,j<p.fs.length->¬(kO p j).length<=j):LegL p.gap (zo p p.fs.length) (kO p (p.fs.length-1)):=by
 have hl:=pL h1 hok;rw [FE h1] at hl ⊢;exact (QP (LegL.nil _ _) (n:=p.fs.length) (by rw [zn];simp) (by rw [hl,zn])).1
theorem Ze{l:List qc}(h:qK l):qt l=l:=qK.ext (xi l) h fun _=>qP
theorem lJ{i:Nat}{q:qc}:∀r∈qS i q,xz r (qN q 1)<=2/\xz (qN q 1) r<=2:=fun r hr=>by
 unfold qS wV at hr;obtain⟨k,hk,rfl⟩:=List.mem_map.1 hr;have:=List.mem_range.1 (List.mem_filter.1 hk).1;simp only [xz,qN];omega
theorem CK{g:Int}(hg:2<=g)(i:Nat)(q:qc):Xa g (qS i q)=true:=(c8 (Xp i q)).2 fun x hx y hy=>by
 have h1:=(lJ x hx).1;have h2:=(lJ y hy).2;exact (Conn.step (Conn.step (.base hx) (Zh i q) oM) hy oM)
def ww(p:Pic)(i:Nat):List qc:=((qo p)[i]?).getD []
def qF(p:Pic)(l:List qc)(n:Nat):List (List qc):=(List.range n).flatMap fun i=>[ww p i,qS i (xH l i)]
theorem K4(p:Pic)(l:List qc)(n:Nat):qF p l (n+1)=qF p l n++[ww p n,qS n (xH l n)]:=by
 simp [qF,List.range_succ]
theorem zN{p:Pic}{l:List qc}{n:Nat}{a:List qc}:a∈qF p l n↔∃i,i<n/\(a=ww p i\/a=qS i (xH l i)):=by
 unfold qF;rw [List.mem_flatMap];constructor
 ·rintro ⟨i,hi,ha⟩;exact⟨i,List.mem_range.1 hi,by simpa using ha⟩
 ·rintro ⟨i,hi,ha⟩;exact⟨i,List.mem_range.2 hi,by simpa using ha⟩
theorem vn(p:Pic)(l:List qc)(n:Nat):(qF p l n).length=2*n:=by
 induction n with
 |zero=>rfl
 |succ n ih=>rw [K4,List.length_append,ih];simp only [List.length_cons,List.length_nil];omega
theorem ZF{p:Pic}{i:Nat}(h:i<(qo p).length):(qo p)[i]?=some (ww p i):=by
 rw [ww,zge h];rfl
theorem oB{p:Pic}{l:List qc}(h2:2<=p.gap)(hg:jY p.gap (qo p)):jY p.gap (qF p l (qo p).length):=fun a ha=>by
 obtain⟨i,hi,rfl|rfl⟩:=zN.1 ha
 ·exact hg _ (zmg (ZF hi))
 ·exact CK h2 _ _
theorem Kw{p:Pic}{i k:Nat}{q:qc}(hf:zU p i q=true)(hk:k<(qo p).length):¬xZ (qS i q) (ww p k)<=p.gap:=by
 rw [zU,xr,xr] at hf;have:=List.all_eq_true.1 hf.2.1 _ (zmg (ZF hk));rw [ZQ] at this;simpa using this
theorem Yu{p:Pic}{l:List qc}(hfit:∀i q,l[i]?=some q->zU p i q=true)(hap:∀(i k:Nat) (a b:qc),k<i->l[i]?=some a->l[k]?=some b->ju p.gap i a k b=false)(hg:jX p.gap (qo p)):∀n,n<=l.length->n<=(qo p).length->(qF p l n).Pairwise fun a b=>¬xZ a b<=p.gap
 |0,_,_=>List.Pairwise.nil
 |n+1,h1,h2=>by
  have ih:=Yu hfit hap hg n oM oM;obtain⟨q,hq⟩:∃q,l[n]?=some q:=⟨_,zge oM⟩;have hqf:=hfit n q hq;rw [K4,xM hq];refine List.pairwise_append.2 ⟨ih,?_,fun a ha b hb=>?_⟩
  ·refine List.pairwise_cons.2 ⟨fun b hb=>?_,List.pairwise_singleton _ _⟩;rw [List.mem_singleton] at hb;rw [hb,Yp];exact Kw hqf oM
  ·obtain⟨i,hi,ha⟩:=zN.1 ha;obtain⟨r,hr⟩:∃q,l[i]?=some q:=⟨_,zge oM⟩;rw [xM hr] at ha;simp only [List.mem_cons,List.not_mem_nil,or_false] at hb;rcases ha with rfl|rfl
   ·rcases hb with rfl|rfl
    ·exact hg i n _ _ hi (ZF oM) (ZF oM)
    ·rw [Yp];exact Kw hqf oM
   ·rcases hb with rfl|rfl
    ·exact Kw (hfit i r hr) oM
    ·have:=hap n i q r hi hq hr;rw [XF,ju] at this;simpa using this
theorem GC{g:Int}{l:List (List qc)}(h:l.Pairwise fun a b=>¬xZ a b<=g):jX g l:=fun i k a b hik ha hb=>by
 have:=List.pairwise_iff_getElem.1 h i k (zgs ha).1 (zgs hb).1 hik;rw [(zgs ha).2,(zgs hb).2] at this;exact this
theorem iO{f:Ft}(hv:x8 f=true):qK (xe f):=by
 unfold xe;split
 ·rename_i h1;have hk:=(jm hv).2.2;unfold yr at hk;rw [if_pos h1] at hk;simp at hk;obtain⟨q,hq⟩:=List.length_eq_one_iff.1 hk.1;rw [hq];exact List.pairwise_singleton _ _
 ·split
  ·exact xi _
  ·exact xi _
theorem iU{p:Pic}(hv:qx p=true)(i:Nat):qK (ww p i):=by
 unfold ww;cases h:(qo p)[i]? with
 |none=>exact List.Pairwise.nil
 |some l=>
  obtain⟨f,hf,rfl⟩:=List.mem_map.1 (zmg h);exact iO (zL hv f hf)
theorem s5{p:Pic}(hv:qx p=true){l:List qc}(hl:LegL p.gap (zo p p.fs.length) l)(hlen:l.length=p.fs.length)(hg1:jY p.gap (qo p))(hg2:jX p.gap (qo p)){c:List (List qc)}(hc:ClS p.gap (qt (qF p l p.fs.length).flatten) c):c.length=2*p.fs.length/\∀a∈qF p l p.fs.length,qt a∈c:=by
 have hgap:2<=p.gap/\p.gap<=6:=by
  have:=(qL hv).2.2.2;simp only [jV,xr,xQ] at this;exact this.1
 have hpl:(qo p).length=p.fs.length:=by simp [qo]
 have hfit:∀i q,l[i]?=some q->zU p i q=true:=fun i q hq=>by
  have h1:=hl.ch i q hq;have h2:=(zgs hq).1;rw [j9 (by omega)] at h1;exact (QG hv).1 h1
 have hw:=(u5 (g:=p.gap) (l:=qF p l p.fs.length) (fun a ha=>?_) oM hc).1 ⟨?_,GC (Yu hfit hl.ap hg2 _ oM oM)⟩
 ·rw [vn] at hw;exact⟨hw.1,fun a ha=>nI (hw.2 a ha)⟩
 ·obtain⟨i,hi,rfl|rfl⟩:=zN.1 ha
  ·exact w9 hv _ (zmg (ZF oM))
  ·exact Xp _ _
 ·have:=oB (p:=p) (l:=l) hgap.1 hg1;rw [hpl] at this;exact this
theorem j8{p:Pic}(hv:qx p=true)(hF:X3 p)(i:Nat):(ww p i).length<=256:=by
 unfold ww;cases h:(qo p)[i]? with
 |none=>simp
 |some l=>
  obtain⟨f,hf,rfl⟩:=List.mem_map.1 (zmg h);exact hF f hf (zL hv f hf)
end Go.Ag
