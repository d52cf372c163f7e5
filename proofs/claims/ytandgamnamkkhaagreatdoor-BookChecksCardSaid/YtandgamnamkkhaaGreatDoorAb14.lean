/- -/
import Derived.Test.YtandgamnamkkhaaGreatDoorAb13
set_option linter.unusedSimpArgs false
set_option linter.unusedVariables false
set_option maxRecDepth 8000
namespace Go.Ab
def res(E:zN):Opd->Opd
 |.t n=>match kC E n with
  |some v=>.c v
  |none=>.t n
 |.c v=>.c v
def kI(E:zN):Opd->Bool
 |.t n=>(kC E n).isSome
 |.c _=>true
theorem s9{E:zN}{F:T V}(h:ZU E F){o:Opd}(ho:kI E o=true):(res E o).ev .lf=o.ev F:=by
 cases o with
 |c v=>rfl
 |t n=>
  simp only [kI,Option.isSome_iff_exists] at ho;obtain⟨v,hv⟩:=ho;simp [res,hv,Opd.ev,h n v hv]
def cR(f:Opd->Opd):List (Nat × Nat × Opd)->List (Nat × Nat × Opd)
 |[]=>[]
 |(a,b,x)::r=>(a,b,f x)::cR f r
def Ja:List (Nat × Nat × Opd)->List Opd
 |[]=>[]
 |(_,_,x)::r=>x::Ja r
def yv(f:Opd->Opd):Option Opd->Option Opd
 |none=>none
 |some x=>some (f x)
def jp:Option Opd->List Opd
 |none=>[]
 |some x=>[x]
def PureOp.mp(f:Opd->Opd):PureOp->PureOp
 |.mv x=>.mv (f x)
 |.pick c a b=>.pick (f c) (f a) (f b)
 |.build z ps=>.build z (cR f ps)
 |.nilck x=>.nilck (f x)
 |.bin op x y=>.bin op (f x) (f y)
 |.beq n x y=>.beq n (f x) (f y)
 |.eqs n ks x y=>.eqs n ks (f x) (f y)
 |.neg x=>.neg (f x)
 |.not x=>.not (f x)
 |.conv k x=>.conv k (f x)
 |.mkfn g caps=>.mkfn g (caps.map f)
 |.slice e x lo hi mx=>.slice e (f x) (yv f lo) (yv f hi) (yv f mx)
 |.faddr o x=>.faddr o (f x)
 |.field a o n x=>.field a o n (f x)
 |.iaddr e x i=>.iaddr e (f x) (f i)
 |.aaddr l e x i=>.aaddr l e (f x) (f i)
 |.aindex l e a x i=>.aindex l e a (f x) (f i)
 |.extract x i=>.extract (f x) i
 |.len x=>.len (f x)
 |.mm b x y=>.mm b (f x) (f y)
 |.nileq n x=>.nileq n (f x)
 |.cint n=>.cint n
 |.sindex x i=>.sindex (f x) (f i)
 |.slen x=>.slen (f x)
 |.sslice x lo hi=>.sslice (f x) (yv f lo) (yv f hi)
 |.cap x=>.cap (f x)
 |.scat x y=>.scat (f x) (f y)
 |.seq n x y=>.seq n (f x) (f y)
 |.mkif x=>.mkif (f x)
 |.ifeq n x=>.ifeq n (f x)
 |.peq n x y=>.peq n (f x) (f y)
 |.bm g x=>.bm g (f x)
 |.sdata x=>.sdata (f x)
 |.idxb x y=>.idxb (f x) (f y)
 |.cnt x y=>.cnt (f x) (f y)
def PureOp.opds:PureOp->List Opd
 |.mv x=>[x]
 |.pick c a b=>[c,a,b]
 |.build _ ps=>Ja ps
 |.nilck x=>[x]
 |.bin _ x y=>[x,y]
 |.beq _ x y=>[x,y]
 |.eqs _ _ x y=>[x,y]
 |.neg x=>[x]
 |.not x=>[x]
 |.conv _ x=>[x]
 |.mkfn _ caps=>caps
 |.slice _ x lo hi mx=>x::(jp lo++(jp hi++jp mx))
 |.faddr _ x=>[x]
 |.field _ _ _ x=>[x]
 |.iaddr _ x i=>[x,i]
 |.aaddr _ _ x i=>[x,i]
 |.aindex _ _ _ x i=>[x,i]
 |.extract x _=>[x]
 |.len x=>[x]
 |.mm _ x y=>[x,y]
 |.nileq _ x=>[x]
 |.cint _=>[]
 |.sindex x i=>[x,i]
 |.slen x=>[x]
 |.sslice x lo hi=>x::(jp lo++jp hi)
 |.cap x=>[x]
 |.scat x y=>[x,y]
 |.seq _ x y=>[x,y]
 |.mkif x=>[x]
 |.ifeq _ x=>[x]
 |.peq _ x y=>[x,y]
 |.bm _ x=>[x]
 |.sdata x=>[x]
 |.idxb x y=>[x,y]
 |.cnt x y=>[x,y]
section
variable{f:Opd->Opd}{F F':T V}
theorem mT:∀{ps:List (Nat × Nat × Opd)} {z:List C},(∀o∈Ja ps,(f o).ev F'=o.ev F)->zI F' z (cR f ps)=zI F z ps
 |[],_,_=>rfl
 |(a,b,x)::r,z,h=>by
  simp only [cR,zI,h x (by simp [Ja])];split
  ·rfl
  ·split
   ·exact mT fun o ho=>h o (by simp [Ja,ho])
   ·rfl
theorem nQ:∀{l:List Opd},(∀o∈l,(f o).ev F'=o.ev F)->wj F' (l.map f)=wj F l
 |[],_=>rfl
 |x::l,h=>by
  simp only [List.map_cons,wj,h x (by simp),nQ (l:=l) fun o ho=>h o (by simp [ho])]
theorem XH{d y:Nat}{x:Option Opd}(h:∀o∈jp x,(f o).ev F'=o.ev F):qF F' d y (yv f x)=qF F d y x:=by
 cases x with
 |none=>rfl
 |some x=>simp only [yv,qF,h x (by simp [jp])]
theorem sL{v:V}{lo hi:Option Opd}(h:∀o∈jp lo++jp hi,(f o).ev F'=o.ev F):jH F' v (yv f lo) (yv f hi)=jH F v lo hi:=by
 unfold jH;have h1:∀k y,qF F' k y (yv f lo)=qF F k y lo:=fun k y=>by
  cases lo with
  |none=>rfl
  |some x=>simp only [yv,qF,h x (by simp [jp])]
 have h2:∀k y,qF F' k y (yv f hi)=qF F k y hi:=fun k y=>by
  cases hi with
  |none=>rfl
  |some x=>simp only [yv,qF,h x (by simp [jp])]
 simp only [h1,h2]
theorem B3{e:Nat}{v:V}{lo hi mx:Option Opd}(h:∀o∈jp lo++(jp hi++jp mx),(f o).ev F'=o.ev F):yh F' e v (yv f lo) (yv f hi) (yv f mx)=yh F e v lo hi mx:=by
 have h1:∀d y,qF F' d y (yv f lo)=qF F d y lo:=fun _ _=>XH fun o ho=>h o (by simp [ho]);have h2:∀d y,qF F' d y (yv f hi)=qF F d y hi:=fun _ _=>XH fun o ho=>h o (by simp [ho]);have h3:∀d y,qF F' d y (yv f mx)=qF F d y mx:=fun _ _=>XH fun o ho=>h o (by simp [ho]);have h4:(yv f mx).isSome=mx.isSome:=by cases mx<;>rfl
 simp only [yh,h1,h2,h3,h4]
theorem lU{op:PureOp}(h:∀o∈op.opds,(f o).ev F'=o.ev F):qn F' (op.mp f)=qn F op:=by
 cases op with
 |build z ps=>simp only [PureOp.mp,qn,mT h]
 |mkfn g caps=>
  have h':∀o∈caps,(f o).ev F'=o.ev F:=h;simp only [PureOp.mp,qn,nQ h']
 |sslice x lo hi=>
  simp only [PureOp.mp,qn];rw [h x (by simp [PureOp.opds]),sL fun o ho=>h o (by simp only [PureOp.opds,List.mem_cons];exact .inr ho)]
 |slice e x lo hi mx=>
  simp only [PureOp.mp,qn];rw [h x (by simp [PureOp.opds]),B3 fun o ho=>h o (by simp only [PureOp.opds,List.mem_cons];exact .inr ho)]
 |_=>simp only [PureOp.opds,List.mem_cons,List.not_mem_nil,or_false,forall_eq_or_imp,forall_eq] at h<;>simp only [PureOp.mp,qn,h]
def LoadOp.mp(f:Opd->Opd):LoadOp->LoadOp
 |.load a n x=>.load a n (f x)
 |.lookup z ok m k=>.lookup z ok (f m) (f k)
 |.mlen m=>.mlen (f m)
 |.bstr x=>.bstr (f x)
 |.pcv t n x=>.pcv t n (f x)
 |.aslice l e x lo hi=>.aslice l e (f x) (yv f lo) (yv f hi)
 |.slookup z ok m k=>.slookup z ok (f m) (f k)
def LoadOp.opds:LoadOp->List Opd
 |.load _ _ x=>[x]
 |.lookup _ _ m k=>[m,k]
 |.mlen m=>[m]
 |.bstr x=>[x]
 |.pcv _ _ x=>[x]
 |.aslice _ _ x lo hi=>x::(jp lo++jp hi)
 |.slookup _ _ m k=>[m,k]
theorem VL{H:Hp}{op:LoadOp}(h:∀o∈op.opds,(f o).ev F'=o.ev F):qA F' H (op.mp f)=qA F H op:=by
 cases op with
 |aslice l e x lo hi=>
  have h1:∀d y,qF F' d y (yv f lo)=qF F d y lo:=fun _ _=>XH fun o ho=>h o (by simp [LoadOp.opds,ho]);have h2:∀d y,qF F' d y (yv f hi)=qF F d y hi:=fun _ _=>XH fun o ho=>h o (by simp [LoadOp.opds,ho]);simp only [LoadOp.mp,qA];rw [h x (by simp [LoadOp.opds])];simp only [h1,h2]
 |_=>simp only [LoadOp.opds,List.mem_cons,List.not_mem_nil,or_false,forall_eq_or_imp,forall_eq] at h<;>simp only [LoadOp.mp,qA,h]
def EffOp.mp(f:Opd->Opd):EffOp->EffOp
 |.store n a x=>.store n (f a) (f x)
 |.append e b s x=>.append e b (f s) (f x)
 |.copy e d s=>.copy e (f d) (f s)
 |.mapupd m k x=>.mapupd (f m) (f k) (f x)
 |.clear e z x=>.clear e z (f x)
 |.appendz e b z s x=>.appendz e b z (f s) (f x)
 |.sbytes x=>.sbytes (f x)
 |.stupd m k x=>.stupd (f m) (f k) (f x)
 |.rng m=>.rng (f m)
 |.ent m=>.ent (f m)
 |.stlook z ok m k=>.stlook z ok (f m) (f k)
 |.stlen m=>.stlen (f m)
 |.stdel m k=>.stdel (f m) (f k)
 |.appendb t s x=>.appendb t (f s) (f x)
 |.mnz t x=>.mnz t (f x)
 |.ustr t q n=>.ustr t (f q) (f n)
 |.smapupd m k x=>.smapupd (f m) (f k) (f x)
def EffOp.opds:EffOp->List Opd
 |.store _ a x=>[a,x]
 |.append _ _ s x=>[s,x]
 |.copy _ d s=>[d,s]
 |.mapupd m k x=>[m,k,x]
 |.clear _ _ x=>[x]
 |.appendz _ _ _ s x=>[s,x]
 |.sbytes x=>[x]
 |.stupd m k x=>[m,k,x]
 |.rng m=>[m]
 |.ent m=>[m]
 |.stlook _ _ m k=>[m,k]
 |.stlen m=>[m]
 |.stdel m k=>[m,k]
 |.appendb _ s x=>[s,x]
 |.mnz _ x=>[x]
 |.ustr _ q n=>[q,n]
 |.smapupd m k x=>[m,k,x]
theorem TD{H:Hp}{op:EffOp}(h:∀o∈op.opds,(f o).ev F'=o.ev F):qM F' H (op.mp f)=qM F H op:=by
 cases op<;>simp only [EffOp.opds,List.mem_cons,List.not_mem_nil,or_false,forall_eq_or_imp,forall_eq] at h<;>simp only [EffOp.mp,qM,h]
end
theorem JP{E:zN}{F:T V}(h:ZU E F){l:List Opd}(hl:l.all (kI E)=true):∀o∈l,(res E o).ev .lf=o.ev F:=fun o ho=>s9 h (List.all_eq_true.1 hl o ho)
def QT(c0 c:za):Prop:=∀x∈c,∃y∈c0,y.1=x.1/\∀H,y.2 H->x.2 H
theorem QT.watch{c0 c:za}(h:QT c0 c){ws:List Nat}{H:Hp}(hw:xY ws c0 H):xY ws c H:=by
 cases ws with
 |nil=>trivial
 |cons k r=>
  intro j hj p hp;obtain⟨y,hy,e,hh⟩:=h (j,p) hp;obtain⟨y1,y2⟩:=y;simp only at e;subst e;exact hh H (hw _ hj y2 hy)
theorem QT.cons{c0 c:za}(h:QT c0 c)(k:Nat){p0 p:Hp->Prop}(hp:∀H,p0 H->p H):QT ((k,p0)::c0) ((k,p)::c):=fun x hx=>by
 rcases List.mem_cons.1 hx with rfl|hx
 ·exact⟨(k,p0),by simp,rfl,hp⟩
 ·obtain⟨y,hy,r⟩:=h x hx;exact⟨y,by simp [hy],r⟩
section
variable{P:Program}{G base:Nat}{Q:zN->Hp->Prop}{r:List SOper}{ctx:za}{E:zN}{H:Hp}{id:Nat}{dst:Option Nat}{aid:Option Nat}{ws:List Nat}{keep:Bool}
def PW(P:Program)(G base:Nat)(Q:zN->Hp->Prop)(l:List SOper)(ctx:za)(E:zN)(H:Hp):Prop:=
 ∀F c QP,ZU E F->QT ctx c->qv P G base QP (fun F' H'=>∃E',ZU E' F'/\Q E' H') l c F H
theorem Y8(h:Q E H):PW P G base Q [] ctx E H:=fun _ _ _ hs _=>⟨E,hs,h⟩
theorem yu{op:PureOp}{v:V}(hk:op.opds.all (kI E)=true)(hv:qn .lf (op.mp (res E))=some v)(h:PW P G base Q r ctx (jN E dst v) H):PW P G base Q (⟨id,dst,.p op,none,aid,ws,keep⟩::r) ctx E H:=by
 intro F c QP hs hc;rw [lU (JP hs hk)] at hv;simp only [qv,qs,if_true,hv];exact h _ c QP (hs.set dst v) hc
theorem Xe{n:Nat}{v:V}(hv:kC E n=some v)(h:PW P G base Q r ctx (jN E dst v) H):PW P G base Q (⟨id,dst,.p (.mv (.t n)),none,aid,ws,keep⟩::r) ctx E H:=
 yu (by simp [PureOp.opds,kI,hv]) (by simp [PureOp.mp,qn,res,hv,Opd.ev]) h
theorem Xf{v:V}(h:PW P G base Q r ctx (jN E dst v) H):PW P G base Q (⟨id,dst,.p (.mv (.c v)),none,aid,ws,keep⟩::r) ctx E H:=
 yu rfl rfl h
theorem B8{op:LoadOp}{v:V}(hk:op.opds.all (kI E)=true)(hv:qA .lf H (op.mp (res E))=some v)(h:PW P G base Q r ctx (jN E dst v) H):PW P G base Q (⟨id,dst,.l op,none,aid,ws,false⟩::r) ctx E H:=by
 intro F c QP hs hc;rw [VL (JP hs hk)] at hv;simp only [qv,qs,if_true,hv,Bool.false_eq_true,if_false];exact h _ c QP (hs.set dst v) hc
theorem FS{op:LoadOp}{v:V}(hk:op.opds.all (kI E)=true)(hv:qA .lf H (op.mp (res E))=some v)(h:PW P G base Q r ((id,fun H'=>qA .lf H' (op.mp (res E))=some v)::ctx) (jN E dst v) H):PW P G base Q (⟨id,dst,.l op,none,aid,ws,true⟩::r) ctx E H:=by
 intro F c QP hs hc;have hv':=hv;rw [VL (JP hs hk)] at hv';simp only [qv,qs,if_true,hv'];exact h _ _ QP (hs.set dst v) (hc.cons id fun H' hh=>by rw [VL (JP hs hk)] at hh;exact hh)
theorem Yb{n:Nat}{a:Opd}{b o:Nat}{c:C}(hk:kI E a=true)(ha:(res E a).ev .lf=.one (.ptr b o))(hc:H.cell b o=some c)(h:PW P G base Q r ctx (jN E dst (.one c)) H):PW P G base Q (⟨id,dst,.l (.load false n a),none,aid,ws,false⟩::r) ctx E H:=
 B8 (by simp [LoadOp.opds,hk]) (by simp [LoadOp.mp,qA,ha,hc]) h
theorem Ya{n:Nat}{a:Opd}{b o:Nat}{l:List C}(hk:kI E a=true)(ha:(res E a).ev .lf=.one (.ptr b o))(hc:H.loads b o n=some l)(h:PW P G base Q r ctx (jN E dst (.agg l)) H):PW P G base Q (⟨id,dst,.l (.load true n a),none,aid,ws,false⟩::r) ctx E H:=
 B8 (by simp [LoadOp.opds,hk]) (by simp [LoadOp.mp,qA,ha,hc]) h
theorem NW{op:EffOp}{v:V}{H':Hp}(hk:op.opds.all (kI E)=true)(hv:qM .lf H (op.mp (res E))=some (v,H'))(hw:xY ws ctx H')(h:PW P G base Q r ctx (jN E dst v) H'):PW P G base Q (⟨id,dst,.e op,none,aid,ws,keep⟩::r) ctx E H:=by
 intro F c QP hs hc;rw [TD (JP hs hk)] at hv;simp only [qv,qs,if_true,hv];exact⟨hc.watch hw,h _ c QP (hs.set dst _) hc⟩
theorem lQ{op:SOp}{g:Nat}{t want:Bool}(hg:kC E g=some (.one (.bool t)))(ht:t=want)(h:PW P G base Q (⟨id,dst,op,none,aid,ws,keep⟩::r) ctx E H):PW P G base Q (⟨id,dst,op,some (g,want),aid,ws,keep⟩::r) ctx E H:=by
 intro F c QP hs hc;have:=h F c QP hs hc;have hw:qs (some (g,want)) F=true:=by simp [qs,hs g _ hg,ht]
 rw [qv] at this ⊢;simp only [qs,if_true] at this;simp only [hw,if_true];exact this
theorem lR{op:SOp}{g:Nat}{t want:Bool}(hg:kC E g=some (.one (.bool t)))(ht:t=!want)(h:PW P G base Q r ctx (jN E dst V.undef) H):PW P G base Q (⟨id,dst,op,some (g,want),aid,ws,keep⟩::r) ctx E H:=by
 intro F c QP hs hc;have hw:qs (some (g,want)) F=false:=by simp [qs,hs g _ hg,ht]
 rw [qv];simp only [hw,Bool.false_eq_true,if_false];exact h _ c QP (hs.set dst _) hc
theorem Z9{op:PureOp}{v:V}{g:Nat}{t want:Bool}(hg:kC E g=some (.one (.bool t)))(hk:op.opds.all (kI E)=true)(hv:t=want->qn .lf (op.mp (res E))=some v)(h:PW P G base Q r ctx (jN E dst (if t=want then v else V.undef)) H):PW P G base Q (⟨id,dst,.p op,some (g,want),aid,ws,keep⟩::r) ctx E H:=by
 by_cases ht:t=want
 ·exact lQ hg ht (yu hk (hv ht) (by rw [if_pos ht] at h;exact h))
 ·exact lR hg (by cases t<;>cases want<;>simp_all) (by rw [if_neg ht] at h;exact h)
theorem Ai{op:LoadOp}{v:V}{g:Nat}{t want:Bool}(hg:kC E g=some (.one (.bool t)))(hk:op.opds.all (kI E)=true)(hv:t=want->qA .lf H (op.mp (res E))=some v)(h:PW P G base Q r ctx (jN E dst (if t=want then v else V.undef)) H):PW P G base Q (⟨id,dst,.l op,some (g,want),aid,ws,false⟩::r) ctx E H:=by
 by_cases ht:t=want
 ·exact lQ hg ht (B8 hk (hv ht) (by rw [if_pos ht] at h;exact h))
 ·exact lR hg (by cases t<;>cases want<;>simp_all) (by rw [if_neg ht] at h;exact h)
theorem Xk{n:Nat}{a:Opd}{b o:Nat}{c:C}{g:Nat}{t want:Bool}(hg:kC E g=some (.one (.bool t)))(hk:kI E a=true)(ha:t=want->(res E a).ev .lf=.one (.ptr b o))(hc:H.cell b o=some c)(h:PW P G base Q r ctx (jN E dst (if t=want then .one c else V.undef)) H):PW P G base Q (⟨id,dst,.l (.load false n a),some (g,want),aid,ws,false⟩::r) ctx E H:=
 Ai hg (by simp [LoadOp.opds,hk]) (fun ht=>by simp [LoadOp.mp,qA,ha ht,hc]) h
theorem vP{c a b:Opd}{t x y:Bool}(hk:[c,a,b].all (kI E)=true)(hc:(res E c).ev .lf=.one (.bool t))(ha:t=true->(res E a).ev .lf=.one (.bool x))(hb:t=false->(res E b).ev .lf=.one (.bool y))(h:PW P G base Q r ctx (jN E dst (.one (.bool (if t=true then x else y)))) H):PW P G base Q (⟨id,dst,.p (.pick c a b),none,aid,ws,keep⟩::r) ctx E H:=by
 refine yu (v:=.one (.bool (if t=true then x else y))) hk ?_ h
 simp only [PureOp.mp,qn,hc];cases t with
 |true=>simp [ha rfl]
 |false=>simp [hb rfl]
end
def PS(P:Program)(G n:Nat)(s:SC)(Q:Exit->zN->Hp->Prop)(E:zN)(H:Hp):Prop:=∀F,ZU E F->U2 P G n s (fun e F' H'=>∃E',ZU E' F'/\Q e E' H') F H
def U9(next:zN->Hp->Prop)(Q:Exit->zN->Hp->Prop):Exit->zN->Hp->Prop
 |.normal,E,H=>next E H
 |e,E,H=>Q e E H
def BD(id:Nat)(Q:Exit->zN->Hp->Prop):Exit->zN->Hp->Prop
 |.exit id',E,H=>if id'=id then Q .normal E H else Q (.exit id') E H
 |e,E,H=>Q e E H
section
variable{P:Program}{G n:Nat}{Q:Exit->zN->Hp->Prop}{E:zN}{H:Hp}
theorem Zz(h:Q .normal E H):PS P G n .skip Q E H:=fun _ hF=>WP ⟨E,hF,h⟩
theorem NY(h:Q .ret E H):PS P G n .ret Q E H:=fun _ hF=>VD ⟨E,hF,h⟩
theorem tF(hm:P.follows .mixedOrders=true){l:List SOper}{rs:Nat}{st:Bool}(h:PW P G H.nx (Q .normal) l [] E (H.skip rs)):PS P G n (.ops l rs st) Q E H:=fun F hF=>JR hm (h F [] _ hF fun _ hx=>by cases hx)
theorem ZA(hm:P.follows .mixedOrders=true){l:List SOper}{st:Bool}(h:PW P G H.nx (Q .normal) l [] E H):PS P G n (.ops l 0 st) Q E H:=tF hm h
theorem Y9{a b:SC}(h:PS P G n a (U9 (PS P G n b Q) Q) E H):PS P G n (.seq a b) Q E H:=fun F hF=>VC (zP (h F hF) fun e F' H' ⟨E',h1,h2⟩=>by
 cases e with
 |normal=>exact h2 F' h1
 |_=>exact⟨E',h1,h2⟩)
theorem HF{d:Opd}{a b:SC}{t:Bool}(hk:kI E d=true)(ht:(res E d).ev .lf=.one (.bool t))(h:PS P G n (if t then a else b) Q E H):PS P G n (.cond d a b) Q E H:=fun F hF=>ZY (t:=t) (by rw [<-s9 hF hk];exact ht) (h F hF)
theorem Aj{d:Opd}{a b:SC}{t:Bool}(hk:kI E d=true)(ht:(res E d).ev .lf=.one (.bool t))(h1:t=true->PS P G n a Q E H)(h2:t=false->PS P G n b Q E H):PS P G n (.cond d a b) Q E H:=HF hk ht (by
 cases t with
 |true=>exact h1 rfl
 |false=>exact h2 rfl)
theorem Xm{id:Nat}{a:SC}(h:PS P G n a (BD id Q) E H):PS P G n (.block id a) Q E H:=fun F hF=>YW (zP (h F hF) fun e F' H' ⟨E',h1,h2⟩=>by
 cases e with
 |exit id'=>
  simp only [BD] at h2;simp only [ZR];split
  ·rename_i e;rw [if_pos e] at h2;exact⟨E',h1,h2⟩
  ·rename_i e;rw [if_neg e] at h2;exact⟨E',h1,h2⟩
 |_=>exact⟨E',h1,h2⟩)
def dD:List V->Nat->zN
 |[],_=>[]
 |v::l,i=>(i,v)::dD l (i+1)
theorem cH:∀(args:List V) (i:Nat),ZU (dD args i) (zr args i)
 |[],_=>fun _ _ h=>by cases h
 |v::l,i=>fun n x h=>by
  simp only [dD,bB] at h;simp only [zr,T.get_set];split at h
  ·rename_i e;subst e;rw [if_pos rfl];exact h
  ·rename_i e;rw [if_neg (fun h=>e h.symm)];exact cH l (i+1) n x h
def eG(E:zN)(H:Hp):SRes->Option V
 |.t n=>kC E n
 |.cell agg k n=>match kC E n with
  |some v=>qA .lf H (.load agg k (.c v))
  |none=>none
def JZ(E:zN)(H:Hp):List SRes->Option (List V)
 |[]=>some []
 |r::l=>match eG E H r,JZ E H l with
  |some v,some vs=>if jq v then some (v::vs) else none
  |_,_=>none
def JY(E:zN)(H:Hp)(rs:List SRes):Option V:=
 match JZ E H rs with
 |some [v]=>some v
 |some vs=>some (.tup vs)
 |none=>none
theorem HD{F:T V}(hs:ZU E F){r:SRes}{v:V}(h:eG E H r=some v):QB F H r=some v:=by
 cases r with
 |t n=>simp only [eG] at h;simp [QB,hs n v h]
 |cell agg k n=>
  simp only [eG] at h;split at h
  ·rename_i x hx;simp only [QB,qA,Opd.ev,hs n x hx,Option.getD_some] at h ⊢;exact h
  ·cases h
theorem eF{F:T V}(hs:ZU E F):∀{l:List SRes} {vs:List V},JZ E H l=some vs->yI F H l=some vs
 |[],vs,h=>h
 |r::l,vs,h=>by
  simp only [JZ] at h;cases h1:eG E H r with
  |none=>simp [h1] at h
  |some v=>
   cases h2:JZ E H l with
   |none=>simp [h1,h2] at h
   |some vs'=>
    simp only [h1,h2] at h;simp only [yI,HD hs h1,eF hs h2];exact h
theorem KB{F:T V}(hs:ZU E F){rs:List SRes}{v:V}(h:JY E H rs=some v):xE F H rs=some v:=by
 unfold JY at h;unfold xE;cases h1:JZ E H rs with
 |none=>simp [h1] at h
 |some vs=>rw [eF hs h1];rw [h1] at h;exact h
def Em(rs:List SRes)(R:V->Hp->Prop):Exit->zN->Hp->Prop
 |.normal,E,H=>∃v,JY E H rs=some v/\R v H
 |.ret,E,H=>∃v,JY E H rs=some v/\R v H
 |_,_,_=>False
theorem N4{f:FuncId}{sf:SFn}(hf:zK P G f=some sf){args:List V}{R:V->Hp->Prop}(hn:args.length<=sf.n)(h:WF H->PS P G sf.n sf.code (Em sf.res R) (dD args 0) H):qK P G f args H R:=by
 refine BN fun hw=>KZ hf hn (zP (h hw _ (cH args 0)) fun e F' H' ⟨E',h1,h2⟩=>?_);cases e with
 |normal=>obtain⟨v,hv,hR⟩:=h2;simp only [Xd,KB h1 hv];exact hR
 |ret=>obtain⟨v,hv,hR⟩:=h2;simp only [Xd,KB h1 hv];exact hR
 |_=>exact h2.elim
end
section
variable{P:Program}{G base:Nat}{Q:zN->Hp->Prop}{r:List SOper}{ctx:za}{E:zN}{H H':Hp}{id:Nat}{dst:Option Nat}{aid:Option Nat}{ws:List Nat}{keep:Bool}
end
section
variable{P:Program}{G base:Nat}{Q:zN->Hp->Prop}{r:List SOper}{ctx:za}{E:zN}{H H':Hp}{id:Nat}{dst:Option Nat}{aid:Option Nat}{ws:List Nat}{keep:Bool}
theorem Xh{x y:Opd}{k:IntKind}{a b:Int}(hk:[x,y].all (kI E)=true)(hx:(res E x).ev .lf=.one (.int k a))(hy:(res E y).ev .lf=.one (.int k b))(h:PW P G base Q r ctx (jN E dst (.one (.int k (max a b)))) H):PW P G base Q (⟨id,dst,.p (.mm true x y),none,aid,ws,keep⟩::r) ctx E H:=by
 refine yu (v:=.one (.int k (max a b))) hk ?_ h;simp only [PureOp.mp,qn,hx,hy,if_true];congr 3;split<;>omega
theorem Xg{x y:Opd}{k:IntKind}{a b:Int}(hk:[x,y].all (kI E)=true)(hx:(res E x).ev .lf=.one (.int k a))(hy:(res E y).ev .lf=.one (.int k b))(h:PW P G base Q r ctx (jN E dst (.one (.int k (min a b)))) H):PW P G base Q (⟨id,dst,.p (.mm false x y),none,aid,ws,keep⟩::r) ctx E H:=by
 refine yu (v:=.one (.int k (min a b))) hk ?_ h;simp only [PureOp.mp,qn,hx,hy,if_true];simp only [Bool.false_eq_true,if_false];congr 3;split<;>omega
end
section
variable{P:Program}{G base:Nat}{Q:zN->Hp->Prop}{r:List SOper}{ctx:za}{E:zN}{H H':Hp}{id:Nat}{dst:Option Nat}{aid:Option Nat}{ws:List Nat}{keep:Bool}
end
theorem rX{ws:List Nat}{ctx:za}{H:Hp}(h:∀x∈ctx,x.2 H):xY ws ctx H:=by
 cases ws with
 |nil=>trivial
 |cons k r=>exact fun j _ p hp=>h (j,p) hp
section
variable{P:Program}{G base:Nat}{Q:zN->Hp->Prop}{r:List SOper}{ctx:za}{E:zN}{H H':Hp}{id:Nat}{dst:Option Nat}{aid:Option Nat}{ws:List Nat}{keep:Bool}
theorem tD{l:List SOper}{c0:za}(hc:QT c0 ctx)(h:PW P G base Q l c0 E H):PW P G base Q l ctx E H:=fun F c QP hF hc'=>h F c QP hF fun x hx=>by
 obtain⟨y,hy,e,hh⟩:=hc' x hx;obtain⟨y0,hy0,e0,hh0⟩:=hc y hy;exact⟨y0,hy0,e0.trans e,fun H h=>hh H (hh0 H h)⟩
theorem Xj{n:Nat}{a:Opd}{b o:Nat}{c:C}(hk:kI E a=true)(ha:(res E a).ev .lf=.one (.ptr b o))(hc:H.cell b o=some c)(h:PW P G base Q r ((id,fun H'=>H'.cell b o=some c)::ctx) (jN E dst (.one c)) H):PW P G base Q (⟨id,dst,.l (.load false n a),none,aid,ws,true⟩::r) ctx E H:=
 FS (by simp [LoadOp.opds,hk]) (by simp [LoadOp.mp,qA,ha,hc]) (tD (QT.cons (fun x hx=>⟨x,hx,rfl,fun _ h=>h⟩) id fun H' hh=>by simp [LoadOp.mp,qA,ha,hh]) h)
theorem Xi{n:Nat}{a:Opd}{b o:Nat}{l:List C}(hk:kI E a=true)(ha:(res E a).ev .lf=.one (.ptr b o))(hc:H.loads b o n=some l)(h:PW P G base Q r ((id,fun H'=>H'.loads b o n=some l)::ctx) (jN E dst (.agg l)) H):PW P G base Q (⟨id,dst,.l (.load true n a),none,aid,ws,true⟩::r) ctx E H:=
 FS (by simp [LoadOp.opds,hk]) (by simp [LoadOp.mp,qA,ha,hc]) (tD (QT.cons (fun x hx=>⟨x,hx,rfl,fun _ h=>h⟩) id fun H' hh=>by simp [LoadOp.mp,qA,ha,hh]) h)
end
section
variable{P:Program}{G base:Nat}{Q:zN->Hp->Prop}{r:List SOper}{ctx:za}{E:zN}{H H':Hp}{id:Nat}{dst:Option Nat}{aid:Option Nat}{ws:List Nat}{keep:Bool}
end
section
variable{P:Program}{G base:Nat}{Q:zN->Hp->Prop}{r:List SOper}{ctx:za}{E:zN}{H H':Hp}{id:Nat}{dst:Option Nat}{aid:Option Nat}{ws:List Nat}{keep:Bool}
end
inductive FD where
 |c (x:C)
 |sl (esz n:Nat) (l:List FD)
inductive DC where
 |f (d:FD)
 |g (b o:Nat)
 |ptr (k o:Nat)
 |own (k o n esz:Nat)
 |fptr (l:List FD)
 |fn (f:FuncId) (caps:List (Nat × Nat))
 |any
 |trow (k i o n:Nat)
 |tptr (k i o:Nat)
 |om (k:Nat)
 |yl (k:Nat)
 /-- a function whose variables are no more written -/
 |fz (f:FuncId) (ls:List (List FD))
inductive DV where
 |one (c:DC)
 |agg (l:List DC)
 |tup (l:List DV)
abbrev DV.int(n:Int):DV:=.one (.f (.c (.int .i64 n)))
abbrev DV.bool(b:Bool):DV:=.one (.f (.c (.bool b)))
abbrev DV.undef:DV:=.tup []
inductive ME where
 |row (r:List FD)
 |out (c:DC)
inductive Sh where
 |m (ks:Nat)
 |lp (st:LoopState) (j:Option Code) (f:FuncId) (n:Nat) (ts:List Nat) (ps:List Nat) (sg bd:Code)
 /-- a map with structures as keys,whole -/
 |st (es:List (V × V × Nat)) (clk:Nat)
 /-- an iteration over one;its one cell is the map -/
 |it (since:Nat) (seen:List Nat) (last:Nat)
 /-- a map with points as keys:these with their stamps;its cells are the values -/
 |sm (ks:List (Int × Int × Nat)) (clk:Nat)
inductive Bk where
 |cells (l:List DC)
 |data (l:List FD)
 |tree (rows:List (List FD))
 |mp (ks:Sh) (l:List DC)
 |mt (es:List (Int × ME))
inductive Slot where
 |nil
 |blk (b N:Nat)
inductive RF (Z:Nat->Prop) (H:Hp):FD->C->Prop where
 |c (x:C):x.closed=true->RF Z H (.c x) x
 |nil (esz:Nat):RF Z H (.sl esz 0 []) .nils
 |sl {esz n b o cap:Nat} {ex:Bool} {l:List FD} {cs:List C}:(0<n*esz->Z b)->l.length=n*esz->n<=cap->H.loads b o (n*esz)=some cs->(∀(i:Nat) d c,l[i]?=some d->cs[i]?=some c->RF Z H d c)->RF Z H (.sl esz n l) (.slc b o n cap esz ex)
abbrev x9:=Nat × Nat
abbrev qq:=x9->Option Slot
def je(β:qq):List (Nat × Nat)->List (Nat × Nat)->Prop
 |[],[]=>True
 |(k,o)::r,(b,o')::r'=>o'=o/\(∃N,β (k,0)=some (.blk b N))/\je β r r'
 |_,_=>False
def n7(Z:Nat->Prop)(H:Hp):List (List FD)->List (Nat × Nat)->Prop
 |[],[]=>True
 |l::ls,p::ps=>(Z p.1/\∃cs,H.loads p.1 p.2 l.length=some cs/\qe (RF Z H) l cs)/\n7 Z H ls ps
 |_,_=>False
def RD(Z:Nat->Prop)(H:Hp)(β:qq):DC->C->Prop
 |.f d,c=>RF Z H d c
 |.g b o,c=>c=.ptr b o
 |.ptr k o,c=>∃b N,β (k,0)=some (.blk b N)/\c=.ptr b o
 |.own k o n esz,c=>(β (k,0)=some .nil/\n=0/\o=0/\c=.nils)\/∃b N cap ex,β (k,0)=some (.blk b N)/\c=.slc b o n cap esz ex/\n<=cap/\o+cap*esz<=N
 |.fptr l,c=>∃b o cs,c=.ptr b o/\Z b/\H.loads b o l.length=some cs/\qe (RF Z H) l cs
 |.fn f caps,c=>∃caps',c=.fn f caps'/\je β caps caps'
 |.any,_=>True
 |.tptr k i o,c=>∃b N,β (k,i+1)=some (.blk b N)/\c=.ptr b o
 |.om k,c=>∃b N,β (k,0)=some (.blk b N)/\c=.map b
 |.yl k,c=>∃b N,β (k,0)=some (.blk b N)/\c=.yld b
 |.fz f ls,c=>∃caps,c=.fn f caps/\n7 Z H ls caps
 |.trow k i o n,c=>(β (k,i+1)=some .nil/\n=0/\o=0/\c=.nils)\/∃b N cap ex,β (k,i+1)=some (.blk b N)/\c=.slc b o n cap 1 ex/\n<=cap/\o+cap*1<=N
def xK(Z:Nat->Prop)(H:Hp)(β:qq):DV->V->Prop
 |.one d,v=>∃c,v=.one c/\RD Z H β d c
 |.agg l,v=>∃cs,v=.agg cs/\qe (RD Z H β) l cs
 |.tup _,_=>False
def xc(Z:Nat->Prop)(H:Hp)(β:qq):DV->V->Prop
 |.tup l,v=>∃vs,v=.tup vs/\qe (xK Z H β) l vs
 |d,v=>xK Z H β d v
def Bk.rel(Z:Nat->Prop)(H:Hp)(β:qq):Bk->List C->Prop
 |.cells l,cs=>qe (RD Z H β) l cs
 |.data l,cs=>qe (RF Z H) l cs
 |.tree _,_=>False
 |.mp _ l,cs=>qe (RD Z H β) l cs
 |.mt _,_=>False
def Bk.len:Bk->Nat
 |.cells l=>l.length
 |.data l=>l.length
 |.tree rows=>rows.length
 |.mp _ l=>l.length
 |.mt es=>es.length
def Bk.flat:Bk->Bool
 |.tree _=>false
 |.mt _=>false
 |_=>true
def Bk.shape:Bk->Option Sh
 |.mp ks _=>some ks
 |_=>none
def pE:Nat->V->Prop
 |0,v=>∃c,v=.one c
 |n+1,v=>∃l,v=.agg l/\l.length=n+1
def MF:List (V × V)->List C
 |[]=>[]
 |(k,v)::es=>k.cells++v.cells++MF es
def BP(F:T V):List Nat->List C->Prop
 |[],[]=>True
 |t::ts,c::cs=>F.get t=some (.one c)/\BP F ts cs
 |_,_=>False
def Eg:List (Int × Int × Nat)->List C->List (V × V × Nat)->Prop
 |[],[],[]=>True
 |k::ks,c::cs,e::es=>e=(.agg [.int .i64 k.1,.int .i64 k.2.1],.one c,k.2.2)/\Eg ks cs es
 |_,_,_=>False
def iT:Option Sh->Hp->Nat->List C->Prop
 |none,H,b,cs=>zM H b cs
 |some (.m ks),H,b,cs=>∃es,H.get b=some (.mp es)/\(∀e∈es,pE ks e.1/\∃c,e.2=.one c)/\MF es=cs
 |some (.lp st j f n ts ps sg bd),H,b,cs=>∃F,H.get b=some (.lp st j f n F ps.toArray sg bd)/\BP F ts cs
 |some (.st es clk),H,b,cs=>∃_:Unit,H.get b=some (.st es clk)/\cs=[]
 |some (.it since seen last),H,b,cs=>∃mb,H.get b=some (.it mb since seen last)/\cs=[.map mb]
 |some (.sm ks clk),H,b,cs=>∃es,H.get b=some (.st es clk)/\Eg ks cs es
def Yl:Option Sh->Nat->Nat->List C->Prop
 |none,n,N,_=>n=N
 |some _,_,_,rest=>rest=[]
theorem Yl.of{s:Option Sh}{n N:Nat}{rest:List C}(hs:s=none)(h:n=N):Yl s n N rest:=by subst hs;exact h
theorem iT.same{s:Option Sh}{H H':Hp}{b:Nat}{cs:List C}(h:iT s H b cs)(hg:H'.get b=H.get b):iT s H' b cs:=by
 cases s with
 |none=>exact zM.same h hg
 |some ks=>cases ks<;>(obtain⟨es,h1,h2⟩:=h;exact⟨es,by rw [hg];exact h1,h2⟩)
abbrev qo:=List (Nat × DV)
abbrev Bx:=List (Nat × Bk)
def lk{α:Type}:List (Nat × α)->Nat->Option α
 |[],_=>none
 |(k,v)::E,n=>match Nat.beq k n with
  |true=>some v
  |false=>lk E n
theorem jU(k:Nat):Nat.beq k k=true:=by simp
theorem jg{k n:Nat}(h:k≠n):Nat.beq k n=false:=by
 cases hb:Nat.beq k n with
 |true=>exact absurd (Nat.eq_of_beq_eq_true hb) h
 |false=>rfl
theorem qR{α:Type}(k:Nat)(v:α)(E:List (Nat × α))(n:Nat):lk ((k,v)::E) n=if k=n then some v else lk E n:=by
 simp only [lk];by_cases h:k=n
 ·subst h;simp
 ·rw [if_neg h,jg h]
def jn{α:Type}(k:Nat):List (Nat × α)->List (Nat × α)
 |[]=>[]
 |(j,v)::E=>match Nat.beq j k with
  |true=>jn k E
  |false=>(j,v)::jn k E
theorem yZ{α:Type}(k n:Nat):∀E:List (Nat × α),lk (jn k E) n=if n=k then none else lk E n
 |[]=>by simp [jn,lk]
 |(j,v)::E=>by
  simp only [jn];by_cases h:j=k
  ·subst h;rw [jU,qR];simp only;rw [yZ j n E];by_cases h2:n=j
   ·rw [if_pos h2,if_pos h2]
   ·rw [if_neg h2,if_neg h2,if_neg (fun h=>h2 h.symm)]
  ·rw [jg h];simp only;rw [qR,qR,yZ k n E];by_cases h2:j=n
   ·rw [if_pos h2,if_neg (by omega),if_pos h2]
   ·rw [if_neg h2,if_neg h2]
def put{α:Type}(k:Nat)(v:α):List (Nat × α)->List (Nat × α)
 |[]=>[]
 |(j,u)::E=>match Nat.beq j k with
  |true=>(j,v)::E
  |false=>(j,u)::put k v E
theorem yY{α:Type}(k:Nat)(v:α)(n:Nat):∀E:List (Nat × α),lk (put k v E) n=if n=k then (lk E n).map (fun _=>v) else lk E n
 |[]=>by simp [put,lk]
 |(j,u)::E=>by
  simp only [put];by_cases h:j=k
  ·subst h;rw [jU];simp only;rw [qR,qR];by_cases h2:n=j
   ·subst h2;simp
   ·rw [if_neg h2,if_neg (fun h=>h2 h.symm),if_neg (fun h=>h2 h.symm)]
  ·rw [jg h];simp only;rw [qR,qR,yY k v n E];by_cases h2:j=n
   ·rw [if_pos h2,if_pos h2,if_neg (by omega)]
   ·rw [if_neg h2,if_neg h2]
def zd(k:Nat):Nat->List (List FD)->List DC
 |_,[]=>[]
 |i,r::rs=>.trow k i 0 r.length::zd k (i+1) rs
def wp(k:Nat):Nat->List (Int × ME)->List DC
 |_,[]=>[]
 |i,(y,.row r)::es=>.f (.c (.int .i64 y))::.trow k i 0 r.length::wp k (i+1) es
 |i,(y,.out c)::es=>.f (.c (.int .i64 y))::c::wp k (i+1) es
def yV:Option (Int × ME)->Option Bk
 |some (_,.row r)=>some (.data r)
 |_=>none
def xb(S:Bx):x9->Option Bk
 |(k,0)=>match lk S k with
  |some (.tree rows)=>some (.cells (zd k 0 rows))
  |some (.mt es)=>some (.mp (.m 0) (wp k 0 es))
  |o=>o
 |(k,i+1)=>match lk S k with
  |some (.tree rows)=>(rows[i]?).map .data
  |some (.mt es)=>yV es[i]?
  |_=>none
theorem jk{o:Option (Int × ME)}{x:Bk}(h:yV o=some x):∃y r,o=some (y,.row r)/\x=.data r:=by
 unfold yV at h;split at h
 ·exact⟨_,_,rfl,(zsi h).symm⟩
 ·cases h
def ME.map(f:DC->DC):ME->ME
 |.row r=>.row r
 |.out c=>.out (f c)
def yW(f:DC->DC)(es:List (Int × ME)):List (Int × ME):=es.map fun e=>(e.1,e.2.map f)
theorem Jh(f:DC->DC)(es:List (Int × ME))(i:Nat):yV (yW f es)[i]?=yV es[i]?:=by
 unfold yW;rw [List.getElem?_map];cases es[i]? with
 |none=>rfl
 |some e=>obtain⟨y,e⟩:=e;cases e<;>rfl
theorem ZC(f:DC->DC)(k k':Nat)(hf:∀x,f (.f x)=.f x)(ht:∀i n,f (.trow k i 0 n)=.trow k' i 0 n):∀(i:Nat) (es:List (Int × ME)),wp k' i (yW f es)=(wp k i es).map f
 |_,[]=>rfl
 |i,(y,.row r)::es=>by
  have:=ZC f k k' hf ht (i+1) es;simp only [yW,List.map_cons,ME.map,wp,hf,ht] at this ⊢;rw [this]
 |i,(y,.out c)::es=>by
  have:=ZC f k k' hf ht (i+1) es;simp only [yW,List.map_cons,ME.map,wp,hf] at this ⊢;rw [this]
theorem Y2(k:Nat):∀(i:Nat) (rs:List (List FD)),(zd k i rs).length=rs.length
 |_,[]=>rfl
 |i,_::rs=>by simp [zd,Y2 k (i+1) rs]
theorem WS(k:Nat):∀(i:Nat) (rs:List (List FD)) (j:Nat),(zd k i rs)[j]?=(rs[j]?).map fun r=>.trow k (i+j) 0 r.length
 |_,[],j=>by simp [zd]
 |i,r::rs,0=>by simp [zd]
 |i,r::rs,j+1=>by
  simp only [zd,List.getElem?_cons_succ,WS k (i+1) rs j];rw [show i+1+j=i+(j+1) by omega]
theorem jC{S:Bx}{κ:x9}{x:Bk}(h:xb S κ=some x):∃y,lk S κ.1=some y:=by
 obtain⟨k,i⟩:=κ;cases i with
 |zero=>
  simp only [xb] at h;cases hl:lk S k with
  |none=>rw [hl] at h;cases h
  |some y=>exact⟨y,rfl⟩
 |succ i=>
  simp only [xb] at h;cases hl:lk S k with
  |none=>rw [hl] at h;cases h
  |some y=>exact⟨y,rfl⟩
theorem xL{S:Bx}{k:Nat}{x:Bk}(h:lk S k=some x)(hx:x.flat=true):xb S (k,0)=some x:=by
 simp only [xb,h];cases x with
 |tree rows=>cases hx
 |cells l=>rfl
 |data l=>rfl
 |mp ks l=>rfl
 |mt es=>cases hx
theorem fN{S:Bx}{k i:Nat}{x y:Bk}(h:lk S k=some x)(hx:x.flat=true)(hy:xb S (k,i)=some y):i=0/\y=x:=by
 cases i with
 |zero=>rw [xL h hx] at hy;exact⟨rfl,(zsi hy).symm⟩
 |succ i=>
  simp only [xb,h] at hy;cases x with
  |tree rows=>cases hx
  |cells l=>cases hy
  |data l=>cases hy
  |mp ks l=>cases hy
  |mt es=>cases hx
theorem y4{S S':Bx}{κ:x9}(h:lk S κ.1=lk S' κ.1):xb S κ=xb S' κ:=by
 obtain⟨k,i⟩:=κ;cases i with
 |zero=>simp only [xb];rw [h]
 |succ i=>simp only [xb];rw [h]
theorem CQ{S:Bx}{κ:x9}(h:lk S κ.1=none):xb S κ=none:=by
 cases hl:xb S κ with
 |none=>rfl
 |some x=>obtain⟨y,hy⟩:=jC hl;rw [h] at hy;cases hy
structure Par where
 P:Program
 G:Nat
 GH:Hp
 Z0:Nat->Prop
 lo:Nat
 anc:Nat
 β0:qq
 H1:Hp
 /-- whose round it is -/
 ρ:Option Nat
abbrev Par.base(P:Program)(G:Nat)(GH:Hp)(Z0:Nat->Prop)(lo:Nat):Par:=⟨P,G,GH,Z0,lo,0,fun _=>none,⟨.lf,0⟩,none⟩
def Par.fix(p:Par)(b:Nat)(bk:B):Prop:=p.GH.get b=some bk\/(p.Z0 b/\p.H1.get b=some bk)
def jI(p:Par)(Z:Nat->Prop)(H:Hp)(β:qq)(x:Bk):Slot->Prop
 |.nil=>x.len=0
 |.blk b N=>¬Z b/\p.lo<=b/\b<H.nx/\∃cs rest,iT x.shape H b (cs++rest)/\Yl x.shape (cs++rest).length N rest/\x.rel Z H β cs
structure SR (p:Par) (Z:Nat->Prop) (β:qq) (H:Hp) (S:Bx) (nn:Nat):Prop where
 wf:WF H
 lo:p.lo<=H.nx
 z:∀b,Z b->b<H.nx
 zlo:∀b,Z b->p.Z0 b\/p.lo<=b
 zz:∀b,p.Z0 b->Z b
 glob:∀b bk,p.fix b bk->Z b/\H.get b=some bk
 nk:∀κ:x9,nn<=κ.1->β κ=none
 bd:∀κ b N,β κ=some (.blk b N)->b<H.nx
 box:∀κ x,xb S κ=some x->∃s,β κ=some s/\jI p Z H β x s
 inj:∀(κ κ':x9) x x' b N N',lk S κ.1=some x->lk S κ'.1=some x'->β κ=some (.blk b N)->β κ'=some (.blk b N')->κ=κ'
 blo:∀κ b N,β κ=some (.blk b N)->p.lo<=b
 anch:∀κ:x9,κ.1<p.anc->κ.2=0->β κ=p.β0 κ
 ancn:p.anc<=nn
def ER(Z:Nat->Prop)(β:qq)(H:Hp)(E:qo)(F:T V):Prop:=∀n d,lk E n=some d->∃v,F.get n=some v/\xc Z H β d v
section
variable{Z Z':Nat->Prop}{H H':Hp}{β β':qq}
def xd(Z:Nat->Prop)(H:Hp)(Z':Nat->Prop)(H':Hp):Prop:=∀b,Z b->Z' b/\∀i c,H.cell b i=some c->H'.cell b i=some c
theorem xd.loads(h:xd Z H Z' H'){b:Nat}(hb:Z b):∀{n o:Nat} {l:List C},H.loads b o n=some l->H'.loads b o n=some l
 |0,_,_,hl=>hl
 |n+1,o,l,hl=>by
  simp only [Hp.loads] at hl ⊢;cases hc:H.cell b o with
  |none=>simp [hc] at hl
  |some c=>
   simp only [hc] at hl;simp only [(h b hb).2 _ _ hc];cases hr:H.loads b (o+1) n with
   |none=>simp [hr] at hl
   |some r=>simp only [hr] at hl;simp only [h.loads hb hr];exact hl
theorem RF.mono(h:xd Z H Z' H'){d:FD}{c:C}(hr:RF Z H d c):RF Z' H' d c:=by
 induction hr with
 |c x hx=>exact .c x hx
 |nil e=>exact .nil e
 |sl hz hl hn hld _ ih=>
  rename_i esz n _ _ _ _ _ _ _;refine .sl (fun h0=>(h _ (hz h0)).1) hl hn ?_ ih;by_cases h0:0<n*esz
  ·exact h.loads (hz h0) hld
  ·have h1:n*esz=0:=by omega
   rw [h1] at hld ⊢;exact hld
def xD(β β':qq):Prop:=∀k s,β k=some s->β' k=some s
theorem je.mono(hb:xD β β'):∀{l l':List (Nat × Nat)},je β l l'->je β' l l'
 |[],[],_=>trivial
 |(_,_)::_,(_,_)::_,⟨h1,⟨N,h2⟩,h3⟩=>⟨h1,⟨N,hb _ _ h2⟩,je.mono hb h3⟩
theorem n7.mono(h:xd Z H Z' H'):∀{ls:List (List FD)} {ps:List (Nat × Nat)},n7 Z H ls ps->n7 Z' H' ls ps
 |[],[],_=>trivial
 |_::_,p::_,⟨⟨h1,cs,h2,h3⟩,h4⟩=>⟨⟨(h p.1 h1).1,cs,h.loads h1 h2,h3.mono fun _ _=>RF.mono h⟩,n7.mono h h4⟩
 |[],_::_,hh=>hh.elim
 |_::_,[],hh=>hh.elim
theorem RD.mono(h:xd Z H Z' H')(hb:xD β β'){d:DC}{c:C}(hr:RD Z H β d c):RD Z' H' β' d c:=by
 cases d with
 |f d=>exact RF.mono h hr
 |g b o=>exact hr
 |ptr k o=>obtain⟨b,N,h1,h2⟩:=hr;exact⟨b,N,hb _ _ h1,h2⟩
 |own k o n esz=>
  rcases hr with⟨h1,h2⟩|⟨b,N,cap,ex,h1,h2⟩
  ·exact .inl ⟨hb _ _ h1,h2⟩
  ·exact .inr ⟨b,N,cap,ex,hb _ _ h1,h2⟩
 |fptr l=>obtain⟨b,o,cs,h1,h2,h3,h4⟩:=hr;exact⟨b,o,cs,h1,(h b h2).1,h.loads h2 h3,h4.mono fun _ _=>RF.mono h⟩
 |fn f caps=>obtain⟨caps',h1,h2⟩:=hr;exact⟨caps',h1,h2.mono hb⟩
 |any=>trivial
 |om k=>obtain⟨b,N,h1,h2⟩:=hr;exact⟨b,N,hb _ _ h1,h2⟩
 |yl k=>obtain⟨b,N,h1,h2⟩:=hr;exact⟨b,N,hb _ _ h1,h2⟩
 |fz f ls=>obtain⟨caps,h1,h2⟩:=hr;exact⟨caps,h1,h2.mono h⟩
 |tptr k i o=>obtain⟨b,N,h1,h2⟩:=hr;exact⟨b,N,hb _ _ h1,h2⟩
 |trow k i o n=>
  rcases hr with⟨h1,h2⟩|⟨b,N,cap,ex,h1,h2⟩
  ·exact .inl ⟨hb _ _ h1,h2⟩
  ·exact .inr ⟨b,N,cap,ex,hb _ _ h1,h2⟩
theorem xK.mono(h:xd Z H Z' H')(hb:xD β β'){d:DV}{v:V}(hr:xK Z H β d v):xK Z' H' β' d v:=by
 cases d with
 |one d=>obtain⟨c,h1,h2⟩:=hr;exact⟨c,h1,h2.mono h hb⟩
 |agg l=>obtain⟨c,h1,h2⟩:=hr;exact⟨c,h1,h2.mono fun _ _=>RD.mono h hb⟩
 |tup l=>exact hr.elim
theorem xc.mono(h:xd Z H Z' H')(hb:xD β β'){d:DV}{v:V}(hr:xc Z H β d v):xc Z' H' β' d v:=by
 cases d with
 |one d=>exact xK.mono (d:=.one d) h hb hr
 |agg l=>exact xK.mono (d:=.agg l) h hb hr
 |tup l=>obtain⟨vs,h1,h2⟩:=hr;exact⟨vs,h1,h2.mono fun _ _=>xK.mono h hb⟩
theorem xc.of1{d:DV}{v:V}(h:xK Z H β d v):xc Z H β d v:=by
 cases d with
 |one c=>exact h
 |agg l=>exact h
 |tup l=>exact h.elim
theorem Bk.rel_mono(h:xd Z H Z' H')(hb:xD β β'){x:Bk}{cs:List C}(hr:x.rel Z H β cs):x.rel Z' H' β' cs:=by
 cases x with
 |cells l=>exact qe.mono (fun _ _=>RD.mono h hb) hr
 |data l=>exact qe.mono (fun _ _=>RF.mono h) hr
 |tree rows=>exact hr.elim
 |mp ks l=>exact qe.mono (fun _ _=>RD.mono h hb) hr
 |mt es=>exact hr.elim
theorem Bk.rel_len{x:Bk}{cs:List C}(hr:x.rel Z H β cs):x.len=cs.length:=by
 cases x with
 |cells l=>exact qe.len hr
 |data l=>exact qe.len hr
 |tree rows=>exact hr.elim
 |mp ks l=>exact qe.len hr
 |mt es=>exact hr.elim
theorem Bk.rel_flat{x:Bk}{cs:List C}(hr:x.rel Z H β cs):x.flat=true:=by
 cases x with
 |tree rows=>exact hr.elim
 |mt es=>exact hr.elim
 |_=>rfl
theorem ER.mono(h:xd Z H Z' H')(hb:xD β β'){E:qo}{F:T V}(hr:ER Z β H E F):ER Z' β' H' E F:=fun n d hd=>by
 obtain⟨v,h1,h2⟩:=hr n d hd;exact⟨v,h1,h2.mono h hb⟩
theorem xd.refl(Z:Nat->Prop)(H:Hp):xd Z H Z H:=fun _ h=>⟨h,fun _ _ h=>h⟩
theorem xd.of_get(hz:∀b,Z b->Z' b)(hg:∀b,Z b->H'.get b=H.get b):xd Z H Z' H':=fun b h=>⟨hz b h,fun i c hc=>by unfold Hp.cell at hc ⊢;rw [hg b h];exact hc⟩
theorem xD.refl(β:qq):xD β β:=fun _ _ h=>h
theorem xd.of_le(hz:∀b,Z b->Z' b)(hl:Le H H'):xd Z H Z' H':=fun b h=>⟨hz b h,fun i c hc=>hl b i c hc⟩
def qX(E:qo):Option Nat->DV->qo
 |some d,v=>(d,v)::E
 |none,_=>E
theorem ER.set{E:qo}{F:T V}(h:ER Z β H E F)(d:Option Nat){x:DV}{v:V}(hv:xc Z H β x v):ER Z β H (qX E d x) (qP F d v):=by
 cases d with
 |none=>exact h
 |some d=>
  intro n y hy;simp only [qX,qR] at hy;simp only [qP,T.get_set];split at hy
  ·rename_i e;subst e;rw [if_pos rfl];obtain rfl:=zsi hy;exact⟨v,rfl,hv⟩
  ·rename_i e;rw [if_neg (fun h=>e h.symm)];exact h n y hy
def kY:C->DC
 |.ptr b o=>.g b o
 |.slc _ _ _ _ _ _=>.any
 |.map _=>.any
 |.yld _=>.any
 |.bm _ _ _=>.any
 |.fn f []=>.f (.c (.fn f []))
 |.fn _ _=>.any
 |c=>.f (.c c)
def r8:V->DV
 |.one c=>.one (kY c)
 |.agg l=>.agg (l.map kY)
 |.tup _=>.one .any
theorem dT(c:C):RD Z H β (kY c) c:=by
 cases c with
 |fn f caps=>cases caps with
  |nil=>exact .c _ rfl
  |cons _ _=>trivial
 |ptr b o=>rfl
 |slc=>trivial
 |map=>trivial
 |yld=>trivial
 |bm=>trivial
 |_=>exact .c _ rfl
theorem vL:∀l:List C,qe (RD Z H β) (l.map kY) l
 |[]=>trivial
 |c::l=>⟨dT c,vL l⟩
theorem Zv(v:V)(hv:jq v=true):xK Z H β (r8 v) v:=by
 cases v with
 |one c=>exact⟨c,rfl,dT c⟩
 |agg l=>exact⟨l,rfl,vL l⟩
 |tup l=>cases hv
def ro(E:qo):Opd->Option DV
 |.t n=>lk E n
 |.c (.one (.int k n))=>some (.one (.f (.c (.int k n))))
 |.c (.one (.bool b))=>some (.one (.f (.c (.bool b))))
 |.c (.one c)=>some (.one (kY c))
 |.c (.agg l)=>some (.agg (l.map kY))
 |.c (.tup _)=>none
theorem xj{E:qo}{F:T V}(h:ER Z β H E F){o:Opd}{d:DV}(ho:ro E o=some d):xc Z H β d (o.ev F):=by
 cases o with
 |t n=>
  obtain⟨v,h1,h2⟩:=h n d ho;simp only [Opd.ev,h1,Option.getD_some];exact h2
 |c v=>
  cases v with
  |one c=>cases c<;>(obtain rfl:=zsi ho;exact xc.of1 (Zv (.one _) rfl))
  |agg l=>obtain rfl:=zsi ho;exact xc.of1 (Zv (.agg l) rfl)
  |tup l=>cases ho
def AC:DC->Option C
 |.f (.c x)=>some x
 |_=>none
def m8:List DC->Option (List C)
 |[]=>some []
 |d::l=>match AC d,m8 l with
  |some c,some r=>some (c::r)
  |_,_=>none
def K9:DV->Option V
 |.one d=>match AC d with
  |some c=>some (.one c)
  |none=>none
 |.agg l=>match m8 l with
  |some r=>some (.agg r)
  |none=>none
 |.tup _=>none
theorem AB{d:DC}{x c:C}(h:AC d=some x)(hr:RD Z H β d c):c=x:=by
 cases d with
 |f d=>cases d with
  |c y=>obtain rfl:=zsi h;cases hr;rfl
  |sl=>cases h
 |_=>cases h
theorem u9:∀{l:List DC} {xs cs:List C},m8 l=some xs->qe (RD Z H β) l cs->cs=xs
 |[],xs,[],h,_=>by obtain rfl:=zsi h;rfl
 |d::l,xs,c::cs,h,hr=>by
  simp only [m8] at h;split at h
  ·rename_i x r h1 h2;obtain rfl:=zsi h;rw [AB h1 hr.1,u9 h2 hr.2]
  ·cases h
 |[],_,_::_,_,hr=>hr.elim
 |_::_,_,[],_,hr=>hr.elim
theorem u7{d:DV}{x v:V}(h:K9 d=some x)(hr:xc Z H β d v):v=x:=by
 cases d with
 |one d=>
  obtain⟨c,rfl,hr⟩:=hr;simp only [K9] at h;split at h
  ·rename_i y hy;obtain rfl:=zsi h;rw [AB hy hr]
  ·cases h
 |agg l=>
  obtain⟨c,rfl,hr⟩:=hr;simp only [K9] at h;split at h
  ·rename_i y hy;obtain rfl:=zsi h;rw [u9 hy hr]
  ·cases h
 |tup l=>cases h
end
def qT{α:Type}(l:List α)(o n:Nat):Option (List α):=match Nat.ble (o+n) l.length with
 |true=>some ((l.drop o).take n)
 |false=>none
theorem x6{α:Type}{l r:List α}{o n:Nat}(h:qT l o n=some r):o+n<=l.length/\r=(l.drop o).take n:=by
 unfold qT at h;split at h
 ·rename_i e;exact⟨Nat.le_of_ble_eq_true e,(zsi h).symm⟩
 ·cases h
theorem zw{α:Type}{l:List α}{o n:Nat}(h:o+n<=l.length):qT l o n=some ((l.drop o).take n):=by
 unfold qT;rw [Nat.ble_eq_true_of_le h]
def c7(agg:Bool)(off n:Nat)(l:List DC):Option DV:=
 match agg with
 |true=>match qT l off n with
  |some r=>some (.agg r)
  |none=>none
 |false=>match l[off]? with
  |some c=>some (.one c)
  |none=>none
def JI:DV->Option (List DC)
 |.one c=>some [c]
 |.agg l=>some l
 |.tup _=>none
def Wd(E:qo):List DC->List (Nat × Nat × Opd)->Option (List DC)
 |z,[]=>some z
 |z,(off,size,x)::r=>match ro E x with
  |none=>none
  |some d=>match JI d with
   |none=>none
   |some cs=>match Nat.beq cs.length size,Nat.ble (off+size) z.length with
    |true,true=>Wd E (z.take off++cs++z.drop (off+size)) r
    |_,_=>none
def gE(E:qo)(o:Opd):Option V:=match ro E o with
 |some d=>K9 d
 |none=>none
def rx(E:qo)(o:Opd):Opd:=match gE E o with
 |some v=>.c v
 |none=>o
def pH(E:qo)(o:Opd):Bool:=(gE E o).isSome
def qE{α:Type}(f:α->Bool):List α->Bool
 |[]=>true
 |x::l=>match f x with
  |true=>qE f l
  |false=>false
theorem zo{α:Type}{f:α->Bool}:∀{l:List α},qE f l=true->∀x∈l,f x=true
 |[],_,x,hx=>by cases hx
 |y::l,h,x,hx=>by
  simp only [qE] at h;split at h
  ·rename_i e;rcases List.mem_cons.1 hx with rfl|hx
   ·exact e
   ·exact zo h x hx
  ·cases h
def NA:Option V->Option DV
 |some (.one (.int k n))=>some (.one (.f (.c (.int k n))))
 |some (.one (.bool b))=>some (.one (.f (.c (.bool b))))
 |some (.one c)=>some (.one (kY c))
 |some (.agg l)=>some (.agg (l.map kY))
 |_=>none
def GI(E:qo)(op:PureOp):Option DV:=match qE (pH E) op.opds with
 |true=>NA (qn .lf (op.mp (rx E)))
 |false=>none
def dA(E:qo):List Opd->Option (List (Nat × Nat))
 |[]=>some []
 |x::l=>match ro E x,dA E l with
  |some (.one (.ptr k o)),some r=>some ((k,o)::r)
  |_,_=>none
def xa(j:Int)(len:Nat):Option Nat:=match j with
 |.ofNat n=>match Nat.blt n len with
  |true=>some n
  |false=>none
 |.negSucc _=>none
theorem uF{j:Int}{len n:Nat}(h:xa j len=some n):j=n/\n<len:=by
 unfold xa at h;split at h
 ·split at h
  ·rename_i e;obtain rfl:=zsi h;exact⟨rfl,Nat.le_of_ble_eq_true e⟩
  ·cases h
 ·cases h
def OC:DC->Option DV
 |.own _ _ n _=>some (.int n)
 |.trow _ _ _ n=>some (.int n)
 |.f (.sl _ n _)=>some (.int n)
 |.f (.c .nils)=>some (.int 0)
 |_=>none
def yd(E:qo):PureOp->Option DV
 |.mv x=>ro E x
 |.build z ps=>match Wd E (z.map kY) ps with
  |some l=>some (.agg l)
  |none=>none
 |.nilck x=>match ro E x with
  |some (.one (.ptr k o))=>some (.one (.ptr k o))
  |some (.one (.g b o))=>some (.one (.g b o))
  |some (.one (.fptr l))=>some (.one (.fptr l))
  |some (.one (.tptr k i o))=>some (.one (.tptr k i o))
  |some (.one (.fn f l))=>some (.one (.fn f l))
  |some (.one (.f (.c (.fn f l))))=>some (.one (.f (.c (.fn f l))))
  |_=>none
 |.mkfn f caps=>match dA E caps with
  |some []=>some (.one (.f (.c (.fn f []))))
  |some l=>some (.one (.fn f l))
  |none=>none
 |.faddr off x=>match ro E x with
  |some (.one (.ptr k o))=>some (.one (.ptr k (o+off)))
  |some (.one (.g b o))=>some (.one (.g b (o+off)))
  |some (.one (.fptr l))=>some (.one (.fptr (l.drop off)))
  |_=>none
 |.field agg off n x=>match ro E x with
  |some (.agg l)=>c7 agg off n l
  |_=>none
 |.aaddr len esz x i=>match ro E x,ro E i with
  |some (.one (.ptr k o)),some (.one (.f (.c (.int _ j))))=>match xa j len with
   |some n=>some (.one (.ptr k (o+n*esz)))
   |none=>none
  |some (.one (.fptr l)),some (.one (.f (.c (.int _ j))))=>match xa j len with
   |some n=>some (.one (.fptr (l.drop (n*esz))))
   |none=>none
  |some (.one (.g b o)),some (.one (.f (.c (.int _ j))))=>match xa j len with
   |some n=>some (.one (.g b (o+n*esz)))
   |none=>none
  |_,_=>none
 |.aindex len esz agg x i=>match ro E x,ro E i with
  |some (.agg l),some (.one (.f (.c (.int _ j))))=>match xa j len with
   |some n=>c7 agg (n*esz) esz l
   |none=>none
  |_,_=>none
 |.extract x i=>match ro E x with
  |some (.tup l)=>l[i]?
  |_=>none
 |.len x=>match ro E x with
  |some (.one d)=>OC d
  |_=>none
 |.nileq neg x=>match ro E x with
  |some (.one (.f (.c .nils)))=>some (.bool !neg)
  |some (.one (.f (.sl _ (_+1) _)))=>some (.bool neg)
  |some (.one (.own _ _ (_+1) _))=>some (.bool neg)
  |_=>none
 |op=>GI E op
section
variable{Z:Nat->Prop}{H:Hp}{β:qq}{E:qo}{F:T V}
theorem Ac(h:ER Z β H E F){o:Opd}(ho:pH E o=true):(rx E o).ev .lf=o.ev F:=by
 unfold pH at ho;obtain⟨v,hv⟩:=Option.isSome_iff_exists.1 ho;simp only [rx,hv,Opd.ev];unfold gE at hv;split at hv
 ·rename_i d hd;exact (u7 hv (xj h hd)).symm
 ·cases hv
theorem UF(h:ER Z β H E F){op:PureOp}{d:DV}(hd:GI E op=some d):∃v,qn F op=some v/\xc Z H β d v:=by
 unfold GI at hd;split at hd
 ·rename_i hall;rw [lU (F:=F) fun o ho=>Ac h (zo hall o ho)] at hd;unfold NA at hd;split at hd
  ·rename_i hc;obtain rfl:=zsi hd;exact⟨_,hc,_,rfl,.c _ rfl⟩
  ·rename_i hc;obtain rfl:=zsi hd;exact⟨_,hc,_,rfl,.c _ rfl⟩
  ·rename_i c _ _ hc;obtain rfl:=zsi hd;exact⟨_,hc,c,rfl,dT c⟩
  ·rename_i l hc;obtain rfl:=zsi hd;exact⟨_,hc,l,rfl,vL l⟩
  ·cases hd
 ·cases hd
theorem gN{agg:Bool}{off n:Nat}{l:List DC}{cs:List C}(hr:qe (RD Z H β) l cs){d:DV}(hd:c7 agg off n l=some d):∃v,YF agg off n cs=some v/\xc Z H β d v:=by
 unfold c7 at hd;split at hd
 ·split at hd
  ·rename_i r hs;obtain rfl:=zsi hd;obtain⟨h1,rfl⟩:=x6 hs;refine⟨.agg ((cs.drop off).take n),?_,_,rfl,(hr.drop off).take n⟩;simp only [YF,if_true];rw [if_pos (by rw [<-hr.len];exact h1)]
  ·cases hd
 ·split at hd
  ·rename_i c hc;obtain rfl:=zsi hd;obtain⟨x,hx,hrx⟩:=hr.at off c hc;refine⟨.one x,?_,x,rfl,hrx⟩;simp [YF,hx]
  ·cases hd
theorem JH{d:DV}{v:V}{l:List DC}(hr:xc Z H β d v)(hl:JI d=some l):∃cs,kf v=some cs/\qe (RD Z H β) l cs:=by
 cases d with
 |one d=>obtain⟨c,rfl,hr⟩:=hr;obtain rfl:=zsi hl;exact⟨_,rfl,hr,trivial⟩
 |agg l'=>obtain⟨c,rfl,hr⟩:=hr;obtain rfl:=zsi hl;exact⟨_,rfl,hr⟩
 |tup l'=>cases hl
theorem Ka(h:ER Z β H E F):∀{ps:List (Nat × Nat × Opd)} {z l:List DC} {zs:List C},qe (RD Z H β) z zs->Wd E z ps=some l->∃cs,zI F zs ps=some cs/\qe (RD Z H β) l cs
 |[],z,l,zs,hz,hl=>by obtain rfl:=zsi hl;exact⟨zs,rfl,hz⟩
 |(off,size,x)::r,z,l,zs,hz,hl=>by
  simp only [Wd] at hl;split at hl
  ·cases hl
  ·rename_i d hd;split at hl
   ·cases hl
   ·rename_i cs hcs;split at hl
    ·rename_i e1 e2;obtain⟨ks,hk1,hk2⟩:=JH (xj h hd) hcs;have e1':=Nat.eq_of_beq_eq_true e1;have e2':=Nat.le_of_ble_eq_true e2;obtain⟨cs',g1,g2⟩:=Ka h (((hz.take off).append hk2).append (hz.drop (off+size))) hl;refine⟨cs',?_,g2⟩;simp only [zI,hk1];rw [if_pos ⟨by rw [<-hk2.len];exact e1',by rw [<-hz.len];exact e2'⟩];exact g1
    ·cases hl
theorem Kj(h:ER Z β H E F):∀{l:List Opd} {r:List (Nat × Nat)},dA E l=some r->∃r',wj F l=some r'/\je β r r'
 |[],r,hr=>by obtain rfl:=zsi hr;exact⟨[],rfl,trivial⟩
 |x::l,r,hr=>by
  simp only [dA] at hr;split at hr
  ·rename_i k o r0 h1 h2;obtain rfl:=zsi hr;obtain⟨r',g1,g2⟩:=Kj h h2;obtain⟨c,hc,b,N,hb,rfl⟩:=xj h h1;exact⟨(b,o)::r',by simp only [wj,hc,g1],rfl,⟨N,hb⟩,g2⟩
  ·cases hr
theorem F5{l:List FD}{b o:Nat}{cs:List C}(h1:H.loads b o l.length=some cs)(h2:qe (RF Z H) l cs)(off:Nat):∃cs',H.loads b (o+off) (l.drop off).length=some cs'/\qe (RF Z H) (l.drop off) cs':=by
 by_cases ho:off<=l.length
 ·refine⟨cs.drop off,?_,h2.drop off⟩;rw [List.length_drop];exact QK h1 ho
 ·refine⟨[],?_,?_⟩
  ·rw [List.length_drop,show l.length-off=0 by omega];rfl
  ·rw [List.drop_of_length_le (by omega)];trivial
theorem EC(h:ER Z β H E F){op:PureOp}{d:DV}(hd:yd E op=some d):∃v,qn F op=some v/\xc Z H β d v:=by
 cases op with
 |mv x=>exact⟨_,rfl,xj h hd⟩
 |build z ps=>
  simp only [yd] at hd;split at hd
  ·rename_i l hl;obtain rfl:=zsi hd;obtain⟨cs,h1,h2⟩:=Ka h (vL z) hl;exact⟨.agg cs,by simp [qn,h1],cs,rfl,h2⟩
  ·cases hd
 |nilck x=>
  simp only [yd] at hd;split at hd
  all_goals try (cases hd;done)
  all_goals (rename_i hx;obtain rfl:=zsi hd;have hr:=xj h hx)
  ·obtain⟨c,hc,b,N,hb,rfl⟩:=hr;exact⟨_,by simp only [qn,hc],_,rfl,b,N,hb,rfl⟩
  ·obtain⟨c,hc,rfl⟩:=hr;exact⟨_,by simp only [qn,hc],_,rfl,rfl⟩
  ·obtain⟨c,hc,b,o,cs,rfl,h2⟩:=hr;exact⟨_,by simp only [qn,hc],_,rfl,b,o,cs,rfl,h2⟩
  ·obtain⟨c,hc,b,N,hb,rfl⟩:=hr;exact⟨_,by simp only [qn,hc],_,rfl,b,N,hb,rfl⟩
  ·obtain⟨c,hc,l',rfl,h2⟩:=hr;exact⟨_,by simp only [qn,hc],_,rfl,l',rfl,h2⟩
  ·obtain⟨c,hc,h2⟩:=hr;cases h2;rename_i h2;exact⟨_,by simp only [qn,hc],_,rfl,.c _ h2⟩
 |mkfn f caps=>
  simp only [yd] at hd;split at hd
  ·rename_i hc;obtain rfl:=zsi hd;obtain⟨r',h1,h2⟩:=Kj h hc;cases r' with
   |nil=>exact⟨.one (.fn f []),by simp [qn,h1],_,rfl,.c _ rfl⟩
   |cons _ _=>exact h2.elim
  ·rename_i l _ hc;obtain rfl:=zsi hd;obtain⟨r',h1,h2⟩:=Kj h hc;exact⟨.one (.fn f r'),by simp [qn,h1],_,rfl,r',rfl,h2⟩
  ·cases hd
 |faddr off x=>
  simp only [yd] at hd;split at hd
  all_goals try (cases hd;done)
  all_goals (rename_i hx;obtain rfl:=zsi hd;have hr:=xj h hx)
  ·obtain⟨c,hc,b,N,hb,rfl⟩:=hr;exact⟨_,by simp only [qn,hc],_,rfl,b,N,hb,rfl⟩
  ·obtain⟨c,hc,rfl⟩:=hr;exact⟨_,by simp only [qn,hc],_,rfl,rfl⟩
  ·obtain⟨c,hc,b,o,cs,rfl,h2,h3,h4⟩:=hr;obtain⟨cs',g1,g2⟩:=F5 h3 h4 off;exact⟨_,by simp only [qn,hc],_,rfl,b,_,cs',rfl,h2,g1,g2⟩
 |field agg off n x=>
  simp only [yd] at hd;split at hd
  ·rename_i l hx;obtain⟨cs,hc,hr⟩:=xj h hx;obtain⟨v,h1,h2⟩:=gN hr hd;exact⟨v,by simp only [qn,hc,h1],h2⟩
  ·cases hd
 |aaddr len esz x i=>
  simp only [yd] at hd;split at hd
  all_goals try (cases hd;done)
  all_goals
   split at hd
   all_goals try (cases hd;done)
   rename_i hx hi _ n hn;obtain rfl:=zsi hd;obtain⟨ci,hci,hri⟩:=xj h hi;cases hri;obtain⟨rfl,hlt⟩:=uF hn;have hr:=xj h hx
  ·obtain⟨c,hc,b,N,hb,rfl⟩:=hr;refine⟨_,by simp only [qn,hc,hci];rw [if_pos ⟨by omega,by omega⟩,Int.toNat_natCast],_,rfl,b,N,hb,rfl⟩
  ·obtain⟨c,hc,b,o,cs,rfl,h2,h3,h4⟩:=hr;obtain⟨cs',g1,g2⟩:=F5 h3 h4 (n*esz);refine⟨_,by simp only [qn,hc,hci];rw [if_pos ⟨by omega,by omega⟩,Int.toNat_natCast],_,rfl,b,_,cs',rfl,h2,g1,g2⟩
  ·obtain⟨c,hc,rfl⟩:=hr;exact⟨_,by simp only [qn,hc,hci];rw [if_pos ⟨by omega,by omega⟩,Int.toNat_natCast],_,rfl,rfl⟩
 |aindex len esz agg x i=>
  simp only [yd] at hd;split at hd
  ·rename_i hx hi;split at hd
   ·rename_i n hn;obtain⟨cs,hc,hr⟩:=xj h hx;obtain⟨ci,hci,hri⟩:=xj h hi;cases hri;obtain⟨rfl,hlt⟩:=uF hn;obtain⟨v,h1,h2⟩:=gN hr hd;exact⟨v,by simp only [qn,hc,hci];rw [if_pos ⟨by omega,by omega⟩,Int.toNat_natCast,h1],h2⟩
   ·cases hd
  ·cases hd
 |extract x i=>
  simp only [yd] at hd;split at hd
  ·rename_i l hx;obtain⟨vs,hc,hr⟩:=xj h hx;obtain⟨v,h1,h2⟩:=hr.at i d hd;exact⟨v,by simp only [qn,hc,h1],xc.of1 h2⟩
  ·cases hd
 |len x=>
  simp only [yd] at hd;split at hd
  ·rename_i e hx;obtain⟨c,hc,hr⟩:=xj h hx;unfold OC at hd;split at hd
   ·obtain rfl:=zsi hd;rcases hr with⟨_,rfl,_,rfl⟩|⟨b,N,cap,ex,_,rfl,_⟩
    ·exact⟨_,by simp only [qn,hc,Yk];rfl,_,rfl,.c _ rfl⟩
    ·exact⟨_,by simp only [qn,hc,Yk],_,rfl,.c _ rfl⟩
   ·obtain rfl:=zsi hd;rcases hr with⟨_,rfl,_,rfl⟩|⟨b,N,cap,ex,_,rfl,_⟩
    ·exact⟨_,by simp only [qn,hc,Yk];rfl,_,rfl,.c _ rfl⟩
    ·exact⟨_,by simp only [qn,hc,Yk],_,rfl,.c _ rfl⟩
   ·obtain rfl:=zsi hd;cases hr with
    |nil=>exact⟨_,by simp only [qn,hc,Yk];rfl,_,rfl,.c _ rfl⟩
    |sl=>exact⟨_,by simp only [qn,hc,Yk],_,rfl,.c _ rfl⟩
   ·obtain rfl:=zsi hd;cases hr;exact⟨_,by simp only [qn,hc,Yk],_,rfl,.c _ rfl⟩
   ·cases hd
  ·cases hd
 |nileq neg x=>
  simp only [yd] at hd;split at hd
  all_goals try (cases hd;done)
  all_goals (rename_i hx;obtain rfl:=zsi hd;obtain⟨c,hc,hr⟩:=xj h hx)
  ·cases hr;exact⟨_,by simp only [qn,hc],_,rfl,.c _ rfl⟩
  ·cases hr with
   |sl=>exact⟨_,by simp only [qn,hc],_,rfl,.c _ rfl⟩
  ·rcases hr with⟨_,h0,_⟩|⟨b,N,cap,ex,_,rfl,_⟩
   ·cases h0
   ·exact⟨_,by simp only [qn,hc],_,rfl,.c _ rfl⟩
 |_=>exact UF h hd
end
end Go.Ab
