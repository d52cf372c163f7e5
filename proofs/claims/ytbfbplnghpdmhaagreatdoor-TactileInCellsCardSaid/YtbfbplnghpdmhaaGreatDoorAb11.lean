/- -/
import Derived.Test.YtbfbplnghpdmhaaGreatDoorAb10
set_option linter.unusedSimpArgs false
set_option linter.unusedVariables false
namespace Go.Ab
def zw(Z:Nat->Prop)(H:Hp)(β:qw):DV->V->Prop
 |.one d,v=>∃c,v=.one c/\RD Z H β d c
 |.agg l,v=>∃cs,v=.agg cs/\qg (RD Z H β) l cs
 |.tup _,_=>False
def xC(Z:Nat->Prop)(H:Hp)(β:qw):DV->V->Prop
 |.tup l,v=>∃vs,v=.tup vs/\qg (zw Z H β) l vs
 |d,v=>zw Z H β d v
def Bk.rel(Z:Nat->Prop)(H:Hp)(β:qw):Bk->List C->Prop
 |.cells l,cs=>qg (RD Z H β) l cs
 |.data l,cs=>qg (RF Z H) l cs
 |.tree _,_=>False
 |.mp _ l,cs=>qg (RD Z H β) l cs
 |.mt _,_=>False
def Bk.len:Bk->Nat
 |.cells l=>l.length
 |.data l=>l.length
 |.tree rows=>rows.length
 |.mp _ l=>l.length
 |.mt es=>es.length
def Bk.flat:Bk->Bool
 |.tree _=>false
 |.mt _=>false
 |_=>true
def Bk.shape:Bk->Option Sh
 |.mp ks _=>some ks
 |_=>none
def tZ:Nat->V->Prop
 |0,v=>∃c,v=.one c
 |n+1,v=>∃l,v=.agg l/\l.length=n+1
def MF:List (V × V)->List C
 |[]=>[]
 |(k,v)::es=>k.cells++v.cells++MF es
def FP(F:T V):List Nat->List C->Prop
 |[],[]=>True
 |t::ts,c::cs=>F.get t=some (.one c)/\FP F ts cs
 |_,_=>False
def ZW:List (Int × Int × Nat)->List C->List (V × V × Nat)->Prop
 |[],[],[]=>True
 |k::ks,c::cs,e::es=>e=(.agg [.int .i64 k.1,.int .i64 k.2.1],.one c,k.2.2)/\ZW ks cs es
 |_,_,_=>False
def oA:Option Sh->Hp->Nat->List C->Prop
 |none,H,b,cs=>x6 H b cs
 |some (.m ks),H,b,cs=>∃es,H.get b=some (.mp es)/\(∀e∈es,tZ ks e.1/\∃c,e.2=.one c)/\MF es=cs
 |some (.lp st j f n ts ps sg bd),H,b,cs=>∃F,H.get b=some (.lp st j f n F ps.toArray sg bd)/\FP F ts cs
 |some (.st es clk),H,b,cs=>∃_:Unit,H.get b=some (.st es clk)/\cs=[]
 |some (.it since seen last),H,b,cs=>∃mb,H.get b=some (.it mb since seen last)/\cs=[.map mb]
 |some (.sm ks clk),H,b,cs=>∃es,H.get b=some (.st es clk)/\ZW ks cs es
def Yi:Option Sh->Nat->Nat->List C->Prop
 |none,n,N,_=>n=N
 |some _,_,_,rest=>rest=[]
theorem Yi.of{s:Option Sh}{n N:Nat}{rest:List C}(hs:s=none)(h:n=N):Yi s n N rest:=by subst hs;exact h
theorem oA.same{s:Option Sh}{H H':Hp}{b:Nat}{cs:List C}(h:oA s H b cs)(hg:H'.get b=H.get b):oA s H' b cs:=by
 cases s with
 |none=>exact x6.same h hg
 |some ks=>cases ks<;>(obtain⟨es,h1,h2⟩:=h;exact⟨es,by rw [hg];exact h1,h2⟩)
abbrev qq:=List (Nat × DV)
abbrev Bx:=List (Nat × Bk)
def lk{α:Type}:List (Nat × α)->Nat->Option α
 |[],_=>none
 |(k,v)::E,n=>match Nat.beq k n with
  |true=>some v
  |false=>lk E n
theorem jU(k:Nat):Nat.beq k k=true:=by simp
theorem jr{k n:Nat}(h:k≠n):Nat.beq k n=false:=by
 cases hb:Nat.beq k n with
 |true=>exact absurd (Nat.eq_of_beq_eq_true hb) h
 |false=>rfl
theorem qQ{α:Type}(k:Nat)(v:α)(E:List (Nat × α))(n:Nat):lk ((k,v)::E) n=if k=n then some v else lk E n:=by
 simp only [lk];by_cases h:k=n
 ·subst h;simp
 ·rw [if_neg h,jr h]
def zB{α:Type}(k:Nat):List (Nat × α)->List (Nat × α)
 |[]=>[]
 |(j,v)::E=>match Nat.beq j k with
  |true=>zB k E
  |false=>(j,v)::zB k E
theorem yP{α:Type}(k n:Nat):∀E:List (Nat × α),lk (zB k E) n=if n=k then none else lk E n
 |[]=>by simp [zB,lk]
 |(j,v)::E=>by
  simp only [zB];by_cases h:j=k
  ·subst h;rw [jU,qQ];simp only;rw [yP j n E];by_cases h2:n=j
   ·rw [if_pos h2,if_pos h2]
   ·rw [if_neg h2,if_neg h2,if_neg (fun h=>h2 h.symm)]
  ·rw [jr h];simp only;rw [qQ,qQ,yP k n E];by_cases h2:j=n
   ·rw [if_pos h2,if_neg (by omega),if_pos h2]
   ·rw [if_neg h2,if_neg h2]
def put{α:Type}(k:Nat)(v:α):List (Nat × α)->List (Nat × α)
 |[]=>[]
 |(j,u)::E=>match Nat.beq j k with
  |true=>(j,v)::E
  |false=>(j,u)::put k v E
theorem yx{α:Type}(k:Nat)(v:α)(n:Nat):∀E:List (Nat × α),lk (put k v E) n=if n=k then (lk E n).map (fun _=>v) else lk E n
 |[]=>by simp [put,lk]
 |(j,u)::E=>by
  simp only [put];by_cases h:j=k
  ·subst h;rw [jU];simp only;rw [qQ,qQ];by_cases h2:n=j
   ·subst h2;simp
   ·rw [if_neg h2,if_neg (fun h=>h2 h.symm),if_neg (fun h=>h2 h.symm)]
  ·rw [jr h];simp only;rw [qQ,qQ,yx k v n E];by_cases h2:j=n
   ·rw [if_pos h2,if_pos h2,if_neg (by omega)]
   ·rw [if_neg h2,if_neg h2]
def zh(k:Nat):Nat->List (List FD)->List DC
 |_,[]=>[]
 |i,r::rs=>.trow k i 0 r.length::zh k (i+1) rs
def kY(k:Nat):Nat->List (Int × ME)->List DC
 |_,[]=>[]
 |i,(y,.row r)::es=>.f (.c (.int .i64 y))::.trow k i 0 r.length::kY k (i+1) es
 |i,(y,.out c)::es=>.f (.c (.int .i64 y))::c::kY k (i+1) es
def we:Option (Int × ME)->Option Bk
 |some (_,.row r)=>some (.data r)
 |_=>none
def qP(S:Bx):zC->Option Bk
 |(k,0)=>match lk S k with
  |some (.tree rows)=>some (.cells (zh k 0 rows))
  |some (.mt es)=>some (.mp (.m 0) (kY k 0 es))
  |o=>o
 |(k,i+1)=>match lk S k with
  |some (.tree rows)=>(rows[i]?).map .data
  |some (.mt es)=>we es[i]?
  |_=>none
theorem wo{o:Option (Int × ME)}{x:Bk}(h:we o=some x):∃y r,o=some (y,.row r)/\x=.data r:=by
 unfold we at h;split at h
 ·exact⟨_,_,rfl,(zsi h).symm⟩
 ·cases h
def ME.map(f:DC->DC):ME->ME
 |.row r=>.row r
 |.out c=>.out (f c)
def wg(f:DC->DC)(es:List (Int × ME)):List (Int × ME):=es.map fun e=>(e.1,e.2.map f)
theorem WJ(f:DC->DC)(es:List (Int × ME))(i:Nat):we (wg f es)[i]?=we es[i]?:=by
 unfold wg;rw [List.getElem?_map];cases es[i]? with
 |none=>rfl
 |some e=>obtain⟨y,e⟩:=e;cases e<;>rfl
theorem YU(f:DC->DC)(k k':Nat)(hf:∀x,f (.f x)=.f x)(ht:∀i n,f (.trow k i 0 n)=.trow k' i 0 n):∀(i:Nat) (es:List (Int × ME)),kY k' i (wg f es)=(kY k i es).map f
 |_,[]=>rfl
 |i,(y,.row r)::es=>by
  have:=YU f k k' hf ht (i+1) es;simp only [wg,List.map_cons,ME.map,kY,hf,ht] at this ⊢;rw [this]
 |i,(y,.out c)::es=>by
  have:=YU f k k' hf ht (i+1) es;simp only [wg,List.map_cons,ME.map,kY,hf] at this ⊢;rw [this]
theorem kO(k:Nat):∀(i:Nat) (rs:List (List FD)),(zh k i rs).length=rs.length
 |_,[]=>rfl
 |i,_::rs=>by simp [zh,kO k (i+1) rs]
theorem Q9(k:Nat):∀(i:Nat) (rs:List (List FD)) (j:Nat),(zh k i rs)[j]?=(rs[j]?).map fun r=>.trow k (i+j) 0 r.length
 |_,[],j=>by simp [zh]
 |i,r::rs,0=>by simp [zh]
 |i,r::rs,j+1=>by
  simp only [zh,List.getElem?_cons_succ,Q9 k (i+1) rs j];rw [show i+1+j=i+(j+1) by omega]
theorem yy{S:Bx}{κ:zC}{x:Bk}(h:qP S κ=some x):∃y,lk S κ.1=some y:=by
 obtain⟨k,i⟩:=κ;cases i with
 |zero=>
  simp only [qP] at h;cases hl:lk S k with
  |none=>rw [hl] at h;cases h
  |some y=>exact⟨y,rfl⟩
 |succ i=>
  simp only [qP] at h;cases hl:lk S k with
  |none=>rw [hl] at h;cases h
  |some y=>exact⟨y,rfl⟩
theorem xX{S:Bx}{k:Nat}{x:Bk}(h:lk S k=some x)(hx:x.flat=true):qP S (k,0)=some x:=by
 simp only [qP,h];cases x with
 |tree rows=>cases hx
 |cells l=>rfl
 |data l=>rfl
 |mp ks l=>rfl
 |mt es=>cases hx
theorem lM{S:Bx}{k i:Nat}{x y:Bk}(h:lk S k=some x)(hx:x.flat=true)(hy:qP S (k,i)=some y):i=0/\y=x:=by
 cases i with
 |zero=>rw [xX h hx] at hy;exact⟨rfl,(zsi hy).symm⟩
 |succ i=>
  simp only [qP,h] at hy;cases x with
  |tree rows=>cases hx
  |cells l=>cases hy
  |data l=>cases hy
  |mp ks l=>cases hy
  |mt es=>cases hx
theorem z6{S S':Bx}{κ:zC}(h:lk S κ.1=lk S' κ.1):qP S κ=qP S' κ:=by
 obtain⟨k,i⟩:=κ;cases i with
 |zero=>simp only [qP];rw [h]
 |succ i=>simp only [qP];rw [h]
theorem GZ{S:Bx}{κ:zC}(h:lk S κ.1=none):qP S κ=none:=by
 cases hl:qP S κ with
 |none=>rfl
 |some x=>obtain⟨y,hy⟩:=yy hl;rw [h] at hy;cases hy
structure Par where
 P:Program
 G:Nat
 GH:Hp
 Z0:Nat->Prop
 lo:Nat
 anc:Nat
 β0:qw
 H1:Hp
 /-- whose round it is -/
 ρ:Option Nat
abbrev Par.base(P:Program)(G:Nat)(GH:Hp)(Z0:Nat->Prop)(lo:Nat):Par:=⟨P,G,GH,Z0,lo,0,fun _=>none,⟨.lf,0⟩,none⟩
def Par.fix(p:Par)(b:Nat)(bk:B):Prop:=p.GH.get b=some bk\/(p.Z0 b/\p.H1.get b=some bk)
def y8(p:Par)(Z:Nat->Prop)(H:Hp)(β:qw)(x:Bk):Slot->Prop
 |.nil=>x.len=0
 |.blk b N=>¬Z b/\p.lo<=b/\b<H.nx/\∃cs rest,oA x.shape H b (cs++rest)/\Yi x.shape (cs++rest).length N rest/\x.rel Z H β cs
structure SR (p:Par) (Z:Nat->Prop) (β:qw) (H:Hp) (S:Bx) (nn:Nat):Prop where
 wf:WF H
 lo:p.lo<=H.nx
 z:∀b,Z b->b<H.nx
 zlo:∀b,Z b->p.Z0 b\/p.lo<=b
 zz:∀b,p.Z0 b->Z b
 glob:∀b bk,p.fix b bk->Z b/\H.get b=some bk
 nk:∀κ:zC,nn<=κ.1->β κ=none
 bd:∀κ b N,β κ=some (.blk b N)->b<H.nx
 box:∀κ x,qP S κ=some x->∃s,β κ=some s/\y8 p Z H β x s
 inj:∀(κ κ':zC) x x' b N N',lk S κ.1=some x->lk S κ'.1=some x'->β κ=some (.blk b N)->β κ'=some (.blk b N')->κ=κ'
 blo:∀κ b N,β κ=some (.blk b N)->p.lo<=b
 anch:∀κ:zC,κ.1<p.anc->κ.2=0->β κ=p.β0 κ
 ancn:p.anc<=nn
def ER(Z:Nat->Prop)(β:qw)(H:Hp)(E:qq)(F:T V):Prop:=∀n d,lk E n=some d->∃v,F.get n=some v/\xC Z H β d v
section
variable{Z Z':Nat->Prop}{H H':Hp}{β β':qw}
def xo(Z:Nat->Prop)(H:Hp)(Z':Nat->Prop)(H':Hp):Prop:=∀b,Z b->Z' b/\∀i c,H.cell b i=some c->H'.cell b i=some c
theorem xo.loads(h:xo Z H Z' H'){b:Nat}(hb:Z b):∀{n o:Nat} {l:List C},H.loads b o n=some l->H'.loads b o n=some l
 |0,_,_,hl=>hl
 |n+1,o,l,hl=>by
  simp only [Hp.loads] at hl ⊢;cases hc:H.cell b o with
  |none=>simp [hc] at hl
  |some c=>
   simp only [hc] at hl;simp only [(h b hb).2 _ _ hc];cases hr:H.loads b (o+1) n with
   |none=>simp [hr] at hl
   |some r=>simp only [hr] at hl;simp only [h.loads hb hr];exact hl
theorem RF.mono(h:xo Z H Z' H'){d:FD}{c:C}(hr:RF Z H d c):RF Z' H' d c:=by
 induction hr with
 |c x hx=>exact .c x hx
 |nil e=>exact .nil e
 |sl hz hl hn hld _ ih=>
  rename_i esz n _ _ _ _ _ _ _;refine .sl (fun h0=>(h _ (hz h0)).1) hl hn ?_ ih;by_cases h0:0<n*esz
  ·exact h.loads (hz h0) hld
  ·have h1:n*esz=0:=by omega
   rw [h1] at hld ⊢;exact hld
def xO(β β':qw):Prop:=∀k s,β k=some s->β' k=some s
theorem jY.mono(hb:xO β β'):∀{l l':List (Nat × Nat)},jY β l l'->jY β' l l'
 |[],[],_=>trivial
 |(_,_)::_,(_,_)::_,⟨h1,⟨N,h2⟩,h3⟩=>⟨h1,⟨N,hb _ _ h2⟩,jY.mono hb h3⟩
theorem fT.mono(h:xo Z H Z' H'):∀{ls:List (List FD)} {ps:List (Nat × Nat)},fT Z H ls ps->fT Z' H' ls ps
 |[],[],_=>trivial
 |_::_,p::_,⟨⟨h1,cs,h2,h3⟩,h4⟩=>⟨⟨(h p.1 h1).1,cs,h.loads h1 h2,h3.mono fun _ _=>RF.mono h⟩,fT.mono h h4⟩
 |[],_::_,hh=>hh.elim
 |_::_,[],hh=>hh.elim
theorem RD.mono(h:xo Z H Z' H')(hb:xO β β'){d:DC}{c:C}(hr:RD Z H β d c):RD Z' H' β' d c:=by
 cases d with
 |f d=>exact RF.mono h hr
 |g b o=>exact hr
 |ptr k o=>obtain⟨b,N,h1,h2⟩:=hr;exact⟨b,N,hb _ _ h1,h2⟩
 |own k o n esz=>
  rcases hr with⟨h1,h2⟩|⟨b,N,cap,ex,h1,h2⟩
  ·exact .inl ⟨hb _ _ h1,h2⟩
  ·exact .inr ⟨b,N,cap,ex,hb _ _ h1,h2⟩
 |fptr l=>obtain⟨b,o,cs,h1,h2,h3,h4⟩:=hr;exact⟨b,o,cs,h1,(h b h2).1,h.loads h2 h3,h4.mono fun _ _=>RF.mono h⟩
 |fn f caps=>obtain⟨caps',h1,h2⟩:=hr;exact⟨caps',h1,h2.mono hb⟩
 |any=>trivial
 |om k=>obtain⟨b,N,h1,h2⟩:=hr;exact⟨b,N,hb _ _ h1,h2⟩
 |yl k=>obtain⟨b,N,h1,h2⟩:=hr;exact⟨b,N,hb _ _ h1,h2⟩
 |fz f ls=>obtain⟨caps,h1,h2⟩:=hr;exact⟨caps,h1,h2.mono h⟩
 |tptr k i o=>obtain⟨b,N,h1,h2⟩:=hr;exact⟨b,N,hb _ _ h1,h2⟩
 |trow k i o n=>
  rcases hr with⟨h1,h2⟩|⟨b,N,cap,ex,h1,h2⟩
  ·exact .inl ⟨hb _ _ h1,h2⟩
  ·exact .inr ⟨b,N,cap,ex,hb _ _ h1,h2⟩
theorem zw.mono(h:xo Z H Z' H')(hb:xO β β'){d:DV}{v:V}(hr:zw Z H β d v):zw Z' H' β' d v:=by
 cases d with
 |one d=>obtain⟨c,h1,h2⟩:=hr;exact⟨c,h1,h2.mono h hb⟩
 |agg l=>obtain⟨c,h1,h2⟩:=hr;exact⟨c,h1,h2.mono fun _ _=>RD.mono h hb⟩
 |tup l=>exact hr.elim
theorem xC.mono(h:xo Z H Z' H')(hb:xO β β'){d:DV}{v:V}(hr:xC Z H β d v):xC Z' H' β' d v:=by
 cases d with
 |one d=>exact zw.mono (d:=.one d) h hb hr
 |agg l=>exact zw.mono (d:=.agg l) h hb hr
 |tup l=>obtain⟨vs,h1,h2⟩:=hr;exact⟨vs,h1,h2.mono fun _ _=>zw.mono h hb⟩
theorem xC.of1{d:DV}{v:V}(h:zw Z H β d v):xC Z H β d v:=by
 cases d with
 |one c=>exact h
 |agg l=>exact h
 |tup l=>exact h.elim
theorem Bk.rel_mono(h:xo Z H Z' H')(hb:xO β β'){x:Bk}{cs:List C}(hr:x.rel Z H β cs):x.rel Z' H' β' cs:=by
 cases x with
 |cells l=>exact qg.mono (fun _ _=>RD.mono h hb) hr
 |data l=>exact qg.mono (fun _ _=>RF.mono h) hr
 |tree rows=>exact hr.elim
 |mp ks l=>exact qg.mono (fun _ _=>RD.mono h hb) hr
 |mt es=>exact hr.elim
theorem Bk.rel_len{x:Bk}{cs:List C}(hr:x.rel Z H β cs):x.len=cs.length:=by
 cases x with
 |cells l=>exact qg.len hr
 |data l=>exact qg.len hr
 |tree rows=>exact hr.elim
 |mp ks l=>exact qg.len hr
 |mt es=>exact hr.elim
theorem Bk.rel_flat{x:Bk}{cs:List C}(hr:x.rel Z H β cs):x.flat=true:=by
 cases x with
 |tree rows=>exact hr.elim
 |mt es=>exact hr.elim
 |_=>rfl
theorem ER.mono(h:xo Z H Z' H')(hb:xO β β'){E:qq}{F:T V}(hr:ER Z β H E F):ER Z' β' H' E F:=fun n d hd=>by
 obtain⟨v,h1,h2⟩:=hr n d hd;exact⟨v,h1,h2.mono h hb⟩
theorem xo.refl(Z:Nat->Prop)(H:Hp):xo Z H Z H:=fun _ h=>⟨h,fun _ _ h=>h⟩
theorem xo.of_get(hz:∀b,Z b->Z' b)(hg:∀b,Z b->H'.get b=H.get b):xo Z H Z' H':=fun b h=>⟨hz b h,fun i c hc=>by unfold Hp.cell at hc ⊢;rw [hg b h];exact hc⟩
theorem xO.refl(β:qw):xO β β:=fun _ _ h=>h
theorem xo.of_le(hz:∀b,Z b->Z' b)(hl:Le H H'):xo Z H Z' H':=fun b h=>⟨hz b h,fun i c hc=>hl b i c hc⟩
def xk(E:qq):Option Nat->DV->qq
 |some d,v=>(d,v)::E
 |none,_=>E
theorem ER.set{E:qq}{F:T V}(h:ER Z β H E F)(d:Option Nat){x:DV}{v:V}(hv:xC Z H β x v):ER Z β H (xk E d x) (xF F d v):=by
 cases d with
 |none=>exact h
 |some d=>
  intro n y hy;simp only [xk,qQ] at hy;simp only [xF,T.get_set];split at hy
  ·rename_i e;subst e;rw [if_pos rfl];obtain rfl:=zsi hy;exact⟨v,rfl,hv⟩
  ·rename_i e;rw [if_neg (fun h=>e h.symm)];exact h n y hy
def QD:C->DC
 |.ptr b o=>.g b o
 |.slc _ _ _ _ _ _=>.any
 |.map _=>.any
 |.yld _=>.any
 |.fn f []=>.f (.c (.fn f []))
 |.fn _ _=>.any
 |c=>.f (.c c)
def BH:V->DV
 |.one c=>.one (QD c)
 |.agg l=>.agg (l.map QD)
 |.tup _=>.one .any
theorem gY(c:C):RD Z H β (QD c) c:=by
 cases c with
 |fn f caps=>cases caps with
  |nil=>exact .c _ rfl
  |cons _ _=>trivial
 |ptr b o=>rfl
 |slc=>trivial
 |map=>trivial
 |yld=>trivial
 |_=>exact .c _ rfl
theorem Q7:∀l:List C,qg (RD Z H β) (l.map QD) l
 |[]=>trivial
 |c::l=>⟨gY c,Q7 l⟩
theorem YK(v:V)(hv:w9 v=true):zw Z H β (BH v) v:=by
 cases v with
 |one c=>exact⟨c,rfl,gY c⟩
 |agg l=>exact⟨l,rfl,Q7 l⟩
 |tup l=>cases hv
def ro(E:qq):Opd->Option DV
 |.t n=>lk E n
 |.c (.one (.int k n))=>some (.one (.f (.c (.int k n))))
 |.c (.one (.bool b))=>some (.one (.f (.c (.bool b))))
 |.c (.one c)=>some (.one (QD c))
 |.c (.agg l)=>some (.agg (l.map QD))
 |.c (.tup _)=>none
theorem xf{E:qq}{F:T V}(h:ER Z β H E F){o:Opd}{d:DV}(ho:ro E o=some d):xC Z H β d (o.ev F):=by
 cases o with
 |t n=>
  obtain⟨v,h1,h2⟩:=h n d ho;simp only [Opd.ev,h1,Option.getD_some];exact h2
 |c v=>
  cases v with
  |one c=>cases c<;>(obtain rfl:=zsi ho;exact xC.of1 (YK (.one _) rfl))
  |agg l=>obtain rfl:=zsi ho;exact xC.of1 (YK (.agg l) rfl)
  |tup l=>cases ho
def D7:DC->Option C
 |.f (.c x)=>some x
 |_=>none
def rM:List DC->Option (List C)
 |[]=>some []
 |d::l=>match D7 d,rM l with
  |some c,some r=>some (c::r)
  |_,_=>none
def bW:DV->Option V
 |.one d=>match D7 d with
  |some c=>some (.one c)
  |none=>none
 |.agg l=>match rM l with
  |some r=>some (.agg r)
  |none=>none
 |.tup _=>none
theorem D6{d:DC}{x c:C}(h:D7 d=some x)(hr:RD Z H β d c):c=x:=by
 cases d with
 |f d=>cases d with
  |c y=>obtain rfl:=zsi h;cases hr;rfl
  |sl=>cases h
 |_=>cases h
theorem D4:∀{l:List DC} {xs cs:List C},rM l=some xs->qg (RD Z H β) l cs->cs=xs
 |[],xs,[],h,_=>by obtain rfl:=zsi h;rfl
 |d::l,xs,c::cs,h,hr=>by
  simp only [rM] at h;split at h
  ·rename_i x r h1 h2;obtain rfl:=zsi h;rw [D6 h1 hr.1,D4 h2 hr.2]
  ·cases h
 |[],_,_::_,_,hr=>hr.elim
 |_::_,_,[],_,hr=>hr.elim
theorem D3{d:DV}{x v:V}(h:bW d=some x)(hr:xC Z H β d v):v=x:=by
 cases d with
 |one d=>
  obtain⟨c,rfl,hr⟩:=hr;simp only [bW] at h;split at h
  ·rename_i y hy;obtain rfl:=zsi h;rw [D6 hy hr]
  ·cases h
 |agg l=>
  obtain⟨c,rfl,hr⟩:=hr;simp only [bW] at h;split at h
  ·rename_i y hy;obtain rfl:=zsi h;rw [D4 hy hr]
  ·cases h
 |tup l=>cases h
end
def xK{α:Type}(l:List α)(o n:Nat):Option (List α):=match Nat.ble (o+n) l.length with
 |true=>some ((l.drop o).take n)
 |false=>none
theorem zV{α:Type}{l r:List α}{o n:Nat}(h:xK l o n=some r):o+n<=l.length/\r=(l.drop o).take n:=by
 unfold xK at h;split at h
 ·rename_i e;exact⟨Nat.le_of_ble_eq_true e,(zsi h).symm⟩
 ·cases h
theorem yj{α:Type}{l:List α}{o n:Nat}(h:o+n<=l.length):xK l o n=some ((l.drop o).take n):=by
 unfold xK;rw [Nat.ble_eq_true_of_le h]
def gD(agg:Bool)(off n:Nat)(l:List DC):Option DV:=
 match agg with
 |true=>match xK l off n with
  |some r=>some (.agg r)
  |none=>none
 |false=>match l[off]? with
  |some c=>some (.one c)
  |none=>none
def Kh:DV->Option (List DC)
 |.one c=>some [c]
 |.agg l=>some l
 |.tup _=>none
def KR(E:qq):List DC->List (Nat × Nat × Opd)->Option (List DC)
 |z,[]=>some z
 |z,(off,size,x)::r=>match ro E x with
  |none=>none
  |some d=>match Kh d with
   |none=>none
   |some cs=>match Nat.beq cs.length size,Nat.ble (off+size) z.length with
    |true,true=>KR E (z.take off++cs++z.drop (off+size)) r
    |_,_=>none
def mQ(E:qq)(o:Opd):Option V:=match ro E o with
 |some d=>bW d
 |none=>none
def rx(E:qq)(o:Opd):Opd:=match mQ E o with
 |some v=>.c v
 |none=>o
def t8(E:qq)(o:Opd):Bool:=(mQ E o).isSome
def qV{α:Type}(f:α->Bool):List α->Bool
 |[]=>true
 |x::l=>match f x with
  |true=>qV f l
  |false=>false
theorem ye{α:Type}{f:α->Bool}:∀{l:List α},qV f l=true->∀x∈l,f x=true
 |[],_,x,hx=>by cases hx
 |y::l,h,x,hx=>by
  simp only [qV] at h;split at h
  ·rename_i e;rcases List.mem_cons.1 hx with rfl|hx
   ·exact e
   ·exact ye h x hx
  ·cases h
def UF:Option V->Option DV
 |some (.one (.int k n))=>some (.one (.f (.c (.int k n))))
 |some (.one (.bool b))=>some (.one (.f (.c (.bool b))))
 |some (.one c)=>some (.one (QD c))
 |some (.agg l)=>some (.agg (l.map QD))
 |_=>none
def NC(E:qq)(op:PureOp):Option DV:=match qV (t8 E) op.opds with
 |true=>UF (qv .lf (op.mp (rx E)))
 |false=>none
def gF(E:qq):List Opd->Option (List (Nat × Nat))
 |[]=>some []
 |x::l=>match ro E x,gF E l with
  |some (.one (.ptr k o)),some r=>some ((k,o)::r)
  |_,_=>none
def xN(j:Int)(len:Nat):Option Nat:=match j with
 |.ofNat n=>match Nat.blt n len with
  |true=>some n
  |false=>none
 |.negSucc _=>none
theorem DG{j:Int}{len n:Nat}(h:xN j len=some n):j=n/\n<len:=by
 unfold xN at h;split at h
 ·split at h
  ·rename_i e;obtain rfl:=zsi h;exact⟨rfl,Nat.le_of_ble_eq_true e⟩
  ·cases h
 ·cases h
def Ae:DC->Option DV
 |.own _ _ n _=>some (.int n)
 |.trow _ _ _ n=>some (.int n)
 |.f (.sl _ n _)=>some (.int n)
 |.f (.c .nils)=>some (.int 0)
 |_=>none
def jg(E:qq):PureOp->Option DV
 |.mv x=>ro E x
 |.build z ps=>match KR E (z.map QD) ps with
  |some l=>some (.agg l)
  |none=>none
 |.nilck x=>match ro E x with
  |some (.one (.ptr k o))=>some (.one (.ptr k o))
  |some (.one (.g b o))=>some (.one (.g b o))
  |some (.one (.fptr l))=>some (.one (.fptr l))
  |some (.one (.tptr k i o))=>some (.one (.tptr k i o))
  |some (.one (.fn f l))=>some (.one (.fn f l))
  |some (.one (.f (.c (.fn f l))))=>some (.one (.f (.c (.fn f l))))
  |_=>none
 |.mkfn f caps=>match gF E caps with
  |some []=>some (.one (.f (.c (.fn f []))))
  |some l=>some (.one (.fn f l))
  |none=>none
 |.faddr off x=>match ro E x with
  |some (.one (.ptr k o))=>some (.one (.ptr k (o+off)))
  |some (.one (.g b o))=>some (.one (.g b (o+off)))
  |some (.one (.fptr l))=>some (.one (.fptr (l.drop off)))
  |_=>none
 |.field agg off n x=>match ro E x with
  |some (.agg l)=>gD agg off n l
  |_=>none
 |.aaddr len esz x i=>match ro E x,ro E i with
  |some (.one (.ptr k o)),some (.one (.f (.c (.int _ j))))=>match xN j len with
   |some n=>some (.one (.ptr k (o+n*esz)))
   |none=>none
  |some (.one (.fptr l)),some (.one (.f (.c (.int _ j))))=>match xN j len with
   |some n=>some (.one (.fptr (l.drop (n*esz))))
   |none=>none
  |some (.one (.g b o)),some (.one (.f (.c (.int _ j))))=>match xN j len with
   |some n=>some (.one (.g b (o+n*esz)))
   |none=>none
  |_,_=>none
 |.aindex len esz agg x i=>match ro E x,ro E i with
  |some (.agg l),some (.one (.f (.c (.int _ j))))=>match xN j len with
   |some n=>gD agg (n*esz) esz l
   |none=>none
  |_,_=>none
 |.extract x i=>match ro E x with
  |some (.tup l)=>l[i]?
  |_=>none
 |.len x=>match ro E x with
  |some (.one d)=>Ae d
  |_=>none
 |.nileq neg x=>match ro E x with
  |some (.one (.f (.c .nils)))=>some (.bool !neg)
  |some (.one (.f (.sl _ (_+1) _)))=>some (.bool neg)
  |some (.one (.own _ _ (_+1) _))=>some (.bool neg)
  |_=>none
 |op=>NC E op
section
variable{Z:Nat->Prop}{H:Hp}{β:qw}{E:qq}{F:T V}
theorem qcB(h:ER Z β H E F){o:Opd}(ho:t8 E o=true):(rx E o).ev .lf=o.ev F:=by
 unfold t8 at ho;obtain⟨v,hv⟩:=Option.isSome_iff_exists.1 ho;simp only [rx,hv,Opd.ev];unfold mQ at hv;split at hv
 ·rename_i d hd;exact (D3 hv (xf h hd)).symm
 ·cases hv
theorem qa2(h:ER Z β H E F){op:PureOp}{d:DV}(hd:NC E op=some d):∃v,qv F op=some v/\xC Z H β d v:=by
 unfold NC at hd;split at hd
 ·rename_i hall;rw [pT (F:=F) fun o ho=>qcB h (ye hall o ho)] at hd;unfold UF at hd;split at hd
  ·rename_i hc;obtain rfl:=zsi hd;exact⟨_,hc,_,rfl,.c _ rfl⟩
  ·rename_i hc;obtain rfl:=zsi hd;exact⟨_,hc,_,rfl,.c _ rfl⟩
  ·rename_i c _ _ hc;obtain rfl:=zsi hd;exact⟨_,hc,c,rfl,gY c⟩
  ·rename_i l hc;obtain rfl:=zsi hd;exact⟨_,hc,l,rfl,Q7 l⟩
  ·cases hd
 ·cases hd
theorem m8{agg:Bool}{off n:Nat}{l:List DC}{cs:List C}(hr:qg (RD Z H β) l cs){d:DV}(hd:gD agg off n l=some d):∃v,JP agg off n cs=some v/\xC Z H β d v:=by
 unfold gD at hd;split at hd
 ·split at hd
  ·rename_i r hs;obtain rfl:=zsi hd;obtain⟨h1,rfl⟩:=zV hs;refine⟨.agg ((cs.drop off).take n),?_,_,rfl,(hr.drop off).take n⟩;simp only [JP,if_true];rw [if_pos (by rw [<-hr.len];exact h1)]
  ·cases hd
 ·split at hd
  ·rename_i c hc;obtain rfl:=zsi hd;obtain⟨x,hx,hrx⟩:=hr.at off c hc;refine⟨.one x,?_,x,rfl,hrx⟩;simp [JP,hx]
  ·cases hd
theorem Kg{d:DV}{v:V}{l:List DC}(hr:xC Z H β d v)(hl:Kh d=some l):∃cs,jC v=some cs/\qg (RD Z H β) l cs:=by
 cases d with
 |one d=>obtain⟨c,rfl,hr⟩:=hr;obtain rfl:=zsi hl;exact⟨_,rfl,hr,trivial⟩
 |agg l'=>obtain⟨c,rfl,hr⟩:=hr;obtain rfl:=zsi hl;exact⟨_,rfl,hr⟩
 |tup l'=>cases hl
theorem VX(h:ER Z β H E F):∀{ps:List (Nat × Nat × Opd)} {z l:List DC} {zs:List C},qg (RD Z H β) z zs->KR E z ps=some l->∃cs,yp F zs ps=some cs/\qg (RD Z H β) l cs
 |[],z,l,zs,hz,hl=>by obtain rfl:=zsi hl;exact⟨zs,rfl,hz⟩
 |(off,size,x)::r,z,l,zs,hz,hl=>by
  simp only [KR] at hl;split at hl
  ·cases hl
  ·rename_i d hd;split at hl
   ·cases hl
   ·rename_i cs hcs;split at hl
    ·rename_i e1 e2;obtain⟨ks,hk1,hk2⟩:=Kg (xf h hd) hcs;have e1':=Nat.eq_of_beq_eq_true e1;have e2':=Nat.le_of_ble_eq_true e2;obtain⟨cs',g1,g2⟩:=VX h (((hz.take off).append hk2).append (hz.drop (off+size))) hl;refine⟨cs',?_,g2⟩;simp only [yp,hk1];rw [if_pos ⟨by rw [<-hk2.len];exact e1',by rw [<-hz.len];exact e2'⟩];exact g1
    ·cases hl
theorem V7(h:ER Z β H E F):∀{l:List Opd} {r:List (Nat × Nat)},gF E l=some r->∃r',kI F l=some r'/\jY β r r'
 |[],r,hr=>by obtain rfl:=zsi hr;exact⟨[],rfl,trivial⟩
 |x::l,r,hr=>by
  simp only [gF] at hr;split at hr
  ·rename_i k o r0 h1 h2;obtain rfl:=zsi hr;obtain⟨r',g1,g2⟩:=V7 h h2;obtain⟨c,hc,b,N,hb,rfl⟩:=xf h h1;exact⟨(b,o)::r',by simp only [kI,hc,g1],rfl,⟨N,hb⟩,g2⟩
  ·cases hr
theorem MC{l:List FD}{b o:Nat}{cs:List C}(h1:H.loads b o l.length=some cs)(h2:qg (RF Z H) l cs)(off:Nat):∃cs',H.loads b (o+off) (l.drop off).length=some cs'/\qg (RF Z H) (l.drop off) cs':=by
 by_cases ho:off<=l.length
 ·refine⟨cs.drop off,?_,h2.drop off⟩;rw [List.length_drop];exact QN h1 ho
 ·refine⟨[],?_,?_⟩
  ·rw [List.length_drop,show l.length-off=0 by omega];rfl
  ·rw [List.drop_of_length_le (by omega)];trivial
theorem IS(h:ER Z β H E F){op:PureOp}{d:DV}(hd:jg E op=some d):∃v,qv F op=some v/\xC Z H β d v:=by
 cases op with
 |mv x=>exact⟨_,rfl,xf h hd⟩
 |build z ps=>
  simp only [jg] at hd;split at hd
  ·rename_i l hl;obtain rfl:=zsi hd;obtain⟨cs,h1,h2⟩:=VX h (Q7 z) hl;exact⟨.agg cs,by simp [qv,h1],cs,rfl,h2⟩
  ·cases hd
 |nilck x=>
  simp only [jg] at hd;split at hd
  all_goals try (cases hd;done)
  all_goals (rename_i hx;obtain rfl:=zsi hd;have hr:=xf h hx)
  ·obtain⟨c,hc,b,N,hb,rfl⟩:=hr;exact⟨_,by simp only [qv,hc],_,rfl,b,N,hb,rfl⟩
  ·obtain⟨c,hc,rfl⟩:=hr;exact⟨_,by simp only [qv,hc],_,rfl,rfl⟩
  ·obtain⟨c,hc,b,o,cs,rfl,h2⟩:=hr;exact⟨_,by simp only [qv,hc],_,rfl,b,o,cs,rfl,h2⟩
  ·obtain⟨c,hc,b,N,hb,rfl⟩:=hr;exact⟨_,by simp only [qv,hc],_,rfl,b,N,hb,rfl⟩
  ·obtain⟨c,hc,l',rfl,h2⟩:=hr;exact⟨_,by simp only [qv,hc],_,rfl,l',rfl,h2⟩
  ·obtain⟨c,hc,h2⟩:=hr;cases h2;rename_i h2;exact⟨_,by simp only [qv,hc],_,rfl,.c _ h2⟩
 |mkfn f caps=>
  simp only [jg] at hd;split at hd
  ·rename_i hc;obtain rfl:=zsi hd;obtain⟨r',h1,h2⟩:=V7 h hc;cases r' with
   |nil=>exact⟨.one (.fn f []),by simp [qv,h1],_,rfl,.c _ rfl⟩
   |cons _ _=>exact h2.elim
  ·rename_i l _ hc;obtain rfl:=zsi hd;obtain⟨r',h1,h2⟩:=V7 h hc;exact⟨.one (.fn f r'),by simp [qv,h1],_,rfl,r',rfl,h2⟩
  ·cases hd
 |faddr off x=>
  simp only [jg] at hd;split at hd
  all_goals try (cases hd;done)
  all_goals (rename_i hx;obtain rfl:=zsi hd;have hr:=xf h hx)
  ·obtain⟨c,hc,b,N,hb,rfl⟩:=hr;exact⟨_,by simp only [qv,hc],_,rfl,b,N,hb,rfl⟩
  ·obtain⟨c,hc,rfl⟩:=hr;exact⟨_,by simp only [qv,hc],_,rfl,rfl⟩
  ·obtain⟨c,hc,b,o,cs,rfl,h2,h3,h4⟩:=hr;obtain⟨cs',g1,g2⟩:=MC h3 h4 off;exact⟨_,by simp only [qv,hc],_,rfl,b,_,cs',rfl,h2,g1,g2⟩
 |field agg off n x=>
  simp only [jg] at hd;split at hd
  ·rename_i l hx;obtain⟨cs,hc,hr⟩:=xf h hx;obtain⟨v,h1,h2⟩:=m8 hr hd;exact⟨v,by simp only [qv,hc,h1],h2⟩
  ·cases hd
 |aaddr len esz x i=>
  simp only [jg] at hd;split at hd
  all_goals try (cases hd;done)
  all_goals
   split at hd
   all_goals try (cases hd;done)
   rename_i hx hi _ n hn;obtain rfl:=zsi hd;obtain⟨ci,hci,hri⟩:=xf h hi;cases hri;obtain⟨rfl,hlt⟩:=DG hn;have hr:=xf h hx
  ·obtain⟨c,hc,b,N,hb,rfl⟩:=hr;refine⟨_,by simp only [qv,hc,hci];rw [if_pos ⟨by omega,by omega⟩,Int.toNat_natCast],_,rfl,b,N,hb,rfl⟩
  ·obtain⟨c,hc,b,o,cs,rfl,h2,h3,h4⟩:=hr;obtain⟨cs',g1,g2⟩:=MC h3 h4 (n*esz);refine⟨_,by simp only [qv,hc,hci];rw [if_pos ⟨by omega,by omega⟩,Int.toNat_natCast],_,rfl,b,_,cs',rfl,h2,g1,g2⟩
  ·obtain⟨c,hc,rfl⟩:=hr;exact⟨_,by simp only [qv,hc,hci];rw [if_pos ⟨by omega,by omega⟩,Int.toNat_natCast],_,rfl,rfl⟩
 |aindex len esz agg x i=>
  simp only [jg] at hd;split at hd
  ·rename_i hx hi;split at hd
   ·rename_i n hn;obtain⟨cs,hc,hr⟩:=xf h hx;obtain⟨ci,hci,hri⟩:=xf h hi;cases hri;obtain⟨rfl,hlt⟩:=DG hn;obtain⟨v,h1,h2⟩:=m8 hr hd;exact⟨v,by simp only [qv,hc,hci];rw [if_pos ⟨by omega,by omega⟩,Int.toNat_natCast,h1],h2⟩
   ·cases hd
  ·cases hd
 |extract x i=>
  simp only [jg] at hd;split at hd
  ·rename_i l hx;obtain⟨vs,hc,hr⟩:=xf h hx;obtain⟨v,h1,h2⟩:=hr.at i d hd;exact⟨v,by simp only [qv,hc,h1],xC.of1 h2⟩
  ·cases hd
 |len x=>
  simp only [jg] at hd;split at hd
  ·rename_i e hx;obtain⟨c,hc,hr⟩:=xf h hx;unfold Ae at hd;split at hd
   ·obtain rfl:=zsi hd;rcases hr with⟨_,rfl,_,rfl⟩|⟨b,N,cap,ex,_,rfl,_⟩
    ·exact⟨_,by simp only [qv,hc,XY];rfl,_,rfl,.c _ rfl⟩
    ·exact⟨_,by simp only [qv,hc,XY],_,rfl,.c _ rfl⟩
   ·obtain rfl:=zsi hd;rcases hr with⟨_,rfl,_,rfl⟩|⟨b,N,cap,ex,_,rfl,_⟩
    ·exact⟨_,by simp only [qv,hc,XY];rfl,_,rfl,.c _ rfl⟩
    ·exact⟨_,by simp only [qv,hc,XY],_,rfl,.c _ rfl⟩
   ·obtain rfl:=zsi hd;cases hr with
    |nil=>exact⟨_,by simp only [qv,hc,XY];rfl,_,rfl,.c _ rfl⟩
    |sl=>exact⟨_,by simp only [qv,hc,XY],_,rfl,.c _ rfl⟩
   ·obtain rfl:=zsi hd;cases hr;exact⟨_,by simp only [qv,hc,XY],_,rfl,.c _ rfl⟩
   ·cases hd
  ·cases hd
 |nileq neg x=>
  simp only [jg] at hd;split at hd
  all_goals try (cases hd;done)
  all_goals (rename_i hx;obtain rfl:=zsi hd;obtain⟨c,hc,hr⟩:=xf h hx)
  ·cases hr;exact⟨_,by simp only [qv,hc],_,rfl,.c _ rfl⟩
  ·cases hr with
   |sl=>exact⟨_,by simp only [qv,hc],_,rfl,.c _ rfl⟩
  ·rcases hr with⟨_,h0,_⟩|⟨b,N,cap,ex,_,rfl,_⟩
   ·cases h0
   ·exact⟨_,by simp only [qv,hc],_,rfl,.c _ rfl⟩
 |_=>exact qa2 h hd
end
def wz(β:qw)(k:Nat)(s:Slot):qw:=fun j=>if j=(k,0) then some s else β j
theorem xu(β:qw)(k:Nat)(s:Slot):wz β k s (k,0)=some s:=by simp [wz]
theorem yi(β:qw){k:Nat}{j:zC}(s:Slot)(h:j≠(k,0)):wz β k s j=β j:=by simp [wz,h]
theorem Qc(β:qw){k:Nat}{j:zC}(s:Slot)(h:j.1≠k):wz β k s j=β j:=yi β s fun e=>h (by rw [e])
theorem Jv{k:Nat}{x:Bk}(hx:x.flat=true)(S:Bx)(κ:zC):qP ((k,x)::S) κ=if κ.1=k then (if κ.2=0 then some x else none) else qP S κ:=by
 obtain⟨j,i⟩:=κ;by_cases h:j=k
 ·subst h;have hl:lk ((j,x)::S) j=some x:=by rw [qQ,if_pos rfl]
  simp only [if_true];cases i with
  |zero=>rw [xX hl hx,if_pos rfl]
  |succ i=>
   rw [if_neg (by simp)];cases h2:qP ((j,x)::S) (j,i+1) with
   |none=>rfl
   |some y=>exact absurd (lM hl hx h2).1 (by simp)
 ·simp only [if_neg h];exact z6 (by rw [qQ,if_neg (fun e=>h e.symm)])
theorem Qv(k:Nat)(S:Bx)(κ:zC):qP (zB k S) κ=if κ.1=k then none else qP S κ:=by
 by_cases h:κ.1=k
 ·rw [if_pos h];exact GZ (by rw [yP,if_pos h])
 ·rw [if_neg h];exact z6 (by rw [yP,if_neg h])
theorem Zl{k:Nat}{x x':Bk}{S:Bx}(hk:lk S k=some x)(hx':x'.flat=true)(κ:zC):qP (put k x' S) κ=if κ.1=k then (if κ.2=0 then some x' else none) else qP S κ:=by
 obtain⟨j,i⟩:=κ;by_cases h:j=k
 ·subst h;have hl:lk (put j x' S) j=some x':=by rw [yx,if_pos rfl,hk];rfl
  simp only [if_true];cases i with
  |zero=>rw [xX hl hx',if_pos rfl]
  |succ i=>
   rw [if_neg (by simp)];cases h2:qP (put j x' S) (j,i+1) with
   |none=>rfl
   |some y=>exact absurd (lM hl hx' h2).1 (by simp)
 ·simp only [if_neg h];exact z6 (by rw [yx,if_neg h])
theorem vZ{κ:zC}{k:Nat}(h1:κ.1=k)(h2:κ.2=0):κ=(k,0):=by obtain⟨a,b⟩:=κ;simp only at h1 h2;rw [h1,h2]
section
variable{p:Par}{Z:Nat->Prop}{β:qw}{H H':Hp}{S:Bx}{nk:Nat}
theorem SR.ble(h:SR p Z β H S nk)(s:Slot):xO β (wz β nk s):=fun k t hk=>by
 by_cases e:k.1=nk
 ·rw [h.nk k (by omega)] at hk;cases hk
 ·rw [Qc _ _ e];exact hk
theorem SR.lt(h:SR p Z β H S nk){k:Nat}{x:Bk}(hk:lk S k=some x):k<nk:=by
 have:∃y,qP S (k,0)=some y:=by
  simp only [qP,hk];cases x with
  |tree rows=>exact⟨_,rfl⟩
  |mp ks l=>exact⟨_,rfl⟩
  |mt es=>exact⟨_,rfl⟩
  |cells l=>exact⟨_,rfl⟩
  |data l=>exact⟨_,rfl⟩
 obtain⟨y,hy⟩:=this;obtain⟨s,hs,_⟩:=h.box (k,0) y hy;by_cases e:nk<=k
 ·rw [h.nk (k,0) e] at hs;cases hs
 ·omega
theorem SR.lt1(h:SR p Z β H S nk){κ:zC}{s:Slot}(hk:β κ=some s):κ.1<nk:=by
 by_cases e:nk<=κ.1
 ·rw [h.nk κ e] at hk;cases hk
 ·omega
theorem y8.mono{x:Bk}{s:Slot}{β':qw}(hb:xO β β')(hnx:H.nx<=H'.nx)(hg:∀b,(Z b\/∃N,s=.blk b N)->H'.get b=H.get b)(h:y8 p Z H β x s):y8 p Z H' β' x s:=by
 cases s with
 |nil=>exact h
 |blk b N=>
  obtain⟨h1,h2,h3,cs,rest,h4,h5,h6⟩:=h;exact⟨h1,h2,by omega,cs,rest,h4.same (hg b (.inr ⟨N,rfl⟩)),h5,Bk.rel_mono (xo.of_get (fun _ h=>h) fun b hb=>hg b (.inl hb)) hb h6⟩
theorem SR.newB(h:SR p Z β H S nk){x:Bk}{b N0:Nat}(hfl:x.flat=true)(hbx:∀β',xO β β'->xo Z H Z H'->y8 p Z H' β' x (.blk b N0))(hz:¬Z b)(hβ:∀κ N,β κ≠some (.blk b N))(hlo:p.lo<=b)(hb:b<H'.nx)(hnx:H.nx<=H'.nx)(hw:WF H')(hg:∀b',b'≠b->H'.get b'=H.get b'):
 SR p Z (wz β nk (.blk b N0)) H' ((nk,x)::S) (nk+1)/\xo Z H Z H'/\xO β (wz β nk (.blk b N0)):=by
 have hzg:∀b',Z b'->H'.get b'=H.get b':=fun b' hb'=>hg b' fun e=>hz (e▸hb');have hZ:xo Z H Z H':=xo.of_get (fun _ h=>h) hzg;have hB:=h.ble (.blk b N0);refine⟨⟨hw,Nat.le_trans h.lo hnx,fun b' hb'=>Nat.lt_of_lt_of_le (h.z b' hb') hnx,h.zlo,h.zz,fun b' bk hb'=>?_,fun k hk=>?_,fun k b' N hk=>?_,fun k y hk=>?_,fun k k' y y' b' N N' hk hk' hs hs'=>?_,fun k b' N hk=>?_,fun κ hκ h0=>by rw [Qc _ _ (by have:=h.ancn;omega)];exact h.anch κ hκ h0,Nat.le_succ_of_le h.ancn⟩,hZ,hB⟩
 ·obtain⟨h1,h2⟩:=h.glob b' bk hb';exact⟨h1,by rw [hzg b' h1];exact h2⟩
 ·rw [Qc _ _ (by omega)];exact h.nk k (by omega)
 ·by_cases e:k=(nk,0)
  ·subst e;rw [xu] at hk;obtain⟨rfl,rfl⟩:=Slot.blk.inj (zsi hk);exact hb
  ·rw [yi _ _ e] at hk;exact Nat.lt_of_lt_of_le (h.bd k b' N hk) hnx
 ·rw [Jv hfl] at hk;split at hk
  ·rename_i e;split at hk
   ·rename_i e2;obtain rfl:=vZ e e2;obtain rfl:=zsi hk;exact⟨_,xu _ _ _,hbx _ hB hZ⟩
   ·cases hk
  ·obtain⟨s,hs,hbx⟩:=h.box k y hk;refine⟨s,hB k s hs,hbx.mono hB hnx fun b' hb'=>?_⟩;rcases hb' with hb'|⟨N,rfl⟩
   ·exact hzg b' hb'
   ·exact hg b' fun e=>hβ k N (by rw [hs,e])
 ·by_cases e1:k=(nk,0)
  ·by_cases e2:k'=(nk,0)
   ·rw [e1,e2]
   ·rw [yi _ _ e2] at hs';rw [e1,xu] at hs;obtain⟨rfl,rfl⟩:=Slot.blk.inj (zsi hs);exact absurd hs' (hβ _ _)
  ·rw [yi _ _ e1] at hs;by_cases e2:k'=(nk,0)
   ·rw [e2,xu] at hs';obtain⟨rfl,rfl⟩:=Slot.blk.inj (zsi hs');exact absurd hs (hβ _ _)
   ·rw [yi _ _ e2] at hs';have n1:=h.lt1 hs;have n2:=h.lt1 hs';rw [qQ,if_neg (by omega)] at hk hk';exact h.inj k k' y y' b' N N' hk hk' hs hs'
 ·by_cases e:k=(nk,0)
  ·subst e;rw [xu] at hk;obtain⟨rfl,rfl⟩:=Slot.blk.inj (zsi hk);exact hlo
  ·rw [yi _ _ e] at hk;exact h.blo k b' N hk
theorem SR.new(h:SR p Z β H S nk){x:Bk}{b:Nat}{cs rest:List C}(hsh:x.shape=none)(hx:x.rel Z H β cs)(hz:¬Z b)(hβ:∀κ N,β κ≠some (.blk b N))(hlo:p.lo<=b)(hb:b<H'.nx)(hnx:H.nx<=H'.nx)(hw:WF H')(hg:∀b',b'≠b->H'.get b'=H.get b')(hr:x6 H' b (cs++rest)):
 SR p Z (wz β nk (.blk b (cs++rest).length)) H' ((nk,x)::S) (nk+1)/\xo Z H Z H'/\xO β (wz β nk (.blk b (cs++rest).length)):=
 h.newB (Bk.rel_flat hx) (fun β' hB hZ=>⟨hz,hlo,hb,cs,rest,by rw [hsh];exact hr,Yi.of hsh rfl,Bk.rel_mono hZ hB hx⟩) hz hβ hlo hb hnx hw hg
theorem SR.updK(h:SR p Z β H S nk){k b N:Nat}{x x':Bk}{cs rest:List C}(hk:lk S k=some x)(hfl:x.flat=true)(hs:β (k,0)=some (.blk b N))(hx:x'.rel Z H β cs)(hg:∀b',b'≠b->H'.get b'=H.get b')(hnx:H'.nx=H.nx)(hr:oA x'.shape H' b (cs++rest))(hN:Yi x'.shape (cs++rest).length N rest):
 SR p Z β H' (put k x' S) nk/\xo Z H Z H':=by
 obtain⟨s,hs',hbx⟩:=h.box (k,0) x (xX hk hfl);rw [hs] at hs';obtain rfl:=zsi hs';obtain⟨hz,hlo,hlt,_⟩:=hbx;have hzg:∀b',Z b'->H'.get b'=H.get b':=fun b' hb'=>hg b' fun e=>hz (e▸hb');have hZ:xo Z H Z H':=xo.of_get (fun _ h=>h) hzg;refine⟨⟨fun b' bk hb'=>?_,by rw [hnx];exact h.lo,fun b' hb'=>by rw [hnx];exact h.z b' hb',h.zlo,h.zz,fun b' bk hb'=>?_,h.nk,fun k b' N hk=>by rw [hnx];exact h.bd k b' N hk,fun j y hj=>?_,fun j j' y y' b' M M' hj hj' hsj hsj'=>?_,h.blo,h.anch,h.ancn⟩,hZ⟩
 ·rw [hnx];by_cases e:b'=b
  ·omega
  ·rw [hg b' e] at hb';exact h.wf b' bk hb'
 ·obtain⟨h1,h2⟩:=h.glob b' bk hb';exact⟨h1,by rw [hzg b' h1];exact h2⟩
 ·rw [Zl hk (Bk.rel_flat hx)] at hj;split at hj
  ·rename_i e;split at hj
   ·rename_i e2;obtain rfl:=vZ e e2;obtain rfl:=zsi hj;exact⟨_,hs,hz,hlo,by omega,cs,rest,hr,hN,Bk.rel_mono hZ (xO.refl _) hx⟩
   ·cases hj
  ·rename_i e;obtain⟨s,hsj,hbj⟩:=h.box j y hj;obtain⟨z,hz⟩:=yy hj;refine⟨s,hsj,hbj.mono (xO.refl _) (by omega) fun b' hb'=>?_⟩;rcases hb' with hb'|⟨M,rfl⟩
   ·exact hzg b' hb'
   ·exact hg b' fun e'=>e (by rw [h.inj j (k,0) z x b M N hz hk (e'▸hsj) hs])
 ·rw [yx] at hj hj';have f:∀i z,(if i=k then Option.map (fun _=>x') (lk S i) else lk S i)=some z->∃z',lk S i=some z':=fun i z hz=>by
   split at hz
   ·cases hl:lk S i with
    |none=>rw [hl] at hz;cases hz
    |some q=>exact⟨q,rfl⟩
   ·exact⟨z,hz⟩
  obtain⟨z1,e1⟩:=f j.1 y hj;obtain⟨z2,e2⟩:=f j'.1 y' hj';exact h.inj j j' z1 z2 b' M M' e1 e2 hsj hsj'
theorem SR.upd(h:SR p Z β H S nk){k b N:Nat}{x x':Bk}{cs rest:List C}(hk:lk S k=some x)(hfl:x.flat=true)(hs:β (k,0)=some (.blk b N))(hx:x'.rel Z H β cs)(hg:∀b',b'≠b->H'.get b'=H.get b')(hnx:H'.nx=H.nx)(hsh:x'.shape=none)(hr:x6 H' b (cs++rest))(hN:(cs++rest).length=N):
 SR p Z β H' (put k x' S) nk/\xo Z H Z H':=h.updK hk hfl hs hx hg hnx (by rw [hsh];exact hr) (Yi.of hsh hN)
theorem SR.replace(h:SR p Z β H S nk){k:Nat}{x x':Bk}{b:Nat}{cs rest:List C}(hk:lk S k=some x)(hfl:x.flat=true)(hx:x'.rel Z H β cs)(hb:(∃N,β (k,0)=some (.blk b N))\/(¬Z b/\(∀κ N,β κ≠some (.blk b N))/\p.lo<=b))(hbl:b<H'.nx)(hnx:H.nx<=H'.nx)(hw:WF H')(hg:∀b',b'≠b->(∀N,β (k,0)≠some (.blk b' N))->H'.get b'=H.get b')(hsh:x'.shape=none)(hr:x6 H' b (cs++rest)):
 SR p Z (wz β nk (.blk b (cs++rest).length)) H' ((nk,x')::zB k S) (nk+1)/\xo Z H Z H'/\xO β (wz β nk (.blk b (cs++rest).length)):=by
 have hkn:=h.lt hk;obtain⟨sk,hsk,hbk⟩:=h.box (k,0) x (xX hk hfl);have hzk:∀b' N,Z b'->β (k,0)≠some (.blk b' N):=fun b' N hz e=>by
  rw [hsk] at e;obtain rfl:=zsi e;exact hbk.1 hz
 have hzb:¬Z b:=by
  rcases hb with⟨N,hN⟩|⟨hz,_⟩
  ·exact fun hz=>hzk b N hz hN
  ·exact hz
 have hlob:p.lo<=b:=by
  rcases hb with⟨N,hN⟩|⟨_,_,hlo⟩
  ·rw [hsk] at hN;obtain rfl:=zsi hN;exact hbk.2.1
  ·exact hlo
 have hzg:∀b',Z b'->H'.get b'=H.get b':=fun b' hb'=>hg b' (fun e=>hzb (e▸hb')) fun N=>hzk b' N hb';have hZ:xo Z H Z H':=xo.of_get (fun _ h=>h) hzg;have hB:=h.ble (.blk b (cs++rest).length);have hoth:∀(j:zC) y N,lk S j.1=some y->j.1≠k->β j≠some (.blk b N):=fun j y N hj hjk e=>by
  rcases hb with⟨M,hM⟩|⟨_,hno,_⟩
  ·exact hjk (by rw [h.inj j (k,0) y x b N M hj hk e hM])
  ·exact hno j N e
 refine⟨⟨hw,Nat.le_trans h.lo hnx,fun b' hb'=>Nat.lt_of_lt_of_le (h.z b' hb') hnx,h.zlo,h.zz,fun b' bk hb'=>?_,fun k hk=>?_,fun k b' N hk=>?_,fun j y hj=>?_,fun j j' y y' b' N N' hj hj' hs hs'=>?_,fun k b' N hk=>?_,fun κ hκ h0=>by rw [Qc _ _ (by have:=h.ancn;omega)];exact h.anch κ hκ h0,Nat.le_succ_of_le h.ancn⟩,hZ,hB⟩
 ·obtain⟨h1,h2⟩:=h.glob b' bk hb';exact⟨h1,by rw [hzg b' h1];exact h2⟩
 ·rw [Qc _ _ (by omega)];exact h.nk k (by omega)
 ·by_cases e:k=(nk,0)
  ·subst e;rw [xu] at hk;obtain⟨rfl,rfl⟩:=Slot.blk.inj (zsi hk);exact hbl
  ·rw [yi _ _ e] at hk;exact Nat.lt_of_lt_of_le (h.bd k b' N hk) hnx
 ·rw [Jv (Bk.rel_flat hx),Qv] at hj;split at hj
  ·rename_i e;split at hj
   ·rename_i e2;obtain rfl:=vZ e e2;obtain rfl:=zsi hj;exact⟨_,xu _ _ _,hzb,hlob,hbl,cs,rest,by rw [hsh];exact hr,Yi.of hsh rfl,Bk.rel_mono hZ hB hx⟩
   ·cases hj
  ·split at hj
   ·cases hj
   ·rename_i e e2;obtain⟨s,hs,hbx⟩:=h.box j y hj;obtain⟨z,hz⟩:=yy hj;refine⟨s,hB j s hs,hbx.mono hB hnx fun b' hb'=>?_⟩;rcases hb' with hb'|⟨N,rfl⟩
    ·exact hzg b' hb'
    ·exact hg b' (fun e'=>hoth j z N hz e2 (e'▸hs)) fun M eM=>e2 (by rw [h.inj j (k,0) z x b' N M hz hk hs eM])
 ·have live:∀(κ:zC) w s,lk ((nk,x')::zB k S) κ.1=some w->κ≠(nk,0)->β κ=some s->lk S κ.1=some w/\κ.1≠k:=fun κ w s hl hne hs=>by
   have:=h.lt1 hs;rw [qQ,if_neg (by omega),yP] at hl;split at hl
   ·cases hl
   ·exact⟨hl,by assumption⟩
  by_cases e1:j=(nk,0)
  ·by_cases e2:j'=(nk,0)
   ·rw [e1,e2]
   ·rw [yi _ _ e2] at hs';rw [e1,xu] at hs;obtain⟨rfl,rfl⟩:=Slot.blk.inj (zsi hs);obtain⟨l1,l2⟩:=live j' y' _ hj' e2 hs';exact absurd hs' (hoth j' y' N' l1 l2)
  ·rw [yi _ _ e1] at hs;obtain⟨l1,l2⟩:=live j y _ hj e1 hs;by_cases e2:j'=(nk,0)
   ·rw [e2,xu] at hs';obtain⟨rfl,rfl⟩:=Slot.blk.inj (zsi hs');exact absurd hs (hoth j y N l1 l2)
   ·rw [yi _ _ e2] at hs';obtain⟨l3,l4⟩:=live j' y' _ hj' e2 hs';exact h.inj j j' y y' b' N N' l1 l3 hs hs'
 ·by_cases e:k=(nk,0)
  ·subst e;rw [xu] at hk;obtain⟨rfl,rfl⟩:=Slot.blk.inj (zsi hk);exact hlob
  ·rw [yi _ _ e] at hk;exact h.blo k b' N hk
end
abbrev Wt:=List (Nat × Option (zC × Nat × Nat))
def WR(Z:Nat->Prop)(β:qw)(H:Hp):Option (zC × Nat × Nat)->(Hp->Prop)->Prop
 |none,q=>∃b,Z b/\∀H':Hp,(∀i c,H.cell b i=some c->H'.cell b i=some c)->q H'
 |some (k,o,n),q=>∃b N,β k=some (.blk b N)/\∀H':Hp,(∀i c,o<=i->i<o+n->H.cell b i=some c->H'.cell b i=some c)->q H'
def CR(W:Wt)(Z:Nat->Prop)(β:qw)(H:Hp)(c:zR):Prop:=∀x∈c,∃y∈W,WR Z β H y.2 x.2
def AR(p:Par)(base rs:Nat)(A:List Nat)(Z:Nat->Prop)(β:qw)(H:Hp):Prop:=p.lo<=base/\∀j,j<rs->j∉A->base+j<H.nx/\H.get (base+j)=none/\¬Z (base+j)/\∀k N,β k≠some (.blk (base+j) N)
structure DPW (p:Par) (base rs:Nat) (Q:qq->Bx->Nat->Prop) (l:List SOper) (W:Wt) (A:List Nat) (E:qq) (S:Bx) (nk:Nat):Prop where
 run:∀Z β H F c,SR p Z β H S nk->ER Z β H E F->CR W Z β H c->AR p base rs A Z β H->
  qF p.P p.G base (fun F' H'=>∃E' S' nk' Z' β',SR p Z' β' H' S' nk'/\ER Z' β' H' E' F'/\Q E' S' nk') l c F H
section
variable{Z Z':Nat->Prop}{β β':qw}{H H':Hp}{W:Wt}{c:zR}
theorem CR.watch(h:CR W Z β H c)(ws:List Nat):zx ws c H:=Wd fun x hx=>by
 obtain⟨y,_,hy⟩:=h x hx;obtain⟨_,y2⟩:=y
 match y2,hy with
 |none,⟨b,_,hq⟩=>exact hq H fun _ _ h=>h
 |some (k,o,n),⟨b,N,_,hq⟩=>exact hq H fun _ _ _ _ h=>h
theorem CR.step(h:CR W Z β H c)(hZ:xo Z H Z' H')(hB:xO β β')(hk:∀y∈W,∀k o n,y.2=some (k,o,n)->∀b N i x,β k=some (.blk b N)->o<=i->i<o+n->H.cell b i=some x->H'.cell b i=some x):CR W Z' β' H' c:=fun x hx=>by
 obtain⟨y,hy,hw⟩:=h x hx;refine⟨y,hy,?_⟩;obtain⟨y1,y2⟩:=y
 match y2,hw,hy with
 |none,⟨b,hb,hq⟩,_=>exact⟨b,(hZ b hb).1,fun H'' hh=>hq H'' fun i c hc=>hh i c ((hZ b hb).2 i c hc)⟩
 |some (k,o,n),⟨b,N,hb,hq⟩,hy=>exact⟨b,N,hB k _ hb,fun H'' hh=>hq H'' fun i c h1 h2 hc=>hh i c h1 h2 (hk _ hy k o n rfl b N i c hb h1 h2 hc)⟩
theorem CR.same(h:CR W Z β H c)(hZ:xo Z H Z' H')(hB:xO β β')(hg:∀b,b<H.nx->H'.get b=H.get b)(hw:WF H):CR W Z' β' H' c:=h.step hZ hB fun y hy k o n e b N i x hb _ _ hx=>by
 unfold Hp.cell at hx ⊢;cases hgb:H.get b with
 |none=>simp [hgb] at hx
 |some bk=>rw [hg b (hw b bk hgb)];exact hx
end
def jD(S:Bx)(k:Nat):Wt->Bool
 |[]=>true
 |(_,none)::r=>jD S k r
 |(_,some ((j,_),_,_))::r=>match lk S j with
  |none=>false
  |some _=>match Nat.beq j k with
   |true=>false
   |false=>jD S k r
def PK:Option Bk->Bool
 |some (.tree _)=>false
 |some (.mp _ _)=>false
 |some (.mt _)=>false
 |_=>true
def YJ(S:Bx)(k:Nat)(W:Wt):Bool:=match PK (lk S k) with
 |true=>jD S k W
 |false=>false
theorem gT{S:Bx}{k:Nat}{W:Wt}{x:Bk}(h:YJ S k W=true)(hk:lk S k=some x):x.flat=true:=by
 unfold YJ at h;rw [hk] at h;cases x with
 |tree rows=>cases h
 |mp ks l=>cases h
 |mt es=>cases h
 |cells l=>rfl
 |data l=>rfl
theorem pC{S:Bx}{k:Nat}{W:Wt}{x:Bk}(h:YJ S k W=true)(hk:lk S k=some x):x.shape=none:=by
 unfold YJ at h;rw [hk] at h;cases x with
 |tree rows=>cases h
 |mp ks l=>cases h
 |mt es=>cases h
 |cells l=>rfl
 |data l=>rfl
theorem Q6{S:Bx}{k:Nat}:∀{W:Wt},jD S k W=true->∀y∈W,∀(j:zC) o n,y.2=some (j,o,n)->(∃x,lk S j.1=some x)/\j.1≠k
 |[],_,y,hy=>by cases hy
 |(i,none)::r,h,y,hy=>by
  rcases List.mem_cons.1 hy with rfl|hy
  ·intro j o n e;cases e
  ·exact Q6 (W:=r) h y hy
 |(i,some ((j',j2),o',n'))::r,h,y,hy=>by
  simp only [jD] at h;split at h
  ·cases h
  ·rename_i x hx;split at h
   ·cases h
   ·rename_i e;rcases List.mem_cons.1 hy with rfl|hy
    ·intro j o n e';obtain⟨rfl,_⟩:=Prod.mk.inj (zsi e');exact⟨⟨x,hx⟩,fun h=>by simp only at h;subst h;simp at e⟩
    ·exact Q6 (W:=r) h y hy
theorem OK{S:Bx}{k:Nat}{W:Wt}(h:YJ S k W=true):∀y∈W,∀(j:zC) o n,y.2=some (j,o,n)->(∃x,lk S j.1=some x)/\j.1≠k:=by
 unfold YJ at h;split at h
 ·exact Q6 h
 ·cases h
section
variable{p:Par}{base rs:Nat}{Q:qq->Bx->Nat->Prop}{r:List SOper}{W:Wt}{A:List Nat}{E:qq}{S:Bx}{nk:Nat}{id:Nat}{dst:Option Nat}{aid:Option Nat}{ws:List Nat}{keep:Bool}
theorem yA(h:Q E S nk):DPW p base rs Q [] W A E S nk:=.mk fun Z β H F c hS hE _ _=>⟨E,S,nk,Z,β,hS,hE,h⟩
theorem zJ{op:PureOp}{d:DV}(hd:jg E op=some d)(h:DPW p base rs Q r W A (xk E dst d) S nk):DPW p base rs Q (⟨id,dst,.p op,none,aid,ws,keep⟩::r) W A E S nk:=.mk fun Z β H F c hS hE hC hA=>by
 obtain⟨v,hv,hr⟩:=IS hE hd;simp only [qF,qt,if_true,hv];exact h.run Z β H _ c hS (hE.set dst hr) hC hA
theorem QT{op:PureOp}{d:DV}(hd:∀{Z β H F},ER Z β H E F->∃v,qv F op=some v/\xC Z H β d v)(h:DPW p base rs Q r W A (xk E dst d) S nk):DPW p base rs Q (⟨id,dst,.p op,none,aid,ws,keep⟩::r) W A E S nk:=.mk fun Z β H F c hS hE hC hA=>by
 obtain⟨v,hv,hr⟩:=hd hE;simp only [qF,qt,if_true,hv];exact h.run Z β H _ c hS (hE.set dst hr) hC hA
theorem wq{Z:Nat->Prop}{β:qw}{H:Hp}{c:C}(hc:c.closed=true):xC Z H β (.one (.f (.c c))) (.one c):=⟨c,rfl,.c c hc⟩
theorem zT{Z:Nat->Prop}{β:qw}{H:Hp}{F:T V}(hE:ER Z β H E F){o:Opd}{c:C}(h:ro E o=some (.one (.f (.c c)))):o.ev F=.one c:=by
 obtain⟨x,hx,hr⟩:=xf hE h;cases hr;exact hx
theorem W1{x y:Opd}{k:IntKind}{a b:Int}(hx:ro E x=some (.one (.f (.c (.int k a)))))(hy:ro E y=some (.one (.f (.c (.int k b)))))(h:DPW p base rs Q r W A (xk E dst (.one (.f (.c (.int k (max a b)))))) S nk):DPW p base rs Q (⟨id,dst,.p (.mm true x y),none,aid,ws,keep⟩::r) W A E S nk:=by
 refine QT (fun {Z β H F} hE=>⟨.one (.int k (max a b)),?_,wq rfl⟩) h;simp only [qv,zT hE hx,zT hE hy,if_true];congr 3;split<;>omega
theorem W0{x y:Opd}{k:IntKind}{a b:Int}(hx:ro E x=some (.one (.f (.c (.int k a)))))(hy:ro E y=some (.one (.f (.c (.int k b)))))(h:DPW p base rs Q r W A (xk E dst (.one (.f (.c (.int k (min a b)))))) S nk):DPW p base rs Q (⟨id,dst,.p (.mm false x y),none,aid,ws,keep⟩::r) W A E S nk:=by
 refine QT (fun {Z β H F} hE=>⟨.one (.int k (min a b)),?_,wq rfl⟩) h;simp only [qv,zT hE hx,zT hE hy,if_true,Bool.false_eq_true,if_false];congr 3;split<;>omega
theorem b8{x y:Opd}{k:IntKind}{a b:Int}(hx:ro E x=some (.one (.f (.c (.int k a)))))(hy:ro E y=some (.one (.f (.c (.int k b)))))(hb:b≠0)(h:DPW p base rs Q r W A (xk E dst (.one (.f (.c (.int k (a.tmod b)))))) S nk):DPW p base rs Q (⟨id,dst,.p (.bin .rem x y),none,aid,ws,keep⟩::r) W A E S nk:=
 QT (fun {Z β H F} hE=>⟨.one (.int k (a.tmod b)),by simp [qv,zT hE hx,zT hE hy,jW,hb],wq rfl⟩) h
theorem Y0{o a b:Opd}{t x y:Bool}(hc:ro E o=some (.bool t))(ha:t=true->ro E a=some (.bool x))(hb:t=false->ro E b=some (.bool y))(h:DPW p base rs Q r W A (xk E dst (.bool (if t=true then x else y))) S nk):DPW p base rs Q (⟨id,dst,.p (.pick o a b),none,aid,ws,keep⟩::r) W A E S nk:=by
 refine QT (fun {Z β H F} hE=>⟨.one (.bool (if t=true then x else y)),?_,wq rfl⟩) h
 simp only [qv,zT hE hc];cases t with
 |true=>simp [zT hE (ha rfl)]
 |false=>simp [zT hE (hb rfl)]
theorem ZP{o a b:Opd}{d:DV}(hc:ro E o=some (.bool true))(ha:ro E a=some d)(h:DPW p base rs Q r W A (xk E dst d) S nk):DPW p base rs Q (⟨id,dst,.p (.pick o a b),none,aid,ws,keep⟩::r) W A E S nk:=
 QT (fun {Z β H F} hE=>⟨_,by simp only [qv,zT hE hc,if_true],xf hE ha⟩) h
theorem ZQ{o a b:Opd}{d:DV}(hc:ro E o=some (.bool false))(hb:ro E b=some d)(h:DPW p base rs Q r W A (xk E dst d) S nk):DPW p base rs Q (⟨id,dst,.p (.pick o a b),none,aid,ws,keep⟩::r) W A E S nk:=
 QT (fun {Z β H F} hE=>⟨_,by simp only [qv,zT hE hc,Bool.false_eq_true,if_false],xf hE hb⟩) h
theorem cD{esz:Nat}{x i:Opd}{k o n:Nat}{kd:IntKind}{j:Int}(hx:ro E x=some (.one (.own k o n esz)))(hi:ro E i=some (.one (.f (.c (.int kd j)))))(h0:0<=j)(h1:j<n)(h:DPW p base rs Q r W A (xk E dst (.one (.ptr k (o+j.toNat*esz)))) S nk):DPW p base rs Q (⟨id,dst,.p (.iaddr esz x i),none,aid,ws,keep⟩::r) W A E S nk:=by
 refine QT (fun {Z β H F} hE=>?_) h;obtain⟨c,hc,hr⟩:=xf hE hx;rcases hr with⟨_,h2,_⟩|⟨b,N,cap,ex,h2,rfl,_⟩
 ·omega
 ·exact⟨.one (.ptr b (o+j.toNat*esz)),by simp only [qv,hc,zT hE hi,XO];rw [if_pos ⟨trivial,h0,h1⟩],_,rfl,b,N,h2,rfl⟩
theorem W4{esz:Nat}{x i:Opd}{k n:Nat}{kd:IntKind}{j:Int}(hx:ro E x=some (.one (.own k 0 n esz)))(hi:ro E i=some (.one (.f (.c (.int kd j)))))(h0:0<=j)(h1:j<n)(h:DPW p base rs Q r W A (xk E dst (.one (.ptr k (j.toNat*esz)))) S nk):DPW p base rs Q (⟨id,dst,.p (.iaddr esz x i),none,aid,ws,keep⟩::r) W A E S nk:=
 cD hx hi h0 h1 (by rw [Nat.zero_add];exact h)
theorem qcA{Z:Nat->Prop}{H:Hp}{esz n:Nat}{l q:List FD}{c:C}(hr:RF Z H (.sl esz n l) c){j:Nat}(hj:j<n)(he:0<esz)(hq:xK l (j*esz) esz=some q):∃b o cap ex cs,c=.slc b o n cap esz ex/\Z b/\H.loads b (o+j*esz) q.length=some cs/\qg (RF Z H) q cs:=by
 obtain⟨hle,rfl⟩:=zV hq;cases hr with
 |nil=>omega
 |sl hz hl hn hld hel=>
  rename_i b o cap ex cs;refine⟨b,o,cap,ex,(cs.drop (j*esz)).take esz,rfl,hz (Nat.mul_pos (by omega) he),?_,?_⟩
  ·rw [List.length_take,List.length_drop,show min esz (l.length-j*esz)=esz by omega];exact kZ hld (by omega)
  ·have hlen:l.length=cs.length:=by rw [hl,yV hld]
   exact ((qg.mk hlen hel).drop _).take _
theorem zU{esz:Nat}{x i:Opd}{n:Nat}{l q:List FD}{kd:IntKind}{j:Nat}(hx:ro E x=some (.one (.f (.sl esz n l))))(hi:ro E i=some (.one (.f (.c (.int kd (j:Nat))))))(h1:j<n)(he:0<esz)(hq:xK l (j*esz) esz=some q)(h:DPW p base rs Q r W A (xk E dst (.one (.fptr q))) S nk):DPW p base rs Q (⟨id,dst,.p (.iaddr esz x i),none,aid,ws,keep⟩::r) W A E S nk:=by
 refine QT (fun {Z β H F} hE=>?_) h;obtain⟨c,hc,hr⟩:=xf hE hx;obtain⟨b,o,cap,ex,cs,rfl,hz,hl,ha⟩:=qcA hr h1 he hq;refine⟨.one (.ptr b (o+j*esz)),?_,_,rfl,b,_,cs,rfl,hz,hl,ha⟩;simp only [qv,hc,zT hE hi,XO];rw [if_pos ⟨trivial,by omega,by omega⟩,Int.toNat_natCast]
theorem W5{esz:Nat}{x i:Opd}{n:Nat}{l q:List FD}{kd:IntKind}(hx:ro E x=some (.one (.f (.sl esz n l))))(hi:ro E i=some (.one (.f (.c (.int kd 0)))))(h1:0<n)(he:0<esz)(hq:xK l (0*esz) esz=some q)(h:DPW p base rs Q r W A (xk E dst (.one (.fptr q))) S nk):DPW p base rs Q (⟨id,dst,.p (.iaddr esz x i),none,aid,ws,keep⟩::r) W A E S nk:=zU (j:=0) hx hi h1 he hq h
theorem yY{Z:Nat->Prop}{β:qw}{H:Hp}:xC Z H β .undef V.undef:=⟨[],rfl,trivial⟩
theorem Zm{op:SOp}{g:Nat}{t want:Bool}(hg:lk E g=some (.bool t))(ht:t=want)(h:DPW p base rs Q (⟨id,dst,op,none,aid,ws,keep⟩::r) W A E S nk):DPW p base rs Q (⟨id,dst,op,some (g,want),aid,ws,keep⟩::r) W A E S nk:=.mk fun Z β H F c hS hE hC hA=>by
 have h':=h.run Z β H F c hS hE hC hA;obtain⟨v,hv,x,rfl,hr⟩:=hE g _ hg;cases hr;have hw:qt (some (g,want)) F=true:=by simp [qt,hv,ht]
 rw [qF] at h' ⊢;simp only [qt,if_true] at h';simp only [hw,if_true];exact h'
theorem Zn{op:SOp}{g:Nat}{t want:Bool}(hg:lk E g=some (.bool t))(ht:t=!want)(h:DPW p base rs Q r W A (xk E dst .undef) S nk):DPW p base rs Q (⟨id,dst,op,some (g,want),aid,ws,keep⟩::r) W A E S nk:=.mk fun Z β H F c hS hE hC hA=>by
 obtain⟨v,hv,x,rfl,hr⟩:=hE g _ hg;cases hr;have hw:qt (some (g,want)) F=false:=by simp [qt,hv,ht]
 rw [qF];simp only [hw,Bool.false_eq_true,if_false];exact h.run Z β H _ c hS (hE.set dst yY) hC hA
theorem ZO{op:SOp}{g:Nat}{want:Bool}(hg:lk E g=some .undef)(h:DPW p base rs Q r W A (xk E dst .undef) S nk):DPW p base rs Q (⟨id,dst,op,some (g,want),aid,ws,keep⟩::r) W A E S nk:=.mk fun Z β H F c hS hE hC hA=>by
 obtain⟨v,hv,x,rfl,hr⟩:=hE g _ hg;have hw:qt (some (g,want)) F=false:=by simp [qt,hv]
 rw [qF];simp only [hw,Bool.false_eq_true,if_false];exact h.run Z β H _ c hS (hE.set dst yY) hC hA
theorem M9{op:SOp}{g:Nat}{t want:Bool}(hg:lk E g=some (.bool t))(h1:t=want->DPW p base rs Q (⟨id,dst,op,none,aid,ws,keep⟩::r) W A E S nk)(h2:t=!want->DPW p base rs Q r W A (xk E dst .undef) S nk):DPW p base rs Q (⟨id,dst,op,some (g,want),aid,ws,keep⟩::r) W A E S nk:=by
 by_cases ht:t=want
 ·exact Zm hg ht (h1 ht)
 ·have hb:∀a b:Bool,¬a=b->a=!b:=by decide
  have ht':=hb t want ht;exact Zn hg ht' (h2 ht')
theorem cA{op:PureOp}{d:DV}{g:Nat}{t want:Bool}(hg:lk E g=some (.bool t))(hd:t=want->jg E op=some d)(h:DPW p base rs Q r W A (xk E dst (if t=want then d else .undef)) S nk):DPW p base rs Q (⟨id,dst,.p op,some (g,want),aid,ws,keep⟩::r) W A E S nk:=
 M9 hg (fun ht=>zJ (hd ht) (by rw [if_pos ht] at h;exact h)) (fun ht=>by rw [if_neg (by rw [ht];cases want<;>decide)] at h;exact h)
def YM(p:Par)(S:Bx):DC->Nat->Option (List DC)
 |.ptr k o,n=>match lk S k with
  |some (.cells l)=>xK l o n
  |some (.data l)=>match xK l o n with
   |some q=>some (q.map .f)
   |none=>none
  |some (.tree rows)=>xK (zh k 0 rows) o n
  |_=>none
 |.tptr k i o,n=>match lk S k with
  |some (.tree rows)=>match rows[i]? with
   |some r=>match xK r o n with
    |some q=>some (q.map .f)
    |none=>none
   |none=>none
  |_=>none
 |.fptr l,n=>match xK l 0 n with
  |some q=>some (q.map .f)
  |none=>none
 |.g b o,n=>match p.GH.get b,p.GH.loads b o n with
  |some _,some q=>some (q.map QD)
  |_,_=>none
 |_,_=>none
def UB:DC->Nat->Option (zC × Nat × Nat)
 |.ptr k o,n=>some ((k,0),o,n)
 |.tptr k i o,n=>some ((k,i+1),o,n)
 |_,_=>none
theorem vE{Z:Nat->Prop}{H:Hp}{β:qw}:∀{l:List FD} {cs:List C},qg (RF Z H) l cs->qg (RD Z H β) (l.map .f) cs
 |[],[],_=>trivial
 |_::_,_::_,h=>⟨h.1,vE h.2⟩
 |[],_::_,h=>h.elim
 |_::_,[],h=>h.elim
theorem CE{Z:Nat->Prop}{β:qw}{H:Hp}(hS:SR p Z β H S nk){d:DC}{c:C}(hr:RD Z H β d c){n:Nat}{l:List DC}(hl:YM p S d n=some l):
 ∃b o cs,c=.ptr b o/\H.loads b o n=some cs/\qg (RD Z H β) l cs/\∀q:Hp->Prop,(∀H':Hp,(∀i x,o<=i->i<o+n->H.cell b i=some x->H'.cell b i=some x)->q H')->WR Z β H (UB d n) q:=by
 have key:∀{κ:zC} {o:Nat} {x:Bk} {q:List DC},qP S κ=some x->x.shape=none->(∀cs,x.rel Z H β cs->qg (RD Z H β) q ((cs.drop o).take n))->o+n<=x.len->(∃b N,β κ=some (.blk b N)/\c=.ptr b o)->∃b o' cs,c=.ptr b o'/\H.loads b o' n=some cs/\qg (RD Z H β) q cs/\∀q:Hp->Prop,(∀H':Hp,(∀i x,o'<=i->i<o'+n->H.cell b i=some x->H'.cell b i=some x)->q H')->WR Z β H (some (κ,o,n)) q:=by
  intro κ o x q hk hsh hq hle hr;obtain⟨b,N,hb,rfl⟩:=hr;obtain⟨s,hs,hbx⟩:=hS.box κ x hk;rw [hb] at hs;obtain rfl:=zsi hs;obtain⟨_,_,_,cs,rest,hrow,hN,hrel⟩:=hbx;rw [hsh] at hrow;have hrow:x6 H b (cs++rest):=hrow;have hlen:=Bk.rel_len hrel;refine⟨b,o,(cs.drop o).take n,rfl,?_,hq cs hrel,fun q hq=>⟨b,N,hb,hq⟩⟩;have h1:H.loads b (0+o) n=some (((cs++rest).drop o).take n):=kZ hrow.2 (by simp;omega);rw [Nat.zero_add] at h1;rw [h1,List.drop_append_of_le_length (by omega),List.take_append_of_le_length (by simp;omega)]
 cases d with
 |ptr k o=>
  simp only [YM] at hl;split at hl
  ·rename_i l0 hk;obtain⟨h1,rfl⟩:=zV hl;exact key (xX hk rfl) rfl (fun cs hrel=>(qg.drop hrel o).take n) h1 hr
  ·rename_i l0 hk;split at hl
   ·rename_i q hq;obtain rfl:=zsi hl;obtain⟨h1,rfl⟩:=zV hq;exact key (xX hk rfl) rfl (fun cs hrel=>vE ((qg.drop hrel o).take n)) h1 hr
   ·cases hl
  ·rename_i rows hk;obtain⟨h1,rfl⟩:=zV hl;exact key (κ:=(k,0)) (x:=.cells (zh k 0 rows)) (by simp only [qP,hk]) rfl (fun cs hrel=>(qg.drop hrel o).take n) h1 hr
  ·cases hl
 |tptr k i o=>
  simp only [YM] at hl;split at hl
  ·rename_i rows hk;split at hl
   ·rename_i r hri;split at hl
    ·rename_i q hq;obtain rfl:=zsi hl;obtain⟨h1,rfl⟩:=zV hq;exact key (κ:=(k,i+1)) (x:=.data r) (by simp only [qP,hk,hri];rfl) rfl (fun cs hrel=>vE ((qg.drop hrel o).take n)) h1 hr
    ·cases hl
   ·cases hl
  ·cases hl
 |fptr l0=>
  simp only [YM] at hl;split at hl
  ·rename_i q hq;obtain rfl:=zsi hl;obtain⟨h1,rfl⟩:=zV hq;obtain⟨b,o,cs,rfl,hz,hld,ha⟩:=hr;refine⟨b,o,cs.take n,rfl,yo hld (by omega),vE (by simpa using ha.take n),fun q hq=>⟨b,hz,fun H' hh=>hq H' fun i x _ _ hx=>hh i x hx⟩⟩
  ·cases hl
 |g b o=>
  simp only [YM] at hl;split at hl
  ·rename_i bk q hn hq;obtain rfl:=zsi hl;obtain rfl:c=.ptr b o:=hr;obtain⟨h1,h2⟩:=hS.glob b bk (.inl hn);refine⟨b,o,q,rfl,by rw [Yx (H:=p.GH) (by rw [h2,hn])];exact hq,Q7 q,fun q hq=>⟨b,h1,fun H' hh=>hq H' fun i x _ _ hx=>hh i x hx⟩⟩
  ·cases hl
 |_=>cases hl
def wi(p:Par)(E:qq)(S:Bx)(agg:Bool)(n:Nat)(a:Opd):Option DV:=match ro E a with
 |some (.one d)=>match agg with
  |true=>match YM p S d n with
   |some l=>some (.agg l)
   |none=>none
  |false=>match YM p S d 1 with
   |some (x::_)=>some (.one x)
   |_=>none
 |_=>none
def lP(agg:Bool)(n:Nat):Nat:=match agg with
 |true=>n
 |false=>1
def BE(E:qq)(a:Opd)(agg:Bool)(n:Nat):Option (zC × Nat × Nat):=match ro E a with
 |some (.one d)=>UB d (lP agg n)
 |_=>none
theorem AD{H:Hp}{b o n:Nat}{x:C}{l:List C}(h:H.loads b o (n+1)=some (x::l)):H.cell b o=some x:=by
 have:=vt (i:=0) h (by omega);simpa using this
theorem bN{H H':Hp}{b:Nat}:∀{n o:Nat} {l:List C},H.loads b o n=some l->(∀i x,o<=i->i<o+n->H.cell b i=some x->H'.cell b i=some x)->H'.loads b o n=some l
 |0,_,_,hl,_=>hl
 |n+1,o,l,hl,hh=>by
  simp only [Hp.loads] at hl ⊢;cases hc:H.cell b o with
  |none=>simp [hc] at hl
  |some c=>
   simp only [hc] at hl;simp only [hh o c (by omega) (by omega) hc];cases hr:H.loads b (o+1) n with
   |none=>simp [hr] at hl
   |some r=>simp only [hr] at hl;simp only [bN hr fun i x h1 h2=>hh i x (by omega) (by omega)];exact hl
theorem V5{Z:Nat->Prop}{β:qw}{H:Hp}{F:T V}(hS:SR p Z β H S nk)(hE:ER Z β H E F){agg:Bool}{n:Nat}{a:Opd}{d:DV}(hd:wi p E S agg n a=some d):
 ∃v,xj F H (.load agg n a)=some v/\zw Z H β d v/\WR Z β H (BE E a agg n) fun H'=>xj F H' (.load agg n a)=some v:=by
 unfold wi at hd;split at hd
 ·rename_i e he;have hwt:BE E a agg n=UB e (lP agg n):=by simp only [BE,he]
  rw [hwt];obtain⟨x,hx,hr⟩:=xf hE he;cases agg with
  |true=>
   simp only [lP] at hd ⊢;split at hd
   ·rename_i l hl;obtain rfl:=zsi hd;obtain⟨b,o,cs,rfl,h1,h2,h3⟩:=CE hS hr hl;refine⟨.agg cs,by simp [xj,hx,h1],⟨cs,rfl,h2⟩,h3 _ fun H' hh=>?_⟩;simp [xj,hx,bN h1 hh]
   ·cases hd
  |false=>
   simp only [lP] at hd ⊢;split at hd
   ·rename_i x' l hl;obtain rfl:=zsi hd;obtain⟨b,o,cs,rfl,h1,h2,h3⟩:=CE hS hr hl;cases cs with
    |nil=>exact h2.elim
    |cons y cs=>
     have hcell:=AD h1;refine⟨.one y,by simp [xj,hx,hcell],⟨y,rfl,h2.1⟩,h3 _ fun H' hh=>?_⟩;simp [xj,hx,hh o y (by omega) (by omega) hcell]
   ·cases hd
 ·cases hd
theorem jG{agg:Bool}{n:Nat}{a:Opd}{d:DV}(hd:wi p E S agg n a=some d)(h:DPW p base rs Q r W A (xk E dst d) S nk):DPW p base rs Q (⟨id,dst,.l (.load agg n a),none,aid,ws,false⟩::r) W A E S nk:=.mk fun Z β H F c hS hE hC hA=>by
 obtain⟨v,hv,hr,_⟩:=V5 hS hE hd;simp only [qF,qt,if_true,hv,Bool.false_eq_true,if_false];exact h.run Z β H _ c hS (hE.set dst (xC.of1 hr)) hC hA
theorem jy{agg:Bool}{n:Nat}{a:Opd}{d:DV}(hd:wi p E S agg n a=some d)(h:DPW p base rs Q r ((id,BE E a agg n)::W) A (xk E dst d) S nk):DPW p base rs Q (⟨id,dst,.l (.load agg n a),none,aid,ws,true⟩::r) W A E S nk:=.mk fun Z β H F c hS hE hC hA=>by
 obtain⟨v,hv,hr,hw⟩:=V5 hS hE hd;simp only [qF,qt,if_true,hv];refine h.run Z β H _ _ hS (hE.set dst (xC.of1 hr)) (fun x hx=>?_) hA;rcases List.mem_cons.1 hx with rfl|hx
 ·exact⟨(id,BE E a agg n),List.mem_cons_self,hw⟩
 ·obtain⟨y,hy,hr⟩:=hC x hx;exact⟨y,by simp [hy],hr⟩
theorem cB{agg:Bool}{n:Nat}{a:Opd}{d:DV}{g:Nat}{t want:Bool}(hg:lk E g=some (.bool t))(hd:t=want->wi p E S agg n a=some d)(h:DPW p base rs Q r W A (xk E dst (if t=want then d else .undef)) S nk):DPW p base rs Q (⟨id,dst,.l (.load agg n a),some (g,want),aid,ws,false⟩::r) W A E S nk:=
 M9 hg (fun ht=>jG (hd ht) (by rw [if_pos ht] at h;exact h)) (fun ht=>by rw [if_neg (by rw [ht];cases want<;>decide)] at h;exact h)
theorem jf{agg:Bool}{n k o:Nat}{a:Opd}{l q:List FD}(ha:ro E a=some (.one (.ptr k o)))(hk:lk S k=some (.data l))(hl:xK l o (lP agg n)=some q){d:DV}(hd:(match agg,q with|true,q=>some (.agg (q.map .f))|false,x::_=>some (.one (.f x))|false,[]=>none)=some d):wi p E S agg n a=some d:=by
 cases agg with
 |true=>simp only [lP] at hl hd;simp only [wi,ha,YM,hk,hl];exact hd
 |false=>
  simp only [lP] at hl;cases q with
  |nil=>cases hd
  |cons x q=>simp only at hd;simp only [wi,ha,YM,hk,hl,List.map_cons];exact hd
theorem jd{n k o:Nat}{a:Opd}{rows:List (List FD)}{r:List FD}(ha:ro E a=some (.one (.ptr k o)))(hk:lk S k=some (.tree rows))(hl:rows[o]?=some r):wi p E S false n a=some (.one (.trow k o 0 r.length)):=by
 have h1:o<rows.length:=(zgs hl).1;have h2:xK (zh k 0 rows) o 1=some [.trow k o 0 r.length]:=by
  rw [yj (by rw [kO];omega)];congr 1;refine List.ext_getElem? fun j=>?_;rw [List.getElem?_take];split
  ·rename_i hj;obtain rfl:j=0:=by omega
   rw [List.getElem?_drop,Q9,Nat.add_zero,hl];simp
  ·rename_i hj;rw [List.getElem?_eq_none (by simp;omega)]
 simp only [wi,ha,YM,hk,h2]
theorem je{n k i o:Nat}{a:Opd}{rows:List (List FD)}{r:List FD}{x:FD}(ha:ro E a=some (.one (.tptr k i o)))(hk:lk S k=some (.tree rows))(hi:rows[i]?=some r)(ho:r[o]?=some x):wi p E S false n a=some (.one (.f x)):=by
 have h1:o<r.length:=(zgs ho).1;have h2:xK r o 1=some [x]:=by
  rw [yj (by omega)];congr 1;refine List.ext_getElem? fun j=>?_;rw [List.getElem?_take];split
  ·rename_i hj;obtain rfl:j=0:=by omega
   rw [List.getElem?_drop,Nat.add_zero,ho];simp
  ·rename_i hj;rw [List.getElem?_eq_none (by simp;omega)]
 simp only [wi,ha,YM,hk,hi,h2,List.map_cons]
theorem qpt{x i:Opd}{k t o n:Nat}{kd:IntKind}{j:Int}(hx:ro E x=some (.one (.trow k t o n)))(hi:ro E i=some (.one (.f (.c (.int kd j)))))(h0:0<=j)(h1:j<n)(h:DPW p base rs Q r W A (xk E dst (.one (.tptr k t (o+j.toNat*1)))) S nk):DPW p base rs Q (⟨id,dst,.p (.iaddr 1 x i),none,aid,ws,keep⟩::r) W A E S nk:=by
 refine QT (fun {Z β H F} hE=>?_) h;obtain⟨c,hc,hr⟩:=xf hE hx;rcases hr with⟨_,h2,_⟩|⟨b,N,cap,ex,h2,rfl,_⟩
 ·omega
 ·exact⟨.one (.ptr b (o+j.toNat*1)),by simp only [qv,hc,zT hE hi,XO];rw [if_pos ⟨trivial,h0,h1⟩],_,rfl,b,N,h2,rfl⟩
theorem W2{x i:Opd}{k t n:Nat}{kd:IntKind}{j:Int}(hx:ro E x=some (.one (.trow k t 0 n)))(hi:ro E i=some (.one (.f (.c (.int kd j)))))(h0:0<=j)(h1:j<n)(h:DPW p base rs Q r W A (xk E dst (.one (.tptr k t j.toNat))) S nk):DPW p base rs Q (⟨id,dst,.p (.iaddr 1 x i),none,aid,ws,keep⟩::r) W A E S nk:=
 qpt hx hi h0 h1 (by rw [Nat.zero_add,Nat.mul_one];exact h)
theorem W3{x i:Opd}{k n:Nat}{kd:IntKind}{j:Int}(hx:ro E x=some (.one (.own k 0 n 1)))(hi:ro E i=some (.one (.f (.c (.int kd j)))))(h0:0<=j)(h1:j<n)(h:DPW p base rs Q r W A (xk E dst (.one (.ptr k j.toNat))) S nk):DPW p base rs Q (⟨id,dst,.p (.iaddr 1 x i),none,aid,ws,keep⟩::r) W A E S nk:=
 cD hx hi h0 h1 (by rw [Nat.zero_add,Nat.mul_one];exact h)
end
def dP:List DC->Option (List FD)
 |[]=>some []
 |.f d::l=>match dP l with
  |some r=>some (d::r)
  |none=>none
 |_::_=>none
def lH(l:List DC):Bk:=match dP l with
 |some r=>.data r
 |none=>.cells l
section
variable{Z:Nat->Prop}{H:Hp}{β:qw}
theorem dO:∀{l:List DC} {r:List FD} {cs:List C},dP l=some r->qg (RD Z H β) l cs->qg (RF Z H) r cs
 |[],r,[],h,_=>by obtain rfl:=zsi h;trivial
 |.f d::l,r,c::cs,h,hr=>by
  simp only [dP] at h;split at h
  ·rename_i q hq;obtain rfl:=zsi h;exact⟨hr.1,dO hq hr.2⟩
  ·cases h
 |[],_,_::_,_,hr=>hr.elim
 |_::_,_,[],_,hr=>hr.elim
 |.g _ _::_,_,_::_,h,_=>by cases h
 |.ptr _ _::_,_,_::_,h,_=>by cases h
 |.own _ _ _ _::_,_,_::_,h,_=>by cases h
 |.fptr _::_,_,_::_,h,_=>by cases h
 |.fn _ _::_,_,_::_,h,_=>by cases h
 |.any::_,_,_::_,h,_=>by cases h
 |.om _::_,_,_::_,h,_=>by cases h
 |.yl _::_,_,_::_,h,_=>by cases h
 |.fz _ _::_,_,_::_,h,_=>by cases h
 |.trow _ _ _ _::_,_,_::_,h,_=>by cases h
 |.tptr _ _ _::_,_,_::_,h,_=>by cases h
theorem PC{l:List DC}{cs:List C}(h:qg (RD Z H β) l cs):(lH l).rel Z H β cs:=by
 unfold lH;split
 ·rename_i r hr;exact dO hr h
 ·exact h
end
theorem tU(l:List DC):(lH l).shape=none:=by
 unfold lH;split<;>rfl
theorem fE{F:T V}:∀{ps:List (Nat × Nat × Opd)} {z l:List C},yp F z ps=some l->l.length=z.length
 |[],z,l,h=>by rw [zsi h]
 |(off,size,x)::r,z,l,h=>by
  simp only [yp] at h;split at h
  ·cases h
  ·rename_i cs _;split at h
   ·rename_i e;rw [fE h];simp only [List.length_append,List.length_take,List.length_drop];omega
   ·cases h
def XS(E:qq)(nk:Nat):AllocOp->Option (Bk × DV)
 |.alloc z=>some (.cells (z.map QD),.one (.ptr nk 0))
 |.box x=>match ro E x with
  |some d=>match Kh d with
   |some l=>some (.cells l,.one (.ptr nk 0))
   |none=>none
  |none=>none
 |.bslice esz len z ps=>match KR E ((yO z (len*esz)).map QD) ps with
  |some l=>some (lH l,.one (.own nk 0 len esz))
  |none=>none
 |_=>none
theorem Ka{E:qq}{nk:Nat}{op:AllocOp}{x:Bk}{d:DV}(h:XS E nk op=some (x,d)):x.shape=none:=by
 cases op with
 |alloc z=>obtain⟨rfl,rfl⟩:=Prod.mk.inj (zsi h);rfl
 |box o=>
  simp only [XS] at h;split at h
  ·split at h
   ·obtain⟨rfl,rfl⟩:=Prod.mk.inj (zsi h);rfl
   ·cases h
  ·cases h
 |bslice esz len z ps=>
  simp only [XS] at h;split at h
  ·obtain⟨rfl,rfl⟩:=Prod.mk.inj (zsi h);exact tU _
  ·cases h
 |_=>cases h
section
variable{p:Par}{Z:Nat->Prop}{H:Hp}{β:qw}{E:qq}{F:T V}{nk:Nat}
theorem fM(hE:ER Z β H E F){op:AllocOp}{x:Bk}{d:DV}(h:XS E nk op=some (x,d)):∃cs g,xA F op=some (.row cs.length cs .lf true,g)/\x.rel Z H β cs/\∀b H' Z' β',β' (nk,0)=some (.blk b cs.length)->xC Z' H' β' d (g b):=by
 cases op with
 |alloc z=>
  obtain⟨rfl,rfl⟩:=Prod.mk.inj (zsi h);exact⟨z,_,rfl,Q7 z,fun b H' Z' β' hb=>⟨_,rfl,b,_,hb,rfl⟩⟩
 |box o=>
  simp only [XS] at h;split at h
  ·rename_i d' hd';split at h
   ·rename_i l hl;obtain⟨rfl,rfl⟩:=Prod.mk.inj (zsi h);obtain⟨cs,h1,h2⟩:=Kg (xf hE hd') hl;exact⟨cs,fun b=>.one (.ptr b 0),by simp only [xA,h1],h2,fun b H' Z' β' hb=>⟨_,rfl,b,_,hb,rfl⟩⟩
   ·cases h
  ·cases h
 |bslice esz len z ps=>
  simp only [XS] at h;split at h
  ·rename_i l hl;obtain⟨rfl,rfl⟩:=Prod.mk.inj (zsi h);obtain⟨cs,h1,h2⟩:=VX hE (Q7 _) hl;have hlen:=fE h1;refine⟨cs,fun b=>.one (.slc b 0 len len esz true),by simp only [xA,h1],PC h2,fun b H' Z' β' hb=>⟨_,rfl,.inr ⟨b,cs.length,len,true,hb,rfl,Nat.le_refl _,?_⟩⟩⟩;rw [hlen];simp [yO]
  ·cases h
 |_=>cases h
end
section
variable{p:Par}{base rs:Nat}{Q:qq->Bx->Nat->Prop}{r:List SOper}{W:Wt}{A:List Nat}{E:qq}{S:Bx}{nk:Nat}{id:Nat}{dst:Option Nat}{aid:Option Nat}{ws:List Nat}{keep:Bool}
theorem AR.new{Z:Nat->Prop}{β:qw}{H H':Hp}{b N:Nat}(hA:AR p base rs A Z β H)(hnx:H.nx<=H'.nx)(hg:∀b',b'≠b->H'.get b'=H.get b')(hb:∀j,j<rs->j∉A->base+j≠b):AR p base rs A Z (wz β nk (.blk b N)) H':=by
 refine⟨hA.1,fun j hj hjA=>?_⟩;obtain⟨h1,h2,h3,h4⟩:=hA.2 j hj hjA;refine⟨by omega,by rw [hg _ (hb j hj hjA)];exact h2,h3,fun k M=>?_⟩;by_cases e:k=(nk,0)
 ·subst e;rw [xu];intro h;exact hb j hj hjA (Slot.blk.inj (zsi h)).1.symm
 ·rw [yi _ _ e];exact h4 k M
theorem CR.new{Z:Nat->Prop}{β β':qw}{H H':Hp}{b:Nat}{c:zR}(hC:CR W Z β H c)(hZ:xo Z H Z H')(hB:xO β β')(hg:∀b',b'≠b->H'.get b'=H.get b')(hb:H.get b=none):CR W Z β' H' c:=hC.step hZ hB fun y _ k o n _ b' N i x _ _ _ hx=>by
 unfold Hp.cell at hx ⊢;by_cases e:b'=b
 ·subst e;rw [hb] at hx;cases hx
 ·rw [hg b' e];exact hx
theorem rW {op:AllocOp} {x:Bk} {d:DV} (hsh:x.shape=none) (hd:∀{Z:Nat->Prop} {β:qw} {H:Hp} {F:T V},ER Z β H E F->∃bk g cs rest,xA F op=some (bk,g)/\(∀b H',H'.get b=some bk->x6 H' b (cs++rest))/\x.rel Z H β cs/\∀b (H':Hp) (Z':Nat->Prop) β',β' (nk,0)=some (.blk b (cs++rest).length)->xC Z' H' β' d (g b))
 (h:DPW p base rs Q r W A (xk E dst d) ((nk,x)::S) (nk+1)):DPW p base rs Q (⟨id,dst,.a op,none,none,ws,keep⟩::r) W A E S nk:=.mk fun Z β H F c hS hE hC hA=>by
 obtain⟨bk,g,cs,rest,h1,h2,h3,h4⟩:=hd hE;simp only [qF,qt,if_true,h1];have hfr:H.get H.nx=none:=hS.wf.fresh (Nat.le_refl _);have hg:∀b',b'≠H.nx->(H.push bk).get b'=H.get b':=fun b' hb'=>by rw [Hp.get_push,if_neg hb']
 obtain⟨hS',hZ,hB⟩:=hS.new (x:=x) (b:=H.nx) (H':=H.push bk) (cs:=cs) (rest:=rest) hsh h3 (fun hz=>absurd (hS.z _ hz) (by omega)) (fun k N hk=>absurd (hS.bd k _ N hk) (by omega)) hS.lo (by simp) (by simp) (hS.wf.push _) hg (h2 _ _ (by rw [Hp.get_push,if_pos rfl]));exact h.run Z _ _ _ c hS' ((hE.mono hZ hB).set dst (h4 _ _ _ _ (xu _ _ _))) (hC.new hZ hB hg hfr) (hA.new (by simp) hg fun j hj hjA e=>by have:=(hA.2 j hj hjA).1;omega)
theorem m5 {op:AllocOp} {x:Bk} {d:DV} {i:Nat} (hi:Nat.blt i rs=true) (hA':A.elem i=false) (hsh:x.shape=none) (hd:∀{Z:Nat->Prop} {β:qw} {H:Hp} {F:T V},ER Z β H E F->∃bk g cs rest,xA F op=some (bk,g)/\(∀b H',H'.get b=some bk->x6 H' b (cs++rest))/\x.rel Z H β cs/\∀b (H':Hp) (Z':Nat->Prop) β',β' (nk,0)=some (.blk b (cs++rest).length)->xC Z' H' β' d (g b))
 (h:DPW p base rs Q r W (i::A) (xk E dst d) ((nk,x)::S) (nk+1)):DPW p base rs Q (⟨id,dst,.a op,none,some i,ws,keep⟩::r) W A E S nk:=.mk fun Z β H F c hS hE hC hA=>by
 obtain⟨bk,g,cs,rest,h1,h2,h3,h4⟩:=hd hE;simp only [qF,qt,if_true,h1];have hi':i<rs:=Nat.le_of_ble_eq_true hi;have hiA:i∉A:=fun h=>by rw [List.elem_eq_true_of_mem h] at hA';cases hA'
 obtain⟨g1,g2,g3,g4⟩:=hA.2 i hi' hiA;have hg:∀b',b'≠base+i->(H.add (base+i) bk).get b'=H.get b':=fun b' hb'=>Hp.get_add_ne _ _ hb';have hw:WF (H.add (base+i) bk):=fun b k hb=>by
  rw [Hp.get_add] at hb;split at hb
  ·simp;omega
  ·exact hS.wf b k hb
 obtain⟨hS',hZ,hB⟩:=hS.new (x:=x) (b:=base+i) (H':=H.add (base+i) bk) (cs:=cs) (rest:=rest) hsh h3 g3 g4 (by have:=hA.1;omega) (by simpa using g1) (by simp) hw hg (h2 _ _ (by simp));refine h.run Z _ _ _ c hS' ((hE.mono hZ hB).set dst (h4 _ _ _ _ (xu _ _ _))) (hC.new hZ hB hg g2) ?_;have hA2:AR p base rs (i::A) Z β H:=⟨hA.1,fun j hj hjA=>hA.2 j hj fun h=>hjA (by simp [h])⟩;exact hA2.new (by simp) hg fun j hj hjA e=>hjA (by simp;omega)
theorem B7{cs:List C}(b:Nat)(H':Hp)(h:H'.get b=some (.row cs.length cs .lf true)):x6 H' b (cs++[]):=by
 rw [List.append_nil];exact⟨⟨cs,.lf,h⟩,XL (rw:=true) h⟩
theorem Xm{op:AllocOp}{x:Bk}{d:DV}(hd:XS E nk op=some (x,d))(h:DPW p base rs Q r W A (xk E dst d) ((nk,x)::S) (nk+1)):DPW p base rs Q (⟨id,dst,.a op,none,none,ws,keep⟩::r) W A E S nk:=
 rW (Ka hd) (fun hE=>by
  obtain⟨cs,g,h1,h2,h3⟩:=fM hE hd;exact⟨_,g,cs,[],h1,B7,h2,fun b H' Z' β' hb=>h3 b H' Z' β' (by simpa using hb)⟩) h
theorem cE{op:AllocOp}{x:Bk}{d:DV}{i:Nat}(hi:Nat.blt i rs=true)(hA':A.elem i=false)(hd:XS E nk op=some (x,d))(h:DPW p base rs Q r W (i::A) (xk E dst d) ((nk,x)::S) (nk+1)):DPW p base rs Q (⟨id,dst,.a op,none,some i,ws,keep⟩::r) W A E S nk:=
 m5 hi hA' (Ka hd) (fun hE=>by
  obtain⟨cs,g,h1,h2,h3⟩:=fM hE hd;exact⟨_,g,cs,[],h1,B7,h2,fun b H' Z' β' hb=>h3 b H' Z' β' (by simpa using hb)⟩) h
def zok:List FD->List C->Bool
 |[],[]=>true
 |.c _::l,x::m=>x.closed&&zok l m
 |.sl _ 0 []::l,.nils::m=>zok l m
 |_,_=>false
def aD:List FD->List C->Prop
 |[],[]=>True
 |.c y::l,x::m=>y=x/\x.closed=true/\aD l m
 |.sl _ n q::l,x::m=>n=0/\q=[]/\x=.nils/\aD l m
 |_,_=>False
theorem aC{Z:Nat->Prop}{H:Hp}:∀{l:List FD} {m:List C},aD l m->qg (RF Z H) l m
 |[],[],_=>trivial
 |.c y::l,x::m,h=>by obtain⟨rfl,h1,h2⟩:=h;exact⟨.c _ h1,aC h2⟩
 |.sl e n q::l,x::m,h=>by obtain⟨rfl,rfl,rfl,h2⟩:=h;exact⟨.nil e,aC h2⟩
 |[],_::_,h=>h.elim
 |.c _::_,[],h=>h.elim
 |.sl _ _ _::_,[],h=>h.elim
def yM(z:List FD):Nat->List FD
 |0=>[]
 |n+1=>z++yM z n
theorem kU(z:List FD):∀n,(yM z n).length=n*z.length
 |0=>by simp [yM]
 |n+1=>by simp [yM,kU z n,Nat.add_mul];omega
theorem iS(z:List FD):∀(n i:Nat),i<n*z.length->(yM z n)[i]?=z[i % z.length]?
 |0,i,h=>by simp at h
 |n+1,i,h=>by
  simp only [yM];by_cases hi:i<z.length
  ·rw [List.getElem?_append_left hi,Nat.mod_eq_of_lt hi]
  ·rw [List.getElem?_append_right (by omega),iS z n (i-z.length) (by rw [Nat.add_mul,Nat.one_mul] at h;omega)];congr 1;exact (Nat.mod_eq_sub_mod (by omega)).symm
theorem Ya(x:FD):∀n,yM [x] n=List.replicate n x
 |0=>rfl
 |n+1=>by simp [yM,Ya x n,List.replicate_succ]
theorem pK{z:List C}{M:Nat}(hz:0<z.length)(b:Nat)(H':Hp)(h:H'.get b=some (.row M z .lf true)):x6 H' b ((List.range M).map fun i=>z.getD (i % z.length) .nilp):=by
 refine⟨⟨z,.lf,by simpa using h⟩,?_⟩;have key:∀(m o:Nat),o+m=M->H'.loads b o m=some ((List.range' o m).map fun i=>z.getD (i % z.length) .nilp):=by
  intro m;induction m with
  |zero=>intro o _;rfl
  |succ m ih=>
   intro o ho;have hc:H'.cell b o=some (z.getD (o % z.length) .nilp):=by simp [Hp.cell,h,B.cell,show o<M by omega]
   simp only [Hp.loads,hc,ih (o+1) (by omega),List.range'_succ,List.map_cons]
 have:=key M 0 (by omega);simpa [List.range_eq_range'] using this
theorem C2{Z:Nat->Prop}{H:Hp}{zf:List FD}{z:List C}(hz:aD zf z)(hp:0<z.length){n M:Nat}(hn:n*z.length<=M):∃cs rest,(List.range M).map (fun i=>z.getD (i % z.length) .nilp)=cs++rest/\qg (RF Z H) (yM zf n) cs:=by
 have ha:=aC (Z:=Z) (H:=H) hz;have hl:=ha.len;refine⟨((List.range M).map (fun i=>z.getD (i % z.length) .nilp)).take (n*z.length),_,(List.take_append_drop _ _).symm,qg.mk ?_ fun i d c hd hc=>?_⟩
 ·rw [kU,hl];simp;omega
 ·have hi:i<n*zf.length:=by rw [<-kU];exact (zgs hd).1
  rw [iS zf n i hi] at hd;obtain⟨x,hx,hr⟩:=ha.at _ d hd;rw [List.getElem?_take,if_pos (by rw [<-hl];exact hi),List.getElem?_map,List.getElem?_range (by rw [hl] at hi;omega)] at hc;simp only [Option.map_some,zoi] at hc;rw [<-hl] at hc;rw [List.getD_eq_getElem?_getD,hx] at hc;simp only [Option.getD_some] at hc;exact hc▸hr
theorem MB {esz bytes n m:Nat} {z:List C} {zf:List FD} {lo co:Opd} {k k':IntKind} (hl:ro E lo=some (.one (.f (.c (.int k (n:Nat)))))) (hc:ro E co=some (.one (.f (.c (.int k' (m:Nat)))))) (hz:aD zf z) (hze:z.length=esz) (hp:0<esz) (hnm:n<=m) (hb:bytes*m<=281474976710656) (hm:m<4611686018427387904)
 {Z:Nat->Prop} {β:qw} {H:Hp} {F:T V} (hE:ER Z β H E F):∃bk g cs rest,xA F (.mkslice esz bytes z lo co)=some (bk,g)/\(∀b H',H'.get b=some bk->x6 H' b (cs++rest))/\(Bk.data (yM zf n)).rel Z H β cs/\∀b (H':Hp) (Z':Nat->Prop) β',β' (nk,0)=some (.blk b (cs++rest).length)->xC Z' H' β' (.one (.own nk 0 n esz)) (g b):=by
 obtain⟨cs,rest,h1,h2⟩:=C2 (Z:=Z) (H:=H) hz (by omega) (n:=n) (M:=m*esz) (by rw [hze];exact Nat.mul_le_mul_right _ hnm);refine⟨.row (m*esz) z .lf true,fun b=>.one (.slc b 0 n m esz true),cs,rest,?_,fun b H' hb=>?_,h2,fun b H' Z' β' hb=>⟨_,rfl,.inr ⟨b,_,m,true,hb,rfl,hnm,?_⟩⟩⟩
 ·simp only [xA,zT hE hl,zT hE hc];rw [if_pos ⟨by omega,by omega,by omega,by omega⟩];simp
 ·rw [<-h1];exact pK (by omega) b H' hb
 ·rw [<-h1];simp
theorem uV {esz bytes n m:Nat} {z:List C} (zf:List FD) {lo co:Opd} {k k':IntKind} (hl:ro E lo=some (.one (.f (.c (.int k (n:Nat)))))) (hc:ro E co=some (.one (.f (.c (.int k' (m:Nat)))))) (hz:aD zf z) (hze:z.length=esz) (hp:0<esz) (hnm:n<=m) (hb:bytes*m<=281474976710656) (hm:m<4611686018427387904)
 (h:DPW p base rs Q r W A (xk E dst (.one (.own nk 0 n esz))) ((nk,.data (yM zf n))::S) (nk+1)):DPW p base rs Q (⟨id,dst,.a (.mkslice esz bytes z lo co),none,none,ws,keep⟩::r) W A E S nk:=
 rW (x:=.data (yM zf n)) rfl (fun hE=>MB hl hc hz hze hp hnm hb hm hE) h
theorem EC {esz bytes n m:Nat} {z:List C} (zf:List FD) {lo co:Opd} {k k':IntKind} {i:Nat} (hi:Nat.blt i rs=true) (hA':A.elem i=false) (hl:ro E lo=some (.one (.f (.c (.int k (n:Nat)))))) (hc:ro E co=some (.one (.f (.c (.int k' (m:Nat)))))) (hz:aD zf z) (hze:z.length=esz) (hp:0<esz) (hnm:n<=m) (hb:bytes*m<=281474976710656) (hm:m<4611686018427387904)
 (h:DPW p base rs Q r W (i::A) (xk E dst (.one (.own nk 0 n esz))) ((nk,.data (yM zf n))::S) (nk+1)):DPW p base rs Q (⟨id,dst,.a (.mkslice esz bytes z lo co),none,some i,ws,keep⟩::r) W A E S nk:=
 m5 (x:=.data (yM zf n)) hi hA' rfl (fun hE=>MB hl hc hz hze hp hnm hb hm hE) h
end
end Go.Ab
