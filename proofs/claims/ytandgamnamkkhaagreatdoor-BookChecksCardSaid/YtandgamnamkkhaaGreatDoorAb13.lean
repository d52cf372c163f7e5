/- -/
import Derived.Test.YtandgamnamkkhaaGreatDoorAb12
import Derived.RecoverIn
set_option linter.unusedSimpArgs false
set_option linter.unusedVariables false
set_option maxRecDepth 8000
namespace Go.Ab
structure SDef where
 n:Nat
 r:Nat
 p:PureOp
 d:Option Nat
 c:Opd
 l:List SOper
def Zg:Bool->C
 |true=>.ifa
 |false=>.nili
def c9(P:Program)(G:Nat)(f:FuncId):Option SDef:=
 match P.funcs[f]? with
 |some fn=>match fn.body with
  |some (.seq (.region _ ops0 false) (.cond c (.region _ ops1 false) .skip))=>match ops0.toList with
   |[o0,o1]=>match o0.op,o0.guard,o0.dst with
    |.call { callee:=.builtin .recover,args:=as,argTypes:=_ },none,some r=>match o1.guard,ZN P G fn.ntmps o1,cO G fn.ntmps c,wJ P G fn.ntmps ops1 kJ (List.range ops1.size) with
     |none,some p,some d,some l=>if as.isEmpty&&decide (r<fn.ntmps)&&V3 fn.ntmps o1.dst&&fn.results.isEmpty then some ⟨fn.ntmps,r,p,o1.dst,d,l⟩ else none
     |_,_,_,_=>none
    |_,_,_=>none
   |_=>none
  |_=>none
 |none=>none
section
variable{P:Program}{G:Nat}
theorem MH {f:FuncId} {sd:SDef} (hf:c9 P G f=some sd) {args:List V} {pan:Bool} {H:Hp} {R:Bool->Hp->Prop} (hn:args.length<=sd.n)
 (h:∃v t,qn ((zr args 0).set sd.r (some (.one (Zg pan)))) sd.p=some v/\sd.c.ev (qP ((zr args 0).set sd.r (some (.one (Zg pan)))) sd.d v)=.one (.bool t)/\
  if t then qv P G H.nx (fun _=>False) (fun _ H'=>R false H') sd.l [] (qP ((zr args 0).set sd.r (some (.one (Zg pan)))) sd.d v) H else R false H):U4 P G f args pan H R:=by
 unfold c9 at hf;split at hf<;>try cases hf
 rename_i fn hfn;split at hf<;>try cases hf
 rename_i id0 ops0 c id1 ops1 hb;split at hf<;>try cases hf
 rename_i o0 o1 hops;split at hf<;>try cases hf
 rename_i as ts r hop0 hg0 hd0;split at hf<;>try cases hf
 rename_i p d l hg1 hp1 hc hl;split at hf<;>try cases hf
 rename_i hcond;simp only [xt,xF] at hcond;obtain⟨⟨⟨has,hr⟩,hd1⟩,hres⟩:=hcond;obtain rfl:as=#[]:=by simpa using has
 obtain⟨v,t,hv,ht,h⟩:=h;intro μ K w xs u hR ha hm;refine callsDIn_of_wpSIn hfn hb trivial fun c₀ cs hu=>?_;have hlen:=ha.len;have hF0:xy μ K fn.ntmps (zr args 0) (xs.toArray++Array.replicate (fn.ntmps-xs.toArray.size) Go.undef):=fY hn ha;have hsz:ops0.size=2:=by rw [<-Array.length_toList,hops];rfl
 have e0:ops0[0]?=some o0:=by rw [<-Array.getElem?_toList,hops];rfl
 have e1:ops0[1]?=some o1:=by rw [<-Array.getElem?_toList,hops];rfl
 refine wpSIn_seq (wpSIn_region ?_);rw [hsz];show wpOpsSIn Fence.wide 0 P ops0 _ [0,1] _ _ _;have hrun0:∀a:Act,(execOp a.eval o0).run P w=.ok .recover w:=fun a=>by
  simp [execOp,hop0,resolve];rfl
 have hrec:∃u',(settle u'=.returning)/\∀(Q:Exit->Act->List Frame->World->Prop) (a:Act),(∀x,RC μ K (Zg pan) x->wpOpsSIn Fence.wide 0 P ops0 Q [1] (a.put (some r) x) ({ c₀ with mode:=u' }::cs) w)->wpOpsSIn Fence.wide 0 P ops0 Q [0,1] a (c₀::cs) w:=by
  cases pan with
  |false=>
   have hu':c₀.mode=.returning:=hu.trans hm;refine⟨.returning,rfl,fun Q a hh=>?_⟩;have:=hh .nilIface rfl;rw [wpOpsSIn];simp only [e0];refine⟨fun _ _=>trivial,?_⟩;simp only [Region.wanted,hg0,if_true,hrun0,recoverD,hu',hd0];rw [show ({ c₀ with mode:=FrameMode.returning }:Frame)=c₀ by rw [<-hu']] at this
   exact this
  |true=>
   obtain⟨ch,hch,ty,vv,rfl⟩:=hm;have hu':c₀.mode=.panicking [{ v:=.iface ty vv,recovered:=false }]:=hu.trans hch;refine⟨.panicking [{ v:=.iface ty vv,recovered:=true }],rfl,fun Q a hh=>?_⟩;have:=hh (.iface ty vv) ⟨ty,vv,rfl⟩;rw [wpOpsSIn];simp only [e0];refine⟨fun _ _=>trivial,?_⟩;simp only [Region.wanted,hg0,if_true,hrun0,recoverD,hu',hd0];exact this
 obtain⟨u',hset,hrec⟩:=hrec;refine hrec _ _ fun x hx=>?_;have hF1:xy μ K fn.ntmps ((zr args 0).set r (some (.one (Zg pan)))) (({ tmps:=xs.toArray++Array.replicate (fn.ntmps-xs.toArray.size) Go.undef,defers:=[] }:Act).put (some r) x).tmps:=
  xy.put (a:=⟨_,[]⟩) (d:=some r) hF0 (by simpa [V3] using hr) (v:=.one (Zg pan)) hx
 obtain⟨y,hrun1,hy⟩:=lT (a:=(({ tmps:=xs.toArray++Array.replicate (fn.ntmps-xs.toArray.size) Go.undef,defers:=[] }:Act).put (some r) x)) hR hF1 hp1 hv;rw [wpOpsSIn];simp only [e1];refine⟨fun _ _=>trivial,?_⟩;simp only [Region.wanted,hg1,if_true,hrun1,wpOpsSIn];have hF2:=xy.put hF1 hd1 hy;have hcv:=qr hR hF2 hc;rw [ht] at hcv;have hdef:((({ tmps:=xs.toArray++Array.replicate (fn.ntmps-xs.toArray.size) Go.undef,defers:=[] }:Act).put (some r) x).put o1.dst y).defers=[]:=by cases o1.dst<;>rfl
 generalize hA:((({ tmps:=xs.toArray++Array.replicate (fn.ntmps-xs.toArray.size) Go.undef,defers:=[] }:Act).put (some r) x).put o1.dst y)=A at *;have hresl:fn.results=#[]:=by simpa using hres
 have hresult:∀(tm:Array Value) (w1:World),(results fn tm).run P w1=.ok (.tuple #[]) w1:=fun tm w1=>by
  unfold results;simp [hresl]
 show (Code.cond c (.region id1 ops1 false) .skip).wpSIn Fence.wide 0 P _ A _ w
 refine wpSIn_cond (t:=t) hcv (wpSIn_of_wpIn rfl ?_);cases t with
 |false=>
  simp only [Bool.false_eq_true,if_false] at h ⊢;exact wpIn_skip ⟨hdef,u',rfl,_,hresult _ _,_,rfl,false,H,μ,K,hset,h,hR,Fr.refl hR⟩
 |true=>
  simp only [if_true] at h ⊢;obtain⟨hal,hai⟩:=yn hl;refine wpIn_region ?_;rw [<-List.append_nil (List.range ops1.size)];refine Jb (ρ:=none) (QP:=fun _=>False) (Q:=fun _ H'=>R false H') (D:=[]) (F0:=qP ((zr args 0).set r (some (.one (Zg pan)))) o1.dst v) (ds:=xS l) hR.lt' hal.dsts (fun μ' K' F' H' a' w' h1 h2 h3 h4 hag h5=>?_) (fun _ _ _ _ _ _ _ h0=>h0.elim) hal (fun s hs=>by obtain⟨i,_,e⟩:=hai s hs;exact e) vr hR hF2 (Fr.refl hR) (fun _ _=>rfl) hdef h;exact⟨h5,u',rfl,_,hresult _ _,_,rfl,false,H',μ',K',hset,h1,h2,h4⟩
end
def GW:C->C->Bool
 |.bool a,.bool b=>a==b
 |.int k a,.int k' b=>decide (k=k')&&decide (a=b)
 |.str a,.str b=>decide (a.data=b.data)
 |.ptr b o,.ptr b' o'=>decide (b=b')&&decide (o=o')
 |.nilp,.nilp=>true
 |.slc b o l c e x,.slc b' o' l' c' e' x'=>decide (b=b')&&decide (o=o')&&decide (l=l')&&decide (c=c')&&decide (e=e')&&(x==x')
 |.nils,.nils=>true
 |.map b,.map b'=>decide (b=b')
 |.nilm,.nilm=>true
 |.fn f l,.fn f' l'=>decide (f=f')&&decide (l=l')
 |.nilf,.nilf=>true
 |.ifa,.ifa=>true
 |.nili,.nili=>true
 |.bm f b o,.bm f' b' o'=>decide (f=f')&&decide (b=b')&&decide (o=o')
 |_,_=>false
theorem BT{a b:C}(h:GW a b=true):a=b:=by
 cases a<;>cases b<;>simp [GW] at h<;>simp_all;rename_i s t;cases s;cases t;simp_all
def n5:List C->List C->Bool
 |[],[]=>true
 |a::l,b::m=>GW a b&&n5 l m
 |_,_=>false
theorem BR:∀{l m:List C},n5 l m=true->l=m
 |[],[],_=>rfl
 |a::l,b::m,h=>by
  simp only [n5,xt] at h;rw [BT h.1,BR h.2]
 |[],_::_,h=>by simp [n5] at h
 |_::_,[],h=>by simp [n5] at h
def U1:V->V->Bool
 |.one a,.one b=>GW a b
 |.agg l,.agg m=>n5 l m
 |_,_=>false
theorem U0{a b:V}(h:U1 a b=true):a=b:=by
 cases a<;>cases b<;>simp only [U1] at h
 all_goals first
  |rw [BT h]
  |rw [BR h]
  |cases h
abbrev iW:=List (Nat × T V × LoadOp × V)
def kV(ws:List Nat)(ctx:iW)(H:Hp):Bool:=
 ws.all fun k=>ctx.all fun e=>e.1!=k||(match qA e.2.1 H e.2.2.1 with
  |some v=>U1 v e.2.2.2
  |none=>false)
inductive OR where
 |ok (F:T V) (H:Hp)
 |pn (H:Hp)
inductive EvR where
 |ok (v:V) (H:Hp)
 |pn (H:Hp)
def y6(tb:Nat->Option SFn)(call:FuncId->List V->Hp->Option EvR)(base:Nat):List SOper->iW->T V->Hp->Option OR
 |[],_,F,H=>some (.ok F H)
 |o::r,ctx,F,H=>
  match qs o.guard F with
  |true=>
   match o.op with
   |.p op=>match qn F op with
    |some v=>y6 tb call base r ctx (qP F o.dst v) H
    |none=>none
   |.l op=>match qA F H op with
    |some v=>y6 tb call base r (match o.keep with
     |true=>(o.id,F,op,v)::ctx
     |false=>ctx) (qP F o.dst v) H
    |none=>none
   |.a op=>match xw F op with
    |some (bk,g)=>match o.aid with
     |none=>y6 tb call base r ctx (qP F o.dst (g H.nx)) (H.push bk)
     |some k=>y6 tb call base r ctx (qP F o.dst (g (base+k))) (H.add (base+k) bk)
    |none=>none
   |.e op=>match qM F H op with
    |some (v,H')=>match kV o.watch ctx H' with
     |true=>y6 tb call base r ctx (qP F o.dst v) H'
     |false=>none
    |none=>none
   |.cf f args=>match call f (args.map (·.ev F)) H with
    |some (.ok v H')=>match kV o.watch ctx H' with
     |true=>y6 tb call base r ctx (qP F o.dst v) H'
     |false=>none
    |some (.pn H')=>some (.pn H')
    |none=>none
   |.cv x args=>match x.ev F with
    |.one (.fn f caps)=>match tb f with
     |some _=>match call f (args.map (·.ev F)++caps.map vQ) H with
      |some (.ok v H')=>match kV o.watch ctx H' with
       |true=>y6 tb call base r ctx (qP F o.dst v) H'
       |false=>none
      |some (.pn H')=>some (.pn H')
      |none=>none
     |none=>none
    |.one (.bm f b off)=>match tb f with
     |some _=>match call f (.one (.ptr b off)::args.map (·.ev F)) H with
      |some (.ok v H')=>match kV o.watch ctx H' with
       |true=>y6 tb call base r ctx (qP F o.dst v) H'
       |false=>none
      |some (.pn H')=>some (.pn H')
      |none=>none
     |none=>none
    |_=>none
   |.nx _=>none
   |.no=>none
  |false=>y6 tb call base r ctx (qP F o.dst V.undef) H
inductive EE where
 |normal
 |exit (id:Nat)
 |ret
 /-- a panic;what it has left of the temporaries ds is not known -/
 |pan (ds:List Nat)
def EE.Q(Q:Exit->T V->Hp->Prop)(F:T V)(H:Hp):EE->Prop
 |.normal=>Q .normal F H
 |.exit id=>Q (.exit id) F H
 |.ret=>Q .ret F H
 |.pan ds=>∀F1:T V,(∀t,t∉ds->F1.get t=F.get t)->Q (.panic []) F1 H
def wv(td:Nat->Option SDef):List V->Bool->Hp->Option (Bool × Hp)
 |[],pan,H=>some (pan,H)
 |.one (.fn f caps)::L,pan,H=>match td f with
  |none=>none
  |some sd=>if caps.length<=sd.n then
   match qn ((zr (caps.map vQ) 0).set sd.r (some (.one (Zg pan)))) sd.p with
   |none=>none
   |some v=>match sd.c.ev (qP ((zr (caps.map vQ) 0).set sd.r (some (.one (Zg pan)))) sd.d v) with
    |.one (.bool t)=>match t with
     |false=>wv td L false H
     |true=>match y6 (fun _=>none) (fun _ _ _=>none) H.nx sd.l [] (qP ((zr (caps.map vQ) 0).set sd.r (some (.one (Zg pan)))) sd.d v) H with
      |some (.ok _ H')=>wv td L false H'
      |_=>none
    |_=>none
   else none
 |_::_,_,_=>none
def vO(ds:List Nat):List SRes->Bool
 |[]=>true
 |.t n::l=>!ds.contains n&&vO ds l
 |.cell _ _ n::l=>!ds.contains n&&vO ds l
def Xz(tb:Nat->Option SFn)(td:Nat->Option SDef)(rec:SC->T V->Hp->Option (EE × T V × Hp))(f:FuncId)(args:List V)(H:Hp):Option EvR:=
 match tb f with
 |none=>none
 |some sf=>if args.length<=sf.n/\sf.n<=wU then
  match rec sf.code (zr args 0) H with
  |none=>none
  |some (e,F',H')=>match e with
   |.exit _=>none
   |.pan ds=>if ds.contains wU then none else match wv td (jc F') true H' with
    |none=>none
    |some (pan,H'')=>match pan with
     |true=>some (.pn H'')
     |false=>match vO ds sf.res with
      |true=>match xE F' H'' sf.res with
       |some v=>some (.ok v H'')
       |none=>none
      |false=>none
   |_=>match wv td (jc F') false H' with
    |none=>none
    |some (pan,H'')=>match pan with
     |true=>none
     |false=>match xE F' H'' sf.res with
      |some v=>some (.ok v H'')
      |none=>none
  else none
def y5(tb:Nat->Option SFn)(td:Nat->Option SDef)(rec:SC->T V->Hp->Option (EE × T V × Hp))(s:SC)(F:T V)(H:Hp):Option (EE × T V × Hp):=
 match s with
 |.skip=>some (.normal,F,H)
 |.ops l res st=>match y6 tb (Xz tb td rec) H.nx l [] F (H.skip res) with
  |none=>none
  |some (.ok F' H')=>some (.normal,F',H')
  |some (.pn H')=>match st with
   |true=>some (.pan (xS l),F,H')
   |false=>none
 |.df l d=>match y6 tb (Xz tb td rec) H.nx l [] F H with
  |none=>none
  |some (.ok F' H')=>match d.ev F' with
   |.one (.fn f caps)=>some (.normal,F'.set wU (some (.tup (.one (.fn f caps)::jc F'))),H')
   |_=>none
  |some (.pn H')=>some (.pan (xS l),F,H')
 |.pn l d=>match y6 tb (Xz tb td rec) H.nx l [] F H with
  |none=>none
  |some (.ok F' H')=>match d.ev F' with
   |.one .ifa=>some (.pan (xS l),F,H')
   |_=>none
  |some (.pn H')=>some (.pan (xS l),F,H')
 |.seq a b=>match rec a F H with
  |none=>none
  |some (e,F',H')=>match e with
   |.normal=>rec b F' H'
   |e=>some (e,F',H')
 |.cond d a b=>match d.ev F with
  |.one (.bool t)=>match t with
   |true=>rec a F H
   |false=>rec b F H
  |_=>none
 |.block id a=>match rec a F H with
  |none=>none
  |some (e,F',H')=>match e with
   |.exit id'=>if id'=id then some (.normal,F',H') else some (.exit id',F',H')
   |e=>some (e,F',H')
 |.loop a=>match rec a F H with
  |none=>none
  |some (e,F',H')=>match e with
   |.normal=>rec (.loop a) F' H'
   |e=>some (e,F',H')
 |.exit id=>some (.exit id,F,H)
 |.ret=>some (.ret,F,H)
 |.scope a=>match rec a F H with
  |none=>none
  |some (e,F',H')=>some (e,F',H')
 |.rf ..=>none
 |.no=>none
def bT(tb:Nat->Option SFn)(td:Nat->Option SDef):Nat->SC->T V->Hp->Option (EE × T V × Hp)
 |0=>fun _ _ _=>none
 |fuel+1=>y5 tb td (bT tb td fuel)
def Ee(tb:Nat->Option SFn)(td:Nat->Option SDef)(fuel:Nat)(f:FuncId)(args:List V)(H:Hp):Option EvR:=Xz tb td (bT tb td fuel) f args H
def Vy(P:Program)(G:Nat)(tb:Nat->Option SFn):Prop:=∀f sf,tb f=some sf->zK P G f=some sf/\zR P f=true
def Wv(P:Program)(G:Nat)(td:Nat->Option SDef):Prop:=∀f sd,td f=some sd->c9 P G f=some sd/\zR P f=true
section
variable{P:Program}{G:Nat}{tb:Nat->Option SFn}{td:Nat->Option SDef}
def p6(ctx:iW):za:=ctx.map fun e=>(e.1,fun H'=>qA e.2.1 H' e.2.2.1=some e.2.2.2)
theorem aD{ws:List Nat}{ctx:iW}{H:Hp}(h:kV ws ctx H=true):xY ws (p6 ctx) H:=by
 cases ws with
 |nil=>trivial
 |cons w ws=>
  intro k hk p hp;simp only [kV,List.all_eq_true] at h;have h1:=h k hk;obtain⟨e,he,hep⟩:=List.mem_map.1 hp;have h2:=h1 e he;injection hep with e1 e2
  subst e1 e2;simp only [bne_self_eq_false,Bool.false_or] at h2;cases hv:qA e.2.1 H e.2.2.1 with
  |none=>simp [hv] at h2
  |some v=>simp only [hv] at h2;show qA e.2.1 H e.2.2.1=some e.2.2.2;rw [hv,U0 h2]
theorem zB{call:FuncId->List V->Hp->Option EvR}(hcall:∀f args H r,call f args H=some r->zi P G f args H (fun v H'=>r=.ok v H') fun H'=>r=.pn H')(htb:∀f sf,tb f=some sf->zR P f=true){base:Nat}{QP:Hp->Prop}{Q:T V->Hp->Prop}:
 ∀{l:List SOper} {ctx:iW} {F:T V} {H:Hp} {x:OR},y6 tb call base l ctx F H=some x->(∀F' H',x=.ok F' H'->Q F' H')->(∀H',x=.pn H'->QP H')->qv P G base QP Q l (p6 ctx) F H
 |[],ctx,F,H,x,h,hq,hp=>by
  simp only [y6,zoi] at h;exact hq _ _ h.symm
 |o::r,ctx,F,H,x,h,hq,hp=>by
  rw [y6] at h;rw [qv];cases hw:qs o.guard F with
  |false=>
   simp only [hw] at h;simp only [Bool.false_eq_true,if_false];exact zB hcall htb h hq hp
  |true=>
   simp only [hw] at h;simp only [if_true];have go:∀{f:FuncId} {args:List V},(match call f args H with
    |some (.ok v H')=>match kV o.watch ctx H' with
     |true=>y6 tb call base r ctx (qP F o.dst v) H'
     |false=>none
    |some (.pn H')=>some (.pn H')
    |none=>none)=some x->zi P G f args H (fun v H'=>xY o.watch (p6 ctx) H'/\qv P G base QP Q r (p6 ctx) (qP F o.dst v) H') QP:=by
    intro f args h;cases hv:call f args H with
    |none=>simp [hv] at h
    |some y=>
     simp only [hv] at h;refine (hcall f args H y hv).mono (fun v' H'' e=>?_) fun H'' e=>?_
     ·subst e;simp only at h;cases hwt:kV o.watch ctx H'' with
      |false=>simp [hwt] at h
      |true=>simp only [hwt] at h;exact⟨aD hwt,zB hcall htb h hq hp⟩
     ·subst e;simp only [zoi] at h;exact hp _ h.symm
   cases hop:o.op with
   |p op=>
    simp only [hop] at h ⊢;cases hv:qn F op with
    |none=>simp [hv] at h
    |some v=>simp only [hv] at h ⊢;exact zB hcall htb h hq hp
   |l op=>
    simp only [hop] at h ⊢;cases hv:qA F H op with
    |none=>simp [hv] at h
    |some v=>
     simp only [hv] at h ⊢;cases hk:o.keep with
     |false=>simp only [hk] at h;simp only [Bool.false_eq_true,if_false];exact zB hcall htb h hq hp
     |true=>simp only [hk] at h;simp only [if_true];exact zB (ctx:=(o.id,F,op,v)::ctx) hcall htb h hq hp
   |a op=>
    simp only [hop] at h ⊢;cases hv:xw F op with
    |none=>simp [hv] at h
    |some bg=>
     simp only [hv] at h ⊢;cases hai:o.aid with
     |none=>simp only [hai] at h ⊢;exact zB hcall htb h hq hp
     |some k=>simp only [hai] at h ⊢;exact zB hcall htb h hq hp
   |e op=>
    simp only [hop] at h ⊢;cases hv:qM F H op with
    |none=>simp [hv] at h
    |some vH=>
     simp only [hv] at h ⊢;cases hwt:kV o.watch ctx vH.2 with
     |false=>simp [hwt] at h
     |true=>simp only [hwt] at h;exact⟨aD hwt,zB hcall htb h hq hp⟩
   |cf f args=>
    simp only [hop] at h ⊢;exact go h
   |cv x args=>
    simp only [hop] at h ⊢;split at h
    ·rename_i f caps hx;cases ht:tb f with
     |none=>simp [ht] at h
     |some sf=>
      simp only [ht] at h
      try simp only [hx]
      exact⟨htb f sf ht,go h⟩
    ·rename_i f b off hx;cases ht:tb f with
     |none=>simp [ht] at h
     |some sf=>
      simp only [ht] at h
      try simp only [hx]
      exact⟨htb f sf ht,go h⟩
    ·cases h
   |nx x=>simp [hop] at h
   |no=>simp [hop] at h
theorem X6(htd:Wv P G td){fin:Bool->Hp->Prop}:∀{L:List V} {pan:Bool} {H:Hp} {pan':Bool} {H':Hp},wv td L pan H=some (pan',H')->fin pan' H'->vf P G fin L pan H
 |[],pan,H,pan',H',h,hf=>by
  simp only [wv,zoi,zpi] at h;obtain⟨rfl,rfl⟩:=h;exact hf
 |v::L,pan,H,pan',H',h,hf=>by
  have hv:∃f caps,v=.one (.fn f caps):=by
   cases v with
   |one c=>cases c with
    |fn f caps=>exact⟨f,caps,rfl⟩
    |_=>simp [wv] at h
   |agg l=>simp [wv] at h
   |tup l=>simp [wv] at h
  obtain⟨f,caps,rfl⟩:=hv;unfold wv at h;split at h
  ·cases h
  ·rename_i sd hsd;split at h
   ·rename_i hlen;obtain⟨h1,h2⟩:=htd f sd hsd;refine⟨h2,MH h1 (by simpa using hlen) ?_⟩;split at h
    ·cases h
    ·rename_i x hx;split at h
     ·rename_i t ht;refine⟨x,t,hx,ht,?_⟩;cases t with
      |false=>
       simp only [Bool.false_eq_true,if_false];exact X6 htd h hf
      |true=>
       simp only at h;simp only [if_true];split at h
       ·rename_i F2 H2 hev;refine zB (tb:=fun _=>none) (ctx:=[]) (fun _ _ _ _ h=>by cases h) (fun _ _ h=>by cases h) hev (fun F' H' e=>?_) fun H' e=>by cases e
        injection e with e1 e2
        subst e1 e2;exact X6 htd h hf
       ·cases h
     ·cases h
   ·cases h
theorem iR{ds:List Nat}{F F1:T V}{H:Hp}(hag:∀t,t∉ds->F1.get t=F.get t){rs:List SRes}(h:vO ds rs=true):xE F1 H rs=xE F H rs:=by
 have one:∀{rs:List SRes},vO ds rs=true->yI F1 H rs=yI F H rs:=by
  intro rs;induction rs with
  |nil=>intro _;rfl
  |cons r l ih=>
   intro h;have e:QB F1 H r=QB F H r/\yI F1 H l=yI F H l:=by
    cases r with
    |t n=>
     simp only [vO,xt,Bool.not_eq_true',List.contains_eq_mem,decide_eq_false_iff_not] at h;exact⟨by simp only [QB,hag n h.1],ih h.2⟩
    |cell g k n=>
     simp only [vO,xt,Bool.not_eq_true',List.contains_eq_mem,decide_eq_false_iff_not] at h;exact⟨by simp only [QB,qA,Opd.ev,hag n h.1],ih h.2⟩
   simp only [yI,e.1,e.2]
 unfold xE;rw [one h]
theorem bS {rec:SC->T V->Hp->Option (EE × T V × Hp)} (htb:Vy P G tb) (htd:Wv P G td) (hrec:∀{n:Nat} {s:SC} {F F':T V} {H H':Hp} {e:EE} {Q:Exit->T V->Hp->Prop},rec s F H=some (e,F',H')->e.Q Q F' H'->zX (some none) P G n s Q F H)
 {f:FuncId} {args:List V} {H:Hp} {r:EvR} (h:Xz tb td rec f args H=some r):zi P G f args H (fun v H'=>r=.ok v H') fun H'=>r=.pn H':=by
 unfold Xz at h;split at h
 ·cases h
 ·rename_i sf hsf;split at h
  ·rename_i hlen;split at h
   ·cases h
   ·rename_i e2 F2 H4 hev2;obtain⟨hcp,_⟩:=htb f sf hsf;refine uJ (ρ:=some none) hcp hlen.1 (.inr ⟨rfl,hlen.2⟩) (hrec hev2 ?_);have fin:(match wv td (jc F2) false H4 with
     |none=>none
     |some (pan,H'')=>match pan with
      |true=>none
      |false=>match xE F2 H'' sf.res with
       |some v=>some (EvR.ok v H'')
       |none=>none)=some r->vf P G (Jx sf.res (fun v H'=>r=.ok v H') (fun H'=>r=.pn H') F2) (jc F2) false H4:=by
     intro h;split at h
     ·cases h
     ·rename_i pan H5 hd;refine X6 htd hd ?_;cases pan with
      |true=>cases h
      |false=>
       simp only at h;split at h
       ·rename_i v hv;simp only [Jx,hv];exact (zsi h).symm
       ·cases h
    cases e2 with
    |exit id=>cases h
    |normal=>exact fin h
    |ret=>exact fin h
    |pan ds=>
     simp only at h;split at h
     ·cases h
     ·rename_i hds;simp only [List.contains_eq_mem,xF] at hds;intro F1 hag;have e1:dL (some none) F1=jc F2:=by
       simp only [dL,jc,hag wU hds]
      show vf P G (Jx sf.res (fun v H'=>r=.ok v H') (fun H'=>r=.pn H') F1) (dL (some none) F1) true H4
      rw [e1];split at h
      ·cases h
      ·rename_i pan H5 hd;refine X6 htd hd ?_;cases pan with
       |true=>exact (zsi h).symm
       |false=>
        simp only at h;split at h
        ·rename_i hrf;split at h
         ·rename_i v hv;simp only [Jx,iR hag hrf,hv];exact (zsi h).symm
         ·cases h
        ·cases h
  ·cases h
theorem TB(hm:P.follows .mixedOrders=true)(htb:Vy P G tb)(htd:Wv P G td):∀(fuel:Nat) {n:Nat} {s:SC} {F F':T V} {H H':Hp} {e:EE} {Q:Exit->T V->Hp->Prop},bT tb td fuel s F H=some (e,F',H')->e.Q Q F' H'->zX (some none) P G n s Q F H:=by
 intro fuel;induction fuel using Nat.strongRecOn with
 |_ fuel ih=>
  intro n s F F' H H' e Q h hq;cases fuel with
  |zero=>cases h
  |succ fuel=>
   have h:y5 tb td (bT tb td fuel) s F H=some (e,F',H'):=h;have hrec:∀{n:Nat} {s:SC} {F F':T V} {H H':Hp} {e:EE} {Q:Exit->T V->Hp->Prop},bT tb td fuel s F H=some (e,F',H')->e.Q Q F' H'->zX (some none) P G n s Q F H:=fun h hq=>ih fuel (by omega) h hq;have hcall:∀f args H2 r,Xz tb td (bT tb td fuel) f args H2=some r->zi P G f args H2 (fun v H'=>r=.ok v H') fun H'=>r=.pn H':=fun f args H2 r hc=>bS htb htd hrec hc;have htb':∀f sf,tb f=some sf->zR P f=true:=fun f sf h=>(htb f sf h).2;cases s with
   |skip=>
    simp only [y5,zoi,zpi] at h;obtain⟨rfl,rfl,rfl⟩:=h;exact WP hq
   |ops l res st=>
    simp only [y5] at h;split at h
    ·cases h
    ·rename_i F1 H1 hev;simp only [zoi,zpi] at h;obtain⟨rfl,rfl,rfl⟩:=h;exact JR hm (zB (ctx:=[]) hcall htb' hev (fun _ _ e=>by injection e with e1 e2;subst e1 e2;exact hq) fun _ e=>by cases e)
    ·rename_i H1 hev;cases st with
     |false=>cases h
     |true=>
      simp only [zoi,zpi] at h;obtain⟨rfl,rfl,rfl⟩:=h;exact JR hm (zB (ctx:=[]) hcall htb' hev (fun _ _ e=>by cases e) fun _ e=>by injection e with e1;subst e1;exact hq)
   |df l d=>
    simp only [y5] at h;split at h
    ·cases h
    ·rename_i F1 H1 hev;split at h
     ·rename_i f caps hd;simp only [zoi,zpi] at h;obtain⟨rfl,rfl,rfl⟩:=h;exact sC (zB (ctx:=[]) hcall htb' hev (fun _ _ e=>by injection e with e1 e2;subst e1 e2;exact⟨f,caps,hd,hq⟩) fun _ e=>by cases e)
     ·cases h
    ·rename_i H1 hev;simp only [zoi,zpi] at h;obtain⟨rfl,rfl,rfl⟩:=h;exact sC (zB (ctx:=[]) hcall htb' hev (fun _ _ e=>by cases e) fun _ e=>by injection e with e1;subst e1;exact hq)
   |pn l d=>
    simp only [y5] at h;split at h
    ·cases h
    ·rename_i F1 H1 hev;split at h
     ·rename_i hd;simp only [zoi,zpi] at h;obtain⟨rfl,rfl,rfl⟩:=h;exact sB (zB (ctx:=[]) hcall htb' hev (fun _ _ e=>by injection e with e1 e2;subst e1 e2;exact⟨hd,hq⟩) fun _ e=>by cases e)
     ·cases h
    ·rename_i H1 hev;simp only [zoi,zpi] at h;obtain⟨rfl,rfl,rfl⟩:=h;exact sB (zB (ctx:=[]) hcall htb' hev (fun _ _ e=>by cases e) fun _ e=>by injection e with e1;subst e1;exact hq)
   |seq a b=>
    simp only [y5] at h;split at h
    ·cases h
    ·rename_i e1 F1 H1 h1;refine VC ?_;cases e1 with
     |normal=>exact hrec h1 (hrec (Q:=Q) h hq)
     |exit id=>
      simp only [zoi,zpi] at h;obtain⟨rfl,rfl,rfl⟩:=h;exact hrec h1 hq
     |ret=>
      simp only [zoi,zpi] at h;obtain⟨rfl,rfl,rfl⟩:=h;exact hrec h1 hq
     |pan ds=>
      simp only [zoi,zpi] at h;obtain⟨rfl,rfl,rfl⟩:=h;exact hrec h1 hq
   |cond d a b=>
    simp only [y5] at h;split at h
    ·rename_i t ht;cases t with
     |true=>exact ZY (t:=true) ht (hrec h hq)
     |false=>exact ZY (t:=false) ht (hrec h hq)
    ·cases h
   |block id a=>
    simp only [y5] at h;split at h
    ·cases h
    ·rename_i e1 F1 H1 h1;refine YW ?_;cases e1 with
     |normal=>
      simp only [zoi,zpi] at h;obtain⟨rfl,rfl,rfl⟩:=h;exact hrec h1 hq
     |ret=>
      simp only [zoi,zpi] at h;obtain⟨rfl,rfl,rfl⟩:=h;exact hrec h1 hq
     |pan ds=>
      simp only [zoi,zpi] at h;obtain⟨rfl,rfl,rfl⟩:=h;exact hrec h1 hq
     |exit id'=>
      simp only at h;refine hrec h1 ?_;simp only [EE.Q,ZR];split at h
      ·rename_i hid;simp only [zoi,zpi] at h;obtain⟨rfl,rfl,rfl⟩:=h;rw [if_pos hid];exact hq
      ·rename_i hid;simp only [zoi,zpi] at h;obtain⟨rfl,rfl,rfl⟩:=h;rw [if_neg hid];exact hq
   |loop a=>
    refine dW (fun m F1 H1=>m<=fuel+1/\bT tb td m (.loop a) F1 H1=some (e,F',H')) (m:=fuel+1) ⟨Nat.le_refl _,h⟩ ?_;rintro m F1 H1 ⟨hle,hev⟩;cases m with
    |zero=>cases hev
    |succ m=>
     have hev:y5 tb td (bT tb td m) (.loop a) F1 H1=some (e,F',H'):=hev;simp only [y5] at hev;split at hev
     ·cases hev
     ·rename_i e1 F2 H2 h1;cases e1 with
      |normal=>exact ih m (by omega) h1 ⟨m,by omega,by omega,hev⟩
      |exit id=>
       simp only [zoi,zpi] at hev;obtain⟨rfl,rfl,rfl⟩:=hev;exact ih m (by omega) h1 hq
      |ret=>
       simp only [zoi,zpi] at hev;obtain⟨rfl,rfl,rfl⟩:=hev;exact ih m (by omega) h1 hq
      |pan ds=>
       simp only [zoi,zpi] at hev;obtain⟨rfl,rfl,rfl⟩:=hev;exact ih m (by omega) h1 hq
   |exit id=>
    simp only [y5,zoi,zpi] at h;obtain⟨rfl,rfl,rfl⟩:=h;exact dX hq
   |ret=>
    simp only [y5,zoi,zpi] at h;obtain⟨rfl,rfl,rfl⟩:=h;exact VD hq
   |rf d ps a b=>cases h
   |no=>cases h
   |scope a=>
    simp only [y5] at h;split at h
    ·cases h
    ·rename_i e1 F1 H1 h1;simp only [zoi,zpi] at h;obtain⟨rfl,rfl,rfl⟩:=h;refine aK (hrec h1 ?_);cases e1<;>exact hq
theorem TA(hm:P.follows .mixedOrders=true)(htb:Vy P G tb)(htd:Wv P G td){fuel:Nat}{f:FuncId}{args:List V}{H H':Hp}{v:V}(h:Ee tb td fuel f args H=some (.ok v H')):qK P G f args H fun v' H''=>v'=v/\H''=H':=
 zi.of ((bS htb htd (TB hm htb htd fuel) h).mono (fun _ _ e=>by injection e with e1 e2;exact⟨e1.symm,e2.symm⟩) fun _ e=>by cases e)
def vo(tb:Nat->Option SFn)(td:Nat->Option SDef)(fuel:Nat)(f:FuncId)(args:List V)(H:Hp):Option V:=match Ee tb td fuel f args H with
 |some (.ok v _)=>some v
 |_=>none
theorem C3(hm:P.follows .mixedOrders=true)(htb:Vy P G tb)(htd:Wv P G td){fuel:Nat}{f:FuncId}{args:List V}{H:Hp}{v:V}(h:vo tb td fuel f args H=some v):qK P G f args H fun v' _=>v'=v:=by
 unfold vo at h;split at h
 ·rename_i v' H' hh;obtain rfl:=zsi h;exact (TA hm htb htd hh).mono fun _ _ h=>h.1
 ·cases h
end
structure Ext (H H':Hp):Prop where
 get:∀b bk,H.get b=some bk->H'.get b=some bk
 nx:H.nx<=H'.nx
theorem Ext.refl(H:Hp):Ext H H:=⟨fun _ _ h=>h,Nat.le_refl _⟩
theorem Ext.trans{H H' H'':Hp}(h:Ext H H')(k:Ext H' H''):Ext H H'':=⟨fun b bk hb=>k.get b bk (h.get b bk hb),Nat.le_trans h.nx k.nx⟩
theorem Ext.push{H H':Hp}(hw:WF H')(h:Ext H H')(bk:B):Ext H (H'.push bk):=
 ⟨fun b k hb=>by rw [Hp.get_push,if_neg (by have:=hw b k (h.get b k hb);omega)];exact h.get b k hb,by have:=h.nx;simp;omega⟩
theorem Ext.skip{H H':Hp}(h:Ext H H')(n:Nat):Ext H (H'.skip n):=⟨h.get,by have:=h.nx;simp;omega⟩
theorem Ext.cell{H H':Hp}(h:Ext H H'){b i:Nat}{c:C}(hc:H.cell b i=some c):H'.cell b i=some c:=by
 unfold Hp.cell at hc ⊢;cases hb:H.get b with
 |none=>simp [hb] at hc
 |some bk=>rw [h.get b bk hb];simpa [hb] using hc
theorem WF.push{H:Hp}(h:WF H)(bk:B):WF (H.push bk):=fun b k hb=>by
 rw [Hp.get_push] at hb;split at hb
 ·rename_i e;simp;omega
 ·have:=h b k hb;simp;omega
theorem WF.skip{H:Hp}(h:WF H)(n:Nat):WF (H.skip n):=fun b k hb=>by have:=h b k hb;simp;omega
theorem WF.fresh{H:Hp}(h:WF H){b:Nat}(hb:H.nx<=b):H.get b=none:=by
 cases hg:H.get b with
 |none=>rfl
 |some k=>have:=h b k hg;omega
theorem QK{H:Hp}{b:Nat}:∀{m o n:Nat} {l:List C},H.loads b o n=some l->m<=n->H.loads b (o+m) (n-m)=some (l.drop m)
 |0,o,n,l,h,_=>by simpa using h
 |m+1,o,0,l,h,hm=>by omega
 |m+1,o,n+1,l,h,hm=>by
  simp only [Hp.loads] at h;split at h
  ·cases h
  ·split at h
   ·cases h
   ·rename_i c _ l' hl';obtain rfl:=zsi h;have:=QK (m:=m) hl' (by omega);rw [show o+(m+1)=o+1+m by omega,show n+1-(m+1)=n-m by omega];simpa using this
theorem jR{H:Hp}{b:Nat}:∀{m o n:Nat} {l:List C},H.loads b o n=some l->m<=n->H.loads b o m=some (l.take m)
 |0,o,n,l,h,_=>by simp [Hp.loads]
 |m+1,o,0,l,h,hm=>by omega
 |m+1,o,n+1,l,h,hm=>by
  simp only [Hp.loads] at h ⊢;split at h
  ·cases h
  ·rename_i c hc;split at h
   ·cases h
   ·rename_i l' hl';obtain rfl:=zsi h;simp [jR (m:=m) hl' (by omega)]
theorem kD{H:Hp}{b o n i k:Nat}{l:List C}(h:H.loads b o n=some l)(hk:i+k<=n):H.loads b (o+i) k=some ((l.drop i).take k):=
 jR (QK h (by omega)) (by omega)
theorem ve{H:Hp}{b o n i:Nat}{l:List C}(h:H.loads b o n=some l)(hi:i<n):H.cell b (o+i)=l[i]?:=by
 have:=kD (i:=i) (k:=1) h (by omega);simp only [Hp.loads] at this;cases hc:H.cell b (o+i) with
 |none=>simp [hc] at this
 |some c=>
  simp only [hc,zoi] at this;have hl:i<l.length:=by rw [zq h];exact hi
  have h2:(List.take 1 (List.drop i l))[0]?=some l[i]:=by rw [List.drop_eq_getElem_cons hl];simp
  rw [<-this] at h2;simp at h2;rw [zge hl,h2]
theorem Jk{H:Hp}{b:Nat}{cs:List C}{rw:Bool}(h:H.get b=some (.row cs.length cs .lf rw)):H.loads b 0 cs.length=some cs:=by
 have key:∀(m o:Nat),o+m=cs.length->H.loads b o m=some (cs.drop o):=by
  intro m;induction m with
  |zero=>intro o ho;simp only [Hp.loads];rw [List.drop_of_length_le (by omega)]
  |succ m ih=>
   intro o ho;have hlt:o<cs.length:=by omega
   have hc:H.cell b o=some cs[o]:=by
    simp only [Hp.cell,h,Option.bind_some,B.cell,hlt,if_true,T.get_lf,Option.getD_none,Nat.mod_eq_of_lt hlt];simp [List.getD_eq_getElem?_getD,hlt]
   simp only [Hp.loads,hc,ih (o+1) (by omega)];rw [List.drop_eq_getElem_cons hlt]
 simpa using key cs.length 0 (by omega)
abbrev Pt:=Int × Int
def vI(p:Pt):List C:=[.int .i64 p.1,.int .i64 p.2]
def z6(l:List Pt):List C:=l.flatMap vI
def aT(p:Pt):V:=.agg (vI p)
theorem zk:∀l:List Pt,(z6 l).length=l.length*2
 |[]=>rfl
 |p::l=>by simp only [z6,List.flatMap_cons,List.length_append,List.length_cons];rw [show (l.flatMap vI)=z6 l from rfl,zk l];simp [vI];omega
theorem J1:∀{l:List Pt} {i:Nat} {p:Pt},l[i]?=some p->((z6 l).drop (i*2)).take 2=vI p
 |[],i,p,h=>by simp at h
 |q::l,0,p,h=>by simp at h;subst h;simp [z6,vI]
 |q::l,i+1,p,h=>by
  have:=J1 (l:=l) (i:=i) (p:=p) (by simpa using h);simp only [z6,List.flatMap_cons];rw [show (i+1)*2=(vI q).length+i*2 by simp [vI];omega,List.drop_append,List.drop_of_length_le (by simp [vI]),List.nil_append];rw [show (vI q).length+i*2-(vI q).length=i*2 by omega];exact this
@[simp] theorem Hp.loads_skip (H:Hp) (k:Nat):∀(n b o:Nat),(H.skip k).loads b o n=H.loads b o n
 |0,_,_=>rfl
 |n+1,b,o=>by
  simp only [Hp.loads];rw [Hp.loads_skip H k n b (o+1)];rfl
@[simp] theorem Hp.cell_skip (H:Hp) (k b i:Nat):(H.skip k).cell b i=H.cell b i:=rfl
def zM(H:Hp)(b:Nat)(l:List C):Prop:=(∃z m,H.get b=some (.row l.length z m true))/\H.loads b 0 l.length=some l
theorem Zk{H H':Hp}{b:Nat}(h:H'.get b=H.get b):∀(n o:Nat),H'.loads b o n=H.loads b o n
 |0,_=>rfl
 |n+1,o=>by
  have hc:H'.cell b o=H.cell b o:=by unfold Hp.cell;rw [h]
  simp only [Hp.loads,hc,Zk h n (o+1)]
theorem zM.same{H H':Hp}{b:Nat}{l:List C}(h:zM H b l)(hg:H'.get b=H.get b):zM H' b l:=⟨by rw [hg];exact h.1,by rw [Zk hg];exact h.2⟩
theorem zM.mut{H:Hp}{b:Nat}{l:List C}(h:zM H b l):H.mutRow b=true:=by obtain⟨⟨z,m,hg⟩,_⟩:=h;simp [Hp.mutRow,hg]
theorem zM.new{H:Hp}(l:List C):zM (H.push (.row l.length l .lf true)) H.nx l:=
 ⟨⟨l,.lf,by rw [Hp.get_push,if_pos rfl]⟩,Jk (rw:=true) (by rw [Hp.get_push,if_pos rfl])⟩
theorem bD{H:Hp}{b:Nat}{N:Nat}{z:List C}{m:T C}{i:Nat}{c:C}(hg:H.get b=some (.row N z m true))(hi:i<N):∀{n o:Nat} {l:List C},H.loads b o n=some l->
 (H.add b (.row N z (m.set i (some c)) true)).loads b o n=some (if o<=i then l.set (i-o) c else l)
 |0,o,l,h=>by
  simp only [Hp.loads,zoi] at h ⊢;subst h;simp
 |n+1,o,l,h=>by
  simp only [Hp.loads] at h ⊢;split at h
  ·cases h
  ·rename_i c0 hc0;split at h
   ·cases h
   ·rename_i l' hl';obtain rfl:=zsi h;have hcell:(H.add b (.row N z (m.set i (some c)) true)).cell b o=some (if o=i then c else c0):=by
     simp only [Hp.cell,Hp.get_add_self,Option.bind_some,lM hi];split
     ·rfl
     ·simpa [Hp.cell,hg] using hc0
    rw [hcell];simp only;rw [bD hg hi hl'];by_cases e1:o=i
    ·subst e1;rw [if_neg (by omega)];simp
    ·by_cases e2:o<=i
     ·rw [if_pos (by omega),if_neg e1,if_pos e2,show i-o=(i-(o+1))+1 by omega];simp
     ·rw [if_neg (by omega),if_neg e1,if_neg e2]
theorem zM.store{H:Hp}{b:Nat}{l:List C}(h:zM H b l){i:Nat}(hi:i<l.length)(c:C):
 ∃H',H.store b i c=some H'/\zM H' b (l.set i c)/\(∀b',b'≠b->H'.get b'=H.get b')/\H'.nx=H.nx:=by
 obtain⟨⟨z,m,hg⟩,hl⟩:=h;refine⟨_,by simp only [Hp.store,hg,hi,if_true];rfl,⟨⟨z,m.set i (some c),by simp⟩,?_⟩,fun b' hb'=>Hp.get_add_ne _ _ hb',rfl⟩;rw [List.length_set,bD hg hi hl];simp
def wn(l:List C)(i:Nat):List C->List C
 |[]=>l
 |c::cs=>wn (l.set i c) (i+1) cs
theorem Q9:∀(cs l:List C) (i:Nat),(wn l i cs).length=l.length
 |[],_,_=>rfl
 |c::cs,l,i=>by rw [wn,Q9];simp
theorem zM.stores:∀{cs:List C} {H:Hp} {b:Nat} {l:List C},zM H b l->∀{i:Nat},i+cs.length<=l.length->
 ∃H',H.stores b i cs=some H'/\zM H' b (wn l i cs)/\(∀b',b'≠b->H'.get b'=H.get b')/\H'.nx=H.nx
 |[],H,b,l,h,i,_=>⟨H,rfl,h,fun _ _=>rfl,rfl⟩
 |c::cs,H,b,l,h,i,hi=>by
  simp only [List.length_cons] at hi;obtain⟨H1,h1,h2,h3,h4⟩:=h.store (i:=i) (by omega) c;obtain⟨H2,g1,g2,g3,g4⟩:=zM.stores (cs:=cs) h2 (i:=i+1) (by simp;omega);exact⟨H2,by simp only [Hp.stores,h1,g1],g2,fun b' hb'=>(g3 b' hb').trans (h3 b' hb'),by rw [g4,h4]⟩
namespace T
variable{α β:Type}
def bindT(f:α->Option β):T α->T β
 |lf=>lf
 |nd v l r=>nd (v.bind f) (bindT f l) (bindT f r)
theorem get_bindT(f:α->Option β):∀(t:T α) (n:Nat),(t.bindT f).get n=(t.get n).bind f
 |lf,_=>rfl
 |nd v l r,n=>by
  simp only [bindT,Qs];split
  ·rfl
  ·split
   ·exact get_bindT f l _
   ·exact get_bindT f r _
def over:T α->T α->T α
 |lf,t=>t
 |nd v l r,lf=>nd v l r
 |nd v l r,nd v' l' r'=>nd (v.or v') (over l l') (over r r')
theorem get_over:∀(t t':T α) (n:Nat),(t.over t').get n=(t.get n).or (t'.get n)
 |lf,_,_=>by simp [over]
 |nd v l r,lf,n=>by simp [over]
 |nd v l r,nd v' l' r',n=>by
  simp only [over,Qs];split
  ·rfl
  ·split
   ·exact get_over l l' _
   ·exact get_over r r' _
end T
def B.ro:B->Option B
 |.row n z m _=>some (.row n z m false)
 |.mp _=>none
 |.lp ..=>none
 |.st ..=>none
 |.it ..=>none
 |.tr _ l=>some (.row l.length l .lf false)
theorem B.row_cell(l:List C)(i:Nat):(B.row l.length l .lf false).cell i=l[i]?:=by
 simp only [B.cell,T.get_lf,Option.getD_none];split
 ·rename_i h;rw [Nat.mod_eq_of_lt h,zge h,List.getD_eq_getElem?_getD,zge h];rfl
 ·rename_i h;exact (List.getElem?_eq_none (by omega)).symm
def Hp.ro(H:Hp):Hp:=⟨H.m.bindT B.ro,H.nx⟩
theorem Hp.get_ro(H:Hp)(b:Nat):H.ro.get b=(H.get b).bind B.ro:=T.get_bindT _ _ _
@[simp] theorem Hp.nx_ro (H:Hp):H.ro.nx=H.nx:=rfl
theorem B.ro_mut{x y:B}(h:x.ro=some y):y.mut=false:=by
 cases x with
 |row n z m rw=>simp only [B.ro,zoi] at h;subst h;rfl
 |tr t l=>simp only [B.ro,zoi] at h;subst h;rfl
 |mp es=>cases h
 |lp=>cases h
 |st=>cases h
 |it=>cases h
theorem B.ro_cell{x y:B}(h:x.ro=some y)(i:Nat):y.cell i=x.cell i:=by
 cases x with
 |row n z m rw=>simp only [B.ro,zoi] at h;subst h;rfl
 |tr t l=>simp only [B.ro,zoi] at h;subst h;exact B.row_cell l i
 |mp es=>cases h
 |lp=>cases h
 |st=>cases h
 |it=>cases h
theorem Hp.cell_ro(H:Hp)(b i:Nat):H.ro.cell b i=H.cell b i:=by
 unfold Hp.cell;rw [Hp.get_ro];cases h:H.get b with
 |none=>rfl
 |some x=>
  cases x with
  |row n z m rw=>rfl
  |tr t l=>exact B.row_cell l i
  |mp es=>rfl
  |lp=>rfl
  |st=>rfl
  |it=>rfl
theorem Hp.ro_mut{H:Hp}{b:Nat}{bk:B}(h:H.ro.get b=some bk):bk.mut=false:=by
 rw [Hp.get_ro,Option.bind_eq_some_iff] at h;obtain⟨x,_,hx⟩:=h;exact B.ro_mut hx
def Le(H H':Hp):Prop:=∀b i c,H.cell b i=some c->H'.cell b i=some c
theorem Ext.le{H H':Hp}(h:Ext H H'):Le H H':=fun _ _ _ hc=>h.cell hc
theorem Le.ro(H:Hp):Le H H.ro:=fun b i c h=>by rw [Hp.cell_ro];exact h
theorem Le.loads{H H':Hp}(h:Le H H'):∀{n b o:Nat} {l:List C},H.loads b o n=some l->H'.loads b o n=some l
 |0,_,_,_,hl=>hl
 |n+1,b,o,l,hl=>by
  simp only [Hp.loads] at hl ⊢;cases hc:H.cell b o with
  |none=>simp [hc] at hl
  |some c=>
   simp only [hc] at hl;simp only [h _ _ _ hc];cases hr:H.loads b (o+1) n with
   |none=>simp [hr] at hl
   |some r=>simp only [hr] at hl;simp only [h.loads hr];exact hl
def C.closed:C->Bool
 |.bool _=>true
 |.int _ _=>true
 |.str _=>true
 |.nilp=>true
 |.nils=>true
 |.nilm=>true
 |.nilf=>true
 |.fn _ caps=>caps.isEmpty
 |.ifa=>true
 |.nili=>true
 |.anyi=>true
 |_=>false
def V.closed1:V->Bool
 |.one c=>c.closed
 |.agg l=>l.all C.closed
 |.tup _=>false
def V.closed:V->Bool
 |.one c=>c.closed
 |.agg l=>l.all C.closed
 |.tup l=>l.all V.closed1
section
variable{μ μ':Nat->Pl}{K K':Nat->Prop}
theorem RC.closed{c:C}{x:Value}(hc:c.closed=true)(h:RC μ K c x):RC μ' K' c x:=by
 cases c with
 |ptr b o=>cases hc
 |slc b o len cap esz ex=>cases hc
 |map b=>cases hc
 |yld b=>cases hc
 |bm f b o=>cases hc
 |fn f caps=>
  simp only [C.closed,List.isEmpty_iff] at hc;subst hc;exact⟨fun p hp=>(by cases hp),h.2⟩
 |_=>exact h
theorem RCs.closed:∀{l:List C} {xs:List Value},l.all C.closed=true->qe (RC μ K) l xs->qe (RC μ' K') l xs
 |[],[],_,_=>trivial
 |_::_,_::_,hc,hh=>by
  simp only [List.all_cons,xt] at hc;exact⟨RC.closed hc.1 hh.1,RCs.closed hc.2 hh.2⟩
 |[],_::_,_,hh=>hh.elim
 |_::_,[],_,hh=>hh.elim
theorem x8.closed{v:V}{x:Value}(hc:v.closed1=true)(h:x8 μ K v x):x8 μ' K' v x:=by
 cases v with
 |one c=>exact RC.closed hc h
 |agg l=>obtain⟨xs,hx,ha⟩:=h;exact⟨xs,hx,RCs.closed hc ha⟩
 |tup l=>exact h.elim
theorem RV1s.closed:∀{l:List V} {xs:List Value},l.all V.closed1=true->qe (x8 μ K) l xs->qe (x8 μ' K') l xs
 |[],[],_,_=>trivial
 |_::_,_::_,hc,hh=>by
  simp only [List.all_cons,xt] at hc;exact⟨x8.closed hc.1 hh.1,RV1s.closed hc.2 hh.2⟩
 |[],_::_,_,hh=>hh.elim
 |_::_,[],_,hh=>hh.elim
theorem RV.closed{v:V}{x:Value}(hc:v.closed=true)(h:RV μ K v x):RV μ' K' v x:=by
 cases v with
 |one c=>exact RC.closed hc h
 |agg l=>obtain⟨xs,hx,ha⟩:=h;exact⟨xs,hx,RCs.closed hc ha⟩
 |tup l=>obtain⟨xs,hx,ha⟩:=h;exact⟨xs,hx,RV1s.closed hc ha⟩
theorem RVs.closed:∀{l:List V} {xs:List Value},l.all V.closed=true->qe (RV μ K) l xs->qe (RV μ' K') l xs
 |[],[],_,_=>trivial
 |_::_,_::_,hc,hh=>by
  simp only [List.all_cons,xt] at hc;exact⟨RV.closed hc.1 hh.1,RVs.closed hc.2 hh.2⟩
 |[],_::_,_,hh=>hh.elim
 |_::_,[],_,hh=>hh.elim
end
section
variable{P:Program}{G:Nat}
theorem Rel.toRo{μ:Nat->Pl}{K:Nat->Prop}{H:Hp}{w:World}(hR:Rel G μ K H w):Rel G μ K H.ro w:=by
 refine⟨fun b bk h=>?_,hR.lt,fun b bk h=>?_,fun b b' bk bk' h _ hm=>?_,hR.glob⟩
 ·rw [Hp.get_ro,Option.bind_eq_some_iff] at h;obtain⟨x,hx,_⟩:=h;exact hR.dom b x hx
 ·rw [Hp.get_ro,Option.bind_eq_some_iff] at h;obtain⟨x,hx,h⟩:=h;have hb:=hR.blk b x hx;cases x with
  |mp es=>cases h
  |lp=>cases h
  |st=>cases h
  |it=>cases h
  |row n z m rw=>
   simp only [B.ro,zoi] at h;subst h;obtain⟨cs,t,fz,h1,h2,h3,h4,h5⟩:=hb;exact⟨cs,t,fz,h1,h2,h3,fun h=>(by cases h),fun i c hc=>h5 i c hc⟩
  |tr t l=>
   simp only [B.ro,zoi] at h;subst h;obtain⟨cs,u,h1,h2,h3,h4,h5⟩:=hb;exact⟨cs,t,(0,0),h1,h2,by omega,fun h=>(by cases h),fun i c hc=>by
    rw [B.row_cell] at hc;obtain⟨x,hx,hr⟩:=h5 i c hc;exact⟨x,by rw [h3,Nat.zero_add];exact hx,hr⟩⟩
 ·rw [Hp.ro_mut h] at hm;cases hm
theorem qK.sub {f:FuncId} {args:List V} {H1 H:Hp} {R:V->Hp->Prop} (h:qK P G f args H1 R) (hargs:args.all V.closed=true) (hG:G<=H1.nx) (hw:WF H1)
 (hsub:∀b bk,H1.get b=some bk->H.get b=some bk/\bk.mut=false/\∀i c,bk.cell i=some c->c.closed=true) (hc:∀v H',R v H'->v.closed=true):
 qK P G f args H fun v H'=>(∃H1,R v H1)/\H'=H:=by
 intro μ K w xs hR ha;have hR1:Rel G μ (fun b=>b<H1.nx/\K b) H1 w:=by
  refine⟨fun b bk hb=>⟨hw b bk hb,hR.dom b bk (hsub b bk hb).1⟩,fun b hb=>hb.1,fun b bk hb=>?_,fun b b' bk bk' hb _ hm=>?_,fun g hg=>⟨⟨Nat.lt_of_lt_of_le hg hG,(hR.glob g hg).1⟩,(hR.glob g hg).2⟩⟩
  ·obtain⟨g1,g2,g3⟩:=hsub b bk hb;have hb':=hR.blk b bk g1;cases bk with
   |mp es=>cases g2
   |lp=>cases g2
   |st=>cases g2
   |it=>cases g2
   |tr=>cases g2
   |row n z m rw=>
    obtain⟨cs,t,fz,e1,e2,e3,e4,e5⟩:=hb';exact⟨cs,t,fz,e1,e2,e3,e4,fun i c hcc=>by
     obtain⟨x,hx,hr⟩:=e5 i c hcc;exact⟨x,hx,hr.closed (g3 i c hcc)⟩⟩
  ·rw [(hsub b bk hb).2.1] at hm;cases hm
 refine (h μ _ w xs hR1 (RVs.closed hargs ha)).mono ?_;rintro e w' ⟨x,rfl,v,H',μ',K',h1,h2,h3,h4⟩;have hkeep:∀i,i<w.heap.size->w'.heap[i]?=w.heap[i]?:=fun i hi=>h4.keep i hi fun b bk hb hm=>by rw [(hsub b bk hb).2.1] at hm;cases hm
 refine⟨x,rfl,v,H,μ,K,⟨⟨H',h1⟩,rfl⟩,h2.closed (hc v H' h1),⟨hR.dom,hR.lt,fun b bk hb=>?_,hR.inj,hR.glob⟩,?_⟩
 ·rw [hkeep _ (hR.blk_lt hb)];exact hR.blk b bk hb
 ·have r:=Fr.refl hR;exact⟨h4.same,h4.size,fun i hi _=>hkeep i hi,r.img,r.newmut,r.mu,r.kk,r.knew,r.nx,r.none,r.stay,r.ro⟩
def Hp.over(H H1:Hp):Hp:=⟨H.m.over H1.m,H1.nx⟩
theorem Hp.get_over(H H1:Hp)(b:Nat):(H.over H1).get b=(H.get b).or (H1.get b):=T.get_over _ _ _
theorem qK.grow{f:FuncId}{args:List V}{H:Hp}{R:V->Hp->Prop}(h:qK P G f args H.ro R):
 qK P G f args H fun v H'=>∃H1,R v H1/\H'=H.over H1/\H.nx<=H1.nx/\(∀b bk,H.get b=some bk->H'.get b=some bk)/\(∀b,H.nx<=b->H'.get b=H1.get b)/\Le H1 H':=by
 intro μ K w xs hR ha;refine (h μ K w xs hR.toRo ha).mono ?_;rintro e w' ⟨x,rfl,v,H1,μ',K',h1,h2,h3,h4⟩;have hkeep:∀i,i<w.heap.size->w'.heap[i]?=w.heap[i]?:=fun i hi=>h4.keep i hi fun b bk hb hm=>by rw [Hp.ro_mut hb] at hm;cases hm
 have hold:∀b bk,H.get b=some bk->(H.over H1).get b=some bk:=fun b bk hb=>by rw [Hp.get_over,hb];rfl
 have hno:∀b,H.nx<=b->H.get b=none:=fun b hb=>by
  cases hg:H.get b with
  |none=>rfl
  |some k=>have:=hR.lt' b k hg;omega
 have hnew:∀b,H.nx<=b->(H.over H1).get b=H1.get b:=fun b hb=>by rw [Hp.get_over,hno b hb];rfl
 have hcase:∀b bk,(H.over H1).get b=some bk->H.get b=some bk\/(H.get b=none/\H1.get b=some bk/\H.nx<=b/\(bk.mut=true\/(K' b/\w.heap.size<=(μ' b).blk))/\w.heap.size<=(μ' b).blk):=by
  intro b bk hb;rw [Hp.get_over] at hb;cases hg:H.get b with
  |some k=>rw [hg] at hb;exact .inl hb
  |none=>
   rw [hg] at hb;have hb:H1.get b=some bk:=hb;by_cases hlt:b<H.nx
   ·have:=h4.none b hlt (by rw [Hp.get_ro,hg];rfl);rw [this] at hb;cases hb
   ·have hm:=h4.newmut b bk (by simpa using hlt) hb;refine .inr ⟨rfl,hb,by omega,hm,?_⟩;rcases hm with hm|⟨_,hge⟩
    ·rcases h4.img b bk hb hm with⟨b0,k0,g0,m0,_⟩|hge
     ·rw [Hp.ro_mut g0] at m0;cases m0
     ·exact hge
    ·exact hge
 have hmu:∀b bk,H.get b=some bk->μ' b=μ b:=fun b bk hb=>h4.mu b (hR.dom b bk hb);refine⟨x,rfl,v,H.over H1,μ',K',⟨H1,h1,rfl,h4.nx,hold,hnew,fun b i c hc=>?_⟩,h2,⟨fun b bk hb=>?_,h3.lt,fun b bk hb=>?_,fun b b' bk bk' hb hb' hm he=>?_,h3.glob⟩,?_⟩
 ·unfold Hp.cell at hc ⊢;rw [Hp.get_over];cases hg:H.get b with
  |none=>exact hc
  |some k=>
   simp only [Option.some_or,Option.bind_some];cases hk:k.ro with
   |none=>
    have hrn:H.ro.get b=none:=by rw [Hp.get_ro,hg];exact hk
    rw [h4.none b (hR.lt' b k hg) hrn] at hc;cases hc
   |some k'=>
    have hrn:H.ro.get b=some k':=by rw [Hp.get_ro,hg];exact hk
    rw [h4.ro b k' hrn (B.ro_mut hk)] at hc;simpa [B.ro_cell hk] using hc
 ·rcases hcase b bk hb with ho|⟨_,hn,_⟩
  ·exact h4.kk b (hR.dom b bk ho)
  ·exact h3.dom b bk hn
 ·rcases hcase b bk hb with ho|⟨_,hn,_⟩
  ·rw [hmu b bk ho,hkeep _ (hR.blk_lt ho)];exact (hR.blk b bk ho).mono h4.kk h4.mu
  ·exact h3.blk b bk hn
 ·rcases hcase b bk hb with ho|⟨_,hn,hge,hm1,hsz⟩
  ·rcases hcase b' bk' hb' with ho'|⟨_,hn',_,_,hsz'⟩
   ·rw [hmu b bk ho,hmu b' bk' ho'] at he;exact hR.inj b b' bk bk' ho ho' hm he
   ·rw [hmu b bk ho] at he;have:=hR.blk_lt ho;omega
  ·rcases hcase b' bk' hb' with ho'|⟨_,hn',_⟩
   ·rw [hmu b' bk' ho'] at he;have:=hR.blk_lt ho';omega
   ·exact h3.inj b b' bk bk' hn hn' hm he
 ·refine⟨h4.same,h4.size,fun i hi _=>hkeep i hi,fun b bk hb hm=>?_,fun b bk hb hg=>?_,h4.mu,h4.kk,h4.knew,h4.nx,fun b hb hn=>?_,fun b bk bk' hb hb'=>?_,fun b bk hb _=>hold b bk hb⟩
  ·rcases hcase b bk hb with ho|⟨_,_,_,_,hsz⟩
   ·exact .inl ⟨b,bk,ho,hm,by rw [hmu b bk ho]⟩
   ·exact .inr hsz
  ·rcases hcase b bk hg with ho|⟨_,_,_,hm,_⟩
   ·have:=hR.lt' b bk ho;omega
   ·exact hm
  ·cases hg:(H.over H1).get b with
   |none=>rfl
   |some k=>
    rcases hcase b k hg with ho|⟨_,_,hge,_⟩
    ·rw [hn] at ho;cases ho
    ·omega
  ·rw [hold b bk hb] at hb';rw [zsi hb']
end
end Go.Ab

namespace Go.Ab
abbrev zN:=List (Nat × V)
def kC:zN->Nat->Option V
 |[],_=>none
 |(k,v)::E,n=>match Nat.beq k n with
  |true=>some v
  |false=>kC E n
def ZU(E:zN)(F:T V):Prop:=∀n v,kC E n=some v->F.get n=some v
theorem bB(k:Nat)(v:V)(E:zN)(n:Nat):kC ((k,v)::E) n=if k=n then some v else kC E n:=by
 simp only [kC];by_cases h:k=n
 ·subst h;simp
 ·rw [if_neg h];have:Nat.beq k n=false:=by cases hb:Nat.beq k n with
   |true=>exact absurd (Nat.eq_of_beq_eq_true hb) h
   |false=>rfl
  rw [this]
def jN(E:zN):Option Nat->V->zN
 |some d,v=>(d,v)::E
 |none,_=>E
theorem ZU.set{E:zN}{F:T V}(h:ZU E F)(d:Option Nat)(v:V):ZU (jN E d v) (qP F d v):=by
 cases d with
 |none=>exact h
 |some d=>
  intro n x hx;simp only [jN,bB] at hx;simp only [qP,T.get_set];split at hx
  ·rename_i e;subst e;rw [if_pos rfl];exact hx
  ·rename_i e;rw [if_neg (fun h=>e h.symm)];exact h n x hx
end Go.Ab
