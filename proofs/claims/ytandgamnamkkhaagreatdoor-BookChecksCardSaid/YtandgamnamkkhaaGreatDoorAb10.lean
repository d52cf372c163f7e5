/- -/
import Derived.Test.YtandgamnamkkhaaGreatDoorAb9
import Derived.RangeFuncSeq
import Derived.RangeFuncCalls
import Derived.RangeFuncLeaves
import Derived.RangeFuncIn
import Derived.LoopIn
import Derived.RangeFuncRecord
import Derived.OrdersIn
set_option linter.unusedSimpArgs false
set_option linter.unusedVariables false
set_option maxRecDepth 8000
namespace Go.Ab
inductive SOp where
 |p (o:PureOp)
 |l (o:LoadOp)
 |a (o:AllocOp)
 |e (o:EffOp)
 |cf (f:FuncId) (args:List Opd)
 |cv (x:Opd) (args:List Opd)
 /-- an iteration over a map steps -/
 |nx (x:Opd)
 /-- not covered:no run comes here -/
 |no
def SOp.isC:SOp->Bool
 |.cf _ _=>true
 |.cv _ _=>true
 |_=>false
structure SOper where
 id:Nat
 dst:Option Nat
 op:SOp
 guard:Option (Nat × Bool)
 aid:Option Nat
 watch:List Nat
 keep:Bool
def qP(F:T V)(d:Option Nat)(v:V):T V:=
 match d with
 |some d=>F.set d (some v)
 |none=>F
def qs(g:Option (Nat × Bool))(F:T V):Bool:=
 match g with
 |none=>true
 |some (t,want)=>match (F.get t).getD V.undef with
  |.one (.bool b)=>b==want
  |_=>false
def zR(P:Program)(f:FuncId):Bool:=
 match P.funcs[f]? with
 |some fn=>fn.name !="runtime.NumGoroutine"&&fn.body.isSome
 |none=>false
def vQ(p:Nat × Nat):V:=.one (.ptr p.1 p.2)
def qK(P:Program)(G:Nat)(f:FuncId)(args:List V)(H:Hp)(R:V->Hp->Prop):Prop:=
 ∀(μ:Nat->Pl) (K:Nat->Prop) (w:World) (xs:List Value),Rel G μ K H w->qe (RV μ K) args xs->
  Calls P f xs.toArray w fun e w'=>∃x,e=.returned x/\∃v H' μ' K',R v H'/\RV μ' K' v x/\Rel G μ' K' H' w'/\Fr μ K H w μ' K' H' w'
def VH(ch:List PanicEntry):Prop:=∃t v,ch=[{ v:=.iface t v,recovered:=false }]
def Zs(G:Nat)(μ:Nat->Pl)(K:Nat->Prop)(H:Hp)(w:World)(R:V->Hp->Prop)(S:Hp->Prop)(e:Ending)(w':World):Prop:=
 (∃x,e=.returned x/\∃v H' μ' K',R v H'/\RV μ' K' v x/\Rel G μ' K' H' w'/\Fr μ K H w μ' K' H' w')\/
 (∃ch,e=.panicked ch/\VH ch/\∃H' μ' K',S H'/\Rel G μ' K' H' w'/\Fr μ K H w μ' K' H' w')
def zi(P:Program)(G:Nat)(f:FuncId)(args:List V)(H:Hp)(R:V->Hp->Prop)(S:Hp->Prop):Prop:=
 ∀(μ:Nat->Pl) (K:Nat->Prop) (w:World) (xs:List Value),Rel G μ K H w->qe (RV μ K) args xs->Calls P f xs.toArray w (Zs G μ K H w R S)
theorem qK.toP{P:Program}{G:Nat}{f:FuncId}{args:List V}{H:Hp}{R:V->Hp->Prop}{S:Hp->Prop}(h:qK P G f args H R):zi P G f args H R S:=
 fun μ K w xs hR ha=>(h μ K w xs hR ha).mono fun _ _ he=>.inl he
theorem zi.of{P:Program}{G:Nat}{f:FuncId}{args:List V}{H:Hp}{R:V->Hp->Prop}(h:zi P G f args H R fun _=>False):qK P G f args H R:=
 fun μ K w xs hR ha=>(h μ K w xs hR ha).mono fun _ _ he=>he.elim id fun⟨_,_,_,_,_,_,hf,_⟩=>hf.elim
theorem zi.mono{P:Program}{G:Nat}{f:FuncId}{args:List V}{H:Hp}{R R':V->Hp->Prop}{S S':Hp->Prop}(h:zi P G f args H R S)(hr:∀v H',R v H'->R' v H')(hs:∀H',S H'->S' H'):zi P G f args H R' S':=
 fun μ K w xs hR ha=>(h μ K w xs hR ha).mono fun _ _ he=>he.imp (fun⟨x,h1,v,H',μ',K',h2,h3⟩=>⟨x,h1,v,H',μ',K',hr _ _ h2,h3⟩) fun⟨ch,h1,h2,H',μ',K',h3,h4⟩=>⟨ch,h1,h2,H',μ',K',hs _ h3,h4⟩
def kj(P:Program)(G:Nat)(b:Nat)(args:List V)(H:Hp)(R:V->Hp->Prop):Prop:=
 ∀(μ:Nat->Pl) (K:Nat->Prop) (w:World) (xs:List Value),Rel G μ K H w->K b->qe (RV μ K) args xs->
  YieldAt Fence.wide 0 P (μ b).blk xs.toArray w fun e w'=>∃x,e=.returned x/\∃v H' μ' K',R v H'/\RV μ' K' v x/\Rel G μ' K' H' w'/\Fr μ K H w μ' K' H' w'
def Ze(P:Program)(G:Nat)(b:Nat)(H:Hp)(R:V->Hp->Prop):Prop:=
 ∀(μ:Nat->Pl) (K:Nat->Prop) (w:World),Rel G μ K H w->K b->∀ty:TypeId,∃y w',(Instr.next (.pointer (some ((μ b).addr 0))) false ty).run P w=.ok y w'/\∃v H' μ' K',R v H'/\RV μ' K' v y/\Rel G μ' K' H' w'/\Fr μ K H w μ' K' H' w'
def kO:Option (Option Nat)->Fence
 |none=>Fence.wide
 |some none=>Fence.wide
 |some (some l)=>Fence.wide.inRound l
theorem Xy{ρ:Option (Option Nat)}{f:FuncId}:(kO ρ).fn f:=by
 match ρ with
 |none=>trivial
 |some none=>trivial
 |some (some l)=>trivial
theorem Jy{ρ:Option (Option Nat)}:(kO ρ).depth=none:=by
 match ρ with
 |none=>rfl
 |some none=>rfl
 |some (some l)=>rfl
theorem v7{ρ:Option (Option Nat)}{k:Nat}:(kO ρ).room k:=fun d hd=>by rw [Jy] at hd;cases hd
theorem uK{ρ:Option (Option Nat)}{n:Nat}{P:Program}{f:FuncId}{args:Array Value}{w:World}{R:Ending->World->Prop}(h:Calls P f args w R):CallsIn (kO ρ) n P f args w R:=by
 match ρ with
 |none=>exact callsIn_wide.2 h
 |some none=>exact callsIn_wide.2 h
 |some (some l)=>exact CallsIn.inRound l (callsIn_wide.2 h)
theorem pM{ρ:Option (Option Nat)}{n:Nat}{P:Program}{l:Nat}{f:FuncId}{tmps:Array Value}{assign body:Code}{w:World}{R:Ending->World->Prop}(h:RoundIn Fence.wide 0 P l f tmps assign body w R):RoundIn (kO ρ) n P l f tmps assign body w R:=by
 match ρ with
 |none=>exact⟨trivial,fun c cs _=>h.2 c cs (room_wide _)⟩
 |some none=>exact⟨trivial,fun c cs _=>h.2 c cs (room_wide _)⟩
 |some (some k)=>exact⟨trivial,fun c cs _=>h.2 c cs (room_wide _)⟩
abbrev za:=List (Nat × (Hp->Prop))
def xY(ws:List Nat)(ctx:za)(H:Hp):Prop:=
 match ws with
 |[]=>True
 |_=>∀k∈ws,∀p,(k,p)∈ctx->p H
def qv(P:Program)(G base:Nat)(QP:Hp->Prop)(Q:T V->Hp->Prop):List SOper->za->T V->Hp->Prop
 |[],_,F,H=>Q F H
 |o::r,ctx,F,H=>
  if qs o.guard F then
   match o.op with
   |.p op=>match qn F op with
    |some v=>qv P G base QP Q r ctx (qP F o.dst v) H
    |none=>False
   |.l op=>match qA F H op with
    |some v=>qv P G base QP Q r (if o.keep then (o.id,fun H'=>qA F H' op=some v)::ctx else ctx) (qP F o.dst v) H
    |none=>False
   |.a op=>match xw F op with
    |some (bk,g)=>match o.aid with
     |none=>qv P G base QP Q r ctx (qP F o.dst (g H.nx)) (H.push bk)
     |some k=>qv P G base QP Q r ctx (qP F o.dst (g (base+k))) (H.add (base+k) bk)
    |none=>False
   |.e op=>match qM F H op with
    |some (v,H')=>xY o.watch ctx H'/\qv P G base QP Q r ctx (qP F o.dst v) H'
    |none=>False
   |.cf f args=>zi P G f (args.map (·.ev F)) H (fun v H'=>xY o.watch ctx H'/\qv P G base QP Q r ctx (qP F o.dst v) H') QP
   |.cv x args=>match x.ev F with
    |.one (.fn f caps)=>zR P f=true/\zi P G f (args.map (·.ev F)++caps.map vQ) H (fun v H'=>xY o.watch ctx H'/\qv P G base QP Q r ctx (qP F o.dst v) H') QP
    |.one (.bm f b off)=>zR P f=true/\zi P G f (.one (.ptr b off)::args.map (·.ev F)) H (fun v H'=>xY o.watch ctx H'/\qv P G base QP Q r ctx (qP F o.dst v) H') QP
    |.one (.yld b)=>kj P G b (args.map (·.ev F)) H fun v H'=>xY o.watch ctx H'/\qv P G base QP Q r ctx (qP F o.dst v) H'
    |_=>False
   |.nx x=>match x.ev F with
    |.one (.ptr b 0)=>Ze P G b H fun v H'=>xY o.watch ctx H'/\qv P G base QP Q r ctx (qP F o.dst v) H'
    |_=>False
   |.no=>False
  else qv P G base QP Q r ctx (qP F o.dst V.undef) H
def Vq(P:Program)(G n:Nat)(o:Oper):Option SOp:=
 match ZN P G n o with
 |some p=>some (.p p)
 |none=>match JG P G n o with
  |some p=>some (.l p)
  |none=>match ZO P G n o with
   |some p=>some (.a p)
   |none=>match Vt P G n o with
    |some p=>some (.e p)
    |none=>match o.op with
     |.call { callee:=.value (.func f),args:=args,argTypes:=_ }=>if zR P f then (YQ G n args.toList).map (.cf f) else none
     |.call { callee:=.value (.tmp t),args:=args,argTypes:=_ }=>match cO G n (.tmp t),YQ G n args.toList with
      |some x,some l=>some (.cv x l)
      |_,_=>none
     |.next it false=>(cO G n it).map .nx
     |_=>none
def p7(P:Program)(G n:Nat)(o:Oper):Option SOp:=match Vq P G n o with
 |some op=>some op
 |none=>some .no
def JL(n:Nat)(ops:Array Oper):Option (Nat × Bool)->Option (Option (Nat × Bool))
 |none=>some none
 |some (j,want)=>match (ops[j]?).bind (·.dst) with
  |some t=>if t<n then some (some (t,want)) else none
  |none=>none
def V3(n:Nat):Option Tmp->Bool
 |none=>true
 |some d=>d<n
def rM(P:Program)(G n:Nat)(ops:Array Oper)(o:Oper)(s:SOper):Prop:=
 p7 P G n o=some s.op/\s.dst=o.dst/\V3 n o.dst=true/\JL n ops o.guard=some s.guard
section
variable{P:Program}{G n:Nat}{μ:Nat->Pl}{K:Nat->Prop}{H H':Hp}{w:World}{F:T V}{a:Act}
theorem xy.mono{μ':Nat->Pl}{K':Nat->Prop}{tmps:Array Value}(hF:xy μ K n F tmps)(hK:∀b,K b->K' b)(hμ:∀b,K b->μ' b=μ b):xy μ' K' n F tmps:=
 ⟨hF.1,fun i hi=>(hF.2 i hi).mono hK hμ⟩
theorem xy.put(hF:xy μ K n F a.tmps){d:Option Tmp}(hd:V3 n d=true){v:V}{x:Value}(hv:RV μ K v x):xy μ K n (qP F d v) (a.put d x).tmps:=by
 cases d with
 |none=>exact hF
 |some d=>
  simp only [V3,xF] at hd;refine⟨by simp [Act.put];exact hF.1,fun i hi=>?_⟩;simp only [qP,Act.put];by_cases e:i=d
  ·subst e;have:i<a.tmps.size:=by rw [hF.1];exact hi
   simp [this,hv]
  ·rw [T.get_set_ne _ _ e];have h1:=hF.2 i hi;have:(a.tmps.setIfInBounds d x).getD i Go.undef=a.tmps.getD i Go.undef:=by
    simp only [Array.getD_eq_getD_getElem?];rw [Array.getElem?_setIfInBounds_ne (fun h=>e h.symm)]
   rw [this];exact h1
theorem RV.not_bool{v:V}{b:Bool}(h:RV μ K v (.bool b)):v=.one (.bool b):=by
 cases v with
 |one c=>
  have h':RC μ K c (.bool b):=h;cases c<;>simp only [RC] at h'
  all_goals first
   |(injection h' with h';rw [h'])
   |(obtain⟨_,_,_,h',_⟩:=h';cases h')
   |(obtain⟨_,h'⟩:=h';cases h';done)
   |(obtain⟨_,_,h'⟩:=h';cases h';done)
   |cases h'
 |agg l=>obtain⟨_,h,_⟩:=h;cases h
 |tup l=>obtain⟨_,h,_⟩:=h;cases h
theorem rY(hF:xy μ K n F a.tmps){ops:Array Oper}{o:Oper}{g:Option (Nat × Bool)}(hg:JL n ops o.guard=some g):Region.wanted o (yielded ops a.tmps)=qs g F:=by
 unfold Region.wanted;cases hog:o.guard with
 |none=>simp only [hog,JL,zoi] at hg;subst hg;rfl
 |some jw=>
  obtain⟨j,want⟩:=jw;simp only [hog,JL] at hg;cases hd:(ops[j]?).bind (·.dst) with
  |none=>simp [hd] at hg
  |some t=>
   simp only [hd] at hg;split at hg
   ·rename_i ht;obtain rfl:=zsi hg;have hv:=hF.2 t ht;have hts:t<a.tmps.size:=by rw [hF.1];exact ht
    have hget:a.tmps[t]?=some (a.tmps.getD t Go.undef):=by simp [hts]
    simp only [yielded,hd,Option.bind_some,hget,qs];generalize a.tmps.getD t Go.undef=x at *;generalize (F.get t).getD V.undef=v at *;cases x with
    |bool b=>
     rw [hv.not_bool];cases b<;>cases want<;>rfl
    |_=>
     have hnb:∀b,v≠.one (.bool b):=by
      rintro b rfl;cases (show _=Value.bool b from hv)
     cases v with
     |one c=>cases c<;>first|rfl|exact absurd rfl (hnb _)
     |agg l=>rfl
     |tup l=>rfl
   ·cases hg
theorem Xu{f:FuncId}(h:zR P f=true)(args:Array Value)(w:World):(callFunc f args).run P w=.ok (.enter f args) w:=by
 unfold zR at h;cases hf:P.funcs[f]? with
 |none=>simp [hf] at h
 |some fn=>
  simp only [hf,xt,bne_iff_ne,ne_eq] at h;obtain⟨bd,hb⟩:=Option.isSome_iff_exists.1 h.2;simp [callFunc,hf,h.1,hb]
def vE(ctx:za):Prop:=∀k p,(k,p)∈ctx->∀(H:Hp) (b:Nat) (bk:B),H.get b=none->p H->p (H.add b bk)
theorem iD{H:Hp}{b i x:Nat}{bk:B}{c:C}(hn:H.get x=none)(h:H.cell b i=some c):(H.add x bk).cell b i=some c:=by
 unfold Hp.cell at h ⊢;by_cases e:b=x
 ·subst e;simp [hn] at h
 ·rw [Hp.get_add_ne _ _ e];exact h
theorem Qp{H:Hp}{x:Nat}{bk:B}(hn:H.get x=none):∀{m b o:Nat} {l:List C},H.loads b o m=some l->(H.add x bk).loads b o m=some l
 |0,_,_,_,h=>h
 |m+1,b,o,l,h=>by
  simp only [Hp.loads] at h ⊢;cases hc:H.cell b o with
  |none=>simp [hc] at h
  |some c=>
   simp only [hc] at h;simp only [iD hn hc];cases hl:H.loads b (o+1) m with
   |none=>simp [hl] at h
   |some l'=>simp only [hl] at h;simp only [Qp hn hl];exact h
theorem fK{F:T V}{H:Hp}{op:LoadOp}{v:V}{x:Nat}{bk:B}(hn:H.get x=none)(h:qA F H op=some v):qA F (H.add x bk) op=some v:=by
 have hm:∀b es,H.get b=some (.mp es)->(H.add x bk).get b=some (.mp es):=fun b es hb=>by
  rw [Hp.get_add_ne _ _ (fun e=>by subst e;rw [hn] at hb;cases hb)];exact hb
 cases op with
 |load agg n a=>
  simp only [qA] at h ⊢;split at h
  ·cases agg with
   |true=>
    simp only [if_true,zom] at h ⊢;obtain⟨l,hl,rfl⟩:=h;exact⟨l,Qp hn hl,rfl⟩
   |false=>
    simp only [Bool.false_eq_true,if_false,zom] at h ⊢;obtain⟨c,hc,rfl⟩:=h;exact⟨c,iD hn hc,rfl⟩
  ·cases h
 |lookup z ok m k=>
  simp only [qA] at h ⊢;split at h
  ·rename_i hk;rw [if_pos hk];split at h
   ·exact h
   ·rename_i b hb;split at h
    ·rename_i es hes;simp only [hm _ _ hes];exact h
    ·cases h
   ·cases h
  ·cases h
 |bstr x=>
  simp only [qA] at h ⊢;split at h
  ·exact h
  ·split at h
   ·rename_i he;rw [if_pos he];split at h
    ·rename_i cs hl;simp only [Qp hn hl];exact h
    ·cases h
   ·cases h
  ·cases h
 |pcv t n y=>
  simp only [qA] at h ⊢;split at h
  ·exact h
  ·split at h
   ·rename_i t' l hb;rw [Hp.get_add_ne _ _ (fun e=>by subst e;rw [hn] at hb;cases hb),hb];exact h
   ·cases h
  ·cases h
 |aslice len esz y lo hi=>
  simp only [qA] at h ⊢;split at h
  ·split at h
   ·rename_i n' z m rw' hb;rw [Hp.get_add_ne _ _ (fun e=>by subst e;rw [hn] at hb;cases hb),hb];exact h
   ·cases h
  ·cases h
 |slookup z ok m k=>
  simp only [qA] at h ⊢;split at h
  ·exact h
  ·split at h
   ·rename_i es hes;simp only [hm _ _ hes];exact h
   ·cases h
  ·cases h
 |mlen m=>
  simp only [qA] at h ⊢;split at h
  ·exact h
  ·rename_i b hb;split at h
   ·rename_i es hes;simp only [hm _ _ hes];exact h
   ·cases h
  ·cases h
theorem vE.of{ctx:za}(h:vE ctx)(b:Bool)(i:Nat)(op:LoadOp)(F:T V)(v:V):vE (if b then (i,fun H'=>qA F H' op=some v)::ctx else ctx):=by
 intro k p hp;split at hp
 ·rcases List.mem_cons.1 hp with hp|hp
  ·injection hp with _ hp
   subst hp;exact fun H b bk hn hh=>fK hn hh
  ·exact h k p hp
 ·exact h k p hp
theorem hX{o:Oper}{op:SOp}(h:Vq P G n o=some op):∀c,o.op≠.defer c:=by
 intro c hc;simp [Vq,ZN,Wo,Wn,JG,Wq,Wp,ZO,Vt,Vs,Vr,hc] at h
theorem oW {ρ:Option (Option Nat)} {nn:Nat} {ops:Array Oper} {o:Oper} {s:SOper} {r:List SOper} {ctx:za} {base i:Nat} {QP:Hp->Prop} {Q:T V->Hp->Prop} {Q':Exit->Act->World->Prop} {Kont:Act->World->Prop}
 {μ0:Nat->Pl} {K0:Nat->Prop} {H0:Hp} {w0:World} (hlt0:∀b bk,H0.get b=some bk->b<H0.nx)
 (ho:ops[i]?=some o) (hfit:rM P G n ops o s) (hR:Rel G μ K H w) (hF:xy μ K n F a.tmps) (hFr:Fr μ0 K0 H0 w0 μ K H w)
 (hrs:∀k,s.aid=some k->¬K (base+k)/\base+k<H.nx/\H0.nx<=base+k)
 (hw:qv P G base QP Q (s::r) ctx F H)
 (hK:∀(μ':Nat->Pl) (K':Nat->Prop) (F':T V) (H':Hp) (a':Act) (w':World) (ctx':za),Rel G μ' K' H' w'->xy μ' K' n F' a'.tmps->Fr μ0 K0 H0 w0 μ' K' H' w'->a'.defers=a.defers->
  H.nx<=H'.nx->(∀b,b<H.nx->K' b->K b\/∃k,s.aid=some k/\b=base+k)->(∃v,F'=qP F s.dst v)->(vE ctx->vE ctx')->qv P G base QP Q r ctx' F' H'->Kont a' w')
 (hP:∀(μ':Nat->Pl) (K':Nat->Prop) (H':Hp) (w':World) (ch:List PanicEntry),s.op.isC=true->QP H'->VH ch->Rel G μ' K' H' w'->xy μ' K' n F a.tmps->Fr μ0 K0 H0 w0 μ' K' H' w'->Q' (.panic ch) a w'):
 wpOpIn (kO ρ) nn P ops Q' i Kont a w:=by
 obtain⟨hop,hdst,hd,hgd⟩:=hfit;have hput:∀x,(a.put o.dst x).defers=a.defers:=fun x=>by cases o.dst<;>rfl
 unfold wpOpIn;rw [ho];simp only;rw [rY hF hgd];rw [qv] at hw;cases hwa:qs s.guard F with
 |false=>
  simp only [hwa,Bool.false_eq_true,if_false] at hw ⊢;rw [hdst] at hw;exact⟨fun _ _=>Xy,hK μ K _ H _ w ctx hR (hF.put hd RV.undef) hFr (hput _) (Nat.le_refl _) (fun b _ h=>.inl h) ⟨_,by rw [hdst]⟩ id hw⟩
 |true=>
  simp only [hwa,if_true] at hw ⊢;have hop':Vq P G n o=some s.op:=by
   unfold p7 at hop;split at hop
   ·rename_i h0;rw [h0];exact hop
   ·obtain hop:=zsi hop;rw [<-hop] at hw;exact hw.elim
  replace hop:=hop';unfold Oper.wpIn;refine⟨fun _ _=>Xy,?_⟩;rw [Oper.semAt_eq _ _ _ (hX hop)];rw [hdst] at hw;have val:∀(v:V) (x:Value) (ctx':za),RV μ K v x->(vE ctx->vE ctx')->qv P G base QP Q r ctx' (qP F o.dst v) H->Kont (a.put o.dst x) w:=fun v x ctx' hv hcs hw'=>
   hK μ K _ H _ w ctx' hR (hF.put hd hv) hFr (hput _) (Nat.le_refl _) (fun b _ h=>.inl h) ⟨v,by rw [hdst]⟩ hcs hw'
  have call:∀(f:FuncId) (args:List V) (xs:List Value) (nx:Result Next),qe (RV μ K) args xs->nx=.ok (.enter f xs.toArray) w->
   s.op.isC=true->zi P G f args H (fun v H'=>xY s.watch ctx H'/\qv P G base QP Q r ctx (qP F o.dst v) H') QP->o.uponIn (kO ρ) nn P a Kont Q' nx:=by
   intro f args xs nx ha hnx hkd hc;subst hnx;rw [Oper.uponIn_enter];refine⟨fun h=>(by rw [Jy] at h;cases h),uK ((hc μ K w xs hR ha).mono fun e w' he=>?_)⟩;rcases he with he|⟨ch,rfl,hch,H',μ',K',h1,h3,h4⟩
   rotate_left
   ·exact hP μ' K' H' w' ch hkd h1 hch h3 (hF.mono h4.kk h4.mu) (hFr.trans hlt0 h4)
   obtain⟨x,rfl,v,H',μ',K',⟨_,h1⟩,h2,h3,h4⟩:=he;exact hK μ' K' _ H' _ w' ctx h3 ((hF.mono h4.kk h4.mu).put hd h2) (hFr.trans hlt0 h4) (hput _) h4.nx (fun b hb h=>.inl (h4.knew b hb h)) ⟨v,by rw [hdst]⟩ id h1
  unfold Vq at hop;cases hp:ZN P G n o with
  |some p=>
   simp only [hp,zoi] at hop;rw [<-hop] at hw;simp only at hw;cases hv:qn F p with
   |none=>simp [hv] at hw
   |some v=>
    simp only [hv] at hw;obtain⟨x,hx,hr⟩:=lT (P:=P) hR hF hp hv;rw [hx,Oper.uponIn_value];exact val v x ctx hr id hw
  |none=>
   simp only [hp] at hop;cases hl:JG P G n o with
   |some p=>
    simp only [hl,zoi] at hop;rw [<-hop] at hw;simp only at hw;cases hv:qA F H p with
    |none=>simp [hv] at hw
    |some v=>
     simp only [hv] at hw;obtain⟨x,hx,hr⟩:=HP (P:=P) hR hF hl hv;rw [hx,Oper.uponIn_value];exact val v x _ hr (fun h=>h.of _ _ _ _ _) hw
   |none=>
    simp only [hl] at hop;cases hal:ZO P G n o with
    |some p=>
     simp only [hal,zoi] at hop;rw [<-hop] at hw;simp only at hw;cases hv:xw F p with
     |none=>simp [hv] at hw
     |some bg=>
      obtain⟨bk,g⟩:=bg;simp only [hv] at hw;obtain⟨hm,x,obj,sz,hx,hrb,hval⟩:=EW (P:=P) hR hF hal hv;rw [hx,Oper.uponIn_value];have hnk:¬K H.nx:=fun h=>absurd (hR.lt _ h) (by omega);cases hai:s.aid with
      |none=>
       simp only [hai] at hw;refine hK (fun i=>if i=H.nx then ⟨w.heap.size,0,sz⟩ else μ i) (fun i=>K i\/i=H.nx) _ (H.push bk) _ { w with heap:=w.heap.push obj } ctx (Rel.new hR hnk (by omega) (by omega) hm hrb)
        ((hF.mono (fun _ h=>.inl h) (fun b hb=>?_)).put hd (hval H.nx _ _ (.inr rfl) (by simp))) (Fr.new hFr hnk hFr.nx hlt0 (by omega) hm) (hput _) (by simp) (fun b hb h=>?_) ⟨_,by rw [hdst]⟩ id hw
       ·have:=hR.lt b hb;rw [if_neg (by omega)]
       ·rcases h with h|h
        ·exact .inl h
        ·omega
      |some k=>
       simp only [hai] at hw;obtain⟨r1,r2,r3⟩:=hrs k hai;refine hK (fun i=>if i=base+k then ⟨w.heap.size,0,sz⟩ else μ i) (fun i=>K i\/i=base+k) _ (H.add (base+k) bk) _ { w with heap:=w.heap.push obj } ctx (Rel.new hR r1 r2 (Nat.le_refl _) hm hrb)
        ((hF.mono (fun _ h=>.inl h) (fun b hb=>?_)).put hd (hval (base+k) _ _ (.inr rfl) (by simp))) (Fr.new hFr r1 r3 hlt0 (Nat.le_refl _) hm) (hput _) (by simp) (fun b hb h=>?_) ⟨_,by rw [hdst]⟩ id hw
       ·by_cases e:b=base+k
        ·subst e;exact absurd hb r1
        ·rw [if_neg e]
       ·rcases h with h|h
        ·exact .inl h
        ·exact .inr ⟨k,hai,h⟩
    |none=>
     simp only [hal] at hop;cases he:Vt P G n o with
     |some p=>
      simp only [he,zoi] at hop;rw [<-hop] at hw;simp only at hw;cases hv:qM F H p with
      |none=>simp [hv] at hw
      |some vH=>
       obtain⟨v,H'⟩:=vH;simp only [hv] at hw;obtain⟨nx,x,w',μ',K',h1,h2,h3,h4,h5⟩:=TC (P:=P) hR hF he hv;have hk:=hK μ' K' _ H' _ w' ctx h4 ((hF.mono h5.kk h5.mu).put hd h3) (hFr.trans hlt0 h5) (hput x) h5.nx (fun b hb h=>.inl (h5.knew b hb h)) ⟨v,by rw [hdst]⟩ id hw.2;rw [h1];rcases h2 with rfl|⟨rfl,rfl⟩
       ·rw [Oper.uponIn_value];exact hk
       ·rw [Oper.uponIn_skip];exact hk
     |none=>
      simp only [he] at hop;split at hop
      ·rename_i f args ts hoo;split at hop
       ·rename_i hfn;simp only [zom] at hop;obtain⟨ds,hds,hop⟩:=hop;rw [<-hop] at hw;refine call f _ (args.toList.map a.eval) _ (JK hR hF hds) ?_ (by rw [<-hop];rfl) hw;have harr:args.map a.eval=(args.toList.map a.eval).toArray:=by apply Array.ext';simp
        have hev:a.eval (.func f)=.func (.func f) #[] #[]:=rfl;simp [execOp,hoo,resolve,hev,Deferred.ofValue,invoke,Xu hfn,<-harr]
       ·cases hop
      ·rename_i t args ts hoo;split at hop
       ·rename_i x l hx hl';obtain hop:=zsi hop;rw [<-hop] at hw;simp only at hw;have hv:=qr hR hF hx;split at hw
        ·rename_i f caps hxe;rw [hxe] at hv;obtain⟨hkc,hv'⟩:(∀p∈caps,K p.1)/\a.eval (.tmp t)=.func (.func f) #[] (caps.map fun p=>Value.pointer (some ((μ p.1).addr p.2))).toArray:=hv;refine call f _ (args.toList.map a.eval++caps.map fun p=>Value.pointer (some ((μ p.1).addr p.2))) _ ((JK hR hF hl').append ?_) ?_ (by rw [<-hop];rfl) hw.2
         ·refine qe.mk (by simp) fun j v x hv hx=>?_;simp only [List.getElem?_map,zom] at hv hx;obtain⟨p,hp,rfl⟩:=hv;obtain⟨p',hp',rfl⟩:=hx;rw [hp] at hp';obtain rfl:=zsi hp';exact⟨hkc p (zmg hp),rfl⟩
         ·simp [execOp,hoo,resolve,hv',Deferred.ofValue,invoke,Xu hw.1]
        ·rename_i f b off hxe;rw [hxe] at hv;obtain⟨hkb,hv'⟩:K b/\a.eval (.tmp t)=.func (.func f) #[.pointer (some ((μ b).addr off))] #[]:=hv;refine call f (.one (.ptr b off)::l.map (·.ev F)) (.pointer (some ((μ b).addr off))::args.toList.map a.eval) _ ⟨⟨hkb,rfl⟩,JK hR hF hl'⟩ ?_ (by rw [<-hop];rfl) hw.2;have harr:args.map a.eval=(args.toList.map a.eval).toArray:=by apply Array.ext';simp
         simp [execOp,hoo,resolve,hv',Deferred.ofValue,invoke,Xu hw.1]
        ·rename_i b hxe;rw [hxe] at hv;obtain⟨hkb,hv'⟩:K b/\a.eval (.tmp t)=.func (.yield (μ b).blk) #[] #[]:=hv;obtain⟨fn,tmps,assign,body,hy,hr⟩:=hw μ K w (args.toList.map a.eval) hR hkb (JK hR hF hl');have harr:args.map a.eval=(args.toList.map a.eval).toArray:=by apply Array.ext';simp
         have hex:(execOp a.eval o).run P w=.ok (.round (μ b).blk fn tmps assign body) w:=by
          simp only [<-harr] at hy;simp [execOp,hoo,resolve,hv',Deferred.ofValue,invoke,hy]
         rw [hex,Oper.uponIn_round];refine⟨fun h=>(by rw [Jy] at h;cases h),pM (hr.mono fun e w' he=>?_)⟩;obtain⟨x,rfl,v,H',μ',K',⟨_,h1⟩,h2,h3,h4⟩:=he;exact hK μ' K' _ H' _ w' ctx h3 ((hF.mono h4.kk h4.mu).put hd h2) (hFr.trans hlt0 h4) (hput _) h4.nx (fun b hb h=>.inl (h4.knew b hb h)) ⟨v,by rw [hdst]⟩ id h1
        ·exact hw.elim
       ·cases hop
      ·rename_i it hoo;simp only [zom] at hop;obtain⟨x,hx,hop⟩:=hop;rw [<-hop] at hw;simp only at hw;have hv:=qr hR hF hx;split at hw
       ·rename_i b hxe;rw [hxe] at hv;obtain⟨hkb,hv'⟩:K b/\a.eval it=.pointer (some ((μ b).addr 0)):=hv;obtain⟨y,w',hy,v,H',μ',K',⟨_,h1⟩,h2,h3,h4⟩:=hw μ K w hR hkb o.type;have hex:(execOp a.eval o).run P w=.ok (.value y) w':=by simp [execOp,hoo,hv',hy]
        rw [hex,Oper.uponIn_value];exact hK μ' K' _ H' _ w' ctx h3 ((hF.mono h4.kk h4.mu).put hd h2) (hFr.trans hlt0 h4) (hput _) h4.nx (fun b hb h=>.inl (h4.knew b hb h)) ⟨v,by rw [hdst]⟩ id h1
       ·exact hw.elim
      ·cases hop
end
def xZ(P:Program)(G n:Nat)(ops:Array Oper):List Nat->List SOper->Prop
 |[],[]=>True
 |i::xa,s::l=>(∃o,ops[i]?=some o/\rM P G n ops o s)/\xZ P G n ops xa l
 |_,_=>False
section
variable{P:Program}{G n:Nat}{ρ:Option (Option Nat)}
def wU:Nat:=9999
def jc(F:T V):List V:=match F.get wU with
 |some (.tup l)=>l
 |_=>[]
def dL:Option (Option Nat)->T V->List V
 |some none,F=>jc F
 |_,_=>[]
def QJ(d:Deferred):Option Nat:=match d.target with
 |.collected r=>some r
 |_=>none
def kS(μ:Nat->Pl)(K:Nat->Prop)(s:Nat)(w:World):List Deferred->List V->Prop
 |[],L=>L=[]
 |d::D,L=>(∃r,d={ target:=.collected r,args:=#[] }/\s<=r/\w.heap[r]?=some (.deferred (some []))/\kS μ K s w D L)\/
  (∃f caps L',L=.one (.fn f caps)::L'/\(∀p∈caps,K p.1)/\d={ target:=.fn (.func f) (caps.map fun p=>Value.pointer (some ((μ p.1).addr p.2))).toArray,args:=#[] }/\kS μ K s w D L')
def YR(ρ:Option (Option Nat))(n:Nat)(μ:Nat->Pl)(K:Nat->Prop)(s:Nat)(D:List Deferred)(w:World)(L:List V):Prop:=(ρ=some none->n<=wU)/\s<=w.heap.size/\(D.filterMap QJ).Nodup/\kS μ K s w D L
theorem YR.nil{ρ:Option (Option Nat)}{n:Nat}{μ:Nat->Pl}{K:Nat->Prop}{s:Nat}(w:World)(hn:ρ=some none->n<=wU)(h:s<=w.heap.size):YR ρ n μ K s [] w []:=⟨hn,h,List.nodup_nil,rfl⟩
theorem fW{μ μ':Nat->Pl}{K K':Nat->Prop}{H H':Hp}{w w':World}(hR:Rel G μ K H w)(h:Fr μ K H w μ' K' H' w'){r:Nat}(hr:w.heap[r]?=some (.deferred (some []))):w'.heap[r]?=some (.deferred (some [])):=by
 rw [h.keep r (Array.getElem?_eq_some_iff.1 hr).1 fun b bk hb _ e=>?_]
 ·exact hr
 ·have hB:=hR.blk b bk hb;rw [e,hr] at hB;cases bk with
  |row n z m rw=>obtain⟨_,_,_,h,_⟩:=hB;cases h
  |mp es=>obtain⟨_,_,h,_⟩:=hB;cases h
  |lp st j f n F ps sg bd=>obtain⟨_,_,h,_⟩:=hB;cases h
  |st=>obtain⟨_,_,h,_⟩:=hB;cases h
  |it=>obtain⟨_,_,h,_⟩:=hB;cases h
  |tr=>obtain⟨_,_,h,_⟩:=hB;cases h
theorem kS.fr{s:Nat}{μ μ':Nat->Pl}{K K':Nat->Prop}{H H':Hp}{w w':World}(hR:Rel G μ K H w)(h:Fr μ K H w μ' K' H' w'):∀{D:List Deferred} {L:List V},kS μ K s w D L->kS μ' K' s w' D L
 |[],_,hd=>hd
 |d::D,L,hd=>hd.imp (fun⟨r,h1,h2,h3,h4⟩=>⟨r,h1,h2,fW hR h h3,kS.fr hR h h4⟩) fun⟨f,caps,L',h1,h2,h3,h4⟩=>⟨f,caps,L',h1,fun p hp=>h.kk _ (h2 p hp),by
  rw [h3];congr 3;exact List.map_congr_left fun p hp=>by rw [h.mu p.1 (h2 p hp)],kS.fr hR h h4⟩
theorem YR.fr{ρ:Option (Option Nat)}{n s:Nat}{D:List Deferred}{L:List V}{μ μ':Nat->Pl}{K K':Nat->Prop}{H H':Hp}{w w':World}(hR:Rel G μ K H w)(h:Fr μ K H w μ' K' H' w')(hd:YR ρ n μ K s D w L):YR ρ n μ' K' s D w' L:=
 ⟨hd.1,Nat.le_trans hd.2.1 h.size,hd.2.2.1,hd.2.2.2.fr hR h⟩
def QE(Q:Exit->T V->Hp->Prop):Exit->T V->Hp->Prop
 |.panic ch,F,H=>VH ch/\Q (.panic []) F H
 |e,F,H=>Q e F H
def rN(ρ:Option (Option Nat))(G n s:Nat)(μ0:Nat->Pl)(K0:Nat->Prop)(H0:Hp)(w0:World)(Q:Exit->T V->Hp->Prop)(e:Exit)(a:Act)(w:World):Prop:=
 ∃F H μ K,QE Q e F H/\Rel G μ K H w/\xy μ K n F a.tmps/\Fr μ0 K0 H0 w0 μ K H w/\YR ρ n μ K s a.defers w (dL ρ F)
theorem Jb {nn:Nat} {D:List Deferred} {ops:Array Oper} {QP:Hp->Prop} {Q:T V->Hp->Prop} {base:Nat} {μ0:Nat->Pl} {K0:Nat->Prop} {H0:Hp} {w0:World} (hlt0:∀b bk,H0.get b=some bk->b<H0.nx) {Q':Exit->Act->World->Prop} {F0:T V} {ds:List Nat} (hds:∀d∈ds,d<n) {rest:List Nat}
 (hQ:∀μ K F H a w,Q F H->Rel G μ K H w->xy μ K n F a.tmps->Fr μ0 K0 H0 w0 μ K H w->(∀t,t∉ds->F.get t=F0.get t)->a.defers=D->wpOpsIn (kO ρ) nn P ops Q' rest a w)
 (hP:∀μ K F H a w ch,QP H->VH ch->Rel G μ K H w->xy μ K n F a.tmps->Fr μ0 K0 H0 w0 μ K H w->(∀t,t∉ds->F.get t=F0.get t)->a.defers=D->Q' (.panic ch) a w):
 ∀{l:List SOper} {xa:List Nat} {ctx:za} {F:T V} {H:Hp} {μ:Nat->Pl} {K:Nat->Prop} {a:Act} {w:World},xZ P G n ops xa l->(∀s∈l,s.aid=none)->(∀s∈l,∀d,s.dst=some d->d∈ds)->Rel G μ K H w->xy μ K n F a.tmps->Fr μ0 K0 H0 w0 μ K H w->(∀t,t∉ds->F.get t=F0.get t)->a.defers=D->
  qv P G base QP Q l ctx F H->wpOpsIn (kO ρ) nn P ops Q' (xa++rest) a w
 |[],[],ctx,F,H,μ,K,a,w,_,_,_,hR,hF,hFr,hag,hd,hw=>by
  exact hQ μ K F H a w hw hR hF hFr hag hd
 |s::l,i::xa,ctx,F,H,μ,K,a,w,hal,hai,hdd,hR,hF,hFr,hag,hd,hw=>by
  obtain⟨⟨o,ho,hfit⟩,hal'⟩:=hal;rw [List.cons_append,wpOpsIn_cons];refine oW hlt0 ho hfit hR hF hFr (fun k hk=>by rw [hai s (by simp)] at hk;cases hk) hw (fun μ' K' F' H' a' w' ctx' h1 h2 h3 h4 _ _ hv _ h6=>?_) fun μ' K' H' w' ch _ h1 h2 h3 h4 h5=>hP μ' K' F H' a w' ch h1 h2 h3 h4 h5 hag hd;refine Jb hlt0 hds hQ hP hal' (fun t ht=>hai t (by simp [ht])) (fun t ht=>hdd t (by simp [ht])) h1 h2 h3 (fun t ht=>?_) (h4.trans hd) h6;obtain⟨v,rfl⟩:=hv;rw [<-hag t ht];cases hsd:s.dst with
  |none=>rfl
  |some d=>exact T.get_set_ne _ _ fun e=>by subst e;exact ht (hdd s (by simp) _ hsd)
 |[],_::_,_,_,_,_,_,_,_,h,_,_,_,_,_,_,_,_=>h.elim
 |_::_,[],_,_,_,_,_,_,_,h,_,_,_,_,_,_,_,_=>h.elim
def xS(l:List SOper):List Nat:=l.filterMap (·.dst)
theorem vr{l:List SOper}:∀s∈l,∀d,s.dst=some d->d∈xS l:=fun s hs d hd=>List.mem_filterMap.2 ⟨s,hs,hd⟩
theorem xZ.dsts{ops:Array Oper}:∀{xa:List Nat} {l:List SOper},xZ P G n ops xa l->∀d∈xS l,d<n
 |[],[],_,d,h=>by cases h
 |i::xa,s::l,hal,d,h=>by
  obtain⟨x,hx,hxd⟩:=List.mem_filterMap.1 h;rcases List.mem_cons.1 hx with rfl|hx
  ·obtain⟨⟨o,_,hfit⟩,_⟩:=hal;have h2:=hfit.2.2.1;rw [<-hfit.2.1,hxd] at h2;exact qG h2
  ·exact xZ.dsts hal.2 d (List.mem_filterMap.2 ⟨x,hx,hxd⟩)
 |[],_::_,h,_,_=>h.elim
 |_::_,[],h,_,_=>h.elim
theorem ww{ρ:Option (Option Nat)}{F F0:T V}{ds:List Nat}(hn:ρ=some none->n<=wU)(hds:∀d∈ds,d<n)(h:∀t,t∉ds->F.get t=F0.get t):dL ρ F=dL ρ F0:=by
 match ρ with
 |none=>rfl
 |some none=>
  have hn:=hn rfl;have:F.get wU=F0.get wU:=h _ fun hm=>absurd (hds _ hm) (by omega);simp only [dL,jc,this]
 |some (some l)=>rfl
def zY(ρ:Option (Option Nat))(P:Program)(G n:Nat)(c:Code)(Q:Exit->T V->Hp->Prop)(F:T V)(H:Hp):Prop:=
 ∀(s:Nat) (μ:Nat->Pl) (K:Nat->Prop) (w:World) (a:Act),Rel G μ K H w->xy μ K n F a.tmps->YR ρ n μ K s a.defers w (dL ρ F)->c.wpIn (kO ρ) 0 P (rN ρ G n s μ K H w Q) a w
def kA(Q:Exit->T V->Hp->Prop)(ds:List Nat)(F:T V)(H':Hp):Prop:=∀F1:T V,(∀t,t∉ds->F1.get t=F.get t)->Q (.panic []) F1 H'
theorem rH {id:Nat} {ops:Array Oper} {l:List SOper} {Q:Exit->T V->Hp->Prop} {F:T V} {H:Hp} (hal:xZ P G n ops (List.range ops.size) l) (hai:∀s∈l,s.aid=none)
 (h:qv P G H.nx (kA Q (xS l) F) (Q .normal) l [] F H):zY ρ P G n (.region id ops false) Q F H:=by
 intro s μ K w a hR hF hd;refine wpIn_region ?_;rw [<-List.append_nil (List.range ops.size)];refine (Jb (QP:=kA Q (xS l) F) (Q:=Q .normal) (D:=a.defers) (F0:=F) (ds:=xS l) hR.lt' hal.dsts (fun μ' K' F' H' a' w' h1 h2 h3 h4 hag h5=>?_) (fun μ' K' F' H' a' w' ch h0 hch h2 h3 h4 hag h5=>?_) hal hai vr hR hF (Fr.refl hR) (fun _ _=>rfl) rfl h)
 ·exact⟨F',H',μ',K',h1,h2,h3,h4,by rw [h5,ww hd.1 hal.dsts hag];exact hd.fr hR h4⟩
 ·exact⟨F',H',μ',K',⟨hch,h0 F' hag⟩,h2,h3,h4,by rw [h5,ww hd.1 hal.dsts hag];exact hd.fr hR h4⟩
theorem UP {id k:Nat} {ops:Array Oper} {l:List SOper} {o:Oper} {c:Operand} {ts:Array TypeId} {d:Opd} {Q:Exit->T V->Hp->Prop} {F:T V} {H:Hp} (hk:ops.size=k+1) (hal:xZ P G n ops (List.range k) l) (hai:∀s∈l,s.aid=none) (ho:ops[k]?=some o) (hoo:o.op=.defer { callee:=.value c,args:=#[],argTypes:=ts }) (hg:o.guard=none) (hdst:o.dst=none) (hd:cO G n c=some d)
 (h:qv P G H.nx (kA Q (xS l) F) (fun F' H'=>∃f caps,d.ev F'=.one (.fn f caps)/\Q .normal (F'.set wU (some (.tup (.one (.fn f caps)::jc F')))) H') l [] F H):zY (some none) P G n (.region id ops false) Q F H:=by
 intro s μ K w a hR hF hD;refine wpIn_region ?_;rw [show List.range ops.size=List.range k++[k] by rw [hk,List.range_succ]];refine (Jb (QP:=kA Q (xS l) F) (Q:=fun F' H'=>∃f caps,d.ev F'=.one (.fn f caps)/\Q .normal (F'.set wU (some (.tup (.one (.fn f caps)::jc F')))) H') (D:=a.defers) (F0:=F) (ds:=xS l) hR.lt' hal.dsts (fun μ' K' F' H' a' w' h1 h2 h3 h4 hag h5=>?_) (fun μ' K' F' H' a' w' ch h0 hch h2 h3 h4 hag h5=>?_) hal hai vr hR hF (Fr.refl hR) (fun _ _=>rfl) rfl h)
 ·obtain⟨f,caps,hev,hq⟩:=h1;have hv:=qr h2 h3 hd;rw [hev] at hv;obtain⟨hkc,hv'⟩:(∀p∈caps,K' p.1)/\a'.eval c=.func (.func f) #[] (caps.map fun p=>Value.pointer (some ((μ' p.1).addr p.2))).toArray:=hv;rw [wpOpsIn_cons];unfold wpOpIn;rw [ho];simp only [Region.wanted,hg,if_true];refine⟨fun _ _=>Xy,?_⟩;have hrun:(o.semAt (kO (some none)).round a'.eval).run P w'=.ok (.defer { target:=.fn (.func f) (caps.map fun p=>Value.pointer (some ((μ' p.1).addr p.2))).toArray,args:=#[] }) w':=by
   rw [show (kO (some none)).round=none from rfl,Oper.semAt_none];simp [execOp,hoo,resolve,hv',Deferred.ofValue]
  rw [hrun,Oper.uponIn_defer];have e1:({ a' with defers:={ target:=.fn (.func f) (caps.map fun p=>Value.pointer (some ((μ' p.1).addr p.2))).toArray,args:=#[] }::a'.defers }:Act).put o.dst Go.undef={ a' with defers:={ target:=.fn (.func f) (caps.map fun p=>Value.pointer (some ((μ' p.1).addr p.2))).toArray,args:=#[] }::a'.defers }:=by rw [hdst];rfl
  rw [e1];simp only [wpOpsIn];have hD':YR (some none) n μ' K' s a.defers w' (dL (some none) F):=hD.fr hR h4;have hL:dL (some none) F'=dL (some none) F:=ww hD.1 hal.dsts hag;refine⟨_,H',μ',K',hq,h2,⟨h3.1,fun i hi=>?_⟩,h4,hD'.1,hD'.2.1,?_,?_⟩
  ·have:=hD.1 rfl;rw [T.get_set_ne _ _ (by omega)];exact h3.2 i hi
  ·show (a'.defers.filterMap QJ).Nodup
   rw [h5];exact hD'.2.2.1
  ·refine .inr ⟨f,caps,dL (some none) F',by simp [dL,jc],hkc,rfl,?_⟩;rw [h5,hL];exact hD'.2.2.2
 ·exact⟨F',H',μ',K',⟨hch,h0 F' hag⟩,h2,h3,h4,by rw [h5,ww hD.1 hal.dsts hag];exact hD.fr hR h4⟩
theorem UO {id k:Nat} {ops:Array Oper} {l:List SOper} {o:Oper} {c:Operand} {d:Opd} {Q:Exit->T V->Hp->Prop} {F:T V} {H:Hp} (hk:ops.size=k+1) (hal:xZ P G n ops (List.range k) l) (hai:∀s∈l,s.aid=none) (ho:ops[k]?=some o) (hoo:o.op=.panic c) (hg:o.guard=none) (hd:cO G n c=some d)
 (h:qv P G H.nx (kA Q (xS l) F) (fun F' H'=>d.ev F'=.one .ifa/\kA Q (xS l) F H') l [] F H):zY ρ P G n (.region id ops false) Q F H:=by
 intro s μ K w a hR hF hD;refine wpIn_region ?_;rw [show List.range ops.size=List.range k++[k] by rw [hk,List.range_succ]];refine (Jb (QP:=kA Q (xS l) F) (Q:=fun F' H'=>d.ev F'=.one .ifa/\kA Q (xS l) F H') (D:=a.defers) (F0:=F) (ds:=xS l) hR.lt' hal.dsts (fun μ' K' F' H' a' w' h1 h2 h3 h4 hag h5=>?_) (fun μ' K' F' H' a' w' ch h0 hch h2 h3 h4 hag h5=>?_) hal hai vr hR hF (Fr.refl hR) (fun _ _=>rfl) rfl h)
 ·obtain⟨hev,hq⟩:=h1;have hv:=qr h2 h3 hd;rw [hev] at hv;obtain⟨t,v,hv'⟩:∃t v,a'.eval c=.iface t v:=hv;rw [wpOpsIn_cons];unfold wpOpIn;rw [ho];simp only [Region.wanted,hg,if_true];refine⟨fun _ _=>Xy,?_⟩;have hrun:(o.semAt (kO ρ).round a'.eval).run P w'=.halt (.panic (.iface t v)) w':=by
   rw [Oper.semAt_eq _ _ _ (by rw [hoo];exact fun _ h=>by cases h)];simp [execOp,hoo,hv',Instr.panic,goPanic]
  rw [hrun,Oper.uponIn_panic];exact⟨F',H',μ',K',⟨⟨t,v,rfl⟩,hq F' hag⟩,h2,h3,h4,by rw [h5,ww hD.1 hal.dsts hag];exact hD.fr hR h4⟩
 ·exact⟨F',H',μ',K',⟨hch,h0 F' hag⟩,h2,h3,h4,by rw [h5,ww hD.1 hal.dsts hag];exact hD.fr hR h4⟩
theorem EN{Q:Exit->T V->Hp->Prop}{F:T V}{H:Hp}(h:Q .normal F H):zY ρ P G n .skip Q F H:=
 fun _ _ _ _ _ hR hF hd=>wpIn_skip ⟨F,H,_,_,h,hR,hF,Fr.refl hR,hd⟩
theorem iJ{Q:Exit->T V->Hp->Prop}{F:T V}{H:Hp}{id:Nat}(h:Q (.exit id) F H):zY ρ P G n (.exit id) Q F H:=
 fun _ _ _ _ _ hR hF hd=>wpIn_exit ⟨F,H,_,_,h,hR,hF,Fr.refl hR,hd⟩
theorem nU{Q:Exit->T V->Hp->Prop}{F:T V}{H:Hp}(h:Q .ret F H):zY ρ P G n .ret Q F H:=
 fun _ _ _ _ _ hR hF hd=>wpIn_ret ⟨F,H,_,_,h,hR,hF,Fr.refl hR,hd⟩
def cP(next:T V->Hp->Prop)(Q:Exit->T V->Hp->Prop):Exit->T V->Hp->Prop
 |.normal,F,H=>next F H
 |e,F,H=>Q e F H
theorem Vc {s:Nat} {μ0:Nat->Pl} {K0:Nat->Prop} {H0:Hp} {w0:World} {μ:Nat->Pl} {K:Nat->Prop} {H:Hp} {w:World} (hlt:∀b bk,H0.get b=some bk->b<H0.nx) (hFr:Fr μ0 K0 H0 w0 μ K H w) {Q:Exit->T V->Hp->Prop} {e:Exit} {a:Act} {w':World}
 (h:rN ρ G n s μ K H w Q e a w'):rN ρ G n s μ0 K0 H0 w0 Q e a w':=by
 obtain⟨F,H',μ',K',h1,h2,h3,h4,hd⟩:=h;exact⟨F,H',μ',K',h1,h2,h3,hFr.trans hlt h4,hd⟩
theorem MA{x y:Code}{Q:Exit->T V->Hp->Prop}{F:T V}{H:Hp}(h:zY ρ P G n x (cP (zY ρ P G n y Q) Q) F H):zY ρ P G n (.seq x y) Q F H:=by
 intro s μ K w a hR hF hd;refine wpIn_seq (wpIn_mono (h s μ K w a hR hF hd) fun e a' w' he=>?_);obtain⟨F',H',μ',K',h1,h2,h3,h4,hd'⟩:=he;cases e with
 |normal=>exact wpIn_mono (h1 s μ' K' w' a' h2 h3 hd') fun e a'' w'' he=>Vc hR.lt' h4 he
 |exit id=>exact⟨F',H',μ',K',h1,h2,h3,h4,hd'⟩
 |goto l=>exact⟨F',H',μ',K',h1,h2,h3,h4,hd'⟩
 |ret=>exact⟨F',H',μ',K',h1,h2,h3,h4,hd'⟩
 |panic ch=>exact⟨F',H',μ',K',h1,h2,h3,h4,hd'⟩
 |outgrown=>exact⟨F',H',μ',K',h1,h2,h3,h4,hd'⟩
theorem EP{c:Operand}{d:Opd}{x y:Code}{Q:Exit->T V->Hp->Prop}{F:T V}{H:Hp}{t:Bool}(hc:cO G n c=some d)(ht:d.ev F=.one (.bool t))(h:zY ρ P G n (if t then x else y) Q F H):zY ρ P G n (.cond c x y) Q F H:=by
 intro s μ K w a hR hF hd;have hv:=qr hR hF hc;rw [ht] at hv;exact wpIn_cond (t:=t) hv (h s μ K w a hR hF hd)
def ZR(id:Nat)(Q:Exit->T V->Hp->Prop):Exit->T V->Hp->Prop
 |.exit id',F,H=>if id'=id then Q .normal F H else Q (.exit id') F H
 |e,F,H=>Q e F H
theorem BH{id:Nat}{c:Code}{Q:Exit->T V->Hp->Prop}{F:T V}{H:Hp}(h:zY ρ P G n c (ZR id Q) F H):zY ρ P G n (.block id c) Q F H:=by
 intro s μ K w a hR hF hd;refine wpIn_block (wpIn_mono (h s μ K w a hR hF hd) fun e a' w' he=>?_);obtain⟨F',H',μ',K',h1,h2,h3,h4,hd'⟩:=he;cases e with
 |exit id'=>
  simp only [QE,ZR] at h1;simp only [Exit.inBlock];split
  ·rename_i e;rw [if_pos e] at h1;exact⟨F',H',μ',K',h1,h2,h3,h4,hd'⟩
  ·rename_i e;rw [if_neg e] at h1;exact⟨F',H',μ',K',h1,h2,h3,h4,hd'⟩
 |normal=>exact⟨F',H',μ',K',h1,h2,h3,h4,hd'⟩
 |goto l=>exact⟨F',H',μ',K',h1,h2,h3,h4,hd'⟩
 |ret=>exact⟨F',H',μ',K',h1,h2,h3,h4,hd'⟩
 |panic ch=>exact⟨F',H',μ',K',h1,h2,h3,h4,hd'⟩
 |outgrown=>exact⟨F',H',μ',K',h1,h2,h3,h4,hd'⟩
theorem EO{c:Code}{Q:Exit->T V->Hp->Prop}{F:T V}{H:Hp}(I:Nat->T V->Hp->Prop){m:Nat}(h0:I m F H)(round:∀m F H,I m F H->zY ρ P G n c (cP (fun F' H'=>∃m',m'<m/\I m' F' H') Q) F H):zY ρ P G n (.loop c) Q F H:=by
 intro s μ K w a hR hF hd;let J:Nat->Act->World->Prop:=fun m a' w'=>∃F' H' μ' K',I m F' H'/\Rel G μ' K' H' w'/\xy μ' K' n F' a'.tmps/\Fr μ K H w μ' K' H' w'/\YR ρ n μ' K' s a'.defers w' (dL ρ F');have main:∀m a' w',J m a' w'->∀(b:Frame) (k:List Item) (cs:List Frame),b.roundOf=(kO ρ).round->∃e a'' w'',rN ρ G n s μ K H w Q e a'' w''/\ArrivesIn (Machine.fenced P (kO ρ)) P (lone (b.atR a' (.code c::.inLoop c::k)) cs w') b k cs e a'' w'':=by
  intro m;induction m using Nat.strongRecOn with
  |_ m ih=>
   intro a' w' hJ b k cs hro;obtain⟨F',H',μ',K',h1,h2,h3,h4,hd'⟩:=hJ;obtain⟨e,a1,w1,hq,harr⟩:=round m F' H' h1 s μ' K' w' a' h2 h3 hd' b (.inLoop c::k) cs hro Xy v7;obtain⟨F1,H1,μ1,K1,g1,g2,g3,g4,hd1⟩:=hq;cases e with
   |normal=>
    obtain⟨m',hm',hI⟩:=g1;obtain⟨e2,a2,w2,hq2,harr2⟩:=ih m' hm' a1 w1 ⟨F1,H1,μ1,K1,hI,g2,g3,h4.trans hR.lt' g4,hd1⟩ b k cs hro;exact⟨e2,a2,w2,hq2,.of_steps (StepsIn.trans harr (.one (fenced_calm (n:=0) Xy v7 rfl) stepR_inLoop)) harr2⟩
   |exit id=>exact⟨.exit id,a1,w1,⟨F1,H1,μ1,K1,g1,g2,g3,h4.trans hR.lt' g4,hd1⟩,.pass (x:=.inLoop c) rfl (fun _ _=>.inl (by simp)) harr⟩
   |goto l=>exact⟨.goto l,a1,w1,⟨F1,H1,μ1,K1,g1,g2,g3,h4.trans hR.lt' g4,hd1⟩,.pass (x:=.inLoop c) rfl (fun _ _=>.inl (by simp)) harr⟩
   |ret=>exact⟨.ret,a1,w1,⟨F1,H1,μ1,K1,g1,g2,g3,h4.trans hR.lt' g4,hd1⟩,.pass (x:=.inLoop c) rfl (fun _ _=>.inl (by simp)) harr⟩
   |panic ch=>exact⟨.panic ch,a1,w1,⟨F1,H1,μ1,K1,g1,g2,g3,h4.trans hR.lt' g4,hd1⟩,.pass (x:=.inLoop c) rfl (fun _ _=>.inl (by simp)) harr⟩
   |outgrown=>exact⟨.outgrown,a1,w1,⟨F1,H1,μ1,K1,g1,g2,g3,h4.trans hR.lt' g4,hd1⟩,.pass (x:=.inLoop c) rfl (fun _ _=>.inl (by simp)) harr⟩
 intro b k cs hro _ _;obtain⟨e,a',w',hq,harr⟩:=main m a w ⟨F,H,μ,K,h0,hR,hF,Fr.refl hR,hd⟩ b k cs hro;exact⟨e,a',w',hq,.of_steps (.one (fenced_calm (n:=0) Xy v7 rfl) stepR_loop) harr⟩
section
variable{b:Frame}{a:Act}{k:List Item}{cs:List Frame}{w:World}{Q:Exit->Act->World->Prop}{F:Fence}{m:Nat}
theorem wW{c:Code}:step P (lone (b.atR a (.code (.scope c)::k)) cs w)=.next (lone (b.atR a (.code c::.inScope c::k)) cs w):=
 step_lone_go (by simp [stepG,stepG.exec,Frame.atR])
theorem cJ{c:Code}:step P (lone (b.atR a (.inScope c::k)) cs w)=.next (lone (b.atR a k) cs w):=
 step_lone_go (by simp [stepG,stepG.exec,Frame.atR])
def Eq(Q:Exit->Act->World->Prop):Exit->Act->World->Prop
 |.goto _,_,_=>False
 |e,a,w=>Q e a w
theorem oA{c:Code}(h:c.wpIn F m P (Eq Q) a w):(Code.scope c).wpIn F m P Q a w:=by
 intro b k cs hro hb hr;have h0:(lone (b.atR a (.code (.scope c)::k)) cs w).fenced P F:=fenced_calm hb hr rfl;obtain⟨e,a₁,w₁,hq,harr⟩:=h b (.inScope c::k) cs hro hb hr;cases e with
 |normal=>exact⟨.normal,a₁,w₁,hq,.of_steps (.one h0 wW) (StepsIn.trans harr (.one (fenced_calm hb hr rfl) cJ))⟩
 |exit id=>exact⟨.exit id,a₁,w₁,hq,.of_steps (.one h0 wW) ⟨fun k' hk=>harr.1 k' (by simpa [exitTo] using hk),fun hr hk=>harr.2 hr (by simpa [exitTo] using hk)⟩⟩
 |goto l=>exact hq.elim
 |ret=>exact⟨.ret,a₁,w₁,hq,.of_steps (.one h0 wW) harr⟩
 |panic ch=>exact⟨.panic ch,a₁,w₁,hq,.of_steps (.one h0 wW) harr⟩
 |outgrown=>exact⟨.outgrown,a₁,w₁,hq,.of_steps (.one h0 wW) harr⟩
end
def sV(Q:Exit->T V->Hp->Prop):Exit->T V->Hp->Prop
 |.goto _,_,_=>False
 |e,F,H=>Q e F H
theorem BF{c:Code}{Q:Exit->T V->Hp->Prop}{F:T V}{H:Hp}(h:zY ρ P G n c (sV Q) F H):zY ρ P G n (.scope c) Q F H:=by
 intro s μ K w a hR hF hd;refine oA (wpIn_mono (h s μ K w a hR hF hd) fun e a' w' he=>?_);obtain⟨F',H',μ',K',h1,h2,h3,h4,hd'⟩:=he;cases e with
 |goto l=>exact h1.elim
 |exit id=>exact⟨F',H',μ',K',h1,h2,h3,h4,hd'⟩
 |normal=>exact⟨F',H',μ',K',h1,h2,h3,h4,hd'⟩
 |ret=>exact⟨F',H',μ',K',h1,h2,h3,h4,hd'⟩
 |panic ch=>exact⟨F',H',μ',K',h1,h2,h3,h4,hd'⟩
 |outgrown=>exact⟨F',H',μ',K',h1,h2,h3,h4,hd'⟩
theorem BG{l:Nat}{Q:Exit->T V->Hp->Prop}{F:T V}{H:Hp}(h:Q .normal F H):zY ρ P G n (.label l) Q F H:=
 fun _ _ _ _ _ hR hF hd=>wpIn_label ⟨F,H,_,_,h,hR,hF,Fr.refl hR,hd⟩
theorem ML{Q Q':Exit->T V->Hp->Prop}(hq:∀e F H,Q e F H->Q' e F H){e:Exit}{F:T V}{H:Hp}(h:QE Q e F H):QE Q' e F H:=by
 cases e<;>first|exact⟨h.1,hq _ _ _ h.2⟩|exact hq _ _ _ h
theorem Kk{c:Code}{Q Q':Exit->T V->Hp->Prop}{F:T V}{H:Hp}(h:zY ρ P G n c Q F H)(hq:∀e F H,Q e F H->Q' e F H):zY ρ P G n c Q' F H:=
 fun s μ K w a hR hF hd=>wpIn_mono (h s μ K w a hR hF hd) fun e _ _ ⟨F',H',μ',K',h1,h2⟩=>⟨F',H',μ',K',ML hq h1,h2⟩
end
def Opd.tm:Opd->List Nat
 |.t n=>[n]
 |.c _=>[]
def XZ:Option Opd->List Nat
 |some x=>x.tm
 |none=>[]
def fJ(l:List Opd):List Nat:=l.flatMap Opd.tm
def FT(l:List (Nat × Nat × Opd)):List Nat:=l.flatMap fun p=>p.2.2.tm
def PureOp.tm:PureOp->List Nat
 |.mv x|.nilck x|.neg x|.not x|.conv _ x|.faddr _ x|.field _ _ _ x|.extract x _|.len x|.nileq _ x|.slen x|.cap x|.mkif x|.ifeq _ x|.bm _ x|.sdata x=>x.tm
 |.pick c a b=>c.tm++a.tm++b.tm
 |.build _ ps=>FT ps
 |.bin _ x y|.beq _ x y|.eqs _ _ x y|.iaddr _ x y|.aaddr _ _ x y|.aindex _ _ _ x y|.mm _ x y|.sindex x y|.scat x y|.seq _ x y|.peq _ x y|.idxb x y|.cnt x y=>x.tm++y.tm
 |.mkfn _ l=>fJ l
 |.slice _ x lo hi mx=>x.tm++XZ lo++XZ hi++XZ mx
 |.sslice x lo hi=>x.tm++XZ lo++XZ hi
 |.cint _=>[]
def LoadOp.tm:LoadOp->List Nat
 |.load _ _ a=>a.tm
 |.lookup _ _ m k=>m.tm++k.tm
 |.mlen m=>m.tm
 |.bstr x|.pcv _ _ x=>x.tm
 |.aslice _ _ x lo hi=>x.tm++XZ lo++XZ hi
 |.slookup _ _ m k=>m.tm++k.tm
def AllocOp.tm:AllocOp->List Nat
 |.alloc _|.mkmap|.mkst|.alloct _ _=>[]
 |.box x=>x.tm
 |.bslice _ _ _ ps=>FT ps
 |.mkslice _ _ _ l c=>l.tm++c.tm
def EffOp.tm:EffOp->List Nat
 |.store _ a x=>a.tm++x.tm
 |.append _ _ s x=>s.tm++x.tm
 |.copy _ d s=>d.tm++s.tm
 |.mapupd m k x=>m.tm++k.tm++x.tm
 |.clear _ _ x=>x.tm
 |.appendz _ _ _ s x=>s.tm++x.tm
 |.sbytes x=>x.tm
 |.stupd m k x=>m.tm++k.tm++x.tm
 |.rng m=>m.tm
 |.ent m=>m.tm
 |.stlook _ _ m k=>m.tm++k.tm
 |.stlen m=>m.tm
 |.stdel m k=>m.tm++k.tm
 |.appendb _ s x=>s.tm++x.tm
 |.mnz _ x=>x.tm
 |.ustr _ p n=>p.tm++n.tm
 |.smapupd m k x=>m.tm++k.tm++x.tm
def SOp.tm:SOp->List Nat
 |.p o=>o.tm
 |.l o=>o.tm
 |.a o=>o.tm
 |.e o=>o.tm
 |.cf _ args=>fJ args
 |.cv x args=>x.tm++fJ args
 |.nx x=>x.tm
 |.no=>[]
def mM:Option (Nat × Bool)->List Nat
 |some (t,_)=>[t]
 |none=>[]
def SOper.tm(s:SOper):List Nat:=s.op.tm++mM s.guard
section
variable{F:T V}{d:Nat}{v:Option V}
theorem xP{x:Opd}(h:d∉x.tm):x.ev (F.set d v)=x.ev F:=by
 cases x with
 |t n=>simp only [Opd.tm,List.mem_singleton] at h;simp [Opd.ev,T.get_set_ne _ _ (fun e=>h e.symm)]
 |c w=>rfl
theorem V0:∀{l:List Opd},d∉fJ l->l.map (·.ev (F.set d v))=l.map (·.ev F)
 |[],_=>rfl
 |x::l,h=>by
  simp only [fJ,List.flatMap_cons,List.mem_append,not_or] at h;simp [xP h.1,V0 h.2]
theorem W9:∀{ps:List (Nat × Nat × Opd)} {z:List C},d∉FT ps->zI (F.set d v) z ps=zI F z ps
 |[],_,_=>rfl
 |(off,size,x)::ps,z,h=>by
  simp only [FT,List.flatMap_cons,List.mem_append,not_or] at h;simp only [zI,xP h.1];cases kf (x.ev F) with
  |none=>rfl
  |some cs=>simp only;rw [W9 h.2]
theorem iE:∀{l:List Opd},d∉fJ l->wj (F.set d v) l=wj F l
 |[],_=>rfl
 |x::l,h=>by
  simp only [fJ,List.flatMap_cons,List.mem_append,not_or] at h;simp only [wj,xP h.1,iE h.2]
theorem wA{x:Option Opd}{k y:Nat}(h:d∉XZ x):qF (F.set d v) k y x=qF F k y x:=by
 cases x with
 |none=>rfl
 |some x=>simp only [XZ] at h;simp only [qF,xP h]
theorem sN{esz:Nat}{x:V}{lo hi mx:Option Opd}(h1:d∉XZ lo)(h2:d∉XZ hi)(h3:d∉XZ mx):yh (F.set d v) esz x lo hi mx=yh F esz x lo hi mx:=by
 unfold yh;simp only [wA h1,wA h2,wA h3]
theorem oL{x:V}{lo hi:Option Opd}(h1:d∉XZ lo)(h2:d∉XZ hi):jH (F.set d v) x lo hi=jH F x lo hi:=by
 unfold jH;simp only [wA h1,wA h2]
theorem B9{o:PureOp}(h:d∉o.tm):qn (F.set d v) o=qn F o:=by
 cases o<;>simp only [PureOp.tm,List.mem_append,not_or] at h<;>simp only [qn]
 all_goals first
  |rw [xP h.1.1,oL h.1.2 h.2]
  |rw [xP h]
  |rw [W9 h]
  |rw [iE h]
  |rw [xP h.1,xP h.2]
  |rw [xP h.1.1,xP h.1.2,xP h.2]
  |rw [xP h.1.1.1,sN h.1.1.2 h.1.2 h.2]
theorem CN{o:LoadOp}{H:Hp}(h:d∉o.tm):qA (F.set d v) H o=qA F H o:=by
 cases o<;>simp only [LoadOp.tm,List.mem_append,not_or] at h<;>simp only [qA]
 all_goals first
  |(rw [xP h.1.1];simp only [wA h.2,wA h.1.2];done)
  |rw [xP h]
  |rw [xP h.1,xP h.2]
theorem BJ{o:AllocOp}(h:d∉o.tm):xw (F.set d v) o=xw F o:=by
 cases o<;>simp only [AllocOp.tm,List.mem_append,not_or] at h<;>simp only [xw]
 all_goals first
  |rw [xP h]
  |rw [W9 h]
  |rw [xP h.1,xP h.2]
theorem LC{o:EffOp}{H:Hp}(h:d∉o.tm):qM (F.set d v) H o=qM F H o:=by
 cases o<;>simp only [EffOp.tm,List.mem_append,not_or] at h<;>simp only [qM]
 all_goals first
  |rw [xP h]
  |rw [xP h.1,xP h.2]
  |rw [xP h.1.1,xP h.1.2,xP h.2]
theorem oE{g:Option (Nat × Bool)}(h:d∉mM g):qs g (F.set d v)=qs g F:=by
 cases g with
 |none=>rfl
 |some p=>obtain⟨t,b⟩:=p;simp only [mM,List.mem_singleton] at h;simp [qs,T.get_set_ne _ _ (fun e=>h e.symm)]
end
end Go.Ab
