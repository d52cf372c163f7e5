/- -/
import Derived.Test.YtbfbplnghpdmhaaGreatDoorAb5
import Derived.RangeFuncSeq
import Derived.RangeFuncCalls
import Derived.RangeFuncLeaves
import Derived.RangeFuncIn
import Derived.LoopIn
import Derived.RangeFuncRecord
import Derived.OrdersIn
set_option linter.unusedSimpArgs false
set_option linter.unusedVariables false
namespace Go.Ab
inductive SOp where
 |p (o:PureOp)
 |l (o:LoadOp)
 |a (o:AllocOp)
 |e (o:EffOp)
 |cf (f:FuncId) (args:List Opd)
 |cv (x:Opd) (args:List Opd)
 /-- an iteration over a map steps -/
 |nx (x:Opd)
 /-- not covered:no run comes here -/
 |no
structure SOper where
 id:Nat
 dst:Option Nat
 op:SOp
 guard:Option (Nat × Bool)
 aid:Option Nat
 watch:List Nat
 keep:Bool
def xI(F:T V)(d:Option Nat)(v:V):T V:=
 match d with
 |some d=>F.set d (some v)
 |none=>F
def qv(g:Option (Nat × Bool))(F:T V):Bool:=
 match g with
 |none=>true
 |some (t,want)=>match (F.get t).getD V.undef with
  |.one (.bool b)=>b==want
  |_=>false
def qB(P:Program)(f:FuncId):Bool:=
 match P.funcs[f]? with
 |some fn=>fn.name !="runtime.NumGoroutine"&&fn.body.isSome
 |none=>false
def Ji(p:Nat × Nat):V:=.one (.ptr p.1 p.2)
def qJ(P:Program)(G:Nat)(f:FuncId)(args:List V)(H:Hp)(R:V->Hp->Prop):Prop:=
 ∀(μ:Nat->Pl) (K:Nat->Prop) (w:World) (xs:List Value),Rel G μ K H w->qg (RV μ K) args xs->
  Calls P f xs.toArray w fun e w'=>∃x,e=.returned x/\∃v H' μ' K',R v H'/\RV μ' K' v x/\Rel G μ' K' H' w'/\Fr μ K H w μ' K' H' w'
def Qd(P:Program)(G:Nat)(b:Nat)(args:List V)(H:Hp)(R:V->Hp->Prop):Prop:=
 ∀(μ:Nat->Pl) (K:Nat->Prop) (w:World) (xs:List Value),Rel G μ K H w->K b->qg (RV μ K) args xs->
  YieldAt Fence.wide 0 P (μ b).blk xs.toArray w fun e w'=>∃x,e=.returned x/\∃v H' μ' K',R v H'/\RV μ' K' v x/\Rel G μ' K' H' w'/\Fr μ K H w μ' K' H' w'
def Ys(P:Program)(G:Nat)(b:Nat)(H:Hp)(R:V->Hp->Prop):Prop:=
 ∀(μ:Nat->Pl) (K:Nat->Prop) (w:World),Rel G μ K H w->K b->∀ty:TypeId,∃y w',(Instr.next (.pointer (some ((μ b).addr 0))) false ty).run P w=.ok y w'/\∃v H' μ' K',R v H'/\RV μ' K' v y/\Rel G μ' K' H' w'/\Fr μ K H w μ' K' H' w'
def ZP:Option Nat->Fence
 |none=>Fence.wide
 |some l=>Fence.wide.inRound l
theorem WL{ρ:Option Nat}{f:FuncId}:(ZP ρ).fn f:=by cases ρ<;>trivial
theorem WM{ρ:Option Nat}:(ZP ρ).depth=none:=by cases ρ<;>rfl
theorem Xr{ρ:Option Nat}{k:Nat}:(ZP ρ).room k:=fun d hd=>by rw [WM] at hd;cases hd
theorem CU{ρ:Option Nat}{n:Nat}{P:Program}{f:FuncId}{args:Array Value}{w:World}{R:Ending->World->Prop}(h:Calls P f args w R):CallsIn (ZP ρ) n P f args w R:=by
 cases ρ with
 |none=>exact callsIn_wide.2 h
 |some l=>exact CallsIn.inRound l (callsIn_wide.2 h)
theorem tR{ρ:Option Nat}{n:Nat}{P:Program}{l:Nat}{f:FuncId}{tmps:Array Value}{assign body:Code}{w:World}{R:Ending->World->Prop}(h:RoundIn Fence.wide 0 P l f tmps assign body w R):RoundIn (ZP ρ) n P l f tmps assign body w R:=by
 cases ρ with
 |none=>exact⟨trivial,fun c cs _=>h.2 c cs (room_wide _)⟩
 |some k=>exact⟨trivial,fun c cs _=>h.2 c cs (room_wide _)⟩
abbrev zR:=List (Nat × (Hp->Prop))
def zA(ws:List Nat)(ctx:zR)(H:Hp):Prop:=
 match ws with
 |[]=>True
 |_=>∀k∈ws,∀p,(k,p)∈ctx->p H
def qE(P:Program)(G base:Nat)(Q:T V->Hp->Prop):List SOper->zR->T V->Hp->Prop
 |[],_,F,H=>Q F H
 |o::r,ctx,F,H=>
  if qv o.guard F then
   match o.op with
   |.p op=>match qy F op with
    |some v=>qE P G base Q r ctx (xI F o.dst v) H
    |none=>False
   |.l op=>match xk F H op with
    |some v=>qE P G base Q r (if o.keep then (o.id,fun H'=>xk F H' op=some v)::ctx else ctx) (xI F o.dst v) H
    |none=>False
   |.a op=>match xD F op with
    |some (bk,g)=>match o.aid with
     |none=>qE P G base Q r ctx (xI F o.dst (g H.nx)) (H.push bk)
     |some k=>qE P G base Q r ctx (xI F o.dst (g (base+k))) (H.add (base+k) bk)
    |none=>False
   |.e op=>match xq F H op with
    |some (v,H')=>zA o.watch ctx H'/\qE P G base Q r ctx (xI F o.dst v) H'
    |none=>False
   |.cf f args=>qJ P G f (args.map (·.ev F)) H fun v H'=>zA o.watch ctx H'/\qE P G base Q r ctx (xI F o.dst v) H'
   |.cv x args=>match x.ev F with
    |.one (.fn f caps)=>qB P f=true/\qJ P G f (args.map (·.ev F)++caps.map Ji) H fun v H'=>zA o.watch ctx H'/\qE P G base Q r ctx (xI F o.dst v) H'
    |.one (.yld b)=>Qd P G b (args.map (·.ev F)) H fun v H'=>zA o.watch ctx H'/\qE P G base Q r ctx (xI F o.dst v) H'
    |_=>False
   |.nx x=>match x.ev F with
    |.one (.ptr b 0)=>Ys P G b H fun v H'=>zA o.watch ctx H'/\qE P G base Q r ctx (xI F o.dst v) H'
    |_=>False
   |.no=>False
  else qE P G base Q r ctx (xI F o.dst V.undef) H
def bV(P:Program)(G n:Nat)(o:Oper):Option SOp:=
 match W3 P G n o with
 |some p=>some (.p p)
 |none=>match W4 P G n o with
  |some p=>some (.l p)
  |none=>match YW P G n o with
   |some p=>some (.a p)
   |none=>match bW P G n o with
    |some p=>some (.e p)
    |none=>match o.op with
     |.call { callee:=.value (.func f),args:=args,argTypes:=_ }=>if qB P f then (JT G n args.toList).map (.cf f) else none
     |.call { callee:=.value (.tmp t),args:=args,argTypes:=_ }=>match cO G n (.tmp t),JT G n args.toList with
      |some x,some l=>some (.cv x l)
      |_,_=>none
     |.next it false=>(cO G n it).map .nx
     |_=>none
def uN(P:Program)(G n:Nat)(o:Oper):Option SOp:=match bV P G n o with
 |some op=>some op
 |none=>some .no
def W9(n:Nat)(ops:Array Oper):Option (Nat × Bool)->Option (Option (Nat × Bool))
 |none=>some none
 |some (j,want)=>match (ops[j]?).bind (·.dst) with
  |some t=>if t<n then some (some (t,want)) else none
  |none=>none
def uW(n:Nat):Option Tmp->Bool
 |none=>true
 |some d=>d<n
def u7(P:Program)(G n:Nat)(ops:Array Oper)(o:Oper)(s:SOper):Prop:=
 uN P G n o=some s.op/\s.dst=o.dst/\uW n o.dst=true/\W9 n ops o.guard=some s.guard
section
variable{P:Program}{G n:Nat}{μ:Nat->Pl}{K:Nat->Prop}{H H':Hp}{w:World}{F:T V}{a:Act}
theorem z6.mono{μ':Nat->Pl}{K':Nat->Prop}{tmps:Array Value}(hF:z6 μ K n F tmps)(hK:∀b,K b->K' b)(hμ:∀b,K b->μ' b=μ b):z6 μ' K' n F tmps:=
 ⟨hF.1,fun i hi=>(hF.2 i hi).mono hK hμ⟩
theorem z6.put(hF:z6 μ K n F a.tmps){d:Option Tmp}(hd:uW n d=true){v:V}{x:Value}(hv:RV μ K v x):z6 μ K n (xI F d v) (a.put d x).tmps:=by
 cases d with
 |none=>exact hF
 |some d=>
  simp only [uW,xQ] at hd;refine⟨by simp [Act.put];exact hF.1,fun i hi=>?_⟩;simp only [xI,Act.put];by_cases e:i=d
  ·subst e;have:i<a.tmps.size:=by rw [hF.1];exact hi
   simp [this,hv]
  ·rw [T.get_set_ne _ _ e];have h1:=hF.2 i hi;have:(a.tmps.setIfInBounds d x).getD i Go.undef=a.tmps.getD i Go.undef:=by
    simp only [Array.getD_eq_getD_getElem?];rw [Array.getElem?_setIfInBounds_ne (fun h=>e h.symm)]
   rw [this];exact h1
theorem RV.not_bool{v:V}{b:Bool}(h:RV μ K v (.bool b)):v=.one (.bool b):=by
 cases v with
 |one c=>
  have h':RC μ K c (.bool b):=h;cases c<;>simp only [RC] at h'
  all_goals first
   |(injection h' with h';rw [h'])
   |(obtain⟨_,_,_,h',_⟩:=h';cases h')
   |(obtain⟨_,h'⟩:=h';cases h')
   |cases h'
 |agg l=>obtain⟨_,h,_⟩:=h;cases h
 |tup l=>obtain⟨_,h,_⟩:=h;cases h
theorem AP(hF:z6 μ K n F a.tmps){ops:Array Oper}{o:Oper}{g:Option (Nat × Bool)}(hg:W9 n ops o.guard=some g):Region.wanted o (yielded ops a.tmps)=qv g F:=by
 unfold Region.wanted;cases hog:o.guard with
 |none=>simp only [hog,W9,zoi] at hg;subst hg;rfl
 |some jw=>
  obtain⟨j,want⟩:=jw;simp only [hog,W9] at hg;cases hd:(ops[j]?).bind (·.dst) with
  |none=>simp [hd] at hg
  |some t=>
   simp only [hd] at hg;split at hg
   ·rename_i ht;obtain rfl:=zsi hg;have hv:=hF.2 t ht;have hts:t<a.tmps.size:=by rw [hF.1];exact ht
    have hget:a.tmps[t]?=some (a.tmps.getD t Go.undef):=by simp [hts]
    simp only [yielded,hd,Option.bind_some,hget,qv];generalize a.tmps.getD t Go.undef=x at *;generalize (F.get t).getD V.undef=v at *;cases x with
    |bool b=>
     rw [hv.not_bool];cases b<;>cases want<;>rfl
    |_=>
     have hnb:∀b,v≠.one (.bool b):=by
      rintro b rfl;cases (show _=Value.bool b from hv)
     cases v with
     |one c=>cases c<;>first|rfl|exact absurd rfl (hnb _)
     |agg l=>rfl
     |tup l=>rfl
   ·cases hg
theorem VE{f:FuncId}(h:qB P f=true)(args:Array Value)(w:World):(callFunc f args).run P w=.ok (.enter f args) w:=by
 unfold qB at h;cases hf:P.funcs[f]? with
 |none=>simp [hf] at h
 |some fn=>
  simp only [hf,xr,bne_iff_ne,ne_eq] at h;obtain⟨bd,hb⟩:=Option.isSome_iff_exists.1 h.2;simp [callFunc,hf,h.1,hb]
def Q7(ctx:zR):Prop:=∀k p,(k,p)∈ctx->∀(H:Hp) (b:Nat) (bk:B),H.get b=none->p H->p (H.add b bk)
theorem nO{H:Hp}{b i x:Nat}{bk:B}{c:C}(hn:H.get x=none)(h:H.cell b i=some c):(H.add x bk).cell b i=some c:=by
 unfold Hp.cell at h ⊢;by_cases e:b=x
 ·subst e;simp [hn] at h
 ·rw [Hp.get_add_ne _ _ e];exact h
theorem eI{H:Hp}{x:Nat}{bk:B}(hn:H.get x=none):∀{m b o:Nat} {l:List C},H.loads b o m=some l->(H.add x bk).loads b o m=some l
 |0,_,_,_,h=>h
 |m+1,b,o,l,h=>by
  simp only [Hp.loads] at h ⊢;cases hc:H.cell b o with
  |none=>simp [hc] at h
  |some c=>
   simp only [hc] at h;simp only [nO hn hc];cases hl:H.loads b (o+1) m with
   |none=>simp [hl] at h
   |some l'=>simp only [hl] at h;simp only [eI hn hl];exact h
theorem lD{F:T V}{H:Hp}{op:LoadOp}{v:V}{x:Nat}{bk:B}(hn:H.get x=none)(h:xk F H op=some v):xk F (H.add x bk) op=some v:=by
 have hm:∀b es,H.get b=some (.mp es)->(H.add x bk).get b=some (.mp es):=fun b es hb=>by
  rw [Hp.get_add_ne _ _ (fun e=>by subst e;rw [hn] at hb;cases hb)];exact hb
 cases op with
 |load agg n a=>
  simp only [xk] at h ⊢;split at h
  ·cases agg with
   |true=>
    simp only [if_true,zom] at h ⊢;obtain⟨l,hl,rfl⟩:=h;exact⟨l,eI hn hl,rfl⟩
   |false=>
    simp only [Bool.false_eq_true,if_false,zom] at h ⊢;obtain⟨c,hc,rfl⟩:=h;exact⟨c,nO hn hc,rfl⟩
  ·cases h
 |lookup z ok m k=>
  simp only [xk] at h ⊢;split at h
  ·rename_i hk;rw [if_pos hk];split at h
   ·exact h
   ·rename_i b hb;split at h
    ·rename_i es hes;simp only [hm _ _ hes];exact h
    ·cases h
   ·cases h
  ·cases h
 |mlen m=>
  simp only [xk] at h ⊢;split at h
  ·exact h
  ·rename_i b hb;split at h
   ·rename_i es hes;simp only [hm _ _ hes];exact h
   ·cases h
  ·cases h
theorem Q7.of{ctx:zR}(h:Q7 ctx)(b:Bool)(i:Nat)(op:LoadOp)(F:T V)(v:V):Q7 (if b then (i,fun H'=>xk F H' op=some v)::ctx else ctx):=by
 intro k p hp;split at hp
 ·rcases List.mem_cons.1 hp with hp|hp
  ·injection hp with _ hp
   subst hp;exact fun H b bk hn hh=>lD hn hh
  ·exact h k p hp
 ·exact h k p hp
theorem nG{o:Oper}{op:SOp}(h:bV P G n o=some op):∀c,o.op≠.defer c:=by
 intro c hc;simp [bV,W3,W4,YW,bW,hc] at h
theorem s6 {ρ:Option Nat} {nn:Nat} {ops:Array Oper} {o:Oper} {s:SOper} {r:List SOper} {ctx:zR} {base i:Nat} {Q:T V->Hp->Prop} {Q':Exit->Act->World->Prop} {Kont:Act->World->Prop}
 {μ0:Nat->Pl} {K0:Nat->Prop} {H0:Hp} {w0:World} (hlt0:∀b bk,H0.get b=some bk->b<H0.nx)
 (ho:ops[i]?=some o) (hfit:u7 P G n ops o s) (hR:Rel G μ K H w) (hF:z6 μ K n F a.tmps) (hFr:Fr μ0 K0 H0 w0 μ K H w)
 (hrs:∀k,s.aid=some k->¬K (base+k)/\base+k<H.nx/\H0.nx<=base+k)
 (hw:qE P G base Q (s::r) ctx F H)
 (hK:∀(μ':Nat->Pl) (K':Nat->Prop) (F':T V) (H':Hp) (a':Act) (w':World) (ctx':zR),Rel G μ' K' H' w'->z6 μ' K' n F' a'.tmps->Fr μ0 K0 H0 w0 μ' K' H' w'->a'.defers=a.defers->
  H.nx<=H'.nx->(∀b,b<H.nx->K' b->K b\/∃k,s.aid=some k/\b=base+k)->(∃v,F'=xI F s.dst v)->(Q7 ctx->Q7 ctx')->qE P G base Q r ctx' F' H'->Kont a' w'):
 wpOpIn (ZP ρ) nn P ops Q' i Kont a w:=by
 obtain⟨hop,hdst,hd,hgd⟩:=hfit;have hput:∀x,(a.put o.dst x).defers=a.defers:=fun x=>by cases o.dst<;>rfl
 unfold wpOpIn;rw [ho];simp only;rw [AP hF hgd];rw [qE] at hw;cases hwa:qv s.guard F with
 |false=>
  simp only [hwa,Bool.false_eq_true,if_false] at hw ⊢;rw [hdst] at hw;exact⟨fun _ _=>WL,hK μ K _ H _ w ctx hR (hF.put hd RV.undef) hFr (hput _) (Nat.le_refl _) (fun b _ h=>.inl h) ⟨_,by rw [hdst]⟩ id hw⟩
 |true=>
  simp only [hwa,if_true] at hw ⊢;have hop':bV P G n o=some s.op:=by
   unfold uN at hop;split at hop
   ·rename_i h0;rw [h0];exact hop
   ·obtain hop:=zsi hop;rw [<-hop] at hw;exact hw.elim
  replace hop:=hop';unfold Oper.wpIn;refine⟨fun _ _=>WL,?_⟩;rw [Oper.semAt_eq _ _ _ (nG hop)];rw [hdst] at hw;have val:∀(v:V) (x:Value) (ctx':zR),RV μ K v x->(Q7 ctx->Q7 ctx')->qE P G base Q r ctx' (xI F o.dst v) H->Kont (a.put o.dst x) w:=fun v x ctx' hv hcs hw'=>
   hK μ K _ H _ w ctx' hR (hF.put hd hv) hFr (hput _) (Nat.le_refl _) (fun b _ h=>.inl h) ⟨v,by rw [hdst]⟩ hcs hw'
  have call:∀(f:FuncId) (args:List V) (xs:List Value) (nx:Result Next),qg (RV μ K) args xs->nx=.ok (.enter f xs.toArray) w->
   qJ P G f args H (fun v H'=>zA s.watch ctx H'/\qE P G base Q r ctx (xI F o.dst v) H')->o.uponIn (ZP ρ) nn P a Kont Q' nx:=by
   intro f args xs nx ha hnx hc;subst hnx;rw [Oper.uponIn_enter];refine⟨fun h=>(by rw [WM] at h;cases h),CU ((hc μ K w xs hR ha).mono fun e w' he=>?_)⟩;obtain⟨x,rfl,v,H',μ',K',⟨_,h1⟩,h2,h3,h4⟩:=he;exact hK μ' K' _ H' _ w' ctx h3 ((hF.mono h4.kk h4.mu).put hd h2) (hFr.trans hlt0 h4) (hput _) h4.nx (fun b hb h=>.inl (h4.knew b hb h)) ⟨v,by rw [hdst]⟩ id h1
  unfold bV at hop;cases hp:W3 P G n o with
  |some p=>
   simp only [hp,zoi] at hop;rw [<-hop] at hw;simp only at hw;cases hv:qy F p with
   |none=>simp [hv] at hw
   |some v=>
    simp only [hv] at hw;obtain⟨x,hx,hr⟩:=N8 (P:=P) hR hF hp hv;rw [hx,Oper.uponIn_value];exact val v x ctx hr id hw
  |none=>
   simp only [hp] at hop;cases hl:W4 P G n o with
   |some p=>
    simp only [hl,zoi] at hop;rw [<-hop] at hw;simp only at hw;cases hv:xk F H p with
    |none=>simp [hv] at hw
    |some v=>
     simp only [hv] at hw;obtain⟨x,hx,hr⟩:=OQ (P:=P) hR hF hl hv;rw [hx,Oper.uponIn_value];exact val v x _ hr (fun h=>h.of _ _ _ _ _) hw
   |none=>
    simp only [hl] at hop;cases hal:YW P G n o with
    |some p=>
     simp only [hal,zoi] at hop;rw [<-hop] at hw;simp only at hw;cases hv:xD F p with
     |none=>simp [hv] at hw
     |some bg=>
      obtain⟨bk,g⟩:=bg;simp only [hv] at hw;obtain⟨hm,x,obj,sz,hx,hrb,hval⟩:=IK (P:=P) hR hF hal hv;rw [hx,Oper.uponIn_value];have hnk:¬K H.nx:=fun h=>absurd (hR.lt _ h) (by omega);cases hai:s.aid with
      |none=>
       simp only [hai] at hw;refine hK (fun i=>if i=H.nx then ⟨w.heap.size,0,sz⟩ else μ i) (fun i=>K i\/i=H.nx) _ (H.push bk) _ { w with heap:=w.heap.push obj } ctx (Rel.new hR hnk (by omega) (by omega) hm hrb)
        ((hF.mono (fun _ h=>.inl h) (fun b hb=>?_)).put hd (hval H.nx _ _ (.inr rfl) (by simp))) (Fr.new hFr hnk hFr.nx hlt0 (by omega) hm) (hput _) (by simp) (fun b hb h=>?_) ⟨_,by rw [hdst]⟩ id hw
       ·have:=hR.lt b hb;rw [if_neg (by omega)]
       ·rcases h with h|h
        ·exact .inl h
        ·omega
      |some k=>
       simp only [hai] at hw;obtain⟨r1,r2,r3⟩:=hrs k hai;refine hK (fun i=>if i=base+k then ⟨w.heap.size,0,sz⟩ else μ i) (fun i=>K i\/i=base+k) _ (H.add (base+k) bk) _ { w with heap:=w.heap.push obj } ctx (Rel.new hR r1 r2 (Nat.le_refl _) hm hrb)
        ((hF.mono (fun _ h=>.inl h) (fun b hb=>?_)).put hd (hval (base+k) _ _ (.inr rfl) (by simp))) (Fr.new hFr r1 r3 hlt0 (Nat.le_refl _) hm) (hput _) (by simp) (fun b hb h=>?_) ⟨_,by rw [hdst]⟩ id hw
       ·by_cases e:b=base+k
        ·subst e;exact absurd hb r1
        ·rw [if_neg e]
       ·rcases h with h|h
        ·exact .inl h
        ·exact .inr ⟨k,hai,h⟩
    |none=>
     simp only [hal] at hop;cases he:bW P G n o with
     |some p=>
      simp only [he,zoi] at hop;rw [<-hop] at hw;simp only at hw;cases hv:xq F H p with
      |none=>simp [hv] at hw
      |some vH=>
       obtain⟨v,H'⟩:=vH;simp only [hv] at hw;obtain⟨nx,x,w',μ',K',h1,h2,h3,h4,h5⟩:=qaa (P:=P) hR hF he hv;have hk:=hK μ' K' _ H' _ w' ctx h4 ((hF.mono h5.kk h5.mu).put hd h3) (hFr.trans hlt0 h5) (hput x) h5.nx (fun b hb h=>.inl (h5.knew b hb h)) ⟨v,by rw [hdst]⟩ id hw.2;rw [h1];rcases h2 with rfl|⟨rfl,rfl⟩
       ·rw [Oper.uponIn_value];exact hk
       ·rw [Oper.uponIn_skip];exact hk
     |none=>
      simp only [he] at hop;split at hop
      ·rename_i f args ts hoo;split at hop
       ·rename_i hfn;simp only [zom] at hop;obtain⟨ds,hds,hop⟩:=hop;rw [<-hop] at hw;refine call f _ (args.toList.map a.eval) _ (bY hR hF hds) ?_ hw;have harr:args.map a.eval=(args.toList.map a.eval).toArray:=by apply Array.ext';simp
        have hev:a.eval (.func f)=.func (.func f) #[] #[]:=rfl;simp [execOp,hoo,resolve,hev,Deferred.ofValue,invoke,VE hfn,<-harr]
       ·cases hop
      ·rename_i t args ts hoo;split at hop
       ·rename_i x l hx hl';obtain hop:=zsi hop;rw [<-hop] at hw;simp only at hw;have hv:=xf hR hF hx;split at hw
        ·rename_i f caps hxe;rw [hxe] at hv;obtain⟨hkc,hv'⟩:(∀p∈caps,K p.1)/\a.eval (.tmp t)=.func (.func f) #[] (caps.map fun p=>Value.pointer (some ((μ p.1).addr p.2))).toArray:=hv;refine call f _ (args.toList.map a.eval++caps.map fun p=>Value.pointer (some ((μ p.1).addr p.2))) _ ((bY hR hF hl').append ?_) ?_ hw.2
         ·refine qg.mk (by simp) fun j v x hv hx=>?_;simp only [List.getElem?_map,zom] at hv hx;obtain⟨p,hp,rfl⟩:=hv;obtain⟨p',hp',rfl⟩:=hx;rw [hp] at hp';obtain rfl:=zsi hp';exact⟨hkc p (zmg hp),rfl⟩
         ·simp [execOp,hoo,resolve,hv',Deferred.ofValue,invoke,VE hw.1]
        ·rename_i b hxe;rw [hxe] at hv;obtain⟨hkb,hv'⟩:K b/\a.eval (.tmp t)=.func (.yield (μ b).blk) #[] #[]:=hv;obtain⟨fn,tmps,assign,body,hy,hr⟩:=hw μ K w (args.toList.map a.eval) hR hkb (bY hR hF hl');have harr:args.map a.eval=(args.toList.map a.eval).toArray:=by apply Array.ext';simp
         have hex:(execOp a.eval o).run P w=.ok (.round (μ b).blk fn tmps assign body) w:=by
          simp only [<-harr] at hy;simp [execOp,hoo,resolve,hv',Deferred.ofValue,invoke,hy]
         rw [hex,Oper.uponIn_round];refine⟨fun h=>(by rw [WM] at h;cases h),tR (hr.mono fun e w' he=>?_)⟩;obtain⟨x,rfl,v,H',μ',K',⟨_,h1⟩,h2,h3,h4⟩:=he;exact hK μ' K' _ H' _ w' ctx h3 ((hF.mono h4.kk h4.mu).put hd h2) (hFr.trans hlt0 h4) (hput _) h4.nx (fun b hb h=>.inl (h4.knew b hb h)) ⟨v,by rw [hdst]⟩ id h1
        ·exact hw.elim
       ·cases hop
      ·rename_i it hoo;simp only [zom] at hop;obtain⟨x,hx,hop⟩:=hop;rw [<-hop] at hw;simp only at hw;have hv:=xf hR hF hx;split at hw
       ·rename_i b hxe;rw [hxe] at hv;obtain⟨hkb,hv'⟩:K b/\a.eval it=.pointer (some ((μ b).addr 0)):=hv;obtain⟨y,w',hy,v,H',μ',K',⟨_,h1⟩,h2,h3,h4⟩:=hw μ K w hR hkb o.type;have hex:(execOp a.eval o).run P w=.ok (.value y) w':=by simp [execOp,hoo,hv',hy]
        rw [hex,Oper.uponIn_value];exact hK μ' K' _ H' _ w' ctx h3 ((hF.mono h4.kk h4.mu).put hd h2) (hFr.trans hlt0 h4) (hput _) h4.nx (fun b hb h=>.inl (h4.knew b hb h)) ⟨v,by rw [hdst]⟩ id h1
       ·exact hw.elim
      ·cases hop
end
def yW(P:Program)(G n:Nat)(ops:Array Oper):List Nat->List SOper->Prop
 |[],[]=>True
 |i::xO,s::l=>(∃o,ops[i]?=some o/\u7 P G n ops o s)/\yW P G n ops xO l
 |_,_=>False
section
variable{P:Program}{G n:Nat}{ρ:Option Nat}
def JU(s:Nat)(D:List Deferred)(w:World):Prop:=s<=w.heap.size/\D.Nodup/\∀d∈D,∃r,d={ target:=.collected r,args:=#[] }/\s<=r/\w.heap[r]?=some (.deferred (some []))
theorem JU.nil{s:Nat}(w:World)(h:s<=w.heap.size):JU s [] w:=⟨h,List.nodup_nil,fun d hd=>by cases hd⟩
theorem VD{μ μ':Nat->Pl}{K K':Nat->Prop}{H H':Hp}{w w':World}(hR:Rel G μ K H w)(h:Fr μ K H w μ' K' H' w'){r:Nat}(hr:w.heap[r]?=some (.deferred (some []))):w'.heap[r]?=some (.deferred (some [])):=by
 rw [h.keep r (Array.getElem?_eq_some_iff.1 hr).1 fun b bk hb _ e=>?_]
 ·exact hr
 ·have hB:=hR.blk b bk hb;rw [e,hr] at hB;cases bk with
  |row n z m rw=>obtain⟨_,_,_,h,_⟩:=hB;cases h
  |mp es=>obtain⟨_,_,h,_⟩:=hB;cases h
  |lp st j f n F ps sg bd=>obtain⟨_,_,h,_⟩:=hB;cases h
  |st=>obtain⟨_,_,h,_⟩:=hB;cases h
  |it=>obtain⟨_,_,h,_⟩:=hB;cases h
theorem JU.fr{s:Nat}{D:List Deferred}{μ μ':Nat->Pl}{K K':Nat->Prop}{H H':Hp}{w w':World}(hR:Rel G μ K H w)(h:Fr μ K H w μ' K' H' w')(hd:JU s D w):JU s D w':=⟨Nat.le_trans hd.1 h.size,hd.2.1,fun d hx=>by
 obtain⟨r,h1,h3,h2⟩:=hd.2.2 d hx;exact⟨r,h1,h3,VD hR h h2⟩⟩
def u9(G n s:Nat)(μ0:Nat->Pl)(K0:Nat->Prop)(H0:Hp)(w0:World)(Q:Exit->T V->Hp->Prop)(e:Exit)(a:Act)(w:World):Prop:=
 JU s a.defers w/\∃F H μ K,Q e F H/\Rel G μ K H w/\z6 μ K n F a.tmps/\Fr μ0 K0 H0 w0 μ K H w
theorem B4 {nn:Nat} {D:List Deferred} {ops:Array Oper} {Q:T V->Hp->Prop} {base:Nat} {μ0:Nat->Pl} {K0:Nat->Prop} {H0:Hp} {w0:World} (hlt0:∀b bk,H0.get b=some bk->b<H0.nx) {Q':Exit->Act->World->Prop}
 (hQ:∀μ K F H a w,Q F H->Rel G μ K H w->z6 μ K n F a.tmps->Fr μ0 K0 H0 w0 μ K H w->a.defers=D->Q' .normal a w):
 ∀{l:List SOper} {xO:List Nat} {ctx:zR} {F:T V} {H:Hp} {μ:Nat->Pl} {K:Nat->Prop} {a:Act} {w:World},yW P G n ops xO l->(∀s∈l,s.aid=none)->Rel G μ K H w->z6 μ K n F a.tmps->Fr μ0 K0 H0 w0 μ K H w->a.defers=D->
  qE P G base Q l ctx F H->wpOpsIn (ZP ρ) nn P ops Q' xO a w
 |[],[],ctx,F,H,μ,K,a,w,_,_,hR,hF,hFr,hd,hw=>by
  simp only [wpOpsIn];exact hQ μ K F H a w hw hR hF hFr hd
 |s::l,i::xO,ctx,F,H,μ,K,a,w,hal,hai,hR,hF,hFr,hd,hw=>by
  obtain⟨⟨o,ho,hfit⟩,hal'⟩:=hal;rw [wpOpsIn_cons];refine s6 hlt0 ho hfit hR hF hFr (fun k hk=>by rw [hai s (by simp)] at hk;cases hk) hw fun μ' K' F' H' a' w' ctx' h1 h2 h3 h4 _ _ _ _ h6=>?_;exact B4 hlt0 hQ hal' (fun t ht=>hai t (by simp [ht])) h1 h2 h3 (h4.trans hd) h6
 |[],_::_,_,_,_,_,_,_,_,h,_,_,_,_,_,_=>h.elim
 |_::_,[],_,_,_,_,_,_,_,h,_,_,_,_,_,_=>h.elim
def jE(ρ:Option Nat)(P:Program)(G n:Nat)(c:Code)(Q:Exit->T V->Hp->Prop)(F:T V)(H:Hp):Prop:=
 ∀(s:Nat) (μ:Nat->Pl) (K:Nat->Prop) (w:World) (a:Act),Rel G μ K H w->z6 μ K n F a.tmps->JU s a.defers w->c.wpIn (ZP ρ) 0 P (u9 G n s μ K H w Q) a w
theorem u0 {id:Nat} {ops:Array Oper} {l:List SOper} {Q:Exit->T V->Hp->Prop} {F:T V} {H:Hp} (hal:yW P G n ops (List.range ops.size) l) (hai:∀s∈l,s.aid=none)
 (h:qE P G H.nx (Q .normal) l [] F H):jE ρ P G n (.region id ops false) Q F H:=by
 intro s μ K w a hR hF hd;refine wpIn_region (B4 (Q:=Q .normal) (D:=a.defers) hR.lt' (fun μ' K' F' H' a' w' h1 h2 h3 h4 h5=>⟨by rw [h5];exact hd.fr hR h4,F',H',μ',K',h1,h2,h3,h4⟩) hal hai hR hF (Fr.refl hR) rfl h)
theorem IC{Q:Exit->T V->Hp->Prop}{F:T V}{H:Hp}(h:Q .normal F H):jE ρ P G n .skip Q F H:=
 fun _ _ _ _ _ hR hF hd=>wpIn_skip ⟨hd,F,H,_,_,h,hR,hF,Fr.refl hR⟩
theorem nR{Q:Exit->T V->Hp->Prop}{F:T V}{H:Hp}{id:Nat}(h:Q (.exit id) F H):jE ρ P G n (.exit id) Q F H:=
 fun _ _ _ _ _ hR hF hd=>wpIn_exit ⟨hd,F,H,_,_,h,hR,hF,Fr.refl hR⟩
theorem r4{Q:Exit->T V->Hp->Prop}{F:T V}{H:Hp}(h:Q .ret F H):jE ρ P G n .ret Q F H:=
 fun _ _ _ _ _ hR hF hd=>wpIn_ret ⟨hd,F,H,_,_,h,hR,hF,Fr.refl hR⟩
def fN(next:T V->Hp->Prop)(Q:Exit->T V->Hp->Prop):Exit->T V->Hp->Prop
 |.normal,F,H=>next F H
 |e,F,H=>Q e F H
theorem bK {s:Nat} {μ0:Nat->Pl} {K0:Nat->Prop} {H0:Hp} {w0:World} {μ:Nat->Pl} {K:Nat->Prop} {H:Hp} {w:World} (hlt:∀b bk,H0.get b=some bk->b<H0.nx) (hFr:Fr μ0 K0 H0 w0 μ K H w) {Q:Exit->T V->Hp->Prop} {e:Exit} {a:Act} {w':World}
 (h:u9 G n s μ K H w Q e a w'):u9 G n s μ0 K0 H0 w0 Q e a w':=by
 obtain⟨hd,F,H',μ',K',h1,h2,h3,h4⟩:=h;exact⟨hd,F,H',μ',K',h1,h2,h3,hFr.trans hlt h4⟩
theorem R7{x y:Code}{Q:Exit->T V->Hp->Prop}{F:T V}{H:Hp}(h:jE ρ P G n x (fN (jE ρ P G n y Q) Q) F H):jE ρ P G n (.seq x y) Q F H:=by
 intro s μ K w a hR hF hd;refine wpIn_seq (wpIn_mono (h s μ K w a hR hF hd) fun e a' w' he=>?_);obtain⟨hd',F',H',μ',K',h1,h2,h3,h4⟩:=he;cases e with
 |normal=>exact wpIn_mono (h1 s μ' K' w' a' h2 h3 hd') fun e a'' w'' he=>bK hR.lt' h4 he
 |exit id=>exact⟨hd',F',H',μ',K',h1,h2,h3,h4⟩
 |goto l=>exact⟨hd',F',H',μ',K',h1,h2,h3,h4⟩
 |ret=>exact⟨hd',F',H',μ',K',h1,h2,h3,h4⟩
 |panic ch=>exact⟨hd',F',H',μ',K',h1,h2,h3,h4⟩
 |outgrown=>exact⟨hd',F',H',μ',K',h1,h2,h3,h4⟩
theorem IF{c:Operand}{d:Opd}{x y:Code}{Q:Exit->T V->Hp->Prop}{F:T V}{H:Hp}{t:Bool}(hc:cO G n c=some d)(ht:d.ev F=.one (.bool t))(h:jE ρ P G n (if t then x else y) Q F H):jE ρ P G n (.cond c x y) Q F H:=by
 intro s μ K w a hR hF hd;have hv:=xf hR hF hc;rw [ht] at hv;exact wpIn_cond (t:=t) hv (h s μ K w a hR hF hd)
def YX(id:Nat)(Q:Exit->T V->Hp->Prop):Exit->T V->Hp->Prop
 |.exit id',F,H=>if id'=id then Q .normal F H else Q (.exit id') F H
 |e,F,H=>Q e F H
theorem EK{id:Nat}{c:Code}{Q:Exit->T V->Hp->Prop}{F:T V}{H:Hp}(h:jE ρ P G n c (YX id Q) F H):jE ρ P G n (.block id c) Q F H:=by
 intro s μ K w a hR hF hd;refine wpIn_block (wpIn_mono (h s μ K w a hR hF hd) fun e a' w' he=>?_);obtain⟨hd',F',H',μ',K',h1,h2,h3,h4⟩:=he;cases e with
 |exit id'=>
  simp only [YX] at h1;simp only [Exit.inBlock];split
  ·rename_i e;rw [if_pos e] at h1;exact⟨hd',F',H',μ',K',h1,h2,h3,h4⟩
  ·rename_i e;rw [if_neg e] at h1;exact⟨hd',F',H',μ',K',h1,h2,h3,h4⟩
 |normal=>exact⟨hd',F',H',μ',K',h1,h2,h3,h4⟩
 |goto l=>exact⟨hd',F',H',μ',K',h1,h2,h3,h4⟩
 |ret=>exact⟨hd',F',H',μ',K',h1,h2,h3,h4⟩
 |panic ch=>exact⟨hd',F',H',μ',K',h1,h2,h3,h4⟩
 |outgrown=>exact⟨hd',F',H',μ',K',h1,h2,h3,h4⟩
theorem ID{c:Code}{Q:Exit->T V->Hp->Prop}{F:T V}{H:Hp}(I:Nat->T V->Hp->Prop){m:Nat}(h0:I m F H)(round:∀m F H,I m F H->jE ρ P G n c (fN (fun F' H'=>∃m',m'<m/\I m' F' H') Q) F H):jE ρ P G n (.loop c) Q F H:=by
 intro s μ K w a hR hF hd;let J:Nat->Act->World->Prop:=fun m a' w'=>JU s a'.defers w'/\∃F' H' μ' K',I m F' H'/\Rel G μ' K' H' w'/\z6 μ' K' n F' a'.tmps/\Fr μ K H w μ' K' H' w';have main:∀m a' w',J m a' w'->∀(b:Frame) (k:List Item) (cs:List Frame),b.roundOf=(ZP ρ).round->∃e a'' w'',u9 G n s μ K H w Q e a'' w''/\ArrivesIn (Machine.fenced P (ZP ρ)) P (lone (b.atR a' (.code c::.inLoop c::k)) cs w') b k cs e a'' w'':=by
  intro m;induction m using Nat.strongRecOn with
  |_ m ih=>
   intro a' w' hJ b k cs hro;obtain⟨hd',F',H',μ',K',h1,h2,h3,h4⟩:=hJ;obtain⟨e,a1,w1,hq,harr⟩:=round m F' H' h1 s μ' K' w' a' h2 h3 hd' b (.inLoop c::k) cs hro WL Xr;obtain⟨hd1,F1,H1,μ1,K1,g1,g2,g3,g4⟩:=hq;cases e with
   |normal=>
    obtain⟨m',hm',hI⟩:=g1;obtain⟨e2,a2,w2,hq2,harr2⟩:=ih m' hm' a1 w1 ⟨hd1,F1,H1,μ1,K1,hI,g2,g3,h4.trans hR.lt' g4⟩ b k cs hro;exact⟨e2,a2,w2,hq2,.of_steps (StepsIn.trans harr (.one (fenced_calm (n:=0) WL Xr rfl) stepR_inLoop)) harr2⟩
   |exit id=>exact⟨_,a1,w1,⟨hd1,F1,H1,μ1,K1,g1,g2,g3,h4.trans hR.lt' g4⟩,.pass (x:=.inLoop c) rfl (fun _ _=>.inl (by simp)) harr⟩
   |goto l=>exact⟨_,a1,w1,⟨hd1,F1,H1,μ1,K1,g1,g2,g3,h4.trans hR.lt' g4⟩,.pass (x:=.inLoop c) rfl (fun _ _=>.inl (by simp)) harr⟩
   |ret=>exact⟨_,a1,w1,⟨hd1,F1,H1,μ1,K1,g1,g2,g3,h4.trans hR.lt' g4⟩,.pass (x:=.inLoop c) rfl (fun _ _=>.inl (by simp)) harr⟩
   |panic ch=>exact⟨_,a1,w1,⟨hd1,F1,H1,μ1,K1,g1,g2,g3,h4.trans hR.lt' g4⟩,.pass (x:=.inLoop c) rfl (fun _ _=>.inl (by simp)) harr⟩
   |outgrown=>exact⟨_,a1,w1,⟨hd1,F1,H1,μ1,K1,g1,g2,g3,h4.trans hR.lt' g4⟩,.pass (x:=.inLoop c) rfl (fun _ _=>.inl (by simp)) harr⟩
 intro b k cs hro _ _;obtain⟨e,a',w',hq,harr⟩:=main m a w ⟨hd,F,H,μ,K,h0,hR,hF,Fr.refl hR⟩ b k cs hro;exact⟨e,a',w',hq,.of_steps (.one (fenced_calm (n:=0) WL Xr rfl) stepR_loop) harr⟩
section
variable{b:Frame}{a:Act}{k:List Item}{cs:List Frame}{w:World}{Q:Exit->Act->World->Prop}{F:Fence}{m:Nat}
theorem vX{c:Code}:step P (lone (b.atR a (.code (.scope c)::k)) cs w)=.next (lone (b.atR a (.code c::.inScope c::k)) cs w):=
 step_lone_go (by simp [stepG,stepG.exec,Frame.atR])
theorem fJ{c:Code}:step P (lone (b.atR a (.inScope c::k)) cs w)=.next (lone (b.atR a k) cs w):=
 step_lone_go (by simp [stepG,stepG.exec,Frame.atR])
def qp6(Q:Exit->Act->World->Prop):Exit->Act->World->Prop
 |.goto _,_,_=>False
 |e,a,w=>Q e a w
theorem sH{c:Code}(h:c.wpIn F m P (qp6 Q) a w):(Code.scope c).wpIn F m P Q a w:=by
 intro b k cs hro hb hr;have h0:(lone (b.atR a (.code (.scope c)::k)) cs w).fenced P F:=fenced_calm hb hr rfl;obtain⟨e,a₁,w₁,hq,harr⟩:=h b (.inScope c::k) cs hro hb hr;cases e with
 |normal=>exact⟨.normal,a₁,w₁,hq,.of_steps (.one h0 vX) (StepsIn.trans harr (.one (fenced_calm hb hr rfl) fJ))⟩
 |exit id=>exact⟨.exit id,a₁,w₁,hq,.of_steps (.one h0 vX) ⟨fun k' hk=>harr.1 k' (by simpa [exitTo] using hk),fun hr hk=>harr.2 hr (by simpa [exitTo] using hk)⟩⟩
 |goto l=>exact hq.elim
 |ret=>exact⟨.ret,a₁,w₁,hq,.of_steps (.one h0 vX) harr⟩
 |panic ch=>exact⟨.panic ch,a₁,w₁,hq,.of_steps (.one h0 vX) harr⟩
 |outgrown=>exact⟨.outgrown,a₁,w₁,hq,.of_steps (.one h0 vX) harr⟩
end
def BG(Q:Exit->T V->Hp->Prop):Exit->T V->Hp->Prop
 |.goto _,_,_=>False
 |e,F,H=>Q e F H
theorem EI{c:Code}{Q:Exit->T V->Hp->Prop}{F:T V}{H:Hp}(h:jE ρ P G n c (BG Q) F H):jE ρ P G n (.scope c) Q F H:=by
 intro s μ K w a hR hF hd;refine sH (wpIn_mono (h s μ K w a hR hF hd) fun e a' w' he=>?_);obtain⟨hd',F',H',μ',K',h1,h2,h3,h4⟩:=he;cases e with
 |goto l=>exact h1.elim
 |exit id=>exact⟨hd',F',H',μ',K',h1,h2,h3,h4⟩
 |normal=>exact⟨hd',F',H',μ',K',h1,h2,h3,h4⟩
 |ret=>exact⟨hd',F',H',μ',K',h1,h2,h3,h4⟩
 |panic ch=>exact⟨hd',F',H',μ',K',h1,h2,h3,h4⟩
 |outgrown=>exact⟨hd',F',H',μ',K',h1,h2,h3,h4⟩
theorem EJ{l:Nat}{Q:Exit->T V->Hp->Prop}{F:T V}{H:Hp}(h:Q .normal F H):jE ρ P G n (.label l) Q F H:=
 fun _ _ _ _ _ hR hF hd=>wpIn_label ⟨hd,F,H,_,_,h,hR,hF,Fr.refl hR⟩
theorem VS{c:Code}{Q Q':Exit->T V->Hp->Prop}{F:T V}{H:Hp}(h:jE ρ P G n c Q F H)(hq:∀e F H,Q e F H->Q' e F H):jE ρ P G n c Q' F H:=
 fun s μ K w a hR hF hd=>wpIn_mono (h s μ K w a hR hF hd) fun _ _ _ ⟨hd',F',H',μ',K',h1,h2⟩=>⟨hd',F',H',μ',K',hq _ _ _ h1,h2⟩
end
def Opd.tm:Opd->List Nat
 |.t n=>[n]
 |.c _=>[]
def JR:Option Opd->List Nat
 |some x=>x.tm
 |none=>[]
def lC(l:List Opd):List Nat:=l.flatMap Opd.tm
def LK(l:List (Nat × Nat × Opd)):List Nat:=l.flatMap fun p=>p.2.2.tm
def PureOp.tm:PureOp->List Nat
 |.mv x|.nilck x|.neg x|.not x|.conv _ x|.faddr _ x|.field _ _ _ x|.extract x _|.len x|.nileq _ x|.slen x|.cap x=>x.tm
 |.pick c a b=>c.tm++a.tm++b.tm
 |.build _ ps=>LK ps
 |.bin _ x y|.beq _ x y|.eqs _ _ x y|.iaddr _ x y|.aaddr _ _ x y|.aindex _ _ _ x y|.mm _ x y|.sindex x y=>x.tm++y.tm
 |.mkfn _ l=>lC l
 |.slice _ x lo hi mx=>x.tm++JR lo++JR hi++JR mx
 |.sslice x lo hi=>x.tm++JR lo++JR hi
 |.cint _=>[]
def LoadOp.tm:LoadOp->List Nat
 |.load _ _ a=>a.tm
 |.lookup _ _ m k=>m.tm++k.tm
 |.mlen m=>m.tm
def AllocOp.tm:AllocOp->List Nat
 |.alloc _|.mkmap|.mkst=>[]
 |.box x=>x.tm
 |.bslice _ _ _ ps=>LK ps
 |.mkslice _ _ _ l c=>l.tm++c.tm
def EffOp.tm:EffOp->List Nat
 |.store _ a x=>a.tm++x.tm
 |.append _ _ s x=>s.tm++x.tm
 |.copy _ d s=>d.tm++s.tm
 |.mapupd m k x=>m.tm++k.tm++x.tm
 |.clear _ _ x=>x.tm
 |.appendz _ _ _ s x=>s.tm++x.tm
 |.sbytes x=>x.tm
 |.stupd m k x=>m.tm++k.tm++x.tm
 |.rng m=>m.tm
 |.ent m=>m.tm
 |.stlook _ _ m k=>m.tm++k.tm
 |.stlen m=>m.tm
 |.stdel m k=>m.tm++k.tm
def SOp.tm:SOp->List Nat
 |.p o=>o.tm
 |.l o=>o.tm
 |.a o=>o.tm
 |.e o=>o.tm
 |.cf _ args=>lC args
 |.cv x args=>x.tm++lC args
 |.nx x=>x.tm
 |.no=>[]
def pY:Option (Nat × Bool)->List Nat
 |some (t,_)=>[t]
 |none=>[]
def SOper.tm(s:SOper):List Nat:=s.op.tm++pY s.guard
section
variable{F:T V}{d:Nat}{v:Option V}
theorem zK{x:Opd}(h:d∉x.tm):x.ev (F.set d v)=x.ev F:=by
 cases x with
 |t n=>simp only [Opd.tm,List.mem_singleton] at h;simp [Opd.ev,T.get_set_ne _ _ (fun e=>h e.symm)]
 |c w=>rfl
theorem c6:∀{l:List Opd},d∉lC l->l.map (·.ev (F.set d v))=l.map (·.ev F)
 |[],_=>rfl
 |x::l,h=>by
  simp only [lC,List.flatMap_cons,List.mem_append,not_or] at h;simp [zK h.1,c6 h.2]
theorem VG:∀{ps:List (Nat × Nat × Opd)} {z:List C},d∉LK ps->yy (F.set d v) z ps=yy F z ps
 |[],_,_=>rfl
 |(off,size,x)::ps,z,h=>by
  simp only [LK,List.flatMap_cons,List.mem_append,not_or] at h;simp only [yy,zK h.1];cases jG (x.ev F) with
  |none=>rfl
  |some cs=>simp only;rw [VG h.2]
theorem nP:∀{l:List Opd},d∉lC l->kJ (F.set d v) l=kJ F l
 |[],_=>rfl
 |x::l,h=>by
  simp only [lC,List.flatMap_cons,List.mem_append,not_or] at h;simp only [kJ,zK h.1,nP h.2]
theorem X1{x:Option Opd}{k y:Nat}(h:d∉JR x):xu (F.set d v) k y x=xu F k y x:=by
 cases x with
 |none=>rfl
 |some x=>simp only [JR] at h;simp only [xu,zK h]
theorem A6{esz:Nat}{x:V}{lo hi mx:Option Opd}(h1:d∉JR lo)(h2:d∉JR hi)(h3:d∉JR mx):jx (F.set d v) esz x lo hi mx=jx F esz x lo hi mx:=by
 unfold jx;simp only [X1 h1,X1 h2,X1 h3]
theorem sP{x:V}{lo hi:Option Opd}(h1:d∉JR lo)(h2:d∉JR hi):vD (F.set d v) x lo hi=vD F x lo hi:=by
 unfold vD;simp only [X1 h1,X1 h2]
theorem FM{o:PureOp}(h:d∉o.tm):qy (F.set d v) o=qy F o:=by
 cases o<;>simp only [PureOp.tm,List.mem_append,not_or] at h<;>simp only [qy]
 all_goals first
  |rw [zK h.1.1,sP h.1.2 h.2]
  |rw [zK h]
  |rw [VG h]
  |rw [nP h]
  |rw [zK h.1,zK h.2]
  |rw [zK h.1.1,zK h.1.2,zK h.2]
  |rw [zK h.1.1.1,A6 h.1.1.2 h.1.2 h.2]
theorem F4{o:LoadOp}{H:Hp}(h:d∉o.tm):xk (F.set d v) H o=xk F H o:=by
 cases o<;>simp only [LoadOp.tm,List.mem_append,not_or] at h<;>simp only [xk]
 all_goals first
  |rw [zK h]
  |rw [zK h.1,zK h.2]
theorem EM{o:AllocOp}(h:d∉o.tm):xD (F.set d v) o=xD F o:=by
 cases o<;>simp only [AllocOp.tm,List.mem_append,not_or] at h<;>simp only [xD]
 all_goals first
  |rw [zK h]
  |rw [VG h]
  |rw [zK h.1,zK h.2]
theorem P4{o:EffOp}{H:Hp}(h:d∉o.tm):xq (F.set d v) H o=xq F H o:=by
 cases o<;>simp only [EffOp.tm,List.mem_append,not_or] at h<;>simp only [xq]
 all_goals first
  |rw [zK h]
  |rw [zK h.1,zK h.2]
  |rw [zK h.1.1,zK h.1.2,zK h.2]
theorem sL{g:Option (Nat × Bool)}(h:d∉pY g):qv g (F.set d v)=qv g F:=by
 cases g with
 |none=>rfl
 |some p=>obtain⟨t,b⟩:=p;simp only [pY,List.mem_singleton] at h;simp [qv,T.get_set_ne _ _ (fun e=>h e.symm)]
end
def E3(y x:SOper):Bool:=
 (
  match y.dst with
  |some d=>!(x.tm.contains d)&&x.dst !=some d
  |none=>true)&&
 (
  match x.dst with
  |some d=>!(y.tm.contains d)
  |none=>true)
inductive Kd where
 |p|l|a|e|c
def SOp.kd:SOp->Kd
 |.p _=>.p
 |.l _=>.l
 |.a _=>.a
 |.e _=>.e
 |.cf _ _=>.c
 |.cv _ _=>.c
 |.nx _=>.c
 |.no=>.e
def QN(y x:SOper):Bool:=
 E3 y x&&match y.op.kd,x.op.kd with
 |.p,_=>true
 |.l,.p|.l,.l=>true
 |.l,.a=>x.aid.isSome
 |.l,.e|.l,.c=>y.keep&&x.watch.contains y.id
 |.a,.p=>true
 |.a,.a=>y.aid.isSome&&x.aid.isSome&&y.aid !=x.aid
 |.e,.p|.c,.p=>true
 |.c,.a=>x.aid.isSome
 |_,_=>false
section
variable{P:Program}{G base:Nat}{Q:T V->Hp->Prop}
theorem BD{F:T V}{d e:Option Nat}{u v:V}(h:∀k,d=some k->e≠some k):xI (xI F d u) e v=xI (xI F e v) d u:=by
 cases d with
 |none=>rfl
 |some d=>
  cases e with
  |none=>rfl
  |some e=>exact T.set_comm _ _ _ (fun he=>h d rfl (by rw [he]))
theorem J5{y x:SOper}(h:E3 y x=true):(∀d,y.dst=some d->d∉x.op.tm/\d∉pY x.guard/\x.dst≠some d)/\(∀d,x.dst=some d->d∉y.op.tm/\d∉pY y.guard):=by
 unfold E3 at h;rw [xr] at h;refine⟨fun d hd=>?_,fun d hd=>?_⟩
 ·have h1:=h.1;rw [hd] at h1;simp [SOper.tm] at h1;exact⟨h1.1.1,h1.1.2,h1.2⟩
 ·have h2:=h.2;rw [hd] at h2;simp [SOper.tm] at h2;exact⟨h2.1,h2.2⟩
structure Blind (s:SOper) (d:Option Nat):Prop where
 pure:∀F v o,s.op=.p o->qy (xI F d v) o=qy F o
 load:∀F H v o,s.op=.l o->xk (xI F d v) H o=xk F H o
 alloc:∀F v o,s.op=.a o->xD (xI F d v) o=xD F o
 eff:∀F H v o,s.op=.e o->xq (xI F d v) H o=xq F H o
 cf:∀F v f l,s.op=.cf f l->l.map (·.ev (xI F d v))=l.map (·.ev F)
 cv:∀F v x l,s.op=.cv x l->x.ev (xI F d v)=x.ev F/\l.map (·.ev (xI F d v))=l.map (·.ev F)
 nx:∀F v x,s.op=.nx x->x.ev (xI F d v)=x.ev F
 wanted:∀F v,qv s.guard (xI F d v)=qv s.guard F
theorem Blind.mk'{s:SOper}{d:Option Nat}(h:∀k,d=some k->k∉s.op.tm/\k∉pY s.guard):Blind s d:=by
 cases d with
 |none=>exact⟨fun _ _ _ _=>rfl,fun _ _ _ _ _=>rfl,fun _ _ _ _=>rfl,fun _ _ _ _ _=>rfl,fun _ _ _ _ _=>rfl,fun _ _ _ _ _=>⟨rfl,rfl⟩,fun _ _ _ _=>rfl,fun _ _=>rfl⟩
 |some d=>
  obtain⟨h1,h2⟩:=h d rfl;refine⟨fun F v o ho=>?_,fun F H v o ho=>?_,fun F v o ho=>?_,fun F H v o ho=>?_,fun F v f l ho=>?_,fun F v x l ho=>?_,fun F v x ho=>?_,fun F v=>sL h2⟩
  ·rw [ho] at h1;exact FM h1
  ·rw [ho] at h1;exact F4 h1
  ·rw [ho] at h1;exact EM h1
  ·rw [ho] at h1;exact P4 h1
  ·rw [ho] at h1;exact c6 h1
  ·rw [ho] at h1;simp only [SOp.tm,List.mem_append,not_or] at h1;exact⟨zK h1.1,c6 h1.2⟩
  ·rw [ho] at h1;exact zK h1
end
section
variable{P:Program}{G base:Nat}{Q:T V->Hp->Prop}
inductive Cal where
 |fu (f:FuncId)
 |yl (b:Nat)
 |nx (b:Nat)
def Cal.k(K:Nat->Prop):Cal->Prop
 |.fu _=>True
 |.yl b=>K b
 |.nx b=>K b
def Cal.run(P:Program)(μ:Nat->Pl)(xs:Array Value)(w:World)(R:Ending->World->Prop):Cal->Prop
 |.fu f=>Calls P f xs w R
 |.yl b=>YieldAt Fence.wide 0 P (μ b).blk xs w R
 |.nx b=>∀ty:TypeId,∃y w',(Instr.next (.pointer (some ((μ b).addr 0))) false ty).run P w=.ok y w'/\R (.returned y) w'
theorem Cal.run_mono{c:Cal}{μ:Nat->Pl}{xs:Array Value}{w:World}{R R':Ending->World->Prop}(h:c.run P μ xs w R)(hr:∀e w',R e w'->R' e w'):c.run P μ xs w R':=by
 cases c with
 |fu f=>exact Calls.mono h hr
 |yl b=>obtain⟨fn,tmps,sg,bd,h1,h2⟩:=h;exact⟨fn,tmps,sg,bd,h1,h2.mono hr⟩
 |nx b=>
  intro ty;obtain⟨y,w',h1,h2⟩:=h ty;exact⟨y,w',h1,hr _ _ h2⟩
def Yt(P:Program)(G:Nat)(c:Cal)(args:List V)(H:Hp)(R:V->Hp->Prop):Prop:=
 ∀(μ:Nat->Pl) (K:Nat->Prop) (w:World) (xs:List Value),Rel G μ K H w->qg (RV μ K) args xs->c.k K->
  c.run P μ xs.toArray w fun e w'=>∃x,e=.returned x/\∃v H' μ' K',R v H'/\RV μ' K' v x/\Rel G μ' K' H' w'/\Fr μ K H w μ' K' H' w'
theorem KP{f:FuncId}{args:List V}{H:Hp}{R:V->Hp->Prop}:Yt P G (.fu f) args H R↔qJ P G f args H R:=
 ⟨fun h μ K w xs hR ha=>h μ K w xs hR ha trivial,fun h μ K w xs hR ha _=>h μ K w xs hR ha⟩
theorem fZ{b:Nat}{args:List V}{H:Hp}{R:V->Hp->Prop}:Yt P G (.yl b) args H R↔Qd P G b args H R:=
 ⟨fun h μ K w xs hR hK ha=>h μ K w xs hR ha hK,fun h μ K w xs hR ha hK=>h μ K w xs hR hK ha⟩
theorem f0{b:Nat}{H:Hp}{R:V->Hp->Prop}:Yt P G (.nx b) [] H R↔Ys P G b H R:=by
 constructor
 ·intro h μ K w hR hK ty;obtain⟨y,w',h1,x,he,h2⟩:=h μ K w [] hR trivial hK ty;injection he with he
  subst he;exact⟨_,w',h1,h2⟩
 ·intro h μ K w xs hR _ hK ty;obtain⟨y,w',h1,h2⟩:=h μ K w hR hK ty;exact⟨y,w',h1,y,rfl,h2⟩
theorem Yt.mono{f:Cal}{args:List V}{H:Hp}{R R':V->Hp->Prop}(h:Yt P G f args H R)(hr:∀v H',R v H'->R' v H'):Yt P G f args H R':=
 fun μ K w xs hR ha hK=>Cal.run_mono (h μ K w xs hR ha hK) fun _ _ ⟨x,he,v,H',μ',K',h1,h2⟩=>⟨x,he,v,H',μ',K',hr _ _ h1,h2⟩
theorem Yt.keeps{f:Cal}{args:List V}{H:Hp}{R:V->Hp->Prop}(h:Yt P G f args H R):Yt P G f args H fun v H'=>R v H'/\H.nx<=H'.nx/\∀b,b<H.nx->H.get b=none->H'.get b=none:=
 fun μ K w xs hR ha hK=>Cal.run_mono (h μ K w xs hR ha hK) fun _ _ ⟨x,he,v,H',μ',K',h1,h2,h3,h4⟩=>⟨x,he,v,H',μ',K',⟨h1,h4.nx,h4.none⟩,h2,h3,h4⟩
theorem Yt.frame{f:Cal}{args:List V}{H:Hp}{R:V->Hp->Prop}(h:Yt P G f args H R){x:Nat}{bk:B}(hx:x<H.nx)(hn:H.get x=none)(hm:bk.mut=true):
 Yt P G f args (H.add x bk) fun v H''=>∃H',R v H'/\H''=H'.add x bk:=by
 intro μ K w xs hR ha hKK;have hget:∀(H:Hp) i,(H.add x bk).get i=if i=x then some bk else H.get i:=fun H i=>Hp.get_add H x i bk
 have hkx:K x:=hR.dom x bk (by simp);have hne:∀i k,H.get i=some k->i≠x:=fun i k hi e=>by subst e;rw [hn] at hi;cases hi
 have hR1:Rel G μ K H w:=⟨fun b k hb=>hR.dom b k (by rw [hget,if_neg (hne b k hb)];exact hb),hR.lt,fun b k hb=>hR.blk b k (by rw [hget,if_neg (hne b k hb)];exact hb),
  fun b b' k k' hb hb'=>hR.inj b b' k k' (by rw [hget,if_neg (hne b k hb)];exact hb) (by rw [hget,if_neg (hne b' k' hb')];exact hb'),hR.glob⟩
 have hxx:(H.add x bk).get x=some bk:=by simp
 have hblk:=hR.blk x bk hxx;have hbl:=hR.blk_lt hxx;have hfar:∀b k,H.get b=some k->(μ b).blk≠(μ x).blk:=fun b k hb he=>hne b k hb (hR.inj x b bk k hxx (by rw [hget,if_neg (hne b k hb)];exact hb) hm he.symm).symm;refine Cal.run_mono (h μ K w xs hR1 ha hKK) ?_;rintro e w' ⟨y,rfl,v,H',μ',K',h1,h2,h3,h4⟩;have hn':H'.get x=none:=h4.none x hx hn;have hne':∀i k,H'.get i=some k->i≠x:=fun i k hi e=>by subst e;rw [hn'] at hi;cases hi
 have hmux:μ' x=μ x:=h4.mu x hkx;have hkeep:w'.heap[(μ x).blk]?=w.heap[(μ x).blk]?:=h4.keep _ hbl fun b k hb _=>hfar b k hb;have hfar':∀b k,H'.get b=some k->(μ' b).blk≠(μ x).blk:=by
  intro b k hb he;by_cases hlt:b<H.nx
  ·cases hg:H.get b with
   |none=>rw [h4.none b hlt hg] at hb;cases hb
   |some k0=>
    rw [h4.mu b (hR1.dom b k0 hg)] at he;exact hfar b k0 hg he
  ·rcases h4.newmut b k (by omega) hb with hm1|⟨_,hge⟩
   ·rcases h4.img b k hb hm1 with⟨b0,k0,g0,_,e0⟩|hge
    ·exact hfar b0 k0 g0 (e0.trans he)
    ·omega
   ·omega
 refine⟨y,rfl,v,H'.add x bk,μ',K',⟨H',h1,rfl⟩,h2,⟨fun b k hb=>?_,h3.lt,fun b k hb=>?_,fun b b' k k' hb hb' hm' he=>?_,h3.glob⟩,?_⟩
 ·rw [hget] at hb;split at hb
  ·rename_i e;subst e;exact h4.kk _ hkx
  ·exact h3.dom b k hb
 ·rw [hget] at hb;split at hb
  ·rename_i e;subst e;obtain rfl:=zsi hb;rw [hmux,hkeep];exact hblk.mono h4.kk h4.mu
  ·exact h3.blk b k hb
 ·rw [hget] at hb hb';by_cases e1:b=x
  ·by_cases e2:b'=x
   ·rw [e1,e2]
   ·rw [if_neg e2] at hb';rw [e1,hmux] at he;exact absurd he.symm (hfar' b' k' hb')
  ·by_cases e2:b'=x
   ·rw [if_neg e1] at hb;rw [e2,hmux] at he;exact absurd he (hfar' b k hb)
   ·rw [if_neg e1] at hb;rw [if_neg e2] at hb';exact h3.inj b b' k k' hb hb' hm' he
 ·refine⟨h4.same,h4.size,fun i hi hn=>h4.keep i hi fun b k hb hm=>hn b k (by rw [hget,if_neg (hne b k hb)];exact hb) hm,fun b k hb hm'=>?_,fun b k hb hk=>?_,h4.mu,h4.kk,h4.knew,h4.nx,fun b hb hn=>?_,fun b k k' hb hb'=>?_,fun b k hb hm'=>?_⟩
  ·rw [hget] at hb;split at hb
   ·rename_i e;subst e;exact .inl ⟨b,bk,by simp,hm,by rw [hmux]⟩
   ·rcases h4.img b k hb hm' with⟨b0,k0,g0,m0,e0⟩|hge
    ·exact .inl ⟨b0,k0,by rw [hget,if_neg (hne b0 k0 g0)];exact g0,m0,e0⟩
    ·exact .inr hge
  ·rw [hget] at hk;simp at hb;rw [if_neg (by omega)] at hk;exact h4.newmut b k hb hk
  ·rw [hget] at hn ⊢;split at hn
   ·cases hn
   ·rename_i e;rw [if_neg e];exact h4.none b hb hn
  ·rw [hget] at hb hb';split at hb
   ·rename_i e;rw [if_pos e] at hb';rw [zsi hb] at hb';rw [zsi hb']
   ·rename_i e;rw [if_neg e] at hb';exact h4.stay b k k' hb hb'
  ·rw [hget] at hb ⊢;split at hb
   ·rename_i e;rw [if_pos e];exact hb
   ·rename_i e;rw [if_neg e];exact h4.ro b k hb hm'
theorem qJ.mono{f:FuncId}{args:List V}{H:Hp}{R R':V->Hp->Prop}(h:qJ P G f args H R)(hr:∀v H',R v H'->R' v H'):qJ P G f args H R':=KP.1 ((KP.2 h).mono hr)
theorem Qd.mono{b:Nat}{args:List V}{H:Hp}{R R':V->Hp->Prop}(h:Qd P G b args H R)(hr:∀v H',R v H'->R' v H'):Qd P G b args H R':=fZ.1 ((fZ.2 h).mono hr)
theorem Ys.mono{b:Nat}{H:Hp}{R R':V->Hp->Prop}(h:Ys P G b H R)(hr:∀v H',R v H'->R' v H'):Ys P G b H R':=f0.1 ((f0.2 h).mono hr)
theorem wW{ws:List Nat}{ctx ctx':zR}{H:Hp}(hs:∀x,x∈ctx'->x∈ctx)(h:zA ws ctx H):zA ws ctx' H:=by
 cases ws with
 |nil=>trivial
 |cons k r=>exact fun j hj p hp=>h j hj p (hs _ hp)
theorem jc:∀{l:List SOper} {ctx ctx':zR} {F:T V} {H:Hp},(∀x,x∈ctx'->x∈ctx)->qE P G base Q l ctx F H->qE P G base Q l ctx' F H
 |[],_,_,_,_,_,h=>h
 |o::r,ctx,ctx',F,H,hs,h=>by
  rw [qE] at h ⊢;split at h
  ·rename_i hw;rw [if_pos hw];cases hop:o.op with
   |p op=>
    simp only [hop] at h ⊢;cases hv:qy F op with
    |none=>simp [hv] at h
    |some v=>simp only [hv] at h ⊢;exact jc hs h
   |l op=>
    simp only [hop] at h ⊢;cases hv:xk F H op with
    |none=>simp [hv] at h
    |some v=>
     simp only [hv] at h ⊢;refine jc (fun x hx=>?_) h;cases hk:o.keep with
     |false=>simp only [hk,Bool.false_eq_true,if_false] at hx ⊢;exact hs x hx
     |true=>
      simp only [hk,if_true,List.mem_cons] at hx ⊢;exact hx.imp id (hs x)
   |a op=>
    simp only [hop] at h ⊢;cases hv:xD F op with
    |none=>simp [hv] at h
    |some v=>
     simp only [hv] at h ⊢;cases hai:o.aid with
     |none=>simp only [hai] at h ⊢;exact jc hs h
     |some k=>simp only [hai] at h ⊢;exact jc hs h
   |e op=>
    simp only [hop] at h ⊢;cases hv:xq F H op with
    |none=>simp [hv] at h
    |some v=>simp only [hv] at h ⊢;exact⟨wW hs h.1,jc hs h.2⟩
   |cf f args=>
    simp only [hop] at h ⊢;exact h.mono fun v H' hh=>⟨wW hs hh.1,jc hs hh.2⟩
   |cv x args=>
    simp only [hop] at h ⊢;split at h
    ·exact⟨h.1,h.2.mono fun v H' hh=>⟨wW hs hh.1,jc hs hh.2⟩⟩
    ·exact Qd.mono h fun v H' hh=>⟨wW hs hh.1,jc hs hh.2⟩
    ·exact h.elim
   |nx x=>
    simp only [hop] at h ⊢;split at h
    ·exact Ys.mono h fun v H' hh=>⟨wW hs hh.1,jc hs hh.2⟩
    ·exact h.elim
   |no=>simp only [hop] at h
  ·rename_i hw;rw [if_neg hw];exact jc hs h
end
section
variable{P:Program}{G base:Nat}{Q:T V->Hp->Prop}
def vg(P:Program)(o:SOp)(F:T V):Option (Cal × List V):=
 match o with
 |.cf f args=>some (.fu f,args.map (·.ev F))
 |.cv x args=>match x.ev F with
  |.one (.fn f caps)=>if qB P f then some (.fu f,args.map (·.ev F)++caps.map Ji) else none
  |.one (.yld b)=>some (.yl b,args.map (·.ev F))
  |_=>none
 |.nx x=>match x.ev F with
  |.one (.ptr b 0)=>some (.nx b,[])
  |_=>none
 |_=>none
def km(o:SOper)(F:T V)(v:V):Prop:=(qv o.guard F=false/\v=V.undef)\/(qv o.guard F=true/\∃op,o.op=.p op/\qy F op=some v)
def Q3(o:SOper)(op:LoadOp)(F:T V)(v:V)(ctx:zR):zR:=if o.keep then (o.id,fun H'=>xk F H' op=some v)::ctx else ctx
def wd(base:Nat)(o:SOper)(H:Hp):Nat:=match o.aid with
 |none=>H.nx
 |some k=>base+k
def yV(base:Nat)(o:SOper)(H:Hp)(bk:B):Hp:=match o.aid with
 |none=>H.push bk
 |some k=>H.add (base+k) bk
theorem Xc{o:SOper}{r:List SOper}{ctx:zR}{F:T V}{H:Hp}(h:qE P G base Q (o::r) ctx F H):
 (∃v,km o F v/\qE P G base Q r ctx (xI F o.dst v) H)\/
 (qv o.guard F=true/\∃op v,o.op=.l op/\xk F H op=some v/\qE P G base Q r (Q3 o op F v ctx) (xI F o.dst v) H)\/
 (qv o.guard F=true/\∃op bk g,o.op=.a op/\xD F op=some (bk,g)/\qE P G base Q r ctx (xI F o.dst (g (wd base o H))) (yV base o H bk))\/
 (qv o.guard F=true/\∃op v H',o.op=.e op/\xq F H op=some (v,H')/\zA o.watch ctx H'/\qE P G base Q r ctx (xI F o.dst v) H')\/
 (qv o.guard F=true/\o.op.kd=.c/\∃f args,vg P o.op F=some (f,args)/\Yt P G f args H fun v H'=>zA o.watch ctx H'/\qE P G base Q r ctx (xI F o.dst v) H'):=by
 rw [qE] at h;split at h
 ·rename_i hw;cases hop:o.op with
  |p op=>
   simp only [hop] at h;cases hv:qy F op with
   |none=>simp [hv] at h
   |some v=>simp only [hv] at h;exact .inl ⟨v,.inr ⟨hw,op,hop,hv⟩,h⟩
  |l op=>
   simp only [hop] at h;cases hv:xk F H op with
   |none=>simp [hv] at h
   |some v=>simp only [hv] at h;exact .inr (.inl ⟨hw,op,v,rfl,hv,h⟩)
  |a op=>
   simp only [hop] at h;cases hv:xD F op with
   |none=>simp [hv] at h
   |some bg=>
    simp only [hv] at h;refine .inr (.inr (.inl ⟨hw,op,bg.1,bg.2,rfl,hv,?_⟩));unfold wd yV;cases hai:o.aid<;>simp only [hai] at h ⊢<;>exact h
  |e op=>
   simp only [hop] at h;cases hv:xq F H op with
   |none=>simp [hv] at h
   |some v=>simp only [hv] at h;exact .inr (.inr (.inr (.inl ⟨hw,op,v.1,v.2,rfl,hv,h.1,h.2⟩)))
  |cf f args=>
   simp only [hop] at h;exact .inr (.inr (.inr (.inr ⟨hw,rfl,.fu f,_,rfl,KP.2 h⟩)))
  |cv x args=>
   simp only [hop] at h;split at h
   ·rename_i f caps hx;exact .inr (.inr (.inr (.inr ⟨hw,rfl,.fu f,_,by simp [vg,hx,h.1],KP.2 h.2⟩)))
   ·rename_i b hx;exact .inr (.inr (.inr (.inr ⟨hw,rfl,.yl b,_,by simp [vg,hx],fZ.2 h⟩)))
   ·exact h.elim
  |nx x=>
   simp only [hop] at h;split at h
   ·rename_i b hx;exact .inr (.inr (.inr (.inr ⟨hw,rfl,.nx b,_,by simp [vg,hx],f0.2 h⟩)))
   ·exact h.elim
  |no=>simp only [hop] at h
 ·rename_i hw;exact .inl ⟨V.undef,.inl ⟨by simpa using hw,rfl⟩,h⟩
theorem yv{o:SOper}{r:List SOper}{ctx:zR}{F:T V}{H:Hp}{v:V}(hp:km o F v)(h:qE P G base Q r ctx (xI F o.dst v) H):qE P G base Q (o::r) ctx F H:=by
 rw [qE];rcases hp with⟨hw,rfl⟩|⟨hw,op,hop,hv⟩
 ·simpa [hw] using h
 ·simpa [hw,hop,hv] using h
theorem XL{o:SOper}{r:List SOper}{ctx:zR}{F:T V}{H:Hp}{v:V}{op:LoadOp}(hw:qv o.guard F=true)(hop:o.op=.l op)(hv:xk F H op=some v)(h:qE P G base Q r (Q3 o op F v ctx) (xI F o.dst v) H):
 qE P G base Q (o::r) ctx F H:=by
 rw [qE];simp only [hw,if_true,hop,hv];exact h
theorem wX {o:SOper} {r:List SOper} {ctx:zR} {F:T V} {H:Hp} {bk:B} {g:Nat->V} {op:AllocOp} (hw:qv o.guard F=true) (hop:o.op=.a op) (hv:xD F op=some (bk,g))
 (h:qE P G base Q r ctx (xI F o.dst (g (wd base o H))) (yV base o H bk)):qE P G base Q (o::r) ctx F H:=by
 rw [qE];simp only [hw,if_true,hop,hv];unfold wd yV at h;cases hai:o.aid<;>simp only [hai] at h ⊢<;>exact h
theorem Y3{o:SOper}{r:List SOper}{ctx:zR}{F:T V}{H H':Hp}{v:V}{op:EffOp}(hw:qv o.guard F=true)(hop:o.op=.e op)(hv:xq F H op=some (v,H'))(hwa:zA o.watch ctx H')(h:qE P G base Q r ctx (xI F o.dst v) H'):
 qE P G base Q (o::r) ctx F H:=by
 rw [qE];simp only [hw,if_true,hop,hv];exact⟨hwa,h⟩
theorem Qs {o:SOper} {r:List SOper} {ctx:zR} {F:T V} {H:Hp} {f:Cal} {args:List V} (hw:qv o.guard F=true) (hc:vg P o.op F=some (f,args))
 (h:Yt P G f args H fun v H'=>zA o.watch ctx H'/\qE P G base Q r ctx (xI F o.dst v) H'):qE P G base Q (o::r) ctx F H:=by
 rw [qE];simp only [hw,if_true];cases hop:o.op<;>simp only [hop,vg] at hc<;>try (cases hc;done)
 ·obtain⟨rfl,rfl⟩:_/\_:=by simpa using hc
  exact KP.1 h
 ·simp only;split at hc
  ·rename_i f' caps hx;split at hc
   ·rename_i hf;obtain⟨rfl,rfl⟩:_/\_:=by simpa using hc
    try simp only [hx]
    exact⟨hf,KP.1 h⟩
   ·cases hc
  ·rename_i b hx;obtain⟨rfl,rfl⟩:_/\_:=by simpa using hc
   try simp only [hx]
   exact fZ.1 h
  ·cases hc
 ·simp only;split at hc
  ·rename_i b hx;obtain⟨rfl,rfl⟩:_/\_:=by simpa using hc
   try simp only [hx]
   exact f0.1 h
  ·cases hc
def JI(base:Nat)(ks:List Nat)(H:Hp):Prop:=∀k∈ks,base+k<H.nx/\H.get (base+k)=none
theorem kL:∀{l:List C} {H H':Hp} {b o:Nat},H.stores b o l=some H'->H'.nx=H.nx/\∀i,H.get i=none->H'.get i=none
 |[],H,H',b,o,h=>by simp [Hp.stores] at h;subst h;exact⟨rfl,fun _ h=>h⟩
 |c::l,H,H',b,o,h=>by
  simp only [Hp.stores] at h;cases hs:H.store b o c with
  |none=>simp [hs] at h
  |some H1=>
   simp only [hs] at h;obtain⟨h1,h2⟩:=kL h;unfold Hp.store at hs;split at hs
   ·rename_i n z m hb;split at hs
    ·obtain rfl:=zsi hs;refine⟨h1,fun i hi=>h2 i ?_⟩;rw [Hp.get_add];split
     ·rename_i e;subst e;rw [hb] at hi;cases hi
     ·exact hi
    ·cases hs
   ·cases hs
theorem Kc{H H':Hp}{esz bytes m:Nat}{s v:V}{news:List C}(h:zq H esz bytes s m news=some (v,H')):H.nx<=H'.nx/\∀b,b<H.nx->H.get b=none->H'.get b=none:=by
 unfold zq at h;split at h
 ·split at h
  ·simp only [zoi,zpi] at h;obtain⟨_,rfl⟩:=h;exact⟨Nat.le_refl _,fun _ _ h=>h⟩
  ·split at h
   ·simp only [zoi,zpi] at h;obtain⟨_,rfl⟩:=h;exact⟨by simp,fun b hb hn=>by rw [Hp.get_push,if_neg (by omega)];exact hn⟩
   ·cases h
 ·split at h
  ·cases h
  ·split at h
   ·simp only [zom,zpi] at h;obtain⟨H1,hs,_,rfl⟩:=h;have:=kL hs;exact⟨by omega,fun b _ hb=>this.2 b hb⟩
   ·split at h
    ·split at h
     ·cases h
     ·split at h
      ·simp only [zoi,zpi] at h;obtain⟨_,rfl⟩:=h;exact⟨by simp,fun b hb hn=>by rw [Hp.get_push,if_neg (by omega)];exact hn⟩
      ·split at h
       ·simp only [zoi,zpi] at h;obtain⟨_,rfl⟩:=h;refine⟨by simp,fun b hb hn=>?_⟩;rw [Hp.get_del];split
        ·rfl
        ·rw [Hp.get_push,if_neg (by omega)];exact hn
       ·cases h
    ·cases h
 ·cases h
theorem DH{F:T V}{H H':Hp}{op:EffOp}{v:V}(h:xq F H op=some (v,H')):H.nx<=H'.nx/\∀b,b<H.nx->H.get b=none->H'.get b=none:=by
 cases op with
 |store n a x=>
  simp only [xq] at h;split at h
  ·split at h
   ·simp only [zom,zpi] at h;obtain⟨H1,hs,_,rfl⟩:=h;have:=kL hs;exact⟨by omega,fun b _ hb=>this.2 b hb⟩
   ·cases h
  ·cases h
 |append esz bytes s x=>
  simp only [xq] at h;split at h
  ·exact Kc h
  ·cases h
 |appendz esz bytes z s x=>
  simp only [xq] at h;split at h
  ·split at h
   ·exact Kc h
   ·cases h
  ·cases h
 |sbytes x=>
  simp only [xq] at h;split at h
  ·simp only [zoi,zpi] at h;obtain⟨_,rfl⟩:=h;exact⟨by simp,fun b hb hn=>by rw [Hp.get_push,if_neg (by omega)];exact hn⟩
  ·cases h
 |copy esz d s=>
  simp only [xq] at h;split at h
  ·simp only [zoi,zpi] at h;obtain⟨_,rfl⟩:=h;exact⟨Nat.le_refl _,fun _ _ h=>h⟩
  ·split at h
   ·simp only [zom,zpi] at h;obtain⟨H1,hs,_,rfl⟩:=h;have:=kL hs;exact⟨by omega,fun b _ hb=>this.2 b hb⟩
   ·cases h
  ·cases h
 |stlook z ok m k=>
  have hH:H'=H:=by
   simp only [xq] at h;split at h
   ·split at h
    ·split at h
     ·simp only [zoi,zpi] at h;exact h.2.symm
     ·split at h
      ·simp only [zoi,zpi] at h;exact h.2.symm
      ·cases h
     ·cases h
    ·cases h
   ·cases h
  subst hH;exact⟨Nat.le_refl _,fun _ _ h=>h⟩
 |stlen m=>
  have hH:H'=H:=by
   simp only [xq] at h;split at h
   ·split at h
    ·simp only [zoi,zpi] at h;exact h.2.symm
    ·cases h
   ·cases h
  subst hH;exact⟨Nat.le_refl _,fun _ _ h=>h⟩
 |stdel m k=>
  simp only [xq] at h;split at h
  ·split at h
   ·rename_i b _ _ _ es clk hb;split at h
    ·simp only [zoi,zpi] at h;obtain⟨_,rfl⟩:=h;refine⟨Nat.le_refl _,fun i _ hi=>?_⟩;rw [Hp.get_add];split
     ·rename_i e;subst e;rw [hb] at hi;cases hi
     ·exact hi
    ·simp only [zoi,zpi] at h;obtain⟨_,rfl⟩:=h;refine⟨Nat.le_refl _,fun i _ hi=>?_⟩;rw [Hp.get_add];split
     ·rename_i e;subst e;rw [hb] at hi;cases hi
     ·exact hi
    ·cases h
   ·cases h
  ·cases h
 |ent m=>
  have hH:H'=H:=by
   simp only [xq] at h;split at h
   ·split at h
    ·split at h
     ·split at h
      ·split at h
       ·simp only [zoi,zpi] at h;exact h.2.symm
       ·cases h
      ·cases h
     ·cases h
    ·cases h
   ·cases h
  subst hH;exact⟨Nat.le_refl _,fun _ _ h=>h⟩
 |rng m=>
  simp only [xq] at h;split at h
  ·split at h
   ·simp only [zoi,zpi] at h;obtain⟨_,rfl⟩:=h;exact⟨by simp,fun b hb hn=>by rw [Hp.get_push,if_neg (by omega)];exact hn⟩
   ·cases h
  ·cases h
 |stupd m k x=>
  simp only [xq] at h;split at h
  ·split at h
   ·rename_i b _ _ _ _ _ _ es hb;split at h
    ·simp only [zoi,zpi] at h;obtain⟨_,rfl⟩:=h;refine⟨Nat.le_refl _,fun i _ hi=>?_⟩;rw [Hp.get_add];split
     ·rename_i e;subst e;rw [hb] at hi;cases hi
     ·exact hi
    ·simp only [zoi,zpi] at h;obtain⟨_,rfl⟩:=h;refine⟨Nat.le_refl _,fun i _ hi=>?_⟩;rw [Hp.get_add];split
     ·rename_i e;subst e;rw [hb] at hi;cases hi
     ·exact hi
    ·cases h
   ·cases h
  ·cases h
 |mapupd m k x=>
  simp only [xq] at h;split at h
  ·split at h
   ·rename_i b _ es hb;split at h
    ·split at h
     ·simp only [zoi,zpi] at h;obtain⟨_,rfl⟩:=h;refine⟨Nat.le_refl _,fun i _ hi=>?_⟩;rw [Hp.get_add];split
      ·rename_i e;subst e;rw [hb] at hi;cases hi
      ·exact hi
     ·simp only [zoi,zpi] at h;obtain⟨_,rfl⟩:=h;refine⟨Nat.le_refl _,fun i _ hi=>?_⟩;rw [Hp.get_add];split
      ·rename_i e;subst e;rw [hb] at hi;cases hi
      ·exact hi
     ·cases h
    ·cases h
   ·cases h
  ·cases h
 |clear esz z x=>
  simp only [xq] at h;split at h
  ·simp only [zoi,zpi] at h;obtain⟨_,rfl⟩:=h;exact⟨Nat.le_refl _,fun _ _ h=>h⟩
  ·split at h
   ·simp only [zom,zpi] at h;obtain⟨H1,hs,_,rfl⟩:=h;have:=kL hs;exact⟨by omega,fun b _ hb=>this.2 b hb⟩
   ·cases h
  ·cases h
theorem JI.of_keeps{ks:List Nat}{H H':Hp}(hf:JI base ks H)(h:H.nx<=H'.nx/\∀b,b<H.nx->H.get b=none->H'.get b=none):JI base ks H':=
 fun k hk=>⟨by have:=(hf k hk).1;omega,h.2 _ (hf k hk).1 (hf k hk).2⟩
theorem JI.of_alloc{ks:List Nat}{H:Hp}{o:SOper}(hf:JI base ks H)(bk:B)(hk:∀k,o.aid=some k->k∉ks):JI base ks (yV base o H bk):=by
 unfold yV;cases hai:o.aid with
 |none=>exact fun k hk'=>⟨by have:=(hf k hk').1;simp;omega,by rw [Hp.get_push,if_neg (by have:=(hf k hk').1;omega)];exact (hf k hk').2⟩
 |some j=>
  refine fun k hk'=>⟨(hf k hk').1,?_⟩;rw [Hp.get_add,if_neg (fun e=>hk j hai (by
   have:k=j:=by omega
   rw [<-this];exact hk'))]
  exact (hf k hk').2
end
section
variable{P:Program}{G base:Nat}{Q:T V->Hp->Prop}
abbrev Zm:=Q7
theorem Zm.of{ctx:zR}(h:Zm ctx)(o:SOper)(op:LoadOp)(F:T V)(v:V):Zm (Q3 o op F v ctx):=Q7.of h _ _ _ _ _
theorem AV {o:SOper} {r1 r2:List SOper} {ctx:zR} {F:T V} {H:Hp} {ks:List Nat} (hst:Zm ctx) (hf:JI base ks H) (hai:∀k,o.aid=some k->k∉ks)
 (hr:∀ctx v H',Zm ctx->JI base ks H'->qE P G base Q r1 ctx (xI F o.dst v) H'->qE P G base Q r2 ctx (xI F o.dst v) H') (h:qE P G base Q (o::r1) ctx F H):qE P G base Q (o::r2) ctx F H:=by
 rcases Xc h with⟨v,hp,h⟩|⟨hw,op,v,hop,hv,h⟩|⟨hw,op,bk,g,hop,hv,h⟩|⟨hw,op,v,H',hop,hv,hwa,h⟩|⟨hw,_,f,args,hc,h⟩
 ·exact yv hp (hr _ _ _ hst hf h)
 ·exact XL hw hop hv (hr _ _ _ (Zm.of hst _ _ _ _) hf h)
 ·exact wX hw hop hv (hr _ _ _ hst (hf.of_alloc bk hai) h)
 ·exact Y3 hw hop hv hwa (hr _ _ _ hst (hf.of_keeps (DH hv)) h)
 ·exact Qs hw hc (h.keeps.mono fun v H' hh=>⟨hh.1.1,hr _ _ _ hst (hf.of_keeps hh.2) hh.1.2⟩)
theorem EN{F:T V}{op:AllocOp}{bk:B}{g:Nat->V}(h:xD F op=some (bk,g)):bk.mut=true:=by
 cases op<;>simp only [xD] at h
 case alloc=>simp only [zoi,zpi] at h;rw [<-h.1];rfl
 case mkmap=>simp only [zoi,zpi] at h;rw [<-h.1];rfl
 case mkst=>simp only [zoi,zpi] at h;rw [<-h.1];rfl
 all_goals (split at h<;>try (cases h;done))
 all_goals first
  |(simp only [zoi,zpi] at h;rw [<-h.1];rfl)
  |(
   split at h
   ·simp only [zoi,zpi] at h;rw [<-h.1];rfl
   ·cases h)
theorem km.blind{s:SOper}{d:Option Nat}(hb:Blind s d){F:T V}{u v:V}:km s (xI F d u) v↔km s F v:=by
 unfold km;rw [hb.wanted];constructor
 ·rintro (h|⟨hw,op,hop,hv⟩)
  ·exact .inl h
  ·exact .inr ⟨hw,op,hop,by rwa [hb.pure F u op hop] at hv⟩
 ·rintro (h|⟨hw,op,hop,hv⟩)
  ·exact .inl h
  ·exact .inr ⟨hw,op,hop,by rwa [hb.pure F u op hop]⟩
theorem vf{s:SOper}{d:Option Nat}(hb:Blind s d){F:T V}{u:V}:vg P s.op (xI F d u)=vg P s.op F:=by
 cases hop:s.op with
 |cf f args=>simp only [vg,hb.cf F u f args hop]
 |cv x args=>obtain⟨h1,h2⟩:=hb.cv F u x args hop;simp only [vg,h1,h2]
 |nx x=>simp only [vg,hb.nx F u x hop]
 |_=>rfl
def ku(x:SOper)(F:T V):Prop:=qv x.guard F=true->(∀op,x.op=.p op->∃v,qy F op=some v)/\(∀op,x.op=.a op->∃bg,xD F op=some bg)
theorem ku.blind{x:SOper}{d:Option Nat}(hb:Blind x d){F:T V}{u:V}:ku x (xI F d u)↔ku x F:=by
 unfold ku;rw [hb.wanted];constructor
 ·intro h hw;refine⟨fun op hop=>?_,fun op hop=>?_⟩
  ·have:=(h hw).1 op hop;rwa [hb.pure _ _ _ hop] at this
  ·have:=(h hw).2 op hop;rwa [hb.alloc _ _ _ hop] at this
 ·intro h hw;refine⟨fun op hop=>?_,fun op hop=>?_⟩
  ·rw [hb.pure _ _ _ hop];exact (h hw).1 op hop
  ·rw [hb.alloc _ _ _ hop];exact (h hw).2 op hop
theorem qp2 {y x:SOper} {r:List SOper} {ctx:zR} {F:T V} {H:Hp} (hok:QN y x=true) (hst:Zm ctx) (hval:ku x F) (hfr:∀k,(x.aid=some k\/y.aid=some k)->base+k<H.nx/\H.get (base+k)=none)
 (h:qE P G base Q (y::x::r) ctx F H):qE P G base Q (x::y::r) ctx F H:=by
 unfold QN at hok;rw [xr] at hok;obtain⟨htm,hkd⟩:=hok;obtain⟨t1,t2⟩:=J5 htm;have bx:Blind x y.dst:=Blind.mk' fun k hk=>⟨(t1 k hk).1,(t1 k hk).2.1⟩;have by_:Blind y x.dst:=Blind.mk' fun k hk=>t2 k hk;have hcomm:∀(F:T V) (u v:V),xI (xI F y.dst u) x.dst v=xI (xI F x.dst v) y.dst u:=fun F u v=>BD fun k hk=>(t1 k hk).2.2;rcases Xc h with⟨vy,hpy,h⟩|⟨hwy,opy,vy,hopy,hvy,h⟩|⟨hwy,opy,bky,gy,hopy,hvy,h⟩|⟨hwy,opy,vy,Hy,hopy,hvy,hway,h⟩|⟨hwy,hky,fy,argsy,hcy,h⟩
 ·-- y is plain
  rcases Xc h with⟨vx,hpx,h⟩|⟨hwx,opx,vx,hopx,hvx,h⟩|⟨hwx,opx,bkx,gx,hopx,hvx,h⟩|⟨hwx,opx,vx,Hx,hopx,hvx,hwax,h⟩|⟨hwx,hkx,fx,argsx,hcx,h⟩
  ·rw [km.blind bx] at hpx;exact yv hpx (yv ((km.blind by_).2 hpy) (by rw [<-hcomm];exact h))
  ·rw [bx.wanted] at hwx;rw [bx.load _ _ _ _ hopx] at hvx;refine XL hwx hopx hvx (yv ((km.blind by_).2 hpy) ?_);rw [<-hcomm];refine jc (fun z hz=>?_) h;unfold Q3 at hz ⊢;cases hk:x.keep with
   |false=>simp only [hk,Bool.false_eq_true,if_false] at hz ⊢;exact hz
   |true=>
    simp only [hk,if_true,List.mem_cons] at hz ⊢;rcases hz with rfl|hz
    ·left;congr 1;funext H';rw [bx.load _ _ _ _ hopx]
    ·exact .inr hz
  ·rw [bx.wanted] at hwx;rw [bx.alloc _ _ _ hopx] at hvx;exact wX hwx hopx hvx (yv ((km.blind by_).2 hpy) (by rw [<-hcomm];exact h))
  ·rw [bx.wanted] at hwx;rw [bx.eff _ _ _ _ hopx] at hvx;exact Y3 hwx hopx hvx hwax (yv ((km.blind by_).2 hpy) (by rw [<-hcomm];exact h))
  ·rw [bx.wanted] at hwx;rw [vf bx] at hcx;exact Qs hwx hcx (h.mono fun v H' hh=>⟨hh.1,yv ((km.blind by_).2 hpy) (by rw [<-hcomm];exact hh.2)⟩)
 ·-- y loads
  have hyl:∀(F':T V) (v:V) (H':Hp),F'=xI F x.dst v->xk F H' opy=some vy->∀c,(∀z,z∈c->z∈ctx)->qE P G base Q r (Q3 y opy F vy c) (xI F' y.dst vy) H'->qE P G base Q (y::r) c F' H':=by
   rintro F' v H' rfl hv c hc hh;refine XL (by rw [by_.wanted];exact hwy) hopy (by rw [by_.load _ _ _ _ hopy];exact hv) ?_;refine jc (fun z hz=>?_) hh;unfold Q3 at hz ⊢;cases hk:y.keep with
   |false=>simp only [hk,Bool.false_eq_true,if_false] at hz ⊢;exact hz
   |true=>
    simp only [hk,if_true,List.mem_cons] at hz ⊢;rcases hz with rfl|hz
    ·left;congr 1;funext H';rw [by_.load _ _ _ _ hopy]
    ·exact .inr hz
  rcases Xc h with⟨vx,hpx,h⟩|⟨hwx,opx,vx,hopx,hvx,h⟩|⟨hwx,opx,bkx,gx,hopx,hvx,h⟩|⟨hwx,opx,vx,Hx,hopx,hvx,hwax,h⟩|⟨hwx,hkx,fx,argsx,hcx,h⟩
  ·rw [km.blind bx] at hpx;exact yv hpx (hyl _ vx H rfl hvy ctx (fun _ h=>h) (by rw [<-hcomm];exact h))
  ·rw [bx.wanted] at hwx;rw [bx.load _ _ _ _ hopx] at hvx;refine XL hwx hopx hvx ?_;refine XL (by rw [by_.wanted];exact hwy) hopy (by rw [by_.load _ _ _ _ hopy];exact hvy) ?_;rw [<-hcomm];refine jc (fun z hz=>?_) h;unfold Q3 at hz ⊢;have e1:∀u:V,(fun H'=>xk (xI F y.dst u) H' opx=some vx)=fun H'=>xk F H' opx=some vx:=fun u=>by funext H';rw [bx.load _ _ _ _ hopx]
   have e2:∀u:V,(fun H'=>xk (xI F x.dst u) H' opy=some vy)=fun H'=>xk F H' opy=some vy:=fun u=>by funext H';rw [by_.load _ _ _ _ hopy]
   rw [e2] at hz;rw [e1];cases hk:y.keep<;>cases hk':x.keep<;>simp only [hk,hk',Bool.false_eq_true,if_false,if_true,List.mem_cons] at hz ⊢
   ·exact hz
   ·exact hz
   ·exact hz
   ·rcases hz with hz|hz|hz
    ·exact .inr (.inl hz)
    ·exact .inl hz
    ·exact .inr (.inr hz)
  ·rw [bx.wanted] at hwx;rw [bx.alloc _ _ _ hopx] at hvx;rw [hopy,hopx] at hkd;simp only [SOp.kd] at hkd;obtain⟨k,hk⟩:=Option.isSome_iff_exists.1 hkd;have hfree:=hfr k (.inl hk);refine wX hwx hopx hvx ?_;refine hyl _ _ _ rfl ?_ ctx (fun _ h=>h) (by rw [<-hcomm];exact h);unfold yV;simp only [hk];exact lD hfree.2 hvy
  ·rw [bx.wanted] at hwx;rw [bx.eff _ _ _ _ hopx] at hvx;rw [hopy,hopx] at hkd;simp only [SOp.kd,xr] at hkd;have hwat:xk F Hx opy=some vy:=by
    have hmem:y.id∈x.watch:=by simpa using hkd.2
    cases hws:x.watch with
    |nil=>rw [hws] at hmem;cases hmem
    |cons a l=>
     rw [hws] at hwax hmem;exact hwax y.id hmem (fun H'=>xk F H' opy=some vy) (by unfold Q3;rw [if_pos hkd.1];exact List.mem_cons_self ..)
   refine Y3 hwx hopx hvx (wW (fun z hz=>?_) hwax) (hyl _ vx Hx rfl hwat ctx (fun _ h=>h) (by rw [<-hcomm];exact h));unfold Q3;split
   ·exact List.mem_cons_of_mem _ hz
   ·exact hz
  ·rw [bx.wanted] at hwx;rw [vf bx] at hcx;rw [hopy,hkx] at hkd;simp only [SOp.kd,xr] at hkd;have hmem:y.id∈x.watch:=by simpa using hkd.2
   refine Qs hwx hcx (h.mono fun v H' hh=>?_);have hwat:xk F H' opy=some vy:=by
    have hwax:=hh.1;cases hws:x.watch with
    |nil=>rw [hws] at hmem;cases hmem
    |cons a l=>
     rw [hws] at hwax hmem;exact hwax y.id hmem (fun H'=>xk F H' opy=some vy) (by unfold Q3;rw [if_pos hkd.1];exact List.mem_cons_self ..)
   refine⟨wW (fun z hz=>?_) hh.1,hyl _ v H' rfl hwat ctx (fun _ h=>h) (by rw [<-hcomm];exact hh.2)⟩;unfold Q3;split
   ·exact List.mem_cons_of_mem _ hz
   ·exact hz
 ·-- y makes a block
  rcases Xc h with⟨vx,hpx,h⟩|⟨hwx,opx,vx,hopx,hvx,h⟩|⟨hwx,opx,bkx,gx,hopx,hvx,h⟩|⟨hwx,opx,vx,Hx,hopx,hvx,hwax,h⟩|⟨hwx,hkx,fx,argsx,hcx,h⟩
  ·rw [km.blind bx] at hpx;exact yv hpx (wX (by rw [by_.wanted];exact hwy) hopy (by rw [by_.alloc _ _ _ hopy];exact hvy) (by rw [<-hcomm];exact h))
  ·rw [hopy,hopx] at hkd;simp [SOp.kd] at hkd
  ·rw [bx.wanted] at hwx;rw [bx.alloc _ _ _ hopx] at hvx;rw [hopy,hopx] at hkd;simp only [SOp.kd,xr] at hkd;obtain⟨k,hk⟩:=Option.isSome_iff_exists.1 hkd.1.1;obtain⟨j,hj⟩:=Option.isSome_iff_exists.1 hkd.1.2;have hne:k≠j:=by
    have:=hkd.2;rw [hk,hj] at this;simpa using this
   refine wX hwx hopx hvx (wX (by rw [by_.wanted];exact hwy) hopy (by rw [by_.alloc _ _ _ hopy];exact hvy) ?_);rw [<-hcomm];have e1:wd base x (yV base y H bky)=wd base x H:=by unfold wd;simp only [hj]
   have e2:wd base y (yV base x H bkx)=wd base y H:=by unfold wd;simp only [hk]
   have e3:yV base y (yV base x H bkx) bky=yV base x (yV base y H bky) bkx:=by
    unfold yV;simp only [hk,hj];unfold Hp.add;rw [T.set_comm _ _ _ (show base+j≠base+k by omega)]
   rw [e2,e3];rw [e1] at h;exact h
  ·rw [hopy,hopx] at hkd;simp [SOp.kd] at hkd
  ·rw [hopy,hkx] at hkd;simp [SOp.kd] at hkd
 ·-- y writes
  rcases Xc h with⟨vx,hpx,h⟩|⟨hwx,opx,vx,hopx,hvx,h⟩|⟨hwx,opx,bkx,gx,hopx,hvx,h⟩|⟨hwx,opx,vx,Hx,hopx,hvx,hwax,h⟩|⟨hwx,hkx,fx,argsx,hcx,h⟩
  ·rw [km.blind bx] at hpx;exact yv hpx (Y3 (by rw [by_.wanted];exact hwy) hopy (by rw [by_.eff _ _ _ _ hopy];exact hvy) hway (by rw [<-hcomm];exact h))
  ·rw [hopy,hopx] at hkd;simp [SOp.kd] at hkd
  ·rw [hopy,hopx] at hkd;simp [SOp.kd] at hkd
  ·rw [hopy,hopx] at hkd;simp [SOp.kd] at hkd
  ·rw [hopy,hkx] at hkd;simp [SOp.kd] at hkd
 ·-- y calls
  cases hwx:qv x.guard F with
  |false=>
   refine yv (.inl ⟨hwx,rfl⟩) (Qs (by rw [by_.wanted];exact hwy) (by rw [vf by_];exact hcy) (h.mono fun v H' hh=>⟨hh.1,?_⟩));rw [<-hcomm];have h2:=hh.2;rw [qE,bx.wanted,hwx] at h2;simpa using h2
  |true=>
   cases hopx:x.op with
   |p op=>
    obtain⟨vx,hv⟩:=(hval hwx).1 op hopx;refine yv (v:=vx) (.inr ⟨hwx,op,hopx,hv⟩) (Qs (by rw [by_.wanted];exact hwy) (by rw [vf by_];exact hcy) (h.mono fun v H' hh=>⟨hh.1,?_⟩));rw [<-hcomm];have h2:=hh.2;rw [qE,bx.wanted,hwx] at h2;simp only [if_true,hopx,bx.pure _ _ _ hopx,hv] at h2;exact h2
   |a op=>
    obtain⟨⟨bk,g⟩,hv⟩:=(hval hwx).2 op hopx;rw [hky,hopx] at hkd;simp only [SOp.kd] at hkd;obtain⟨k,hk⟩:=Option.isSome_iff_exists.1 hkd;obtain⟨hlt,hnone⟩:=hfr k (.inl hk);refine wX hwx hopx hv (Qs (by rw [by_.wanted];exact hwy) (by rw [vf by_];exact hcy) ?_);have e1:yV base x H bk=H.add (base+k) bk:=by unfold yV;simp only [hk]
    have e2:wd base x H=base+k:=by unfold wd;simp only [hk]
    rw [e1,e2];refine (h.keeps.frame hlt hnone (EN hv)).mono ?_;rintro v H'' ⟨H',⟨⟨hw1,hw2⟩,hnx,hfree⟩,rfl⟩;refine⟨?_,?_⟩
    ·-- what is watched is still there
     have:=hw1;cases hws:y.watch with
     |nil=>trivial
     |cons a l=>
      rw [hws] at this;exact fun j hj p hp=>hst j p hp _ _ _ (hfree _ hlt hnone) (this j hj p hp)
    ·rw [<-hcomm];rw [qE,bx.wanted,hwx] at hw2;simp only [if_true,hopx,bx.alloc _ _ _ hopx,hv,hk] at hw2;exact hw2
   |l op=>rw [hky,hopx] at hkd;simp [SOp.kd] at hkd
   |e op=>rw [hky,hopx] at hkd;simp [SOp.kd] at hkd
   |cf f args=>rw [hky,hopx] at hkd;simp [SOp.kd] at hkd
   |cv f args=>rw [hky,hopx] at hkd;simp [SOp.kd] at hkd
   |nx x=>rw [hky,hopx] at hkd;simp [SOp.kd] at hkd
   |no=>rw [hky,hopx] at hkd;simp [SOp.kd] at hkd
theorem T7{x:SOper}{post:List SOper}:∀{pre:List SOper} {ctx:zR} {F:T V} {H:Hp},(∀y∈pre,QN y x=true)->Zm ctx->ku x F->
 (∀k∈(pre++[x]).filterMap (·.aid),base+k<H.nx/\H.get (base+k)=none)->((pre++[x]).filterMap (·.aid)).Nodup->
 qE P G base Q (pre++x::post) ctx F H->qE P G base Q (x::(pre++post)) ctx F H
 |[],_,_,_,_,_,_,_,_,h=>h
 |y::pre,ctx,F,H,hok,hst,hval,hfr,hnd,h=>by
  have hy:=hok y (by simp);have hb:Blind x y.dst:=by
   have:=hy;unfold QN at this;rw [xr] at this;obtain⟨t1,_⟩:=J5 this.1;exact Blind.mk' fun k hk=>⟨(t1 k hk).1,(t1 k hk).2.1⟩
  have hfm:∀k,y.aid=some k->k∉(pre++[x]).filterMap (·.aid):=fun k hk=>by
   simp only [List.cons_append,List.filterMap_cons,hk,List.nodup_cons] at hnd;exact hnd.1
  have hnd':((pre++[x]).filterMap (·.aid)).Nodup:=by
   simp only [List.cons_append,List.filterMap_cons] at hnd;cases hy':y.aid with
   |none=>rw [hy'] at hnd;exact hnd
   |some k=>rw [hy'] at hnd;exact (List.nodup_cons.1 hnd).2
  have hfr':JI base ((pre++[x]).filterMap (·.aid)) H:=fun k hk=>hfr k (by
   simp only [List.cons_append,List.filterMap_cons];cases y.aid with
   |none=>exact hk
   |some j=>exact List.mem_cons_of_mem _ hk)
  have h1:qE P G base Q (y::x::(pre++post)) ctx F H:=AV hst hfr' hfm (fun ctx' v H' hst' hf' hh=>T7 (fun z hz=>hok z (by simp [hz])) hst' ((ku.blind hb).2 hval) hf' hnd' hh) h;refine qp2 hy hst hval (fun k hk=>?_) h1;rcases hk with hk|hk
  ·exact hfr' k (by simp [hk])
  ·exact hfr k (by simp [hk])
end
section
variable{P:Program}{G n base:Nat}{Q:T V->Hp->Prop}
theorem sG{ρ:Option Nat}{nn:Nat}{ops:Array Oper}{i:Nat}{a:Act}{w:World}{T:Prop}(h:wpOpIn (ZP ρ) nn P ops (fun _ _ _=>False) i (fun _ _=>T) a w):T:=by
 unfold wpOpIn at h;split at h
 ·exact h
 ·rename_i o ho;split at h
  ·unfold Oper.wpIn at h;replace h:=h.2;generalize (o.semAt (ZP ρ).round a.eval).run P w=r at h;cases r with
   |ok nx w'=>
    cases nx<;>simp only [Oper.uponIn] at h<;>first
     |exact h
     |(
      obtain⟨_,h⟩:=h;obtain⟨e,w'',fr,hR,_⟩:=h.2 [] Xr;cases e with
      |returned v=>exact hR
      |panicked c=>exact hR.elim
      |outgrown=>obtain⟨_,_,hh⟩:=hR;exact hh.elim)
     |(
      obtain⟨_,h⟩:=h;obtain⟨e,w'',hR,_⟩:=h.2 default [] Xr;cases e with
      |returned v=>exact hR
      |panicked c=>exact hR.elim
      |outgrown=>obtain⟨_,_,hh⟩:=hR;exact hh.elim)
     |(obtain⟨v,w'',hR,_⟩:=h.2 default [] Xr;exact hR)
     |exact h.elim
   |halt hh w'=>cases hh<;>simp only [Oper.uponIn] at h<;>first|exact h.elim|exact h
  ·exact h.2
theorem oI{x:SOper}{post:List SOper}{ctx:zR}{F:T V}{H:Hp}(h:qE P G base Q (x::post) ctx F H):ku x F:=by
 intro hw;rw [qE,hw] at h;simp only [if_true] at h;refine⟨fun op hop=>?_,fun op hop=>?_⟩
 ·rw [hop] at h;simp only at h;cases hv:qy F op with
  |none=>simp [hv] at h
  |some v=>exact⟨v,rfl⟩
 ·rw [hop] at h;simp only at h;cases hv:xD F op with
  |none=>simp [hv] at h
  |some v=>exact⟨v,rfl⟩
theorem LG{ops:Array Oper}{x:SOper}{post:List SOper}{μ0:Nat->Pl}{K0:Nat->Prop}{H0:Hp}{w0:World}(hlt0:∀b bk,H0.get b=some bk->b<H0.nx):
 ∀{pre:List SOper} {xO:List Nat} {ctx:zR} {F:T V} {H:Hp} {μ:Nat->Pl} {K:Nat->Prop} {a:Act} {w:World},yW P G n ops xO pre->(∀y∈pre,Blind x y.dst)->Rel G μ K H w->z6 μ K n F a.tmps->Fr μ0 K0 H0 w0 μ K H w->
  (∀y∈pre,∀k,y.aid=some k->¬K (base+k)/\base+k<H.nx/\H0.nx<=base+k)->(pre.filterMap (·.aid)).Nodup->
  qE P G base Q (pre++x::post) ctx F H->ku x F
 |[],[],ctx,F,H,μ,K,a,w,_,_,_,_,_,_,_,h=>oI h
 |y::pre,i::xO,ctx,F,H,μ,K,a,w,hal,hbl,hR,hF,hFr,hrs,hnd,h=>by
  obtain⟨⟨o,ho,hfit⟩,hal'⟩:=hal;have key:wpOpIn (ZP none) 0 P ops (fun _ _ _=>False) i (fun _ _=>ku x F) a w:=by
   refine s6 hlt0 ho hfit hR hF hFr (hrs y (by simp)) h fun μ' K' F' H' a' w' ctx' h1 h2 h3 _ h5 h6 h7 _ h8=>?_;obtain⟨v,rfl⟩:=h7;have hnd':(pre.filterMap (·.aid)).Nodup/\∀k,y.aid=some k->k∉pre.filterMap (·.aid):=by
    simp only [List.filterMap_cons] at hnd;cases hy:y.aid with
    |none=>rw [hy] at hnd;exact⟨hnd,by simp⟩
    |some k=>rw [hy] at hnd;exact⟨(List.nodup_cons.1 hnd).2,fun j hj=>by obtain rfl:=zsi hj;exact (List.nodup_cons.1 hnd).1⟩
   have:=LG hlt0 hal' (fun z hz=>hbl z (by simp [hz])) h1 h2 h3 (fun z hz k hk=>by
    obtain⟨g1,g2,g3⟩:=hrs z (by simp [hz]) k hk;refine⟨fun hk'=>?_,by omega,g3⟩;rcases h6 _ g2 hk' with h|⟨j,hj,he⟩
    ·exact g1 h
    ·exact hnd'.2 j hj (by
      have:j=k:=by omega
      rw [this];exact List.mem_filterMap.2 ⟨z,hz,hk⟩)) hnd'.1 h8
   exact (ku.blind (hbl y (by simp))).1 this
  exact sG key
 |[],_::_,_,_,_,_,_,_,_,h,_,_,_,_,_,_,_=>h.elim
 |_::_,[],_,_,_,_,_,_,_,h,_,_,_,_,_,_,_=>h.elim
def Y0(D:Nat->List Nat):List Nat->List SOper->Prop
 |i::xO,s::l=>(∀j t,(j,t)∈xO.zip l->i∈D j\/QN s t=true)/\Y0 D xO l
 |_,_=>True
theorem yW.len{ops:Array Oper}:∀{xO:List Nat} {l:List SOper},yW P G n ops xO l->xO.length=l.length
 |[],[],_=>rfl
 |_::_,_::_,h=>by simp [yW.len h.2]
 |[],_::_,h=>h.elim
 |_::_,[],h=>h.elim
theorem yW.split{ops:Array Oper}{D:Nat->List Nat}:∀{xO:List Nat} {l:List SOper} {i:Nat},yW P G n ops xO l->Y0 D xO l->i∈xO->
 ∃pi qi pre x post,xO=pi++i::qi/\l=pre++x::post/\yW P G n ops pi pre/\(∃o,ops[i]?=some o/\u7 P G n ops o x)/\yW P G n ops (pi++qi) (pre++post)/\Y0 D (pi++qi) (pre++post)/\
  (∀y∈pre,∃j∈pi,j∈D i\/QN y x=true)
 |j::xO,s::l,i,hal,hp,hi=>by
  by_cases e:i=j
  ·subst e;exact⟨[],xO,[],s,l,rfl,rfl,trivial,hal.1,hal.2,hp.2,by simp⟩
  ·have hi':i∈xO:=by
    rcases List.mem_cons.1 hi with h|h
    ·exact absurd h e
    ·exact h
   obtain⟨pi,qi,pre,x,post,h1,h2,h3,h4,h5,h6,h7⟩:=yW.split hal.2 hp.2 hi';have hl1:pi.length=pre.length:=h3.len;refine⟨j::pi,qi,s::pre,x,post,by rw [h1];rfl,by rw [h2];rfl,⟨hal.1,h3⟩,h4,⟨hal.1,h5⟩,⟨fun j' t hjt=>hp.1 j' t ?_,h6⟩,fun y hy=>?_⟩
   ·rw [h1,h2,List.zip_append hl1];have hjt':(j',t)∈(pi++qi).zip (pre++post):=hjt;rw [List.zip_append hl1] at hjt';rcases List.mem_append.1 hjt' with h|h
    ·exact List.mem_append.2 (.inl h)
    ·exact List.mem_append.2 (.inr (by simp [h]))
   ·rcases List.mem_cons.1 hy with rfl|hy
    ·refine⟨j,by simp,hp.1 i x ?_⟩;rw [h1,h2,List.zip_append hl1];exact List.mem_append.2 (.inr (by simp))
    ·obtain⟨j',hj',hh⟩:=h7 y hy;exact⟨j',by simp [hj'],hh⟩
 |[],_,_,_,_,hi=>by cases hi
 |_::_,[],_,hal,_,_=>hal.elim
theorem qb4 {ρ:Option Nat} {nn:Nat} {DD:List Deferred} {ops:Array Oper} {D:Nat->List Nat} {μ0:Nat->Pl} {K0:Nat->Prop} {H0:Hp} {w0:World} (hlt0:∀b bk,H0.get b=some bk->b<H0.nx) {Q':Exit->Act->World->Prop}
 (hQ:∀μ K F H a w,Q F H->Rel G μ K H w->z6 μ K n F a.tmps->Fr μ0 K0 H0 w0 μ K H w->a.defers=DD->Q' .normal a w)
 (hD:∀i o,ops[i]?=some o->∀j∈D i,∃e∈o.after.toList,Region.binds .any e=true/\(e.on=j\/j∈D e.on))
 (hlow:∀i o,ops[i]?=some o->∀e∈o.after.toList,Region.binds .any e=true->e.on<i):
 ∀{fuel:Nat} {listed:Array Bool} {xO:List Nat} {l:List SOper} {ctx:zR} {F:T V} {H:Hp} {μ:Nat->Pl} {K:Nat->Prop} {a:Act} {w:World},
  listed.size=ops.size->(∀i,i<ops.size->(listed.getD i true=false↔i∈xO))->(∀i∈xO,i<ops.size)->xO.Nodup->xO.length<=fuel->
  (∀i,i<ops.size->i∉xO->∀j∈D i,j∉xO)->yW P G n ops xO l->Y0 D xO l->(l.filterMap (·.aid)).Nodup->Zm ctx->
  (∀s∈l,∀k,s.aid=some k->¬K (base+k)/\base+k<H.nx/\H0.nx<=base+k)->
  Rel G μ K H w->z6 μ K n F a.tmps->Fr μ0 K0 H0 w0 μ K H w->a.defers=DD->qE P G base Q l ctx F H->wpAnyIn (ZP ρ) nn P .any ops Q' fuel listed a w:=by
 intro fuel;induction fuel with
 |zero=>
  intro listed xO l ctx F H μ K a w hsz hlist hin hnd hlen hdc hal hp haid hst hrs hR hF hFr hd h;have hidx:xO=[]:=List.eq_nil_of_length_eq_zero (by omega);subst hidx;cases l with
  |cons s l=>exact hal.elim
  |nil=>
   refine⟨?_,hQ μ K F H a w h hR hF hFr hd⟩;unfold Region.ready;rw [List.filter_eq_nil_iff];intro i hi;have hi':i<ops.size:=by simpa using hi
   have:=(hlist i hi').1;cases hl:listed.getD i true with
   |true=>simp
   |false=>exact absurd (this hl) (by simp)
 |succ fuel ih=>
  intro listed xO l ctx F H μ K a w hsz hlist hin hnd hlen hdc hal hp haid hst hrs hR hF hFr hd h;refine⟨fun hready=>?_,fun i hi=>?_⟩
  ·-- nothing is ready:then nothing is left
   have hidx:xO=[]:=by
    cases hid:xO with
    |nil=>rfl
    |cons i0 rest=>
     exfalso;obtain⟨m,hm,hmin⟩:∃m∈xO,∀j∈xO,m<=j:=by
      have:∀(l:List Nat),l≠[]->∃m∈l,∀j∈l,m<=j:=by
       intro l;induction l with
       |nil=>intro h;exact absurd rfl h
       |cons x l ihl=>
        intro _;by_cases hl:l=[]
        ·subst hl;exact⟨x,by simp,by simp⟩
        ·obtain⟨m,hm,hmin⟩:=ihl hl;by_cases hx:x<=m
         ·exact⟨x,by simp,fun j hj=>by
           rcases List.mem_cons.1 hj with rfl|hj
           ·exact Nat.le_refl _
           ·exact Nat.le_trans hx (hmin j hj)⟩
         ·exact⟨m,by simp [hm],fun j hj=>by
           rcases List.mem_cons.1 hj with rfl|hj
           ·omega
           ·exact hmin j hj⟩
      exact this xO (by rw [hid];simp)
     have hms:=hin m hm;have hmr:m∈Region.ready .any ops listed:=by
      unfold Region.ready;rw [List.mem_filter];refine⟨by simpa using hms,?_⟩;rw [(hlist m hms).2 hm];have ho:ops[m]?=some ops[m]:=Array.getElem?_eq_getElem hms;rw [ho];simp only [Bool.not_false,Bool.true_and,Option.map_some,Option.getD_some];rw [Array.all_eq_true_iff_forall_mem];intro e he;cases hb:Region.binds .any e with
      |false=>rfl
      |true=>
       have hlt:=hlow m _ ho e (by simpa using he) hb;have hes:e.on<ops.size:=by omega
       have hne:e.on∉xO:=fun h=>absurd (hmin _ h) (by omega);have hl:listed.getD e.on true≠false:=fun h=>hne ((hlist _ hes).1 h);have hsz':e.on<listed.size:=by rw [hsz];exact hes
       simp [hsz'] at hl ⊢;exact hl
     rw [hready] at hmr;cases hmr
   subst hidx;cases l with
   |cons s l=>exact hal.elim
   |nil=>exact hQ μ K F H a w h hR hF hFr hd
  ·-- one that is ready is drawn to the front
   unfold Region.ready at hi;rw [List.mem_filter] at hi;obtain⟨hi1,hi2⟩:=hi;have his:i<ops.size:=by simpa using hi1
   rw [xr] at hi2;have hun:listed.getD i true=false:=by simpa using hi2.1
   have hii:i∈xO:=(hlist i his).1 hun;obtain⟨pi,qi,pre,x,post,e1,e2,g1,⟨o,ho,hfit⟩,g3,g4,g5⟩:=yW.split hal hp hii;have hdeps:∀e∈o.after.toList,Region.binds .any e=true->e.on∉xO:=by
    intro e he hb;have h2:=hi2.2;rw [ho] at h2;simp only [Option.map_some,Option.getD_some] at h2;rw [Array.all_eq_true_iff_forall_mem] at h2;have h3:=h2 e (by simpa using he);rw [hb] at h3;simp only [Bool.not_true,Bool.false_or] at h3;have hes:e.on<ops.size:=by have:=hlow i o ho e he hb;omega
    intro hmem;have h4:=(hlist _ hes).2 hmem;have hsz':e.on<listed.size:=by rw [hsz];exact hes
    simp [hsz'] at h3 h4;rw [h3] at h4;cases h4
   have hDi:∀j∈D i,j∉xO:=by
    intro j hj;obtain⟨e,he,hb,hej⟩:=hD i o ho j hj;have hen:=hdeps e he hb;rcases hej with rfl|hej
    ·exact hen
    ·exact hdc e.on (by have:=hlow i o ho e he hb;omega) hen j hej
   have hsw:∀y∈pre,QN y x=true:=by
    intro y hy;obtain⟨j,hj,hh⟩:=g5 y hy;rcases hh with hh|hh
    ·exact absurd (by rw [e1];simp [hj]) (hDi j hh)
    ·exact hh
   have hbl:∀y∈pre,Blind x y.dst:=fun y hy=>by
    have:=hsw y hy;unfold QN at this;rw [xr] at this;obtain⟨t1,_⟩:=J5 this.1;exact Blind.mk' fun k hk=>⟨(t1 k hk).1,(t1 k hk).2.1⟩
   rw [e2] at h haid hrs;have hfm:(pre++x::post).filterMap (·.aid)=(pre++[x]).filterMap (·.aid)++post.filterMap (·.aid):=by
    rw [show pre++x::post=(pre++[x])++post by simp,List.filterMap_append]
   have hnd1:((pre++[x]).filterMap (·.aid)).Nodup:=by rw [hfm] at haid;exact (List.nodup_append.1 haid).1
   have hval:ku x F:=LG hlt0 g1 hbl hR hF hFr (fun y hy k hk=>hrs y (by simp [hy]) k hk) (by
    rw [List.filterMap_append] at hnd1;exact (List.nodup_append.1 hnd1).1) h
   have hfree:∀k∈(pre++[x]).filterMap (·.aid),base+k<H.nx/\H.get (base+k)=none:=by
    intro k hk;obtain⟨s,hs,hk'⟩:=List.mem_filterMap.1 hk;have hs':s∈pre++x::post:=by
     rcases List.mem_append.1 hs with h|h
     ·simp [h]
     ·simp at h;subst h;simp
    obtain⟨r1,r2,r3⟩:=hrs s hs' k hk';refine⟨r2,?_⟩;cases hg:H.get (base+k) with
    |none=>rfl
    |some bk=>exact absurd (hR.dom _ _ hg) r1
   have h':=T7 hsw hst hval hfree hnd1 h;refine s6 hlt0 ho hfit hR hF hFr (hrs x (by simp)) h' fun μ' K' F' H' a' w' ctx' k1 k2 k3 k4 k5 k6 _ k8 k9=>?_;have hidxlen:(pi++qi).length+1=xO.length:=by rw [e1];simp;omega
   have hndi:(pi++qi).Nodup/\i∉pi++qi:=by
    rw [e1] at hnd;have hperm:(pi++i::qi).Perm (i::(pi++qi)):=List.perm_middle;have:=(hperm.nodup_iff).1 hnd;exact⟨(List.nodup_cons.1 this).2,(List.nodup_cons.1 this).1⟩
   have hmem:∀j,j∈pi++qi↔j∈xO/\j≠i:=by
    intro j;rw [e1];constructor
    ·intro hj;refine⟨?_,fun e=>hndi.2 (e▸hj)⟩;rcases List.mem_append.1 hj with h|h
     ·simp [h]
     ·simp [h]
    ·rintro ⟨hj,hne⟩;rcases List.mem_append.1 hj with h|h
     ·simp [h]
     ·rcases List.mem_cons.1 h with h|h
      ·exact absurd h hne
      ·simp [h]
   have haid':((pre++post).filterMap (·.aid)).Nodup/\∀k,x.aid=some k->k∉(pre++post).filterMap (·.aid):=by
    have hperm:(pre++x::post).Perm (x::(pre++post)):=List.perm_middle;have h1:=((hperm.filterMap (·.aid)).nodup_iff).1 haid;simp only [List.filterMap_cons] at h1;cases hx:x.aid with
    |none=>rw [hx] at h1;exact⟨h1,by simp⟩
    |some k=>rw [hx] at h1;exact⟨(List.nodup_cons.1 h1).2,fun j hj=>by obtain rfl:=zsi hj;exact (List.nodup_cons.1 h1).1⟩
   refine ih (by simpa using hsz) (fun j hj=>?_) (fun j hj=>hin j ((hmem j).1 hj).1) hndi.1 (by omega) (fun j hj hjn k hk=>?_) g3 g4 haid'.1 (k8 hst) (fun s hs k hk=>?_) k1 k2 k3 (k4.trans hd) k9
   ·rw [hmem];by_cases e:j=i
    ·subst e;have:(listed.setIfInBounds j true).getD j true=true:=by
      have:j<listed.size:=by rw [hsz];exact his
      simp [this]
     rw [this];simp
    ·have:(listed.setIfInBounds i true).getD j true=listed.getD j true:=by
      simp only [Array.getD_eq_getD_getElem?];rw [Array.getElem?_setIfInBounds_ne (fun h=>e h.symm)]
     rw [this,hlist j hj];simp [e]
   ·-- still closed downwards
    rw [hmem] at hjn;intro hkm;have hkm':=((hmem k).1 hkm).1;by_cases e:j=i
    ·subst e;exact hDi k hk hkm'
    ·have hji:j∉xO:=fun h=>hjn ⟨h,e⟩;exact hdc j hj hji k hk hkm'
   ·have hs':s∈pre++x::post:=by
     rcases List.mem_append.1 hs with h|h
     ·simp [h]
     ·simp [h]
    obtain⟨r1,r2,r3⟩:=hrs s hs' k hk;refine⟨fun hk'=>?_,by omega,r3⟩;rcases k6 _ r2 hk' with h|⟨j,hj,he⟩
    ·exact r1 h
    ·exact haid'.2 j hj (by
      have:j=k:=by omega
      rw [this];exact List.mem_filterMap.2 ⟨s,hs,hk⟩)
end
section
variable{P:Program}{G n:Nat}{ρ:Option Nat}{μ:Nat->Pl}{K:Nat->Prop}{H H':Hp}{w:World}
theorem Rel.junk(hR:Rel G μ K H w)(o:Obj):Rel G μ K H { w with heap:=w.heap.push o }/\Fr μ K H w μ K H { w with heap:=w.heap.push o }:=by
 have hh:∀i,i<w.heap.size->(w.heap.push o)[i]?=w.heap[i]?:=fun i hi=>by
  rw [Array.getElem?_push,if_neg (by omega)]
 let r:=Fr.refl hR;exact⟨⟨hR.dom,hR.lt,fun b bk hb=>by
  show RB μ K (μ b) bk (w.heap.push o)[(μ b).blk]?
  rw [hh _ (hR.blk_lt hb)];exact hR.blk b bk hb,hR.inj,hR.glob⟩,
  ⟨⟨rfl,rfl,rfl,Nat.le_refl _⟩,by simp,fun i hi _=>hh i hi,r.img,r.newmut,r.mu,r.kk,r.knew,r.nx,r.none,r.stay,r.ro⟩⟩
def Jb(F:T V):List Nat->List V->T V
 |t::ps,v::l=>Jb (F.set t (some v)) ps l
 |_,_=>F
theorem hU:∀{ps:List Nat} {args:List V} {xs:List Value} {F:T V} {tmps:Array Value},z6 μ K n F tmps->qg (RV μ K) args xs->
 z6 μ K n (Jb F ps args) ((ps.zip xs).foldl (fun tmps p=>tmps.setIfInBounds p.1 p.2) tmps)
 |[],_,_,_,_,hF,_=>hF
 |_::_,[],[],_,_,hF,_=>hF
 |t::ps,v::l,x::xs,F,tmps,hF,ha=>by
  refine hU (F:=F.set t (some v)) (tmps:=tmps.setIfInBounds t x) ⟨by simpa using hF.1,fun i hi=>?_⟩ ha.2;rw [T.get_set];by_cases e:i=t
  ·subst e;have:(tmps.setIfInBounds i x).getD i Go.undef=x:=by
    have:i<tmps.size:=by rw [hF.1];exact hi
    simp [Array.getD_eq_getD_getElem?,this]
   rw [this];simpa using ha.1
  ·have:(tmps.setIfInBounds t x).getD i Go.undef=tmps.getD i Go.undef:=by
    simp only [Array.getD_eq_getD_getElem?];rw [Array.getElem?_setIfInBounds_ne (fun h=>e h.symm)]
   rw [this,if_neg e];exact hF.2 i hi
 |_::_,[],_::_,_,_,_,ha=>ha.elim
 |_::_,_::_,[],_,_,_,ha=>ha.elim
def BM(b:Nat)(R:V->Hp->Prop):Exit->T V->Hp->Prop
 |.normal,_,H=>∃st j f n F ps sg bd,H.get b=some (.lp st j f n F ps sg bd)/\R (.bool true) (H.add b (.lp .ready none f n F ps sg bd))
 |.ret,_,H=>∃st j f n F ps sg bd,H.get b=some (.lp st j f n F ps sg bd)/\R (.bool false) (H.add b (.lp .done (some .ret) f n F ps sg bd))
 |.exit id,_,H=>∃st j f n F ps sg bd,H.get b=some (.lp st j f n F ps sg bd)/\R (.bool false) (H.add b (.lp .done (some (.exit id)) f n F ps sg bd))
 |_,_,_=>False
theorem oJ{b:Nat}{R:V->Hp->Prop}(hR:Rel G μ K H w)(jump:Option Code)(hQ:∃st j f n F ps sg bd,H.get b=some (.lp st j f n F ps sg bd)/\R (.bool jump.isNone) (H.add b (.lp (if jump.isNone then .ready else .done) jump f n F ps sg bd))):
 ∃x w',(Instr.endRound (μ b).blk jump).run P w=.ok x w'/\∃v H',R v H'/\RV μ K v x/\Rel G μ K H' w'/\Fr μ K H w μ K H' w':=by
 obtain⟨st,j,f,n,F,ps,sg,bd,hb,hr⟩:=hQ;obtain⟨tmps,df,ho,hsz,hF⟩:=hR.blk b _ hb;have hs:=hR.setB (bk':=.lp (if jump.isNone then .ready else .done) jump f n F ps sg bd) (o:=.loop ⟨if jump.isNone then .ready else .done,jump,f,tmps,ps,sg,bd,df⟩) hb rfl rfl ⟨tmps,df,rfl,hsz,hF⟩
 exact⟨_,_,run_endRound jump ho,_,_,hr,rfl,hs.1,hs.2⟩
theorem EH {b:Nat} {args:List V} {j:Option Code} {f:FuncId} {n:Nat} {F:T V} {ps:Array Tmp} {sg bd:Code} {R:V->Hp->Prop} (hb:H.get b=some (.lp .ready j f n F ps sg bd)) (hlen:args.length=ps.size)
 (h:∀l,jE (some l) P G n sg (fun e F1 H1=>e=.normal/\∃j1 f1 n1 F0 ps1 as1 bd1,H1.get b=some (.lp .ready j1 f1 n1 F0 ps1 as1 bd1)/\jE (some l) P G n bd (BM b R) F1 (H1.add b (.lp .busy j1 f1 n1 F0 ps1 as1 bd1))) (Jb F ps.toList args) H):
 Qd P G b args H R:=by
 intro μ K w xs hR hK ha;obtain⟨tmps,df,ho,hsz,hF⟩:=hR.blk b _ hb;refine⟨_,_,_,_,run_yield ho (by simp [<-ha.len,hlen]),roundIn_of_wpIn trivial ?_⟩;have hF1:z6 μ K n (Jb F ps.toList args) ((ps.zip xs.toArray).foldl (fun tmps (t,a)=>tmps.setIfInBounds t a) tmps):=by
  have:=hU (ps:=ps.toList) (F:=F) (tmps:=tmps) ⟨hsz,hF⟩ ha;have e:(ps.zip xs.toArray).foldl (fun tmps (t,a)=>tmps.setIfInBounds t a) tmps=(ps.toList.zip xs).foldl (fun tmps p=>tmps.setIfInBounds p.1 p.2) tmps:=by
   rw [<-Array.foldl_toList];simp
  rw [e];exact this
 refine wpIn_mono (h (μ b).blk w.heap.size μ K w ⟨_,[]⟩ hR hF1 (JU.nil w (Nat.le_refl _))) fun e a1 w1 he=>?_;obtain⟨hd1,F1,H1,μ1,K1,⟨rfl,j1,f1,n1,F0,ps1,as1,bd1,hb1,hbody⟩,hR1,hFr1,hfr1⟩:=he;obtain⟨tmps1,df1,ho1,hsz1,hF01⟩:=hR1.blk b _ hb1;rw [hfr1.mu b hK] at ho1;have hs:=hR1.setB (bk':=.lp .busy j1 f1 n1 F0 ps1 as1 bd1) (o:=.loop ⟨.busy,j1,f1,tmps1,ps1,as1,bd1,df1⟩) hb1 rfl rfl ⟨tmps1,df1,rfl,hsz1,hF01⟩;rw [hfr1.mu b hK] at hs;refine⟨_,run_beginRound ho1 rfl,?_⟩;refine wpIn_mono (hbody _ μ1 K1 _ a1 hs.1 hFr1 (hd1.fr hR1 hs.2)) fun e a2 w2 he=>?_;obtain⟨hd2,F2,H2,μ2,K2,hq,hR2,hFr2,hfr2⟩:=he;have hfr:=(hfr1.trans hR.lt' hs.2).trans hR.lt' hfr2;have hmu:μ2 b=μ b:=hfr.mu b hK;have fin:∀(jump:Option Code),(∃st j f n F ps sg bd,H2.get b=some (.lp st j f n F ps sg bd)/\R (.bool jump.isNone) (H2.add b (.lp (if jump.isNone then .ready else .done) jump f n F ps sg bd)))->
  ∃v w',(Instr.endRound (μ b).blk jump).run P w2=.ok v w'/\∃x,Ending.returned v=.returned x/\∃v H' μ' K',R v H'/\RV μ' K' v x/\Rel G μ' K' H' w'/\Fr μ K H w μ' K' H' w':=by
  intro jump hj;obtain⟨x,w3,hr,v,H3,h1,h2,h3,h4⟩:=oJ (P:=P) (b:=b) hR2 jump hj;rw [hmu] at hr;exact⟨x,w3,hr,x,rfl,v,H3,μ2,K2,h1,h2,h3,hfr.trans hR.lt' h4⟩
 cases e with
 |normal=>exact fin none hq
 |ret=>exact fin (some .ret) hq
 |exit id=>exact fin (some (.exit id)) hq
 |goto l=>exact hq.elim
 |panic ch=>exact hq.elim
 |outgrown=>exact hq.elim
theorem qbZ {g:Operand} {ps:Array Tmp} {sg bd:Code} {d:Opd} {f:FuncId} {caps:List (Nat × Nat)} {Q:Exit->T V->Hp->Prop} {F:T V} (hg:cO G n g=some d) (hdv:d.ev F=.one (.fn f caps)) (hf:qB P f=true)
 (h:∀fid,qJ P G f (.one (.yld H.nx)::caps.map Ji) (H.push (.lp .ready none fid n F ps sg bd)) fun _ H'=>∃st j f1 n1 F1 ps1 as1 bd1,H'.get H.nx=some (.lp st j f1 n1 F1 ps1 as1 bd1)/\st≠.busy/\
  (
   match j with
   |none=>Q .normal F (H'.add H.nx (.lp .exhausted none f1 n1 F1 ps1 as1 bd1))
   |some c=>jE none P G n c Q F (H'.add H.nx (.lp .exhausted (some c) f1 n1 F1 ps1 as1 bd1)))):
 jE none P G n (.rangeFunc g ps sg bd) Q F H:=by
 intro s μ K w a hR hF hd;refine wpIn_rangeFunc fun fid _=>?_;have hv:=xf hR hF hg;rw [hdv] at hv;obtain⟨hkc,hv'⟩:(∀p∈caps,K p.1)/\a.eval g=.func (.func f) #[] (caps.map fun p=>Value.pointer (some ((μ p.1).addr p.2))).toArray:=hv;obtain⟨hR1,hfr1⟩:=hR.junk (.deferred (some []));have hlp:RB μ K ⟨w.heap.size+1,0,0⟩ (.lp .ready none fid n F ps sg bd) (some (.loop ⟨.ready,none,fid,a.tmps,ps,sg,bd,w.heap.size⟩)):=⟨_,_,rfl,hF.1,hF.2⟩;have hpush:=hR1.push (d:=w.drawn) (sz:=0) (Nat.le_refl _) rfl (by simpa using hlp);simp only [Array.size_push] at hpush;obtain⟨hR2,hfr2⟩:=hpush;refine⟨w.heap.size+1,[{ target:=.collected w.heap.size,args:=#[] }],{ w with heap:=(w.heap.push (.deferred (some []))).push (.loop ⟨.ready,none,fid,a.tmps,ps,sg,bd,w.heap.size⟩) },⟨.fn (.func f) (caps.map fun p=>Value.pointer (some ((μ p.1).addr p.2))).toArray,#[.func (.yield (w.heap.size+1)) #[] #[]]⟩,{ w with heap:=(w.heap.push (.deferred (some []))).push (.loop ⟨.ready,none,fid,a.tmps,ps,sg,bd,w.heap.size⟩) },f,
  (Value.func (.yield (w.heap.size+1)) #[] #[]::caps.map fun p=>Value.pointer (some ((μ p.1).addr p.2))).toArray,{ w with heap:=(w.heap.push (.deferred (some []))).push (.loop ⟨.ready,none,fid,a.tmps,ps,sg,bd,w.heap.size⟩) },run_enterLoop_outer _ _ _ _ _,?_,(fun _ _=>trivial),?_,(fun h=>absurd h (by decide)),?_⟩
 ·have e1:a.eval (.const (.func (.yield (w.heap.size+1)) #[] #[]))=.func (.yield (w.heap.size+1)) #[] #[]:=rfl;simp [resolve,rangeCall,hv',Deferred.ofValue,e1]
 ·simp [invoke,VE hf]
 ·have hargs:qg (RV (fun i=>if i=H.nx then (⟨w.heap.size+1,0,0⟩:Pl) else μ i) fun i=>K i\/i=H.nx) (.one (.yld H.nx)::caps.map Ji) (Value.func (.yield (w.heap.size+1)) #[] #[]::caps.map fun p=>Value.pointer (some ((μ p.1).addr p.2))):=by
   refine⟨⟨.inr rfl,by simp⟩,?_⟩;refine qg.mk (by simp) fun j v x hv hx=>?_;simp only [List.getElem?_map,zom] at hv hx;obtain⟨p,hp,rfl⟩:=hv;obtain⟨p',hp',rfl⟩:=hx;rw [hp] at hp';obtain rfl:=zsi hp';have hkp:=hkc p (zmg hp);refine⟨.inl hkp,?_⟩;have:=hR.lt _ hkp;show Value.pointer (some ((μ p.1).addr p.2))=Value.pointer (some ((if p.1=H.nx then _ else μ p.1).addr p.2))
   rw [if_neg (by omega)]
  refine callsIn_wide.2 ((h fid _ _ _ _ hR2 hargs).mono fun e w3 he=>?_)
  ·obtain⟨x,rfl,v,H3,μ3,K3,⟨st,j,f1,n1,F1,ps1,as1,bd1,hb,hst,hj⟩,_,hR3,hfr3⟩:=he;have hfr:=(hfr1.trans hR.lt' hfr2).trans hR.lt' hfr3;have hmu:μ3 H.nx=⟨w.heap.size+1,0,0⟩:=by
    rw [hfr3.mu H.nx (.inr rfl)];simp
   obtain⟨tmps,df,ho,hsz,hF1⟩:=hR3.blk H.nx _ hb;have hs:=hR3.setB (bk':=.lp .exhausted j f1 n1 F1 ps1 as1 bd1) (o:=.loop ⟨.exhausted,j,f1,tmps,ps1,as1,bd1,df⟩) hb rfl rfl ⟨tmps,df,rfl,hsz,hF1⟩;rw [hmu] at ho hs;have hfr':=hfr.trans hR.lt' hs.2;have hF3:z6 μ3 K3 n F a.tmps:=hF.mono hfr.kk hfr.mu;refine⟨j,_,run_endLoop ho hst,?_⟩;have hdef:JU s ({ target:=.collected w.heap.size,args:=#[] }::a.defers) (w3.putObj (w.heap.size+1) (.loop ⟨.exhausted,j,f1,tmps,ps1,as1,bd1,df⟩)):=by
    refine⟨Nat.le_trans hd.1 hfr'.size,List.nodup_cons.2 ⟨fun hm=>?_,hd.2.1⟩,fun d hdm=>?_⟩
    ·obtain⟨r,h1,_,h2⟩:=hd.2.2 _ hm;simp only [Deferred.mk.injEq,Target.collected.injEq,and_true] at h1;subst h1;have:=(Array.getElem?_eq_some_iff.1 h2).1;omega
    rcases List.mem_cons.1 hdm with rfl|hdm
    ·refine⟨_,rfl,hd.1,?_⟩;have h0:(w.heap.push (.deferred (some [])))[w.heap.size]?=some (.deferred (some [])):=by simp
     exact VD hR1 ((hfr2.trans hR1.lt' hfr3).trans hR1.lt' hs.2) h0
    ·obtain⟨r,h1,h3,h2⟩:=hd.2.2 d hdm;exact⟨r,h1,h3,VD hR hfr' h2⟩
   cases j with
   |none=>exact⟨hdef,F,_,μ3,K3,hj,hs.1,hF3,hfr'⟩
   |some c=>
    exact wpIn_mono (hj s μ3 K3 _ { a with defers:={ target:=.collected w.heap.size,args:=#[] }::a.defers } hs.1 hF3 hdef) fun e a' w' he=>bK hR.lt' hfr' he
theorem Rel.mark(hR:Rel G μ K H w){r:Nat}{ds:Option (List Deferred)}(hr:w.heap[r]?=some (.deferred ds))(o:Obj):Rel G μ K H (w.putObj r o):=
 ⟨hR.dom,hR.lt,fun b bk hb=>by
  have hB:=hR.blk b bk hb;by_cases e:(μ b).blk=r
  ·rw [e,hr] at hB;cases bk with
   |row n z m rw=>obtain⟨_,_,_,h,_⟩:=hB;cases h
   |mp es=>obtain⟨_,_,h,_⟩:=hB;cases h
   |lp st j f n F ps sg bd=>obtain⟨_,_,h,_⟩:=hB;cases h
   |st=>obtain⟨_,_,h,_⟩:=hB;cases h
   |it=>obtain⟨_,_,h,_⟩:=hB;cases h
  ·rw [World.putObj_heap_other e];exact hB,hR.inj,hR.glob⟩
theorem Fr.mark{μ0:Nat->Pl}{K0:Nat->Prop}{H0:Hp}{w0:World}(h:Fr μ0 K0 H0 w0 μ K H w){r:Nat}(hr:w0.heap.size<=r)(o:Obj):Fr μ0 K0 H0 w0 μ K H (w.putObj r o):=
 ⟨h.same,by simpa using h.size,fun i hi hne=>by rw [World.putObj_heap_other (by omega)];exact h.keep i hi hne,h.img,h.newmut,h.mu,h.kk,h.knew,h.nx,h.none,h.stay,h.ro⟩
theorem lH{μ0:Nat->Pl}{K0:Nat->Prop}{H0:Hp}{w0:World}{fn:Func}{tmps:Array Value}{R:Ending->World->Prop}{nn:Nat}{F:Fence}:∀{D:List Deferred} {w:World},JU w0.heap.size D w->Rel G μ K H w->Fr μ0 K0 H0 w0 μ K H w->
 (∀w',Rel G μ K H w'->Fr μ0 K0 H0 w0 μ K H w'->∃v,(results fn tmps).run P w'=.ok v w'/\R (.returned v) w')->LeavesInM F nn P fn tmps R D .returning w
 |[],w,_,hR,hFr,h=>h w hR hFr
 |d::D,w,hd,hR,hFr,h=>by
  obtain⟨r,rfl,h1,h2⟩:=hd.2.2 d (by simp);refine⟨by simp,.inl ⟨r,_,rfl,run_takeDeferred h2,?_⟩⟩;refine lH ⟨by simpa using hd.1,(List.nodup_cons.1 hd.2.1).2,fun d' hd'=>?_⟩ (hR.mark h2 _) (hFr.mark h1 _) h;obtain⟨r',rfl,h3,h4⟩:=hd.2.2 d' (by simp [hd']);refine⟨r',rfl,h3,?_⟩;rw [World.putObj_heap_other]
  ·exact h4
  ·rintro rfl;exact (List.nodup_cons.1 hd.2.1).1 hd'
end
end Go.Ab
