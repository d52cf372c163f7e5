/- -/
import Derived.Test.YtdlelodnhjacgaaGreatDoorAb5
import Derived.RangeFuncSeq
import Derived.RangeFuncCalls
import Derived.RangeFuncLeaves
import Derived.RangeFuncIn
import Derived.LoopIn
import Derived.RangeFuncRecord
import Derived.OrdersIn
set_option linter.unusedSimpArgs false
set_option linter.unusedVariables false
set_option maxRecDepth 8000
namespace Go.Ab
inductive SOp where
 |p (o:PureOp)
 |l (o:LoadOp)
 |a (o:AllocOp)
 |e (o:EffOp)
 |cf (f:FuncId) (args:List Opd)
 |cv (x:Opd) (args:List Opd)
 /-- an iteration over a map steps -/
 |nx (x:Opd)
 /-- not covered:no run comes here -/
 |no
def SOp.isC:SOp->Bool
 |.cf _ _=>true
 |.cv _ _=>true
 |_=>false
structure SOper where
 id:Nat
 dst:Option Nat
 op:SOp
 guard:Option (Nat × Bool)
 aid:Option Nat
 watch:List Nat
 keep:Bool
def xg(F:T V)(d:Option Nat)(v:V):T V:=
 match d with
 |some d=>F.set d (some v)
 |none=>F
def qH(g:Option (Nat × Bool))(F:T V):Bool:=
 match g with
 |none=>true
 |some (t,want)=>match (F.get t).getD V.undef with
  |.one (.bool b)=>b==want
  |_=>false
def wL(P:Program)(f:FuncId):Bool:=
 match P.funcs[f]? with
 |some fn=>fn.name != "runtime.NumGoroutine"&&fn.body.isSome
 |none=>false
def WO(p:Nat × Nat):V:=.one (.ptr p.1 p.2)
def xc(P:Program)(G:Nat)(f:FuncId)(args:List V)(H:Hp)(R:V->Hp->Prop):Prop:=
 ∀(μ:Nat->Pl) (K:Nat->Prop) (w:World) (xs:List Value),Rel G μ K H w->qe (RV μ K) args xs->
  Calls P f xs.toArray w fun e w'=>∃x,e=.returned x/\∃v H' μ' K',R v H'/\RV μ' K' v x/\Rel G μ' K' H' w'/\Fr μ K H w μ' K' H' w'
def lO(ch:List PanicEntry):Prop:=∃t v,ch=[{ v:=.iface t v,recovered:=false }]
def JI(G:Nat)(μ:Nat->Pl)(K:Nat->Prop)(H:Hp)(w:World)(R:V->Hp->Prop)(S:Hp->Prop)(e:Ending)(w':World):Prop:=
 (∃x,e=.returned x/\∃v H' μ' K',R v H'/\RV μ' K' v x/\Rel G μ' K' H' w'/\Fr μ K H w μ' K' H' w')\/
 (∃ch,e=.panicked ch/\lO ch/\∃H' μ' K',S H'/\Rel G μ' K' H' w'/\Fr μ K H w μ' K' H' w')
def jm(P:Program)(G:Nat)(f:FuncId)(args:List V)(H:Hp)(R:V->Hp->Prop)(S:Hp->Prop):Prop:=
 ∀(μ:Nat->Pl) (K:Nat->Prop) (w:World) (xs:List Value),Rel G μ K H w->qe (RV μ K) args xs->Calls P f xs.toArray w (JI G μ K H w R S)
theorem xc.toP{P:Program}{G:Nat}{f:FuncId}{args:List V}{H:Hp}{R:V->Hp->Prop}{S:Hp->Prop}(h:xc P G f args H R):jm P G f args H R S:=
 fun μ K w xs hR ha=>(h μ K w xs hR ha).mono fun _ _ he=>.inl he
theorem jm.of{P:Program}{G:Nat}{f:FuncId}{args:List V}{H:Hp}{R:V->Hp->Prop}(h:jm P G f args H R fun _=>False):xc P G f args H R:=
 fun μ K w xs hR ha=>(h μ K w xs hR ha).mono fun _ _ he=>he.elim id fun⟨_,_,_,_,_,_,hf,_⟩=>hf.elim
theorem jm.mono{P:Program}{G:Nat}{f:FuncId}{args:List V}{H:Hp}{R R':V->Hp->Prop}{S S':Hp->Prop}(h:jm P G f args H R S)(hr:∀v H',R v H'->R' v H')(hs:∀H',S H'->S' H'):jm P G f args H R' S':=
 fun μ K w xs hR ha=>(h μ K w xs hR ha).mono fun _ _ he=>he.imp (fun⟨x,h1,v,H',μ',K',h2,h3⟩=>⟨x,h1,v,H',μ',K',hr _ _ h2,h3⟩) fun⟨ch,h1,h2,H',μ',K',h3,h4⟩=>⟨ch,h1,h2,H',μ',K',hs _ h3,h4⟩
def vO(P:Program)(G:Nat)(b:Nat)(args:List V)(H:Hp)(R:V->Hp->Prop):Prop:=
 ∀(μ:Nat->Pl) (K:Nat->Prop) (w:World) (xs:List Value),Rel G μ K H w->K b->qe (RV μ K) args xs->
  YieldAt Fence.wide 0 P (μ b).blk xs.toArray w fun e w'=>∃x,e=.returned x/\∃v H' μ' K',R v H'/\RV μ' K' v x/\Rel G μ' K' H' w'/\Fr μ K H w μ' K' H' w'
def Ks(P:Program)(G:Nat)(b:Nat)(H:Hp)(R:V->Hp->Prop):Prop:=
 ∀(μ:Nat->Pl) (K:Nat->Prop) (w:World),Rel G μ K H w->K b->∀ty:TypeId,∃y w',(Instr.next (.pointer (some ((μ b).addr 0))) false ty).run P w=.ok y w'/\∃v H' μ' K',R v H'/\RV μ' K' v y/\Rel G μ' K' H' w'/\Fr μ K H w μ' K' H' w'
def Xh:Option (Option Nat)->Fence
 |none=>Fence.wide
 |some none=>Fence.wide
 |some (some l)=>Fence.wide.inRound l
theorem Vw{ρ:Option (Option Nat)}{f:FuncId}:(Xh ρ).fn f:=by
 match ρ with
 |none=>trivial
 |some none=>trivial
 |some (some l)=>trivial
theorem Vx{ρ:Option (Option Nat)}:(Xh ρ).depth=none:=by
 match ρ with
 |none=>rfl
 |some none=>rfl
 |some (some l)=>rfl
theorem XD{ρ:Option (Option Nat)}{k:Nat}:(Xh ρ).room k:=fun d hd=>by rw [Vx] at hd;cases hd
theorem OT{ρ:Option (Option Nat)}{n:Nat}{P:Program}{f:FuncId}{args:Array Value}{w:World}{R:Ending->World->Prop}(h:Calls P f args w R):CallsIn (Xh ρ) n P f args w R:=by
 match ρ with
 |none=>exact callsIn_wide.2 h
 |some none=>exact callsIn_wide.2 h
 |some (some l)=>exact CallsIn.inRound l (callsIn_wide.2 h)
theorem H7{ρ:Option (Option Nat)}{n:Nat}{P:Program}{l:Nat}{f:FuncId}{tmps:Array Value}{assign body:Code}{w:World}{R:Ending->World->Prop}(h:RoundIn Fence.wide 0 P l f tmps assign body w R):RoundIn (Xh ρ) n P l f tmps assign body w R:=by
 match ρ with
 |none=>exact⟨trivial,fun c cs _=>h.2 c cs (room_wide _)⟩
 |some none=>exact⟨trivial,fun c cs _=>h.2 c cs (room_wide _)⟩
 |some (some k)=>exact⟨trivial,fun c cs _=>h.2 c cs (room_wide _)⟩
abbrev z7:=List (Nat × (Hp->Prop))
def yi(ws:List Nat)(ctx:z7)(H:Hp):Prop:=
 match ws with
 |[]=>True
 |_=>∀k∈ws,∀p,(k,p)∈ctx->p H
def qC(P:Program)(G base:Nat)(QP:Hp->Prop)(Q:T V->Hp->Prop):List SOper->z7->T V->Hp->Prop
 |[],_,F,H=>Q F H
 |o::r,ctx,F,H=>
  if qH o.guard F then
   match o.op with
   |.p op=>match qp F op with
    |some v=>qC P G base QP Q r ctx (xg F o.dst v) H
    |none=>False
   |.l op=>match qL F H op with
    |some v=>qC P G base QP Q r (if o.keep then (o.id,fun H'=>qL F H' op=some v)::ctx else ctx) (xg F o.dst v) H
    |none=>False
   |.a op=>match xK F op with
    |some (bk,g)=>match o.aid with
     |none=>qC P G base QP Q r ctx (xg F o.dst (g H.nx)) (H.push bk)
     |some k=>qC P G base QP Q r ctx (xg F o.dst (g (base+k))) (H.add (base+k) bk)
    |none=>False
   |.e op=>match xe F H op with
    |some (v,H')=>yi o.watch ctx H'/\qC P G base QP Q r ctx (xg F o.dst v) H'
    |none=>False
   |.cf f args=>jm P G f (args.map (·.ev F)) H (fun v H'=>yi o.watch ctx H'/\qC P G base QP Q r ctx (xg F o.dst v) H') QP
   |.cv x args=>match x.ev F with
    |.one (.fn f caps)=>wL P f=true/\jm P G f (args.map (·.ev F)++caps.map WO) H (fun v H'=>yi o.watch ctx H'/\qC P G base QP Q r ctx (xg F o.dst v) H') QP
    |.one (.bm f b off)=>wL P f=true/\jm P G f (.one (.ptr b off)::args.map (·.ev F)) H (fun v H'=>yi o.watch ctx H'/\qC P G base QP Q r ctx (xg F o.dst v) H') QP
    |.one (.yld b)=>vO P G b (args.map (·.ev F)) H fun v H'=>yi o.watch ctx H'/\qC P G base QP Q r ctx (xg F o.dst v) H'
    |_=>False
   |.nx x=>match x.ev F with
    |.one (.ptr b 0)=>Ks P G b H fun v H'=>yi o.watch ctx H'/\qC P G base QP Q r ctx (xg F o.dst v) H'
    |_=>False
   |.no=>False
  else qC P G base QP Q r ctx (xg F o.dst V.undef) H
def ZK(P:Program)(G n:Nat)(o:Oper):Option SOp:=
 match VK P G n o with
 |some p=>some (.p p)
 |none=>match Yu P G n o with
  |some p=>some (.l p)
  |none=>match Wj P G n o with
   |some p=>some (.a p)
   |none=>match Kh P G n o with
    |some p=>some (.e p)
    |none=>match o.op with
     |.call { callee:=.value (.func f),args:=args,argTypes:=_ }=>if wL P f then (KJ G n args.toList).map (.cf f) else none
     |.call { callee:=.value (.tmp t),args:=args,argTypes:=_ }=>match cO G n (.tmp t),KJ G n args.toList with
      |some x,some l=>some (.cv x l)
      |_,_=>none
     |.next it false=>(cO G n it).map .nx
     |_=>none
def nA(P:Program)(G n:Nat)(o:Oper):Option SOp:=match ZK P G n o with
 |some op=>some op
 |none=>some .no
def VS(n:Nat)(ops:Array Oper):Option (Nat × Bool)->Option (Option (Nat × Bool))
 |none=>some none
 |some (j,want)=>match (ops[j]?).bind (·.dst) with
  |some t=>if t<n then some (some (t,want)) else none
  |none=>none
def I7(n:Nat):Option Tmp->Bool
 |none=>true
 |some d=>d<n
def nC(P:Program)(G n:Nat)(ops:Array Oper)(o:Oper)(s:SOper):Prop:=
 nA P G n o=some s.op/\s.dst=o.dst/\I7 n o.dst=true/\VS n ops o.guard=some s.guard
section
variable{P:Program}{G n:Nat}{μ:Nat->Pl}{K:Nat->Prop}{H H':Hp}{w:World}{F:T V}{a:Act}
theorem xR.mono{μ':Nat->Pl}{K':Nat->Prop}{tmps:Array Value}(hF:xR μ K n F tmps)(hK:∀b,K b->K' b)(hμ:∀b,K b->μ' b=μ b):xR μ' K' n F tmps:=
 ⟨hF.1,fun i hi=>(hF.2 i hi).mono hK hμ⟩
theorem xR.put(hF:xR μ K n F a.tmps){d:Option Tmp}(hd:I7 n d=true){v:V}{x:Value}(hv:RV μ K v x):xR μ K n (xg F d v) (a.put d x).tmps:=by
 cases d with
 |none=>exact hF
 |some d=>
  simp only [I7,yA] at hd;refine⟨by simp [Act.put];exact hF.1,fun i hi=>?_⟩;simp only [xg,Act.put];by_cases e:i=d
  ·subst e;have:i<a.tmps.size:=by rw [hF.1];exact hi
   simp [this,hv]
  ·rw [T.get_set_ne _ _ e];have h1:=hF.2 i hi;have:(a.tmps.setIfInBounds d x).getD i Go.undef=a.tmps.getD i Go.undef:=by
    simp only [nL];rw [Iy (fun h=>e h.symm)]
   rw [this];exact h1
theorem RV.not_bool{v:V}{b:Bool}(h:RV μ K v (.bool b)):v=.one (.bool b):=by
 cases v with
 |one c=>
  have h':RC μ K c (.bool b):=h;cases c<;>simp only [RC] at h'
  all_goals first
   |(injection h' with h';rw [h'])
   |(obtain⟨_,_,_,h',_⟩:=h';cases h')
   |(obtain⟨_,h'⟩:=h';cases h';done)
   |(obtain⟨_,_,h'⟩:=h';cases h';done)
   |cases h'
 |agg l=>obtain⟨_,h,_⟩:=h;cases h
 |tup l=>obtain⟨_,h,_⟩:=h;cases h
theorem MC(hF:xR μ K n F a.tmps){ops:Array Oper}{o:Oper}{g:Option (Nat × Bool)}(hg:VS n ops o.guard=some g):Region.wanted o (yielded ops a.tmps)=qH g F:=by
 unfold Region.wanted;cases hog:o.guard with
 |none=>simp only [hog,VS,zoi] at hg;subst hg;rfl
 |some jw=>
  obtain⟨j,want⟩:=jw;simp only [hog,VS] at hg;cases hd:(ops[j]?).bind (·.dst) with
  |none=>simp [hd] at hg
  |some t=>
   simp only [hd] at hg;split at hg
   ·rename_i ht;obtain rfl:=zsi hg;have hv:=hF.2 t ht;have hts:t<a.tmps.size:=by rw [hF.1];exact ht
    have hget:a.tmps[t]?=some (a.tmps.getD t Go.undef):=by simp [hts]
    simp only [yielded,hd,JN,hget,qH];generalize a.tmps.getD t Go.undef=x at *;generalize (F.get t).getD V.undef=v at *;cases x with
    |bool b=>
     rw [hv.not_bool];cases b<;>cases want<;>rfl
    |_=>
     have hnb:∀b,v≠.one (.bool b):=by
      rintro b rfl;cases (show _=Value.bool b from hv)
     cases v with
     |one c=>cases c<;>first|rfl|exact absurd O (hnb _)
     |agg l=>rfl
     |tup l=>rfl
   ·cases hg
theorem Yi{f:FuncId}(h:wL P f=true)(args:Array Value)(w:World):(callFunc f args).run P w=.ok (.enter f args) w:=by
 unfold wL at h;cases hf:P.funcs[f]? with
 |none=>simp [hf] at h
 |some fn=>
  simp only [hf,x8,bne_iff_ne,ne_eq] at h;obtain⟨bd,hb⟩:=eK.1 h.2;simp [callFunc,hf,h.1,hb]
def V0(ctx:z7):Prop:=∀k p,(k,p)∈ctx->∀(H:Hp) (b:Nat) (bk:B),H.get b=none->p H->p (H.add b bk)
theorem CA{H:Hp}{b i x:Nat}{bk:B}{c:C}(hn:H.get x=none)(h:H.cell b i=some c):(H.add x bk).cell b i=some c:=by
 unfold Hp.cell at h ⊢;by_cases e:b=x
 ·subst e;simp [hn] at h
 ·rw [Hp.get_add_ne _ _ e];exact h
theorem X8{H:Hp}{x:Nat}{bk:B}(hn:H.get x=none):∀{m b o:Nat} {l:List C},H.loads b o m=some l->(H.add x bk).loads b o m=some l
 |0,_,_,_,h=>h
 |m+1,b,o,l,h=>by
  simp only [Hp.loads] at h ⊢;cases hc:H.cell b o with
  |none=>simp [hc] at h
  |some c=>
   simp only [hc] at h;simp only [CA hn hc];cases hl:H.loads b (o+1) m with
   |none=>simp [hl] at h
   |some l'=>simp only [hl] at h;simp only [X8 hn hl];exact h
theorem uH{F:T V}{H:Hp}{op:LoadOp}{v:V}{x:Nat}{bk:B}(hn:H.get x=none)(h:qL F H op=some v):qL F (H.add x bk) op=some v:=by
 have hm:∀b es,H.get b=some (.mp es)->(H.add x bk).get b=some (.mp es):=fun b es hb=>by
  rw [Hp.get_add_ne _ _ (fun e=>by subst e;rw [hn] at hb;cases hb)];exact hb
 cases op with
 |load agg n a=>
  simp only [qL] at h ⊢;split at h
  ·cases agg with
   |true=>
    simp only [if_true,zom] at h ⊢;obtain⟨l,hl,rfl⟩:=h;exact⟨l,X8 hn hl,O⟩
   |false=>
    simp only [yz,if_false,zom] at h ⊢;obtain⟨c,hc,rfl⟩:=h;exact⟨c,CA hn hc,O⟩
  ·cases h
 |lookup z ok m k=>
  simp only [qL] at h ⊢;split at h
  ·rename_i hk;rw [if_pos hk];split at h
   ·exact h
   ·rename_i b hb;split at h
    ·rename_i es hes;simp only [hm _ _ hes];exact h
    ·cases h
   ·cases h
  ·cases h
 |bstr x=>
  simp only [qL] at h ⊢;split at h
  ·exact h
  ·split at h
   ·rename_i he;rw [if_pos he];split at h
    ·rename_i cs hl;simp only [X8 hn hl];exact h
    ·cases h
   ·cases h
  ·cases h
 |pcv t n y=>
  simp only [qL] at h ⊢;split at h
  ·exact h
  ·split at h
   ·rename_i t' l hb;rw [Hp.get_add_ne _ _ (fun e=>by subst e;rw [hn] at hb;cases hb),hb];exact h
   ·cases h
  ·cases h
 |aslice len esz y lo hi=>
  simp only [qL] at h ⊢;split at h
  ·split at h
   ·rename_i n' z m rw' hb;rw [Hp.get_add_ne _ _ (fun e=>by subst e;rw [hn] at hb;cases hb),hb];exact h
   ·cases h
  ·cases h
 |slookup z ok m k=>
  simp only [qL] at h ⊢;split at h
  ·exact h
  ·split at h
   ·rename_i es hes;simp only [hm _ _ hes];exact h
   ·cases h
  ·cases h
 |mlen m=>
  simp only [qL] at h ⊢;split at h
  ·exact h
  ·rename_i b hb;split at h
   ·rename_i es hes;simp only [hm _ _ hes];exact h
   ·cases h
  ·cases h
theorem Fm{F:T V}{H H':Hp}{op:LoadOp}{v:V}{x:Nat}{bk:B}(hn:H.get x=none)(h0:qL F H op=some v)(h:qL F (H'.add x bk) op=some v):qL F H' op=some v:=by
 have hg:∀b,b≠x->(H'.add x bk).get b=H'.get b:=fun b e=>Hp.get_add_ne _ _ e;have hc:∀b i,b≠x->(H'.add x bk).cell b i=H'.cell b i:=fun b i e=>by unfold Hp.cell;rw [hg b e]
 have hl:∀m b o,b≠x->(H'.add x bk).loads b o m=H'.loads b o m:=fun m b=>by
  induction m with
  |zero=>intro o _;rfl
  |succ m ih=>intro o e;simp only [Hp.loads];rw [hc b o e,ih (o+1) e]
 cases op with
 |load agg n a=>
  simp only [qL] at h h0 ⊢;split at h0
  ·rename_i b o hb;simp only [hb] at h ⊢;by_cases e:b=x
   ·subst e;cases agg with
    |true=>
     simp only [if_true] at h h0 ⊢;cases n with
     |zero=>exact h
     |succ n=>
      have:H.cell b o=none:=by unfold Hp.cell;rw [hn];rfl
      simp only [Hp.loads,this] at h0;cases h0
    |false=>
     simp only [yz,if_false] at h0;have:H.cell b o=none:=by unfold Hp.cell;rw [hn];rfl
     rw [this] at h0;cases h0
   ·rw [hl _ _ _ e,hc _ _ e] at h;exact h
  ·cases h0
 |lookup z ok m k=>
  simp only [qL] at h h0 ⊢;split at h0
  ·rename_i hk;rw [if_pos hk] at h ⊢;split at h0
   ·rename_i e;simp only [e] at h ⊢;exact h
   ·rename_i b hb;simp only [hb] at h ⊢;by_cases e:b=x
    ·subst e;simp [hn] at h0
    ·rw [hg b e] at h;exact h
   ·cases h0
  ·cases h0
 |mlen m=>
  simp only [qL] at h h0 ⊢;split at h0
  ·rename_i e;simp only [e] at h ⊢;exact h
  ·rename_i b hb;simp only [hb] at h ⊢;by_cases e:b=x
   ·subst e;simp [hn] at h0
   ·rw [hg b e] at h;exact h
  ·cases h0
 |bstr y=>
  simp only [qL] at h h0 ⊢;split at h0
  ·rename_i e;simp only [e] at h ⊢;exact h
  ·rename_i b o len cap e ex hb;simp only [hb] at h ⊢;split at h0
   ·rename_i he;rw [if_pos he] at h ⊢;by_cases e2:b=x
    ·subst e2;cases len with
     |zero=>exact h
     |succ m=>
      have:H.cell b o=none:=by unfold Hp.cell;rw [hn];rfl
      simp only [Hp.loads,this] at h0;cases h0
    ·rw [hl _ _ _ e2] at h;exact h
   ·cases h0
  ·cases h0
 |pcv t n y=>
  simp only [qL] at h h0 ⊢;split at h0
  ·rename_i e;simp only [e] at h ⊢;exact h
  ·rename_i b o hb;simp only [hb] at h ⊢;by_cases e:b=x
   ·subst e;simp [hn] at h0
   ·rw [hg b e] at h;exact h
  ·cases h0
 |aslice len esz y lo hi=>
  simp only [qL] at h h0 ⊢;split at h0
  ·rename_i b o hy;simp only [hy] at h ⊢;by_cases e:b=x
   ·subst e;simp [hn] at h0
   ·rw [hg b e] at h;exact h
  ·cases h0
 |slookup z ok m k=>
  simp only [qL] at h h0 ⊢;split at h0
  ·rename_i e1 e2;simp only [e1,e2] at h ⊢;exact h
  ·rename_i s b hm hk;simp only [hm,hk] at h ⊢;by_cases e:b=x
   ·subst e;simp [hn] at h0
   ·rw [hg b e] at h;exact h
  ·cases h0
theorem V0.of{ctx:z7}(h:V0 ctx)(b:Bool)(i:Nat)(op:LoadOp)(F:T V)(v:V):V0 (if b then (i,fun H'=>qL F H' op=some v)::ctx else ctx):=by
 intro k p hp;split at hp
 ·rcases zd.1 hp with hp|hp
  ·injection hp with _ hp
   subst hp;exact fun H b bk hn hh=>uH hn hh
  ·exact h k p hp
 ·exact h k p hp
theorem B1{o:Oper}{op:SOp}(h:ZK P G n o=some op):∀c,o.op≠.defer c:=by
 intro c hc;simp [ZK,VK,aR,aQ,Yu,ZU,ZT,Wj,Kh,Wi,Wh,hc] at h
theorem HI {ρ:Option (Option Nat)} {nn:Nat} {ops:Array Oper} {o:Oper} {s:SOper} {r:List SOper} {ctx:z7} {base i:Nat} {QP:Hp->Prop} {Q:T V->Hp->Prop} {Q':Exit->Act->World->Prop} {Kont:Act->World->Prop}
 {μ0:Nat->Pl} {K0:Nat->Prop} {H0:Hp} {w0:World} (hlt0:∀b bk,H0.get b=some bk->b<H0.nx)
 (ho:ops[i]?=some o) (hfit:nC P G n ops o s) (hR:Rel G μ K H w) (hF:xR μ K n F a.tmps) (hFr:Fr μ0 K0 H0 w0 μ K H w)
 (hrs:∀k,s.aid=some k->¬K (base+k)/\base+k<H.nx/\H0.nx<=base+k)
 (hw:qC P G base QP Q (s::r) ctx F H)
 (hK:∀(μ':Nat->Pl) (K':Nat->Prop) (F':T V) (H':Hp) (a':Act) (w':World) (ctx':z7),Rel G μ' K' H' w'->xR μ' K' n F' a'.tmps->Fr μ0 K0 H0 w0 μ' K' H' w'->a'.defers=a.defers->
  H.nx<=H'.nx->(∀b,b<H.nx->K' b->K b\/∃k,s.aid=some k/\b=base+k)->(∃v,F'=xg F s.dst v)->(ctx'=ctx\/∃op v,qL F H op=some v/\ctx'=(s.id,fun H'=>qL F H' op=some v)::ctx)->qC P G base QP Q r ctx' F' H'->Kont a' w')
 (hP:∀(μ':Nat->Pl) (K':Nat->Prop) (H':Hp) (w':World) (ch:List PanicEntry),s.op.isC=true->QP H'->lO ch->Rel G μ' K' H' w'->xR μ' K' n F a.tmps->Fr μ0 K0 H0 w0 μ' K' H' w'->Q' (.panic ch) a w'):
 wpOpIn (Xh ρ) nn P ops Q' i Kont a w:=by
 obtain⟨hop,hdst,hd,hgd⟩:=hfit;have hput:∀x,(a.put o.dst x).defers=a.defers:=fun x=>by cases o.dst<;>rfl
 unfold wpOpIn;rw [ho];simp only;rw [MC hF hgd];rw [qC] at hw;cases hwa:qH s.guard F with
 |false=>
  simp only [hwa,yz,if_false] at hw ⊢;rw [hdst] at hw;exact⟨fun _ _=>Vw,hK μ K _ H _ w ctx hR (hF.put hd RV.undef) hFr (hput _) (qz _) (fun b _ h=>.inl h) ⟨_,by rw [hdst]⟩ (.inl O) hw⟩
 |true=>
  simp only [hwa,if_true] at hw ⊢;have hop':ZK P G n o=some s.op:=by
   unfold nA at hop;split at hop
   ·rename_i h0;rw [h0];exact hop
   ·obtain hop:=zsi hop;rw [<-hop] at hw;exact hw.elim
  replace hop:=hop';unfold Oper.wpIn;refine⟨fun _ _=>Vw,?_⟩;rw [Oper.semAt_eq _ _ _ (B1 hop)];rw [hdst] at hw;have val:∀(v:V) (x:Value) (ctx':z7),RV μ K v x->(ctx'=ctx\/∃op v,qL F H op=some v/\ctx'=(s.id,fun H'=>qL F H' op=some v)::ctx)->qC P G base QP Q r ctx' (xg F o.dst v) H->Kont (a.put o.dst x) w:=fun v x ctx' hv hcs hw'=>
   hK μ K _ H _ w ctx' hR (hF.put hd hv) hFr (hput _) (qz _) (fun b _ h=>.inl h) ⟨v,by rw [hdst]⟩ hcs hw'
  have call:∀(f:FuncId) (args:List V) (xs:List Value) (nx:Result Next),qe (RV μ K) args xs->nx=.ok (.enter f xs.toArray) w->
   s.op.isC=true->jm P G f args H (fun v H'=>yi s.watch ctx H'/\qC P G base QP Q r ctx (xg F o.dst v) H') QP->o.uponIn (Xh ρ) nn P a Kont Q' nx:=by
   intro f args xs nx ha hnx hkd hc;subst hnx;rw [Oper.uponIn_enter];refine⟨fun h=>(by rw [Vx] at h;cases h),OT ((hc μ K w xs hR ha).mono fun e w' he=>?_)⟩;rcases he with he|⟨ch,rfl,hch,H',μ',K',h1,h3,h4⟩
   rotate_left
   ·exact hP μ' K' H' w' ch hkd h1 hch h3 (hF.mono h4.kk h4.mu) (hFr.trans hlt0 h4)
   obtain⟨x,rfl,v,H',μ',K',⟨_,h1⟩,h2,h3,h4⟩:=he;exact hK μ' K' _ H' _ w' ctx h3 ((hF.mono h4.kk h4.mu).put hd h2) (hFr.trans hlt0 h4) (hput _) h4.nx (fun b hb h=>.inl (h4.knew b hb h)) ⟨v,by rw [hdst]⟩ (.inl O) h1
  unfold ZK at hop;cases hp:VK P G n o with
  |some p=>
   simp only [hp,zoi] at hop;rw [<-hop] at hw;simp only at hw;cases hv:qp F p with
   |none=>simp [hv] at hw
   |some v=>
    simp only [hv] at hw;obtain⟨x,hx,hr⟩:=Ey (P:=P) hR hF hp hv;rw [hx,Oper.uponIn_value];exact val v x ctx hr (.inl O) hw
  |none=>
   simp only [hp] at hop;cases hl:Yu P G n o with
   |some p=>
    simp only [hl,zoi] at hop;rw [<-hop] at hw;simp only at hw;cases hv:qL F H p with
    |none=>simp [hv] at hw
    |some v=>
     simp only [hv] at hw;obtain⟨x,hx,hr⟩:=Fn (P:=P) hR hF hl hv;rw [hx,Oper.uponIn_value];exact val v x _ hr (by split;exact .inr ⟨_,_,hv,rfl⟩;exact .inl rfl) hw
   |none=>
    simp only [hl] at hop;cases hal:Wj P G n o with
    |some p=>
     simp only [hal,zoi] at hop;rw [<-hop] at hw;simp only at hw;cases hv:xK F p with
     |none=>simp [hv] at hw
     |some bg=>
      obtain⟨bk,g⟩:=bg;simp only [hv] at hw;obtain⟨hm,x,obj,sz,hx,hrb,hval⟩:=Bt (P:=P) hR hF hal hv;rw [hx,Oper.uponIn_value];have hnk:¬K H.nx:=fun h=>absurd (hR.lt _ h) (by omega);cases hai:s.aid with
      |none=>
       simp only [hai] at hw;refine hK (fun i=>if i=H.nx then ⟨w.heap.size,0,sz⟩ else μ i) (fun i=>K i\/i=H.nx) _ (H.push bk) _ { w with heap:=w.heap.push obj } ctx (Rel.new hR hnk (by omega) (by omega) hm hrb)
        ((hF.mono (fun _ h=>.inl h) (fun b hb=>?_)).put hd (hval H.nx _ _ (.inr rfl) (by simp))) (Fr.new hFr hnk hFr.nx hlt0 (by omega) hm) (hput _) (by simp) (fun b hb h=>?_) ⟨_,by rw [hdst]⟩ (.inl rfl) hw
       ·have:=hR.lt b hb;rw [if_neg (by omega)]
       ·rcases h with h|h
        ·exact .inl h
        ·omega
      |some k=>
       simp only [hai] at hw;obtain⟨r1,r2,r3⟩:=hrs k hai;refine hK (fun i=>if i=base+k then ⟨w.heap.size,0,sz⟩ else μ i) (fun i=>K i\/i=base+k) _ (H.add (base+k) bk) _ { w with heap:=w.heap.push obj } ctx (Rel.new hR r1 r2 (qz _) hm hrb)
        ((hF.mono (fun _ h=>.inl h) (fun b hb=>?_)).put hd (hval (base+k) _ _ (.inr rfl) (by simp))) (Fr.new hFr r1 r3 hlt0 (qz _) hm) (hput _) (by simp) (fun b hb h=>?_) ⟨_,by rw [hdst]⟩ (.inl rfl) hw
       ·by_cases e:b=base+k
        ·subst e;exact absurd hb r1
        ·rw [if_neg e]
       ·rcases h with h|h
        ·exact .inl h
        ·exact .inr ⟨k,hai,h⟩
    |none=>
     simp only [hal] at hop;cases he:Kh P G n o with
     |some p=>
      simp only [he,zoi] at hop;rw [<-hop] at hw;simp only at hw;cases hv:xe F H p with
      |none=>simp [hv] at hw
      |some vH=>
       obtain⟨v,H'⟩:=vH;simp only [hv] at hw;obtain⟨nx,x,w',μ',K',h1,h2,h3,h4,h5⟩:=Nt (P:=P) hR hF he hv;have hk:=hK μ' K' _ H' _ w' ctx h4 ((hF.mono h5.kk h5.mu).put hd h3) (hFr.trans hlt0 h5) (hput x) h5.nx (fun b hb h=>.inl (h5.knew b hb h)) ⟨v,by rw [hdst]⟩ (.inl rfl) hw.2;rw [h1];rcases h2 with rfl|⟨rfl,rfl⟩
       ·rw [Oper.uponIn_value];exact hk
       ·rw [Oper.uponIn_skip];exact hk
     |none=>
      simp only [he] at hop;split at hop
      ·rename_i f args ts hoo;split at hop
       ·rename_i hfn;simp only [zom] at hop;obtain⟨ds,hds,hop⟩:=hop;rw [<-hop] at hw;refine call f _ (args.toList.map a.eval) _ (VR hR hF hds) ?_ (by rw [<-hop];rfl) hw;have harr:args.map a.eval=(args.toList.map a.eval).toArray:=by apply Array.ext';simp
        have hev:a.eval (.func f)=.func (.func f) #[] #[]:=rfl;simp [execOp,hoo,resolve,hev,Deferred.ofValue,invoke,Yi hfn,<-harr]
       ·cases hop
      ·rename_i t args ts hoo;split at hop
       ·rename_i x l hx hl';obtain hop:=zsi hop;rw [<-hop] at hw;simp only at hw;have hv:=qy hR hF hx;split at hw
        ·rename_i f caps hxe;rw [hxe] at hv;obtain⟨hkc,hv'⟩:(∀p∈caps,K p.1)/\a.eval (.tmp t)=.func (.func f) #[] (caps.map fun p=>Value.pointer (some ((μ p.1).addr p.2))).toArray:=hv;refine call f _ (args.toList.map a.eval++caps.map fun p=>Value.pointer (some ((μ p.1).addr p.2))) _ ((VR hR hF hl').append ?_) ?_ (by rw [<-hop];rfl) hw.2
         ·refine qe.mk (by simp) fun j v x hv hx=>?_;simp only [jH,zom] at hv hx;obtain⟨p,hp,rfl⟩:=hv;obtain⟨p',hp',rfl⟩:=hx;rw [hp] at hp';obtain rfl:=zsi hp';exact⟨hkc p (zmg hp),O⟩
         ·simp [execOp,hoo,resolve,hv',Deferred.ofValue,invoke,Yi hw.1]
        ·rename_i f b off hxe;rw [hxe] at hv;obtain⟨hkb,hv'⟩:K b/\a.eval (.tmp t)=.func (.func f) #[.pointer (some ((μ b).addr off))] #[]:=hv;refine call f (.one (.ptr b off)::l.map (·.ev F)) (.pointer (some ((μ b).addr off))::args.toList.map a.eval) _ ⟨⟨hkb,O⟩,VR hR hF hl'⟩ ?_ (by rw [<-hop];rfl) hw.2;have harr:args.map a.eval=(args.toList.map a.eval).toArray:=by apply Array.ext';simp
         simp [execOp,hoo,resolve,hv',Deferred.ofValue,invoke,Yi hw.1]
        ·rename_i b hxe;rw [hxe] at hv;obtain⟨hkb,hv'⟩:K b/\a.eval (.tmp t)=.func (.yield (μ b).blk) #[] #[]:=hv;obtain⟨fn,tmps,assign,body,hy,hr⟩:=hw μ K w (args.toList.map a.eval) hR hkb (VR hR hF hl');have harr:args.map a.eval=(args.toList.map a.eval).toArray:=by apply Array.ext';simp
         have hex:(execOp a.eval o).run P w=.ok (.round (μ b).blk fn tmps assign body) w:=by
          simp only [<-harr] at hy;simp [execOp,hoo,resolve,hv',Deferred.ofValue,invoke,hy]
         rw [hex,Oper.uponIn_round];refine⟨fun h=>(by rw [Vx] at h;cases h),H7 (hr.mono fun e w' he=>?_)⟩;obtain⟨x,rfl,v,H',μ',K',⟨_,h1⟩,h2,h3,h4⟩:=he;exact hK μ' K' _ H' _ w' ctx h3 ((hF.mono h4.kk h4.mu).put hd h2) (hFr.trans hlt0 h4) (hput _) h4.nx (fun b hb h=>.inl (h4.knew b hb h)) ⟨v,by rw [hdst]⟩ (.inl O) h1
        ·exact hw.elim
       ·cases hop
      ·rename_i it hoo;simp only [zom] at hop;obtain⟨x,hx,hop⟩:=hop;rw [<-hop] at hw;simp only at hw;have hv:=qy hR hF hx;split at hw
       ·rename_i b hxe;rw [hxe] at hv;obtain⟨hkb,hv'⟩:K b/\a.eval it=.pointer (some ((μ b).addr 0)):=hv;obtain⟨y,w',hy,v,H',μ',K',⟨_,h1⟩,h2,h3,h4⟩:=hw μ K w hR hkb o.type;have hex:(execOp a.eval o).run P w=.ok (.value y) w':=by simp [execOp,hoo,hv',hy]
        rw [hex,Oper.uponIn_value];exact hK μ' K' _ H' _ w' ctx h3 ((hF.mono h4.kk h4.mu).put hd h2) (hFr.trans hlt0 h4) (hput _) h4.nx (fun b hb h=>.inl (h4.knew b hb h)) ⟨v,by rw [hdst]⟩ (.inl O) h1
       ·exact hw.elim
      ·cases hop
end
def zk(P:Program)(G n:Nat)(ops:Array Oper):List Nat->List SOper->Prop
 |[],[]=>True
 |i::idx,s::l=>(∃o,ops[i]?=some o/\nC P G n ops o s)/\zk P G n ops idx l
 |_,_=>False
section
variable{P:Program}{G n:Nat}{ρ:Option (Option Nat)}
def Kr:Nat:=9999
def BE(F:T V):List V:=match F.get Kr with
 |some (.tup l)=>l
 |_=>[]
def dL:Option (Option Nat)->T V->List V
 |some none,F=>BE F
 |_,_=>[]
def Y4(d:Deferred):Option Nat:=match d.target with
 |.collected r=>some r
 |_=>none
def Qy(μ:Nat->Pl)(K:Nat->Prop)(s:Nat)(w:World):List Deferred->List V->Prop
 |[],L=>L=[]
 |d::D,L=>(∃r,d={ target:=.collected r,args:=#[] }/\s<=r/\w.heap[r]?=some (.deferred (some []))/\Qy μ K s w D L)\/
  (∃f caps L',L=.one (.fn f caps)::L'/\(∀p∈caps,K p.1)/\d={ target:=.fn (.func f) (caps.map fun p=>Value.pointer (some ((μ p.1).addr p.2))).toArray,args:=#[] }/\Qy μ K s w D L')
def KK(ρ:Option (Option Nat))(n:Nat)(μ:Nat->Pl)(K:Nat->Prop)(s:Nat)(D:List Deferred)(w:World)(L:List V):Prop:=(ρ=some none->n<=Kr)/\s<=w.heap.size/\(D.filterMap Y4).Nodup/\Qy μ K s w D L
theorem KK.nil{ρ:Option (Option Nat)}{n:Nat}{μ:Nat->Pl}{K:Nat->Prop}{s:Nat}(w:World)(hn:ρ=some none->n<=Kr)(h:s<=w.heap.size):KK ρ n μ K s [] w []:=⟨hn,h,List.nodup_nil,rfl⟩
theorem uR{μ μ':Nat->Pl}{K K':Nat->Prop}{H H':Hp}{w w':World}(hR:Rel G μ K H w)(h:Fr μ K H w μ' K' H' w'){r:Nat}(hr:w.heap[r]?=some (.deferred (some []))):w'.heap[r]?=some (.deferred (some [])):=by
 rw [h.keep r (nJ.1 hr).1 fun b bk hb _ e=>?_]
 ·exact hr
 ·have hB:=hR.blk b bk hb;rw [e,hr] at hB;cases bk with
  |row n z m rw=>obtain⟨_,_,_,h,_⟩:=hB;cases h
  |mp es=>obtain⟨_,_,h,_⟩:=hB;cases h
  |lp st j f n F ps sg bd=>obtain⟨_,_,h,_⟩:=hB;cases h
  |st=>obtain⟨_,_,h,_⟩:=hB;cases h
  |it=>obtain⟨_,_,h,_⟩:=hB;cases h
  |tr=>obtain⟨_,_,h,_⟩:=hB;cases h
theorem Qy.fr{s:Nat}{μ μ':Nat->Pl}{K K':Nat->Prop}{H H':Hp}{w w':World}(hR:Rel G μ K H w)(h:Fr μ K H w μ' K' H' w'):∀{D:List Deferred} {L:List V},Qy μ K s w D L->Qy μ' K' s w' D L
 |[],_,hd=>hd
 |d::D,L,hd=>hd.imp (fun⟨r,h1,h2,h3,h4⟩=>⟨r,h1,h2,uR hR h h3,Qy.fr hR h h4⟩) fun⟨f,caps,L',h1,h2,h3,h4⟩=>⟨f,caps,L',h1,fun p hp=>h.kk _ (h2 p hp),by
  rw [h3];congr 3;exact Cm fun p hp=>by rw [h.mu p.1 (h2 p hp)],Qy.fr hR h h4⟩
theorem KK.fr{ρ:Option (Option Nat)}{n s:Nat}{D:List Deferred}{L:List V}{μ μ':Nat->Pl}{K K':Nat->Prop}{H H':Hp}{w w':World}(hR:Rel G μ K H w)(h:Fr μ K H w μ' K' H' w')(hd:KK ρ n μ K s D w L):KK ρ n μ' K' s D w' L:=
 ⟨hd.1,aZ hd.2.1 h.size,hd.2.2.1,hd.2.2.2.fr hR h⟩
def QE(Q:Exit->T V->Hp->Prop):Exit->T V->Hp->Prop
 |.panic ch,F,H=>lO ch/\Q (.panic []) F H
 |e,F,H=>Q e F H
def CU(ρ:Option (Option Nat))(G n s:Nat)(μ0:Nat->Pl)(K0:Nat->Prop)(H0:Hp)(w0:World)(Q:Exit->T V->Hp->Prop)(e:Exit)(a:Act)(w:World):Prop:=
 ∃F H μ K,QE Q e F H/\Rel G μ K H w/\xR μ K n F a.tmps/\Fr μ0 K0 H0 w0 μ K H w/\KK ρ n μ K s a.defers w (dL ρ F)
theorem NS {nn:Nat} {D:List Deferred} {ops:Array Oper} {QP:Hp->Prop} {Q:T V->Hp->Prop} {base:Nat} {μ0:Nat->Pl} {K0:Nat->Prop} {H0:Hp} {w0:World} (hlt0:∀b bk,H0.get b=some bk->b<H0.nx) {Q':Exit->Act->World->Prop} {F0:T V} {ds:List Nat} (hds:∀d∈ds,d<n) {rest:List Nat}
 (hQ:∀μ K F H a w,Q F H->Rel G μ K H w->xR μ K n F a.tmps->Fr μ0 K0 H0 w0 μ K H w->(∀t,t∉ds->F.get t=F0.get t)->a.defers=D->wpOpsIn (Xh ρ) nn P ops Q' rest a w)
 (hP:∀μ K F H a w ch,QP H->lO ch->Rel G μ K H w->xR μ K n F a.tmps->Fr μ0 K0 H0 w0 μ K H w->(∀t,t∉ds->F.get t=F0.get t)->a.defers=D->Q' (.panic ch) a w):
 ∀{l:List SOper} {idx:List Nat} {ctx:z7} {F:T V} {H:Hp} {μ:Nat->Pl} {K:Nat->Prop} {a:Act} {w:World},zk P G n ops idx l->(∀s∈l,s.aid=none)->(∀s∈l,∀d,s.dst=some d->d∈ds)->Rel G μ K H w->xR μ K n F a.tmps->Fr μ0 K0 H0 w0 μ K H w->(∀t,t∉ds->F.get t=F0.get t)->a.defers=D->
  qC P G base QP Q l ctx F H->wpOpsIn (Xh ρ) nn P ops Q' (idx++rest) a w
 |[],[],ctx,F,H,μ,K,a,w,_,_,_,hR,hF,hFr,hag,hd,hw=>by
  exact hQ μ K F H a w hw hR hF hFr hag hd
 |s::l,i::idx,ctx,F,H,μ,K,a,w,hal,hai,hdd,hR,hF,hFr,hag,hd,hw=>by
  obtain⟨⟨o,ho,hfit⟩,hal'⟩:=hal;rw [vz,wpOpsIn_cons];refine HI hlt0 ho hfit hR hF hFr (fun k hk=>by rw [hai s (by simp)] at hk;cases hk) hw (fun μ' K' F' H' a' w' ctx' h1 h2 h3 h4 _ _ hv _ h6=>?_) fun μ' K' H' w' ch _ h1 h2 h3 h4 h5=>hP μ' K' F H' a w' ch h1 h2 h3 h4 h5 hag hd;refine NS hlt0 hds hQ hP hal' (fun t ht=>hai t (by simp [ht])) (fun t ht=>hdd t (by simp [ht])) h1 h2 h3 (fun t ht=>?_) (h4.trans hd) h6;obtain⟨v,rfl⟩:=hv;rw [<-hag t ht];cases hsd:s.dst with
  |none=>rfl
  |some d=>exact T.get_set_ne _ _ fun e=>by subst e;exact ht (hdd s (by simp) _ hsd)
 |[],_::_,_,_,_,_,_,_,_,h,_,_,_,_,_,_,_,_=>h.elim
 |_::_,[],_,_,_,_,_,_,_,h,_,_,_,_,_,_,_,_=>h.elim
def wi(l:List SOper):List Nat:=l.filterMap (·.dst)
theorem iN{l:List SOper}:∀s∈l,∀d,s.dst=some d->d∈wi l:=fun s hs d hd=>KM.2 ⟨s,hs,hd⟩
theorem zk.dsts{ops:Array Oper}:∀{idx:List Nat} {l:List SOper},zk P G n ops idx l->∀d∈wi l,d<n
 |[],[],_,d,h=>by cases h
 |i::idx,s::l,hal,d,h=>by
  obtain⟨x,hx,hxd⟩:=KM.1 h;rcases zd.1 hx with rfl|hx
  ·obtain⟨⟨o,_,hfit⟩,_⟩:=hal;have h2:=hfit.2.2.1;rw [<-hfit.2.1,hxd] at h2;exact xo h2
  ·exact zk.dsts hal.2 d (KM.2 ⟨x,hx,hxd⟩)
 |[],_::_,h,_,_=>h.elim
 |_::_,[],h,_,_=>h.elim
theorem Kf{ρ:Option (Option Nat)}{F F0:T V}{ds:List Nat}(hn:ρ=some none->n<=Kr)(hds:∀d∈ds,d<n)(h:∀t,t∉ds->F.get t=F0.get t):dL ρ F=dL ρ F0:=by
 match ρ with
 |none=>rfl
 |some none=>
  have hn:=hn rfl;have:F.get Kr=F0.get Kr:=h _ fun hm=>absurd (hds _ hm) (by omega);simp only [dL,BE,this]
 |some (some l)=>rfl
def jh(ρ:Option (Option Nat))(P:Program)(G n:Nat)(c:Code)(Q:Exit->T V->Hp->Prop)(F:T V)(H:Hp):Prop:=
 ∀(s:Nat) (μ:Nat->Pl) (K:Nat->Prop) (w:World) (a:Act),Rel G μ K H w->xR μ K n F a.tmps->KK ρ n μ K s a.defers w (dL ρ F)->c.wpIn (Xh ρ) 0 P (CU ρ G n s μ K H w Q) a w
def Jv(Q:Exit->T V->Hp->Prop)(ds:List Nat)(F:T V)(H':Hp):Prop:=∀F1:T V,(∀t,t∉ds->F1.get t=F.get t)->Q (.panic []) F1 H'
theorem LC {id:Nat} {ops:Array Oper} {l:List SOper} {Q:Exit->T V->Hp->Prop} {F:T V} {H:Hp} (hal:zk P G n ops (List.range ops.size) l) (hai:∀s∈l,s.aid=none)
 (h:qC P G H.nx (Jv Q (wi l) F) (Q .normal) l [] F H):jh ρ P G n (.region id ops false) Q F H:=by
 intro s μ K w a hR hF hd;refine wpIn_region ?_;rw [<-yI (List.range ops.size)];refine (NS (QP:=Jv Q (wi l) F) (Q:=Q .normal) (D:=a.defers) (F0:=F) (ds:=wi l) hR.lt' hal.dsts (fun μ' K' F' H' a' w' h1 h2 h3 h4 hag h5=>?_) (fun μ' K' F' H' a' w' ch h0 hch h2 h3 h4 hag h5=>?_) hal hai iN hR hF (Fr.refl hR) (fun _ _=>O) O h)
 ·exact⟨F',H',μ',K',h1,h2,h3,h4,by rw [h5,Kf hd.1 hal.dsts hag];exact hd.fr hR h4⟩
 ·exact⟨F',H',μ',K',⟨hch,h0 F' hag⟩,h2,h3,h4,by rw [h5,Kf hd.1 hal.dsts hag];exact hd.fr hR h4⟩
theorem Bh{Q:Exit->T V->Hp->Prop}{F:T V}{H:Hp}(h:Q .normal F H):jh ρ P G n .skip Q F H:=
 fun _ _ _ _ _ hR hF hd=>wpIn_skip ⟨F,H,_,_,h,hR,hF,Fr.refl hR,hd⟩
theorem CI{Q:Exit->T V->Hp->Prop}{F:T V}{H:Hp}{id:Nat}(h:Q (.exit id) F H):jh ρ P G n (.exit id) Q F H:=
 fun _ _ _ _ _ hR hF hd=>wpIn_exit ⟨F,H,_,_,h,hR,hF,Fr.refl hR,hd⟩
theorem GJ{Q:Exit->T V->Hp->Prop}{F:T V}{H:Hp}(h:Q .ret F H):jh ρ P G n .ret Q F H:=
 fun _ _ _ _ _ hR hF hd=>wpIn_ret ⟨F,H,_,_,h,hR,hF,Fr.refl hR,hd⟩
def rS(next:T V->Hp->Prop)(Q:Exit->T V->Hp->Prop):Exit->T V->Hp->Prop
 |.normal,F,H=>next F H
 |e,F,H=>Q e F H
theorem iH {s:Nat} {μ0:Nat->Pl} {K0:Nat->Prop} {H0:Hp} {w0:World} {μ:Nat->Pl} {K:Nat->Prop} {H:Hp} {w:World} (hlt:∀b bk,H0.get b=some bk->b<H0.nx) (hFr:Fr μ0 K0 H0 w0 μ K H w) {Q:Exit->T V->Hp->Prop} {e:Exit} {a:Act} {w':World}
 (h:CU ρ G n s μ K H w Q e a w'):CU ρ G n s μ0 K0 H0 w0 Q e a w':=by
 obtain⟨F,H',μ',K',h1,h2,h3,h4,hd⟩:=h;exact⟨F,H',μ',K',h1,h2,h3,hFr.trans hlt h4,hd⟩
theorem Ie{x y:Code}{Q:Exit->T V->Hp->Prop}{F:T V}{H:Hp}(h:jh ρ P G n x (rS (jh ρ P G n y Q) Q) F H):jh ρ P G n (.seq x y) Q F H:=by
 intro s μ K w a hR hF hd;refine wpIn_seq (wpIn_mono (h s μ K w a hR hF hd) fun e a' w' he=>?_);obtain⟨F',H',μ',K',h1,h2,h3,h4,hd'⟩:=he;cases e with
 |normal=>exact wpIn_mono (h1 s μ' K' w' a' h2 h3 hd') fun e a'' w'' he=>iH hR.lt' h4 he
 |exit id=>exact⟨F',H',μ',K',h1,h2,h3,h4,hd'⟩
 |goto l=>exact⟨F',H',μ',K',h1,h2,h3,h4,hd'⟩
 |ret=>exact⟨F',H',μ',K',h1,h2,h3,h4,hd'⟩
 |panic ch=>exact⟨F',H',μ',K',h1,h2,h3,h4,hd'⟩
 |outgrown=>exact⟨F',H',μ',K',h1,h2,h3,h4,hd'⟩
theorem Bl{c:Operand}{d:Opd}{x y:Code}{Q:Exit->T V->Hp->Prop}{F:T V}{H:Hp}{t:Bool}(hc:cO G n c=some d)(ht:d.ev F=.one (.bool t))(h:jh ρ P G n (if t then x else y) Q F H):jh ρ P G n (.cond c x y) Q F H:=by
 intro s μ K w a hR hF hd;have hv:=qy hR hF hc;rw [ht] at hv;exact wpIn_cond (t:=t) hv (h s μ K w a hR hF hd)
def lD(id:Nat)(Q:Exit->T V->Hp->Prop):Exit->T V->Hp->Prop
 |.exit id',F,H=>if id'=id then Q .normal F H else Q (.exit id') F H
 |e,F,H=>Q e F H
theorem RT{id:Nat}{c:Code}{Q:Exit->T V->Hp->Prop}{F:T V}{H:Hp}(h:jh ρ P G n c (lD id Q) F H):jh ρ P G n (.block id c) Q F H:=by
 intro s μ K w a hR hF hd;refine wpIn_block (wpIn_mono (h s μ K w a hR hF hd) fun e a' w' he=>?_);obtain⟨F',H',μ',K',h1,h2,h3,h4,hd'⟩:=he;cases e with
 |exit id'=>
  simp only [QE,lD] at h1;simp only [Exit.inBlock];split
  ·rename_i e;rw [if_pos e] at h1;exact⟨F',H',μ',K',h1,h2,h3,h4,hd'⟩
  ·rename_i e;rw [if_neg e] at h1;exact⟨F',H',μ',K',h1,h2,h3,h4,hd'⟩
 |normal=>exact⟨F',H',μ',K',h1,h2,h3,h4,hd'⟩
 |goto l=>exact⟨F',H',μ',K',h1,h2,h3,h4,hd'⟩
 |ret=>exact⟨F',H',μ',K',h1,h2,h3,h4,hd'⟩
 |panic ch=>exact⟨F',H',μ',K',h1,h2,h3,h4,hd'⟩
 |outgrown=>exact⟨F',H',μ',K',h1,h2,h3,h4,hd'⟩
theorem Bi{c:Code}{Q:Exit->T V->Hp->Prop}{F:T V}{H:Hp}(I:Nat->T V->Hp->Prop){m:Nat}(h0:I m F H)(round:∀m F H,I m F H->jh ρ P G n c (rS (fun F' H'=>∃m',m'<m/\I m' F' H') Q) F H):jh ρ P G n (.loop c) Q F H:=by
 intro s μ K w a hR hF hd;let J:Nat->Act->World->Prop:=fun m a' w'=>∃F' H' μ' K',I m F' H'/\Rel G μ' K' H' w'/\xR μ' K' n F' a'.tmps/\Fr μ K H w μ' K' H' w'/\KK ρ n μ' K' s a'.defers w' (dL ρ F');have main:∀m a' w',J m a' w'->∀(b:Frame) (k:List Item) (cs:List Frame),b.roundOf=(Xh ρ).round->∃e a'' w'',CU ρ G n s μ K H w Q e a'' w''/\ArrivesIn (Machine.fenced P (Xh ρ)) P (lone (b.atR a' (.code c::.inLoop c::k)) cs w') b k cs e a'' w'':=by
  intro m;induction m using Nat.strongRecOn with
  |_ m ih=>
   intro a' w' hJ b k cs hro;obtain⟨F',H',μ',K',h1,h2,h3,h4,hd'⟩:=hJ;obtain⟨e,a1,w1,hq,harr⟩:=round m F' H' h1 s μ' K' w' a' h2 h3 hd' b (.inLoop c::k) cs hro Vw XD;obtain⟨F1,H1,μ1,K1,g1,g2,g3,g4,hd1⟩:=hq;cases e with
   |normal=>
    obtain⟨m',hm',hI⟩:=g1;obtain⟨e2,a2,w2,hq2,harr2⟩:=ih m' hm' a1 w1 ⟨F1,H1,μ1,K1,hI,g2,g3,h4.trans hR.lt' g4,hd1⟩ b k cs hro;exact⟨e2,a2,w2,hq2,.of_steps (StepsIn.trans harr (.one (fenced_calm (n:=0) Vw XD O) stepR_inLoop)) harr2⟩
   |exit id=>exact⟨.exit id,a1,w1,⟨F1,H1,μ1,K1,g1,g2,g3,h4.trans hR.lt' g4,hd1⟩,.pass (x:=.inLoop c) O (fun _ _=>.inl (by simp)) harr⟩
   |goto l=>exact⟨.goto l,a1,w1,⟨F1,H1,μ1,K1,g1,g2,g3,h4.trans hR.lt' g4,hd1⟩,.pass (x:=.inLoop c) O (fun _ _=>.inl (by simp)) harr⟩
   |ret=>exact⟨.ret,a1,w1,⟨F1,H1,μ1,K1,g1,g2,g3,h4.trans hR.lt' g4,hd1⟩,.pass (x:=.inLoop c) O (fun _ _=>.inl (by simp)) harr⟩
   |panic ch=>exact⟨.panic ch,a1,w1,⟨F1,H1,μ1,K1,g1,g2,g3,h4.trans hR.lt' g4,hd1⟩,.pass (x:=.inLoop c) O (fun _ _=>.inl (by simp)) harr⟩
   |outgrown=>exact⟨.outgrown,a1,w1,⟨F1,H1,μ1,K1,g1,g2,g3,h4.trans hR.lt' g4,hd1⟩,.pass (x:=.inLoop c) O (fun _ _=>.inl (by simp)) harr⟩
 intro b k cs hro _ _;obtain⟨e,a',w',hq,harr⟩:=main m a w ⟨F,H,μ,K,h0,hR,hF,Fr.refl hR,hd⟩ b k cs hro;exact⟨e,a',w',hq,.of_steps (.one (fenced_calm (n:=0) Vw XD O) stepR_loop) harr⟩
section
variable{b:Frame}{a:Act}{k:List Item}{cs:List Frame}{w:World}{Q:Exit->Act->World->Prop}{F:Fence}{m:Nat}
theorem vG{c:Code}:step P (lone (b.atR a (.code (.scope c)::k)) cs w)=.next (lone (b.atR a (.code c::.inScope c::k)) cs w):=
 step_lone_go (by simp [stepG,stepG.exec,Frame.atR])
theorem pX{c:Code}:step P (lone (b.atR a (.inScope c::k)) cs w)=.next (lone (b.atR a k) cs w):=
 step_lone_go (by simp [stepG,stepG.exec,Frame.atR])
def Ue(Q:Exit->Act->World->Prop):Exit->Act->World->Prop
 |.goto _,_,_=>False
 |e,a,w=>Q e a w
theorem GV{c:Code}(h:c.wpIn F m P (Ue Q) a w):(Code.scope c).wpIn F m P Q a w:=by
 intro b k cs hro hb hr;have h0:(lone (b.atR a (.code (.scope c)::k)) cs w).fenced P F:=fenced_calm hb hr rfl;obtain⟨e,a₁,w₁,hq,harr⟩:=h b (.inScope c::k) cs hro hb hr;cases e with
 |normal=>exact⟨.normal,a₁,w₁,hq,.of_steps (.one h0 vG) (StepsIn.trans harr (.one (fenced_calm hb hr O) pX))⟩
 |exit id=>exact⟨.exit id,a₁,w₁,hq,.of_steps (.one h0 vG) ⟨fun k' hk=>harr.1 k' (by simpa [exitTo] using hk),fun hr hk=>harr.2 hr (by simpa [exitTo] using hk)⟩⟩
 |goto l=>exact hq.elim
 |ret=>exact⟨.ret,a₁,w₁,hq,.of_steps (.one h0 vG) harr⟩
 |panic ch=>exact⟨.panic ch,a₁,w₁,hq,.of_steps (.one h0 vG) harr⟩
 |outgrown=>exact⟨.outgrown,a₁,w₁,hq,.of_steps (.one h0 vG) harr⟩
end
def M6(Q:Exit->T V->Hp->Prop):Exit->T V->Hp->Prop
 |.goto _,_,_=>False
 |e,F,H=>Q e F H
theorem RQ{c:Code}{Q:Exit->T V->Hp->Prop}{F:T V}{H:Hp}(h:jh ρ P G n c (M6 Q) F H):jh ρ P G n (.scope c) Q F H:=by
 intro s μ K w a hR hF hd;refine GV (wpIn_mono (h s μ K w a hR hF hd) fun e a' w' he=>?_);obtain⟨F',H',μ',K',h1,h2,h3,h4,hd'⟩:=he;cases e with
 |goto l=>exact h1.elim
 |exit id=>exact⟨F',H',μ',K',h1,h2,h3,h4,hd'⟩
 |normal=>exact⟨F',H',μ',K',h1,h2,h3,h4,hd'⟩
 |ret=>exact⟨F',H',μ',K',h1,h2,h3,h4,hd'⟩
 |panic ch=>exact⟨F',H',μ',K',h1,h2,h3,h4,hd'⟩
 |outgrown=>exact⟨F',H',μ',K',h1,h2,h3,h4,hd'⟩
theorem RR{l:Nat}{Q:Exit->T V->Hp->Prop}{F:T V}{H:Hp}(h:Q .normal F H):jh ρ P G n (.label l) Q F H:=
 fun _ _ _ _ _ hR hF hd=>wpIn_label ⟨F,H,_,_,h,hR,hF,Fr.refl hR,hd⟩
theorem Is{Q Q':Exit->T V->Hp->Prop}(hq:∀e F H,Q e F H->Q' e F H){e:Exit}{F:T V}{H:Hp}(h:QE Q e F H):QE Q' e F H:=by
 cases e<;>first|exact⟨h.1,hq _ _ _ h.2⟩|exact hq _ _ _ h
theorem d6{c:Code}{Q Q':Exit->T V->Hp->Prop}{F:T V}{H:Hp}(h:jh ρ P G n c Q F H)(hq:∀e F H,Q e F H->Q' e F H):jh ρ P G n c Q' F H:=
 fun s μ K w a hR hF hd=>wpIn_mono (h s μ K w a hR hF hd) fun e _ _ ⟨F',H',μ',K',h1,h2⟩=>⟨F',H',μ',K',Is hq h1,h2⟩
end
def Opd.tm:Opd->List Nat
 |.t n=>[n]
 |.c _=>[]
def Y2:Option Opd->List Nat
 |some x=>x.tm
 |none=>[]
def uG(l:List Opd):List Nat:=l.flatMap Opd.tm
def Df(l:List (Nat × Nat × Opd)):List Nat:=l.flatMap fun p=>p.2.2.tm
def PureOp.tm:PureOp->List Nat
 |.mv x|.nilck x|.neg x|.not x|.conv _ x|.faddr _ x|.field _ _ _ x|.extract x _|.len x|.nileq _ x|.slen x|.cap x|.mkif x|.ifeq _ x|.bm _ x|.sdata x=>x.tm
 |.pick c a b=>c.tm++a.tm++b.tm
 |.build _ ps=>Df ps
 |.bin _ x y|.beq _ x y|.eqs _ _ x y|.iaddr _ x y|.aaddr _ _ x y|.aindex _ _ _ x y|.mm _ x y|.sindex x y|.scat x y|.seq _ x y|.peq _ x y|.idxb x y|.cnt x y=>x.tm++y.tm
 |.mkfn _ l=>uG l
 |.slice _ x lo hi mx=>x.tm++Y2 lo++Y2 hi++Y2 mx
 |.sslice x lo hi=>x.tm++Y2 lo++Y2 hi
 |.cint _=>[]
def LoadOp.tm:LoadOp->List Nat
 |.load _ _ a=>a.tm
 |.lookup _ _ m k=>m.tm++k.tm
 |.mlen m=>m.tm
 |.bstr x|.pcv _ _ x=>x.tm
 |.aslice _ _ x lo hi=>x.tm++Y2 lo++Y2 hi
 |.slookup _ _ m k=>m.tm++k.tm
def AllocOp.tm:AllocOp->List Nat
 |.alloc _|.mkmap|.mkst|.alloct _ _=>[]
 |.box x=>x.tm
 |.bslice _ _ _ ps=>Df ps
 |.mkslice _ _ _ l c=>l.tm++c.tm
def EffOp.tm:EffOp->List Nat
 |.store _ a x=>a.tm++x.tm
 |.append _ _ s x=>s.tm++x.tm
 |.copy _ d s=>d.tm++s.tm
 |.mapupd m k x=>m.tm++k.tm++x.tm
 |.clear _ _ x=>x.tm
 |.appendz _ _ _ s x=>s.tm++x.tm
 |.sbytes x=>x.tm
 |.stupd m k x=>m.tm++k.tm++x.tm
 |.rng m=>m.tm
 |.ent m=>m.tm
 |.stlook _ _ m k=>m.tm++k.tm
 |.stlen m=>m.tm
 |.stdel m k=>m.tm++k.tm
 |.appendb _ s x=>s.tm++x.tm
 |.mnz _ x=>x.tm
 |.ustr _ p n=>p.tm++n.tm
 |.smapupd m k x=>m.tm++k.tm++x.tm
def SOp.tm:SOp->List Nat
 |.p o=>o.tm
 |.l o=>o.tm
 |.a o=>o.tm
 |.e o=>o.tm
 |.cf _ args=>uG args
 |.cv x args=>x.tm++uG args
 |.nx x=>x.tm
 |.no=>[]
def EW:Option (Nat × Bool)->List Nat
 |some (t,_)=>[t]
 |none=>[]
def SOper.tm(s:SOper):List Nat:=s.op.tm++EW s.guard
section
variable{F:T V}{d:Nat}{v:Option V}
theorem zm{x:Opd}(h:d∉x.tm):x.ev (F.set d v)=x.ev F:=by
 cases x with
 |t n=>simp only [Opd.tm,xM] at h;simp [Opd.ev,T.get_set_ne _ _ (fun e=>h e.symm)]
 |c w=>rfl
theorem mU:∀{l:List Opd},d∉uG l->l.map (·.ev (F.set d v))=l.map (·.ev F)
 |[],_=>rfl
 |x::l,h=>by
  simp only [uG,wB,xu,not_or] at h;simp [zm h.1,mU h.2]
theorem cZ:∀{ps:List (Nat × Nat × Opd)} {z:List C},d∉Df ps->yD (F.set d v) z ps=yD F z ps
 |[],_,_=>rfl
 |(off,size,x)::ps,z,h=>by
  simp only [Df,wB,xu,not_or] at h;simp only [yD,zm h.1];cases wP (x.ev F) with
  |none=>rfl
  |some cs=>simp only;rw [cZ h.2]
theorem CC:∀{l:List Opd},d∉uG l->kN (F.set d v) l=kN F l
 |[],_=>rfl
 |x::l,h=>by
  simp only [uG,wB,xu,not_or] at h;simp only [kN,zm h.1,CC h.2]
theorem ve{x:Option Opd}{k y:Nat}(h:d∉Y2 x):qQ (F.set d v) k y x=qQ F k y x:=by
 cases x with
 |none=>rfl
 |some x=>simp only [Y2] at h;simp only [qQ,zm h]
theorem M0{esz:Nat}{x:V}{lo hi mx:Option Opd}(h1:d∉Y2 lo)(h2:d∉Y2 hi)(h3:d∉Y2 mx):jV (F.set d v) esz x lo hi mx=jV F esz x lo hi mx:=by
 unfold jV;simp only [ve h1,ve h2,ve h3]
theorem G1{x:V}{lo hi:Option Opd}(h1:d∉Y2 lo)(h2:d∉Y2 hi):wU (F.set d v) x lo hi=wU F x lo hi:=by
 unfold wU;simp only [ve h1,ve h2]
theorem SV{o:PureOp}(h:d∉o.tm):qp (F.set d v) o=qp F o:=by
 cases o<;>simp only [PureOp.tm,xu,not_or] at h<;>simp only [qp]
 all_goals first
  |rw [zm h.1.1,G1 h.1.2 h.2]
  |rw [zm h]
  |rw [cZ h]
  |rw [CC h]
  |rw [zm h.1,zm h.2]
  |rw [zm h.1.1,zm h.1.2,zm h.2]
  |rw [zm h.1.1.1,M0 h.1.1.2 h.1.2 h.2]
theorem TJ{o:LoadOp}{H:Hp}(h:d∉o.tm):qL (F.set d v) H o=qL F H o:=by
 cases o<;>simp only [LoadOp.tm,xu,not_or] at h<;>simp only [qL]
 all_goals first
  |(rw [zm h.1.1];simp only [ve h.2,ve h.1.2];done)
  |rw [zm h]
  |rw [zm h.1,zm h.2]
theorem RX{o:AllocOp}(h:d∉o.tm):xK (F.set d v) o=xK F o:=by
 cases o<;>simp only [AllocOp.tm,xu,not_or] at h<;>simp only [xK]
 all_goals first
  |rw [zm h]
  |rw [cZ h]
  |rw [zm h.1,zm h.2]
theorem Gj{o:EffOp}{H:Hp}(h:d∉o.tm):xe (F.set d v) H o=xe F H o:=by
 cases o<;>simp only [EffOp.tm,xu,not_or] at h<;>simp only [xe]
 all_goals first
  |rw [zm h]
  |rw [zm h.1,zm h.2]
  |rw [zm h.1.1,zm h.1.2,zm h.2]
theorem GY{g:Option (Nat × Bool)}(h:d∉EW g):qH g (F.set d v)=qH g F:=by
 cases g with
 |none=>rfl
 |some p=>obtain⟨t,b⟩:=p;simp only [EW,xM] at h;simp [qH,T.get_set_ne _ _ (fun e=>h e.symm)]
end
def SE(y x:SOper):Bool:=
 (
  match y.dst with
  |some d=>!(x.tm.contains d)&&x.dst !=some d
  |none=>true)&&
 (
  match x.dst with
  |some d=>!(y.tm.contains d)
  |none=>true)
inductive Kd where
 |p|l|a|e|c
def SOp.kd:SOp->Kd
 |.p _=>.p
 |.l _=>.l
 |.a _=>.a
 |.e _=>.e
 |.cf _ _=>.c
 |.cv _ _=>.c
 |.nx _=>.c
 |.no=>.e
def SOp.isAp:SOp->Bool
 |.e (.append _ _ _ _)=>true
 |_=>false
def SOp.isLd:SOp->Bool
 |.l (.load _ _ _)=>true
 |_=>false
def SOp.isSt:SOp->Bool
 |.e (.store _ _ _)=>true
 |_=>false
def ZX(y x:SOper):Bool:=
 SE y x&&match y.op.kd,x.op.kd with
 |.p,_=>true
 |.l,.p|.l,.l=>true
 |.l,.a=>x.aid.isSome
 |.l,.e|.l,.c=>y.keep&&x.watch.contains y.id
 |.a,.p=>true
 |.a,.a=>y.aid.isSome&&x.aid.isSome&&y.aid !=x.aid
 |.a,.e=>y.aid.isSome&&x.op.isSt
 |.a,.l=>y.aid.isSome&&x.op.isLd
 |.e,.p|.c,.p=>true
 |.e,.a=>x.aid.isSome&&y.op.isAp
 |.c,.a=>x.aid.isSome
 |_,_=>false
section
variable{P:Program}{G base:Nat}{Q:T V->Hp->Prop}
theorem M4{F:T V}{d e:Option Nat}{u v:V}(h:∀k,d=some k->e≠some k):xg (xg F d u) e v=xg (xg F e v) d u:=by
 cases d with
 |none=>rfl
 |some d=>
  cases e with
  |none=>rfl
  |some e=>exact T.set_comm _ _ _ (fun he=>h d O (by rw [he]))
theorem KR{y x:SOper}(h:SE y x=true):(∀d,y.dst=some d->d∉x.op.tm/\d∉EW x.guard/\x.dst≠some d)/\(∀d,x.dst=some d->d∉y.op.tm/\d∉EW y.guard):=by
 unfold SE at h;rw [x8] at h;refine⟨fun d hd=>?_,fun d hd=>?_⟩
 ·have h1:=h.1;rw [hd] at h1;simp [SOper.tm] at h1;exact⟨h1.1.1,h1.1.2,h1.2⟩
 ·have h2:=h.2;rw [hd] at h2;simp [SOper.tm] at h2;exact⟨h2.1,h2.2⟩
structure Blind (s:SOper) (d:Option Nat):Prop where
 pure:∀F v o,s.op=.p o->qp (xg F d v) o=qp F o
 load:∀F H v o,s.op=.l o->qL (xg F d v) H o=qL F H o
 alloc:∀F v o,s.op=.a o->xK (xg F d v) o=xK F o
 eff:∀F H v o,s.op=.e o->xe (xg F d v) H o=xe F H o
 cf:∀F v f l,s.op=.cf f l->l.map (·.ev (xg F d v))=l.map (·.ev F)
 cv:∀F v x l,s.op=.cv x l->x.ev (xg F d v)=x.ev F/\l.map (·.ev (xg F d v))=l.map (·.ev F)
 nx:∀F v x,s.op=.nx x->x.ev (xg F d v)=x.ev F
 wanted:∀F v,qH s.guard (xg F d v)=qH s.guard F
 tm:∀k,d=some k->k∉s.op.tm
theorem Blind.mk'{s:SOper}{d:Option Nat}(h:∀k,d=some k->k∉s.op.tm/\k∉EW s.guard):Blind s d:=by
 cases d with
 |none=>exact⟨fun _ _ _ _=>O,fun _ _ _ _ _=>O,fun _ _ _ _=>O,fun _ _ _ _ _=>O,fun _ _ _ _ _=>O,fun _ _ _ _ _=>⟨O,O⟩,fun _ _ _ _=>O,fun _ _=>O,fun _ h=>by cases h⟩
 |some d=>
  obtain⟨h1,h2⟩:=h d rfl;refine⟨fun F v o ho=>?_,fun F H v o ho=>?_,fun F v o ho=>?_,fun F H v o ho=>?_,fun F v f l ho=>?_,fun F v x l ho=>?_,fun F v x ho=>?_,fun F v=>GY h2,fun k hk=>by injection hk with hk;rw [<-hk];exact h1⟩
  ·rw [ho] at h1;exact SV h1
  ·rw [ho] at h1;exact TJ h1
  ·rw [ho] at h1;exact RX h1
  ·rw [ho] at h1;exact Gj h1
  ·rw [ho] at h1;exact mU h1
  ·rw [ho] at h1;simp only [SOp.tm,xu,not_or] at h1;exact⟨zm h1.1,mU h1.2⟩
  ·rw [ho] at h1;exact zm h1
end
end Go.Ab
