/- -/
import Derived.Test.YtandgamnamkkhaaGreatDoorAb10
set_option linter.unusedSimpArgs false
set_option linter.unusedVariables false
set_option maxRecDepth 8000
namespace Go.Ab
def BY(y x:SOper):Bool:=
 (
  match y.dst with
  |some d=>!(x.tm.contains d)&&x.dst !=some d
  |none=>true)&&
 (
  match x.dst with
  |some d=>!(y.tm.contains d)
  |none=>true)
inductive Kd where
 |p|l|a|e|c
def SOp.kd:SOp->Kd
 |.p _=>.p
 |.l _=>.l
 |.a _=>.a
 |.e _=>.e
 |.cf _ _=>.c
 |.cv _ _=>.c
 |.nx _=>.c
 |.no=>.e
def SOp.isAp:SOp->Bool
 |.e (.append _ _ _ _)=>true
 |_=>false
def Q6(y x:SOper):Bool:=
 BY y x&&match y.op.kd,x.op.kd with
 |.p,_=>true
 |.l,.p|.l,.l=>true
 |.l,.a=>x.aid.isSome
 |.l,.e|.l,.c=>y.keep&&x.watch.contains y.id
 |.a,.p=>true
 |.a,.a=>y.aid.isSome&&x.aid.isSome&&y.aid !=x.aid
 |.e,.p|.c,.p=>true
 |.e,.a=>x.aid.isSome&&y.op.isAp
 |.c,.a=>x.aid.isSome
 |_,_=>false
section
variable{P:Program}{G base:Nat}{Q:T V->Hp->Prop}
theorem sS{F:T V}{d e:Option Nat}{u v:V}(h:∀k,d=some k->e≠some k):qP (qP F d u) e v=qP (qP F e v) d u:=by
 cases d with
 |none=>rfl
 |some d=>
  cases e with
  |none=>rfl
  |some e=>exact T.set_comm _ _ _ (fun he=>h d rfl (by rw [he]))
theorem YV{y x:SOper}(h:BY y x=true):(∀d,y.dst=some d->d∉x.op.tm/\d∉mM x.guard/\x.dst≠some d)/\(∀d,x.dst=some d->d∉y.op.tm/\d∉mM y.guard):=by
 unfold BY at h;rw [xt] at h;refine⟨fun d hd=>?_,fun d hd=>?_⟩
 ·have h1:=h.1;rw [hd] at h1;simp [SOper.tm] at h1;exact⟨h1.1.1,h1.1.2,h1.2⟩
 ·have h2:=h.2;rw [hd] at h2;simp [SOper.tm] at h2;exact⟨h2.1,h2.2⟩
structure Blind (s:SOper) (d:Option Nat):Prop where
 pure:∀F v o,s.op=.p o->qn (qP F d v) o=qn F o
 load:∀F H v o,s.op=.l o->qA (qP F d v) H o=qA F H o
 alloc:∀F v o,s.op=.a o->xw (qP F d v) o=xw F o
 eff:∀F H v o,s.op=.e o->qM (qP F d v) H o=qM F H o
 cf:∀F v f l,s.op=.cf f l->l.map (·.ev (qP F d v))=l.map (·.ev F)
 cv:∀F v x l,s.op=.cv x l->x.ev (qP F d v)=x.ev F/\l.map (·.ev (qP F d v))=l.map (·.ev F)
 nx:∀F v x,s.op=.nx x->x.ev (qP F d v)=x.ev F
 wanted:∀F v,qs s.guard (qP F d v)=qs s.guard F
theorem Blind.mk'{s:SOper}{d:Option Nat}(h:∀k,d=some k->k∉s.op.tm/\k∉mM s.guard):Blind s d:=by
 cases d with
 |none=>exact⟨fun _ _ _ _=>rfl,fun _ _ _ _ _=>rfl,fun _ _ _ _=>rfl,fun _ _ _ _ _=>rfl,fun _ _ _ _ _=>rfl,fun _ _ _ _ _=>⟨rfl,rfl⟩,fun _ _ _ _=>rfl,fun _ _=>rfl⟩
 |some d=>
  obtain⟨h1,h2⟩:=h d rfl;refine⟨fun F v o ho=>?_,fun F H v o ho=>?_,fun F v o ho=>?_,fun F H v o ho=>?_,fun F v f l ho=>?_,fun F v x l ho=>?_,fun F v x ho=>?_,fun F v=>oE h2⟩
  ·rw [ho] at h1;exact B9 h1
  ·rw [ho] at h1;exact CN h1
  ·rw [ho] at h1;exact BJ h1
  ·rw [ho] at h1;exact LC h1
  ·rw [ho] at h1;exact V0 h1
  ·rw [ho] at h1;simp only [SOp.tm,List.mem_append,not_or] at h1;exact⟨xP h1.1,V0 h1.2⟩
  ·rw [ho] at h1;exact xP h1
end
section
variable{P:Program}{G base:Nat}{QP:Hp->Prop}{Q:T V->Hp->Prop}
inductive Cal where
 |fu (f:FuncId)
 |yl (b:Nat)
 |nx (b:Nat)
def Cal.k(K:Nat->Prop):Cal->Prop
 |.fu _=>True
 |.yl b=>K b
 |.nx b=>K b
def Cal.run(P:Program)(μ:Nat->Pl)(xs:Array Value)(w:World)(R:Ending->World->Prop):Cal->Prop
 |.fu f=>Calls P f xs w R
 |.yl b=>YieldAt Fence.wide 0 P (μ b).blk xs w R
 |.nx b=>∀ty:TypeId,∃y w',(Instr.next (.pointer (some ((μ b).addr 0))) false ty).run P w=.ok y w'/\R (.returned y) w'
theorem Cal.run_mono{c:Cal}{μ:Nat->Pl}{xs:Array Value}{w:World}{R R':Ending->World->Prop}(h:c.run P μ xs w R)(hr:∀e w',R e w'->R' e w'):c.run P μ xs w R':=by
 cases c with
 |fu f=>exact Calls.mono h hr
 |yl b=>obtain⟨fn,tmps,sg,bd,h1,h2⟩:=h;exact⟨fn,tmps,sg,bd,h1,h2.mono hr⟩
 |nx b=>
  intro ty;obtain⟨y,w',h1,h2⟩:=h ty;exact⟨y,w',h1,hr _ _ h2⟩
def Cal.sp(S:Hp->Prop):Cal->Hp->Prop
 |.fu _=>S
 |_=>fun _=>False
def XM(P:Program)(G:Nat)(c:Cal)(args:List V)(H:Hp)(R:V->Hp->Prop)(S:Hp->Prop):Prop:=
 ∀(μ:Nat->Pl) (K:Nat->Prop) (w:World) (xs:List Value),Rel G μ K H w->qe (RV μ K) args xs->c.k K->
  c.run P μ xs.toArray w (Zs G μ K H w R (c.sp S))
theorem Zs.no{G:Nat}{μ:Nat->Pl}{K:Nat->Prop}{H:Hp}{w:World}{R:V->Hp->Prop}{e:Ending}{w':World}(h:Zs G μ K H w R (fun _=>False) e w'):∃x,e=.returned x/\∃v H' μ' K',R v H'/\RV μ' K' v x/\Rel G μ' K' H' w'/\Fr μ K H w μ' K' H' w':=
 h.elim id fun⟨_,_,_,_,_,_,hf,_⟩=>hf.elim
theorem Zs.mono{G:Nat}{μ:Nat->Pl}{K:Nat->Prop}{H:Hp}{w:World}{R R':V->Hp->Prop}{S S':Hp->Prop}{e:Ending}{w':World}(h:Zs G μ K H w R S e w')(hr:∀v H',R v H'->R' v H')(hs:∀H',S H'->S' H'):Zs G μ K H w R' S' e w':=
 h.imp (fun⟨x,h1,v,H',μ',K',h2,h3⟩=>⟨x,h1,v,H',μ',K',hr _ _ h2,h3⟩) fun⟨ch,h1,h2,H',μ',K',h3,h4⟩=>⟨ch,h1,h2,H',μ',K',hs _ h3,h4⟩
theorem Zc{f:FuncId}{args:List V}{H:Hp}{R:V->Hp->Prop}{S:Hp->Prop}:XM P G (.fu f) args H R S↔zi P G f args H R S:=
 ⟨fun h μ K w xs hR ha=>h μ K w xs hR ha trivial,fun h μ K w xs hR ha _=>h μ K w xs hR ha⟩
theorem GS{f:FuncId}{args:List V}{H:Hp}{R:V->Hp->Prop}:XM P G (.fu f) args H R (fun _=>False)↔qK P G f args H R:=
 ⟨fun h=>(Zc.1 h).of,fun h=>Zc.2 h.toP⟩
theorem dE{b:Nat}{args:List V}{H:Hp}{R:V->Hp->Prop}{S:Hp->Prop}:XM P G (.yl b) args H R S↔kj P G b args H R:=
 ⟨fun h μ K w xs hR hK ha=>Cal.run_mono (c:=.yl b) (h μ K w xs hR ha hK) fun _ _ he=>Zs.no he,fun h μ K w xs hR ha hK=>Cal.run_mono (c:=.yl b) (h μ K w xs hR hK ha) fun _ _ he=>.inl he⟩
theorem dF{b:Nat}{H:Hp}{R:V->Hp->Prop}{S:Hp->Prop}:XM P G (.nx b) [] H R S↔Ze P G b H R:=by
 constructor
 ·intro h μ K w hR hK ty;obtain⟨y,w',h1,hh⟩:=h μ K w [] hR trivial hK ty;obtain⟨x,he,h2⟩:=Zs.no hh;injection he with he
  subst he;exact⟨_,w',h1,h2⟩
 ·intro h μ K w xs hR _ hK ty;obtain⟨y,w',h1,h2⟩:=h μ K w hR hK ty;exact⟨y,w',h1,.inl ⟨y,rfl,h2⟩⟩
theorem XM.mono{f:Cal}{args:List V}{H:Hp}{R R':V->Hp->Prop}{S:Hp->Prop}(h:XM P G f args H R S)(hr:∀v H',R v H'->R' v H'):XM P G f args H R' S:=
 fun μ K w xs hR ha hK=>Cal.run_mono (h μ K w xs hR ha hK) fun _ _ he=>he.mono hr fun _ h=>h
theorem XM.keeps{f:Cal}{args:List V}{H:Hp}{R:V->Hp->Prop}{S:Hp->Prop}(h:XM P G f args H R S):XM P G f args H (fun v H'=>R v H'/\H.nx<=H'.nx/\∀b,b<H.nx->H.get b=none->H'.get b=none) S:=
 fun μ K w xs hR ha hK=>Cal.run_mono (h μ K w xs hR ha hK) fun _ _ he=>he.imp (fun⟨x,he,v,H',μ',K',h1,h2,h3,h4⟩=>⟨x,he,v,H',μ',K',⟨h1,h4.nx,h4.none⟩,h2,h3,h4⟩) id
theorem XM.frame{f:Cal}{args:List V}{H:Hp}{R:V->Hp->Prop}{S:Hp->Prop}(h:XM P G f args H R S)(hS:∀H,¬f.sp S H){x:Nat}{bk:B}(hx:x<H.nx)(hn:H.get x=none)(hm:bk.mut=true):
 XM P G f args (H.add x bk) (fun v H''=>∃H',R v H'/\H''=H'.add x bk) S:=by
 intro μ K w xs hR ha hKK;have hget:∀(H:Hp) i,(H.add x bk).get i=if i=x then some bk else H.get i:=fun H i=>Hp.get_add H x i bk
 have hkx:K x:=hR.dom x bk (by simp);have hne:∀i k,H.get i=some k->i≠x:=fun i k hi e=>by subst e;rw [hn] at hi;cases hi
 have hR1:Rel G μ K H w:=⟨fun b k hb=>hR.dom b k (by rw [hget,if_neg (hne b k hb)];exact hb),hR.lt,fun b k hb=>hR.blk b k (by rw [hget,if_neg (hne b k hb)];exact hb),
  fun b b' k k' hb hb'=>hR.inj b b' k k' (by rw [hget,if_neg (hne b k hb)];exact hb) (by rw [hget,if_neg (hne b' k' hb')];exact hb'),hR.glob⟩
 have hxx:(H.add x bk).get x=some bk:=by simp
 have hblk:=hR.blk x bk hxx;have hbl:=hR.blk_lt hxx;have hfar:∀b k,H.get b=some k->(μ b).blk≠(μ x).blk:=fun b k hb he=>hne b k hb (hR.inj x b bk k hxx (by rw [hget,if_neg (hne b k hb)];exact hb) hm he.symm).symm;refine Cal.run_mono (h μ K w xs hR1 ha hKK) ?_;rintro e w' (⟨y,rfl,v,H',μ',K',h1,h2,h3,h4⟩|⟨_,_,_,H',_,_,hs,_⟩)
 rotate_left
 ·exact absurd hs (hS _)
 have hn':H'.get x=none:=h4.none x hx hn;have hne':∀i k,H'.get i=some k->i≠x:=fun i k hi e=>by subst e;rw [hn'] at hi;cases hi
 have hmux:μ' x=μ x:=h4.mu x hkx;have hkeep:w'.heap[(μ x).blk]?=w.heap[(μ x).blk]?:=h4.keep _ hbl fun b k hb _=>hfar b k hb;have hfar':∀b k,H'.get b=some k->(μ' b).blk≠(μ x).blk:=by
  intro b k hb he;by_cases hlt:b<H.nx
  ·cases hg:H.get b with
   |none=>rw [h4.none b hlt hg] at hb;cases hb
   |some k0=>
    rw [h4.mu b (hR1.dom b k0 hg)] at he;exact hfar b k0 hg he
  ·rcases h4.newmut b k (by omega) hb with hm1|⟨_,hge⟩
   ·rcases h4.img b k hb hm1 with⟨b0,k0,g0,_,e0⟩|hge
    ·exact hfar b0 k0 g0 (e0.trans he)
    ·omega
   ·omega
 refine .inl ⟨y,rfl,v,H'.add x bk,μ',K',⟨H',h1,rfl⟩,h2,⟨fun b k hb=>?_,h3.lt,fun b k hb=>?_,fun b b' k k' hb hb' hm' he=>?_,h3.glob⟩,?_⟩
 ·rw [hget] at hb;split at hb
  ·rename_i e;subst e;exact h4.kk _ hkx
  ·exact h3.dom b k hb
 ·rw [hget] at hb;split at hb
  ·rename_i e;subst e;obtain rfl:=zsi hb;rw [hmux,hkeep];exact hblk.mono h4.kk h4.mu
  ·exact h3.blk b k hb
 ·rw [hget] at hb hb';by_cases e1:b=x
  ·by_cases e2:b'=x
   ·rw [e1,e2]
   ·rw [if_neg e2] at hb';rw [e1,hmux] at he;exact absurd he.symm (hfar' b' k' hb')
  ·by_cases e2:b'=x
   ·rw [if_neg e1] at hb;rw [e2,hmux] at he;exact absurd he (hfar' b k hb)
   ·rw [if_neg e1] at hb;rw [if_neg e2] at hb';exact h3.inj b b' k k' hb hb' hm' he
 ·refine⟨h4.same,h4.size,fun i hi hn=>h4.keep i hi fun b k hb hm=>hn b k (by rw [hget,if_neg (hne b k hb)];exact hb) hm,fun b k hb hm'=>?_,fun b k hb hk=>?_,h4.mu,h4.kk,h4.knew,h4.nx,fun b hb hn=>?_,fun b k k' hb hb'=>?_,fun b k hb hm'=>?_⟩
  ·rw [hget] at hb;split at hb
   ·rename_i e;subst e;exact .inl ⟨b,bk,by simp,hm,by rw [hmux]⟩
   ·rcases h4.img b k hb hm' with⟨b0,k0,g0,m0,e0⟩|hge
    ·exact .inl ⟨b0,k0,by rw [hget,if_neg (hne b0 k0 g0)];exact g0,m0,e0⟩
    ·exact .inr hge
  ·rw [hget] at hk;simp at hb;rw [if_neg (by omega)] at hk;exact h4.newmut b k hb hk
  ·rw [hget] at hn ⊢;split at hn
   ·cases hn
   ·rename_i e;rw [if_neg e];exact h4.none b hb hn
  ·rw [hget] at hb hb';split at hb
   ·rename_i e;rw [if_pos e] at hb';rw [zsi hb] at hb';rw [zsi hb']
   ·rename_i e;rw [if_neg e] at hb';exact h4.stay b k k' hb hb'
  ·rw [hget] at hb ⊢;split at hb
   ·rename_i e;rw [if_pos e];exact hb
   ·rename_i e;rw [if_neg e];exact h4.ro b k hb hm'
theorem qK.mono{f:FuncId}{args:List V}{H:Hp}{R R':V->Hp->Prop}(h:qK P G f args H R)(hr:∀v H',R v H'->R' v H'):qK P G f args H R':=GS.1 ((GS.2 h).mono hr)
theorem kj.mono{b:Nat}{args:List V}{H:Hp}{R R':V->Hp->Prop}(h:kj P G b args H R)(hr:∀v H',R v H'->R' v H'):kj P G b args H R':=(dE (S:=fun _=>False)).1 ((dE.2 h).mono hr)
theorem Ze.mono{b:Nat}{H:Hp}{R R':V->Hp->Prop}(h:Ze P G b H R)(hr:∀v H',R v H'->R' v H'):Ze P G b H R':=(dF (S:=fun _=>False)).1 ((dF.2 h).mono hr)
theorem yQ{ws:List Nat}{ctx ctx':za}{H:Hp}(hs:∀x,x∈ctx'->x∈ctx)(h:xY ws ctx H):xY ws ctx' H:=by
 cases ws with
 |nil=>trivial
 |cons k r=>exact fun j hj p hp=>h j hj p (hs _ hp)
theorem zU:∀{l:List SOper} {ctx ctx':za} {F:T V} {H:Hp},(∀x,x∈ctx'->x∈ctx)->qv P G base QP Q l ctx F H->qv P G base QP Q l ctx' F H
 |[],_,_,_,_,_,h=>h
 |o::r,ctx,ctx',F,H,hs,h=>by
  rw [qv] at h ⊢;split at h
  ·rename_i hw;rw [if_pos hw];cases hop:o.op with
   |p op=>
    simp only [hop] at h ⊢;cases hv:qn F op with
    |none=>simp [hv] at h
    |some v=>simp only [hv] at h ⊢;exact zU hs h
   |l op=>
    simp only [hop] at h ⊢;cases hv:qA F H op with
    |none=>simp [hv] at h
    |some v=>
     simp only [hv] at h ⊢;refine zU (fun x hx=>?_) h;cases hk:o.keep with
     |false=>simp only [hk,Bool.false_eq_true,if_false] at hx ⊢;exact hs x hx
     |true=>
      simp only [hk,if_true,List.mem_cons] at hx ⊢;exact hx.imp id (hs x)
   |a op=>
    simp only [hop] at h ⊢;cases hv:xw F op with
    |none=>simp [hv] at h
    |some v=>
     simp only [hv] at h ⊢;cases hai:o.aid with
     |none=>simp only [hai] at h ⊢;exact zU hs h
     |some k=>simp only [hai] at h ⊢;exact zU hs h
   |e op=>
    simp only [hop] at h ⊢;cases hv:qM F H op with
    |none=>simp [hv] at h
    |some v=>simp only [hv] at h ⊢;exact⟨yQ hs h.1,zU hs h.2⟩
   |cf f args=>
    simp only [hop] at h ⊢;exact h.mono (fun v H' hh=>⟨yQ hs hh.1,zU hs hh.2⟩) fun _ h=>h
   |cv x args=>
    simp only [hop] at h ⊢;split at h
    ·exact⟨h.1,h.2.mono (fun v H' hh=>⟨yQ hs hh.1,zU hs hh.2⟩) fun _ h=>h⟩
    ·exact⟨h.1,h.2.mono (fun v H' hh=>⟨yQ hs hh.1,zU hs hh.2⟩) fun _ h=>h⟩
    ·exact kj.mono h fun v H' hh=>⟨yQ hs hh.1,zU hs hh.2⟩
    ·exact h.elim
   |nx x=>
    simp only [hop] at h ⊢;split at h
    ·exact Ze.mono h fun v H' hh=>⟨yQ hs hh.1,zU hs hh.2⟩
    ·exact h.elim
   |no=>simp only [hop] at h
  ·rename_i hw;rw [if_neg hw];exact zU hs h
end
section
variable{P:Program}{G base:Nat}{QP:Hp->Prop}{Q:T V->Hp->Prop}
def jG(P:Program)(o:SOp)(F:T V):Option (Cal × List V):=
 match o with
 |.cf f args=>some (.fu f,args.map (·.ev F))
 |.cv x args=>match x.ev F with
  |.one (.fn f caps)=>if zR P f then some (.fu f,args.map (·.ev F)++caps.map vQ) else none
  |.one (.bm f b o)=>if zR P f then some (.fu f,.one (.ptr b o)::args.map (·.ev F)) else none
  |.one (.yld b)=>some (.yl b,args.map (·.ev F))
  |_=>none
 |.nx x=>match x.ev F with
  |.one (.ptr b 0)=>some (.nx b,[])
  |_=>none
 |_=>none
def jW(o:SOper)(F:T V)(v:V):Prop:=(qs o.guard F=false/\v=V.undef)\/(qs o.guard F=true/\∃op,o.op=.p op/\qn F op=some v)
def vt(o:SOper)(op:LoadOp)(F:T V)(v:V)(ctx:za):za:=if o.keep then (o.id,fun H'=>qA F H' op=some v)::ctx else ctx
def yj(base:Nat)(o:SOper)(H:Hp):Nat:=match o.aid with
 |none=>H.nx
 |some k=>base+k
def zx(base:Nat)(o:SOper)(H:Hp)(bk:B):Hp:=match o.aid with
 |none=>H.push bk
 |some k=>H.add (base+k) bk
theorem vK{o:SOper}{r:List SOper}{ctx:za}{F:T V}{H:Hp}(h:qv P G base QP Q (o::r) ctx F H):
 (∃v,jW o F v/\qv P G base QP Q r ctx (qP F o.dst v) H)\/
 (qs o.guard F=true/\∃op v,o.op=.l op/\qA F H op=some v/\qv P G base QP Q r (vt o op F v ctx) (qP F o.dst v) H)\/
 (qs o.guard F=true/\∃op bk g,o.op=.a op/\xw F op=some (bk,g)/\qv P G base QP Q r ctx (qP F o.dst (g (yj base o H))) (zx base o H bk))\/
 (qs o.guard F=true/\∃op v H',o.op=.e op/\qM F H op=some (v,H')/\xY o.watch ctx H'/\qv P G base QP Q r ctx (qP F o.dst v) H')\/
 (qs o.guard F=true/\o.op.kd=.c/\∃f args,jG P o.op F=some (f,args)/\XM P G f args H (fun v H'=>xY o.watch ctx H'/\qv P G base QP Q r ctx (qP F o.dst v) H') QP):=by
 rw [qv] at h;split at h
 ·rename_i hw;cases hop:o.op with
  |p op=>
   simp only [hop] at h;cases hv:qn F op with
   |none=>simp [hv] at h
   |some v=>simp only [hv] at h;exact .inl ⟨v,.inr ⟨hw,op,hop,hv⟩,h⟩
  |l op=>
   simp only [hop] at h;cases hv:qA F H op with
   |none=>simp [hv] at h
   |some v=>simp only [hv] at h;exact .inr (.inl ⟨hw,op,v,rfl,hv,h⟩)
  |a op=>
   simp only [hop] at h;cases hv:xw F op with
   |none=>simp [hv] at h
   |some bg=>
    simp only [hv] at h;refine .inr (.inr (.inl ⟨hw,op,bg.1,bg.2,rfl,hv,?_⟩));unfold yj zx;cases hai:o.aid<;>simp only [hai] at h ⊢<;>exact h
  |e op=>
   simp only [hop] at h;cases hv:qM F H op with
   |none=>simp [hv] at h
   |some v=>simp only [hv] at h;exact .inr (.inr (.inr (.inl ⟨hw,op,v.1,v.2,rfl,hv,h.1,h.2⟩)))
  |cf f args=>
   simp only [hop] at h;exact .inr (.inr (.inr (.inr ⟨hw,rfl,.fu f,_,rfl,Zc.2 h⟩)))
  |cv x args=>
   simp only [hop] at h;split at h
   ·rename_i f caps hx;exact .inr (.inr (.inr (.inr ⟨hw,rfl,.fu f,_,by simp [jG,hx,h.1],Zc.2 h.2⟩)))
   ·rename_i f b o hx;exact .inr (.inr (.inr (.inr ⟨hw,rfl,.fu f,_,by simp [jG,hx,h.1],Zc.2 h.2⟩)))
   ·rename_i b hx;exact .inr (.inr (.inr (.inr ⟨hw,rfl,.yl b,_,by simp [jG,hx],dE.2 h⟩)))
   ·exact h.elim
  |nx x=>
   simp only [hop] at h;split at h
   ·rename_i b hx;exact .inr (.inr (.inr (.inr ⟨hw,rfl,.nx b,_,by simp [jG,hx],dF.2 h⟩)))
   ·exact h.elim
  |no=>simp only [hop] at h
 ·rename_i hw;exact .inl ⟨V.undef,.inl ⟨by simpa using hw,rfl⟩,h⟩
theorem zA{o:SOper}{r:List SOper}{ctx:za}{F:T V}{H:Hp}{v:V}(hp:jW o F v)(h:qv P G base QP Q r ctx (qP F o.dst v) H):qv P G base QP Q (o::r) ctx F H:=by
 rw [qv];rcases hp with⟨hw,rfl⟩|⟨hw,op,hop,hv⟩
 ·simpa [hw] using h
 ·simpa [hw,hop,hv] using h
theorem Qm{o:SOper}{r:List SOper}{ctx:za}{F:T V}{H:Hp}{v:V}{op:LoadOp}(hw:qs o.guard F=true)(hop:o.op=.l op)(hv:qA F H op=some v)(h:qv P G base QP Q r (vt o op F v ctx) (qP F o.dst v) H):
 qv P G base QP Q (o::r) ctx F H:=by
 rw [qv];simp only [hw,if_true,hop,hv];exact h
theorem yR {o:SOper} {r:List SOper} {ctx:za} {F:T V} {H:Hp} {bk:B} {g:Nat->V} {op:AllocOp} (hw:qs o.guard F=true) (hop:o.op=.a op) (hv:xw F op=some (bk,g))
 (h:qv P G base QP Q r ctx (qP F o.dst (g (yj base o H))) (zx base o H bk)):qv P G base QP Q (o::r) ctx F H:=by
 rw [qv];simp only [hw,if_true,hop,hv];unfold yj zx at h;cases hai:o.aid<;>simp only [hai] at h ⊢<;>exact h
theorem Q4{o:SOper}{r:List SOper}{ctx:za}{F:T V}{H H':Hp}{v:V}{op:EffOp}(hw:qs o.guard F=true)(hop:o.op=.e op)(hv:qM F H op=some (v,H'))(hwa:xY o.watch ctx H')(h:qv P G base QP Q r ctx (qP F o.dst v) H'):
 qv P G base QP Q (o::r) ctx F H:=by
 rw [qv];simp only [hw,if_true,hop,hv];exact⟨hwa,h⟩
theorem kG {o:SOper} {r:List SOper} {ctx:za} {F:T V} {H:Hp} {f:Cal} {args:List V} (hw:qs o.guard F=true) (hc:jG P o.op F=some (f,args))
 (h:XM P G f args H (fun v H'=>xY o.watch ctx H'/\qv P G base QP Q r ctx (qP F o.dst v) H') QP):qv P G base QP Q (o::r) ctx F H:=by
 rw [qv];simp only [hw,if_true];cases hop:o.op<;>simp only [hop,jG] at hc<;>try (cases hc;done)
 ·obtain⟨rfl,rfl⟩:_/\_:=by simpa using hc
  exact Zc.1 h
 ·simp only;split at hc
  ·rename_i f' caps hx;split at hc
   ·rename_i hf;obtain⟨rfl,rfl⟩:_/\_:=by simpa using hc
    try simp only [hx]
    exact⟨hf,Zc.1 h⟩
   ·cases hc
  ·rename_i f' b o hx;split at hc
   ·rename_i hf;obtain⟨rfl,rfl⟩:_/\_:=by simpa using hc
    try simp only [hx]
    exact⟨hf,Zc.1 h⟩
   ·cases hc
  ·rename_i b hx;obtain⟨rfl,rfl⟩:_/\_:=by simpa using hc
   try simp only [hx]
   exact dE.1 h
  ·cases hc
 ·simp only;split at hc
  ·rename_i b hx;obtain⟨rfl,rfl⟩:_/\_:=by simpa using hc
   try simp only [hx]
   exact dF.1 h
  ·cases hc
def YG(base:Nat)(ks:List Nat)(H:Hp):Prop:=∀k∈ks,base+k<H.nx/\H.get (base+k)=none
theorem jv:∀{l:List C} {H H':Hp} {b o:Nat},H.stores b o l=some H'->H'.nx=H.nx/\∀i,H.get i=none->H'.get i=none
 |[],H,H',b,o,h=>by simp [Hp.stores] at h;subst h;exact⟨rfl,fun _ h=>h⟩
 |c::l,H,H',b,o,h=>by
  simp only [Hp.stores] at h;cases hs:H.store b o c with
  |none=>simp [hs] at h
  |some H1=>
   simp only [hs] at h;obtain⟨h1,h2⟩:=jv h;unfold Hp.store at hs;split at hs
   ·rename_i n z m hb;split at hs
    ·obtain rfl:=zsi hs;refine⟨h1,fun i hi=>h2 i ?_⟩;rw [Hp.get_add];split
     ·rename_i e;subst e;rw [hb] at hi;cases hi
     ·exact hi
    ·cases hs
   ·rename_i t l' hb;split at hs
    ·obtain rfl:=zsi hs;refine⟨h1,fun i hi=>h2 i ?_⟩;rw [Hp.get_add];split
     ·rename_i e;subst e;rw [hb] at hi;cases hi
     ·exact hi
    ·cases hs
   ·cases hs
theorem XK{H H':Hp}{esz bytes m:Nat}{s v:V}{news:List C}(h:yk H esz bytes s m news=some (v,H')):H.nx<=H'.nx/\∀b,b<H.nx->H.get b=none->H'.get b=none:=by
 unfold yk at h;split at h
 ·split at h
  ·simp only [zoi,zpi] at h;obtain⟨_,rfl⟩:=h;exact⟨Nat.le_refl _,fun _ _ h=>h⟩
  ·split at h
   ·simp only [zoi,zpi] at h;obtain⟨_,rfl⟩:=h;exact⟨by simp,fun b hb hn=>by rw [Hp.get_push,if_neg (by omega)];exact hn⟩
   ·cases h
 ·split at h
  ·cases h
  ·split at h
   ·simp only [zom,zpi] at h;obtain⟨H1,hs,_,rfl⟩:=h;have:=jv hs;exact⟨by omega,fun b _ hb=>this.2 b hb⟩
   ·split at h
    ·split at h
     ·cases h
     ·split at h
      ·simp only [zoi,zpi] at h;obtain⟨_,rfl⟩:=h;exact⟨by simp,fun b hb hn=>by rw [Hp.get_push,if_neg (by omega)];exact hn⟩
      ·split at h
       ·simp only [zoi,zpi] at h;obtain⟨_,rfl⟩:=h;refine⟨by simp,fun b hb hn=>?_⟩;rw [Hp.get_del];split
        ·rfl
        ·rw [Hp.get_push,if_neg (by omega)];exact hn
       ·cases h
    ·cases h
 ·cases h
theorem cI{H:Hp}{a b:Nat}{x y:B}(h:a≠b):(H.add a x).add b y=(H.add b y).add a x:=by
 unfold Hp.add;rw [T.set_comm _ _ _ h]
theorem Km{H:Hp}{n:Nat}{x y:B}(h:n<H.nx):(H.add n x).push y=(H.push y).add n x:=by
 unfold Hp.add Hp.push;rw [T.set_comm _ _ _ (show n≠H.nx by omega)]
theorem MI{H:Hp}{n b:Nat}{x:B}(h:n≠b):(H.add n x).del b=(H.del b).add n x:=by
 unfold Hp.add Hp.del;rw [T.set_comm _ _ _ h]
theorem Kt{n:Nat}{bk:B}:∀{l:List C} {H H':Hp} {b o:Nat},H.get n=none->H.stores b o l=some H'->(H.add n bk).stores b o l=some (H'.add n bk)
 |[],H,H',b,o,_,h=>by simp [Hp.stores] at h;subst h;rfl
 |c::l,H,H',b,o,hn,h=>by
  simp only [Hp.stores] at h ⊢;cases hs:H.store b o c with
  |none=>simp [hs] at h
  |some H1=>
   simp only [hs] at h;have one:(H.add n bk).store b o c=some (H1.add n bk)/\H1.get n=none:=by
    have hbn:∀x,H.get b=some x->b≠n:=fun x hx e=>by subst e;rw [hn] at hx;cases hx
    unfold Hp.store at hs ⊢;split at hs
    ·rename_i m z t hb;have hne:=hbn _ hb;split at hs
     ·rename_i hi;obtain rfl:=zsi hs;rw [Hp.get_add_ne _ _ hne,hb];simp only [hi,if_true];exact⟨by rw [cI hne],by rw [Hp.get_add_ne _ _ hne.symm];exact hn⟩
     ·cases hs
    ·rename_i t l' hb;have hne:=hbn _ hb;split at hs
     ·rename_i hi;obtain rfl:=zsi hs;rw [Hp.get_add_ne _ _ hne,hb];simp only [hi,if_true];exact⟨by rw [cI hne],by rw [Hp.get_add_ne _ _ hne.symm];exact hn⟩
     ·cases hs
    ·cases hs
   rw [one.1];exact Kt one.2 h
theorem G7{H:Hp}{n esz:Nat}{bk:B}{v:V}{r:Nat × List C}(hn:H.get n=none)(h:ze H esz v=some r):ze (H.add n bk) esz v=some r:=by
 unfold ze at h ⊢;split at h
 ·exact h
 ·split at h
  ·rename_i he;rw [if_pos he];simp only [zom] at h ⊢;obtain⟨l,hl,rfl⟩:=h;exact⟨l,Qp hn hl,rfl⟩
  ·cases h
 ·exact h
 ·cases h
theorem rK{F:T V}{H H':Hp}{esz bytes n:Nat}{s x:Opd}{v:V}{bk:B}(hlt:n<H.nx)(hn:H.get n=none)(h:qM F H (.append esz bytes s x)=some (v,H')):qM F (H.add n bk) (.append esz bytes s x)=some (v,H'.add n bk)/\H'.get n=none:=by
 simp only [qM] at h ⊢;split at h
 ·rename_i m news hsrc;rw [G7 hn hsrc];refine⟨?_,(XK h).2 n hlt hn⟩;simp only;unfold yk at h ⊢;split at h
  ·split at h
   ·rename_i h0;simp only [zoi,zpi] at h;obtain⟨rfl,rfl⟩:=h;rw [if_pos h0]
   ·rename_i h0;rw [if_neg h0];split at h
    ·rename_i h1;simp only [zoi,zpi] at h;obtain⟨rfl,rfl⟩:=h;rw [if_pos h1,Km hlt];rfl
    ·cases h
  ·rename_i b o len cap e ex _;split at h
   ·cases h
   ·rename_i h0;rw [if_neg h0];split at h
    ·rename_i h1;rw [if_pos h1];simp only [zom,zpi] at h ⊢;obtain⟨H1,hs,rfl,rfl⟩:=h;exact⟨_,Kt hn hs,rfl,rfl⟩
    ·rename_i h1;rw [if_neg h1];split at h
     ·rename_i h2;rw [if_pos h2];split at h
      ·cases h
      ·rename_i olds hl;rw [Qp hn hl];simp only;split at h
       ·rename_i h3;simp only [zoi,zpi] at h;obtain⟨rfl,rfl⟩:=h;rw [if_pos h3,Km hlt];rfl
       ·rename_i h3;rw [if_neg h3];split at h
        ·rename_i h4;simp only [zoi,zpi] at h;obtain⟨rfl,rfl⟩:=h;have hbn:b≠n:=fun e=>by subst e;simp [Hp.mutRow,hn] at h4
         have h5:(H.add n bk).mutRow b=true:=by
          unfold Hp.mutRow at h4 ⊢;rw [Hp.get_add_ne _ _ hbn];exact h4
         rw [if_pos h5,Km hlt,MI hbn.symm];rfl
        ·cases h
     ·cases h
  ·cases h
 ·cases h
theorem cK{H H':Hp}{t:TypeId}{m:Nat}{s v:V}{news:List C}(h:wB t H s m news=some (v,H')):H.nx<=H'.nx/\∀b,b<H.nx->H.get b=none->H'.get b=none:=by
 unfold wB at h;split at h
 ·split at h
  ·simp only [zoi,zpi] at h;obtain⟨_,rfl⟩:=h;exact⟨Nat.le_refl _,fun _ _ h=>h⟩
  ·split at h
   ·simp only [zoi,zpi] at h;obtain⟨_,rfl⟩:=h;exact⟨by simp,fun b hb hn=>by rw [Hp.get_push,if_neg (by omega)];exact hn⟩
   ·cases h
 ·split at h
  ·cases h
  ·split at h
   ·simp only [zom,zpi] at h;obtain⟨H1,hs,_,rfl⟩:=h;have:=jv hs;exact⟨by omega,fun b _ hb=>this.2 b hb⟩
   ·split at h
    ·split at h
     ·cases h
     ·split at h
      ·simp only [zoi,zpi] at h;obtain⟨_,rfl⟩:=h;exact⟨by simp,fun b hb hn=>by rw [Hp.get_push,if_neg (by omega)];exact hn⟩
      ·split at h
       ·split at h
        ·simp only [zoi,zpi] at h;obtain⟨_,rfl⟩:=h;refine⟨by simp,fun b hb hn=>?_⟩;rw [Hp.get_del];split
         ·rfl
         ·rw [Hp.get_push,if_neg (by omega)];exact hn
        ·cases h
       ·cases h
    ·cases h
 ·cases h
theorem AE{F:T V}{H H':Hp}{op:EffOp}{v:V}(h:qM F H op=some (v,H')):H.nx<=H'.nx/\∀b,b<H.nx->H.get b=none->H'.get b=none:=by
 cases op with
 |store n a x=>
  simp only [qM] at h;split at h
  ·split at h
   ·simp only [zom,zpi] at h;obtain⟨H1,hs,_,rfl⟩:=h;have:=jv hs;exact⟨by omega,fun b _ hb=>this.2 b hb⟩
   ·cases h
  ·cases h
 |append esz bytes s x=>
  simp only [qM] at h;split at h
  ·exact XK h
  ·cases h
 |appendb t s x=>
  simp only [qM] at h;split at h
  ·exact cK h
  ·cases h
 |mnz t x=>
  simp only [qM] at h;split at h
  ·split at h
   ·simp only [zoi,zpi] at h;obtain⟨_,rfl⟩:=h;exact⟨by simp,fun b hb hn=>by rw [Hp.get_push,if_neg (by omega)];exact hn⟩
   ·cases h
  ·cases h
 |ustr t p n=>
  simp only [qM] at h;split at h
  ·simp only [zoi,zpi] at h;obtain⟨_,rfl⟩:=h;exact⟨Nat.le_refl _,fun _ _ h=>h⟩
  ·split at h
   ·split at h
    ·split at h
     ·split at h
      ·simp only [zoi,zpi] at h;obtain⟨_,rfl⟩:=h;refine⟨Nat.le_refl _,fun b _ hn=>?_⟩;rw [Hp.get_del];split
       ·rfl
       ·exact hn
      ·cases h
     ·cases h
    ·cases h
   ·cases h
  ·cases h
 |smapupd m k x=>
  simp only [qM] at h;split at h
  ·split at h
   ·rename_i b _ _ _ es hb;split at h
    ·split at h
     ·simp only [zoi,zpi] at h;obtain⟨_,rfl⟩:=h;refine⟨Nat.le_refl _,fun i _ hi=>?_⟩;rw [Hp.get_add];split
      ·rename_i e;subst e;rw [hb] at hi;cases hi
      ·exact hi
     ·cases h
    ·cases h
   ·cases h
  ·cases h
 |appendz esz bytes z s x=>
  simp only [qM] at h;split at h
  ·split at h
   ·exact XK h
   ·cases h
  ·cases h
 |sbytes x=>
  simp only [qM] at h;split at h
  ·simp only [zoi,zpi] at h;obtain⟨_,rfl⟩:=h;exact⟨by simp,fun b hb hn=>by rw [Hp.get_push,if_neg (by omega)];exact hn⟩
  ·cases h
 |copy esz d s=>
  simp only [qM] at h;split at h
  ·simp only [zoi,zpi] at h;obtain⟨_,rfl⟩:=h;exact⟨Nat.le_refl _,fun _ _ h=>h⟩
  ·split at h
   ·simp only [zom,zpi] at h;obtain⟨H1,hs,_,rfl⟩:=h;have:=jv hs;exact⟨by omega,fun b _ hb=>this.2 b hb⟩
   ·cases h
  ·cases h
 |stlook z ok m k=>
  have hH:H'=H:=by
   simp only [qM] at h;split at h
   ·split at h
    ·split at h
     ·simp only [zoi,zpi] at h;exact h.2.symm
     ·split at h
      ·simp only [zoi,zpi] at h;exact h.2.symm
      ·cases h
     ·cases h
    ·cases h
   ·cases h
  subst hH;exact⟨Nat.le_refl _,fun _ _ h=>h⟩
 |stlen m=>
  have hH:H'=H:=by
   simp only [qM] at h;split at h
   ·split at h
    ·simp only [zoi,zpi] at h;exact h.2.symm
    ·cases h
   ·cases h
  subst hH;exact⟨Nat.le_refl _,fun _ _ h=>h⟩
 |stdel m k=>
  simp only [qM] at h;split at h
  ·split at h
   ·rename_i b _ _ _ es clk hb;split at h
    ·simp only [zoi,zpi] at h;obtain⟨_,rfl⟩:=h;refine⟨Nat.le_refl _,fun i _ hi=>?_⟩;rw [Hp.get_add];split
     ·rename_i e;subst e;rw [hb] at hi;cases hi
     ·exact hi
    ·simp only [zoi,zpi] at h;obtain⟨_,rfl⟩:=h;refine⟨Nat.le_refl _,fun i _ hi=>?_⟩;rw [Hp.get_add];split
     ·rename_i e;subst e;rw [hb] at hi;cases hi
     ·exact hi
    ·cases h
   ·cases h
  ·cases h
 |ent m=>
  have hH:H'=H:=by
   simp only [qM] at h;split at h
   ·split at h
    ·split at h
     ·split at h
      ·split at h
       ·simp only [zoi,zpi] at h;exact h.2.symm
       ·cases h
      ·cases h
     ·cases h
    ·cases h
   ·cases h
  subst hH;exact⟨Nat.le_refl _,fun _ _ h=>h⟩
 |rng m=>
  simp only [qM] at h;split at h
  ·split at h
   ·simp only [zoi,zpi] at h;obtain⟨_,rfl⟩:=h;exact⟨by simp,fun b hb hn=>by rw [Hp.get_push,if_neg (by omega)];exact hn⟩
   ·cases h
  ·cases h
 |stupd m k x=>
  simp only [qM] at h;split at h
  ·split at h
   ·rename_i b _ _ _ _ _ _ es hb;split at h
    ·simp only [zoi,zpi] at h;obtain⟨_,rfl⟩:=h;refine⟨Nat.le_refl _,fun i _ hi=>?_⟩;rw [Hp.get_add];split
     ·rename_i e;subst e;rw [hb] at hi;cases hi
     ·exact hi
    ·simp only [zoi,zpi] at h;obtain⟨_,rfl⟩:=h;refine⟨Nat.le_refl _,fun i _ hi=>?_⟩;rw [Hp.get_add];split
     ·rename_i e;subst e;rw [hb] at hi;cases hi
     ·exact hi
    ·cases h
   ·cases h
  ·cases h
 |mapupd m k x=>
  simp only [qM] at h;split at h
  ·split at h
   ·rename_i b _ es hb;split at h
    ·split at h
     ·simp only [zoi,zpi] at h;obtain⟨_,rfl⟩:=h;refine⟨Nat.le_refl _,fun i _ hi=>?_⟩;rw [Hp.get_add];split
      ·rename_i e;subst e;rw [hb] at hi;cases hi
      ·exact hi
     ·simp only [zoi,zpi] at h;obtain⟨_,rfl⟩:=h;refine⟨Nat.le_refl _,fun i _ hi=>?_⟩;rw [Hp.get_add];split
      ·rename_i e;subst e;rw [hb] at hi;cases hi
      ·exact hi
     ·cases h
    ·cases h
   ·cases h
  ·cases h
 |clear esz z x=>
  simp only [qM] at h;split at h
  ·simp only [zoi,zpi] at h;obtain⟨_,rfl⟩:=h;exact⟨Nat.le_refl _,fun _ _ h=>h⟩
  ·split at h
   ·simp only [zom,zpi] at h;obtain⟨H1,hs,_,rfl⟩:=h;have:=jv hs;exact⟨by omega,fun b _ hb=>this.2 b hb⟩
   ·cases h
  ·cases h
theorem YG.of_keeps{ks:List Nat}{H H':Hp}(hf:YG base ks H)(h:H.nx<=H'.nx/\∀b,b<H.nx->H.get b=none->H'.get b=none):YG base ks H':=
 fun k hk=>⟨by have:=(hf k hk).1;omega,h.2 _ (hf k hk).1 (hf k hk).2⟩
theorem YG.of_alloc{ks:List Nat}{H:Hp}{o:SOper}(hf:YG base ks H)(bk:B)(hk:∀k,o.aid=some k->k∉ks):YG base ks (zx base o H bk):=by
 unfold zx;cases hai:o.aid with
 |none=>exact fun k hk'=>⟨by have:=(hf k hk').1;simp;omega,by rw [Hp.get_push,if_neg (by have:=(hf k hk').1;omega)];exact (hf k hk').2⟩
 |some j=>
  refine fun k hk'=>⟨(hf k hk').1,?_⟩;rw [Hp.get_add,if_neg (fun e=>hk j hai (by
   have:k=j:=by omega
   rw [<-this];exact hk'))]
  exact (hf k hk').2
end
section
variable{P:Program}{G base:Nat}{QP:Hp->Prop}{Q:T V->Hp->Prop}
abbrev QS:=vE
theorem QS.of{ctx:za}(h:QS ctx)(o:SOper)(op:LoadOp)(F:T V)(v:V):QS (vt o op F v ctx):=vE.of h _ _ _ _ _
theorem sE {o:SOper} {r1 r2:List SOper} {ctx:za} {F:T V} {H:Hp} {ks:List Nat} (hst:QS ctx) (hf:YG base ks H) (hai:∀k,o.aid=some k->k∉ks)
 (hr:∀ctx v H',QS ctx->YG base ks H'->qv P G base QP Q r1 ctx (qP F o.dst v) H'->qv P G base QP Q r2 ctx (qP F o.dst v) H') (h:qv P G base QP Q (o::r1) ctx F H):qv P G base QP Q (o::r2) ctx F H:=by
 rcases vK h with⟨v,hp,h⟩|⟨hw,op,v,hop,hv,h⟩|⟨hw,op,bk,g,hop,hv,h⟩|⟨hw,op,v,H',hop,hv,hwa,h⟩|⟨hw,_,f,args,hc,h⟩
 ·exact zA hp (hr _ _ _ hst hf h)
 ·exact Qm hw hop hv (hr _ _ _ (QS.of hst _ _ _ _) hf h)
 ·exact yR hw hop hv (hr _ _ _ hst (hf.of_alloc bk hai) h)
 ·exact Q4 hw hop hv hwa (hr _ _ _ hst (hf.of_keeps (AE hv)) h)
 ·exact kG hw hc (h.keeps.mono fun v H' hh=>⟨hh.1.1,hr _ _ _ hst (hf.of_keeps hh.2) hh.1.2⟩)
theorem BK{F:T V}{op:AllocOp}{bk:B}{g:Nat->V}(h:xw F op=some (bk,g)):bk.mut=true:=by
 cases op<;>simp only [xw] at h
 case alloc=>simp only [zoi,zpi] at h;rw [<-h.1];rfl
 case mkmap=>simp only [zoi,zpi] at h;rw [<-h.1];rfl
 case mkst=>simp only [zoi,zpi] at h;rw [<-h.1];rfl
 case alloct=>simp only [zoi,zpi] at h;rw [<-h.1];rfl
 all_goals (split at h<;>try (cases h;done))
 all_goals first
  |(simp only [zoi,zpi] at h;rw [<-h.1];rfl)
  |(
   split at h
   ·simp only [zoi,zpi] at h;rw [<-h.1];rfl
   ·cases h)
theorem jW.blind{s:SOper}{d:Option Nat}(hb:Blind s d){F:T V}{u v:V}:jW s (qP F d u) v↔jW s F v:=by
 unfold jW;rw [hb.wanted];constructor
 ·rintro (h|⟨hw,op,hop,hv⟩)
  ·exact .inl h
  ·exact .inr ⟨hw,op,hop,by rwa [hb.pure F u op hop] at hv⟩
 ·rintro (h|⟨hw,op,hop,hv⟩)
  ·exact .inl h
  ·exact .inr ⟨hw,op,hop,by rwa [hb.pure F u op hop]⟩
theorem wz{s:SOper}{d:Option Nat}(hb:Blind s d){F:T V}{u:V}:jG P s.op (qP F d u)=jG P s.op F:=by
 cases hop:s.op with
 |cf f args=>simp only [jG,hb.cf F u f args hop]
 |cv x args=>obtain⟨h1,h2⟩:=hb.cv F u x args hop;simp only [jG,h1,h2]
 |nx x=>simp only [jG,hb.nx F u x hop]
 |_=>rfl
def jZ(x:SOper)(F:T V):Prop:=qs x.guard F=true->(∀op,x.op=.p op->∃v,qn F op=some v)/\(∀op,x.op=.a op->∃bg,xw F op=some bg)
theorem jZ.blind{x:SOper}{d:Option Nat}(hb:Blind x d){F:T V}{u:V}:jZ x (qP F d u)↔jZ x F:=by
 unfold jZ;rw [hb.wanted];constructor
 ·intro h hw;refine⟨fun op hop=>?_,fun op hop=>?_⟩
  ·have:=(h hw).1 op hop;rwa [hb.pure _ _ _ hop] at this
  ·have:=(h hw).2 op hop;rwa [hb.alloc _ _ _ hop] at this
 ·intro h hw;refine⟨fun op hop=>?_,fun op hop=>?_⟩
  ·rw [hb.pure _ _ _ hop];exact (h hw).1 op hop
  ·rw [hb.alloc _ _ _ hop];exact (h hw).2 op hop
theorem Ei {y x:SOper} {r:List SOper} {ctx:za} {F:T V} {H:Hp} (hok:Q6 y x=true) (hst:QS ctx) (hval:jZ x F) (hfr:∀k,(x.aid=some k\/y.aid=some k)->base+k<H.nx/\H.get (base+k)=none) (hqp:(∀H,¬QP H)\/y.op.isC=false)
 (h:qv P G base QP Q (y::x::r) ctx F H):qv P G base QP Q (x::y::r) ctx F H:=by
 unfold Q6 at hok;rw [xt] at hok;obtain⟨htm,hkd⟩:=hok;obtain⟨t1,t2⟩:=YV htm;have bx:Blind x y.dst:=Blind.mk' fun k hk=>⟨(t1 k hk).1,(t1 k hk).2.1⟩;have by_:Blind y x.dst:=Blind.mk' fun k hk=>t2 k hk;have hcomm:∀(F:T V) (u v:V),qP (qP F y.dst u) x.dst v=qP (qP F x.dst v) y.dst u:=fun F u v=>sS fun k hk=>(t1 k hk).2.2;rcases vK h with⟨vy,hpy,h⟩|⟨hwy,opy,vy,hopy,hvy,h⟩|⟨hwy,opy,bky,gy,hopy,hvy,h⟩|⟨hwy,opy,vy,Hy,hopy,hvy,hway,h⟩|⟨hwy,hky,fy,argsy,hcy,h⟩
 ·-- y is plain
  rcases vK h with⟨vx,hpx,h⟩|⟨hwx,opx,vx,hopx,hvx,h⟩|⟨hwx,opx,bkx,gx,hopx,hvx,h⟩|⟨hwx,opx,vx,Hx,hopx,hvx,hwax,h⟩|⟨hwx,hkx,fx,argsx,hcx,h⟩
  ·rw [jW.blind bx] at hpx;exact zA hpx (zA ((jW.blind by_).2 hpy) (by rw [<-hcomm];exact h))
  ·rw [bx.wanted] at hwx;rw [bx.load _ _ _ _ hopx] at hvx;refine Qm hwx hopx hvx (zA ((jW.blind by_).2 hpy) ?_);rw [<-hcomm];refine zU (fun z hz=>?_) h;unfold vt at hz ⊢;cases hk:x.keep with
   |false=>simp only [hk,Bool.false_eq_true,if_false] at hz ⊢;exact hz
   |true=>
    simp only [hk,if_true,List.mem_cons] at hz ⊢;rcases hz with rfl|hz
    ·left;congr 1;funext H';rw [bx.load _ _ _ _ hopx]
    ·exact .inr hz
  ·rw [bx.wanted] at hwx;rw [bx.alloc _ _ _ hopx] at hvx;exact yR hwx hopx hvx (zA ((jW.blind by_).2 hpy) (by rw [<-hcomm];exact h))
  ·rw [bx.wanted] at hwx;rw [bx.eff _ _ _ _ hopx] at hvx;exact Q4 hwx hopx hvx hwax (zA ((jW.blind by_).2 hpy) (by rw [<-hcomm];exact h))
  ·rw [bx.wanted] at hwx;rw [wz bx] at hcx;exact kG hwx hcx (h.mono fun v H' hh=>⟨hh.1,zA ((jW.blind by_).2 hpy) (by rw [<-hcomm];exact hh.2)⟩)
 ·-- y loads
  have hyl:∀(F':T V) (v:V) (H':Hp),F'=qP F x.dst v->qA F H' opy=some vy->∀c,(∀z,z∈c->z∈ctx)->qv P G base QP Q r (vt y opy F vy c) (qP F' y.dst vy) H'->qv P G base QP Q (y::r) c F' H':=by
   rintro F' v H' rfl hv c hc hh;refine Qm (by rw [by_.wanted];exact hwy) hopy (by rw [by_.load _ _ _ _ hopy];exact hv) ?_;refine zU (fun z hz=>?_) hh;unfold vt at hz ⊢;cases hk:y.keep with
   |false=>simp only [hk,Bool.false_eq_true,if_false] at hz ⊢;exact hz
   |true=>
    simp only [hk,if_true,List.mem_cons] at hz ⊢;rcases hz with rfl|hz
    ·left;congr 1;funext H';rw [by_.load _ _ _ _ hopy]
    ·exact .inr hz
  rcases vK h with⟨vx,hpx,h⟩|⟨hwx,opx,vx,hopx,hvx,h⟩|⟨hwx,opx,bkx,gx,hopx,hvx,h⟩|⟨hwx,opx,vx,Hx,hopx,hvx,hwax,h⟩|⟨hwx,hkx,fx,argsx,hcx,h⟩
  ·rw [jW.blind bx] at hpx;exact zA hpx (hyl _ vx H rfl hvy ctx (fun _ h=>h) (by rw [<-hcomm];exact h))
  ·rw [bx.wanted] at hwx;rw [bx.load _ _ _ _ hopx] at hvx;refine Qm hwx hopx hvx ?_;refine Qm (by rw [by_.wanted];exact hwy) hopy (by rw [by_.load _ _ _ _ hopy];exact hvy) ?_;rw [<-hcomm];refine zU (fun z hz=>?_) h;unfold vt at hz ⊢;have e1:∀u:V,(fun H'=>qA (qP F y.dst u) H' opx=some vx)=fun H'=>qA F H' opx=some vx:=fun u=>by funext H';rw [bx.load _ _ _ _ hopx]
   have e2:∀u:V,(fun H'=>qA (qP F x.dst u) H' opy=some vy)=fun H'=>qA F H' opy=some vy:=fun u=>by funext H';rw [by_.load _ _ _ _ hopy]
   rw [e2] at hz;rw [e1];cases hk:y.keep<;>cases hk':x.keep<;>simp only [hk,hk',Bool.false_eq_true,if_false,if_true,List.mem_cons] at hz ⊢
   ·exact hz
   ·exact hz
   ·exact hz
   ·rcases hz with hz|hz|hz
    ·exact .inr (.inl hz)
    ·exact .inl hz
    ·exact .inr (.inr hz)
  ·rw [bx.wanted] at hwx;rw [bx.alloc _ _ _ hopx] at hvx;rw [hopy,hopx] at hkd;simp only [SOp.kd] at hkd;obtain⟨k,hk⟩:=Option.isSome_iff_exists.1 hkd;have hfree:=hfr k (.inl hk);refine yR hwx hopx hvx ?_;refine hyl _ _ _ rfl ?_ ctx (fun _ h=>h) (by rw [<-hcomm];exact h);unfold zx;simp only [hk];exact fK hfree.2 hvy
  ·rw [bx.wanted] at hwx;rw [bx.eff _ _ _ _ hopx] at hvx;rw [hopy,hopx] at hkd;simp only [SOp.kd,xt] at hkd;have hwat:qA F Hx opy=some vy:=by
    have hmem:y.id∈x.watch:=by simpa using hkd.2
    cases hws:x.watch with
    |nil=>rw [hws] at hmem;cases hmem
    |cons a l=>
     rw [hws] at hwax hmem;exact hwax y.id hmem (fun H'=>qA F H' opy=some vy) (by unfold vt;rw [if_pos hkd.1];exact List.mem_cons_self ..)
   refine Q4 hwx hopx hvx (yQ (fun z hz=>?_) hwax) (hyl _ vx Hx rfl hwat ctx (fun _ h=>h) (by rw [<-hcomm];exact h));unfold vt;split
   ·exact List.mem_cons_of_mem _ hz
   ·exact hz
  ·rw [bx.wanted] at hwx;rw [wz bx] at hcx;rw [hopy,hkx] at hkd;simp only [SOp.kd,xt] at hkd;have hmem:y.id∈x.watch:=by simpa using hkd.2
   refine kG hwx hcx (h.mono fun v H' hh=>?_);have hwat:qA F H' opy=some vy:=by
    have hwax:=hh.1;cases hws:x.watch with
    |nil=>rw [hws] at hmem;cases hmem
    |cons a l=>
     rw [hws] at hwax hmem;exact hwax y.id hmem (fun H'=>qA F H' opy=some vy) (by unfold vt;rw [if_pos hkd.1];exact List.mem_cons_self ..)
   refine⟨yQ (fun z hz=>?_) hh.1,hyl _ v H' rfl hwat ctx (fun _ h=>h) (by rw [<-hcomm];exact hh.2)⟩;unfold vt;split
   ·exact List.mem_cons_of_mem _ hz
   ·exact hz
 ·-- y makes a block
  rcases vK h with⟨vx,hpx,h⟩|⟨hwx,opx,vx,hopx,hvx,h⟩|⟨hwx,opx,bkx,gx,hopx,hvx,h⟩|⟨hwx,opx,vx,Hx,hopx,hvx,hwax,h⟩|⟨hwx,hkx,fx,argsx,hcx,h⟩
  ·rw [jW.blind bx] at hpx;exact zA hpx (yR (by rw [by_.wanted];exact hwy) hopy (by rw [by_.alloc _ _ _ hopy];exact hvy) (by rw [<-hcomm];exact h))
  ·rw [hopy,hopx] at hkd;simp [SOp.kd] at hkd
  ·rw [bx.wanted] at hwx;rw [bx.alloc _ _ _ hopx] at hvx;rw [hopy,hopx] at hkd;simp only [SOp.kd,xt] at hkd;obtain⟨k,hk⟩:=Option.isSome_iff_exists.1 hkd.1.1;obtain⟨j,hj⟩:=Option.isSome_iff_exists.1 hkd.1.2;have hne:k≠j:=by
    have:=hkd.2;rw [hk,hj] at this;simpa using this
   refine yR hwx hopx hvx (yR (by rw [by_.wanted];exact hwy) hopy (by rw [by_.alloc _ _ _ hopy];exact hvy) ?_);rw [<-hcomm];have e1:yj base x (zx base y H bky)=yj base x H:=by unfold yj;simp only [hj]
   have e2:yj base y (zx base x H bkx)=yj base y H:=by unfold yj;simp only [hk]
   have e3:zx base y (zx base x H bkx) bky=zx base x (zx base y H bky) bkx:=by
    unfold zx;simp only [hk,hj];unfold Hp.add;rw [T.set_comm _ _ _ (show base+j≠base+k by omega)]
   rw [e2,e3];rw [e1] at h;exact h
  ·rw [hopy,hopx] at hkd;simp [SOp.kd] at hkd
  ·rw [hopy,hkx] at hkd;simp [SOp.kd] at hkd
 ·-- y writes
  rcases vK h with⟨vx,hpx,h⟩|⟨hwx,opx,vx,hopx,hvx,h⟩|⟨hwx,opx,bkx,gx,hopx,hvx,h⟩|⟨hwx,opx,vx,Hx,hopx,hvx,hwax,h⟩|⟨hwx,hkx,fx,argsx,hcx,h⟩
  ·rw [jW.blind bx] at hpx;exact zA hpx (Q4 (by rw [by_.wanted];exact hwy) hopy (by rw [by_.eff _ _ _ _ hopy];exact hvy) hway (by rw [<-hcomm];exact h))
  ·rw [hopy,hopx] at hkd;simp [SOp.kd] at hkd
  ·rw [bx.wanted] at hwx;rw [bx.alloc _ _ _ hopx] at hvx;rw [hopy,hopx] at hkd;simp only [SOp.kd,xt] at hkd;obtain⟨k,hk⟩:=Option.isSome_iff_exists.1 hkd.1;have hfree:=hfr k (.inl hk);cases opy<;>simp only [SOp.isAp,Bool.false_eq_true] at hkd<;>try (exact hkd.2.elim)
   obtain⟨g1,g2⟩:=rK (bk:=bkx) hfree.1 hfree.2 hvy;have e1:∀H0,zx base x H0 bkx=H0.add (base+k) bkx:=fun H0=>by unfold zx;simp only [hk]
   have e2:∀H0,yj base x H0=base+k:=fun H0=>by unfold yj;simp only [hk]
   rw [e1,e2] at h;refine yR hwx hopx hvx ?_;rw [e1,e2];refine Q4 (by rw [by_.wanted];exact hwy) hopy (by rw [by_.eff _ _ _ _ hopy];exact g1) ?_ (by rw [<-hcomm];exact h);cases hws:y.watch with
   |nil=>trivial
   |cons a l=>
    rw [hws] at hway;exact fun j hj p hp=>hst j p hp _ _ _ g2 (hway j hj p hp)
  ·rw [hopy,hopx] at hkd;simp [SOp.kd] at hkd
  ·rw [hopy,hkx] at hkd;simp [SOp.kd] at hkd
 ·-- y calls
  cases hwx:qs x.guard F with
  |false=>
   refine zA (.inl ⟨hwx,rfl⟩) (kG (by rw [by_.wanted];exact hwy) (by rw [wz by_];exact hcy) (h.mono fun v H' hh=>⟨hh.1,?_⟩));rw [<-hcomm];have h2:=hh.2;rw [qv,bx.wanted,hwx] at h2;simpa using h2
  |true=>
   cases hopx:x.op with
   |p op=>
    obtain⟨vx,hv⟩:=(hval hwx).1 op hopx;refine zA (v:=vx) (.inr ⟨hwx,op,hopx,hv⟩) (kG (by rw [by_.wanted];exact hwy) (by rw [wz by_];exact hcy) (h.mono fun v H' hh=>⟨hh.1,?_⟩));rw [<-hcomm];have h2:=hh.2;rw [qv,bx.wanted,hwx] at h2;simp only [if_true,hopx,bx.pure _ _ _ hopx,hv] at h2;exact h2
   |a op=>
    obtain⟨⟨bk,g⟩,hv⟩:=(hval hwx).2 op hopx;rw [hky,hopx] at hkd;have hS:∀H,¬fy.sp QP H:=by
     rcases hqp with hq|hc
     ·cases fy with
      |fu f=>exact hq
      |yl b=>exact fun _ h=>h
      |nx b=>exact fun _ h=>h
     ·cases hyo:y.op<;>rw [hyo] at hc hcy<;>simp only [jG,SOp.isC] at hc hcy<;>try (cases hc;done)
      all_goals try (cases hcy;done)
      split at hcy
      ·obtain⟨rfl,_⟩:_/\_:=by simpa using hcy
       exact fun _ h=>h
      ·cases hcy
    simp only [SOp.kd] at hkd;obtain⟨k,hk⟩:=Option.isSome_iff_exists.1 hkd;obtain⟨hlt,hnone⟩:=hfr k (.inl hk);refine yR hwx hopx hv (kG (by rw [by_.wanted];exact hwy) (by rw [wz by_];exact hcy) ?_);have e1:zx base x H bk=H.add (base+k) bk:=by unfold zx;simp only [hk]
    have e2:yj base x H=base+k:=by unfold yj;simp only [hk]
    rw [e1,e2];refine (h.keeps.frame hS hlt hnone (BK hv)).mono ?_;rintro v H'' ⟨H',⟨⟨hw1,hw2⟩,hnx,hfree⟩,rfl⟩;refine⟨?_,?_⟩
    ·-- what is watched is still there
     have:=hw1;cases hws:y.watch with
     |nil=>trivial
     |cons a l=>
      rw [hws] at this;exact fun j hj p hp=>hst j p hp _ _ _ (hfree _ hlt hnone) (this j hj p hp)
    ·rw [<-hcomm];rw [qv,bx.wanted,hwx] at hw2;simp only [if_true,hopx,bx.alloc _ _ _ hopx,hv,hk] at hw2;exact hw2
   |l op=>rw [hky,hopx] at hkd;simp [SOp.kd] at hkd
   |e op=>rw [hky,hopx] at hkd;simp [SOp.kd] at hkd
   |cf f args=>rw [hky,hopx] at hkd;simp [SOp.kd] at hkd
   |cv f args=>rw [hky,hopx] at hkd;simp [SOp.kd] at hkd
   |nx x=>rw [hky,hopx] at hkd;simp [SOp.kd] at hkd
   |no=>rw [hky,hopx] at hkd;simp [SOp.kd] at hkd
theorem NX{x:SOper}{post:List SOper}:∀{pre:List SOper} {ctx:za} {F:T V} {H:Hp},(∀y∈pre,Q6 y x=true)->((∀H,¬QP H)\/∀y∈pre,y.op.isC=false)->QS ctx->jZ x F->
 (∀k∈(pre++[x]).filterMap (·.aid),base+k<H.nx/\H.get (base+k)=none)->((pre++[x]).filterMap (·.aid)).Nodup->
 qv P G base QP Q (pre++x::post) ctx F H->qv P G base QP Q (x::(pre++post)) ctx F H
 |[],_,_,_,_,_,_,_,_,_,h=>h
 |y::pre,ctx,F,H,hok,hqp,hst,hval,hfr,hnd,h=>by
  have hy:=hok y (by simp);have hb:Blind x y.dst:=by
   have:=hy;unfold Q6 at this;rw [xt] at this;obtain⟨t1,_⟩:=YV this.1;exact Blind.mk' fun k hk=>⟨(t1 k hk).1,(t1 k hk).2.1⟩
  have hfm:∀k,y.aid=some k->k∉(pre++[x]).filterMap (·.aid):=fun k hk=>by
   simp only [List.cons_append,List.filterMap_cons,hk,List.nodup_cons] at hnd;exact hnd.1
  have hnd':((pre++[x]).filterMap (·.aid)).Nodup:=by
   simp only [List.cons_append,List.filterMap_cons] at hnd;cases hy':y.aid with
   |none=>rw [hy'] at hnd;exact hnd
   |some k=>rw [hy'] at hnd;exact (List.nodup_cons.1 hnd).2
  have hfr':YG base ((pre++[x]).filterMap (·.aid)) H:=fun k hk=>hfr k (by
   simp only [List.cons_append,List.filterMap_cons];cases y.aid with
   |none=>exact hk
   |some j=>exact List.mem_cons_of_mem _ hk)
  have h1:qv P G base QP Q (y::x::(pre++post)) ctx F H:=sE hst hfr' hfm (fun ctx' v H' hst' hf' hh=>NX (fun z hz=>hok z (by simp [hz])) (hqp.imp id fun h z hz=>h z (by simp [hz])) hst' ((jZ.blind hb).2 hval) hf' hnd' hh) h;refine Ei hy hst hval (fun k hk=>?_) (hqp.imp id fun h=>h y (by simp)) h1;rcases hk with hk|hk
  ·exact hfr' k (by simp [hk])
  ·exact hfr k (by simp [hk])
end
section
variable{P:Program}{G n base:Nat}{QP:Hp->Prop}{Q:T V->Hp->Prop}
theorem n9{ρ:Option (Option Nat)}{nn:Nat}{ops:Array Oper}{i:Nat}{a:Act}{w:World}{T:Prop}(h:wpOpIn (kO ρ) nn P ops (fun _ _ _=>False) i (fun _ _=>T) a w):T:=by
 unfold wpOpIn at h;split at h
 ·exact h
 ·rename_i o ho;split at h
  ·unfold Oper.wpIn at h;replace h:=h.2;generalize (o.semAt (kO ρ).round a.eval).run P w=r at h;cases r with
   |ok nx w'=>
    cases nx<;>simp only [Oper.uponIn] at h<;>first
     |exact h
     |(
      obtain⟨_,h⟩:=h;obtain⟨e,w'',fr,hR,_⟩:=h.2 [] v7;cases e with
      |returned v=>exact hR
      |panicked c=>exact hR.elim
      |outgrown=>obtain⟨_,_,hh⟩:=hR;exact hh.elim)
     |(
      obtain⟨_,h⟩:=h;obtain⟨e,w'',hR,_⟩:=h.2 default [] v7;cases e with
      |returned v=>exact hR
      |panicked c=>exact hR.elim
      |outgrown=>obtain⟨_,_,hh⟩:=hR;exact hh.elim)
     |(obtain⟨v,w'',hR,_⟩:=h.2 default [] v7;exact hR)
     |exact h.elim
   |halt hh w'=>cases hh<;>simp only [Oper.uponIn] at h<;>first|exact h.elim|exact h
  ·exact h.2
theorem i7{x:SOper}{post:List SOper}{ctx:za}{F:T V}{H:Hp}(h:qv P G base QP Q (x::post) ctx F H):jZ x F:=by
 intro hw;rw [qv,hw] at h;simp only [if_true] at h;refine⟨fun op hop=>?_,fun op hop=>?_⟩
 ·rw [hop] at h;simp only at h;cases hv:qn F op with
  |none=>simp [hv] at h
  |some v=>exact⟨v,rfl⟩
 ·rw [hop] at h;simp only at h;cases hv:xw F op with
  |none=>simp [hv] at h
  |some v=>exact⟨v,rfl⟩
theorem FP{ops:Array Oper}{x:SOper}{post:List SOper}{μ0:Nat->Pl}{K0:Nat->Prop}{H0:Hp}{w0:World}(hlt0:∀b bk,H0.get b=some bk->b<H0.nx):
 ∀{pre:List SOper} {xa:List Nat} {ctx:za} {F:T V} {H:Hp} {μ:Nat->Pl} {K:Nat->Prop} {a:Act} {w:World},xZ P G n ops xa pre->(∀y∈pre,Blind x y.dst)->((∀H,¬QP H)\/∀y∈pre,y.op.isC=false)->Rel G μ K H w->xy μ K n F a.tmps->Fr μ0 K0 H0 w0 μ K H w->
  (∀y∈pre,∀k,y.aid=some k->¬K (base+k)/\base+k<H.nx/\H0.nx<=base+k)->(pre.filterMap (·.aid)).Nodup->
  qv P G base QP Q (pre++x::post) ctx F H->jZ x F
 |[],[],ctx,F,H,μ,K,a,w,_,_,_,_,_,_,_,_,h=>i7 h
 |y::pre,i::xa,ctx,F,H,μ,K,a,w,hal,hbl,hqp,hR,hF,hFr,hrs,hnd,h=>by
  obtain⟨⟨o,ho,hfit⟩,hal'⟩:=hal;have key:wpOpIn (kO none) 0 P ops (fun _ _ _=>False) i (fun _ _=>jZ x F) a w:=by
   refine oW hlt0 ho hfit hR hF hFr (hrs y (by simp)) h (fun μ' K' F' H' a' w' ctx' h1 h2 h3 _ h5 h6 h7 _ h8=>?_) fun μ' K' H' w' ch hc hq _ _ _ _=>hqp.elim (fun h=>h _ hq) fun h=>by rw [h y (by simp)] at hc;cases hc
   obtain⟨v,rfl⟩:=h7;have hnd':(pre.filterMap (·.aid)).Nodup/\∀k,y.aid=some k->k∉pre.filterMap (·.aid):=by
    simp only [List.filterMap_cons] at hnd;cases hy:y.aid with
    |none=>rw [hy] at hnd;exact⟨hnd,by simp⟩
    |some k=>rw [hy] at hnd;exact⟨(List.nodup_cons.1 hnd).2,fun j hj=>by obtain rfl:=zsi hj;exact (List.nodup_cons.1 hnd).1⟩
   have:=FP hlt0 hal' (fun z hz=>hbl z (by simp [hz])) (hqp.imp id fun h z hz=>h z (by simp [hz])) h1 h2 h3 (fun z hz k hk=>by
    obtain⟨g1,g2,g3⟩:=hrs z (by simp [hz]) k hk;refine⟨fun hk'=>?_,by omega,g3⟩;rcases h6 _ g2 hk' with h|⟨j,hj,he⟩
    ·exact g1 h
    ·exact hnd'.2 j hj (by
      have:j=k:=by omega
      rw [this];exact List.mem_filterMap.2 ⟨z,hz,hk⟩)) hnd'.1 h8
   exact (jZ.blind (hbl y (by simp))).1 this
  exact n9 key
 |[],_::_,_,_,_,_,_,_,_,h,_,_,_,_,_,_,_,_=>h.elim
 |_::_,[],_,_,_,_,_,_,_,h,_,_,_,_,_,_,_,_=>h.elim
def JS(b:Bool)(y x:SOper):Bool:=Q6 y x&&!(b&&y.op.isC)
def ZV(b:Bool)(D:Nat->List Nat):List Nat->List SOper->Prop
 |i::xa,s::l=>(∀j t,(j,t)∈xa.zip l->i∈D j\/JS b s t=true)/\ZV b D xa l
 |_,_=>True
theorem xZ.len{ops:Array Oper}:∀{xa:List Nat} {l:List SOper},xZ P G n ops xa l->xa.length=l.length
 |[],[],_=>rfl
 |_::_,_::_,h=>by simp [xZ.len h.2]
 |[],_::_,h=>h.elim
 |_::_,[],h=>h.elim
theorem xZ.split{ops:Array Oper}{b:Bool}{D:Nat->List Nat}:∀{xa:List Nat} {l:List SOper} {i:Nat},xZ P G n ops xa l->ZV b D xa l->i∈xa->
 ∃pi qi pre x post,xa=pi++i::qi/\l=pre++x::post/\xZ P G n ops pi pre/\(∃o,ops[i]?=some o/\rM P G n ops o x)/\xZ P G n ops (pi++qi) (pre++post)/\ZV b D (pi++qi) (pre++post)/\
  (∀y∈pre,∃j∈pi,j∈D i\/JS b y x=true)
 |j::xa,s::l,i,hal,hp,hi=>by
  by_cases e:i=j
  ·subst e;exact⟨[],xa,[],s,l,rfl,rfl,trivial,hal.1,hal.2,hp.2,by simp⟩
  ·have hi':i∈xa:=by
    rcases List.mem_cons.1 hi with h|h
    ·exact absurd h e
    ·exact h
   obtain⟨pi,qi,pre,x,post,h1,h2,h3,h4,h5,h6,h7⟩:=xZ.split hal.2 hp.2 hi';have hl1:pi.length=pre.length:=h3.len;refine⟨j::pi,qi,s::pre,x,post,by rw [h1];rfl,by rw [h2];rfl,⟨hal.1,h3⟩,h4,⟨hal.1,h5⟩,⟨fun j' t hjt=>hp.1 j' t ?_,h6⟩,fun y hy=>?_⟩
   ·rw [h1,h2,List.zip_append hl1];have hjt':(j',t)∈(pi++qi).zip (pre++post):=hjt;rw [List.zip_append hl1] at hjt';rcases List.mem_append.1 hjt' with h|h
    ·exact List.mem_append.2 (.inl h)
    ·exact List.mem_append.2 (.inr (by simp [h]))
   ·rcases List.mem_cons.1 hy with rfl|hy
    ·refine⟨j,by simp,hp.1 i x ?_⟩;rw [h1,h2,List.zip_append hl1];exact List.mem_append.2 (.inr (by simp))
    ·obtain⟨j',hj',hh⟩:=h7 y hy;exact⟨j',by simp [hj'],hh⟩
 |[],_,_,_,_,hi=>by cases hi
 |_::_,[],_,hal,_,_=>hal.elim
theorem UT {ρ:Option (Option Nat)} {nn:Nat} {DD:List Deferred} {ops:Array Oper} {b:Bool} {F0:T V} {ds:List Nat} {D:Nat->List Nat} {μ0:Nat->Pl} {K0:Nat->Prop} {H0:Hp} {w0:World} (hlt0:∀b bk,H0.get b=some bk->b<H0.nx) {Q':Exit->Act->World->Prop}
 (hQ:∀μ K F H a w,Q F H->Rel G μ K H w->xy μ K n F a.tmps->Fr μ0 K0 H0 w0 μ K H w->(∀t,t∉ds->F.get t=F0.get t)->a.defers=DD->Q' .normal a w)
 (hP:∀μ K F H a w ch,QP H->VH ch->Rel G μ K H w->xy μ K n F a.tmps->Fr μ0 K0 H0 w0 μ K H w->(∀t,t∉ds->F.get t=F0.get t)->a.defers=DD->Q' (.panic ch) a w) (hb:b=true\/∀H,¬QP H)
 (hD:∀i o,ops[i]?=some o->∀j∈D i,∃e∈o.after.toList,Region.binds .any e=true/\(e.on=j\/j∈D e.on))
 (hlow:∀i o,ops[i]?=some o->∀e∈o.after.toList,Region.binds .any e=true->e.on<i):
 ∀{fuel:Nat} {listed:Array Bool} {xa:List Nat} {l:List SOper} {ctx:za} {F:T V} {H:Hp} {μ:Nat->Pl} {K:Nat->Prop} {a:Act} {w:World},
  listed.size=ops.size->(∀i,i<ops.size->(listed.getD i true=false↔i∈xa))->(∀i∈xa,i<ops.size)->xa.Nodup->xa.length<=fuel->
  (∀i,i<ops.size->i∉xa->∀j∈D i,j∉xa)->xZ P G n ops xa l->ZV b D xa l->(l.filterMap (·.aid)).Nodup->QS ctx->
  (∀s∈l,∀k,s.aid=some k->¬K (base+k)/\base+k<H.nx/\H0.nx<=base+k)->
  Rel G μ K H w->xy μ K n F a.tmps->Fr μ0 K0 H0 w0 μ K H w->(∀s∈l,∀d,s.dst=some d->d∈ds)->(∀t,t∉ds->F.get t=F0.get t)->a.defers=DD->qv P G base QP Q l ctx F H->wpAnyIn (kO ρ) nn P .any ops Q' fuel listed a w:=by
 intro fuel;induction fuel with
 |zero=>
  intro listed xa l ctx F H μ K a w hsz hlist hin hnd hlen hdc hal hp haid hst hrs hR hF hFr hdd hag hd h;have hidx:xa=[]:=List.eq_nil_of_length_eq_zero (by omega);subst hidx;cases l with
  |cons s l=>exact hal.elim
  |nil=>
   refine⟨?_,hQ μ K F H a w h hR hF hFr hag hd⟩;unfold Region.ready;rw [List.filter_eq_nil_iff];intro i hi;have hi':i<ops.size:=by simpa using hi
   have:=(hlist i hi').1;cases hl:listed.getD i true with
   |true=>simp
   |false=>exact absurd (this hl) (by simp)
 |succ fuel ih=>
  intro listed xa l ctx F H μ K a w hsz hlist hin hnd hlen hdc hal hp haid hst hrs hR hF hFr hdd hag hd h;refine⟨fun hready=>?_,fun i hi=>?_⟩
  ·-- nothing is ready:then nothing is left
   have hidx:xa=[]:=by
    cases hid:xa with
    |nil=>rfl
    |cons i0 rest=>
     exfalso;obtain⟨m,hm,hmin⟩:∃m∈xa,∀j∈xa,m<=j:=by
      have:∀(l:List Nat),l≠[]->∃m∈l,∀j∈l,m<=j:=by
       intro l;induction l with
       |nil=>intro h;exact absurd rfl h
       |cons x l ihl=>
        intro _;by_cases hl:l=[]
        ·subst hl;exact⟨x,by simp,by simp⟩
        ·obtain⟨m,hm,hmin⟩:=ihl hl;by_cases hx:x<=m
         ·exact⟨x,by simp,fun j hj=>by
           rcases List.mem_cons.1 hj with rfl|hj
           ·exact Nat.le_refl _
           ·exact Nat.le_trans hx (hmin j hj)⟩
         ·exact⟨m,by simp [hm],fun j hj=>by
           rcases List.mem_cons.1 hj with rfl|hj
           ·omega
           ·exact hmin j hj⟩
      exact this xa (by rw [hid];simp)
     have hms:=hin m hm;have hmr:m∈Region.ready .any ops listed:=by
      unfold Region.ready;rw [List.mem_filter];refine⟨by simpa using hms,?_⟩;rw [(hlist m hms).2 hm];have ho:ops[m]?=some ops[m]:=Array.getElem?_eq_getElem hms;rw [ho];simp only [Bool.not_false,Bool.true_and,Option.map_some,Option.getD_some];rw [Array.all_eq_true_iff_forall_mem];intro e he;cases hb:Region.binds .any e with
      |false=>rfl
      |true=>
       have hlt:=hlow m _ ho e (by simpa using he) hb;have hes:e.on<ops.size:=by omega
       have hne:e.on∉xa:=fun h=>absurd (hmin _ h) (by omega);have hl:listed.getD e.on true≠false:=fun h=>hne ((hlist _ hes).1 h);have hsz':e.on<listed.size:=by rw [hsz];exact hes
       simp [hsz'] at hl ⊢;exact hl
     rw [hready] at hmr;cases hmr
   subst hidx;cases l with
   |cons s l=>exact hal.elim
   |nil=>exact hQ μ K F H a w h hR hF hFr hag hd
  ·-- one that is ready is drawn to the front
   unfold Region.ready at hi;rw [List.mem_filter] at hi;obtain⟨hi1,hi2⟩:=hi;have his:i<ops.size:=by simpa using hi1
   rw [xt] at hi2;have hun:listed.getD i true=false:=by simpa using hi2.1
   have hii:i∈xa:=(hlist i his).1 hun;obtain⟨pi,qi,pre,x,post,e1,e2,g1,⟨o,ho,hfit⟩,g3,g4,g5⟩:=xZ.split hal hp hii;have hdeps:∀e∈o.after.toList,Region.binds .any e=true->e.on∉xa:=by
    intro e he hb;have h2:=hi2.2;rw [ho] at h2;simp only [Option.map_some,Option.getD_some] at h2;rw [Array.all_eq_true_iff_forall_mem] at h2;have h3:=h2 e (by simpa using he);rw [hb] at h3;simp only [Bool.not_true,Bool.false_or] at h3;have hes:e.on<ops.size:=by have:=hlow i o ho e he hb;omega
    intro hmem;have h4:=(hlist _ hes).2 hmem;have hsz':e.on<listed.size:=by rw [hsz];exact hes
    simp [hsz'] at h3 h4;rw [h3] at h4;cases h4
   have hDi:∀j∈D i,j∉xa:=by
    intro j hj;obtain⟨e,he,hb,hej⟩:=hD i o ho j hj;have hen:=hdeps e he hb;rcases hej with rfl|hej
    ·exact hen
    ·exact hdc e.on (by have:=hlow i o ho e he hb;omega) hen j hej
   have hsw0:∀y∈pre,JS b y x=true:=by
    intro y hy;obtain⟨j,hj,hh⟩:=g5 y hy;rcases hh with hh|hh
    ·exact absurd (by rw [e1];simp [hj]) (hDi j hh)
    ·exact hh
   have hsw:∀y∈pre,Q6 y x=true:=fun y hy=>by
    have:=hsw0 y hy;unfold JS at this;rw [xt] at this;exact this.1
   have hqp:(∀H,¬QP H)\/∀y∈pre,y.op.isC=false:=by
    rcases hb with rfl|hb
    ·refine .inr fun y hy=>?_;have:=hsw0 y hy;unfold JS at this;rw [xt] at this;simpa using this.2
    ·exact .inl hb
   have hbl:∀y∈pre,Blind x y.dst:=fun y hy=>by
    have:=hsw y hy;unfold Q6 at this;rw [xt] at this;obtain⟨t1,_⟩:=YV this.1;exact Blind.mk' fun k hk=>⟨(t1 k hk).1,(t1 k hk).2.1⟩
   rw [e2] at h haid hrs hdd;have hfm:(pre++x::post).filterMap (·.aid)=(pre++[x]).filterMap (·.aid)++post.filterMap (·.aid):=by
    rw [show pre++x::post=(pre++[x])++post by simp,List.filterMap_append]
   have hnd1:((pre++[x]).filterMap (·.aid)).Nodup:=by rw [hfm] at haid;exact (List.nodup_append.1 haid).1
   have hval:jZ x F:=FP hlt0 g1 hbl hqp hR hF hFr (fun y hy k hk=>hrs y (by simp [hy]) k hk) (by
    rw [List.filterMap_append] at hnd1;exact (List.nodup_append.1 hnd1).1) h
   have hfree:∀k∈(pre++[x]).filterMap (·.aid),base+k<H.nx/\H.get (base+k)=none:=by
    intro k hk;obtain⟨s,hs,hk'⟩:=List.mem_filterMap.1 hk;have hs':s∈pre++x::post:=by
     rcases List.mem_append.1 hs with h|h
     ·simp [h]
     ·simp at h;subst h;simp
    obtain⟨r1,r2,r3⟩:=hrs s hs' k hk';refine⟨r2,?_⟩;cases hg:H.get (base+k) with
    |none=>rfl
    |some bk=>exact absurd (hR.dom _ _ hg) r1
   have h':=NX hsw hqp hst hval hfree hnd1 h;refine oW hlt0 ho hfit hR hF hFr (hrs x (by simp)) h' (fun μ' K' F' H' a' w' ctx' k1 k2 k3 k4 k5 k6 k7 k8 k9=>?_) fun μ' K' H' w' ch _ q1 q2 q3 q4 q5=>hP μ' K' F H' a w' ch q1 q2 q3 q4 q5 hag hd;have hidxlen:(pi++qi).length+1=xa.length:=by rw [e1];simp;omega
   have hndi:(pi++qi).Nodup/\i∉pi++qi:=by
    rw [e1] at hnd;have hperm:(pi++i::qi).Perm (i::(pi++qi)):=List.perm_middle;have:=(hperm.nodup_iff).1 hnd;exact⟨(List.nodup_cons.1 this).2,(List.nodup_cons.1 this).1⟩
   have hmem:∀j,j∈pi++qi↔j∈xa/\j≠i:=by
    intro j;rw [e1];constructor
    ·intro hj;refine⟨?_,fun e=>hndi.2 (e▸hj)⟩;rcases List.mem_append.1 hj with h|h
     ·simp [h]
     ·simp [h]
    ·rintro ⟨hj,hne⟩;rcases List.mem_append.1 hj with h|h
     ·simp [h]
     ·rcases List.mem_cons.1 h with h|h
      ·exact absurd h hne
      ·simp [h]
   have haid':((pre++post).filterMap (·.aid)).Nodup/\∀k,x.aid=some k->k∉(pre++post).filterMap (·.aid):=by
    have hperm:(pre++x::post).Perm (x::(pre++post)):=List.perm_middle;have h1:=((hperm.filterMap (·.aid)).nodup_iff).1 haid;simp only [List.filterMap_cons] at h1;cases hx:x.aid with
    |none=>rw [hx] at h1;exact⟨h1,by simp⟩
    |some k=>rw [hx] at h1;exact⟨(List.nodup_cons.1 h1).2,fun j hj=>by obtain rfl:=zsi hj;exact (List.nodup_cons.1 h1).1⟩
   refine ih (by simpa using hsz) (fun j hj=>?_) (fun j hj=>hin j ((hmem j).1 hj).1) hndi.1 (by omega) (fun j hj hjn k hk=>?_) g3 g4 haid'.1 (k8 hst) (fun s hs k hk=>?_) k1 k2 k3 (fun s hs d hsd=>hdd s (by rcases List.mem_append.1 hs with h|h<;>simp [h]) d hsd) (fun t ht=>?_) (k4.trans hd) k9
   ·rw [hmem];by_cases e:j=i
    ·subst e;have:(listed.setIfInBounds j true).getD j true=true:=by
      have:j<listed.size:=by rw [hsz];exact his
      simp [this]
     rw [this];simp
    ·have:(listed.setIfInBounds i true).getD j true=listed.getD j true:=by
      simp only [Array.getD_eq_getD_getElem?];rw [Array.getElem?_setIfInBounds_ne (fun h=>e h.symm)]
     rw [this,hlist j hj];simp [e]
   ·-- still closed downwards
    rw [hmem] at hjn;intro hkm;have hkm':=((hmem k).1 hkm).1;by_cases e:j=i
    ·subst e;exact hDi k hk hkm'
    ·have hji:j∉xa:=fun h=>hjn ⟨h,e⟩;exact hdc j hj hji k hk hkm'
   ·have hs':s∈pre++x::post:=by
     rcases List.mem_append.1 hs with h|h
     ·simp [h]
     ·simp [h]
    obtain⟨r1,r2,r3⟩:=hrs s hs' k hk;refine⟨fun hk'=>?_,by omega,r3⟩;rcases k6 _ r2 hk' with h|⟨j,hj,he⟩
    ·exact r1 h
    ·exact haid'.2 j hj (by
      have:j=k:=by omega
      rw [this];exact List.mem_filterMap.2 ⟨s,hs,hk⟩)
   ·obtain⟨v,rfl⟩:=k7;rw [<-hag t ht];cases hsd:x.dst with
    |none=>rfl
    |some d=>exact T.get_set_ne _ _ fun e=>by subst e;exact ht (hdd x (by simp) _ hsd)
end
end Go.Ab
