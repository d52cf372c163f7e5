/- -/
import Derived.Test.YtdlelodnhjacgaaGreatDoorAb6
set_option linter.unusedSimpArgs false
set_option linter.unusedVariables false
set_option maxRecDepth 8000
namespace Go.Ab
section
variable{P:Program}{G base:Nat}{QP:Hp->Prop}{Q:T V->Hp->Prop}
inductive Cal where
 |fu (f:FuncId)
 |yl (b:Nat)
 |nx (b:Nat)
def Cal.k(K:Nat->Prop):Cal->Prop
 |.fu _=>True
 |.yl b=>K b
 |.nx b=>K b
def Cal.run(P:Program)(μ:Nat->Pl)(xs:Array Value)(w:World)(R:Ending->World->Prop):Cal->Prop
 |.fu f=>Calls P f xs w R
 |.yl b=>YieldAt Fence.wide 0 P (μ b).blk xs w R
 |.nx b=>∀ty:TypeId,∃y w',(Instr.next (.pointer (some ((μ b).addr 0))) false ty).run P w=.ok y w'/\R (.returned y) w'
theorem Cal.run_mono{c:Cal}{μ:Nat->Pl}{xs:Array Value}{w:World}{R R':Ending->World->Prop}(h:c.run P μ xs w R)(hr:∀e w',R e w'->R' e w'):c.run P μ xs w R':=by
 cases c with
 |fu f=>exact Calls.mono h hr
 |yl b=>obtain⟨fn,tmps,sg,bd,h1,h2⟩:=h;exact⟨fn,tmps,sg,bd,h1,h2.mono hr⟩
 |nx b=>
  intro ty;obtain⟨y,w',h1,h2⟩:=h ty;exact⟨y,w',h1,hr _ _ h2⟩
def Cal.sp(S:Hp->Prop):Cal->Hp->Prop
 |.fu _=>S
 |_=>fun _=>False
def YC(P:Program)(G:Nat)(c:Cal)(args:List V)(H:Hp)(R:V->Hp->Prop)(S:Hp->Prop):Prop:=
 ∀(μ:Nat->Pl) (K:Nat->Prop) (w:World) (xs:List Value),Rel G μ K H w->qe (RV μ K) args xs->c.k K->
  c.run P μ xs.toArray w (JI G μ K H w R (c.sp S))
theorem JI.no{G:Nat}{μ:Nat->Pl}{K:Nat->Prop}{H:Hp}{w:World}{R:V->Hp->Prop}{e:Ending}{w':World}(h:JI G μ K H w R (fun _=>False) e w'):∃x,e=.returned x/\∃v H' μ' K',R v H'/\RV μ' K' v x/\Rel G μ' K' H' w'/\Fr μ K H w μ' K' H' w':=
 h.elim id fun⟨_,_,_,_,_,_,hf,_⟩=>hf.elim
theorem JI.mono{G:Nat}{μ:Nat->Pl}{K:Nat->Prop}{H:Hp}{w:World}{R R':V->Hp->Prop}{S S':Hp->Prop}{e:Ending}{w':World}(h:JI G μ K H w R S e w')(hr:∀v H',R v H'->R' v H')(hs:∀H',S H'->S' H'):JI G μ K H w R' S' e w':=
 h.imp (fun⟨x,h1,v,H',μ',K',h2,h3⟩=>⟨x,h1,v,H',μ',K',hr _ _ h2,h3⟩) fun⟨ch,h1,h2,H',μ',K',h3,h4⟩=>⟨ch,h1,h2,H',μ',K',hs _ h3,h4⟩
theorem Jo{f:FuncId}{args:List V}{H:Hp}{R:V->Hp->Prop}{S:Hp->Prop}:YC P G (.fu f) args H R S↔jm P G f args H R S:=
 ⟨fun h μ K w xs hR ha=>h μ K w xs hR ha trivial,fun h μ K w xs hR ha _=>h μ K w xs hR ha⟩
theorem Dy{f:FuncId}{args:List V}{H:Hp}{R:V->Hp->Prop}:YC P G (.fu f) args H R (fun _=>False)↔xc P G f args H R:=
 ⟨fun h=>(Jo.1 h).of,fun h=>Jo.2 h.toP⟩
theorem sF{b:Nat}{args:List V}{H:Hp}{R:V->Hp->Prop}{S:Hp->Prop}:YC P G (.yl b) args H R S↔vO P G b args H R:=
 ⟨fun h μ K w xs hR hK ha=>Cal.run_mono (c:=.yl b) (h μ K w xs hR ha hK) fun _ _ he=>JI.no he,fun h μ K w xs hR ha hK=>Cal.run_mono (c:=.yl b) (h μ K w xs hR hK ha) fun _ _ he=>.inl he⟩
theorem sG{b:Nat}{H:Hp}{R:V->Hp->Prop}{S:Hp->Prop}:YC P G (.nx b) [] H R S↔Ks P G b H R:=by
 constructor
 ·intro h μ K w hR hK ty;obtain⟨y,w',h1,hh⟩:=h μ K w [] hR trivial hK ty;obtain⟨x,he,h2⟩:=JI.no hh;injection he with he
  subst he;exact⟨_,w',h1,h2⟩
 ·intro h μ K w xs hR _ hK ty;obtain⟨y,w',h1,h2⟩:=h μ K w hR hK ty;exact⟨y,w',h1,.inl ⟨y,O,h2⟩⟩
theorem YC.mono{f:Cal}{args:List V}{H:Hp}{R R':V->Hp->Prop}{S:Hp->Prop}(h:YC P G f args H R S)(hr:∀v H',R v H'->R' v H'):YC P G f args H R' S:=
 fun μ K w xs hR ha hK=>Cal.run_mono (h μ K w xs hR ha hK) fun _ _ he=>he.mono hr fun _ h=>h
theorem YC.keeps{f:Cal}{args:List V}{H:Hp}{R:V->Hp->Prop}{S:Hp->Prop}(h:YC P G f args H R S):YC P G f args H (fun v H'=>R v H'/\H.nx<=H'.nx/\∀b,b<H.nx->H.get b=none->H'.get b=none) S:=
 fun μ K w xs hR ha hK=>Cal.run_mono (h μ K w xs hR ha hK) fun _ _ he=>he.imp (fun⟨x,he,v,H',μ',K',h1,h2,h3,h4⟩=>⟨x,he,v,H',μ',K',⟨h1,h4.nx,h4.none⟩,h2,h3,h4⟩) id
theorem YC.frame{f:Cal}{args:List V}{H:Hp}{R:V->Hp->Prop}{S:Hp->Prop}(h:YC P G f args H R S)(hS:∀H,¬f.sp S H){x:Nat}{bk:B}(hx:x<H.nx)(hn:H.get x=none)(hm:bk.mut=true):
 YC P G f args (H.add x bk) (fun v H''=>∃H',R v H'/\H''=H'.add x bk) S:=by
 intro μ K w xs hR ha hKK;have hget:∀(H:Hp) i,(H.add x bk).get i=if i=x then some bk else H.get i:=fun H i=>Hp.get_add H x i bk
 have hkx:K x:=hR.dom x bk (by simp);have hne:∀i k,H.get i=some k->i≠x:=fun i k hi e=>by subst e;rw [hn] at hi;cases hi
 have hR1:Rel G μ K H w:=⟨fun b k hb=>hR.dom b k (by rw [hget,if_neg (hne b k hb)];exact hb),hR.lt,fun b k hb=>hR.blk b k (by rw [hget,if_neg (hne b k hb)];exact hb),
  fun b b' k k' hb hb'=>hR.inj b b' k k' (by rw [hget,if_neg (hne b k hb)];exact hb) (by rw [hget,if_neg (hne b' k' hb')];exact hb'),hR.glob⟩
 have hxx:(H.add x bk).get x=some bk:=by simp
 have hblk:=hR.blk x bk hxx;have hbl:=hR.blk_lt hxx;have hfar:∀b k,H.get b=some k->(μ b).blk≠(μ x).blk:=fun b k hb he=>hne b k hb (hR.inj x b bk k hxx (by rw [hget,if_neg (hne b k hb)];exact hb) hm he.symm).symm;refine Cal.run_mono (h μ K w xs hR1 ha hKK) ?_;rintro e w' (⟨y,rfl,v,H',μ',K',h1,h2,h3,h4⟩|⟨_,_,_,H',_,_,hs,_⟩)
 rotate_left
 ·exact absurd hs (hS _)
 have hn':H'.get x=none:=h4.none x hx hn;have hne':∀i k,H'.get i=some k->i≠x:=fun i k hi e=>by subst e;rw [hn'] at hi;cases hi
 have hmux:μ' x=μ x:=h4.mu x hkx;have hkeep:w'.heap[(μ x).blk]?=w.heap[(μ x).blk]?:=h4.keep _ hbl fun b k hb _=>hfar b k hb;have hfar':∀b k,H'.get b=some k->(μ' b).blk≠(μ x).blk:=by
  intro b k hb he;by_cases hlt:b<H.nx
  ·cases hg:H.get b with
   |none=>rw [h4.none b hlt hg] at hb;cases hb
   |some k0=>
    rw [h4.mu b (hR1.dom b k0 hg)] at he;exact hfar b k0 hg he
  ·rcases h4.newmut b k (by omega) hb with hm1|⟨_,hge⟩
   ·rcases h4.img b k hb hm1 with⟨b0,k0,g0,_,e0⟩|hge
    ·exact hfar b0 k0 g0 (e0.trans he)
    ·omega
   ·omega
 refine .inl ⟨y,O,v,H'.add x bk,μ',K',⟨H',h1,O⟩,h2,⟨fun b k hb=>?_,h3.lt,fun b k hb=>?_,fun b b' k k' hb hb' hm' he=>?_,h3.glob⟩,?_⟩
 ·rw [hget] at hb;split at hb
  ·rename_i e;subst e;exact h4.kk _ hkx
  ·exact h3.dom b k hb
 ·rw [hget] at hb;split at hb
  ·rename_i e;subst e;obtain rfl:=zsi hb;rw [hmux,hkeep];exact hblk.mono h4.kk h4.mu
  ·exact h3.blk b k hb
 ·rw [hget] at hb hb';by_cases e1:b=x
  ·by_cases e2:b'=x
   ·rw [e1,e2]
   ·rw [if_neg e2] at hb';rw [e1,hmux] at he;exact absurd he.symm (hfar' b' k' hb')
  ·by_cases e2:b'=x
   ·rw [if_neg e1] at hb;rw [e2,hmux] at he;exact absurd he (hfar' b k hb)
   ·rw [if_neg e1] at hb;rw [if_neg e2] at hb';exact h3.inj b b' k k' hb hb' hm' he
 ·refine⟨h4.same,h4.size,fun i hi hn=>h4.keep i hi fun b k hb hm=>hn b k (by rw [hget,if_neg (hne b k hb)];exact hb) hm,fun b k hb hm'=>?_,fun b k hb hk=>?_,h4.mu,h4.kk,h4.knew,h4.nx,fun b hb hn=>?_,fun b k k' hb hb'=>?_,fun b k hb hm'=>?_⟩
  ·rw [hget] at hb;split at hb
   ·rename_i e;subst e;exact .inl ⟨b,bk,by simp,hm,by rw [hmux]⟩
   ·rcases h4.img b k hb hm' with⟨b0,k0,g0,m0,e0⟩|hge
    ·exact .inl ⟨b0,k0,by rw [hget,if_neg (hne b0 k0 g0)];exact g0,m0,e0⟩
    ·exact .inr hge
  ·rw [hget] at hk;simp at hb;rw [if_neg (by omega)] at hk;exact h4.newmut b k hb hk
  ·rw [hget] at hn ⊢;split at hn
   ·cases hn
   ·rename_i e;rw [if_neg e];exact h4.none b hb hn
  ·rw [hget] at hb hb';split at hb
   ·rename_i e;rw [if_pos e] at hb';rw [zsi hb] at hb';rw [zsi hb']
   ·rename_i e;rw [if_neg e] at hb';exact h4.stay b k k' hb hb'
  ·rw [hget] at hb ⊢;split at hb
   ·rename_i e;rw [if_pos e];exact hb
   ·rename_i e;rw [if_neg e];exact h4.ro b k hb hm'
theorem xc.mono{f:FuncId}{args:List V}{H:Hp}{R R':V->Hp->Prop}(h:xc P G f args H R)(hr:∀v H',R v H'->R' v H'):xc P G f args H R':=Dy.1 ((Dy.2 h).mono hr)
theorem vO.mono{b:Nat}{args:List V}{H:Hp}{R R':V->Hp->Prop}(h:vO P G b args H R)(hr:∀v H',R v H'->R' v H'):vO P G b args H R':=(sF (S:=fun _=>False)).1 ((sF.2 h).mono hr)
theorem Ks.mono{b:Nat}{H:Hp}{R R':V->Hp->Prop}(h:Ks P G b H R)(hr:∀v H',R v H'->R' v H'):Ks P G b H R':=(sG (S:=fun _=>False)).1 ((sG.2 h).mono hr)
theorem j7{ws:List Nat}{ctx ctx':z7}{H:Hp}(hs:∀x,x∈ctx'->x∈ctx)(h:yi ws ctx H):yi ws ctx' H:=by
 cases ws with
 |nil=>trivial
 |cons k r=>exact fun j hj p hp=>h j hj p (hs _ hp)
theorem yq:∀{l:List SOper} {ctx ctx':z7} {F:T V} {H:Hp},(∀x,x∈ctx'->x∈ctx)->qC P G base QP Q l ctx F H->qC P G base QP Q l ctx' F H
 |[],_,_,_,_,_,h=>h
 |o::r,ctx,ctx',F,H,hs,h=>by
  rw [qC] at h ⊢;split at h
  ·rename_i hw;rw [if_pos hw];cases hop:o.op with
   |p op=>
    simp only [hop] at h ⊢;cases hv:qp F op with
    |none=>simp [hv] at h
    |some v=>simp only [hv] at h ⊢;exact yq hs h
   |l op=>
    simp only [hop] at h ⊢;cases hv:qL F H op with
    |none=>simp [hv] at h
    |some v=>
     simp only [hv] at h ⊢;refine yq (fun x hx=>?_) h;cases hk:o.keep with
     |false=>simp only [hk,yz,if_false] at hx ⊢;exact hs x hx
     |true=>
      simp only [hk,if_true,zd] at hx ⊢;exact hx.imp id (hs x)
   |a op=>
    simp only [hop] at h ⊢;cases hv:xK F op with
    |none=>simp [hv] at h
    |some v=>
     simp only [hv] at h ⊢;cases hai:o.aid with
     |none=>simp only [hai] at h ⊢;exact yq hs h
     |some k=>simp only [hai] at h ⊢;exact yq hs h
   |e op=>
    simp only [hop] at h ⊢;cases hv:xe F H op with
    |none=>simp [hv] at h
    |some v=>simp only [hv] at h ⊢;exact⟨j7 hs h.1,yq hs h.2⟩
   |cf f args=>
    simp only [hop] at h ⊢;exact h.mono (fun v H' hh=>⟨j7 hs hh.1,yq hs hh.2⟩) fun _ h=>h
   |cv x args=>
    simp only [hop] at h ⊢;split at h
    ·exact⟨h.1,h.2.mono (fun v H' hh=>⟨j7 hs hh.1,yq hs hh.2⟩) fun _ h=>h⟩
    ·exact⟨h.1,h.2.mono (fun v H' hh=>⟨j7 hs hh.1,yq hs hh.2⟩) fun _ h=>h⟩
    ·exact vO.mono h fun v H' hh=>⟨j7 hs hh.1,yq hs hh.2⟩
    ·exact h.elim
   |nx x=>
    simp only [hop] at h ⊢;split at h
    ·exact Ks.mono h fun v H' hh=>⟨j7 hs hh.1,yq hs hh.2⟩
    ·exact h.elim
   |no=>simp only [hop] at h
  ·rename_i hw;rw [if_neg hw];exact yq hs h
end
section
variable{P:Program}{G base:Nat}{QP:Hp->Prop}{Q:T V->Hp->Prop}
def wQ(P:Program)(o:SOp)(F:T V):Option (Cal × List V):=
 match o with
 |.cf f args=>some (.fu f,args.map (·.ev F))
 |.cv x args=>match x.ev F with
  |.one (.fn f caps)=>if wL P f then some (.fu f,args.map (·.ev F)++caps.map WO) else none
  |.one (.bm f b o)=>if wL P f then some (.fu f,.one (.ptr b o)::args.map (·.ev F)) else none
  |.one (.yld b)=>some (.yl b,args.map (·.ev F))
  |_=>none
 |.nx x=>match x.ev F with
  |.one (.ptr b 0)=>some (.nx b,[])
  |_=>none
 |_=>none
def kn(o:SOper)(F:T V)(v:V):Prop:=(qH o.guard F=false/\v=V.undef)\/(qH o.guard F=true/\∃op,o.op=.p op/\qp F op=some v)
def vr(o:SOper)(op:LoadOp)(F:T V)(v:V)(ctx:z7):z7:=if o.keep then (o.id,fun H'=>qL F H' op=some v)::ctx else ctx
def yH(base:Nat)(o:SOper)(H:Hp):Nat:=match o.aid with
 |none=>H.nx
 |some k=>base+k
def zB(base:Nat)(o:SOper)(H:Hp)(bk:B):Hp:=match o.aid with
 |none=>H.push bk
 |some k=>H.add (base+k) bk
theorem Xj{o:SOper}{r:List SOper}{ctx:z7}{F:T V}{H:Hp}(h:qC P G base QP Q (o::r) ctx F H):
 (∃v,kn o F v/\qC P G base QP Q r ctx (xg F o.dst v) H)\/
 (qH o.guard F=true/\∃op v,o.op=.l op/\qL F H op=some v/\qC P G base QP Q r (vr o op F v ctx) (xg F o.dst v) H)\/
 (qH o.guard F=true/\∃op bk g,o.op=.a op/\xK F op=some (bk,g)/\qC P G base QP Q r ctx (xg F o.dst (g (yH base o H))) (zB base o H bk))\/
 (qH o.guard F=true/\∃op v H',o.op=.e op/\xe F H op=some (v,H')/\yi o.watch ctx H'/\qC P G base QP Q r ctx (xg F o.dst v) H')\/
 (qH o.guard F=true/\o.op.kd=.c/\∃f args,wQ P o.op F=some (f,args)/\YC P G f args H (fun v H'=>yi o.watch ctx H'/\qC P G base QP Q r ctx (xg F o.dst v) H') QP):=by
 rw [qC] at h;split at h
 ·rename_i hw;cases hop:o.op with
  |p op=>
   simp only [hop] at h;cases hv:qp F op with
   |none=>simp [hv] at h
   |some v=>simp only [hv] at h;exact .inl ⟨v,.inr ⟨hw,op,hop,hv⟩,h⟩
  |l op=>
   simp only [hop] at h;cases hv:qL F H op with
   |none=>simp [hv] at h
   |some v=>simp only [hv] at h;exact .inr (.inl ⟨hw,op,v,O,hv,h⟩)
  |a op=>
   simp only [hop] at h;cases hv:xK F op with
   |none=>simp [hv] at h
   |some bg=>
    simp only [hv] at h;refine .inr (.inr (.inl ⟨hw,op,bg.1,bg.2,O,hv,?_⟩));unfold yH zB;cases hai:o.aid<;>simp only [hai] at h ⊢<;>exact h
  |e op=>
   simp only [hop] at h;cases hv:xe F H op with
   |none=>simp [hv] at h
   |some v=>simp only [hv] at h;exact .inr (.inr (.inr (.inl ⟨hw,op,v.1,v.2,O,hv,h.1,h.2⟩)))
  |cf f args=>
   simp only [hop] at h;exact .inr (.inr (.inr (.inr ⟨hw,O,.fu f,_,O,Jo.2 h⟩)))
  |cv x args=>
   simp only [hop] at h;split at h
   ·rename_i f caps hx;exact .inr (.inr (.inr (.inr ⟨hw,O,.fu f,_,by simp [wQ,hx,h.1],Jo.2 h.2⟩)))
   ·rename_i f b o hx;exact .inr (.inr (.inr (.inr ⟨hw,O,.fu f,_,by simp [wQ,hx,h.1],Jo.2 h.2⟩)))
   ·rename_i b hx;exact .inr (.inr (.inr (.inr ⟨hw,O,.yl b,_,by simp [wQ,hx],sF.2 h⟩)))
   ·exact h.elim
  |nx x=>
   simp only [hop] at h;split at h
   ·rename_i b hx;exact .inr (.inr (.inr (.inr ⟨hw,O,.nx b,_,by simp [wQ,hx],sG.2 h⟩)))
   ·exact h.elim
  |no=>simp only [hop] at h
 ·rename_i hw;exact .inl ⟨V.undef,.inl ⟨by simpa using hw,rfl⟩,h⟩
theorem yo{o:SOper}{r:List SOper}{ctx:z7}{F:T V}{H:Hp}{v:V}(hp:kn o F v)(h:qC P G base QP Q r ctx (xg F o.dst v) H):qC P G base QP Q (o::r) ctx F H:=by
 rw [qC];rcases hp with⟨hw,rfl⟩|⟨hw,op,hop,hv⟩
 ·simpa [hw] using h
 ·simpa [hw,hop,hv] using h
theorem Qh{o:SOper}{r:List SOper}{ctx:z7}{F:T V}{H:Hp}{v:V}{op:LoadOp}(hw:qH o.guard F=true)(hop:o.op=.l op)(hv:qL F H op=some v)(h:qC P G base QP Q r (vr o op F v ctx) (xg F o.dst v) H):
 qC P G base QP Q (o::r) ctx F H:=by
 rw [qC];simp only [hw,if_true,hop,hv];exact h
theorem yZ {o:SOper} {r:List SOper} {ctx:z7} {F:T V} {H:Hp} {bk:B} {g:Nat->V} {op:AllocOp} (hw:qH o.guard F=true) (hop:o.op=.a op) (hv:xK F op=some (bk,g))
 (h:qC P G base QP Q r ctx (xg F o.dst (g (yH base o H))) (zB base o H bk)):qC P G base QP Q (o::r) ctx F H:=by
 rw [qC];simp only [hw,if_true,hop,hv];unfold yH zB at h;cases hai:o.aid<;>simp only [hai] at h ⊢<;>exact h
theorem Xk{o:SOper}{r:List SOper}{ctx:z7}{F:T V}{H H':Hp}{v:V}{op:EffOp}(hw:qH o.guard F=true)(hop:o.op=.e op)(hv:xe F H op=some (v,H'))(hwa:yi o.watch ctx H')(h:qC P G base QP Q r ctx (xg F o.dst v) H'):
 qC P G base QP Q (o::r) ctx F H:=by
 rw [qC];simp only [hw,if_true,hop,hv];exact⟨hwa,h⟩
theorem Qi {o:SOper} {r:List SOper} {ctx:z7} {F:T V} {H:Hp} {f:Cal} {args:List V} (hw:qH o.guard F=true) (hc:wQ P o.op F=some (f,args))
 (h:YC P G f args H (fun v H'=>yi o.watch ctx H'/\qC P G base QP Q r ctx (xg F o.dst v) H') QP):qC P G base QP Q (o::r) ctx F H:=by
 rw [qC];simp only [hw,if_true];cases hop:o.op<;>simp only [hop,wQ] at hc<;>try (cases hc;done)
 ·obtain⟨rfl,rfl⟩:_/\_:=by simpa using hc
  exact Jo.1 h
 ·simp only;split at hc
  ·rename_i f' caps hx;split at hc
   ·rename_i hf;obtain⟨rfl,rfl⟩:_/\_:=by simpa using hc
    try simp only [hx]
    exact⟨hf,Jo.1 h⟩
   ·cases hc
  ·rename_i f' b o hx;split at hc
   ·rename_i hf;obtain⟨rfl,rfl⟩:_/\_:=by simpa using hc
    try simp only [hx]
    exact⟨hf,Jo.1 h⟩
   ·cases hc
  ·rename_i b hx;obtain⟨rfl,rfl⟩:_/\_:=by simpa using hc
   try simp only [hx]
   exact sF.1 h
  ·cases hc
 ·simp only;split at hc
  ·rename_i b hx;obtain⟨rfl,rfl⟩:_/\_:=by simpa using hc
   try simp only [hx]
   exact sG.1 h
  ·cases hc
def YB(base:Nat)(ks:List Nat)(H:Hp):Prop:=∀k∈ks,base+k<H.nx/\H.get (base+k)=none
theorem wD:∀{l:List C} {H H':Hp} {b o:Nat},H.stores b o l=some H'->H'.nx=H.nx/\∀i,H.get i=none->H'.get i=none
 |[],H,H',b,o,h=>by simp [Hp.stores] at h;subst h;exact⟨O,fun _ h=>h⟩
 |c::l,H,H',b,o,h=>by
  simp only [Hp.stores] at h;cases hs:H.store b o c with
  |none=>simp [hs] at h
  |some H1=>
   simp only [hs] at h;obtain⟨h1,h2⟩:=wD h;unfold Hp.store at hs;split at hs
   ·rename_i n z m hb;split at hs
    ·obtain rfl:=zsi hs;refine⟨h1,fun i hi=>h2 i ?_⟩;rw [Hp.get_add];split
     ·rename_i e;subst e;rw [hb] at hi;cases hi
     ·exact hi
    ·cases hs
   ·rename_i t l' hb;split at hs
    ·obtain rfl:=zsi hs;refine⟨h1,fun i hi=>h2 i ?_⟩;rw [Hp.get_add];split
     ·rename_i e;subst e;rw [hb] at hi;cases hi
     ·exact hi
    ·cases hs
   ·cases hs
theorem Yy{H H':Hp}{esz bytes m:Nat}{s v:V}{news:List C}(h:yx H esz bytes s m news=some (v,H')):H.nx<=H'.nx/\∀b,b<H.nx->H.get b=none->H'.get b=none:=by
 unfold yx at h;split at h
 ·split at h
  ·simp only [zoi,zpi] at h;obtain⟨_,rfl⟩:=h;exact⟨qz _,fun _ _ h=>h⟩
  ·split at h
   ·simp only [zoi,zpi] at h;obtain⟨_,rfl⟩:=h;exact⟨by simp,fun b hb hn=>by rw [Hp.get_push,if_neg (by omega)];exact hn⟩
   ·cases h
 ·split at h
  ·cases h
  ·split at h
   ·simp only [zom,zpi] at h;obtain⟨H1,hs,_,rfl⟩:=h;have:=wD hs;exact⟨by omega,fun b _ hb=>this.2 b hb⟩
   ·split at h
    ·split at h
     ·cases h
     ·split at h
      ·simp only [zoi,zpi] at h;obtain⟨_,rfl⟩:=h;exact⟨by simp,fun b hb hn=>by rw [Hp.get_push,if_neg (by omega)];exact hn⟩
      ·split at h
       ·simp only [zoi,zpi] at h;obtain⟨_,rfl⟩:=h;refine⟨by simp,fun b hb hn=>?_⟩;rw [Hp.get_del];split
        ·rfl
        ·rw [Hp.get_push,if_neg (by omega)];exact hn
       ·cases h
    ·cases h
 ·cases h
theorem pU{H:Hp}{a b:Nat}{x y:B}(h:a≠b):(H.add a x).add b y=(H.add b y).add a x:=by
 unfold Hp.add;rw [T.set_comm _ _ _ h]
theorem eB{H:Hp}{n:Nat}{x y:B}(h:n<H.nx):(H.add n x).push y=(H.push y).add n x:=by
 unfold Hp.add Hp.push;rw [T.set_comm _ _ _ (show n≠H.nx by omega)]
theorem In{H:Hp}{n b:Nat}{x:B}(h:n≠b):(H.add n x).del b=(H.del b).add n x:=by
 unfold Hp.add Hp.del;rw [T.set_comm _ _ _ h]
theorem eW{n:Nat}{bk:B}:∀{l:List C} {H H':Hp} {b o:Nat},H.get n=none->H.stores b o l=some H'->(H.add n bk).stores b o l=some (H'.add n bk)
 |[],H,H',b,o,_,h=>by simp [Hp.stores] at h;subst h;rfl
 |c::l,H,H',b,o,hn,h=>by
  simp only [Hp.stores] at h ⊢;cases hs:H.store b o c with
  |none=>simp [hs] at h
  |some H1=>
   simp only [hs] at h;have one:(H.add n bk).store b o c=some (H1.add n bk)/\H1.get n=none:=by
    have hbn:∀x,H.get b=some x->b≠n:=fun x hx e=>by subst e;rw [hn] at hx;cases hx
    unfold Hp.store at hs ⊢;split at hs
    ·rename_i m z t hb;have hne:=hbn _ hb;split at hs
     ·rename_i hi;obtain rfl:=zsi hs;rw [Hp.get_add_ne _ _ hne,hb];simp only [hi,if_true];exact⟨by rw [pU hne],by rw [Hp.get_add_ne _ _ hne.symm];exact hn⟩
     ·cases hs
    ·rename_i t l' hb;have hne:=hbn _ hb;split at hs
     ·rename_i hi;obtain rfl:=zsi hs;rw [Hp.get_add_ne _ _ hne,hb];simp only [hi,if_true];exact⟨by rw [pU hne],by rw [Hp.get_add_ne _ _ hne.symm];exact hn⟩
     ·cases hs
    ·cases hs
   rw [one.1];exact eW one.2 h
theorem Er{H:Hp}{n esz:Nat}{bk:B}{v:V}{r:Nat × List C}(hn:H.get n=none)(h:zU H esz v=some r):zU (H.add n bk) esz v=some r:=by
 unfold zU at h ⊢;split at h
 ·exact h
 ·split at h
  ·rename_i he;rw [if_pos he];simp only [zom] at h ⊢;obtain⟨l,hl,rfl⟩:=h;exact⟨l,X8 hn hl,O⟩
  ·cases h
 ·exact h
 ·cases h
theorem LF{F:T V}{H H':Hp}{esz bytes n:Nat}{s x:Opd}{v:V}{bk:B}(hlt:n<H.nx)(hn:H.get n=none)(h:xe F H (.append esz bytes s x)=some (v,H')):xe F (H.add n bk) (.append esz bytes s x)=some (v,H'.add n bk)/\H'.get n=none:=by
 simp only [xe] at h ⊢;split at h
 ·rename_i m news hsrc;rw [Er hn hsrc];refine⟨?_,(Yy h).2 n hlt hn⟩;simp only;unfold yx at h ⊢;split at h
  ·split at h
   ·rename_i h0;simp only [zoi,zpi] at h;obtain⟨rfl,rfl⟩:=h;rw [if_pos h0]
   ·rename_i h0;rw [if_neg h0];split at h
    ·rename_i h1;simp only [zoi,zpi] at h;obtain⟨rfl,rfl⟩:=h;rw [if_pos h1,eB hlt];rfl
    ·cases h
  ·rename_i b o len cap e ex _;split at h
   ·cases h
   ·rename_i h0;rw [if_neg h0];split at h
    ·rename_i h1;rw [if_pos h1];simp only [zom,zpi] at h ⊢;obtain⟨H1,hs,rfl,rfl⟩:=h;exact⟨_,eW hn hs,O,O⟩
    ·rename_i h1;rw [if_neg h1];split at h
     ·rename_i h2;rw [if_pos h2];split at h
      ·cases h
      ·rename_i olds hl;rw [X8 hn hl];simp only;split at h
       ·rename_i h3;simp only [zoi,zpi] at h;obtain⟨rfl,rfl⟩:=h;rw [if_pos h3,eB hlt];rfl
       ·rename_i h3;rw [if_neg h3];split at h
        ·rename_i h4;simp only [zoi,zpi] at h;obtain⟨rfl,rfl⟩:=h;have hbn:b≠n:=fun e=>by subst e;simp [Hp.mutRow,hn] at h4
         have h5:(H.add n bk).mutRow b=true:=by
          unfold Hp.mutRow at h4 ⊢;rw [Hp.get_add_ne _ _ hbn];exact h4
         rw [if_pos h5,eB hlt,In hbn.symm];rfl
        ·cases h
     ·cases h
  ·cases h
 ·cases h
theorem rQ{H H':Hp}{t:TypeId}{m:Nat}{s v:V}{news:List C}(h:vh t H s m news=some (v,H')):H.nx<=H'.nx/\∀b,b<H.nx->H.get b=none->H'.get b=none:=by
 unfold vh at h;split at h
 ·split at h
  ·simp only [zoi,zpi] at h;obtain⟨_,rfl⟩:=h;exact⟨qz _,fun _ _ h=>h⟩
  ·split at h
   ·simp only [zoi,zpi] at h;obtain⟨_,rfl⟩:=h;exact⟨by simp,fun b hb hn=>by rw [Hp.get_push,if_neg (by omega)];exact hn⟩
   ·cases h
 ·split at h
  ·cases h
  ·split at h
   ·simp only [zom,zpi] at h;obtain⟨H1,hs,_,rfl⟩:=h;have:=wD hs;exact⟨by omega,fun b _ hb=>this.2 b hb⟩
   ·split at h
    ·split at h
     ·cases h
     ·split at h
      ·simp only [zoi,zpi] at h;obtain⟨_,rfl⟩:=h;exact⟨by simp,fun b hb hn=>by rw [Hp.get_push,if_neg (by omega)];exact hn⟩
      ·split at h
       ·split at h
        ·simp only [zoi,zpi] at h;obtain⟨_,rfl⟩:=h;refine⟨by simp,fun b hb hn=>?_⟩;rw [Hp.get_del];split
         ·rfl
         ·rw [Hp.get_push,if_neg (by omega)];exact hn
        ·cases h
       ·cases h
    ·cases h
 ·cases h
theorem O2{F:T V}{H H':Hp}{op:EffOp}{v:V}(h:xe F H op=some (v,H')):H.nx<=H'.nx/\∀b,b<H.nx->H.get b=none->H'.get b=none:=by
 cases op with
 |store n a x=>
  simp only [xe] at h;split at h
  ·split at h
   ·simp only [zom,zpi] at h;obtain⟨H1,hs,_,rfl⟩:=h;have:=wD hs;exact⟨by omega,fun b _ hb=>this.2 b hb⟩
   ·cases h
  ·cases h
 |append esz bytes s x=>
  simp only [xe] at h;split at h
  ·exact Yy h
  ·cases h
 |appendb t s x=>
  simp only [xe] at h;split at h
  ·exact rQ h
  ·cases h
 |mnz t x=>
  simp only [xe] at h;split at h
  ·split at h
   ·simp only [zoi,zpi] at h;obtain⟨_,rfl⟩:=h;exact⟨by simp,fun b hb hn=>by rw [Hp.get_push,if_neg (by omega)];exact hn⟩
   ·cases h
  ·cases h
 |ustr t p n=>
  simp only [xe] at h;split at h
  ·simp only [zoi,zpi] at h;obtain⟨_,rfl⟩:=h;exact⟨qz _,fun _ _ h=>h⟩
  ·split at h
   ·split at h
    ·split at h
     ·split at h
      ·simp only [zoi,zpi] at h;obtain⟨_,rfl⟩:=h;refine⟨qz _,fun b _ hn=>?_⟩;rw [Hp.get_del];split
       ·rfl
       ·exact hn
      ·cases h
     ·cases h
    ·cases h
   ·cases h
  ·cases h
 |smapupd m k x=>
  simp only [xe] at h;split at h
  ·split at h
   ·rename_i b _ _ _ es hb;split at h
    ·split at h
     ·simp only [zoi,zpi] at h;obtain⟨_,rfl⟩:=h;refine⟨qz _,fun i _ hi=>?_⟩;rw [Hp.get_add];split
      ·rename_i e;subst e;rw [hb] at hi;cases hi
      ·exact hi
     ·cases h
    ·cases h
   ·cases h
  ·cases h
 |appendz esz bytes z s x=>
  simp only [xe] at h;split at h
  ·split at h
   ·exact Yy h
   ·cases h
  ·cases h
 |sbytes x=>
  simp only [xe] at h;split at h
  ·simp only [zoi,zpi] at h;obtain⟨_,rfl⟩:=h;exact⟨by simp,fun b hb hn=>by rw [Hp.get_push,if_neg (by omega)];exact hn⟩
  ·cases h
 |copy esz d s=>
  simp only [xe] at h;split at h
  ·simp only [zoi,zpi] at h;obtain⟨_,rfl⟩:=h;exact⟨qz _,fun _ _ h=>h⟩
  ·split at h
   ·simp only [zom,zpi] at h;obtain⟨H1,hs,_,rfl⟩:=h;have:=wD hs;exact⟨by omega,fun b _ hb=>this.2 b hb⟩
   ·cases h
  ·cases h
 |stlook z ok m k=>
  have hH:H'=H:=by
   simp only [xe] at h;split at h
   ·split at h
    ·split at h
     ·simp only [zoi,zpi] at h;exact h.2.symm
     ·split at h
      ·simp only [zoi,zpi] at h;exact h.2.symm
      ·cases h
     ·cases h
    ·cases h
   ·cases h
  subst hH;exact⟨qz _,fun _ _ h=>h⟩
 |stlen m=>
  have hH:H'=H:=by
   simp only [xe] at h;split at h
   ·split at h
    ·simp only [zoi,zpi] at h;exact h.2.symm
    ·cases h
   ·cases h
  subst hH;exact⟨qz _,fun _ _ h=>h⟩
 |stdel m k=>
  simp only [xe] at h;split at h
  ·split at h
   ·rename_i b _ _ _ es clk hb;split at h
    ·simp only [zoi,zpi] at h;obtain⟨_,rfl⟩:=h;refine⟨qz _,fun i _ hi=>?_⟩;rw [Hp.get_add];split
     ·rename_i e;subst e;rw [hb] at hi;cases hi
     ·exact hi
    ·simp only [zoi,zpi] at h;obtain⟨_,rfl⟩:=h;refine⟨qz _,fun i _ hi=>?_⟩;rw [Hp.get_add];split
     ·rename_i e;subst e;rw [hb] at hi;cases hi
     ·exact hi
    ·cases h
   ·cases h
  ·cases h
 |ent m=>
  have hH:H'=H:=by
   simp only [xe] at h;split at h
   ·split at h
    ·split at h
     ·split at h
      ·split at h
       ·simp only [zoi,zpi] at h;exact h.2.symm
       ·cases h
      ·cases h
     ·cases h
    ·cases h
   ·cases h
  subst hH;exact⟨qz _,fun _ _ h=>h⟩
 |rng m=>
  simp only [xe] at h;split at h
  ·split at h
   ·simp only [zoi,zpi] at h;obtain⟨_,rfl⟩:=h;exact⟨by simp,fun b hb hn=>by rw [Hp.get_push,if_neg (by omega)];exact hn⟩
   ·cases h
  ·cases h
 |stupd m k x=>
  simp only [xe] at h;split at h
  ·split at h
   ·rename_i b _ _ _ _ _ _ es hb;split at h
    ·simp only [zoi,zpi] at h;obtain⟨_,rfl⟩:=h;refine⟨qz _,fun i _ hi=>?_⟩;rw [Hp.get_add];split
     ·rename_i e;subst e;rw [hb] at hi;cases hi
     ·exact hi
    ·simp only [zoi,zpi] at h;obtain⟨_,rfl⟩:=h;refine⟨qz _,fun i _ hi=>?_⟩;rw [Hp.get_add];split
     ·rename_i e;subst e;rw [hb] at hi;cases hi
     ·exact hi
    ·cases h
   ·cases h
  ·cases h
 |mapupd m k x=>
  simp only [xe] at h;split at h
  ·split at h
   ·rename_i b _ es hb;split at h
    ·split at h
     ·simp only [zoi,zpi] at h;obtain⟨_,rfl⟩:=h;refine⟨qz _,fun i _ hi=>?_⟩;rw [Hp.get_add];split
      ·rename_i e;subst e;rw [hb] at hi;cases hi
      ·exact hi
     ·simp only [zoi,zpi] at h;obtain⟨_,rfl⟩:=h;refine⟨qz _,fun i _ hi=>?_⟩;rw [Hp.get_add];split
      ·rename_i e;subst e;rw [hb] at hi;cases hi
      ·exact hi
     ·cases h
    ·cases h
   ·cases h
  ·cases h
 |clear esz z x=>
  simp only [xe] at h;split at h
  ·simp only [zoi,zpi] at h;obtain⟨_,rfl⟩:=h;exact⟨qz _,fun _ _ h=>h⟩
  ·split at h
   ·simp only [zom,zpi] at h;obtain⟨H1,hs,_,rfl⟩:=h;have:=wD hs;exact⟨by omega,fun b _ hb=>this.2 b hb⟩
   ·cases h
  ·cases h
theorem YB.of_keeps{ks:List Nat}{H H':Hp}(hf:YB base ks H)(h:H.nx<=H'.nx/\∀b,b<H.nx->H.get b=none->H'.get b=none):YB base ks H':=
 fun k hk=>⟨by have:=(hf k hk).1;omega,h.2 _ (hf k hk).1 (hf k hk).2⟩
theorem YB.of_alloc{ks:List Nat}{H:Hp}{o:SOper}(hf:YB base ks H)(bk:B)(hk:∀k,o.aid=some k->k∉ks):YB base ks (zB base o H bk):=by
 unfold zB;cases hai:o.aid with
 |none=>exact fun k hk'=>⟨by have:=(hf k hk').1;simp;omega,by rw [Hp.get_push,if_neg (by have:=(hf k hk').1;omega)];exact (hf k hk').2⟩
 |some j=>
  refine fun k hk'=>⟨(hf k hk').1,?_⟩;rw [Hp.get_add,if_neg (fun e=>hk j hai (by
   have:k=j:=by omega
   rw [<-this];exact hk'))]
  exact (hf k hk').2
end
section
variable{P:Program}{G base:Nat}{QP:Hp->Prop}{Q:T V->Hp->Prop}
structure CtxSt (base:Nat) (ks:List Nat) (ctx:z7):Prop where
 add:V0 ctx
 rm:∀k p,(k,p)∈ctx->∀(H:Hp) (j:Nat) (bk:B),j∈ks->p (H.add (base+j) bk)->p H
theorem CtxSt.cons{base:Nat}{ks:List Nat}{ctx:z7}(h:CtxSt base ks ctx){H:Hp}(hf:YB base ks H){i:Nat}{op:LoadOp}{F:T V}{v:V}(hv:qL F H op=some v):CtxSt base ks ((i,fun H'=>qL F H' op=some v)::ctx):=by
 refine⟨by have:=V0.of h.add true i op F v;simpa using this,fun k p hp=>?_⟩;rcases zd.1 hp with hp|hp
 ·injection hp with _ hp
  subst hp;exact fun H' j bk hj hh=>Fm (hf j hj).2 hv hh
 ·exact h.rm k p hp
theorem CtxSt.of{base:Nat}{ks:List Nat}{ctx:z7}(h:CtxSt base ks ctx){H:Hp}(hf:YB base ks H)(o:SOper){op:LoadOp}{F:T V}{v:V}(hv:qL F H op=some v):CtxSt base ks (vr o op F v ctx):=by
 unfold vr;split
 ·exact h.cons hf hv
 ·exact h
theorem CtxSt.sub{base:Nat}{ks ks':List Nat}{ctx:z7}(h:CtxSt base ks ctx)(hs:∀k,k∈ks'->k∈ks):CtxSt base ks' ctx:=⟨h.add,fun k p hp H j bk hj=>h.rm k p hp H j bk (hs j hj)⟩
structure StOk (N:Nat->Prop) (x:SOper) (F:T V):Prop where
 st:∀n a v,x.op=.e (.store n a v)->∀b o,a.ev F=.one (.ptr b o)->N b
 ld:∀g n a,x.op=.l (.load g n a)->∀b o,a.ev F=.one (.ptr b o)->N b
theorem StOk.blind{N:Nat->Prop}{x:SOper}{d:Option Nat}(hb:Blind x d){F:T V}{u:V}(h:StOk N x F):StOk N x (xg F d u):=by
 have key:∀a:Opd,(∀k,k∉x.op.tm->k∉a.tm)->a.ev (xg F d u)=a.ev F:=fun a hs=>by
  cases d with
  |none=>rfl
  |some d=>
   rw [show xg F (some d) u=F.set d (some u) from rfl,zm (hs d (hb.tm d rfl))]
 refine⟨fun n a v hx b o ha=>h.st n a v hx b o ?_,fun g n a hx b o ha=>h.ld g n a hx b o ?_⟩
 ·rwa [key a fun k hk hm=>hk (by rw [hx];simp only [SOp.tm,EffOp.tm,xu];exact .inl hm)] at ha
 ·rwa [key a fun k hk hm=>hk (by rw [hx];simp only [SOp.tm,LoadOp.tm];exact hm)] at ha
theorem Hp.stores_rm{x:Nat}{bk:B}:∀{l:List C} {H H':Hp} {b o:Nat},b≠x->(H.add x bk).stores b o l=some H'->∃H2,H.stores b o l=some H2/\H'=H2.add x bk
 |[],H,H',b,o,_,h=>by simp [Hp.stores] at h;exact⟨H,O,h.symm⟩
 |c::l,H,H',b,o,hne,h=>by
  simp only [Hp.stores] at h ⊢;cases hs:(H.add x bk).store b o c with
  |none=>simp [hs] at h
  |some H1=>
   simp only [hs] at h;have hg:(H.add x bk).get b=H.get b:=Hp.get_add_ne _ _ hne;have:∃H1',H.store b o c=some H1'/\H1=H1'.add x bk:=by
    have hadd:∀k:B,(H.add x bk).add b k=(H.add b k).add x bk:=fun k=>by
     unfold Hp.add;simp only;rw [T.set_comm _ _ _ hne]
    unfold Hp.store at hs ⊢;rw [hg] at hs;split at hs
    all_goals try (cases hs;done)
    all_goals
     split at hs
     ·rename_i hlt;rw [if_pos hlt];obtain rfl:=zsi hs;exact⟨_,O,hadd _⟩
     ·cases hs
   obtain⟨H1',e1,rfl⟩:=this;simp only [e1];exact Hp.stores_rm hne h
theorem MT {o:SOper} {r1 r2:List SOper} {ctx:z7} {F:T V} {H:Hp} {ks:List Nat} (hst:CtxSt base ks ctx) (hf:YB base ks H) (hai:∀k,o.aid=some k->k∉ks)
 (hr:∀ctx v H',CtxSt base ks ctx->YB base ks H'->qC P G base QP Q r1 ctx (xg F o.dst v) H'->qC P G base QP Q r2 ctx (xg F o.dst v) H') (h:qC P G base QP Q (o::r1) ctx F H):qC P G base QP Q (o::r2) ctx F H:=by
 rcases Xj h with⟨v,hp,h⟩|⟨hw,op,v,hop,hv,h⟩|⟨hw,op,bk,g,hop,hv,h⟩|⟨hw,op,v,H',hop,hv,hwa,h⟩|⟨hw,_,f,args,hc,h⟩
 ·exact yo hp (hr _ _ _ hst hf h)
 ·exact Qh hw hop hv (hr _ _ _ (CtxSt.of hst hf _ hv) hf h)
 ·exact yZ hw hop hv (hr _ _ _ hst (hf.of_alloc bk hai) h)
 ·exact Xk hw hop hv hwa (hr _ _ _ hst (hf.of_keeps (O2 hv)) h)
 ·exact Qi hw hc (h.keeps.mono fun v H' hh=>⟨hh.1.1,hr _ _ _ hst (hf.of_keeps hh.2) hh.1.2⟩)
theorem RY{F:T V}{op:AllocOp}{bk:B}{g:Nat->V}(h:xK F op=some (bk,g)):bk.mut=true:=by
 cases op<;>simp only [xK] at h
 case alloc=>simp only [zoi,zpi] at h;rw [<-h.1];rfl
 case mkmap=>simp only [zoi,zpi] at h;rw [<-h.1];rfl
 case mkst=>simp only [zoi,zpi] at h;rw [<-h.1];rfl
 case alloct=>simp only [zoi,zpi] at h;rw [<-h.1];rfl
 all_goals (split at h<;>try (cases h;done))
 all_goals first
  |(simp only [zoi,zpi] at h;rw [<-h.1];rfl)
  |(
   split at h
   ·simp only [zoi,zpi] at h;rw [<-h.1];rfl
   ·cases h)
theorem kn.blind{s:SOper}{d:Option Nat}(hb:Blind s d){F:T V}{u v:V}:kn s (xg F d u) v↔kn s F v:=by
 unfold kn;rw [hb.wanted];constructor
 ·rintro (h|⟨hw,op,hop,hv⟩)
  ·exact .inl h
  ·exact .inr ⟨hw,op,hop,by rwa [hb.pure F u op hop] at hv⟩
 ·rintro (h|⟨hw,op,hop,hv⟩)
  ·exact .inl h
  ·exact .inr ⟨hw,op,hop,by rwa [hb.pure F u op hop]⟩
theorem vd{s:SOper}{d:Option Nat}(hb:Blind s d){F:T V}{u:V}:wQ P s.op (xg F d u)=wQ P s.op F:=by
 cases hop:s.op with
 |cf f args=>simp only [wQ,hb.cf F u f args hop]
 |cv x args=>obtain⟨h1,h2⟩:=hb.cv F u x args hop;simp only [wQ,h1,h2]
 |nx x=>simp only [wQ,hb.nx F u x hop]
 |_=>rfl
def kz(x:SOper)(F:T V):Prop:=qH x.guard F=true->(∀op,x.op=.p op->∃v,qp F op=some v)/\(∀op,x.op=.a op->∃bg,xK F op=some bg)
theorem kz.blind{x:SOper}{d:Option Nat}(hb:Blind x d){F:T V}{u:V}:kz x (xg F d u)↔kz x F:=by
 unfold kz;rw [hb.wanted];constructor
 ·intro h hw;refine⟨fun op hop=>?_,fun op hop=>?_⟩
  ·have:=(h hw).1 op hop;rwa [hb.pure _ _ _ hop] at this
  ·have:=(h hw).2 op hop;rwa [hb.alloc _ _ _ hop] at this
 ·intro h hw;refine⟨fun op hop=>?_,fun op hop=>?_⟩
  ·rw [hb.pure _ _ _ hop];exact (h hw).1 op hop
  ·rw [hb.alloc _ _ _ hop];exact (h hw).2 op hop
theorem Tw {y x:SOper} {r:List SOper} {ctx:z7} {F:T V} {H:Hp} {ks:List Nat} {N:Nat->Prop} (hok:ZX y x=true) (hst:CtxSt base ks ctx) (hy:∀k,y.aid=some k->k∈ks/\¬N (base+k)) (hsto:StOk N x F) (hval:kz x F) (hfr:∀k,(x.aid=some k\/y.aid=some k)->base+k<H.nx/\H.get (base+k)=none) (hqp:(∀H,¬QP H)\/y.op.isC=false)
 (h:qC P G base QP Q (y::x::r) ctx F H):qC P G base QP Q (x::y::r) ctx F H:=by
 unfold ZX at hok;rw [x8] at hok;obtain⟨htm,hkd⟩:=hok;obtain⟨t1,t2⟩:=KR htm;have bx:Blind x y.dst:=Blind.mk' fun k hk=>⟨(t1 k hk).1,(t1 k hk).2.1⟩;have by_:Blind y x.dst:=Blind.mk' fun k hk=>t2 k hk;have hcomm:∀(F:T V) (u v:V),xg (xg F y.dst u) x.dst v=xg (xg F x.dst v) y.dst u:=fun F u v=>M4 fun k hk=>(t1 k hk).2.2;rcases Xj h with⟨vy,hpy,h⟩|⟨hwy,opy,vy,hopy,hvy,h⟩|⟨hwy,opy,bky,gy,hopy,hvy,h⟩|⟨hwy,opy,vy,Hy,hopy,hvy,hway,h⟩|⟨hwy,hky,fy,argsy,hcy,h⟩
 ·-- y is plain
  rcases Xj h with⟨vx,hpx,h⟩|⟨hwx,opx,vx,hopx,hvx,h⟩|⟨hwx,opx,bkx,gx,hopx,hvx,h⟩|⟨hwx,opx,vx,Hx,hopx,hvx,hwax,h⟩|⟨hwx,hkx,fx,argsx,hcx,h⟩
  ·rw [kn.blind bx] at hpx;exact yo hpx (yo ((kn.blind by_).2 hpy) (by rw [<-hcomm];exact h))
  ·rw [bx.wanted] at hwx;rw [bx.load _ _ _ _ hopx] at hvx;refine Qh hwx hopx hvx (yo ((kn.blind by_).2 hpy) ?_);rw [<-hcomm];refine yq (fun z hz=>?_) h;unfold vr at hz ⊢;cases hk:x.keep with
   |false=>simp only [hk,yz,if_false] at hz ⊢;exact hz
   |true=>
    simp only [hk,if_true,zd] at hz ⊢;rcases hz with rfl|hz
    ·left;congr 1;funext H';rw [bx.load _ _ _ _ hopx]
    ·exact .inr hz
  ·rw [bx.wanted] at hwx;rw [bx.alloc _ _ _ hopx] at hvx;exact yZ hwx hopx hvx (yo ((kn.blind by_).2 hpy) (by rw [<-hcomm];exact h))
  ·rw [bx.wanted] at hwx;rw [bx.eff _ _ _ _ hopx] at hvx;exact Xk hwx hopx hvx hwax (yo ((kn.blind by_).2 hpy) (by rw [<-hcomm];exact h))
  ·rw [bx.wanted] at hwx;rw [vd bx] at hcx;exact Qi hwx hcx (h.mono fun v H' hh=>⟨hh.1,yo ((kn.blind by_).2 hpy) (by rw [<-hcomm];exact hh.2)⟩)
 ·-- y loads
  have hyl:∀(F':T V) (v:V) (H':Hp),F'=xg F x.dst v->qL F H' opy=some vy->∀c,(∀z,z∈c->z∈ctx)->qC P G base QP Q r (vr y opy F vy c) (xg F' y.dst vy) H'->qC P G base QP Q (y::r) c F' H':=by
   rintro F' v H' rfl hv c hc hh;refine Qh (by rw [by_.wanted];exact hwy) hopy (by rw [by_.load _ _ _ _ hopy];exact hv) ?_;refine yq (fun z hz=>?_) hh;unfold vr at hz ⊢;cases hk:y.keep with
   |false=>simp only [hk,yz,if_false] at hz ⊢;exact hz
   |true=>
    simp only [hk,if_true,zd] at hz ⊢;rcases hz with rfl|hz
    ·left;congr 1;funext H';rw [by_.load _ _ _ _ hopy]
    ·exact .inr hz
  rcases Xj h with⟨vx,hpx,h⟩|⟨hwx,opx,vx,hopx,hvx,h⟩|⟨hwx,opx,bkx,gx,hopx,hvx,h⟩|⟨hwx,opx,vx,Hx,hopx,hvx,hwax,h⟩|⟨hwx,hkx,fx,argsx,hcx,h⟩
  ·rw [kn.blind bx] at hpx;exact yo hpx (hyl _ vx H O hvy ctx (fun _ h=>h) (by rw [<-hcomm];exact h))
  ·rw [bx.wanted] at hwx;rw [bx.load _ _ _ _ hopx] at hvx;refine Qh hwx hopx hvx ?_;refine Qh (by rw [by_.wanted];exact hwy) hopy (by rw [by_.load _ _ _ _ hopy];exact hvy) ?_;rw [<-hcomm];refine yq (fun z hz=>?_) h;unfold vr at hz ⊢;have e1:∀u:V,(fun H'=>qL (xg F y.dst u) H' opx=some vx)=fun H'=>qL F H' opx=some vx:=fun u=>by funext H';rw [bx.load _ _ _ _ hopx]
   have e2:∀u:V,(fun H'=>qL (xg F x.dst u) H' opy=some vy)=fun H'=>qL F H' opy=some vy:=fun u=>by funext H';rw [by_.load _ _ _ _ hopy]
   rw [e2] at hz;rw [e1];cases hk:y.keep<;>cases hk':x.keep<;>simp only [hk,hk',yz,if_false,if_true,zd] at hz ⊢
   ·exact hz
   ·exact hz
   ·exact hz
   ·rcases hz with hz|hz|hz
    ·exact .inr (.inl hz)
    ·exact .inl hz
    ·exact .inr (.inr hz)
  ·rw [bx.wanted] at hwx;rw [bx.alloc _ _ _ hopx] at hvx;rw [hopy,hopx] at hkd;simp only [SOp.kd] at hkd;obtain⟨k,hk⟩:=eK.1 hkd;have hfree:=hfr k (.inl hk);refine yZ hwx hopx hvx ?_;refine hyl _ _ _ O ?_ ctx (fun _ h=>h) (by rw [<-hcomm];exact h);unfold zB;simp only [hk];exact uH hfree.2 hvy
  ·rw [bx.wanted] at hwx;rw [bx.eff _ _ _ _ hopx] at hvx;rw [hopy,hopx] at hkd;simp only [SOp.kd,x8] at hkd;have hwat:qL F Hx opy=some vy:=by
    have hmem:y.id∈x.watch:=by simpa using hkd.2
    cases hws:x.watch with
    |nil=>rw [hws] at hmem;cases hmem
    |cons a l=>
     rw [hws] at hwax hmem;exact hwax y.id hmem (fun H'=>qL F H' opy=some vy) (by unfold vr;rw [if_pos hkd.1];exact QC ..)
   refine Xk hwx hopx hvx (j7 (fun z hz=>?_) hwax) (hyl _ vx Hx O hwat ctx (fun _ h=>h) (by rw [<-hcomm];exact h));unfold vr;split
   ·exact Q7 _ hz
   ·exact hz
  ·rw [bx.wanted] at hwx;rw [vd bx] at hcx;rw [hopy,hkx] at hkd;simp only [SOp.kd,x8] at hkd;have hmem:y.id∈x.watch:=by simpa using hkd.2
   refine Qi hwx hcx (h.mono fun v H' hh=>?_);have hwat:qL F H' opy=some vy:=by
    have hwax:=hh.1;cases hws:x.watch with
    |nil=>rw [hws] at hmem;cases hmem
    |cons a l=>
     rw [hws] at hwax hmem;exact hwax y.id hmem (fun H'=>qL F H' opy=some vy) (by unfold vr;rw [if_pos hkd.1];exact QC ..)
   refine⟨j7 (fun z hz=>?_) hh.1,hyl _ v H' O hwat ctx (fun _ h=>h) (by rw [<-hcomm];exact hh.2)⟩;unfold vr;split
   ·exact Q7 _ hz
   ·exact hz
 ·-- y makes a block
  rcases Xj h with⟨vx,hpx,h⟩|⟨hwx,opx,vx,hopx,hvx,h⟩|⟨hwx,opx,bkx,gx,hopx,hvx,h⟩|⟨hwx,opx,vx,Hx,hopx,hvx,hwax,h⟩|⟨hwx,hkx,fx,argsx,hcx,h⟩
  ·rw [kn.blind bx] at hpx;exact yo hpx (yZ (by rw [by_.wanted];exact hwy) hopy (by rw [by_.alloc _ _ _ hopy];exact hvy) (by rw [<-hcomm];exact h))
  ·rw [bx.wanted] at hwx;rw [bx.load _ _ _ _ hopx] at hvx;rw [hopy,hopx] at hkd;simp only [SOp.kd,x8] at hkd;obtain⟨k,hk⟩:=eK.1 hkd.1;obtain⟨hks,hNk⟩:=hy k hk;have e1:∀H0,zB base y H0 bky=H0.add (base+k) bky:=fun H0=>by unfold zB;simp only [hk]
   cases opx<;>simp only [SOp.isLd,yz] at hkd<;>try (exact hkd.2.elim)
   rename_i g n a;have hv2:qL F H (.load g n a)=some vx:=by
    rw [e1] at hvx;simp only [qL] at hvx ⊢;split at hvx
    ·rename_i b o ha;have hne:b≠base+k:=fun e=>hNk (by rw [<-e];exact hsto.ld g n a hopx b o ha);have hc:∀i,(H.add (base+k) bky).cell b i=H.cell b i:=fun i=>by unfold Hp.cell;rw [Hp.get_add_ne _ _ hne]
     have hl:∀m o,(H.add (base+k) bky).loads b o m=H.loads b o m:=fun m=>by
      induction m with
      |zero=>intro o;rfl
      |succ m ih=>intro o;simp only [Hp.loads];rw [hc o,ih (o+1)]
     simp only [ha] at *;rw [hl,hc] at hvx;exact hvx
    ·cases hvx
   refine Qh hwx hopx hv2 (yZ (by rw [by_.wanted];exact hwy) hopy (by rw [by_.alloc _ _ _ hopy];exact hvy) ?_);rw [<-hcomm];refine yq (fun z hz=>?_) h;unfold vr at hz ⊢;cases hkp:x.keep with
   |false=>simp only [hkp,yz,if_false] at hz ⊢;exact hz
   |true=>
    simp only [hkp,if_true,zd] at hz ⊢;rcases hz with rfl|hz
    ·left;congr 1;funext H';rw [bx.load _ _ _ _ hopx]
    ·exact .inr hz
  ·rw [bx.wanted] at hwx;rw [bx.alloc _ _ _ hopx] at hvx;rw [hopy,hopx] at hkd;simp only [SOp.kd,x8] at hkd;obtain⟨k,hk⟩:=eK.1 hkd.1.1;obtain⟨j,hj⟩:=eK.1 hkd.1.2;have hne:k≠j:=by
    have:=hkd.2;rw [hk,hj] at this;simpa using this
   refine yZ hwx hopx hvx (yZ (by rw [by_.wanted];exact hwy) hopy (by rw [by_.alloc _ _ _ hopy];exact hvy) ?_);rw [<-hcomm];have e1:yH base x (zB base y H bky)=yH base x H:=by unfold yH;simp only [hj]
   have e2:yH base y (zB base x H bkx)=yH base y H:=by unfold yH;simp only [hk]
   have e3:zB base y (zB base x H bkx) bky=zB base x (zB base y H bky) bkx:=by
    unfold zB;simp only [hk,hj];unfold Hp.add;rw [T.set_comm _ _ _ (show base+j≠base+k by omega)]
   rw [e2,e3];rw [e1] at h;exact h
  ·rw [bx.wanted] at hwx;rw [bx.eff _ _ _ _ hopx] at hvx;rw [hopy,hopx] at hkd;simp only [SOp.kd,x8] at hkd;obtain⟨k,hk⟩:=eK.1 hkd.1;obtain⟨hks,hNk⟩:=hy k hk;have e1:∀H0,zB base y H0 bky=H0.add (base+k) bky:=fun H0=>by unfold zB;simp only [hk]
   have e2:∀H0,yH base y H0=base+k:=fun H0=>by unfold yH;simp only [hk]
   cases opx<;>simp only [SOp.isSt,yz] at hkd<;>try (exact hkd.2.elim)
   rename_i n a xv;rw [e1] at hvx;rw [e2] at h;have hS:=hsto.st n a xv hopx;have:∃H2,xe F H (.store n a xv)=some (vx,H2)/\Hx=H2.add (base+k) bky:=by
    simp only [xe] at hvx ⊢;split at hvx
    ·rename_i b o cs ha hcs;split at hvx
     ·rename_i hlen;simp only [zom,zpi] at hvx;obtain⟨H',hst',rfl,rfl⟩:=hvx;obtain⟨H2,g1,g2⟩:=Hp.stores_rm (fun e=>hNk (by rw [<-e];exact hS b o ha)) hst';exact⟨H2,by simp only [ha,hcs,if_pos hlen,g1,QA],g2⟩
     ·cases hvx
    ·cases hvx
   obtain⟨H2,g1,rfl⟩:=this;refine Xk hwx hopx g1 ?_ (yZ (by rw [by_.wanted];exact hwy) hopy (by rw [by_.alloc _ _ _ hopy];exact hvy) (by rw [e1,e2,<-hcomm];exact h));cases hws:x.watch with
   |nil=>trivial
   |cons a l=>
    rw [hws] at hwax;exact fun j hj p hp=>hst.rm j p hp _ _ _ hks (hwax j hj p hp)
  ·rw [hopy,hkx] at hkd;simp [SOp.kd] at hkd
 ·-- y writes
  rcases Xj h with⟨vx,hpx,h⟩|⟨hwx,opx,vx,hopx,hvx,h⟩|⟨hwx,opx,bkx,gx,hopx,hvx,h⟩|⟨hwx,opx,vx,Hx,hopx,hvx,hwax,h⟩|⟨hwx,hkx,fx,argsx,hcx,h⟩
  ·rw [kn.blind bx] at hpx;exact yo hpx (Xk (by rw [by_.wanted];exact hwy) hopy (by rw [by_.eff _ _ _ _ hopy];exact hvy) hway (by rw [<-hcomm];exact h))
  ·rw [hopy,hopx] at hkd;simp [SOp.kd] at hkd
  ·rw [bx.wanted] at hwx;rw [bx.alloc _ _ _ hopx] at hvx;rw [hopy,hopx] at hkd;simp only [SOp.kd,x8] at hkd;obtain⟨k,hk⟩:=eK.1 hkd.1;have hfree:=hfr k (.inl hk);cases opy<;>simp only [SOp.isAp,yz] at hkd<;>try (exact hkd.2.elim)
   obtain⟨g1,g2⟩:=LF (bk:=bkx) hfree.1 hfree.2 hvy;have e1:∀H0,zB base x H0 bkx=H0.add (base+k) bkx:=fun H0=>by unfold zB;simp only [hk]
   have e2:∀H0,yH base x H0=base+k:=fun H0=>by unfold yH;simp only [hk]
   rw [e1,e2] at h;refine yZ hwx hopx hvx ?_;rw [e1,e2];refine Xk (by rw [by_.wanted];exact hwy) hopy (by rw [by_.eff _ _ _ _ hopy];exact g1) ?_ (by rw [<-hcomm];exact h);cases hws:y.watch with
   |nil=>trivial
   |cons a l=>
    rw [hws] at hway;exact fun j hj p hp=>hst.add j p hp _ _ _ g2 (hway j hj p hp)
  ·rw [hopy,hopx] at hkd;simp [SOp.kd] at hkd
  ·rw [hopy,hkx] at hkd;simp [SOp.kd] at hkd
 ·-- y calls
  cases hwx:qH x.guard F with
  |false=>
   refine yo (.inl ⟨hwx,O⟩) (Qi (by rw [by_.wanted];exact hwy) (by rw [vd by_];exact hcy) (h.mono fun v H' hh=>⟨hh.1,?_⟩));rw [<-hcomm];have h2:=hh.2;rw [qC,bx.wanted,hwx] at h2;simpa using h2
  |true=>
   cases hopx:x.op with
   |p op=>
    obtain⟨vx,hv⟩:=(hval hwx).1 op hopx;refine yo (v:=vx) (.inr ⟨hwx,op,hopx,hv⟩) (Qi (by rw [by_.wanted];exact hwy) (by rw [vd by_];exact hcy) (h.mono fun v H' hh=>⟨hh.1,?_⟩));rw [<-hcomm];have h2:=hh.2;rw [qC,bx.wanted,hwx] at h2;simp only [if_true,hopx,bx.pure _ _ _ hopx,hv] at h2;exact h2
   |a op=>
    obtain⟨⟨bk,g⟩,hv⟩:=(hval hwx).2 op hopx;rw [hky,hopx] at hkd;have hS:∀H,¬fy.sp QP H:=by
     rcases hqp with hq|hc
     ·cases fy with
      |fu f=>exact hq
      |yl b=>exact fun _ h=>h
      |nx b=>exact fun _ h=>h
     ·cases hyo:y.op<;>rw [hyo] at hc hcy<;>simp only [wQ,SOp.isC] at hc hcy<;>try (cases hc;done)
      all_goals try (cases hcy;done)
      split at hcy
      ·obtain⟨rfl,_⟩:_/\_:=by simpa using hcy
       exact fun _ h=>h
      ·cases hcy
    simp only [SOp.kd] at hkd;obtain⟨k,hk⟩:=eK.1 hkd;obtain⟨hlt,hnone⟩:=hfr k (.inl hk);refine yZ hwx hopx hv (Qi (by rw [by_.wanted];exact hwy) (by rw [vd by_];exact hcy) ?_);have e1:zB base x H bk=H.add (base+k) bk:=by unfold zB;simp only [hk]
    have e2:yH base x H=base+k:=by unfold yH;simp only [hk]
    rw [e1,e2];refine (h.keeps.frame hS hlt hnone (RY hv)).mono ?_;rintro v H'' ⟨H',⟨⟨hw1,hw2⟩,hnx,hfree⟩,rfl⟩;refine⟨?_,?_⟩
    ·-- what is watched is still there
     have:=hw1;cases hws:y.watch with
     |nil=>trivial
     |cons a l=>
      rw [hws] at this;exact fun j hj p hp=>hst.add j p hp _ _ _ (hfree _ hlt hnone) (this j hj p hp)
    ·rw [<-hcomm];rw [qC,bx.wanted,hwx] at hw2;simp only [if_true,hopx,bx.alloc _ _ _ hopx,hv,hk] at hw2;exact hw2
   |l op=>rw [hky,hopx] at hkd;simp [SOp.kd] at hkd
   |e op=>rw [hky,hopx] at hkd;simp [SOp.kd] at hkd
   |cf f args=>rw [hky,hopx] at hkd;simp [SOp.kd] at hkd
   |cv f args=>rw [hky,hopx] at hkd;simp [SOp.kd] at hkd
   |nx x=>rw [hky,hopx] at hkd;simp [SOp.kd] at hkd
   |no=>rw [hky,hopx] at hkd;simp [SOp.kd] at hkd
theorem Mm{x:SOper}{post:List SOper}{N:Nat->Prop}:∀{pre:List SOper} {ctx:z7} {F:T V} {H:Hp},(∀y∈pre,ZX y x=true)->((∀H,¬QP H)\/∀y∈pre,y.op.isC=false)->CtxSt base ((pre++[x]).filterMap (·.aid)) ctx->kz x F->StOk N x F->(∀y∈pre,∀k,y.aid=some k->¬N (base+k))->
 (∀k∈(pre++[x]).filterMap (·.aid),base+k<H.nx/\H.get (base+k)=none)->((pre++[x]).filterMap (·.aid)).Nodup->
 qC P G base QP Q (pre++x::post) ctx F H->qC P G base QP Q (x::(pre++post)) ctx F H
 |[],_,_,_,_,_,_,_,_,_,_,_,h=>h
 |y::pre,ctx,F,H,hok,hqp,hst,hval,hsto,hN,hfr,hnd,h=>by
  have hy:=hok y (by simp);have hb:Blind x y.dst:=by
   have:=hy;unfold ZX at this;rw [x8] at this;obtain⟨t1,_⟩:=KR this.1;exact Blind.mk' fun k hk=>⟨(t1 k hk).1,(t1 k hk).2.1⟩
  have hfm:∀k,y.aid=some k->k∉(pre++[x]).filterMap (·.aid):=fun k hk=>by
   simp only [vz,DO,hk,YO] at hnd;exact hnd.1
  have hnd':((pre++[x]).filterMap (·.aid)).Nodup:=by
   simp only [vz,DO] at hnd;cases hy':y.aid with
   |none=>rw [hy'] at hnd;exact hnd
   |some k=>rw [hy'] at hnd;exact (YO.1 hnd).2
  have hfr':YB base ((pre++[x]).filterMap (·.aid)) H:=fun k hk=>hfr k (by
   simp only [vz,DO];cases y.aid with
   |none=>exact hk
   |some j=>exact Q7 _ hk)
  have hsub:∀k,k∈(pre++[x]).filterMap (·.aid)->k∈(y::pre++[x]).filterMap (·.aid):=fun k hk=>by
   simp only [vz,DO];cases y.aid with
   |none=>exact hk
   |some j=>exact Q7 _ hk
  have h1:qC P G base QP Q (y::x::(pre++post)) ctx F H:=MT (hst.sub hsub) hfr' hfm (fun ctx' v H' hst' hf' hh=>Mm (fun z hz=>hok z (by simp [hz])) (hqp.imp id fun h z hz=>h z (by simp [hz])) hst' ((kz.blind hb).2 hval) (hsto.blind hb) (fun z hz=>hN z (by simp [hz])) hf' hnd' hh) h;refine Tw hy hst (fun k hk=>⟨by simp [hk],hN y (by simp) k hk⟩) hsto hval (fun k hk=>?_) (hqp.imp id fun h=>h y (by simp)) h1;rcases hk with hk|hk
  ·exact hfr' k (by simp [hk])
  ·exact hfr k (by simp [hk])
end
end Go.Ab
