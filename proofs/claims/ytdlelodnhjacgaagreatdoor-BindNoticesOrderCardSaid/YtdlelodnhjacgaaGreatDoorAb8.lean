/- -/
import Derived.Test.YtdlelodnhjacgaaGreatDoorAb7
set_option linter.unusedSimpArgs false
set_option linter.unusedVariables false
set_option maxRecDepth 8000
namespace Go.Ab
section
variable{P:Program}{G n base:Nat}{QP:Hp->Prop}{Q:T V->Hp->Prop}
theorem GT{ρ:Option (Option Nat)}{nn:Nat}{ops:Array Oper}{i:Nat}{a:Act}{w:World}{T:Prop}(h:wpOpIn (Xh ρ) nn P ops (fun _ _ _=>False) i (fun _ _=>T) a w):T:=by
 unfold wpOpIn at h;split at h
 ·exact h
 ·rename_i o ho;split at h
  ·unfold Oper.wpIn at h;replace h:=h.2;generalize (o.semAt (Xh ρ).round a.eval).run P w=r at h;cases r with
   |ok nx w'=>
    cases nx<;>simp only [Oper.uponIn] at h<;>first
     |exact h
     |(
      obtain⟨_,h⟩:=h;obtain⟨e,w'',fr,hR,_⟩:=h.2 [] XD;cases e with
      |returned v=>exact hR
      |panicked c=>exact hR.elim
      |outgrown=>obtain⟨_,_,hh⟩:=hR;exact hh.elim)
     |(
      obtain⟨_,h⟩:=h;obtain⟨e,w'',hR,_⟩:=h.2 default [] XD;cases e with
      |returned v=>exact hR
      |panicked c=>exact hR.elim
      |outgrown=>obtain⟨_,_,hh⟩:=hR;exact hh.elim)
     |(obtain⟨v,w'',hR,_⟩:=h.2 default [] XD;exact hR)
     |exact h.elim
   |halt hh w'=>cases hh<;>simp only [Oper.uponIn] at h<;>first|exact h.elim|exact h
  ·exact h.2
theorem C1{x:SOper}{post:List SOper}{ctx:z7}{F:T V}{H:Hp}(h:qC P G base QP Q (x::post) ctx F H):kz x F:=by
 intro hw;rw [qC,hw] at h;simp only [if_true] at h;refine⟨fun op hop=>?_,fun op hop=>?_⟩
 ·rw [hop] at h;simp only at h;cases hv:qp F op with
  |none=>simp [hv] at h
  |some v=>exact⟨v,O⟩
 ·rw [hop] at h;simp only at h;cases hv:xK F op with
  |none=>simp [hv] at h
  |some v=>exact⟨v,O⟩
theorem Cz{ops:Array Oper}{x:SOper}{post:List SOper}{μ0:Nat->Pl}{K0:Nat->Prop}{H0:Hp}{w0:World}(hlt0:∀b bk,H0.get b=some bk->b<H0.nx):
 ∀{pre:List SOper} {idx:List Nat} {ctx:z7} {F:T V} {H:Hp} {μ:Nat->Pl} {K:Nat->Prop} {a:Act} {w:World},zk P G n ops idx pre->(∀y∈pre,Blind x y.dst)->((∀H,¬QP H)\/∀y∈pre,y.op.isC=false)->Rel G μ K H w->xR μ K n F a.tmps->Fr μ0 K0 H0 w0 μ K H w->
  (∀y∈pre,∀k,y.aid=some k->¬K (base+k)/\base+k<H.nx/\H0.nx<=base+k)->(pre.filterMap (·.aid)).Nodup->
  qC P G base QP Q (pre++x::post) ctx F H->kz x F
 |[],[],ctx,F,H,μ,K,a,w,_,_,_,_,_,_,_,_,h=>C1 h
 |y::pre,i::idx,ctx,F,H,μ,K,a,w,hal,hbl,hqp,hR,hF,hFr,hrs,hnd,h=>by
  obtain⟨⟨o,ho,hfit⟩,hal'⟩:=hal;have key:wpOpIn (Xh none) 0 P ops (fun _ _ _=>False) i (fun _ _=>kz x F) a w:=by
   refine HI hlt0 ho hfit hR hF hFr (hrs y (by simp)) h (fun μ' K' F' H' a' w' ctx' h1 h2 h3 _ h5 h6 h7 _ h8=>?_) fun μ' K' H' w' ch hc hq _ _ _ _=>hqp.elim (fun h=>h _ hq) fun h=>by rw [h y (by simp)] at hc;cases hc
   obtain⟨v,rfl⟩:=h7;have hnd':(pre.filterMap (·.aid)).Nodup/\∀k,y.aid=some k->k∉pre.filterMap (·.aid):=by
    simp only [DO] at hnd;cases hy:y.aid with
    |none=>rw [hy] at hnd;exact⟨hnd,by simp⟩
    |some k=>rw [hy] at hnd;exact⟨(YO.1 hnd).2,fun j hj=>by obtain rfl:=zsi hj;exact (YO.1 hnd).1⟩
   have:=Cz hlt0 hal' (fun z hz=>hbl z (by simp [hz])) (hqp.imp id fun h z hz=>h z (by simp [hz])) h1 h2 h3 (fun z hz k hk=>by
    obtain⟨g1,g2,g3⟩:=hrs z (by simp [hz]) k hk;refine⟨fun hk'=>?_,by omega,g3⟩;rcases h6 _ g2 hk' with h|⟨j,hj,he⟩
    ·exact g1 h
    ·exact hnd'.2 j hj (by
      have:j=k:=by omega
      rw [this];exact KM.2 ⟨z,hz,hk⟩)) hnd'.1 h8
   exact (kz.blind (hbl y (by simp))).1 this
  exact GT key
 |[],_::_,_,_,_,_,_,_,_,h,_,_,_,_,_,_,_,_=>h.elim
 |_::_,[],_,_,_,_,_,_,_,h,_,_,_,_,_,_,_,_=>h.elim
def V3(b:Bool)(y x:SOper):Bool:=ZX y x&&!(b&&y.op.isC)
def Wq(b:Bool)(D:Nat->List Nat):List Nat->List SOper->Prop
 |i::idx,s::l=>(∀j t,(j,t)∈idx.zip l->i∈D j\/V3 b s t=true)/\Wq b D idx l
 |_,_=>True
theorem zk.len{ops:Array Oper}:∀{idx:List Nat} {l:List SOper},zk P G n ops idx l->idx.length=l.length
 |[],[],_=>rfl
 |_::_,_::_,h=>by simp [zk.len h.2]
 |[],_::_,h=>h.elim
 |_::_,[],h=>h.elim
theorem zk.split{ops:Array Oper}{b:Bool}{D:Nat->List Nat}:∀{idx:List Nat} {l:List SOper} {i:Nat},zk P G n ops idx l->Wq b D idx l->i∈idx->
 ∃pi qi pre x post,idx=pi++i::qi/\l=pre++x::post/\zk P G n ops pi pre/\(∃o,ops[i]?=some o/\nC P G n ops o x)/\zk P G n ops (pi++qi) (pre++post)/\Wq b D (pi++qi) (pre++post)/\
  (∀y∈pre,∃j∈pi,j∈D i\/V3 b y x=true)
 |j::idx,s::l,i,hal,hp,hi=>by
  by_cases e:i=j
  ·subst e;exact⟨[],idx,[],s,l,O,O,trivial,hal.1,hal.2,hp.2,by simp⟩
  ·have hi':i∈idx:=by
    rcases zd.1 hi with h|h
    ·exact absurd h e
    ·exact h
   obtain⟨pi,qi,pre,x,post,h1,h2,h3,h4,h5,h6,h7⟩:=zk.split hal.2 hp.2 hi';have hl1:pi.length=pre.length:=h3.len;refine⟨j::pi,qi,s::pre,x,post,by rw [h1];rfl,by rw [h2];rfl,⟨hal.1,h3⟩,h4,⟨hal.1,h5⟩,⟨fun j' t hjt=>hp.1 j' t ?_,h6⟩,fun y hy=>?_⟩
   ·rw [h1,h2,List.zip_append hl1];have hjt':(j',t)∈(pi++qi).zip (pre++post):=hjt;rw [List.zip_append hl1] at hjt';rcases xu.1 hjt' with h|h
    ·exact xu.2 (.inl h)
    ·exact xu.2 (.inr (by simp [h]))
   ·rcases zd.1 hy with rfl|hy
    ·refine⟨j,by simp,hp.1 i x ?_⟩;rw [h1,h2,List.zip_append hl1];exact xu.2 (.inr (by simp))
    ·obtain⟨j',hj',hh⟩:=h7 y hy;exact⟨j',by simp [hj'],hh⟩
 |[],_,_,_,_,hi=>by cases hi
 |_::_,[],_,hal,_,_=>hal.elim
def JP(F:Fence)(n:Nat)(P:Program)(X:Nat->List Nat)(ops:Array Oper)(Q:Exit->Act->World->Prop):Nat->Array Bool->Act->World->Prop
 |0,listed,a,w=>Region.ready .any ops listed=[]/\Q .normal a w
 |fuel+1,listed,a,w=>
  (Region.ready .any ops listed=[]->Q .normal a w)/\
  ∀i∈Region.ready .any ops listed,(∀j∈X i,listed.getD j false=true)->wpOpIn F n P ops Q i (JP F n P X ops Q fuel (listed.setIfInBounds i true)) a w
theorem Qc{l:Array Bool}{i j:Nat}(h:l.getD j false=true):(l.setIfInBounds i true).getD j false=true:=by
 simp only [nL,XZ] at h ⊢;split
 ·rename_i e;subst e;split
  ·rfl
  ·rename_i hn;rw [LP (by omega)] at h;exact h
 ·exact h
theorem Jq{F:Fence}{n:Nat}{P:Program}{X:Nat->List Nat}{ops:Array Oper}{Q:Exit->Act->World->Prop}:∀(fuel:Nat) (listed:Array Bool) (a:Act) (w:World),(∀i,∀j∈X i,listed.getD j false=true)->JP F n P X ops Q fuel listed a w->wpAnyIn F n P .any ops Q fuel listed a w:=by
 intro fuel;induction fuel with
 |zero=>intro listed a w _ h;exact h
 |succ fuel ih=>
  intro listed a w hX h;exact⟨h.1,fun i hi=>wpOpIn_mono (fun a w=>ih _ a w fun i' j hj=>Qc (hX i' j hj)) (h.2 i hi (hX i))⟩
def Wy:Op->Bool
 |.move _|.assign _|.pick ..|.alloc _|.box ..|.build ..|.buildSlice ..|.load ..|.store ..|.binOp ..|.unOp ..|.convert ..|.makeSlice ..|.slice ..|.fieldAddr ..|.field ..|.indexAddr ..|.index ..|.extract ..=>true
 |_=>false
theorem Eh{s:Sem Value}{P:Program}{w w':World}{x:Next}(h:(do pure (Next.value (<-s)):Sem Next).run P w=.ok x w'):∃y,x=.value y:=by
 rw [Sem.run_bind] at h;cases hs:s.run P w with
 |ok y w2=>rw [hs] at h;simp [Result.andThen] at h;exact⟨y,h.1.symm⟩
 |halt y w2=>rw [hs] at h;simp [Result.andThen] at h
theorem MH{o:Oper}(hv:Wy o.op=true){ρ:Operand->Value}{P:Program}{w w':World}{x:Next}(h:(execOp ρ o).run P w=.ok x w'):(∃y,x=.value y)\/x=.skip:=by
 unfold execOp at h;unfold Wy at hv;split at hv
 all_goals try (cases hv;done)
 all_goals (rename_i ho;simp only [ho] at h)
 all_goals first
  |exact .inl (Eh h)
  |(simp at h;exact .inl ⟨_,h.1.symm⟩)
  |(
   simp only [Sem.run_bind,Result.andThen] at h;split at h
   ·simp at h;exact .inl ⟨_,h.1.symm⟩
   ·cases h)
  |(
   simp only [Sem.run_bind,Result.andThen] at h;split at h
   ·simp at h;exact .inr h.1.symm
   ·cases h)
theorem GU{F:Fence}{n:Nat}{P:Program}{ops:Array Oper}{Q:Exit->Act->World->Prop}{i:Nat}{K1 K2:Act->World->Prop}{a:Act}{w:World}(hv:∀o,ops[i]?=some o->Wy o.op=true)(h1:wpOpIn F n P ops Q i K1 a w)(h2:wpOpIn F n P ops Q i K2 a w):wpOpIn F n P ops Q i (fun a w=>K1 a w/\K2 a w) a w:=by
 unfold wpOpIn at *;cases ho:ops[i]? with
 |none=>simp only [ho] at h1 h2 ⊢;exact⟨h1,h2⟩
 |some o=>
  simp only [ho] at h1 h2 ⊢;have hv:=hv o ho;split
  ·rename_i hw;simp only [hw,if_true] at h1 h2;refine⟨h1.1,?_⟩;have g1:=h1.2;have g2:=h2.2;have hnd:∀c,o.op≠.defer c:=fun c e=>by rw [e] at hv;cases hv
   rw [Oper.semAt_eq _ _ _ hnd] at g1 g2 ⊢;cases hr:(execOp a.eval o).run P w with
   |ok x w'=>
    rw [hr] at g1 g2;rcases MH hv hr with⟨y,rfl⟩|rfl
    ·exact⟨g1,g2⟩
    ·exact⟨g1,g2⟩
   |halt x w'=>
    rw [hr] at g1;cases x<;>exact g1
  ·rename_i hw;rw [if_neg hw] at h1 h2;exact⟨h1.1,h1.2,h2.2⟩
theorem Lh{F:Fence}{n:Nat}{P:Program}{ops:Array Oper}{Q:Exit->Act->World->Prop}{c l:Nat}(hcl:c≠l)(hv:∀i o,ops[i]?=some o->i≠c->Wy o.op=true):∀(fuel:Nat) (listed:Array Bool) (a:Act) (w:World),listed.size=ops.size->
 JP F n P (fun i=>if i=l then [c] else []) ops Q fuel listed a w->JP F n P (fun i=>if i=c then [l] else []) ops Q fuel listed a w->wpAnyIn F n P .any ops Q fuel listed a w:=by
 intro fuel;induction fuel with
 |zero=>intro listed a w _ h _;exact h
 |succ fuel ih=>
  intro listed a w hs h1 h2;refine⟨h1.1,fun i hi=>?_⟩;have his:i<ops.size:=by
   unfold Region.ready at hi;have:=(nM.1 hi).1;simpa using this
  have hset:(listed.setIfInBounds i true).getD i false=true:=by
   rw [nL,XZ,if_pos rfl,if_pos (by omega)];rfl
  by_cases e1:i=c
  ·subst e1;refine wpOpIn_mono (fun a w=>Jq _ _ a w fun i' j hj=>?_) (h1.2 i hi fun j hj=>?_)<;>try simp only at hj
   ·split at hj
    ·simp at hj;subst hj;exact hset
    ·cases hj
   ·rw [if_neg hcl] at hj;cases hj
  ·by_cases e2:i=l
   ·subst e2;refine wpOpIn_mono (fun a w=>Jq _ _ a w fun i' j hj=>?_) (h2.2 i hi fun j hj=>?_)<;>try simp only at hj
    ·split at hj
     ·simp at hj;subst hj;exact hset
     ·cases hj
    ·rw [if_neg e1] at hj;cases hj
   ·have g1:=h1.2 i hi fun j hj=>by simp only [if_neg e2] at hj;cases hj
    have g2:=h2.2 i hi fun j hj=>by simp only [if_neg e1] at hj;cases hj
    exact wpOpIn_mono (fun a w ⟨k1,k2⟩=>ih _ a w (by simpa using hs) k1 k2) (GU (fun o ho=>hv i o ho e1) g1 g2)
theorem H9{P:Program}{G n:Nat}{o:Oper}{m:Nat}{a v:Opd}:Wh P G n o≠some (.store m a v):=by
 intro h;unfold Wh at h
 repeat' (split at h)
 all_goals first
  |(cases h;done)
  |(simp at h;done)
theorem IA{P:Program}{G n:Nat}{o:Oper}{m:Nat}{a v:Opd}(h:Wi P G n o=some (.store m a v)):∃c,cO G n c=some a:=by
 unfold Wi at h;split at h
 ·split at h
  ·rename_i s x y _ hx _;injection h with h
   injection h with _ h _
   exact⟨_,h▸hx⟩
  ·cases h
 all_goals
  repeat' (split at h)
  all_goals first
   |(cases h;done)
   |(simp at h;done)
theorem OS{P:Program}{G n:Nat}{ops:Array Oper}{o:Oper}{x:SOper}(hf:nC P G n ops o x){m:Nat}{a v:Opd}(hx:x.op=.e (.store m a v)):∃c,cO G n c=some a:=by
 have h:=hf.1;rw [hx] at h;have h0:ZK P G n o=some (.e (.store m a v)):=by
  unfold nA at h;split at h
  ·rename_i op h0;rw [h0];exact h
  ·cases h
 have he:Kh P G n o=some (.store m a v):=by
  unfold ZK at h0;split at h0
  ·cases h0
  ·split at h0
   ·cases h0
   ·split at h0
    ·cases h0
    ·split at h0
     ·rename_i e he;injection h0 with h0
      injection h0 with h0
      rw [he,h0]
     ·split at h0
      ·split at h0
       ·simp only [zom] at h0;obtain⟨_,_,h0⟩:=h0;cases h0
       ·cases h0
      ·split at h0<;>cases h0
      ·simp only [zom] at h0;obtain⟨_,_,h0⟩:=h0;cases h0
      ·cases h0
 unfold Kh at he;split at he
 ·rename_i p hp;rw [he] at hp;exact absurd hp H9
 ·exact IA he
theorem TQ{P:Program}{G n:Nat}{o:Oper}{g:Bool}{m:Nat}{a:Opd}:ZT P G n o≠some (.load g m a):=by
 intro h;unfold ZT at h
 repeat' (split at h)
 all_goals first
  |(cases h;done)
  |(simp at h;done)
theorem TR{P:Program}{G n:Nat}{o:Oper}{g:Bool}{m:Nat}{a:Opd}(h:ZU P G n o=some (.load g m a)):∃c,cO G n c=some a:=by
 unfold ZU at h;split at h
 ·split at h
  ·rename_i hx;injection h with h
   injection h with _ _ h
   exact⟨_,h▸hx⟩
  ·cases h
 all_goals
  repeat' (split at h)
  all_goals first
   |(cases h;done)
   |(simp at h;done)
theorem T4{P:Program}{G n:Nat}{ops:Array Oper}{o:Oper}{x:SOper}(hf:nC P G n ops o x){g:Bool}{m:Nat}{a:Opd}(hx:x.op=.l (.load g m a)):∃c,cO G n c=some a:=by
 have h:=hf.1;rw [hx] at h;have h0:ZK P G n o=some (.l (.load g m a)):=by
  unfold nA at h;split at h
  ·rename_i op h0;rw [h0];exact h
  ·cases h
 have he:Yu P G n o=some (.load g m a):=by
  unfold ZK at h0;split at h0
  ·cases h0
  ·split at h0
   ·rename_i e he;injection h0 with h0
    injection h0 with h0
    rw [he,h0]
   ·split at h0
    ·cases h0
    ·split at h0
     ·cases h0
     ·split at h0
      ·split at h0
       ·simp only [zom] at h0;obtain⟨_,_,h0⟩:=h0;cases h0
       ·cases h0
      ·split at h0<;>cases h0
      ·simp only [zom] at h0;obtain⟨_,_,h0⟩:=h0;cases h0
      ·cases h0
 unfold Yu at he;split at he
 ·rename_i p hp;rw [he] at hp;exact TR hp
 ·exact absurd he TQ
theorem Pu {ρ:Option (Option Nat)} {nn:Nat} {DD:List Deferred} {ops:Array Oper} {b:Bool} {F0:T V} {ds:List Nat} {D X:Nat->List Nat} {μ0:Nat->Pl} {K0:Nat->Prop} {H0:Hp} {w0:World} (hlt0:∀b bk,H0.get b=some bk->b<H0.nx) {Q':Exit->Act->World->Prop}
 (hQ:∀μ K F H a w,Q F H->Rel G μ K H w->xR μ K n F a.tmps->Fr μ0 K0 H0 w0 μ K H w->(∀t,t∉ds->F.get t=F0.get t)->a.defers=DD->Q' .normal a w)
 (hP:∀μ K F H a w ch,QP H->lO ch->Rel G μ K H w->xR μ K n F a.tmps->Fr μ0 K0 H0 w0 μ K H w->(∀t,t∉ds->F.get t=F0.get t)->a.defers=DD->Q' (.panic ch) a w) (hb:b=true\/∀H,¬QP H)
 (hD:∀i o,ops[i]?=some o->∀j∈D i,(∃e∈o.after.toList,Region.binds .any e=true/\(e.on=j\/j∈D e.on))\/∃k∈X i,k<ops.size/\(k=j\/j∈D k))
 (hlow:∀i o,ops[i]?=some o->∀e∈o.after.toList,Region.binds .any e=true->e.on<i):
 ∀{fuel:Nat} {listed:Array Bool} {idx:List Nat} {l:List SOper} {ctx:z7} {F:T V} {H:Hp} {μ:Nat->Pl} {K:Nat->Prop} {a:Act} {w:World},
  listed.size=ops.size->(∀i,i<ops.size->(listed.getD i true=false↔i∈idx))->(∀i∈idx,i<ops.size)->idx.Nodup->idx.length<=fuel->
  (∀i,i<ops.size->i∉idx->∀j∈D i,j∉idx)->zk P G n ops idx l->Wq b D idx l->(l.filterMap (·.aid)).Nodup->CtxSt base (l.filterMap (·.aid)) ctx->
  (∀s∈l,∀k,s.aid=some k->¬K (base+k)/\base+k<H.nx/\H0.nx<=base+k)->
  Rel G μ K H w->xR μ K n F a.tmps->Fr μ0 K0 H0 w0 μ K H w->(∀s∈l,∀d,s.dst=some d->d∈ds)->(∀t,t∉ds->F.get t=F0.get t)->a.defers=DD->qC P G base QP Q l ctx F H->JP (Xh ρ) nn P X ops Q' fuel listed a w:=by
 intro fuel;induction fuel with
 |zero=>
  intro listed idx l ctx F H μ K a w hsz hlist hin hnd hlen hdc hal hp haid hst hrs hR hF hFr hdd hag hd h;have hidx:idx=[]:=vw (by omega);subst hidx;cases l with
  |cons s l=>exact hal.elim
  |nil=>
   refine⟨?_,hQ μ K F H a w h hR hF hFr hag hd⟩;unfold Region.ready;rw [List.filter_eq_nil_iff];intro i hi;have hi':i<ops.size:=by simpa using hi
   have:=(hlist i hi').1;cases hl:listed.getD i true with
   |true=>simp
   |false=>exact absurd (this hl) (by simp)
 |succ fuel ih=>
  intro listed idx l ctx F H μ K a w hsz hlist hin hnd hlen hdc hal hp haid hst hrs hR hF hFr hdd hag hd h;refine⟨fun hready=>?_,fun i hi hX=>?_⟩
  ·-- nothing is ready:then nothing is left
   have hidx:idx=[]:=by
    cases hid:idx with
    |nil=>rfl
    |cons i0 rest=>
     exfalso;obtain⟨m,hm,hmin⟩:∃m∈idx,∀j∈idx,m<=j:=by
      have:∀(l:List Nat),l≠[]->∃m∈l,∀j∈l,m<=j:=by
       intro l;induction l with
       |nil=>intro h;exact absurd O h
       |cons x l ihl=>
        intro _;by_cases hl:l=[]
        ·subst hl;exact⟨x,by simp,by simp⟩
        ·obtain⟨m,hm,hmin⟩:=ihl hl;by_cases hx:x<=m
         ·exact⟨x,by simp,fun j hj=>by
           rcases zd.1 hj with rfl|hj
           ·exact qz _
           ·exact aZ hx (hmin j hj)⟩
         ·exact⟨m,by simp [hm],fun j hj=>by
           rcases zd.1 hj with rfl|hj
           ·omega
           ·exact hmin j hj⟩
      exact this idx (by rw [hid];simp)
     have hms:=hin m hm;have hmr:m∈Region.ready .any ops listed:=by
      unfold Region.ready;rw [nM];refine⟨by simpa using hms,?_⟩;rw [(hlist m hms).2 hm];have ho:ops[m]?=some ops[m]:=sO hms;rw [ho];simp only [Bool.not_false,DT,QA,QB];rw [Array.all_eq_true_iff_forall_mem];intro e he;cases hb:Region.binds .any e with
      |false=>rfl
      |true=>
       have hlt:=hlow m _ ho e (by simpa using he) hb;have hes:e.on<ops.size:=by omega
       have hne:e.on∉idx:=fun h=>absurd (hmin _ h) (by omega);have hl:listed.getD e.on true≠false:=fun h=>hne ((hlist _ hes).1 h);have hsz':e.on<listed.size:=by rw [hsz];exact hes
       simp [hsz'] at hl ⊢;exact hl
     rw [hready] at hmr;cases hmr
   subst hidx;cases l with
   |cons s l=>exact hal.elim
   |nil=>exact hQ μ K F H a w h hR hF hFr hag hd
  ·-- one that is ready is drawn to the front
   unfold Region.ready at hi;rw [nM] at hi;obtain⟨hi1,hi2⟩:=hi;have his:i<ops.size:=by simpa using hi1
   rw [x8] at hi2;have hun:listed.getD i true=false:=by simpa using hi2.1
   have hii:i∈idx:=(hlist i his).1 hun;obtain⟨pi,qi,pre,x,post,e1,e2,g1,⟨o,ho,hfit⟩,g3,g4,g5⟩:=zk.split hal hp hii;have hdeps:∀e∈o.after.toList,Region.binds .any e=true->e.on∉idx:=by
    intro e he hb;have h2:=hi2.2;rw [ho] at h2;simp only [QA,QB] at h2;rw [Array.all_eq_true_iff_forall_mem] at h2;have h3:=h2 e (by simpa using he);rw [hb] at h3;simp only [Bool.not_true,Bool.false_or] at h3;have hes:e.on<ops.size:=by have:=hlow i o ho e he hb;omega
    intro hmem;have h4:=(hlist _ hes).2 hmem;have hsz':e.on<listed.size:=by rw [hsz];exact hes
    simp [hsz'] at h3 h4;rw [h3] at h4;cases h4
   have hDi:∀j∈D i,j∉idx:=by
    intro j hj;rcases hD i o ho j hj with⟨e,he,hb,hej⟩|⟨k,hk,hks,hkj⟩
    ·have hen:=hdeps e he hb;rcases hej with rfl|hej
     ·exact hen
     ·exact hdc e.on (by have:=hlow i o ho e he hb;omega) hen j hej
    ·have hkn:k∉idx:=fun hm=>by
      have h4:=(hlist k hks).2 hm;have h5:=hX k hk;have hsz':k<listed.size:=by rw [hsz];exact hks
      simp [hsz'] at h4 h5;rw [h4] at h5;cases h5
     rcases hkj with rfl|hkj
     ·exact hkn
     ·exact hdc k hks hkn j hkj
   have hsw0:∀y∈pre,V3 b y x=true:=by
    intro y hy;obtain⟨j,hj,hh⟩:=g5 y hy;rcases hh with hh|hh
    ·exact absurd (by rw [e1];simp [hj]) (hDi j hh)
    ·exact hh
   have hsw:∀y∈pre,ZX y x=true:=fun y hy=>by
    have:=hsw0 y hy;unfold V3 at this;rw [x8] at this;exact this.1
   have hqp:(∀H,¬QP H)\/∀y∈pre,y.op.isC=false:=by
    rcases hb with rfl|hb
    ·refine .inr fun y hy=>?_;have:=hsw0 y hy;unfold V3 at this;rw [x8] at this;simpa using this.2
    ·exact .inl hb
   have hbl:∀y∈pre,Blind x y.dst:=fun y hy=>by
    have:=hsw y hy;unfold ZX at this;rw [x8] at this;obtain⟨t1,_⟩:=KR this.1;exact Blind.mk' fun k hk=>⟨(t1 k hk).1,(t1 k hk).2.1⟩
   rw [e2] at h haid hrs hdd;have hfm:(pre++x::post).filterMap (·.aid)=(pre++[x]).filterMap (·.aid)++post.filterMap (·.aid):=by
    rw [show pre++x::post=(pre++[x])++post by simp,List.filterMap_append]
   have hnd1:((pre++[x]).filterMap (·.aid)).Nodup:=by rw [hfm] at haid;exact (List.nodup_append.1 haid).1
   have hval:kz x F:=Cz hlt0 g1 hbl hqp hR hF hFr (fun y hy k hk=>hrs y (by simp [hy]) k hk) (by
    rw [List.filterMap_append] at hnd1;exact (List.nodup_append.1 hnd1).1) h
   have hfree:∀k∈(pre++[x]).filterMap (·.aid),base+k<H.nx/\H.get (base+k)=none:=by
    intro k hk;obtain⟨s,hs,hk'⟩:=KM.1 hk;have hs':s∈pre++x::post:=by
     rcases xu.1 hs with h|h
     ·simp [h]
     ·simp at h;subst h;simp
    obtain⟨r1,r2,r3⟩:=hrs s hs' k hk';refine⟨r2,?_⟩;cases hg:H.get (base+k) with
    |none=>rfl
    |some bk=>exact absurd (hR.dom _ _ hg) r1
   have hst1:CtxSt base ((pre++[x]).filterMap (·.aid)) ctx:=hst.sub fun k hk=>by
    rw [e2,hfm];exact xu.2 (.inl hk)
   have hsto:StOk K x F:=by
    refine⟨fun nn a' v hx b o' ha=>?_,fun g nn a' hx b o' ha=>?_⟩
    ·obtain⟨c,hc⟩:=OS hfit hx;have hv:=qy (a:=a) hR hF hc;rw [ha] at hv;exact hv.1
    ·obtain⟨c,hc⟩:=T4 hfit hx;have hv:=qy (a:=a) hR hF hc;rw [ha] at hv;exact hv.1
   have h':=Mm (N:=K) hsw hqp hst1 hval hsto (fun y hy k hk=>(hrs y (by simp [hy]) k hk).1) hfree hnd1 h;refine HI hlt0 ho hfit hR hF hFr (hrs x (by simp)) h' (fun μ' K' F' H' a' w' ctx' k1 k2 k3 k4 k5 k6 k7 k8 k9=>?_) fun μ' K' H' w' ch _ q1 q2 q3 q4 q5=>hP μ' K' F H' a w' ch q1 q2 q3 q4 q5 hag hd;have hidxlen:(pi++qi).length+1=idx.length:=by rw [e1];simp;omega
   have hndi:(pi++qi).Nodup/\i∉pi++qi:=by
    rw [e1] at hnd;have hperm:(pi++i::qi).Perm (i::(pi++qi)):=List.perm_middle;have:=(hperm.nodup_iff).1 hnd;exact⟨(YO.1 this).2,(YO.1 this).1⟩
   have hmem:∀j,j∈pi++qi↔j∈idx/\j≠i:=by
    intro j;rw [e1];constructor
    ·intro hj;refine⟨?_,fun e=>hndi.2 (e▸hj)⟩;rcases xu.1 hj with h|h
     ·simp [h]
     ·simp [h]
    ·rintro ⟨hj,hne⟩;rcases xu.1 hj with h|h
     ·simp [h]
     ·rcases zd.1 h with h|h
      ·exact absurd h hne
      ·simp [h]
   have haid':((pre++post).filterMap (·.aid)).Nodup/\∀k,x.aid=some k->k∉(pre++post).filterMap (·.aid):=by
    have hperm:(pre++x::post).Perm (x::(pre++post)):=List.perm_middle;have h1:=((hperm.filterMap (·.aid)).nodup_iff).1 haid;simp only [DO] at h1;cases hx:x.aid with
    |none=>rw [hx] at h1;exact⟨h1,by simp⟩
    |some k=>rw [hx] at h1;exact⟨(YO.1 h1).2,fun j hj=>by obtain rfl:=zsi hj;exact (YO.1 h1).1⟩
   refine ih (by simpa using hsz) (fun j hj=>?_) (fun j hj=>hin j ((hmem j).1 hj).1) hndi.1 (by omega) (fun j hj hjn k hk=>?_) g3 g4 haid'.1 ?_ (fun s hs k hk=>?_) k1 k2 k3 (fun s hs d hsd=>hdd s (by rcases xu.1 hs with h|h<;>simp [h]) d hsd) (fun t ht=>?_) (k4.trans hd) k9
   ·rw [hmem];by_cases e:j=i
    ·subst e;have:(listed.setIfInBounds j true).getD j true=true:=by
      have:j<listed.size:=by rw [hsz];exact his
      simp [this]
     rw [this];simp
    ·have:(listed.setIfInBounds i true).getD j true=listed.getD j true:=by
      simp only [nL];rw [Iy (fun h=>e h.symm)]
     rw [this,hlist j hj];simp [e]
   ·-- still closed downwards
    rw [hmem] at hjn;intro hkm;have hkm':=((hmem k).1 hkm).1;by_cases e:j=i
    ·subst e;exact hDi k hk hkm'
    ·have hji:j∉idx:=fun h=>hjn ⟨h,e⟩;exact hdc j hj hji k hk hkm'
   ·have hsub:∀k,k∈(pre++post).filterMap (·.aid)->k∈(pre++x::post).filterMap (·.aid):=fun k hk=>by
     obtain⟨s,hs,hk⟩:=KM.1 hk;exact KM.2 ⟨s,by rcases xu.1 hs with h|h<;>simp [h],hk⟩
    rw [e2] at hst;rcases k8 with rfl|⟨op,v,hv,rfl⟩
    ·exact hst.sub hsub
    ·refine (hst.sub hsub).cons (H:=H) (fun k hk=>?_) hv;obtain⟨s,hs,hks⟩:=KM.1 (hsub k hk);obtain⟨r1,r2,r3⟩:=hrs s hs k hks;refine⟨r2,?_⟩;cases hg:H.get (base+k) with
     |none=>rfl
     |some bk=>exact absurd (hR.dom _ _ hg) r1
   ·have hs':s∈pre++x::post:=by
     rcases xu.1 hs with h|h
     ·simp [h]
     ·simp [h]
    obtain⟨r1,r2,r3⟩:=hrs s hs' k hk;refine⟨fun hk'=>?_,by omega,r3⟩;rcases k6 _ r2 hk' with h|⟨j,hj,he⟩
    ·exact r1 h
    ·exact haid'.2 j hj (by
      have:j=k:=by omega
      rw [this];exact KM.2 ⟨s,hs,hk⟩)
   ·obtain⟨v,rfl⟩:=k7;rw [<-hag t ht];cases hsd:x.dst with
    |none=>rfl
    |some d=>exact T.get_set_ne _ _ fun e=>by subst e;exact ht (hdd x (by simp) _ hsd)
end
section
variable{P:Program}{G n:Nat}{ρ:Option (Option Nat)}{μ:Nat->Pl}{K:Nat->Prop}{H H':Hp}{w:World}
theorem Rel.junk(hR:Rel G μ K H w)(o:Obj):Rel G μ K H { w with heap:=w.heap.push o }/\Fr μ K H w μ K H { w with heap:=w.heap.push o }:=by
 have hh:∀i,i<w.heap.size->(w.heap.push o)[i]?=w.heap[i]?:=fun i hi=>by
  rw [LX,if_neg (by omega)]
 let r:=Fr.refl hR;exact⟨⟨hR.dom,hR.lt,fun b bk hb=>by
  show RB μ K (μ b) bk (w.heap.push o)[(μ b).blk]?
  rw [hh _ (hR.blk_lt hb)];exact hR.blk b bk hb,hR.inj,hR.glob⟩,
  ⟨⟨rfl,rfl,rfl,qz _⟩,by simp,fun i hi _=>hh i hi,r.img,r.newmut,r.mu,r.kk,r.knew,r.nx,r.none,r.stay,r.ro⟩⟩
def WE(F:T V):List Nat->List V->T V
 |t::ps,v::l=>WE (F.set t (some v)) ps l
 |_,_=>F
theorem tG:∀{ps:List Nat} {args:List V} {xs:List Value} {F:T V} {tmps:Array Value},xR μ K n F tmps->qe (RV μ K) args xs->
 xR μ K n (WE F ps args) ((ps.zip xs).foldl (fun tmps p=>tmps.setIfInBounds p.1 p.2) tmps)
 |[],_,_,_,_,hF,_=>hF
 |_::_,[],[],_,_,hF,_=>hF
 |t::ps,v::l,x::xs,F,tmps,hF,ha=>by
  refine tG (F:=F.set t (some v)) (tmps:=tmps.setIfInBounds t x) ⟨by simpa using hF.1,fun i hi=>?_⟩ ha.2;rw [T.get_set];by_cases e:i=t
  ·subst e;have:(tmps.setIfInBounds i x).getD i Go.undef=x:=by
    have:i<tmps.size:=by rw [hF.1];exact hi
    simp [nL,this]
   rw [this];simpa using ha.1
  ·have:(tmps.setIfInBounds t x).getD i Go.undef=tmps.getD i Go.undef:=by
    simp only [nL];rw [Iy (fun h=>e h.symm)]
   rw [this,if_neg e];exact hF.2 i hi
 |_::_,[],_::_,_,_,_,ha=>ha.elim
 |_::_,_::_,[],_,_,_,ha=>ha.elim
theorem Qy.lt{s:Nat}:∀{D:List Deferred} {L:List V},Qy μ K s w D L->∀d∈D,∀r,Y4 d=some r->r<w.heap.size
 |[],_,_,d,h,_,_=>by cases h
 |d0::D,L,hd,d,hm,r,hr=>by
  rcases zd.1 hm with rfl|hm
  ·rcases hd with⟨r',rfl,h1,h2,_⟩|⟨f,caps,L',_,_,rfl,_⟩
   ·obtain rfl:r'=r:=zsi hr;exact (nJ.1 h2).1
   ·cases hr
  ·rcases hd with⟨_,_,_,_,h⟩|⟨_,_,_,_,_,_,h⟩
   ·exact Qy.lt h d hm r hr
   ·exact Qy.lt h d hm r hr
theorem Qy.put{s:Nat}{r:Nat}:∀{D:List Deferred} {L:List V},Qy μ K s w D L->r∉D.filterMap Y4->∀o,Qy μ K s (w.putObj r o) D L
 |[],_,h,_,_=>h
 |d::D,L,hd,hr,o=>by
  rcases hd with⟨r',rfl,h1,h2,h3⟩|⟨f,caps,L',h1,h2,rfl,h3⟩
  ·have hr':r≠r'/\r∉D.filterMap Y4:=by
    have:r∉r'::D.filterMap Y4:=hr;simpa using this
   refine .inl ⟨r',rfl,h1,?_,Qy.put h3 hr'.2 o⟩;rw [World.putObj_heap_other (fun e=>hr'.1 e.symm)];exact h2
  ·exact .inr ⟨f,caps,L',h1,h2,rfl,Qy.put h3 hr o⟩
def tN(b:Nat)(R:V->Hp->Prop):Exit->T V->Hp->Prop
 |.normal,_,H=>∃st j f n F ps sg bd,H.get b=some (.lp st j f n F ps sg bd)/\R (.bool true) (H.add b (.lp .ready none f n F ps sg bd))
 |.ret,_,H=>∃st j f n F ps sg bd,H.get b=some (.lp st j f n F ps sg bd)/\R (.bool false) (H.add b (.lp .done (some .ret) f n F ps sg bd))
 |.exit id,_,H=>∃st j f n F ps sg bd,H.get b=some (.lp st j f n F ps sg bd)/\R (.bool false) (H.add b (.lp .done (some (.exit id)) f n F ps sg bd))
 |_,_,_=>False
theorem C4{b:Nat}{R:V->Hp->Prop}(hR:Rel G μ K H w)(jump:Option Code)(hQ:∃st j f n F ps sg bd,H.get b=some (.lp st j f n F ps sg bd)/\R (.bool jump.isNone) (H.add b (.lp (if jump.isNone then .ready else .done) jump f n F ps sg bd))):
 ∃x w',(Instr.endRound (μ b).blk jump).run P w=.ok x w'/\∃v H',R v H'/\RV μ K v x/\Rel G μ K H' w'/\Fr μ K H w μ K H' w':=by
 obtain⟨st,j,f,n,F,ps,sg,bd,hb,hr⟩:=hQ;obtain⟨tmps,df,ho,hsz,hF⟩:=hR.blk b _ hb;have hs:=hR.setB (bk':=.lp (if jump.isNone then .ready else .done) jump f n F ps sg bd) (o:=.loop ⟨if jump.isNone then .ready else .done,jump,f,tmps,ps,sg,bd,df⟩) hb rfl rfl ⟨tmps,df,rfl,hsz,hF⟩
 exact⟨_,_,run_endRound jump ho,_,_,hr,rfl,hs.1,hs.2⟩
theorem RP {b:Nat} {args:List V} {j:Option Code} {f:FuncId} {n:Nat} {F:T V} {ps:Array Tmp} {sg bd:Code} {R:V->Hp->Prop} (hb:H.get b=some (.lp .ready j f n F ps sg bd)) (hlen:args.length=ps.size)
 (h:∀l,jh (some (some l)) P G n sg (fun e F1 H1=>e=.normal/\∃j1 f1 n1 F0 ps1 as1 bd1,H1.get b=some (.lp .ready j1 f1 n1 F0 ps1 as1 bd1)/\jh (some (some l)) P G n bd (tN b R) F1 (H1.add b (.lp .busy j1 f1 n1 F0 ps1 as1 bd1))) (WE F ps.toList args) H):
 vO P G b args H R:=by
 intro μ K w xs hR hK ha;obtain⟨tmps,df,ho,hsz,hF⟩:=hR.blk b _ hb;refine⟨_,_,_,_,run_yield ho (by simp [<-ha.len,hlen]),roundIn_of_wpIn trivial ?_⟩;have hF1:xR μ K n (WE F ps.toList args) ((ps.zip xs.toArray).foldl (fun tmps (t,a)=>tmps.setIfInBounds t a) tmps):=by
  have:=tG (ps:=ps.toList) (F:=F) (tmps:=tmps) ⟨hsz,hF⟩ ha;have e:(ps.zip xs.toArray).foldl (fun tmps (t,a)=>tmps.setIfInBounds t a) tmps=(ps.toList.zip xs).foldl (fun tmps p=>tmps.setIfInBounds p.1 p.2) tmps:=by
   rw [<-Array.foldl_toList];simp
  rw [e];exact this
 refine wpIn_mono (h (μ b).blk w.heap.size μ K w ⟨_,[]⟩ hR hF1 (KK.nil w (fun h=>by cases h) (qz _))) fun e a1 w1 he=>?_;obtain⟨F1,H1,μ1,K1,hqe,hR1,hFr1,hfr1,hd1⟩:=he;obtain⟨rfl,j1,f1,n1,F0,ps1,as1,bd1,hb1,hbody⟩:e=.normal/\∃j1 f1 n1 F0 ps1 as1 bd1,H1.get b=some (.lp .ready j1 f1 n1 F0 ps1 as1 bd1)/\jh (some (some (μ b).blk)) P G n bd (tN b R) F1 (H1.add b (.lp .busy j1 f1 n1 F0 ps1 as1 bd1)):=by
  cases e<;>first|exact hqe|(have:=hqe.2.1;cases this)
 obtain⟨tmps1,df1,ho1,hsz1,hF01⟩:=hR1.blk b _ hb1;rw [hfr1.mu b hK] at ho1;have hs:=hR1.setB (bk':=.lp .busy j1 f1 n1 F0 ps1 as1 bd1) (o:=.loop ⟨.busy,j1,f1,tmps1,ps1,as1,bd1,df1⟩) hb1 rfl rfl ⟨tmps1,df1,rfl,hsz1,hF01⟩;rw [hfr1.mu b hK] at hs;refine⟨_,run_beginRound ho1 rfl,?_⟩;refine wpIn_mono (hbody _ μ1 K1 _ a1 hs.1 hFr1 (hd1.fr hR1 hs.2)) fun e a2 w2 he=>?_;obtain⟨F2,H2,μ2,K2,hq,hR2,hFr2,hfr2,hd2⟩:=he;have hfr:=(hfr1.trans hR.lt' hs.2).trans hR.lt' hfr2;have hmu:μ2 b=μ b:=hfr.mu b hK;have fin:∀(jump:Option Code),(∃st j f n F ps sg bd,H2.get b=some (.lp st j f n F ps sg bd)/\R (.bool jump.isNone) (H2.add b (.lp (if jump.isNone then .ready else .done) jump f n F ps sg bd)))->
  ∃v w',(Instr.endRound (μ b).blk jump).run P w2=.ok v w'/\∃x,Ending.returned v=.returned x/\∃v H' μ' K',R v H'/\RV μ' K' v x/\Rel G μ' K' H' w'/\Fr μ K H w μ' K' H' w':=by
  intro jump hj;obtain⟨x,w3,hr,v,H3,h1,h2,h3,h4⟩:=C4 (P:=P) (b:=b) hR2 jump hj;rw [hmu] at hr;exact⟨x,w3,hr,x,rfl,v,H3,μ2,K2,h1,h2,h3,hfr.trans hR.lt' h4⟩
 cases e with
 |normal=>exact fin none hq
 |ret=>exact fin (some .ret) hq
 |exit id=>exact fin (some (.exit id)) hq
 |goto l=>exact hq.elim
 |panic ch=>exact hq.2.elim
 |outgrown=>exact hq.elim
theorem Pp {g:Operand} {ps:Array Tmp} {sg bd:Code} {d:Opd} {f:FuncId} {caps:List (Nat × Nat)} {Q:Exit->T V->Hp->Prop} {F:T V} (hg:cO G n g=some d) (hdv:d.ev F=.one (.fn f caps)) (hf:wL P f=true)
 (h:∀fid,xc P G f (.one (.yld H.nx)::caps.map WO) (H.push (.lp .ready none fid n F ps sg bd)) fun _ H'=>∃st j f1 n1 F1 ps1 as1 bd1,H'.get H.nx=some (.lp st j f1 n1 F1 ps1 as1 bd1)/\st≠.busy/\
  (
   match j with
   |none=>Q .normal F (H'.add H.nx (.lp .exhausted none f1 n1 F1 ps1 as1 bd1))
   |some c=>jh none P G n c Q F (H'.add H.nx (.lp .exhausted (some c) f1 n1 F1 ps1 as1 bd1)))):
 jh none P G n (.rangeFunc g ps sg bd) Q F H:=by
 intro s μ K w a hR hF hd;refine wpIn_rangeFunc fun fid _=>?_;have hv:=qy hR hF hg;rw [hdv] at hv;obtain⟨hkc,hv'⟩:(∀p∈caps,K p.1)/\a.eval g=.func (.func f) #[] (caps.map fun p=>Value.pointer (some ((μ p.1).addr p.2))).toArray:=hv;obtain⟨hR1,hfr1⟩:=hR.junk (.deferred (some []));have hlp:RB μ K ⟨w.heap.size+1,0,0⟩ (.lp .ready none fid n F ps sg bd) (some (.loop ⟨.ready,none,fid,a.tmps,ps,sg,bd,w.heap.size⟩)):=⟨_,_,rfl,hF.1,hF.2⟩;have hpush:=hR1.push (d:=w.drawn) (sz:=0) (qz _) rfl (by simpa using hlp);simp only [Array.size_push] at hpush;obtain⟨hR2,hfr2⟩:=hpush;refine⟨w.heap.size+1,[{ target:=.collected w.heap.size,args:=#[] }],{ w with heap:=(w.heap.push (.deferred (some []))).push (.loop ⟨.ready,none,fid,a.tmps,ps,sg,bd,w.heap.size⟩) },⟨.fn (.func f) (caps.map fun p=>Value.pointer (some ((μ p.1).addr p.2))).toArray,#[.func (.yield (w.heap.size+1)) #[] #[]]⟩,{ w with heap:=(w.heap.push (.deferred (some []))).push (.loop ⟨.ready,none,fid,a.tmps,ps,sg,bd,w.heap.size⟩) },f,
  (Value.func (.yield (w.heap.size+1)) #[] #[]::caps.map fun p=>Value.pointer (some ((μ p.1).addr p.2))).toArray,{ w with heap:=(w.heap.push (.deferred (some []))).push (.loop ⟨.ready,none,fid,a.tmps,ps,sg,bd,w.heap.size⟩) },run_enterLoop_outer _ _ _ _ _,?_,(fun _ _=>trivial),?_,(fun h=>absurd h (by decide)),?_⟩
 ·have e1:a.eval (.const (.func (.yield (w.heap.size+1)) #[] #[]))=.func (.yield (w.heap.size+1)) #[] #[]:=rfl;simp [resolve,rangeCall,hv',Deferred.ofValue,e1]
 ·simp [invoke,Yi hf]
 ·have hargs:qe (RV (fun i=>if i=H.nx then (⟨w.heap.size+1,0,0⟩:Pl) else μ i) fun i=>K i\/i=H.nx) (.one (.yld H.nx)::caps.map WO) (Value.func (.yield (w.heap.size+1)) #[] #[]::caps.map fun p=>Value.pointer (some ((μ p.1).addr p.2))):=by
   refine⟨⟨.inr O,by simp⟩,?_⟩;refine qe.mk (by simp) fun j v x hv hx=>?_;simp only [jH,zom] at hv hx;obtain⟨p,hp,rfl⟩:=hv;obtain⟨p',hp',rfl⟩:=hx;rw [hp] at hp';obtain rfl:=zsi hp';have hkp:=hkc p (zmg hp);refine⟨.inl hkp,?_⟩;have:=hR.lt _ hkp;show Value.pointer (some ((μ p.1).addr p.2))=Value.pointer (some ((if p.1=H.nx then _ else μ p.1).addr p.2))
   rw [if_neg (by omega)]
  refine callsIn_wide.2 ((h fid _ _ _ _ hR2 hargs).mono fun e w3 he=>?_)
  ·obtain⟨x,rfl,v,H3,μ3,K3,⟨st,j,f1,n1,F1,ps1,as1,bd1,hb,hst,hj⟩,_,hR3,hfr3⟩:=he;have hfr:=(hfr1.trans hR.lt' hfr2).trans hR.lt' hfr3;have hmu:μ3 H.nx=⟨w.heap.size+1,0,0⟩:=by
    rw [hfr3.mu H.nx (.inr rfl)];simp
   obtain⟨tmps,df,ho,hsz,hF1⟩:=hR3.blk H.nx _ hb;have hs:=hR3.setB (bk':=.lp .exhausted j f1 n1 F1 ps1 as1 bd1) (o:=.loop ⟨.exhausted,j,f1,tmps,ps1,as1,bd1,df⟩) hb rfl rfl ⟨tmps,df,rfl,hsz,hF1⟩;rw [hmu] at ho hs;have hfr':=hfr.trans hR.lt' hs.2;have hF3:xR μ3 K3 n F a.tmps:=hF.mono hfr.kk hfr.mu;refine⟨j,_,run_endLoop ho hst,?_⟩;have hdef:KK none n μ3 K3 s ({ target:=.collected w.heap.size,args:=#[] }::a.defers) (w3.putObj (w.heap.size+1) (.loop ⟨.exhausted,j,f1,tmps,ps1,as1,bd1,df⟩)) []:=by
    have hD:=hd.fr hR hfr';refine⟨fun h=>(by cases h),hD.2.1,?_,.inl ⟨w.heap.size,O,hd.2.1,?_,hD.2.2.2⟩⟩
    ·show (w.heap.size::a.defers.filterMap Y4).Nodup
     refine YO.2 ⟨fun hm=>?_,hd.2.2.1⟩;obtain⟨d,hdm,hdr⟩:=KM.1 hm;have:=Qy.lt hd.2.2.2 d hdm _ hdr;omega
    ·have h0:(w.heap.push (.deferred (some [])))[w.heap.size]?=some (.deferred (some [])):=by simp
     exact uR hR1 ((hfr2.trans hR1.lt' hfr3).trans hR1.lt' hs.2) h0
   cases j with
   |none=>exact⟨F,_,μ3,K3,hj,hs.1,hF3,hfr',hdef⟩
   |some c=>
    exact wpIn_mono (hj s μ3 K3 _ { a with defers:={ target:=.collected w.heap.size,args:=#[] }::a.defers } hs.1 hF3 hdef) fun e a' w' he=>iH hR.lt' hfr' he
theorem Rel.mark(hR:Rel G μ K H w){r:Nat}{ds:Option (List Deferred)}(hr:w.heap[r]?=some (.deferred ds))(o:Obj):Rel G μ K H (w.putObj r o):=
 ⟨hR.dom,hR.lt,fun b bk hb=>by
  have hB:=hR.blk b bk hb;by_cases e:(μ b).blk=r
  ·rw [e,hr] at hB;cases bk with
   |row n z m rw=>obtain⟨_,_,_,h,_⟩:=hB;cases h
   |mp es=>obtain⟨_,_,h,_⟩:=hB;cases h
   |lp st j f n F ps sg bd=>obtain⟨_,_,h,_⟩:=hB;cases h
   |st=>obtain⟨_,_,h,_⟩:=hB;cases h
   |it=>obtain⟨_,_,h,_⟩:=hB;cases h
   |tr=>obtain⟨_,_,h,_⟩:=hB;cases h
  ·rw [World.putObj_heap_other e];exact hB,hR.inj,hR.glob⟩
theorem Fr.mark{μ0:Nat->Pl}{K0:Nat->Prop}{H0:Hp}{w0:World}(h:Fr μ0 K0 H0 w0 μ K H w){r:Nat}(hr:w0.heap.size<=r)(o:Obj):Fr μ0 K0 H0 w0 μ K H (w.putObj r o):=
 ⟨h.same,by simpa using h.size,fun i hi hne=>by rw [World.putObj_heap_other (by omega)];exact h.keep i hi hne,h.img,h.newmut,h.mu,h.kk,h.knew,h.nx,h.none,h.stay,h.ro⟩
def WQ:Bool->FrameMode->Prop
 |false,u=>u=.returning
 |true,u=>∃ch,u=.panicking ch/\lO ch
def Uq(P:Program)(G:Nat)(f:FuncId)(args:List V)(pan:Bool)(H:Hp)(R:Bool->Hp->Prop):Prop:=
 ∀(μ:Nat->Pl) (K:Nat->Prop) (w:World) (xs:List Value) (u:FrameMode),Rel G μ K H w->qe (RV μ K) args xs->WQ pan u->
  CallsDIn Fence.wide 0 P f xs.toArray u w fun e u' w'=>∃x,e=.returned x/\∃pan' H' μ' K',WQ pan' (settle u')/\R pan' H'/\Rel G μ' K' H' w'/\Fr μ K H w μ' K' H' w'
def JZ(P:Program)(G:Nat)(fin:Bool->Hp->Prop):List V->Bool->Hp->Prop
 |[],pan,H=>fin pan H
 |.one (.fn f caps)::L,pan,H=>wL P f=true/\Uq P G f (caps.map WO) pan H fun pan' H'=>JZ P G fin L pan' H'
 |_::_,_,_=>False
theorem WQ.run{b:Bool}{u:FrameMode}(h:WQ b u):u≠.run:=by
 cases b with
 |false=>rw [show u=.returning from h];simp
 |true=>obtain⟨ch,rfl,_⟩:=h;simp
theorem cQ {μ0 μ1:Nat->Pl} {K0 K1:Nat->Prop} {H0:Hp} {w0:World} (hlt0:∀b bk,H0.get b=some bk->b<H0.nx) {fn:Func} {tmps:Array Value} {R:Ending->World->Prop} {fin:Bool->Hp->Prop}
 (hfin:∀pan H μ K w u,fin pan H->WQ pan u->Rel G μ K H w->Fr μ0 K0 H0 w0 μ K H w->(∀b,K1 b->K b)->(∀b,K1 b->μ b=μ1 b)->LeavesIn Fence.wide 0 P fn tmps R [] u w):∀{D:List Deferred} {L:List V} {pan:Bool} {u:FrameMode} {μ:Nat->Pl} {K:Nat->Prop} {H:Hp} {w:World},w0.heap.size<=w.heap.size->(D.filterMap Y4).Nodup->Qy μ K w0.heap.size w D L->Rel G μ K H w->Fr μ0 K0 H0 w0 μ K H w->(∀b,K1 b->K b)->(∀b,K1 b->μ b=μ1 b)->WQ pan u->
 JZ P G fin L pan H->LeavesInM Fence.wide 0 P fn tmps R D u w
 |[],L,pan,u,μ,K,H,w,_,_,hd,hR,hFr,hk,hmu,hm,h=>by
  have hd:L=[]:=hd;subst hd;exact hfin pan H μ K w u h hm hR hFr hk hmu
 |d::D,L,pan,u,μ,K,H,w,hs,hnd,hd,hR,hFr,hk,hmu,hm,h=>by
  refine⟨hm.run,?_⟩;rcases hd with⟨r,rfl,h1,h2,h3⟩|⟨f,caps,L',rfl,h2,rfl,h3⟩
  ·have hnd':=YO.1 (show (r::D.filterMap Y4).Nodup from hnd);refine .inl ⟨r,_,O,run_takeDeferred h2,cQ hlt0 hfin (by simpa using hs) hnd'.2 (Qy.put h3 hnd'.1 _) (hR.mark h2 _) (hFr.mark h1 _) hk hmu hm h⟩
  ·obtain⟨hf,hc⟩:=h;refine .inr ⟨(fun h=>absurd h (by decide)),_,_,f,(caps.map fun p=>Value.pointer (some ((μ p.1).addr p.2))).toArray,O,?_,fun _ _=>trivial,?_⟩
   ·simp [invoke,Yi hf]
   ·have ha:qe (RV μ K) (caps.map WO) (caps.map fun p=>Value.pointer (some ((μ p.1).addr p.2))):=by
     refine qe.mk (by simp) fun j v x hv hx=>?_;simp only [jH,zom] at hv hx;obtain⟨p,hp,rfl⟩:=hv;obtain⟨p',hp',rfl⟩:=hx;rw [hp] at hp';obtain rfl:=zsi hp';exact⟨h2 p (zmg hp),O⟩
    refine (hc μ K w _ u hR ha hm).mono fun e u' w' he=>?_;obtain⟨x,rfl,pan',H',μ',K',k1,k2,k3,k4⟩:=he;exact cQ hlt0 hfin (aZ hs k4.size) hnd (h3.fr hR k4) k3 (hFr.trans hlt0 k4) (fun b hb=>k4.kk b (hk b hb)) (fun b hb=>(k4.mu b (hk b hb)).trans (hmu b hb)) k1 k2
end
end Go.Ab
