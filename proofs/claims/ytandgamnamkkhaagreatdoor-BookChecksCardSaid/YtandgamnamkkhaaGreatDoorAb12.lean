/- -/
import Derived.Test.YtandgamnamkkhaaGreatDoorAb11
set_option linter.unusedSimpArgs false
set_option linter.unusedVariables false
set_option maxRecDepth 8000
namespace Go.Ab
section
variable{P:Program}{G n:Nat}{ρ:Option (Option Nat)}{μ:Nat->Pl}{K:Nat->Prop}{H H':Hp}{w:World}
theorem Rel.junk(hR:Rel G μ K H w)(o:Obj):Rel G μ K H { w with heap:=w.heap.push o }/\Fr μ K H w μ K H { w with heap:=w.heap.push o }:=by
 have hh:∀i,i<w.heap.size->(w.heap.push o)[i]?=w.heap[i]?:=fun i hi=>by
  rw [Array.getElem?_push,if_neg (by omega)]
 let r:=Fr.refl hR;exact⟨⟨hR.dom,hR.lt,fun b bk hb=>by
  show RB μ K (μ b) bk (w.heap.push o)[(μ b).blk]?
  rw [hh _ (hR.blk_lt hb)];exact hR.blk b bk hb,hR.inj,hR.glob⟩,
  ⟨⟨rfl,rfl,rfl,Nat.le_refl _⟩,by simp,fun i hi _=>hh i hi,r.img,r.newmut,r.mu,r.kk,r.knew,r.nx,r.none,r.stay,r.ro⟩⟩
def Z3(F:T V):List Nat->List V->T V
 |t::ps,v::l=>Z3 (F.set t (some v)) ps l
 |_,_=>F
theorem d9:∀{ps:List Nat} {args:List V} {xs:List Value} {F:T V} {tmps:Array Value},xy μ K n F tmps->qe (RV μ K) args xs->
 xy μ K n (Z3 F ps args) ((ps.zip xs).foldl (fun tmps p=>tmps.setIfInBounds p.1 p.2) tmps)
 |[],_,_,_,_,hF,_=>hF
 |_::_,[],[],_,_,hF,_=>hF
 |t::ps,v::l,x::xs,F,tmps,hF,ha=>by
  refine d9 (F:=F.set t (some v)) (tmps:=tmps.setIfInBounds t x) ⟨by simpa using hF.1,fun i hi=>?_⟩ ha.2;rw [T.get_set];by_cases e:i=t
  ·subst e;have:(tmps.setIfInBounds i x).getD i Go.undef=x:=by
    have:i<tmps.size:=by rw [hF.1];exact hi
    simp [Array.getD_eq_getD_getElem?,this]
   rw [this];simpa using ha.1
  ·have:(tmps.setIfInBounds t x).getD i Go.undef=tmps.getD i Go.undef:=by
    simp only [Array.getD_eq_getD_getElem?];rw [Array.getElem?_setIfInBounds_ne (fun h=>e h.symm)]
   rw [this,if_neg e];exact hF.2 i hi
 |_::_,[],_::_,_,_,_,ha=>ha.elim
 |_::_,_::_,[],_,_,_,ha=>ha.elim
theorem kS.lt{s:Nat}:∀{D:List Deferred} {L:List V},kS μ K s w D L->∀d∈D,∀r,QJ d=some r->r<w.heap.size
 |[],_,_,d,h,_,_=>by cases h
 |d0::D,L,hd,d,hm,r,hr=>by
  rcases List.mem_cons.1 hm with rfl|hm
  ·rcases hd with⟨r',rfl,h1,h2,_⟩|⟨f,caps,L',_,_,rfl,_⟩
   ·obtain rfl:r'=r:=zsi hr;exact (Array.getElem?_eq_some_iff.1 h2).1
   ·cases hr
  ·rcases hd with⟨_,_,_,_,h⟩|⟨_,_,_,_,_,_,h⟩
   ·exact kS.lt h d hm r hr
   ·exact kS.lt h d hm r hr
theorem kS.put{s:Nat}{r:Nat}:∀{D:List Deferred} {L:List V},kS μ K s w D L->r∉D.filterMap QJ->∀o,kS μ K s (w.putObj r o) D L
 |[],_,h,_,_=>h
 |d::D,L,hd,hr,o=>by
  rcases hd with⟨r',rfl,h1,h2,h3⟩|⟨f,caps,L',h1,h2,rfl,h3⟩
  ·have hr':r≠r'/\r∉D.filterMap QJ:=by
    have:r∉r'::D.filterMap QJ:=hr;simpa using this
   refine .inl ⟨r',rfl,h1,?_,kS.put h3 hr'.2 o⟩;rw [World.putObj_heap_other (fun e=>hr'.1 e.symm)];exact h2
  ·exact .inr ⟨f,caps,L',h1,h2,rfl,kS.put h3 hr o⟩
def eC(b:Nat)(R:V->Hp->Prop):Exit->T V->Hp->Prop
 |.normal,_,H=>∃st j f n F ps sg bd,H.get b=some (.lp st j f n F ps sg bd)/\R (.bool true) (H.add b (.lp .ready none f n F ps sg bd))
 |.ret,_,H=>∃st j f n F ps sg bd,H.get b=some (.lp st j f n F ps sg bd)/\R (.bool false) (H.add b (.lp .done (some .ret) f n F ps sg bd))
 |.exit id,_,H=>∃st j f n F ps sg bd,H.get b=some (.lp st j f n F ps sg bd)/\R (.bool false) (H.add b (.lp .done (some (.exit id)) f n F ps sg bd))
 |_,_,_=>False
theorem i8{b:Nat}{R:V->Hp->Prop}(hR:Rel G μ K H w)(jump:Option Code)(hQ:∃st j f n F ps sg bd,H.get b=some (.lp st j f n F ps sg bd)/\R (.bool jump.isNone) (H.add b (.lp (if jump.isNone then .ready else .done) jump f n F ps sg bd))):
 ∃x w',(Instr.endRound (μ b).blk jump).run P w=.ok x w'/\∃v H',R v H'/\RV μ K v x/\Rel G μ K H' w'/\Fr μ K H w μ K H' w':=by
 obtain⟨st,j,f,n,F,ps,sg,bd,hb,hr⟩:=hQ;obtain⟨tmps,df,ho,hsz,hF⟩:=hR.blk b _ hb;have hs:=hR.setB (bk':=.lp (if jump.isNone then .ready else .done) jump f n F ps sg bd) (o:=.loop ⟨if jump.isNone then .ready else .done,jump,f,tmps,ps,sg,bd,df⟩) hb rfl rfl ⟨tmps,df,rfl,hsz,hF⟩
 exact⟨_,_,run_endRound jump ho,_,_,hr,rfl,hs.1,hs.2⟩
theorem BE {b:Nat} {args:List V} {j:Option Code} {f:FuncId} {n:Nat} {F:T V} {ps:Array Tmp} {sg bd:Code} {R:V->Hp->Prop} (hb:H.get b=some (.lp .ready j f n F ps sg bd)) (hlen:args.length=ps.size)
 (h:∀l,zY (some (some l)) P G n sg (fun e F1 H1=>e=.normal/\∃j1 f1 n1 F0 ps1 as1 bd1,H1.get b=some (.lp .ready j1 f1 n1 F0 ps1 as1 bd1)/\zY (some (some l)) P G n bd (eC b R) F1 (H1.add b (.lp .busy j1 f1 n1 F0 ps1 as1 bd1))) (Z3 F ps.toList args) H):
 kj P G b args H R:=by
 intro μ K w xs hR hK ha;obtain⟨tmps,df,ho,hsz,hF⟩:=hR.blk b _ hb;refine⟨_,_,_,_,run_yield ho (by simp [<-ha.len,hlen]),roundIn_of_wpIn trivial ?_⟩;have hF1:xy μ K n (Z3 F ps.toList args) ((ps.zip xs.toArray).foldl (fun tmps (t,a)=>tmps.setIfInBounds t a) tmps):=by
  have:=d9 (ps:=ps.toList) (F:=F) (tmps:=tmps) ⟨hsz,hF⟩ ha;have e:(ps.zip xs.toArray).foldl (fun tmps (t,a)=>tmps.setIfInBounds t a) tmps=(ps.toList.zip xs).foldl (fun tmps p=>tmps.setIfInBounds p.1 p.2) tmps:=by
   rw [<-Array.foldl_toList];simp
  rw [e];exact this
 refine wpIn_mono (h (μ b).blk w.heap.size μ K w ⟨_,[]⟩ hR hF1 (YR.nil w (fun h=>by cases h) (Nat.le_refl _))) fun e a1 w1 he=>?_;obtain⟨F1,H1,μ1,K1,hqe,hR1,hFr1,hfr1,hd1⟩:=he;obtain⟨rfl,j1,f1,n1,F0,ps1,as1,bd1,hb1,hbody⟩:e=.normal/\∃j1 f1 n1 F0 ps1 as1 bd1,H1.get b=some (.lp .ready j1 f1 n1 F0 ps1 as1 bd1)/\zY (some (some (μ b).blk)) P G n bd (eC b R) F1 (H1.add b (.lp .busy j1 f1 n1 F0 ps1 as1 bd1)):=by
  cases e<;>first|exact hqe|(have:=hqe.2.1;cases this)
 obtain⟨tmps1,df1,ho1,hsz1,hF01⟩:=hR1.blk b _ hb1;rw [hfr1.mu b hK] at ho1;have hs:=hR1.setB (bk':=.lp .busy j1 f1 n1 F0 ps1 as1 bd1) (o:=.loop ⟨.busy,j1,f1,tmps1,ps1,as1,bd1,df1⟩) hb1 rfl rfl ⟨tmps1,df1,rfl,hsz1,hF01⟩;rw [hfr1.mu b hK] at hs;refine⟨_,run_beginRound ho1 rfl,?_⟩;refine wpIn_mono (hbody _ μ1 K1 _ a1 hs.1 hFr1 (hd1.fr hR1 hs.2)) fun e a2 w2 he=>?_;obtain⟨F2,H2,μ2,K2,hq,hR2,hFr2,hfr2,hd2⟩:=he;have hfr:=(hfr1.trans hR.lt' hs.2).trans hR.lt' hfr2;have hmu:μ2 b=μ b:=hfr.mu b hK;have fin:∀(jump:Option Code),(∃st j f n F ps sg bd,H2.get b=some (.lp st j f n F ps sg bd)/\R (.bool jump.isNone) (H2.add b (.lp (if jump.isNone then .ready else .done) jump f n F ps sg bd)))->
  ∃v w',(Instr.endRound (μ b).blk jump).run P w2=.ok v w'/\∃x,Ending.returned v=.returned x/\∃v H' μ' K',R v H'/\RV μ' K' v x/\Rel G μ' K' H' w'/\Fr μ K H w μ' K' H' w':=by
  intro jump hj;obtain⟨x,w3,hr,v,H3,h1,h2,h3,h4⟩:=i8 (P:=P) (b:=b) hR2 jump hj;rw [hmu] at hr;exact⟨x,w3,hr,x,rfl,v,H3,μ2,K2,h1,h2,h3,hfr.trans hR.lt' h4⟩
 cases e with
 |normal=>exact fin none hq
 |ret=>exact fin (some .ret) hq
 |exit id=>exact fin (some (.exit id)) hq
 |goto l=>exact hq.elim
 |panic ch=>exact hq.2.elim
 |outgrown=>exact hq.elim
theorem UN {g:Operand} {ps:Array Tmp} {sg bd:Code} {d:Opd} {f:FuncId} {caps:List (Nat × Nat)} {Q:Exit->T V->Hp->Prop} {F:T V} (hg:cO G n g=some d) (hdv:d.ev F=.one (.fn f caps)) (hf:zR P f=true)
 (h:∀fid,qK P G f (.one (.yld H.nx)::caps.map vQ) (H.push (.lp .ready none fid n F ps sg bd)) fun _ H'=>∃st j f1 n1 F1 ps1 as1 bd1,H'.get H.nx=some (.lp st j f1 n1 F1 ps1 as1 bd1)/\st≠.busy/\
  (
   match j with
   |none=>Q .normal F (H'.add H.nx (.lp .exhausted none f1 n1 F1 ps1 as1 bd1))
   |some c=>zY none P G n c Q F (H'.add H.nx (.lp .exhausted (some c) f1 n1 F1 ps1 as1 bd1)))):
 zY none P G n (.rangeFunc g ps sg bd) Q F H:=by
 intro s μ K w a hR hF hd;refine wpIn_rangeFunc fun fid _=>?_;have hv:=qr hR hF hg;rw [hdv] at hv;obtain⟨hkc,hv'⟩:(∀p∈caps,K p.1)/\a.eval g=.func (.func f) #[] (caps.map fun p=>Value.pointer (some ((μ p.1).addr p.2))).toArray:=hv;obtain⟨hR1,hfr1⟩:=hR.junk (.deferred (some []));have hlp:RB μ K ⟨w.heap.size+1,0,0⟩ (.lp .ready none fid n F ps sg bd) (some (.loop ⟨.ready,none,fid,a.tmps,ps,sg,bd,w.heap.size⟩)):=⟨_,_,rfl,hF.1,hF.2⟩;have hpush:=hR1.push (d:=w.drawn) (sz:=0) (Nat.le_refl _) rfl (by simpa using hlp);simp only [Array.size_push] at hpush;obtain⟨hR2,hfr2⟩:=hpush;refine⟨w.heap.size+1,[{ target:=.collected w.heap.size,args:=#[] }],{ w with heap:=(w.heap.push (.deferred (some []))).push (.loop ⟨.ready,none,fid,a.tmps,ps,sg,bd,w.heap.size⟩) },⟨.fn (.func f) (caps.map fun p=>Value.pointer (some ((μ p.1).addr p.2))).toArray,#[.func (.yield (w.heap.size+1)) #[] #[]]⟩,{ w with heap:=(w.heap.push (.deferred (some []))).push (.loop ⟨.ready,none,fid,a.tmps,ps,sg,bd,w.heap.size⟩) },f,
  (Value.func (.yield (w.heap.size+1)) #[] #[]::caps.map fun p=>Value.pointer (some ((μ p.1).addr p.2))).toArray,{ w with heap:=(w.heap.push (.deferred (some []))).push (.loop ⟨.ready,none,fid,a.tmps,ps,sg,bd,w.heap.size⟩) },run_enterLoop_outer _ _ _ _ _,?_,(fun _ _=>trivial),?_,(fun h=>absurd h (by decide)),?_⟩
 ·have e1:a.eval (.const (.func (.yield (w.heap.size+1)) #[] #[]))=.func (.yield (w.heap.size+1)) #[] #[]:=rfl;simp [resolve,rangeCall,hv',Deferred.ofValue,e1]
 ·simp [invoke,Xu hf]
 ·have hargs:qe (RV (fun i=>if i=H.nx then (⟨w.heap.size+1,0,0⟩:Pl) else μ i) fun i=>K i\/i=H.nx) (.one (.yld H.nx)::caps.map vQ) (Value.func (.yield (w.heap.size+1)) #[] #[]::caps.map fun p=>Value.pointer (some ((μ p.1).addr p.2))):=by
   refine⟨⟨.inr rfl,by simp⟩,?_⟩;refine qe.mk (by simp) fun j v x hv hx=>?_;simp only [List.getElem?_map,zom] at hv hx;obtain⟨p,hp,rfl⟩:=hv;obtain⟨p',hp',rfl⟩:=hx;rw [hp] at hp';obtain rfl:=zsi hp';have hkp:=hkc p (zmg hp);refine⟨.inl hkp,?_⟩;have:=hR.lt _ hkp;show Value.pointer (some ((μ p.1).addr p.2))=Value.pointer (some ((if p.1=H.nx then _ else μ p.1).addr p.2))
   rw [if_neg (by omega)]
  refine callsIn_wide.2 ((h fid _ _ _ _ hR2 hargs).mono fun e w3 he=>?_)
  ·obtain⟨x,rfl,v,H3,μ3,K3,⟨st,j,f1,n1,F1,ps1,as1,bd1,hb,hst,hj⟩,_,hR3,hfr3⟩:=he;have hfr:=(hfr1.trans hR.lt' hfr2).trans hR.lt' hfr3;have hmu:μ3 H.nx=⟨w.heap.size+1,0,0⟩:=by
    rw [hfr3.mu H.nx (.inr rfl)];simp
   obtain⟨tmps,df,ho,hsz,hF1⟩:=hR3.blk H.nx _ hb;have hs:=hR3.setB (bk':=.lp .exhausted j f1 n1 F1 ps1 as1 bd1) (o:=.loop ⟨.exhausted,j,f1,tmps,ps1,as1,bd1,df⟩) hb rfl rfl ⟨tmps,df,rfl,hsz,hF1⟩;rw [hmu] at ho hs;have hfr':=hfr.trans hR.lt' hs.2;have hF3:xy μ3 K3 n F a.tmps:=hF.mono hfr.kk hfr.mu;refine⟨j,_,run_endLoop ho hst,?_⟩;have hdef:YR none n μ3 K3 s ({ target:=.collected w.heap.size,args:=#[] }::a.defers) (w3.putObj (w.heap.size+1) (.loop ⟨.exhausted,j,f1,tmps,ps1,as1,bd1,df⟩)) []:=by
    have hD:=hd.fr hR hfr';refine⟨fun h=>(by cases h),hD.2.1,?_,.inl ⟨w.heap.size,rfl,hd.2.1,?_,hD.2.2.2⟩⟩
    ·show (w.heap.size::a.defers.filterMap QJ).Nodup
     refine List.nodup_cons.2 ⟨fun hm=>?_,hd.2.2.1⟩;obtain⟨d,hdm,hdr⟩:=List.mem_filterMap.1 hm;have:=kS.lt hd.2.2.2 d hdm _ hdr;omega
    ·have h0:(w.heap.push (.deferred (some [])))[w.heap.size]?=some (.deferred (some [])):=by simp
     exact fW hR1 ((hfr2.trans hR1.lt' hfr3).trans hR1.lt' hs.2) h0
   cases j with
   |none=>exact⟨F,_,μ3,K3,hj,hs.1,hF3,hfr',hdef⟩
   |some c=>
    exact wpIn_mono (hj s μ3 K3 _ { a with defers:={ target:=.collected w.heap.size,args:=#[] }::a.defers } hs.1 hF3 hdef) fun e a' w' he=>Vc hR.lt' hfr' he
theorem Rel.mark(hR:Rel G μ K H w){r:Nat}{ds:Option (List Deferred)}(hr:w.heap[r]?=some (.deferred ds))(o:Obj):Rel G μ K H (w.putObj r o):=
 ⟨hR.dom,hR.lt,fun b bk hb=>by
  have hB:=hR.blk b bk hb;by_cases e:(μ b).blk=r
  ·rw [e,hr] at hB;cases bk with
   |row n z m rw=>obtain⟨_,_,_,h,_⟩:=hB;cases h
   |mp es=>obtain⟨_,_,h,_⟩:=hB;cases h
   |lp st j f n F ps sg bd=>obtain⟨_,_,h,_⟩:=hB;cases h
   |st=>obtain⟨_,_,h,_⟩:=hB;cases h
   |it=>obtain⟨_,_,h,_⟩:=hB;cases h
   |tr=>obtain⟨_,_,h,_⟩:=hB;cases h
  ·rw [World.putObj_heap_other e];exact hB,hR.inj,hR.glob⟩
theorem Fr.mark{μ0:Nat->Pl}{K0:Nat->Prop}{H0:Hp}{w0:World}(h:Fr μ0 K0 H0 w0 μ K H w){r:Nat}(hr:w0.heap.size<=r)(o:Obj):Fr μ0 K0 H0 w0 μ K H (w.putObj r o):=
 ⟨h.same,by simpa using h.size,fun i hi hne=>by rw [World.putObj_heap_other (by omega)];exact h.keep i hi hne,h.img,h.newmut,h.mu,h.kk,h.knew,h.nx,h.none,h.stay,h.ro⟩
def Yf:Bool->FrameMode->Prop
 |false,u=>u=.returning
 |true,u=>∃ch,u=.panicking ch/\VH ch
def U4(P:Program)(G:Nat)(f:FuncId)(args:List V)(pan:Bool)(H:Hp)(R:Bool->Hp->Prop):Prop:=
 ∀(μ:Nat->Pl) (K:Nat->Prop) (w:World) (xs:List Value) (u:FrameMode),Rel G μ K H w->qe (RV μ K) args xs->Yf pan u->
  CallsDIn Fence.wide 0 P f xs.toArray u w fun e u' w'=>∃x,e=.returned x/\∃pan' H' μ' K',Yf pan' (settle u')/\R pan' H'/\Rel G μ' K' H' w'/\Fr μ K H w μ' K' H' w'
def vf(P:Program)(G:Nat)(fin:Bool->Hp->Prop):List V->Bool->Hp->Prop
 |[],pan,H=>fin pan H
 |.one (.fn f caps)::L,pan,H=>zR P f=true/\U4 P G f (caps.map vQ) pan H fun pan' H'=>vf P G fin L pan' H'
 |_::_,_,_=>False
theorem Yf.run{b:Bool}{u:FrameMode}(h:Yf b u):u≠.run:=by
 cases b with
 |false=>rw [show u=.returning from h];simp
 |true=>obtain⟨ch,rfl,_⟩:=h;simp
theorem W4 {μ0 μ1:Nat->Pl} {K0 K1:Nat->Prop} {H0:Hp} {w0:World} (hlt0:∀b bk,H0.get b=some bk->b<H0.nx) {fn:Func} {tmps:Array Value} {R:Ending->World->Prop} {fin:Bool->Hp->Prop}
 (hfin:∀pan H μ K w u,fin pan H->Yf pan u->Rel G μ K H w->Fr μ0 K0 H0 w0 μ K H w->(∀b,K1 b->K b)->(∀b,K1 b->μ b=μ1 b)->LeavesIn Fence.wide 0 P fn tmps R [] u w):∀{D:List Deferred} {L:List V} {pan:Bool} {u:FrameMode} {μ:Nat->Pl} {K:Nat->Prop} {H:Hp} {w:World},w0.heap.size<=w.heap.size->(D.filterMap QJ).Nodup->kS μ K w0.heap.size w D L->Rel G μ K H w->Fr μ0 K0 H0 w0 μ K H w->(∀b,K1 b->K b)->(∀b,K1 b->μ b=μ1 b)->Yf pan u->
 vf P G fin L pan H->LeavesInM Fence.wide 0 P fn tmps R D u w
 |[],L,pan,u,μ,K,H,w,_,_,hd,hR,hFr,hk,hmu,hm,h=>by
  have hd:L=[]:=hd;subst hd;exact hfin pan H μ K w u h hm hR hFr hk hmu
 |d::D,L,pan,u,μ,K,H,w,hs,hnd,hd,hR,hFr,hk,hmu,hm,h=>by
  refine⟨hm.run,?_⟩;rcases hd with⟨r,rfl,h1,h2,h3⟩|⟨f,caps,L',rfl,h2,rfl,h3⟩
  ·have hnd':=List.nodup_cons.1 (show (r::D.filterMap QJ).Nodup from hnd);refine .inl ⟨r,_,rfl,run_takeDeferred h2,W4 hlt0 hfin (by simpa using hs) hnd'.2 (kS.put h3 hnd'.1 _) (hR.mark h2 _) (hFr.mark h1 _) hk hmu hm h⟩
  ·obtain⟨hf,hc⟩:=h;refine .inr ⟨(fun h=>absurd h (by decide)),_,_,f,(caps.map fun p=>Value.pointer (some ((μ p.1).addr p.2))).toArray,rfl,?_,fun _ _=>trivial,?_⟩
   ·simp [invoke,Xu hf]
   ·have ha:qe (RV μ K) (caps.map vQ) (caps.map fun p=>Value.pointer (some ((μ p.1).addr p.2))):=by
     refine qe.mk (by simp) fun j v x hv hx=>?_;simp only [List.getElem?_map,zom] at hv hx;obtain⟨p,hp,rfl⟩:=hv;obtain⟨p',hp',rfl⟩:=hx;rw [hp] at hp';obtain rfl:=zsi hp';exact⟨h2 p (zmg hp),rfl⟩
    refine (hc μ K w _ u hR ha hm).mono fun e u' w' he=>?_;obtain⟨x,rfl,pan',H',μ',K',k1,k2,k3,k4⟩:=he;exact W4 hlt0 hfin (Nat.le_trans hs k4.size) hnd (h3.fr hR k4) k3 (hFr.trans hlt0 k4) (fun b hb=>k4.kk b (hk b hb)) (fun b hb=>(k4.mu b (hk b hb)).trans (hmu b hb)) k1 k2
end
inductive SC where
 |skip
 /-- operations;st:one of them may panic -/
 |ops (l:List SOper) (res:Nat) (st:Bool)
 /-- operations,and a deferred call behind them;.. and a panic -/
 |df (l:List SOper) (d:Opd)
 |pn (l:List SOper) (d:Opd)
 |seq (a b:SC)
 |cond (d:Opd) (a b:SC)
 |block (id:Nat) (a:SC)
 |loop (a:SC)
 |exit (id:Nat)
 |ret
 /-- a range over a function:the function,a round's parameters,what it assigns,what it does -/
 |rf (d:Opd) (ps:List Nat) (a b:SC)
 |scope (a:SC)
 /-- not covered:no run comes here -/
 |no
structure Extra where
 aid:Nat->Option Nat
 watch:Nat->List Nat
 keep:Nat->Bool
def hU(P:Program)(G n:Nat)(ops:Array Oper)(x:Extra)(i:Nat):Option SOper:=
 match ops[i]? with
 |none=>none
 |some o=>match p7 P G n o,JL n ops o.guard with
  |some op,some g=>if V3 n o.dst then some ⟨i,o.dst,op,g,x.aid i,x.watch i,x.keep i⟩ else none
  |_,_=>none
def wJ(P:Program)(G n:Nat)(ops:Array Oper)(x:Extra):List Nat->Option (List SOper)
 |[]=>some []
 |i::r=>match hU P G n ops x i,wJ P G n ops x r with
  |some s,some l=>some (s::l)
  |_,_=>none
def kJ:Extra:=⟨fun _=>none,fun _=>[],fun _=>false⟩
def gQ(ops:List Oper):List (List Nat):=
 ops.foldl (init:=[]) fun acc o=>acc++[(o.after.toList.foldl (init:=[]) fun s e=>if Region.binds .any e then (e.on::acc.getD e.on []).foldl (fun s j=>if s.contains j then s else j::s) s else s)]
def Kd.light:Kd->Bool
 |.p=>true
 |.l=>true
 |_=>false
def oN(D:List (List Nat))(kds:List Kd):Nat->List Nat->List Nat->List Nat
 |0,_,acc=>acc.reverse
 |f+1,rest,acc=>
  let ok:=fun i=>(D.getD i []).all fun j=>acc.contains j
  match rest.find? fun i=>(kds.getD i .e).light&&ok i with
  |some i=>oN D kds f (rest.filter (·!=i)) (i::acc)
  |none=>match rest.find? fun i=>!(kds.getD i .e).light with
   |some i=>oN D kds f (rest.filter (·!=i)) (i::acc)
   |none=>acc.reverse
def pF(P:Program)(G n:Nat)(ops:List Oper):List Kd:=ops.map fun o=>match p7 P G n o with
 |some op=>op.kd
 |none=>.e
def Kd.isL:Kd->Bool
 |.l=>true
 |_=>false
def Kd.isA:Kd->Bool
 |.a=>true
 |_=>false
def Kd.isE:Kd->Bool
 |.e=>true
 |.c=>true
 |_=>false
def VA(D:List (List Nat))(kds:List Kd):List Nat->List Nat->List (Nat × List Nat)
 |[],_=>[]
 |i::r,ls=>
  if (kds.getD i .e).isE then (i,ls.filter fun j=>!(D.getD i []).contains j)::VA D kds r ls
  else VA D kds r (if (kds.getD i .e).isL then i::ls else ls)
def KG(b:Bool)(D:List (List Nat)):List Nat->List SOper->Bool
 |i::xa,s::l=>((xa.zip l).all fun p=>(D.getD p.1 []).contains i||JS b s p.2)&&KG b D xa l
 |_,_=>true
def Je:List Nat->Bool
 |[]=>true
 |i::l=>!l.contains i&&Je l
def pT(D:List (List Nat))(ops:Array Oper)(i:Nat):Bool:=
 match ops[i]? with
 |none=>true
 |some o=>(D.getD i []).all (fun j=>o.after.toList.any fun e=>Region.binds .any e&&(e.on==j||(D.getD e.on []).contains j))&&o.after.toList.all fun e=>!Region.binds .any e||decide (e.on<i)
def c4(b:Bool)(D:List (List Nat))(ops:Array Oper)(xa:List Nat)(l:List SOper)(res:Nat):Bool:=
 KG b D xa l&&Je xa&&xa.all (fun i=>decide (i<ops.size))&&(List.range ops.size).all (fun i=>xa.contains i)&&(List.range ops.size).all (pT D ops)&&Je (l.filterMap (·.aid))&&decide (xa.length<=ops.size)&&(l.filterMap (·.aid)).all fun k=>decide (k<res)
def Kz(D:List (List Nat))(kds:List Kd):Nat->List Nat->List Nat->List Nat
 |0,_,acc=>acc.reverse
 |f+1,rest,acc=>
  let ok:=fun i=>(D.getD i []).all fun j=>acc.contains j
  match rest.find? fun i=>(kds.getD i .e).light&&ok i with
  |some i=>Kz D kds f (rest.filter (·!=i)) (i::acc)
  |none=>match rest.find? fun i=>(kds.getD i .e).isE&&ok i with
   |some i=>Kz D kds f (rest.filter (·!=i)) (i::acc)
   |none=>match rest.find? fun i=>!(kds.getD i .e).light with
    |some i=>Kz D kds f (rest.filter (·!=i)) (i::acc)
    |none=>acc.reverse
def YA(P:Program)(G n:Nat)(ops:Array Oper)(xa:List Nat):Option (List SOper × Bool):=
 let D:=gQ ops.toList;let kds:=pF P G n ops.toList;let ws:=VA D kds xa [];let x:Extra:=⟨fun i=>if (kds.getD i .e).isA then some i else none,fun i=>((ws.find? fun p=>p.1==i).map (·.2)).getD [],fun i=>ws.any fun p=>p.2.contains i⟩
 match wJ P G n ops x xa with
 |none=>none
 |some l=>if c4 true D ops xa l ops.size then some (l,true) else if c4 false D ops xa l ops.size then some (l,false) else none
def hY(P:Program)(G n:Nat)(ops:Array Oper):Option (List SOper × Bool):=
 match YA P G n ops (oN (gQ ops.toList) (pF P G n ops.toList) ops.size (List.range ops.size) []) with
 |some l=>some l
 |none=>YA P G n ops (Kz (gQ ops.toList) (pF P G n ops.toList) ops.size (List.range ops.size) [])
def c8(P:Program)(G n:Nat)(ops:Array Oper):Option SC:=
 match ops[ops.size-1]? with
 |some o=>match o.op,o.guard,o.dst with
  |.defer { callee:=.value c,args:=args,argTypes:=_ },none,none=>if args.isEmpty then match cO G n c,wJ P G n ops kJ (List.range (ops.size-1)) with
   |some d,some l=>some (.df l d)
   |_,_=>none
   else none
  |.panic c,none,_=>match cO G n c,wJ P G n ops kJ (List.range (ops.size-1)) with
   |some d,some l=>some (.pn l d)
   |_,_=>none
  |_,_,_=>(wJ P G n ops kJ (List.range ops.size)).map fun l=>.ops l 0 true
 |none=>(wJ P G n ops kJ (List.range ops.size)).map fun l=>.ops l 0 true
def xe(P:Program)(G n:Nat):Code->Option SC
 |.skip=>some .skip
 |.region _ ops draw=>
  if draw then (hY P G n ops).map fun l=>.ops l.1 ops.size l.2
  else c8 P G n ops
 |.seq a b=>match xe P G n a,xe P G n b with
  |some a,some b=>some (.seq a b)
  |_,_=>none
 |.cond c a b=>match cO G n c,xe P G n a,xe P G n b with
  |some d,some a,some b=>some (.cond d a b)
  |_,_,_=>none
 |.block id a=>(xe P G n a).map (.block id)
 |.loop a=>(xe P G n a).map .loop
 |.exit id=>some (.exit id)
 |.ret=>some .ret
 |.rangeFunc g ps sg bd=>match cO G n g,xe P G n sg,xe P G n bd with
  |some d,some a,some b=>some (.rf d ps.toList a b)
  |_,_,_=>none
 |.scope a=>(xe P G n a).map .scope
 |.label _=>some .skip
 |_=>some .no
inductive SRes where
 |t (n:Nat)
 |cell (agg:Bool) (k:Nat) (n:Nat)
def QB(F:T V)(H:Hp):SRes->Option V
 |.t n=>some ((F.get n).getD V.undef)
 |.cell agg k n=>qA F H (.load agg k (.t n))
def yI(F:T V)(H:Hp):List SRes->Option (List V)
 |[]=>some []
 |r::l=>match QB F H r,yI F H l with
  |some v,some vs=>if jq v then some (v::vs) else none
  |_,_=>none
def xE(F:T V)(H:Hp)(rs:List SRes):Option V:=
 match yI F H rs with
 |some [v]=>some v
 |some vs=>some (.tup vs)
 |none=>none
def Yz(P:Program)(n:Nat):List ResultVar->Option (List SRes)
 |[]=>some []
 |.tmp t::l=>if t<n then (Yz P n l).map (.t t::·) else none
 |.cell a t::l=>match Xw P t,zh P t with
  |some g,some k=>if a<n then (Yz P n l).map (.cell g k a::·) else none
  |_,_=>none
structure SFn where
 n:Nat
 code:SC
 res:List SRes
def zK(P:Program)(G:Nat)(f:FuncId):Option SFn:=
 match P.funcs[f]? with
 |none=>none
 |some fn=>match fn.body with
  |none=>none
  |some c=>match xe P G fn.ntmps c,Yz P fn.ntmps fn.results.toList with
   |some s,some rs=>some ⟨fn.ntmps,s,rs⟩
   |_,_=>none
def zr:List V->Nat->T V
 |[],_=>.lf
 |v::l,i=>(zr l (i+1)).set i (some v)
def Xd(rs:List SRes)(R:V->Hp->Prop):Exit->T V->Hp->Prop
 |.normal,F,H=>match xE F H rs with
  |some v=>R v H
  |none=>False
 |.ret,F,H=>match xE F H rs with
  |some v=>R v H
  |none=>False
 |_,_,_=>False
def Jx(rs:List SRes)(R:V->Hp->Prop)(S:Hp->Prop)(F:T V):Bool->Hp->Prop
 |false,H=>match xE F H rs with
  |some v=>R v H
  |none=>False
 |true,H=>S H
def El(ρ:Option (Option Nat))(P:Program)(G:Nat)(rs:List SRes)(R:V->Hp->Prop)(S:Hp->Prop):Exit->T V->Hp->Prop
 |.normal,F,H=>vf P G (Jx rs R S F) (dL ρ F) false H
 |.ret,F,H=>vf P G (Jx rs R S F) (dL ρ F) false H
 |.panic _,F,H=>vf P G (Jx rs R S F) (dL ρ F) true H
 |_,_,_=>False
def zX(ρ:Option (Option Nat))(P:Program)(G n:Nat)(s:SC)(Q:Exit->T V->Hp->Prop)(F:T V)(H:Hp):Prop:=∀c,xe P G n c=some s->zY ρ P G n c Q F H
abbrev U2:=zX none
section
variable{P:Program}{G n:Nat}{ρ:Option (Option Nat)}
theorem lB{ops:Array Oper}{x:Extra}{i:Nat}{s:SOper}(h:hU P G n ops x i=some s):(∃o,ops[i]?=some o/\rM P G n ops o s)/\s.aid=x.aid i:=by
 unfold hU at h;split at h
 ·cases h
 ·rename_i o ho;split at h
  ·rename_i op g h1 h2;split at h
   ·rename_i h3;obtain rfl:=zsi h;exact⟨⟨o,ho,h1,rfl,h3,h2⟩,rfl⟩
   ·cases h
  ·cases h
theorem yn{ops:Array Oper}{x:Extra}:∀{xa:List Nat} {l:List SOper},wJ P G n ops x xa=some l->xZ P G n ops xa l/\∀s∈l,∃i∈xa,s.aid=x.aid i
 |[],l,h=>by simp [wJ] at h;subst h;exact⟨trivial,by simp⟩
 |i::xa,l,h=>by
  simp only [wJ] at h;split at h
  ·rename_i s r h1 h2;obtain rfl:=zsi h;obtain⟨g1,g2⟩:=lB h1;obtain⟨g3,g4⟩:=yn h2;refine⟨⟨g1,g3⟩,fun t ht=>?_⟩;rcases List.mem_cons.1 ht with rfl|ht
   ·exact⟨i,by simp,g2⟩
   ·obtain⟨j,hj,e⟩:=g4 t ht;exact⟨j,by simp [hj],e⟩
  ·cases h
theorem aV{b:Bool}{D:List (List Nat)}:∀{xa:List Nat} {l:List SOper},KG b D xa l=true->ZV b (fun i=>D.getD i []) xa l
 |i::xa,s::l,h=>by
  simp only [KG,xt,List.all_eq_true] at h;refine⟨fun j t hjt=>?_,aV h.2⟩;have:=h.1 (j,t) hjt;simp only [Bool.or_eq_true] at this;exact this.imp (by simp) id
 |[],_,_=>trivial
 |_::_,[],_=>trivial
theorem Jd:∀{l:List Nat},Je l=true->l.Nodup
 |[],_=>List.nodup_nil
 |i::l,h=>by
  simp only [Je,xt] at h;exact List.nodup_cons.2 ⟨by simpa using h.1,Jd h.2⟩
theorem iK (hm:P.follows .mixedOrders=true) {id res:Nat} {ops:Array Oper} {b:Bool} {D:List (List Nat)} {xa:List Nat} {l:List SOper} (hal:xZ P G n ops xa l) (hB:c4 b D ops xa l res=true)
 {Q:Exit->T V->Hp->Prop} {F:T V} {H:Hp} (h:qv P G H.nx (if b then kA Q (xS l) F else fun _=>False) (Q .normal) l [] F (H.skip res)):zY ρ P G n (.region id ops true) Q F H:=by
 intro s μ K w a hR hF hd;unfold c4 at hB;simp only [xt,List.all_eq_true,xF,List.mem_range] at hB;obtain⟨⟨⟨⟨⟨⟨⟨h1,h2⟩,h3⟩,h4⟩,h5⟩,h6⟩,h8⟩,h7⟩:=hB;have hdep:∀i o,ops[i]?=some o->pT D ops i=true:=fun i o ho=>h5 i (Array.getElem?_eq_some_iff.1 ho).1;refine wpIn_region_any hm ?_;have hR':=(hR.drawn (w.drawn+1)).skip res;refine UT (D:=fun i=>D.getD i []) (b:=b) (F0:=F) (ds:=xS l) (base:=H.nx) (QP:=if b then kA Q (xS l) F else fun _=>False) (Q:=Q .normal) (μ0:=μ) (K0:=K) (H0:=H) (w0:=w) hR.lt' (fun μ' K' F' H' a' w' g1 g2 g3 g4 hag g5=>⟨F',H',μ',K',g1,g2,g3,g4,by rw [g5,ww hd.1 hal.dsts hag];exact hd.fr hR g4⟩) (fun μ' K' F' H' a' w' ch g0 hch g2 g3 g4 hag g5=>?_) ?_ (fun i o ho j hj=>?_) (fun i o ho e he hb=>?_)
  (by simp) (fun i hi=>?_) (fun i hi=>h3 i hi) (Jd h2) ?_ (fun i hi hni=>?_) hal (aV h1) (Jd h6) (fun k p hp=>by cases hp) (fun s hs k hk=>?_) hR' hF ((Fr.drawn hR _ (Nat.le_succ _)).trans hR.lt' (Fr.skip (hR.drawn _) res)) vr (fun _ _=>rfl) rfl h
 ·cases b with
  |false=>exact g0.elim
  |true=>exact⟨F',H',μ',K',⟨hch,g0 F' hag⟩,g2,g3,g4,by rw [g5,ww hd.1 hal.dsts hag];exact hd.fr hR g4⟩
 ·cases b with
  |false=>exact .inr fun _ h=>h
  |true=>exact .inl rfl
 ·have:=hdep i o ho;unfold pT at this;rw [ho] at this;simp only [xt,List.all_eq_true,List.any_eq_true,Bool.or_eq_true] at this;obtain⟨e,he,hb,hh⟩:=this.1 j hj;exact⟨e,he,hb,hh.imp (by simp) (by simp)⟩
 ·have:=hdep i o ho;unfold pT at this;rw [ho] at this;simp only [xt,List.all_eq_true,Bool.or_eq_true,xF,Bool.not_eq_true'] at this;rcases this.2 e he with h|h
  ·rw [hb] at h;cases h
  ·exact h
 ·constructor
  ·intro _;have:=h4 i hi;simpa using this
  ·intro _;simp [hi]
 ·exact h8
 ·exact absurd (by have:=h4 i hi;simpa using this) hni
 ·have hk':k<res:=h7 k (List.mem_filterMap.2 ⟨s,hs,hk⟩);refine⟨fun hkk=>absurd (hR.lt _ hkk) (by omega),by simp;omega,by omega⟩
def SC.isReg:SC->Bool
 |.ops ..=>true
 |.df ..=>true
 |.pn ..=>true
 |_=>false
theorem Za{ops:Array Oper}{s:SC}(h:c8 P G n ops=some s):
 (∃l,s=.ops l 0 true/\wJ P G n ops kJ (List.range ops.size)=some l)\/
 (∃o k c ts l d,s=.df l d/\ops.size=k+1/\ops[k]?=some o/\o.op=.defer { callee:=.value c,args:=#[],argTypes:=ts }/\o.guard=none/\o.dst=none/\cO G n c=some d/\wJ P G n ops kJ (List.range k)=some l)\/
 (∃o k c l d,s=.pn l d/\ops.size=k+1/\ops[k]?=some o/\o.op=.panic c/\o.guard=none/\cO G n c=some d/\wJ P G n ops kJ (List.range k)=some l):=by
 unfold c8 at h;split at h
 ·rename_i o ho;have hk:∃k,ops.size=k+1/\ops.size-1=k:=by
   have:=(Array.getElem?_eq_some_iff.1 ho).1;exact⟨ops.size-1,by omega,rfl⟩
  obtain⟨k,hk1,hk2⟩:=hk;rw [hk2] at ho h;split at h
  ·rename_i c args ts h1 h2 h3;split at h
   ·rename_i he;split at h
    ·rename_i d l hd hl;obtain rfl:=zsi h;have he':args=#[]:=by simpa using he
     subst he';exact .inr (.inl ⟨o,k,c,ts,l,d,rfl,hk1,ho,h1,h2,h3,hd,hl⟩)
    ·cases h
   ·cases h
  ·rename_i c h1 h2;split at h
   ·rename_i d l hd hl;obtain rfl:=zsi h;exact .inr (.inr ⟨o,k,c,l,d,rfl,hk1,ho,h1,h2,hd,hl⟩)
   ·cases h
  ·simp only [zom] at h;obtain⟨l,hl,rfl⟩:=h;exact .inl ⟨l,rfl,hl⟩
 ·simp only [zom] at h;obtain⟨l,hl,rfl⟩:=h;exact .inl ⟨l,rfl,hl⟩
theorem yU{draw:Bool}{ops:Array Oper}{s:SC}(h:(if draw=true then (hY P G n ops).map fun l=>SC.ops l.1 ops.size l.2 else c8 P G n ops)=some s):s.isReg=true:=by
 split at h
 ·simp only [zom] at h;obtain⟨l,_,rfl⟩:=h;rfl
 ·rcases Za h with⟨l,rfl,_⟩|⟨o,k,c,ts,l,d,rfl,_⟩|⟨o,k,c,l,d,rfl,_⟩<;>rfl
theorem WP{Q:Exit->T V->Hp->Prop}{F:T V}{H:Hp}(h:Q .normal F H):zX ρ P G n .skip Q F H:=by
 intro c hc;cases c<;>simp only [xe] at hc<;>try (cases hc;done)
 case skip=>exact EN h
 case label l=>exact BG h
 case region id ops draw=>exact absurd (yU hc) (by simp [SC.isReg])
 case seq a b=>split at hc<;>cases hc
 case rangeFunc g ps a b=>split at hc<;>cases hc
 case cond d a b=>split at hc<;>cases hc
 case block id a=>simp at hc
 case loop a=>simp at hc
 case scope a=>simp at hc
theorem JR(hm:P.follows .mixedOrders=true){l:List SOper}{res:Nat}{st:Bool}{Q:Exit->T V->Hp->Prop}{F:T V}{H:Hp}(h:qv P G H.nx (if st then kA Q (xS l) F else fun _=>False) (Q .normal) l [] F (H.skip res)):zX ρ P G n (.ops l res st) Q F H:=by
 intro c hc;cases c<;>simp only [xe] at hc<;>try (cases hc;done)
 case region id ops draw=>
  cases draw with
  |false=>
   simp only [Bool.false_eq_true,if_false] at hc;rcases Za hc with⟨l',he,hl⟩|⟨o,k,c,ts,l,d,he,_⟩|⟨o,k,c,l,d,he,_⟩
   ·injection he with e1 e2 e3
    subst e1 e2 e3;obtain⟨h1,h2⟩:=yn hl;exact rH h1 (fun s hs=>by obtain⟨i,_,e⟩:=h2 s hs;exact e) h
   ·cases he
   ·cases he
  |true=>
   simp only [if_true,zom,SC.ops.injEq] at hc;obtain⟨l',hl,rfl,rfl,rfl⟩:=hc;have by_:∀xa (l'':List SOper × Bool),YA P G n ops xa=some l''->qv P G H.nx (if l''.2 then kA Q (xS l''.1) F else fun _=>False) (Q .normal) l''.1 [] F (H.skip ops.size)->zY ρ P G n (.region id ops true) Q F H:=by
    intro xa l'' hl h;unfold YA at hl;simp only at hl;split at hl
    ·cases hl
    ·rename_i l3 hall;split at hl
     ·rename_i hB;obtain rfl:=zsi hl;exact iK hm (yn hall).1 hB h
     ·split at hl
      ·rename_i hB;obtain rfl:=zsi hl;exact iK hm (yn hall).1 hB h
      ·cases hl
   unfold hY at hl;split at hl
   ·rename_i l2 h2;obtain rfl:=zsi hl;exact by_ _ _ h2 h
   ·exact by_ _ _ hl h
 case seq a b=>split at hc<;>cases hc
 case rangeFunc g ps a b=>split at hc<;>cases hc
 case cond d a b=>split at hc<;>cases hc
 case block id a=>simp at hc
 case loop a=>simp at hc
 case scope a=>simp at hc
theorem sC{l:List SOper}{d:Opd}{Q:Exit->T V->Hp->Prop}{F:T V}{H:Hp}(h:qv P G H.nx (kA Q (xS l) F) (fun F' H'=>∃f caps,d.ev F'=.one (.fn f caps)/\Q .normal (F'.set wU (some (.tup (.one (.fn f caps)::jc F')))) H') l [] F H):zX (some none) P G n (.df l d) Q F H:=by
 intro c hc;cases c<;>simp only [xe] at hc<;>try (cases hc;done)
 case region id ops draw=>
  cases draw with
  |false=>
   simp only [Bool.false_eq_true,if_false] at hc;rcases Za hc with⟨l',he,hl⟩|⟨o,k,c,ts,l',d',he,hk,ho,hoo,hg,hdst,hd,hl⟩|⟨o,k,c,l',d',he,_⟩
   ·cases he
   ·injection he with e1 e2
    subst e1 e2;obtain⟨h1,h2⟩:=yn hl;exact UP hk h1 (fun s hs=>by obtain⟨i,_,e⟩:=h2 s hs;exact e) ho hoo hg hdst hd h
   ·cases he
  |true=>
   simp only [if_true,zom] at hc;obtain⟨_,_,he⟩:=hc;cases he
 case seq a b=>split at hc<;>cases hc
 case rangeFunc g ps a b=>split at hc<;>cases hc
 case cond d a b=>split at hc<;>cases hc
 case block id a=>simp at hc
 case loop a=>simp at hc
 case scope a=>simp at hc
theorem sB{l:List SOper}{d:Opd}{Q:Exit->T V->Hp->Prop}{F:T V}{H:Hp}(h:qv P G H.nx (kA Q (xS l) F) (fun F' H'=>d.ev F'=.one .ifa/\kA Q (xS l) F H') l [] F H):zX ρ P G n (.pn l d) Q F H:=by
 intro c hc;cases c<;>simp only [xe] at hc<;>try (cases hc;done)
 case region id ops draw=>
  cases draw with
  |false=>
   simp only [Bool.false_eq_true,if_false] at hc;rcases Za hc with⟨l',he,hl⟩|⟨o,k,c,ts,l',d',he,_⟩|⟨o,k,c,l',d',he,hk,ho,hoo,hg,hd,hl⟩
   ·cases he
   ·cases he
   ·injection he with e1 e2
    subst e1 e2;obtain⟨h1,h2⟩:=yn hl;exact UO hk h1 (fun s hs=>by obtain⟨i,_,e⟩:=h2 s hs;exact e) ho hoo hg hd h
  |true=>
   simp only [if_true,zom] at hc;obtain⟨_,_,he⟩:=hc;cases he
 case seq a b=>split at hc<;>cases hc
 case rangeFunc g ps a b=>split at hc<;>cases hc
 case cond d a b=>split at hc<;>cases hc
 case block id a=>simp at hc
 case loop a=>simp at hc
 case scope a=>simp at hc
theorem VC{a b:SC}{Q:Exit->T V->Hp->Prop}{F:T V}{H:Hp}(h:zX ρ P G n a (cP (zX ρ P G n b Q) Q) F H):zX ρ P G n (.seq a b) Q F H:=by
 intro c hc;cases c<;>simp only [xe] at hc<;>try (cases hc;done)
 case seq x y=>
  split at hc
  ·rename_i x' y' hx hy;simp only [zoi,SC.seq.injEq] at hc;obtain⟨rfl,rfl⟩:=hc;refine MA (Kk (h x hx) fun e F' H' he=>?_);cases e with
   |normal=>exact (show zX ρ P G n y' Q F' H' from he) y hy
   |_=>exact he
  ·cases hc
 case region id ops draw=>exact absurd (yU hc) (by simp [SC.isReg])
 case cond d a b=>split at hc<;>cases hc
 case block id a=>simp at hc
 case loop a=>simp at hc
 case scope a=>simp at hc
 case rangeFunc g ps a b=>split at hc<;>cases hc
theorem ZY{d:Opd}{a b:SC}{Q:Exit->T V->Hp->Prop}{F:T V}{H:Hp}{t:Bool}(ht:d.ev F=.one (.bool t))(h:zX ρ P G n (if t then a else b) Q F H):zX ρ P G n (.cond d a b) Q F H:=by
 intro c hc;cases c<;>simp only [xe] at hc<;>try (cases hc;done)
 case cond o x y=>
  split at hc
  ·rename_i d' x' y' h1 hx hy;simp only [zoi,SC.cond.injEq] at hc;obtain⟨rfl,rfl,rfl⟩:=hc;refine EP h1 ht ?_;cases t
   ·exact h y hy
   ·exact h x hx
  ·cases hc
 case region id ops draw=>exact absurd (yU hc) (by simp [SC.isReg])
 case seq a b=>split at hc<;>cases hc
 case rangeFunc g ps a b=>split at hc<;>cases hc
 case block id a=>simp at hc
 case loop a=>simp at hc
 case scope a=>simp at hc
theorem YW{id:Nat}{a:SC}{Q:Exit->T V->Hp->Prop}{F:T V}{H:Hp}(h:zX ρ P G n a (ZR id Q) F H):zX ρ P G n (.block id a) Q F H:=by
 intro c hc;cases c<;>simp only [xe] at hc<;>try (cases hc;done)
 case block id' x=>
  simp only [zom,SC.block.injEq] at hc;obtain⟨x',hx,rfl,rfl⟩:=hc;exact BH (h x hx)
 case region id ops draw=>exact absurd (yU hc) (by simp [SC.isReg])
 case seq a b=>split at hc<;>cases hc
 case rangeFunc g ps a b=>split at hc<;>cases hc
 case cond d a b=>split at hc<;>cases hc
 case loop a=>simp at hc
 case scope a=>simp at hc
theorem dW{a:SC}{Q:Exit->T V->Hp->Prop}{F:T V}{H:Hp}(I:Nat->T V->Hp->Prop){m:Nat}(h0:I m F H)(round:∀m F H,I m F H->zX ρ P G n a (cP (fun F' H'=>∃m',m'<m/\I m' F' H') Q) F H):zX ρ P G n (.loop a) Q F H:=by
 intro c hc;cases c<;>simp only [xe] at hc<;>try (cases hc;done)
 case loop x=>
  simp only [zom,SC.loop.injEq] at hc;obtain⟨x',hx,rfl⟩:=hc;exact EO I h0 fun m F H hI=>round m F H hI x hx
 case region id ops draw=>exact absurd (yU hc) (by simp [SC.isReg])
 case seq a b=>split at hc<;>cases hc
 case rangeFunc g ps a b=>split at hc<;>cases hc
 case cond d a b=>split at hc<;>cases hc
 case block id a=>simp at hc
 case scope a=>simp at hc
theorem aK{a:SC}{Q:Exit->T V->Hp->Prop}{F:T V}{H:Hp}(h:zX ρ P G n a (sV Q) F H):zX ρ P G n (.scope a) Q F H:=by
 intro c hc;cases c<;>simp only [xe] at hc<;>try (cases hc;done)
 case scope x=>
  simp only [zom,SC.scope.injEq] at hc;obtain⟨x',hx,rfl⟩:=hc;exact BF (h x hx)
 case rangeFunc g ps a b=>split at hc<;>cases hc
 case region id ops draw=>exact absurd (yU hc) (by simp [SC.isReg])
 case seq a b=>split at hc<;>cases hc
 case cond d a b=>split at hc<;>cases hc
 case block id a=>simp at hc
 case loop a=>simp at hc
theorem dX{id:Nat}{Q:Exit->T V->Hp->Prop}{F:T V}{H:Hp}(h:Q (.exit id) F H):zX ρ P G n (.exit id) Q F H:=by
 intro c hc;cases c<;>simp only [xe] at hc<;>try (cases hc;done)
 case exit id'=>simp only [zoi,SC.exit.injEq] at hc;subst hc;exact iJ h
 case region id ops draw=>exact absurd (yU hc) (by simp [SC.isReg])
 case seq a b=>split at hc<;>cases hc
 case rangeFunc g ps a b=>split at hc<;>cases hc
 case cond d a b=>split at hc<;>cases hc
 case block id a=>simp at hc
 case loop a=>simp at hc
 case scope a=>simp at hc
theorem VD{Q:Exit->T V->Hp->Prop}{F:T V}{H:Hp}(h:Q .ret F H):zX ρ P G n .ret Q F H:=by
 intro c hc;cases c<;>simp only [xe] at hc<;>try (cases hc;done)
 case ret=>exact nU h
 case region id ops draw=>exact absurd (yU hc) (by simp [SC.isReg])
 case seq a b=>split at hc<;>cases hc
 case rangeFunc g ps a b=>split at hc<;>cases hc
 case cond d a b=>split at hc<;>cases hc
 case block id a=>simp at hc
 case loop a=>simp at hc
 case scope a=>simp at hc
def Al(Q:Exit->T V->Hp->Prop):Option Code->T V->Hp->Prop
 |none=>Q .normal
 |some .ret=>Q .ret
 |some (.exit id)=>Q (.exit id)
 |_=>fun _ _=>False
theorem NE {d:Opd} {ps:List Nat} {sa sb:SC} {f:FuncId} {caps:List (Nat × Nat)} {Q:Exit->T V->Hp->Prop} {F:T V} {H:Hp} (hdv:d.ev F=.one (.fn f caps)) (hf:zR P f=true)
 (h:∀fid sg bd,xe P G n sg=some sa->xe P G n bd=some sb->qK P G f (.one (.yld H.nx)::caps.map vQ) (H.push (.lp .ready none fid n F ps.toArray sg bd)) fun _ H'=>∃st j f1 n1 F1 ps1 as1 bd1,H'.get H.nx=some (.lp st j f1 n1 F1 ps1 as1 bd1)/\st≠.busy/\
  Al Q j F (H'.add H.nx (.lp .exhausted j f1 n1 F1 ps1 as1 bd1))):U2 P G n (.rf d ps sa sb) Q F H:=by
 intro c hc;cases c<;>simp only [xe] at hc<;>try (cases hc;done)
 case rangeFunc g ps' sg bd=>
  split at hc
  ·rename_i d' a' b' hg ha hb;simp only [zoi,SC.rf.injEq] at hc;obtain⟨rfl,rfl,rfl,rfl⟩:=hc;refine UN hg hdv hf fun fid=>(h fid sg bd ha hb).mono fun _ H' hh=>?_;obtain⟨st,j,f1,n1,F1,ps1,as1,bd1,h1,h2,h3⟩:=hh;refine⟨st,j,f1,n1,F1,ps1,as1,bd1,by simpa using h1,h2,?_⟩;cases j with
   |none=>exact h3
   |some c=>cases c<;>first|exact h3.elim|exact nU h3|exact iJ h3
  ·cases hc
 case region id ops draw=>exact absurd (yU hc) (by simp [SC.isReg])
 case seq a b=>split at hc<;>cases hc
 case cond d a b=>split at hc<;>cases hc
 case block id a=>simp at hc
 case loop a=>simp at hc
 case scope a=>simp at hc
theorem sA {b:Nat} {args:List V} {j:Option Code} {f:FuncId} {F:T V} {ps:Array Tmp} {sg bd:Code} {sa sb:SC} {R:V->Hp->Prop} {H:Hp} (hb:H.get b=some (.lp .ready j f n F ps sg bd)) (hlen:args.length=ps.size) (ha:xe P G n sg=some sa) (hbd:xe P G n bd=some sb)
 (h:∀l,zX (some (some l)) P G n sa (fun e F1 H1=>e=.normal/\∃j1 f1 n1 F0 ps1 as1 bd1,H1.get b=some (.lp .ready j1 f1 n1 F0 ps1 as1 bd1)/\zX (some (some l)) P G n sb (eC b R) F1 (H1.add b (.lp .busy j1 f1 n1 F0 ps1 as1 bd1))) (Z3 F ps.toList args) H):
 kj P G b args H R:=
 BE hb hlen fun l=>Kk (h l sg ha) fun e F1 H1 ⟨he,j1,f1,n1,F0,ps1,as1,bd1,h1,h2⟩=>⟨he,j1,f1,n1,F0,ps1,as1,bd1,h1,h2 bd hbd⟩
theorem zP{s:SC}{Q Q':Exit->T V->Hp->Prop}{F:T V}{H:Hp}(h:zX ρ P G n s Q F H)(hq:∀e F H,Q e F H->Q' e F H):zX ρ P G n s Q' F H:=
 fun c hc=>Kk (h c hc) hq
def WF(H:Hp):Prop:=∀b bk,H.get b=some bk->b<H.nx
theorem BN{f:FuncId}{args:List V}{H:Hp}{R:V->Hp->Prop}(h:WF H->qK P G f args H R):qK P G f args H R:=
 fun μ K w xs hR ha=>h hR.lt' μ K w xs hR ha
theorem qK.wf{f:FuncId}{args:List V}{H:Hp}{R:V->Hp->Prop}(h:qK P G f args H R):qK P G f args H fun v H'=>R v H'/\WF H':=
 fun μ K w xs hR ha=>(h μ K w xs hR ha).mono fun _ _ ⟨x,he,v,H',μ',K',h1,h2,h3,h4⟩=>⟨x,he,v,H',μ',K',⟨h1,h3.lt'⟩,h2,h3,h4⟩
theorem Jp:∀{l:List V} {i j:Nat},(zr l i).get j=if i<=j then l[j-i]? else none
 |[],i,j=>by simp [zr]
 |v::l,i,j=>by
  simp only [zr];rw [T.get_set];by_cases e:j=i
  ·subst e;simp
  ·rw [if_neg e,Jp];by_cases h:i+1<=j
   ·rw [if_pos h,if_pos (by omega),show j-i=(j-(i+1))+1 by omega];simp
   ·rw [if_neg h,if_neg (by omega)]
def Y6(tmps:Array Value):ResultVar->Sem Value
 |.tmp t=>pure (tmps.getD t Go.undef)
 |.cell c t=>do loadVar t (<-asAddr (tmps.getD c Go.undef))
theorem Jj{rv:List ResultVar}{r:ResultVar}{f:ResultVar->Sem Value}{x:Value}{xs:List Value}{w:World}(h1:(f r).run P w=.ok x w)(h2:(rv.mapM f).run P w=.ok xs w):((r::rv).mapM f).run P w=.ok (x::xs) w:=by
 rw [List.mapM_cons,Sem.run_bind,h1,Result.andThen_ok,Sem.run_bind,h2];rfl
theorem V5{μ:Nat->Pl}{K:Nat->Prop}{F:T V}{H:Hp}{w:World}{a:Act}(hR:Rel G μ K H w)(hF:xy μ K n F a.tmps):∀{rv:List ResultVar} {rs:List SRes} {vs:List V},Yz P n rv=some rs->yI F H rs=some vs->
 ∃xs:List Value,qe (x8 μ K) vs xs/\(rv.mapM (Y6 a.tmps)).run P w=.ok xs w
 |[],rs,vs,h1,h2=>by
  simp [Yz] at h1;subst h1;simp [yI] at h2;subst h2;exact⟨[],trivial,by simp⟩
 |.tmp t::rv,rs,vs,h1,h2=>by
  simp only [Yz] at h1;split at h1
  ·rename_i ht;simp only [zom] at h1;obtain⟨rs',hrs,rfl⟩:=h1;simp only [yI,QB] at h2;split at h2
   ·rename_i v vs' e1 e2;split at h2
    ·rename_i hone;obtain rfl:=zsi h2;obtain rfl:=zsi e1;obtain⟨xs,hall,hrun⟩:=V5 hR hF hrs e2;exact⟨a.tmps.getD t Go.undef::xs,⟨W5 hone (hF.2 t ht),hall⟩,Jj rfl hrun⟩
    ·cases h2
   ·cases h2
  ·cases h1
 |.cell c t::rv,rs,vs,h1,h2=>by
  simp only [Yz] at h1;split at h1
  ·rename_i g k hg hk;split at h1
   ·rename_i hc;simp only [zom] at h1;obtain⟨rs',hrs,rfl⟩:=h1;simp only [yI,QB] at h2;split at h2
    ·rename_i v vs' e1 e2;split at h2
     ·rename_i hone;obtain rfl:=zsi h2;obtain⟨xs,hall,hrun⟩:=V5 hR hF hrs e2;have hv:=hF.2 c hc;simp only [qA,Opd.ev] at e1;split at e1
      ·rename_i b o he;rw [he] at hv;obtain⟨hkb,hv'⟩:K b/\a.tmps.getD c Go.undef=.pointer (some ((μ b).addr o)):=hv;cases g with
       |true=>
        simp only [if_true,zom] at e1;obtain⟨l,hl,rfl⟩:=e1;obtain⟨ys,ha,hr⟩:=hR.loads (P:=P) (n:=k) (b:=b) (o:=o) (i:=0) (acc:=#[]) hl;have hr':(loadCells ((μ b).addr o) k).run P w=.ok ys.toArray w:=by simpa [loadCells] using hr
        refine⟨.agg ys.toArray::xs,⟨⟨ys,rfl,ha⟩,hall⟩,Jj ?_ hrun⟩;simp only [Y6,Sem.run_bind,hv',asAddr,Sem.run_pure,Result.andThen_ok,loadVar,wI hg,if_true,xN hk,hr']
       |false=>
        simp only [Bool.false_eq_true,if_false,zom] at e1;obtain⟨cc,hcc,rfl⟩:=e1;obtain⟨y,hy,hr⟩:=hR.cell hcc;refine⟨y::xs,⟨hr,hall⟩,Jj ?_ hrun⟩;simp only [Y6,Sem.run_bind,hv',asAddr,Sem.run_pure,Result.andThen_ok,loadVar,wI hg,Bool.false_eq_true,if_false,run_load,hy]
      ·cases e1
     ·cases h2
    ·cases h2
   ·cases h1
  ·cases h1
theorem fY{μ:Nat->Pl}{K:Nat->Prop}{args:List V}{xs:List Value}{n:Nat}(hn:args.length<=n)(ha:qe (RV μ K) args xs):xy μ K n (zr args 0) (xs.toArray++Array.replicate (n-xs.toArray.size) Go.undef):=by
 have hlen:=ha.len;refine⟨by simp;omega,fun i hi=>?_⟩;rw [Jp];simp only [Nat.zero_le,if_true,Nat.sub_zero];by_cases hlt:i<xs.length
 ·have h1:args[i]?=some args[i]:=zge (by omega);rw [h1];obtain⟨x,hx,hr⟩:=ha.at i _ h1;have:(xs.toArray++Array.replicate (n-xs.toArray.size) Go.undef).getD i Go.undef=x:=by
   simp [Array.getD_eq_getD_getElem?,Array.getElem?_append,hlt,zge hlt] at hx ⊢;exact hx
  rw [this];exact hr
 ·have h1:args[i]?=none:=List.getElem?_eq_none (by omega);rw [h1];have:(xs.toArray++Array.replicate (n-xs.toArray.size) Go.undef).getD i Go.undef=Go.undef:=by
   simp only [Array.getD_eq_getD_getElem?,Array.getElem?_append];rw [if_neg (by simpa using hlt)];rw [Array.getElem?_replicate];split<;>rfl
  rw [this];exact RV.undef
theorem uJ{ρ:Option (Option Nat)}{f:FuncId}{sf:SFn}(hf:zK P G f=some sf){args:List V}{H:Hp}{R:V->Hp->Prop}{S:Hp->Prop}(hn:args.length<=sf.n)(hρ:ρ=none\/ρ=some none/\sf.n<=wU)(h:zX ρ P G sf.n sf.code (El ρ P G sf.res R S) (zr args 0) H):zi P G f args H R S:=by
 unfold zK at hf;split at hf
 ·cases hf
 ·rename_i fn hfn;split at hf
  ·cases hf
  ·rename_i c hb;split at hf
   ·rename_i s rs hs hrs;obtain rfl:=zsi hf;intro μ K w xs hR ha;have hfen:kO ρ=Fence.wide:=by rcases hρ with rfl|⟨rfl,_⟩<;>rfl
    refine (callsIn_wide (n:=0)).1 (callsIn_of_wp_marks hfn hb trivial ?_);have hlen:=ha.len;have hF0:xy μ K fn.ntmps (zr args 0) (xs.toArray++Array.replicate (fn.ntmps-xs.toArray.size) Go.undef):=fY hn ha;have hL0:dL ρ (zr args 0)=[]:=by
     rcases hρ with rfl|⟨rfl,hle⟩
     ·rfl
     ·have hn':args.length<=fn.ntmps:=hn;have hle':fn.ntmps<=wU:=hle;have:(zr args 0).get wU=none:=by
       rw [Jp];simp only [Nat.zero_le,if_true];exact List.getElem?_eq_none (by omega)
      simp only [dL,jc,this]
    have hw:=h c hs w.heap.size μ K w ⟨_,[]⟩ hR hF0 (by rw [hL0];exact YR.nil w (fun e=>hρ.elim (fun h=>by rw [h] at e;cases e) fun h=>h.2) (Nat.le_refl _));rw [hfen] at hw;refine wpIn_mono hw fun e a' w' he=>?_;obtain⟨F',H',μ',K',h1,h3,h4',h5,hd⟩:=he;have door:∀(pan:Bool) (u:FrameMode),Yf pan u->vf P G (Jx rs R S F') (dL ρ F') pan H'->LeavesInM Fence.wide 0 P fn a'.tmps (Zs G μ K H w R S) a'.defers u w':=by
     intro pan u hm hl;refine W4 (μ1:=μ') (K1:=K') hR.lt' (fun pan H1 μ1 K1 w1 u hfin hm hR1 hFr1 hk hmu=>?_) hd.2.1 hd.2.2.1 hd.2.2.2 h3 h5 (fun _ h=>h) (fun _ _=>rfl) hm hl;cases pan with
     |true=>
      obtain⟨ch,rfl,hch⟩:=hm;exact .inr ⟨ch,rfl,hch,H1,μ1,K1,hfin,hR1,hFr1⟩
     |false=>
      obtain rfl:u=.returning:=hm;have hres:(match xE F' H1 rs with
       |some v=>R v H1
       |none=>False):=hfin
      have h4:xy μ1 K1 fn.ntmps F' a'.tmps:=h4'.mono hk hmu;unfold xE at hres;cases hl:yI F' H1 rs with
      |none=>simp [hl] at hres
      |some vs=>
       obtain⟨ys,hall,hrun⟩:=V5 (P:=P) hR1 h4 hrs hl;have hrun':(results fn a'.tmps).run P w1=.ok (if h:ys.toArray.size=1 then ys.toArray[0] else .tuple ys.toArray) w1:=by
        have he:results fn a'.tmps=(do let vs<-fn.results.mapM (Y6 a'.tmps);pure (if h:vs.size=1 then vs[0] else .tuple vs)):=by
         unfold results Y6;rfl
        rw [he,Sem.run_bind,Array.mapM_eq_mapM_toList,Sem.run_map,hrun];rfl
       clear hrun
       match vs,ys,hall,hl,hrun' with
       |[v],[y],hall,hl,hrun'=>
        simp only [hl] at hres;exact⟨y,by rw [hrun'];rfl,.inl ⟨y,rfl,v,H1,μ1,K1,hres,RV.of1 hall.1,hR1,hFr1⟩⟩
       |[],[],_,hl,hrun'=>
        simp only [hl] at hres;exact⟨.tuple #[],by rw [hrun'];rfl,.inl ⟨_,rfl,.tup [],H1,μ1,K1,hres,RV.undef,hR1,hFr1⟩⟩
       |v1::v2::vs,y1::y2::ys,hall,hl,hrun'=>
        simp only [hl] at hres;exact⟨.tuple (y1::y2::ys).toArray,by rw [hrun'];simp,.inl ⟨_,rfl,.tup (v1::v2::vs),H1,μ1,K1,hres,⟨_,rfl,hall⟩,hR1,hFr1⟩⟩
       |[],_::_,hall,_,_=>exact hall.elim
       |_::_,[],hall,_,_=>exact hall.elim
       |[_],_::_::_,hall,_,_=>exact hall.2.elim
       |_::_::_,[_],hall,_,_=>exact hall.2.elim
    cases e with
    |normal=>exact door false .returning rfl h1
    |ret=>exact door false .returning rfl h1
    |panic ch=>exact door true (.panicking ch) ⟨ch,rfl,h1.1⟩ h1.2
    |exit id=>exact h1.elim
    |goto l=>exact h1.elim
    |outgrown=>exact h1.elim
   ·cases hf
theorem KZ{f:FuncId}{sf:SFn}(hf:zK P G f=some sf){args:List V}{H:Hp}{R:V->Hp->Prop}(hn:args.length<=sf.n)(h:U2 P G sf.n sf.code (Xd sf.res R) (zr args 0) H):qK P G f args H R:=
 zi.of (uJ (ρ:=none) hf hn (.inl rfl) (zP h fun e F H he=>by
  cases e with
  |normal=>exact he
  |ret=>exact he
  |_=>exact he.elim))
end
end Go.Ab
