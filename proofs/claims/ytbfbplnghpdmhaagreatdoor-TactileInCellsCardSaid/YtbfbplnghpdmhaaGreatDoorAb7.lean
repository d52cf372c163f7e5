/- -/
import Derived.Test.YtbfbplnghpdmhaaGreatDoorAb6
set_option linter.unusedSimpArgs false
set_option linter.unusedVariables false
namespace Go.Ab
section
variable{P:Program}{G n:Nat}{ρ:Option Nat}{μ:Nat->Pl}{K:Nat->Prop}{H H':Hp}{w:World}
theorem Rel.junk(hR:Rel G μ K H w)(o:Obj):Rel G μ K H { w with heap:=w.heap.push o }/\Fr μ K H w μ K H { w with heap:=w.heap.push o }:=by
 have hh:∀i,i<w.heap.size->(w.heap.push o)[i]?=w.heap[i]?:=fun i hi=>by
  rw [Array.getElem?_push,if_neg (by omega)]
 let r:=Fr.refl hR;exact⟨⟨hR.dom,hR.lt,fun b bk hb=>by
  show RB μ K (μ b) bk (w.heap.push o)[(μ b).blk]?
  rw [hh _ (hR.blk_lt hb)];exact hR.blk b bk hb,hR.inj,hR.glob⟩,
  ⟨⟨rfl,rfl,rfl,Nat.le_refl _⟩,by simp,fun i hi _=>hh i hi,r.img,r.newmut,r.mu,r.kk,r.knew,r.nx,r.none,r.stay,r.ro⟩⟩
def Jj(F:T V):List Nat->List V->T V
 |t::ps,v::l=>Jj (F.set t (some v)) ps l
 |_,_=>F
theorem iH:∀{ps:List Nat} {args:List V} {xs:List Value} {F:T V} {tmps:Array Value},zY μ K n F tmps->qg (RV μ K) args xs->
 zY μ K n (Jj F ps args) ((ps.zip xs).foldl (fun tmps p=>tmps.setIfInBounds p.1 p.2) tmps)
 |[],_,_,_,_,hF,_=>hF
 |_::_,[],[],_,_,hF,_=>hF
 |t::ps,v::l,x::xs,F,tmps,hF,ha=>by
  refine iH (F:=F.set t (some v)) (tmps:=tmps.setIfInBounds t x) ⟨by simpa using hF.1,fun i hi=>?_⟩ ha.2;rw [T.get_set];by_cases e:i=t
  ·subst e;have:(tmps.setIfInBounds i x).getD i Go.undef=x:=by
    have:i<tmps.size:=by rw [hF.1];exact hi
    simp [Array.getD_eq_getD_getElem?,this]
   rw [this];simpa using ha.1
  ·have:(tmps.setIfInBounds t x).getD i Go.undef=tmps.getD i Go.undef:=by
    simp only [Array.getD_eq_getD_getElem?];rw [Array.getElem?_setIfInBounds_ne (fun h=>e h.symm)]
   rw [this,if_neg e];exact hF.2 i hi
 |_::_,[],_::_,_,_,_,ha=>ha.elim
 |_::_,_::_,[],_,_,_,ha=>ha.elim
def CC(b:Nat)(R:V->Hp->Prop):Exit->T V->Hp->Prop
 |.normal,_,H=>∃st j f n F ps sg bd,H.get b=some (.lp st j f n F ps sg bd)/\R (.bool true) (H.add b (.lp .ready none f n F ps sg bd))
 |.ret,_,H=>∃st j f n F ps sg bd,H.get b=some (.lp st j f n F ps sg bd)/\R (.bool false) (H.add b (.lp .done (some .ret) f n F ps sg bd))
 |.exit id,_,H=>∃st j f n F ps sg bd,H.get b=some (.lp st j f n F ps sg bd)/\R (.bool false) (H.add b (.lp .done (some (.exit id)) f n F ps sg bd))
 |_,_,_=>False
theorem oR{b:Nat}{R:V->Hp->Prop}(hR:Rel G μ K H w)(jump:Option Code)(hQ:∃st j f n F ps sg bd,H.get b=some (.lp st j f n F ps sg bd)/\R (.bool jump.isNone) (H.add b (.lp (if jump.isNone then .ready else .done) jump f n F ps sg bd))):
 ∃x w',(Instr.endRound (μ b).blk jump).run P w=.ok x w'/\∃v H',R v H'/\RV μ K v x/\Rel G μ K H' w'/\Fr μ K H w μ K H' w':=by
 obtain⟨st,j,f,n,F,ps,sg,bd,hb,hr⟩:=hQ;obtain⟨tmps,df,ho,hsz,hF⟩:=hR.blk b _ hb;have hs:=hR.setB (bk':=.lp (if jump.isNone then .ready else .done) jump f n F ps sg bd) (o:=.loop ⟨if jump.isNone then .ready else .done,jump,f,tmps,ps,sg,bd,df⟩) hb rfl rfl ⟨tmps,df,rfl,hsz,hF⟩
 exact⟨_,_,run_endRound jump ho,_,_,hr,rfl,hs.1,hs.2⟩
theorem FE {b:Nat} {args:List V} {j:Option Code} {f:FuncId} {n:Nat} {F:T V} {ps:Array Tmp} {sg bd:Code} {R:V->Hp->Prop} (hb:H.get b=some (.lp .ready j f n F ps sg bd)) (hlen:args.length=ps.size)
 (h:∀l,jA (some l) P G n sg (fun e F1 H1=>e=.normal/\∃j1 f1 n1 F0 ps1 as1 bd1,H1.get b=some (.lp .ready j1 f1 n1 F0 ps1 as1 bd1)/\jA (some l) P G n bd (CC b R) F1 (H1.add b (.lp .busy j1 f1 n1 F0 ps1 as1 bd1))) (Jj F ps.toList args) H):
 v8 P G b args H R:=by
 intro μ K w xs hR hK ha;obtain⟨tmps,df,ho,hsz,hF⟩:=hR.blk b _ hb;refine⟨_,_,_,_,run_yield ho (by simp [<-ha.len,hlen]),roundIn_of_wpIn trivial ?_⟩;have hF1:zY μ K n (Jj F ps.toList args) ((ps.zip xs.toArray).foldl (fun tmps (t,a)=>tmps.setIfInBounds t a) tmps):=by
  have:=iH (ps:=ps.toList) (F:=F) (tmps:=tmps) ⟨hsz,hF⟩ ha;have e:(ps.zip xs.toArray).foldl (fun tmps (t,a)=>tmps.setIfInBounds t a) tmps=(ps.toList.zip xs).foldl (fun tmps p=>tmps.setIfInBounds p.1 p.2) tmps:=by
   rw [<-Array.foldl_toList];simp
  rw [e];exact this
 refine wpIn_mono (h (μ b).blk w.heap.size μ K w ⟨_,[]⟩ hR hF1 (J7.nil w (Nat.le_refl _))) fun e a1 w1 he=>?_;obtain⟨hd1,F1,H1,μ1,K1,⟨rfl,j1,f1,n1,F0,ps1,as1,bd1,hb1,hbody⟩,hR1,hFr1,hfr1⟩:=he;obtain⟨tmps1,df1,ho1,hsz1,hF01⟩:=hR1.blk b _ hb1;rw [hfr1.mu b hK] at ho1;have hs:=hR1.setB (bk':=.lp .busy j1 f1 n1 F0 ps1 as1 bd1) (o:=.loop ⟨.busy,j1,f1,tmps1,ps1,as1,bd1,df1⟩) hb1 rfl rfl ⟨tmps1,df1,rfl,hsz1,hF01⟩;rw [hfr1.mu b hK] at hs;refine⟨_,run_beginRound ho1 rfl,?_⟩;refine wpIn_mono (hbody _ μ1 K1 _ a1 hs.1 hFr1 (hd1.fr hR1 hs.2)) fun e a2 w2 he=>?_;obtain⟨hd2,F2,H2,μ2,K2,hq,hR2,hFr2,hfr2⟩:=he;have hfr:=(hfr1.trans hR.lt' hs.2).trans hR.lt' hfr2;have hmu:μ2 b=μ b:=hfr.mu b hK;have fin:∀(jump:Option Code),(∃st j f n F ps sg bd,H2.get b=some (.lp st j f n F ps sg bd)/\R (.bool jump.isNone) (H2.add b (.lp (if jump.isNone then .ready else .done) jump f n F ps sg bd)))->
  ∃v w',(Instr.endRound (μ b).blk jump).run P w2=.ok v w'/\∃x,Ending.returned v=.returned x/\∃v H' μ' K',R v H'/\RV μ' K' v x/\Rel G μ' K' H' w'/\Fr μ K H w μ' K' H' w':=by
  intro jump hj;obtain⟨x,w3,hr,v,H3,h1,h2,h3,h4⟩:=oR (P:=P) (b:=b) hR2 jump hj;rw [hmu] at hr;exact⟨x,w3,hr,x,rfl,v,H3,μ2,K2,h1,h2,h3,hfr.trans hR.lt' h4⟩
 cases e with
 |normal=>exact fin none hq
 |ret=>exact fin (some .ret) hq
 |exit id=>exact fin (some (.exit id)) hq
 |goto l=>exact hq.elim
 |panic ch=>exact hq.elim
 |outgrown=>exact hq.elim
theorem qcn {g:Operand} {ps:Array Tmp} {sg bd:Code} {d:Opd} {f:FuncId} {caps:List (Nat × Nat)} {Q:Exit->T V->Hp->Prop} {F:T V} (hg:cO G n g=some d) (hdv:d.ev F=.one (.fn f caps)) (hf:qA P f=true)
 (h:∀fid,qH P G f (.one (.yld H.nx)::caps.map Jq) (H.push (.lp .ready none fid n F ps sg bd)) fun _ H'=>∃st j f1 n1 F1 ps1 as1 bd1,H'.get H.nx=some (.lp st j f1 n1 F1 ps1 as1 bd1)/\st≠.busy/\
  (
   match j with
   |none=>Q .normal F (H'.add H.nx (.lp .exhausted none f1 n1 F1 ps1 as1 bd1))
   |some c=>jA none P G n c Q F (H'.add H.nx (.lp .exhausted (some c) f1 n1 F1 ps1 as1 bd1)))):
 jA none P G n (.rangeFunc g ps sg bd) Q F H:=by
 intro s μ K w a hR hF hd;refine wpIn_rangeFunc fun fid _=>?_;have hv:=xe hR hF hg;rw [hdv] at hv;obtain⟨hkc,hv'⟩:(∀p∈caps,K p.1)/\a.eval g=.func (.func f) #[] (caps.map fun p=>Value.pointer (some ((μ p.1).addr p.2))).toArray:=hv;obtain⟨hR1,hfr1⟩:=hR.junk (.deferred (some []));have hlp:RB μ K ⟨w.heap.size+1,0,0⟩ (.lp .ready none fid n F ps sg bd) (some (.loop ⟨.ready,none,fid,a.tmps,ps,sg,bd,w.heap.size⟩)):=⟨_,_,rfl,hF.1,hF.2⟩;have hpush:=hR1.push (d:=w.drawn) (sz:=0) (Nat.le_refl _) rfl (by simpa using hlp);simp only [Array.size_push] at hpush;obtain⟨hR2,hfr2⟩:=hpush;refine⟨w.heap.size+1,[{ target:=.collected w.heap.size,args:=#[] }],{ w with heap:=(w.heap.push (.deferred (some []))).push (.loop ⟨.ready,none,fid,a.tmps,ps,sg,bd,w.heap.size⟩) },⟨.fn (.func f) (caps.map fun p=>Value.pointer (some ((μ p.1).addr p.2))).toArray,#[.func (.yield (w.heap.size+1)) #[] #[]]⟩,{ w with heap:=(w.heap.push (.deferred (some []))).push (.loop ⟨.ready,none,fid,a.tmps,ps,sg,bd,w.heap.size⟩) },f,
  (Value.func (.yield (w.heap.size+1)) #[] #[]::caps.map fun p=>Value.pointer (some ((μ p.1).addr p.2))).toArray,{ w with heap:=(w.heap.push (.deferred (some []))).push (.loop ⟨.ready,none,fid,a.tmps,ps,sg,bd,w.heap.size⟩) },run_enterLoop_outer _ _ _ _ _,?_,(fun _ _=>trivial),?_,(fun h=>absurd h (by decide)),?_⟩
 ·have e1:a.eval (.const (.func (.yield (w.heap.size+1)) #[] #[]))=.func (.yield (w.heap.size+1)) #[] #[]:=rfl;simp [resolve,rangeCall,hv',Deferred.ofValue,e1]
 ·simp [invoke,VT hf]
 ·have hargs:qg (RV (fun i=>if i=H.nx then (⟨w.heap.size+1,0,0⟩:Pl) else μ i) fun i=>K i\/i=H.nx) (.one (.yld H.nx)::caps.map Jq) (Value.func (.yield (w.heap.size+1)) #[] #[]::caps.map fun p=>Value.pointer (some ((μ p.1).addr p.2))):=by
   refine⟨⟨.inr rfl,by simp⟩,?_⟩;refine qg.mk (by simp) fun j v x hv hx=>?_;simp only [List.getElem?_map,zom] at hv hx;obtain⟨p,hp,rfl⟩:=hv;obtain⟨p',hp',rfl⟩:=hx;rw [hp] at hp';obtain rfl:=zsi hp';have hkp:=hkc p (zmg hp);refine⟨.inl hkp,?_⟩;have:=hR.lt _ hkp;show Value.pointer (some ((μ p.1).addr p.2))=Value.pointer (some ((if p.1=H.nx then _ else μ p.1).addr p.2))
   rw [if_neg (by omega)]
  refine callsIn_wide.2 ((h fid _ _ _ _ hR2 hargs).mono fun e w3 he=>?_)
  ·obtain⟨x,rfl,v,H3,μ3,K3,⟨st,j,f1,n1,F1,ps1,as1,bd1,hb,hst,hj⟩,_,hR3,hfr3⟩:=he;have hfr:=(hfr1.trans hR.lt' hfr2).trans hR.lt' hfr3;have hmu:μ3 H.nx=⟨w.heap.size+1,0,0⟩:=by
    rw [hfr3.mu H.nx (.inr rfl)];simp
   obtain⟨tmps,df,ho,hsz,hF1⟩:=hR3.blk H.nx _ hb;have hs:=hR3.setB (bk':=.lp .exhausted j f1 n1 F1 ps1 as1 bd1) (o:=.loop ⟨.exhausted,j,f1,tmps,ps1,as1,bd1,df⟩) hb rfl rfl ⟨tmps,df,rfl,hsz,hF1⟩;rw [hmu] at ho hs;have hfr':=hfr.trans hR.lt' hs.2;have hF3:zY μ3 K3 n F a.tmps:=hF.mono hfr.kk hfr.mu;refine⟨j,_,run_endLoop ho hst,?_⟩;have hdef:J7 s ({ target:=.collected w.heap.size,args:=#[] }::a.defers) (w3.putObj (w.heap.size+1) (.loop ⟨.exhausted,j,f1,tmps,ps1,as1,bd1,df⟩)):=by
    refine⟨Nat.le_trans hd.1 hfr'.size,List.nodup_cons.2 ⟨fun hm=>?_,hd.2.1⟩,fun d hdm=>?_⟩
    ·obtain⟨r,h1,_,h2⟩:=hd.2.2 _ hm;simp only [Deferred.mk.injEq,Target.collected.injEq,and_true] at h1;subst h1;have:=(Array.getElem?_eq_some_iff.1 h2).1;omega
    rcases List.mem_cons.1 hdm with rfl|hdm
    ·refine⟨_,rfl,hd.1,?_⟩;have h0:(w.heap.push (.deferred (some [])))[w.heap.size]?=some (.deferred (some [])):=by simp
     exact VS hR1 ((hfr2.trans hR1.lt' hfr3).trans hR1.lt' hs.2) h0
    ·obtain⟨r,h1,h3,h2⟩:=hd.2.2 d hdm;exact⟨r,h1,h3,VS hR hfr' h2⟩
   cases j with
   |none=>exact⟨hdef,F,_,μ3,K3,hj,hs.1,hF3,hfr'⟩
   |some c=>
    exact wpIn_mono (hj s μ3 K3 _ { a with defers:={ target:=.collected w.heap.size,args:=#[] }::a.defers } hs.1 hF3 hdef) fun e a' w' he=>b7 hR.lt' hfr' he
theorem Rel.mark(hR:Rel G μ K H w){r:Nat}{ds:Option (List Deferred)}(hr:w.heap[r]?=some (.deferred ds))(o:Obj):Rel G μ K H (w.putObj r o):=
 ⟨hR.dom,hR.lt,fun b bk hb=>by
  have hB:=hR.blk b bk hb;by_cases e:(μ b).blk=r
  ·rw [e,hr] at hB;cases bk with
   |row n z m rw=>obtain⟨_,_,_,h,_⟩:=hB;cases h
   |mp es=>obtain⟨_,_,h,_⟩:=hB;cases h
   |lp st j f n F ps sg bd=>obtain⟨_,_,h,_⟩:=hB;cases h
   |st=>obtain⟨_,_,h,_⟩:=hB;cases h
   |it=>obtain⟨_,_,h,_⟩:=hB;cases h
  ·rw [World.putObj_heap_other e];exact hB,hR.inj,hR.glob⟩
theorem Fr.mark{μ0:Nat->Pl}{K0:Nat->Prop}{H0:Hp}{w0:World}(h:Fr μ0 K0 H0 w0 μ K H w){r:Nat}(hr:w0.heap.size<=r)(o:Obj):Fr μ0 K0 H0 w0 μ K H (w.putObj r o):=
 ⟨h.same,by simpa using h.size,fun i hi hne=>by rw [World.putObj_heap_other (by omega)];exact h.keep i hi hne,h.img,h.newmut,h.mu,h.kk,h.knew,h.nx,h.none,h.stay,h.ro⟩
theorem lO{μ0:Nat->Pl}{K0:Nat->Prop}{H0:Hp}{w0:World}{fn:Func}{tmps:Array Value}{R:Ending->World->Prop}{nn:Nat}{F:Fence}:∀{D:List Deferred} {w:World},J7 w0.heap.size D w->Rel G μ K H w->Fr μ0 K0 H0 w0 μ K H w->
 (∀w',Rel G μ K H w'->Fr μ0 K0 H0 w0 μ K H w'->∃v,(results fn tmps).run P w'=.ok v w'/\R (.returned v) w')->LeavesInM F nn P fn tmps R D .returning w
 |[],w,_,hR,hFr,h=>h w hR hFr
 |d::D,w,hd,hR,hFr,h=>by
  obtain⟨r,rfl,h1,h2⟩:=hd.2.2 d (by simp);refine⟨by simp,.inl ⟨r,_,rfl,run_takeDeferred h2,?_⟩⟩;refine lO ⟨by simpa using hd.1,(List.nodup_cons.1 hd.2.1).2,fun d' hd'=>?_⟩ (hR.mark h2 _) (hFr.mark h1 _) h;obtain⟨r',rfl,h3,h4⟩:=hd.2.2 d' (by simp [hd']);refine⟨r',rfl,h3,?_⟩;rw [World.putObj_heap_other]
  ·exact h4
  ·rintro rfl;exact (List.nodup_cons.1 hd.2.1).1 hd'
end
inductive SC where
 |skip
 |ops (l:List SOper) (res:Nat)
 |seq (a b:SC)
 |cond (d:Opd) (a b:SC)
 |block (id:Nat) (a:SC)
 |loop (a:SC)
 |exit (id:Nat)
 |ret
 /-- a range over a function:the function,a round's parameters,what it assigns,what it does -/
 |rf (d:Opd) (ps:List Nat) (a b:SC)
 |scope (a:SC)
 /-- not covered:no run comes here -/
 |no
structure Extra where
 aid:Nat->Option Nat
 watch:Nat->List Nat
 keep:Nat->Bool
def nL(P:Program)(G n:Nat)(ops:Array Oper)(x:Extra)(i:Nat):Option SOper:=
 match ops[i]? with
 |none=>none
 |some o=>match u7 P G n o,Kj n ops o.guard with
  |some op,some g=>if AH n o.dst then some ⟨i,o.dst,op,g,x.aid i,x.watch i,x.keep i⟩ else none
  |_,_=>none
def K4(P:Program)(G n:Nat)(ops:Array Oper)(x:Extra):List Nat->Option (List SOper)
 |[]=>some []
 |i::r=>match nL P G n ops x i,K4 P G n ops x r with
  |some s,some l=>some (s::l)
  |_,_=>none
def O6:Extra:=⟨fun _=>none,fun _=>[],fun _=>false⟩
def nC(ops:List Oper):List (List Nat):=
 ops.foldl (init:=[]) fun acc o=>acc++[(o.after.toList.foldl (init:=[]) fun s e=>if Region.binds .any e then (e.on::acc.getD e.on []).foldl (fun s j=>if s.contains j then s else j::s) s else s)]
def Kd.light:Kd->Bool
 |.p=>true
 |.l=>true
 |_=>false
def s7(D:List (List Nat))(kds:List Kd):Nat->List Nat->List Nat->List Nat
 |0,_,acc=>acc.reverse
 |f+1,rest,acc=>
  let ok:=fun i=>(D.getD i []).all fun j=>acc.contains j
  match rest.find? fun i=>(kds.getD i .e).light&&ok i with
  |some i=>s7 D kds f (rest.filter (·!=i)) (i::acc)
  |none=>match rest.find? fun i=>!(kds.getD i .e).light with
   |some i=>s7 D kds f (rest.filter (·!=i)) (i::acc)
   |none=>acc.reverse
def t7(P:Program)(G n:Nat)(ops:List Oper):List Kd:=ops.map fun o=>match u7 P G n o with
 |some op=>op.kd
 |none=>.e
def Kd.isL:Kd->Bool
 |.l=>true
 |_=>false
def Kd.isA:Kd->Bool
 |.a=>true
 |_=>false
def Kd.isE:Kd->Bool
 |.e=>true
 |.c=>true
 |_=>false
def cU(D:List (List Nat))(kds:List Kd):List Nat->List Nat->List (Nat × List Nat)
 |[],_=>[]
 |i::r,ls=>
  if (kds.getD i .e).isE then (i,ls.filter fun j=>!(D.getD i []).contains j)::cU D kds r ls
  else cU D kds r (if (kds.getD i .e).isL then i::ls else ls)
def bD(D:List (List Nat)):List Nat->List SOper->Bool
 |i::xN,s::l=>((xN.zip l).all fun p=>(D.getD p.1 []).contains i||QE s p.2)&&bD D xN l
 |_,_=>true
def WG:List Nat->Bool
 |[]=>true
 |i::l=>!l.contains i&&WG l
def uZ(D:List (List Nat))(ops:Array Oper)(i:Nat):Bool:=
 match ops[i]? with
 |none=>true
 |some o=>(D.getD i []).all (fun j=>o.after.toList.any fun e=>Region.binds .any e&&(e.on==j||(D.getD e.on []).contains j))&&o.after.toList.all fun e=>!Region.binds .any e||decide (e.on<i)
def uX(D:List (List Nat))(ops:Array Oper)(xN:List Nat)(l:List SOper)(res:Nat):Bool:=
 bD D xN l&&WG xN&&xN.all (fun i=>decide (i<ops.size))&&(List.range ops.size).all (fun i=>xN.contains i)&&(List.range ops.size).all (uZ D ops)&&WG (l.filterMap (·.aid))&&decide (xN.length<=ops.size)&&(l.filterMap (·.aid)).all fun k=>decide (k<res)
def aT(D:List (List Nat))(kds:List Kd):Nat->List Nat->List Nat->List Nat
 |0,_,acc=>acc.reverse
 |f+1,rest,acc=>
  let ok:=fun i=>(D.getD i []).all fun j=>acc.contains j
  match rest.find? fun i=>(kds.getD i .e).light&&ok i with
  |some i=>aT D kds f (rest.filter (·!=i)) (i::acc)
  |none=>match rest.find? fun i=>(kds.getD i .e).isE&&ok i with
   |some i=>aT D kds f (rest.filter (·!=i)) (i::acc)
   |none=>match rest.find? fun i=>!(kds.getD i .e).light with
    |some i=>aT D kds f (rest.filter (·!=i)) (i::acc)
    |none=>acc.reverse
def JK(P:Program)(G n:Nat)(ops:Array Oper)(xN:List Nat):Option (List SOper):=
 let D:=nC ops.toList;let kds:=t7 P G n ops.toList;let ws:=cU D kds xN [];let x:Extra:=⟨fun i=>if (kds.getD i .e).isA then some i else none,fun i=>((ws.find? fun p=>p.1==i).map (·.2)).getD [],fun i=>ws.any fun p=>p.2.contains i⟩
 match K4 P G n ops x xN with
 |none=>none
 |some l=>if uX D ops xN l ops.size then some l else none
def E6(P:Program)(G n:Nat)(ops:Array Oper):Option (List SOper):=
 match JK P G n ops (s7 (nC ops.toList) (t7 P G n ops.toList) ops.size (List.range ops.size) []) with
 |some l=>some l
 |none=>JK P G n ops (aT (nC ops.toList) (t7 P G n ops.toList) ops.size (List.range ops.size) [])
def xS(P:Program)(G n:Nat):Code->Option SC
 |.skip=>some .skip
 |.region _ ops draw=>
  if draw then (E6 P G n ops).map fun l=>.ops l ops.size
  else (K4 P G n ops O6 (List.range ops.size)).map fun l=>.ops l 0
 |.seq a b=>match xS P G n a,xS P G n b with
  |some a,some b=>some (.seq a b)
  |_,_=>none
 |.cond c a b=>match cO G n c,xS P G n a,xS P G n b with
  |some d,some a,some b=>some (.cond d a b)
  |_,_,_=>none
 |.block id a=>(xS P G n a).map (.block id)
 |.loop a=>(xS P G n a).map .loop
 |.exit id=>some (.exit id)
 |.ret=>some .ret
 |.rangeFunc g ps sg bd=>match cO G n g,xS P G n sg,xS P G n bd with
  |some d,some a,some b=>some (.rf d ps.toList a b)
  |_,_,_=>none
 |.scope a=>(xS P G n a).map .scope
 |.label _=>some .skip
 |_=>some .no
inductive SRes where
 |t (n:Nat)
 |cell (agg:Bool) (k:Nat) (n:Nat)
def Kp(F:T V)(H:Hp):SRes->Option V
 |.t n=>some ((F.get n).getD V.undef)
 |.cell agg k n=>xj F H (.load agg k (.t n))
def vG(F:T V)(H:Hp):List SRes->Option (List V)
 |[]=>some []
 |r::l=>match Kp F H r,vG F H l with
  |some v,some vs=>if w9 v then some (v::vs) else none
  |_,_=>none
def yb(F:T V)(H:Hp)(rs:List SRes):Option V:=
 match vG F H rs with
 |some [v]=>some v
 |some vs=>some (.tup vs)
 |none=>none
def JJ(P:Program)(n:Nat):List ResultVar->Option (List SRes)
 |[]=>some []
 |.tmp t::l=>if t<n then (JJ P n l).map (.t t::·) else none
 |.cell a t::l=>match ZG P t,ju P t with
  |some g,some k=>if a<n then (JJ P n l).map (.cell g k a::·) else none
  |_,_=>none
structure SFn where
 n:Nat
 code:SC
 res:List SRes
def qG(P:Program)(G:Nat)(f:FuncId):Option SFn:=
 match P.funcs[f]? with
 |none=>none
 |some fn=>match fn.body with
  |none=>none
  |some c=>match xS P G fn.ntmps c,JJ P fn.ntmps fn.results.toList with
   |some s,some rs=>some ⟨fn.ntmps,s,rs⟩
   |_,_=>none
def vA:List V->Nat->T V
 |[],_=>.lf
 |v::l,i=>(vA l (i+1)).set i (some v)
def Xc(rs:List SRes)(R:V->Hp->Prop):Exit->T V->Hp->Prop
 |.normal,F,H=>match yb F H rs with
  |some v=>R v H
  |none=>False
 |.ret,F,H=>match yb F H rs with
  |some v=>R v H
  |none=>False
 |_,_,_=>False
def jI(ρ:Option Nat)(P:Program)(G n:Nat)(s:SC)(Q:Exit->T V->Hp->Prop)(F:T V)(H:Hp):Prop:=∀c,xS P G n c=some s->jA ρ P G n c Q F H
abbrev sN:=jI none
section
variable{P:Program}{G n:Nat}{ρ:Option Nat}
theorem oU{ops:Array Oper}{x:Extra}{i:Nat}{s:SOper}(h:nL P G n ops x i=some s):(∃o,ops[i]?=some o/\AU P G n ops o s)/\s.aid=x.aid i:=by
 unfold nL at h;split at h
 ·cases h
 ·rename_i o ho;split at h
  ·rename_i op g h1 h2;split at h
   ·rename_i h3;obtain rfl:=zsi h;exact⟨⟨o,ho,h1,rfl,h3,h2⟩,rfl⟩
   ·cases h
  ·cases h
theorem X1{ops:Array Oper}{x:Extra}:∀{xN:List Nat} {l:List SOper},K4 P G n ops x xN=some l->yT P G n ops xN l/\∀s∈l,∃i∈xN,s.aid=x.aid i
 |[],l,h=>by simp [K4] at h;subst h;exact⟨trivial,by simp⟩
 |i::xN,l,h=>by
  simp only [K4] at h;split at h
  ·rename_i s r h1 h2;obtain rfl:=zsi h;obtain⟨g1,g2⟩:=oU h1;obtain⟨g3,g4⟩:=X1 h2;refine⟨⟨g1,g3⟩,fun t ht=>?_⟩;rcases List.mem_cons.1 ht with rfl|ht
   ·exact⟨i,by simp,g2⟩
   ·obtain⟨j,hj,e⟩:=g4 t ht;exact⟨j,by simp [hj],e⟩
  ·cases h
theorem eK{D:List (List Nat)}:∀{xN:List Nat} {l:List SOper},bD D xN l=true->Y8 (fun i=>D.getD i []) xN l
 |i::xN,s::l,h=>by
  simp only [bD,xD,List.all_eq_true] at h;refine⟨fun j t hjt=>?_,eK h.2⟩;have:=h.1 (j,t) hjt;simp only [Bool.or_eq_true] at this;exact this.imp (by simp) id
 |[],_,_=>trivial
 |_::_,[],_=>trivial
theorem WE:∀{l:List Nat},WG l=true->l.Nodup
 |[],_=>List.nodup_nil
 |i::l,h=>by
  simp only [WG,xD] at h;exact List.nodup_cons.2 ⟨by simpa using h.1,WE h.2⟩
theorem I7 (hm:P.follows .mixedOrders=true) {id res:Nat} {ops:Array Oper} {D:List (List Nat)} {xN:List Nat} {l:List SOper} (hal:yT P G n ops xN l) (hB:uX D ops xN l res=true)
 {Q:Exit->T V->Hp->Prop} {F:T V} {H:Hp} (h:qF P G H.nx (Q .normal) l [] F (H.skip res)):jA ρ P G n (.region id ops true) Q F H:=by
 intro s μ K w a hR hF hd;unfold uX at hB;simp only [xD,List.all_eq_true,xV,List.mem_range] at hB;obtain⟨⟨⟨⟨⟨⟨⟨h1,h2⟩,h3⟩,h4⟩,h5⟩,h6⟩,h8⟩,h7⟩:=hB;have hdep:∀i o,ops[i]?=some o->uZ D ops i=true:=fun i o ho=>h5 i (Array.getElem?_eq_some_iff.1 ho).1;refine wpIn_region_any hm ?_;have hR':=(hR.drawn (w.drawn+1)).skip res;refine qcs (D:=fun i=>D.getD i []) (base:=H.nx) (Q:=Q .normal) (μ0:=μ) (K0:=K) (H0:=H) (w0:=w) hR.lt' (fun μ' K' F' H' a' w' g1 g2 g3 g4 g5=>⟨by rw [g5];exact hd.fr hR g4,F',H',μ',K',g1,g2,g3,g4⟩) (fun i o ho j hj=>?_) (fun i o ho e he hb=>?_)
  (by simp) (fun i hi=>?_) (fun i hi=>h3 i hi) (WE h2) ?_ (fun i hi hni=>?_) hal (eK h1) (WE h6) (fun k p hp=>by cases hp) (fun s hs k hk=>?_) hR' hF ((Fr.drawn hR _ (Nat.le_succ _)).trans hR.lt' (Fr.skip (hR.drawn _) res)) rfl h
 ·have:=hdep i o ho;unfold uZ at this;rw [ho] at this;simp only [xD,List.all_eq_true,List.any_eq_true,Bool.or_eq_true] at this;obtain⟨e,he,hb,hh⟩:=this.1 j hj;exact⟨e,he,hb,hh.imp (by simp) (by simp)⟩
 ·have:=hdep i o ho;unfold uZ at this;rw [ho] at this;simp only [xD,List.all_eq_true,Bool.or_eq_true,xV,Bool.not_eq_true'] at this;rcases this.2 e he with h|h
  ·rw [hb] at h;cases h
  ·exact h
 ·constructor
  ·intro _;have:=h4 i hi;simpa using this
  ·intro _;simp [hi]
 ·exact h8
 ·exact absurd (by have:=h4 i hi;simpa using this) hni
 ·have hk':k<res:=h7 k (List.mem_filterMap.2 ⟨s,hs,hk⟩);refine⟨fun hkk=>absurd (hR.lt _ hkk) (by omega),by simp;omega,by omega⟩
theorem Vw{Q:Exit->T V->Hp->Prop}{F:T V}{H:Hp}(h:Q .normal F H):jI ρ P G n .skip Q F H:=by
 intro c hc;cases c<;>simp only [xS] at hc<;>try (cases hc;done)
 case skip=>exact I5 h
 case label l=>exact FG h
 case region id ops draw=>split at hc<;>simp at hc
 case seq a b=>split at hc<;>cases hc
 case rangeFunc g ps a b=>split at hc<;>cases hc
 case cond d a b=>split at hc<;>cases hc
 case block id a=>simp at hc
 case loop a=>simp at hc
 case scope a=>simp at hc
theorem cZ(hm:P.follows .mixedOrders=true){l:List SOper}{res:Nat}{Q:Exit->T V->Hp->Prop}{F:T V}{H:Hp}(h:qF P G H.nx (Q .normal) l [] F (H.skip res)):jI ρ P G n (.ops l res) Q F H:=by
 intro c hc;cases c<;>simp only [xS] at hc<;>try (cases hc;done)
 case region id ops draw=>
  cases draw with
  |false=>
   simp only [Bool.false_eq_true,if_false,zom,SC.ops.injEq] at hc;obtain⟨l',hl,rfl,rfl⟩:=hc;obtain⟨h1,h2⟩:=X1 hl;exact AM h1 (fun s hs=>by obtain⟨i,_,e⟩:=h2 s hs;exact e) h
  |true=>
   simp only [if_true,zom,SC.ops.injEq] at hc;obtain⟨l',hl,rfl,rfl⟩:=hc;have by_:∀xN l'',JK P G n ops xN=some l''->qF P G H.nx (Q .normal) l'' [] F (H.skip ops.size)->jA ρ P G n (.region id ops true) Q F H:=by
    intro xN l'' hl h;unfold JK at hl;simp only at hl;split at hl
    ·cases hl
    ·rename_i l3 hall;split at hl
     ·rename_i hB;obtain rfl:=zsi hl;exact I7 hm (X1 hall).1 hB h
     ·cases hl
   unfold E6 at hl;split at hl
   ·rename_i l2 h2;obtain rfl:=zsi hl;exact by_ _ _ h2 h
   ·exact by_ _ _ hl h
 case seq a b=>split at hc<;>cases hc
 case rangeFunc g ps a b=>split at hc<;>cases hc
 case cond d a b=>split at hc<;>cases hc
 case block id a=>simp at hc
 case loop a=>simp at hc
 case scope a=>simp at hc
theorem cX{a b:SC}{Q:Exit->T V->Hp->Prop}{F:T V}{H:Hp}(h:jI ρ P G n a (fX (jI ρ P G n b Q) Q) F H):jI ρ P G n (.seq a b) Q F H:=by
 intro c hc;cases c<;>simp only [xS] at hc<;>try (cases hc;done)
 case seq x y=>
  split at hc
  ·rename_i x' y' hx hy;simp only [zoi,SC.seq.injEq] at hc;obtain⟨rfl,rfl⟩:=hc;refine S6 (V9 (h x hx) fun e F' H' he=>?_);cases e with
   |normal=>exact (show jI ρ P G n y' Q F' H' from he) y hy
   |_=>exact he
  ·cases hc
 case region id ops draw=>split at hc<;>simp at hc
 case cond d a b=>split at hc<;>cases hc
 case block id a=>simp at hc
 case loop a=>simp at hc
 case scope a=>simp at hc
 case rangeFunc g ps a b=>split at hc<;>cases hc
theorem Jd{d:Opd}{a b:SC}{Q:Exit->T V->Hp->Prop}{F:T V}{H:Hp}{t:Bool}(ht:d.ev F=.one (.bool t))(h:jI ρ P G n (if t then a else b) Q F H):jI ρ P G n (.cond d a b) Q F H:=by
 intro c hc;cases c<;>simp only [xS] at hc<;>try (cases hc;done)
 case cond o x y=>
  split at hc
  ·rename_i d' x' y' h1 hx hy;simp only [zoi,SC.cond.injEq] at hc;obtain⟨rfl,rfl,rfl⟩:=hc;refine I8 h1 ht ?_;cases t
   ·exact h y hy
   ·exact h x hx
  ·cases hc
 case region id ops draw=>split at hc<;>simp at hc
 case seq a b=>split at hc<;>cases hc
 case rangeFunc g ps a b=>split at hc<;>cases hc
 case block id a=>simp at hc
 case loop a=>simp at hc
 case scope a=>simp at hc
theorem Wj{id:Nat}{a:SC}{Q:Exit->T V->Hp->Prop}{F:T V}{H:Hp}(h:jI ρ P G n a (Y5 id Q) F H):jI ρ P G n (.block id a) Q F H:=by
 intro c hc;cases c<;>simp only [xS] at hc<;>try (cases hc;done)
 case block id' x=>
  simp only [zom,SC.block.injEq] at hc;obtain⟨x',hx,rfl,rfl⟩:=hc;exact FH (h x hx)
 case region id ops draw=>split at hc<;>simp at hc
 case seq a b=>split at hc<;>cases hc
 case rangeFunc g ps a b=>split at hc<;>cases hc
 case cond d a b=>split at hc<;>cases hc
 case loop a=>simp at hc
 case scope a=>simp at hc
theorem Vx{a:SC}{Q:Exit->T V->Hp->Prop}{F:T V}{H:Hp}(I:Nat->T V->Hp->Prop){m:Nat}(h0:I m F H)(round:∀m F H,I m F H->jI ρ P G n a (fX (fun F' H'=>∃m',m'<m/\I m' F' H') Q) F H):jI ρ P G n (.loop a) Q F H:=by
 intro c hc;cases c<;>simp only [xS] at hc<;>try (cases hc;done)
 case loop x=>
  simp only [zom,SC.loop.injEq] at hc;obtain⟨x',hx,rfl⟩:=hc;exact I6 I h0 fun m F H hI=>round m F H hI x hx
 case region id ops draw=>split at hc<;>simp at hc
 case seq a b=>split at hc<;>cases hc
 case rangeFunc g ps a b=>split at hc<;>cases hc
 case cond d a b=>split at hc<;>cases hc
 case block id a=>simp at hc
 case scope a=>simp at hc
theorem d7{a:SC}{Q:Exit->T V->Hp->Prop}{F:T V}{H:Hp}(h:jI ρ P G n a (B3 Q) F H):jI ρ P G n (.scope a) Q F H:=by
 intro c hc;cases c<;>simp only [xS] at hc<;>try (cases hc;done)
 case scope x=>
  simp only [zom,SC.scope.injEq] at hc;obtain⟨x',hx,rfl⟩:=hc;exact FF (h x hx)
 case rangeFunc g ps a b=>split at hc<;>cases hc
 case region id ops draw=>split at hc<;>simp at hc
 case seq a b=>split at hc<;>cases hc
 case cond d a b=>split at hc<;>cases hc
 case block id a=>simp at hc
 case loop a=>simp at hc
theorem Vy{id:Nat}{Q:Exit->T V->Hp->Prop}{F:T V}{H:Hp}(h:Q (.exit id) F H):jI ρ P G n (.exit id) Q F H:=by
 intro c hc;cases c<;>simp only [xS] at hc<;>try (cases hc;done)
 case exit id'=>simp only [zoi,SC.exit.injEq] at hc;subst hc;exact nX h
 case region id ops draw=>split at hc<;>simp at hc
 case seq a b=>split at hc<;>cases hc
 case rangeFunc g ps a b=>split at hc<;>cases hc
 case cond d a b=>split at hc<;>cases hc
 case block id a=>simp at hc
 case loop a=>simp at hc
 case scope a=>simp at hc
theorem cY{Q:Exit->T V->Hp->Prop}{F:T V}{H:Hp}(h:Q .ret F H):jI ρ P G n .ret Q F H:=by
 intro c hc;cases c<;>simp only [xS] at hc<;>try (cases hc;done)
 case ret=>exact sF h
 case region id ops draw=>split at hc<;>simp at hc
 case seq a b=>split at hc<;>cases hc
 case rangeFunc g ps a b=>split at hc<;>cases hc
 case cond d a b=>split at hc<;>cases hc
 case block id a=>simp at hc
 case loop a=>simp at hc
 case scope a=>simp at hc
def qcE(Q:Exit->T V->Hp->Prop):Option Code->T V->Hp->Prop
 |none=>Q .normal
 |some .ret=>Q .ret
 |some (.exit id)=>Q (.exit id)
 |_=>fun _ _=>False
theorem UJ {d:Opd} {ps:List Nat} {sa sb:SC} {f:FuncId} {caps:List (Nat × Nat)} {Q:Exit->T V->Hp->Prop} {F:T V} {H:Hp} (hdv:d.ev F=.one (.fn f caps)) (hf:qA P f=true)
 (h:∀fid sg bd,xS P G n sg=some sa->xS P G n bd=some sb->qH P G f (.one (.yld H.nx)::caps.map Jq) (H.push (.lp .ready none fid n F ps.toArray sg bd)) fun _ H'=>∃st j f1 n1 F1 ps1 as1 bd1,H'.get H.nx=some (.lp st j f1 n1 F1 ps1 as1 bd1)/\st≠.busy/\
  qcE Q j F (H'.add H.nx (.lp .exhausted j f1 n1 F1 ps1 as1 bd1))):sN P G n (.rf d ps sa sb) Q F H:=by
 intro c hc;cases c<;>simp only [xS] at hc<;>try (cases hc;done)
 case rangeFunc g ps' sg bd=>
  split at hc
  ·rename_i d' a' b' hg ha hb;simp only [zoi,SC.rf.injEq] at hc;obtain⟨rfl,rfl,rfl,rfl⟩:=hc;refine qcn hg hdv hf fun fid=>(h fid sg bd ha hb).mono fun _ H' hh=>?_;obtain⟨st,j,f1,n1,F1,ps1,as1,bd1,h1,h2,h3⟩:=hh;refine⟨st,j,f1,n1,F1,ps1,as1,bd1,by simpa using h1,h2,?_⟩;cases j with
   |none=>exact h3
   |some c=>cases c<;>first|exact h3.elim|exact sF h3|exact nX h3
  ·cases hc
 case region id ops draw=>split at hc<;>simp at hc
 case seq a b=>split at hc<;>cases hc
 case cond d a b=>split at hc<;>cases hc
 case block id a=>simp at hc
 case loop a=>simp at hc
 case scope a=>simp at hc
theorem BI {b:Nat} {args:List V} {j:Option Code} {f:FuncId} {F:T V} {ps:Array Tmp} {sg bd:Code} {sa sb:SC} {R:V->Hp->Prop} {H:Hp} (hb:H.get b=some (.lp .ready j f n F ps sg bd)) (hlen:args.length=ps.size) (ha:xS P G n sg=some sa) (hbd:xS P G n bd=some sb)
 (h:∀l,jI (some l) P G n sa (fun e F1 H1=>e=.normal/\∃j1 f1 n1 F0 ps1 as1 bd1,H1.get b=some (.lp .ready j1 f1 n1 F0 ps1 as1 bd1)/\jI (some l) P G n sb (CC b R) F1 (H1.add b (.lp .busy j1 f1 n1 F0 ps1 as1 bd1))) (Jj F ps.toList args) H):
 v8 P G b args H R:=
 FE hb hlen fun l=>V9 (h l sg ha) fun e F1 H1 ⟨he,j1,f1,n1,F0,ps1,as1,bd1,h1,h2⟩=>⟨he,j1,f1,n1,F0,ps1,as1,bd1,h1,h2 bd hbd⟩
theorem yL{s:SC}{Q Q':Exit->T V->Hp->Prop}{F:T V}{H:Hp}(h:jI ρ P G n s Q F H)(hq:∀e F H,Q e F H->Q' e F H):jI ρ P G n s Q' F H:=
 fun c hc=>V9 (h c hc) hq
def WF(H:Hp):Prop:=∀b bk,H.get b=some bk->b<H.nx
theorem UI{s:SC}{Q:Exit->T V->Hp->Prop}{F:T V}{H:Hp}(h:WF H->jI ρ P G n s Q F H):jI ρ P G n s Q F H:=
 fun c hc s μ K w a hR hF hd=>h hR.lt' c hc s μ K w a hR hF hd
theorem FM{f:FuncId}{args:List V}{H:Hp}{R:V->Hp->Prop}(h:WF H->qH P G f args H R):qH P G f args H R:=
 fun μ K w xs hR ha=>h hR.lt' μ K w xs hR ha
theorem qH.wf{f:FuncId}{args:List V}{H:Hp}{R:V->Hp->Prop}(h:qH P G f args H R):qH P G f args H fun v H'=>R v H'/\WF H':=
 fun μ K w xs hR ha=>(h μ K w xs hR ha).mono fun _ _ ⟨x,he,v,H',μ',K',h1,h2,h3,h4⟩=>⟨x,he,v,H',μ',K',⟨h1,h3.lt'⟩,h2,h3,h4⟩
theorem eX:∀{l:List V} {i j:Nat},(vA l i).get j=if i<=j then l[j-i]? else none
 |[],i,j=>by simp [vA]
 |v::l,i,j=>by
  simp only [vA];rw [T.get_set];by_cases e:j=i
  ·subst e;simp
  ·rw [if_neg e,eX];by_cases h:i+1<=j
   ·rw [if_pos h,if_pos (by omega),show j-i=(j-(i+1))+1 by omega];simp
   ·rw [if_neg h,if_neg (by omega)]
def Wz(tmps:Array Value):ResultVar->Sem Value
 |.tmp t=>pure (tmps.getD t Go.undef)
 |.cell c t=>do loadVar t (<-asAddr (tmps.getD c Go.undef))
theorem WK{rv:List ResultVar}{r:ResultVar}{f:ResultVar->Sem Value}{x:Value}{xs:List Value}{w:World}(h1:(f r).run P w=.ok x w)(h2:(rv.mapM f).run P w=.ok xs w):((r::rv).mapM f).run P w=.ok (x::xs) w:=by
 rw [List.mapM_cons,Sem.run_bind,h1,Result.andThen_ok,Sem.run_bind,h2];rfl
theorem dQ{μ:Nat->Pl}{K:Nat->Prop}{F:T V}{H:Hp}{w:World}{a:Act}(hR:Rel G μ K H w)(hF:zY μ K n F a.tmps):∀{rv:List ResultVar} {rs:List SRes} {vs:List V},JJ P n rv=some rs->vG F H rs=some vs->
 ∃xs:List Value,qg (yc μ K) vs xs/\(rv.mapM (Wz a.tmps)).run P w=.ok xs w
 |[],rs,vs,h1,h2=>by
  simp [JJ] at h1;subst h1;simp [vG] at h2;subst h2;exact⟨[],trivial,by simp⟩
 |.tmp t::rv,rs,vs,h1,h2=>by
  simp only [JJ] at h1;split at h1
  ·rename_i ht;simp only [zom] at h1;obtain⟨rs',hrs,rfl⟩:=h1;simp only [vG,Kp] at h2;split at h2
   ·rename_i v vs' e1 e2;split at h2
    ·rename_i hone;obtain rfl:=zsi h2;obtain rfl:=zsi e1;obtain⟨xs,hall,hrun⟩:=dQ hR hF hrs e2;exact⟨a.tmps.getD t Go.undef::xs,⟨lW hone (hF.2 t ht),hall⟩,WK rfl hrun⟩
    ·cases h2
   ·cases h2
  ·cases h1
 |.cell c t::rv,rs,vs,h1,h2=>by
  simp only [JJ] at h1;split at h1
  ·rename_i g k hg hk;split at h1
   ·rename_i hc;simp only [zom] at h1;obtain⟨rs',hrs,rfl⟩:=h1;simp only [vG,Kp] at h2;split at h2
    ·rename_i v vs' e1 e2;split at h2
     ·rename_i hone;obtain rfl:=zsi h2;obtain⟨xs,hall,hrun⟩:=dQ hR hF hrs e2;have hv:=hF.2 c hc;simp only [xj,Opd.ev] at e1;split at e1
      ·rename_i b o he;rw [he] at hv;obtain⟨hkb,hv'⟩:K b/\a.tmps.getD c Go.undef=.pointer (some ((μ b).addr o)):=hv;cases g with
       |true=>
        simp only [if_true,zom] at e1;obtain⟨l,hl,rfl⟩:=e1;obtain⟨ys,ha,hr⟩:=hR.loads (P:=P) (n:=k) (b:=b) (o:=o) (i:=0) (acc:=#[]) hl;have hr':(loadCells ((μ b).addr o) k).run P w=.ok ys.toArray w:=by simpa [loadCells] using hr
        refine⟨.agg ys.toArray::xs,⟨⟨ys,rfl,ha⟩,hall⟩,WK ?_ hrun⟩;simp only [Wz,Sem.run_bind,hv',asAddr,Sem.run_pure,Result.andThen_ok,loadVar,vz hg,if_true,zW hk,hr']
       |false=>
        simp only [Bool.false_eq_true,if_false,zom] at e1;obtain⟨cc,hcc,rfl⟩:=e1;obtain⟨y,hy,hr⟩:=hR.cell hcc;refine⟨y::xs,⟨hr,hall⟩,WK ?_ hrun⟩;simp only [Wz,Sem.run_bind,hv',asAddr,Sem.run_pure,Result.andThen_ok,loadVar,vz hg,Bool.false_eq_true,if_false,run_load,hy]
      ·cases e1
     ·cases h2
    ·cases h2
   ·cases h1
  ·cases h1
theorem JA{f:FuncId}{sf:SFn}(hf:qG P G f=some sf){args:List V}{H:Hp}{R:V->Hp->Prop}(hn:args.length<=sf.n)(h:sN P G sf.n sf.code (Xc sf.res R) (vA args 0) H):qH P G f args H R:=by
 unfold qG at hf;split at hf
 ·cases hf
 ·rename_i fn hfn;split at hf
  ·cases hf
  ·rename_i c hb;split at hf
   ·rename_i s rs hs hrs;obtain rfl:=zsi hf;intro μ K w xs hR ha;refine (callsIn_wide (n:=0)).1 (callsIn_of_wp_marks hfn hb trivial ?_);have hlen:=ha.len;have hF0:zY μ K fn.ntmps (vA args 0) (xs.toArray++Array.replicate (fn.ntmps-xs.toArray.size) Go.undef):=by
     refine⟨by simp;simp at hn;omega,fun i hi=>?_⟩;rw [eX];simp only [Nat.zero_le,if_true,Nat.sub_zero];by_cases hlt:i<xs.length
     ·have h1:args[i]?=some args[i]:=zge (by omega);rw [h1];obtain⟨x,hx,hr⟩:=ha.at i _ h1;have:(xs.toArray++Array.replicate (fn.ntmps-xs.toArray.size) Go.undef).getD i Go.undef=x:=by
       simp [Array.getD_eq_getD_getElem?,Array.getElem?_append,hlt,zge hlt] at hx ⊢;exact hx
      rw [this];exact hr
     ·have h1:args[i]?=none:=List.getElem?_eq_none (by omega);rw [h1];have:(xs.toArray++Array.replicate (fn.ntmps-xs.toArray.size) Go.undef).getD i Go.undef=Go.undef:=by
       simp only [Array.getD_eq_getD_getElem?,Array.getElem?_append];rw [if_neg (by simpa using hlt)];rw [Array.getElem?_replicate];split<;>rfl
      rw [this];exact RV.undef
    refine wpIn_mono (h c hs w.heap.size μ K w ⟨_,[]⟩ hR hF0 (J7.nil w (Nat.le_refl _))) fun e a' w' he=>?_;obtain⟨hd,F',H',μ',K',h1,h3,h4',h5⟩:=he;have fin:(match yb F' H' rs with
     |some v=>R v H'
     |none=>False)->LeavesInM Fence.wide 0 P fn a'.tmps (fun e w'=>∃x,e=.returned x/\∃v H' μ' K',R v H'/\RV μ' K' v x/\Rel G μ' K' H' w'/\Fr μ K H w μ' K' H' w') a'.defers .returning w':=by
     intro hres;refine lO hd h3 h5 fun w' h2 h4=>?_;unfold yb at hres;cases hl:vG F' H' rs with
     |none=>simp [hl] at hres
     |some vs=>
      obtain⟨ys,hall,hrun⟩:=dQ (P:=P) h2 h4' hrs hl;have hrun':(results fn a'.tmps).run P w'=.ok (if h:ys.toArray.size=1 then ys.toArray[0] else .tuple ys.toArray) w':=by
       have he:results fn a'.tmps=(do let vs<-fn.results.mapM (Wz a'.tmps);pure (if h:vs.size=1 then vs[0] else .tuple vs)):=by
        unfold results Wz;rfl
       rw [he,Sem.run_bind,Array.mapM_eq_mapM_toList,Sem.run_map,hrun];rfl
      clear hrun
      match vs,ys,hall,hl,hrun' with
      |[v],[y],hall,hl,hrun'=>
       simp only [hl] at hres;exact⟨y,by rw [hrun'];rfl,y,rfl,v,H',μ',K',hres,RV.of1 hall.1,h2,h4⟩
      |[],[],_,hl,hrun'=>
       simp only [hl] at hres;exact⟨.tuple #[],by rw [hrun'];rfl,_,rfl,.tup [],H',μ',K',hres,RV.undef,h2,h4⟩
      |v1::v2::vs,y1::y2::ys,hall,hl,hrun'=>
       simp only [hl] at hres;exact⟨.tuple (y1::y2::ys).toArray,by rw [hrun'];simp,_,rfl,.tup (v1::v2::vs),H',μ',K',hres,⟨_,rfl,hall⟩,h2,h4⟩
      |[],_::_,hall,_,_=>exact hall.elim
      |_::_,[],hall,_,_=>exact hall.elim
      |[_],_::_::_,hall,_,_=>exact hall.2.elim
      |_::_::_,[_],hall,_,_=>exact hall.2.elim
    cases e with
    |normal=>exact fin h1
    |ret=>exact fin h1
    |exit id=>exact h1.elim
    |goto l=>exact h1.elim
    |panic ch=>exact h1.elim
    |outgrown=>exact h1.elim
   ·cases hf
end
def OH:C->C->Bool
 |.bool a,.bool b=>a==b
 |.int k a,.int k' b=>decide (k=k')&&decide (a=b)
 |.str a,.str b=>decide (a.data=b.data)
 |.ptr b o,.ptr b' o'=>decide (b=b')&&decide (o=o')
 |.nilp,.nilp=>true
 |.slc b o l c e x,.slc b' o' l' c' e' x'=>decide (b=b')&&decide (o=o')&&decide (l=l')&&decide (c=c')&&decide (e=e')&&(x==x')
 |.nils,.nils=>true
 |.map b,.map b'=>decide (b=b')
 |.nilm,.nilm=>true
 |.fn f l,.fn f' l'=>decide (f=f')&&decide (l=l')
 |.nilf,.nilf=>true
 |_,_=>false
theorem FR{a b:C}(h:OH a b=true):a=b:=by
 cases a<;>cases b<;>simp [OH] at h<;>simp_all;rename_i s t;cases s;cases t;simp_all
def sO:List C->List C->Bool
 |[],[]=>true
 |a::l,b::m=>OH a b&&sO l m
 |_,_=>false
theorem FQ:∀{l m:List C},sO l m=true->l=m
 |[],[],_=>rfl
 |a::l,b::m,h=>by
  simp only [sO,xD] at h;rw [FR h.1,FQ h.2]
 |[],_::_,h=>by simp [sO] at h
 |_::_,[],h=>by simp [sO] at h
def Veq:V->V->Bool
 |.one a,.one b=>OH a b
 |.agg l,.agg m=>sO l m
 |_,_=>false
theorem qcu{a b:V}(h:Veq a b=true):a=b:=by
 cases a<;>cases b<;>simp only [Veq] at h
 all_goals first
  |rw [FR h]
  |rw [FQ h]
  |cases h
abbrev oD:=List (Nat × T V × LoadOp × V)
def XC(ws:List Nat)(ctx:oD)(H:Hp):Bool:=
 ws.all fun k=>ctx.all fun e=>e.1!=k||(match xj e.2.1 H e.2.2.1 with
  |some v=>Veq v e.2.2.2
  |none=>false)
def Qa(tb:Nat->Option SFn)(call:FuncId->List V->Hp->Option (V × Hp))(base:Nat):List SOper->oD->T V->Hp->Option (T V × Hp)
 |[],_,F,H=>some (F,H)
 |o::r,ctx,F,H=>
  match qt o.guard F with
  |true=>
   match o.op with
   |.p op=>match qv F op with
    |some v=>Qa tb call base r ctx (xF F o.dst v) H
    |none=>none
   |.l op=>match xj F H op with
    |some v=>Qa tb call base r (match o.keep with
     |true=>(o.id,F,op,v)::ctx
     |false=>ctx) (xF F o.dst v) H
    |none=>none
   |.a op=>match xA F op with
    |some (bk,g)=>match o.aid with
     |none=>Qa tb call base r ctx (xF F o.dst (g H.nx)) (H.push bk)
     |some k=>Qa tb call base r ctx (xF F o.dst (g (base+k))) (H.add (base+k) bk)
    |none=>none
   |.e op=>match xr F H op with
    |some (v,H')=>match XC o.watch ctx H' with
     |true=>Qa tb call base r ctx (xF F o.dst v) H'
     |false=>none
    |none=>none
   |.cf f args=>match call f (args.map (·.ev F)) H with
    |some (v,H')=>match XC o.watch ctx H' with
     |true=>Qa tb call base r ctx (xF F o.dst v) H'
     |false=>none
    |none=>none
   |.cv x args=>match x.ev F with
    |.one (.fn f caps)=>match tb f with
     |some _=>match call f (args.map (·.ev F)++caps.map Jq) H with
      |some (v,H')=>match XC o.watch ctx H' with
       |true=>Qa tb call base r ctx (xF F o.dst v) H'
       |false=>none
      |none=>none
     |none=>none
    |_=>none
   |.nx _=>none
   |.no=>none
  |false=>Qa tb call base r ctx (xF F o.dst V.undef) H
inductive EE where
 |normal
 |exit (id:Nat)
 |ret
def EE.ex:EE->Exit
 |.normal=>.normal
 |.exit id=>.exit id
 |.ret=>.ret
def bX(tb:Nat->Option SFn)(rec:SC->T V->Hp->Option (EE × T V × Hp))(f:FuncId)(args:List V)(H:Hp):Option (V × Hp):=
 match tb f with
 |none=>none
 |some sf=>if args.length<=sf.n then
  match rec sf.code (vA args 0) H with
  |none=>none
  |some (e,F',H')=>match e with
   |.exit _=>none
   |_=>match yb F' H' sf.res with
    |some v=>some (v,H')
    |none=>none
  else none
def kh(tb:Nat->Option SFn)(rec:SC->T V->Hp->Option (EE × T V × Hp))(s:SC)(F:T V)(H:Hp):Option (EE × T V × Hp):=
 match s with
 |.skip=>some (.normal,F,H)
 |.ops l res=>match Qa tb (bX tb rec) H.nx l [] F (H.skip res) with
  |none=>none
  |some (F',H')=>some (.normal,F',H')
 |.seq a b=>match rec a F H with
  |none=>none
  |some (e,F',H')=>match e with
   |.normal=>rec b F' H'
   |e=>some (e,F',H')
 |.cond d a b=>match d.ev F with
  |.one (.bool t)=>match t with
   |true=>rec a F H
   |false=>rec b F H
  |_=>none
 |.block id a=>match rec a F H with
  |none=>none
  |some (e,F',H')=>match e with
   |.exit id'=>if id'=id then some (.normal,F',H') else some (.exit id',F',H')
   |e=>some (e,F',H')
 |.loop a=>match rec a F H with
  |none=>none
  |some (e,F',H')=>match e with
   |.normal=>rec (.loop a) F' H'
   |e=>some (e,F',H')
 |.exit id=>some (.exit id,F,H)
 |.ret=>some (.ret,F,H)
 |.scope a=>match rec a F H with
  |none=>none
  |some (e,F',H')=>some (e,F',H')
 |.rf ..=>none
 |.no=>none
def mR(tb:Nat->Option SFn):Nat->SC->T V->Hp->Option (EE × T V × Hp)
 |0=>fun _ _ _=>none
 |fuel+1=>kh tb (mR tb fuel)
def evF(tb:Nat->Option SFn)(fuel:Nat)(f:FuncId)(args:List V)(H:Hp):Option (V × Hp):=bX tb (mR tb fuel) f args H
def JR(P:Program)(G:Nat)(tb:Nat->Option SFn):Prop:=∀f sf,tb f=some sf->qG P G f=some sf/\qA P f=true
section
variable{P:Program}{G:Nat}{tb:Nat->Option SFn}
def qa4(ctx:oD):zR:=ctx.map fun e=>(e.1,fun H'=>xj e.2.1 H' e.2.2.1=some e.2.2.2)
theorem We{ws:List Nat}{ctx:oD}{H:Hp}(h:XC ws ctx H=true):zx ws (qa4 ctx) H:=by
 cases ws with
 |nil=>trivial
 |cons w ws=>
  intro k hk p hp;simp only [XC,List.all_eq_true] at h;have h1:=h k hk;obtain⟨e,he,hep⟩:=List.mem_map.1 hp;have h2:=h1 e he;injection hep with e1 e2
  subst e1 e2;simp only [bne_self_eq_false,Bool.false_or] at h2;cases hv:xj e.2.1 H e.2.2.1 with
  |none=>simp [hv] at h2
  |some v=>simp only [hv] at h2;show xj e.2.1 H e.2.2.1=some e.2.2.2;rw [hv,qcu h2]
theorem wr{call:FuncId->List V->Hp->Option (V × Hp)}(hcall:∀f args H v H',call f args H=some (v,H')->qH P G f args H fun v' H''=>v'=v/\H''=H')(htb:JR P G tb){base:Nat}{Q:T V->Hp->Prop}:
 ∀{l:List SOper} {ctx:oD} {F F':T V} {H H':Hp},Qa tb call base l ctx F H=some (F',H')->Q F' H'->qF P G base Q l (qa4 ctx) F H
 |[],ctx,F,F',H,H',h,hq=>by
  simp only [Qa,zoi,zpi] at h;obtain⟨rfl,rfl⟩:=h;exact hq
 |o::r,ctx,F,F',H,H',h,hq=>by
  rw [Qa] at h;rw [qF];cases hw:qt o.guard F with
  |false=>
   simp only [hw] at h;simp only [Bool.false_eq_true,if_false];exact wr hcall htb h hq
  |true=>
   simp only [hw] at h;simp only [if_true];cases hop:o.op with
   |p op=>
    simp only [hop] at h ⊢;cases hv:qv F op with
    |none=>simp [hv] at h
    |some v=>simp only [hv] at h ⊢;exact wr hcall htb h hq
   |l op=>
    simp only [hop] at h ⊢;cases hv:xj F H op with
    |none=>simp [hv] at h
    |some v=>
     simp only [hv] at h ⊢;cases hk:o.keep with
     |false=>simp only [hk] at h;simp only [Bool.false_eq_true,if_false];exact wr hcall htb h hq
     |true=>simp only [hk] at h;simp only [if_true];exact wr (ctx:=(o.id,F,op,v)::ctx) hcall htb h hq
   |a op=>
    simp only [hop] at h ⊢;cases hv:xA F op with
    |none=>simp [hv] at h
    |some bg=>
     simp only [hv] at h ⊢;cases hai:o.aid with
     |none=>simp only [hai] at h ⊢;exact wr hcall htb h hq
     |some k=>simp only [hai] at h ⊢;exact wr hcall htb h hq
   |e op=>
    simp only [hop] at h ⊢;cases hv:xr F H op with
    |none=>simp [hv] at h
    |some vH=>
     simp only [hv] at h ⊢;cases hwt:XC o.watch ctx vH.2 with
     |false=>simp [hwt] at h
     |true=>simp only [hwt] at h;exact⟨We hwt,wr hcall htb h hq⟩
   |cf f args=>
    simp only [hop] at h ⊢;cases hv:call f (args.map (·.ev F)) H with
    |none=>simp [hv] at h
    |some vH=>
     simp only [hv] at h;cases hwt:XC o.watch ctx vH.2 with
     |false=>simp [hwt] at h
     |true=>
      simp only [hwt] at h;refine (hcall f _ H vH.1 vH.2 hv).mono ?_;rintro v' H'' ⟨rfl,rfl⟩;exact⟨We hwt,wr hcall htb h hq⟩
   |cv x args=>
    simp only [hop] at h ⊢;split at h
    ·rename_i f caps hx;cases ht:tb f with
     |none=>simp [ht] at h
     |some sf=>
      simp only [ht] at h
      try simp only [hx]
      refine⟨(htb f sf ht).2,?_⟩;cases hv:call f (args.map (·.ev F)++caps.map Jq) H with
      |none=>simp [hv] at h
      |some vH=>
       simp only [hv] at h;cases hwt:XC o.watch ctx vH.2 with
       |false=>simp [hwt] at h
       |true=>
        simp only [hwt] at h;refine (hcall f _ H vH.1 vH.2 hv).mono ?_;rintro v' H'' ⟨rfl,rfl⟩;exact⟨We hwt,wr hcall htb h hq⟩
    ·cases h
   |nx x=>simp [hop] at h
   |no=>simp [hop] at h
theorem fH {rec:SC->T V->Hp->Option (EE × T V × Hp)} (htb:JR P G tb) (hrec:∀{n:Nat} {s:SC} {F F':T V} {H H':Hp} {e:EE} {Q:Exit->T V->Hp->Prop},rec s F H=some (e,F',H')->Q e.ex F' H'->sN P G n s Q F H)
 {f:FuncId} {args:List V} {H H':Hp} {v:V} (h:bX tb rec f args H=some (v,H')):qH P G f args H fun v' H''=>v'=v/\H''=H':=by
 unfold bX at h;split at h
 ·cases h
 ·rename_i sf hsf;split at h
  ·rename_i hlen;split at h
   ·cases h
   ·rename_i e2 F2 H4 hev2;obtain⟨hcp,_⟩:=htb f sf hsf;cases e2 with
    |exit id=>cases h
    |normal=>
     simp only at h;split at h
     ·rename_i v2 hres;simp only [zoi,zpi] at h;obtain⟨rfl,rfl⟩:=h;refine JA hcp hlen (hrec hev2 ?_);simp only [EE.ex,Xc,hres];exact⟨trivial,trivial⟩
     ·cases h
    |ret=>
     simp only at h;split at h
     ·rename_i v2 hres;simp only [zoi,zpi] at h;obtain⟨rfl,rfl⟩:=h;refine JA hcp hlen (hrec hev2 ?_);simp only [EE.ex,Xc,hres];exact⟨trivial,trivial⟩
     ·cases h
  ·cases h
theorem qax(hm:P.follows .mixedOrders=true)(htb:JR P G tb):∀(fuel:Nat) {n:Nat} {s:SC} {F F':T V} {H H':Hp} {e:EE} {Q:Exit->T V->Hp->Prop},mR tb fuel s F H=some (e,F',H')->Q e.ex F' H'->sN P G n s Q F H:=by
 intro fuel;induction fuel using Nat.strongRecOn with
 |_ fuel ih=>
  intro n s F F' H H' e Q h hq;cases fuel with
  |zero=>cases h
  |succ fuel=>
   have h:kh tb (mR tb fuel) s F H=some (e,F',H'):=h;have hrec:∀{n:Nat} {s:SC} {F F':T V} {H H':Hp} {e:EE} {Q:Exit->T V->Hp->Prop},mR tb fuel s F H=some (e,F',H')->Q e.ex F' H'->sN P G n s Q F H:=fun h hq=>ih fuel (by omega) h hq;cases s with
   |skip=>
    simp only [kh,zoi,zpi] at h;obtain⟨rfl,rfl,rfl⟩:=h;exact Vw hq
   |ops l res=>
    simp only [kh] at h;split at h
    ·cases h
    ·rename_i F1 H1 hev;simp only [zoi,zpi] at h;obtain⟨rfl,rfl,rfl⟩:=h;exact cZ hm (wr (ctx:=[]) (fun f args H2 v H3 hc=>fH htb hrec hc) htb hev hq)
   |seq a b=>
    simp only [kh] at h;split at h
    ·cases h
    ·rename_i e1 F1 H1 h1;refine cX ?_;cases e1 with
     |normal=>exact hrec h1 (hrec (Q:=Q) h hq)
     |exit id=>
      simp only [zoi,zpi] at h;obtain⟨rfl,rfl,rfl⟩:=h;exact hrec h1 hq
     |ret=>
      simp only [zoi,zpi] at h;obtain⟨rfl,rfl,rfl⟩:=h;exact hrec h1 hq
   |cond d a b=>
    simp only [kh] at h;split at h
    ·rename_i t ht;cases t with
     |true=>exact Jd (t:=true) ht (hrec h hq)
     |false=>exact Jd (t:=false) ht (hrec h hq)
    ·cases h
   |block id a=>
    simp only [kh] at h;split at h
    ·cases h
    ·rename_i e1 F1 H1 h1;refine Wj ?_;cases e1 with
     |normal=>
      simp only [zoi,zpi] at h;obtain⟨rfl,rfl,rfl⟩:=h;exact hrec h1 hq
     |ret=>
      simp only [zoi,zpi] at h;obtain⟨rfl,rfl,rfl⟩:=h;exact hrec h1 hq
     |exit id'=>
      simp only at h;refine hrec h1 ?_;simp only [EE.ex,Y5];split at h
      ·rename_i hid;simp only [zoi,zpi] at h;obtain⟨rfl,rfl,rfl⟩:=h;rw [if_pos hid];exact hq
      ·rename_i hid;simp only [zoi,zpi] at h;obtain⟨rfl,rfl,rfl⟩:=h;rw [if_neg hid];exact hq
   |loop a=>
    refine Vx (fun m F1 H1=>m<=fuel+1/\mR tb m (.loop a) F1 H1=some (e,F',H')) (m:=fuel+1) ⟨Nat.le_refl _,h⟩ ?_;rintro m F1 H1 ⟨hle,hev⟩;cases m with
    |zero=>cases hev
    |succ m=>
     have hev:kh tb (mR tb m) (.loop a) F1 H1=some (e,F',H'):=hev;simp only [kh] at hev;split at hev
     ·cases hev
     ·rename_i e1 F2 H2 h1;cases e1 with
      |normal=>exact ih m (by omega) h1 ⟨m,by omega,by omega,hev⟩
      |exit id=>
       simp only [zoi,zpi] at hev;obtain⟨rfl,rfl,rfl⟩:=hev;exact ih m (by omega) h1 hq
      |ret=>
       simp only [zoi,zpi] at hev;obtain⟨rfl,rfl,rfl⟩:=hev;exact ih m (by omega) h1 hq
   |exit id=>
    simp only [kh,zoi,zpi] at h;obtain⟨rfl,rfl,rfl⟩:=h;exact Vy hq
   |ret=>
    simp only [kh,zoi,zpi] at h;obtain⟨rfl,rfl,rfl⟩:=h;exact cY hq
   |rf d ps a b=>cases h
   |no=>cases h
   |scope a=>
    simp only [kh] at h;split at h
    ·cases h
    ·rename_i e1 F1 H1 h1;simp only [zoi,zpi] at h;obtain⟨rfl,rfl,rfl⟩:=h;refine d7 (hrec h1 ?_);cases e1<;>exact hq
theorem qaw(hm:P.follows .mixedOrders=true)(htb:JR P G tb){fuel:Nat}{f:FuncId}{args:List V}{H H':Hp}{v:V}(h:evF tb fuel f args H=some (v,H')):qH P G f args H fun v' H''=>v'=v/\H''=H':=
 fH htb (qax hm htb fuel) h
def uQ(tb:Nat->Option SFn)(fuel:Nat)(f:FuncId)(args:List V)(H:Hp):Option V:=(evF tb fuel f args H).map (·.1)
theorem H7(hm:P.follows .mixedOrders=true)(htb:JR P G tb){fuel:Nat}{f:FuncId}{args:List V}{H:Hp}{v:V}(h:uQ tb fuel f args H=some v):qH P G f args H fun v' _=>v'=v:=by
 unfold uQ at h;simp only [zom] at h;obtain⟨⟨v',H'⟩,hh,rfl⟩:=h;exact (qaw hm htb hh).mono fun _ _ h=>h.1
end
end Go.Ab
