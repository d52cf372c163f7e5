/- -/
import Derived.Test.YtbfbplnghpdmhaaGreatDoorAb6
set_option linter.unusedSimpArgs false
set_option linter.unusedVariables false
namespace Go.Ab
inductive SC where
 |skip
 |ops (l:List SOper) (res:Nat)
 |seq (a b:SC)
 |cond (d:Opd) (a b:SC)
 |block (id:Nat) (a:SC)
 |loop (a:SC)
 |exit (id:Nat)
 |ret
 /-- a range over a function:the function,a round's parameters,what it assigns,what it does -/
 |rf (d:Opd) (ps:List Nat) (a b:SC)
 |scope (a:SC)
 /-- not covered:no run comes here -/
 |no
structure Extra where
 aid:Nat->Option Nat
 watch:Nat->List Nat
 keep:Nat->Bool
def nF(P:Program)(G n:Nat)(ops:Array Oper)(x:Extra)(i:Nat):Option SOper:=
 match ops[i]? with
 |none=>none
 |some o=>match uN P G n o,W9 n ops o.guard with
  |some op,some g=>if uW n o.dst then some ⟨i,o.dst,op,g,x.aid i,x.watch i,x.keep i⟩ else none
  |_,_=>none
def KM(P:Program)(G n:Nat)(ops:Array Oper)(x:Extra):List Nat->Option (List SOper)
 |[]=>some []
 |i::r=>match nF P G n ops x i,KM P G n ops x r with
  |some s,some l=>some (s::l)
  |_,_=>none
def OI:Extra:=⟨fun _=>none,fun _=>[],fun _=>false⟩
def m5(ops:List Oper):List (List Nat):=
 ops.foldl (init:=[]) fun acc o=>acc++[(o.after.toList.foldl (init:=[]) fun s e=>if Region.binds .any e then (e.on::acc.getD e.on []).foldl (fun s j=>if s.contains j then s else j::s) s else s)]
def Kd.light:Kd->Bool
 |.p=>true
 |.l=>true
 |_=>false
def sS(D:List (List Nat))(kds:List Kd):Nat->List Nat->List Nat->List Nat
 |0,_,acc=>acc.reverse
 |f+1,rest,acc=>
  let ok:=fun i=>(D.getD i []).all fun j=>acc.contains j
  match rest.find? fun i=>(kds.getD i .e).light&&ok i with
  |some i=>sS D kds f (rest.filter (·!=i)) (i::acc)
  |none=>match rest.find? fun i=>!(kds.getD i .e).light with
   |some i=>sS D kds f (rest.filter (·!=i)) (i::acc)
   |none=>acc.reverse
def tL(P:Program)(G n:Nat)(ops:List Oper):List Kd:=ops.map fun o=>match uN P G n o with
 |some op=>op.kd
 |none=>.e
def Kd.isL:Kd->Bool
 |.l=>true
 |_=>false
def Kd.isA:Kd->Bool
 |.a=>true
 |_=>false
def Kd.isE:Kd->Bool
 |.e=>true
 |.c=>true
 |_=>false
def cB(D:List (List Nat))(kds:List Kd):List Nat->List Nat->List (Nat × List Nat)
 |[],_=>[]
 |i::r,ls=>
  if (kds.getD i .e).isE then (i,ls.filter fun j=>!(D.getD i []).contains j)::cB D kds r ls
  else cB D kds r (if (kds.getD i .e).isL then i::ls else ls)
def aO(D:List (List Nat)):List Nat->List SOper->Bool
 |i::xO,s::l=>((xO.zip l).all fun p=>(D.getD p.1 []).contains i||QN s p.2)&&aO D xO l
 |_,_=>true
def Ww:List Nat->Bool
 |[]=>true
 |i::l=>!l.contains i&&Ww l
def uI(D:List (List Nat))(ops:Array Oper)(i:Nat):Bool:=
 match ops[i]? with
 |none=>true
 |some o=>(D.getD i []).all (fun j=>o.after.toList.any fun e=>Region.binds .any e&&(e.on==j||(D.getD e.on []).contains j))&&o.after.toList.all fun e=>!Region.binds .any e||decide (e.on<i)
def uG(D:List (List Nat))(ops:Array Oper)(xO:List Nat)(l:List SOper)(res:Nat):Bool:=
 aO D xO l&&Ww xO&&xO.all (fun i=>decide (i<ops.size))&&(List.range ops.size).all (fun i=>xO.contains i)&&(List.range ops.size).all (uI D ops)&&Ww (l.filterMap (·.aid))&&decide (xO.length<=ops.size)&&(l.filterMap (·.aid)).all fun k=>decide (k<res)
def aC(D:List (List Nat))(kds:List Kd):Nat->List Nat->List Nat->List Nat
 |0,_,acc=>acc.reverse
 |f+1,rest,acc=>
  let ok:=fun i=>(D.getD i []).all fun j=>acc.contains j
  match rest.find? fun i=>(kds.getD i .e).light&&ok i with
  |some i=>aC D kds f (rest.filter (·!=i)) (i::acc)
  |none=>match rest.find? fun i=>(kds.getD i .e).isE&&ok i with
   |some i=>aC D kds f (rest.filter (·!=i)) (i::acc)
   |none=>match rest.find? fun i=>!(kds.getD i .e).light with
    |some i=>aC D kds f (rest.filter (·!=i)) (i::acc)
    |none=>acc.reverse
def JB(P:Program)(G n:Nat)(ops:Array Oper)(xO:List Nat):Option (List SOper):=
 let D:=m5 ops.toList;let kds:=tL P G n ops.toList;let ws:=cB D kds xO [];let x:Extra:=⟨fun i=>if (kds.getD i .e).isA then some i else none,fun i=>((ws.find? fun p=>p.1==i).map (·.2)).getD [],fun i=>ws.any fun p=>p.2.contains i⟩
 match KM P G n ops x xO with
 |none=>none
 |some l=>if uG D ops xO l ops.size then some l else none
def EB(P:Program)(G n:Nat)(ops:Array Oper):Option (List SOper):=
 match JB P G n ops (sS (m5 ops.toList) (tL P G n ops.toList) ops.size (List.range ops.size) []) with
 |some l=>some l
 |none=>JB P G n ops (aC (m5 ops.toList) (tL P G n ops.toList) ops.size (List.range ops.size) [])
def xS(P:Program)(G n:Nat):Code->Option SC
 |.skip=>some .skip
 |.region _ ops draw=>
  if draw then (EB P G n ops).map fun l=>.ops l ops.size
  else (KM P G n ops OI (List.range ops.size)).map fun l=>.ops l 0
 |.seq a b=>match xS P G n a,xS P G n b with
  |some a,some b=>some (.seq a b)
  |_,_=>none
 |.cond c a b=>match cO G n c,xS P G n a,xS P G n b with
  |some d,some a,some b=>some (.cond d a b)
  |_,_,_=>none
 |.block id a=>(xS P G n a).map (.block id)
 |.loop a=>(xS P G n a).map .loop
 |.exit id=>some (.exit id)
 |.ret=>some .ret
 |.rangeFunc g ps sg bd=>match cO G n g,xS P G n sg,xS P G n bd with
  |some d,some a,some b=>some (.rf d ps.toList a b)
  |_,_,_=>none
 |.scope a=>(xS P G n a).map .scope
 |.label _=>some .skip
 |_=>some .no
inductive SRes where
 |t (n:Nat)
 |cell (agg:Bool) (k:Nat) (n:Nat)
def Kf(F:T V)(H:Hp):SRes->Option V
 |.t n=>some ((F.get n).getD V.undef)
 |.cell agg k n=>xk F H (.load agg k (.t n))
def vE(F:T V)(H:Hp):List SRes->Option (List V)
 |[]=>some []
 |r::l=>match Kf F H r,vE F H l with
  |some v,some vs=>if kf v then some (v::vs) else none
  |_,_=>none
def ye(F:T V)(H:Hp)(rs:List SRes):Option V:=
 match vE F H rs with
 |some [v]=>some v
 |some vs=>some (.tup vs)
 |none=>none
def JA(P:Program)(n:Nat):List ResultVar->Option (List SRes)
 |[]=>some []
 |.tmp t::l=>if t<n then (JA P n l).map (.t t::·) else none
 |.cell a t::l=>match ZK P t,jA P t with
  |some g,some k=>if a<n then (JA P n l).map (.cell g k a::·) else none
  |_,_=>none
structure SFn where
 n:Nat
 code:SC
 res:List SRes
def qG(P:Program)(G:Nat)(f:FuncId):Option SFn:=
 match P.funcs[f]? with
 |none=>none
 |some fn=>match fn.body with
  |none=>none
  |some c=>match xS P G fn.ntmps c,JA P fn.ntmps fn.results.toList with
   |some s,some rs=>some ⟨fn.ntmps,s,rs⟩
   |_,_=>none
def vz:List V->Nat->T V
 |[],_=>.lf
 |v::l,i=>(vz l (i+1)).set i (some v)
def Xj(rs:List SRes)(R:V->Hp->Prop):Exit->T V->Hp->Prop
 |.normal,F,H=>match ye F H rs with
  |some v=>R v H
  |none=>False
 |.ret,F,H=>match ye F H rs with
  |some v=>R v H
  |none=>False
 |_,_,_=>False
def jM(ρ:Option Nat)(P:Program)(G n:Nat)(s:SC)(Q:Exit->T V->Hp->Prop)(F:T V)(H:Hp):Prop:=∀c,xS P G n c=some s->jE ρ P G n c Q F H
abbrev sD:=jM none
section
variable{P:Program}{G n:Nat}{ρ:Option Nat}
theorem oO{ops:Array Oper}{x:Extra}{i:Nat}{s:SOper}(h:nF P G n ops x i=some s):(∃o,ops[i]?=some o/\u7 P G n ops o s)/\s.aid=x.aid i:=by
 unfold nF at h;split at h
 ·cases h
 ·rename_i o ho;split at h
  ·rename_i op g h1 h2;split at h
   ·rename_i h3;obtain rfl:=zsi h;exact⟨⟨o,ho,h1,rfl,h3,h2⟩,rfl⟩
   ·cases h
  ·cases h
theorem X9{ops:Array Oper}{x:Extra}:∀{xO:List Nat} {l:List SOper},KM P G n ops x xO=some l->yW P G n ops xO l/\∀s∈l,∃i∈xO,s.aid=x.aid i
 |[],l,h=>by simp [KM] at h;subst h;exact⟨trivial,by simp⟩
 |i::xO,l,h=>by
  simp only [KM] at h;split at h
  ·rename_i s r h1 h2;obtain rfl:=zsi h;obtain⟨g1,g2⟩:=oO h1;obtain⟨g3,g4⟩:=X9 h2;refine⟨⟨g1,g3⟩,fun t ht=>?_⟩;rcases List.mem_cons.1 ht with rfl|ht
   ·exact⟨i,by simp,g2⟩
   ·obtain⟨j,hj,e⟩:=g4 t ht;exact⟨j,by simp [hj],e⟩
  ·cases h
theorem d9{D:List (List Nat)}:∀{xO:List Nat} {l:List SOper},aO D xO l=true->Y0 (fun i=>D.getD i []) xO l
 |i::xO,s::l,h=>by
  simp only [aO,xr,List.all_eq_true] at h;refine⟨fun j t hjt=>?_,d9 h.2⟩;have:=h.1 (j,t) hjt;simp only [Bool.or_eq_true] at this;exact this.imp (by simp) id
 |[],_,_=>trivial
 |_::_,[],_=>trivial
theorem Wv:∀{l:List Nat},Ww l=true->l.Nodup
 |[],_=>List.nodup_nil
 |i::l,h=>by
  simp only [Ww,xr] at h;exact List.nodup_cons.2 ⟨by simpa using h.1,Wv h.2⟩
theorem IE (hm:P.follows .mixedOrders=true) {id res:Nat} {ops:Array Oper} {D:List (List Nat)} {xO:List Nat} {l:List SOper} (hal:yW P G n ops xO l) (hB:uG D ops xO l res=true)
 {Q:Exit->T V->Hp->Prop} {F:T V} {H:Hp} (h:qE P G H.nx (Q .normal) l [] F (H.skip res)):jE ρ P G n (.region id ops true) Q F H:=by
 intro s μ K w a hR hF hd;unfold uG at hB;simp only [xr,List.all_eq_true,xQ,List.mem_range] at hB;obtain⟨⟨⟨⟨⟨⟨⟨h1,h2⟩,h3⟩,h4⟩,h5⟩,h6⟩,h8⟩,h7⟩:=hB;have hdep:∀i o,ops[i]?=some o->uI D ops i=true:=fun i o ho=>h5 i (Array.getElem?_eq_some_iff.1 ho).1;refine wpIn_region_any hm ?_;have hR':=(hR.drawn (w.drawn+1)).skip res;refine qb4 (D:=fun i=>D.getD i []) (base:=H.nx) (Q:=Q .normal) (μ0:=μ) (K0:=K) (H0:=H) (w0:=w) hR.lt' (fun μ' K' F' H' a' w' g1 g2 g3 g4 g5=>⟨by rw [g5];exact hd.fr hR g4,F',H',μ',K',g1,g2,g3,g4⟩) (fun i o ho j hj=>?_) (fun i o ho e he hb=>?_)
  (by simp) (fun i hi=>?_) (fun i hi=>h3 i hi) (Wv h2) ?_ (fun i hi hni=>?_) hal (d9 h1) (Wv h6) (fun k p hp=>by cases hp) (fun s hs k hk=>?_) hR' hF ((Fr.drawn hR _ (Nat.le_succ _)).trans hR.lt' (Fr.skip (hR.drawn _) res)) rfl h
 ·have:=hdep i o ho;unfold uI at this;rw [ho] at this;simp only [xr,List.all_eq_true,List.any_eq_true,Bool.or_eq_true] at this;obtain⟨e,he,hb,hh⟩:=this.1 j hj;exact⟨e,he,hb,hh.imp (by simp) (by simp)⟩
 ·have:=hdep i o ho;unfold uI at this;rw [ho] at this;simp only [xr,List.all_eq_true,Bool.or_eq_true,xQ,Bool.not_eq_true'] at this;rcases this.2 e he with h|h
  ·rw [hb] at h;cases h
  ·exact h
 ·constructor
  ·intro _;have:=h4 i hi;simpa using this
  ·intro _;simp [hi]
 ·exact h8
 ·exact absurd (by have:=h4 i hi;simpa using this) hni
 ·have hk':k<res:=h7 k (List.mem_filterMap.2 ⟨s,hs,hk⟩);refine⟨fun hkk=>absurd (hR.lt _ hkk) (by omega),by simp;omega,by omega⟩
theorem Vk{Q:Exit->T V->Hp->Prop}{F:T V}{H:Hp}(h:Q .normal F H):jM ρ P G n .skip Q F H:=by
 intro c hc;cases c<;>simp only [xS] at hc<;>try (cases hc;done)
 case skip=>exact IC h
 case label l=>exact EJ h
 case region id ops draw=>split at hc<;>simp at hc
 case seq a b=>split at hc<;>cases hc
 case rangeFunc g ps a b=>split at hc<;>cases hc
 case cond d a b=>split at hc<;>cases hc
 case block id a=>simp at hc
 case loop a=>simp at hc
 case scope a=>simp at hc
theorem cG(hm:P.follows .mixedOrders=true){l:List SOper}{res:Nat}{Q:Exit->T V->Hp->Prop}{F:T V}{H:Hp}(h:qE P G H.nx (Q .normal) l [] F (H.skip res)):jM ρ P G n (.ops l res) Q F H:=by
 intro c hc;cases c<;>simp only [xS] at hc<;>try (cases hc;done)
 case region id ops draw=>
  cases draw with
  |false=>
   simp only [Bool.false_eq_true,if_false,zom,SC.ops.injEq] at hc;obtain⟨l',hl,rfl,rfl⟩:=hc;obtain⟨h1,h2⟩:=X9 hl;exact u0 h1 (fun s hs=>by obtain⟨i,_,e⟩:=h2 s hs;exact e) h
  |true=>
   simp only [if_true,zom,SC.ops.injEq] at hc;obtain⟨l',hl,rfl,rfl⟩:=hc;have by_:∀xO l'',JB P G n ops xO=some l''->qE P G H.nx (Q .normal) l'' [] F (H.skip ops.size)->jE ρ P G n (.region id ops true) Q F H:=by
    intro xO l'' hl h;unfold JB at hl;simp only at hl;split at hl
    ·cases hl
    ·rename_i l3 hall;split at hl
     ·rename_i hB;obtain rfl:=zsi hl;exact IE hm (X9 hall).1 hB h
     ·cases hl
   unfold EB at hl;split at hl
   ·rename_i l2 h2;obtain rfl:=zsi hl;exact by_ _ _ h2 h
   ·exact by_ _ _ hl h
 case seq a b=>split at hc<;>cases hc
 case rangeFunc g ps a b=>split at hc<;>cases hc
 case cond d a b=>split at hc<;>cases hc
 case block id a=>simp at hc
 case loop a=>simp at hc
 case scope a=>simp at hc
theorem cE{a b:SC}{Q:Exit->T V->Hp->Prop}{F:T V}{H:Hp}(h:jM ρ P G n a (fN (jM ρ P G n b Q) Q) F H):jM ρ P G n (.seq a b) Q F H:=by
 intro c hc;cases c<;>simp only [xS] at hc<;>try (cases hc;done)
 case seq x y=>
  split at hc
  ·rename_i x' y' hx hy;simp only [zoi,SC.seq.injEq] at hc;obtain⟨rfl,rfl⟩:=hc;refine R7 (VS (h x hx) fun e F' H' he=>?_);cases e with
   |normal=>exact (show jM ρ P G n y' Q F' H' from he) y hy
   |_=>exact he
  ·cases hc
 case region id ops draw=>split at hc<;>simp at hc
 case cond d a b=>split at hc<;>cases hc
 case block id a=>simp at hc
 case loop a=>simp at hc
 case scope a=>simp at hc
 case rangeFunc g ps a b=>split at hc<;>cases hc
theorem Y5{d:Opd}{a b:SC}{Q:Exit->T V->Hp->Prop}{F:T V}{H:Hp}{t:Bool}(ht:d.ev F=.one (.bool t))(h:jM ρ P G n (if t then a else b) Q F H):jM ρ P G n (.cond d a b) Q F H:=by
 intro c hc;cases c<;>simp only [xS] at hc<;>try (cases hc;done)
 case cond o x y=>
  split at hc
  ·rename_i d' x' y' h1 hx hy;simp only [zoi,SC.cond.injEq] at hc;obtain⟨rfl,rfl,rfl⟩:=hc;refine IF h1 ht ?_;cases t
   ·exact h y hy
   ·exact h x hx
  ·cases hc
 case region id ops draw=>split at hc<;>simp at hc
 case seq a b=>split at hc<;>cases hc
 case rangeFunc g ps a b=>split at hc<;>cases hc
 case block id a=>simp at hc
 case loop a=>simp at hc
 case scope a=>simp at hc
theorem J7{id:Nat}{a:SC}{Q:Exit->T V->Hp->Prop}{F:T V}{H:Hp}(h:jM ρ P G n a (YX id Q) F H):jM ρ P G n (.block id a) Q F H:=by
 intro c hc;cases c<;>simp only [xS] at hc<;>try (cases hc;done)
 case block id' x=>
  simp only [zom,SC.block.injEq] at hc;obtain⟨x',hx,rfl,rfl⟩:=hc;exact EK (h x hx)
 case region id ops draw=>split at hc<;>simp at hc
 case seq a b=>split at hc<;>cases hc
 case rangeFunc g ps a b=>split at hc<;>cases hc
 case cond d a b=>split at hc<;>cases hc
 case loop a=>simp at hc
 case scope a=>simp at hc
theorem Vl{a:SC}{Q:Exit->T V->Hp->Prop}{F:T V}{H:Hp}(I:Nat->T V->Hp->Prop){m:Nat}(h0:I m F H)(round:∀m F H,I m F H->jM ρ P G n a (fN (fun F' H'=>∃m',m'<m/\I m' F' H') Q) F H):jM ρ P G n (.loop a) Q F H:=by
 intro c hc;cases c<;>simp only [xS] at hc<;>try (cases hc;done)
 case loop x=>
  simp only [zom,SC.loop.injEq] at hc;obtain⟨x',hx,rfl⟩:=hc;exact ID I h0 fun m F H hI=>round m F H hI x hx
 case region id ops draw=>split at hc<;>simp at hc
 case seq a b=>split at hc<;>cases hc
 case rangeFunc g ps a b=>split at hc<;>cases hc
 case cond d a b=>split at hc<;>cases hc
 case block id a=>simp at hc
 case scope a=>simp at hc
theorem dT{a:SC}{Q:Exit->T V->Hp->Prop}{F:T V}{H:Hp}(h:jM ρ P G n a (BG Q) F H):jM ρ P G n (.scope a) Q F H:=by
 intro c hc;cases c<;>simp only [xS] at hc<;>try (cases hc;done)
 case scope x=>
  simp only [zom,SC.scope.injEq] at hc;obtain⟨x',hx,rfl⟩:=hc;exact EI (h x hx)
 case rangeFunc g ps a b=>split at hc<;>cases hc
 case region id ops draw=>split at hc<;>simp at hc
 case seq a b=>split at hc<;>cases hc
 case cond d a b=>split at hc<;>cases hc
 case block id a=>simp at hc
 case loop a=>simp at hc
theorem Vm{id:Nat}{Q:Exit->T V->Hp->Prop}{F:T V}{H:Hp}(h:Q (.exit id) F H):jM ρ P G n (.exit id) Q F H:=by
 intro c hc;cases c<;>simp only [xS] at hc<;>try (cases hc;done)
 case exit id'=>simp only [zoi,SC.exit.injEq] at hc;subst hc;exact nR h
 case region id ops draw=>split at hc<;>simp at hc
 case seq a b=>split at hc<;>cases hc
 case rangeFunc g ps a b=>split at hc<;>cases hc
 case cond d a b=>split at hc<;>cases hc
 case block id a=>simp at hc
 case loop a=>simp at hc
 case scope a=>simp at hc
theorem cF{Q:Exit->T V->Hp->Prop}{F:T V}{H:Hp}(h:Q .ret F H):jM ρ P G n .ret Q F H:=by
 intro c hc;cases c<;>simp only [xS] at hc<;>try (cases hc;done)
 case ret=>exact r4 h
 case region id ops draw=>split at hc<;>simp at hc
 case seq a b=>split at hc<;>cases hc
 case rangeFunc g ps a b=>split at hc<;>cases hc
 case cond d a b=>split at hc<;>cases hc
 case block id a=>simp at hc
 case loop a=>simp at hc
 case scope a=>simp at hc
def qcg(Q:Exit->T V->Hp->Prop):Option Code->T V->Hp->Prop
 |none=>Q .normal
 |some .ret=>Q .ret
 |some (.exit id)=>Q (.exit id)
 |_=>fun _ _=>False
theorem TN {d:Opd} {ps:List Nat} {sa sb:SC} {f:FuncId} {caps:List (Nat × Nat)} {Q:Exit->T V->Hp->Prop} {F:T V} {H:Hp} (hdv:d.ev F=.one (.fn f caps)) (hf:qB P f=true)
 (h:∀fid sg bd,xS P G n sg=some sa->xS P G n bd=some sb->qJ P G f (.one (.yld H.nx)::caps.map Ji) (H.push (.lp .ready none fid n F ps.toArray sg bd)) fun _ H'=>∃st j f1 n1 F1 ps1 as1 bd1,H'.get H.nx=some (.lp st j f1 n1 F1 ps1 as1 bd1)/\st≠.busy/\
  qcg Q j F (H'.add H.nx (.lp .exhausted j f1 n1 F1 ps1 as1 bd1))):sD P G n (.rf d ps sa sb) Q F H:=by
 intro c hc;cases c<;>simp only [xS] at hc<;>try (cases hc;done)
 case rangeFunc g ps' sg bd=>
  split at hc
  ·rename_i d' a' b' hg ha hb;simp only [zoi,SC.rf.injEq] at hc;obtain⟨rfl,rfl,rfl,rfl⟩:=hc;refine qbZ hg hdv hf fun fid=>(h fid sg bd ha hb).mono fun _ H' hh=>?_;obtain⟨st,j,f1,n1,F1,ps1,as1,bd1,h1,h2,h3⟩:=hh;refine⟨st,j,f1,n1,F1,ps1,as1,bd1,by simpa using h1,h2,?_⟩;cases j with
   |none=>exact h3
   |some c=>cases c<;>first|exact h3.elim|exact r4 h3|exact nR h3
  ·cases hc
 case region id ops draw=>split at hc<;>simp at hc
 case seq a b=>split at hc<;>cases hc
 case cond d a b=>split at hc<;>cases hc
 case block id a=>simp at hc
 case loop a=>simp at hc
 case scope a=>simp at hc
theorem AU {b:Nat} {args:List V} {j:Option Code} {f:FuncId} {F:T V} {ps:Array Tmp} {sg bd:Code} {sa sb:SC} {R:V->Hp->Prop} {H:Hp} (hb:H.get b=some (.lp .ready j f n F ps sg bd)) (hlen:args.length=ps.size) (ha:xS P G n sg=some sa) (hbd:xS P G n bd=some sb)
 (h:∀l,jM (some l) P G n sa (fun e F1 H1=>e=.normal/\∃j1 f1 n1 F0 ps1 as1 bd1,H1.get b=some (.lp .ready j1 f1 n1 F0 ps1 as1 bd1)/\jM (some l) P G n sb (BM b R) F1 (H1.add b (.lp .busy j1 f1 n1 F0 ps1 as1 bd1))) (Jb F ps.toList args) H):
 Qd P G b args H R:=
 EH hb hlen fun l=>VS (h l sg ha) fun e F1 H1 ⟨he,j1,f1,n1,F0,ps1,as1,bd1,h1,h2⟩=>⟨he,j1,f1,n1,F0,ps1,as1,bd1,h1,h2 bd hbd⟩
theorem yR{s:SC}{Q Q':Exit->T V->Hp->Prop}{F:T V}{H:Hp}(h:jM ρ P G n s Q F H)(hq:∀e F H,Q e F H->Q' e F H):jM ρ P G n s Q' F H:=
 fun c hc=>VS (h c hc) hq
def WF(H:Hp):Prop:=∀b bk,H.get b=some bk->b<H.nx
theorem TM{s:SC}{Q:Exit->T V->Hp->Prop}{F:T V}{H:Hp}(h:WF H->jM ρ P G n s Q F H):jM ρ P G n s Q F H:=
 fun c hc s μ K w a hR hF hd=>h hR.lt' c hc s μ K w a hR hF hd
theorem EP{f:FuncId}{args:List V}{H:Hp}{R:V->Hp->Prop}(h:WF H->qJ P G f args H R):qJ P G f args H R:=
 fun μ K w xs hR ha=>h hR.lt' μ K w xs hR ha
theorem qJ.wf{f:FuncId}{args:List V}{H:Hp}{R:V->Hp->Prop}(h:qJ P G f args H R):qJ P G f args H fun v H'=>R v H'/\WF H':=
 fun μ K w xs hR ha=>(h μ K w xs hR ha).mono fun _ _ ⟨x,he,v,H',μ',K',h1,h2,h3,h4⟩=>⟨x,he,v,H',μ',K',⟨h1,h3.lt'⟩,h2,h3,h4⟩
theorem eK:∀{l:List V} {i j:Nat},(vz l i).get j=if i<=j then l[j-i]? else none
 |[],i,j=>by simp [vz]
 |v::l,i,j=>by
  simp only [vz];rw [T.get_set];by_cases e:j=i
  ·subst e;simp
  ·rw [if_neg e,eK];by_cases h:i+1<=j
   ·rw [if_pos h,if_pos (by omega),show j-i=(j-(i+1))+1 by omega];simp
   ·rw [if_neg h,if_neg (by omega)]
def Wl(tmps:Array Value):ResultVar->Sem Value
 |.tmp t=>pure (tmps.getD t Go.undef)
 |.cell c t=>do loadVar t (<-asAddr (tmps.getD c Go.undef))
theorem WA{rv:List ResultVar}{r:ResultVar}{f:ResultVar->Sem Value}{x:Value}{xs:List Value}{w:World}(h1:(f r).run P w=.ok x w)(h2:(rv.mapM f).run P w=.ok xs w):((r::rv).mapM f).run P w=.ok (x::xs) w:=by
 rw [List.mapM_cons,Sem.run_bind,h1,Result.andThen_ok,Sem.run_bind,h2];rfl
theorem dD{μ:Nat->Pl}{K:Nat->Prop}{F:T V}{H:Hp}{w:World}{a:Act}(hR:Rel G μ K H w)(hF:z6 μ K n F a.tmps):∀{rv:List ResultVar} {rs:List SRes} {vs:List V},JA P n rv=some rs->vE F H rs=some vs->
 ∃xs:List Value,qg (yf μ K) vs xs/\(rv.mapM (Wl a.tmps)).run P w=.ok xs w
 |[],rs,vs,h1,h2=>by
  simp [JA] at h1;subst h1;simp [vE] at h2;subst h2;exact⟨[],trivial,by simp⟩
 |.tmp t::rv,rs,vs,h1,h2=>by
  simp only [JA] at h1;split at h1
  ·rename_i ht;simp only [zom] at h1;obtain⟨rs',hrs,rfl⟩:=h1;simp only [vE,Kf] at h2;split at h2
   ·rename_i v vs' e1 e2;split at h2
    ·rename_i hone;obtain rfl:=zsi h2;obtain rfl:=zsi e1;obtain⟨xs,hall,hrun⟩:=dD hR hF hrs e2;exact⟨a.tmps.getD t Go.undef::xs,⟨lP hone (hF.2 t ht),hall⟩,WA rfl hrun⟩
    ·cases h2
   ·cases h2
  ·cases h1
 |.cell c t::rv,rs,vs,h1,h2=>by
  simp only [JA] at h1;split at h1
  ·rename_i g k hg hk;split at h1
   ·rename_i hc;simp only [zom] at h1;obtain⟨rs',hrs,rfl⟩:=h1;simp only [vE,Kf] at h2;split at h2
    ·rename_i v vs' e1 e2;split at h2
     ·rename_i hone;obtain rfl:=zsi h2;obtain⟨xs,hall,hrun⟩:=dD hR hF hrs e2;have hv:=hF.2 c hc;simp only [xk,Opd.ev] at e1;split at e1
      ·rename_i b o he;rw [he] at hv;obtain⟨hkb,hv'⟩:K b/\a.tmps.getD c Go.undef=.pointer (some ((μ b).addr o)):=hv;cases g with
       |true=>
        simp only [if_true,zom] at e1;obtain⟨l,hl,rfl⟩:=e1;obtain⟨ys,ha,hr⟩:=hR.loads (P:=P) (n:=k) (b:=b) (o:=o) (i:=0) (acc:=#[]) hl;have hr':(loadCells ((μ b).addr o) k).run P w=.ok ys.toArray w:=by simpa [loadCells] using hr
        refine⟨.agg ys.toArray::xs,⟨⟨ys,rfl,ha⟩,hall⟩,WA ?_ hrun⟩;simp only [Wl,Sem.run_bind,hv',asAddr,Sem.run_pure,Result.andThen_ok,loadVar,vw hg,if_true,zX hk,hr']
       |false=>
        simp only [Bool.false_eq_true,if_false,zom] at e1;obtain⟨cc,hcc,rfl⟩:=e1;obtain⟨y,hy,hr⟩:=hR.cell hcc;refine⟨y::xs,⟨hr,hall⟩,WA ?_ hrun⟩;simp only [Wl,Sem.run_bind,hv',asAddr,Sem.run_pure,Result.andThen_ok,loadVar,vw hg,Bool.false_eq_true,if_false,run_load,hy]
      ·cases e1
     ·cases h2
    ·cases h2
   ·cases h1
  ·cases h1
theorem Jt{f:FuncId}{sf:SFn}(hf:qG P G f=some sf){args:List V}{H:Hp}{R:V->Hp->Prop}(hn:args.length<=sf.n)(h:sD P G sf.n sf.code (Xj sf.res R) (vz args 0) H):qJ P G f args H R:=by
 unfold qG at hf;split at hf
 ·cases hf
 ·rename_i fn hfn;split at hf
  ·cases hf
  ·rename_i c hb;split at hf
   ·rename_i s rs hs hrs;obtain rfl:=zsi hf;intro μ K w xs hR ha;refine (callsIn_wide (n:=0)).1 (callsIn_of_wp_marks hfn hb trivial ?_);have hlen:=ha.len;have hF0:z6 μ K fn.ntmps (vz args 0) (xs.toArray++Array.replicate (fn.ntmps-xs.toArray.size) Go.undef):=by
     refine⟨by simp;simp at hn;omega,fun i hi=>?_⟩;rw [eK];simp only [Nat.zero_le,if_true,Nat.sub_zero];by_cases hlt:i<xs.length
     ·have h1:args[i]?=some args[i]:=zge (by omega);rw [h1];obtain⟨x,hx,hr⟩:=ha.at i _ h1;have:(xs.toArray++Array.replicate (fn.ntmps-xs.toArray.size) Go.undef).getD i Go.undef=x:=by
       simp [Array.getD_eq_getD_getElem?,Array.getElem?_append,hlt,zge hlt] at hx ⊢;exact hx
      rw [this];exact hr
     ·have h1:args[i]?=none:=List.getElem?_eq_none (by omega);rw [h1];have:(xs.toArray++Array.replicate (fn.ntmps-xs.toArray.size) Go.undef).getD i Go.undef=Go.undef:=by
       simp only [Array.getD_eq_getD_getElem?,Array.getElem?_append];rw [if_neg (by simpa using hlt)];rw [Array.getElem?_replicate];split<;>rfl
      rw [this];exact RV.undef
    refine wpIn_mono (h c hs w.heap.size μ K w ⟨_,[]⟩ hR hF0 (JU.nil w (Nat.le_refl _))) fun e a' w' he=>?_;obtain⟨hd,F',H',μ',K',h1,h3,h4',h5⟩:=he;have fin:(match ye F' H' rs with
     |some v=>R v H'
     |none=>False)->LeavesInM Fence.wide 0 P fn a'.tmps (fun e w'=>∃x,e=.returned x/\∃v H' μ' K',R v H'/\RV μ' K' v x/\Rel G μ' K' H' w'/\Fr μ K H w μ' K' H' w') a'.defers .returning w':=by
     intro hres;refine lH hd h3 h5 fun w' h2 h4=>?_;unfold ye at hres;cases hl:vE F' H' rs with
     |none=>simp [hl] at hres
     |some vs=>
      obtain⟨ys,hall,hrun⟩:=dD (P:=P) h2 h4' hrs hl;have hrun':(results fn a'.tmps).run P w'=.ok (if h:ys.toArray.size=1 then ys.toArray[0] else .tuple ys.toArray) w':=by
       have he:results fn a'.tmps=(do let vs<-fn.results.mapM (Wl a'.tmps);pure (if h:vs.size=1 then vs[0] else .tuple vs)):=by
        unfold results Wl;rfl
       rw [he,Sem.run_bind,Array.mapM_eq_mapM_toList,Sem.run_map,hrun];rfl
      clear hrun
      match vs,ys,hall,hl,hrun' with
      |[v],[y],hall,hl,hrun'=>
       simp only [hl] at hres;exact⟨y,by rw [hrun'];rfl,y,rfl,v,H',μ',K',hres,RV.of1 hall.1,h2,h4⟩
      |[],[],_,hl,hrun'=>
       simp only [hl] at hres;exact⟨.tuple #[],by rw [hrun'];rfl,_,rfl,.tup [],H',μ',K',hres,RV.undef,h2,h4⟩
      |v1::v2::vs,y1::y2::ys,hall,hl,hrun'=>
       simp only [hl] at hres;exact⟨.tuple (y1::y2::ys).toArray,by rw [hrun'];simp,_,rfl,.tup (v1::v2::vs),H',μ',K',hres,⟨_,rfl,hall⟩,h2,h4⟩
      |[],_::_,hall,_,_=>exact hall.elim
      |_::_,[],hall,_,_=>exact hall.elim
      |[_],_::_::_,hall,_,_=>exact hall.2.elim
      |_::_::_,[_],hall,_,_=>exact hall.2.elim
    cases e with
    |normal=>exact fin h1
    |ret=>exact fin h1
    |exit id=>exact h1.elim
    |goto l=>exact h1.elim
    |panic ch=>exact h1.elim
    |outgrown=>exact h1.elim
   ·cases hf
end
def NP:C->C->Bool
 |.bool a,.bool b=>a==b
 |.int k a,.int k' b=>decide (k=k')&&decide (a=b)
 |.str a,.str b=>decide (a.data=b.data)
 |.ptr b o,.ptr b' o'=>decide (b=b')&&decide (o=o')
 |.nilp,.nilp=>true
 |.slc b o l c e x,.slc b' o' l' c' e' x'=>decide (b=b')&&decide (o=o')&&decide (l=l')&&decide (c=c')&&decide (e=e')&&(x==x')
 |.nils,.nils=>true
 |.map b,.map b'=>decide (b=b')
 |.nilm,.nilm=>true
 |.fn f l,.fn f' l'=>decide (f=f')&&decide (l=l')
 |.nilf,.nilf=>true
 |_,_=>false
theorem EV{a b:C}(h:NP a b=true):a=b:=by
 cases a<;>cases b<;>simp [NP] at h<;>simp_all;rename_i s t;cases s;cases t;simp_all
def sE:List C->List C->Bool
 |[],[]=>true
 |a::l,b::m=>NP a b&&sE l m
 |_,_=>false
theorem EU:∀{l m:List C},sE l m=true->l=m
 |[],[],_=>rfl
 |a::l,b::m,h=>by
  simp only [sE,xr] at h;rw [EV h.1,EU h.2]
 |[],_::_,h=>by simp [sE] at h
 |_::_,[],h=>by simp [sE] at h
def Veq:V->V->Bool
 |.one a,.one b=>NP a b
 |.agg l,.agg m=>sE l m
 |_,_=>false
theorem qb6{a b:V}(h:Veq a b=true):a=b:=by
 cases a<;>cases b<;>simp only [Veq] at h
 all_goals first
  |rw [EV h]
  |rw [EU h]
  |cases h
abbrev n4:=List (Nat × T V × LoadOp × V)
def XK(ws:List Nat)(ctx:n4)(H:Hp):Bool:=
 ws.all fun k=>ctx.all fun e=>e.1!=k||(match xk e.2.1 H e.2.2.1 with
  |some v=>Veq v e.2.2.2
  |none=>false)
def Qf(tb:Nat->Option SFn)(call:FuncId->List V->Hp->Option (V × Hp))(base:Nat):List SOper->n4->T V->Hp->Option (T V × Hp)
 |[],_,F,H=>some (F,H)
 |o::r,ctx,F,H=>
  match qv o.guard F with
  |true=>
   match o.op with
   |.p op=>match qy F op with
    |some v=>Qf tb call base r ctx (xI F o.dst v) H
    |none=>none
   |.l op=>match xk F H op with
    |some v=>Qf tb call base r (match o.keep with
     |true=>(o.id,F,op,v)::ctx
     |false=>ctx) (xI F o.dst v) H
    |none=>none
   |.a op=>match xD F op with
    |some (bk,g)=>match o.aid with
     |none=>Qf tb call base r ctx (xI F o.dst (g H.nx)) (H.push bk)
     |some k=>Qf tb call base r ctx (xI F o.dst (g (base+k))) (H.add (base+k) bk)
    |none=>none
   |.e op=>match xq F H op with
    |some (v,H')=>match XK o.watch ctx H' with
     |true=>Qf tb call base r ctx (xI F o.dst v) H'
     |false=>none
    |none=>none
   |.cf f args=>match call f (args.map (·.ev F)) H with
    |some (v,H')=>match XK o.watch ctx H' with
     |true=>Qf tb call base r ctx (xI F o.dst v) H'
     |false=>none
    |none=>none
   |.cv x args=>match x.ev F with
    |.one (.fn f caps)=>match tb f with
     |some _=>match call f (args.map (·.ev F)++caps.map Ji) H with
      |some (v,H')=>match XK o.watch ctx H' with
       |true=>Qf tb call base r ctx (xI F o.dst v) H'
       |false=>none
      |none=>none
     |none=>none
    |_=>none
   |.nx _=>none
   |.no=>none
  |false=>Qf tb call base r ctx (xI F o.dst V.undef) H
inductive EE where
 |normal
 |exit (id:Nat)
 |ret
def EE.ex:EE->Exit
 |.normal=>.normal
 |.exit id=>.exit id
 |.ret=>.ret
def bH(tb:Nat->Option SFn)(rec:SC->T V->Hp->Option (EE × T V × Hp))(f:FuncId)(args:List V)(H:Hp):Option (V × Hp):=
 match tb f with
 |none=>none
 |some sf=>if args.length<=sf.n then
  match rec sf.code (vz args 0) H with
  |none=>none
  |some (e,F',H')=>match e with
   |.exit _=>none
   |_=>match ye F' H' sf.res with
    |some v=>some (v,H')
    |none=>none
  else none
def kr(tb:Nat->Option SFn)(rec:SC->T V->Hp->Option (EE × T V × Hp))(s:SC)(F:T V)(H:Hp):Option (EE × T V × Hp):=
 match s with
 |.skip=>some (.normal,F,H)
 |.ops l res=>match Qf tb (bH tb rec) H.nx l [] F (H.skip res) with
  |none=>none
  |some (F',H')=>some (.normal,F',H')
 |.seq a b=>match rec a F H with
  |none=>none
  |some (e,F',H')=>match e with
   |.normal=>rec b F' H'
   |e=>some (e,F',H')
 |.cond d a b=>match d.ev F with
  |.one (.bool t)=>match t with
   |true=>rec a F H
   |false=>rec b F H
  |_=>none
 |.block id a=>match rec a F H with
  |none=>none
  |some (e,F',H')=>match e with
   |.exit id'=>if id'=id then some (.normal,F',H') else some (.exit id',F',H')
   |e=>some (e,F',H')
 |.loop a=>match rec a F H with
  |none=>none
  |some (e,F',H')=>match e with
   |.normal=>rec (.loop a) F' H'
   |e=>some (e,F',H')
 |.exit id=>some (.exit id,F,H)
 |.ret=>some (.ret,F,H)
 |.scope a=>match rec a F H with
  |none=>none
  |some (e,F',H')=>some (e,F',H')
 |.rf ..=>none
 |.no=>none
def mK(tb:Nat->Option SFn):Nat->SC->T V->Hp->Option (EE × T V × Hp)
 |0=>fun _ _ _=>none
 |fuel+1=>kr tb (mK tb fuel)
def evF(tb:Nat->Option SFn)(fuel:Nat)(f:FuncId)(args:List V)(H:Hp):Option (V × Hp):=bH tb (mK tb fuel) f args H
def JH(P:Program)(G:Nat)(tb:Nat->Option SFn):Prop:=∀f sf,tb f=some sf->qG P G f=some sf/\qB P f=true
section
variable{P:Program}{G:Nat}{tb:Nat->Option SFn}
def qaG(ctx:n4):zR:=ctx.map fun e=>(e.1,fun H'=>xk e.2.1 H' e.2.2.1=some e.2.2.2)
theorem J2{ws:List Nat}{ctx:n4}{H:Hp}(h:XK ws ctx H=true):zA ws (qaG ctx) H:=by
 cases ws with
 |nil=>trivial
 |cons w ws=>
  intro k hk p hp;simp only [XK,List.all_eq_true] at h;have h1:=h k hk;obtain⟨e,he,hep⟩:=List.mem_map.1 hp;have h2:=h1 e he;injection hep with e1 e2
  subst e1 e2;simp only [bne_self_eq_false,Bool.false_or] at h2;cases hv:xk e.2.1 H e.2.2.1 with
  |none=>simp [hv] at h2
  |some v=>simp only [hv] at h2;show xk e.2.1 H e.2.2.1=some e.2.2.2;rw [hv,qb6 h2]
theorem wu{call:FuncId->List V->Hp->Option (V × Hp)}(hcall:∀f args H v H',call f args H=some (v,H')->qJ P G f args H fun v' H''=>v'=v/\H''=H')(htb:JH P G tb){base:Nat}{Q:T V->Hp->Prop}:
 ∀{l:List SOper} {ctx:n4} {F F':T V} {H H':Hp},Qf tb call base l ctx F H=some (F',H')->Q F' H'->qE P G base Q l (qaG ctx) F H
 |[],ctx,F,F',H,H',h,hq=>by
  simp only [Qf,zoi,zpi] at h;obtain⟨rfl,rfl⟩:=h;exact hq
 |o::r,ctx,F,F',H,H',h,hq=>by
  rw [Qf] at h;rw [qE];cases hw:qv o.guard F with
  |false=>
   simp only [hw] at h;simp only [Bool.false_eq_true,if_false];exact wu hcall htb h hq
  |true=>
   simp only [hw] at h;simp only [if_true];cases hop:o.op with
   |p op=>
    simp only [hop] at h ⊢;cases hv:qy F op with
    |none=>simp [hv] at h
    |some v=>simp only [hv] at h ⊢;exact wu hcall htb h hq
   |l op=>
    simp only [hop] at h ⊢;cases hv:xk F H op with
    |none=>simp [hv] at h
    |some v=>
     simp only [hv] at h ⊢;cases hk:o.keep with
     |false=>simp only [hk] at h;simp only [Bool.false_eq_true,if_false];exact wu hcall htb h hq
     |true=>simp only [hk] at h;simp only [if_true];exact wu (ctx:=(o.id,F,op,v)::ctx) hcall htb h hq
   |a op=>
    simp only [hop] at h ⊢;cases hv:xD F op with
    |none=>simp [hv] at h
    |some bg=>
     simp only [hv] at h ⊢;cases hai:o.aid with
     |none=>simp only [hai] at h ⊢;exact wu hcall htb h hq
     |some k=>simp only [hai] at h ⊢;exact wu hcall htb h hq
   |e op=>
    simp only [hop] at h ⊢;cases hv:xq F H op with
    |none=>simp [hv] at h
    |some vH=>
     simp only [hv] at h ⊢;cases hwt:XK o.watch ctx vH.2 with
     |false=>simp [hwt] at h
     |true=>simp only [hwt] at h;exact⟨J2 hwt,wu hcall htb h hq⟩
   |cf f args=>
    simp only [hop] at h ⊢;cases hv:call f (args.map (·.ev F)) H with
    |none=>simp [hv] at h
    |some vH=>
     simp only [hv] at h;cases hwt:XK o.watch ctx vH.2 with
     |false=>simp [hwt] at h
     |true=>
      simp only [hwt] at h;refine (hcall f _ H vH.1 vH.2 hv).mono ?_;rintro v' H'' ⟨rfl,rfl⟩;exact⟨J2 hwt,wu hcall htb h hq⟩
   |cv x args=>
    simp only [hop] at h ⊢;split at h
    ·rename_i f caps hx;cases ht:tb f with
     |none=>simp [ht] at h
     |some sf=>
      simp only [ht] at h
      try simp only [hx]
      refine⟨(htb f sf ht).2,?_⟩;cases hv:call f (args.map (·.ev F)++caps.map Ji) H with
      |none=>simp [hv] at h
      |some vH=>
       simp only [hv] at h;cases hwt:XK o.watch ctx vH.2 with
       |false=>simp [hwt] at h
       |true=>
        simp only [hwt] at h;refine (hcall f _ H vH.1 vH.2 hv).mono ?_;rintro v' H'' ⟨rfl,rfl⟩;exact⟨J2 hwt,wu hcall htb h hq⟩
    ·cases h
   |nx x=>simp [hop] at h
   |no=>simp [hop] at h
theorem eV {rec:SC->T V->Hp->Option (EE × T V × Hp)} (htb:JH P G tb) (hrec:∀{n:Nat} {s:SC} {F F':T V} {H H':Hp} {e:EE} {Q:Exit->T V->Hp->Prop},rec s F H=some (e,F',H')->Q e.ex F' H'->sD P G n s Q F H)
 {f:FuncId} {args:List V} {H H':Hp} {v:V} (h:bH tb rec f args H=some (v,H')):qJ P G f args H fun v' H''=>v'=v/\H''=H':=by
 unfold bH at h;split at h
 ·cases h
 ·rename_i sf hsf;split at h
  ·rename_i hlen;split at h
   ·cases h
   ·rename_i e2 F2 H4 hev2;obtain⟨hcp,_⟩:=htb f sf hsf;cases e2 with
    |exit id=>cases h
    |normal=>
     simp only at h;split at h
     ·rename_i v2 hres;simp only [zoi,zpi] at h;obtain⟨rfl,rfl⟩:=h;refine Jt hcp hlen (hrec hev2 ?_);simp only [EE.ex,Xj,hres];exact⟨trivial,trivial⟩
     ·cases h
    |ret=>
     simp only at h;split at h
     ·rename_i v2 hres;simp only [zoi,zpi] at h;obtain⟨rfl,rfl⟩:=h;refine Jt hcp hlen (hrec hev2 ?_);simp only [EE.ex,Xj,hres];exact⟨trivial,trivial⟩
     ·cases h
  ·cases h
theorem Uz(hm:P.follows .mixedOrders=true)(htb:JH P G tb):∀(fuel:Nat) {n:Nat} {s:SC} {F F':T V} {H H':Hp} {e:EE} {Q:Exit->T V->Hp->Prop},mK tb fuel s F H=some (e,F',H')->Q e.ex F' H'->sD P G n s Q F H:=by
 intro fuel;induction fuel using Nat.strongRecOn with
 |_ fuel ih=>
  intro n s F F' H H' e Q h hq;cases fuel with
  |zero=>cases h
  |succ fuel=>
   have h:kr tb (mK tb fuel) s F H=some (e,F',H'):=h;have hrec:∀{n:Nat} {s:SC} {F F':T V} {H H':Hp} {e:EE} {Q:Exit->T V->Hp->Prop},mK tb fuel s F H=some (e,F',H')->Q e.ex F' H'->sD P G n s Q F H:=fun h hq=>ih fuel (by omega) h hq;cases s with
   |skip=>
    simp only [kr,zoi,zpi] at h;obtain⟨rfl,rfl,rfl⟩:=h;exact Vk hq
   |ops l res=>
    simp only [kr] at h;split at h
    ·cases h
    ·rename_i F1 H1 hev;simp only [zoi,zpi] at h;obtain⟨rfl,rfl,rfl⟩:=h;exact cG hm (wu (ctx:=[]) (fun f args H2 v H3 hc=>eV htb hrec hc) htb hev hq)
   |seq a b=>
    simp only [kr] at h;split at h
    ·cases h
    ·rename_i e1 F1 H1 h1;refine cE ?_;cases e1 with
     |normal=>exact hrec h1 (hrec (Q:=Q) h hq)
     |exit id=>
      simp only [zoi,zpi] at h;obtain⟨rfl,rfl,rfl⟩:=h;exact hrec h1 hq
     |ret=>
      simp only [zoi,zpi] at h;obtain⟨rfl,rfl,rfl⟩:=h;exact hrec h1 hq
   |cond d a b=>
    simp only [kr] at h;split at h
    ·rename_i t ht;cases t with
     |true=>exact Y5 (t:=true) ht (hrec h hq)
     |false=>exact Y5 (t:=false) ht (hrec h hq)
    ·cases h
   |block id a=>
    simp only [kr] at h;split at h
    ·cases h
    ·rename_i e1 F1 H1 h1;refine J7 ?_;cases e1 with
     |normal=>
      simp only [zoi,zpi] at h;obtain⟨rfl,rfl,rfl⟩:=h;exact hrec h1 hq
     |ret=>
      simp only [zoi,zpi] at h;obtain⟨rfl,rfl,rfl⟩:=h;exact hrec h1 hq
     |exit id'=>
      simp only at h;refine hrec h1 ?_;simp only [EE.ex,YX];split at h
      ·rename_i hid;simp only [zoi,zpi] at h;obtain⟨rfl,rfl,rfl⟩:=h;rw [if_pos hid];exact hq
      ·rename_i hid;simp only [zoi,zpi] at h;obtain⟨rfl,rfl,rfl⟩:=h;rw [if_neg hid];exact hq
   |loop a=>
    refine Vl (fun m F1 H1=>m<=fuel+1/\mK tb m (.loop a) F1 H1=some (e,F',H')) (m:=fuel+1) ⟨Nat.le_refl _,h⟩ ?_;rintro m F1 H1 ⟨hle,hev⟩;cases m with
    |zero=>cases hev
    |succ m=>
     have hev:kr tb (mK tb m) (.loop a) F1 H1=some (e,F',H'):=hev;simp only [kr] at hev;split at hev
     ·cases hev
     ·rename_i e1 F2 H2 h1;cases e1 with
      |normal=>exact ih m (by omega) h1 ⟨m,by omega,by omega,hev⟩
      |exit id=>
       simp only [zoi,zpi] at hev;obtain⟨rfl,rfl,rfl⟩:=hev;exact ih m (by omega) h1 hq
      |ret=>
       simp only [zoi,zpi] at hev;obtain⟨rfl,rfl,rfl⟩:=hev;exact ih m (by omega) h1 hq
   |exit id=>
    simp only [kr,zoi,zpi] at h;obtain⟨rfl,rfl,rfl⟩:=h;exact Vm hq
   |ret=>
    simp only [kr,zoi,zpi] at h;obtain⟨rfl,rfl,rfl⟩:=h;exact cF hq
   |rf d ps a b=>cases h
   |no=>cases h
   |scope a=>
    simp only [kr] at h;split at h
    ·cases h
    ·rename_i e1 F1 H1 h1;simp only [zoi,zpi] at h;obtain⟨rfl,rfl,rfl⟩:=h;refine dT (hrec h1 ?_);cases e1<;>exact hq
theorem Uy(hm:P.follows .mixedOrders=true)(htb:JH P G tb){fuel:Nat}{f:FuncId}{args:List V}{H H':Hp}{v:V}(h:evF tb fuel f args H=some (v,H')):qJ P G f args H fun v' H''=>v'=v/\H''=H':=
 eV htb (Uz hm htb fuel) h
def uA(tb:Nat->Option SFn)(fuel:Nat)(f:FuncId)(args:List V)(H:Hp):Option V:=(evF tb fuel f args H).map (·.1)
theorem G6(hm:P.follows .mixedOrders=true)(htb:JH P G tb){fuel:Nat}{f:FuncId}{args:List V}{H:Hp}{v:V}(h:uA tb fuel f args H=some v):qJ P G f args H fun v' _=>v'=v:=by
 unfold uA at h;simp only [zom] at h;obtain⟨⟨v',H'⟩,hh,rfl⟩:=h;exact (Uy hm htb hh).mono fun _ _ h=>h.1
end
structure Ext (H H':Hp):Prop where
 get:∀b bk,H.get b=some bk->H'.get b=some bk
 nx:H.nx<=H'.nx
theorem Ext.refl(H:Hp):Ext H H:=⟨fun _ _ h=>h,Nat.le_refl _⟩
theorem Ext.trans{H H' H'':Hp}(h:Ext H H')(k:Ext H' H''):Ext H H'':=⟨fun b bk hb=>k.get b bk (h.get b bk hb),Nat.le_trans h.nx k.nx⟩
theorem Ext.push{H H':Hp}(hw:WF H')(h:Ext H H')(bk:B):Ext H (H'.push bk):=
 ⟨fun b k hb=>by rw [Hp.get_push,if_neg (by have:=hw b k (h.get b k hb);omega)];exact h.get b k hb,by have:=h.nx;simp;omega⟩
theorem Ext.skip{H H':Hp}(h:Ext H H')(n:Nat):Ext H (H'.skip n):=⟨h.get,by have:=h.nx;simp;omega⟩
theorem Ext.cell{H H':Hp}(h:Ext H H'){b i:Nat}{c:C}(hc:H.cell b i=some c):H'.cell b i=some c:=by
 unfold Hp.cell at hc ⊢;cases hb:H.get b with
 |none=>simp [hb] at hc
 |some bk=>rw [h.get b bk hb];simpa [hb] using hc
theorem Ext.loads{H H':Hp}(h:Ext H H'):∀{n b o:Nat} {l:List C},H.loads b o n=some l->H'.loads b o n=some l
 |0,_,_,_,hl=>hl
 |n+1,b,o,l,hl=>by
  simp only [Hp.loads] at hl ⊢;cases hc:H.cell b o with
  |none=>simp [hc] at hl
  |some c=>
   simp only [hc] at hl;simp only [h.cell hc];cases hr:H.loads b (o+1) n with
   |none=>simp [hr] at hl
   |some r=>simp only [hr] at hl;simp only [h.loads hr];exact hl
theorem WF.push{H:Hp}(h:WF H)(bk:B):WF (H.push bk):=fun b k hb=>by
 rw [Hp.get_push] at hb;split at hb
 ·rename_i e;simp;omega
 ·have:=h b k hb;simp;omega
theorem WF.skip{H:Hp}(h:WF H)(n:Nat):WF (H.skip n):=fun b k hb=>by have:=h b k hb;simp;omega
theorem WF.fresh{H:Hp}(h:WF H){b:Nat}(hb:H.nx<=b):H.get b=none:=by
 cases hg:H.get b with
 |none=>rfl
 |some k=>have:=h b k hg;omega
theorem QW{H:Hp}{b:Nat}:∀{m o n:Nat} {l:List C},H.loads b o n=some l->m<=n->H.loads b (o+m) (n-m)=some (l.drop m)
 |0,o,n,l,h,_=>by simpa using h
 |m+1,o,0,l,h,hm=>by omega
 |m+1,o,n+1,l,h,hm=>by
  simp only [Hp.loads] at h;split at h
  ·cases h
  ·split at h
   ·cases h
   ·rename_i c _ l' hl';obtain rfl:=zsi h;have:=QW (m:=m) hl' (by omega);rw [show o+(m+1)=o+1+m by omega,show n+1-(m+1)=n-m by omega];simpa using this
theorem yw{H:Hp}{b:Nat}:∀{m o n:Nat} {l:List C},H.loads b o n=some l->m<=n->H.loads b o m=some (l.take m)
 |0,o,n,l,h,_=>by simp [Hp.loads]
 |m+1,o,0,l,h,hm=>by omega
 |m+1,o,n+1,l,h,hm=>by
  simp only [Hp.loads] at h ⊢;split at h
  ·cases h
  ·rename_i c hc;split at h
   ·cases h
   ·rename_i l' hl';obtain rfl:=zsi h;simp [yw (m:=m) hl' (by omega)]
theorem kY{H:Hp}{b o n i k:Nat}{l:List C}(h:H.loads b o n=some l)(hk:i+k<=n):H.loads b (o+i) k=some ((l.drop i).take k):=
 yw (QW h (by omega)) (by omega)
theorem vq{H:Hp}{b o n i:Nat}{l:List C}(h:H.loads b o n=some l)(hi:i<n):H.cell b (o+i)=l[i]?:=by
 have:=kY (i:=i) (k:=1) h (by omega);simp only [Hp.loads] at this;cases hc:H.cell b (o+i) with
 |none=>simp [hc] at this
 |some c=>
  simp only [hc,zoi] at this;have hl:i<l.length:=by rw [jn h];exact hi
  have h2:(List.take 1 (List.drop i l))[0]?=some l[i]:=by rw [List.drop_eq_getElem_cons hl];simp
  rw [<-this] at h2;simp at h2;rw [zge hl,h2]
theorem XU{H:Hp}{b:Nat}{cs:List C}{rw:Bool}(h:H.get b=some (.row cs.length cs .lf rw)):H.loads b 0 cs.length=some cs:=by
 have key:∀(m o:Nat),o+m=cs.length->H.loads b o m=some (cs.drop o):=by
  intro m;induction m with
  |zero=>intro o ho;simp only [Hp.loads];rw [List.drop_of_length_le (by omega)]
  |succ m ih=>
   intro o ho;have hlt:o<cs.length:=by omega
   have hc:H.cell b o=some cs[o]:=by
    simp only [Hp.cell,h,Option.bind_some,B.cell,hlt,if_true,T.get_lf,Option.getD_none,Nat.mod_eq_of_lt hlt];simp [List.getD_eq_getElem?_getD,hlt]
   simp only [Hp.loads,hc,ih (o+1) (by omega)];rw [List.drop_eq_getElem_cons hlt]
 simpa using key cs.length 0 (by omega)
def Sl(H:Hp)(esz n:Nat)(l:List C)(v:V):Prop:=l.length=n*esz/\((v=.one .nils/\n=0)\/∃b o cap ex,v=.one (.slc b o n cap esz ex)/\H.loads b o (n*esz)=some l)
theorem Sl.ext{H H':Hp}{esz n:Nat}{l:List C}{v:V}(h:Sl H esz n l v)(he:Ext H H'):Sl H' esz n l v:=by
 refine⟨h.1,?_⟩;rcases h.2 with h|⟨b,o,cap,ex,hv,hl⟩
 ·exact .inl h
 ·exact .inr ⟨b,o,cap,ex,hv,he.loads hl⟩
theorem Sl.len{H:Hp}{esz n:Nat}{l:List C}{v:V}(h:Sl H esz n l v):X6 v=some (.one (.int .i64 n)):=by
 rcases h.2 with⟨rfl,rfl⟩|⟨b,o,cap,ex,rfl,_⟩<;>simp [X6]
theorem Sl.at{H:Hp}{esz n:Nat}{l:List C}{v:V}(h:Sl H esz n l v){k:Nat}(hk:k<n)(kd:IntKind):∃b o,XX esz v (.one (.int kd k))=some (.one (.ptr b o))/\H.loads b o esz=some ((l.drop (k*esz)).take esz):=by
 rcases h.2 with⟨_,rfl⟩|⟨b,o,cap,ex,rfl,hl⟩
 ·omega
 ·refine⟨b,o+k*esz,by simp [XX];omega,kY hl ?_⟩;have:(k+1)*esz<=n*esz:=Nat.mul_le_mul_right _ hk;rw [Nat.add_mul] at this;omega
abbrev Pt:=Int × Int
def x6(p:Pt):List C:=[.int .i64 p.1,.int .i64 p.2]
def zD(l:List Pt):List C:=l.flatMap x6
def ptV(p:Pt):V:=.agg (x6 p)
def Yr(H:Hp)(l:List Pt)(v:V):Prop:=Sl H 2 l.length (zD l) v
theorem zM:∀l:List Pt,(zD l).length=l.length*2
 |[]=>rfl
 |p::l=>by simp only [zD,List.flatMap_cons,List.length_append,List.length_cons];rw [show (l.flatMap x6)=zD l from rfl,zM l];simp [x6];omega
theorem YK:∀{l:List Pt} {i:Nat} {p:Pt},l[i]?=some p->((zD l).drop (i*2)).take 2=x6 p
 |[],i,p,h=>by simp at h
 |q::l,0,p,h=>by simp at h;subst h;simp [zD,x6]
 |q::l,i+1,p,h=>by
  have:=YK (l:=l) (i:=i) (p:=p) (by simpa using h);simp only [zD,List.flatMap_cons];rw [show (i+1)*2=(x6 q).length+i*2 by simp [x6];omega,List.drop_append,List.drop_of_length_le (by simp [x6]),List.nil_append];rw [show (x6 q).length+i*2-(x6 q).length=i*2 by omega];exact this
theorem Yr.at{H:Hp}{l:List Pt}{v:V}(h:Yr H l v){k:Nat}{p:Pt}(hk:l[k]?=some p)(kd:IntKind):∃b o,XX 2 v (.one (.int kd k))=some (.one (.ptr b o))/\H.loads b o 2=some (x6 p):=by
 obtain⟨b,o,h1,h2⟩:=Sl.at h (zgs hk).1 kd;exact⟨b,o,h1,by rw [h2,YK hk]⟩
theorem Yr.len{H:Hp}{l:List Pt}{v:V}(h:Yr H l v):X6 v=some (.one (.int .i64 l.length)):=Sl.len h
theorem Yr.ext{H H':Hp}{l:List Pt}{v:V}(h:Yr H l v)(he:Ext H H'):Yr H' l v:=Sl.ext h he
@[simp] theorem Hp.loads_skip (H:Hp) (k:Nat):∀(n b o:Nat),(H.skip k).loads b o n=H.loads b o n
 |0,_,_=>rfl
 |n+1,b,o=>by
  simp only [Hp.loads];rw [Hp.loads_skip H k n b (o+1)];rfl
@[simp] theorem Hp.cell_skip (H:Hp) (k b i:Nat):(H.skip k).cell b i=H.cell b i:=rfl
def xX(H:Hp)(b:Nat)(l:List C):Prop:=(∃z m,H.get b=some (.row l.length z m true))/\H.loads b 0 l.length=some l
theorem Yw{H H':Hp}{b:Nat}(h:H'.get b=H.get b):∀(n o:Nat),H'.loads b o n=H.loads b o n
 |0,_=>rfl
 |n+1,o=>by
  have hc:H'.cell b o=H.cell b o:=by unfold Hp.cell;rw [h]
  simp only [Hp.loads,hc,Yw h n (o+1)]
theorem xX.same{H H':Hp}{b:Nat}{l:List C}(h:xX H b l)(hg:H'.get b=H.get b):xX H' b l:=⟨by rw [hg];exact h.1,by rw [Yw hg];exact h.2⟩
theorem xX.lt{H:Hp}{b:Nat}{l:List C}(h:xX H b l)(hw:WF H):b<H.nx:=by obtain⟨⟨z,m,hg⟩,_⟩:=h;exact hw b _ hg
theorem xX.mut{H:Hp}{b:Nat}{l:List C}(h:xX H b l):H.mutRow b=true:=by obtain⟨⟨z,m,hg⟩,_⟩:=h;simp [Hp.mutRow,hg]
theorem xX.new{H:Hp}(l:List C):xX (H.push (.row l.length l .lf true)) H.nx l:=
 ⟨⟨l,.lf,by rw [Hp.get_push,if_pos rfl]⟩,XU (rw:=true) (by rw [Hp.get_push,if_pos rfl])⟩
theorem eH{H:Hp}{b:Nat}{N:Nat}{z:List C}{m:T C}{i:Nat}{c:C}(hg:H.get b=some (.row N z m true))(hi:i<N):∀{n o:Nat} {l:List C},H.loads b o n=some l->
 (H.add b (.row N z (m.set i (some c)) true)).loads b o n=some (if o<=i then l.set (i-o) c else l)
 |0,o,l,h=>by
  simp only [Hp.loads,zoi] at h ⊢;subst h;simp
 |n+1,o,l,h=>by
  simp only [Hp.loads] at h ⊢;split at h
  ·cases h
  ·rename_i c0 hc0;split at h
   ·cases h
   ·rename_i l' hl';obtain rfl:=zsi h;have hcell:(H.add b (.row N z (m.set i (some c)) true)).cell b o=some (if o=i then c else c0):=by
     simp only [Hp.cell,Hp.get_add_self,Option.bind_some,o8 hi];split
     ·rfl
     ·simpa [Hp.cell,hg] using hc0
    rw [hcell];simp only;rw [eH hg hi hl'];by_cases e1:o=i
    ·subst e1;rw [if_neg (by omega)];simp
    ·by_cases e2:o<=i
     ·rw [if_pos (by omega),if_neg e1,if_pos e2,show i-o=(i-(o+1))+1 by omega];simp
     ·rw [if_neg (by omega),if_neg e1,if_neg e2]
theorem xX.store{H:Hp}{b:Nat}{l:List C}(h:xX H b l){i:Nat}(hi:i<l.length)(c:C):
 ∃H',H.store b i c=some H'/\xX H' b (l.set i c)/\(∀b',b'≠b->H'.get b'=H.get b')/\H'.nx=H.nx:=by
 obtain⟨⟨z,m,hg⟩,hl⟩:=h;refine⟨_,by simp only [Hp.store,hg,hi,if_true];rfl,⟨⟨z,m.set i (some c),by simp⟩,?_⟩,fun b' hb'=>Hp.get_add_ne _ _ hb',rfl⟩;rw [List.length_set,eH hg hi hl];simp
def yO(l:List C)(i:Nat):List C->List C
 |[]=>l
 |c::cs=>yO (l.set i c) (i+1) cs
theorem wZ:∀(cs l:List C) (i:Nat),(yO l i cs).length=l.length
 |[],_,_=>rfl
 |c::cs,l,i=>by rw [yO,wZ];simp
theorem xX.stores:∀{cs:List C} {H:Hp} {b:Nat} {l:List C},xX H b l->∀{i:Nat},i+cs.length<=l.length->
 ∃H',H.stores b i cs=some H'/\xX H' b (yO l i cs)/\(∀b',b'≠b->H'.get b'=H.get b')/\H'.nx=H.nx
 |[],H,b,l,h,i,_=>⟨H,rfl,h,fun _ _=>rfl,rfl⟩
 |c::cs,H,b,l,h,i,hi=>by
  simp only [List.length_cons] at hi;obtain⟨H1,h1,h2,h3,h4⟩:=h.store (i:=i) (by omega) c;obtain⟨H2,g1,g2,g3,g4⟩:=xX.stores (cs:=cs) h2 (i:=i+1) (by simp;omega);exact⟨H2,by simp only [Hp.stores,h1,g1],g2,fun b' hb'=>(g3 b' hb').trans (h3 b' hb'),by rw [g4,h4]⟩
def fG(H:Hp)(lo esz n:Nat)(cs:List C)(v:V):Prop:=cs.length=n*esz/\((v=.one .nils/\n=0)\/∃b ex,v=.one (.slc b 0 n n esz ex)/\lo<=b/\xX H b cs)
def Wr:V->Option Nat
 |.one (.slc b _ _ _ _ _)=>some b
 |_=>none
theorem fG.same{H H':Hp}{lo esz n:Nat}{cs:List C}{v:V}(h:fG H lo esz n cs v)(hg:∀b,Wr v=some b->H'.get b=H.get b):fG H' lo esz n cs v:=by
 refine⟨h.1,?_⟩;rcases h.2 with h'|⟨b,ex,rfl,hl,hr⟩
 ·exact .inl h'
 ·exact .inr ⟨b,ex,rfl,hl,hr.same (hg b rfl)⟩
theorem fG.append{H:Hp}{lo esz bytes n:Nat}{cs:List C}{v:V}(h:fG H lo esz n cs v)(hw:WF H)(hlo:lo<=H.nx){m:Nat}{news:List C}(hn:news.length=m*esz)(hm:0<m)(hb:(n+m)*bytes<=140737488355328)(h62:n+m<4611686018427387904):
 ∃v' H',zq H esz bytes v m news=some (v',H')/\fG H' lo esz (n+m) (cs++news) v'/\Wr v'=some H.nx/\(∀b,b≠H.nx->Wr v≠some b->H'.get b=H.get b)/\H'.nx=H.nx+1/\WF H':=by
 have hl:=h.1;rcases h.2 with⟨rfl,rfl⟩|⟨b,ex,rfl,hlb,hr⟩
 ·have:cs=[]:=List.eq_nil_of_length_eq_zero (by simpa using hl);subst this;rw [Nat.zero_add] at hb h62;refine⟨.one (.slc H.nx 0 m m esz false),H.push (.row news.length news .lf true),by simp only [zq];rw [if_neg (by omega),if_pos ⟨hb,h62⟩],⟨by simp [hn],.inr ⟨H.nx,false,by simp,hlo,?_⟩⟩,rfl,fun b hb _=>by rw [Hp.get_push,if_neg hb],rfl,hw.push _⟩;simpa using xX.new (H:=H) news
 ·have hbl:=hr.lt hw;have hlen:(cs++news).length=(n+m)*esz:=by simp [hl,hn,Nat.add_mul]
  have hld:H.loads b 0 (n*esz)=some cs:=by rw [<-hl];exact hr.2
  cases ex with
  |true=>
   refine⟨.one (.slc H.nx 0 (n+m) (n+m) esz false),H.push (.row (cs++news).length (cs++news) .lf true),by simp only [zq];rw [if_neg (by simp),if_neg (by omega),if_pos ⟨hb,h62⟩,hld];simp only [if_true],⟨hlen,.inr ⟨_,_,rfl,hlo,xX.new _⟩⟩,rfl,fun b' hb' _=>by rw [Hp.get_push,if_neg hb'],rfl,hw.push _⟩
  |false=>
   refine⟨.one (.slc H.nx 0 (n+m) (n+m) esz false),(H.push (.row (cs++news).length (cs++news) .lf true)).del b,by simp only [zq];rw [if_neg (by simp),if_neg (by omega),if_pos ⟨hb,h62⟩,hld];simp only [Bool.false_eq_true,if_false,hr.mut,if_true],⟨hlen,.inr ⟨H.nx,false,rfl,hlo,(xX.new _).same ?_⟩⟩,rfl,fun b' hb' ho=>?_,rfl,fun b' k hk=>?_⟩
   ·rw [Hp.get_del,if_neg (by omega)]
   ·rw [Hp.get_del,if_neg (fun e=>ho (by simp [Wr,e])),Hp.get_push,if_neg hb']
   ·rw [Hp.get_del] at hk;split at hk
    ·cases hk
    ·exact hw.push _ b' k hk
namespace T
variable{α β:Type}
def bindT(f:α->Option β):T α->T β
 |lf=>lf
 |nd v l r=>nd (v.bind f) (bindT f l) (bindT f r)
theorem get_bindT(f:α->Option β):∀(t:T α) (n:Nat),(t.bindT f).get n=(t.get n).bind f
 |lf,_=>rfl
 |nd v l r,n=>by
  simp only [bindT,get_nd];split
  ·rfl
  ·split
   ·exact get_bindT f l _
   ·exact get_bindT f r _
def over:T α->T α->T α
 |lf,t=>t
 |nd v l r,lf=>nd v l r
 |nd v l r,nd v' l' r'=>nd (v.or v') (over l l') (over r r')
theorem get_over:∀(t t':T α) (n:Nat),(t.over t').get n=(t.get n).or (t'.get n)
 |lf,_,_=>by simp [over]
 |nd v l r,lf,n=>by simp [over]
 |nd v l r,nd v' l' r',n=>by
  simp only [over,get_nd];split
  ·rfl
  ·split
   ·exact get_over l l' _
   ·exact get_over r r' _
end T
def B.ro:B->Option B
 |.row n z m _=>some (.row n z m false)
 |.mp _=>none
 |.lp ..=>none
 |.st ..=>none
 |.it ..=>none
def Hp.ro(H:Hp):Hp:=⟨H.m.bindT B.ro,H.nx⟩
theorem Hp.get_ro(H:Hp)(b:Nat):H.ro.get b=(H.get b).bind B.ro:=T.get_bindT _ _ _
@[simp] theorem Hp.nx_ro (H:Hp):H.ro.nx=H.nx:=rfl
theorem B.ro_mut{x y:B}(h:x.ro=some y):y.mut=false:=by
 cases x with
 |row n z m rw=>simp only [B.ro,zoi] at h;subst h;rfl
 |mp es=>cases h
 |lp=>cases h
 |st=>cases h
 |it=>cases h
theorem B.ro_cell{x y:B}(h:x.ro=some y)(i:Nat):y.cell i=x.cell i:=by
 cases x with
 |row n z m rw=>simp only [B.ro,zoi] at h;subst h;rfl
 |mp es=>cases h
 |lp=>cases h
 |st=>cases h
 |it=>cases h
theorem Hp.cell_ro(H:Hp)(b i:Nat):H.ro.cell b i=H.cell b i:=by
 unfold Hp.cell;rw [Hp.get_ro];cases h:H.get b with
 |none=>rfl
 |some x=>
  cases x with
  |row n z m rw=>rfl
  |mp es=>rfl
  |lp=>rfl
  |st=>rfl
  |it=>rfl
theorem Hp.ro_mut{H:Hp}{b:Nat}{bk:B}(h:H.ro.get b=some bk):bk.mut=false:=by
 rw [Hp.get_ro,Option.bind_eq_some_iff] at h;obtain⟨x,_,hx⟩:=h;exact B.ro_mut hx
def Le(H H':Hp):Prop:=∀b i c,H.cell b i=some c->H'.cell b i=some c
theorem Ext.le{H H':Hp}(h:Ext H H'):Le H H':=fun _ _ _ hc=>h.cell hc
theorem Le.ro(H:Hp):Le H H.ro:=fun b i c h=>by rw [Hp.cell_ro];exact h
theorem Le.loads{H H':Hp}(h:Le H H'):∀{n b o:Nat} {l:List C},H.loads b o n=some l->H'.loads b o n=some l
 |0,_,_,_,hl=>hl
 |n+1,b,o,l,hl=>by
  simp only [Hp.loads] at hl ⊢;cases hc:H.cell b o with
  |none=>simp [hc] at hl
  |some c=>
   simp only [hc] at hl;simp only [h _ _ _ hc];cases hr:H.loads b (o+1) n with
   |none=>simp [hr] at hl
   |some r=>simp only [hr] at hl;simp only [h.loads hr];exact hl
theorem Sl.le{H H':Hp}{esz n:Nat}{l:List C}{v:V}(h:Sl H esz n l v)(he:Le H H'):Sl H' esz n l v:=by
 refine⟨h.1,?_⟩;rcases h.2 with h|⟨b,o,cap,ex,hv,hl⟩
 ·exact .inl h
 ·exact .inr ⟨b,o,cap,ex,hv,he.loads hl⟩
theorem Yr.le{H H':Hp}{l:List Pt}{v:V}(h:Yr H l v)(he:Le H H'):Yr H' l v:=Sl.le h he
def C.closed:C->Bool
 |.bool _=>true
 |.int _ _=>true
 |.str _=>true
 |.nilp=>true
 |.nils=>true
 |.nilm=>true
 |.nilf=>true
 |.fn _ caps=>caps.isEmpty
 |_=>false
def V.closed1:V->Bool
 |.one c=>c.closed
 |.agg l=>l.all C.closed
 |.tup _=>false
def V.closed:V->Bool
 |.one c=>c.closed
 |.agg l=>l.all C.closed
 |.tup l=>l.all V.closed1
section
variable{μ μ':Nat->Pl}{K K':Nat->Prop}
theorem RC.closed{c:C}{x:Value}(hc:c.closed=true)(h:RC μ K c x):RC μ' K' c x:=by
 cases c with
 |ptr b o=>cases hc
 |slc b o len cap esz ex=>cases hc
 |map b=>cases hc
 |yld b=>cases hc
 |fn f caps=>
  simp only [C.closed,List.isEmpty_iff] at hc;subst hc;exact⟨fun p hp=>(by cases hp),h.2⟩
 |_=>exact h
theorem RCs.closed:∀{l:List C} {xs:List Value},l.all C.closed=true->qg (RC μ K) l xs->qg (RC μ' K') l xs
 |[],[],_,_=>trivial
 |_::_,_::_,hc,hh=>by
  simp only [List.all_cons,xr] at hc;exact⟨RC.closed hc.1 hh.1,RCs.closed hc.2 hh.2⟩
 |[],_::_,_,hh=>hh.elim
 |_::_,[],_,hh=>hh.elim
theorem yf.closed{v:V}{x:Value}(hc:v.closed1=true)(h:yf μ K v x):yf μ' K' v x:=by
 cases v with
 |one c=>exact RC.closed hc h
 |agg l=>obtain⟨xs,hx,ha⟩:=h;exact⟨xs,hx,RCs.closed hc ha⟩
 |tup l=>exact h.elim
theorem RV1s.closed:∀{l:List V} {xs:List Value},l.all V.closed1=true->qg (yf μ K) l xs->qg (yf μ' K') l xs
 |[],[],_,_=>trivial
 |_::_,_::_,hc,hh=>by
  simp only [List.all_cons,xr] at hc;exact⟨yf.closed hc.1 hh.1,RV1s.closed hc.2 hh.2⟩
 |[],_::_,_,hh=>hh.elim
 |_::_,[],_,hh=>hh.elim
theorem RV.closed{v:V}{x:Value}(hc:v.closed=true)(h:RV μ K v x):RV μ' K' v x:=by
 cases v with
 |one c=>exact RC.closed hc h
 |agg l=>obtain⟨xs,hx,ha⟩:=h;exact⟨xs,hx,RCs.closed hc ha⟩
 |tup l=>obtain⟨xs,hx,ha⟩:=h;exact⟨xs,hx,RV1s.closed hc ha⟩
theorem RVs.closed:∀{l:List V} {xs:List Value},l.all V.closed=true->qg (RV μ K) l xs->qg (RV μ' K') l xs
 |[],[],_,_=>trivial
 |_::_,_::_,hc,hh=>by
  simp only [List.all_cons,xr] at hc;exact⟨RV.closed hc.1 hh.1,RVs.closed hc.2 hh.2⟩
 |[],_::_,_,hh=>hh.elim
 |_::_,[],_,hh=>hh.elim
end
section
variable{P:Program}{G:Nat}
theorem Rel.toRo{μ:Nat->Pl}{K:Nat->Prop}{H:Hp}{w:World}(hR:Rel G μ K H w):Rel G μ K H.ro w:=by
 refine⟨fun b bk h=>?_,hR.lt,fun b bk h=>?_,fun b b' bk bk' h _ hm=>?_,hR.glob⟩
 ·rw [Hp.get_ro,Option.bind_eq_some_iff] at h;obtain⟨x,hx,_⟩:=h;exact hR.dom b x hx
 ·rw [Hp.get_ro,Option.bind_eq_some_iff] at h;obtain⟨x,hx,h⟩:=h;have hb:=hR.blk b x hx;cases x with
  |mp es=>cases h
  |lp=>cases h
  |st=>cases h
  |it=>cases h
  |row n z m rw=>
   simp only [B.ro,zoi] at h;subst h;obtain⟨cs,t,fz,h1,h2,h3,h4,h5⟩:=hb;exact⟨cs,t,fz,h1,h2,h3,fun h=>(by cases h),fun i c hc=>h5 i c hc⟩
 ·rw [Hp.ro_mut h] at hm;cases hm
theorem qJ.pure{f:FuncId}{args:List V}{H:Hp}{R:V->Hp->Prop}(h:qJ P G f args H.ro R)(hc:∀v H',R v H'->v.closed=true):qJ P G f args H fun v H'=>(∃H1,R v H1)/\H'=H:=by
 intro μ K w xs hR ha;refine (h μ K w xs hR.toRo ha).mono ?_;rintro e w' ⟨x,rfl,v,H',μ',K',h1,h2,h3,h4⟩;have hkeep:∀i,i<w.heap.size->w'.heap[i]?=w.heap[i]?:=fun i hi=>h4.keep i hi fun b bk hb hm=>by rw [Hp.ro_mut hb] at hm;cases hm
 refine⟨x,rfl,v,H,μ,K,⟨⟨H',h1⟩,rfl⟩,h2.closed (hc v H' h1),⟨hR.dom,hR.lt,fun b bk hb=>?_,hR.inj,hR.glob⟩,?_⟩
 ·rw [hkeep _ (hR.blk_lt hb)];exact hR.blk b bk hb
 ·have r:=Fr.refl hR;exact⟨h4.same,h4.size,fun i hi _=>hkeep i hi,r.img,r.newmut,r.mu,r.kk,r.knew,r.nx,r.none,r.stay,r.ro⟩
theorem qJ.sub {f:FuncId} {args:List V} {H1 H:Hp} {R:V->Hp->Prop} (h:qJ P G f args H1 R) (hargs:args.all V.closed=true) (hG:G<=H1.nx) (hw:WF H1)
 (hsub:∀b bk,H1.get b=some bk->H.get b=some bk/\bk.mut=false/\∀i c,bk.cell i=some c->c.closed=true) (hc:∀v H',R v H'->v.closed=true):
 qJ P G f args H fun v H'=>(∃H1,R v H1)/\H'=H:=by
 intro μ K w xs hR ha;have hR1:Rel G μ (fun b=>b<H1.nx/\K b) H1 w:=by
  refine⟨fun b bk hb=>⟨hw b bk hb,hR.dom b bk (hsub b bk hb).1⟩,fun b hb=>hb.1,fun b bk hb=>?_,fun b b' bk bk' hb _ hm=>?_,fun g hg=>⟨⟨Nat.lt_of_lt_of_le hg hG,(hR.glob g hg).1⟩,(hR.glob g hg).2⟩⟩
  ·obtain⟨g1,g2,g3⟩:=hsub b bk hb;have hb':=hR.blk b bk g1;cases bk with
   |mp es=>cases g2
   |lp=>cases g2
   |st=>cases g2
   |it=>cases g2
   |row n z m rw=>
    obtain⟨cs,t,fz,e1,e2,e3,e4,e5⟩:=hb';exact⟨cs,t,fz,e1,e2,e3,e4,fun i c hcc=>by
     obtain⟨x,hx,hr⟩:=e5 i c hcc;exact⟨x,hx,hr.closed (g3 i c hcc)⟩⟩
  ·rw [(hsub b bk hb).2.1] at hm;cases hm
 refine (h μ _ w xs hR1 (RVs.closed hargs ha)).mono ?_;rintro e w' ⟨x,rfl,v,H',μ',K',h1,h2,h3,h4⟩;have hkeep:∀i,i<w.heap.size->w'.heap[i]?=w.heap[i]?:=fun i hi=>h4.keep i hi fun b bk hb hm=>by rw [(hsub b bk hb).2.1] at hm;cases hm
 refine⟨x,rfl,v,H,μ,K,⟨⟨H',h1⟩,rfl⟩,h2.closed (hc v H' h1),⟨hR.dom,hR.lt,fun b bk hb=>?_,hR.inj,hR.glob⟩,?_⟩
 ·rw [hkeep _ (hR.blk_lt hb)];exact hR.blk b bk hb
 ·have r:=Fr.refl hR;exact⟨h4.same,h4.size,fun i hi _=>hkeep i hi,r.img,r.newmut,r.mu,r.kk,r.knew,r.nx,r.none,r.stay,r.ro⟩
def Hp.over(H H1:Hp):Hp:=⟨H.m.over H1.m,H1.nx⟩
theorem Hp.get_over(H H1:Hp)(b:Nat):(H.over H1).get b=(H.get b).or (H1.get b):=T.get_over _ _ _
theorem qJ.grow{f:FuncId}{args:List V}{H:Hp}{R:V->Hp->Prop}(h:qJ P G f args H.ro R):
 qJ P G f args H fun v H'=>∃H1,R v H1/\H'=H.over H1/\H.nx<=H1.nx/\(∀b bk,H.get b=some bk->H'.get b=some bk)/\(∀b,H.nx<=b->H'.get b=H1.get b)/\Le H1 H':=by
 intro μ K w xs hR ha;refine (h μ K w xs hR.toRo ha).mono ?_;rintro e w' ⟨x,rfl,v,H1,μ',K',h1,h2,h3,h4⟩;have hkeep:∀i,i<w.heap.size->w'.heap[i]?=w.heap[i]?:=fun i hi=>h4.keep i hi fun b bk hb hm=>by rw [Hp.ro_mut hb] at hm;cases hm
 have hold:∀b bk,H.get b=some bk->(H.over H1).get b=some bk:=fun b bk hb=>by rw [Hp.get_over,hb];rfl
 have hno:∀b,H.nx<=b->H.get b=none:=fun b hb=>by
  cases hg:H.get b with
  |none=>rfl
  |some k=>have:=hR.lt' b k hg;omega
 have hnew:∀b,H.nx<=b->(H.over H1).get b=H1.get b:=fun b hb=>by rw [Hp.get_over,hno b hb];rfl
 have hcase:∀b bk,(H.over H1).get b=some bk->H.get b=some bk\/(H.get b=none/\H1.get b=some bk/\H.nx<=b/\(bk.mut=true\/(K' b/\w.heap.size<=(μ' b).blk))/\w.heap.size<=(μ' b).blk):=by
  intro b bk hb;rw [Hp.get_over] at hb;cases hg:H.get b with
  |some k=>rw [hg] at hb;exact .inl hb
  |none=>
   rw [hg] at hb;have hb:H1.get b=some bk:=hb;by_cases hlt:b<H.nx
   ·have:=h4.none b hlt (by rw [Hp.get_ro,hg];rfl);rw [this] at hb;cases hb
   ·have hm:=h4.newmut b bk (by simpa using hlt) hb;refine .inr ⟨rfl,hb,by omega,hm,?_⟩;rcases hm with hm|⟨_,hge⟩
    ·rcases h4.img b bk hb hm with⟨b0,k0,g0,m0,_⟩|hge
     ·rw [Hp.ro_mut g0] at m0;cases m0
     ·exact hge
    ·exact hge
 have hmu:∀b bk,H.get b=some bk->μ' b=μ b:=fun b bk hb=>h4.mu b (hR.dom b bk hb);refine⟨x,rfl,v,H.over H1,μ',K',⟨H1,h1,rfl,h4.nx,hold,hnew,fun b i c hc=>?_⟩,h2,⟨fun b bk hb=>?_,h3.lt,fun b bk hb=>?_,fun b b' bk bk' hb hb' hm he=>?_,h3.glob⟩,?_⟩
 ·unfold Hp.cell at hc ⊢;rw [Hp.get_over];cases hg:H.get b with
  |none=>exact hc
  |some k=>
   simp only [Option.some_or,Option.bind_some];cases hk:k.ro with
   |none=>
    have hrn:H.ro.get b=none:=by rw [Hp.get_ro,hg];exact hk
    rw [h4.none b (hR.lt' b k hg) hrn] at hc;cases hc
   |some k'=>
    have hrn:H.ro.get b=some k':=by rw [Hp.get_ro,hg];exact hk
    rw [h4.ro b k' hrn (B.ro_mut hk)] at hc;simpa [B.ro_cell hk] using hc
 ·rcases hcase b bk hb with ho|⟨_,hn,_⟩
  ·exact h4.kk b (hR.dom b bk ho)
  ·exact h3.dom b bk hn
 ·rcases hcase b bk hb with ho|⟨_,hn,_⟩
  ·rw [hmu b bk ho,hkeep _ (hR.blk_lt ho)];exact (hR.blk b bk ho).mono h4.kk h4.mu
  ·exact h3.blk b bk hn
 ·rcases hcase b bk hb with ho|⟨_,hn,hge,hm1,hsz⟩
  ·rcases hcase b' bk' hb' with ho'|⟨_,hn',_,_,hsz'⟩
   ·rw [hmu b bk ho,hmu b' bk' ho'] at he;exact hR.inj b b' bk bk' ho ho' hm he
   ·rw [hmu b bk ho] at he;have:=hR.blk_lt ho;omega
  ·rcases hcase b' bk' hb' with ho'|⟨_,hn',_⟩
   ·rw [hmu b' bk' ho'] at he;have:=hR.blk_lt ho';omega
   ·exact h3.inj b b' bk bk' hn hn' hm he
 ·refine⟨h4.same,h4.size,fun i hi _=>hkeep i hi,fun b bk hb hm=>?_,fun b bk hb hg=>?_,h4.mu,h4.kk,h4.knew,h4.nx,fun b hb hn=>?_,fun b bk bk' hb hb'=>?_,fun b bk hb _=>hold b bk hb⟩
  ·rcases hcase b bk hb with ho|⟨_,_,_,_,hsz⟩
   ·exact .inl ⟨b,bk,ho,hm,by rw [hmu b bk ho]⟩
   ·exact .inr hsz
  ·rcases hcase b bk hg with ho|⟨_,_,_,hm,_⟩
   ·have:=hR.lt' b bk ho;omega
   ·exact hm
  ·cases hg:(H.over H1).get b with
   |none=>rfl
   |some k=>
    rcases hcase b k hg with ho|⟨_,_,hge,_⟩
    ·rw [hn] at ho;cases ho
    ·omega
  ·rw [hold b bk hb] at hb';rw [zsi hb']
end
end Go.Ab

namespace Go.Ab
abbrev yd:=List (Nat × V)
def kE:yd->Nat->Option V
 |[],_=>none
 |(k,v)::E,n=>match Nat.beq k n with
  |true=>some v
  |false=>kE E n
def Xb(E:yd)(F:T V):Prop:=∀n v,kE E n=some v->F.get n=some v
def x7(E E':yd):Prop:=∀n v,kE E n=some v->kE E' n=some v
theorem x7.nil(E:yd):x7 [] E:=fun _ _ h=>by cases h
theorem WB(k:Nat)(v:V)(E:yd)(n:Nat):kE ((k,v)::E) n=if k=n then some v else kE E n:=by
 simp only [kE];by_cases h:k=n
 ·subst h;simp
 ·rw [if_neg h];have:Nat.beq k n=false:=by cases hb:Nat.beq k n with
   |true=>exact absurd (Nat.eq_of_beq_eq_true hb) h
   |false=>rfl
  rw [this]
theorem x7.cons{E E':yd}{k:Nat}{v:V}(h:kE E' k=some v)(hr:x7 E E'):x7 ((k,v)::E) E':=fun n x hx=>by
 rw [WB] at hx;split at hx
 ·rename_i e;subst e;rw [h];exact hx
 ·exact hr n x hx
theorem Xb.of{E E':yd}{F:T V}(h:Xb E' F)(hs:x7 E E'):Xb E F:=fun n v hv=>h n v (hs n v hv)
def yP(E:yd):Option Nat->V->yd
 |some d,v=>(d,v)::E
 |none,_=>E
theorem Xb.set{E:yd}{F:T V}(h:Xb E F)(d:Option Nat)(v:V):Xb (yP E d v) (xI F d v):=by
 cases d with
 |none=>exact h
 |some d=>
  intro n x hx;simp only [yP,WB] at hx;simp only [xI,T.get_set];split at hx
  ·rename_i e;subst e;rw [if_pos rfl];exact hx
  ·rename_i e;rw [if_neg (fun h=>e h.symm)];exact h n x hx
def res(E:yd):Opd->Opd
 |.t n=>match kE E n with
  |some v=>.c v
  |none=>.t n
 |.c v=>.c v
def jN(E:yd):Opd->Bool
 |.t n=>(kE E n).isSome
 |.c _=>true
theorem iI{E:yd}{F:T V}(h:Xb E F){o:Opd}(ho:jN E o=true):(res E o).ev .lf=o.ev F:=by
 cases o with
 |c v=>rfl
 |t n=>
  simp only [jN,Option.isSome_iff_exists] at ho;obtain⟨v,hv⟩:=ho;simp [res,hv,Opd.ev,h n v hv]
def Ku(f:Opd->Opd):List (Nat × Nat × Opd)->List (Nat × Nat × Opd)
 |[]=>[]
 |(a,b,x)::r=>(a,b,f x)::Ku f r
def XR:List (Nat × Nat × Opd)->List Opd
 |[]=>[]
 |(_,_,x)::r=>x::XR r
def wJ(f:Opd->Opd):Option Opd->Option Opd
 |none=>none
 |some x=>some (f x)
def kH:Option Opd->List Opd
 |none=>[]
 |some x=>[x]
def PureOp.mp(f:Opd->Opd):PureOp->PureOp
 |.mv x=>.mv (f x)
 |.pick c a b=>.pick (f c) (f a) (f b)
 |.build z ps=>.build z (Ku f ps)
 |.nilck x=>.nilck (f x)
 |.bin op x y=>.bin op (f x) (f y)
 |.beq n x y=>.beq n (f x) (f y)
 |.eqs n ks x y=>.eqs n ks (f x) (f y)
 |.neg x=>.neg (f x)
 |.not x=>.not (f x)
 |.conv k x=>.conv k (f x)
 |.mkfn g caps=>.mkfn g (caps.map f)
 |.slice e x lo hi mx=>.slice e (f x) (wJ f lo) (wJ f hi) (wJ f mx)
 |.faddr o x=>.faddr o (f x)
 |.field a o n x=>.field a o n (f x)
 |.iaddr e x i=>.iaddr e (f x) (f i)
 |.aaddr l e x i=>.aaddr l e (f x) (f i)
 |.aindex l e a x i=>.aindex l e a (f x) (f i)
 |.extract x i=>.extract (f x) i
 |.len x=>.len (f x)
 |.mm b x y=>.mm b (f x) (f y)
 |.nileq n x=>.nileq n (f x)
 |.cint n=>.cint n
 |.sindex x i=>.sindex (f x) (f i)
 |.slen x=>.slen (f x)
 |.sslice x lo hi=>.sslice (f x) (wJ f lo) (wJ f hi)
 |.cap x=>.cap (f x)
def PureOp.opds:PureOp->List Opd
 |.mv x=>[x]
 |.pick c a b=>[c,a,b]
 |.build _ ps=>XR ps
 |.nilck x=>[x]
 |.bin _ x y=>[x,y]
 |.beq _ x y=>[x,y]
 |.eqs _ _ x y=>[x,y]
 |.neg x=>[x]
 |.not x=>[x]
 |.conv _ x=>[x]
 |.mkfn _ caps=>caps
 |.slice _ x lo hi mx=>x::(kH lo++(kH hi++kH mx))
 |.faddr _ x=>[x]
 |.field _ _ _ x=>[x]
 |.iaddr _ x i=>[x,i]
 |.aaddr _ _ x i=>[x,i]
 |.aindex _ _ _ x i=>[x,i]
 |.extract x _=>[x]
 |.len x=>[x]
 |.mm _ x y=>[x,y]
 |.nileq _ x=>[x]
 |.cint _=>[]
 |.sindex x i=>[x,i]
 |.slen x=>[x]
 |.sslice x lo hi=>x::(kH lo++kH hi)
 |.cap x=>[x]
section
variable{f:Opd->Opd}{F F':T V}
theorem c5:∀{ps:List (Nat × Nat × Opd)} {z:List C},(∀o∈XR ps,(f o).ev F'=o.ev F)->yy F' z (Ku f ps)=yy F z ps
 |[],_,_=>rfl
 |(a,b,x)::r,z,h=>by
  simp only [Ku,yy,h x (by simp [XR])];split
  ·rfl
  ·split
   ·exact c5 fun o ho=>h o (by simp [XR,ho])
   ·rfl
theorem rX:∀{l:List Opd},(∀o∈l,(f o).ev F'=o.ev F)->kJ F' (l.map f)=kJ F l
 |[],_=>rfl
 |x::l,h=>by
  simp only [List.map_cons,kJ,h x (by simp),rX (l:=l) fun o ho=>h o (by simp [ho])]
theorem VR{d y:Nat}{x:Option Opd}(h:∀o∈kH x,(f o).ev F'=o.ev F):xu F' d y (wJ f x)=xu F d y x:=by
 cases x with
 |none=>rfl
 |some x=>simp only [wJ,xu,h x (by simp [kH])]
theorem A2{v:V}{lo hi:Option Opd}(h:∀o∈kH lo++kH hi,(f o).ev F'=o.ev F):vD F' v (wJ f lo) (wJ f hi)=vD F v lo hi:=by
 unfold vD;have h1:∀k y,xu F' k y (wJ f lo)=xu F k y lo:=fun k y=>by
  cases lo with
  |none=>rfl
  |some x=>simp only [wJ,xu,h x (by simp [kH])]
 have h2:∀k y,xu F' k y (wJ f hi)=xu F k y hi:=fun k y=>by
  cases hi with
  |none=>rfl
  |some x=>simp only [wJ,xu,h x (by simp [kH])]
 simp only [h1,h2]
theorem E7{e:Nat}{v:V}{lo hi mx:Option Opd}(h:∀o∈kH lo++(kH hi++kH mx),(f o).ev F'=o.ev F):jx F' e v (wJ f lo) (wJ f hi) (wJ f mx)=jx F e v lo hi mx:=by
 have h1:∀d y,xu F' d y (wJ f lo)=xu F d y lo:=fun _ _=>VR fun o ho=>h o (by simp [ho]);have h2:∀d y,xu F' d y (wJ f hi)=xu F d y hi:=fun _ _=>VR fun o ho=>h o (by simp [ho]);have h3:∀d y,xu F' d y (wJ f mx)=xu F d y mx:=fun _ _=>VR fun o ho=>h o (by simp [ho]);have h4:(wJ f mx).isSome=mx.isSome:=by cases mx<;>rfl
 simp only [jx,h1,h2,h3,h4]
theorem pI{op:PureOp}(h:∀o∈op.opds,(f o).ev F'=o.ev F):qy F' (op.mp f)=qy F op:=by
 cases op with
 |build z ps=>simp only [PureOp.mp,qy,c5 h]
 |mkfn g caps=>
  have h':∀o∈caps,(f o).ev F'=o.ev F:=h;simp only [PureOp.mp,qy,rX h']
 |sslice x lo hi=>
  simp only [PureOp.mp,qy];rw [h x (by simp [PureOp.opds]),A2 fun o ho=>h o (by simp only [PureOp.opds,List.mem_cons];exact .inr ho)]
 |slice e x lo hi mx=>
  simp only [PureOp.mp,qy];rw [h x (by simp [PureOp.opds]),E7 fun o ho=>h o (by simp only [PureOp.opds,List.mem_cons];exact .inr ho)]
 |_=>simp only [PureOp.opds,List.mem_cons,List.not_mem_nil,or_false,forall_eq_or_imp,forall_eq] at h<;>simp only [PureOp.mp,qy,h]
def LoadOp.mp(f:Opd->Opd):LoadOp->LoadOp
 |.load a n x=>.load a n (f x)
 |.lookup z ok m k=>.lookup z ok (f m) (f k)
 |.mlen m=>.mlen (f m)
def LoadOp.opds:LoadOp->List Opd
 |.load _ _ x=>[x]
 |.lookup _ _ m k=>[m,k]
 |.mlen m=>[m]
theorem cT{H:Hp}{op:LoadOp}(h:∀o∈op.opds,(f o).ev F'=o.ev F):xk F' H (op.mp f)=xk F H op:=by
 cases op<;>simp only [LoadOp.opds,List.mem_cons,List.not_mem_nil,or_false,forall_eq_or_imp,forall_eq] at h<;>simp only [LoadOp.mp,xk,h]
def AllocOp.mp(f:Opd->Opd):AllocOp->AllocOp
 |.alloc z=>.alloc z
 |.box x=>.box (f x)
 |.bslice e l z ps=>.bslice e l z (Ku f ps)
 |.mkslice e b z l c=>.mkslice e b z (f l) (f c)
 |.mkmap=>.mkmap
 |.mkst=>.mkst
def AllocOp.opds:AllocOp->List Opd
 |.alloc _=>[]
 |.box x=>[x]
 |.bslice _ _ _ ps=>XR ps
 |.mkslice _ _ _ l c=>[l,c]
 |.mkmap=>[]
 |.mkst=>[]
theorem nV{op:AllocOp}(h:∀o∈op.opds,(f o).ev F'=o.ev F):xD F' (op.mp f)=xD F op:=by
 cases op with
 |bslice e l z ps=>simp only [AllocOp.mp,xD,c5 h]
 |_=>simp only [AllocOp.opds,List.mem_cons,List.not_mem_nil,or_false,forall_eq_or_imp,forall_eq] at h<;>simp only [AllocOp.mp,xD,h]
def EffOp.mp(f:Opd->Opd):EffOp->EffOp
 |.store n a x=>.store n (f a) (f x)
 |.append e b s x=>.append e b (f s) (f x)
 |.copy e d s=>.copy e (f d) (f s)
 |.mapupd m k x=>.mapupd (f m) (f k) (f x)
 |.clear e z x=>.clear e z (f x)
 |.appendz e b z s x=>.appendz e b z (f s) (f x)
 |.sbytes x=>.sbytes (f x)
 |.stupd m k x=>.stupd (f m) (f k) (f x)
 |.rng m=>.rng (f m)
 |.ent m=>.ent (f m)
 |.stlook z ok m k=>.stlook z ok (f m) (f k)
 |.stlen m=>.stlen (f m)
 |.stdel m k=>.stdel (f m) (f k)
def EffOp.opds:EffOp->List Opd
 |.store _ a x=>[a,x]
 |.append _ _ s x=>[s,x]
 |.copy _ d s=>[d,s]
 |.mapupd m k x=>[m,k,x]
 |.clear _ _ x=>[x]
 |.appendz _ _ _ s x=>[s,x]
 |.sbytes x=>[x]
 |.stupd m k x=>[m,k,x]
 |.rng m=>[m]
 |.ent m=>[m]
 |.stlook _ _ m k=>[m,k]
 |.stlen m=>[m]
 |.stdel m k=>[m,k]
theorem qab{H:Hp}{op:EffOp}(h:∀o∈op.opds,(f o).ev F'=o.ev F):xq F' H (op.mp f)=xq F H op:=by
 cases op<;>simp only [EffOp.opds,List.mem_cons,List.not_mem_nil,or_false,forall_eq_or_imp,forall_eq] at h<;>simp only [EffOp.mp,xq,h]
end
theorem ZZ{E:yd}{F:T V}(h:Xb E F){l:List Opd}(hl:l.all (jN E)=true):∀o∈l,(res E o).ev .lf=o.ev F:=fun o ho=>iI h (List.all_eq_true.1 hl o ho)
def Zn(c0 c:zR):Prop:=∀x∈c,∃y∈c0,y.1=x.1/\∀H,y.2 H->x.2 H
theorem Zn.watch{c0 c:zR}(h:Zn c0 c){ws:List Nat}{H:Hp}(hw:zA ws c0 H):zA ws c H:=by
 cases ws with
 |nil=>trivial
 |cons k r=>
  intro j hj p hp;obtain⟨y,hy,e,hh⟩:=h (j,p) hp;obtain⟨y1,y2⟩:=y;simp only at e;subst e;exact hh H (hw _ hj y2 hy)
theorem Zn.cons{c0 c:zR}(h:Zn c0 c)(k:Nat){p0 p:Hp->Prop}(hp:∀H,p0 H->p H):Zn ((k,p0)::c0) ((k,p)::c):=fun x hx=>by
 rcases List.mem_cons.1 hx with rfl|hx
 ·exact⟨(k,p0),by simp,rfl,hp⟩
 ·obtain⟨y,hy,r⟩:=h x hx;exact⟨y,by simp [hy],r⟩
section
variable{P:Program}{G base:Nat}{Q:yd->Hp->Prop}{r:List SOper}{ctx:zR}{E:yd}{H:Hp}{id:Nat}{dst:Option Nat}{aid:Option Nat}{ws:List Nat}{keep:Bool}
def PW(P:Program)(G base:Nat)(Q:yd->Hp->Prop)(l:List SOper)(ctx:zR)(E:yd)(H:Hp):Prop:=
 ∀F c,Xb E F->Zn ctx c->qE P G base (fun F' H'=>∃E',Xb E' F'/\Q E' H') l c F H
theorem XP(h:Q E H):PW P G base Q [] ctx E H:=fun _ _ hs _=>⟨E,hs,h⟩
theorem vQ{op:PureOp}{v:V}(hk:op.opds.all (jN E)=true)(hv:qy .lf (op.mp (res E))=some v)(h:PW P G base Q r ctx (yP E dst v) H):PW P G base Q (⟨id,dst,.p op,none,aid,ws,keep⟩::r) ctx E H:=by
 intro F c hs hc;rw [pI (ZZ hs hk)] at hv;simp only [qE,qv,if_true,hv];exact h _ c (hs.set dst v) hc
theorem YI{n:Nat}{v:V}(hv:kE E n=some v)(h:PW P G base Q r ctx (yP E dst v) H):PW P G base Q (⟨id,dst,.p (.mv (.t n)),none,aid,ws,keep⟩::r) ctx E H:=
 vQ (by simp [PureOp.opds,jN,hv]) (by simp [PureOp.mp,qy,res,hv,Opd.ev]) h
theorem YJ{v:V}(h:PW P G base Q r ctx (yP E dst v) H):PW P G base Q (⟨id,dst,.p (.mv (.c v)),none,aid,ws,keep⟩::r) ctx E H:=
 vQ rfl rfl h
theorem FL{op:LoadOp}{v:V}(hk:op.opds.all (jN E)=true)(hv:xk .lf H (op.mp (res E))=some v)(h:PW P G base Q r ctx (yP E dst v) H):PW P G base Q (⟨id,dst,.l op,none,aid,ws,false⟩::r) ctx E H:=by
 intro F c hs hc;rw [cT (ZZ hs hk)] at hv;simp only [qE,qv,if_true,hv,Bool.false_eq_true,if_false];exact h _ c (hs.set dst v) hc
theorem LI{op:LoadOp}{v:V}(hk:op.opds.all (jN E)=true)(hv:xk .lf H (op.mp (res E))=some v)(h:PW P G base Q r ((id,fun H'=>xk .lf H' (op.mp (res E))=some v)::ctx) (yP E dst v) H):PW P G base Q (⟨id,dst,.l op,none,aid,ws,true⟩::r) ctx E H:=by
 intro F c hs hc;have hv':=hv;rw [cT (ZZ hs hk)] at hv';simp only [qE,qv,if_true,hv'];exact h _ _ (hs.set dst v) (hc.cons id fun H' hh=>by rw [cT (ZZ hs hk)] at hh;exact hh)
theorem LJ{n:Nat}{a:Opd}{b o:Nat}{c:C}(hk:jN E a=true)(ha:(res E a).ev .lf=.one (.ptr b o))(hc:H.cell b o=some c)(h:PW P G base Q r ctx (yP E dst (.one c)) H):PW P G base Q (⟨id,dst,.l (.load false n a),none,aid,ws,false⟩::r) ctx E H:=
 FL (by simp [LoadOp.opds,hk]) (by simp [LoadOp.mp,xk,ha,hc]) h
theorem Ko{n:Nat}{a:Opd}{b o:Nat}{l:List C}(hk:jN E a=true)(ha:(res E a).ev .lf=.one (.ptr b o))(hc:H.loads b o n=some l)(h:PW P G base Q r ctx (yP E dst (.agg l)) H):PW P G base Q (⟨id,dst,.l (.load true n a),none,aid,ws,false⟩::r) ctx E H:=
 FL (by simp [LoadOp.opds,hk]) (by simp [LoadOp.mp,xk,ha,hc]) h
theorem Xk{op:AllocOp}{bk:B}{g:Nat->V}(hk:op.opds.all (jN E)=true)(hv:xD .lf (op.mp (res E))=some (bk,g))(h:PW P G base Q r ctx (yP E dst (g H.nx)) (H.push bk)):PW P G base Q (⟨id,dst,.a op,none,none,ws,keep⟩::r) ctx E H:=by
 intro F c hs hc;rw [nV (ZZ hs hk)] at hv;simp only [qE,qv,if_true,hv];exact h _ c (hs.set dst _) hc
theorem T6{op:AllocOp}{bk:B}{g:Nat->V}{k:Nat}(hk:op.opds.all (jN E)=true)(hv:xD .lf (op.mp (res E))=some (bk,g))(h:PW P G base Q r ctx (yP E dst (g (base+k))) (H.add (base+k) bk)):PW P G base Q (⟨id,dst,.a op,none,some k,ws,keep⟩::r) ctx E H:=by
 intro F c hs hc;rw [nV (ZZ hs hk)] at hv;simp only [qE,qv,if_true,hv];exact h _ c (hs.set dst _) hc
theorem sW{op:EffOp}{v:V}{H':Hp}(hk:op.opds.all (jN E)=true)(hv:xq .lf H (op.mp (res E))=some (v,H'))(hw:zA ws ctx H')(h:PW P G base Q r ctx (yP E dst v) H'):PW P G base Q (⟨id,dst,.e op,none,aid,ws,keep⟩::r) ctx E H:=by
 intro F c hs hc;rw [qab (ZZ hs hk)] at hv;simp only [qE,qv,if_true,hv];exact⟨hc.watch hw,h _ c (hs.set dst _) hc⟩
theorem r6{F:T V}(hs:Xb E F):∀{args:List Opd},args.all (jN E)=true->args.map (·.ev F)=args.map (fun a=>(res E a).ev .lf)
 |[],_=>rfl
 |a::l,h=>by
  simp only [List.all_cons,xr] at h;simp only [List.map_cons,iI hs h.1,r6 hs h.2]
theorem qcf{f:FuncId}{args:List Opd}{vs:List V}(hk:args.all (jN E)=true)(hvs:args.map (fun a=>(res E a).ev .lf)=vs)(h:qJ P G f vs H fun v H'=>zA ws ctx H'/\PW P G base Q r ctx (yP E dst v) H'):PW P G base Q (⟨id,dst,.cf f args,none,aid,ws,keep⟩::r) ctx E H:=by
 intro F c hs hc;subst hvs;simp only [qE,qv,if_true];rw [r6 hs hk];exact h.mono fun v H' hh=>⟨hc.watch hh.1,hh.2 _ c (hs.set dst v) hc⟩
theorem pE{op:SOp}{g:Nat}{t want:Bool}(hg:kE E g=some (.one (.bool t)))(ht:t=want)(h:PW P G base Q (⟨id,dst,op,none,aid,ws,keep⟩::r) ctx E H):PW P G base Q (⟨id,dst,op,some (g,want),aid,ws,keep⟩::r) ctx E H:=by
 intro F c hs hc;have:=h F c hs hc;have hw:qv (some (g,want)) F=true:=by simp [qv,hs g _ hg,ht]
 rw [qE] at this ⊢;simp only [qv,if_true] at this;simp only [hw,if_true];exact this
theorem pF{op:SOp}{g:Nat}{t want:Bool}(hg:kE E g=some (.one (.bool t)))(ht:t=!want)(h:PW P G base Q r ctx (yP E dst V.undef) H):PW P G base Q (⟨id,dst,op,some (g,want),aid,ws,keep⟩::r) ctx E H:=by
 intro F c hs hc;have hw:qv (some (g,want)) F=false:=by simp [qv,hs g _ hg,ht]
 rw [qE];simp only [hw,Bool.false_eq_true,if_false];exact h _ c (hs.set dst _) hc
theorem LH{op:PureOp}{v:V}{g:Nat}{t want:Bool}(hg:kE E g=some (.one (.bool t)))(hk:op.opds.all (jN E)=true)(hv:t=want->qy .lf (op.mp (res E))=some v)(h:PW P G base Q r ctx (yP E dst (if t=want then v else V.undef)) H):PW P G base Q (⟨id,dst,.p op,some (g,want),aid,ws,keep⟩::r) ctx E H:=by
 by_cases ht:t=want
 ·exact pE hg ht (vQ hk (hv ht) (by rw [if_pos ht] at h;exact h))
 ·exact pF hg (by cases t<;>cases want<;>simp_all) (by rw [if_neg ht] at h;exact h)
theorem qce{op:LoadOp}{v:V}{g:Nat}{t want:Bool}(hg:kE E g=some (.one (.bool t)))(hk:op.opds.all (jN E)=true)(hv:t=want->xk .lf H (op.mp (res E))=some v)(h:PW P G base Q r ctx (yP E dst (if t=want then v else V.undef)) H):PW P G base Q (⟨id,dst,.l op,some (g,want),aid,ws,false⟩::r) ctx E H:=by
 by_cases ht:t=want
 ·exact pE hg ht (FL hk (hv ht) (by rw [if_pos ht] at h;exact h))
 ·exact pF hg (by cases t<;>cases want<;>simp_all) (by rw [if_neg ht] at h;exact h)
theorem BV{n:Nat}{a:Opd}{b o:Nat}{c:C}{g:Nat}{t want:Bool}(hg:kE E g=some (.one (.bool t)))(hk:jN E a=true)(ha:t=want->(res E a).ev .lf=.one (.ptr b o))(hc:H.cell b o=some c)(h:PW P G base Q r ctx (yP E dst (if t=want then .one c else V.undef)) H):PW P G base Q (⟨id,dst,.l (.load false n a),some (g,want),aid,ws,false⟩::r) ctx E H:=
 qce hg (by simp [LoadOp.opds,hk]) (fun ht=>by simp [LoadOp.mp,xk,ha ht,hc]) h
theorem pG{c a b:Opd}{t x y:Bool}(hk:[c,a,b].all (jN E)=true)(hc:(res E c).ev .lf=.one (.bool t))(ha:t=true->(res E a).ev .lf=.one (.bool x))(hb:t=false->(res E b).ev .lf=.one (.bool y))(h:PW P G base Q r ctx (yP E dst (.one (.bool (if t=true then x else y)))) H):PW P G base Q (⟨id,dst,.p (.pick c a b),none,aid,ws,keep⟩::r) ctx E H:=by
 refine vQ (v:=.one (.bool (if t=true then x else y))) hk ?_ h
 simp only [PureOp.mp,qy,hc];cases t with
 |true=>simp [ha rfl]
 |false=>simp [hb rfl]
end
def PS(P:Program)(G n:Nat)(s:SC)(Q:Exit->yd->Hp->Prop)(E:yd)(H:Hp):Prop:=∀F,Xb E F->sD P G n s (fun e F' H'=>∃E',Xb E' F'/\Q e E' H') F H
def LD(next:yd->Hp->Prop)(Q:Exit->yd->Hp->Prop):Exit->yd->Hp->Prop
 |.normal,E,H=>next E H
 |e,E,H=>Q e E H
def EF(id:Nat)(Q:Exit->yd->Hp->Prop):Exit->yd->Hp->Prop
 |.exit id',E,H=>if id'=id then Q .normal E H else Q (.exit id') E H
 |e,E,H=>Q e E H
section
variable{P:Program}{G n:Nat}{Q:Exit->yd->Hp->Prop}{E:yd}{H:Hp}
theorem BZ{s:SC}{E':yd}(hs:x7 E' E)(h:PS P G n s Q E' H):PS P G n s Q E H:=fun F hF=>h F (hF.of hs)
theorem OB(h:Q .normal E H):PS P G n .skip Q E H:=fun _ hF=>Vk ⟨E,hF,h⟩
theorem cN{id:Nat}(h:Q (.exit id) E H):PS P G n (.exit id) Q E H:=fun _ hF=>Vm ⟨E,hF,h⟩
theorem jF(h:Q .ret E H):PS P G n .ret Q E H:=fun _ hF=>cF ⟨E,hF,h⟩
theorem Wo(hm:P.follows .mixedOrders=true){l:List SOper}{rs:Nat}(h:PW P G H.nx (Q .normal) l [] E (H.skip rs)):PS P G n (.ops l rs) Q E H:=fun F hF=>cG hm (h F [] hF fun _ hx=>by cases hx)
theorem Xm(hm:P.follows .mixedOrders=true){l:List SOper}(h:PW P G H.nx (Q .normal) l [] E H):PS P G n (.ops l 0) Q E H:=Wo hm h
theorem vZ{a b:SC}(h:PS P G n a (LD (PS P G n b Q) Q) E H):PS P G n (.seq a b) Q E H:=fun F hF=>cE (yR (h F hF) fun e F' H' ⟨E',h1,h2⟩=>by
 cases e with
 |normal=>exact h2 F' h1
 |_=>exact⟨E',h1,h2⟩)
theorem OC{d:Opd}{a b:SC}{t:Bool}(hk:jN E d=true)(ht:(res E d).ev .lf=.one (.bool t))(h:PS P G n (if t then a else b) Q E H):PS P G n (.cond d a b) Q E H:=fun F hF=>Y5 (t:=t) (by rw [<-iI hF hk];exact ht) (h F hF)
theorem QQ{d:Opd}{a b:SC}{t:Bool}(hk:jN E d=true)(ht:(res E d).ev .lf=.one (.bool t))(h1:t=true->PS P G n a Q E H)(h2:t=false->PS P G n b Q E H):PS P G n (.cond d a b) Q E H:=OC hk ht (by
 cases t with
 |true=>exact h1 rfl
 |false=>exact h2 rfl)
theorem FP{id:Nat}{a:SC}(h:PS P G n a (EF id Q) E H):PS P G n (.block id a) Q E H:=fun F hF=>J7 (yR (h F hF) fun e F' H' ⟨E',h1,h2⟩=>by
 cases e with
 |exit id'=>
  simp only [EF] at h2;simp only [YX];split
  ·rename_i e;rw [if_pos e] at h2;exact⟨E',h1,h2⟩
  ·rename_i e;rw [if_neg e] at h2;exact⟨E',h1,h2⟩
 |_=>exact⟨E',h1,h2⟩)
theorem cM{a:SC}(I:Nat->yd->Hp->Prop){m:Nat}(h0:∃E0,x7 E0 E/\I m E0 H)(round:∀m E H,WF H->I m E H->PS P G n a (LD (fun E' H'=>∃m',m'<m/\∃E0,x7 E0 E'/\I m' E0 H') Q) E H):PS P G n (.loop a) Q E H:=fun F hF=>by
 obtain⟨E0,hs,hI⟩:=h0;refine Vl (fun m F H=>∃E,Xb E F/\I m E H) ⟨E0,hF.of hs,hI⟩ ?_;rintro m F H ⟨E,hF,hI⟩;refine TM fun hw=>yR (round m E H hw hI F hF) fun e F' H' ⟨E',h1,h2⟩=>?_;cases e with
 |normal=>
  obtain⟨m',hm',E0,hs,hI'⟩:=h2;exact⟨m',hm',E0,h1.of hs,hI'⟩
 |_=>exact⟨E',h1,h2⟩
def fY:List V->Nat->yd
 |[],_=>[]
 |v::l,i=>(i,v)::fY l (i+1)
theorem fE:∀(args:List V) (i:Nat),Xb (fY args i) (vz args i)
 |[],_=>fun _ _ h=>by cases h
 |v::l,i=>fun n x h=>by
  simp only [fY,WB] at h;simp only [vz,T.get_set];split at h
  ·rename_i e;subst e;rw [if_pos rfl];exact h
  ·rename_i e;rw [if_neg (fun h=>e h.symm)];exact fE l (i+1) n x h
def iK(E:yd)(H:Hp):SRes->Option V
 |.t n=>kE E n
 |.cell agg k n=>match kE E n with
  |some v=>xk .lf H (.load agg k (.c v))
  |none=>none
def Kn(E:yd)(H:Hp):List SRes->Option (List V)
 |[]=>some []
 |r::l=>match iK E H r,Kn E H l with
  |some v,some vs=>if kf v then some (v::vs) else none
  |_,_=>none
def Km(E:yd)(H:Hp)(rs:List SRes):Option V:=
 match Kn E H rs with
 |some [v]=>some v
 |some vs=>some (.tup vs)
 |none=>none
theorem N7{F:T V}(hs:Xb E F){r:SRes}{v:V}(h:iK E H r=some v):Kf F H r=some v:=by
 cases r with
 |t n=>simp only [iK] at h;simp [Kf,hs n v h]
 |cell agg k n=>
  simp only [iK] at h;split at h
  ·rename_i x hx;simp only [Kf,xk,Opd.ev,hs n x hx,Option.getD_some] at h ⊢;exact h
  ·cases h
theorem iJ{F:T V}(hs:Xb E F):∀{l:List SRes} {vs:List V},Kn E H l=some vs->vE F H l=some vs
 |[],vs,h=>h
 |r::l,vs,h=>by
  simp only [Kn] at h;cases h1:iK E H r with
  |none=>simp [h1] at h
  |some v=>
   cases h2:Kn E H l with
   |none=>simp [h1,h2] at h
   |some vs'=>
    simp only [h1,h2] at h;simp only [vE,N7 hs h1,iJ hs h2];exact h
theorem aE{F:T V}(hs:Xb E F){rs:List SRes}{v:V}(h:Km E H rs=some v):ye F H rs=some v:=by
 unfold Km at h;unfold ye;cases h1:Kn E H rs with
 |none=>simp [h1] at h
 |some vs=>rw [iJ hs h1];rw [h1] at h;exact h
def qp3(rs:List SRes)(R:V->Hp->Prop):Exit->yd->Hp->Prop
 |.normal,E,H=>∃v,Km E H rs=some v/\R v H
 |.ret,E,H=>∃v,Km E H rs=some v/\R v H
 |_,_,_=>False
theorem v7{f:FuncId}{sf:SFn}(hf:qG P G f=some sf){args:List V}{R:V->Hp->Prop}(hn:args.length<=sf.n)(h:WF H->PS P G sf.n sf.code (qp3 sf.res R) (fY args 0) H):qJ P G f args H R:=by
 refine EP fun hw=>Jt hf hn (yR (h hw _ (fE args 0)) fun e F' H' ⟨E',h1,h2⟩=>?_);cases e with
 |normal=>obtain⟨v,hv,hR⟩:=h2;simp only [Xj,aE h1 hv];exact hR
 |ret=>obtain⟨v,hv,hR⟩:=h2;simp only [Xj,aE h1 hv];exact hR
 |_=>exact h2.elim
end
section
variable{P:Program}{G base:Nat}{Q:yd->Hp->Prop}{r:List SOper}{ctx:zR}{E:yd}{H H':Hp}{id:Nat}{dst:Option Nat}{aid:Option Nat}{ws:List Nat}{keep:Bool}
theorem T3{n:Nat}{a x:Opd}{b o:Nat}{l:List C}(hk:[a,x].all (jN E)=true)(ha:(res E a).ev .lf=.one (.ptr b o))(hx:(res E x).ev .lf=.agg l)(hn:l.length=n)(hs:H.stores b o l=some H')(hw:zA ws ctx H')(h:PW P G base Q r ctx (yP E dst V.undef) H'):PW P G base Q (⟨id,dst,.e (.store n a x),none,aid,ws,keep⟩::r) ctx E H:=
 sW hk (by simp [EffOp.mp,xq,ha,hx,jG,hn,hs]) hw h
theorem BX{esz bytes m:Nat}{s x:Opd}{sv xv v':V}{news:List C}(hk:[s,x].all (jN E)=true)(hs:(res E s).ev .lf=sv)(hx:(res E x).ev .lf=xv)(hc:zG H esz xv=some (m,news))(ha:zq H esz bytes sv m news=some (v',H'))(hw:zA ws ctx H')(h:PW P G base Q r ctx (yP E dst v') H'):PW P G base Q (⟨id,dst,.e (.append esz bytes s x),none,aid,ws,keep⟩::r) ctx E H:=
 sW hk (by simp [EffOp.mp,xq,hs,hx,hc,ha]) hw h
end
section
variable{P:Program}{G base:Nat}{Q:yd->Hp->Prop}{r:List SOper}{ctx:zR}{E:yd}{H H':Hp}{id:Nat}{dst:Option Nat}{aid:Option Nat}{ws:List Nat}{keep:Bool}
theorem BS{x y:Opd}{k:IntKind}{a b:Int}(hk:[x,y].all (jN E)=true)(hx:(res E x).ev .lf=.one (.int k a))(hy:(res E y).ev .lf=.one (.int k b))(h:PW P G base Q r ctx (yP E dst (.one (.int k (max a b)))) H):PW P G base Q (⟨id,dst,.p (.mm true x y),none,aid,ws,keep⟩::r) ctx E H:=by
 refine vQ (v:=.one (.int k (max a b))) hk ?_ h;simp only [PureOp.mp,qy,hx,hy,if_true];congr 3;split<;>omega
theorem BR{x y:Opd}{k:IntKind}{a b:Int}(hk:[x,y].all (jN E)=true)(hx:(res E x).ev .lf=.one (.int k a))(hy:(res E y).ev .lf=.one (.int k b))(h:PW P G base Q r ctx (yP E dst (.one (.int k (min a b)))) H):PW P G base Q (⟨id,dst,.p (.mm false x y),none,aid,ws,keep⟩::r) ctx E H:=by
 refine vQ (v:=.one (.int k (min a b))) hk ?_ h;simp only [PureOp.mp,qy,hx,hy,if_true];simp only [Bool.false_eq_true,if_false];congr 3;split<;>omega
end
section
variable{P:Program}{G base:Nat}{Q:yd->Hp->Prop}{r:List SOper}{ctx:zR}{E:yd}{H H':Hp}{id:Nat}{dst:Option Nat}{aid:Option Nat}{ws:List Nat}{keep:Bool}
theorem NK{esz:Nat}{z:List C}{x:Opd}{cs:List C}(hx:jG ((res E x).ev .lf)=some cs)(hn:cs.length=esz):xD .lf (AllocOp.mp (res E) (.bslice esz 1 z [(0,esz,x)]))=some (.row cs.length cs .lf true,fun b=>.one (.slc b 0 1 1 esz true)):=by
 simp only [AllocOp.mp,xD,Ku,yy,hx,hn];have hp:(yS z (1*esz)).length=esz:=by simp [yS]
 rw [if_pos ⟨trivial,by rw [hp];omega⟩];simp only [List.take_zero,List.nil_append,Nat.zero_add];rw [List.drop_of_length_le (by rw [hp];omega),List.append_nil,hn]
theorem sX {esz:Nat} {z:List C} {x:Opd} {cs:List C} (hk:jN E x=true) (hx:jG ((res E x).ev .lf)=some cs) (hn:cs.length=esz)
 (h:PW P G base Q r ctx (yP E dst (.one (.slc H.nx 0 1 1 esz true))) (H.push (.row cs.length cs .lf true))):PW P G base Q (⟨id,dst,.a (.bslice esz 1 z [(0,esz,x)]),none,none,ws,keep⟩::r) ctx E H:=
 Xk (by simp [AllocOp.opds,XR,hk]) (NK hx hn) h
theorem T5 {esz:Nat} {z:List C} {x:Opd} {cs:List C} {j:Nat} (hk:jN E x=true) (hx:jG ((res E x).ev .lf)=some cs) (hn:cs.length=esz)
 (h:PW P G base Q r ctx (yP E dst (.one (.slc (base+j) 0 1 1 esz true))) (H.add (base+j) (.row cs.length cs .lf true))):PW P G base Q (⟨id,dst,.a (.bslice esz 1 z [(0,esz,x)]),none,some j,ws,keep⟩::r) ctx E H:=
 T6 (by simp [AllocOp.opds,XR,hk]) (NK hx hn) h
theorem o7{b n esz cap:Nat}{cs:List C}{ex:Bool}(h:H.loads b 0 (n*esz)=some cs):zG H esz (.one (.slc b 0 n cap esz ex))=some (n,cs):=by simp [zG,h]
end
theorem J1{ws:List Nat}{ctx:zR}{H:Hp}(h:∀x∈ctx,x.2 H):zA ws ctx H:=by
 cases ws with
 |nil=>trivial
 |cons k r=>exact fun j _ p hp=>h (j,p) hp
section
variable{P:Program}{G base:Nat}{Q:yd->Hp->Prop}{r:List SOper}{ctx:zR}{E:yd}{H H':Hp}{id:Nat}{dst:Option Nat}{aid:Option Nat}{ws:List Nat}{keep:Bool}
theorem BW{l:List SOper}{c0:zR}(hc:Zn c0 ctx)(h:PW P G base Q l c0 E H):PW P G base Q l ctx E H:=fun F c hF hc'=>h F c hF fun x hx=>by
 obtain⟨y,hy,e,hh⟩:=hc' x hx;obtain⟨y0,hy0,e0,hh0⟩:=hc y hy;exact⟨y0,hy0,e0.trans e,fun H h=>hh H (hh0 H h)⟩
theorem BU{n:Nat}{a:Opd}{b o:Nat}{c:C}(hk:jN E a=true)(ha:(res E a).ev .lf=.one (.ptr b o))(hc:H.cell b o=some c)(h:PW P G base Q r ((id,fun H'=>H'.cell b o=some c)::ctx) (yP E dst (.one c)) H):PW P G base Q (⟨id,dst,.l (.load false n a),none,aid,ws,true⟩::r) ctx E H:=
 LI (by simp [LoadOp.opds,hk]) (by simp [LoadOp.mp,xk,ha,hc]) (BW (Zn.cons (fun x hx=>⟨x,hx,rfl,fun _ h=>h⟩) id fun H' hh=>by simp [LoadOp.mp,xk,ha,hh]) h)
theorem BT{n:Nat}{a:Opd}{b o:Nat}{l:List C}(hk:jN E a=true)(ha:(res E a).ev .lf=.one (.ptr b o))(hc:H.loads b o n=some l)(h:PW P G base Q r ((id,fun H'=>H'.loads b o n=some l)::ctx) (yP E dst (.agg l)) H):PW P G base Q (⟨id,dst,.l (.load true n a),none,aid,ws,true⟩::r) ctx E H:=
 LI (by simp [LoadOp.opds,hk]) (by simp [LoadOp.mp,xk,ha,hc]) (BW (Zn.cons (fun x hx=>⟨x,hx,rfl,fun _ h=>h⟩) id fun H' hh=>by simp [LoadOp.mp,xk,ha,hh]) h)
theorem BP{x y:Opd}{k:IntKind}{a b:Int}(hk:[x,y].all (jN E)=true)(hx:(res E x).ev .lf=.one (.int k a))(hy:(res E y).ev .lf=.one (.int k b))(hb:b≠0)(h:PW P G base Q r ctx (yP E dst (.one (.int k (a.tmod b)))) H):PW P G base Q (⟨id,dst,.p (.bin .rem x y),none,aid,ws,keep⟩::r) ctx E H:=
 vQ (v:=.one (.int k (a.tmod b))) hk (by simp [PureOp.mp,qy,hx,hy,jU,hb]) h
theorem BQ{x y:Opd}{k:IntKind}{a b:Int}(hk:[x,y].all (jN E)=true)(hx:(res E x).ev .lf=.one (.int k a))(hy:(res E y).ev .lf=.one (.int k b))(hb:b≠0)(h:PW P G base Q r ctx (yP E dst (.one (.int k (k.wrap (a.tdiv b))))) H):PW P G base Q (⟨id,dst,.p (.bin .quo x y),none,aid,ws,keep⟩::r) ctx E H:=
 vQ (v:=.one (.int k (k.wrap (a.tdiv b)))) hk (by simp [PureOp.mp,qy,hx,hy,jU,hb]) h
end
def YZ(H:Hp):zR->Prop
 |[]=>True
 |x::c=>x.2 H/\YZ H c
theorem YZ.mem{H:Hp}:∀{c:zR},YZ H c->∀x∈c,x.2 H
 |[],_,_,hx=>by cases hx
 |y::c,h,x,hx=>by
  rcases List.mem_cons.1 hx with rfl|hx
  ·exact h.1
  ·exact YZ.mem h.2 x hx
section
variable{P:Program}{G base:Nat}{Q:yd->Hp->Prop}{r:List SOper}{ctx:zR}{E:yd}{H H':Hp}{id:Nat}{dst:Option Nat}{aid:Option Nat}{ws:List Nat}{keep:Bool}
theorem kV{f:FuncId}{args:List Opd}{vs:List V}{v0:V}(hk:args.all (jN E)=true)(hvs:args.map (fun a=>(res E a).ev .lf)=vs)(hc:qJ P G f vs H fun v H'=>v=v0/\H'=H)(hx:YZ H ctx)(h:PW P G base Q r ctx (yP E dst v0) H):PW P G base Q (⟨id,dst,.cf f args,none,aid,ws,keep⟩::r) ctx E H:=
 qcf hk hvs (hc.mono fun v H' ⟨e1,e2⟩=>by subst e1;subst e2;exact⟨J1 hx.mem,h⟩)
end
section
variable{P:Program}{G base:Nat}{Q:yd->Hp->Prop}{r:List SOper}{ctx:zR}{E:yd}{H H':Hp}{id:Nat}{dst:Option Nat}{aid:Option Nat}{ws:List Nat}{keep:Bool}
theorem T4 {esz bytes n m:Nat} {z:List C} {l c:Opd} {k k':IntKind} (hk:[l,c].all (jN E)=true) (hl:(res E l).ev .lf=.one (.int k n)) (hc:(res E c).ev .lf=.one (.int k' m)) (hnm:n<=m) (hb:bytes*m<=281474976710656) (hn:m<4611686018427387904)
 (h:PW P G base Q r ctx (yP E dst (.one (.slc H.nx 0 n m esz true))) (H.push (.row (m*esz) z .lf true))):PW P G base Q (⟨id,dst,.a (.mkslice esz bytes z l c),none,none,ws,keep⟩::r) ctx E H:=
 Xk (bk:=.row (m*esz) z .lf true) (g:=fun b=>.one (.slc b 0 n m esz true)) hk (by
  simp only [AllocOp.mp,xD,hl,hc];rw [if_pos ⟨by omega,by omega,by omega,by omega⟩];simp) h
end
inductive FD where
 |c (x:C)
 |sl (esz n:Nat) (l:List FD)
inductive DC where
 |f (d:FD)
 |g (b o:Nat)
 |ptr (k o:Nat)
 |own (k o n esz:Nat)
 |fptr (l:List FD)
 |fn (f:FuncId) (caps:List (Nat × Nat))
 |any
 |trow (k i o n:Nat)
 |tptr (k i o:Nat)
 |om (k:Nat)
 |yl (k:Nat)
 /-- a function whose variables are no more written -/
 |fz (f:FuncId) (ls:List (List FD))
inductive DV where
 |one (c:DC)
 |agg (l:List DC)
 |tup (l:List DV)
abbrev DV.int(n:Int):DV:=.one (.f (.c (.int .i64 n)))
abbrev DV.bool(b:Bool):DV:=.one (.f (.c (.bool b)))
abbrev DV.undef:DV:=.tup []
inductive ME where
 |row (r:List FD)
 |out (c:DC)
inductive Sh where
 |m (ks:Nat)
 |lp (st:LoopState) (j:Option Code) (f:FuncId) (n:Nat) (ts:List Nat) (ps:List Nat) (sg bd:Code)
 /-- a map with structures as keys,whole -/
 |st (es:List (V × V × Nat)) (clk:Nat)
 /-- an iteration over one;its one cell is the map -/
 |it (since:Nat) (seen:List Nat) (last:Nat)
 /-- a map with points as keys:these with their stamps;its cells are the values -/
 |sm (ks:List (Int × Int × Nat)) (clk:Nat)
inductive Bk where
 |cells (l:List DC)
 |data (l:List FD)
 |tree (rows:List (List FD))
 |mp (ks:Sh) (l:List DC)
 |mt (es:List (Int × ME))
inductive Slot where
 |nil
 |blk (b N:Nat)
inductive RF (Z:Nat->Prop) (H:Hp):FD->C->Prop where
 |c (x:C):x.closed=true->RF Z H (.c x) x
 |nil (esz:Nat):RF Z H (.sl esz 0 []) .nils
 |sl {esz n b o cap:Nat} {ex:Bool} {l:List FD} {cs:List C}:(0<n*esz->Z b)->l.length=n*esz->n<=cap->H.loads b o (n*esz)=some cs->(∀(i:Nat) d c,l[i]?=some d->cs[i]?=some c->RF Z H d c)->RF Z H (.sl esz n l) (.slc b o n cap esz ex)
abbrev zF:=Nat × Nat
abbrev qw:=zF->Option Slot
def jW(β:qw):List (Nat × Nat)->List (Nat × Nat)->Prop
 |[],[]=>True
 |(k,o)::r,(b,o')::r'=>o'=o/\(∃N,β (k,0)=some (.blk b N))/\jW β r r'
 |_,_=>False
def fH(Z:Nat->Prop)(H:Hp):List (List FD)->List (Nat × Nat)->Prop
 |[],[]=>True
 |l::ls,p::ps=>(Z p.1/\∃cs,H.loads p.1 p.2 l.length=some cs/\qg (RF Z H) l cs)/\fH Z H ls ps
 |_,_=>False
def RD(Z:Nat->Prop)(H:Hp)(β:qw):DC->C->Prop
 |.f d,c=>RF Z H d c
 |.g b o,c=>c=.ptr b o
 |.ptr k o,c=>∃b N,β (k,0)=some (.blk b N)/\c=.ptr b o
 |.own k o n esz,c=>(β (k,0)=some .nil/\n=0/\o=0/\c=.nils)\/∃b N cap ex,β (k,0)=some (.blk b N)/\c=.slc b o n cap esz ex/\n<=cap/\o+cap*esz<=N
 |.fptr l,c=>∃b o cs,c=.ptr b o/\Z b/\H.loads b o l.length=some cs/\qg (RF Z H) l cs
 |.fn f caps,c=>∃caps',c=.fn f caps'/\jW β caps caps'
 |.any,_=>True
 |.tptr k i o,c=>∃b N,β (k,i+1)=some (.blk b N)/\c=.ptr b o
 |.om k,c=>∃b N,β (k,0)=some (.blk b N)/\c=.map b
 |.yl k,c=>∃b N,β (k,0)=some (.blk b N)/\c=.yld b
 |.fz f ls,c=>∃caps,c=.fn f caps/\fH Z H ls caps
 |.trow k i o n,c=>(β (k,i+1)=some .nil/\n=0/\o=0/\c=.nils)\/∃b N cap ex,β (k,i+1)=some (.blk b N)/\c=.slc b o n cap 1 ex/\n<=cap/\o+cap*1<=N
def zy(Z:Nat->Prop)(H:Hp)(β:qw):DV->V->Prop
 |.one d,v=>∃c,v=.one c/\RD Z H β d c
 |.agg l,v=>∃cs,v=.agg cs/\qg (RD Z H β) l cs
 |.tup _,_=>False
def xG(Z:Nat->Prop)(H:Hp)(β:qw):DV->V->Prop
 |.tup l,v=>∃vs,v=.tup vs/\qg (zy Z H β) l vs
 |d,v=>zy Z H β d v
def Bk.rel(Z:Nat->Prop)(H:Hp)(β:qw):Bk->List C->Prop
 |.cells l,cs=>qg (RD Z H β) l cs
 |.data l,cs=>qg (RF Z H) l cs
 |.tree _,_=>False
 |.mp _ l,cs=>qg (RD Z H β) l cs
 |.mt _,_=>False
def Bk.len:Bk->Nat
 |.cells l=>l.length
 |.data l=>l.length
 |.tree rows=>rows.length
 |.mp _ l=>l.length
 |.mt es=>es.length
def Bk.flat:Bk->Bool
 |.tree _=>false
 |.mt _=>false
 |_=>true
def Bk.shape:Bk->Option Sh
 |.mp ks _=>some ks
 |_=>none
def tK:Nat->V->Prop
 |0,v=>∃c,v=.one c
 |n+1,v=>∃l,v=.agg l/\l.length=n+1
def MF:List (V × V)->List C
 |[]=>[]
 |(k,v)::es=>k.cells++v.cells++MF es
def ET(F:T V):List Nat->List C->Prop
 |[],[]=>True
 |t::ts,c::cs=>F.get t=some (.one c)/\ET F ts cs
 |_,_=>False
def Z3:List (Int × Int × Nat)->List C->List (V × V × Nat)->Prop
 |[],[],[]=>True
 |k::ks,c::cs,e::es=>e=(.agg [.int .i64 k.1,.int .i64 k.2.1],.one c,k.2.2)/\Z3 ks cs es
 |_,_,_=>False
def nZ:Option Sh->Hp->Nat->List C->Prop
 |none,H,b,cs=>xX H b cs
 |some (.m ks),H,b,cs=>∃es,H.get b=some (.mp es)/\(∀e∈es,tK ks e.1/\∃c,e.2=.one c)/\MF es=cs
 |some (.lp st j f n ts ps sg bd),H,b,cs=>∃F,H.get b=some (.lp st j f n F ps.toArray sg bd)/\ET F ts cs
 |some (.st es clk),H,b,cs=>∃_:Unit,H.get b=some (.st es clk)/\cs=[]
 |some (.it since seen last),H,b,cs=>∃mb,H.get b=some (.it mb since seen last)/\cs=[.map mb]
 |some (.sm ks clk),H,b,cs=>∃es,H.get b=some (.st es clk)/\Z3 ks cs es
def Yi:Option Sh->Nat->Nat->List C->Prop
 |none,n,N,_=>n=N
 |some _,_,_,rest=>rest=[]
theorem Yi.of{s:Option Sh}{n N:Nat}{rest:List C}(hs:s=none)(h:n=N):Yi s n N rest:=by subst hs;exact h
theorem nZ.same{s:Option Sh}{H H':Hp}{b:Nat}{cs:List C}(h:nZ s H b cs)(hg:H'.get b=H.get b):nZ s H' b cs:=by
 cases s with
 |none=>exact xX.same h hg
 |some ks=>cases ks<;>(obtain⟨es,h1,h2⟩:=h;exact⟨es,by rw [hg];exact h1,h2⟩)
abbrev qp:=List (Nat × DV)
abbrev Bx:=List (Nat × Bk)
def lk{α:Type}:List (Nat × α)->Nat->Option α
 |[],_=>none
 |(k,v)::E,n=>match Nat.beq k n with
  |true=>some v
  |false=>lk E n
theorem jS(k:Nat):Nat.beq k k=true:=by simp
theorem jv{k n:Nat}(h:k≠n):Nat.beq k n=false:=by
 cases hb:Nat.beq k n with
 |true=>exact absurd (Nat.eq_of_beq_eq_true hb) h
 |false=>rfl
theorem qT{α:Type}(k:Nat)(v:α)(E:List (Nat × α))(n:Nat):lk ((k,v)::E) n=if k=n then some v else lk E n:=by
 simp only [lk];by_cases h:k=n
 ·subst h;simp
 ·rw [if_neg h,jv h]
def zE{α:Type}(k:Nat):List (Nat × α)->List (Nat × α)
 |[]=>[]
 |(j,v)::E=>match Nat.beq j k with
  |true=>zE k E
  |false=>(j,v)::zE k E
theorem yT{α:Type}(k n:Nat):∀E:List (Nat × α),lk (zE k E) n=if n=k then none else lk E n
 |[]=>by simp [zE,lk]
 |(j,v)::E=>by
  simp only [zE];by_cases h:j=k
  ·subst h;rw [jS,qT];simp only;rw [yT j n E];by_cases h2:n=j
   ·rw [if_pos h2,if_pos h2]
   ·rw [if_neg h2,if_neg h2,if_neg (fun h=>h2 h.symm)]
  ·rw [jv h];simp only;rw [qT,qT,yT k n E];by_cases h2:j=n
   ·rw [if_pos h2,if_neg (by omega),if_pos h2]
   ·rw [if_neg h2,if_neg h2]
def put{α:Type}(k:Nat)(v:α):List (Nat × α)->List (Nat × α)
 |[]=>[]
 |(j,u)::E=>match Nat.beq j k with
  |true=>(j,v)::E
  |false=>(j,u)::put k v E
theorem yF{α:Type}(k:Nat)(v:α)(n:Nat):∀E:List (Nat × α),lk (put k v E) n=if n=k then (lk E n).map (fun _=>v) else lk E n
 |[]=>by simp [put,lk]
 |(j,u)::E=>by
  simp only [put];by_cases h:j=k
  ·subst h;rw [jS];simp only;rw [qT,qT];by_cases h2:n=j
   ·subst h2;simp
   ·rw [if_neg h2,if_neg (fun h=>h2 h.symm),if_neg (fun h=>h2 h.symm)]
  ·rw [jv h];simp only;rw [qT,qT,yF k v n E];by_cases h2:j=n
   ·rw [if_pos h2,if_pos h2,if_neg (by omega)]
   ·rw [if_neg h2,if_neg h2]
def zh(k:Nat):Nat->List (List FD)->List DC
 |_,[]=>[]
 |i,r::rs=>.trow k i 0 r.length::zh k (i+1) rs
def kX(k:Nat):Nat->List (Int × ME)->List DC
 |_,[]=>[]
 |i,(y,.row r)::es=>.f (.c (.int .i64 y))::.trow k i 0 r.length::kX k (i+1) es
 |i,(y,.out c)::es=>.f (.c (.int .i64 y))::c::kX k (i+1) es
def wg:Option (Int × ME)->Option Bk
 |some (_,.row r)=>some (.data r)
 |_=>none
def qR(S:Bx):zF->Option Bk
 |(k,0)=>match lk S k with
  |some (.tree rows)=>some (.cells (zh k 0 rows))
  |some (.mt es)=>some (.mp (.m 0) (kX k 0 es))
  |o=>o
 |(k,i+1)=>match lk S k with
  |some (.tree rows)=>(rows[i]?).map .data
  |some (.mt es)=>wg es[i]?
  |_=>none
theorem wr{o:Option (Int × ME)}{x:Bk}(h:wg o=some x):∃y r,o=some (y,.row r)/\x=.data r:=by
 unfold wg at h;split at h
 ·exact⟨_,_,rfl,(zsi h).symm⟩
 ·cases h
def ME.map(f:DC->DC):ME->ME
 |.row r=>.row r
 |.out c=>.out (f c)
def wh(f:DC->DC)(es:List (Int × ME)):List (Int × ME):=es.map fun e=>(e.1,e.2.map f)
theorem Wz(f:DC->DC)(es:List (Int × ME))(i:Nat):wg (wh f es)[i]?=wg es[i]?:=by
 unfold wh;rw [List.getElem?_map];cases es[i]? with
 |none=>rfl
 |some e=>obtain⟨y,e⟩:=e;cases e<;>rfl
theorem YP(f:DC->DC)(k k':Nat)(hf:∀x,f (.f x)=.f x)(ht:∀i n,f (.trow k i 0 n)=.trow k' i 0 n):∀(i:Nat) (es:List (Int × ME)),kX k' i (wh f es)=(kX k i es).map f
 |_,[]=>rfl
 |i,(y,.row r)::es=>by
  have:=YP f k k' hf ht (i+1) es;simp only [wh,List.map_cons,ME.map,kX,hf,ht] at this ⊢;rw [this]
 |i,(y,.out c)::es=>by
  have:=YP f k k' hf ht (i+1) es;simp only [wh,List.map_cons,ME.map,kX,hf] at this ⊢;rw [this]
theorem kP(k:Nat):∀(i:Nat) (rs:List (List FD)),(zh k i rs).length=rs.length
 |_,[]=>rfl
 |i,_::rs=>by simp [zh,kP k (i+1) rs]
theorem Xg(k:Nat):∀(i:Nat) (rs:List (List FD)) (j:Nat),(zh k i rs)[j]?=(rs[j]?).map fun r=>.trow k (i+j) 0 r.length
 |_,[],j=>by simp [zh]
 |i,r::rs,0=>by simp [zh]
 |i,r::rs,j+1=>by
  simp only [zh,List.getElem?_cons_succ,Xg k (i+1) rs j];rw [show i+1+j=i+(j+1) by omega]
theorem yG{S:Bx}{κ:zF}{x:Bk}(h:qR S κ=some x):∃y,lk S κ.1=some y:=by
 obtain⟨k,i⟩:=κ;cases i with
 |zero=>
  simp only [qR] at h;cases hl:lk S k with
  |none=>rw [hl] at h;cases h
  |some y=>exact⟨y,rfl⟩
 |succ i=>
  simp only [qR] at h;cases hl:lk S k with
  |none=>rw [hl] at h;cases h
  |some y=>exact⟨y,rfl⟩
theorem xV{S:Bx}{k:Nat}{x:Bk}(h:lk S k=some x)(hx:x.flat=true):qR S (k,0)=some x:=by
 simp only [qR,h];cases x with
 |tree rows=>cases hx
 |cells l=>rfl
 |data l=>rfl
 |mp ks l=>rfl
 |mt es=>cases hx
theorem lF{S:Bx}{k i:Nat}{x y:Bk}(h:lk S k=some x)(hx:x.flat=true)(hy:qR S (k,i)=some y):i=0/\y=x:=by
 cases i with
 |zero=>rw [xV h hx] at hy;exact⟨rfl,(zsi hy).symm⟩
 |succ i=>
  simp only [qR,h] at hy;cases x with
  |tree rows=>cases hx
  |cells l=>cases hy
  |data l=>cases hy
  |mp ks l=>cases hy
  |mt es=>cases hx
theorem ya{S S':Bx}{κ:zF}(h:lk S κ.1=lk S' κ.1):qR S κ=qR S' κ:=by
 obtain⟨k,i⟩:=κ;cases i with
 |zero=>simp only [qR];rw [h]
 |succ i=>simp only [qR];rw [h]
theorem F5{S:Bx}{κ:zF}(h:lk S κ.1=none):qR S κ=none:=by
 cases hl:qR S κ with
 |none=>rfl
 |some x=>obtain⟨y,hy⟩:=yG hl;rw [h] at hy;cases hy
structure Par where
 P:Program
 G:Nat
 GH:Hp
 Z0:Nat->Prop
 lo:Nat
 anc:Nat
 β0:qw
 H1:Hp
 /-- whose round it is -/
 ρ:Option Nat
abbrev Par.base(P:Program)(G:Nat)(GH:Hp)(Z0:Nat->Prop)(lo:Nat):Par:=⟨P,G,GH,Z0,lo,0,fun _=>none,⟨.lf,0⟩,none⟩
def Par.fix(p:Par)(b:Nat)(bk:B):Prop:=p.GH.get b=some bk\/(p.Z0 b/\p.H1.get b=some bk)
def jd(p:Par)(Z:Nat->Prop)(H:Hp)(β:qw)(x:Bk):Slot->Prop
 |.nil=>x.len=0
 |.blk b N=>¬Z b/\p.lo<=b/\b<H.nx/\∃cs rest,nZ x.shape H b (cs++rest)/\Yi x.shape (cs++rest).length N rest/\x.rel Z H β cs
structure SR (p:Par) (Z:Nat->Prop) (β:qw) (H:Hp) (S:Bx) (nn:Nat):Prop where
 wf:WF H
 lo:p.lo<=H.nx
 z:∀b,Z b->b<H.nx
 zlo:∀b,Z b->p.Z0 b\/p.lo<=b
 zz:∀b,p.Z0 b->Z b
 glob:∀b bk,p.fix b bk->Z b/\H.get b=some bk
 nk:∀κ:zF,nn<=κ.1->β κ=none
 bd:∀κ b N,β κ=some (.blk b N)->b<H.nx
 box:∀κ x,qR S κ=some x->∃s,β κ=some s/\jd p Z H β x s
 inj:∀(κ κ':zF) x x' b N N',lk S κ.1=some x->lk S κ'.1=some x'->β κ=some (.blk b N)->β κ'=some (.blk b N')->κ=κ'
 blo:∀κ b N,β κ=some (.blk b N)->p.lo<=b
 anch:∀κ:zF,κ.1<p.anc->κ.2=0->β κ=p.β0 κ
 ancn:p.anc<=nn
def ER(Z:Nat->Prop)(β:qw)(H:Hp)(E:qp)(F:T V):Prop:=∀n d,lk E n=some d->∃v,F.get n=some v/\xG Z H β d v
section
variable{Z Z':Nat->Prop}{H H':Hp}{β β':qw}
def xo(Z:Nat->Prop)(H:Hp)(Z':Nat->Prop)(H':Hp):Prop:=∀b,Z b->Z' b/\∀i c,H.cell b i=some c->H'.cell b i=some c
theorem xo.loads(h:xo Z H Z' H'){b:Nat}(hb:Z b):∀{n o:Nat} {l:List C},H.loads b o n=some l->H'.loads b o n=some l
 |0,_,_,hl=>hl
 |n+1,o,l,hl=>by
  simp only [Hp.loads] at hl ⊢;cases hc:H.cell b o with
  |none=>simp [hc] at hl
  |some c=>
   simp only [hc] at hl;simp only [(h b hb).2 _ _ hc];cases hr:H.loads b (o+1) n with
   |none=>simp [hr] at hl
   |some r=>simp only [hr] at hl;simp only [h.loads hb hr];exact hl
theorem RF.mono(h:xo Z H Z' H'){d:FD}{c:C}(hr:RF Z H d c):RF Z' H' d c:=by
 induction hr with
 |c x hx=>exact .c x hx
 |nil e=>exact .nil e
 |sl hz hl hn hld _ ih=>
  rename_i esz n _ _ _ _ _ _ _;refine .sl (fun h0=>(h _ (hz h0)).1) hl hn ?_ ih;by_cases h0:0<n*esz
  ·exact h.loads (hz h0) hld
  ·have h1:n*esz=0:=by omega
   rw [h1] at hld ⊢;exact hld
def xP(β β':qw):Prop:=∀k s,β k=some s->β' k=some s
theorem jW.mono(hb:xP β β'):∀{l l':List (Nat × Nat)},jW β l l'->jW β' l l'
 |[],[],_=>trivial
 |(_,_)::_,(_,_)::_,⟨h1,⟨N,h2⟩,h3⟩=>⟨h1,⟨N,hb _ _ h2⟩,jW.mono hb h3⟩
theorem fH.mono(h:xo Z H Z' H'):∀{ls:List (List FD)} {ps:List (Nat × Nat)},fH Z H ls ps->fH Z' H' ls ps
 |[],[],_=>trivial
 |_::_,p::_,⟨⟨h1,cs,h2,h3⟩,h4⟩=>⟨⟨(h p.1 h1).1,cs,h.loads h1 h2,h3.mono fun _ _=>RF.mono h⟩,fH.mono h h4⟩
 |[],_::_,hh=>hh.elim
 |_::_,[],hh=>hh.elim
theorem RD.mono(h:xo Z H Z' H')(hb:xP β β'){d:DC}{c:C}(hr:RD Z H β d c):RD Z' H' β' d c:=by
 cases d with
 |f d=>exact RF.mono h hr
 |g b o=>exact hr
 |ptr k o=>obtain⟨b,N,h1,h2⟩:=hr;exact⟨b,N,hb _ _ h1,h2⟩
 |own k o n esz=>
  rcases hr with⟨h1,h2⟩|⟨b,N,cap,ex,h1,h2⟩
  ·exact .inl ⟨hb _ _ h1,h2⟩
  ·exact .inr ⟨b,N,cap,ex,hb _ _ h1,h2⟩
 |fptr l=>obtain⟨b,o,cs,h1,h2,h3,h4⟩:=hr;exact⟨b,o,cs,h1,(h b h2).1,h.loads h2 h3,h4.mono fun _ _=>RF.mono h⟩
 |fn f caps=>obtain⟨caps',h1,h2⟩:=hr;exact⟨caps',h1,h2.mono hb⟩
 |any=>trivial
 |om k=>obtain⟨b,N,h1,h2⟩:=hr;exact⟨b,N,hb _ _ h1,h2⟩
 |yl k=>obtain⟨b,N,h1,h2⟩:=hr;exact⟨b,N,hb _ _ h1,h2⟩
 |fz f ls=>obtain⟨caps,h1,h2⟩:=hr;exact⟨caps,h1,h2.mono h⟩
 |tptr k i o=>obtain⟨b,N,h1,h2⟩:=hr;exact⟨b,N,hb _ _ h1,h2⟩
 |trow k i o n=>
  rcases hr with⟨h1,h2⟩|⟨b,N,cap,ex,h1,h2⟩
  ·exact .inl ⟨hb _ _ h1,h2⟩
  ·exact .inr ⟨b,N,cap,ex,hb _ _ h1,h2⟩
theorem zy.mono(h:xo Z H Z' H')(hb:xP β β'){d:DV}{v:V}(hr:zy Z H β d v):zy Z' H' β' d v:=by
 cases d with
 |one d=>obtain⟨c,h1,h2⟩:=hr;exact⟨c,h1,h2.mono h hb⟩
 |agg l=>obtain⟨c,h1,h2⟩:=hr;exact⟨c,h1,h2.mono fun _ _=>RD.mono h hb⟩
 |tup l=>exact hr.elim
theorem xG.mono(h:xo Z H Z' H')(hb:xP β β'){d:DV}{v:V}(hr:xG Z H β d v):xG Z' H' β' d v:=by
 cases d with
 |one d=>exact zy.mono (d:=.one d) h hb hr
 |agg l=>exact zy.mono (d:=.agg l) h hb hr
 |tup l=>obtain⟨vs,h1,h2⟩:=hr;exact⟨vs,h1,h2.mono fun _ _=>zy.mono h hb⟩
theorem xG.of1{d:DV}{v:V}(h:zy Z H β d v):xG Z H β d v:=by
 cases d with
 |one c=>exact h
 |agg l=>exact h
 |tup l=>exact h.elim
theorem Bk.rel_mono(h:xo Z H Z' H')(hb:xP β β'){x:Bk}{cs:List C}(hr:x.rel Z H β cs):x.rel Z' H' β' cs:=by
 cases x with
 |cells l=>exact qg.mono (fun _ _=>RD.mono h hb) hr
 |data l=>exact qg.mono (fun _ _=>RF.mono h) hr
 |tree rows=>exact hr.elim
 |mp ks l=>exact qg.mono (fun _ _=>RD.mono h hb) hr
 |mt es=>exact hr.elim
theorem Bk.rel_len{x:Bk}{cs:List C}(hr:x.rel Z H β cs):x.len=cs.length:=by
 cases x with
 |cells l=>exact qg.len hr
 |data l=>exact qg.len hr
 |tree rows=>exact hr.elim
 |mp ks l=>exact qg.len hr
 |mt es=>exact hr.elim
theorem Bk.rel_flat{x:Bk}{cs:List C}(hr:x.rel Z H β cs):x.flat=true:=by
 cases x with
 |tree rows=>exact hr.elim
 |mt es=>exact hr.elim
 |_=>rfl
theorem ER.mono(h:xo Z H Z' H')(hb:xP β β'){E:qp}{F:T V}(hr:ER Z β H E F):ER Z' β' H' E F:=fun n d hd=>by
 obtain⟨v,h1,h2⟩:=hr n d hd;exact⟨v,h1,h2.mono h hb⟩
theorem xo.refl(Z:Nat->Prop)(H:Hp):xo Z H Z H:=fun _ h=>⟨h,fun _ _ h=>h⟩
theorem xo.of_get(hz:∀b,Z b->Z' b)(hg:∀b,Z b->H'.get b=H.get b):xo Z H Z' H':=fun b h=>⟨hz b h,fun i c hc=>by unfold Hp.cell at hc ⊢;rw [hg b h];exact hc⟩
theorem xP.refl(β:qw):xP β β:=fun _ _ h=>h
theorem xo.of_le(hz:∀b,Z b->Z' b)(hl:Le H H'):xo Z H Z' H':=fun b h=>⟨hz b h,fun i c hc=>hl b i c hc⟩
def xn(E:qp):Option Nat->DV->qp
 |some d,v=>(d,v)::E
 |none,_=>E
theorem ER.set{E:qp}{F:T V}(h:ER Z β H E F)(d:Option Nat){x:DV}{v:V}(hv:xG Z H β x v):ER Z β H (xn E d x) (xI F d v):=by
 cases d with
 |none=>exact h
 |some d=>
  intro n y hy;simp only [xn,qT] at hy;simp only [xI,T.get_set];split at hy
  ·rename_i e;subst e;rw [if_pos rfl];obtain rfl:=zsi hy;exact⟨v,rfl,hv⟩
  ·rename_i e;rw [if_neg (fun h=>e h.symm)];exact h n y hy
def QM:C->DC
 |.ptr b o=>.g b o
 |.slc _ _ _ _ _ _=>.any
 |.map _=>.any
 |.yld _=>.any
 |.fn f []=>.f (.c (.fn f []))
 |.fn _ _=>.any
 |c=>.f (.c c)
def AT:V->DV
 |.one c=>.one (QM c)
 |.agg l=>.agg (l.map QM)
 |.tup _=>.one .any
theorem gO(c:C):RD Z H β (QM c) c:=by
 cases c with
 |fn f caps=>cases caps with
  |nil=>exact .c _ rfl
  |cons _ _=>trivial
 |ptr b o=>rfl
 |slc=>trivial
 |map=>trivial
 |yld=>trivial
 |_=>exact .c _ rfl
theorem Xe:∀l:List C,qg (RD Z H β) (l.map QM) l
 |[]=>trivial
 |c::l=>⟨gO c,Xe l⟩
theorem YF(v:V)(hv:kf v=true):zy Z H β (AT v) v:=by
 cases v with
 |one c=>exact⟨c,rfl,gO c⟩
 |agg l=>exact⟨l,rfl,Xe l⟩
 |tup l=>cases hv
def ro(E:qp):Opd->Option DV
 |.t n=>lk E n
 |.c (.one (.int k n))=>some (.one (.f (.c (.int k n))))
 |.c (.one (.bool b))=>some (.one (.f (.c (.bool b))))
 |.c (.one c)=>some (.one (QM c))
 |.c (.agg l)=>some (.agg (l.map QM))
 |.c (.tup _)=>none
theorem xg{E:qp}{F:T V}(h:ER Z β H E F){o:Opd}{d:DV}(ho:ro E o=some d):xG Z H β d (o.ev F):=by
 cases o with
 |t n=>
  obtain⟨v,h1,h2⟩:=h n d ho;simp only [Opd.ev,h1,Option.getD_some];exact h2
 |c v=>
  cases v with
  |one c=>cases c<;>(obtain rfl:=zsi ho;exact xG.of1 (YF (.one _) rfl))
  |agg l=>obtain rfl:=zsi ho;exact xG.of1 (YF (.agg l) rfl)
  |tup l=>cases ho
def DG:DC->Option C
 |.f (.c x)=>some x
 |_=>none
def p9:List DC->Option (List C)
 |[]=>some []
 |d::l=>match DG d,p9 l with
  |some c,some r=>some (c::r)
  |_,_=>none
def bG:DV->Option V
 |.one d=>match DG d with
  |some c=>some (.one c)
  |none=>none
 |.agg l=>match p9 l with
  |some r=>some (.agg r)
  |none=>none
 |.tup _=>none
theorem DF{d:DC}{x c:C}(h:DG d=some x)(hr:RD Z H β d c):c=x:=by
 cases d with
 |f d=>cases d with
  |c y=>obtain rfl:=zsi h;cases hr;rfl
  |sl=>cases h
 |_=>cases h
theorem DB:∀{l:List DC} {xs cs:List C},p9 l=some xs->qg (RD Z H β) l cs->cs=xs
 |[],xs,[],h,_=>by obtain rfl:=zsi h;rfl
 |d::l,xs,c::cs,h,hr=>by
  simp only [p9] at h;split at h
  ·rename_i x r h1 h2;obtain rfl:=zsi h;rw [DF h1 hr.1,DB h2 hr.2]
  ·cases h
 |[],_,_::_,_,hr=>hr.elim
 |_::_,_,[],_,hr=>hr.elim
theorem C9{d:DV}{x v:V}(h:bG d=some x)(hr:xG Z H β d v):v=x:=by
 cases d with
 |one d=>
  obtain⟨c,rfl,hr⟩:=hr;simp only [bG] at h;split at h
  ·rename_i y hy;obtain rfl:=zsi h;rw [DF hy hr]
  ·cases h
 |agg l=>
  obtain⟨c,rfl,hr⟩:=hr;simp only [bG] at h;split at h
  ·rename_i y hy;obtain rfl:=zsi h;rw [DB hy hr]
  ·cases h
 |tup l=>cases h
end
end Go.Ab
