/- -/
import Derived.Test.YtdlelodnhjacgaaGreatDoorAb8
set_option linter.unusedSimpArgs false
set_option linter.unusedVariables false
set_option maxRecDepth 8000
namespace Go.Ab
inductive SC where
 |skip
 /-- operations;st:one of them may panic -/
 |ops (l:List SOper) (res:Nat) (st:Bool)
 /-- operations,and a deferred call behind them;.. and a panic -/
 |df (l:List SOper) (d:Opd)
 |pn (l:List SOper) (d:Opd)
 /-- operations of which one and a call may come in either order -/
 |op2 (a:List SOper) (sa:Bool) (b:List SOper) (sb:Bool) (res:Nat)
 |seq (a b:SC)
 |cond (d:Opd) (a b:SC)
 |block (id:Nat) (a:SC)
 |loop (a:SC)
 |exit (id:Nat)
 |ret
 /-- a range over a function:the function,a round's parameters,what it assigns,what it does -/
 |rf (d:Opd) (ps:List Nat) (a b:SC)
 |scope (a:SC)
 /-- not covered:no run comes here -/
 |no
structure Extra where
 aid:Nat->Option Nat
 watch:Nat->List Nat
 keep:Nat->Bool
def B0(P:Program)(G n:Nat)(ops:Array Oper)(x:Extra)(i:Nat):Option SOper:=
 match ops[i]? with
 |none=>none
 |some o=>match nA P G n o,VS n ops o.guard with
  |some op,some g=>if I7 n o.dst then some ⟨i,o.dst,op,g,x.aid i,x.watch i,x.keep i⟩ else none
  |_,_=>none
def vU(P:Program)(G n:Nat)(ops:Array Oper)(x:Extra):List Nat->Option (List SOper)
 |[]=>some []
 |i::r=>match B0 P G n ops x i,vU P G n ops x r with
  |some s,some l=>some (s::l)
  |_,_=>none
def Xx:Extra:=⟨fun _=>none,fun _=>[],fun _=>false⟩
def iQ(ops:List Oper):List (List Nat):=
 ops.foldl (init:=[]) fun acc o=>acc++[(o.after.toList.foldl (init:=[]) fun s e=>if Region.binds .any e then (e.on::acc.getD e.on []).foldl (fun s j=>if s.contains j then s else j::s) s else s)]
def r7(ops:List Oper):Option (Nat × Nat)->List (List Nat)
 |none=>iQ ops
 |some x=>ops.foldl (init:=[]) fun acc o=>acc++[o.after.toList.foldl (init:=if acc.length==x.1 then x.2::(iQ ops).getD x.2 [] else []) fun s e=>if Region.binds .any e then (e.on::acc.getD e.on []).foldl (fun s j=>if s.contains j then s else j::s) s else s]
def Kd.light:Kd->Bool
 |.p=>true
 |.l=>true
 |_=>false
def G4(D:List (List Nat))(kds:List Kd):Nat->List Nat->List Nat->List Nat
 |0,_,acc=>acc.reverse
 |f+1,rest,acc=>
  let ok:=fun i=>(D.getD i []).all fun j=>acc.contains j
  match rest.find? fun i=>(kds.getD i .e).light&&ok i with
  |some i=>G4 D kds f (rest.filter (·!=i)) (i::acc)
  |none=>match rest.find? fun i=>!(kds.getD i .e).light with
   |some i=>G4 D kds f (rest.filter (·!=i)) (i::acc)
   |none=>acc.reverse
def WX(P:Program)(G n:Nat)(ops:List Oper):List Kd:=ops.map fun o=>match nA P G n o with
 |some op=>op.kd
 |none=>.e
def Kd.isL:Kd->Bool
 |.l=>true
 |_=>false
def Kd.isCl:Kd->Bool
 |.c=>true
 |_=>false
def Kd.isA:Kd->Bool
 |.a=>true
 |_=>false
def Kd.isE:Kd->Bool
 |.e=>true
 |.c=>true
 |_=>false
def lG(D:List (List Nat))(kds:List Kd):List Nat->List Nat->List (Nat × List Nat)
 |[],_=>[]
 |i::r,ls=>
  if (kds.getD i .e).isE then (i,ls.filter fun j=>!(D.getD i []).contains j)::lG D kds r ls
  else lG D kds r (if (kds.getD i .e).isL then i::ls else ls)
def fO(b:Bool)(D:List (List Nat)):List Nat->List SOper->Bool
 |i::idx,s::l=>((idx.zip l).all fun p=>(D.getD p.1 []).contains i||V3 b s p.2)&&fO b D idx l
 |_,_=>true
def Va:List Nat->Bool
 |[]=>true
 |i::l=>!l.contains i&&Va l
def IN(D:List (List Nat))(x:Option (Nat × Nat))(ops:Array Oper)(i:Nat):Bool:=
 match ops[i]? with
 |none=>true
 |some o=>(D.getD i []).all (fun j=>(o.after.toList.any fun e=>Region.binds .any e&&(e.on==j||(D.getD e.on []).contains j))||(match x with|some y=>i==y.1&&decide (y.2<ops.size)&&(y.2==j||(D.getD y.2 []).contains j)|none=>false))&&o.after.toList.all fun e=>!Region.binds .any e||decide (e.on<i)
def ZG(b:Bool)(D:List (List Nat))(x:Option (Nat × Nat))(ops:Array Oper)(idx:List Nat)(l:List SOper)(res:Nat):Bool:=
 fO b D idx l&&Va idx&&idx.all (fun i=>decide (i<ops.size))&&(List.range ops.size).all (fun i=>idx.contains i)&&(List.range ops.size).all (IN D x ops)&&Va (l.filterMap (·.aid))&&decide (idx.length<=ops.size)&&(l.filterMap (·.aid)).all fun k=>decide (k<res)
def fE(D:List (List Nat))(kds:List Kd):Nat->List Nat->List Nat->List Nat
 |0,_,acc=>acc.reverse
 |f+1,rest,acc=>
  let ok:=fun i=>(D.getD i []).all fun j=>acc.contains j
  match rest.find? fun i=>(kds.getD i .e).light&&ok i with
  |some i=>fE D kds f (rest.filter (·!=i)) (i::acc)
  |none=>match rest.find? fun i=>(kds.getD i .e).isE&&ok i with
   |some i=>fE D kds f (rest.filter (·!=i)) (i::acc)
   |none=>match rest.find? fun i=>!(kds.getD i .e).light with
    |some i=>fE D kds f (rest.filter (·!=i)) (i::acc)
    |none=>acc.reverse
def tI(D:List (List Nat))(kds:List Kd):Nat->List Nat->List Nat->List Nat
 |0,_,acc=>acc.reverse
 |f+1,rest,acc=>
  let ok:=fun i=>(D.getD i []).all fun j=>acc.contains j
  match rest.find? fun i=>(kds.getD i .e).light&&ok i with
  |some i=>tI D kds f (rest.filter (·!=i)) (i::acc)
  |none=>match rest.find? ok with
   |some i=>tI D kds f (rest.filter (·!=i)) (i::acc)
   |none=>acc.reverse
def Yw(P:Program)(G n:Nat)(ops:Array Oper)(x0:Option (Nat × Nat))(idx:List Nat):Option (List SOper × Bool):=
 let D:=r7 ops.toList x0;let kds:=WX P G n ops.toList;let ws:=lG D kds idx [];let x:Extra:=⟨fun i=>if (kds.getD i .e).isA then some i else none,fun i=>((ws.find? fun p=>p.1==i).map (·.2)).getD [],fun i=>ws.any fun p=>p.2.contains i⟩
 match vU P G n ops x idx with
 |none=>none
 |some l=>if ZG true D x0 ops idx l ops.size then some (l,true) else if ZG false D x0 ops idx l ops.size then some (l,false) else none
def Zg(P:Program)(G n:Nat)(ops:Array Oper)(x:Option (Nat × Nat)):Option (List SOper × Bool):=
 match x with
 |some _=>Yw P G n ops x (tI (r7 ops.toList x) (WX P G n ops.toList) ops.size (List.range ops.size) [])
 |none=>match Yw P G n ops x (G4 (r7 ops.toList x) (WX P G n ops.toList) ops.size (List.range ops.size) []) with
  |some l=>some l
  |none=>Yw P G n ops x (fE (r7 ops.toList x) (WX P G n ops.toList) ops.size (List.range ops.size) [])
def B2(P:Program)(G n:Nat)(ops:Array Oper)(c l:Nat):Option SC:=
 if c≠l/\(List.range ops.size).all (fun i=>i==c||match ops[i]? with|some o=>Wy o.op|none=>true)=true then match Zg P G n ops (some (l,c)),Zg P G n ops (some (c,l)) with
  |some a,some b=>some (.op2 a.1 a.2 b.1 b.2 ops.size)
  |_,_=>none
 else none
def F8(P:Program)(G n:Nat)(ops:Array Oper):Option SC:=
 match (List.range ops.size).find? fun i=>((WX P G n ops.toList).getD i .e).isCl with
 |none=>none
 |some c=>((List.range ops.size).filter fun i=>(((WX P G n ops.toList).getD i .e).isL||((WX P G n ops.toList).getD i .e).isA)&&!((iQ ops.toList).getD i []).contains c&&!((iQ ops.toList).getD c []).contains i).findSome? (B2 P G n ops c)
def aS(P:Program)(G n:Nat)(ops:Array Oper):Option SC:=
 match Zg P G n ops none with
 |some l=>some (.ops l.1 ops.size l.2)
 |none=>F8 P G n ops
def sA(P:Program)(G n:Nat)(ops:Array Oper):Option SC:=
 match ops[ops.size-1]? with
 |some o=>match o.op,o.guard,o.dst with
  |.defer { callee:=.value c,args:=args,argTypes:=_ },none,none=>if args.isEmpty then match cO G n c,vU P G n ops Xx (List.range (ops.size-1)) with
   |some d,some l=>some (.df l d)
   |_,_=>none
   else none
  |.panic c,none,_=>match cO G n c,vU P G n ops Xx (List.range (ops.size-1)) with
   |some d,some l=>some (.pn l d)
   |_,_=>none
  |_,_,_=>(vU P G n ops Xx (List.range ops.size)).map fun l=>.ops l 0 true
 |none=>(vU P G n ops Xx (List.range ops.size)).map fun l=>.ops l 0 true
def xB(P:Program)(G n:Nat):Code->Option SC
 |.skip=>some .skip
 |.region _ ops draw=>
  if draw then aS P G n ops
  else sA P G n ops
 |.seq a b=>match xB P G n a,xB P G n b with
  |some a,some b=>some (.seq a b)
  |_,_=>none
 |.cond c a b=>match cO G n c,xB P G n a,xB P G n b with
  |some d,some a,some b=>some (.cond d a b)
  |_,_,_=>none
 |.block id a=>(xB P G n a).map (.block id)
 |.loop a=>(xB P G n a).map .loop
 |.exit id=>some (.exit id)
 |.ret=>some .ret
 |.rangeFunc g ps sg bd=>match cO G n g,xB P G n sg,xB P G n bd with
  |some d,some a,some b=>some (.rf d ps.toList a b)
  |_,_,_=>none
 |.scope a=>(xB P G n a).map .scope
 |.label _=>some .skip
 |_=>some .no
inductive SRes where
 |t (n:Nat)
 |cell (agg:Bool) (k:Nat) (n:Nat)
def CQ(F:T V)(H:Hp):SRes->Option V
 |.t n=>some ((F.get n).getD V.undef)
 |.cell agg k n=>qL F H (.load agg k (.t n))
def Q0(F:T V)(H:Hp):List SRes->Option (List V)
 |[]=>some []
 |r::l=>match CQ F H r,Q0 F H l with
  |some v,some vs=>if Y8 v then some (v::vs) else none
  |_,_=>none
def yk(F:T V)(H:Hp)(rs:List SRes):Option V:=
 match Q0 F H rs with
 |some [v]=>some v
 |some vs=>some (.tup vs)
 |none=>none
def Kg(P:Program)(n:Nat):List ResultVar->Option (List SRes)
 |[]=>some []
 |.tmp t::l=>if t<n then (Kg P n l).map (.t t::·) else none
 |.cell a t::l=>match Yk P t,ya P t with
  |some g,some k=>if a<n then (Kg P n l).map (.cell g k a::·) else none
  |_,_=>none
structure SFn where
 n:Nat
 code:SC
 res:List SRes
def yr(P:Program)(G:Nat)(f:FuncId):Option SFn:=
 match P.funcs[f]? with
 |none=>none
 |some fn=>match fn.body with
  |none=>none
  |some c=>match xB P G fn.ntmps c,Kg P fn.ntmps fn.results.toList with
   |some s,some rs=>some ⟨fn.ntmps,s,rs⟩
   |_,_=>none
def ke:List V->Nat->T V
 |[],_=>.lf
 |v::l,i=>(ke l (i+1)).set i (some v)
def Z6(rs:List SRes)(R:V->Hp->Prop):Exit->T V->Hp->Prop
 |.normal,F,H=>match yk F H rs with
  |some v=>R v H
  |none=>False
 |.ret,F,H=>match yk F H rs with
  |some v=>R v H
  |none=>False
 |_,_,_=>False
def H6(rs:List SRes)(R:V->Hp->Prop)(S:Hp->Prop)(F:T V):Bool->Hp->Prop
 |false,H=>match yk F H rs with
  |some v=>R v H
  |none=>False
 |true,H=>S H
def Ua(ρ:Option (Option Nat))(P:Program)(G:Nat)(rs:List SRes)(R:V->Hp->Prop)(S:Hp->Prop):Exit->T V->Hp->Prop
 |.normal,F,H=>JZ P G (H6 rs R S F) (dL ρ F) false H
 |.ret,F,H=>JZ P G (H6 rs R S F) (dL ρ F) false H
 |.panic _,F,H=>JZ P G (H6 rs R S F) (dL ρ F) true H
 |_,_,_=>False
def jD(ρ:Option (Option Nat))(P:Program)(G n:Nat)(s:SC)(Q:Exit->T V->Hp->Prop)(F:T V)(H:Hp):Prop:=∀c,xB P G n c=some s->jh ρ P G n c Q F H
abbrev Pz:=jD none
section
variable{P:Program}{G n:Nat}{ρ:Option (Option Nat)}
theorem DG{ops:Array Oper}{x:Extra}{i:Nat}{s:SOper}(h:B0 P G n ops x i=some s):(∃o,ops[i]?=some o/\nC P G n ops o s)/\s.aid=x.aid i:=by
 unfold B0 at h;split at h
 ·cases h
 ·rename_i o ho;split at h
  ·rename_i op g h1 h2;split at h
   ·rename_i h3;obtain rfl:=zsi h;exact⟨⟨o,ho,h1,O,h3,h2⟩,O⟩
   ·cases h
  ·cases h
theorem vT{ops:Array Oper}{x:Extra}:∀{idx:List Nat} {l:List SOper},vU P G n ops x idx=some l->zk P G n ops idx l/\∀s∈l,∃i∈idx,s.aid=x.aid i
 |[],l,h=>by simp [vU] at h;subst h;exact⟨trivial,by simp⟩
 |i::idx,l,h=>by
  simp only [vU] at h;split at h
  ·rename_i s r h1 h2;obtain rfl:=zsi h;obtain⟨g1,g2⟩:=DG h1;obtain⟨g3,g4⟩:=vT h2;refine⟨⟨g1,g3⟩,fun t ht=>?_⟩;rcases zd.1 ht with rfl|ht
   ·exact⟨i,by simp,g2⟩
   ·obtain⟨j,hj,e⟩:=g4 t ht;exact⟨j,by simp [hj],e⟩
  ·cases h
theorem oH{b:Bool}{D:List (List Nat)}:∀{idx:List Nat} {l:List SOper},fO b D idx l=true->Wq b (fun i=>D.getD i []) idx l
 |i::idx,s::l,h=>by
  simp only [fO,x8,wA] at h;refine⟨fun j t hjt=>?_,oH h.2⟩;have:=h.1 (j,t) hjt;simp only [JL] at this;exact this.imp (by simp) id
 |[],_,_=>trivial
 |_::_,[],_=>trivial
theorem K9:∀{l:List Nat},Va l=true->l.Nodup
 |[],_=>List.nodup_nil
 |i::l,h=>by
  simp only [Va,x8] at h;exact YO.2 ⟨by simpa using h.1,K9 h.2⟩
def xW:Option (Nat × Nat)->Nat->List Nat
 |some y=>fun i=>if i=y.1 then [y.2] else []
 |none=>fun _=>[]
theorem d7 {res:Nat} {ops:Array Oper} {b:Bool} {D:List (List Nat)} {x:Option (Nat × Nat)} {idx:List Nat} {l:List SOper} (hal:zk P G n ops idx l) (hB:ZG b D x ops idx l res=true)
 {Q:Exit->T V->Hp->Prop} {F:T V} {H:Hp} (h:qC P G H.nx (if b then Jv Q (wi l) F else fun _=>False) (Q .normal) l [] F (H.skip res)) {s:Nat} {μ:Nat->Pl} {K:Nat->Prop} {w:World} {a:Act} (hR:Rel G μ K H w) (hF:xR μ K n F a.tmps) (hd:KK ρ n μ K s a.defers w (dL ρ F)):JP (Xh ρ) 0 P (xW x) ops (CU ρ G n s μ K H w Q) ops.size (Array.replicate ops.size false) a { w with drawn:=w.drawn+1 }:=by
 unfold ZG at hB;simp only [x8,wA,yA,jF] at hB;obtain⟨⟨⟨⟨⟨⟨⟨h1,h2⟩,h3⟩,h4⟩,h5⟩,h6⟩,h8⟩,h7⟩:=hB;have hdep:∀i o,ops[i]?=some o->IN D x ops i=true:=fun i o ho=>h5 i (nJ.1 ho).1;have hR':=(hR.drawn (w.drawn+1)).skip res;refine Pu (D:=fun i=>D.getD i []) (b:=b) (F0:=F) (ds:=wi l) (base:=H.nx) (QP:=if b then Jv Q (wi l) F else fun _=>False) (Q:=Q .normal) (μ0:=μ) (K0:=K) (H0:=H) (w0:=w) hR.lt' (fun μ' K' F' H' a' w' g1 g2 g3 g4 hag g5=>⟨F',H',μ',K',g1,g2,g3,g4,by rw [g5,Kf hd.1 hal.dsts hag];exact hd.fr hR g4⟩) (fun μ' K' F' H' a' w' ch g0 hch g2 g3 g4 hag g5=>?_) ?_ (fun i o ho j hj=>?_) (fun i o ho e he hb=>?_)
  (by simp) (fun i hi=>?_) (fun i hi=>h3 i hi) (K9 h2) ?_ (fun i hi hni=>?_) hal (oH h1) (K9 h6) ⟨fun k p hp=>(by cases hp),fun k p hp=>(by cases hp)⟩ (fun s hs k hk=>?_) hR' hF ((Fr.drawn hR _ (Nat.le_succ _)).trans hR.lt' (Fr.skip (hR.drawn _) res)) iN (fun _ _=>rfl) rfl h
 ·cases b with
  |false=>exact g0.elim
  |true=>exact⟨F',H',μ',K',⟨hch,g0 F' hag⟩,g2,g3,g4,by rw [g5,Kf hd.1 hal.dsts hag];exact hd.fr hR g4⟩
 ·cases b with
  |false=>exact .inr fun _ h=>h
  |true=>exact .inl O
 ·have:=hdep i o ho;unfold IN at this;rw [ho] at this;simp only [x8,wA,List.any_eq_true,JL] at this;rcases this.1 j hj with⟨e,he,hb,hh⟩|hh
  ·exact .inl ⟨e,he,hb,hh.imp (by simp) (by simp)⟩
  ·refine .inr ?_;cases x with
   |none=>cases hh
   |some y=>
    simp only [x8,JL,yA,beq_iff_eq] at hh;obtain⟨⟨rfl,h2⟩,h3⟩:=hh;exact⟨y.2,by simp [xW],h2,h3.imp id (by simp)⟩
 ·have:=hdep i o ho;unfold IN at this;rw [ho] at this;simp only [x8,wA,JL,yA,Bool.not_eq_true'] at this;rcases this.2 e he with h|h
  ·rw [hb] at h;cases h
  ·exact h
 ·constructor
  ·intro _;have:=h4 i hi;simpa using this
  ·intro _;simp [hi]
 ·exact h8
 ·exact absurd (by have:=h4 i hi;simpa using this) hni
 ·have hk':k<res:=h7 k (KM.2 ⟨s,hs,hk⟩);refine⟨fun hkk=>absurd (hR.lt _ hkk) (by omega),by simp;omega,by omega⟩
theorem Bj (hm:P.follows .mixedOrders=true) {id res:Nat} {ops:Array Oper} {b:Bool} {D:List (List Nat)} {idx:List Nat} {l:List SOper} (hal:zk P G n ops idx l) (hB:ZG b D none ops idx l res=true)
 {Q:Exit->T V->Hp->Prop} {F:T V} {H:Hp} (h:qC P G H.nx (if b then Jv Q (wi l) F else fun _=>False) (Q .normal) l [] F (H.skip res)):jh ρ P G n (.region id ops true) Q F H:=fun s μ K w a hR hF hd=>
 wpIn_region_any hm (Jq _ _ _ _ (fun i j hj=>by cases hj) (d7 hal hB h hR hF hd))
theorem RS (hm:P.follows .mixedOrders=true) {id:Nat} {ops:Array Oper} {b1 b2:Bool} {D1 D2:List (List Nat)} {idx1 idx2:List Nat} {l1 l2:List SOper} {c l:Nat} (hcl:c≠l) (hv:∀i o,ops[i]?=some o->i≠c->Wy o.op=true) (hal1:zk P G n ops idx1 l1) (hB1:ZG b1 D1 (some (l,c)) ops idx1 l1 ops.size=true) (hal2:zk P G n ops idx2 l2) (hB2:ZG b2 D2 (some (c,l)) ops idx2 l2 ops.size=true)
 {Q:Exit->T V->Hp->Prop} {F:T V} {H:Hp} (h1:qC P G H.nx (if b1 then Jv Q (wi l1) F else fun _=>False) (Q .normal) l1 [] F (H.skip ops.size)) (h2:qC P G H.nx (if b2 then Jv Q (wi l2) F else fun _=>False) (Q .normal) l2 [] F (H.skip ops.size)):jh ρ P G n (.region id ops true) Q F H:=fun s μ K w a hR hF hd=>
 wpIn_region_any hm (Lh hcl hv _ _ _ _ (by simp) (d7 hal1 hB1 h1 hR hF hd) (d7 hal2 hB2 h2 hR hF hd))
def SC.isReg:SC->Bool
 |.ops ..=>true
 |.df ..=>true
 |.pn ..=>true
 |.op2 ..=>true
 |_=>false
theorem VL{ops:Array Oper}{s:SC}(h:sA P G n ops=some s):
 (∃l,s=.ops l 0 true/\vU P G n ops Xx (List.range ops.size)=some l)\/
 (∃o k c ts l d,s=.df l d/\ops.size=k+1/\ops[k]?=some o/\o.op=.defer { callee:=.value c,args:=#[],argTypes:=ts }/\o.guard=none/\o.dst=none/\cO G n c=some d/\vU P G n ops Xx (List.range k)=some l)\/
 (∃o k c l d,s=.pn l d/\ops.size=k+1/\ops[k]?=some o/\o.op=.panic c/\o.guard=none/\cO G n c=some d/\vU P G n ops Xx (List.range k)=some l):=by
 unfold sA at h;split at h
 ·rename_i o ho;have hk:∃k,ops.size=k+1/\ops.size-1=k:=by
   have:=(nJ.1 ho).1;exact⟨ops.size-1,by omega,rfl⟩
  obtain⟨k,hk1,hk2⟩:=hk;rw [hk2] at ho h;split at h
  ·rename_i c args ts h1 h2 h3;split at h
   ·rename_i he;split at h
    ·rename_i d l hd hl;obtain rfl:=zsi h;have he':args=#[]:=by simpa using he
     subst he';exact .inr (.inl ⟨o,k,c,ts,l,d,O,hk1,ho,h1,h2,h3,hd,hl⟩)
    ·cases h
   ·cases h
  ·rename_i c h1 h2;split at h
   ·rename_i d l hd hl;obtain rfl:=zsi h;exact .inr (.inr ⟨o,k,c,l,d,O,hk1,ho,h1,h2,hd,hl⟩)
   ·cases h
  ·simp only [zom] at h;obtain⟨l,hl,rfl⟩:=h;exact .inl ⟨l,O,hl⟩
 ·simp only [zom] at h;obtain⟨l,hl,rfl⟩:=h;exact .inl ⟨l,O,hl⟩
theorem JF{ops:Array Oper}{s:SC}(h:aS P G n ops=some s):
 (∃l,Zg P G n ops none=some l/\s=.ops l.1 ops.size l.2)\/
 (∃a b c l,s=.op2 a.1 a.2 b.1 b.2 ops.size/\c≠l/\(∀i o,ops[i]?=some o->i≠c->Wy o.op=true)/\Zg P G n ops (some (l,c))=some a/\Zg P G n ops (some (c,l))=some b):=by
 unfold aS at h;split at h
 ·rename_i l hl;exact .inl ⟨l,hl,(zsi h).symm⟩
 ·unfold F8 at h;split at h
  ·cases h
  ·rename_i c _;obtain⟨l,_,h⟩:=List.exists_of_findSome?_eq_some h;unfold B2 at h;split at h
   ·rename_i hc;split at h
    ·rename_i a b ha hb;refine .inr ⟨a,b,c,l,(zsi h).symm,hc.1,fun i o ho hi=>?_,ha,hb⟩;have:=wA.1 hc.2 i (jF.2 (nJ.1 ho).1);rw [ho] at this;simpa [hi] using this
    ·cases h
   ·cases h
theorem j9{draw:Bool}{ops:Array Oper}{s:SC}(h:(if draw=true then aS P G n ops else sA P G n ops)=some s):s.isReg=true:=by
 split at h
 ·rcases JF h with⟨l,_,rfl⟩|⟨a,b,c,l,rfl,_⟩<;>rfl
 ·rcases VL h with⟨l,rfl,_⟩|⟨o,k,c,ts,l,d,rfl,_⟩|⟨o,k,c,l,d,rfl,_⟩<;>rfl
theorem Yv{ops:Array Oper}{x:Option (Nat × Nat)}{idx:List Nat}{l:List SOper × Bool}(h:Yw P G n ops x idx=some l):∃D,zk P G n ops idx l.1/\ZG l.2 D x ops idx l.1 ops.size=true:=by
 unfold Yw at h;simp only at h;split at h
 ·cases h
 ·rename_i l3 hall;split at h
  ·rename_i hB;obtain rfl:=zsi h;exact⟨_,(vT hall).1,hB⟩
  ·split at h
   ·rename_i hB;obtain rfl:=zsi h;exact⟨_,(vT hall).1,hB⟩
   ·cases h
theorem Ki{ops:Array Oper}{x:Option (Nat × Nat)}{l:List SOper × Bool}(h:Zg P G n ops x=some l):∃D idx,zk P G n ops idx l.1/\ZG l.2 D x ops idx l.1 ops.size=true:=by
 unfold Zg at h;split at h
 ·obtain⟨D,hh⟩:=Yv h;exact⟨D,_,hh⟩
 ·split at h
  ·rename_i l2 h2;obtain rfl:=zsi h;obtain⟨D,hh⟩:=Yv h2;exact⟨D,_,hh⟩
  ·obtain⟨D,hh⟩:=Yv h;exact⟨D,_,hh⟩
theorem s5{Q:Exit->T V->Hp->Prop}{F:T V}{H:Hp}(h:Q .normal F H):jD ρ P G n .skip Q F H:=by
 intro c hc;cases c<;>simp only [xB] at hc<;>try (cases hc;done)
 case skip=>exact Bh h
 case label l=>exact RR h
 case region id ops draw=>exact absurd (j9 hc) (by simp [SC.isReg])
 case seq a b=>split at hc<;>cases hc
 case rangeFunc g ps a b=>split at hc<;>cases hc
 case cond d a b=>split at hc<;>cases hc
 case block id a=>simp at hc
 case loop a=>simp at hc
 case scope a=>simp at hc
theorem D3(hm:P.follows .mixedOrders=true){l:List SOper}{res:Nat}{st:Bool}{Q:Exit->T V->Hp->Prop}{F:T V}{H:Hp}(h:qC P G H.nx (if st then Jv Q (wi l) F else fun _=>False) (Q .normal) l [] F (H.skip res)):jD ρ P G n (.ops l res st) Q F H:=by
 intro c hc;cases c<;>simp only [xB] at hc<;>try (cases hc;done)
 case region id ops draw=>
  cases draw with
  |false=>
   simp only [yz,if_false] at hc;rcases VL hc with⟨l',he,hl⟩|⟨o,k,c,ts,l,d,he,_⟩|⟨o,k,c,l,d,he,_⟩
   ·injection he with e1 e2 e3
    subst e1 e2 e3;obtain⟨h1,h2⟩:=vT hl;exact LC h1 (fun s hs=>by obtain⟨i,_,e⟩:=h2 s hs;exact e) h
   ·cases he
   ·cases he
  |true=>
   simp only [if_true] at hc;rcases JF hc with⟨l',hl,he⟩|⟨a,b,c,l,he,_⟩
   ·injection he with e1 e2 e3
    subst e1 e2 e3;obtain⟨D,idx,hall,hB⟩:=Ki hl;exact Bj hm hall hB h
   ·cases he
 case seq a b=>split at hc<;>cases hc
 case rangeFunc g ps a b=>split at hc<;>cases hc
 case cond d a b=>split at hc<;>cases hc
 case block id a=>simp at hc
 case loop a=>simp at hc
 case scope a=>simp at hc
theorem Eo(hm:P.follows .mixedOrders=true){l1 l2:List SOper}{res:Nat}{s1 s2:Bool}{Q:Exit->T V->Hp->Prop}{F:T V}{H:Hp}(h1:qC P G H.nx (if s1 then Jv Q (wi l1) F else fun _=>False) (Q .normal) l1 [] F (H.skip res))(h2:qC P G H.nx (if s2 then Jv Q (wi l2) F else fun _=>False) (Q .normal) l2 [] F (H.skip res)):jD ρ P G n (.op2 l1 s1 l2 s2 res) Q F H:=by
 intro c hc;cases c<;>simp only [xB] at hc<;>try (cases hc;done)
 case region id ops draw=>
  cases draw with
  |false=>
   simp only [yz,if_false] at hc;rcases VL hc with⟨l',he,hl⟩|⟨o,k,c,ts,l,d,he,_⟩|⟨o,k,c,l,d,he,_⟩<;>cases he
  |true=>
   simp only [if_true] at hc;rcases JF hc with⟨l',hl,he⟩|⟨a,b,c,l,he,hcl,hv,ha,hb⟩
   ·cases he
   ·injection he with e1 e2 e3 e4 e5
    subst e1 e2 e3 e4 e5;obtain⟨D1,idx1,hall1,hB1⟩:=Ki ha;obtain⟨D2,idx2,hall2,hB2⟩:=Ki hb;exact RS hm hcl hv hall1 hB1 hall2 hB2 h1 h2
 case seq a b=>split at hc<;>cases hc
 case rangeFunc g ps a b=>split at hc<;>cases hc
 case cond d a b=>split at hc<;>cases hc
 case block id a=>simp at hc
 case loop a=>simp at hc
 case scope a=>simp at hc
theorem DZ{a b:SC}{Q:Exit->T V->Hp->Prop}{F:T V}{H:Hp}(h:jD ρ P G n a (rS (jD ρ P G n b Q) Q) F H):jD ρ P G n (.seq a b) Q F H:=by
 intro c hc;cases c<;>simp only [xB] at hc<;>try (cases hc;done)
 case seq x y=>
  split at hc
  ·rename_i x' y' hx hy;simp only [zoi,SC.seq.injEq] at hc;obtain⟨rfl,rfl⟩:=hc;refine Ie (d6 (h x hx) fun e F' H' he=>?_);cases e with
   |normal=>exact (show jD ρ P G n y' Q F' H' from he) y hy
   |_=>exact he
  ·cases hc
 case region id ops draw=>exact absurd (j9 hc) (by simp [SC.isReg])
 case cond d a b=>split at hc<;>cases hc
 case block id a=>simp at hc
 case loop a=>simp at hc
 case scope a=>simp at hc
 case rangeFunc g ps a b=>split at hc<;>cases hc
theorem s8{d:Opd}{a b:SC}{Q:Exit->T V->Hp->Prop}{F:T V}{H:Hp}{t:Bool}(ht:d.ev F=.one (.bool t))(h:jD ρ P G n (if t then a else b) Q F H):jD ρ P G n (.cond d a b) Q F H:=by
 intro c hc;cases c<;>simp only [xB] at hc<;>try (cases hc;done)
 case cond o x y=>
  split at hc
  ·rename_i d' x' y' h1 hx hy;simp only [zoi,SC.cond.injEq] at hc;obtain⟨rfl,rfl,rfl⟩:=hc;refine Bl h1 ht ?_;cases t
   ·exact h y hy
   ·exact h x hx
  ·cases hc
 case region id ops draw=>exact absurd (j9 hc) (by simp [SC.isReg])
 case seq a b=>split at hc<;>cases hc
 case rangeFunc g ps a b=>split at hc<;>cases hc
 case block id a=>simp at hc
 case loop a=>simp at hc
 case scope a=>simp at hc
theorem n3{id:Nat}{a:SC}{Q:Exit->T V->Hp->Prop}{F:T V}{H:Hp}(h:jD ρ P G n a (lD id Q) F H):jD ρ P G n (.block id a) Q F H:=by
 intro c hc;cases c<;>simp only [xB] at hc<;>try (cases hc;done)
 case block id' x=>
  simp only [zom,SC.block.injEq] at hc;obtain⟨x',hx,rfl,rfl⟩:=hc;exact RT (h x hx)
 case region id ops draw=>exact absurd (j9 hc) (by simp [SC.isReg])
 case seq a b=>split at hc<;>cases hc
 case rangeFunc g ps a b=>split at hc<;>cases hc
 case cond d a b=>split at hc<;>cases hc
 case loop a=>simp at hc
 case scope a=>simp at hc
theorem s6{a:SC}{Q:Exit->T V->Hp->Prop}{F:T V}{H:Hp}(I:Nat->T V->Hp->Prop){m:Nat}(h0:I m F H)(round:∀m F H,I m F H->jD ρ P G n a (rS (fun F' H'=>∃m',m'<m/\I m' F' H') Q) F H):jD ρ P G n (.loop a) Q F H:=by
 intro c hc;cases c<;>simp only [xB] at hc<;>try (cases hc;done)
 case loop x=>
  simp only [zom,SC.loop.injEq] at hc;obtain⟨x',hx,rfl⟩:=hc;exact Bi I h0 fun m F H hI=>round m F H hI x hx
 case region id ops draw=>exact absurd (j9 hc) (by simp [SC.isReg])
 case seq a b=>split at hc<;>cases hc
 case rangeFunc g ps a b=>split at hc<;>cases hc
 case cond d a b=>split at hc<;>cases hc
 case block id a=>simp at hc
 case scope a=>simp at hc
theorem MP{a:SC}{Q:Exit->T V->Hp->Prop}{F:T V}{H:Hp}(h:jD ρ P G n a (M6 Q) F H):jD ρ P G n (.scope a) Q F H:=by
 intro c hc;cases c<;>simp only [xB] at hc<;>try (cases hc;done)
 case scope x=>
  simp only [zom,SC.scope.injEq] at hc;obtain⟨x',hx,rfl⟩:=hc;exact RQ (h x hx)
 case rangeFunc g ps a b=>split at hc<;>cases hc
 case region id ops draw=>exact absurd (j9 hc) (by simp [SC.isReg])
 case seq a b=>split at hc<;>cases hc
 case cond d a b=>split at hc<;>cases hc
 case block id a=>simp at hc
 case loop a=>simp at hc
theorem s7{id:Nat}{Q:Exit->T V->Hp->Prop}{F:T V}{H:Hp}(h:Q (.exit id) F H):jD ρ P G n (.exit id) Q F H:=by
 intro c hc;cases c<;>simp only [xB] at hc<;>try (cases hc;done)
 case exit id'=>simp only [zoi,SC.exit.injEq] at hc;subst hc;exact CI h
 case region id ops draw=>exact absurd (j9 hc) (by simp [SC.isReg])
 case seq a b=>split at hc<;>cases hc
 case rangeFunc g ps a b=>split at hc<;>cases hc
 case cond d a b=>split at hc<;>cases hc
 case block id a=>simp at hc
 case loop a=>simp at hc
 case scope a=>simp at hc
theorem D0{Q:Exit->T V->Hp->Prop}{F:T V}{H:Hp}(h:Q .ret F H):jD ρ P G n .ret Q F H:=by
 intro c hc;cases c<;>simp only [xB] at hc<;>try (cases hc;done)
 case ret=>exact GJ h
 case region id ops draw=>exact absurd (j9 hc) (by simp [SC.isReg])
 case seq a b=>split at hc<;>cases hc
 case rangeFunc g ps a b=>split at hc<;>cases hc
 case cond d a b=>split at hc<;>cases hc
 case block id a=>simp at hc
 case loop a=>simp at hc
 case scope a=>simp at hc
def Rx(Q:Exit->T V->Hp->Prop):Option Code->T V->Hp->Prop
 |none=>Q .normal
 |some .ret=>Q .ret
 |some (.exit id)=>Q (.exit id)
 |_=>fun _ _=>False
theorem Lt {d:Opd} {ps:List Nat} {sa sb:SC} {f:FuncId} {caps:List (Nat × Nat)} {Q:Exit->T V->Hp->Prop} {F:T V} {H:Hp} (hdv:d.ev F=.one (.fn f caps)) (hf:wL P f=true)
 (h:∀fid sg bd,xB P G n sg=some sa->xB P G n bd=some sb->xc P G f (.one (.yld H.nx)::caps.map WO) (H.push (.lp .ready none fid n F ps.toArray sg bd)) fun _ H'=>∃st j f1 n1 F1 ps1 as1 bd1,H'.get H.nx=some (.lp st j f1 n1 F1 ps1 as1 bd1)/\st≠.busy/\
  Rx Q j F (H'.add H.nx (.lp .exhausted j f1 n1 F1 ps1 as1 bd1))):Pz P G n (.rf d ps sa sb) Q F H:=by
 intro c hc;cases c<;>simp only [xB] at hc<;>try (cases hc;done)
 case rangeFunc g ps' sg bd=>
  split at hc
  ·rename_i d' a' b' hg ha hb;simp only [zoi,SC.rf.injEq] at hc;obtain⟨rfl,rfl,rfl,rfl⟩:=hc;refine Pp hg hdv hf fun fid=>(h fid sg bd ha hb).mono fun _ H' hh=>?_;obtain⟨st,j,f1,n1,F1,ps1,as1,bd1,h1,h2,h3⟩:=hh;refine⟨st,j,f1,n1,F1,ps1,as1,bd1,by simpa using h1,h2,?_⟩;cases j with
   |none=>exact h3
   |some c=>cases c<;>first|exact h3.elim|exact GJ h3|exact CI h3
  ·cases hc
 case region id ops draw=>exact absurd (j9 hc) (by simp [SC.isReg])
 case seq a b=>split at hc<;>cases hc
 case cond d a b=>split at hc<;>cases hc
 case block id a=>simp at hc
 case loop a=>simp at hc
 case scope a=>simp at hc
theorem MO {b:Nat} {args:List V} {j:Option Code} {f:FuncId} {F:T V} {ps:Array Tmp} {sg bd:Code} {sa sb:SC} {R:V->Hp->Prop} {H:Hp} (hb:H.get b=some (.lp .ready j f n F ps sg bd)) (hlen:args.length=ps.size) (ha:xB P G n sg=some sa) (hbd:xB P G n bd=some sb)
 (h:∀l,jD (some (some l)) P G n sa (fun e F1 H1=>e=.normal/\∃j1 f1 n1 F0 ps1 as1 bd1,H1.get b=some (.lp .ready j1 f1 n1 F0 ps1 as1 bd1)/\jD (some (some l)) P G n sb (tN b R) F1 (H1.add b (.lp .busy j1 f1 n1 F0 ps1 as1 bd1))) (WE F ps.toList args) H):
 vO P G b args H R:=
 RP hb hlen fun l=>d6 (h l sg ha) fun e F1 H1 ⟨he,j1,f1,n1,F0,ps1,as1,bd1,h1,h2⟩=>⟨he,j1,f1,n1,F0,ps1,as1,bd1,h1,h2 bd hbd⟩
theorem jn{s:SC}{Q Q':Exit->T V->Hp->Prop}{F:T V}{H:Hp}(h:jD ρ P G n s Q F H)(hq:∀e F H,Q e F H->Q' e F H):jD ρ P G n s Q' F H:=
 fun c hc=>d6 (h c hc) hq
def WF(H:Hp):Prop:=∀b bk,H.get b=some bk->b<H.nx
theorem xc.wf{f:FuncId}{args:List V}{H:Hp}{R:V->Hp->Prop}(h:xc P G f args H R):xc P G f args H fun v H'=>R v H'/\WF H':=
 fun μ K w xs hR ha=>(h μ K w xs hR ha).mono fun _ _ ⟨x,he,v,H',μ',K',h1,h2,h3,h4⟩=>⟨x,he,v,H',μ',K',⟨h1,h3.lt'⟩,h2,h3,h4⟩
theorem Vl:∀{l:List V} {i j:Nat},(ke l i).get j=if i<=j then l[j-i]? else none
 |[],i,j=>by simp [ke]
 |v::l,i,j=>by
  simp only [ke];rw [T.get_set];by_cases e:j=i
  ·subst e;simp
  ·rw [if_neg e,Vl];by_cases h:i+1<=j
   ·rw [if_pos h,if_pos (by omega),show j-i=(j-(i+1))+1 by omega];simp
   ·rw [if_neg h,if_neg (by omega)]
def K4(tmps:Array Value):ResultVar->Sem Value
 |.tmp t=>pure (tmps.getD t Go.undef)
 |.cell c t=>do loadVar t (<-asAddr (tmps.getD c Go.undef))
theorem Vf{rv:List ResultVar}{r:ResultVar}{f:ResultVar->Sem Value}{x:Value}{xs:List Value}{w:World}(h1:(f r).run P w=.ok x w)(h2:(rv.mapM f).run P w=.ok xs w):((r::rv).mapM f).run P w=.ok (x::xs) w:=by
 rw [List.mapM_cons,Sem.run_bind,h1,Result.andThen_ok,Sem.run_bind,h2];rfl
theorem nB{μ:Nat->Pl}{K:Nat->Prop}{F:T V}{H:Hp}{w:World}{a:Act}(hR:Rel G μ K H w)(hF:xR μ K n F a.tmps):∀{rv:List ResultVar} {rs:List SRes} {vs:List V},Kg P n rv=some rs->Q0 F H rs=some vs->
 ∃xs:List Value,qe (z6 μ K) vs xs/\(rv.mapM (K4 a.tmps)).run P w=.ok xs w
 |[],rs,vs,h1,h2=>by
  simp [Kg] at h1;subst h1;simp [Q0] at h2;subst h2;exact⟨[],trivial,by simp⟩
 |.tmp t::rv,rs,vs,h1,h2=>by
  simp only [Kg] at h1;split at h1
  ·rename_i ht;simp only [zom] at h1;obtain⟨rs',hrs,rfl⟩:=h1;simp only [Q0,CQ] at h2;split at h2
   ·rename_i v vs' e1 e2;split at h2
    ·rename_i hone;obtain rfl:=zsi h2;obtain rfl:=zsi e1;obtain⟨xs,hall,hrun⟩:=nB hR hF hrs e2;exact⟨a.tmps.getD t Go.undef::xs,⟨cT hone (hF.2 t ht),hall⟩,Vf O hrun⟩
    ·cases h2
   ·cases h2
  ·cases h1
 |.cell c t::rv,rs,vs,h1,h2=>by
  simp only [Kg] at h1;split at h1
  ·rename_i g k hg hk;split at h1
   ·rename_i hc;simp only [zom] at h1;obtain⟨rs',hrs,rfl⟩:=h1;simp only [Q0,CQ] at h2;split at h2
    ·rename_i v vs' e1 e2;split at h2
     ·rename_i hone;obtain rfl:=zsi h2;obtain⟨xs,hall,hrun⟩:=nB hR hF hrs e2;have hv:=hF.2 c hc;simp only [qL,Opd.ev] at e1;split at e1
      ·rename_i b o he;rw [he] at hv;obtain⟨hkb,hv'⟩:K b/\a.tmps.getD c Go.undef=.pointer (some ((μ b).addr o)):=hv;cases g with
       |true=>
        simp only [if_true,zom] at e1;obtain⟨l,hl,rfl⟩:=e1;obtain⟨ys,ha,hr⟩:=hR.loads (P:=P) (n:=k) (b:=b) (o:=o) (i:=0) (acc:=#[]) hl;have hr':(loadCells ((μ b).addr o) k).run P w=.ok ys.toArray w:=by simpa [loadCells] using hr
        refine⟨.agg ys.toArray::xs,⟨⟨ys,O,ha⟩,hall⟩,Vf ?_ hrun⟩;simp only [K4,Sem.run_bind,hv',asAddr,Sem.run_pure,Result.andThen_ok,loadVar,vp hg,if_true,zq hk,hr']
       |false=>
        simp only [yz,if_false,zom] at e1;obtain⟨cc,hcc,rfl⟩:=e1;obtain⟨y,hy,hr⟩:=hR.cell hcc;refine⟨y::xs,⟨hr,hall⟩,Vf ?_ hrun⟩;simp only [K4,Sem.run_bind,hv',asAddr,Sem.run_pure,Result.andThen_ok,loadVar,vp hg,yz,if_false,run_load,hy]
      ·cases e1
     ·cases h2
    ·cases h2
   ·cases h1
  ·cases h1
theorem TW{μ:Nat->Pl}{K:Nat->Prop}{args:List V}{xs:List Value}{n:Nat}(hn:args.length<=n)(ha:qe (RV μ K) args xs):xR μ K n (ke args 0) (xs.toArray++Array.replicate (n-xs.toArray.size) Go.undef):=by
 have hlen:=ha.len;refine⟨by simp;omega,fun i hi=>?_⟩;rw [Vl];simp only [Xa,if_true,Nat.sub_zero];by_cases hlt:i<xs.length
 ·have h1:args[i]?=some args[i]:=zge (by omega);rw [h1];obtain⟨x,hx,hr⟩:=ha.at i _ h1;have:(xs.toArray++Array.replicate (n-xs.toArray.size) Go.undef).getD i Go.undef=x:=by
   simp [nL,Array.getElem?_append,hlt,zge hlt] at hx ⊢;exact hx
  rw [this];exact hr
 ·have h1:args[i]?=none:=yJ (by omega);rw [h1];have:(xs.toArray++Array.replicate (n-xs.toArray.size) Go.undef).getD i Go.undef=Go.undef:=by
   simp only [nL,Array.getElem?_append];rw [if_neg (by simpa using hlt)];rw [Array.getElem?_replicate];split<;>rfl
  rw [this];exact RV.undef
theorem Nq{ρ:Option (Option Nat)}{f:FuncId}{sf:SFn}(hf:yr P G f=some sf){args:List V}{H:Hp}{R:V->Hp->Prop}{S:Hp->Prop}(hn:args.length<=sf.n)(hρ:ρ=none\/ρ=some none/\sf.n<=Kr)(h:jD ρ P G sf.n sf.code (Ua ρ P G sf.res R S) (ke args 0) H):jm P G f args H R S:=by
 unfold yr at hf;split at hf
 ·cases hf
 ·rename_i fn hfn;split at hf
  ·cases hf
  ·rename_i c hb;split at hf
   ·rename_i s rs hs hrs;obtain rfl:=zsi hf;intro μ K w xs hR ha;have hfen:Xh ρ=Fence.wide:=by rcases hρ with rfl|⟨rfl,_⟩<;>rfl
    refine (callsIn_wide (n:=0)).1 (callsIn_of_wp_marks hfn hb trivial ?_);have hlen:=ha.len;have hF0:xR μ K fn.ntmps (ke args 0) (xs.toArray++Array.replicate (fn.ntmps-xs.toArray.size) Go.undef):=TW hn ha;have hL0:dL ρ (ke args 0)=[]:=by
     rcases hρ with rfl|⟨rfl,hle⟩
     ·rfl
     ·have hn':args.length<=fn.ntmps:=hn;have hle':fn.ntmps<=Kr:=hle;have:(ke args 0).get Kr=none:=by
       rw [Vl];simp only [Xa,if_true];exact yJ (by omega)
      simp only [dL,BE,this]
    have hw:=h c hs w.heap.size μ K w ⟨_,[]⟩ hR hF0 (by rw [hL0];exact KK.nil w (fun e=>hρ.elim (fun h=>by rw [h] at e;cases e) fun h=>h.2) (qz _));rw [hfen] at hw;refine wpIn_mono hw fun e a' w' he=>?_;obtain⟨F',H',μ',K',h1,h3,h4',h5,hd⟩:=he;have door:∀(pan:Bool) (u:FrameMode),WQ pan u->JZ P G (H6 rs R S F') (dL ρ F') pan H'->LeavesInM Fence.wide 0 P fn a'.tmps (JI G μ K H w R S) a'.defers u w':=by
     intro pan u hm hl;refine cQ (μ1:=μ') (K1:=K') hR.lt' (fun pan H1 μ1 K1 w1 u hfin hm hR1 hFr1 hk hmu=>?_) hd.2.1 hd.2.2.1 hd.2.2.2 h3 h5 (fun _ h=>h) (fun _ _=>O) hm hl;cases pan with
     |true=>
      obtain⟨ch,rfl,hch⟩:=hm;exact .inr ⟨ch,O,hch,H1,μ1,K1,hfin,hR1,hFr1⟩
     |false=>
      obtain rfl:u=.returning:=hm;have hres:(match yk F' H1 rs with
       |some v=>R v H1
       |none=>False):=hfin
      have h4:xR μ1 K1 fn.ntmps F' a'.tmps:=h4'.mono hk hmu;unfold yk at hres;cases hl:Q0 F' H1 rs with
      |none=>simp [hl] at hres
      |some vs=>
       obtain⟨ys,hall,hrun⟩:=nB (P:=P) hR1 h4 hrs hl;have hrun':(results fn a'.tmps).run P w1=.ok (if h:ys.toArray.size=1 then ys.toArray[0] else .tuple ys.toArray) w1:=by
        have he:results fn a'.tmps=(do let vs<-fn.results.mapM (K4 a'.tmps);pure (if h:vs.size=1 then vs[0] else .tuple vs)):=by
         unfold results K4;rfl
        rw [he,Sem.run_bind,Array.mapM_eq_mapM_toList,Sem.run_map,hrun];rfl
       clear hrun
       match vs,ys,hall,hl,hrun' with
       |[v],[y],hall,hl,hrun'=>
        simp only [hl] at hres;exact⟨y,by rw [hrun'];rfl,.inl ⟨y,rfl,v,H1,μ1,K1,hres,RV.of1 hall.1,hR1,hFr1⟩⟩
       |[],[],_,hl,hrun'=>
        simp only [hl] at hres;exact⟨.tuple #[],by rw [hrun'];rfl,.inl ⟨_,rfl,.tup [],H1,μ1,K1,hres,RV.undef,hR1,hFr1⟩⟩
       |v1::v2::vs,y1::y2::ys,hall,hl,hrun'=>
        simp only [hl] at hres;exact⟨.tuple (y1::y2::ys).toArray,by rw [hrun'];simp,.inl ⟨_,rfl,.tup (v1::v2::vs),H1,μ1,K1,hres,⟨_,rfl,hall⟩,hR1,hFr1⟩⟩
       |[],_::_,hall,_,_=>exact hall.elim
       |_::_,[],hall,_,_=>exact hall.elim
       |[_],_::_::_,hall,_,_=>exact hall.2.elim
       |_::_::_,[_],hall,_,_=>exact hall.2.elim
    cases e with
    |normal=>exact door false .returning O h1
    |ret=>exact door false .returning O h1
    |panic ch=>exact door true (.panicking ch) ⟨ch,O,h1.1⟩ h1.2
    |exit id=>exact h1.elim
    |goto l=>exact h1.elim
    |outgrown=>exact h1.elim
   ·cases hf
theorem aH{f:FuncId}{sf:SFn}(hf:yr P G f=some sf){args:List V}{H:Hp}{R:V->Hp->Prop}(hn:args.length<=sf.n)(h:Pz P G sf.n sf.code (Z6 sf.res R) (ke args 0) H):xc P G f args H R:=
 jm.of (Nq (ρ:=none) hf hn (.inl rfl) (jn h fun e F H he=>by
  cases e with
  |normal=>exact he
  |ret=>exact he
  |_=>exact he.elim))
end
def ZC(call:FuncId->List V->Hp->Option (V × Hp)):List SOper->T V->Hp->Option (T V × Hp)
 |[],F,H=>some (F,H)
 |o::r,F,H=>
  match qH o.guard F with
  |true=>
   match o.op with
   |.p op=>match qp F op with
    |some v=>ZC call r (xg F o.dst v) H
    |none=>none
   |.l op=>match qL F H op with
    |some v=>ZC call r (xg F o.dst v) H
    |none=>none
   |.a op=>match xK F op,o.aid with
    |some (bk,g),none=>ZC call r (xg F o.dst (g H.nx)) (H.push bk)
    |_,_=>none
   |.e op=>match xe F H op,o.watch with
    |some (v,H'),[]=>ZC call r (xg F o.dst v) H'
    |_,_=>none
   |.cf f args=>match call f (args.map (·.ev F)) H,o.watch with
    |some (v,H'),[]=>ZC call r (xg F o.dst v) H'
    |_,_=>none
   |_=>none
  |false=>ZC call r (xg F o.dst V.undef) H
def JS(call:FuncId->List V->Hp->Option (V × Hp))(rec:SC->T V->Hp->Option (Exit × T V × Hp))(s:SC)(F:T V)(H:Hp):Option (Exit × T V × Hp):=
 match s with
 |.skip=>some (.normal,F,H)
 |.ops l res _=>match ZC call l F (H.skip res) with
  |some (F',H')=>some (.normal,F',H')
  |none=>none
 |.seq a b=>match rec a F H with
  |some (.normal,F',H')=>rec b F' H'
  |x=>x
 |.cond d a b=>match d.ev F with
  |.one (.bool t)=>rec (if t then a else b) F H
  |_=>none
 |.block id a=>match rec a F H with
  |some (.exit id',F',H')=>if id'=id then some (.normal,F',H') else some (.exit id',F',H')
  |x=>x
 |.loop a=>match rec a F H with
  |some (.normal,F',H')=>rec (.loop a) F' H'
  |x=>x
 |.exit id=>some (.exit id,F,H)
 |.ret=>some (.ret,F,H)
 |_=>none
def X6(tb:Nat->Option SFn)(rec:SC->T V->Hp->Option (Exit × T V × Hp))(f:FuncId)(args:List V)(H:Hp):Option (V × Hp):=
 match tb f with
 |none=>none
 |some sf=>match Nat.ble args.length sf.n,rec sf.code (ke args 0) H with
  |true,some (.ret,F',H')=>match yk F' H' sf.res with
   |some v=>some (v,H')
   |none=>none
  |_,_=>none
def KF(tb:Nat->Option SFn):Nat->SC->T V->Hp->Option (Exit × T V × Hp)
 |0=>fun _ _ _=>none
 |fuel+1=>JS (X6 tb (KF tb fuel)) (KF tb fuel)
section
variable{P:Program}{G:Nat}{tb:Nat->Option SFn}
theorem v8{call:FuncId->List V->Hp->Option (V × Hp)}(hcall:∀{f args H v H'},call f args H=some (v,H')->xc P G f args H fun w K=>w=v/\K=H'){base:Nat}{QP:Hp->Prop}{Q:T V->Hp->Prop}:
 ∀{l:List SOper} {ctx:z7} {F:T V} {H:Hp} {F':T V} {H':Hp},ZC call l F H=some (F',H')->Q F' H'->qC P G base QP Q l ctx F H
 |[],ctx,F,H,F',H',h,hq=>by
  obtain⟨rfl,rfl⟩:=Prod.mk.inj (zsi h);exact hq
 |o::r,ctx,F,H,F',H',h,hq=>by
  rw [ZC] at h;rw [qC];cases hw:qH o.guard F with
  |false=>
   simp only [hw] at h;simp only [yz,if_false];exact v8 hcall h hq
  |true=>
   simp only [hw] at h;simp only [if_true];split at h
   ·rename_i op hop;simp only [hop];split at h
    ·rename_i v hv;simp only [hv];exact v8 hcall h hq
    ·cases h
   ·rename_i op hop;simp only [hop];split at h
    ·rename_i v hv;simp only [hv];exact v8 hcall h hq
    ·cases h
   ·rename_i op hop;simp only [hop];split at h
    ·rename_i bk g hv ha;simp only [hv,ha];exact v8 hcall h hq
    ·cases h
   ·rename_i op hop;simp only [hop];split at h
    ·rename_i v K hv ha;simp only [hv,ha];exact⟨trivial,v8 hcall h hq⟩
    ·cases h
   ·rename_i f args hop;simp only [hop];split at h
    ·rename_i v K hv ha;refine (hcall hv).toP.mono (fun w K' e=>?_) fun _ e=>e;obtain⟨rfl,rfl⟩:=e;rw [ha];exact⟨trivial,v8 hcall h hq⟩
    ·cases h
   ·cases h
theorem Ml(hm:P.follows .mixedOrders=true)(htb:∀f sf,tb f=some sf->yr P G f=some sf):∀(fuel:Nat) {n:Nat} {s:SC} {F F':T V} {H H':Hp} {e:Exit} {Q:Exit->T V->Hp->Prop},KF tb fuel s F H=some (e,F',H')->Q e F' H'->Pz P G n s Q F H:=by
 intro fuel;induction fuel using Nat.strongRecOn with
 |_ fuel ih=>
  intro n s F F' H H' e Q h hq;cases fuel with
  |zero=>cases h
  |succ fuel=>
   have hcall:∀{f args H v H'},X6 tb (KF tb fuel) f args H=some (v,H')->xc P G f args H fun w K=>w=v/\K=H':=by
    intro f args H v H' h;unfold X6 at h;split at h
    ·cases h
    ·rename_i sf hsf;split at h
     ·rename_i F2 H2 hb h2;refine aH (htb f sf hsf) (jP hb) (ih fuel (by omega) h2 ?_);split at h
      ·rename_i v2 hv;obtain⟨rfl,rfl⟩:=Prod.mk.inj (zsi h);simp [Z6,hv]
      ·cases h
     ·cases h
   replace h:JS (X6 tb (KF tb fuel)) (KF tb fuel) s F H=some (e,F',H'):=h;unfold JS at h;split at h
   ·obtain⟨rfl,h2⟩:=Prod.mk.inj (zsi h);obtain⟨rfl,rfl⟩:=Prod.mk.inj h2;exact s5 hq
   ·split at h
    ·rename_i h1;obtain⟨rfl,h2⟩:=Prod.mk.inj (zsi h);obtain⟨rfl,rfl⟩:=Prod.mk.inj h2;exact D3 hm (v8 hcall h1 hq)
    ·cases h
   ·refine DZ ?_;split at h
    ·rename_i h1;exact ih fuel (by omega) h1 (ih fuel (by omega) h hq)
    ·rename_i hne;refine ih fuel (by omega) h ?_;cases e with
     |normal=>exact (hne _ _ h).elim
     |_=>exact hq
   ·split at h
    ·rename_i ht;exact s8 ht (ih fuel (by omega) h hq)
    ·cases h
   ·refine n3 ?_;split at h
    ·rename_i h1;refine ih fuel (by omega) h1 ?_;show if _ then _ else _
     split at h
     ·rename_i hid;obtain⟨rfl,h2⟩:=Prod.mk.inj (zsi h);obtain⟨rfl,rfl⟩:=Prod.mk.inj h2;rw [if_pos hid];exact hq
     ·rename_i hid;obtain⟨rfl,h2⟩:=Prod.mk.inj (zsi h);obtain⟨rfl,rfl⟩:=Prod.mk.inj h2;rw [if_neg hid];exact hq
    ·rename_i hne;refine ih fuel (by omega) h ?_;cases e with
     |exit id=>exact (hne _ _ _ h).elim
     |_=>exact hq
   ·rename_i a;refine s6 (fun m F1 H1=>m<=fuel+1/\KF tb m (.loop a) F1 H1=some (e,F',H')) (m:=fuel+1) ⟨qz _,?_⟩ ?_
    ·show JS (X6 tb (KF tb fuel)) (KF tb fuel) (.loop a) F H=_
     exact h
    ·rintro m F1 H1 ⟨hle,hev⟩;cases m with
     |zero=>cases hev
     |succ m=>
      replace hev:JS (X6 tb (KF tb m)) (KF tb m) (.loop a) F1 H1=some (e,F',H'):=hev;simp only [JS] at hev;split at hev
      ·rename_i h1;exact ih m (by omega) h1 ⟨m,by omega,by omega,hev⟩
      ·rename_i hne;refine ih m (by omega) hev ?_;cases e with
       |normal=>exact (hne _ _ hev).elim
       |_=>exact hq
   ·obtain⟨rfl,h2⟩:=Prod.mk.inj (zsi h);obtain⟨rfl,rfl⟩:=Prod.mk.inj h2;exact s7 hq
   ·obtain⟨rfl,h2⟩:=Prod.mk.inj (zsi h);obtain⟨rfl,rfl⟩:=Prod.mk.inj h2;exact D0 hq
   ·cases h
def Wc(tb:Nat->Option SFn)(fuel:Nat)(f:FuncId)(args:List V)(H:Hp):Option V:=match X6 tb (KF tb fuel) f args H with
 |some (v,_)=>some v
 |none=>none
theorem O0(hm:P.follows .mixedOrders=true)(htb:∀f sf,tb f=some sf->yr P G f=some sf){fuel:Nat}{f:FuncId}{args:List V}{H:Hp}{v:V}(h:Wc tb fuel f args H=some v):xc P G f args H fun v' _=>v'=v:=by
 unfold Wc X6 at h;split at h
 ·rename_i w K h1;split at h1
  ·cases h1
  ·rename_i sf hsf;split at h1
   ·rename_i F2 H2 hb h2;refine aH (htb f sf hsf) (jP hb) (Ml hm htb fuel h2 ?_);split at h1
    ·rename_i v2 hv;obtain⟨rfl,rfl⟩:=Prod.mk.inj (zsi h1);simp only [Z6,hv];exact zsi h
    ·cases h1
   ·cases h1
 ·cases h
end
end Go.Ab
