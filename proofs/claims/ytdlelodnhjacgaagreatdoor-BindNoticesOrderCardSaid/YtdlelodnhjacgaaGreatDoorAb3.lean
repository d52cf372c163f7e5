/- -/
import Derived.Test.YtdlelodnhjacgaaGreatDoorAb2
import Derived.Laws.Append
set_option linter.unusedSimpArgs false
set_option linter.unusedVariables false
set_option maxRecDepth 8000
namespace Go.Ab
inductive EffOp where
 |store (n:Nat) (a x:Opd)
 |append (esz bytes:Nat) (s x:Opd)
 |copy (esz:Nat) (d s:Opd)
 |mapupd (m k x:Opd)
 |clear (esz:Nat) (z:List C) (x:Opd)
 |appendz (esz bytes:Nat) (z:List C) (s n:Opd)
 |sbytes (x:Opd)
 |stupd (m k x:Opd)
 |rng (m:Opd)
 |ent (x:Opd)
 |stlook (z:V) (ok:Bool) (m k:Opd)
 |stlen (m:Opd)
 |stdel (m k:Opd)
 /-- bytes appended,the row's type kept;a row of whatever bytes;a string that shares a row -/
 |appendb (t:TypeId) (s x:Opd)
 |mnz (t:TypeId) (x:Opd)
 |ustr (t:TypeId) (p n:Opd)
 |smapupd (m k x:Opd)
def zU(H:Hp)(esz:Nat):V->Option (Nat × List C)
 |.one .nils=>some (0,[])
 |.one (.slc b o len _ e _)=>if e=esz then (H.loads b o (len*esz)).map fun l=>(len,l) else none
 |.one (.str s)=>if esz=1 then some (s.size,s.data.toList.map fun b=>.int .u8 b.toNat) else none
 |_=>none
def Hp.mutRow(H:Hp)(b:Nat):Bool:=
 match H.get b with
 |some (.row _ _ _ rw)=>rw
 |_=>false
def yx(H:Hp)(esz bytes:Nat)(s:V)(m:Nat)(news:List C):Option (V × Hp):=
 match s with
 |.one .nils=>
  if m=0 then some (.one .nils,H)
  else if m*bytes<=140737488355328/\m<4611686018427387904 then some (.one (.slc H.nx 0 m m esz false),H.push (.row news.length news .lf true)) else none
 |.one (.slc b o len cap e ex)=>
  if e≠esz then none
  else if len+m<=cap then (H.stores b (o+len*esz) news).map fun H'=>(.one (.slc b o (len+m) cap esz ex),H')
  else if (len+m)*bytes<=140737488355328/\len+m<4611686018427387904 then
   match H.loads b o (len*esz) with
   |none=>none
   |some olds=>
    if ex then some (.one (.slc H.nx 0 (len+m) (len+m) esz false),H.push (.row (olds++news).length (olds++news) .lf true))
    else if H.mutRow b then some (.one (.slc H.nx 0 (len+m) (len+m) esz false),(H.push (.row (olds++news).length (olds++news) .lf true)).del b)
    else none
  else none
 |_=>none
def vh(t:TypeId)(H:Hp)(s:V)(m:Nat)(news:List C):Option (V × Hp):=
 match s with
 |.one .nils=>
  if m=0 then some (.one .nils,H)
  else if m*1<=140737488355328/\m<4611686018427387904 then some (.one (.slc H.nx 0 m m 1 false),H.push (.tr t news)) else none
 |.one (.slc b o len cap e ex)=>
  if e≠1 then none
  else if len+m<=cap then (H.stores b (o+len*1) news).map fun H'=>(.one (.slc b o (len+m) cap 1 ex),H')
  else if (len+m)*1<=140737488355328/\len+m<4611686018427387904 then
   match H.loads b o (len*1) with
   |none=>none
   |some olds=>
    if ex then some (.one (.slc H.nx 0 (len+m) (len+m) 1 false),H.push (.tr t (olds++news)))
    else match H.get b with
     |some (.tr t' _)=>if t'=t/\o=0 then some (.one (.slc H.nx 0 (len+m) (len+m) 1 false),(H.push (.tr t (olds++news))).del b) else none
     |_=>none
  else none
 |_=>none
def HQ(es:List (V × V))(i:Nat)(v:V):List (V × V):=es.modify i fun e=>(e.1,v)
def Y8:V->Bool
 |.tup _=>false
 |_=>true
def S3:List C->V->Option Bool
 |[.int k a,.int k' b],.agg [.int j c,.int j' d]=>if k=j/\k'=j' then some (a==c&&b==d) else none
 |_,_=>none
def fZ:List C->Bool
 |[.int _ _,.int _ _]=>true
 |_=>false
def WD(l:List C):List (V × V × Nat)->Nat->Option (Option Nat)
 |[],_=>some none
 |e::es,i=>match S3 l e.1 with
  |some true=>some (some i)
  |some false=>WD l es (i+1)
  |none=>none
def G2(es:List (V × V × Nat))(i:Nat)(v:V):List (V × V × Nat):=es.modify i fun e=>(e.1,v,e.2.2)
def xe(F:T V)(H:Hp):EffOp->Option (V × Hp)
 |.store n a x=>match a.ev F,wP (x.ev F) with
  |.one (.ptr b o),some cs=>if cs.length=n then (H.stores b o cs).map fun H'=>(V.undef,H') else none
  |_,_=>none
 |.append esz bytes s x=>match zU H esz (x.ev F) with
  |some (m,news)=>yx H esz bytes (s.ev F) m news
  |none=>none
 |.copy esz d s=>match d.ev F,zU H esz (s.ev F) with
  |.one .nils,some _=>some (.one (.int .i64 0),H)
  |.one (.slc b o len _ e _),some (m,cs)=>
   if e=esz then (H.stores b o (cs.take (min m len*esz))).map fun H'=>(.one (.int .i64 (min m len:Nat)),H') else none
  |_,_=>none
 |.mapupd m k x=>match m.ev F with
  |.one (.map b)=>match H.get b with
   |some (.mp es)=>
    if XA (k.ev F)&&Y8 (x.ev F) then
     match V9 (k.ev F) es 0 with
     |some none=>some (V.undef,H.add b (.mp (es++[(k.ev F,x.ev F)])))
     |some (some (i,_))=>some (V.undef,H.add b (.mp (HQ es i (x.ev F))))
     |none=>none
    else none
   |_=>none
  |_=>none
 |.clear esz z x=>match x.ev F with
  |.one .nils=>some (V.undef,H)
  |.one (.slc b o len _ e _)=>if e=esz then (H.stores b o (jy z (len*esz))).map fun H'=>(V.undef,H') else none
  |_=>none
 |.appendz esz bytes z s n=>match n.ev F with
  |.one (.int _ k)=>if 0<=k/\k.toNat*bytes<=140737488355328/\k.toNat<4611686018427387904 then yx H esz bytes (s.ev F) k.toNat (jy z (k.toNat*esz)) else none
  |_=>none
 |.sbytes x=>match x.ev F with
  |.one (.str s)=>some (.one (.slc H.nx 0 s.size s.size 1 false),H.push (.row s.size (s.data.toList.map fun b=>.int .u8 b.toNat) .lf false))
  |_=>none
 |.stupd m k x=>match m.ev F,k.ev F,x.ev F with
  |.one (.map b),.agg l,.one c=>match H.get b with
   |some (.st es clk)=>match fZ l,WD l es 0 with
    |true,some none=>some (V.undef,H.add b (.st (es++[(.agg l,.one c,clk)]) (clk+1)))
    |true,some (some i)=>some (V.undef,H.add b (.st (G2 es i (.one c)) clk))
    |_,_=>none
   |_=>none
  |_,_,_=>none
 |.rng m=>match m.ev F with
  |.one (.map b)=>match H.get b with
   |some (.st _ clk)=>some (.one (.ptr H.nx 0),H.push (.it b clk [] clk))
   |_=>none
  |_=>none
 |.ent x=>match x.ev F with
  |.one (.ptr b 0)=>match H.get b with
   |some (.it mb _ seen last)=>match H.get mb,seen.getLast? with
    |some (.st es clk),some s=>if clk=last then match es.find? (fun e=>e.2.2==s) with
     |some e=>some (.tup [e.1,e.2.1],H)
     |none=>none
     else none
    |_,_=>none
   |_=>none
  |_=>none
 |.stlook z ok m k=>match m.ev F,k.ev F with
  |.one (.map b),.agg l=>match H.get b with
   |some (.st es _)=>match fZ l,WD l es 0 with
    |true,some none=>some (wz ok z false,H)
    |true,some (some i)=>match es[i]? with
     |some e=>some (wz ok e.2.1 true,H)
     |none=>none
    |_,_=>none
   |_=>none
  |_,_=>none
 |.stlen m=>match m.ev F with
  |.one (.map b)=>match H.get b with
   |some (.st es _)=>some (.one (.int .i64 es.length),H)
   |_=>none
  |_=>none
 |.stdel m k=>match m.ev F,k.ev F with
  |.one (.map b),.agg l=>match H.get b with
   |some (.st es clk)=>match fZ l,WD l es 0 with
    |true,some none=>some (V.undef,H.add b (.st es clk))
    |true,some (some i)=>some (V.undef,H.add b (.st (es.eraseIdx i) clk))
    |_,_=>none
   |_=>none
  |_,_=>none
 |.appendb t s x=>match zU H 1 (x.ev F) with
  |some (m,news)=>vh t H (s.ev F) m news
  |none=>none
 |.mnz t x=>match x.ev F with
  |.one (.int .i64 n)=>if 0<=n/\n<=140737488355328 then some (.one (.slc H.nx 0 n.toNat n.toNat 1 false),H.push (.tr t (List.replicate n.toNat .anyi))) else none
  |_=>none
 |.ustr t p n=>match p.ev F,n.ev F with
  |.one .nilp,.one (.int .i64 0)=>some (.one (.str ByteArray.empty),H)
  |.one (.ptr b 0),.one (.int .i64 n)=>match H.get b with
   |some (.tr t' l)=>if t'=t/\0<n/\n<=140737488355328 then match H.loads b 0 n.toNat with
    |some cs=>match vN cs with
     |some l=>some (.one (.str ⟨l.toArray⟩),H.del b)
     |none=>none
    |none=>none
    else none
   |_=>none
  |_,_=>none
 |.smapupd m k x=>match m.ev F,k.ev F with
  |.one (.map b),.one (.str s)=>match H.get b with
   |some (.mp es)=>if Y8 (x.ev F) then match JR s.data.toList es 0 with
    |some none=>some (V.undef,H.add b (.mp (es++[(.one (.str s),x.ev F)])))
    |_=>none
    else none
   |_=>none
  |_,_=>none
def Wi(P:Program)(G n:Nat)(o:Oper):Option EffOp:=
 match o.op with
 |.store t x y=>match ya P t,cO G n x,cO G n y with
  |some s,some a,some b=>some (.store s a b)
  |_,_,_=>none
 |.mapUpdate t m k x=>match P.underlying t,cO G n m,cO G n k,cO G n x with
  |some (.map kt _),some m,some k,some x=>match P.underlying kt with
   |some (.int _)=>some (.mapupd m k x)
   |_=>match Yh P kt with
    |true=>some (.stupd m k x)
    |false=>none
  |_,_,_,_=>none
 |.call { callee:=.builtin .append,args:=args,argTypes:=ts }=>
  match args.toList,ts.toList with
  |[s,x],[t,t']=>match P.underlying t,P.underlying t',cO G n s,cO G n x with
   |some (.slice e),some (.slice _),some s,some x=>match P.info? e,vi P e with
    |some i,some z=>if z.length=i.size/\0<i.size then some (.append i.size i.bytes s x) else none
    |_,_=>none
   |some (.slice e),some (.int _),some s,some x=>match P.info? e,vi P e with
    |some i,some z=>if z.length=i.size/\0<i.size then some (.appendz i.size i.bytes z s x) else none
    |_,_=>none
   |_,_,_,_=>none
  |_,_=>none
 |.call { callee:=.builtin .copy,args:=args,argTypes:=ts }=>
  match args.toList,ts.toList with
  |[s,x],t::_=>match P.underlying t,cO G n s,cO G n x with
   |some (.slice e),some s,some x=>(ya P e).map fun k=>.copy k s x
   |_,_,_=>none
  |_,_=>none
 |.call { callee:=.builtin .clear,args:=args,argTypes:=ts }=>
  match args.toList,ts.toList with
  |[x],[t]=>match P.underlying t,cO G n x with
   |some (.slice e),some x=>match ya P e,vi P e with
    |some k,some z=>if z.length=k/\0<k then some (.clear k z x) else none
    |_,_=>none
   |_,_=>none
  |_,_=>none
 |.convert src dst x=>match P.underlying src,P.underlying dst,cO G n x with
  |some .string,some (.slice e),some d=>match P.underlying e with
   |some (.int .u8)=>some (.sbytes d)
   |_=>none
  |_,_,_=>none
 |.range t x=>match P.underlying t,cO G n x with
  |some (.map _ _),some m=>some (.rng m)
  |_,_=>none
 |.entry x=>(cO G n x).map .ent
 |.lookup t x i ok=>match P.underlying t,cO G n x,cO G n i with
  |some (.map kt e),some m,some k=>match Yh P kt,P.info? e with
   |true,some ie=>match ie.zero with
    |some z=>(cV z).map fun z=>.stlook z ok m k
    |none=>none
   |_,_=>none
  |_,_,_=>none
 |.call { callee:=.builtin .len,args:=args,argTypes:=ts }=>
  match args.toList,ts[0]? with
  |[x],some t=>match P.underlying t with
   |some (.map kt _)=>match Yh P kt with
    |true=>(cO G n x).map .stlen
    |false=>none
   |_=>none
  |_,_=>none
 |.call { callee:=.builtin .delete,args:=args,argTypes:=ts }=>
  match args.toList,ts[0]? with
  |[x,y],some t=>match P.underlying t,cO G n x,cO G n y with
   |some (.map kt _),some m,some k=>match Yh P kt with
    |true=>some (.stdel m k)
    |false=>none
   |_,_,_=>none
  |_,_=>none
 |_=>none
def XB(P:Program)(e:TypeId):Bool:=match P.info? e with
 |some i=>(match i.desc with
  |.int .u8=>true
  |_=>false)&&P.cellsOf e==1&&i.size==1&&i.bytes==1&&(match vi P e with
  |some z=>z.length==1
  |none=>false)
 |none=>false
def Wh(P:Program)(G n:Nat)(o:Oper):Option EffOp:=
 match o.op with
 |.call { callee:=.builtin .append,args:=args,argTypes:=ts }=>
  match args.toList,ts.toList with
  |[s,x],[t,t']=>match P.underlying t,P.underlying t',cO G n s,cO G n x with
   |some (.slice e),some (.slice _),some s,some x=>if XB P e then some (.appendb e s x) else none
   |some (.slice e),some .string,some s,some x=>if XB P e then some (.appendb e s x) else none
   |_,_,_,_=>none
  |_,_=>none
 |.call { callee:=.value (.func f),args:=args,argTypes:=_ }=>match args.toList,P.funcs[f]? with
  |[x],some fn=>if aE P f "internal/bytealg.MakeNoZero" then match fn.resultTypes.toList,cO G n x with
   |[t],some d=>match P.underlying t with
    |some (.slice e)=>if XB P e then some (.mnz e d) else none
    |_=>none
   |_,_=>none
   else none
  |_,_=>none
 |.call { callee:=.builtin .unsafeString,args:=args,argTypes:=ts }=>
  match args.toList,ts.toList with
  |[x,y],t::_::[]=>match P.underlying t,cO G n x,cO G n y with
   |some (.pointer e),some p,some q=>if XB P e then some (.ustr e p q) else none
   |_,_,_=>none
  |_,_=>none
 |.mapUpdate t m k x=>match P.underlying t,cO G n m,cO G n k,cO G n x with
  |some (.map kt _),some m,some k,some x=>match P.underlying kt with
   |some .string=>some (.smapupd m k x)
   |_=>none
  |_,_,_,_=>none
 |.insert t m k x=>match P.underlying t,cO G n m,cO G n k,cO G n x with
  |some (.map kt _),some m,some k,some x=>match P.underlying kt with
   |some .string=>some (.smapupd m k x)
   |_=>none
  |_,_,_,_=>none
 |_=>none
def Kh(P:Program)(G n:Nat)(o:Oper):Option EffOp:=
 match Wh P G n o with
 |some p=>some p
 |none=>Wi P G n o
section
variable{P:Program}{G n:Nat}{μ:Nat->Pl}{K:Nat->Prop}{H H':Hp}{w:World}{F:T V}{a:Act}
theorem Hp.mutRow_inv{b:Nat}(h:H.mutRow b=true):∃n z m,H.get b=some (.row n z m true):=by
 unfold Hp.mutRow at h;split at h
 ·rename_i n z m rw hg;subst h;exact⟨n,z,m,hg⟩
 ·cases h
theorem WA{g:Nat}{t:TypeId}:∀{xs:List Value} {w:World} {cs:Array Value} {q i:Nat},w.heap[g]?=some (.cells cs t (0,0))->(∀x∈xs,oneC x=true)->q+i+xs.length<=cs.size->
 ∃w' cs',(storeCells ⟨g,q,none⟩ xs i).run P w=.ok () w'/\w'.heap[g]?=some (.cells cs' t (0,0))/\cs'.size=cs.size/\(∀j,cs'[j]?=if q+i<=j/\j<q+i+xs.length then xs[j-(q+i)]? else cs[j]?)/\
  (∀j,j≠g->w'.heap[j]?=w.heap[j]?)/\w'.heap.size=w.heap.size/\w'.os=w.os/\w'.tape=w.tape/\w'.output=w.output/\w.drawn<=w'.drawn
 |[],w,cs,q,i,hg,_,_=>⟨w,cs,by simp [storeCells],hg,rfl,fun j=>by rw [if_neg (by simp)],fun _ _=>rfl,rfl,rfl,rfl,rfl,qz _⟩
 |x::xs,w,cs,q,i,hg,h1,hl=>by
  simp only [xA] at hl;have hadd:(⟨g,q,none⟩:Addr).add i=⟨g,q+i,none⟩:=by unfold Addr.add;split<;>simp_all
  have hc:∃y,w.cell? ⟨g,q+i,none⟩=some y:=⟨cs[q+i]'(by omega),by simp [World.cell?,hg]⟩;have hf:w.frozen? ⟨g,q+i,none⟩=false:=by simp [World.frozen?,hg]
  have hh:=cX w ⟨g,q+i,none⟩ x (cs:=cs) (t:=t) (fz:=(0,0)) hg rfl;obtain⟨w',cs',hrun,hg',hsz,hat,hoth,hs,ho,ht,hou⟩:=WA (g:=g) (t:=t) (xs:=xs) (w:=w.setCell ⟨g,q+i,none⟩ x) (cs:=cs.setIfInBounds (q+i) x) (q:=q) (i:=i+1)
   (by rw [hh];simp) (fun y hy=>h1 y (by simp [hy])) (by simp;omega)
  refine⟨w',cs',?_,hg',by simpa using hsz,fun j=>?_,fun j hj=>by rw [hoth j hj,hh,if_neg hj],by simpa [World.setCell] using hs,ho,ht,hou⟩
  ·simp only [storeCells,bind,hadd];exact (KX (h1 x (by simp)) hc hf).trans hrun
  ·rw [hat j];by_cases e:j=q+i
   ·subst e;rw [if_neg (by omega),if_pos (by simp)];rw [XZ];simp;omega
   ·by_cases e2:q+(i+1)<=j/\j<q+(i+1)+xs.length
    ·rw [if_pos e2,if_pos (by simp;omega),show j-(q+i)=(j-(q+(i+1)))+1 by omega];simp
    ·rw [if_neg e2,if_neg (by simp;omega),XZ,if_neg (by omega)]
theorem qe.oneC{l:List C}{xs:List Value}(h:qe (RC μ K) l xs):∀x∈xs,oneC x=true:=by
 intro x hx;obtain⟨i,hi⟩:=List.mem_iff_getElem?.1 hx;obtain⟨c,_,hr⟩:=h.at' i x hi;exact hr.oneCell
theorem Zi{ad:Addr}:∀{xs:List Value} {i:Nat} {acc:Array Value},(∀j x,xs[j]?=some x->w.cell? (ad.add (i+j))=some x)->(loadCellsFrom ad i xs.length acc).run P w=.ok (acc++xs.toArray) w
 |[],i,acc,_=>by simp [loadCellsFrom]
 |x::xs,i,acc,h=>by
  have h0:w.cell? (ad.add i)=some x:=h 0 x rfl;have ih:=Zi (ad:=ad) (xs:=xs) (i:=i+1) (acc:=acc.push x) fun j y hy=>by
   rw [show i+1+j=i+(j+1) by omega];exact h (j+1) y (by simpa using hy)
  simp only [xA,loadCellsFrom,Sem.run_bind,run_load,h0,Result.andThen_ok];rw [ih];simp
theorem Rel.cells(hR:Rel G μ K H w):∀{m b o:Nat} {l:List C},H.loads b o m=some l->∃xs:List Value,qe (RC μ K) l xs/\∀j x,xs[j]?=some x->w.cell? ((μ b).addr (o+j))=some x
 |0,b,o,l,h=>by simp [Hp.loads] at h;subst h;exact⟨[],trivial,by simp⟩
 |m+1,b,o,l,h=>by
  simp only [Hp.loads] at h;split at h
  ·cases h
  ·rename_i c hc;split at h
   ·cases h
   ·rename_i l' hl';obtain rfl:=zsi h;obtain⟨x,hx,hr⟩:=hR.cell hc;obtain⟨xs,ha,hxs⟩:=Rel.cells hR hl';refine⟨x::xs,⟨hr,ha⟩,fun j y hy=>?_⟩;cases j with
    |zero=>simp at hy;subst hy;exact hx
    |succ j=>rw [show o+(j+1)=o+1+j by omega];exact hxs j y (by simpa using hy)
theorem zW:∀{m b o:Nat} {l:List C},H.loads b o m=some l->l.length=m
 |0,b,o,l,h=>by simp [Hp.loads] at h;rw [h];rfl
 |m+1,b,o,l,h=>by
  simp only [Hp.loads] at h;split at h
  ·cases h
  ·split at h
   ·cases h
   ·rename_i l' hl';obtain rfl:=zsi h;simp [zW hl']
theorem eY(hR:Rel G μ K H w){esz m:Nat}{v:V}{x:Value}{l:List C}(hv:RV μ K v x)(h:zU H esz v=some (m,l)):
 (Builtin.lenOf x).run P w=.ok m w/\l.length=m*esz/\∃xs:List Value,qe (RC μ K) l xs/\∀k,k<=m->∀d,(Builtin.firstCells esz k x).run P { w with drawn:=d }=.ok (xs.take (k*esz)).toArray { w with drawn:=d }:=by
 cases v with
 |one c=>
  cases c<;>simp only [zU] at h<;>try (cases h;done)
  case slc b o len cap e ex=>
   split at h
   ·rename_i he;subst he;simp only [zom,zpi] at h;obtain⟨l',hl,rfl,rfl⟩:=h;obtain⟨hb,ad,c,hx,h1,h2,h3,h4⟩:RC μ K (.slc b o len cap e ex) x:=hv;have hlen:=zW hl;refine⟨by simp [Builtin.lenOf,hx],hlen,?_⟩;obtain⟨xs,ha,hr⟩:=hR.cells hl;refine⟨xs,ha,fun k hk d=>?_⟩;by_cases hk0:k=0
    ·subst hk0;simp [Builtin.firstCells,hx,loadCells,loadCellsFrom]
    ·rcases h4 with h4|⟨rfl,_⟩
     ·omega
     ·have hxl:(xs.take (k*e)).length=k*e:=by
       have:=ha.len;have:k*e<=len*e:=X1 _ hk;simp;omega
      have:=Zi (P:=P) (w:={ w with drawn:=d }) (ad:=(μ b).addr o) (xs:=xs.take (k*e)) (i:=0) (acc:=#[]) fun j y hy=>by
       rw [yh,ym];refine hr j y ?_;rw [Kw] at hy;split at hy
       ·exact hy
       ·cases hy
      rw [hxl] at this;simp only [Builtin.firstCells,hx,loadCells];rw [this];simp
   ·cases h
  case str s=>
   split at h
   ·rename_i he;subst he;simp only [zoi,zpi] at h;obtain⟨rfl,rfl⟩:=h;have hx:x=.string s:=hv;subst hx;refine⟨by simp [Builtin.lenOf],by simp,s.data.toList.map fun b=>.int .u8 b.toNat,?_,fun k hk d=>?_⟩
    ·refine qe.mk (by simp) fun j c y hc hy=>?_;simp only [jH,zom] at hc hy;obtain⟨b,hb,rfl⟩:=hc;obtain⟨b',hb',rfl⟩:=hy;rw [hb] at hb';obtain rfl:=zsi hb';rfl
    ·have hk':k<=s.data.size:=hk;simp only [Builtin.firstCells,Sem.run_pure];congr 1;apply Array.ext';simp [ByteArray.extract,ByteArray.copySlice,List.map_take]
   ·cases h
  case nils=>
   simp only [zoi,zpi] at h;obtain⟨rfl,rfl⟩:=h;have hx:x=.slice none 0 0:=hv;exact⟨by simp [Builtin.lenOf,hx],by simp,[],trivial,fun k hk d=>by simp [Builtin.firstCells,hx]⟩
 |agg l=>simp [zU] at h
 |tup l=>simp [zU] at h
end
section
variable{P:Program}{G n:Nat}{μ:Nat->Pl}{K:Nat->Prop}{H H':Hp}{w:World}{F:T V}{a:Act}
def sH(P:Program)(t:TypeId):Prop:=(∃e,P.underlying t=some (.slice e))\/P.underlying t=some .string
theorem YV {t t' e:TypeId} {ty:TypeId} {i:TypeInfo} (ht:P.underlying t=some (.slice e)) (ht':sH P t') (hi:P.info? e=some i)
 {base:Option Addr} {sl sc m:Nat} {x:Value} {news:Array Value} (hl:(Builtin.lenOf x).run P w=.ok m w) (hn:(Builtin.firstCells i.size m x).run P w=.ok news w) (hfit:sl+m<=sc):
 (Builtin.append_ #[t,t'] ty #[.slice base sl sc,x]).run P w=
  (
   match base with
   |some ad=>((storeCells (ad.add (sl*i.size)) news.toList).run P w).andThen fun _ w'=>.ok (.slice base (sl+m) sc) w'
   |none=>.ok (.slice base (sl+m) sc) w):=by
 rcases ht' with⟨e',ht'⟩|ht'<;>cases base<;>simp [Builtin.append_,run_underlying ht,run_underlying ht',sizeOf,typeInfo,hi,hl,hn,hfit]
theorem ZZ {t t' e:TypeId} {ty:TypeId} {i:TypeInfo} {z:Value} (ht:P.underlying t=some (.slice e)) (ht':sH P t') (hi:P.info? e=some i) (hz:i.zero=some z) (hzs:z.cells.size=i.size)
 {base:Option Addr} {sl sc m:Nat} {x:Value} {olds news:Array Value} (hl:(Builtin.lenOf x).run P w=.ok m w) (hn:∀d,(Builtin.firstCells i.size m x).run P { w with drawn:=d }=.ok news { w with drawn:=d })
 (ho:∀d,(Builtin.firstCells i.size sl (.slice base sl sc)).run P { w with drawn:=d }=.ok olds { w with drawn:=d })
 (hg:sc<sl+m) (hb:(sl+m)*i.bytes<=140737488355328) (h63:sl+m<4611686018427387904):
 ∃nc rest d,w.drawn<=d/\sl+m<=nc/\rest.size=(nc-(sl+m))*i.size/\(Builtin.append_ #[t,t'] ty #[.slice base sl sc,x]).run P w=
  .ok (.slice (some ⟨w.heap.size,0,none⟩) (sl+m) nc) { w with drawn:=d,heap:=w.heap.push (.cells (olds++news++rest) e) }:=by
 have hcap:=growslice_fits hg hb;have hnc:sl+m<=(Question.appendCap (sl+m) sc e).cut (w.tape w.drawn (.appendCap (sl+m) sc e)):=by simp [Question.cut]
 refine⟨_,Builtin.zeroCells z.cells ((Question.appendCap (sl+m) sc e).cut (w.tape w.drawn (.appendCap (sl+m) sc e))-(sl+m)),w.drawn+1,Nat.le_succ _,hnc,by simp [Builtin.zeroCells,hzs],?_⟩;have hmax:¬(((sl+m:Nat):Int)>IntKind.i64.max):=by simp [IntKind.max,IntKind.signed,IntKind.bits];omega
 have hnot:¬(Builtin.nextslicecap (sl+m) sc*i.bytes>2^48):=by omega
 have hnf:¬(sl+m<=sc):=by omega
 have hz':∀d,(zeroValue e).run P { w with drawn:=d }=.ok z { w with drawn:=d }:=by intro d;simp [zeroValue,typeInfo,hi,hz]
 have hmax':¬(((sl:Int)+(m:Int))>IntKind.i64.max):=by simpa using hmax
 rcases ht' with⟨e',ht'⟩|ht'
 all_goals
  simp only [Builtin.append_,List.getElem?_toArray,sR,eJ,Sem.run_bind,run_underlying ht,run_underlying ht',Result.andThen_ok,sizeOf,typeInfo,run_program,hi,Sem.run_pure,yz,if_false,hl,hnf,hnot];simp only [Sem.run_ite,Sem.run_bind,Sem.run_pure,run_program,hi,hmax,false_and,if_false,Result.andThen_ok,hnot,run_choose,Question.forced,yz,run_askRoom,ho,hn,Bool.not_false,if_true,hz',newRow,run_newObj]
end
section
variable{P:Program}{G n:Nat}{μ:Nat->Pl}{K:Nat->Prop}{H H':Hp}{w:World}{F:T V}{a:Act}
theorem Rel.lt'(hR:Rel G μ K H w):∀b bk,H.get b=some bk->b<H.nx:=fun b bk h=>hR.lt b (hR.dom b bk h)
theorem Rel.blk_lt(hR:Rel G μ K H w){b:Nat}{bk:B}(h:H.get b=some bk):(μ b).blk<w.heap.size:=by
 have h:=hR.blk b bk h;rcases bD (μ b).blk w.heap.size with h1|h1
 ·exact h1
 ·rw [LP h1] at h;cases bk with
  |row n z m rw=>obtain⟨_,_,_,h,_⟩:=h;cases h
  |mp es=>obtain⟨_,_,h,_⟩:=h;cases h
  |lp st j f n F ps sg bd=>obtain⟨_,_,h,_⟩:=h;cases h
  |st=>obtain⟨_,_,h,_⟩:=h;cases h
  |it=>obtain⟨_,_,h,_⟩:=h;cases h
  |tr=>obtain⟨_,_,h,_⟩:=h;cases h
theorem Rel.push'(hR:Rel G μ K H w){bk:B}{o:Obj}{sz d:Nat}(hd:w.drawn<=d)(ho:RB μ K ⟨w.heap.size,0,sz⟩ bk (some o)):
 Rel G (fun i=>if i=H.nx then ⟨w.heap.size,0,sz⟩ else μ i) (fun i=>K i\/i=H.nx) (H.push bk) { w with drawn:=d,heap:=w.heap.push o }/\
 Fr μ K H w (fun i=>if i=H.nx then ⟨w.heap.size,0,sz⟩ else μ i) (fun i=>K i\/i=H.nx) (H.push bk) { w with drawn:=d,heap:=w.heap.push o }:=by
 have hb:¬K H.nx:=fun h=>absurd (hR.lt _ h) (by omega);have hR':=hR.drawn d;exact⟨Rel.new' (w:={ w with drawn:=d }) hR' hb (by omega) (by omega) ho,Fr.new' (w:={ w with drawn:=d }) (Fr.drawn hR d hd) hb (qz _) hR.lt' (by omega)⟩
theorem Rel.push(hR:Rel G μ K H w){bk:B}{o:Obj}{sz d:Nat}(hd:w.drawn<=d)(_:bk.mut=true)(ho:RB μ K ⟨w.heap.size,0,sz⟩ bk (some o)):
 Rel G (fun i=>if i=H.nx then ⟨w.heap.size,0,sz⟩ else μ i) (fun i=>K i\/i=H.nx) (H.push bk) { w with drawn:=d,heap:=w.heap.push o }/\
 Fr μ K H w (fun i=>if i=H.nx then ⟨w.heap.size,0,sz⟩ else μ i) (fun i=>K i\/i=H.nx) (H.push bk) { w with drawn:=d,heap:=w.heap.push o }:=Rel.push' hR hd ho
theorem Rel.extend (hR:Rel G μ K H w) {b o nb:Nat} {z:List C} {mm:T C} (hb:H.get b=some (.row nb z mm true)) {w':World} {cs':Array Value} {t:TypeId} {l:List C}
 (hg:w'.heap[(μ b).blk]?=some (.cells cs' t (0,0))) (hsz:cs'.size=(μ b).size) (hoth:∀j,j≠(μ b).blk->w'.heap[j]?=w.heap[j]?) (hs:w'.heap.size=w.heap.size)
 (hsame:w'.os=w.os/\w'.tape=w.tape/\w'.output=w.output/\w.drawn<=w'.drawn) (hin:(μ b).off+o+l.length<=cs'.size) (hl:∀i c,l[i]?=some c->∃x,cs'[(μ b).off+o+i]?=some x/\RC μ K c x):
 Rel G (fun i=>if i=H.nx then ⟨(μ b).blk,(μ b).off+o,(μ b).size⟩ else μ i) (fun i=>K i\/i=H.nx) ((H.push (.row l.length l .lf true)).del b) w'/\
 Fr μ K H w (fun i=>if i=H.nx then ⟨(μ b).blk,(μ b).off+o,(μ b).size⟩ else μ i) (fun i=>K i\/i=H.nx) ((H.push (.row l.length l .lf true)).del b) w':=by
 have hbl:=hR.lt' b _ hb;have hget:∀i,((H.push (.row l.length l .lf true)).del b).get i=if i=b then none else if i=H.nx then some (.row l.length l .lf true) else H.get i:=fun i=>by
  rw [Hp.get_del,Hp.get_push]
 have hmu:∀i,K i->(if i=H.nx then (⟨(μ b).blk,(μ b).off+o,(μ b).size⟩:Pl) else μ i)=μ i:=fun i hi=>by
  have:=hR.lt i hi;rw [if_neg (by omega)]
 have hne:∀i k,i≠b->H.get i=some k->(μ i).blk≠(μ b).blk:=fun i k hi hk he=>hi (hR.inj b i _ _ hb hk rfl he.symm).symm;constructor
 ·refine⟨fun i k hi=>?_,fun i hi=>?_,fun i k hi=>?_,fun i j k1 k2 h1 h2 hm he=>?_,fun g hg'=>?_⟩
  ·rw [hget] at hi;split at hi
   ·cases hi
   ·split at hi
    ·rename_i e;exact .inr e
    ·exact .inl (hR.dom _ _ hi)
  ·simp;rcases hi with hi|rfl
   ·have:=hR.lt i hi;omega
   ·omega
  ·rw [hget] at hi;split at hi
   ·cases hi
   ·rename_i hib;split at hi
    ·rename_i e;subst e;obtain rfl:=zsi hi;simp only [if_true];rw [hg];refine⟨cs',t,(0,0),O,hsz,hin,fun _=>O,fun i c hc=>?_⟩;obtain⟨x,hx,hr⟩:=hl i c (row_cell hc);exact⟨x,hx,hr.mono (fun _ h=>.inl h) hmu⟩
    ·rename_i e;simp only [e,if_false];rw [hoth _ (hne i k hib hi)];exact (hR.blk i k hi).mono (fun _ h=>.inl h) hmu
  ·rw [hget] at h1 h2;split at h1
   ·cases h1
   ·rename_i ib;split at h2
    ·cases h2
    ·rename_i jb;by_cases e1:i=H.nx
     ·by_cases e2:j=H.nx
      ·rw [e1,e2]
      ·rw [if_neg e2] at h2;simp only [e1,e2,if_true,if_false] at he;exact absurd he.symm (hne j k2 jb h2)
     ·by_cases e2:j=H.nx
      ·rw [if_neg e1] at h1;simp only [e1,e2,if_true,if_false] at he;exact absurd he (hne i k1 ib h1)
      ·rw [if_neg e1] at h1;rw [if_neg e2] at h2;simp only [e1,e2,if_false] at he;exact hR.inj i j k1 k2 h1 h2 hm he
  ·obtain⟨h1,h2⟩:=hR.glob g hg';have:=hmu g h1;exact⟨.inl h1,by simp only [this];exact h2⟩
 ·refine⟨hsame,by omega,fun i hi hn=>hoth i (fun e=>hn b _ hb rfl e.symm),fun i k hi hm=>?_,fun i k hi hk=>?_,fun i hi=>hmu i hi,fun i hi=>.inl hi,fun i hi hk=>?_,by simp,fun i hi hn=>?_,fun i k k' hi hk=>?_,fun i k hi hm=>?_⟩
  ·rw [hget] at hi;split at hi
   ·cases hi
   ·split at hi
    ·rename_i e;subst e;exact .inl ⟨b,_,hb,O,by simp⟩
    ·rename_i e;exact .inl ⟨i,k,hi,hm,by simp [e]⟩
  ·rw [hget] at hk;split at hk
   ·cases hk
   ·split at hk
    ·rw [<-zsi hk];exact .inl O
    ·exact absurd (hR.lt' i k hk) (by omega)
  ·rcases hk with hk|rfl
   ·exact hk
   ·omega
  ·rw [hget,hn];rw [if_neg (show¬i=H.nx by omega)];simp
  ·rw [hget] at hk;have:=hR.lt' i k hi;split at hk
   ·cases hk
   ·rw [if_neg (show¬i=H.nx by omega),hi] at hk;rw [zsi hk]
  ·have:=hR.lt' i k hi;rw [hget,if_neg (fun e=>by subst e;rw [hb] at hi;rw [<-zsi hi] at hm;cases hm),if_neg (by omega)];exact hi
theorem bV (hR:Rel G μ K H w) {e:TypeId} {i:TypeInfo}
 {s v:V} {xs:Value} {m:Nat} {nc:List C} (hs:RV μ K s xs) {news:List Value} (hnews:qe (RC μ K) nc news) (hncl:nc.length=m*i.size) {run:Value->Result Value}
 (hfits:∀(base:Option Addr) (sl sc:Nat),sl+m<=sc->run (.slice base sl sc)=
  (
   match base with
   |some ad=>((storeCells (ad.add (sl*i.size)) news).run P w).andThen fun _ w'=>.ok (.slice base (sl+m) sc) w'
   |none=>.ok (.slice base (sl+m) sc) w))
 (hgrows:∀(base:Option Addr) (sl sc:Nat) (olds:Array Value),(∀d,(Builtin.firstCells i.size sl (.slice base sl sc)).run P { w with drawn:=d }=.ok olds { w with drawn:=d })->sc<sl+m->(sl+m)*i.bytes<=140737488355328->sl+m<4611686018427387904->
  ∃nc rest d,w.drawn<=d/\sl+m<=nc/\rest.size=(nc-(sl+m))*i.size/\run (.slice base sl sc)=
   .ok (.slice (some ⟨w.heap.size,0,none⟩) (sl+m) nc) { w with drawn:=d,heap:=w.heap.push (.cells (olds++news.toArray++rest) e) })
 (h:yx H i.size i.bytes s m nc=some (v,H')):
 ∃x w' μ' K',run xs=.ok x w'/\RV μ' K' v x/\Rel G μ' K' H' w'/\Fr μ K H w μ' K' H' w':=by
 have hnl:news.length=m*i.size:=by rw [<-hncl];exact hnews.len.symm
 have fresh:∀(olds:List C) (oldv:List Value) (rest:Array Value) (len cap:Nat),qe (RC μ K) olds oldv->olds.length=len*i.size->len+m<=cap->rest.size=(cap-(len+m))*i.size->∀d,w.drawn<=d->
  ∃μ' K',RV μ' K' (.one (.slc H.nx 0 (len+m) (len+m) i.size false)) (.slice (some ⟨w.heap.size,0,none⟩) (len+m) cap)/\
   Rel G μ' K' (H.push (.row (olds++nc).length (olds++nc) .lf true)) { w with drawn:=d,heap:=w.heap.push (.cells (oldv.toArray++news.toArray++rest) e) }/\
   Fr μ K H w μ' K' (H.push (.row (olds++nc).length (olds++nc) .lf true)) { w with drawn:=d,heap:=w.heap.push (.cells (oldv.toArray++news.toArray++rest) e) }:=by
  intro olds oldv rest len cap ho hol hcap hrest d hdd;have hsize:(oldv.toArray++news.toArray++rest).size=cap*i.size:=by
   have h1:=ho.len;simp only [Array.size_append,List.size_toArray,hrest,hnl,<-h1,hol];rw [<-wW,<-wW];congr 1;omega
  have hrb:RB μ K ⟨w.heap.size,0,cap*i.size⟩ (.row (olds++nc).length (olds++nc) .lf true) (some (.cells (oldv.toArray++news.toArray++rest) e)):=by
   refine⟨_,e,(0,0),O,hsize,?_,fun _=>O,fun j c hc=>?_⟩
   ·rw [hsize];simp only [qE,hol,hncl,<-wW,ym];exact X1 _ hcap
   ·obtain⟨x,hx,hr⟩:=(ho.append hnews).at j c (row_cell hc);refine⟨x,?_,hr⟩;have hj:j<(oldv++news).length:=(zgs hx).1;simp only [ym];rw [Ck (by simpa using hj)];rw [<-hx];simp
  obtain⟨h1,h2⟩:=hR.push (d:=d) hdd rfl hrb;exact⟨_,_,⟨.inr O,_,cap,O,qz _,hcap,by simp,.inr ⟨by simp [Pl.addr],by simp⟩⟩,h1,h2⟩
 cases s with
 |one c=>
  cases c<;>simp only [yx] at h<;>try (cases h;done)
  case slc b o len cap e0 ex=>
   split at h
   ·cases h
   ·rename_i he;obtain rfl:e0=i.size:=by simpa using he
    obtain⟨hb,ad,c,hxs,h1,h2,h3,h4⟩:RC μ K (.slc b o len cap i.size ex) xs:=hs;subst hxs;split at h
    ·rename_i hfit;simp only [zom,zpi] at h;obtain⟨H1,hst,rfl,rfl⟩:=h;have hrun:=hfits (some ad) len c (by omega);rcases h4 with h4|⟨rfl,h5⟩
     ·have hm0:m=0:=by omega
      have hn0:news=[]:=vw (by rw [hnl,hm0];simp);have hc0:nc=[]:=vw (by rw [hncl,hm0];simp);subst hn0 hc0;simp only [Hp.stores,zoi] at hst;subst hst;refine⟨_,w,μ,K,by rw [hrun];simp [storeCells],⟨hb,ad,c,rfl,by omega,h2,h3,.inl h4⟩,hR,Fr.refl hR⟩
     ·obtain⟨w',hrun',hR',hF'⟩:=Rel.stores (P:=P) (o:=o+len*i.size) (i:=0) hR hst hnews;refine⟨_,w',μ,K,?_,⟨hb,_,c,O,hfit,h2,h3,.inr ⟨O,h5⟩⟩,hR',hF'⟩;have hrun2:(storeCells ((μ b).addr (o+len*i.size)) news).run P w=.ok () w':=hrun';rw [hrun];simp only [yh];rw [hrun2];rfl
    ·rename_i hnfit;split at h
     ·rename_i hbound;split at h
      ·cases h
      ·rename_i olds hold;obtain⟨oldv,hov,hcells⟩:=hR.cells hold;have hol:=zW hold;have hovl:oldv.length=len*i.size:=by rw [<-hol];exact hov.len.symm
       have holds:∀d,(Builtin.firstCells i.size len (.slice (some ad) len c)).run P { w with drawn:=d }=.ok oldv.toArray { w with drawn:=d }:=fun d=>by
        by_cases hl0:len=0
        ·subst hl0;have:oldv=[]:=vw (by rw [hovl];simp);subst this;simp [Builtin.firstCells,loadCells,loadCellsFrom]
        ·rcases h4 with h4|⟨rfl,_⟩
         ·omega
         ·have:=Zi (P:=P) (w:={ w with drawn:=d }) (ad:=(μ b).addr o) (xs:=oldv) (i:=0) (acc:=#[]) fun j y hy=>by
           rw [yh,ym];exact hcells j y hy
          rw [hovl] at this;simpa [Builtin.firstCells,loadCells] using this
       have grows:c<len+m->∃x d rest ncap,w.drawn<=d/\len+m<=ncap/\rest.size=(ncap-(len+m))*i.size/\x=Value.slice (some ⟨w.heap.size,0,none⟩) (len+m) ncap/\
        run (.slice (some ad) len c)=.ok x { w with drawn:=d,heap:=w.heap.push (.cells (oldv.toArray++news.toArray++rest) e) }:=by
        intro hgr;obtain⟨ncap,rest,d,g0,g1,g2,g3⟩:=hgrows (some ad) len c _ holds hgr hbound.1 hbound.2;exact⟨_,d,rest,ncap,g0,g1,g2,O,g3⟩
       cases ex with
       |true=>
        simp only [if_true,zoi,zpi] at h;obtain⟨rfl,rfl⟩:=h;obtain⟨x,d,rest,ncap,g0,g1,g2,rfl,g3⟩:=grows (by have:=h3 rfl;omega);obtain⟨μ',K',f1,f2,f3⟩:=fresh olds oldv rest len ncap hov hol g1 g2 d g0;exact⟨_,_,μ',K',g3,f1,f2,f3⟩
       |false=>
        simp only [yz,if_false] at h;split at h
        ·rename_i hmut;simp only [zoi,zpi] at h;obtain⟨rfl,rfl⟩:=h;obtain⟨nb,zb,mb,hgb⟩:=Hp.mutRow_inv hmut;by_cases hroom:len+m<=c
         ·-- in place
          have hrun:=hfits (some ad) len c hroom;rcases h4 with h4|⟨rfl,h5⟩
          ·omega
          ·obtain⟨cs,tt,fz,k1,k2,k3,k4,k5⟩:=hR.blk b _ hgb;obtain rfl:=k4 rfl;have hroom':(len+m)*i.size<=c*i.size:=X1 _ hroom;rw [wW] at hroom';obtain⟨w',cs',q1,q2,q3,q4,q5,q6,q7,q8,q9⟩:=WA (P:=P) (g:=(μ b).blk) (t:=tt) (xs:=news) (w:=w) (cs:=cs) (q:=(μ b).off+(o+len*i.size)) (i:=0) k1 hnews.oneC (by omega);have hext:=hR.extend (o:=o) hgb (w':=w') (cs':=cs') (t:=tt) (l:=olds++nc) q2 (by omega) q5 q6 ⟨q7,q8,q9⟩ (by simp only [qE];omega) (fun j cc hj=>by
            rw [q4];by_cases hjl:j<olds.length
            ·rw [if_neg (by omega)];rw [Qz hjl] at hj;obtain⟨x,hx',hr⟩:=hov.at j cc hj;have hcx:=hcells j x hx';rw [XK k1] at hcx;exact⟨x,by rw [Nat.add_assoc];exact hcx,hr⟩
            ·rw [Q3 (by omega)] at hj;have hjn:j-olds.length<nc.length:=(zgs hj).1;rw [if_pos (by omega)];obtain⟨x,hx',hr⟩:=hnews.at _ cc hj;exact⟨x,by rw [show (μ b).off+o+j-((μ b).off+(o+len*i.size)+0)=j-olds.length by omega];exact hx',hr⟩)
           refine⟨_,w',_,_,?_,⟨.inr O,(μ b).addr o,c,O,qz _,hroom,by simp,.inr ⟨by simp [Pl.addr],by simp;exact h5⟩⟩,hext.1,hext.2⟩;rw [hrun];simp only [yh];have:(storeCells ((μ b).addr (o+len*i.size)) news).run P w=.ok () w':=q1;rw [this];rfl
         ·obtain⟨x,d,rest,ncap,g0,g1,g2,rfl,g3⟩:=grows (by omega);obtain⟨μ',K',f1,f2,f3⟩:=fresh olds oldv rest len ncap hov hol g1 g2 d g0;refine⟨_,_,μ',K',g3,f1,f2.sub (fun j k hj=>?_) O,f3.trans hR.lt' (Fr.del f2 b (fun bk hbk=>by
           rw [Hp.get_push,if_neg (by have:=hR.lt' b _ hgb;omega),hgb] at hbk;rw [<-zsi hbk];rfl))⟩
          rw [Hp.get_del] at hj;split at hj
          ·cases hj
          ·exact hj
        ·cases h
     ·cases h
  case nils=>
   have hxs:xs=.slice none 0 0:=hs;subst hxs;split at h
   ·rename_i hm0;simp only [zoi,zpi] at h;obtain⟨rfl,rfl⟩:=h;subst hm0;have hrun:=hfits none 0 0 (by omega);exact⟨_,w,μ,K,hrun,O,hR,Fr.refl hR⟩
   ·rename_i hm0;split at h
    ·rename_i hbound;simp only [zoi,zpi] at h;obtain⟨rfl,rfl⟩:=h;obtain⟨ncap,rest,d,g0,g1,g2,g3⟩:=hgrows none 0 0 #[] (fun d=>by simp [Builtin.firstCells]) (by omega) (by simpa using hbound.1) (by omega);obtain⟨μ',K',f1,f2,f3⟩:=fresh [] [] rest 0 ncap trivial (by simp) g1 g2 d g0;simp only [ym,Kv] at f1 f2 f3;refine⟨_,_,μ',K',g3,?_,f2,f3⟩;simpa using f1
    ·cases h
 |agg l=>simp [yx] at h
 |tup l=>simp [yx] at h
theorem RU (hR:Rel G μ K H w) {t t' e e' ty:TypeId} {i:TypeInfo} {z:Value} (ht:P.underlying t=some (.slice e)) (ht':P.underlying t'=some (.slice e')) (hi:P.info? e=some i) (hz:i.zero=some z) (hzs:z.cells.size=i.size)
 {s v:V} {xs xx:Value} {m:Nat} {nc:List C} (hs:RV μ K s xs) {vx:V} (hx:RV μ K vx xx) (hsrc:zU H i.size vx=some (m,nc)) (h:yx H i.size i.bytes s m nc=some (v,H')):
 ∃x w' μ' K',(Builtin.append_ #[t,t'] ty #[xs,xx]).run P w=.ok x w'/\RV μ' K' v x/\Rel G μ' K' H' w'/\Fr μ K H w μ' K' H' w':=by
 obtain⟨hlen,hncl,news,hnews,hfirst⟩:=eY (P:=P) hR hx hsrc;have hnl:news.length=m*i.size:=by rw [<-hncl];exact hnews.len.symm
 have hfm:∀d,(Builtin.firstCells i.size m xx).run P { w with drawn:=d }=.ok news.toArray { w with drawn:=d }:=fun d=>by
  have:=hfirst m (qz _) d
  rwa [Q9 (by omega)] at this
 have hfm0:(Builtin.firstCells i.size m xx).run P w=.ok news.toArray w:=hfm w.drawn;exact bV (run:=fun xs=>(Builtin.append_ #[t,t'] ty #[xs,xx]).run P w) hR hs hnews hncl (fun base sl sc hfit=>YV (P:=P) (ty:=ty) ht (.inl ⟨_,ht'⟩) hi hlen hfm0 hfit)
  (fun base sl sc olds ho hg hb h63=>ZZ (P:=P) (ty:=ty) ht (.inl ⟨_,ht'⟩) hi hz hzs hlen hfm ho hg hb h63) h
theorem LD (hR:Rel G μ K H w) {t t' e ty:TypeId} {i:TypeInfo} {kk kq:IntKind} {z:Value} (ht:P.underlying t=some (.slice e)) (ht':P.underlying t'=some (.int kk)) (hi:P.info? e=some i) (hz:i.zero=some z) (hzs:z.cells.size=i.size) (hpos:0<i.size)
 {s v:V} {xs:Value} {m:Nat} {zl:List C} (hs:RV μ K s xs) (hzl:qe (RC μ K) zl z.cells.toList) (hm1:m*i.bytes<=140737488355328) (hm2:m<4611686018427387904) (h:yx H i.size i.bytes s m (jy zl (m*i.size))=some (v,H')):
 ∃x w' μ' K',(Builtin.append_ #[t,t'] ty #[xs,.int kq (m:Int)]).run P w=.ok x w'/\RV μ' K' v x/\Rel G μ' K' H' w'/\Fr μ K H w μ' K' H' w':=by
 have hzz:zl.length=i.size:=by rw [hzl.len];simpa using hzs
 have hnews:qe (RC μ K) (jy zl (m*i.size)) (Builtin.zeroCells z.cells m).toList:=by
  rcases Wv hzl (m*i.size) with h|h
  ·simpa [Builtin.zeroCells,hzs] using h
  ·omega
 have hwrap:IntKind.i64.wrap (m:Int)=(m:Int):=Ww (by omega) (by omega);have hz':∀d,(zeroValue e).run P { w with drawn:=d }=.ok z { w with drawn:=d }:=by intro d;simp [zeroValue,typeInfo,hi,hz]
 have hbig:¬((m:Int)*(i.bytes:Int)>2^48):=by
  have h2:(m:Int)*(i.bytes:Int)=((m*i.bytes:Nat):Int):=(L5 _ _).symm;rw [h2];generalize m*i.bytes=q at hm1;omega
 have hbig2:¬(281474976710656<(m:Int)*(i.bytes:Int)):=by omega
 have hneg:¬((m:Int)<0):=by omega
 have hz0:∀w,(zeroValue e).run P w=.ok z w:=fun w=>by simp [zeroValue,typeInfo,hi,hz]
 have hint:∀w,(asInt (.int kq (m:Int))).run P w=.ok (m:Int) w:=fun w=>by simp [asInt,asIntOf]
 have happ:∀d,((if m*i.size=0 then pure #[] else do pure (Builtin.zeroCells (<-zeroValue e).cells m):Sem (Array Value))).run P { w with drawn:=d }=.ok (Builtin.zeroCells z.cells m) { w with drawn:=d }:=fun d=>by
  split
  ·rename_i h0;have:m=0:=by rcases Nat.mul_eq_zero.1 h0 with h|h<;>omega
   subst this;simp [Builtin.zeroCells]
  ·simp only [Sem.run_bind,hz' d,Result.andThen_ok,Sem.run_pure]
 refine bV (P:=P) (e:=e) (run:=fun xs=>(Builtin.append_ #[t,t'] ty #[xs,.int kq (m:Int)]).run P w) hR hs hnews (by simp [jy]) (fun base sl sc hfit=>?_) (fun base sl sc olds ho hg hb h63=>?_) h
 ·by_cases h0:m*i.size=0
  ·have hm0:m=0:=by rcases Nat.mul_eq_zero.1 h0 with h|h<;>omega
   have hzc:Builtin.zeroCells z.cells m=#[]:=by simp [Builtin.zeroCells,hm0]
   cases base<;>simp [Builtin.append_,run_underlying ht,run_underlying ht',sizeOf,typeInfo,hi,hfit,hint,hwrap,hneg,hbig2,hz0,h0,hzc]
  ·cases base<;>simp [Builtin.append_,run_underlying ht,run_underlying ht',sizeOf,typeInfo,hi,hfit,hint,hwrap,hneg,hbig2,hz0,h0]
 ·have hcap:=growslice_fits hg hb;have hnc:sl+m<=(Question.appendCap (sl+m) sc e).cut (w.tape w.drawn (.appendCap (sl+m) sc e)):=by simp [Question.cut]
  refine⟨_,Builtin.zeroCells z.cells ((Question.appendCap (sl+m) sc e).cut (w.tape w.drawn (.appendCap (sl+m) sc e))-(sl+m)),w.drawn+1,Nat.le_succ _,hnc,by simp [Builtin.zeroCells,hzs],?_⟩;have hmax:¬(((sl+m:Nat):Int)>IntKind.i64.max):=by simp [IntKind.max,IntKind.signed,IntKind.bits];omega
  have hnot:¬(Builtin.nextslicecap (sl+m) sc*i.bytes>2^48):=by omega
  have hnf:¬(sl+m<=sc):=by omega
  simp only [Builtin.append_,List.getElem?_toArray,sR,eJ,Sem.run_bind,run_underlying ht,run_underlying ht',Result.andThen_ok,sizeOf,typeInfo,run_program,hi,Sem.run_pure,hint,hwrap,if_true,hneg,if_false,hbig,jW,hnf,hnot];simp only [Sem.run_ite,Sem.run_bind,Sem.run_pure,run_program,hi,hmax,false_and,if_false,Result.andThen_ok,hneg,hbig,hnot,hnf,run_choose,Question.forced,yz,run_askRoom,ho,Bool.not_false,Bool.not_true,if_true,hz',newRow,run_newObj,jW];by_cases h0:m*i.size=0
  ·have hm0:m=0:=by rcases Nat.mul_eq_zero.1 h0 with h|h<;>omega
   have hzc:Builtin.zeroCells z.cells m=#[]:=by simp [Builtin.zeroCells,hm0]
   simp only [h0,if_true,Result.andThen_ok,hz0,hzc]
  ·simp only [h0,if_false,Result.andThen_ok,hz0]
end
end Go.Ab
