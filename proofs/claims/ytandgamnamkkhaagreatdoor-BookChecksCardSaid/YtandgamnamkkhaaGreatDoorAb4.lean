/- -/
import Derived.Test.YtandgamnamkkhaaGreatDoorAb3
set_option linter.unusedSimpArgs false
set_option linter.unusedVariables false
set_option maxRecDepth 8000
namespace Go.Ab
def Xt(P:Program)(t:TypeId):Bool:=match P.underlying t with
 |some (.struct fs)=>match fs.toList with
  |[f,g]=>match P.underlying f.type,P.underlying g.type with
   |some (.int _),some (.int _)=>decide (f.name≠"_")&&(decide (g.name≠"_")&&(f.offset==0&&(g.offset==1&&!P.stoodInHeld t)))
   |_,_=>false
  |_=>false
 |_=>false
def Wq(P:Program)(G n:Nat)(o:Oper):Option LoadOp:=
 match o.op with
 |.load t x=>match Xw P t,zh P t,cO G n x with
  |some g,some s,some d=>some (.load g s d)
  |_,_,_=>none
 |.lookup t x i ok=>match P.underlying t,cO G n x,cO G n i with
  |some (.map kt e),some m,some k=>match P.underlying kt,P.info? e with
   |some (.int _),some ie=>match ie.zero with
    |some z=>(cV z).map fun z=>.lookup z ok m k
    |none=>none
   |_,_=>none
  |_,_,_=>none
 |.call { callee:=.builtin .len,args:=args,argTypes:=ts }=>
  match args.toList,ts[0]? with
  |[x],some t=>match P.underlying t with
   |some (.map kt _)=>match Xt P kt with
    |true=>none
    |false=>(cO G n x).map .mlen
   |_=>none
  |_,_=>none
 |_=>none
def Wp(P:Program)(G n:Nat)(o:Oper):Option LoadOp:=
 match o.op with
 |.convert src dst x=>match P.underlying src,P.underlying dst,cO G n x with
  |some (.slice e),some .string,some d=>match P.underlying e with
   |some (.int .u8)=>some (.bstr d)
   |_=>none
  |some (.pointer t),some .unsafePointer,some d=>match zh P t with
   |some (_+1)=>some (.pcv t (P.cellsOf t) d)
   |_=>none
  |some .unsafePointer,some (.pointer t),some d=>match zh P t with
   |some (_+1)=>some (.pcv t (P.cellsOf t) d)
   |_=>none
  |_,_,_=>none
 |.slice t x lo hi none=>match P.underlying t,cO G n x,jo G n lo,jo G n hi with
  |some (.pointer ar),some d,some lo,some hi=>match P.underlying ar with
   |some (.array len e)=>match zh P e with
    |some s=>some (.aslice len s d lo hi)
    |none=>none
   |_=>none
  |_,_,_,_=>none
 |.lookup t x i ok=>match P.underlying t,cO G n x,cO G n i with
  |some (.map kt e),some m,some k=>match P.underlying kt,P.info? e with
   |some .string,some ie=>match ie.zero with
    |some z=>(cV z).map fun z=>.slookup z ok m k
    |none=>none
   |_,_=>none
  |_,_,_=>none
 |_=>none
def JG(P:Program)(G n:Nat)(o:Oper):Option LoadOp:=
 match Wq P G n o with
 |some p=>some p
 |none=>Wp P G n o
def OD(P:Program)(t:TypeId):Bool:=match P.underlying t with
 |some (.struct fs)=>match fs.toList with
  |f::_=>match P.underlying f.type with
   |some (.pointer e)=>e==t
   |_=>false
  |[]=>false
 |_=>false
def ZO(P:Program)(G n:Nat)(o:Oper):Option AllocOp:=
 match o.op with
 |.alloc e=>match OD P e with
  |true=>(wC P e).map (.alloct e)
  |false=>(wC P e).map .alloc
 |.box _ x=>(cO G n x).map .box
 |.buildSlice t len parts=>match P.underlying t with
  |some (.slice e)=>match zh P e,wC P e with
   |some s,some z=>if z.length=s/\0<s/\len*s<=16777216 then (Qo G n (fun i=>some (i*s,s)) parts.toList).map (.bslice s len z) else none
   |_,_=>none
  |_=>none
 |.makeSlice t l c=>match P.underlying t with
  |some (.slice e)=>match P.info? e,wC P e,cO G n l,cO G n c with
   |some i,some z,some l,some c=>if z.length=i.size/\0<i.size then some (.mkslice i.size i.bytes z l c) else none
   |_,_,_,_=>none
  |_=>none
 |.makeMap t none=>match P.underlying t with
  |some (.map kt _)=>match Xt P kt with
   |true=>some .mkst
   |false=>some .mkmap
  |_=>none
 |_=>none
section
variable{P:Program}{G n:Nat}{μ:Nat->Pl}{K:Nat->Prop}{H:Hp}{w:World}{F:T V}{a:Act}
theorem KT{v:V}(h:jl v=true):∃k m,v=.one (.int k m):=by
 cases v with
 |one c=>cases c<;>simp [jl] at h;exact⟨_,_,rfl⟩
 |agg l=>simp [jl] at h
 |tup l=>simp [jl] at h
theorem Xq{k0 kk:IntKind}{m:Int}:∀{es:List (V × V)} {ces:List MapEntry} {i:Nat} {r:Option (Nat × V)},qe (fun (e:V × V) (x:MapEntry)=>x8 μ K e.1 x.key/\x8 μ K e.2 x.val) es ces->
 vd (.one (.int kk m)) es i=some r->
 (r=none/\Instr.findNow (.int k0) (.int kk m) ces i=some none)\/∃j v x,r=some (j,v)/\Instr.findNow (.int k0) (.int kk m) ces i=some (some (j,x))/\x8 μ K v x/\i<=j/\
  (∃e ce,es[j-i]?=some e/\e.2=v/\ces[j-i]?=some ce/\ce.key=.int kk m/\e.1=.one (.int kk m))
 |[],[],i,r,_,h=>by simp [vd] at h;subst h;exact .inl ⟨rfl,by simp [Instr.findNow]⟩
 |e::es,c::ces,i,r,ha,h=>by
  simp only [vd] at h;cases hk:X2 (.one (.int kk m)) e.1 with
  |none=>simp [hk] at h
  |some b=>
   obtain⟨e1,e2⟩:=e;have hkey:∃q,e1=.one (.int kk q)/\b=(m==q):=by
    cases e1 with
    |one c'=>
     cases c'<;>simp only [X2] at hk<;>try (cases hk;done)
     split at hk
     ·rename_i hkk;subst hkk;exact⟨_,rfl,(zsi hk).symm⟩
     ·cases hk
    |agg l=>simp [X2] at hk
    |tup l=>simp [X2] at hk
   obtain⟨q,rfl,rfl⟩:=hkey;have hck:c.key=.int kk q:=ha.1.1;simp only [Instr.findNow,hck,Instr.sameNow,if_true];cases hb:m==q with
   |true=>
    obtain rfl:m=q:=by simpa using hb
    simp only [hk,hb,zoi] at h;subst h;exact .inr ⟨i,e2,c.val,rfl,rfl,ha.1.2,Nat.le_refl _,⟨_,e2⟩,c,by simp,rfl,by simp,hck,rfl⟩
   |false=>
    simp only [hk,hb] at h;rcases Xq (k0:=k0) ha.2 h with⟨h1,h2⟩|⟨j,v,x,h1,h2,h3,h4,e',ce,h5⟩
    ·exact .inl ⟨h1,h2⟩
    ·refine .inr ⟨j,v,x,h1,h2,h3,by omega,e',ce,?_⟩;rw [show j-i=(j-(i+1))+1 by omega];simpa using h5
 |[],_::_,_,_,ha,_=>ha.elim
 |_::_,[],_,_,ha,_=>ha.elim
theorem wy{e:Bool}{d:Nat}{t:TypeId}{k:IntKind}(h:P.underlying t=some (.int k))(v:Value):(Instr.checkKey e (d+1) t v).run P w=.ok () w:=by
 simp [Instr.checkKey,run_underlying h]
theorem CP(hR:Rel G μ K H w)(hF:xy μ K n F a.tmps){o:Oper}{p:LoadOp}{v:V}(hc:Wq P G n o=some p)(h:qA F H p=some v):
 ∃x,(execOp a.eval o).run P w=.ok (.value x) w/\RV μ K v x:=by
 unfold Wq at hc;split at hc
 case _ t x ho=>
  split at hc
  ·rename_i g s d hg hs hx;obtain rfl:=zsi hc;have hv:=qr hR hF hx;simp only [qA] at h;split at h
   ·rename_i b o' he;rw [he] at hv;obtain⟨hk,hv'⟩:K b/\a.eval x=.pointer (some ((μ b).addr o')):=hv;cases g with
    |true=>
     simp only [if_true,zom] at h;obtain⟨l,hl,rfl⟩:=h;obtain⟨xs,hall,hrun⟩:=hR.loads (P:=P) (n:=s) (b:=b) (o:=o') (i:=0) (acc:=#[]) hl;refine⟨.agg xs.toArray,?_,xs,rfl,hall⟩;simp only [execOp,ho];refine jJ _ ?_;simp [Instr.loadAt,hv',Instr.sureAddr,loadVar,wI hg,xN hs,loadCells,hrun]
    |false=>
     simp only [Bool.false_eq_true,if_false,zom] at h;obtain⟨c,hl,rfl⟩:=h;obtain⟨y,hy,hr⟩:=hR.cell hl;exact⟨y,by simp [execOp,ho,Instr.loadAt,hv',Instr.sureAddr,loadVar,wI hg,hy],hr⟩
   ·cases h
  ·cases hc
 case _ t x i ok ho=>
  split at hc
  ·rename_i kt e m k hu hx hi;split at hc
   ·rename_i k0 ie hk hie;split at hc
    ·rename_i z hz;simp only [zom] at hc;obtain⟨zv,hzv,rfl⟩:=hc;have hv:=qr hR hF hx;have hvi:=qr hR hF hi;simp only [qA] at h;split at h
     case isFalse=>cases h
     rename_i hik;obtain⟨kk,q,hq⟩:=KT hik;rw [hq] at hvi h;have hvi':a.eval i=.int kk q:=hvi;have hzero:(zeroValue e).run P w=.ok z w:=by simp [zeroValue,typeInfo,hie,hz]
     have hz1:x8 μ K zv z:=dC hzv;split at h
     ·rename_i he;obtain rfl:=zsi h;rw [he] at hv;have hv':a.eval x=.map none:=hv;refine⟨if ok then .tuple #[z,.bool false] else z,?_,?_⟩
      ·simp [execOp,ho,Instr.lookup,hv',hvi',run_underlying hu,wy (d:=9999) hk,Instr.findKey,run_underlying hk,Instr.findNow,hzero]
      ·cases ok
       ·simpa [yG] using RV.of1 hz1
       ·exact⟨[z,.bool false],rfl,hz1,rfl,trivial⟩
     ·rename_i b he;rw [he] at hv;obtain⟨hkb,hv'⟩:K b/\a.eval x=.map (some (μ b).blk):=hv;split at h
      ·rename_i es hget;obtain⟨ces,clk,hob,hall⟩:=hR.blk b _ hget;have hobj:(getObj (μ b).blk).run P w=.ok (.map ces clk) w:=by simp [getObj,Sem.run,hob]
       split at h
       ·rename_i hf;obtain rfl:=zsi h;rcases Xq (k0:=k0) hall hf with⟨_,h2⟩|⟨j,v,x,h1,_⟩
        ·refine⟨if ok then .tuple #[z,.bool false] else z,?_,?_⟩
         ·simp [execOp,ho,Instr.lookup,hv',hvi',run_underlying hu,hobj,wy (d:=9999) hk,Instr.findKey,run_underlying hk,h2,hzero]
         ·cases ok
          ·simpa [yG] using RV.of1 hz1
          ·exact⟨[z,.bool false],rfl,hz1,rfl,trivial⟩
        ·cases h1
       ·rename_i jj vv hf;obtain rfl:=zsi h;rcases Xq (k0:=k0) hall hf with⟨h1,_⟩|⟨j,v,y,h1,h2,h3,_⟩
        ·cases h1
        ·obtain⟨rfl,rfl⟩:jj=j/\vv=v:=by simpa using h1
         refine⟨if ok then .tuple #[y,.bool true] else y,?_,?_⟩
         ·simp [execOp,ho,Instr.lookup,hv',hvi',run_underlying hu,hobj,wy (d:=9999) hk,Instr.findKey,run_underlying hk,h2]
         ·cases ok
          ·simpa [yG] using RV.of1 h3
          ·exact⟨[y,.bool true],rfl,h3,rfl,trivial⟩
       ·cases h
      ·cases h
     ·cases h
    ·cases hc
   ·cases hc
  ·cases hc
 case _ args ts ho=>
  split at hc
  ·rename_i x t hargs hts;have hargs':args=#[x]:=by cases args;simp_all
   subst hargs';have hts':ts[0]?=some t:=hts;split at hc
   ·rename_i kt e hu;split at hc
    ·cases hc
    simp only [zom] at hc;obtain⟨d,hd,rfl⟩:=hc;have hv:=qr hR hF hd;simp only [qA] at h;split at h
    ·rename_i he;obtain rfl:=zsi h;rw [he] at hv;have hv':a.eval x=.map none:=hv;exact⟨.int .i64 0,by simp [execOp,ho,resolve,invoke,builtin,Builtin.len_,hts',hv',run_underlying hu,goInt],rfl⟩
    ·rename_i b he;rw [he] at hv;obtain⟨hkb,hv'⟩:K b/\a.eval x=.map (some (μ b).blk):=hv;split at h
     ·rename_i es hget;obtain rfl:=zsi h;obtain⟨ces,clk,hob,hall⟩:=hR.blk b _ hget;have hobj:(getObj (μ b).blk).run P w=.ok (.map ces clk) w:=by simp [getObj,Sem.run,hob]
      have hlen:=hall.len;exact⟨.int .i64 es.length,by simp [execOp,ho,resolve,invoke,builtin,Builtin.len_,hts',hv',run_underlying hu,goInt,hobj,hlen],rfl⟩
     ·cases h
    ·cases h
   ·cases hc
  ·cases hc
 case _=>cases hc
end
section
variable{P:Program}{G n:Nat}{μ:Nat->Pl}{K:Nat->Prop}{H:Hp}{w:World}{F:T V}{a:Act}
theorem row_cell{l:List C}{i:Nat}{c:C}(h:(B.row l.length l .lf true).cell i=some c):l[i]?=some c:=by
 simp only [B.cell,T.get_lf,Option.getD_none] at h;split at h
 ·rename_i hi;rw [Nat.mod_eq_of_lt hi] at h;rw [<-h,zge hi];simp [List.getD_eq_getElem?_getD,hi]
 ·cases h
theorem RB.of_list{l:List C}{cs:Array Value}{t:TypeId}{p:Pl}(hp:p.off=0)(hs:p.size=cs.size)(h:qe (RC μ K) l cs.toList):RB μ K p (.row l.length l .lf true) (some (.cells cs t)):=by
 have hl:=h.len;simp at hl;refine⟨cs,t,(0,0),rfl,hs.symm,by omega,fun _=>rfl,fun i c hc=>?_⟩;obtain⟨x,hx,hr⟩:=h.at i c (row_cell hc);exact⟨x,by rw [hp];simpa using hx,hr⟩
theorem ZW{z:List C}{zc:Array Value}(h:qe (RC μ K) z zc.toList)(m:Nat):qe (RC μ K) (z7 z m) ((Array.range m).map (zc[· % zc.size]!)).toList\/z.length=0:=by
 by_cases h0:z.length=0
 ·exact .inr h0
 ·left;have hl:=h.len;simp at hl;refine qe.mk (by simp [z7]) fun i c x hc hx=>?_;have hi:i<m:=by
   have:=(zgs hc).1;simpa [z7] using this
  simp [z7,hi] at hc;simp [hi] at hx;have hmod:i % z.length<z.length:=Nat.mod_lt _ (by omega);have hmod':i % zc.size<zc.size:=by rw [<-hl];exact hmod
  obtain⟨y,hy,hr⟩:=h.at (i % z.length) c (by rw [<-hc,zge hmod];simp);rw [<-hx,getElem!_pos zc _ hmod'];rw [hl] at hy;have hy2:zc.toList[i % zc.size]?=some zc[i % zc.size]:=by rw [zge (by simpa using hmod')];simp
  rw [hy2] at hy;obtain rfl:=zsi hy;exact hr
theorem tH{z:List C}{m i:Nat}{c:C}(h:(B.row m z .lf true).cell i=some c):(z7 z m)[i]?=some c:=by
 simp only [B.cell,T.get_lf,Option.getD_none] at h;split at h
 ·rename_i hi;rw [<-h];simp [z7,hi]
 ·cases h
theorem RB.of_patt{z:List C}{m:Nat}{cs:Array Value}{t:TypeId}{p:Pl}(hp:p.off=0)(hs:p.size=cs.size)(h:qe (RC μ K) (z7 z m) cs.toList):RB μ K p (.row m z .lf true) (some (.cells cs t)):=by
 have hl:=h.len;simp [z7] at hl;refine⟨cs,t,(0,0),rfl,hs.symm,by omega,fun _=>rfl,fun i c hc=>?_⟩;obtain⟨x,hx,hr⟩:=h.at i c (tH hc);exact⟨x,by rw [hp];simpa using hx,hr⟩
theorem ZX{c:Int}(h0:0<=c)(h1:c<4611686018427387904):IntKind.i64.wrap c=c:=by
 simp [IntKind.wrap,IntKind.bits,IntKind.signed];omega
theorem EW(hR:Rel G μ K H w)(hF:xy μ K n F a.tmps){o:Oper}{p:AllocOp}{bk:B}{g:Nat->V}(hc:ZO P G n o=some p)(h:xw F p=some (bk,g)):
 bk.mut=true/\∃x obj sz,(execOp a.eval o).run P w=.ok (.value x) { w with heap:=w.heap.push obj }/\RB μ K ⟨w.heap.size,0,sz⟩ bk (some obj)/\
  ∀(b:Nat) (μ':Nat->Pl) (K':Nat->Prop),K' b->μ' b=⟨w.heap.size,0,sz⟩->RV μ' K' (g b) x:=by
 unfold ZO at hc;split at hc
 case _ e ho=>
  split at hc
  ·simp only [zom] at hc;obtain⟨z,hz,rfl⟩:=hc;simp only [xw,zoi,zpi] at h;obtain⟨rfl,rfl⟩:=h;obtain⟨i,v,hi,hv,hall⟩:=jL (μ:=μ) (K:=K) hz;refine⟨rfl,.pointer (some ⟨w.heap.size,0,none⟩),.cells v.cells e,v.cells.size,?_,⟨v.cells,(),rfl,rfl,rfl,by have:=hall.len;simp at this;omega,fun i c hc=>?_⟩,fun b μ' K' hk hm=>⟨hk,by simp [Pl.addr,hm]⟩⟩
   ·simp [execOp,ho,Instr.alloc,zeroValue,typeInfo,hi,hv,newVar,newRow]
   ·obtain⟨x,hx,hr⟩:=hall.at i c hc;exact⟨x,by simpa using hx,hr⟩
  ·simp only [zom] at hc;obtain⟨z,hz,rfl⟩:=hc;simp only [xw,zoi,zpi] at h;obtain⟨rfl,rfl⟩:=h;obtain⟨i,v,hi,hv,hall⟩:=jL (μ:=μ) (K:=K) hz;refine⟨rfl,.pointer (some ⟨w.heap.size,0,none⟩),.cells v.cells e,v.cells.size,?_,RB.of_list rfl rfl hall,fun b μ' K' hk hm=>⟨hk,by simp [Pl.addr,hm]⟩⟩;simp [execOp,ho,Instr.alloc,zeroValue,typeInfo,hi,hv,newVar,newRow]
 case _ e x ho=>
  simp only [zom] at hc;obtain⟨d,hd,rfl⟩:=hc;simp only [xw] at h;split at h
  ·rename_i cs hcs;simp only [zoi,zpi] at h;obtain⟨rfl,rfl⟩:=h;refine⟨rfl,.pointer (some ⟨w.heap.size,0,none⟩),.cells (a.eval x).cells e,(a.eval x).cells.size,?_,RB.of_list rfl rfl (JJ (qr hR hF hd) hcs),fun b μ' K' hk hm=>⟨hk,by simp [Pl.addr,hm]⟩⟩;simp [execOp,ho,Instr.box,newVar,newRow]
  ·cases h
 case _ t len parts ho=>
  split at hc
  ·rename_i e hu;split at hc
   ·rename_i s z hs hz;split at hc
    ·rename_i hlen;simp only [zom] at hc;obtain⟨ps,hps,rfl⟩:=hc;simp only [xw] at h;split at h
     ·rename_i cs hcs;simp only [zoi,zpi] at h;obtain⟨rfl,rfl⟩:=h;obtain⟨i,v,hi,hv,hall⟩:=jL (μ:=μ) (K:=K) hz;have hz0:=(ZW hall (len*s)).resolve_right (by omega);obtain⟨GQ,hfill,hall'⟩:=VT hR hF hps hcs hz0;have hvl:=hall.len;have hcl:cs.length=len*s:=by
       have h1:=hall'.len;have hfl:∀(z z':List C) (ps:List (Nat × Nat × Opd)),zI F z ps=some z'->z'.length=z.length:=by
        intro z z' ps;induction ps generalizing z with
        |nil=>intro h;simp [zI] at h;rw [h]
        |cons q ps ih=>
         obtain⟨off,size,x⟩:=q;intro h;simp only [zI] at h;split at h
         ·cases h
         ·split at h
          ·rename_i hq;rw [ih _ h];simp;omega
          ·cases h
       rw [hfl _ _ _ hcs];simp [z7]
      have harr:GQ.size=len*s:=by have:=hall'.len;simp at this;omega
      refine⟨rfl,.slice (some ⟨w.heap.size,0,none⟩) len len,.cells GQ e,GQ.size,?_,RB.of_list rfl rfl hall',fun b μ' K' hk hm=>⟨hk,_,len,rfl,Nat.le_refl _,Nat.le_refl _,fun _=>rfl,.inr ⟨by simp [Pl.addr,hm],by simp [hm,harr]⟩⟩⟩;simp only [execOp,ho];have hzs:v.cells≠#[]:=by
       intro h0;rw [h0] at hvl;have:=hlen.1;have:=hlen.2.1;simp only [List.length_nil] at hvl;omega
      by_cases hl0:len*s=0
      ·have hzero:((Array.range (len*s)).map ((#[]:Array Value)[· % (#[]:Array Value).size]!))=((Array.range (len*s)).map (v.cells[· % v.cells.size]!)):=by rw [hl0];simp
       have hnot:¬(len*s>2^24):=by omega
       simp only [Instr.buildSlice,Sem.run_bind,run_underlying hu,Result.andThen_ok,xN hs,Sem.run_ite,hnot,if_false,Sem.run_pure,hl0,if_true];rw [hl0] at hfill;have hz1:((Array.range 0).map ((#[]:Array Value)[· % (#[]:Array Value).size]!))=((Array.range 0).map (v.cells[· % v.cells.size]!)):=by simp
       rw [hz1];have hparts:(parts.map fun (i,x)=>(i,a.eval x)).toList=parts.toList.map fun p=>(p.1,a.eval p.2):=by simp
       rw [hparts,hfill];simp [newRow]
      ·have hnot:¬(len*s>2^24):=by omega
       simp only [Instr.buildSlice,Sem.run_bind,run_underlying hu,Result.andThen_ok,xN hs,Sem.run_ite,hnot,if_false,Sem.run_pure,hl0];have hzv:(zeroValue e).run P w=.ok v w:=by simp [zeroValue,typeInfo,hi,hv]
       simp only [hzv,Result.andThen_ok];have hparts:(parts.map fun (i,x)=>(i,a.eval x)).toList=parts.toList.map fun p=>(p.1,a.eval p.2):=by simp
       rw [hparts,hfill];simp [newRow]
     ·cases h
    ·cases hc
   ·cases hc
  ·cases hc
 case _ t l c ho=>
  split at hc
  ·rename_i e hu;split at hc
   ·rename_i i z dl dc hi hz hl hcc;split at hc
    ·rename_i hsz;obtain rfl:=zsi hc;have vl:=qr hR hF hl;have vc:=qr hR hF hcc;simp only [xw] at h;split at h
     ·rename_i kl l' kc c' el ec;split at h
      ·rename_i hb;simp only [zoi,zpi] at h;obtain⟨rfl,rfl⟩:=h;rw [el] at vl;rw [ec] at vc;have vl':a.eval l=.int kl l':=vl;have vc':a.eval c=.int kc c':=vc;obtain⟨i',v,hi',hv,hall⟩:=jL (μ:=μ) (K:=K) hz;obtain rfl:i=i':=by rw [hi] at hi';exact zsi hi'
       have hvl:=hall.len;have hz0:=(ZW hall (c'.toNat*i.size)).resolve_right (by omega);have harr:((Array.range (c'.toNat*i.size)).map (v.cells[· % v.cells.size]!)).size=c'.toNat*i.size:=by simp
       refine⟨rfl,.slice (some ⟨w.heap.size,0,none⟩) l'.toNat c'.toNat,.cells ((Array.range (c'.toNat*i.size)).map (v.cells[· % v.cells.size]!)) e,c'.toNat*i.size,?_,RB.of_patt rfl (by simp) hz0,
        fun b μ' K' hk hm=>⟨hk,_,c'.toNat,rfl,by omega,Nat.le_refl _,fun _=>rfl,.inr ⟨by simp [Pl.addr,hm],by simp [hm]⟩⟩⟩
       simp only [execOp,ho];refine jJ _ ?_;have w1:=ZX (c:=l') hb.1 (by omega);have w2:=ZX (c:=c') (by omega) hb.2.2.2;have t1:(decide (c'<0)||decide ((i.bytes:Int)*c'>2^48))=false:=by
        have:=hb.2.2.1;simp;omega
       have t2:((decide (c'<0)||decide ((i.bytes:Int)*c'>2^48))=true\/l'<0)=False:=by
        rw [t1];simp;omega
       simp only [Instr.makeSlice,Sem.run_bind,run_underlying hu,Result.andThen_ok,vl',vc',asInt,asIntOf,Sem.run_pure,typeInfo,run_program,hi,w1,w2];have hcond:((decide (c'<0)||decide ((i.bytes:Int)*c'>2^48))||decide (l'<0)||decide (l'>c'))=false:=by
        rw [t1];simp;omega
       rw [hcond];simp only [Bool.false_eq_true,if_false,Sem.run_bind,Sem.run_pure,Result.andThen_ok,run_askRoom,xN (show zh P e=some i.size by simp [zh,hi])];by_cases hl0:c'.toNat*i.size=0
       ·have r0:∀f:Nat->Value,(Array.range 0).map f=#[]:=fun f=>Array.eq_empty_of_size_eq_zero (by simp);simp [hl0,newRow,r0]
       ·have hzv:(zeroValue e).run P w=.ok v w:=by simp [zeroValue,typeInfo,hi,hv]
        simp [hl0,hzv,newRow]
      ·cases h
     ·cases h
    ·cases hc
   ·cases hc
  ·cases hc
 case _ t ho=>
  split at hc
  ·split at hc
   ·obtain rfl:=zsi hc;simp only [xw,zoi,zpi] at h;obtain⟨rfl,rfl⟩:=h;refine⟨rfl,.map (some w.heap.size),.map #[] 0,0,?_,⟨#[],(),rfl,trivial⟩,fun b μ' K' hk hm=>⟨hk,by simp [hm]⟩⟩;simp [execOp,ho,Instr.makeMap]
   ·obtain rfl:=zsi hc;simp only [xw,zoi,zpi] at h;obtain⟨rfl,rfl⟩:=h;refine⟨rfl,.map (some w.heap.size),.map #[] 0,0,?_,⟨#[],0,rfl,trivial⟩,fun b μ' K' hk hm=>⟨hk,by simp [hm]⟩⟩;simp [execOp,ho,Instr.makeMap]
  ·cases hc
 case _=>cases hc
end
end Go.Ab
