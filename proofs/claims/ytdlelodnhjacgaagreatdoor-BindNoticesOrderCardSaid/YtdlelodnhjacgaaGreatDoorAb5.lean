/- -/
import Derived.Test.YtdlelodnhjacgaaGreatDoorAb4
import Derived.LaidEqlPtr
import Derived.Laws.Externs
import Derived.Lib.Bytealg
import Derived.Lib.UnsafeStr
import Derived.Lib.Builder
import Derived.Laws.BytesString
import Derived.Lib.MakeNoZero
set_option linter.unusedSimpArgs false
set_option linter.unusedVariables false
set_option maxRecDepth 8000
set_option maxHeartbeats 4000000
namespace Go.Ab
section
variable{P:Program}{G n:Nat}{μ:Nat->Pl}{K:Nat->Prop}{H:Hp}{w:World}{F:T V}{a:Act}
theorem D5(x y:ByteArray):(x.toList==y.toList)=(x.data.toList==y.data.toList):=by rw [ByteArray.toList_eq,ByteArray.toList_eq]
theorem G5{op:BinOp}{t:TypeId}(x y:ByteArray)(hop:op=.add\/op=.eql\/op=.neq):(binOp op t (.string x) (.string y)).run P w=(Op.stringOp op x y).run P w:=by
 rcases hop with rfl|rfl|rfl<;>simp only [binOp]
theorem OL{op:BinOp}{t:TypeId}{x y:Operand}{p q:ByteArray}:(eqGuard op t x y (.string p) (.string q)).run P w=.ok () w:=by
 cases op<;>simp [eqGuard]
theorem oX{op:BinOp}{t:TypeId}{x y:Operand}{p q:Option Addr}:(eqGuard op t x y (.pointer p) (.pointer q)).run P w=.ok () w:=by
 cases op<;>simp [eqGuard]
theorem W1{op:BinOp}{t:TypeId}{x:Operand}{v q:Value}:(eqGuard op t x (.const q) v .nilIface).run P w=.ok () w:=by
 cases op<;>cases v<;>simp [eqGuard]
theorem OI{t:TypeId}{ms:Array (String × TypeId)}(ht:P.underlying t=some (.interface ms))(d:Nat)(ty:TypeId)(v:Value):(Op.equalIn (d+1) t (.iface ty v) .nilIface).run P w=.ok false w:=by
 simp [Op.equalIn,run_underlying ht]
theorem OJ{t:TypeId}{ms:Array (String × TypeId)}(ht:P.underlying t=some (.interface ms))(d:Nat):(Op.equalIn (d+1) t .nilIface .nilIface).run P w=.ok true w:=by
 simp [Op.equalIn,run_underlying ht]
theorem GE(b:UInt8){c:Nat}(hc:c<256):(b==c.toUInt8)=decide (b.toNat=c):=by
 by_cases h:b.toNat=c
 ·subst h;simp
 ·have:b≠c.toUInt8:=fun e=>h (by rw [e];simp;omega);simp [this,h]
theorem o6:∀(l:List UInt8) (c i:Nat),c<256->Vv l c i=if Lib.indexByte l c.toUInt8= -1 then -1 else (i:Int)+Lib.indexByte l c.toUInt8
 |[],_,_,_=>rfl
 |b::l,c,i,hc=>by
  have hge:=Lib.indexByte_ge l c.toUInt8;simp only [Vv,Lib.indexByte,GE b hc,yA,beq_iff_eq];by_cases h:b.toNat=c
  ·simp [h]
  ·rw [if_neg h,if_neg h,o6 l c (i+1) hc];by_cases h2:Lib.indexByte l c.toUInt8= -1
   ·simp [h2]
   ·rw [if_neg h2,if_neg h2,if_neg (by omega)]
    push_cast;omega
theorem pP:∀(l:List UInt8) (c:Nat),c<256->Lib.countByte l c.toUInt8=Wl l c
 |[],_,_=>rfl
 |b::l,c,hc=>by
  have:=pP l c hc;unfold Lib.countByte at this ⊢;rw [List.count_cons,this];simp only [Wl,GE b hc,yA];by_cases h:b.toNat=c<;>simp [h]
theorem NO{t e:TypeId}{k:Nat}(ht:P.underlying t=some (.pointer e))(hs:ya P e=some (k+1)){u v:V}{x y:Value}{r:Bool}(hx:RV μ K u x)(hy:RV μ K v y)(h:By u v=some r):
 ∃p q,x=.pointer p/\y=.pointer q/\∀d,(Op.equalIn (d+1) t (.pointer p) (.pointer q)).run P w=.ok r w:=by
 have hsz:=zq hs w;unfold By at h;split at h
 ·obtain rfl:=zsi h;exact⟨none,none,hx,hy,fun d=>by simp [Op.equalIn,run_underlying ht]⟩
 ·obtain rfl:=zsi h;obtain⟨_,hy⟩:=(show _/\_ from hy);exact⟨none,_,hx,hy,fun d=>by simp [Op.equalIn,run_underlying ht]⟩
 ·obtain rfl:=zsi h;obtain⟨_,hx⟩:=(show _/\_ from hx);exact⟨_,none,hx,hy,fun d=>by simp [Op.equalIn,run_underlying ht]⟩
 ·rename_i b o b' o';split at h
  ·rename_i hb;subst hb;obtain rfl:=zsi h;obtain⟨_,hx⟩:=(show _/\_ from hx);obtain⟨_,hy⟩:=(show _/\_ from hy);refine⟨_,_,hx,hy,fun d=>?_⟩;have:((μ b).addr o==(μ b).addr o')=decide (o=o'):=by
    by_cases h:o=o'
    ·subst h;simp
    ·have:(μ b).addr o≠(μ b).addr o':=fun e=>h (by simp [Pl.addr] at e;omega);simp [this,h]
   simp [Op.equalIn,run_underlying ht,hsz,sameAddr,Pl.addr] at this ⊢;exact this
  ·cases h
 ·cases h
theorem Y9{f:FuncId}{nm:String}(h:aE P f nm=true):∃fn,P.funcs[f]?=some fn/\fn.name=nm/\fn.body=none/\fn.origin= "":=by
 unfold aE at h;split at h
 ·rename_i fn hf;simp only [x8,beq_iff_eq,Option.isNone_iff_eq_none] at h;exact⟨fn,hf,h.1.1,h.1.2,h.2⟩
 ·cases h
theorem mT {f:FuncId} {fn:Func} {nm:String} (hf:P.funcs[f]?=some fn) (hn:fn.name=nm) (hb:fn.body=none) {e:Array Value->Sem Value} (h0:(nm== "runtime.NumGoroutine")=false)
 (h1:(Extern.allNextRows.lookup nm).isNone=true) (h2:(Extern.allNextRows.lookup fn.origin).isNone=true) (h3:(Extern.allGenericRows.lookup nm).isNone=true) (h4:(Extern.allTypedRows.lookup nm).isNone=true) (h5:Extern.allRows.lookup nm=some e) (args:Array Value):
 (callFunc f args).run P w=((e args).run P w).andThen fun v w'=>.ok (.value v) w':=by
 subst hn;refine run_callFunc_extern hf h0 (by simp [hb]) ?_ ?_ args w
 ·simp only [Extern.findNext,Option.isNone_iff_eq_none] at h1 h2 ⊢;simp [h1,h2]
 ·simp only [Extern.find,Option.isNone_iff_eq_none] at h3 h4 ⊢;simp [h3,h4,h5]
theorem SW(hR:Rel G μ K H w)(hF:xR μ K n F a.tmps){o:Oper}{p:PureOp}{v:V}(hc:aQ P G n o=some p)(h:qp F p=some v):
 ∃x,(execOp a.eval o).run P w=.ok (.value x) w/\RV μ K v x:=by
 unfold aQ at hc;split at hc
 ·rename_i op t x y ty ho;split at hc
  ·rename_i da db hu hx hy;have vx:=qy hR hF hx;have vy:=qy hR hF hy;have key:∀(hop:op=.add\/op=.eql\/op=.neq) (s q:ByteArray) (r:Value),da.ev F=.one (.str s)->db.ev F=.one (.str q)->(Op.stringOp op s q).run P w=.ok r w->(execOp a.eval o).run P w=.ok (.value r) w:=by
    intro hop s q r e1 e2 hr;rw [e1] at vx;rw [e2] at vy;have h1:a.eval x=.string s:=vx;have h2:a.eval y=.string q:=vy;simp [execOp,ho,h1,h2,OL,G5 s q hop,hr]
   split at hc
   ·obtain rfl:=zsi hc;simp only [qp] at h;split at h
    ·rename_i s q e1 e2;split at h
     ·rename_i hle;obtain rfl:=zsi h;refine⟨_,key (.inl O) s q (.string (s++q)) e1 e2 ?_,O⟩;have hmax:IntKind.i64.max=9223372036854775807:=rfl;simp only [Op.stringOp];rw [if_neg (by rw [hmax];omega)];rfl
     ·cases h
    ·cases h
   ·obtain rfl:=zsi hc;simp only [qp] at h;split at h
    ·rename_i s q e1 e2;obtain rfl:=zsi h;exact⟨_,key (.inr (.inl O)) s q (.bool (s.data.toList==q.data.toList)) e1 e2 (by simp only [Op.stringOp,D5,Sem.run_pure]),O⟩
    ·cases h
   ·obtain rfl:=zsi hc;simp only [qp] at h;split at h
    ·rename_i s q e1 e2;obtain rfl:=zsi h;exact⟨_,key (.inr (.inr O)) s q (.bool !(s.data.toList==q.data.toList)) e1 e2 (by simp only [Op.stringOp,D5,Sem.run_pure]),O⟩
    ·cases h
   ·cases hc
  ·rename_i ms da db hu hx hy;have vx:=qy hR hF hx;have key:∀(neg:Bool) (op:BinOp),(op=.eql/\neg=false)\/(op=.neq/\neg=true)->o.op=.binOp op t x (.const .nilIface) ty->qp F (.ifeq neg da)=some v->∃r,(execOp a.eval o).run P w=.ok (.value r) w/\RV μ K v r:=by
    intro neg op hop ho h;simp only [qp] at h;have e2:a.eval (.const .nilIface)=.nilIface:=rfl;split at h
    ·rename_i e1;obtain rfl:=zsi h;rw [e1] at vx;obtain⟨tt,vv,h1⟩:∃t v,a.eval x=.iface t v:=vx;rcases hop with⟨rfl,rfl⟩|⟨rfl,rfl⟩
     ·exact⟨.bool false,by simp [execOp,ho,h1,e2,W1,binOp,Op.equal,Op.maxDepth,OI hu 9999],rfl⟩
     ·exact⟨.bool true,by simp [execOp,ho,h1,e2,W1,binOp,Op.equal,Op.maxDepth,OI hu 9999],rfl⟩
    ·rename_i e1;obtain rfl:=zsi h;rw [e1] at vx;have h1:a.eval x=.nilIface:=vx;rcases hop with⟨rfl,rfl⟩|⟨rfl,rfl⟩
     ·exact⟨.bool true,by simp [execOp,ho,h1,e2,W1,binOp,Op.equal,Op.maxDepth,OJ hu 9999],rfl⟩
     ·exact⟨.bool false,by simp [execOp,ho,h1,e2,W1,binOp,Op.equal,Op.maxDepth,OJ hu 9999],rfl⟩
    ·cases h
   split at hc
   ·obtain rfl:=zsi hc;exact key false .eql (.inl ⟨O,O⟩) ho h
   ·obtain rfl:=zsi hc;exact key true .neq (.inr ⟨O,O⟩) ho h
   ·cases hc
  ·rename_i e da db hu hx hy;have vx:=qy hR hF hx;have vy:=qy hR hF hy;split at hc
   ·rename_i k hs;obtain rfl:=zsi hc;simp only [qp,zom] at h;obtain⟨r,hr,rfl⟩:=h;obtain⟨p,q,h1,h2,h3⟩:=NO (P:=P) (w:=w) hu hs vx vy hr;exact⟨.bool r,by simp [execOp,ho,h1,h2,oX,binOp,Op.equal,Op.maxDepth,h3],rfl⟩
   ·rename_i k hs;obtain rfl:=zsi hc;simp only [qp,zom] at h;obtain⟨r,hr,rfl⟩:=h;obtain⟨p,q,h1,h2,h3⟩:=NO (P:=P) (w:=w) hu hs vx vy hr;exact⟨.bool !r,by simp [execOp,ho,h1,h2,oX,binOp,Op.equal,Op.maxDepth,h3],rfl⟩
   ·cases hc
  ·cases hc
 ·rename_i t x ho;split at hc
  ·cases hc
  ·rename_i d da hni hu hx;obtain rfl:=zsi hc;have vx:=qy hR hF hx;simp only [qp] at h;split at h
   ·cases h
   ·obtain rfl:=zsi h;refine⟨.iface t (a.eval x),?_,_,_,O⟩;cases d<;>first|(exact absurd O (hni _))|simp [execOp,ho,Instr.makeInterface,run_underlying hu]
  ·cases hc
 ·rename_i f first caps ho
  split at hc
  ·rename_i x hfirst hcaps;simp only [zom] at hc;obtain⟨dx,hx,rfl⟩:=hc;have vx:=qy hR hF hx;simp only [qp] at h;split at h
   ·rename_i b off he;obtain rfl:=zsi h;rw [he] at vx;obtain⟨hk,h1⟩:K b/\a.eval x=.pointer (some ((μ b).addr off)):=vx;have e1:first=#[x]:=by cases first;simp_all
    have e2:caps=#[]:=by simpa using hcaps
    exact⟨.func (.func f) #[.pointer (some ((μ b).addr off))] #[],by simp [execOp,ho,Instr.makeFunc,e1,e2,h1],hk,rfl⟩
   ·cases h
  ·cases hc
 ·rename_i args ts ho;split at hc
  ·rename_i x hargs;have hargs':args=#[x]:=by cases args;simp_all
   subst hargs';simp only [zom] at hc;obtain⟨dx,hx,rfl⟩:=hc;have vx:=qy hR hF hx;simp only [qp] at h;split at h
   ·rename_i b off len cap e ex he;obtain rfl:=zsi h;rw [he] at vx;obtain⟨hk,ad,c,h1,g1,g2,g3,g4⟩:RC μ K (.slc b off len (cap+1) e ex) (a.eval x):=vx;rcases g4 with g4|⟨rfl,_⟩
    ·omega
    ·have hc0:c≠0:=by omega
     exact⟨.pointer (some ((μ b).addr off)),by simp [execOp,ho,resolve,invoke,builtin,Lib.run_unsafeSliceData_row,h1,hc0],hk,rfl⟩
   ·rename_i he;obtain rfl:=zsi h;rw [he] at vx;have h1:a.eval x=.slice none 0 0:=vx;have hsd:(Builtin.unsafeSliceData_ ts o.type #[.slice none 0 0]).run P w=.ok (.pointer none) w:=rfl;exact⟨.pointer none,by simp [execOp,ho,resolve,invoke,builtin,hsd,h1],rfl⟩
   ·cases h
  ·cases hc
 ·rename_i f args ts ho;have hev:a.eval (.func f)=.func (.func f) #[] #[]:=rfl;split at hc
  ·rename_i x hargs;have hargs':args=#[x]:=by cases args;simp_all
   subst hargs';split at hc
   ·rename_i hext;simp only [zom] at hc;obtain⟨dx,hx,rfl⟩:=hc;have vx:=qy hR hF hx;simp only [qp,zoi] at h;subst h;obtain⟨fn,h1,h2,h3,h4⟩:=Y9 hext;have hr:=mT (P:=P) (w:=w) h1 h2 h3 (e:=Extern.AbiNoEscape.same) (by kernel_rfl) (by kernel_rfl) (by rw [h4];kernel_rfl) (by kernel_rfl) (by kernel_rfl) (by kernel_rfl) #[a.eval x];exact⟨a.eval x,by simp [execOp,ho,resolve,hev,Deferred.ofValue,invoke,hr,Lib.run_noEscape],vx⟩
   ·cases hc
  ·rename_i x y hargs;have hargs':args=#[x,y]:=by cases args;simp_all
   subst hargs';split at hc
   ·rename_i da db hx hy;have vx:=qy hR hF hx;have vy:=qy hR hF hy;split at hc
    ·rename_i hext;obtain rfl:=zsi hc;obtain⟨fn,h1,h2,h3,h4⟩:=Y9 hext;have hr:=mT (P:=P) (w:=w) h1 h2 h3 (e:=Extern.BytealgIndexByte.indexByte) (by kernel_rfl) (by kernel_rfl) (by rw [h4];kernel_rfl) (by kernel_rfl) (by kernel_rfl) (by kernel_rfl) #[a.eval x,a.eval y];simp only [qp] at h;split at h
     ·rename_i s c e1 e2;split at h
      ·rename_i hcc;obtain rfl:=zsi h;rw [e1] at vx;rw [e2] at vy;have g1:a.eval x=.string s:=vx;have g2:a.eval y=.int .u8 c:=vy;obtain⟨c,rfl⟩:=sQ hcc.1;refine⟨.int .i64 (Vv s.data.toList c 0),?_,O⟩;have e3:(execOp a.eval o).run P w=(callFunc f #[a.eval x,a.eval y]).run P w:=by simp [execOp,ho,resolve,hev,Deferred.ofValue,invoke]
       rw [e3,hr,g1,g2,run_indexByte_string];simp only [Result.andThen,jW,Lib.firstIdx_eq];rw [o6 _ _ _ (by omega)];have hge:=Lib.indexByte_ge s.data.toList c.toUInt8;split<;>simp_all
      ·cases h
     ·cases h
    ·split at hc
     ·rename_i hext;obtain rfl:=zsi hc;obtain⟨fn,h1,h2,h3,h4⟩:=Y9 hext;have hr:=mT (P:=P) (w:=w) h1 h2 h3 (e:=Extern.BytealgCount.count) (by kernel_rfl) (by kernel_rfl) (by rw [h4];kernel_rfl) (by kernel_rfl) (by kernel_rfl) (by kernel_rfl) #[a.eval x,a.eval y];simp only [qp] at h;split at h
      ·rename_i s c e1 e2;split at h
       ·rename_i hcc;obtain rfl:=zsi h;rw [e1] at vx;rw [e2] at vy;have g1:a.eval x=.string s:=vx;have g2:a.eval y=.int .u8 c:=vy;obtain⟨c,rfl⟩:=sQ hcc.1;refine⟨.int .i64 (Wl s.data.toList c),?_,O⟩;have e3:(execOp a.eval o).run P w=(callFunc f #[a.eval x,a.eval y]).run P w:=by simp [execOp,ho,resolve,hev,Deferred.ofValue,invoke]
        rw [e3,hr,g1,g2];rw [Lib.run_countString];simp only [Result.andThen,jW];rw [pP _ _ (by omega)]
       ·cases h
      ·cases h
     ·cases hc
   ·cases hc
  ·cases hc
 ·cases hc
theorem Ey(hR:Rel G μ K H w)(hF:xR μ K n F a.tmps){o:Oper}{p:PureOp}{v:V}(hc:VK P G n o=some p)(h:qp F p=some v):
 ∃x,(execOp a.eval o).run P w=.ok (.value x) w/\RV μ K v x:=by
 unfold VK at hc;split at hc
 ·rename_i q hq;obtain rfl:=zsi hc;exact SX hR hF hq h
 ·exact SW hR hF hc h
end
section
variable{P:Program}{G n:Nat}{μ:Nat->Pl}{K:Nat->Prop}{H:Hp}{w:World}{F:T V}{a:Act}
theorem Ba{l:List C}{r:List UInt8}(h:vN l=some r):l.length=r.length/\∀(j:Nat) x,r[j]?=some x->∃m:Int,l[j]?=some (.int .u8 m)/\x=UInt8.ofNat m.toNat:=by
 induction l generalizing r with
 |nil=>simp [vN] at h;subst h;simp
 |cons c l ih=>
  unfold vN at h;split at h
  ·cases ‹_=[]›
  ·rename_i m l' e;injection e with e1 e2
   subst e1 e2;simp only [zom] at h;obtain⟨r',hr,rfl⟩:=h;obtain⟨h1,h2⟩:=ih hr;refine⟨by simp [h1],fun j x hx=>?_⟩;cases j with
   |zero=>simp at hx;exact⟨m,O,hx.symm⟩
   |succ j=>simpa using h2 j x (by simpa using hx)
  ·cases h
theorem lB:∀{l:List C} {xs:List Value} {r:List UInt8},vN l=some r->qe (RC μ K) l xs->∃ns:List Int,xs=ns.map (Value.int .u8)/\r=ns.map fun n=>UInt8.ofNat n.toNat
 |[],[],r,h,_=>by simp [vN] at h;subst h;exact⟨[],O,O⟩
 |c::l,x::xs,r,h,ha=>by
  unfold vN at h;split at h
  ·cases ‹_=[]›
  ·rename_i m l' e;injection e with e1 e2
   subst e1 e2;simp only [zom] at h;obtain⟨r',hr,rfl⟩:=h;obtain⟨ns,h1,h2⟩:=lB hr ha.2;obtain rfl:x=.int .u8 m:=ha.1;exact⟨m::ns,by simp [h1],by simp [h2]⟩
  ·cases h
 |[],_::_,_,_,ha=>ha.elim
 |_::_,[],_,_,ha=>ha.elim
theorem o5:∀(ns:List Int) (s:ByteArray),ns.foldl (fun r n=>r.push (UInt8.ofNat n.toNat)) s=⟨s.data++(ns.map fun n=>UInt8.ofNat n.toNat).toArray⟩
 |[],s=>by simp
 |n::ns,s=>by
  simp only [YN,o5 ns,jr];apply ByteArray.ext;simp [ByteArray.push]
theorem OB{e:TypeId}{k count:Nat}(hc:P.cellsOf e=k+1)(hn:1<=count):liesAt P P.depth e count 0 e 1=true:=by
 have hd:P.depth=(2*(P.types.size+Made.depth)+1)+1:=rfl;rw [hd];simp only [liesAt,JL];left;rw [hd];simp [rowAt,hc,hn,sameLayout]
theorem YT{s:ByteArray}:∀{es:List (V × V)} {ces:List MapEntry} {i:Nat} {r:Option (Nat × V)},qe (fun (e:V × V) (x:MapEntry)=>z6 μ K e.1 x.key/\z6 μ K e.2 x.val) es ces->
 JR s.data.toList es i=some r->
 (r=none/\Instr.findNow .string (.string s) ces i=some none)\/∃j v x,r=some (j,v)/\Instr.findNow .string (.string s) ces i=some (some (j,x))/\z6 μ K v x
 |[],[],i,r,_,h=>by simp [JR] at h;subst h;exact .inl ⟨O,by simp [Instr.findNow]⟩
 |e::es,c::ces,i,r,ha,h=>by
  obtain⟨e1,e2⟩:=e;simp only [JR] at h;split at h
  ·rename_i q;have hck:c.key=.string q:=ha.1.1;have hb:(s==q)=(s.data.toList==q.data.toList):=by
    show (s.data==q.data)=_
    by_cases he:s.data=q.data
    ·rw [he];simp
    ·have h1:s.data.toList≠q.data.toList:=fun h=>he (Array.ext' h);simp [he,h1]
   simp only [Instr.findNow,hck,Instr.sameNow,hb];split at h
   ·rename_i hs;obtain rfl:=zsi h;rw [hs];exact .inr ⟨i,e2,c.val,O,O,ha.1.2⟩
   ·rename_i hs;have hs':(s.data.toList==q.data.toList)=false:=by simpa using hs
    rw [hs'];exact YT ha.2 h
  ·cases h
 |[],_::_,_,_,ha,_=>ha.elim
 |_::_,[],_,_,ha,_=>ha.elim
theorem QY{e:Bool}{d:Nat}{t:TypeId}(h:P.underlying t=some .string)(v:Value):(Instr.checkKey e (d+1) t v).run P w=.ok () w:=by
 simp [Instr.checkKey,run_underlying h]
theorem TK(hR:Rel G μ K H w)(hF:xR μ K n F a.tmps){o:Oper}{p:LoadOp}{v:V}(hc:ZT P G n o=some p)(h:qL F H p=some v):
 ∃x,(execOp a.eval o).run P w=.ok (.value x) w/\RV μ K v x:=by
 unfold ZT at hc;split at hc
 case _ src dst x ho=>
  have pc:∀{t:TypeId} {k:Nat} {d:Opd},ya P t=some (k+1)->cO G n x=some d->qL F H (.pcv t (P.cellsOf t) d)=some v->(P.underlying src=some (.pointer t)/\P.underlying dst=some .unsafePointer\/P.underlying src=some .unsafePointer/\P.underlying dst=some (.pointer t))->
   ∃x,(execOp a.eval o).run P w=.ok (.value x) w/\RV μ K v x:=by
   intro t k d hs hx h hu;have vx:=qy hR hF hx;obtain⟨j,hj,hjs⟩:∃j,P.info? t=some j/\j.size=k+1:=by
    unfold ya at hs;exact Option.map_eq_some_iff.1 hs
   simp only [qL] at h;split at h
   ·rename_i he;obtain rfl:=zsi h;rw [he] at vx;have h1:a.eval x=.pointer none:=vx;refine⟨.pointer none,?_,O⟩;rcases hu with⟨u1,u2⟩|⟨u1,u2⟩<;>simp [execOp,ho,h1,convert,run_underlying u1,run_underlying u2,Conv.unsafePointer]
   ·rename_i b off he;split at h
    ·rename_i t' l hb;split at h
     ·rename_i hcond;obtain⟨rfl,rfl,h0,hle⟩:=hcond;obtain rfl:=zsi h;rw [he] at vx;obtain⟨hk,h1⟩:K b/\a.eval x=.pointer (some ((μ b).addr 0)):=vx;obtain⟨cs,_,k1,k2,k3,k4,k5⟩:=hR.blk b _ hb;have had:(μ b).addr 0=⟨(μ b).blk,0,none⟩:=by simp [Pl.addr,k3]
      have hsh:w.shape? (μ b).blk=some (t',cs.size):=by simp [World.shape?,k1]
      refine⟨.pointer (some ((μ b).addr 0)),?_,hk,O⟩;rcases hu with⟨u1,u2⟩|⟨u1,u2⟩
      ·have:=Lib.run_to_unsafe (P:=P) w ⟨(μ b).blk,0,none⟩ u1 u2 hj (by omega) hsh (by show 0<cs.size;omega);simp [execOp,ho,h1,had,this]
      ·obtain⟨k',hk'⟩:∃k',P.cellsOf t'=k'+1:=⟨P.cellsOf t'-1,by omega⟩;have:=Lib.run_from_unsafe (P:=P) w ⟨(μ b).blk,0,none⟩ u1 u2 hj hsh (OB hk' (by
        rw [Nat.le_div_iff_mul_le (by omega)];omega))
       simp [execOp,ho,h1,had,this]
     ·cases h
    ·cases h
   ·cases h
  split at hc
  ·rename_i e d hu hu' hx;split at hc
   ·rename_i he;obtain rfl:=zsi hc;have vx:=qy hR hF hx;simp only [qL] at h;split at h
    ·rename_i hn;obtain rfl:=zsi h;rw [hn] at vx;have h1:a.eval x=.slice none 0 0:=vx;refine⟨.string ByteArray.empty,?_,O⟩;simp [execOp,ho,h1,run_convert_bytes_string w src dst e none 0 0 hu he hu',Conv.bytesToString]
    ·rename_i b off len cap e' ex hn;split at h
     ·rename_i he1;subst he1;split at h
      ·rename_i cs hl;simp only [zom] at h;obtain⟨r,hr,rfl⟩:=h;rw [hn] at vx;obtain⟨hk,ad,c,h1,g1,g2,g3,g4⟩:RC μ K (.slc b off len cap 1 ex) (a.eval x):=vx;obtain⟨xs,hxs,hcells⟩:=hR.cells hl;obtain⟨ns,hns,rfl⟩:=lB hr hxs;have hxl:xs.length=len:=by rw [<-hxs.len,zW hl]
       have hload:(loadCells ad len).run P w=.ok (ns.map (Value.int .u8)).toArray w:=by
        by_cases hl0:len=0
        ·subst hl0;have:xs=[]:=vw hxl;subst this;have:ns=[]:=by simpa using hns.symm
         subst this;simp [loadCells,loadCellsFrom]
        ·rcases g4 with g4|⟨rfl,_⟩
         ·omega
         ·have:=Zi (P:=P) (w:=w) (ad:=(μ b).addr off) (xs:=xs) (i:=0) (acc:=#[]) fun j y hy=>by
           rw [yh,ym];exact hcells j y hy
          rw [hxl] at this;simp only [loadCells];rw [this,hns];simp
       refine⟨.string ⟨(ns.map fun (n:Int)=>UInt8.ofNat n.toNat).toArray⟩,?_,O⟩;simp only [execOp,ho,h1];refine wX _ ?_;rw [run_convert_bytes_string w src dst e (some ad) len c hu he hu',run_bytesToString w ad len c ns hload,o5];simp
      ·cases h
     ·cases h
    ·cases h
   ·cases hc
  ·rename_i t d hu hu' hx;split at hc
   ·rename_i k hs;obtain rfl:=zsi hc;exact pc hs hx h (.inl ⟨hu,hu'⟩)
   ·cases hc
  ·rename_i t d hu hu' hx;split at hc
   ·rename_i k hs;obtain rfl:=zsi hc;exact pc hs hx h (.inr ⟨hu,hu'⟩)
   ·cases hc
  ·cases hc
 case _ t x lo hi ho=>
  split at hc
  ·rename_i ar d dlo dhi hu hx hlo hhi;split at hc
   ·rename_i len e hua;split at hc
    ·rename_i s hs;obtain rfl:=zsi hc;have vx:=qy hR hF hx;simp only [qL] at h;split at h
     ·rename_i b off he;rw [he] at vx;obtain⟨hk,h1⟩:K b/\a.eval x=.pointer (some ((μ b).addr off)):=vx;split at h
      ·rename_i nb z mm rw' hb;split at h
       ·rename_i hin;split at h
        ·cases h
        ·rename_i hh b2;split at h
         ·cases h
         ·rename_i l b3;obtain rfl:=zsi h;obtain⟨cs,tt,fz,k1,k2,k3,k4,k5⟩:=hR.blk b _ hb;have hhigh:hh<=len/\((hi.map a.eval=none/\hh=len)\/∃v,hi.map a.eval=some v/\(Instr.sliceBound v len .sliceAlen).run P w=.ok hh w):=by
           cases hi with
           |none=>
            simp only [ww,zoi] at hhi;subst hhi;simp [qQ] at b2;subst b2;exact⟨qz _,.inl ⟨O,O⟩⟩
           |some xl=>
            simp only [ww,zom] at hhi;obtain⟨dl,hl,rfl⟩:=hhi;obtain⟨q1,q2⟩:=kj (P:=P) (code:=.sliceAlen) hR hF hl b2 (qz _);exact⟨q2,.inr ⟨_,O,q1⟩⟩
          have hlow:l<=hh/\((lo.map a.eval=none/\l=0)\/∃v,lo.map a.eval=some v/\(Instr.sliceBound v hh .sliceB).run P w=.ok l w):=by
           cases lo with
           |none=>
            simp only [ww,zoi] at hlo;subst hlo;simp [qQ] at b3;subst b3;exact⟨by omega,.inl ⟨rfl,rfl⟩⟩
           |some xl=>
            simp only [ww,zom] at hlo;obtain⟨dl,hl,rfl⟩:=hlo;obtain⟨q1,q2⟩:=kj (P:=P) (code:=.sliceB) hR hF hl b3 (qz _);exact⟨q2,.inr ⟨_,O,q1⟩⟩
          refine⟨.slice (some (if len=l then (μ b).addr off else ((μ b).addr off).add (l*s))) (hh-l) (len-l),?_,hk,_,len-l,O,by omega,qz _,fun _=>rfl,?_⟩
          ·simp only [execOp,ho];refine wX _ ?_;obtain⟨_,hhigh⟩:=hhigh;obtain⟨_,hlow⟩:=hlow;rcases hhigh with⟨e1,rfl⟩|⟨v1,e1,hb1⟩<;>rcases hlow with⟨e0,rfl⟩|⟨v0,e0,hb0⟩<;>
            simp [Instr.sliceAt,Instr.slice,Instr.sliceBounds,run_underlying hu,run_underlying hua,h1,e0,e1,asAddr,zq hs, *]
          ·by_cases hml:len=l
           ·left;omega
           ·right;rw [if_neg hml];refine⟨yh _ _ _,?_⟩;have:(len-l)*s+l*s=len*s:=by rw [<-wW];congr 1;omega
            omega
       ·cases h
      ·cases h
     ·cases h
    ·cases hc
   ·cases hc
  ·cases hc
 case _ t x i ok ho=>
  split at hc
  ·rename_i kt e m k hu hx hi;split at hc
   ·rename_i ie hk hie;split at hc
    ·rename_i z hz;simp only [zom] at hc;obtain⟨zv,hzv,rfl⟩:=hc;have hv:=qy hR hF hx;have hvi:=qy hR hF hi;have hzero:(zeroValue e).run P w=.ok z w:=by simp [zeroValue,typeInfo,hie,hz]
     have hz1:z6 μ K zv z:=sE hzv;simp only [qL] at h;split at h
     ·rename_i s ek em;obtain rfl:=zsi h;rw [em] at hv;rw [ek] at hvi;have hvi':a.eval i=.string s:=hvi;have hv':a.eval x=.map none:=hv;refine⟨if ok then .tuple #[z,.bool false] else z,?_,?_⟩
      ·simp [execOp,ho,Instr.lookup,hv',hvi',run_underlying hu,QY (d:=9999) hk,Instr.findKey,run_underlying hk,Instr.findNow,hzero]
      ·cases ok
       ·simpa [wz] using RV.of1 hz1
       ·exact⟨[z,.bool false],O,hz1,O,trivial⟩
     ·rename_i s b ek em;rw [em] at hv;rw [ek] at hvi;have hvi':a.eval i=.string s:=hvi;obtain⟨hkb,hv'⟩:K b/\a.eval x=.map (some (μ b).blk):=hv;split at h
      ·rename_i es hget;obtain⟨ces,clk,hob,hall⟩:=hR.blk b _ hget;have hobj:(getObj (μ b).blk).run P w=.ok (.map ces clk) w:=by simp [getObj,Sem.run,hob]
       split at h
       ·rename_i hf;obtain rfl:=zsi h;rcases YT hall hf with⟨_,h2⟩|⟨j,v,x,h1,_⟩
        ·refine⟨if ok then .tuple #[z,.bool false] else z,?_,?_⟩
         ·simp [execOp,ho,Instr.lookup,hv',hvi',run_underlying hu,hobj,QY (d:=9999) hk,Instr.findKey,run_underlying hk,h2,hzero]
         ·cases ok
          ·simpa [wz] using RV.of1 hz1
          ·exact⟨[z,.bool false],O,hz1,O,trivial⟩
        ·cases h1
       ·rename_i jj vv hf;obtain rfl:=zsi h;rcases YT hall hf with⟨h1,_⟩|⟨j,v,y,h1,h2,h3⟩
        ·cases h1
        ·obtain⟨rfl,rfl⟩:jj=j/\vv=v:=by simpa using h1
         refine⟨if ok then .tuple #[y,.bool true] else y,?_,?_⟩
         ·simp [execOp,ho,Instr.lookup,hv',hvi',run_underlying hu,hobj,QY (d:=9999) hk,Instr.findKey,run_underlying hk,h2]
         ·cases ok
          ·simpa [wz] using RV.of1 h3
          ·exact⟨[y,.bool true],O,h3,O,trivial⟩
       ·cases h
      ·cases h
     ·cases h
    ·cases hc
   ·cases hc
  ·cases hc
 case _=>cases hc
theorem Fn(hR:Rel G μ K H w)(hF:xR μ K n F a.tmps){o:Oper}{p:LoadOp}{v:V}(hc:Yu P G n o=some p)(h:qL F H p=some v):
 ∃x,(execOp a.eval o).run P w=.ok (.value x) w/\RV μ K v x:=by
 unfold Yu at hc;split at hc
 ·rename_i q hq;obtain rfl:=zsi hc;exact TL hR hF hq h
 ·exact TK hR hF hc h
end
section
variable{P:Program}{G n:Nat}{μ:Nat->Pl}{K:Nat->Prop}{H H':Hp}{w:World}{F:T V}{a:Act}
theorem f4{e:TypeId}(h:XB P e=true):∃i z,P.info? e=some i/\P.cellsOf e=1/\i.size=1/\i.bytes=1/\vi P e=some z/\z.length=1:=by
 unfold XB at h;split at h
 ·rename_i i hi;simp only [x8,beq_iff_eq] at h;obtain⟨⟨⟨⟨_,h1⟩,h2⟩,h3⟩,h4⟩:=h;split at h4
  ·rename_i z hz;exact⟨i,z,hi,h1,h2,h3,hz,by simpa using h4⟩
  ·cases h4
 ·cases h
theorem GL (hR:Rel G μ K H w) (hF:xR μ K n F a.tmps) {o:Oper} {s x:Operand} {t t' e:TypeId} {ds dx:Opd} {v:V} (ho:o.op=.call { callee:=.builtin .append,args:=#[s,x],argTypes:=#[t,t'] }) (hu:P.underlying t=some (.slice e)) (hu':sH P t') (hs:cO G n s=some ds) (hx:cO G n x=some dx)
 (hb:XB P e=true) (h:xe F H (.appendb e ds dx)=some (v,H')):
 ∃nx x w' μ' K',(execOp a.eval o).run P w=.ok nx w'/\LK nx x/\RV μ' K' v x/\Rel G μ' K' H' w'/\Fr μ K H w μ' K' H' w':=by
 obtain⟨i,z,hi,_,h1,h2,hz,hzl⟩:=f4 hb;have vs:=qy hR hF hs;have vx:=qy hR hF hx;simp only [xe] at h;split at h
 ·rename_i m news hsrc;obtain⟨i',zv,hi',hzv,hall⟩:=w6 (μ:=μ) (K:=K) hz;obtain rfl:i=i':=by rw [hi] at hi';exact zsi hi'
  have hzs:zv.cells.size=i.size:=by have:=hall.len;simp at this;omega
  obtain⟨r,w',μ',K',g1,g2,g3,g4⟩:=LE (P:=P) (ty:=o.type) hR hu hu' hi h1 h2 hzv hzs vs vx hsrc h;exact⟨.value r,r,w',μ',K',by simp [execOp,ho,resolve,invoke,builtin,g1],.inl rfl,g2,g3,g4⟩
 ·cases h
theorem VE:∀(n t:Nat) (acc:Array Value),(∀(i:Nat) x,acc[i]?=some x->∃k m,x=.int k m)->∀(i:Nat) x,(Extern.BytealgMakeNoZero.digits n t acc)[i]?=some x->∃k m,x=.int k m
 |0,_,_,h,i,x,hx=>h i x hx
 |n+1,t,acc,h,i,x,hx=>by
  rw [Extern.BytealgMakeNoZero.digits] at hx;refine VE n _ _ (fun j y hy=>?_) i x hx;rw [LX] at hy;split at hy
  ·exact⟨_,_,(zsi hy).symm⟩
  ·exact h j y hy
theorem Mv(hR:Rel G μ K H w){e t:TypeId}{ps:Array TypeId}{m:Nat}(ht:P.underlying t=some (.slice e))(hm:m<=140737488355328):
 ∃x w' μ' K',(Extern.BytealgMakeNoZero.makeNoZero ps #[t] #[.int .i64 m]).run P w=.ok x w'/\RV μ' K' (.one (.slc H.nx 0 m m 1 false)) x/\Rel G μ' K' (H.push (.tr e (List.replicate m .anyi))) w'/\Fr μ K H w μ' K' (H.push (.tr e (List.replicate m .anyi))) w':=by
 have hdef:Extern.BytealgMakeNoZero.makeNoZero ps #[t] #[.int .i64 m]=
  (do
   let .slice elem<-underlying t|stuck "bytealg.MakeNoZero: slice type expected"
   if (m:Int)<0||(m:Int)>2^48 then runtimePanic (.error "makeslice: len out of range")
   let cap<-choose (.appendCap (m:Int).toNat 0 elem)
   askRoom cap
   let bytes<-choose (.extern "internal/bytealg.MakeNoZero.bytes" 0);let a<-newRow elem (Extern.BytealgMakeNoZero.digits cap bytes #[])
   pure (.slice (some a) (m:Int).toNat cap)):=rfl
 have h1:¬(m:Int)<0:=by omega
 have h2:¬(281474976710656:Int)<(m:Int):=by omega
 obtain⟨cs,hcs,hge,hall⟩:∃cs:Array Value,(Extern.BytealgMakeNoZero.makeNoZero ps #[t] #[.int .i64 m]).run P w=.ok (.slice (some ⟨w.heap.size,0,none⟩) m cs.size) { w with drawn:=w.drawn+1+1,heap:=w.heap.push (.cells cs e) }/\m<=cs.size/\∀(i:Nat) x,cs[i]?=some x->∃k m,x=.int k m:=by
  refine⟨Extern.BytealgMakeNoZero.digits (grownCap w m 0 e) ((Question.extern "internal/bytealg.MakeNoZero.bytes" 0).cut (w.tape (w.drawn+1) (.extern "internal/bytealg.MakeNoZero.bytes" 0))) #[],?_,?_,fun i x hx=>VE _ _ _ (fun j y hy=>by simp at hy) i x hx⟩
  ·rw [hdef];simp [run_underlying ht,h1,h2,Question.forced,newRow,Lib.size_digits,grownCap];rfl
  ·rw [Lib.size_digits];simpa using grownCap_ge w m 0 e
 have hrb:RB μ K ⟨w.heap.size,0,cs.size⟩ (.tr e (List.replicate m .anyi)) (some (.cells cs e)):=by
  refine⟨cs,(),O,O,O,by simpa using hge,fun i c hc=>?_⟩;have hi:i<m:=by have:=(zgs hc).1;simpa using this
  rw [Zu,if_pos hi] at hc;obtain rfl:=zsi hc;exact⟨cs[i],sO (by omega),hall i _ (sO (by omega))⟩
 obtain⟨r1,r2⟩:=hR.push' (d:=w.drawn+1+1) (by omega) hrb;exact⟨_,_,_,_,hcs,⟨.inr O,_,cs.size,O,qz _,hge,by simp,.inr ⟨by simp [Pl.addr],by simp⟩⟩,r1,r2⟩
theorem Vh:∀(cs:List Value) (r:List UInt8) (ad:Addr) (acc:ByteArray),cs.length=r.length->(∀(j:Nat) y,cs[j]?=some y->w.cell? (ad.add j)=some y)->(∀(j:Nat) x,r[j]?=some x->∃m:Int,cs[j]?=some (.int .u8 m)/\x=UInt8.ofNat m.toNat)->
 (loadBytes ad acc r.length).run P w=.ok ⟨acc.data++r.toArray⟩ w
 |[],[],ad,acc,_,_,_=>by simp [loadBytes]
 |y::cs,x::r,ad,acc,hl,h,hx=>by
  obtain⟨m,hm,rfl⟩:=hx 0 x rfl;simp only [sR,zoi] at hm;subst hm;have h0:w.cell? ad=some (.int .u8 m):=by
   have:=h 0 _ rfl;simpa [Addr.add] using this
  have ih:=Vh cs r (ad.add 1) (acc.push (UInt8.ofNat m.toNat)) (by simpa using hl) (fun j y hy=>by
   have:=h (j+1) y (by simpa using hy);have e:(ad.add 1).add j=ad.add (j+1):=by
    unfold Addr.add;by_cases hj:j=0
    ·subst hj;simp
    ·simp [hj];omega
   rw [e];exact this) (fun j x hj=>by simpa using hx (j+1) x (by simpa using hj))
  simp only [xA,loadBytes,Sem.run_bind,run_load,h0,Result.andThen];rw [show m.toNat.toUInt8=UInt8.ofNat m.toNat from rfl,ih];congr 1;apply ByteArray.ext;simp [ByteArray.push]
 |[],_::_,_,_,hl,_,_=>by simp at hl
 |_::_,[],_,_,hl,_,_=>by simp at hl
theorem Ei(hR:Rel G μ K H w){b:Nat}{t pt ty:TypeId}{l0:List C}{m:Nat}{cs:List C}{l:List UInt8}(hp:P.underlying pt=some (.pointer t))(hc:P.cellsOf t=1)(hb:H.get b=some (.tr t l0))(hm0:0<m)(hm:m<=140737488355328)(hl:H.loads b 0 m=some cs)(hbl:vN cs=some l)(it:TypeId):
 ∃w',(Builtin.unsafeString_ #[pt,it] ty #[.pointer (some ((μ b).addr 0)),.int .i64 m]).run P w=.ok (.string ⟨l.toArray⟩) w'/\Rel G μ K (H.del b) w'/\Fr μ K H w μ K (H.del b) w':=by
 obtain⟨cv,_,k1,k2,k3,k4,k5⟩:=hR.blk b _ hb;obtain⟨b1,b2⟩:=Ba hbl;have hlen:=zW hl;obtain⟨xs,hxs,hcells⟩:=hR.cells hl;have hxl:xs.length=m:=by rw [<-hxs.len,hlen]
 have had:(μ b).addr 0=⟨(μ b).blk,0,none⟩:=by simp [Pl.addr,k3]
 have hle:m<=cv.size:=by
  have:=hcells (m-1) xs[m-1] (zge (by omega));rw [XK k1,k3] at this;have:=(nJ.1 this).1;omega
 have hlb:=Vh (P:=P) (w:=w) xs l ⟨(μ b).blk,0,none⟩ .empty (by omega) (fun j y hy=>by
  rw [<-had,yh];exact hcells j y hy) (fun j x hx=>by
  obtain⟨q,hq,e⟩:=b2 j x hx;obtain⟨y,hy,hr⟩:=hxs.at j _ hq;obtain rfl:y=.int .u8 q:=hr;exact⟨q,hy,e⟩)
 have hsh:w.shape? (μ b).blk=some (t,cv.size):=by simp [World.shape?,k1]
 have hlies:=Lib.liesAt_bytes (P:=P) hc (cv.size/P.cellsOf t) m (by rw [hc];simpa using hle);have hml:l.length=m:=by omega
 have h63:¬(9223372036854775807:Int)<(m:Int):=by omega
 have hmax:IntKind.i64.max=9223372036854775807:=rfl;have hneg:¬(m:Int)<0:=by omega
 have hm1:m≠0:=by omega
 obtain⟨e1,e2,e3,hdef⟩:∃e1 e2 e3,Builtin.unsafeString_ #[pt,it] ty #[.pointer (some ⟨(μ b).blk,0,none⟩),.int .i64 m]=
  (do
   let n<-asInt (.int .i64 m)
   if n<0 then runtimePanic e1
   if n>IntKind.i64.max then unsupported e2
   if n=0 then pure (.string .empty)
   else if<-variablesAt ⟨(μ b).blk,0,none⟩ (<-elemOf pt) n.toNat then do
    let s<-loadBytes ⟨(μ b).blk,0,none⟩ .empty n.toNat
    freeze ⟨(μ b).blk,0,none⟩ n.toNat
    pure (.string s)
   else unsupported e3):=⟨_,_,_,rfl⟩
 rw [hml] at hlb;refine⟨w.freeze ⟨(μ b).blk,0,none⟩ m,?_,?_,?_⟩
 ·rw [had,hdef];simp [asInt,asIntOf,hmax,h63,hneg,hm1,variablesAt,hsh,elemOf,run_underlying hp,hlies,hlb]
 all_goals
  have hh:∀i,i≠(μ b).blk->(w.freeze ⟨(μ b).blk,0,none⟩ m).heap[i]?=w.heap[i]?:=fun i hi=>by
   simp only [World.freeze,hm1,if_false,Ch];rw [if_neg (fun h=>hi h.symm)]
  have hget:∀i k,(H.del b).get i=some k->i≠b/\H.get i=some k:=fun i k h=>by
   rw [Hp.get_del] at h;split at h
   ·cases h
   ·rename_i e;exact⟨e,h⟩
  have hsz:(w.freeze ⟨(μ b).blk,0,none⟩ m).heap.size=w.heap.size:=by simp [World.freeze,hm1]
 ·refine⟨fun i k h=>hR.dom i k (hget i k h).2,hR.lt,fun i k h=>?_,fun i j k k' h h'=>hR.inj i j k k' (hget _ _ h).2 (hget _ _ h').2,hR.glob⟩;obtain⟨h1,h2⟩:=hget i k h;rw [hh _ (fun he=>h1 (hR.inj b i _ _ hb h2 rfl he.symm).symm)];exact hR.blk i k h2
 ·refine⟨⟨by simp [World.freeze,hm1],by simp [World.freeze,hm1],by simp [World.freeze,hm1],by simp [World.freeze,hm1]⟩,by omega,fun i hi hn=>hh i (fun e=>hn b _ hb rfl e.symm),fun i k h hm=>.inl ⟨i,k,(hget i k h).2,hm,rfl⟩,fun i k hi h=>absurd (hR.lt' i k (hget i k h).2) (by omega),fun _ _=>rfl,fun _ h=>h,fun _ _ h=>h,qz _,fun i hi hn=>?_,fun i k k' h h'=>?_,fun i k h hm=>?_⟩
  ·rw [Hp.get_del,hn];simp
  ·have:=(hget i k' h').2;rw [h] at this;rw [zsi this]
  ·rw [Hp.get_del,if_neg (fun e=>by subst e;rw [hb] at h;rw [<-zsi h] at hm;cases hm)];exact h
theorem D4(hR:Rel G μ K H w){t kt et:TypeId}{m k x:V}{vm vk vx:Value}{v:V}(hu:P.underlying t=some (.map kt et))(hkt:P.underlying kt=some .string)(hm:RV μ K m vm)(hk:RV μ K k vk)(hx:RV μ K x vx){F:T V}{om ok ox:Opd}(e1:om.ev F=m)(e2:ok.ev F=k)(e3:ox.ev F=x)(h:xe F H (.smapupd om ok ox)=some (v,H')):
 v=V.undef/\∃w',(Instr.mapUpdate t vm vk vx).run P w=.ok () w'/\Rel G μ K H' w'/\Fr μ K H w μ K H' w':=by
 simp only [xe,e1,e2,e3] at h;split at h
 ·rename_i b s;split at h
  ·rename_i es hget;split at h
   ·rename_i hone;split at h
    ·rename_i hf;simp only [zoi,zpi] at h;obtain⟨rfl,rfl⟩:=h;obtain⟨hkb,vm'⟩:K b/\vm=.map (some (μ b).blk):=hm;have vk':vk=.string s:=hk;have vx1:=cT hone hx;obtain⟨ces,clk,hob,hall⟩:=hR.blk b _ hget;have hobj:(getObj (μ b).blk).run P w=.ok (.map ces clk) w:=by simp [getObj,Sem.run,hob]
     have hset:∀ob,(setObj (μ b).blk ob).run P w=.ok () { w with heap:=w.heap.setIfInBounds (μ b).blk ob }:=fun ob=>by simp [setObj,Sem.run,hob]
     rcases YT hall hf with⟨_,h2⟩|⟨j,v,x,h1,_⟩
     ·obtain⟨r1,r2⟩:=hR.setMap (es':=es++[(.one (.str s),x)]) (ces:=ces.push { key:=.string s,val:=vx,born:=clk }) (clk:=clk+1) hget (by
       simp only [Array.toList_push];exact hall.append ⟨⟨O,vx1⟩,trivial⟩) _ rfl
      refine⟨O,_,?_,r1,r2⟩;simp [Instr.mapUpdate,vm',vk',run_underlying hu,hobj,QY (d:=9999) hkt,Instr.findKey,run_underlying hkt,h2,hset]
     ·cases h1
    ·cases h
   ·cases h
  ·cases h
 ·cases h
theorem Gk(hR:Rel G μ K H w)(hF:xR μ K n F a.tmps){o:Oper}{p:EffOp}{v:V}(hc:Wh P G n o=some p)(h:xe F H p=some (v,H')):
 ∃nx x w' μ' K',(execOp a.eval o).run P w=.ok nx w'/\LK nx x/\RV μ' K' v x/\Rel G μ' K' H' w'/\Fr μ K H w μ' K' H' w':=by
 unfold Wh at hc;split at hc
 case _ args ts ho=>
  split at hc
  ·rename_i s x t t' hargs hts;have hargs':args=#[s,x]:=by cases args;simp_all
   have hts':ts=#[t,t']:=by cases ts;simp_all
   subst hargs' hts';split at hc
   ·rename_i e e' ds dx hu hu' hs hx;split at hc
    ·rename_i hb;obtain rfl:=zsi hc;exact GL hR hF ho hu (.inl ⟨_,hu'⟩) hs hx hb h
    ·cases hc
   ·rename_i e ds dx hu hu' hs hx;split at hc
    ·rename_i hb;obtain rfl:=zsi hc;exact GL hR hF ho hu (.inr hu') hs hx hb h
    ·cases hc
   ·cases hc
  ·cases hc
 case _ f args ts ho=>
  split at hc
  ·rename_i x fn hargs hfn;have hargs':args=#[x]:=by cases args;simp_all
   subst hargs';split at hc
   ·rename_i hext;split at hc
    ·rename_i t d hrt hx;split at hc
     ·rename_i e hu;split at hc
      ·rename_i hb;obtain rfl:=zsi hc;have vx:=qy hR hF hx;simp only [xe] at h;split at h
       ·rename_i m em;split at h
        ·rename_i hm;simp only [zoi,zpi] at h;obtain⟨rfl,rfl⟩:=h;rw [em] at vx;have vx':a.eval x=.int .i64 m:=vx;obtain⟨m,rfl⟩:=sQ hm.1;obtain⟨fn',h1,h2,h3,h4⟩:=Y9 hext;obtain rfl:fn=fn':=by rw [hfn] at h1;exact zsi h1
         have hrt':fn.resultTypes=#[t]:=by cases hq:fn.resultTypes;simp_all
         obtain⟨r,w',μ',K',g1,g2,g3,g4⟩:=Mv (P:=P) (ps:=fn.params) hR hu (m:=m) (by omega);have hrun:(callFunc f #[a.eval x]).run P w=.ok (.value r) w':=by
          rw [run_callFunc_extern (e:=Extern.BytealgMakeNoZero.makeNoZero fn.params #[t]) hfn (by rw [h2];kernel_rfl) (by simp [h3]) (by
           unfold Extern.findNext;simp only [h2,h4]
           kernel_rfl) (by
           unfold Extern.find;simp only [h2,h4,hrt'];rfl),vx',g1]
          rfl
         have hev:a.eval (.func f)=.func (.func f) #[] #[]:=rfl;refine⟨.value r,r,w',μ',K',by simp [execOp,ho,resolve,hev,Deferred.ofValue,invoke,hrun],.inl rfl,?_,g3,g4⟩;simpa using g2
        ·cases h
       ·cases h
      ·cases hc
     ·cases hc
    ·cases hc
   ·cases hc
  ·cases hc
 case _ args ts ho=>
  split at hc
  ·rename_i x y t t' hargs hts;have hargs':args=#[x,y]:=by cases args;simp_all
   have hts':ts=#[t,t']:=by cases ts;simp_all
   subst hargs' hts';split at hc
   ·rename_i e dp dq hu hx hy;split at hc
    ·rename_i hb;obtain rfl:=zsi hc;obtain⟨i,z,hi,hcell,_⟩:=f4 hb;have vx:=qy hR hF hx;have vy:=qy hR hF hy;simp only [xe] at h;split at h
     ·rename_i ep eq;simp only [zoi,zpi] at h;obtain⟨rfl,rfl⟩:=h;rw [ep] at vx;rw [eq] at vy;have h1:a.eval x=.pointer none:=vx;have h2:a.eval y=.int .i64 0:=vy;have hr:(Builtin.unsafeString_ #[t,t'] o.type #[.pointer none,.int .i64 0]).run P w=.ok (.string .empty) w:=Lib.run_unsafeString_none w t t' o.type none;exact⟨.value (.string .empty),.string .empty,w,μ,K,by simp [execOp,ho,resolve,invoke,builtin,h1,h2,hr],.inl rfl,rfl,hR,Fr.refl hR⟩
     ·rename_i b m ep eq;split at h
      ·rename_i tt l0 hget;split at h
       ·rename_i hcond;obtain⟨rfl,hm0,hm1⟩:=hcond;split at h
        ·rename_i cs hld;split at h
         ·rename_i l hbl;simp only [zoi,zpi] at h;obtain⟨rfl,rfl⟩:=h;rw [ep] at vx;rw [eq] at vy;obtain⟨hkb,h1⟩:K b/\a.eval x=.pointer (some ((μ b).addr 0)):=vx;have h2:a.eval y=.int .i64 m:=vy;obtain⟨m,rfl⟩:=sQ (by omega:0<=m);obtain⟨w',g1,g2,g3⟩:=Ei (P:=P) (ty:=o.type) hR hu hcell hget (m:=m) (by omega) (by omega) hld hbl t';exact⟨.value _,_,w',μ,K,by simp [execOp,ho,resolve,invoke,builtin,h1,h2,g1],.inl rfl,rfl,g2,g3⟩
         ·cases h
        ·cases h
       ·cases h
      ·cases h
     ·cases h
    ·cases hc
   ·cases hc
  ·cases hc
 case _ t m k x ho=>
  split at hc
  ·rename_i kt et dm dk dx hu hm hk hx;split at hc
   ·rename_i hkt;obtain rfl:=zsi hc;obtain⟨rfl,w',g1,g2,g3⟩:=D4 (P:=P) hR hu hkt (qy hR hF hm) (qy hR hF hk) (qy hR hF hx) rfl rfl rfl h;exact⟨.skip,Go.undef,w',μ,K,by simp [execOp,ho,g1],.inr ⟨rfl,rfl⟩,RV.undef,g2,g3⟩
   ·cases hc
  ·cases hc
 case _ t m k x ho=>
  split at hc
  ·rename_i kt et dm dk dx hu hm hk hx;split at hc
   ·rename_i hkt;obtain rfl:=zsi hc;obtain⟨rfl,w',g1,g2,g3⟩:=D4 (P:=P) hR hu hkt (qy hR hF hm) (qy hR hF hk) (qy hR hF hx) rfl rfl rfl h;exact⟨.skip,Go.undef,w',μ,K,by simp [execOp,ho,g1],.inr ⟨rfl,rfl⟩,RV.undef,g2,g3⟩
   ·cases hc
  ·cases hc
 case _=>cases hc
theorem Nt(hR:Rel G μ K H w)(hF:xR μ K n F a.tmps){o:Oper}{p:EffOp}{v:V}(hc:Kh P G n o=some p)(h:xe F H p=some (v,H')):
 ∃nx x w' μ' K',(execOp a.eval o).run P w=.ok nx w'/\LK nx x/\RV μ' K' v x/\Rel G μ' K' H' w'/\Fr μ K H w μ' K' H' w':=by
 unfold Kh at hc;split at hc
 ·rename_i q hq;obtain rfl:=zsi hc;exact Gk hR hF hq h
 ·exact Gl hR hF hc h
end
end Go.Ab
