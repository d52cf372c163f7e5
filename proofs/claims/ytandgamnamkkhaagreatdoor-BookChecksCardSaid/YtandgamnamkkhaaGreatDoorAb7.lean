/- -/
import Derived.Test.YtandgamnamkkhaaGreatDoorAb6
import Derived.LaidEqlPtr
import Derived.Laws.Externs
import Derived.Lib.Bytealg
import Derived.Lib.UnsafeStr
import Derived.Lib.Builder
set_option linter.unusedSimpArgs false
set_option maxHeartbeats 4000000
set_option linter.unusedVariables false
set_option maxRecDepth 8000
namespace Go.Ab
section
variable{P:Program}{G n:Nat}{μ:Nat->Pl}{K:Nat->Prop}{H:Hp}{w:World}{F:T V}{a:Act}
theorem lK(x y:ByteArray):(x.toList==y.toList)=(x.data.toList==y.data.toList):=by rw [ByteArray.toList_eq,ByteArray.toList_eq]
theorem oO{op:BinOp}{t:TypeId}(x y:ByteArray)(hop:op=.add\/op=.eql\/op=.neq):(binOp op t (.string x) (.string y)).run P w=(Op.stringOp op x y).run P w:=by
 rcases hop with rfl|rfl|rfl<;>simp only [binOp]
theorem uG{op:BinOp}{t:TypeId}{x y:Operand}{p q:ByteArray}:(eqGuard op t x y (.string p) (.string q)).run P w=.ok () w:=by
 cases op<;>simp [eqGuard]
theorem bI{op:BinOp}{t:TypeId}{x y:Operand}{p q:Option Addr}:(eqGuard op t x y (.pointer p) (.pointer q)).run P w=.ok () w:=by
 cases op<;>simp [eqGuard]
theorem Yp{op:BinOp}{t:TypeId}{x:Operand}{v q:Value}:(eqGuard op t x (.const q) v .nilIface).run P w=.ok () w:=by
 cases op<;>cases v<;>simp [eqGuard]
theorem uD{t:TypeId}{ms:Array (String × TypeId)}(ht:P.underlying t=some (.interface ms))(d:Nat)(ty:TypeId)(v:Value):(Op.equalIn (d+1) t (.iface ty v) .nilIface).run P w=.ok false w:=by
 simp [Op.equalIn,run_underlying ht]
theorem uE{t:TypeId}{ms:Array (String × TypeId)}(ht:P.underlying t=some (.interface ms))(d:Nat):(Op.equalIn (d+1) t .nilIface .nilIface).run P w=.ok true w:=by
 simp [Op.equalIn,run_underlying ht]
theorem nR(b:UInt8){c:Nat}(hc:c<256):(b==c.toUInt8)=decide (b.toNat=c):=by
 by_cases h:b.toNat=c
 ·subst h;simp
 ·have:b≠c.toUInt8:=fun e=>h (by rw [e];simp;omega);simp [this,h]
theorem bP:∀(l:List UInt8) (c i:Nat),c<256->Jw l c i=if Lib.indexByte l c.toUInt8= -1 then -1 else (i:Int)+Lib.indexByte l c.toUInt8
 |[],_,_,_=>rfl
 |b::l,c,i,hc=>by
  have hge:=Lib.indexByte_ge l c.toUInt8;simp only [Jw,Lib.indexByte,nR b hc,xF,beq_iff_eq];by_cases h:b.toNat=c
  ·simp [h]
  ·rw [if_neg h,if_neg h,bP l c (i+1) hc];by_cases h2:Lib.indexByte l c.toUInt8= -1
   ·simp [h2]
   ·rw [if_neg h2,if_neg h2,if_neg (by omega)]
    push_cast;omega
theorem cA:∀(l:List UInt8) (c:Nat),c<256->Lib.countByte l c.toUInt8=ZP l c
 |[],_,_=>rfl
 |b::l,c,hc=>by
  have:=cA l c hc;unfold Lib.countByte at this ⊢;rw [List.count_cons,this];simp only [ZP,nR b hc,xF];by_cases h:b.toNat=c<;>simp [h]
theorem tG{t e:TypeId}{k:Nat}(ht:P.underlying t=some (.pointer e))(hs:zh P e=some (k+1)){u v:V}{x y:Value}{r:Bool}(hx:RV μ K u x)(hy:RV μ K v y)(h:E3 u v=some r):
 ∃p q,x=.pointer p/\y=.pointer q/\∀d,(Op.equalIn (d+1) t (.pointer p) (.pointer q)).run P w=.ok r w:=by
 have hsz:=xN hs w;unfold E3 at h;split at h
 ·obtain rfl:=zsi h;exact⟨none,none,hx,hy,fun d=>by simp [Op.equalIn,run_underlying ht]⟩
 ·obtain rfl:=zsi h;obtain⟨_,hy⟩:=(show _/\_ from hy);exact⟨none,_,hx,hy,fun d=>by simp [Op.equalIn,run_underlying ht]⟩
 ·obtain rfl:=zsi h;obtain⟨_,hx⟩:=(show _/\_ from hx);exact⟨_,none,hx,hy,fun d=>by simp [Op.equalIn,run_underlying ht]⟩
 ·rename_i b o b' o';split at h
  ·rename_i hb;subst hb;obtain rfl:=zsi h;obtain⟨_,hx⟩:=(show _/\_ from hx);obtain⟨_,hy⟩:=(show _/\_ from hy);refine⟨_,_,hx,hy,fun d=>?_⟩;have:((μ b).addr o==(μ b).addr o')=decide (o=o'):=by
    by_cases h:o=o'
    ·subst h;simp
    ·have:(μ b).addr o≠(μ b).addr o':=fun e=>h (by simp [Pl.addr] at e;omega);simp [this,h]
   simp [Op.equalIn,run_underlying ht,hsz,sameAddr,Pl.addr] at this ⊢;exact this
  ·cases h
 ·cases h
theorem X3{f:FuncId}{nm:String}(h:Wa P f nm=true):∃fn,P.funcs[f]?=some fn/\fn.name=nm/\fn.body=none/\fn.origin="":=by
 unfold Wa at h;split at h
 ·rename_i fn hf;simp only [xt,beq_iff_eq,Option.isNone_iff_eq_none] at h;exact⟨fn,hf,h.1.1,h.1.2,h.2⟩
 ·cases h
theorem VZ {f:FuncId} {fn:Func} {nm:String} (hf:P.funcs[f]?=some fn) (hn:fn.name=nm) (hb:fn.body=none) {e:Array Value->Sem Value} (h0:(nm=="runtime.NumGoroutine")=false)
 (h1:(Extern.allNextRows.lookup nm).isNone=true) (h2:(Extern.allNextRows.lookup fn.origin).isNone=true) (h3:(Extern.allGenericRows.lookup nm).isNone=true) (h4:(Extern.allTypedRows.lookup nm).isNone=true) (h5:Extern.allRows.lookup nm=some e) (args:Array Value):
 (callFunc f args).run P w=((e args).run P w).andThen fun v w'=>.ok (.value v) w':=by
 subst hn;refine run_callFunc_extern hf h0 (by simp [hb]) ?_ ?_ args w
 ·simp only [Extern.findNext,Option.isNone_iff_eq_none] at h1 h2 ⊢;simp [h1,h2]
 ·simp only [Extern.find,Option.isNone_iff_eq_none] at h3 h4 ⊢;simp [h3,h4,h5]
theorem CA(hR:Rel G μ K H w)(hF:xy μ K n F a.tmps){o:Oper}{p:PureOp}{v:V}(hc:Wn P G n o=some p)(h:qn F p=some v):
 ∃x,(execOp a.eval o).run P w=.ok (.value x) w/\RV μ K v x:=by
 unfold Wn at hc;split at hc
 ·rename_i op t x y ty ho;split at hc
  ·rename_i da db hu hx hy;have vx:=qr hR hF hx;have vy:=qr hR hF hy;have key:∀(hop:op=.add\/op=.eql\/op=.neq) (s q:ByteArray) (r:Value),da.ev F=.one (.str s)->db.ev F=.one (.str q)->(Op.stringOp op s q).run P w=.ok r w->(execOp a.eval o).run P w=.ok (.value r) w:=by
    intro hop s q r e1 e2 hr;rw [e1] at vx;rw [e2] at vy;have h1:a.eval x=.string s:=vx;have h2:a.eval y=.string q:=vy;simp [execOp,ho,h1,h2,uG,oO s q hop,hr]
   split at hc
   ·obtain rfl:=zsi hc;simp only [qn] at h;split at h
    ·rename_i s q e1 e2;split at h
     ·rename_i hle;obtain rfl:=zsi h;refine⟨_,key (.inl rfl) s q (.string (s++q)) e1 e2 ?_,rfl⟩;have hmax:IntKind.i64.max=9223372036854775807:=rfl;simp only [Op.stringOp];rw [if_neg (by rw [hmax];omega)];rfl
     ·cases h
    ·cases h
   ·obtain rfl:=zsi hc;simp only [qn] at h;split at h
    ·rename_i s q e1 e2;obtain rfl:=zsi h;exact⟨_,key (.inr (.inl rfl)) s q (.bool (s.data.toList==q.data.toList)) e1 e2 (by simp only [Op.stringOp,lK,Sem.run_pure]),rfl⟩
    ·cases h
   ·obtain rfl:=zsi hc;simp only [qn] at h;split at h
    ·rename_i s q e1 e2;obtain rfl:=zsi h;exact⟨_,key (.inr (.inr rfl)) s q (.bool !(s.data.toList==q.data.toList)) e1 e2 (by simp only [Op.stringOp,lK,Sem.run_pure]),rfl⟩
    ·cases h
   ·cases hc
  ·rename_i ms da db hu hx hy;have vx:=qr hR hF hx;have key:∀(neg:Bool) (op:BinOp),(op=.eql/\neg=false)\/(op=.neq/\neg=true)->o.op=.binOp op t x (.const .nilIface) ty->qn F (.ifeq neg da)=some v->∃r,(execOp a.eval o).run P w=.ok (.value r) w/\RV μ K v r:=by
    intro neg op hop ho h;simp only [qn] at h;have e2:a.eval (.const .nilIface)=.nilIface:=rfl;split at h
    ·rename_i e1;obtain rfl:=zsi h;rw [e1] at vx;obtain⟨tt,vv,h1⟩:∃t v,a.eval x=.iface t v:=vx;rcases hop with⟨rfl,rfl⟩|⟨rfl,rfl⟩
     ·exact⟨.bool false,by simp [execOp,ho,h1,e2,Yp,binOp,Op.equal,Op.maxDepth,uD hu 9999],rfl⟩
     ·exact⟨.bool true,by simp [execOp,ho,h1,e2,Yp,binOp,Op.equal,Op.maxDepth,uD hu 9999],rfl⟩
    ·rename_i e1;obtain rfl:=zsi h;rw [e1] at vx;have h1:a.eval x=.nilIface:=vx;rcases hop with⟨rfl,rfl⟩|⟨rfl,rfl⟩
     ·exact⟨.bool true,by simp [execOp,ho,h1,e2,Yp,binOp,Op.equal,Op.maxDepth,uE hu 9999],rfl⟩
     ·exact⟨.bool false,by simp [execOp,ho,h1,e2,Yp,binOp,Op.equal,Op.maxDepth,uE hu 9999],rfl⟩
    ·cases h
   split at hc
   ·obtain rfl:=zsi hc;exact key false .eql (.inl ⟨rfl,rfl⟩) ho h
   ·obtain rfl:=zsi hc;exact key true .neq (.inr ⟨rfl,rfl⟩) ho h
   ·cases hc
  ·rename_i e da db hu hx hy;have vx:=qr hR hF hx;have vy:=qr hR hF hy;split at hc
   ·rename_i k hs;obtain rfl:=zsi hc;simp only [qn,zom] at h;obtain⟨r,hr,rfl⟩:=h;obtain⟨p,q,h1,h2,h3⟩:=tG (P:=P) (w:=w) hu hs vx vy hr;exact⟨.bool r,by simp [execOp,ho,h1,h2,bI,binOp,Op.equal,Op.maxDepth,h3],rfl⟩
   ·rename_i k hs;obtain rfl:=zsi hc;simp only [qn,zom] at h;obtain⟨r,hr,rfl⟩:=h;obtain⟨p,q,h1,h2,h3⟩:=tG (P:=P) (w:=w) hu hs vx vy hr;exact⟨.bool !r,by simp [execOp,ho,h1,h2,bI,binOp,Op.equal,Op.maxDepth,h3],rfl⟩
   ·cases hc
  ·cases hc
 ·rename_i t x ho;split at hc
  ·cases hc
  ·rename_i d da hni hu hx;obtain rfl:=zsi hc;have vx:=qr hR hF hx;simp only [qn] at h;split at h
   ·cases h
   ·obtain rfl:=zsi h;refine⟨.iface t (a.eval x),?_,_,_,rfl⟩;cases d<;>first|(exact absurd rfl (hni _))|simp [execOp,ho,Instr.makeInterface,run_underlying hu]
  ·cases hc
 ·rename_i f first caps ho
  split at hc
  ·rename_i x hfirst hcaps;simp only [zom] at hc;obtain⟨dx,hx,rfl⟩:=hc;have vx:=qr hR hF hx;simp only [qn] at h;split at h
   ·rename_i b off he;obtain rfl:=zsi h;rw [he] at vx;obtain⟨hk,h1⟩:K b/\a.eval x=.pointer (some ((μ b).addr off)):=vx;have e1:first=#[x]:=by cases first;simp_all
    have e2:caps=#[]:=by simpa using hcaps
    exact⟨.func (.func f) #[.pointer (some ((μ b).addr off))] #[],by simp [execOp,ho,Instr.makeFunc,e1,e2,h1],hk,rfl⟩
   ·cases h
  ·cases hc
 ·rename_i args ts ho;split at hc
  ·rename_i x hargs;have hargs':args=#[x]:=by cases args;simp_all
   subst hargs';simp only [zom] at hc;obtain⟨dx,hx,rfl⟩:=hc;have vx:=qr hR hF hx;simp only [qn] at h;split at h
   ·rename_i b off len cap e ex he;obtain rfl:=zsi h;rw [he] at vx;obtain⟨hk,ad,c,h1,g1,g2,g3,g4⟩:RC μ K (.slc b off len (cap+1) e ex) (a.eval x):=vx;rcases g4 with g4|⟨rfl,_⟩
    ·omega
    ·have hc0:c≠0:=by omega
     exact⟨.pointer (some ((μ b).addr off)),by simp [execOp,ho,resolve,invoke,builtin,Lib.run_unsafeSliceData_row,h1,hc0],hk,rfl⟩
   ·rename_i he;obtain rfl:=zsi h;rw [he] at vx;have h1:a.eval x=.slice none 0 0:=vx;have hsd:(Builtin.unsafeSliceData_ ts o.type #[.slice none 0 0]).run P w=.ok (.pointer none) w:=rfl;exact⟨.pointer none,by simp [execOp,ho,resolve,invoke,builtin,hsd,h1],rfl⟩
   ·cases h
  ·cases hc
 ·rename_i f args ts ho;have hev:a.eval (.func f)=.func (.func f) #[] #[]:=rfl;split at hc
  ·rename_i x hargs;have hargs':args=#[x]:=by cases args;simp_all
   subst hargs';split at hc
   ·rename_i hext;simp only [zom] at hc;obtain⟨dx,hx,rfl⟩:=hc;have vx:=qr hR hF hx;simp only [qn,zoi] at h;subst h;obtain⟨fn,h1,h2,h3,h4⟩:=X3 hext;have hr:=VZ (P:=P) (w:=w) h1 h2 h3 (e:=Extern.AbiNoEscape.same) (by kernel_rfl) (by kernel_rfl) (by rw [h4];kernel_rfl) (by kernel_rfl) (by kernel_rfl) (by kernel_rfl) #[a.eval x];exact⟨a.eval x,by simp [execOp,ho,resolve,hev,Deferred.ofValue,invoke,hr,Lib.run_noEscape],vx⟩
   ·cases hc
  ·rename_i x y hargs;have hargs':args=#[x,y]:=by cases args;simp_all
   subst hargs';split at hc
   ·rename_i da db hx hy;have vx:=qr hR hF hx;have vy:=qr hR hF hy;split at hc
    ·rename_i hext;obtain rfl:=zsi hc;obtain⟨fn,h1,h2,h3,h4⟩:=X3 hext;have hr:=VZ (P:=P) (w:=w) h1 h2 h3 (e:=Extern.BytealgIndexByte.indexByte) (by kernel_rfl) (by kernel_rfl) (by rw [h4];kernel_rfl) (by kernel_rfl) (by kernel_rfl) (by kernel_rfl) #[a.eval x,a.eval y];simp only [qn] at h;split at h
     ·rename_i s c e1 e2;split at h
      ·rename_i hcc;obtain rfl:=zsi h;rw [e1] at vx;rw [e2] at vy;have g1:a.eval x=.string s:=vx;have g2:a.eval y=.int .u8 c:=vy;obtain⟨c,rfl⟩:=Int.eq_ofNat_of_zero_le hcc.1;refine⟨.int .i64 (Jw s.data.toList c 0),?_,rfl⟩;have e3:(execOp a.eval o).run P w=(callFunc f #[a.eval x,a.eval y]).run P w:=by simp [execOp,ho,resolve,hev,Deferred.ofValue,invoke]
       rw [e3,hr,g1,g2,run_indexByte_string];simp only [Result.andThen,Int.toNat_natCast,Lib.firstIdx_eq];rw [bP _ _ _ (by omega)];have hge:=Lib.indexByte_ge s.data.toList c.toUInt8;split<;>simp_all
      ·cases h
     ·cases h
    ·split at hc
     ·rename_i hext;obtain rfl:=zsi hc;obtain⟨fn,h1,h2,h3,h4⟩:=X3 hext;have hr:=VZ (P:=P) (w:=w) h1 h2 h3 (e:=Extern.BytealgCount.count) (by kernel_rfl) (by kernel_rfl) (by rw [h4];kernel_rfl) (by kernel_rfl) (by kernel_rfl) (by kernel_rfl) #[a.eval x,a.eval y];simp only [qn] at h;split at h
      ·rename_i s c e1 e2;split at h
       ·rename_i hcc;obtain rfl:=zsi h;rw [e1] at vx;rw [e2] at vy;have g1:a.eval x=.string s:=vx;have g2:a.eval y=.int .u8 c:=vy;obtain⟨c,rfl⟩:=Int.eq_ofNat_of_zero_le hcc.1;refine⟨.int .i64 (ZP s.data.toList c),?_,rfl⟩;have e3:(execOp a.eval o).run P w=(callFunc f #[a.eval x,a.eval y]).run P w:=by simp [execOp,ho,resolve,hev,Deferred.ofValue,invoke]
        rw [e3,hr,g1,g2];rw [Lib.run_countString];simp only [Result.andThen,Int.toNat_natCast];rw [cA _ _ (by omega)]
       ·cases h
      ·cases h
     ·cases hc
   ·cases hc
  ·cases hc
 ·cases hc
theorem lT(hR:Rel G μ K H w)(hF:xy μ K n F a.tmps){o:Oper}{p:PureOp}{v:V}(hc:ZN P G n o=some p)(h:qn F p=some v):
 ∃x,(execOp a.eval o).run P w=.ok (.value x) w/\RV μ K v x:=by
 unfold ZN at hc;split at hc
 ·rename_i q hq;obtain rfl:=zsi hc;exact CB hR hF hq h
 ·exact CA hR hF hc h
end
end Go.Ab
