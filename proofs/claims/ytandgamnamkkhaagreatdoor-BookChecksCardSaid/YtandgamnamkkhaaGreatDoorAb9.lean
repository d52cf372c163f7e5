/- -/
import Derived.Test.YtandgamnamkkhaaGreatDoorAb8
import Derived.Lib.MakeNoZero
set_option linter.unusedSimpArgs false
set_option linter.unusedVariables false
set_option maxRecDepth 8000
namespace Go.Ab
section
variable{P:Program}{G n:Nat}{μ:Nat->Pl}{K:Nat->Prop}{H H':Hp}{w:World}{F:T V}{a:Act}
theorem KS{e:TypeId}(h:vY P e=true):∃i z,P.info? e=some i/\P.cellsOf e=1/\i.size=1/\i.bytes=1/\wC P e=some z/\z.length=1:=by
 unfold vY at h;split at h
 ·rename_i i hi;simp only [xt,beq_iff_eq] at h;obtain⟨⟨⟨⟨_,h1⟩,h2⟩,h3⟩,h4⟩:=h;split at h4
  ·rename_i z hz;exact⟨i,z,hi,h1,h2,h3,hz,by simpa using h4⟩
  ·cases h4
 ·cases h
theorem nW (hR:Rel G μ K H w) (hF:xy μ K n F a.tmps) {o:Oper} {s x:Operand} {t t' e:TypeId} {ds dx:Opd} {v:V} (ho:o.op=.call { callee:=.builtin .append,args:=#[s,x],argTypes:=#[t,t'] }) (hu:P.underlying t=some (.slice e)) (hu':dG P t') (hs:cO G n s=some ds) (hx:cO G n x=some dx)
 (hb:vY P e=true) (h:qM F H (.appendb e ds dx)=some (v,H')):
 ∃nx x w' μ' K',(execOp a.eval o).run P w=.ok nx w'/\V7 nx x/\RV μ' K' v x/\Rel G μ' K' H' w'/\Fr μ K H w μ' K' H' w':=by
 obtain⟨i,z,hi,_,h1,h2,hz,hzl⟩:=KS hb;have vs:=qr hR hF hs;have vx:=qr hR hF hx;simp only [qM] at h;split at h
 ·rename_i m news hsrc;obtain⟨i',zv,hi',hzv,hall⟩:=jL (μ:=μ) (K:=K) hz;obtain rfl:i=i':=by rw [hi] at hi';exact zsi hi'
  have hzs:zv.cells.size=i.size:=by have:=hall.len;simp at this;omega
  obtain⟨r,w',μ',K',g1,g2,g3,g4⟩:=rJ (P:=P) (ty:=o.type) hR hu hu' hi h1 h2 hzv hzs vs vx hsrc h;exact⟨.value r,r,w',μ',K',by simp [execOp,ho,resolve,invoke,builtin,g1],.inl rfl,g2,g3,g4⟩
 ·cases h
theorem JC:∀(n t:Nat) (acc:Array Value),(∀(i:Nat) x,acc[i]?=some x->∃k m,x=.int k m)->∀(i:Nat) x,(Extern.BytealgMakeNoZero.digits n t acc)[i]?=some x->∃k m,x=.int k m
 |0,_,_,h,i,x,hx=>h i x hx
 |n+1,t,acc,h,i,x,hx=>by
  rw [Extern.BytealgMakeNoZero.digits] at hx;refine JC n _ _ (fun j y hy=>?_) i x hx;rw [Array.getElem?_push] at hy;split at hy
  ·exact⟨_,_,(zsi hy).symm⟩
  ·exact h j y hy
theorem N8(hR:Rel G μ K H w){e t:TypeId}{ps:Array TypeId}{m:Nat}(ht:P.underlying t=some (.slice e))(hm:m<=140737488355328):
 ∃x w' μ' K',(Extern.BytealgMakeNoZero.makeNoZero ps #[t] #[.int .i64 m]).run P w=.ok x w'/\RV μ' K' (.one (.slc H.nx 0 m m 1 false)) x/\Rel G μ' K' (H.push (.tr e (List.replicate m .anyi))) w'/\Fr μ K H w μ' K' (H.push (.tr e (List.replicate m .anyi))) w':=by
 have hdef:Extern.BytealgMakeNoZero.makeNoZero ps #[t] #[.int .i64 m]=
  (do
   let .slice elem<-underlying t|stuck "bytealg.MakeNoZero: slice type expected"
   if (m:Int)<0||(m:Int)>2^48 then runtimePanic (.error "makeslice: len out of range")
   let cap<-choose (.appendCap (m:Int).toNat 0 elem)
   askRoom cap
   let bytes<-choose (.extern "internal/bytealg.MakeNoZero.bytes" 0);let a<-newRow elem (Extern.BytealgMakeNoZero.digits cap bytes #[])
   pure (.slice (some a) (m:Int).toNat cap)):=rfl
 have h1:¬(m:Int)<0:=by omega
 have h2:¬(281474976710656:Int)<(m:Int):=by omega
 obtain⟨cs,hcs,hge,hall⟩:∃cs:Array Value,(Extern.BytealgMakeNoZero.makeNoZero ps #[t] #[.int .i64 m]).run P w=.ok (.slice (some ⟨w.heap.size,0,none⟩) m cs.size) { w with drawn:=w.drawn+1+1,heap:=w.heap.push (.cells cs e) }/\m<=cs.size/\∀(i:Nat) x,cs[i]?=some x->∃k m,x=.int k m:=by
  refine⟨Extern.BytealgMakeNoZero.digits (grownCap w m 0 e) ((Question.extern "internal/bytealg.MakeNoZero.bytes" 0).cut (w.tape (w.drawn+1) (.extern "internal/bytealg.MakeNoZero.bytes" 0))) #[],?_,?_,fun i x hx=>JC _ _ _ (fun j y hy=>by simp at hy) i x hx⟩
  ·rw [hdef];simp [run_underlying ht,h1,h2,Question.forced,newRow,Lib.size_digits,grownCap];rfl
  ·rw [Lib.size_digits];simpa using grownCap_ge w m 0 e
 have hrb:RB μ K ⟨w.heap.size,0,cs.size⟩ (.tr e (List.replicate m .anyi)) (some (.cells cs e)):=by
  refine⟨cs,(),rfl,rfl,rfl,by simpa using hge,fun i c hc=>?_⟩;have hi:i<m:=by have:=(zgs hc).1;simpa using this
  rw [List.getElem?_replicate,if_pos hi] at hc;obtain rfl:=zsi hc;exact⟨cs[i],Array.getElem?_eq_getElem (by omega),hall i _ (Array.getElem?_eq_getElem (by omega))⟩
 obtain⟨r1,r2⟩:=hR.push' (d:=w.drawn+1+1) (by omega) hrb;exact⟨_,_,_,_,hcs,⟨.inr rfl,_,cs.size,rfl,Nat.le_refl _,hge,by simp,.inr ⟨by simp [Pl.addr],by simp⟩⟩,r1,r2⟩
theorem Jl:∀(cs:List Value) (r:List UInt8) (ad:Addr) (acc:ByteArray),cs.length=r.length->(∀(j:Nat) y,cs[j]?=some y->w.cell? (ad.add j)=some y)->(∀(j:Nat) x,r[j]?=some x->∃m:Int,cs[j]?=some (.int .u8 m)/\x=UInt8.ofNat m.toNat)->
 (loadBytes ad acc r.length).run P w=.ok ⟨acc.data++r.toArray⟩ w
 |[],[],ad,acc,_,_,_=>by simp [loadBytes]
 |y::cs,x::r,ad,acc,hl,h,hx=>by
  obtain⟨m,hm,rfl⟩:=hx 0 x rfl;simp only [List.getElem?_cons_zero,zoi] at hm;subst hm;have h0:w.cell? ad=some (.int .u8 m):=by
   have:=h 0 _ rfl;simpa [Addr.add] using this
  have ih:=Jl cs r (ad.add 1) (acc.push (UInt8.ofNat m.toNat)) (by simpa using hl) (fun j y hy=>by
   have:=h (j+1) y (by simpa using hy);have e:(ad.add 1).add j=ad.add (j+1):=by
    unfold Addr.add;by_cases hj:j=0
    ·subst hj;simp
    ·simp [hj];omega
   rw [e];exact this) (fun j x hj=>by simpa using hx (j+1) x (by simpa using hj))
  simp only [List.length_cons,loadBytes,Sem.run_bind,run_load,h0,Result.andThen];rw [show m.toNat.toUInt8=UInt8.ofNat m.toNat from rfl,ih];congr 1;apply ByteArray.ext;simp [ByteArray.push]
 |[],_::_,_,_,hl,_,_=>by simp at hl
 |_::_,[],_,_,hl,_,_=>by simp at hl
theorem G0(hR:Rel G μ K H w){b:Nat}{t pt ty:TypeId}{l0:List C}{m:Nat}{cs:List C}{l:List UInt8}(hp:P.underlying pt=some (.pointer t))(hc:P.cellsOf t=1)(hb:H.get b=some (.tr t l0))(hm0:0<m)(hm:m<=140737488355328)(hl:H.loads b 0 m=some cs)(hbl:kg cs=some l)(it:TypeId):
 ∃w',(Builtin.unsafeString_ #[pt,it] ty #[.pointer (some ((μ b).addr 0)),.int .i64 m]).run P w=.ok (.string ⟨l.toArray⟩) w'/\Rel G μ K (H.del b) w'/\Fr μ K H w μ K (H.del b) w':=by
 obtain⟨cv,_,k1,k2,k3,k4,k5⟩:=hR.blk b _ hb;obtain⟨b1,b2⟩:=EI hbl;have hlen:=zq hl;obtain⟨xs,hxs,hcells⟩:=hR.cells hl;have hxl:xs.length=m:=by rw [<-hxs.len,hlen]
 have had:(μ b).addr 0=⟨(μ b).blk,0,none⟩:=by simp [Pl.addr,k3]
 have hle:m<=cv.size:=by
  have:=hcells (m-1) xs[m-1] (zge (by omega));rw [Qb k1,k3] at this;have:=(Array.getElem?_eq_some_iff.1 this).1;omega
 have hlb:=Jl (P:=P) (w:=w) xs l ⟨(μ b).blk,0,none⟩ .empty (by omega) (fun j y hy=>by
  rw [<-had,zp];exact hcells j y hy) (fun j x hx=>by
  obtain⟨q,hq,e⟩:=b2 j x hx;obtain⟨y,hy,hr⟩:=hxs.at j _ hq;obtain rfl:y=.int .u8 q:=hr;exact⟨q,hy,e⟩)
 have hsh:w.shape? (μ b).blk=some (t,cv.size):=by simp [World.shape?,k1]
 have hlies:=Lib.liesAt_bytes (P:=P) hc (cv.size/P.cellsOf t) m (by rw [hc];simpa using hle);have hml:l.length=m:=by omega
 have h63:¬(9223372036854775807:Int)<(m:Int):=by omega
 have hmax:IntKind.i64.max=9223372036854775807:=rfl;have hneg:¬(m:Int)<0:=by omega
 have hm1:m≠0:=by omega
 obtain⟨e1,e2,e3,hdef⟩:∃e1 e2 e3,Builtin.unsafeString_ #[pt,it] ty #[.pointer (some ⟨(μ b).blk,0,none⟩),.int .i64 m]=
  (do
   let n<-asInt (.int .i64 m)
   if n<0 then runtimePanic e1
   if n>IntKind.i64.max then unsupported e2
   if n=0 then pure (.string .empty)
   else if<-variablesAt ⟨(μ b).blk,0,none⟩ (<-elemOf pt) n.toNat then do
    let s<-loadBytes ⟨(μ b).blk,0,none⟩ .empty n.toNat
    freeze ⟨(μ b).blk,0,none⟩ n.toNat
    pure (.string s)
   else unsupported e3):=⟨_,_,_,rfl⟩
 rw [hml] at hlb;refine⟨w.freeze ⟨(μ b).blk,0,none⟩ m,?_,?_,?_⟩
 ·rw [had,hdef];simp [asInt,asIntOf,hmax,h63,hneg,hm1,variablesAt,hsh,elemOf,run_underlying hp,hlies,hlb]
 all_goals
  have hh:∀i,i≠(μ b).blk->(w.freeze ⟨(μ b).blk,0,none⟩ m).heap[i]?=w.heap[i]?:=fun i hi=>by
   simp only [World.freeze,hm1,if_false,Array.getElem?_modify];rw [if_neg (fun h=>hi h.symm)]
  have hget:∀i k,(H.del b).get i=some k->i≠b/\H.get i=some k:=fun i k h=>by
   rw [Hp.get_del] at h;split at h
   ·cases h
   ·rename_i e;exact⟨e,h⟩
  have hsz:(w.freeze ⟨(μ b).blk,0,none⟩ m).heap.size=w.heap.size:=by simp [World.freeze,hm1]
 ·refine⟨fun i k h=>hR.dom i k (hget i k h).2,hR.lt,fun i k h=>?_,fun i j k k' h h'=>hR.inj i j k k' (hget _ _ h).2 (hget _ _ h').2,hR.glob⟩;obtain⟨h1,h2⟩:=hget i k h;rw [hh _ (fun he=>h1 (hR.inj b i _ _ hb h2 rfl he.symm).symm)];exact hR.blk i k h2
 ·refine⟨⟨by simp [World.freeze,hm1],by simp [World.freeze,hm1],by simp [World.freeze,hm1],by simp [World.freeze,hm1]⟩,by omega,fun i hi hn=>hh i (fun e=>hn b _ hb rfl e.symm),fun i k h hm=>.inl ⟨i,k,(hget i k h).2,hm,rfl⟩,fun i k hi h=>absurd (hR.lt' i k (hget i k h).2) (by omega),fun _ _=>rfl,fun _ h=>h,fun _ _ h=>h,Nat.le_refl _,fun i hi hn=>?_,fun i k k' h h'=>?_,fun i k h hm=>?_⟩
  ·rw [Hp.get_del,hn];simp
  ·have:=(hget i k' h').2;rw [h] at this;rw [zsi this]
  ·rw [Hp.get_del,if_neg (fun e=>by subst e;rw [hb] at h;rw [<-zsi h] at hm;cases hm)];exact h
theorem lI(hR:Rel G μ K H w){t kt et:TypeId}{m k x:V}{vm vk vx:Value}{v:V}(hu:P.underlying t=some (.map kt et))(hkt:P.underlying kt=some .string)(hm:RV μ K m vm)(hk:RV μ K k vk)(hx:RV μ K x vx){F:T V}{om ok ox:Opd}(e1:om.ev F=m)(e2:ok.ev F=k)(e3:ox.ev F=x)(h:qM F H (.smapupd om ok ox)=some (v,H')):
 v=V.undef/\∃w',(Instr.mapUpdate t vm vk vx).run P w=.ok () w'/\Rel G μ K H' w'/\Fr μ K H w μ K H' w':=by
 simp only [qM,e1,e2,e3] at h;split at h
 ·rename_i b s;split at h
  ·rename_i es hget;split at h
   ·rename_i hone;split at h
    ·rename_i hf;simp only [zoi,zpi] at h;obtain⟨rfl,rfl⟩:=h;obtain⟨hkb,vm'⟩:K b/\vm=.map (some (μ b).blk):=hm;have vk':vk=.string s:=hk;have vx1:=W5 hone hx;obtain⟨ces,clk,hob,hall⟩:=hR.blk b _ hget;have hobj:(getObj (μ b).blk).run P w=.ok (.map ces clk) w:=by simp [getObj,Sem.run,hob]
     have hset:∀ob,(setObj (μ b).blk ob).run P w=.ok () { w with heap:=w.heap.setIfInBounds (μ b).blk ob }:=fun ob=>by simp [setObj,Sem.run,hob]
     rcases XR hall hf with⟨_,h2⟩|⟨j,v,x,h1,_⟩
     ·obtain⟨r1,r2⟩:=hR.setMap (es':=es++[(.one (.str s),x)]) (ces:=ces.push { key:=.string s,val:=vx,born:=clk }) (clk:=clk+1) hget (by
       simp only [Array.toList_push];exact hall.append ⟨⟨rfl,vx1⟩,trivial⟩) _ rfl
      refine⟨rfl,_,?_,r1,r2⟩;simp [Instr.mapUpdate,vm',vk',run_underlying hu,hobj,vw (d:=9999) hkt,Instr.findKey,run_underlying hkt,h2,hset]
     ·cases h1
    ·cases h
   ·cases h
  ·cases h
 ·cases h
theorem LD(hR:Rel G μ K H w)(hF:xy μ K n F a.tmps){o:Oper}{p:EffOp}{v:V}(hc:Vr P G n o=some p)(h:qM F H p=some (v,H')):
 ∃nx x w' μ' K',(execOp a.eval o).run P w=.ok nx w'/\V7 nx x/\RV μ' K' v x/\Rel G μ' K' H' w'/\Fr μ K H w μ' K' H' w':=by
 unfold Vr at hc;split at hc
 case _ args ts ho=>
  split at hc
  ·rename_i s x t t' hargs hts;have hargs':args=#[s,x]:=by cases args;simp_all
   have hts':ts=#[t,t']:=by cases ts;simp_all
   subst hargs' hts';split at hc
   ·rename_i e e' ds dx hu hu' hs hx;split at hc
    ·rename_i hb;obtain rfl:=zsi hc;exact nW hR hF ho hu (.inl ⟨_,hu'⟩) hs hx hb h
    ·cases hc
   ·rename_i e ds dx hu hu' hs hx;split at hc
    ·rename_i hb;obtain rfl:=zsi hc;exact nW hR hF ho hu (.inr hu') hs hx hb h
    ·cases hc
   ·cases hc
  ·cases hc
 case _ f args ts ho=>
  split at hc
  ·rename_i x fn hargs hfn;have hargs':args=#[x]:=by cases args;simp_all
   subst hargs';split at hc
   ·rename_i hext;split at hc
    ·rename_i t d hrt hx;split at hc
     ·rename_i e hu;split at hc
      ·rename_i hb;obtain rfl:=zsi hc;have vx:=qr hR hF hx;simp only [qM] at h;split at h
       ·rename_i m em;split at h
        ·rename_i hm;simp only [zoi,zpi] at h;obtain⟨rfl,rfl⟩:=h;rw [em] at vx;have vx':a.eval x=.int .i64 m:=vx;obtain⟨m,rfl⟩:=Int.eq_ofNat_of_zero_le hm.1;obtain⟨fn',h1,h2,h3,h4⟩:=X3 hext;obtain rfl:fn=fn':=by rw [hfn] at h1;exact zsi h1
         have hrt':fn.resultTypes=#[t]:=by cases hq:fn.resultTypes;simp_all
         obtain⟨r,w',μ',K',g1,g2,g3,g4⟩:=N8 (P:=P) (ps:=fn.params) hR hu (m:=m) (by omega);have hrun:(callFunc f #[a.eval x]).run P w=.ok (.value r) w':=by
          rw [run_callFunc_extern (e:=Extern.BytealgMakeNoZero.makeNoZero fn.params #[t]) hfn (by rw [h2];kernel_rfl) (by simp [h3]) (by
           unfold Extern.findNext;simp only [h2,h4]
           kernel_rfl) (by
           unfold Extern.find;simp only [h2,h4,hrt'];rfl),vx',g1]
          rfl
         have hev:a.eval (.func f)=.func (.func f) #[] #[]:=rfl;refine⟨.value r,r,w',μ',K',by simp [execOp,ho,resolve,hev,Deferred.ofValue,invoke,hrun],.inl rfl,?_,g3,g4⟩;simpa using g2
        ·cases h
       ·cases h
      ·cases hc
     ·cases hc
    ·cases hc
   ·cases hc
  ·cases hc
 case _ args ts ho=>
  split at hc
  ·rename_i x y t t' hargs hts;have hargs':args=#[x,y]:=by cases args;simp_all
   have hts':ts=#[t,t']:=by cases ts;simp_all
   subst hargs' hts';split at hc
   ·rename_i e dp dq hu hx hy;split at hc
    ·rename_i hb;obtain rfl:=zsi hc;obtain⟨i,z,hi,hcell,_⟩:=KS hb;have vx:=qr hR hF hx;have vy:=qr hR hF hy;simp only [qM] at h;split at h
     ·rename_i ep eq;simp only [zoi,zpi] at h;obtain⟨rfl,rfl⟩:=h;rw [ep] at vx;rw [eq] at vy;have h1:a.eval x=.pointer none:=vx;have h2:a.eval y=.int .i64 0:=vy;have hr:(Builtin.unsafeString_ #[t,t'] o.type #[.pointer none,.int .i64 0]).run P w=.ok (.string .empty) w:=Lib.run_unsafeString_none w t t' o.type none;exact⟨.value (.string .empty),.string .empty,w,μ,K,by simp [execOp,ho,resolve,invoke,builtin,h1,h2,hr],.inl rfl,rfl,hR,Fr.refl hR⟩
     ·rename_i b m ep eq;split at h
      ·rename_i tt l0 hget;split at h
       ·rename_i hcond;obtain⟨rfl,hm0,hm1⟩:=hcond;split at h
        ·rename_i cs hld;split at h
         ·rename_i l hbl;simp only [zoi,zpi] at h;obtain⟨rfl,rfl⟩:=h;rw [ep] at vx;rw [eq] at vy;obtain⟨hkb,h1⟩:K b/\a.eval x=.pointer (some ((μ b).addr 0)):=vx;have h2:a.eval y=.int .i64 m:=vy;obtain⟨m,rfl⟩:=Int.eq_ofNat_of_zero_le (by omega:0<=m);obtain⟨w',g1,g2,g3⟩:=G0 (P:=P) (ty:=o.type) hR hu hcell hget (m:=m) (by omega) (by omega) hld hbl t';exact⟨.value _,_,w',μ,K,by simp [execOp,ho,resolve,invoke,builtin,h1,h2,g1],.inl rfl,rfl,g2,g3⟩
         ·cases h
        ·cases h
       ·cases h
      ·cases h
     ·cases h
    ·cases hc
   ·cases hc
  ·cases hc
 case _ t m k x ho=>
  split at hc
  ·rename_i kt et dm dk dx hu hm hk hx;split at hc
   ·rename_i hkt;obtain rfl:=zsi hc;obtain⟨rfl,w',g1,g2,g3⟩:=lI (P:=P) hR hu hkt (qr hR hF hm) (qr hR hF hk) (qr hR hF hx) rfl rfl rfl h;exact⟨.skip,Go.undef,w',μ,K,by simp [execOp,ho,g1],.inr ⟨rfl,rfl⟩,RV.undef,g2,g3⟩
   ·cases hc
  ·cases hc
 case _ t m k x ho=>
  split at hc
  ·rename_i kt et dm dk dx hu hm hk hx;split at hc
   ·rename_i hkt;obtain rfl:=zsi hc;obtain⟨rfl,w',g1,g2,g3⟩:=lI (P:=P) hR hu hkt (qr hR hF hm) (qr hR hF hk) (qr hR hF hx) rfl rfl rfl h;exact⟨.skip,Go.undef,w',μ,K,by simp [execOp,ho,g1],.inr ⟨rfl,rfl⟩,RV.undef,g2,g3⟩
   ·cases hc
  ·cases hc
 case _=>cases hc
theorem TC(hR:Rel G μ K H w)(hF:xy μ K n F a.tmps){o:Oper}{p:EffOp}{v:V}(hc:Vt P G n o=some p)(h:qM F H p=some (v,H')):
 ∃nx x w' μ' K',(execOp a.eval o).run P w=.ok nx w'/\V7 nx x/\RV μ' K' v x/\Rel G μ' K' H' w'/\Fr μ K H w μ' K' H' w':=by
 unfold Vt at hc;split at hc
 ·rename_i q hq;obtain rfl:=zsi hc;exact LD hR hF hq h
 ·exact LE hR hF hc h
end
end Go.Ab
