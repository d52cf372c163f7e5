/- -/
import Derived.Test.YtandgamnamkkhaaGreatDoorAb7
import Derived.Laws.BytesString
set_option linter.unusedSimpArgs false
set_option linter.unusedVariables false
set_option maxRecDepth 8000
namespace Go.Ab
section
variable{P:Program}{G n:Nat}{μ:Nat->Pl}{K:Nat->Prop}{H:Hp}{w:World}{F:T V}{a:Act}
theorem EI{l:List C}{r:List UInt8}(h:kg l=some r):l.length=r.length/\∀(j:Nat) x,r[j]?=some x->∃m:Int,l[j]?=some (.int .u8 m)/\x=UInt8.ofNat m.toNat:=by
 induction l generalizing r with
 |nil=>simp [kg] at h;subst h;simp
 |cons c l ih=>
  unfold kg at h;split at h
  ·cases ‹_=[]›
  ·rename_i m l' e;injection e with e1 e2
   subst e1 e2;simp only [zom] at h;obtain⟨r',hr,rfl⟩:=h;obtain⟨h1,h2⟩:=ih hr;refine⟨by simp [h1],fun j x hx=>?_⟩;cases j with
   |zero=>simp at hx;exact⟨m,rfl,hx.symm⟩
   |succ j=>simpa using h2 j x (by simpa using hx)
  ·cases h
theorem Vv:∀{l:List C} {xs:List Value} {r:List UInt8},kg l=some r->qe (RC μ K) l xs->∃ns:List Int,xs=ns.map (Value.int .u8)/\r=ns.map fun n=>UInt8.ofNat n.toNat
 |[],[],r,h,_=>by simp [kg] at h;subst h;exact⟨[],rfl,rfl⟩
 |c::l,x::xs,r,h,ha=>by
  unfold kg at h;split at h
  ·cases ‹_=[]›
  ·rename_i m l' e;injection e with e1 e2
   subst e1 e2;simp only [zom] at h;obtain⟨r',hr,rfl⟩:=h;obtain⟨ns,h1,h2⟩:=Vv hr ha.2;obtain rfl:x=.int .u8 m:=ha.1;exact⟨m::ns,by simp [h1],by simp [h2]⟩
  ·cases h
 |[],_::_,_,_,ha=>ha.elim
 |_::_,[],_,_,ha=>ha.elim
theorem bO:∀(ns:List Int) (s:ByteArray),ns.foldl (fun r n=>r.push (UInt8.ofNat n.toNat)) s=⟨s.data++(ns.map fun n=>UInt8.ofNat n.toNat).toArray⟩
 |[],s=>by simp
 |n::ns,s=>by
  simp only [List.foldl_cons,bO ns,List.map_cons];apply ByteArray.ext;simp [ByteArray.push]
theorem tZ{e:TypeId}{k count:Nat}(hc:P.cellsOf e=k+1)(hn:1<=count):liesAt P P.depth e count 0 e 1=true:=by
 have hd:P.depth=(2*(P.types.size+Made.depth)+1)+1:=rfl;rw [hd];simp only [liesAt,Bool.or_eq_true];left;rw [hd];simp [rowAt,hc,hn,sameLayout]
theorem XR{s:ByteArray}:∀{es:List (V × V)} {ces:List MapEntry} {i:Nat} {r:Option (Nat × V)},qe (fun (e:V × V) (x:MapEntry)=>x8 μ K e.1 x.key/\x8 μ K e.2 x.val) es ces->
 Zw s.data.toList es i=some r->
 (r=none/\Instr.findNow .string (.string s) ces i=some none)\/∃j v x,r=some (j,v)/\Instr.findNow .string (.string s) ces i=some (some (j,x))/\x8 μ K v x
 |[],[],i,r,_,h=>by simp [Zw] at h;subst h;exact .inl ⟨rfl,by simp [Instr.findNow]⟩
 |e::es,c::ces,i,r,ha,h=>by
  obtain⟨e1,e2⟩:=e;simp only [Zw] at h;split at h
  ·rename_i q;have hck:c.key=.string q:=ha.1.1;have hb:(s==q)=(s.data.toList==q.data.toList):=by
    show (s.data==q.data)=_
    by_cases he:s.data=q.data
    ·rw [he];simp
    ·have h1:s.data.toList≠q.data.toList:=fun h=>he (Array.ext' h);simp [he,h1]
   simp only [Instr.findNow,hck,Instr.sameNow,hb];split at h
   ·rename_i hs;obtain rfl:=zsi h;rw [hs];exact .inr ⟨i,e2,c.val,rfl,rfl,ha.1.2⟩
   ·rename_i hs;have hs':(s.data.toList==q.data.toList)=false:=by simpa using hs
    rw [hs'];exact XR ha.2 h
  ·cases h
 |[],_::_,_,_,ha,_=>ha.elim
 |_::_,[],_,_,ha,_=>ha.elim
theorem vw{e:Bool}{d:Nat}{t:TypeId}(h:P.underlying t=some .string)(v:Value):(Instr.checkKey e (d+1) t v).run P w=.ok () w:=by
 simp [Instr.checkKey,run_underlying h]
theorem CO(hR:Rel G μ K H w)(hF:xy μ K n F a.tmps){o:Oper}{p:LoadOp}{v:V}(hc:Wp P G n o=some p)(h:qA F H p=some v):
 ∃x,(execOp a.eval o).run P w=.ok (.value x) w/\RV μ K v x:=by
 unfold Wp at hc;split at hc
 case _ src dst x ho=>
  have pc:∀{t:TypeId} {k:Nat} {d:Opd},zh P t=some (k+1)->cO G n x=some d->qA F H (.pcv t (P.cellsOf t) d)=some v->(P.underlying src=some (.pointer t)/\P.underlying dst=some .unsafePointer\/P.underlying src=some .unsafePointer/\P.underlying dst=some (.pointer t))->
   ∃x,(execOp a.eval o).run P w=.ok (.value x) w/\RV μ K v x:=by
   intro t k d hs hx h hu;have vx:=qr hR hF hx;obtain⟨j,hj,hjs⟩:∃j,P.info? t=some j/\j.size=k+1:=by
    unfold zh at hs;exact Option.map_eq_some_iff.1 hs
   simp only [qA] at h;split at h
   ·rename_i he;obtain rfl:=zsi h;rw [he] at vx;have h1:a.eval x=.pointer none:=vx;refine⟨.pointer none,?_,rfl⟩;rcases hu with⟨u1,u2⟩|⟨u1,u2⟩<;>simp [execOp,ho,h1,convert,run_underlying u1,run_underlying u2,Conv.unsafePointer]
   ·rename_i b off he;split at h
    ·rename_i t' l hb;split at h
     ·rename_i hcond;obtain⟨rfl,rfl,h0,hle⟩:=hcond;obtain rfl:=zsi h;rw [he] at vx;obtain⟨hk,h1⟩:K b/\a.eval x=.pointer (some ((μ b).addr 0)):=vx;obtain⟨cs,_,k1,k2,k3,k4,k5⟩:=hR.blk b _ hb;have had:(μ b).addr 0=⟨(μ b).blk,0,none⟩:=by simp [Pl.addr,k3]
      have hsh:w.shape? (μ b).blk=some (t',cs.size):=by simp [World.shape?,k1]
      refine⟨.pointer (some ((μ b).addr 0)),?_,hk,rfl⟩;rcases hu with⟨u1,u2⟩|⟨u1,u2⟩
      ·have:=Lib.run_to_unsafe (P:=P) w ⟨(μ b).blk,0,none⟩ u1 u2 hj (by omega) hsh (by show 0<cs.size;omega);simp [execOp,ho,h1,had,this]
      ·obtain⟨k',hk'⟩:∃k',P.cellsOf t'=k'+1:=⟨P.cellsOf t'-1,by omega⟩;have:=Lib.run_from_unsafe (P:=P) w ⟨(μ b).blk,0,none⟩ u1 u2 hj hsh (tZ hk' (by
        rw [Nat.le_div_iff_mul_le (by omega)];omega))
       simp [execOp,ho,h1,had,this]
     ·cases h
    ·cases h
   ·cases h
  split at hc
  ·rename_i e d hu hu' hx;split at hc
   ·rename_i he;obtain rfl:=zsi hc;have vx:=qr hR hF hx;simp only [qA] at h;split at h
    ·rename_i hn;obtain rfl:=zsi h;rw [hn] at vx;have h1:a.eval x=.slice none 0 0:=vx;refine⟨.string ByteArray.empty,?_,rfl⟩;simp [execOp,ho,h1,run_convert_bytes_string w src dst e none 0 0 hu he hu',Conv.bytesToString]
    ·rename_i b off len cap e' ex hn;split at h
     ·rename_i he1;subst he1;split at h
      ·rename_i cs hl;simp only [zom] at h;obtain⟨r,hr,rfl⟩:=h;rw [hn] at vx;obtain⟨hk,ad,c,h1,g1,g2,g3,g4⟩:RC μ K (.slc b off len cap 1 ex) (a.eval x):=vx;obtain⟨xs,hxs,hcells⟩:=hR.cells hl;obtain⟨ns,hns,rfl⟩:=Vv hr hxs;have hxl:xs.length=len:=by rw [<-hxs.len,zq hl]
       have hload:(loadCells ad len).run P w=.ok (ns.map (Value.int .u8)).toArray w:=by
        by_cases hl0:len=0
        ·subst hl0;have:xs=[]:=List.eq_nil_of_length_eq_zero hxl;subst this;have:ns=[]:=by simpa using hns.symm
         subst this;simp [loadCells,loadCellsFrom]
        ·rcases g4 with g4|⟨rfl,_⟩
         ·omega
         ·have:=Qu (P:=P) (w:=w) (ad:=(μ b).addr off) (xs:=xs) (i:=0) (acc:=#[]) fun j y hy=>by
           rw [zp,Nat.zero_add];exact hcells j y hy
          rw [hxl] at this;simp only [loadCells];rw [this,hns];simp
       refine⟨.string ⟨(ns.map fun (n:Int)=>UInt8.ofNat n.toNat).toArray⟩,?_,rfl⟩;simp only [execOp,ho,h1];refine jJ _ ?_;rw [run_convert_bytes_string w src dst e (some ad) len c hu he hu',run_bytesToString w ad len c ns hload,bO];simp
      ·cases h
     ·cases h
    ·cases h
   ·cases hc
  ·rename_i t d hu hu' hx;split at hc
   ·rename_i k hs;obtain rfl:=zsi hc;exact pc hs hx h (.inl ⟨hu,hu'⟩)
   ·cases hc
  ·rename_i t d hu hu' hx;split at hc
   ·rename_i k hs;obtain rfl:=zsi hc;exact pc hs hx h (.inr ⟨hu,hu'⟩)
   ·cases hc
  ·cases hc
 case _ t x lo hi ho=>
  split at hc
  ·rename_i ar d dlo dhi hu hx hlo hhi;split at hc
   ·rename_i len e hua;split at hc
    ·rename_i s hs;obtain rfl:=zsi hc;have vx:=qr hR hF hx;simp only [qA] at h;split at h
     ·rename_i b off he;rw [he] at vx;obtain⟨hk,h1⟩:K b/\a.eval x=.pointer (some ((μ b).addr off)):=vx;split at h
      ·rename_i nb z mm rw' hb;split at h
       ·rename_i hin;split at h
        ·cases h
        ·rename_i hh b2;split at h
         ·cases h
         ·rename_i l b3;obtain rfl:=zsi h;obtain⟨cs,tt,fz,k1,k2,k3,k4,k5⟩:=hR.blk b _ hb;have hhigh:hh<=len/\((hi.map a.eval=none/\hh=len)\/∃v,hi.map a.eval=some v/\(Instr.sliceBound v len .sliceAlen).run P w=.ok hh w):=by
           cases hi with
           |none=>
            simp only [jo,zoi] at hhi;subst hhi;simp [qF] at b2;subst b2;exact⟨Nat.le_refl _,.inl ⟨rfl,rfl⟩⟩
           |some xl=>
            simp only [jo,zom] at hhi;obtain⟨dl,hl,rfl⟩:=hhi;obtain⟨q1,q2⟩:=jT (P:=P) (code:=.sliceAlen) hR hF hl b2 (Nat.le_refl _);exact⟨q2,.inr ⟨_,rfl,q1⟩⟩
          have hlow:l<=hh/\((lo.map a.eval=none/\l=0)\/∃v,lo.map a.eval=some v/\(Instr.sliceBound v hh .sliceB).run P w=.ok l w):=by
           cases lo with
           |none=>
            simp only [jo,zoi] at hlo;subst hlo;simp [qF] at b3;subst b3;exact⟨by omega,.inl ⟨rfl,rfl⟩⟩
           |some xl=>
            simp only [jo,zom] at hlo;obtain⟨dl,hl,rfl⟩:=hlo;obtain⟨q1,q2⟩:=jT (P:=P) (code:=.sliceB) hR hF hl b3 (Nat.le_refl _);exact⟨q2,.inr ⟨_,rfl,q1⟩⟩
          refine⟨.slice (some (if len=l then (μ b).addr off else ((μ b).addr off).add (l*s))) (hh-l) (len-l),?_,hk,_,len-l,rfl,by omega,Nat.le_refl _,fun _=>rfl,?_⟩
          ·simp only [execOp,ho];refine jJ _ ?_;obtain⟨_,hhigh⟩:=hhigh;obtain⟨_,hlow⟩:=hlow;rcases hhigh with⟨e1,rfl⟩|⟨v1,e1,hb1⟩<;>rcases hlow with⟨e0,rfl⟩|⟨v0,e0,hb0⟩<;>
            simp [Instr.sliceAt,Instr.slice,Instr.sliceBounds,run_underlying hu,run_underlying hua,h1,e0,e1,asAddr,xN hs, *]
          ·by_cases hml:len=l
           ·left;omega
           ·right;rw [if_neg hml];refine⟨zp _ _ _,?_⟩;have:(len-l)*s+l*s=len*s:=by rw [<-Nat.add_mul];congr 1;omega
            omega
       ·cases h
      ·cases h
     ·cases h
    ·cases hc
   ·cases hc
  ·cases hc
 case _ t x i ok ho=>
  split at hc
  ·rename_i kt e m k hu hx hi;split at hc
   ·rename_i ie hk hie;split at hc
    ·rename_i z hz;simp only [zom] at hc;obtain⟨zv,hzv,rfl⟩:=hc;have hv:=qr hR hF hx;have hvi:=qr hR hF hi;have hzero:(zeroValue e).run P w=.ok z w:=by simp [zeroValue,typeInfo,hie,hz]
     have hz1:x8 μ K zv z:=dC hzv;simp only [qA] at h;split at h
     ·rename_i s ek em;obtain rfl:=zsi h;rw [em] at hv;rw [ek] at hvi;have hvi':a.eval i=.string s:=hvi;have hv':a.eval x=.map none:=hv;refine⟨if ok then .tuple #[z,.bool false] else z,?_,?_⟩
      ·simp [execOp,ho,Instr.lookup,hv',hvi',run_underlying hu,vw (d:=9999) hk,Instr.findKey,run_underlying hk,Instr.findNow,hzero]
      ·cases ok
       ·simpa [yG] using RV.of1 hz1
       ·exact⟨[z,.bool false],rfl,hz1,rfl,trivial⟩
     ·rename_i s b ek em;rw [em] at hv;rw [ek] at hvi;have hvi':a.eval i=.string s:=hvi;obtain⟨hkb,hv'⟩:K b/\a.eval x=.map (some (μ b).blk):=hv;split at h
      ·rename_i es hget;obtain⟨ces,clk,hob,hall⟩:=hR.blk b _ hget;have hobj:(getObj (μ b).blk).run P w=.ok (.map ces clk) w:=by simp [getObj,Sem.run,hob]
       split at h
       ·rename_i hf;obtain rfl:=zsi h;rcases XR hall hf with⟨_,h2⟩|⟨j,v,x,h1,_⟩
        ·refine⟨if ok then .tuple #[z,.bool false] else z,?_,?_⟩
         ·simp [execOp,ho,Instr.lookup,hv',hvi',run_underlying hu,hobj,vw (d:=9999) hk,Instr.findKey,run_underlying hk,h2,hzero]
         ·cases ok
          ·simpa [yG] using RV.of1 hz1
          ·exact⟨[z,.bool false],rfl,hz1,rfl,trivial⟩
        ·cases h1
       ·rename_i jj vv hf;obtain rfl:=zsi h;rcases XR hall hf with⟨h1,_⟩|⟨j,v,y,h1,h2,h3⟩
        ·cases h1
        ·obtain⟨rfl,rfl⟩:jj=j/\vv=v:=by simpa using h1
         refine⟨if ok then .tuple #[y,.bool true] else y,?_,?_⟩
         ·simp [execOp,ho,Instr.lookup,hv',hvi',run_underlying hu,hobj,vw (d:=9999) hk,Instr.findKey,run_underlying hk,h2]
         ·cases ok
          ·simpa [yG] using RV.of1 h3
          ·exact⟨[y,.bool true],rfl,h3,rfl,trivial⟩
       ·cases h
      ·cases h
     ·cases h
    ·cases hc
   ·cases hc
  ·cases hc
 case _=>cases hc
theorem HP(hR:Rel G μ K H w)(hF:xy μ K n F a.tmps){o:Oper}{p:LoadOp}{v:V}(hc:JG P G n o=some p)(h:qA F H p=some v):
 ∃x,(execOp a.eval o).run P w=.ok (.value x) w/\RV μ K v x:=by
 unfold JG at hc;split at hc
 ·rename_i q hq;obtain rfl:=zsi hc;exact CP hR hF hq h
 ·exact CO hR hF hc h
end
end Go.Ab
