/- -/
import Derived.Test.YtdlelodnhjacgaaGreatDoorAb1
set_option linter.unusedSimpArgs false
set_option linter.unusedVariables false
set_option maxRecDepth 8000
namespace Go.Ab
section
variable{P:Program}{G n:Nat}{μ:Nat->Pl}{K:Nat->Prop}{H:Hp}{w:World}{F:T V}{a:Act}
theorem Po{op:BinOp}{t:TypeId}{k k':IntKind}{x y:Int}{c:C}(h:Zt op k x k' y=some c):
 ∃v,(binOp op t (.int k x) (.int k' y)).run P w=.ok v w/\RC μ K c v:=by
 cases op
 case shl=>
  simp only [Zt] at h;split at h
  ·cases h
  ·rename_i hy;obtain rfl:=zsi h;exact⟨_,by show (Op.shift .shl k x k' y).run P w=_;simp [Op.shift,hy],rfl⟩
 case shr=>
  simp only [Zt] at h;split at h
  ·cases h
  ·rename_i hy;obtain rfl:=zsi h;exact⟨_,by show (Op.shift .shr k x k' y).run P w=_;simp [Op.shift,hy],rfl⟩
 all_goals
  simp only [Zt] at h;split at h
  ·cases h
  ·rename_i hk;obtain rfl:k=k':=by simpa using hk
   first
    |(
     obtain rfl:=zsi h;exact⟨_,by simp only [binOp];simp [Op.intArith,Op.intBits,Op.intCmp],rfl⟩)
    |(
     split at h
     ·cases h
     ·rename_i hy;obtain rfl:=zsi h;exact⟨_,by simp only [binOp];simp [Op.intDiv,hy],rfl⟩)
theorem TZ{op:BinOp}{t:TypeId}{x y:Operand}{k k':IntKind}{p q:Int}:(eqGuard op t x y (.int k p) (.int k' q)).run P w=.ok () w:=by
 cases op<;>simp [eqGuard]
theorem oW{op:BinOp}{t:TypeId}{x y:Operand}{p q:Bool}:(eqGuard op t x y (.bool p) (.bool q)).run P w=.ok () w:=by
 cases op<;>simp [eqGuard]
theorem oV{op:BinOp}{t:TypeId}{x y:Operand}{p:Option Addr}{q:Option Addr}{l c m d:Nat}:(eqGuard op t x y (.slice p l c) (.slice q m d)).run P w=.ok () w:=by
 cases op<;>simp [eqGuard]
theorem iE(d:Nat){xs ys:List C}{vx vy:List Value}(hx:qe (RC μ K) xs vx)(hy:qe (RC μ K) ys vy):∀{fs:List Field} {ks:List (Nat × Bool)} {r:Bool},QT P fs=some ks->Zs xs ys ks=some r->
 (Op.eqFields (d+1) vx.toArray vy.toArray fs).run P w=.ok r w
 |[],ks,r,h,he=>by
  simp [QT] at h;subst h;simp [Zs] at he;subst he;simp [Op.eqFields]
 |f::fs,ks,r,h,he=>by
  simp only [QT] at h;simp only [Op.eqFields];by_cases hn:f.name≠ "_"
  ·simp only [if_pos hn] at h ⊢;have step:∀l tg,QT P fs=some l->ks=(f.offset,tg)::l->((∃k,P.underlying f.type=some (.int k))/\tg=false\/P.underlying f.type=some .bool/\tg=true)->(do
    let a<-part f.type vx.toArray f.offset;let b<-part f.type vy.toArray f.offset;let r<-Op.equalIn (d+1) f.type a b
    if (!r)=true then pure false else Op.eqFields (d+1) vx.toArray vy.toArray fs:Sem Bool).run P w=.ok r w:=by
    intro l tg hl hk hu;subst hk;simp only [Zs] at he;cases ex:xs[f.offset]? with
    |none=>simp [ex] at he
    |some cx=>
     cases ey:ys[f.offset]? with
     |none=>simp [ex,ey] at he
     |some cy=>
      simp only [ex,ey] at he;obtain⟨x,hx',hrx⟩:=hx.at _ _ ex;obtain⟨y,hy',hry⟩:=hy.at _ _ ey;have hpart:∀(l:List Value) (u:Value),l[f.offset]?=some u->(part f.type l.toArray f.offset).run P w=.ok u w:=by
       intro l u hu';rcases hu with⟨⟨k,hu⟩,_⟩|⟨hu,_⟩<;>simp [part,isAgg,run_underlying hu,hu']
      cases hq:pV tg cx cy with
      |none=>simp [hq] at he
      |some b=>
       have heq:(Op.equalIn (d+1) f.type x y).run P w=.ok b w:=by
        rcases hu with⟨⟨k,hu⟩,rfl⟩|⟨hu,rfl⟩
        ·cases cx<;>cases cy<;>simp only [pV] at hq<;>try (cases hq;done)
         split at hq
         ·rename_i hkk;obtain rfl:=zsi hq;simp only [RC] at hrx hry;subst hrx hry hkk;exact run_equalIn_int w d _ _ _ _ _ hu
         ·cases hq
        ·cases cx<;>cases cy<;>simp only [pV] at hq<;>try (cases hq;done)
         obtain rfl:=zsi hq;simp only [RC] at hrx hry;subst hrx hry;exact run_equalIn_bool' w d _ _ _ hu
       cases b with
       |true=>simp only [hq] at he;simp [hpart _ _ hx',hpart _ _ hy',heq,iE d hx hy hl he]
       |false=>simp only [hq,zoi] at he;subst he;simp [hpart _ _ hx',hpart _ _ hy',heq]
   cases hu:P.underlying f.type with
   |none=>simp [hu] at h
   |some t=>
    cases hl:QT P fs with
    |none=>cases t<;>simp [hu,hl] at h
    |some l=>
     cases t<;>simp [hu,hl] at h
     ·exact step l true hl h.symm (.inr ⟨hu,O⟩)
     ·exact step l false hl h.symm (.inl ⟨⟨_,hu⟩,O⟩)
  ·simp only [if_neg hn] at h ⊢;exact iE d hx hy h he
end
section
variable{P:Program}{G n:Nat}{μ:Nat->Pl}{K:Nat->Prop}{H:Hp}{w:World}{F:T V}{a:Act}
theorem RC.slc_at{b o len cap e:Nat}{ex:Bool}{x:Value}(h:RC μ K (.slc b o len cap e ex) x)(hl:0<len):
 ∃c,x=.slice (some ((μ b).addr o)) len c/\len<=c/\K b/\(μ b).off+o+c*e<=(μ b).size/\cap<=c/\len<=cap/\(ex=true->c=cap):=by
 obtain⟨hb,ad,c,rfl,h1,h2,h3,h4⟩:=h;rcases h4 with h4|⟨rfl,h5⟩
 ·omega
 ·exact⟨c,O,by omega,hb,h5,h2,h1,h3⟩
theorem GC(hR:Rel G μ K H w)(hF:xR μ K n F a.tmps):∀{xs:List Operand} {ds:List Opd} {l:List (Nat × Nat)},KJ G n xs=some ds->kN F ds=some l->
 (∀p∈l,K p.1)/\xs.map a.eval=l.map fun p=>Value.pointer (some ((μ p.1).addr p.2))
 |[],ds,l,h,hl=>by
  simp [KJ] at h;subst h;simp [kN] at hl;subst hl;simp
 |x::xs,ds,l,h,hl=>by
  simp only [KJ] at h;cases hx:cO G n x with
  |none=>simp [hx] at h
  |some d=>
   cases hr:KJ G n xs with
   |none=>simp [hx,hr] at h
   |some ds'=>
    simp only [hx,hr,zoi] at h;subst h;simp only [kN] at hl;have hv:=qy hR hF hx;cases hc:kN F ds' with
    |none=>simp only [hc] at hl;split at hl<;>simp_all
    |some l'=>
     cases he:d.ev F with
     |one c=>
      cases c<;>simp only [he,hc] at hl<;>try (cases hl;done)
      rename_i b o;obtain rfl:=zsi hl;rw [he] at hv;obtain⟨hk,hv⟩:K b/\a.eval x=.pointer (some ((μ b).addr o)):=hv;obtain⟨h1,h2⟩:=GC hR hF hr hc;refine⟨fun p hp=>?_,by simp [hv,h2]⟩;rcases zd.1 hp with rfl|hp
      ·exact hk
      ·exact h1 p hp
     |agg l=>simp [he,hc] at hl
     |tup l=>simp [he,hc] at hl
theorem kj(hR:Rel G μ K H w)(hF:xR μ K n F a.tmps){x:Operand}{d:Opd}{y r dd:Nat}{code:BoundsCode}(hx:cO G n x=some d)(h:qQ F dd y (some d)=some r){y':Nat}(hy:y<=y'):
 (Instr.sliceBound (a.eval x) y' code).run P w=.ok r w/\r<=y:=by
 have hv:=qy hR hF hx;simp only [qQ] at h;split at h
 ·rename_i k i he;rw [he] at hv;have hv':a.eval x=.int k i:=hv;split at h
  ·rename_i hi;obtain rfl:=zsi h;refine⟨?_,by omega⟩;simp only [Instr.sliceBound,hv',asIntOf,Sem.run_bind,Sem.run_pure,Result.andThen_ok];rw [if_pos (by omega)];rfl
  ·cases h
 ·cases h
theorem MX (hR:Rel G μ K H w) (hF:xR μ K n F a.tmps) {t:TypeId} {x:Operand} {lo hi mx:Option Operand} {d:Opd} {dlo dhi:Option Opd} {v:V}
 (ht:P.underlying t=some .string) (hx:cO G n x=some d) (hlo:ww G n lo=some dlo) (hhi:ww G n hi=some dhi) (hmx:ww G n mx=some none) (h:wU F (d.ev F) dlo dhi=some v):
 ∃r,(Instr.sliceAt t (a.eval x) (lo.map a.eval) (hi.map a.eval) (mx.map a.eval)).run P w=.ok r w/\RV μ K v r:=by
 have hv:=qy hR hF hx;have hm:mx=none:=by
  cases mx with
  |none=>rfl
  |some y=>simp [ww] at hmx
 subst hm;unfold wU at h;split at h
 ·rename_i s he;rw [he] at hv;have hv':a.eval x=.string s:=hv;split at h
  ·cases h
  ·rename_i hh b2;split at h
   ·cases h
   ·rename_i l b3;obtain rfl:=zsi h;have hlow:(lo.map a.eval=none/\l=0)\/∃v,lo.map a.eval=some v/\(Instr.sliceBound v hh .sliceB).run P w=.ok l w:=by
     cases lo with
     |none=>
      simp only [ww,zoi] at hlo;subst hlo;simp [qQ] at b3;subst b3;exact .inl ⟨O,O⟩
     |some xl=>
      simp only [ww,zom] at hlo;obtain⟨dl,hl,rfl⟩:=hlo;exact .inr ⟨_,O,(kj (P:=P) (code:=.sliceB) hR hF hl b3 (qz _)).1⟩
    have hhigh:(hi.map a.eval=none/\hh=s.size)\/∃v,hi.map a.eval=some v/\(Instr.sliceBound v s.size .sliceAlen).run P w=.ok hh w:=by
     cases hi with
     |none=>
      simp only [ww,zoi] at hhi;subst hhi;simp [qQ] at b2;subst b2;exact .inl ⟨O,O⟩
     |some xl=>
      simp only [ww,zom] at hhi;obtain⟨dl,hl,rfl⟩:=hhi;exact .inr ⟨_,O,(kj (P:=P) (code:=.sliceAlen) hR hF hl b2 (qz _)).1⟩
    refine⟨.string (s.extract l hh),?_,O⟩;rcases hhigh with⟨e1,rfl⟩|⟨v1,e1,hb1⟩<;>rcases hlow with⟨e0,rfl⟩|⟨v0,e0,hb0⟩<;>
     simp [Instr.sliceAt,Instr.slice,Instr.sliceBounds,run_underlying ht,hv',e0,e1, *]
 ·cases h
theorem SH (hR:Rel G μ K H w) (hF:xR μ K n F a.tmps) {t e:TypeId} {s:Nat} {x:Operand} {lo hi mx:Option Operand} {d:Opd} {dlo dhi dmx:Option Opd} {v:V}
 (ht:P.underlying t=some (.slice e)) (hs:ya P e=some s) (hx:cO G n x=some d) (hlo:ww G n lo=some dlo) (hhi:ww G n hi=some dhi) (hmx:ww G n mx=some dmx)
 (hm:(dmx.isSome&&dhi.isNone)=false) (h:jV F s (d.ev F) dlo dhi dmx=some v):
 ∃r,(Instr.sliceAt t (a.eval x) (lo.map a.eval) (hi.map a.eval) (mx.map a.eval)).run P w=.ok r w/\RV μ K v r:=by
 have hv:=qy hR hF hx;have bounds:∀(len cap c m hh l:Nat),len<=cap->cap<=c->qQ F cap cap dmx=some m->qQ F len m dhi=some hh->qQ F 0 hh dlo=some l->
  ∃m',(Instr.sliceBounds true len c (lo.map a.eval) (hi.map a.eval) (mx.map a.eval)).run P w=.ok (l,hh,m') w/\l<=hh/\hh<=m/\m<=m'/\m'<=c/\(dmx.isSome=true->m'=m)/\(dmx=none->m'=c/\m=cap):=by
  intro len cap c m hh l h1 h2 b1 b2 b3;have hlow:l<=hh/\((lo.map a.eval=none/\l=0)\/∃v,lo.map a.eval=some v/\∀code,(Instr.sliceBound v hh code).run P w=.ok l w):=by
   cases lo with
   |none=>
    simp only [ww,zoi] at hlo;subst hlo;simp [qQ] at b3;subst b3;exact⟨by omega,.inl ⟨rfl,rfl⟩⟩
   |some xl=>
    simp only [ww,zom] at hlo;obtain⟨dl,hl,rfl⟩:=hlo;exact⟨(kj (P:=P) (code:=.sliceB) hR hF hl b3 (qz _)).2,.inr ⟨_,O,fun code=>(kj (P:=P) (code:=code) hR hF hl b3 (qz _)).1⟩⟩
  cases mx with
  |none=>
   simp only [ww,zoi] at hmx;subst hmx;simp [qQ] at b1;subst b1;cases hi with
   |none=>
    simp only [ww,zoi] at hhi;subst hhi;simp [qQ,h1] at b2;subst b2;refine⟨c,?_,hlow.1,h1,h2,qz _,by simp,fun _=>⟨rfl,rfl⟩⟩;rcases hlow.2 with⟨e0,rfl⟩|⟨v0,e0,hb0⟩<;>simp only [e0,Instr.sliceBounds,Option.map_none,Sem.run_bind,Sem.run_pure,Result.andThen_ok,Option.isSome_none,yz,if_false]<;>simp [hb0]
   |some xh=>
    simp only [ww,zom] at hhi;obtain⟨dh,hh',rfl⟩:=hhi;obtain⟨hb,hle⟩:=kj (P:=P) (code:=.sliceAcap) hR hF hh' b2 h2;refine⟨c,?_,hlow.1,hle,h2,qz _,by simp,fun _=>⟨rfl,rfl⟩⟩;rcases hlow.2 with⟨e0,rfl⟩|⟨v0,e0,hb0⟩<;>simp only [e0,Instr.sliceBounds,Option.map_none,QA,Sem.run_bind,Sem.run_pure,Result.andThen_ok,Option.isSome_none,yz,if_false,if_true,hb]<;>simp [hb0]
  |some xm=>
   simp only [ww,zom] at hmx;obtain⟨dm,hm',rfl⟩:=hmx;obtain⟨hb1,hle1⟩:=kj (P:=P) (code:=.slice3Acap) hR hF hm' b1 h2;cases hi with
   |none=>simp only [ww,zoi] at hhi;subst hhi;simp at hm
   |some xh=>
    simp only [ww,zom] at hhi;obtain⟨dh,hh',rfl⟩:=hhi;obtain⟨hb,hle⟩:=kj (P:=P) (code:=.slice3B) hR hF hh' b2 (qz _);refine⟨m,?_,hlow.1,hle,qz _,by omega,fun _=>rfl,by simp⟩;rcases hlow.2 with⟨e0,rfl⟩|⟨v0,e0,hb0⟩<;>simp only [e0,Instr.sliceBounds,QA,Sem.run_bind,Sem.run_pure,Result.andThen_ok,Option.isSome_some,if_true,hb1,hb]<;>simp [hb0]
 have hat:∀z,(Instr.sliceAt t z (lo.map a.eval) (hi.map a.eval) (mx.map a.eval)).run P w=(Instr.slice t z (lo.map a.eval) (hi.map a.eval) (mx.map a.eval)).run P w:=by
  intro z;simp [Instr.sliceAt,run_underlying ht]
 rw [hat];unfold jV at h;split at h
 ·rename_i b o len cap e' ex he;rw [he] at hv;split at h
  ·cases h
  ·rename_i hes;obtain rfl:e'=s:=by simpa using hes
   split at h
   ·cases h
   ·rename_i m b1;split at h
    ·cases h
    ·rename_i hh b2;split at h
     ·cases h
     ·rename_i l b3;obtain rfl:=zsi h;obtain⟨hb,ad,c,hxe,h1,h2,h3,h4⟩:RC μ K (.slc b o len cap e' ex) (a.eval x):=hv;obtain⟨m',hrun,g1,g2,g3,g4,g5,g6⟩:=bounds len cap c m hh l h1 h2 b1 b2 b3;refine⟨.slice (if m'=l then some ad else some (ad.add (l*e'))) (hh-l) (m'-l),?_,?_⟩
      ·simp only [Instr.slice,hxe,Sem.run_bind,run_underlying ht,Result.andThen_ok,hrun,zq hs,QA,Sem.run_pure]
      ·refine⟨hb,if m'=l then ad else ad.add (l*e'),m'-l,by split<;>rfl,by omega,by omega,fun hex=>?_,?_⟩
       ·rw [JL] at hex;rcases hex with hex|hex
        ·cases hd:dmx with
         |none=>have:=g6 hd;have:=h3 hex;omega
         |some q=>have:=g5 (by simp [hd]);omega
        ·have:=g5 hex;omega
       ·by_cases hml:m'=l
        ·left;omega
        ·right;rw [if_neg hml];rcases h4 with h4|⟨rfl,h5⟩
         ·omega
         ·refine⟨yh _ _ _,?_⟩;have:(m'-l)*e'+l*e'=m'*e':=by rw [<-wW];congr 1;omega
          have:m'*e'<=c*e':=X1 _ g4;omega
 ·rename_i he;rw [he] at hv;have hxe:a.eval x=.slice none 0 0:=hv;split at h
  ·rename_i b1 b2 b3;obtain rfl:=zsi h;have z1:∀(q:Option Opd) (r:Nat),qQ F 0 0 q=some r->r=0:=by
    intro q r hq;cases q with
    |none=>simp [qQ] at hq;omega
    |some q=>
     simp only [qQ] at hq;split at hq
     ·split at hq
      ·have:=zsi hq;omega
      ·cases hq
     ·cases hq
   rename_i r1 r2 r3 _;have e1:=z1 _ _ b1;have e2:=z1 _ _ b2;have e3:=z1 _ _ b3;subst e1 e2 e3;obtain⟨m',hrun,g1,g2,g3,g4,g5,g6⟩:=bounds 0 0 0 0 0 0 (qz _) (qz _) b1 b2 b3;obtain rfl:m'=0:=by omega
   exact⟨.slice none 0 0,by simp only [Instr.slice,hxe,Sem.run_bind,run_underlying ht,Result.andThen_ok,hrun,zq hs,Option.map_none,Sem.run_pure];simp,rfl⟩
  ·cases h
 ·cases h
end
section
variable{P:Program}{G n:Nat}{μ:Nat->Pl}{K:Nat->Prop}{H:Hp}{w:World}{F:T V}{a:Act}
theorem bH(d:Nat){t e:TypeId}(h:P.underlying t=some (.slice e))(p:Option Addr)(m c l k:Nat):(Op.equalIn (d+1) t (.slice p m c) (.slice none l k)).run P w=.ok p.isNone w:=by
 cases p<;>simp [Op.equalIn,run_underlying h]
theorem Av(hR:Rel G μ K H w)(hF:xR μ K n F a.tmps){op:BinOp}{t:TypeId}{x y:Operand}{p:PureOp}{v:V}(hc:I1 P G n op t x y=some p)(h:qp F p=some v):
 ∃r,(do eqGuard op t x y (a.eval x) (a.eval y);binOp op t (a.eval x) (a.eval y):Sem Value).run P w=.ok r w/\RV μ K v r:=by
 unfold I1 at hc;cases hx:cO G n x with
 |none=>simp [hx] at hc
 |some dx=>
  cases hy:cO G n y with
  |none=>simp [hx,hy] at hc
  |some dy=>
   simp only [hx,hy] at hc;have vx:=qy hR hF hx;have vy:=qy hR hF hy;cases hu:P.underlying t with
   |none=>simp [hu] at hc
   |some d=>
    cases d<;>simp only [hu] at hc<;>try (cases hc;done)
    case int k0=>
     obtain rfl:=zsi hc;simp only [qp] at h;split at h
     ·rename_i k p k' q ex ey;rw [ex] at vx;rw [ey] at vy;simp only [zom] at h;obtain⟨c,hb,rfl⟩:=h;have e1:a.eval x=.int k p:=vx;have e2:a.eval y=.int k' q:=vy;obtain⟨r,hr,hrc⟩:=Po (P:=P) (μ:=μ) (K:=K) (w:=w) (t:=t) hb;exact⟨r,by simp [e1,e2,TZ,hr],hrc⟩
     ·cases h
    case bool=>
     have key:∀neg,(op=.eql/\neg=false\/op=.neq/\neg=true)->qp F (.beq neg dx dy)=some v->∃r,(do eqGuard op t x y (a.eval x) (a.eval y);binOp op t (a.eval x) (a.eval y):Sem Value).run P w=.ok r w/\RV μ K v r:=by
      intro neg hop h;simp only [qp] at h;split at h
      ·rename_i p q ex ey;rw [ex] at vx;rw [ey] at vy;obtain rfl:=zsi h;have e1:a.eval x=.bool p:=vx;have e2:a.eval y=.bool q:=vy;rcases hop with⟨rfl,rfl⟩|⟨rfl,rfl⟩
       ·refine⟨.bool (p==q),?_,O⟩;simp only [e1,e2,Sem.run_bind,oW,Result.andThen_ok,binOp,Op.equal,Op.maxDepth];simp [run_equalIn_bool' w 9999 t p q hu]
       ·refine⟨.bool (!(p==q)),?_,O⟩;simp only [e1,e2,Sem.run_bind,oW,Result.andThen_ok,binOp,Op.equal,Op.maxDepth];simp [run_equalIn_bool' w 9999 t p q hu]
      ·cases h
     split at hc
     ·obtain rfl:=zsi hc;exact key false (.inl ⟨O,O⟩) h
     ·obtain rfl:=zsi hc;exact key true (.inr ⟨O,O⟩) h
     ·cases hc
    case struct fs=>
     split at hc
     ·cases hc
     ·rename_i hst;simp only [JL,not_or,Bool.not_eq_true] at hst;split at hc
      ·cases hc
      ·rename_i ks hks;have hfo:P.fieldsOf t=fs:=by simp [Program.fieldsOf,hu]
       have key:∀neg,(op=.eql/\neg=false\/op=.neq/\neg=true)->qp F (.eqs neg ks dx dy)=some v->∃r,(do eqGuard op t x y (a.eval x) (a.eval y);binOp op t (a.eval x) (a.eval y):Sem Value).run P w=.ok r w/\RV μ K v r:=by
        intro neg hop h;simp only [qp] at h;split at h
        ·rename_i xs ys ex ey;rw [ex] at vx;rw [ey] at vy;obtain⟨cx,e1,hx'⟩:∃zs:List Value,a.eval x=.agg zs.toArray/\qe (RC μ K) xs zs:=vx;obtain⟨cy,e2,hy'⟩:∃zs:List Value,a.eval y=.agg zs.toArray/\qe (RC μ K) ys zs:=vy;split at h
         ·rename_i r hr;obtain rfl:=zsi h;have heq:(Op.equalIn 10000 t (.agg cx.toArray) (.agg cy.toArray)).run P w=.ok r w:=by
           rw [run_equalIn_struct w 9999 t _ _ (by rw [hfo];exact hu) hst.1,hfo];exact iE 9998 hx' hy' hks hr
          rcases hop with⟨rfl,rfl⟩|⟨rfl,rfl⟩
          ·exact⟨.bool r,by simp [e1,e2,run_eqGuard_agg w _ t x y _ _ hst.2,run_eql_struct,heq],rfl⟩
          ·exact⟨.bool (!r),by simp [e1,e2,run_eqGuard_agg w _ t x y _ _ hst.2,run_neq_struct,heq],rfl⟩
         ·cases h
        ·cases h
       split at hc
       ·obtain rfl:=zsi hc;exact key false (.inl ⟨O,O⟩) h
       ·obtain rfl:=zsi hc;exact key true (.inr ⟨O,O⟩) h
       ·cases hc
    case slice e=>
     have key:∀neg,(op=.eql/\neg=false\/op=.neq/\neg=true)->∀l c,y=.const (.slice none l c)->qp F (.nileq neg dx)=some v->∃r,(do eqGuard op t x y (a.eval x) (a.eval y);binOp op t (a.eval x) (a.eval y):Sem Value).run P w=.ok r w/\RV μ K v r:=by
      intro neg hop l c hyc h;have e2:a.eval y=.slice none l c:=by rw [hyc];rfl
      simp only [qp] at h;have isSlice:∃p m d,a.eval x=.slice p m d/\v=.one (.bool (if neg then p.isSome else p.isNone)):=by
       split at h
       all_goals first
        |(rename_i ex;rw [ex] at vx;obtain rfl:=zsi h;first
         |(obtain⟨_,ad,c',e1,_⟩:=vx;exact⟨_,_,_,e1,by cases neg<;>rfl⟩)
         |exact⟨_,_,_,vx,by cases neg<;>rfl⟩
         )
        |cases h
      obtain⟨p,m,d,e1,rfl⟩:=isSlice;rcases hop with⟨rfl,rfl⟩|⟨rfl,rfl⟩
      ·refine⟨.bool p.isNone,?_,O⟩;simp only [e1,e2,Sem.run_bind,oV,Result.andThen_ok,binOp,Op.equal,Op.maxDepth];simp [bH 9999 hu]
      ·refine⟨.bool p.isSome,?_,O⟩;simp only [e1,e2,Sem.run_bind,oV,Result.andThen_ok,binOp,Op.equal,Op.maxDepth];cases p<;>simp [bH 9999 hu]
     split at hc
     ·obtain rfl:=zsi hc;exact key false (.inl ⟨O,O⟩) _ _ O h
     ·obtain rfl:=zsi hc;exact key true (.inr ⟨O,O⟩) _ _ O h
     ·cases hc
end
section
variable{P:Program}{G n:Nat}{μ:Nat->Pl}{K:Nat->Prop}{H:Hp}{w:World}{F:T V}{a:Act}
theorem SX(hR:Rel G μ K H w)(hF:xR μ K n F a.tmps){o:Oper}{p:PureOp}{v:V}(hc:aR P G n o=some p)(h:qp F p=some v):
 ∃x,(execOp a.eval o).run P w=.ok (.value x) w/\RV μ K v x:=by
 unfold aR at hc;split at hc
 case _ x ho=>
  simp only [zom] at hc;obtain⟨d,hd,rfl⟩:=hc;simp only [qp,zoi] at h;subst h;exact⟨_,by simp [execOp,ho],qy hR hF hd⟩
 case _ x ho=>
  simp only [zom] at hc;obtain⟨d,hd,rfl⟩:=hc;simp only [qp,zoi] at h;subst h;exact⟨_,by simp [execOp,ho],qy hR hF hd⟩
 case _ c x y ho=>
  split at hc
  ·rename_i dc dx dy h1 h2 h3;obtain rfl:=zsi hc;simp only [qp] at h;split at h
   ·rename_i t ht;obtain rfl:=zsi h;have hc:=qy hR hF h1;rw [ht] at hc;have hc':a.eval c=.bool t:=hc;refine⟨_,by simp [execOp,ho,hc',asBool];rfl,?_⟩;cases t
    ·exact qy hR hF h3
    ·exact qy hR hF h2
   ·cases h
  ·cases hc
 case _ t parts ho=>
  split at hc
  ·rename_i z pl hz hpl;simp only [zom] at hc;obtain⟨ps,hps,rfl⟩:=hc;simp only [qp,zom] at h;obtain⟨z',hf,rfl⟩:=h;obtain⟨cs,hrun,hall⟩:=Bc (P:=P) hR hF hz hpl hps hf;exact⟨.agg cs,by simp only [execOp,ho];exact wX _ hrun,cs.toList,by simp,hall⟩
  ·cases hc
 case _ x ho=>
  simp only [zom] at hc;obtain⟨d,hd,rfl⟩:=hc;have hv:=qy hR hF hd;simp only [qp] at h;split at h
  ·rename_i b o' he;obtain rfl:=zsi h;rw [he] at hv;obtain⟨hk,hv'⟩:K b/\a.eval x=.pointer (some ((μ b).addr o')):=hv;exact⟨_,by simp [execOp,ho,hv'],hk,rfl⟩
  ·rename_i f cs he;obtain rfl:=zsi h;rw [he] at hv;have hv':=hv;obtain⟨hk,hv'⟩:(∀p∈cs,K p.1)/\a.eval x=.func (.func f) #[] (cs.map fun p=>Value.pointer (some ((μ p.1).addr p.2))).toArray:=hv;exact⟨_,by simp [execOp,ho,hv'],hk,rfl⟩
  ·cases h
 case _ op t x y yt ho=>
  obtain⟨r,hr,hrv⟩:=Av hR hF hc h;exact⟨r,by simp only [execOp,ho];exact wX _ hr,hrv⟩
 case _ t x ho=>
  simp only [zom] at hc;obtain⟨d,hd,rfl⟩:=hc;have hv:=qy hR hF hd;simp only [qp] at h;split at h
  ·rename_i k m he;obtain rfl:=zsi h;rw [he] at hv;have hv':a.eval x=.int k m:=hv;exact⟨_,by simp [execOp,ho,hv',Op.unary,Op.intArith],rfl⟩
  ·cases h
 case _ t x ho=>
  simp only [zom] at hc;obtain⟨d,hd,rfl⟩:=hc;have hv:=qy hR hF hd;simp only [qp] at h;split at h
  ·rename_i b he;obtain rfl:=zsi h;rw [he] at hv;have hv':a.eval x=.bool b:=hv;exact⟨_,by simp [execOp,ho,hv',Op.unary],rfl⟩
  ·cases h
 case _ src dst x ho=>
  split at hc
  ·rename_i k0 k d hs hd hx;obtain rfl:=zsi hc;have hv:=qy hR hF hx;simp only [qp] at h;split at h
   ·rename_i k' m he;obtain rfl:=zsi h;rw [he] at hv;have hv':a.eval x=.int k' m:=hv;exact⟨_,by simp [execOp,ho,hv',convert,run_underlying hs,run_underlying hd,Conv.intToInt],rfl⟩
   ·cases h
  ·cases hc
 case _ f first caps ho=>
  split at hc
  case isFalse=>cases hc
  rename_i hfst;obtain rfl:=Array.eq_empty_of_size_eq_zero hfst;simp only [zom] at hc;obtain⟨ds,hds,rfl⟩:=hc;simp only [qp,zom] at h;obtain⟨l,hl,rfl⟩:=h;obtain⟨h1,h2⟩:=GC hR hF hds hl;refine⟨.func (.func f) #[] (caps.map a.eval),by simp [execOp,ho,Instr.makeFunc],h1,?_⟩;congr 1;apply Array.ext';simpa using h2
 case _ t x lo hi mx ho=>
  split at hc
  ·rename_i e d dlo dhi dmx hu hx hlo hhi hmx;split at hc
   ·rename_i s hs;split at hc
    ·cases hc
    ·rename_i hm;obtain rfl:=zsi hc;obtain⟨r,hr,hrv⟩:=SH (P:=P) hR hF hu hs hx hlo hhi hmx (by cases dmx<;>cases dhi<;>simp_all) h;exact⟨r,by simp only [execOp,ho];exact wX _ hr,hrv⟩
   ·cases hc
  ·rename_i d lo' hi' hu hx hlo hhi hmx;obtain rfl:=zsi hc;obtain⟨r,hr,hrv⟩:=MX (P:=P) hR hF hu hx hlo hhi hmx h;exact⟨r,by simp only [execOp,ho];exact wX _ hr,hrv⟩
  ·cases hc
 case _ s x f ho=>
  split at hc
  ·rename_i fs d hu hx;split at hc
   ·rename_i fd hfd;split at hc
    ·rename_i k hk;obtain rfl:=zsi hc;have hv:=qy hR hF hx;simp only [qp] at h;split at h
     ·rename_i b o' he;obtain rfl:=zsi h;rw [he] at hv;obtain⟨hkb,hv'⟩:K b/\a.eval x=.pointer (some ((μ b).addr o')):=hv;exact⟨_,by simp [execOp,ho,hv',Instr.fieldAt,run_underlying hu,hfd,Instr.sureAddr,fieldPlace,zq hk,yh],hkb,rfl⟩
     ·cases h
    ·cases hc
   ·cases hc
  ·cases hc
 case _ s x f ho=>
  split at hc
  ·rename_i fs d hu hx;split at hc
   ·rename_i fd hfd;split at hc
    ·rename_i k g hk hg;obtain rfl:=zsi hc;have hv:=qy hR hF hx;simp only [qp] at h;split at h
     ·rename_i l he;rw [he] at hv;obtain⟨xs,hv',hall⟩:∃xs:List Value,a.eval x=.agg xs.toArray/\qe (RC μ K) l xs:=hv;obtain⟨r,hr,hrv⟩:=EI (w:=w) hg hk hall h;exact⟨r,by simp [execOp,ho,hv',Instr.field,run_underlying hu,hfd,asAgg,hr],hrv⟩
     ·cases h
    ·cases hc
   ·cases hc
  ·cases hc
 case _ t x i ho=>
  split at hc
  ·rename_i e d j hu hx hi;simp only [zom] at hc;obtain⟨s,hs,rfl⟩:=hc;have hv:=qy hR hF hx;have hvi:=qy hR hF hi;simp only [qp,Vm] at h;split at h
   ·rename_i b o' len cap e' ex k m he hi';split at h
    ·rename_i hb;obtain rfl:=zsi h;rw [he] at hv;rw [hi'] at hvi;have hvi':a.eval i=.int k m:=hvi;obtain⟨c,hv',_,hk,_⟩:=RC.slc_at hv (by omega);exact⟨_,by simp [execOp,ho,hv',hvi',Instr.indexAt,asIntOf,run_underlying hu,hb.2.1,hb.2.2,zq hs,yh],hk,rfl⟩
    ·cases h
   ·cases h
  ·rename_i len e d j hu hx hi;simp only [zom] at hc;obtain⟨s,hs,rfl⟩:=hc;have hv:=qy hR hF hx;have hvi:=qy hR hF hi;simp only [qp] at h;split at h
   ·rename_i b o' k m he hi';split at h
    ·rename_i hb;obtain rfl:=zsi h;rw [he] at hv;rw [hi'] at hvi;have hvi':a.eval i=.int k m:=hvi;obtain⟨hk,hv'⟩:K b/\a.eval x=.pointer (some ((μ b).addr o')):=hv;exact⟨_,by simp [execOp,ho,hv',hvi',Instr.indexAt,asIntOf,run_underlying hu,Instr.sureAddr,hb.1,hb.2,zq hs,yh],hk,rfl⟩
    ·cases h
   ·cases h
  ·cases hc
 case _ t x i ho=>
  split at hc
  ·rename_i len e d j hu hx hi;split at hc
   ·rename_i s g hs hg;obtain rfl:=zsi hc;have hv:=qy hR hF hx;have hvi:=qy hR hF hi;simp only [qp] at h;split at h
    ·rename_i l k m he hi';split at h
     ·rename_i hb;rw [he] at hv;rw [hi'] at hvi;have hvi':a.eval i=.int k m:=hvi;obtain⟨xs,hv',hall⟩:∃xs:List Value,a.eval x=.agg xs.toArray/\qe (RC μ K) l xs:=hv;obtain⟨r,hr,hrv⟩:=EI (w:=w) hg hs hall h;exact⟨r,by simp [execOp,ho,hv',hvi',Instr.index,asIntOf,run_underlying hu,hb.1,hb.2,zq hs,hr],hrv⟩
     ·cases h
    ·cases h
   ·cases hc
  ·rename_i d j hu hx hi;obtain rfl:=zsi hc;have hv:=qy hR hF hx;have hvi:=qy hR hF hi;simp only [qp] at h;split at h
   ·rename_i s k m he hi';split at h
    ·rename_i hm;split at h
     ·rename_i b hb;obtain rfl:=zsi h;rw [he] at hv;rw [hi'] at hvi;have hvi':a.eval i=.int k m:=hvi;have hv':a.eval x=.string s:=hv;exact⟨.int .u8 b.toNat,by simp [execOp,ho,hv',hvi',Instr.index,asIntOf,run_underlying hu,hm,hb],rfl⟩
     ·cases h
    ·cases h
   ·cases h
  ·cases hc
 case _ x i ho=>
  simp only [zom] at hc;obtain⟨d,hd,rfl⟩:=hc;have hv:=qy hR hF hd;simp only [qp] at h;split at h
  ·rename_i l he;rw [he] at hv;obtain⟨xs,hv',hall⟩:∃xs:List Value,a.eval x=.tuple xs.toArray/\qe (z6 μ K) l xs:=hv;obtain⟨r,hr,hrv⟩:=hall.at i v h;exact⟨r,by simp [execOp,ho,hv',Instr.extract,hr],RV.of1 hrv⟩
  ·cases h
 case _ args ts ho=>
  split at hc
  ·rename_i x t hargs hts;have hargs':args=#[x]:=by cases args;simp_all
   subst hargs';have hts':ts[0]?=some t:=hts;split at hc
   ·rename_i e hu;simp only [zom] at hc;obtain⟨d,hd,rfl⟩:=hc;have hv:=qy hR hF hd;simp only [qp,WU] at h;split at h
    ·rename_i b o' len cap e' ex he;obtain rfl:=zsi h;rw [he] at hv;obtain⟨_,ad,c,hv',_⟩:RC μ K (.slc b o' len cap e' ex) (a.eval x):=hv;exact⟨.int .i64 len,by simp [execOp,ho,resolve,invoke,builtin,Builtin.len_,hts',hv',run_underlying hu,goInt],rfl⟩
    ·rename_i he;obtain rfl:=zsi h;rw [he] at hv;have hv':a.eval x=.slice none 0 0:=hv;exact⟨.int .i64 0,by simp [execOp,ho,resolve,invoke,builtin,Builtin.len_,hts',hv',run_underlying hu,goInt],rfl⟩
    ·cases h
   ·rename_i k e hu;obtain rfl:=zsi hc;simp only [qp,zoi] at h;subst h;exact⟨.int .i64 k,by simp [execOp,ho,resolve,invoke,builtin,Builtin.len_,hts',run_underlying hu,goInt],rfl⟩
   ·rename_i hu;simp only [zom] at hc;obtain⟨d,hd,rfl⟩:=hc;have hv:=qy hR hF hd;simp only [qp] at h;split at h
    ·rename_i s he;obtain rfl:=zsi h;rw [he] at hv;have hv':a.eval x=.string s:=hv;exact⟨.int .i64 s.size,by simp [execOp,ho,resolve,invoke,builtin,Builtin.len_,hts',hv',run_underlying hu,goInt],rfl⟩
    ·cases h
   ·cases hc
  ·cases hc
 case _ args ts ho=>
  split at hc
  ·rename_i x t hargs hts;have hargs':args=#[x]:=by cases args;simp_all
   subst hargs';have hts':ts[0]?=some t:=hts;split at hc
   ·rename_i e hu;simp only [zom] at hc;obtain⟨d,hd,rfl⟩:=hc;have hv:=qy hR hF hd;simp only [qp] at h;split at h
    ·rename_i b o' len cap e' he;obtain rfl:=zsi h;rw [he] at hv;obtain⟨_,ad,c,hv',_,_,hex,_⟩:RC μ K (.slc b o' len cap e' true) (a.eval x):=hv;obtain rfl:=hex rfl;exact⟨.int .i64 c,by simp [execOp,ho,resolve,invoke,builtin,Builtin.cap_,hts',hv',run_underlying hu,goInt],rfl⟩
    ·rename_i he;obtain rfl:=zsi h;rw [he] at hv;have hv':a.eval x=.slice none 0 0:=hv;exact⟨.int .i64 0,by simp [execOp,ho,resolve,invoke,builtin,Builtin.cap_,hts',hv',run_underlying hu,goInt],rfl⟩
    ·cases h
   ·cases hc
  ·cases hc
 case _ args ts ho=>
  split at hc
  ·rename_i x y hargs;have hargs':args=#[x,y]:=by cases args;simp_all
   subst hargs';split at hc
   ·rename_i dx dy hx hy;obtain rfl:=zsi hc;have vx:=qy hR hF hx;have vy:=qy hR hF hy;simp only [qp] at h;split at h
    ·rename_i k p k' q ex ey;split at h
     ·rename_i hk;subst hk;obtain rfl:=zsi h;rw [ex] at vx;rw [ey] at vy;have e1:a.eval x=.int k p:=vx;have e2:a.eval y=.int k q:=vy;exact⟨.int k (if p<q then q else p),by simp [execOp,ho,resolve,invoke,builtin,Builtin.max_,Builtin.max2,e1,e2],by simp [RV,z6,RC]⟩
     ·cases h
    ·cases h
   ·cases hc
  ·cases hc
 case _ args ts ho=>
  split at hc
  ·rename_i x y hargs;have hargs':args=#[x,y]:=by cases args;simp_all
   subst hargs';split at hc
   ·rename_i dx dy hx hy;obtain rfl:=zsi hc;have vx:=qy hR hF hx;have vy:=qy hR hF hy;simp only [qp] at h;split at h
    ·rename_i k p k' q ex ey;split at h
     ·rename_i hk;subst hk;obtain rfl:=zsi h;rw [ex] at vx;rw [ey] at vy;have e1:a.eval x=.int k p:=vx;have e2:a.eval y=.int k q:=vy;exact⟨.int k (if q<p then q else p),by simp [execOp,ho,resolve,invoke,builtin,Builtin.min_,Builtin.min2,e1,e2],by simp [RV,z6,RC]⟩
     ·cases h
    ·cases h
   ·cases hc
  ·cases hc
 case _=>cases hc
end
inductive LoadOp where
 |load (agg:Bool) (n:Nat) (a:Opd)
 |lookup (z:V) (ok:Bool) (m k:Opd)
 |mlen (m:Opd)
 /-- a string out of bytes;a pointer by way of unsafe.Pointer;a part of an array;a map with strings as keys asked -/
 |bstr (x:Opd)
 |pcv (t:TypeId) (n:Nat) (x:Opd)
 |aslice (len esz:Nat) (x:Opd) (lo hi:Option Opd)
 |slookup (z:V) (ok:Bool) (m k:Opd)
def fX:V->V->Option Bool
 |.one (.int k a),.one (.int k' b)=>if k=k' then some (a==b) else none
 |_,_=>none
def V9(key:V):List (V × V)->Nat->Option (Option (Nat × V))
 |[],_=>some none
 |e::es,i=>
  match fX key e.1 with
  |some true=>some (some (i,e.2))
  |some false=>V9 key es (i+1)
  |none=>none
def wz(ok:Bool)(v:V)(there:Bool):V:=if ok then .tup [v,.one (.bool there)] else v
def XA:V->Bool
 |.one (.int _ _)=>true
 |_=>false
def vN:List C->Option (List UInt8)
 |[]=>some []
 |.int .u8 n::l=>(vN l).map (UInt8.ofNat n.toNat::·)
 |_=>none
def JR(s:List UInt8):List (V × V)->Nat->Option (Option (Nat × V))
 |[],_=>some none
 |e::es,i=>match e.1 with
  |.one (.str q)=>if s==q.data.toList then some (some (i,e.2)) else JR s es (i+1)
  |_=>none
def qL(F:T V)(H:Hp):LoadOp->Option V
 |.load agg n a=>match a.ev F with
  |.one (.ptr b o)=>if agg then (H.loads b o n).map .agg else (H.cell b o).map .one
  |_=>none
 |.lookup z ok m k=>
  if XA (k.ev F) then
   match m.ev F with
   |.one .nilm=>some (wz ok z false)
   |.one (.map b)=>match H.get b with
    |some (.mp es)=>match V9 (k.ev F) es 0 with
     |some none=>some (wz ok z false)
     |some (some (_,v))=>some (wz ok v true)
     |none=>none
    |_=>none
   |_=>none
  else none
 |.mlen m=>match m.ev F with
  |.one .nilm=>some (.one (.int .i64 0))
  |.one (.map b)=>match H.get b with
   |some (.mp es)=>some (.one (.int .i64 es.length))
   |_=>none
  |_=>none
 |.bstr x=>match x.ev F with
  |.one .nils=>some (.one (.str ByteArray.empty))
  |.one (.slc b o len _ e _)=>if e=1 then match H.loads b o len with
   |some cs=>(vN cs).map fun l=>.one (.str ⟨l.toArray⟩)
   |none=>none
   else none
  |_=>none
 |.pcv t n x=>match x.ev F with
  |.one .nilp=>some (.one .nilp)
  |.one (.ptr b o)=>match H.get b with
   |some (.tr t' l)=>if t'=t/\o=0/\0<n/\n<=l.length then some (.one (.ptr b 0)) else none
   |_=>none
  |_=>none
 |.aslice len esz x lo hi=>match x.ev F with
  |.one (.ptr b o)=>match H.get b with
   |some (.row n _ _ _)=>if o+len*esz<=n then match qQ F len len hi with
    |none=>none
    |some h=>match qQ F 0 h lo with
     |none=>none
     |some l=>some (.one (.slc b (o+l*esz) (h-l) (len-l) esz true))
    else none
   |_=>none
  |_=>none
 |.slookup z ok m k=>match k.ev F,m.ev F with
  |.one (.str _),.one .nilm=>some (wz ok z false)
  |.one (.str s),.one (.map b)=>match H.get b with
   |some (.mp es)=>match JR s.data.toList es 0 with
    |some none=>some (wz ok z false)
    |some (some (_,v))=>some (wz ok v true)
    |none=>none
   |_=>none
  |_,_=>none
inductive AllocOp where
 |alloc (z:List C)
 |box (x:Opd)
 |bslice (esz len:Nat) (z:List C) (ps:List (Nat × Nat × Opd))
 |mkslice (esz bytes:Nat) (z:List C) (l c:Opd)
 |mkmap
 |mkst
 /-- a variable whose type is kept in mind -/
 |alloct (t:TypeId) (z:List C)
def jy(z:List C)(n:Nat):List C:=(List.range n).map fun i=>z.getD (i % z.length) .nilp
def xK(F:T V):AllocOp->Option (B × (Nat->V))
 |.alloc z=>some (.row z.length z .lf true,fun b=>.one (.ptr b 0))
 |.box x=>match wP (x.ev F) with
  |some cs=>some (.row cs.length cs .lf true,fun b=>.one (.ptr b 0))
  |none=>none
 |.bslice esz len z ps=>match yD F (jy z (len*esz)) ps with
  |some cs=>some (.row cs.length cs .lf true,fun b=>.one (.slc b 0 len len esz true))
  |none=>none
 |.mkslice esz bytes z l c=>match l.ev F,c.ev F with
  |.one (.int _ l),.one (.int _ c)=>
   if 0<=l/\l<=c/\bytes*c<=281474976710656/\c<4611686018427387904 then
    some (.row (c.toNat*esz) z .lf true,fun b=>.one (.slc b 0 l.toNat c.toNat esz true))
   else none
  |_,_=>none
 |.mkmap=>some (.mp [],fun b=>.one (.map b))
 |.mkst=>some (.st [] 0,fun b=>.one (.map b))
 |.alloct t z=>some (.tr t z,fun b=>.one (.ptr b 0))
def Yh(P:Program)(t:TypeId):Bool:=match P.underlying t with
 |some (.struct fs)=>match fs.toList with
  |[f,g]=>match P.underlying f.type,P.underlying g.type with
   |some (.int _),some (.int _)=>decide (f.name≠ "_")&&(decide (g.name≠ "_")&&(f.offset==0&&(g.offset==1&&!P.stoodInHeld t)))
   |_,_=>false
  |_=>false
 |_=>false
def ZU(P:Program)(G n:Nat)(o:Oper):Option LoadOp:=
 match o.op with
 |.load t x=>match Yk P t,ya P t,cO G n x with
  |some g,some s,some d=>some (.load g s d)
  |_,_,_=>none
 |.lookup t x i ok=>match P.underlying t,cO G n x,cO G n i with
  |some (.map kt e),some m,some k=>match P.underlying kt,P.info? e with
   |some (.int _),some ie=>match ie.zero with
    |some z=>(cV z).map fun z=>.lookup z ok m k
    |none=>none
   |_,_=>none
  |_,_,_=>none
 |.call { callee:=.builtin .len,args:=args,argTypes:=ts }=>
  match args.toList,ts[0]? with
  |[x],some t=>match P.underlying t with
   |some (.map kt _)=>match Yh P kt with
    |true=>none
    |false=>(cO G n x).map .mlen
   |_=>none
  |_,_=>none
 |_=>none
def ZT(P:Program)(G n:Nat)(o:Oper):Option LoadOp:=
 match o.op with
 |.convert src dst x=>match P.underlying src,P.underlying dst,cO G n x with
  |some (.slice e),some .string,some d=>match P.underlying e with
   |some (.int .u8)=>some (.bstr d)
   |_=>none
  |some (.pointer t),some .unsafePointer,some d=>match ya P t with
   |some (_+1)=>some (.pcv t (P.cellsOf t) d)
   |_=>none
  |some .unsafePointer,some (.pointer t),some d=>match ya P t with
   |some (_+1)=>some (.pcv t (P.cellsOf t) d)
   |_=>none
  |_,_,_=>none
 |.slice t x lo hi none=>match P.underlying t,cO G n x,ww G n lo,ww G n hi with
  |some (.pointer ar),some d,some lo,some hi=>match P.underlying ar with
   |some (.array len e)=>match ya P e with
    |some s=>some (.aslice len s d lo hi)
    |none=>none
   |_=>none
  |_,_,_,_=>none
 |.lookup t x i ok=>match P.underlying t,cO G n x,cO G n i with
  |some (.map kt e),some m,some k=>match P.underlying kt,P.info? e with
   |some .string,some ie=>match ie.zero with
    |some z=>(cV z).map fun z=>.slookup z ok m k
    |none=>none
   |_,_=>none
  |_,_,_=>none
 |_=>none
def Yu(P:Program)(G n:Nat)(o:Oper):Option LoadOp:=
 match ZU P G n o with
 |some p=>some p
 |none=>ZT P G n o
def Nj(P:Program)(t:TypeId):Bool:=match P.underlying t with
 |some (.struct fs)=>match fs.toList with
  |f::_=>match P.underlying f.type with
   |some (.pointer e)=>e==t
   |_=>false
  |[]=>false
 |_=>false
def Wj(P:Program)(G n:Nat)(o:Oper):Option AllocOp:=
 match o.op with
 |.alloc e=>match Nj P e with
  |true=>(vi P e).map (.alloct e)
  |false=>(vi P e).map .alloc
 |.box _ x=>(cO G n x).map .box
 |.buildSlice t len parts=>match P.underlying t with
  |some (.slice e)=>match ya P e,vi P e with
   |some s,some z=>if z.length=s/\0<s/\len*s<=16777216 then (X7 G n (fun i=>some (i*s,s)) parts.toList).map (.bslice s len z) else none
   |_,_=>none
  |_=>none
 |.makeSlice t l c=>match P.underlying t with
  |some (.slice e)=>match P.info? e,vi P e,cO G n l,cO G n c with
   |some i,some z,some l,some c=>if z.length=i.size/\0<i.size then some (.mkslice i.size i.bytes z l c) else none
   |_,_,_,_=>none
  |_=>none
 |.makeMap t none=>match P.underlying t with
  |some (.map kt _)=>match Yh P kt with
   |true=>some .mkst
   |false=>some .mkmap
  |_=>none
 |_=>none
section
variable{P:Program}{G n:Nat}{μ:Nat->Pl}{K:Nat->Prop}{H:Hp}{w:World}{F:T V}{a:Act}
theorem f5{v:V}(h:XA v=true):∃k m,v=.one (.int k m):=by
 cases v with
 |one c=>cases c<;>simp [XA] at h;exact⟨_,_,O⟩
 |agg l=>simp [XA] at h
 |tup l=>simp [XA] at h
theorem Yb{k0 kk:IntKind}{m:Int}:∀{es:List (V × V)} {ces:List MapEntry} {i:Nat} {r:Option (Nat × V)},qe (fun (e:V × V) (x:MapEntry)=>z6 μ K e.1 x.key/\z6 μ K e.2 x.val) es ces->
 V9 (.one (.int kk m)) es i=some r->
 (r=none/\Instr.findNow (.int k0) (.int kk m) ces i=some none)\/∃j v x,r=some (j,v)/\Instr.findNow (.int k0) (.int kk m) ces i=some (some (j,x))/\z6 μ K v x/\i<=j/\
  (∃e ce,es[j-i]?=some e/\e.2=v/\ces[j-i]?=some ce/\ce.key=.int kk m/\e.1=.one (.int kk m))
 |[],[],i,r,_,h=>by simp [V9] at h;subst h;exact .inl ⟨O,by simp [Instr.findNow]⟩
 |e::es,c::ces,i,r,ha,h=>by
  simp only [V9] at h;cases hk:fX (.one (.int kk m)) e.1 with
  |none=>simp [hk] at h
  |some b=>
   obtain⟨e1,e2⟩:=e;have hkey:∃q,e1=.one (.int kk q)/\b=(m==q):=by
    cases e1 with
    |one c'=>
     cases c'<;>simp only [fX] at hk<;>try (cases hk;done)
     split at hk
     ·rename_i hkk;subst hkk;exact⟨_,O,(zsi hk).symm⟩
     ·cases hk
    |agg l=>simp [fX] at hk
    |tup l=>simp [fX] at hk
   obtain⟨q,rfl,rfl⟩:=hkey;have hck:c.key=.int kk q:=ha.1.1;simp only [Instr.findNow,hck,Instr.sameNow,if_true];cases hb:m==q with
   |true=>
    obtain rfl:m=q:=by simpa using hb
    simp only [hk,hb,zoi] at h;subst h;exact .inr ⟨i,e2,c.val,O,O,ha.1.2,qz _,⟨_,e2⟩,c,by simp,rfl,by simp,hck,rfl⟩
   |false=>
    simp only [hk,hb] at h;rcases Yb (k0:=k0) ha.2 h with⟨h1,h2⟩|⟨j,v,x,h1,h2,h3,h4,e',ce,h5⟩
    ·exact .inl ⟨h1,h2⟩
    ·refine .inr ⟨j,v,x,h1,h2,h3,by omega,e',ce,?_⟩;rw [show j-i=(j-(i+1))+1 by omega];simpa using h5
 |[],_::_,_,_,ha,_=>ha.elim
 |_::_,[],_,_,ha,_=>ha.elim
theorem vb{e:Bool}{d:Nat}{t:TypeId}{k:IntKind}(h:P.underlying t=some (.int k))(v:Value):(Instr.checkKey e (d+1) t v).run P w=.ok () w:=by
 simp [Instr.checkKey,run_underlying h]
theorem TL(hR:Rel G μ K H w)(hF:xR μ K n F a.tmps){o:Oper}{p:LoadOp}{v:V}(hc:ZU P G n o=some p)(h:qL F H p=some v):
 ∃x,(execOp a.eval o).run P w=.ok (.value x) w/\RV μ K v x:=by
 unfold ZU at hc;split at hc
 case _ t x ho=>
  split at hc
  ·rename_i g s d hg hs hx;obtain rfl:=zsi hc;have hv:=qy hR hF hx;simp only [qL] at h;split at h
   ·rename_i b o' he;rw [he] at hv;obtain⟨hk,hv'⟩:K b/\a.eval x=.pointer (some ((μ b).addr o')):=hv;cases g with
    |true=>
     simp only [if_true,zom] at h;obtain⟨l,hl,rfl⟩:=h;obtain⟨xs,hall,hrun⟩:=hR.loads (P:=P) (n:=s) (b:=b) (o:=o') (i:=0) (acc:=#[]) hl;refine⟨.agg xs.toArray,?_,xs,O,hall⟩;simp only [execOp,ho];refine wX _ ?_;simp [Instr.loadAt,hv',Instr.sureAddr,loadVar,vp hg,zq hs,loadCells,hrun]
    |false=>
     simp only [yz,if_false,zom] at h;obtain⟨c,hl,rfl⟩:=h;obtain⟨y,hy,hr⟩:=hR.cell hl;exact⟨y,by simp [execOp,ho,Instr.loadAt,hv',Instr.sureAddr,loadVar,vp hg,hy],hr⟩
   ·cases h
  ·cases hc
 case _ t x i ok ho=>
  split at hc
  ·rename_i kt e m k hu hx hi;split at hc
   ·rename_i k0 ie hk hie;split at hc
    ·rename_i z hz;simp only [zom] at hc;obtain⟨zv,hzv,rfl⟩:=hc;have hv:=qy hR hF hx;have hvi:=qy hR hF hi;simp only [qL] at h;split at h
     case isFalse=>cases h
     rename_i hik;obtain⟨kk,q,hq⟩:=f5 hik;rw [hq] at hvi h;have hvi':a.eval i=.int kk q:=hvi;have hzero:(zeroValue e).run P w=.ok z w:=by simp [zeroValue,typeInfo,hie,hz]
     have hz1:z6 μ K zv z:=sE hzv;split at h
     ·rename_i he;obtain rfl:=zsi h;rw [he] at hv;have hv':a.eval x=.map none:=hv;refine⟨if ok then .tuple #[z,.bool false] else z,?_,?_⟩
      ·simp [execOp,ho,Instr.lookup,hv',hvi',run_underlying hu,vb (d:=9999) hk,Instr.findKey,run_underlying hk,Instr.findNow,hzero]
      ·cases ok
       ·simpa [wz] using RV.of1 hz1
       ·exact⟨[z,.bool false],O,hz1,O,trivial⟩
     ·rename_i b he;rw [he] at hv;obtain⟨hkb,hv'⟩:K b/\a.eval x=.map (some (μ b).blk):=hv;split at h
      ·rename_i es hget;obtain⟨ces,clk,hob,hall⟩:=hR.blk b _ hget;have hobj:(getObj (μ b).blk).run P w=.ok (.map ces clk) w:=by simp [getObj,Sem.run,hob]
       split at h
       ·rename_i hf;obtain rfl:=zsi h;rcases Yb (k0:=k0) hall hf with⟨_,h2⟩|⟨j,v,x,h1,_⟩
        ·refine⟨if ok then .tuple #[z,.bool false] else z,?_,?_⟩
         ·simp [execOp,ho,Instr.lookup,hv',hvi',run_underlying hu,hobj,vb (d:=9999) hk,Instr.findKey,run_underlying hk,h2,hzero]
         ·cases ok
          ·simpa [wz] using RV.of1 hz1
          ·exact⟨[z,.bool false],O,hz1,O,trivial⟩
        ·cases h1
       ·rename_i jj vv hf;obtain rfl:=zsi h;rcases Yb (k0:=k0) hall hf with⟨h1,_⟩|⟨j,v,y,h1,h2,h3,_⟩
        ·cases h1
        ·obtain⟨rfl,rfl⟩:jj=j/\vv=v:=by simpa using h1
         refine⟨if ok then .tuple #[y,.bool true] else y,?_,?_⟩
         ·simp [execOp,ho,Instr.lookup,hv',hvi',run_underlying hu,hobj,vb (d:=9999) hk,Instr.findKey,run_underlying hk,h2]
         ·cases ok
          ·simpa [wz] using RV.of1 h3
          ·exact⟨[y,.bool true],O,h3,O,trivial⟩
       ·cases h
      ·cases h
     ·cases h
    ·cases hc
   ·cases hc
  ·cases hc
 case _ args ts ho=>
  split at hc
  ·rename_i x t hargs hts;have hargs':args=#[x]:=by cases args;simp_all
   subst hargs';have hts':ts[0]?=some t:=hts;split at hc
   ·rename_i kt e hu;split at hc
    ·cases hc
    simp only [zom] at hc;obtain⟨d,hd,rfl⟩:=hc;have hv:=qy hR hF hd;simp only [qL] at h;split at h
    ·rename_i he;obtain rfl:=zsi h;rw [he] at hv;have hv':a.eval x=.map none:=hv;exact⟨.int .i64 0,by simp [execOp,ho,resolve,invoke,builtin,Builtin.len_,hts',hv',run_underlying hu,goInt],rfl⟩
    ·rename_i b he;rw [he] at hv;obtain⟨hkb,hv'⟩:K b/\a.eval x=.map (some (μ b).blk):=hv;split at h
     ·rename_i es hget;obtain rfl:=zsi h;obtain⟨ces,clk,hob,hall⟩:=hR.blk b _ hget;have hobj:(getObj (μ b).blk).run P w=.ok (.map ces clk) w:=by simp [getObj,Sem.run,hob]
      have hlen:=hall.len;exact⟨.int .i64 es.length,by simp [execOp,ho,resolve,invoke,builtin,Builtin.len_,hts',hv',run_underlying hu,goInt,hobj,hlen],rfl⟩
     ·cases h
    ·cases h
   ·cases hc
  ·cases hc
 case _=>cases hc
end
section
variable{P:Program}{G n:Nat}{μ:Nat->Pl}{K:Nat->Prop}{H:Hp}{w:World}{F:T V}{a:Act}
theorem row_cell{l:List C}{i:Nat}{c:C}(h:(B.row l.length l .lf true).cell i=some c):l[i]?=some c:=by
 simp only [B.cell,T.get_lf,bE] at h;split at h
 ·rename_i hi;rw [kJ hi] at h;rw [<-h,zge hi];simp [qT,hi]
 ·cases h
theorem RB.of_list{l:List C}{cs:Array Value}{t:TypeId}{p:Pl}(hp:p.off=0)(hs:p.size=cs.size)(h:qe (RC μ K) l cs.toList):RB μ K p (.row l.length l .lf true) (some (.cells cs t)):=by
 have hl:=h.len;simp at hl;refine⟨cs,t,(0,0),O,hs.symm,by omega,fun _=>rfl,fun i c hc=>?_⟩;obtain⟨x,hx,hr⟩:=h.at i c (row_cell hc);exact⟨x,by rw [hp];simpa using hx,hr⟩
theorem Wv{z:List C}{zc:Array Value}(h:qe (RC μ K) z zc.toList)(m:Nat):qe (RC μ K) (jy z m) ((Array.range m).map (zc[· % zc.size]!)).toList\/z.length=0:=by
 by_cases h0:z.length=0
 ·exact .inr h0
 ·left;have hl:=h.len;simp at hl;refine qe.mk (by simp [jy]) fun i c x hc hx=>?_;have hi:i<m:=by
   have:=(zgs hc).1;simpa [jy] using this
  simp [jy,hi] at hc;simp [hi] at hx;have hmod:i % z.length<z.length:=kp _ (by omega);have hmod':i % zc.size<zc.size:=by rw [<-hl];exact hmod
  obtain⟨y,hy,hr⟩:=h.at (i % z.length) c (by rw [<-hc,zge hmod];simp);rw [<-hx,getElem!_pos zc _ hmod'];rw [hl] at hy;have hy2:zc.toList[i % zc.size]?=some zc[i % zc.size]:=by rw [zge (by simpa using hmod')];simp
  rw [hy2] at hy;obtain rfl:=zsi hy;exact hr
theorem NP{z:List C}{m i:Nat}{c:C}(h:(B.row m z .lf true).cell i=some c):(jy z m)[i]?=some c:=by
 simp only [B.cell,T.get_lf,bE] at h;split at h
 ·rename_i hi;rw [<-h];simp [jy,hi]
 ·cases h
theorem RB.of_patt{z:List C}{m:Nat}{cs:Array Value}{t:TypeId}{p:Pl}(hp:p.off=0)(hs:p.size=cs.size)(h:qe (RC μ K) (jy z m) cs.toList):RB μ K p (.row m z .lf true) (some (.cells cs t)):=by
 have hl:=h.len;simp [jy] at hl;refine⟨cs,t,(0,0),O,hs.symm,by omega,fun _=>rfl,fun i c hc=>?_⟩;obtain⟨x,hx,hr⟩:=h.at i c (NP hc);exact⟨x,by rw [hp];simpa using hx,hr⟩
theorem Ww{c:Int}(h0:0<=c)(h1:c<4611686018427387904):IntKind.i64.wrap c=c:=by
 simp [IntKind.wrap,IntKind.bits,IntKind.signed];omega
theorem Bt(hR:Rel G μ K H w)(hF:xR μ K n F a.tmps){o:Oper}{p:AllocOp}{bk:B}{g:Nat->V}(hc:Wj P G n o=some p)(h:xK F p=some (bk,g)):
 bk.mut=true/\∃x obj sz,(execOp a.eval o).run P w=.ok (.value x) { w with heap:=w.heap.push obj }/\RB μ K ⟨w.heap.size,0,sz⟩ bk (some obj)/\
  ∀(b:Nat) (μ':Nat->Pl) (K':Nat->Prop),K' b->μ' b=⟨w.heap.size,0,sz⟩->RV μ' K' (g b) x:=by
 unfold Wj at hc;split at hc
 case _ e ho=>
  split at hc
  ·simp only [zom] at hc;obtain⟨z,hz,rfl⟩:=hc;simp only [xK,zoi,zpi] at h;obtain⟨rfl,rfl⟩:=h;obtain⟨i,v,hi,hv,hall⟩:=w6 (μ:=μ) (K:=K) hz;refine⟨O,.pointer (some ⟨w.heap.size,0,none⟩),.cells v.cells e,v.cells.size,?_,⟨v.cells,(),O,O,O,by have:=hall.len;simp at this;omega,fun i c hc=>?_⟩,fun b μ' K' hk hm=>⟨hk,by simp [Pl.addr,hm]⟩⟩
   ·simp [execOp,ho,Instr.alloc,zeroValue,typeInfo,hi,hv,newVar,newRow]
   ·obtain⟨x,hx,hr⟩:=hall.at i c hc;exact⟨x,by simpa using hx,hr⟩
  ·simp only [zom] at hc;obtain⟨z,hz,rfl⟩:=hc;simp only [xK,zoi,zpi] at h;obtain⟨rfl,rfl⟩:=h;obtain⟨i,v,hi,hv,hall⟩:=w6 (μ:=μ) (K:=K) hz;refine⟨O,.pointer (some ⟨w.heap.size,0,none⟩),.cells v.cells e,v.cells.size,?_,RB.of_list O O hall,fun b μ' K' hk hm=>⟨hk,by simp [Pl.addr,hm]⟩⟩;simp [execOp,ho,Instr.alloc,zeroValue,typeInfo,hi,hv,newVar,newRow]
 case _ e x ho=>
  simp only [zom] at hc;obtain⟨d,hd,rfl⟩:=hc;simp only [xK] at h;split at h
  ·rename_i cs hcs;simp only [zoi,zpi] at h;obtain⟨rfl,rfl⟩:=h;refine⟨O,.pointer (some ⟨w.heap.size,0,none⟩),.cells (a.eval x).cells e,(a.eval x).cells.size,?_,RB.of_list O O (VP (qy hR hF hd) hcs),fun b μ' K' hk hm=>⟨hk,by simp [Pl.addr,hm]⟩⟩;simp [execOp,ho,Instr.box,newVar,newRow]
  ·cases h
 case _ t len parts ho=>
  split at hc
  ·rename_i e hu;split at hc
   ·rename_i s z hs hz;split at hc
    ·rename_i hlen;simp only [zom] at hc;obtain⟨ps,hps,rfl⟩:=hc;simp only [xK] at h;split at h
     ·rename_i cs hcs;simp only [zoi,zpi] at h;obtain⟨rfl,rfl⟩:=h;obtain⟨i,v,hi,hv,hall⟩:=w6 (μ:=μ) (K:=K) hz;have hz0:=(Wv hall (len*s)).resolve_right (by omega);obtain⟨arr,hfill,hall'⟩:=lZ hR hF hps hcs hz0;have hvl:=hall.len;have hcl:cs.length=len*s:=by
       have h1:=hall'.len;have hfl:∀(z z':List C) (ps:List (Nat × Nat × Opd)),yD F z ps=some z'->z'.length=z.length:=by
        intro z z' ps;induction ps generalizing z with
        |nil=>intro h;simp [yD] at h;rw [h]
        |cons q ps ih=>
         obtain⟨off,size,x⟩:=q;intro h;simp only [yD] at h;split at h
         ·cases h
         ·split at h
          ·rename_i hq;rw [ih _ h];simp;omega
          ·cases h
       rw [hfl _ _ _ hcs];simp [jy]
      have harr:arr.size=len*s:=by have:=hall'.len;simp at this;omega
      refine⟨O,.slice (some ⟨w.heap.size,0,none⟩) len len,.cells arr e,arr.size,?_,RB.of_list O O hall',fun b μ' K' hk hm=>⟨hk,_,len,O,qz _,qz _,fun _=>O,.inr ⟨by simp [Pl.addr,hm],by simp [hm,harr]⟩⟩⟩;simp only [execOp,ho];have hzs:v.cells≠#[]:=by
       intro h0;rw [h0] at hvl;have:=hlen.1;have:=hlen.2.1;simp only [zR] at hvl;omega
      by_cases hl0:len*s=0
      ·have hzero:((Array.range (len*s)).map ((#[]:Array Value)[· % (#[]:Array Value).size]!))=((Array.range (len*s)).map (v.cells[· % v.cells.size]!)):=by rw [hl0];simp
       have hnot:¬(len*s>2^24):=by omega
       simp only [Instr.buildSlice,Sem.run_bind,run_underlying hu,Result.andThen_ok,zq hs,Sem.run_ite,hnot,if_false,Sem.run_pure,hl0,if_true];rw [hl0] at hfill;have hz1:((Array.range 0).map ((#[]:Array Value)[· % (#[]:Array Value).size]!))=((Array.range 0).map (v.cells[· % v.cells.size]!)):=by simp
       rw [hz1];have hparts:(parts.map fun (i,x)=>(i,a.eval x)).toList=parts.toList.map fun p=>(p.1,a.eval p.2):=by simp
       rw [hparts,hfill];simp [newRow]
      ·have hnot:¬(len*s>2^24):=by omega
       simp only [Instr.buildSlice,Sem.run_bind,run_underlying hu,Result.andThen_ok,zq hs,Sem.run_ite,hnot,if_false,Sem.run_pure,hl0];have hzv:(zeroValue e).run P w=.ok v w:=by simp [zeroValue,typeInfo,hi,hv]
       simp only [hzv,Result.andThen_ok];have hparts:(parts.map fun (i,x)=>(i,a.eval x)).toList=parts.toList.map fun p=>(p.1,a.eval p.2):=by simp
       rw [hparts,hfill];simp [newRow]
     ·cases h
    ·cases hc
   ·cases hc
  ·cases hc
 case _ t l c ho=>
  split at hc
  ·rename_i e hu;split at hc
   ·rename_i i z dl dc hi hz hl hcc;split at hc
    ·rename_i hsz;obtain rfl:=zsi hc;have vl:=qy hR hF hl;have vc:=qy hR hF hcc;simp only [xK] at h;split at h
     ·rename_i kl l' kc c' el ec;split at h
      ·rename_i hb;simp only [zoi,zpi] at h;obtain⟨rfl,rfl⟩:=h;rw [el] at vl;rw [ec] at vc;have vl':a.eval l=.int kl l':=vl;have vc':a.eval c=.int kc c':=vc;obtain⟨i',v,hi',hv,hall⟩:=w6 (μ:=μ) (K:=K) hz;obtain rfl:i=i':=by rw [hi] at hi';exact zsi hi'
       have hvl:=hall.len;have hz0:=(Wv hall (c'.toNat*i.size)).resolve_right (by omega);have harr:((Array.range (c'.toNat*i.size)).map (v.cells[· % v.cells.size]!)).size=c'.toNat*i.size:=by simp
       refine⟨O,.slice (some ⟨w.heap.size,0,none⟩) l'.toNat c'.toNat,.cells ((Array.range (c'.toNat*i.size)).map (v.cells[· % v.cells.size]!)) e,c'.toNat*i.size,?_,RB.of_patt O (by simp) hz0,
        fun b μ' K' hk hm=>⟨hk,_,c'.toNat,O,by omega,qz _,fun _=>rfl,.inr ⟨by simp [Pl.addr,hm],by simp [hm]⟩⟩⟩
       simp only [execOp,ho];refine wX _ ?_;have w1:=Ww (c:=l') hb.1 (by omega);have w2:=Ww (c:=c') (by omega) hb.2.2.2;have t1:(decide (c'<0)||decide ((i.bytes:Int)*c'>2^48))=false:=by
        have:=hb.2.2.1;simp;omega
       have t2:((decide (c'<0)||decide ((i.bytes:Int)*c'>2^48))=true\/l'<0)=False:=by
        rw [t1];simp;omega
       simp only [Instr.makeSlice,Sem.run_bind,run_underlying hu,Result.andThen_ok,vl',vc',asInt,asIntOf,Sem.run_pure,typeInfo,run_program,hi,w1,w2];have hcond:((decide (c'<0)||decide ((i.bytes:Int)*c'>2^48))||decide (l'<0)||decide (l'>c'))=false:=by
        rw [t1];simp;omega
       rw [hcond];simp only [yz,if_false,Sem.run_bind,Sem.run_pure,Result.andThen_ok,run_askRoom,zq (show ya P e=some i.size by simp [ya,hi])];by_cases hl0:c'.toNat*i.size=0
       ·have r0:∀f:Nat->Value,(Array.range 0).map f=#[]:=fun f=>Array.eq_empty_of_size_eq_zero (by simp);simp [hl0,newRow,r0]
       ·have hzv:(zeroValue e).run P w=.ok v w:=by simp [zeroValue,typeInfo,hi,hv]
        simp [hl0,hzv,newRow]
      ·cases h
     ·cases h
    ·cases hc
   ·cases hc
  ·cases hc
 case _ t ho=>
  split at hc
  ·split at hc
   ·obtain rfl:=zsi hc;simp only [xK,zoi,zpi] at h;obtain⟨rfl,rfl⟩:=h;refine⟨O,.map (some w.heap.size),.map #[] 0,0,?_,⟨#[],(),O,trivial⟩,fun b μ' K' hk hm=>⟨hk,by simp [hm]⟩⟩;simp [execOp,ho,Instr.makeMap]
   ·obtain rfl:=zsi hc;simp only [xK,zoi,zpi] at h;obtain⟨rfl,rfl⟩:=h;refine⟨O,.map (some w.heap.size),.map #[] 0,0,?_,⟨#[],0,O,trivial⟩,fun b μ' K' hk hm=>⟨hk,by simp [hm]⟩⟩;simp [execOp,ho,Instr.makeMap]
  ·cases hc
 case _=>cases hc
end
end Go.Ab
