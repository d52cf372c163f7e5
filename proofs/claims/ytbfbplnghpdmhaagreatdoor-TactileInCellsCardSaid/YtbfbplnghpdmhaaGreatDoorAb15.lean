/- -/
import Derived.Test.YtbfbplnghpdmhaaGreatDoorAb14
set_option linter.unusedSimpArgs false
set_option maxHeartbeats 8000000
set_option linter.unusedVariables false
namespace Go.Ab
def UO(n:Nat):List (Nat × Nat)->List (Nat × Nat)
 |[]=>[]
 |(k,o)::r=>(k+n,o)::UO n r
def Z7(n:Nat):DC->DC
 |.ptr k o=>.ptr (k+n) o
 |.own k o m e=>.own (k+n) o m e
 |.tptr k i o=>.tptr (k+n) i o
 |.trow k i o m=>.trow (k+n) i o m
 |.fn f l=>.fn f (UO n l)
 |.om k=>.om (k+n)
 |.yl k=>.yl (k+n)
 |d=>d
def UQ:Nat->DV->DV
 |n,.one d=>.one (Z7 n d)
 |n,.agg l=>.agg (l.map (Z7 n))
 |_,.tup l=>.tup l
def shV(n:Nat):DV->DV
 |.one d=>.one (Z7 n d)
 |.agg l=>.agg (l.map (Z7 n))
 |.tup l=>.tup (l.map (UQ n))
def aP(n:Nat):Bk->Bk
 |.cells l=>.cells (l.map (Z7 n))
 |.data l=>.data l
 |.tree l=>.tree l
 |.mp ks l=>.mp ks (l.map (Z7 n))
 |.mt es=>.mt (wg (Z7 n) es)
theorem eB(n:Nat)(x:Bk):(aP n x).shape=x.shape:=by cases x<;>rfl
def iD(n:Nat):Bx->Bx->Bx
 |[],T=>T
 |(k,x)::r,T=>(k+n,aP n x)::iD n r T
section
variable{Z:Nat->Prop}{H:Hp}{β β':qw}{n:Nat}
theorem BZ(hβ:∀k i,β' (k+n,i)=β (k,i)):∀{l l':List (Nat × Nat)},jY β l l'->jY β' (UO n l) l'
 |[],[],_=>trivial
 |(_,_)::_,(_,_)::_,h=>⟨h.1,by obtain⟨N,hN⟩:=h.2.1;exact⟨N,by rw [hβ];exact hN⟩,BZ hβ h.2.2⟩
 |[],_::_,h=>h.elim
 |(_,_)::_,[],h=>h.elim
theorem iE(hβ:∀k i,β' (k+n,i)=β (k,i)){d:DC}{c:C}(h:RD Z H β d c):RD Z H β' (Z7 n d) c:=by
 cases d with
 |ptr k o=>obtain⟨b,N,h1,h2⟩:=h;exact⟨b,N,by rw [hβ];exact h1,h2⟩
 |tptr k i o=>obtain⟨b,N,h1,h2⟩:=h;exact⟨b,N,by rw [hβ];exact h1,h2⟩
 |own k o m e=>
  rcases h with⟨h1,h2⟩|⟨b,N,cap,ex,h1,h2⟩
  ·exact .inl ⟨by rw [hβ];exact h1,h2⟩
  ·exact .inr ⟨b,N,cap,ex,by rw [hβ];exact h1,h2⟩
 |trow k i o m=>
  rcases h with⟨h1,h2⟩|⟨b,N,cap,ex,h1,h2⟩
  ·exact .inl ⟨by rw [hβ];exact h1,h2⟩
  ·exact .inr ⟨b,N,cap,ex,by rw [hβ];exact h1,h2⟩
 |fn f l=>obtain⟨l',h1,h2⟩:=h;exact⟨l',h1,BZ hβ h2⟩
 |f d=>exact h
 |g b o=>exact h
 |fptr l=>exact h
 |any=>trivial
 |om k=>obtain⟨b,N,h1,h2⟩:=h;exact⟨b,N,by rw [hβ];exact h1,h2⟩
 |yl k=>obtain⟨b,N,h1,h2⟩:=h;exact⟨b,N,by rw [hβ];exact h1,h2⟩
 |fz f ls=>exact h
theorem Wo(hβ:∀k i,β' (k+n,i)=β (k,i)):∀{l:List DC} {cs:List C},qg (RD Z H β) l cs->qg (RD Z H β') (l.map (Z7 n)) cs
 |[],[],_=>trivial
 |_::_,_::_,h=>⟨iE hβ h.1,Wo hβ h.2⟩
 |[],_::_,h=>h.elim
 |_::_,[],h=>h.elim
theorem UP(hβ:∀k i,β' (k+n,i)=β (k,i)){d:DV}{v:V}(h:zw Z H β d v):zw Z H β' (UQ n d) v:=by
 cases d with
 |one d=>obtain⟨c,rfl,h⟩:=h;exact⟨c,rfl,iE hβ h⟩
 |agg l=>obtain⟨c,rfl,h⟩:=h;exact⟨c,rfl,Wo hβ h⟩
 |tup l=>exact h.elim
theorem UN(hβ:∀k i,β' (k+n,i)=β (k,i)){d:DV}{v:V}(h:xC Z H β d v):xC Z H β' (shV n d) v:=by
 cases d with
 |one d=>obtain⟨c,rfl,h⟩:=h;exact⟨c,rfl,iE hβ h⟩
 |agg l=>obtain⟨c,rfl,h⟩:=h;exact⟨c,rfl,Wo hβ h⟩
 |tup l=>
  obtain⟨c,rfl,h⟩:=h;refine⟨c,rfl,?_⟩;have key:∀{l:List DV} {cs:List V},qg (zw Z H β) l cs->qg (zw Z H β') (l.map (UQ n)) cs:=by
   intro l;induction l with
   |nil=>intro cs h;cases cs with
    |nil=>trivial
    |cons _ _=>exact h.elim
   |cons d l ih=>intro cs h;cases cs with
    |nil=>exact h.elim
    |cons c cs=>exact⟨UP hβ h.1,ih h.2⟩
  exact key h
theorem BY(k:Nat):∀(i:Nat) (rows:List (List FD)),(zh k i rows).map (Z7 n)=zh (k+n) i rows
 |_,[]=>rfl
 |i,r::rs=>by simp only [zh,List.map_cons,BY k (i+1) rs,Z7]
end
theorem lL(n:Nat)(T:Bx)(hT:∀k x,lk T k=some x->k<n):∀(S:Bx) (k:Nat),lk (iD n S T) k=if k<n then lk T k else (lk S (k-n)).map (aP n)
 |[],k=>by
  simp only [iD,lk];split
  ·rfl
  ·rename_i hk;cases hl:lk T k with
   |none=>rfl
   |some x=>exact absurd (hT k x hl) hk
 |(j,x)::S,k=>by
  simp only [iD,qQ];rw [lL n T hT S k];by_cases hk:k<n
  ·rw [if_pos hk,if_pos hk,if_neg (by omega)]
  ·rw [if_neg hk,if_neg hk];by_cases e:j+n=k
   ·rw [if_pos e,if_pos (by omega)];rfl
   ·rw [if_neg e,if_neg (by omega)]
theorem PE(n:Nat)(T:Bx)(hT:∀k x,lk T k=some x->k<n)(S:Bx)(κ:zC):qP (iD n S T) κ=if κ.1<n then qP T κ else (qP S (κ.1-n,κ.2)).map (aP n):=by
 obtain⟨k,i⟩:=κ;have hl:=lL n T hT S k;by_cases hk:k<n
 ·rw [if_pos hk] at hl ⊢;exact z6 hl
 ·rw [if_neg hk] at hl;simp only [if_neg hk];cases i with
  |zero=>
   simp only [qP,hl];cases hs:lk S (k-n) with
   |none=>rfl
   |some x=>
    cases x with
    |tree rows=>simp only [Option.map_some,aP,BY];rw [Nat.sub_add_cancel (by omega)]
    |cells l=>rfl
    |data l=>rfl
    |mp ks l=>rfl
    |mt es=>
     simp only [Option.map_some,aP];rw [YU (Z7 n) (k-n) k (fun _=>rfl) (fun i m=>by simp only [Z7];rw [Nat.sub_add_cancel (by omega)])]
  |succ i=>
   simp only [qP,hl];cases hs:lk S (k-n) with
   |none=>rfl
   |some x=>
    cases x with
    |tree rows=>
     simp only [Option.map_some,aP];cases rows[i]?<;>rfl
    |cells l=>rfl
    |data l=>rfl
    |mp ks l=>rfl
    |mt es=>
     show we (wg (Z7 n) es)[i]?=(we es[i]?).map (aP n)
     rw [WJ];cases hm:we es[i]? with
     |none=>rfl
     |some x=>obtain⟨_,r,_,rfl⟩:=wo hm;rfl
section
variable{p:Par}{base rs:Nat}{Q:qq->Bx->Nat->Prop}{r:List SOper}{W:Wt}{A:List Nat}{E:qq}{S:Bx}{nk:Nat}{id:Nat}{dst:Option Nat}{aid:Option Nat}{ws:List Nat}{keep:Bool}
theorem ki{f:FuncId}{args:List Opd}{ds:List DV}{R:DV->Bx->Nat->Prop}(hvs:X4 E args=some ds)(hf:qV WT ds=true)(hc:dS p.P p.G p.GH f ds R)(h:∀d S' nk',R d S' nk'->DPW p base rs Q r W A (xk E dst (shV nk d)) (iD nk S' S) (nk'+nk)):DPW p base rs Q (⟨id,dst,.cf f args,none,aid,ws,keep⟩::r) W A E S nk:=.mk fun Z β H F c hS hE hC hA=>by
 simp only [qF,qt,if_true];refine (hc H Z _ hS.wf hS.z (fun b bk hb=>hS.glob b bk (.inl hb)) (KO hf (kS hE hvs))).mono ?_;rintro v H' ⟨hnx,hg,d,S',nk',Z',β',hS',hr,hR⟩;have hz1:∀b,Z b->Z' b:=hS'.zz;have hz2:∀b,Z' b->b<H.nx->Z b:=fun b hb hl=>(hS'.zlo b hb).elim (fun h=>h) fun h=>by simp only at h;omega
 have hZ:xo Z H Z' H':=xo.of_get hz1 fun b hb=>hg b (hS.z b hb);let β'':qw:=fun κ=>if κ.1<nk then β κ else β' (κ.1-nk,κ.2)
 have hβ:∀k i,β'' (k+nk,i)=β' (k,i):=fun k i=>by simp only [β'',if_neg (show¬k+nk<nk by omega),Nat.add_sub_cancel]
 have hlo:∀κ,κ.1<nk->β'' κ=β κ:=fun κ h=>by simp [β'',h]
 have hhi:∀κ:zC,¬κ.1<nk->β'' κ=β' (κ.1-nk,κ.2):=fun κ h=>by simp [β'',h]
 have hB:xO β β'':=fun κ s hκ=>by rw [hlo κ (hS.lt1 hκ)];exact hκ
 have hT:∀k x,lk S k=some x->k<nk:=fun k x hk=>hS.lt hk;have hnew:∀(κ:zC) x b N,lk S' κ.1=some x->β' κ=some (.blk b N)->(∃y,qP S' κ=some y)->H.nx<=b:=fun κ x b N _ hb ⟨y,hy⟩=>hS'.lo2 hy hb;have hSS:SR p Z' β'' H' (iD nk S' S) (nk'+nk):=by
  refine⟨hS'.wf,Nat.le_trans hS.lo hnx,hS'.z,fun b hb=>?_,fun b hb=>hz1 b (hS.zz b hb),fun b bk hb=>?_,fun κ hκ=>?_,fun κ b N hκ=>?_,fun κ x hκ=>?_,fun κ κ' x x' b N N' hκ hκ' h1 h2=>?_,fun κ b N hκ=>?_,fun κ hκ h0=>by rw [hlo κ (Nat.lt_of_lt_of_le hκ hS.ancn)];exact hS.anch κ hκ h0,by have:=hS.ancn;omega⟩
  ·rcases hS'.zlo b hb with h|h
   ·exact hS.zlo b h
   ·exact .inr (Nat.le_trans hS.lo h)
  ·obtain⟨h1,h2⟩:=hS.glob b bk hb;exact⟨hz1 b h1,by rw [hg b (hS.z b h1)];exact h2⟩
  ·rw [hhi κ (by omega)];exact hS'.nk _ (by simp only;omega)
  ·by_cases hk:κ.1<nk
   ·rw [hlo κ hk] at hκ;exact Nat.lt_of_lt_of_le (hS.bd κ b N hκ) hnx
   ·rw [hhi κ hk] at hκ;exact hS'.bd _ b N hκ
  ·rw [PE nk S hT] at hκ;by_cases hk:κ.1<nk
   ·rw [if_pos hk] at hκ;obtain⟨s,hs,hbx⟩:=hS.box κ x hκ;refine⟨s,hB κ s hs,?_⟩;cases s with
    |nil=>exact hbx
    |blk b N=>
     obtain⟨g1,g2,g3,cs,rest,g4,g5,g6⟩:=hbx;exact⟨fun h=>g1 (hz2 b h g3),g2,oM,cs,rest,g4.same (hg b g3),g5,Bk.rel_mono hZ hB g6⟩
   ·rw [if_neg hk] at hκ;cases hs:qP S' (κ.1-nk,κ.2) with
    |none=>rw [hs] at hκ;cases hκ
    |some y=>
     rw [hs] at hκ;obtain rfl:=zsi hκ;obtain⟨s,hs',hbx⟩:=hS'.box _ y hs;refine⟨s,by rw [hhi κ hk];exact hs',?_⟩;cases s with
     |nil=>cases y<;>simpa [y8,aP,Bk.len,wg] using hbx
     |blk b N=>
      obtain⟨g1,g2,g3,cs,rest,g4,g5,g6⟩:=hbx;refine⟨g1,Nat.le_trans hS.lo g2,g3,cs,rest,by rw [eB];exact g4,by rw [eB];exact g5,?_⟩;cases y with
      |cells l=>exact Wo hβ g6
      |data l=>exact g6
      |tree l=>exact g6.elim
      |mp ks l=>exact Wo hβ g6
      |mt es=>exact g6.elim
  ·rw [lL nk S hT] at hκ hκ';by_cases hk:κ.1<nk
   ·rw [if_pos hk] at hκ;rw [hlo κ hk] at h1;by_cases hk':κ'.1<nk
    ·rw [if_pos hk'] at hκ';rw [hlo κ' hk'] at h2;exact hS.inj κ κ' x x' b N N' hκ hκ' h1 h2
    ·rw [hhi κ' hk'] at h2;exact absurd (hS'.blo _ _ _ h2) fun hge=>by have:=hS.bd κ b N h1;simp only at hge;omega
   ·rw [if_neg hk] at hκ;rw [hhi κ hk] at h1;by_cases hk':κ'.1<nk
    ·rw [hlo κ' hk'] at h2;exact absurd (hS'.blo _ _ _ h1) fun hge=>by have:=hS.bd κ' b N' h2;simp only at hge;omega
    ·rw [if_neg hk'] at hκ';rw [hhi κ' hk'] at h2;cases e1:lk S' (κ.1-nk) with
     |none=>rw [e1] at hκ;cases hκ
     |some z1=>
      cases e2:lk S' (κ'.1-nk) with
      |none=>rw [e2] at hκ';cases hκ'
      |some z2=>
       have:=hS'.inj (κ.1-nk,κ.2) (κ'.1-nk,κ'.2) z1 z2 b N N' e1 e2 h1 h2;obtain⟨q1,q2⟩:=Prod.mk.inj this;obtain⟨a,i⟩:=κ;obtain⟨a',i'⟩:=κ';simp only at hk hk' q1 q2;rw [q2,show a=a' by omega]
  ·by_cases hk:κ.1<nk
   ·rw [hlo κ hk] at hκ;exact hS.blo κ b N hκ
   ·rw [hhi κ hk] at hκ;exact Nat.le_trans hS.lo (hS'.blo _ b N hκ)
 have hC':=hC.same hZ hB hg hS.wf;refine⟨hC'.watch ws,(h d S' nk' hR).run _ β'' H' _ c hSS ((hE.mono hZ hB).set dst (UN hβ hr)) hC' ⟨hA.1,fun j hj hjA=>?_⟩⟩;obtain⟨h1,h2,h3,h4⟩:=hA.2 j hj hjA;refine⟨by omega,by rw [hg _ h1];exact h2,fun h=>h3 (hz2 _ h h1),fun κ N hκ=>?_⟩;by_cases hk:κ.1<nk
 ·rw [hlo κ hk] at hκ;exact h4 κ N hκ
 ·rw [hhi κ hk] at hκ;have:=hS'.blo _ _ _ hκ;simp only at this;omega
end
def vV(β β':qw):Prop:=∀k s,β (k,0)=some s->β' (k,0)=some s
def VO:DC->Bool
 |.trow _ _ _ _=>false
 |.tptr _ _ _=>false
 |_=>true
def tN:DV->Bool
 |.one d=>VO d
 |.agg l=>qV VO l
 |.tup _=>false
def GS:DV->Bool
 |.tup l=>qV tN l
 |.one d=>VO d
 |.agg l=>qV VO l
def YT:qq->Bool
 |[]=>true
 |(_,d)::E=>match GS d with
  |true=>YT E
  |false=>false
section
variable{Z Z':Nat->Prop}{H H':Hp}{β β':qw}
theorem N8(hb:vV β β'):∀{l l':List (Nat × Nat)},jY β l l'->jY β' l l'
 |[],[],_=>trivial
 |(_,_)::_,(_,_)::_,⟨h1,⟨N,h2⟩,h3⟩=>⟨h1,⟨N,hb _ _ h2⟩,N8 hb h3⟩
theorem RD.mono0(h:xo Z H Z' H')(hb:vV β β'){d:DC}{c:C}(ht:VO d=true)(hr:RD Z H β d c):RD Z' H' β' d c:=by
 cases d with
 |f d=>exact RF.mono h hr
 |g b o=>exact hr
 |ptr k o=>obtain⟨b,N,h1,h2⟩:=hr;exact⟨b,N,hb _ _ h1,h2⟩
 |own k o n esz=>
  rcases hr with⟨h1,h2⟩|⟨b,N,cap,ex,h1,h2⟩
  ·exact .inl ⟨hb _ _ h1,h2⟩
  ·exact .inr ⟨b,N,cap,ex,hb _ _ h1,h2⟩
 |fptr l=>obtain⟨b,o,cs,h1,h2,h3,h4⟩:=hr;exact⟨b,o,cs,h1,(h b h2).1,h.loads h2 h3,h4.mono fun _ _=>RF.mono h⟩
 |fn f caps=>obtain⟨caps',h1,h2⟩:=hr;exact⟨caps',h1,N8 hb h2⟩
 |any=>trivial
 |om k=>obtain⟨b,N,h1,h2⟩:=hr;exact⟨b,N,hb _ _ h1,h2⟩
 |yl k=>obtain⟨b,N,h1,h2⟩:=hr;exact⟨b,N,hb _ _ h1,h2⟩
 |fz f ls=>obtain⟨caps,h1,h2⟩:=hr;exact⟨caps,h1,h2.mono h⟩
 |tptr k i o=>cases ht
 |trow k i o n=>cases ht
theorem RDL.mono0(h:xo Z H Z' H')(hb:vV β β'):∀{l:List DC} {cs:List C},qV VO l=true->qg (RD Z H β) l cs->qg (RD Z' H' β') l cs
 |[],[],_,_=>trivial
 |d::l,c::cs,ha,hr=>by
  have h1:=ye ha d (by simp);have h2:qV VO l=true:=by simp only [qV,h1] at ha;exact ha
  exact⟨RD.mono0 h hb h1 hr.1,RDL.mono0 h hb h2 hr.2⟩
 |[],_::_,_,hr=>hr.elim
 |_::_,[],_,hr=>hr.elim
theorem zw.mono0(h:xo Z H Z' H')(hb:vV β β'){d:DV}{v:V}(ht:tN d=true)(hr:zw Z H β d v):zw Z' H' β' d v:=by
 cases d with
 |one d=>obtain⟨c,h1,h2⟩:=hr;exact⟨c,h1,RD.mono0 h hb ht h2⟩
 |agg l=>obtain⟨c,h1,h2⟩:=hr;exact⟨c,h1,RDL.mono0 h hb ht h2⟩
 |tup l=>cases ht
theorem RDV1L.mono0(h:xo Z H Z' H')(hb:vV β β'):∀{l:List DV} {vs:List V},qV tN l=true->qg (zw Z H β) l vs->qg (zw Z' H' β') l vs
 |[],[],_,_=>trivial
 |d::l,c::cs,ha,hr=>by
  have h1:=ye ha d (by simp);have h2:qV tN l=true:=by simp only [qV,h1] at ha;exact ha
  exact⟨zw.mono0 h hb h1 hr.1,RDV1L.mono0 h hb h2 hr.2⟩
 |[],_::_,_,hr=>hr.elim
 |_::_,[],_,hr=>hr.elim
theorem xC.mono0(h:xo Z H Z' H')(hb:vV β β'){d:DV}{v:V}(ht:GS d=true)(hr:xC Z H β d v):xC Z' H' β' d v:=by
 cases d with
 |one d=>exact zw.mono0 (d:=.one d) h hb ht hr
 |agg l=>exact zw.mono0 (d:=.agg l) h hb ht hr
 |tup l=>obtain⟨vs,h1,h2⟩:=hr;exact⟨vs,h1,RDV1L.mono0 h hb ht h2⟩
theorem CZ:∀{E:qq} {n:Nat} {d:DV},YT E=true->lk E n=some d->GS d=true
 |[],_,_,_,h=>by cases h
 |(k,x)::E,n,d,ht,h=>by
  simp only [YT] at ht;split at ht
  ·rename_i hx;rw [qQ] at h;split at h
   ·obtain rfl:=zsi h;exact hx
   ·exact CZ ht h
  ·cases ht
theorem ER.mono0(h:xo Z H Z' H')(hb:vV β β'){E:qq}{F:T V}(ht:YT E=true)(hr:ER Z β H E F):ER Z' β' H' E F:=fun n d hd=>by
 obtain⟨v,h1,h2⟩:=hr n d hd;exact⟨v,h1,xC.mono0 h hb (CZ ht hd) h2⟩
end
def DX(p:Par)(f:FuncId)(ds:List DV)(S:Bx)(nk:Nat)(R:DV->Bx->Nat->Prop):Prop:=∀Z β H args,SR p Z β H S nk->qg (xC Z H β) ds args->
 qH p.P p.G f args H fun v H'=>∃d S' nk' Z' β',SR p Z' β' H' S' nk'/\xC Z' H' β' d v/\xo Z H Z' H'/\vV β β'/\R d S' nk'
theorem DX.mono{p:Par}{f:FuncId}{ds:List DV}{S:Bx}{nk:Nat}{R R':DV->Bx->Nat->Prop}(h:DX p f ds S nk R)(hr:∀d S nk,R d S nk->R' d S nk):DX p f ds S nk R':=fun Z β H args h1 h2=>(h Z β H args h1 h2).mono fun _ _ ⟨d,S',nk',Z',β',g1,g2,g3,g4,g5⟩=>⟨d,S',nk',Z',β',g1,g2,g3,g4,hr _ _ _ g5⟩
abbrev Par.hold(p:Par)(Z:Nat->Prop)(nk:Nat)(β:qw)(H:Hp):Par:=⟨p.P,p.G,p.GH,Z,p.lo,nk,β,H,none⟩
theorem SR.hold{p:Par}{Z:Nat->Prop}{β:qw}{H:Hp}{S:Bx}{nk:Nat}(h:SR p Z β H S nk):SR (p.hold Z nk β H) Z β H S nk:=
 ⟨h.wf,h.lo,h.z,fun _ hb=>.inl hb,fun _ hb=>hb,fun b bk hb=>hb.elim (fun hb=>h.glob b bk (.inl hb)) fun hb=>hb,h.nk,h.bd,h.box,h.inj,h.blo,fun _ _ _=>rfl,Nat.le_refl _⟩
theorem SR.free{p:Par}{Z Z':Nat->Prop}{β β':qw}{H H':Hp}{S S':Bx}{nk nk':Nat}(h:SR p Z β H S nk)(h':SR (p.hold Z nk β H) Z' β' H' S' nk'):SR p Z' β' H' S' nk'/\xo Z H Z' H'/\vV β β':=by
 have hz:∀b,Z b->Z' b:=h'.zz;refine⟨⟨h'.wf,h'.lo,h'.z,fun b hb=>(h'.zlo b hb).elim (h.zlo b) .inr,fun b hb=>hz b (h.zz b hb),fun b bk hb=>h'.glob b bk (.inr (h.glob b bk hb)),h'.nk,h'.bd,h'.box,h'.inj,h'.blo,fun κ hκ h0=>?_,Nat.le_trans h.ancn h'.ancn⟩,fun b hb=>⟨hz b hb,fun i c hc=>?_⟩,fun k s hκ=>?_⟩
 ·exact (h'.anch κ (Nat.lt_of_lt_of_le hκ h.ancn) h0).trans (h.anch κ hκ h0)
 ·unfold Hp.cell at hc ⊢;cases hg:H.get b with
  |none=>rw [hg] at hc;cases hc
  |some bk=>rw [(h'.glob b bk (.inr ⟨hb,hg⟩)).2];rw [hg] at hc;exact hc
 ·exact (h'.anch (k,0) (h.lt1 hκ) rfl).trans hκ
theorem qpr {p:Par} {f:FuncId} {sf:SFn} (hf:qG p.P p.G f=some sf) {ds:List DV} {S:Bx} {nk:Nat} {R:DV->Bx->Nat->Prop} (hn:Nat.ble ds.length sf.n=true)
 (h:∀Z β H,DPS (p.hold Z nk β H) sf.n sf.code (c6 (p.hold Z nk β H) sf.res R) (QY ds 0) S nk):DX p f ds S nk R:=by
 intro Z β H args hS ha;refine JA hf (by rw [<-ha.len];exact Nat.le_of_ble_eq_true hn) ?_;refine yL ((h Z β H).run Z β H _ hS.hold (ZT 0 ha)) fun e F' H' ⟨E',S',nk',Z',β',h1,h2,h3⟩=>?_;have fin:(∃d,j7 (p.hold Z nk β H) E' S' sf.res=some d/\KD d=true/\∃S0,yu S0 S'/\R d S0 nk')->∃v,yb F' H' sf.res=some v/\∃d S' nk' Z' β',SR p Z' β' H' S' nk'/\xC Z' H' β' d v/\xo Z H Z' H'/\vV β β'/\R d S' nk':=fun⟨d,hd,hfr,S0,hsub,hR⟩=>by
  obtain⟨v,hv,hr⟩:=Jn h1 h2 hd hfr;obtain⟨g1,g2,g3⟩:=hS.free (h1.keepS hsub);exact⟨v,hv,d,S0,nk',Z',β',g1,hr,g2,g3,hR⟩
 cases e with
 |normal=>obtain⟨v,hv,hr⟩:=fin h3;simp only [Xc,hv];exact hr
 |ret=>obtain⟨v,hv,hr⟩:=fin h3;simp only [Xc,hv];exact hr
 |_=>exact h3.elim
def noW:Wt->Bool
 |[]=>true
 |(_,none)::W=>noW W
 |_::_=>false
theorem CR.noW{W:Wt}{Z Z':Nat->Prop}{β β':qw}{H H':Hp}{c:zR}(h:CR W Z β H c)(hW:∀y∈W,y.2=none)(hZ:xo Z H Z' H'):CR W Z' β' H' c:=fun x hx=>by
 obtain⟨y,hy,hw⟩:=h x hx;refine⟨y,hy,?_⟩;have e:=hW y hy;obtain⟨y1,y2⟩:=y;simp only at e;subst e;obtain⟨b,hb,hq⟩:=hw;exact⟨b,(hZ b hb).1,fun H'' hh=>hq H'' fun i c hc=>hh i c ((hZ b hb).2 i c hc)⟩
theorem Xh:∀{W:Wt},noW W=true->∀y∈W,y.2=none
 |[],_,y,hy=>by cases hy
 |(_,none)::W,h,y,hy=>by
  rcases List.mem_cons.1 hy with rfl|hy
  ·rfl
  ·exact Xh (W:=W) h y hy
 |(_,some _)::_,h,_,_=>by cases h
def K5:List (Nat × Nat)->List DV
 |[]=>[]
 |(k,o)::r=>.one (.ptr k o)::K5 r
theorem JL{Z:Nat->Prop}{β:qw}{H:Hp}:∀{l l':List (Nat × Nat)},jY β l l'->qg (xC Z H β) (K5 l) (l'.map Jq)
 |[],[],_=>trivial
 |(k,o)::r,(b,o')::r',⟨h1,⟨N,h2⟩,h3⟩=>⟨⟨_,rfl,b,N,h2,by rw [h1]⟩,JL h3⟩
section
variable{p:Par}{base rs:Nat}{Q:qq->Bx->Nat->Prop}{r:List SOper}{W:Wt}{A:List Nat}{E:qq}{S:Bx}{nk:Nat}{id:Nat}{dst:Option Nat}{aid:Option Nat}{ws:List Nat}{keep:Bool}
theorem vC{f:FuncId}{args:List Opd}{ds:List DV}{R:DV->Bx->Nat->Prop}(hvs:X4 E args=some ds)(hW:noW W=true)(hT:YT E=true)(hc:DX p f ds S nk R)(h:∀d S' nk',R d S' nk'->DPW p base 0 Q r W A (xk E dst d) S' nk'):DPW p base rs Q (⟨id,dst,.cf f args,none,aid,ws,keep⟩::r) W A E S nk:=.mk fun Z β H F c hS hE hC hA=>by
 simp only [qF,qt,if_true];refine (hc Z β H _ hS (kS hE hvs)).mono ?_;rintro v H' ⟨d,S',nk',Z',β',hS',hr,hZ,hB,hR⟩;have hC':CR W Z' β' H' c:=hC.noW (Xh hW) hZ;exact⟨hC'.watch ws,(h d S' nk' hR).run Z' β' H' _ c hS' ((hE.mono0 hZ hB hT).set dst hr) hC' ⟨hA.1,fun j hj=>absurd hj oM⟩⟩
theorem ED{x:Opd}{f:FuncId}{caps:List (Nat × Nat)}{args:List Opd}{ds:List DV}{R:DV->Bx->Nat->Prop}(hx:ro E x=some (.one (.fn f caps)))(hf:qA p.P f=true)(hvs:X4 E args=some ds)(hW:noW W=true)(hT:YT E=true)(hc:DX p f (ds++K5 caps) S nk R)(h:∀d S' nk',R d S' nk'->DPW p base 0 Q r W A (xk E dst d) S' nk'):DPW p base rs Q (⟨id,dst,.cv x args,none,aid,ws,keep⟩::r) W A E S nk:=.mk fun Z β H F c hS hE hC hA=>by
 obtain⟨cx,hcx,caps',rfl,hcaps⟩:=xf hE hx;simp only [qF,qt,if_true,hcx];refine⟨hf,?_⟩;refine (hc Z β H _ hS ((kS hE hvs).append (JL hcaps))).mono ?_;rintro v H' ⟨d,S',nk',Z',β',hS',hr,hZ,hB,hR⟩;have hC':CR W Z' β' H' c:=hC.noW (Xh hW) hZ;exact⟨hC'.watch ws,(h d S' nk' hR).run Z' β' H' _ c hS' ((hE.mono0 hZ hB hT).set dst hr) hC' ⟨hA.1,fun j hj=>absurd hj oM⟩⟩
theorem qaG{x:Opd}{f:FuncId}{args:List Opd}{ds:List DV}{R:DV->Prop}(hx:ro E x=some (.one (.f (.c (.fn f [])))))(hfn:qA p.P f=true)(hvs:X4 E args=some ds)(hf:qV WT ds=true)(hc:yd p.P p.G p.GH f ds R)(h:∀d,R d->DPW p base rs Q r W A (xk E dst d) S nk):DPW p base rs Q (⟨id,dst,.cv x args,none,aid,ws,keep⟩::r) W A E S nk:=.mk fun Z β H F c hS hE hC hA=>by
 have hw:=(qk (id:=id) (dst:=dst) (aid:=aid) (ws:=ws) (keep:=keep) hvs hf hc h).run Z β H F c hS hE hC hA;obtain⟨cx,hcx,hr⟩:=xf hE hx;cases hr;simp only [qF,qt,if_true] at hw;simp only [qF,qt,if_true,hcx,List.map_nil,List.append_nil];exact⟨hfn,hw⟩
end
def wH(kb:Nat):DC->Bool
 |.trow k _ _ _=>!(Nat.beq k kb)
 |.tptr k _ _=>!(Nat.beq k kb)
 |_=>true
def tP(kb:Nat):DV->Bool
 |.one d=>wH kb d
 |.agg l=>qV (wH kb) l
 |.tup _=>false
def GT(kb:Nat):DV->Bool
 |.tup l=>qV (tP kb) l
 |.one d=>wH kb d
 |.agg l=>qV (wH kb) l
def VP(kb:Nat):qq->Bool
 |[]=>true
 |(_,d)::E=>match GT kb d with
  |true=>VP kb E
  |false=>false
def wZ(kb:Nat):List (Int × ME)->Bool
 |[]=>true
 |(_,.row _)::es=>wZ kb es
 |(_,.out c)::es=>match wH kb c with
  |true=>wZ kb es
  |false=>false
def tO(kb:Nat):Bk->Bool
 |.cells l=>qV (wH kb) l
 |.mp _ l=>qV (wH kb) l
 |.mt es=>wZ kb es
 |_=>true
def Yw(kb:Nat):Bx->Bool
 |[]=>true
 |(k,x)::S=>match Nat.beq k kb with
  |true=>Yw kb S
  |false=>match tO kb x with
   |true=>Yw kb S
   |false=>false
def Xs(kb:Nat)(β β':qw):Prop:=∀κ s,(κ.1≠kb\/κ.2=0)->β κ=some s->β' κ=some s
section
variable{Z:Nat->Prop}{H H':Hp}{β β':qw}{kb:Nat}
theorem N7(hb:Xs kb β β'):∀{l l':List (Nat × Nat)},jY β l l'->jY β' l l'
 |[],[],_=>trivial
 |(_,_)::_,(_,_)::_,⟨h1,⟨N,h2⟩,h3⟩=>⟨h1,⟨N,hb _ _ (.inr rfl) h2⟩,N7 hb h3⟩
theorem Jt{k:Nat}(h:(!(Nat.beq k kb))=true):k≠kb:=by
 rintro rfl;rw [jU] at h;cases h
theorem RD.monoK(hb:Xs kb β β'){d:DC}{c:C}(ht:wH kb d=true)(hr:RD Z H β d c):RD Z H β' d c:=by
 cases d with
 |f d=>exact hr
 |g b o=>exact hr
 |ptr k o=>obtain⟨b,N,h1,h2⟩:=hr;exact⟨b,N,hb _ _ (.inr rfl) h1,h2⟩
 |own k o n esz=>
  rcases hr with⟨h1,h2⟩|⟨b,N,cap,ex,h1,h2⟩
  ·exact .inl ⟨hb _ _ (.inr rfl) h1,h2⟩
  ·exact .inr ⟨b,N,cap,ex,hb _ _ (.inr rfl) h1,h2⟩
 |fptr l=>exact hr
 |fn f caps=>obtain⟨caps',h1,h2⟩:=hr;exact⟨caps',h1,N7 hb h2⟩
 |any=>trivial
 |om k=>obtain⟨b,N,h1,h2⟩:=hr;exact⟨b,N,hb _ _ (.inr rfl) h1,h2⟩
 |yl k=>obtain⟨b,N,h1,h2⟩:=hr;exact⟨b,N,hb _ _ (.inr rfl) h1,h2⟩
 |fz f ls=>exact hr
 |tptr k i o=>obtain⟨b,N,h1,h2⟩:=hr;exact⟨b,N,hb _ _ (.inl (Jt ht)) h1,h2⟩
 |trow k i o n=>
  rcases hr with⟨h1,h2⟩|⟨b,N,cap,ex,h1,h2⟩
  ·exact .inl ⟨hb _ _ (.inl (Jt ht)) h1,h2⟩
  ·exact .inr ⟨b,N,cap,ex,hb _ _ (.inl (Jt ht)) h1,h2⟩
theorem RDL.monoK(hb:Xs kb β β'):∀{l:List DC} {cs:List C},qV (wH kb) l=true->qg (RD Z H β) l cs->qg (RD Z H β') l cs
 |[],[],_,_=>trivial
 |d::l,c::cs,ha,hr=>by
  have h1:=ye ha d (by simp);have h2:qV (wH kb) l=true:=by simp only [qV,h1] at ha;exact ha
  exact⟨RD.monoK hb h1 hr.1,RDL.monoK hb h2 hr.2⟩
 |[],_::_,_,hr=>hr.elim
 |_::_,[],_,hr=>hr.elim
theorem zw.monoK(hb:Xs kb β β'){d:DV}{v:V}(ht:tP kb d=true)(hr:zw Z H β d v):zw Z H β' d v:=by
 cases d with
 |one d=>obtain⟨c,h1,h2⟩:=hr;exact⟨c,h1,RD.monoK hb ht h2⟩
 |agg l=>obtain⟨c,h1,h2⟩:=hr;exact⟨c,h1,RDL.monoK hb ht h2⟩
 |tup l=>cases ht
theorem RDV1L.monoK(hb:Xs kb β β'):∀{l:List DV} {vs:List V},qV (tP kb) l=true->qg (zw Z H β) l vs->qg (zw Z H β') l vs
 |[],[],_,_=>trivial
 |d::l,c::cs,ha,hr=>by
  have h1:=ye ha d (by simp);have h2:qV (tP kb) l=true:=by simp only [qV,h1] at ha;exact ha
  exact⟨zw.monoK hb h1 hr.1,RDV1L.monoK hb h2 hr.2⟩
 |[],_::_,_,hr=>hr.elim
 |_::_,[],_,hr=>hr.elim
theorem xC.monoK(hb:Xs kb β β'){d:DV}{v:V}(ht:GT kb d=true)(hr:xC Z H β d v):xC Z H β' d v:=by
 cases d with
 |one d=>exact zw.monoK (d:=.one d) hb ht hr
 |agg l=>exact zw.monoK (d:=.agg l) hb ht hr
 |tup l=>obtain⟨vs,h1,h2⟩:=hr;exact⟨vs,h1,RDV1L.monoK hb ht h2⟩
theorem p9:∀{E:qq} {n:Nat} {d:DV},VP kb E=true->lk E n=some d->GT kb d=true
 |[],_,_,_,h=>by cases h
 |(k,x)::E,n,d,ht,h=>by
  simp only [VP] at ht;split at ht
  ·rename_i hx;rw [qQ] at h;split at h
   ·obtain rfl:=zsi h;exact hx
   ·exact p9 ht h
  ·cases ht
theorem ER.monoK(hb:Xs kb β β'){E:qq}{F:T V}(ht:VP kb E=true)(hr:ER Z β H E F):ER Z β' H E F:=fun n d hd=>by
 obtain⟨v,h1,h2⟩:=hr n d hd;exact⟨v,h1,xC.monoK hb (p9 ht hd) h2⟩
theorem c9:∀{S:Bx} {k:Nat} {x:Bk},Yw kb S=true->lk S k=some x->k≠kb->tO kb x=true
 |[],_,_,_,h,_=>by cases h
 |(j,y)::S,k,x,ht,h,hne=>by
  simp only [Yw] at ht;rw [qQ] at h;split at h
  ·rename_i e;subst e;obtain rfl:=zsi h;rw [jr hne] at ht;simp only at ht;split at ht
   ·rename_i hx;exact hx
   ·cases ht
  ·split at ht
   ·exact c9 ht h hne
   ·split at ht
    ·exact c9 ht h hne
    ·cases ht
theorem lF{j:Nat}(hj:j≠kb):∀(i:Nat) (rows:List (List FD)),qV (wH kb) (zh j i rows)=true
 |_,[]=>rfl
 |i,r::rs=>by simp only [zh,qV,wH,jr hj,lF hj (i+1) rs,Bool.not_false]
theorem lG{j:Nat}(hj:j≠kb):∀(i:Nat) (es:List (Int × ME)),wZ kb es=true->qV (wH kb) (kY j i es)=true
 |_,[],_=>rfl
 |i,(_,.row r)::es,h=>by
  have e0:∀y:Int,wH kb (.f (.c (.int .i64 y)))=true:=fun _=>rfl;have e1:wH kb (.trow j i 0 r.length)=true:=by simp only [wH,jr hj,Bool.not_false]
  simp only [kY,qV,e0,e1,lG hj (i+1) es h]
 |i,(_,.out c)::es,h=>by
  have e0:∀y:Int,wH kb (.f (.c (.int .i64 y)))=true:=fun _=>rfl;simp only [wZ] at h;split at h
  ·rename_i hc;simp only [kY,qV,e0,hc,lG hj (i+1) es h]
  ·cases h
theorem rA{S:Bx}{κ:zC}{x:Bk}(hs:Yw kb S=true)(h:qP S κ=some x)(hne:κ.1≠kb):tO kb x=true:=by
 obtain⟨j,i⟩:=κ;obtain⟨y,hy⟩:=yy h;have ho:=c9 hs hy hne;simp only at hy hne;cases i with
 |zero=>
  simp only [qP,hy] at h;cases y with
  |cells m=>obtain rfl:=zsi h;exact ho
  |data m=>obtain rfl:=zsi h;exact ho
  |tree rows=>obtain rfl:=zsi h;exact lF hne 0 rows
  |mp ks m=>obtain rfl:=zsi h;exact ho
  |mt es=>obtain rfl:=zsi h;exact lG hne 0 es ho
 |succ i=>
  simp only [qP,hy] at h;cases y with
  |cells m=>cases h
  |data m=>cases h
  |tree rows=>
   cases hr:rows[i]? with
   |none=>simp only [hr] at h;cases h
   |some r=>simp only [hr] at h;obtain rfl:=zsi h;rfl
  |mp ks m=>cases h
  |mt es=>obtain⟨_,r,_,rfl⟩:=wo h;rfl
theorem y8.monoK{p:Par}(hb:Xs kb β β'){x:Bk}{s:Slot}(hx:tO kb x=true)(h:y8 p Z H β x s):y8 p Z H β' x s:=by
 cases s with
 |nil=>exact h
 |blk b N=>
  obtain⟨h1,h2,h3,cs,rest,h4,h5,h6⟩:=h;refine⟨h1,h2,h3,cs,rest,h4,h5,?_⟩;cases x with
  |cells m=>exact RDL.monoK hb hx h6
  |data m=>exact h6
  |tree m=>exact h6
  |mp ks m=>exact RDL.monoK hb hx h6
  |mt es=>exact h6
end
def zr(Z:Nat->Prop)(H:Hp)(β:qw)(kb:Nat):Nat->List (Int × ME)->List (V × V)->Prop
 |_,[],[]=>True
 |i,(y,.row r)::es,(k,v)::es'=>k=.one (.int .i64 y)/\(∃c,v=.one c/\RD Z H β (.trow kb i 0 r.length) c)/\zr Z H β kb (i+1) es es'
 |i,(y,.out d)::es,(k,v)::es'=>k=.one (.int .i64 y)/\(∃c,v=.one c/\RD Z H β d c)/\zr Z H β kb (i+1) es es'
 |_,_,_=>False
theorem WZ{Z:Nat->Prop}{H:Hp}{β:qw}{kb:Nat}:∀{i:Nat} {es:List (Int × ME)} {es':List (V × V)},(∀e∈es',tZ 0 e.1/\∃c,e.2=.one c)->qg (RD Z H β) (kY kb i es) (MF es')->zr Z H β kb i es es'
 |i,[],[],_,_=>trivial
 |i,[],(k,v)::es',hk,h=>by
  obtain⟨⟨c,h1⟩,c',h2⟩:=hk (k,v) (by simp);simp only at h1 h2;subst h1 h2;exact h.elim
 |i,(y,.row r)::es,[],hk,h=>h.elim
 |i,(y,.out d)::es,[],hk,h=>h.elim
 |i,(y,.row r)::es,(k,v)::es',hk,h=>by
  obtain⟨⟨c,h1⟩,c',h2⟩:=hk (k,v) (by simp);simp only at h1 h2;subst h1 h2;obtain⟨g1,g2,g3⟩:=(h:RD Z H β (.f (.c (.int .i64 y))) c/\RD Z H β (.trow kb i 0 r.length) c'/\qg (RD Z H β) (kY kb (i+1) es) (MF es'));cases g1;exact⟨rfl,⟨c',rfl,g2⟩,WZ (fun e he=>hk e (by simp [he])) g3⟩
 |i,(y,.out d)::es,(k,v)::es',hk,h=>by
  obtain⟨⟨c,h1⟩,c',h2⟩:=hk (k,v) (by simp);simp only at h1 h2;subst h1 h2;obtain⟨g1,g2,g3⟩:=(h:RD Z H β (.f (.c (.int .i64 y))) c/\RD Z H β d c'/\qg (RD Z H β) (kY kb (i+1) es) (MF es'));cases g1;exact⟨rfl,⟨c',rfl,g2⟩,WZ (fun e he=>hk e (by simp [he])) g3⟩
theorem WY{Z:Nat->Prop}{H:Hp}{β:qw}{kb:Nat}:∀{i:Nat} {es:List (Int × ME)} {es':List (V × V)},zr Z H β kb i es es'->(∀e∈es',tZ 0 e.1/\∃c,e.2=.one c)/\qg (RD Z H β) (kY kb i es) (MF es')
 |i,[],[],_=>⟨by simp,trivial⟩
 |i,[],_::_,h=>h.elim
 |i,(y,.row r)::es,[],h=>h.elim
 |i,(y,.out d)::es,[],h=>h.elim
 |i,(y,.row r)::es,(k,v)::es',⟨h1,⟨c,h2,h3⟩,h4⟩=>by
  subst h1 h2;obtain⟨g1,g2⟩:=WY h4;refine⟨fun e he=>?_,RF.c _ rfl,h3,g2⟩;rcases List.mem_cons.1 he with rfl|he
  ·exact⟨⟨_,rfl⟩,_,rfl⟩
  ·exact g1 e he
 |i,(y,.out d)::es,(k,v)::es',⟨h1,⟨c,h2,h3⟩,h4⟩=>by
  subst h1 h2;obtain⟨g1,g2⟩:=WY h4;refine⟨fun e he=>?_,RF.c _ rfl,h3,g2⟩;rcases List.mem_cons.1 he with rfl|he
  ·exact⟨⟨_,rfl⟩,_,rfl⟩
  ·exact g1 e he
def ME.val(kb i:Nat):ME->DC
 |.row r=>.trow kb i 0 r.length
 |.out d=>d
theorem zr.cons{Z:Nat->Prop}{H:Hp}{β:qw}{kb i:Nat}{e:Int × ME}{es:List (Int × ME)}{x:V × V}{es':List (V × V)}:zr Z H β kb i (e::es) (x::es')↔x.1=.one (.int .i64 e.1)/\(∃c,x.2=.one c/\RD Z H β (e.2.val kb i) c)/\zr Z H β kb (i+1) es es':=by
 obtain⟨y,e⟩:=e;obtain⟨k,v⟩:=x;cases e<;>rfl
theorem zr.at{Z:Nat->Prop}{H:Hp}{β:qw}{kb:Nat}:∀{j i:Nat} {es:List (Int × ME)} {es':List (V × V)} {e:Int × ME},zr Z H β kb j es es'->es[i]?=some e->∃c,es'[i]?=some (.one (.int .i64 e.1),.one c)/\RD Z H β (e.2.val kb (j+i)) c
 |j,i,[],[],e,_,h=>by simp at h
 |j,i,[],_::_,e,h,_=>h.elim
 |j,i,(y,.row r)::es,[],e,h,_=>h.elim
 |j,i,(y,.out d)::es,[],e,h,_=>h.elim
 |j,0,e0::es,x::es',e,h,he=>by
  obtain⟨h1,⟨c,h2,h3⟩,_⟩:=zr.cons.1 h;simp at he;subst he;exact⟨c,by simp [<-h1,<-h2],h3⟩
 |j,i+1,e0::es,x::es',e,h,he=>by
  obtain⟨_,_,h3⟩:=zr.cons.1 h;obtain⟨c,g1,g2⟩:=zr.at h3 (by simpa using he);exact⟨c,by simpa using g1,by rw [show j+(i+1)=j+1+i by omega];exact g2⟩
theorem zr.mono{Z Z':Nat->Prop}{H H':Hp}{β β':qw}{kb kb':Nat}:∀{j:Nat} {es es1:List (Int × ME)} {es':List (V × V)},zr Z H β kb j es es'->es1.length=es.length->(∀(i:Nat) (e e1:Int × ME),es[i]?=some e->es1[i]?=some e1->e1.1=e.1/\∀c,RD Z H β (e.2.val kb (j+i)) c->RD Z' H' β' (e1.2.val kb' (j+i)) c)->zr Z' H' β' kb' j es1 es'
 |j,[],[],[],_,_,_=>trivial
 |j,e::es,e1::es1,x::es',h,hl,hm=>by
  obtain⟨h1,⟨c,h2,h3⟩,h4⟩:=zr.cons.1 h;obtain⟨g1,g2⟩:=hm 0 e e1 rfl rfl;refine zr.cons.2 ⟨by rw [h1,g1],⟨c,h2,g2 c h3⟩,zr.mono h4 (by simpa using hl) fun i a b ha hb=>?_⟩;have:=hm (i+1) a b (by simpa using ha) (by simpa using hb);rw [show j+1+i=j+(i+1) by omega];exact this
 |j,[],_::_,_,_,hl,_=>by simp at hl
 |j,_::_,[],_,_,hl,_=>by simp at hl
 |j,[],[],_::_,h,_,_=>h.elim
 |j,(y,.row r)::es,_::_,[],h,_,_=>h.elim
 |j,(y,.out d)::es,_::_,[],h,_,_=>h.elim
theorem zr.find{Z:Nat->Prop}{H:Hp}{β:qw}{kb:Nat}{y:Int}:∀{j n:Nat} {es:List (Int × ME)} {es':List (V × V)} {i:Nat} {e:Int × ME},zr Z H β kb j es es'->es[i]?=some e->e.1=y->(∀(j:Nat) (e:Int × ME),j<i->es[j]?=some e->e.1≠y)->∃v,QM (.one (.int .i64 y)) es' n=some (some (n+i,v))/\es'[i]?=some (.one (.int .i64 y),v)
 |j,n,[],_,i,e,_,h,_,_=>by simp at h
 |j,n,(y',.row r)::es,[],i,e,h,_,_,_=>h.elim
 |j,n,(y',.out d)::es,[],i,e,h,_,_,_=>h.elim
 |j,n,e0::es,x::es',i,e,h,he,hy,hf=>by
  obtain⟨h1,⟨c,h2,h3⟩,h4⟩:=zr.cons.1 h;obtain⟨k,v⟩:=x;simp only at h1 h2;subst h1 h2;cases i with
  |zero=>
   simp at he;subst he;refine⟨.one c,?_,by simp [hy]⟩;simp [QM,Yj,hy]
  |succ i=>
   have hne:=hf 0 e0 oM rfl;obtain⟨v,g1,g2⟩:=zr.find (n:=n+1) h4 (by simpa using he) hy (fun j' e' hj' he'=>hf (j'+1) e' (by omega) (by simpa using he'));refine⟨v,?_,by simpa using g2⟩;have:(y==e0.1)=false:=by simpa using fun h=>hne h.symm
   simp only [QM,Yj,if_true,this];rw [g1,show n+1+i=n+(i+1) by omega]
theorem zr.none{Z:Nat->Prop}{H:Hp}{β:qw}{kb:Nat}{y:Int}:∀{j n:Nat} {es:List (Int × ME)} {es':List (V × V)},zr Z H β kb j es es'->(∀e∈es,e.1≠y)->QM (.one (.int .i64 y)) es' n=some none
 |j,n,[],[],_,_=>rfl
 |j,n,[],_::_,h,_=>h.elim
 |j,n,(y',.row r)::es,[],h,_=>h.elim
 |j,n,(y',.out d)::es,[],h,_=>h.elim
 |j,n,e0::es,x::es',h,hf=>by
  obtain⟨h1,⟨c,h2,h3⟩,h4⟩:=zr.cons.1 h;obtain⟨k,v⟩:=x;simp only at h1 h2;subst h1 h2;have:(y==e0.1)=false:=by simpa using fun h=>hf e0 (by simp) h.symm
  simp only [QM,Yj,if_true,this];exact zr.none h4 fun e he=>hf e (by simp [he])
section
variable{p:Par}{base rs:Nat}{Q:qq->Bx->Nat->Prop}{r:List SOper}{W:Wt}{A:List Nat}{E:qq}{S:Bx}{nk:Nat}{id:Nat}{dst:Option Nat}{aid:Option Nat}{ws:List Nat}{keep:Bool}
theorem SR.congr2{S':Bx}{Z:Nat->Prop}{β:qw}{H:Hp}(h:SR p Z β H S nk)(h2:∀κ x,qP S' κ=some x->qP S κ=some x)(h1:∀k x,lk S' k=some x->∃y,lk S k=some y):SR p Z β H S' nk:=
 ⟨h.wf,h.lo,h.z,h.zlo,h.zz,h.glob,h.nk,h.bd,fun κ x hk=>h.box κ x (h2 κ x hk),fun κ κ' x x' b N N' hk hk'=>by
  obtain⟨y,hy⟩:=h1 _ _ hk;obtain⟨y',hy'⟩:=h1 _ _ hk';exact h.inj κ κ' y y' b N N' hy hy',h.blo,h.anch,h.ancn⟩
theorem IX{k:Nat}{Z:Nat->Prop}{β:qw}{H:Hp}(h:SR p Z β H ((k,.mp (.m 0) [])::S) nk):SR p Z β H ((k,.mt [])::S) nk:=by
 refine h.congr2 (fun κ x hk=>?_) fun j x hj=>?_
 ·obtain⟨j,i⟩:=κ;by_cases e:k=j
  ·subst e;cases i with
   |zero=>simp only [qP,qQ,if_true] at hk ⊢;exact hk
   |succ i=>simp only [qP,qQ,if_true] at hk;simp [we] at hk
  ·rw [<-hk];exact z6 (by rw [qQ,qQ,if_neg e,if_neg e])
 ·rw [qQ] at hj ⊢;split at hj
  ·rename_i e;rw [if_pos e];exact⟨_,rfl⟩
  ·rename_i e;rw [if_neg e];exact⟨x,hj⟩
theorem ID(h:DPW p base rs Q r W A (xk E dst (.one (.om nk))) ((nk,.mt [])::S) (nk+1)):DPW p base rs Q (⟨id,dst,.a .mkmap,none,none,ws,keep⟩::r) W A E S nk:=.mk fun Z β H F c hS hE hC hA=>by
 simp only [qF,qt,if_true,xA];have hfr:H.get H.nx=none:=hS.wf.fresh (Nat.le_refl _);have hg:∀b',b'≠H.nx->(H.push (.mp [])).get b'=H.get b':=fun b' hb'=>by rw [Hp.get_push,if_neg hb']
 have hz:¬Z H.nx:=fun hz=>absurd (hS.z _ hz) oM;obtain⟨hS',hZ,hB⟩:=hS.newB (x:=.mp (.m 0) []) (b:=H.nx) (N0:=0) (H':=H.push (.mp [])) rfl (fun β' hB hZ=>⟨hz,hS.lo,by simp,[],[],⟨[],by rw [Hp.get_push,if_pos rfl],by simp,rfl⟩,rfl,trivial⟩) hz (fun k N hk=>absurd (hS.bd k _ N hk) (by omega)) hS.lo (by simp) (by simp) (hS.wf.push _) hg;exact h.run Z _ _ _ c (IX hS') ((hE.mono hZ hB).set dst ⟨_,rfl,_,_,xu _ _ _,rfl⟩) (hC.new hZ hB hg hfr) (hA.new (by simp) hg fun j hj hjA e=>by have:=(hA.2 j hj hjA).1;omega)
theorem SR.mtb{Z:Nat->Prop}{β:qw}{H:Hp}(hS:SR p Z β H S nk){kb:Nat}{es:List (Int × ME)}(hb:lk S kb=some (.mt es)){c:C}(hr:RD Z H β (.om kb) c):∃b N es',c=.map b/\β (kb,0)=some (.blk b N)/\¬Z b/\p.lo<=b/\b<H.nx/\H.get b=some (.mp es')/\zr Z H β kb 0 es es':=by
 obtain⟨b,N,h1,rfl⟩:=hr;obtain⟨s,hs,hbx⟩:=hS.box (kb,0) (.mp (.m 0) (kY kb 0 es)) (by simp only [qP,hb]);rw [h1] at hs;obtain rfl:=zsi hs;obtain⟨g1,g2,g3,cs,rest,⟨es',g4,g5,g6⟩,g8,g7⟩:=hbx;have g8:rest=[]:=g8;subst g8;rw [List.append_nil] at g6;exact⟨b,N,es',rfl,h1,g1,g2,g3,g4,WZ g5 (by rw [g6];exact g7)⟩
theorem fI {z:C} {m k:Opd} {kb:Nat} {y:Int} {es:List (Int × ME)} (hm:ro E m=some (.one (.om kb))) (hk:ro E k=some (.one (.f (.c (.int .i64 y))))) (hb:lk S kb=some (.mt es)) (hn:∀e∈es,e.1≠y) (hz:z.closed=true)
 (h:DPW p base rs Q r W A (xk E dst (.one (.f (.c z)))) S nk):DPW p base rs Q (⟨id,dst,.l (.lookup (.one z) false m k),none,aid,ws,false⟩::r) W A E S nk:=.mk fun Z β H F c hS hE hC hA=>by
 obtain⟨cm,hcm,hrm⟩:=xf hE hm;obtain⟨b,N,es',rfl,h1,h2,h3,h4,h5,h6⟩:=hS.mtb hb hrm;simp only [qF,qt,if_true,xj,hcm,zT hE hk,wp,h5,h6.none hn,kE,Bool.false_eq_true,if_false];exact h.run Z β H _ c hS (hE.set dst (wq hz)) hC hA
def Qh(β:qw)(nk kb i:Nat):qw:=fun κ=>if κ=(nk,0) then β (kb,i+1) else if κ=(kb,i+1) then none else β κ
theorem pD{kb:Nat}(h:jD S kb W=true):∀y∈W,∀(j:zC) o n,y.2=some (j,o,n)->j.1≠kb:=fun y hy j o n e=>(Q6 h y hy j o n e).2
theorem CR.monoK{Z:Nat->Prop}{β β':qw}{H:Hp}{c:zR}{kb:Nat}(h:CR W Z β H c)(hw:∀y∈W,∀(j:zC) o n,y.2=some (j,o,n)->j.1≠kb)(hb:Xs kb β β'):CR W Z β' H c:=fun x hx=>by
 obtain⟨y,hy,hq⟩:=h x hx;refine⟨y,hy,?_⟩;obtain⟨y1,y2⟩:=y
 match y2,hq,hy with
 |none,hq,_=>exact hq
 |some (k,o,n),⟨b,N,h1,h2⟩,hy=>exact⟨b,N,hb _ _ (.inl (hw _ hy k o n rfl)) h1,h2⟩
theorem AR.monoK{Z:Nat->Prop}{β β':qw}{H:Hp}(h:AR p base rs A Z β H)(hb:∀κ b N,β' κ=some (.blk b N)->∃κ' N',β κ'=some (.blk b N')):AR p base rs A Z β' H:=⟨h.1,fun j hj hjA=>by
 obtain⟨h1,h2,h3,h4⟩:=h.2 j hj hjA;refine⟨h1,h2,h3,fun k N hk=>?_⟩;obtain⟨κ',N',hk'⟩:=hb k _ N hk;exact h4 κ' N' hk'⟩
theorem Zw{α:Type}{l:List α}{i j:Nat}{x e:α}(h:(l.set i x)[j]?=some e):(j=i/\e=x)\/(j≠i/\l[j]?=some e):=by
 rw [List.getElem?_set] at h;split at h
 ·rename_i e';split at h
  ·exact .inl ⟨e'.symm,(zsi h).symm⟩
  ·cases h
 ·rename_i e';exact .inr ⟨fun h=>e' h.symm,h⟩
theorem KF{kb:Nat}:∀{es:List (Int × ME)} {i:Nat} {y:Int} {d:DC},wZ kb es=true->es[i]?=some (y,.out d)->wH kb d=true
 |[],_,_,_,_,h=>by simp at h
 |(_,.row _)::es,0,_,_,_,h=>by simp at h
 |(_,.row _)::es,i+1,_,_,hk,h=>KF (es:=es) hk (by simpa using h)
 |(_,.out c)::es,i,_,_,hk,h=>by
  simp only [wZ] at hk;split at hk
  ·rename_i hc;cases i with
   |zero=>simp at h;rw [<-h.2];exact hc
   |succ i=>exact KF (es:=es) hk (by simpa using h)
  ·cases hk
theorem Ju{S:Bx}{kb:Nat}{es es1:List (Int × ME)}(hb:lk S kb=some (.mt es))(κ:zC):qP (put kb (.mt es1) S) κ=if κ.1=kb then (match κ.2 with|0=>some (.mp (.m 0) (kY kb 0 es1))|i+1=>we es1[i]?) else qP S κ:=by
 obtain⟨k,i⟩:=κ;by_cases e:k=kb
 ·subst e;rw [if_pos rfl];have hl:lk (put k (.mt es1) S) k=some (.mt es1):=by rw [yx,if_pos rfl,hb];rfl
  cases i with
  |zero=>simp only [qP,hl]
  |succ i=>simp only [qP,hl]
 ·rw [if_neg e];exact z6 (by rw [yx,if_neg e])
theorem SR.detach{Z:Nat->Prop}{β:qw}{H:Hp}(hS:SR p Z β H S nk){kb i:Nat}{y:Int}{es:List (Int × ME)}{q:List FD}(hb:lk S kb=some (.mt es))(hi:es[i]?=some (y,.row q))(hKS:Yw kb S=true)(hKM:wZ kb es=true):
 SR p Z (Qh β nk kb i) H ((nk,.data q)::put kb (.mt (es.set i (y,.out (.own nk 0 q.length 1)))) S) (nk+1)/\Xs kb β (Qh β nk kb i)/\(∀κ b N,Qh β nk kb i κ=some (.blk b N)->∃κ' N',β κ'=some (.blk b N')):=by
 have hkn:=hS.lt hb;have hrow:qP S (kb,i+1)=some (.data q):=by simp only [qP,hb,hi,we]
 have hself:Qh β nk kb i (nk,0)=β (kb,i+1):=by simp [Qh]
 have hgone:Qh β nk kb i (kb,i+1)=none:=by simp [Qh]
 have hoth:∀κ,κ≠(nk,0)->κ≠(kb,i+1)->Qh β nk kb i κ=β κ:=fun κ h1 h2=>by simp [Qh,h1,h2]
 have hB:Xs kb β (Qh β nk kb i):=fun κ s hne hκ=>by
  rw [hoth κ (fun e=>by have:=hS.lt1 hκ;rw [e] at this;simp only at this;omega) (fun e=>by rw [e] at hne;simp at hne)];exact hκ
 have himg:∀κ b N,Qh β nk kb i κ=some (.blk b N)->∃κ',β κ'=some (.blk b N)/\((κ=(nk,0)/\κ'=(kb,i+1))\/(κ≠(nk,0)/\κ≠(kb,i+1)/\κ'=κ)):=fun κ b N h=>by
  by_cases e1:κ=(nk,0)
  ·subst e1;rw [hself] at h;exact⟨_,h,.inl ⟨rfl,rfl⟩⟩
  ·by_cases e2:κ=(kb,i+1)
   ·subst e2;rw [hgone] at h;cases h
   ·rw [hoth κ e1 e2] at h;exact⟨κ,h,.inr ⟨e1,e2,rfl⟩⟩
 refine⟨⟨hS.wf,hS.lo,hS.z,hS.zlo,hS.zz,hS.glob,fun κ hκ=>?_,fun κ b N hκ=>?_,fun κ x hκ=>?_,fun κ κ' x x' b N N' hj hj' h1 h2=>?_,fun κ b N hκ=>?_,fun κ hκ h0=>?_,Nat.le_succ_of_le hS.ancn⟩,hB,fun κ b N h=>by obtain⟨κ',h',_⟩:=himg κ b N h;exact⟨κ',N,h'⟩⟩
 ·rw [hoth κ (fun e=>by rw [e] at hκ;simp only at hκ;omega) (fun e=>by rw [e] at hκ;simp only at hκ;omega)];exact hS.nk κ oM
 ·obtain⟨κ',h',_⟩:=himg κ b N hκ;exact hS.bd κ' b N h'
 ·rw [Jv rfl] at hκ;split at hκ
  ·rename_i e1;split at hκ
   ·rename_i e2;obtain rfl:=vZ e1 e2;obtain rfl:=zsi hκ;obtain⟨s,hs,hbx⟩:=hS.box _ _ hrow;refine⟨s,by rw [hself];exact hs,?_⟩;exact y8.monoK hB rfl hbx
   ·cases hκ
  ·rename_i e1;rw [Ju hb] at hκ;split at hκ
   ·rename_i e2;obtain⟨k,j⟩:=κ;simp only at e2;subst e2;cases j with
    |zero=>
     simp only at hκ;obtain rfl:=zsi hκ;obtain⟨s,hs,hbx⟩:=hS.box (k,0) (.mp (.m 0) (kY k 0 es)) (by simp only [qP,hb]);refine⟨s,hB _ _ (.inr rfl) hs,?_⟩;cases s with
     |nil=>
      have:es=[]:=by
       cases es with
       |nil=>rfl
       |cons e es=>obtain⟨y',e⟩:=e;cases e<;>cases hbx
      subst this;simp at hi
     |blk b N=>
      obtain⟨g1,g2,g3,cs,rest,⟨es',g4,g5,g6⟩,g8,g7⟩:=hbx;have g8:rest=[]:=g8;subst g8;rw [List.append_nil] at g6;have hent:=WZ (kb:=k) (i:=0) g5 (by rw [g6];exact g7);have hent':zr Z H (Qh β nk k i) k 0 (es.set i (y,.out (.own nk 0 q.length 1))) es':=hent.mono (by simp) fun j e e1 he he1=>by
       rw [Nat.zero_add];rcases Zw he1 with⟨rfl,rfl⟩|⟨hne,he1⟩
       ·rw [hi] at he;obtain rfl:=zsi he;refine⟨rfl,fun c hc=>?_⟩;rcases hc with⟨h1,h2⟩|⟨b',N',cap,ex,h1,h2⟩
        ·exact .inl ⟨by rw [hself];exact h1,h2⟩
        ·exact .inr ⟨b',N',cap,ex,by rw [hself];exact h1,h2⟩
       ·rw [he] at he1;obtain rfl:=zsi he1;refine⟨rfl,fun c hc=>?_⟩;obtain⟨y',e⟩:=e;cases e with
        |out d=>exact RD.monoK hB (KF hKM he) hc
        |row r=>
         have hk1:Qh β nk k i (k,j+1)=β (k,j+1):=hoth _ (fun e=>by have:=(Prod.mk.inj e).1;omega) (fun e=>by have:=(Prod.mk.inj e).2;omega);rcases hc with⟨h1,h2⟩|⟨b',N',cap,ex,h1,h2⟩
         ·exact .inl ⟨hk1.trans h1,h2⟩
         ·exact .inr ⟨b',N',cap,ex,hk1.trans h1,h2⟩
      obtain⟨t1,t2⟩:=WY hent';exact⟨g1,g2,g3,MF es',[],⟨es',g4,t1,by simp⟩,rfl,t2⟩
    |succ j=>
     simp only at hκ;obtain⟨y',r',h1,rfl⟩:=wo hκ;rcases Zw h1 with⟨rfl,h2⟩|⟨hne,h2⟩
     ·cases h2
     ·obtain⟨s,hs,hbx⟩:=hS.box (k,j+1) (.data r') (by simp only [qP,hb,h2,we]);exact⟨s,by rw [hoth _ (fun e=>by have:=(Prod.mk.inj e).1;omega) (fun e=>by have:=(Prod.mk.inj e).2;omega)];exact hs,y8.monoK hB rfl hbx⟩
   ·rename_i e2;obtain⟨s,hs,hbx⟩:=hS.box κ x hκ;exact⟨s,hB _ _ (.inl e2) hs,y8.monoK hB (rA hKS hκ e2) hbx⟩
 ·have live:∀(κ:zC) w,lk ((nk,.data q)::put kb (.mt (es.set i (y,.out (.own nk 0 q.length 1)))) S) κ.1=some w->κ.1≠nk->∃w',lk S κ.1=some w':=fun κ w hw hne=>by
   rw [qQ,if_neg (fun h=>hne h.symm),yx] at hw;split at hw
   ·cases hl:lk S κ.1 with
    |none=>rw [hl] at hw;cases hw
    |some w'=>exact⟨w',rfl⟩
   ·exact⟨w,hw⟩
  obtain⟨κ1,b1,c1⟩:=himg κ b N h1;obtain⟨κ2,b2,c2⟩:=himg κ' b N' h2;have l1:∃w,lk S κ1.1=some w:=by
   rcases c1 with⟨_,rfl⟩|⟨e1,_,rfl⟩
   ·exact⟨_,hb⟩
   ·exact live κ1 x hj (fun e=>by have:=hS.lt1 b1;omega)
  have l2:∃w,lk S κ2.1=some w:=by
   rcases c2 with⟨_,rfl⟩|⟨e1,_,rfl⟩
   ·exact⟨_,hb⟩
   ·exact live κ2 x' hj' (fun e=>by have:=hS.lt1 b2;omega)
  obtain⟨w1,l1⟩:=l1;obtain⟨w2,l2⟩:=l2;have:=hS.inj κ1 κ2 w1 w2 b N N' l1 l2 b1 b2;rcases c1 with⟨r1,r2⟩|⟨r1,r2,r3⟩
  ·rcases c2 with⟨s1,s2⟩|⟨s1,s2,s3⟩
   ·rw [r1,s1]
   ·exact absurd (by rw [<-s3,<-this,r2]) s2
  ·rcases c2 with⟨s1,s2⟩|⟨s1,s2,s3⟩
   ·exact absurd (by rw [<-r3,this,s2]) r2
   ·rw [<-r3,this,s3]
 ·obtain⟨κ',h',_⟩:=himg κ b N hκ;exact hS.blo κ' b N h'
 ·have:=hS.ancn;rw [hoth κ (fun e=>by rw [e] at hκ;simp only at hκ;omega) (fun e=>by rw [e] at h0;cases h0)];exact hS.anch κ hκ h0
end
section
variable{p:Par}{base rs n:Nat}{Q:qq->Bx->Nat->Prop}{r:List SOper}{W:Wt}{A:List Nat}{E:qq}{S:Bx}{nk:Nat}{id:Nat}{dst:Option Nat}{aid:Option Nat}{ws:List Nat}{keep:Bool}
theorem mZ {z:V} {m k:Opd} {kb i:Nat} {y:Int} {es:List (Int × ME)} {q:List FD} (hm:ro E m=some (.one (.om kb))) (hk:ro E k=some (.one (.f (.c (.int .i64 y))))) (hb:lk S kb=some (.mt es)) (hi:es[i]?=some (y,.row q)) (hf:∀(j:Nat) (e:Int × ME),j<i->es[j]?=some e->e.1≠y) (hKS:Yw kb S=true) (hKM:wZ kb es=true) (hKE:VP kb E=true) (hW:jD S kb W=true)
 (h:DPW p base rs Q r W A (xk E dst (.one (.own nk 0 q.length 1))) ((nk,.data q)::put kb (.mt (es.set i (y,.out (.own nk 0 q.length 1)))) S) (nk+1)):DPW p base rs Q (⟨id,dst,.l (.lookup z false m k),none,aid,ws,false⟩::r) W A E S nk:=.mk fun Z β H F c hS hE hC hA=>by
 obtain⟨cm,hcm,hrm⟩:=xf hE hm;obtain⟨b,N,es',rfl,h1,h2,h3,h4,h5,h6⟩:=hS.mtb hb hrm;obtain⟨v,g1,g2⟩:=h6.find (n:=0) hi rfl hf;obtain⟨cv,g3,g4⟩:=h6.at hi;rw [g2] at g3;obtain⟨_,rfl⟩:=Prod.mk.inj (zsi g3);obtain⟨hS',hB,himg⟩:=hS.detach hb hi hKS hKM;simp only [qF,qt,if_true,xj,hcm,zT hE hk,wp,h5,g1,kE,Bool.false_eq_true,if_false];refine h.run Z _ H _ c hS' ((hE.monoK hB hKE).set dst ⟨_,rfl,?_⟩) (hC.monoK (pD hW) hB) (hA.monoK himg);have hself:Qh β nk kb i (nk,0)=β (kb,i+1):=by simp [Qh]
 rw [Nat.zero_add] at g4;rcases g4 with⟨e1,e2⟩|⟨b',N',cap,ex,e1,e2⟩
 ·exact .inl ⟨by rw [hself];exact e1,e2⟩
 ·exact .inr ⟨b',N',cap,ex,by rw [hself];exact e1,e2⟩
def WP(β:qw)(kd kb i:Nat):qw:=fun κ=>if κ=(kb,i+1) then β (kd,0) else β κ
theorem SR.attach{Z:Nat->Prop}{β:qw}{H:Hp}(hS:SR p Z β H S nk){kb kd i:Nat}{y:Int}{es:List (Int × ME)}{q:List FD}(hb:lk S kb=some (.mt es))(hd:lk S kd=some (.data q))(hi:es[i]?=some (y,.out (.own kd 0 q.length 1)))(hKS:Yw kb S=true)(hKM:wZ kb es=true):
 SR p Z (WP β kd kb i) H (zB kd (put kb (.mt (es.set i (y,.row q))) S)) nk/\Xs kb β (WP β kd kb i)/\(∀κ b N,WP β kd kb i κ=some (.blk b N)->∃κ' N',β κ'=some (.blk b N')):=by
 have hkn:=hS.lt hb;have hdn:=hS.lt hd;have hne:kd≠kb:=fun e=>by rw [e,hb] at hd;cases hd
 have hself:WP β kd kb i (kb,i+1)=β (kd,0):=by simp [WP]
 have hoth:∀κ,κ≠(kb,i+1)->WP β kd kb i κ=β κ:=fun κ h=>by simp [WP,h]
 have hB:Xs kb β (WP β kd kb i):=fun κ s hn hκ=>by
  rw [hoth κ (fun e=>by rw [e] at hn;simp at hn)];exact hκ
 have himg:∀κ b N,WP β kd kb i κ=some (.blk b N)->∃κ',β κ'=some (.blk b N)/\((κ=(kb,i+1)/\κ'=(kd,0))\/(κ≠(kb,i+1)/\κ'=κ)):=fun κ b N h=>by
  by_cases e2:κ=(kb,i+1)
  ·subst e2;rw [hself] at h;exact⟨_,h,.inl ⟨rfl,rfl⟩⟩
  ·rw [hoth κ e2] at h;exact⟨κ,h,.inr ⟨e2,rfl⟩⟩
 refine⟨⟨hS.wf,hS.lo,hS.z,hS.zlo,hS.zz,hS.glob,fun κ hκ=>?_,fun κ b N hκ=>?_,fun κ x hκ=>?_,fun κ κ' x x' b N N' hj hj' h1 h2=>?_,fun κ b N hκ=>?_,fun κ hκ h0=>?_,hS.ancn⟩,hB,fun κ b N h=>by obtain⟨κ',h',_⟩:=himg κ b N h;exact⟨κ',N,h'⟩⟩
 ·rw [hoth κ (fun e=>by rw [e] at hκ;simp only at hκ;omega)];exact hS.nk κ hκ
 ·obtain⟨κ',h',_⟩:=himg κ b N hκ;exact hS.bd κ' b N h'
 ·rw [Qv] at hκ;split at hκ
  ·cases hκ
  ·rename_i e1;rw [Ju hb] at hκ;split at hκ
   ·rename_i e2;obtain⟨k,j⟩:=κ;simp only at e2;subst e2;cases j with
    |zero=>
     simp only at hκ;obtain rfl:=zsi hκ;obtain⟨s,hs,hbx⟩:=hS.box (k,0) (.mp (.m 0) (kY k 0 es)) (by simp only [qP,hb]);refine⟨s,hB _ _ (.inr rfl) hs,?_⟩;cases s with
     |nil=>
      have:es=[]:=by
       cases es with
       |nil=>rfl
       |cons e es=>obtain⟨y',e⟩:=e;cases e<;>cases hbx
      subst this;simp at hi
     |blk b N=>
      obtain⟨g1,g2,g3,cs,rest,⟨es',g4,g5,g6⟩,g8,g7⟩:=hbx;have g8:rest=[]:=g8;subst g8;rw [List.append_nil] at g6;have hent:=WZ (kb:=k) (i:=0) g5 (by rw [g6];exact g7);have hent':zr Z H (WP β kd k i) k 0 (es.set i (y,.row q)) es':=hent.mono (by simp) fun j e e1 he he1=>by
       rw [Nat.zero_add];rcases Zw he1 with⟨rfl,rfl⟩|⟨hne',he1⟩
       ·rw [hi] at he;obtain rfl:=zsi he;refine⟨rfl,fun c hc=>?_⟩;rcases hc with⟨h1,h2⟩|⟨b',N',cap,ex,h1,h2⟩
        ·exact .inl ⟨by rw [hself];exact h1,h2⟩
        ·exact .inr ⟨b',N',cap,ex,by rw [hself];exact h1,h2⟩
       ·rw [he] at he1;obtain rfl:=zsi he1;refine⟨rfl,fun c hc=>?_⟩;obtain⟨y',e⟩:=e;cases e with
        |out d=>exact RD.monoK hB (KF hKM he) hc
        |row r=>
         have hk1:WP β kd k i (k,j+1)=β (k,j+1):=hoth _ (fun e=>by have:=(Prod.mk.inj e).2;omega);rcases hc with⟨h1,h2⟩|⟨b',N',cap,ex,h1,h2⟩
         ·exact .inl ⟨hk1.trans h1,h2⟩
         ·exact .inr ⟨b',N',cap,ex,hk1.trans h1,h2⟩
      obtain⟨t1,t2⟩:=WY hent';exact⟨g1,g2,g3,MF es',[],⟨es',g4,t1,by simp⟩,rfl,t2⟩
    |succ j=>
     simp only at hκ;obtain⟨y',r',h1,rfl⟩:=wo hκ;rcases Zw h1 with⟨rfl,h2⟩|⟨hne',h2⟩
     ·obtain⟨_,h2⟩:=Prod.mk.inj h2;obtain rfl:=ME.row.inj h2;obtain⟨s,hs,hbx⟩:=hS.box (kd,0) (.data r') (xX hd rfl);exact⟨s,by rw [hself];exact hs,y8.monoK hB rfl hbx⟩
     ·obtain⟨s,hs,hbx⟩:=hS.box (k,j+1) (.data r') (by simp only [qP,hb,h2,we]);exact⟨s,by rw [hoth _ (fun e=>by have:=(Prod.mk.inj e).2;omega)];exact hs,y8.monoK hB rfl hbx⟩
   ·rename_i e2;obtain⟨s,hs,hbx⟩:=hS.box κ x hκ;exact⟨s,hB _ _ (.inl e2) hs,y8.monoK hB (rA hKS hκ e2) hbx⟩
 ·have live:∀(κ:zC) w,lk (zB kd (put kb (.mt (es.set i (y,.row q))) S)) κ.1=some w->κ.1≠kd/\∃w',lk S κ.1=some w':=fun κ w hw=>by
   rw [yP] at hw;split at hw
   ·cases hw
   ·rename_i e;rw [yx] at hw;split at hw
    ·cases hl:lk S κ.1 with
     |none=>rw [hl] at hw;cases hw
     |some w'=>exact⟨e,w',rfl⟩
    ·exact⟨e,w,hw⟩
  obtain⟨κ1,b1,c1⟩:=himg κ b N h1;obtain⟨κ2,b2,c2⟩:=himg κ' b N' h2;obtain⟨n1,w1,l1⟩:=live κ x hj;obtain⟨n2,w2,l2⟩:=live κ' x' hj';have l1':∃w,lk S κ1.1=some w:=by
   rcases c1 with⟨_,rfl⟩|⟨_,rfl⟩
   ·exact⟨_,hd⟩
   ·exact⟨_,l1⟩
  have l2':∃w,lk S κ2.1=some w:=by
   rcases c2 with⟨_,rfl⟩|⟨_,rfl⟩
   ·exact⟨_,hd⟩
   ·exact⟨_,l2⟩
  obtain⟨w1',l1'⟩:=l1';obtain⟨w2',l2'⟩:=l2';have:=hS.inj κ1 κ2 w1' w2' b N N' l1' l2' b1 b2;rcases c1 with⟨r1,r2⟩|⟨r1,r2⟩
  ·rcases c2 with⟨s1,s2⟩|⟨s1,s2⟩
   ·rw [r1,s1]
   ·exact absurd (by rw [<-s2,<-this,r2]) n2
  ·rcases c2 with⟨s1,s2⟩|⟨s1,s2⟩
   ·exact absurd (by rw [<-r2,this,s2]) n1
   ·rw [<-r2,this,s2]
 ·obtain⟨κ',h',_⟩:=himg κ b N hκ;exact hS.blo κ' b N h'
 ·rw [hoth κ (fun e=>by rw [e] at h0;cases h0)];exact hS.anch κ hκ h0
theorem EI {s:SC} {Q:Exit->qq->Bx->Nat->Prop} (kb kd i:Nat) {y:Int} {es:List (Int × ME)} {q:List FD} (hb:lk S kb=some (.mt es)) (hd:lk S kd=some (.data q)) (hi:es[i]?=some (y,.out (.own kd 0 q.length 1))) (hKS:Yw kb S=true) (hKM:wZ kb es=true) (hKE:VP kb E=true)
 (h:DPS p n s Q E (zB kd (put kb (.mt (es.set i (y,.row q))) S)) nk):DPS p n s Q E S nk:=.mk fun Z β H F hS hE=>by
 obtain⟨hS',hB,_⟩:=hS.attach hb hd hi hKS hKM;exact h.run Z _ H F hS' (hE.monoK hB hKE)
theorem EG {l:List SOper} (kb kd i:Nat) {y:Int} {es:List (Int × ME)} {q:List FD} (hb:lk S kb=some (.mt es)) (hd:lk S kd=some (.data q)) (hi:es[i]?=some (y,.out (.own kd 0 q.length 1))) (hKS:Yw kb S=true) (hKM:wZ kb es=true) (hKE:VP kb E=true) (hW:jD S kb W=true)
 (h:DPW p base rs Q l W A E (zB kd (put kb (.mt (es.set i (y,.row q))) S)) nk):DPW p base rs Q l W A E S nk:=.mk fun Z β H F c hS hE hC hA=>by
 obtain⟨hS',hB,himg⟩:=hS.attach hb hd hi hKS hKM;exact h.run Z _ H F c hS' (hE.monoK hB hKE) (hC.monoK (pD hW) hB) (hA.monoK himg)
theorem SR.mtupd{Z:Nat->Prop}{β:qw}{H:Hp}(hS:SR p Z β H S nk){kb b N:Nat}{es es1:List (Int × ME)}{es':List (V × V)}(hb:lk S kb=some (.mt es))(hs:β (kb,0)=some (.blk b N))(he:zr Z H β kb 0 es1 es')(hrows:∀(i:Nat) (x:Bk),we es1[i]?=some x->we es[i]?=some x):
 SR p Z β (H.add b (.mp es')) (put kb (.mt es1) S) nk/\xo Z H Z (H.add b (.mp es')):=by
 obtain⟨s,hs',hbx⟩:=hS.box (kb,0) (.mp (.m 0) (kY kb 0 es)) (by simp only [qP,hb]);rw [hs] at hs';obtain rfl:=zsi hs';obtain⟨hz,hlo,hlt,_⟩:=hbx;have hg:∀b',b'≠b->(H.add b (.mp es')).get b'=H.get b':=fun b' hb'=>Hp.get_add_ne _ _ hb';have hzg:∀b',Z b'->(H.add b (.mp es')).get b'=H.get b':=fun b' hb'=>hg b' fun e=>hz (e▸hb');have hZ:xo Z H Z (H.add b (.mp es')):=xo.of_get (fun _ h=>h) hzg;refine⟨⟨fun b' bk hb'=>?_,hS.lo,hS.z,hS.zlo,hS.zz,fun b' bk hb'=>?_,hS.nk,hS.bd,fun κ x hκ=>?_,fun κ κ' x x' b' M M' hj hj'=>?_,hS.blo,hS.anch,hS.ancn⟩,hZ⟩
 ·rw [Hp.get_add] at hb';split at hb'
  ·rename_i e;subst e;exact hlt
  ·exact hS.wf b' bk hb'
 ·obtain⟨h1,h2⟩:=hS.glob b' bk hb';exact⟨h1,by rw [hzg b' h1];exact h2⟩
 ·have old:∀(κ:zC) x,qP S κ=some x->κ≠(kb,0)->∃s,β κ=some s/\y8 p Z (H.add b (.mp es')) β x s:=fun κ x hκ hne=>by
   obtain⟨s,hsj,hbj⟩:=hS.box κ x hκ;obtain⟨z,hz'⟩:=yy hκ;refine⟨s,hsj,y8.mono (H:=H) (xO.refl _) (Nat.le_refl _:H.nx<=(H.add b (.mp es')).nx) (fun b' hb'=>?_) hbj⟩;rcases hb' with hb'|⟨M,rfl⟩
   ·exact hzg b' hb'
   ·exact hg b' fun e'=>hne (hS.inj κ (kb,0) z _ b M N hz' hb (e'▸hsj) hs)
  rw [Ju hb] at hκ;split at hκ
  ·rename_i e;obtain⟨k,j⟩:=κ;simp only at e;subst e;cases j with
   |zero=>
    simp only at hκ;obtain rfl:=zsi hκ;obtain⟨t1,t2⟩:=WY he;exact⟨_,hs,hz,hlo,hlt,MF es',[],⟨es',by simp,t1,by simp⟩,rfl,qg.mono (fun _ _=>RD.mono hZ (xO.refl _)) t2⟩
   |succ j=>
    simp only at hκ;exact old (k,j+1) x (by simp only [qP,hb];exact hrows j x hκ) (fun e=>by cases (Prod.mk.inj e).2)
  ·rename_i e;exact old κ x hκ fun e'=>e (by rw [e'])
 ·have f:∀i z,lk (put kb (.mt es1) S) i=some z->∃z',lk S i=some z':=fun i z hz=>by
   rw [yx] at hz;split at hz
   ·cases hl:lk S i with
    |none=>rw [hl] at hz;cases hz
    |some q=>exact⟨q,rfl⟩
   ·exact⟨z,hz⟩
  obtain⟨z1,e1⟩:=f _ x hj;obtain⟨z2,e2⟩:=f _ x' hj';exact hS.inj κ κ' z1 z2 b' M M' e1 e2
theorem zr.set{Z:Nat->Prop}{H:Hp}{β:qw}{kb:Nat}{d:DC}{cv:C}{y:Int}:∀{j i:Nat} {es:List (Int × ME)} {es':List (V × V)} {e:ME},zr Z H β kb j es es'->es[i]?=some (y,e)->RD Z H β d cv->zr Z H β kb j (es.set i (y,.out d)) (dA es' i (.one cv))
 |j,i,[],_,e,_,h,_=>by simp at h
 |j,i,(_,.row _)::es,[],e,h,_,_=>h.elim
 |j,i,(_,.out _)::es,[],e,h,_,_=>h.elim
 |j,0,e0::es,x::es',e,h,hi,hd=>by
  obtain⟨h1,_,h3⟩:=zr.cons.1 h;simp at hi;subst hi;exact zr.cons.2 ⟨h1,⟨cv,rfl,hd⟩,h3⟩
 |j,i+1,e0::es,x::es',e,h,hi,hd=>by
  obtain⟨h1,h2,h3⟩:=zr.cons.1 h;have:=zr.set h3 (by simpa using hi) hd;exact zr.cons.2 ⟨h1,h2,this⟩
theorem zr.push{Z:Nat->Prop}{H:Hp}{β:qw}{kb:Nat}{d:DC}{cv:C}{y:Int}:∀{j:Nat} {es:List (Int × ME)} {es':List (V × V)},zr Z H β kb j es es'->RD Z H β d cv->zr Z H β kb j (es++[(y,.out d)]) (es'++[(.one (.int .i64 y),.one cv)])
 |j,[],[],_,hd=>⟨rfl,⟨cv,rfl,hd⟩,trivial⟩
 |j,[],_::_,h,_=>h.elim
 |j,(_,.row _)::es,[],h,_=>h.elim
 |j,(_,.out _)::es,[],h,_=>h.elim
 |j,e0::es,x::es',h,hd=>by
  obtain⟨h1,h2,h3⟩:=zr.cons.1 h;exact zr.cons.2 ⟨h1,h2,zr.push h3 hd⟩
theorem CR.mtupd{Z:Nat->Prop}{β:qw}{H H':Hp}{b kb N:Nat}{c:zR}{x:Bk}(hS:SR p Z β H S nk)(hk:lk S kb=some x)(hC:CR W Z β H c)(hZ:xo Z H Z H')(hg:∀b',b'≠b->H'.get b'=H.get b')(hb:β (kb,0)=some (.blk b N))(hw:jD S kb W=true):CR W Z β H' c:=CR.upd (k:=(kb,0)) hS hk hC hZ hg hb hw
theorem rR {m k x:Opd} {kb i:Nat} {y:Int} {es:List (Int × ME)} {e:ME} {d:DC} (hm:ro E m=some (.one (.om kb))) (hk:ro E k=some (.one (.f (.c (.int .i64 y))))) (hx:ro E x=some (.one d)) (hb:lk S kb=some (.mt es)) (hi:es[i]?=some (y,e)) (hf:∀(j:Nat) (e:Int × ME),j<i->es[j]?=some e->e.1≠y) (hW:jD S kb W=true)
 (h:DPW p base rs Q r W A (xk E dst .undef) (put kb (.mt (es.set i (y,.out d))) S) nk):DPW p base rs Q (⟨id,dst,.e (.mapupd m k x),none,aid,ws,keep⟩::r) W A E S nk:=.mk fun Z β H F c hS hE hC hA=>by
 obtain⟨cm,hcm,hrm⟩:=xf hE hm;obtain⟨cx,hcx,hrx⟩:=xf hE hx;obtain⟨b,N,es',rfl,h1,h2,h3,h4,h5,h6⟩:=hS.mtb hb hrm;obtain⟨v,g1,g2⟩:=h6.find (n:=0) hi rfl hf;obtain⟨hS',hZ⟩:=hS.mtupd (es1:=es.set i (y,.out d)) hb h1 (h6.set hi hrx) (fun j z hz=>by
  obtain⟨y',r',t1,rfl⟩:=wo hz;rcases Zw t1 with⟨_,t2⟩|⟨_,t2⟩
  ·cases t2
  ·rw [t2];rfl)
 simp only [qF,qt,if_true,xr,hcm,zT hE hk,wp,hcx,w9,h5,g1,Bool.and_self,Nat.zero_add];have hg:∀b',b'≠b->(H.add b (.mp (dA es' i (.one cx)))).get b'=H.get b':=fun b' hb'=>Hp.get_add_ne _ _ hb';have hC':=hC.mtupd hS hb hZ hg h1 hW;exact⟨hC'.watch ws,h.run Z β _ _ c hS' ((hE.mono hZ (xO.refl _)).set dst yY) hC' (hA.upd rfl hg h1)⟩
theorem IC {m k x:Opd} {kb:Nat} {y:Int} {es:List (Int × ME)} {d:DC} (hm:ro E m=some (.one (.om kb))) (hk:ro E k=some (.one (.f (.c (.int .i64 y))))) (hx:ro E x=some (.one d)) (hb:lk S kb=some (.mt es)) (hn:∀e∈es,e.1≠y) (hW:jD S kb W=true)
 (h:DPW p base rs Q r W A (xk E dst .undef) (put kb (.mt (es++[(y,.out d)])) S) nk):DPW p base rs Q (⟨id,dst,.e (.mapupd m k x),none,aid,ws,keep⟩::r) W A E S nk:=.mk fun Z β H F c hS hE hC hA=>by
 obtain⟨cm,hcm,hrm⟩:=xf hE hm;obtain⟨cx,hcx,hrx⟩:=xf hE hx;obtain⟨b,N,es',rfl,h1,h2,h3,h4,h5,h6⟩:=hS.mtb hb hrm;obtain⟨hS',hZ⟩:=hS.mtupd (es1:=es++[(y,.out d)]) hb h1 (h6.push hrx) (fun j z hz=>by
  obtain⟨y',r',t1,rfl⟩:=wo hz;rw [List.getElem?_append] at t1;split at t1
  ·rw [t1];rfl
  ·rw [List.getElem?_singleton] at t1;split at t1
   ·cases t1
   ·cases t1)
 simp only [qF,qt,if_true,xr,hcm,zT hE hk,wp,hcx,w9,h5,h6.none hn,Bool.and_self];have hg:∀b',b'≠b->(H.add b (.mp (es'++[(.one (.int .i64 y),.one cx)]))).get b'=H.get b':=fun b' hb'=>Hp.get_add_ne _ _ hb';have hC':=hC.mtupd hS hb hZ hg h1 hW;exact⟨hC'.watch ws,h.run Z β _ _ c hS' ((hE.mono hZ (xO.refl _)).set dst yY) hC' (hA.upd rfl hg h1)⟩
end
def D5:DC->Bool
 |.f (.c _)=>true
 |.g _ _=>true
 |.ptr _ _=>true
 |.om _=>true
 |.yl _=>true
 |_=>false
def aK(S S':Bx):Wt->Prop
 |[]=>True
 |(_,none)::W=>aK S S' W
 |(_,some ((k,i),o,n))::W=>i=0/\(∃l,lk S k=some (.cells l)/\lk S' k=some (.cells l)/\qV D5 l=true/\Nat.ble (o+n) l.length=true)/\aK S S' W
section
variable{Z Z':Nat->Prop}{H H':Hp}{β β':qw}
theorem qav{d:DC}{c c':C}(hd:D5 d=true)(hb:vV β β')(h:RD Z H β d c)(h':RD Z' H' β' d c'):c'=c:=by
 cases d with
 |f d=>cases d with
  |c x=>cases h;cases h';rfl
  |sl=>cases hd
 |g b o=>
  have h:c=.ptr b o:=h;have h':c'=.ptr b o:=h';rw [h,h']
 |ptr k o=>
  obtain⟨b,N,h1,rfl⟩:=h;obtain⟨b',N',h2,rfl⟩:=h';rw [hb _ _ h1] at h2;rw [(Slot.blk.inj (zsi h2)).1]
 |om k=>
  obtain⟨b,N,h1,rfl⟩:=h;obtain⟨b',N',h2,rfl⟩:=h';rw [hb _ _ h1] at h2;rw [(Slot.blk.inj (zsi h2)).1]
 |yl k=>
  obtain⟨b,N,h1,rfl⟩:=h;obtain⟨b',N',h2,rfl⟩:=h';rw [hb _ _ h1] at h2;rw [(Slot.blk.inj (zsi h2)).1]
 |_=>cases hd
theorem rN(hb:vV β β'):∀{l:List DC} {cs cs':List C},qV D5 l=true->qg (RD Z H β) l cs->qg (RD Z' H' β') l cs'->cs'=cs
 |[],[],[],_,_,_=>rfl
 |d::l,c::cs,c'::cs',ha,h,h'=>by
  have h1:=ye ha d (by simp);have h2:qV D5 l=true:=by simp only [qV,h1] at ha;exact ha
  rw [qav h1 hb h.1 h'.1,rN hb h2 h.2 h'.2]
 |[],[],_::_,_,_,h=>h.elim
 |[],_::_,_,_,h,_=>h.elim
 |_::_,[],_,_,h,_=>h.elim
 |_::_,_::_,[],_,_,h=>h.elim
end
section
variable{p:Par}{base rs:Nat}{Q:qq->Bx->Nat->Prop}{r:List SOper}{W:Wt}{A:List Nat}{E:qq}{S:Bx}{nk:Nat}{id:Nat}{dst:Option Nat}{aid:Option Nat}{ws:List Nat}{keep:Bool}
theorem Wf{S S':Bx}:∀{W:Wt},aK S S' W->∀y∈W,y.2=none\/∃k o n l,y.2=some ((k,0),o,n)/\lk S k=some (.cells l)/\lk S' k=some (.cells l)/\qV D5 l=true/\o+n<=l.length
 |[],_,y,hy=>by cases hy
 |(_,none)::W,h,y,hy=>by
  rcases List.mem_cons.1 hy with rfl|hy
  ·exact .inl rfl
  ·exact Wf (W:=W) h y hy
 |(_,some ((k,i),o,n))::W,⟨h0,⟨l,h1,h2,h3,h4⟩,h5⟩,y,hy=>by
  rcases List.mem_cons.1 hy with rfl|hy
  ·subst h0;exact .inr ⟨k,o,n,l,rfl,h1,h2,h3,Nat.le_of_ble_eq_true h4⟩
  ·exact Wf (W:=W) h5 y hy
theorem CR.wsame{S':Bx}{nk':Nat}{Z Z':Nat->Prop}{β β':qw}{H H':Hp}{c:zR}(h:CR W Z β H c)(hS:SR p Z β H S nk)(hS':SR p Z' β' H' S' nk')(hZ:xo Z H Z' H')(hB:vV β β')(hW:aK S S' W):CR W Z' β' H' c:=fun x hx=>by
 obtain⟨y,hy,hw⟩:=h x hx;refine⟨y,hy,?_⟩;rcases Wf hW y hy with e|⟨k,o,n,l,e,h1,h2,h3,h4⟩
 ·obtain⟨y1,y2⟩:=y;simp only at e;subst e;obtain⟨b,hb,hq⟩:=hw;exact⟨b,(hZ b hb).1,fun H'' hh=>hq H'' fun i c hc=>hh i c ((hZ b hb).2 i c hc)⟩
 ·obtain⟨y1,y2⟩:=y;simp only at e;subst e;obtain⟨b,N,hb,hq⟩:=hw;refine⟨b,N,hB _ _ hb,fun H'' hh=>hq H'' fun i c g1 g2 hc=>hh i c g1 g2 ?_⟩;obtain⟨s,hs,hbx⟩:=hS.box (k,0) _ (xX h1 rfl);obtain⟨s',hs',hbx'⟩:=hS'.box (k,0) _ (xX h2 rfl);rw [hb] at hs;obtain rfl:=zsi hs;rw [hB _ _ hb] at hs';obtain rfl:=zsi hs';obtain⟨_,_,_,cs,rest,r1,_,r2⟩:=hbx;obtain⟨_,_,_,cs',rest',r1',_,r2'⟩:=hbx';have r1:x6 H b (cs++rest):=r1;have r1':x6 H' b (cs'++rest'):=r1';obtain rfl:=rN hB h3 r2 r2';have hl:l.length=cs'.length:=qg.len r2;have hi:i<cs'.length:=by omega
  have k1:=vt r1.2 (i:=i) (by simp;omega);have k2:=vt r1'.2 (i:=i) (by simp;omega);rw [Nat.zero_add] at k1 k2;rw [k1,List.getElem?_append_left hi] at hc;rw [k2,List.getElem?_append_left hi];exact hc
theorem qaF{f:FuncId}{args:List Opd}{ds:List DV}{R:DV->Bx->Nat->Prop}(hvs:X4 E args=some ds)(hT:YT E=true)(hc:DX p f ds S nk R)(h:∀d S' nk',R d S' nk'->aK S S' W/\DPW p base 0 Q r W A (xk E dst d) S' nk'):DPW p base rs Q (⟨id,dst,.cf f args,none,aid,ws,keep⟩::r) W A E S nk:=.mk fun Z β H F c hS hE hC hA=>by
 simp only [qF,qt,if_true];refine (hc Z β H _ hS (kS hE hvs)).mono ?_;rintro v H' ⟨d,S',nk',Z',β',hS',hr,hZ,hB,hR⟩;obtain⟨hw,h⟩:=h d S' nk' hR;have hC':CR W Z' β' H' c:=hC.wsame hS hS' hZ hB hw;exact⟨hC'.watch ws,h.run Z' β' H' _ c hS' ((hE.mono0 hZ hB hT).set dst hr) hC' ⟨hA.1,fun j hj=>absurd hj oM⟩⟩
end
section
variable{p:Par}{base rs:Nat}{Q:qq->Bx->Nat->Prop}{r:List SOper}{W:Wt}{A:List Nat}{E:qq}{S:Bx}{nk:Nat}{id:Nat}{dst:Option Nat}{aid:Option Nat}{ws:List Nat}{keep:Bool}
theorem RZ{l:List SOper}(t esz:Nat)(ht:lk E t=some (.one (.f (.c .nils))))(h:DPW p base rs Q l W A ((t,.one (.own nk 0 0 esz))::E) ((nk,.data [])::S) (nk+1)):DPW p base rs Q l W A E S nk:=.mk fun Z β H F c hS hE hC hA=>by
 refine h.run Z _ H F c (Zi hS) (fun k d hd=>?_) (hC.step (xo.refl Z H) (hS.ble .nil) fun _ _ _ _ _ _ _ _ _ _ _ _ _ h=>h) ⟨hA.1,fun j hj hjA=>?_⟩
 ·rw [qQ] at hd;split at hd
  ·rename_i e;subst e;obtain rfl:=zsi hd;obtain⟨v,hv,c,rfl,hr⟩:=hE _ _ ht;cases hr;exact⟨_,hv,_,rfl,.inl ⟨xu _ _ _,rfl,rfl,rfl⟩⟩
  ·exact hE.mono (xo.refl Z H) (hS.ble .nil) k d hd
 ·obtain⟨a1,a2,a3,a4⟩:=hA.2 j hj hjA;refine⟨a1,a2,a3,fun k N hk=>?_⟩;unfold wz at hk;split at hk
  ·cases hk
  ·exact a4 k N hk
theorem GO{Z:Nat->Prop}{H:Hp}{zf:List FD}{z:List C}(hz:aD zf z)(hp:0<z.length)(n:Nat):qg (RF Z H) (yM zf n) (yO z (n*z.length)):=by
 obtain⟨cs,rest,h1,h2⟩:=C2 (Z:=Z) (H:=H) hz hp (Nat.le_refl (n*z.length));have hl:zf.length=z.length:=(aC (Z:=Z) (H:=H) hz).len;have h3:=h2.len;rw [kU,hl] at h3;have h4:((List.range (n*z.length)).map fun i=>z.getD (i % z.length) .nilp).length=n*z.length:=by simp
 rw [h1,List.length_append] at h4;have:rest=[]:=List.eq_nil_of_length_eq_zero oM;subst this;unfold yO;rw [h1,List.append_nil];exact h2
theorem qaI {esz k o n:Nat} {z:List C} {zf:List FD} {x:Opd} {l:List FD} (hx:ro E x=some (.one (.own k o n esz))) (hk:lk S k=some (.data l)) (hle:o+n*esz<=l.length) (hz:aD zf z) (hze:z.length=esz) (hp:0<esz) (hn:0<n) (hw:YJ S k W=true)
 (h:DPW p base rs Q r W A (xk E dst .undef) (put k (.data (setLs l o (yM zf n))) S) nk):DPW p base rs Q (⟨id,dst,.e (.clear esz z x),none,aid,ws,keep⟩::r) W A E S nk:=.mk fun Z β H F c hS hE hC hA=>by
 subst hze;obtain⟨ca,hca,hr⟩:=xf hE hx;rcases hr with⟨_,h0,_⟩|⟨b,N,cap,ex,hb,rfl,hcap,hN'⟩
 ·omega
 have hfl:=gT hw hk;have hsh:=pC hw hk;obtain⟨s,hs,hbx⟩:=hS.box (k,0) _ (xX hk hfl);rw [hb] at hs;obtain rfl:=zsi hs;obtain⟨hzb,hlo,hlt,cs,rest,hrow,hN,hrel⟩:=hbx;have hN:(cs++rest).length=N:=hN;have hrow:x6 H b (cs++rest):=hrow;have hlen:l.length=cs.length:=Bk.rel_len hrel;have hk2:=GO (Z:=Z) (H:=H) hz hp n;have hkl:=hk2.len;have hpl:(yO z (n*z.length)).length=n*z.length:=by simp [yO]
 obtain⟨H',e1,e2,e3,e4⟩:=hrow.stores (cs:=yO z (n*z.length)) (i:=o) (by simp;omega);rw [Qe _ cs rest o (by omega)] at e2;obtain⟨hS',hZ⟩:=hS.upd (x':=.data (setLs l o (yM zf n))) (cs:=yH cs o (yO z (n*z.length))) (rest:=rest) hk hfl hb (qg.setLs hk2 o hrel) e3 e4 rfl e2 (by rw [List.length_append,wV,<-List.length_append];exact hN);simp only [qF,qt,if_true,xr,hca];rw [e1];have hC':=hC.upd (k:=(k,0)) hS hk hZ e3 hb (LW hw);exact⟨hC'.watch ws,h.run Z β H' _ c hS' ((hE.mono hZ (xO.refl _)).set dst yY) hC' (hA.upd e4 e3 hb)⟩
end
def mT(E:qq):List Nat->Option (List DC)
 |[]=>some []
 |t::ts=>match lk E t,mT E ts with
  |some (.one d),some l=>some (d::l)
  |_,_=>none
def bZ:List Nat->List DC->qq
 |t::ts,d::l=>(t,.one d)::bZ ts l
 |_,_=>[]
def Wp(E:qq):List Nat->List DV->qq
 |t::ps,d::ds=>Wp (xk E (some t) d) ps ds
 |_,_=>E
section
variable{Z Z':Nat->Prop}{β β':qw}{H H':Hp}{E:qq}{F:T V}
theorem rO(hE:ER Z β H E F):∀{ts:List Nat} {l:List DC},mT E ts=some l->∃cs,FP F ts cs/\qg (RD Z H β) l cs
 |[],l,h=>by simp [mT] at h;subst h;exact⟨[],trivial,trivial⟩
 |t::ts,l,h=>by
  simp only [mT] at h;split at h
  ·rename_i d r h1 h2;obtain rfl:=zsi h;obtain⟨v,e1,c,rfl,hr⟩:=hE t _ h1;obtain⟨cs,e2,e3⟩:=rO hE h2;exact⟨c::cs,⟨e1,e2⟩,hr,e3⟩
  ·cases h
theorem mS:∀{ts:List Nat} {l:List DC} {cs:List C},FP F ts cs->qg (RD Z H β) l cs->ER Z β H (bZ ts l) F
 |[],_,_,_,_=>fun n d hd=>by cases hd
 |_::_,[],_,_,_=>fun n d hd=>by cases hd
 |t::ts,d::l,[],h,_=>h.elim
 |t::ts,d::l,c::cs,h,ha=>fun n x hx=>by
  simp only [bZ] at hx;rw [qQ] at hx;split at hx
  ·rename_i e;subst e;obtain rfl:=zsi hx;exact⟨_,h.1,c,rfl,ha.1⟩
  ·exact mS h.2 ha.2 n x hx
theorem eC:∀{ps:List Nat} {ds:List DV} {args:List V} {E:qq} {F:T V},ER Z β H E F->qg (xC Z H β) ds args->ER Z β H (Wp E ps ds) (Jj F ps args)
 |[],_,_,_,_,hE,_=>by simpa [Wp,Jj] using hE
 |_::_,[],[],_,_,hE,_=>hE
 |t::ps,d::ds,v::args,E,F,hE,ha=>eC (ps:=ps) (hE.set (some t) ha.1) ha.2
 |_::_,[],_::_,_,_,_,ha=>ha.elim
 |_::_,_::_,[],_,_,_,ha=>ha.elim
end
abbrev Par.round(p:Par)(ρ:Nat)(Z:Nat->Prop)(nk:Nat)(β:qw)(H:Hp):Par:=⟨p.P,p.G,p.GH,Z,p.lo,nk,β,H,some ρ⟩
theorem SR.round{p:Par}{Z:Nat->Prop}{β:qw}{H:Hp}{S:Bx}{nk:Nat}(h:SR p Z β H S nk)(ρ:Nat):SR (p.round ρ Z nk β H) Z β H S nk:=
 let h:=h.hold
 ⟨h.wf,h.lo,h.z,h.zlo,h.zz,h.glob,h.nk,h.bd,h.box,h.inj,h.blo,h.anch,h.ancn⟩
theorem SR.unround{p:Par}{Z Z':Nat->Prop}{β β':qw}{H H':Hp}{S':Bx}{nk nk':Nat}{ρ:Nat}(h:SR (p.round ρ Z nk β H) Z' β' H' S' nk'):SR (p.hold Z nk β H) Z' β' H' S' nk':=
 ⟨h.wf,h.lo,h.z,h.zlo,h.zz,h.glob,h.nk,h.bd,h.box,h.inj,h.blo,h.anch,h.ancn⟩
def CD(k:Nat)(R:DV->Bx->Nat->Prop):Exit->qq->Bx->Nat->Prop
 |.normal,_,S,nk=>∃st j f n ts ps sg bd l,lk S k=some (.mp (.lp st j f n ts ps sg bd) l)/\R (.bool true) (put k (.mp (.lp .ready none f n ts ps sg bd) l) S) nk
 |.ret,_,S,nk=>∃st j f n ts ps sg bd l,lk S k=some (.mp (.lp st j f n ts ps sg bd) l)/\R (.bool false) (put k (.mp (.lp .done (some .ret) f n ts ps sg bd) l) S) nk
 |.exit id,_,S,nk=>∃st j f n ts ps sg bd l,lk S k=some (.mp (.lp st j f n ts ps sg bd) l)/\R (.bool false) (put k (.mp (.lp .done (some (.exit id)) f n ts ps sg bd) l) S) nk
 |_,_,_,_=>False
section
variable{p:Par}{Z:Nat->Prop}{β:qw}{H:Hp}{S:Bx}{nk:Nat}
theorem SR.lpb(hS:SR p Z β H S nk){k b N:Nat}{st:LoopState}{j:Option Code}{f:FuncId}{n:Nat}{ts ps:List Nat}{sg bd:Code}{l:List DC}(hb:lk S k=some (.mp (.lp st j f n ts ps sg bd) l))(hs:β (k,0)=some (.blk b N)):
 ∃F cs,H.get b=some (.lp st j f n F ps.toArray sg bd)/\FP F ts cs/\qg (RD Z H β) l cs:=by
 obtain⟨s,hs',hbx⟩:=hS.box (k,0) _ (xX hb rfl);rw [hs] at hs';obtain rfl:=zsi hs';obtain⟨g1,g2,g3,cs,rest,⟨F,g4,g5⟩,g8,g7⟩:=hbx;have g8:rest=[]:=g8;subst g8;rw [List.append_nil] at g5;exact⟨F,cs,g4,g5,g7⟩
theorem SR.lpSet(hS:SR p Z β H S nk){k b N:Nat}{st st':LoopState}{j j':Option Code}{f:FuncId}{n:Nat}{F:T V}{ts ps:List Nat}{sg bd:Code}{l:List DC}(hb:lk S k=some (.mp (.lp st j f n ts ps sg bd) l))(hs:β (k,0)=some (.blk b N))(hF:H.get b=some (.lp st j f n F ps.toArray sg bd)):
 SR p Z β (H.add b (.lp st' j' f n F ps.toArray sg bd)) (put k (.mp (.lp st' j' f n ts ps sg bd) l) S) nk/\xo Z H Z (H.add b (.lp st' j' f n F ps.toArray sg bd)):=by
 obtain⟨F',cs,g4,g5,g7⟩:=hS.lpb hb hs;rw [hF] at g4;obtain rfl:F=F':=by simpa using g4
 refine hS.updK (x':=.mp (.lp st' j' f n ts ps sg bd) l) (rest:=[]) (cs:=cs) hb rfl hs g7 (fun b' hb'=>Hp.get_add_ne _ _ hb') rfl ⟨F,by simp,by simpa using g5⟩ rfl
theorem I4 {k b N:Nat} {j:Option Code} {f:FuncId} {n:Nat} {ts ps:List Nat} {sg bd:Code} {sa sb:SC} {l:List DC} {ds:List DV} {args:List V} {R:DV->Bx->Nat->Prop} (hS:SR p Z β H S nk) (hb:lk S k=some (.mp (.lp .ready j f n ts ps sg bd) l)) (hs:β (k,0)=some (.blk b N))
 (hlen:ds.length=ps.length) (ha:qg (xC Z H β) ds args) (hsg:xS p.P p.G n sg=some sa) (hbd:xS p.P p.G n bd=some sb)
 (h:∀ρ Z β H,DPS (p.round ρ Z nk β H) n sa (fun e E1 S1 nk1=>e=.normal/\∃st j1 f1 n1 ts1 ps1 sg1 bd1 l1,st=.ready/\lk S1 k=some (.mp (.lp st j1 f1 n1 ts1 ps1 sg1 bd1) l1)/\DPS (p.round ρ Z nk β H) n sb (CD k R) E1 (put k (.mp (.lp .busy j1 f1 n1 ts1 ps1 sg1 bd1) l1) S1) nk1) (Wp (bZ ts l) ps ds) S nk):
 v8 p.P p.G b args H fun v H'=>∃d S' nk' Z' β',SR p Z' β' H' S' nk'/\xC Z' H' β' d v/\xo Z H Z' H'/\vV β β'/\R d S' nk':=by
 obtain⟨F0,cs,g4,g5,g7⟩:=hS.lpb hb hs;have hkn:=hS.lt hb;refine BI g4 (by rw [<-ha.len,hlen];simp) hsg hbd fun ρ=>?_;refine yL ((h ρ Z β H).run Z β H _ (hS.round ρ) (eC (mS g5 g7) ha)) fun e F1 H1 he=>?_;obtain⟨E1,S1,nk1,Z1,β1,h1,h2,he',st,j1,f1,n1,ts1,ps1,sg1,bd1,l1,hst,hb1,hbody⟩:=he;subst he' hst;have hs1:β1 (k,0)=some (.blk b N):=(h1.anch (k,0) hkn rfl).trans hs;obtain⟨F1',cs1,q4,q5,q7⟩:=h1.lpb hb1 hs1;refine⟨rfl,j1,f1,n1,F1',ps1.toArray,sg1,bd1,q4,?_⟩;obtain⟨u1,u2⟩:=h1.lpSet (st':=.busy) (j':=j1) hb1 hs1 q4;have hE1:=h2.mono u2 (xO.refl _);refine yL (hbody.run Z1 β1 _ _ u1 hE1) fun e F2 H2 ⟨E2,S2,nk2,Z2,β2,v1,v2,hq⟩=>?_;have hs2:β2 (k,0)=some (.blk b N):=(v1.anch (k,0) hkn rfl).trans hs;have fin:∀(t:Bool) (st':LoopState) (j':Option Code),(∃st j f n ts ps sg bd l,lk S2 k=some (.mp (.lp st j f n ts ps sg bd) l)/\R (.bool t) (put k (.mp (.lp st' j' f n ts ps sg bd) l) S2) nk2)->
  ∃st j f n F ps sg bd,H2.get b=some (.lp st j f n F ps sg bd)/\∃d S' nk' Z' β',SR p Z' β' (H2.add b (.lp st' j' f n F ps sg bd)) S' nk'/\xC Z' (H2.add b (.lp st' j' f n F ps sg bd)) β' d (.bool t)/\xo Z H Z' (H2.add b (.lp st' j' f n F ps sg bd))/\vV β β'/\R d S' nk':=by
  rintro t st' j' ⟨st,j,f,n,ts,ps,sg,bd,l,hb2,hR⟩;obtain⟨F2',cs2,w4,w5,w7⟩:=v1.lpb hb2 hs2;obtain⟨x1,x2⟩:=v1.lpSet (st':=st') (j':=j') hb2 hs2 w4;obtain⟨y1,y2,y3⟩:=hS.free x1.unround;exact⟨st,j,f,n,F2',ps.toArray,sg,bd,w4,_,_,_,Z2,β2,y1,wq rfl,y2,y3,hR⟩
 cases e with
 |normal=>exact fin true .ready none hq
 |ret=>exact fin false .done (some .ret) hq
 |exit id=>exact fin false .done (some (.exit id)) hq
 |_=>exact hq.elim
end
section
variable{p:Par}{base rs:Nat}{Q:qq->Bx->Nat->Prop}{r:List SOper}{W:Wt}{A:List Nat}{E:qq}{S:Bx}{nk:Nat}{id:Nat}{dst:Option Nat}{aid:Option Nat}{ws:List Nat}{keep:Bool}
theorem M8 {x:Opd} {args:List Opd} {ds:List DV} {k:Nat} {j:Option Code} {f:FuncId} {n:Nat} {ts ps:List Nat} {sg bd:Code} {sa sb:SC} {l:List DC} {R:DV->Bx->Nat->Prop} (hx:ro E x=some (.one (.yl k))) (hvs:X4 E args=some ds) (hb:lk S k=some (.mp (.lp .ready j f n ts ps sg bd) l))
 (hlen:ds.length=ps.length) (hW:noW W=true) (hT:YT E=true) (hsg:xS p.P p.G n sg=some sa) (hbd:xS p.P p.G n bd=some sb)
 (hc:∀ρ Z β H,DPS (p.round ρ Z nk β H) n sa (fun e E1 S1 nk1=>e=.normal/\∃st j1 f1 n1 ts1 ps1 sg1 bd1 l1,st=.ready/\lk S1 k=some (.mp (.lp st j1 f1 n1 ts1 ps1 sg1 bd1) l1)/\DPS (p.round ρ Z nk β H) n sb (CD k R) E1 (put k (.mp (.lp .busy j1 f1 n1 ts1 ps1 sg1 bd1) l1) S1) nk1) (Wp (bZ ts l) ps ds) S nk)
 (h:∀d S' nk',R d S' nk'->DPW p base 0 Q r W A (xk E dst d) S' nk'):DPW p base rs Q (⟨id,dst,.cv x args,none,aid,ws,keep⟩::r) W A E S nk:=.mk fun Z β H F c hS hE hC hA=>by
 obtain⟨cx,hcx,b,N,hs,rfl⟩:=xf hE hx;simp only [qF,qt,if_true,hcx];refine (I4 hS hb hs hlen (kS hE hvs) hsg hbd hc).mono ?_;rintro v H' ⟨d,S',nk',Z',β',hS',hr,hZ,hB,hR⟩;have hC':CR W Z' β' H' c:=hC.noW (Xh hW) hZ;exact⟨hC'.watch ws,(h d S' nk' hR).run Z' β' H' _ c hS' ((hE.mono0 hZ hB hT).set dst hr) hC' ⟨hA.1,fun j hj=>absurd hj oM⟩⟩
end
end Go.Ab
