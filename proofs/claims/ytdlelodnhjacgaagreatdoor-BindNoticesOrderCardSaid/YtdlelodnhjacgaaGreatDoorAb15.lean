/- -/
import Derived.Test.YtdlelodnhjacgaaGreatDoorAb14
set_option linter.unusedSimpArgs false
set_option linter.unusedVariables false
set_option maxRecDepth 8000
namespace Go.Ab
def XN(β β':qt):Prop:=∀k s,β (k,0)=some s->β' (k,0)=some s
def cM:DC->Bool
 |.trow _ _ _ _=>false
 |.tptr _ _ _=>false
 |_=>true
def HM:DV->Bool
 |.one d=>cM d
 |.agg l=>xa cM l
 |.tup _=>false
def TF:DV->Bool
 |.tup l=>xa HM l
 |.one d=>cM d
 |.agg l=>xa cM l
def bK:qk->Bool
 |[]=>true
 |(_,d)::E=>match TF d with
  |true=>bK E
  |false=>false
section
variable{Z Z':Nat->Prop}{H H':Hp}{β β':qt}
theorem Dt(hb:XN β β'):∀{l l':List (Nat × Nat)},ki β l l'->ki β' l l'
 |[],[],_=>trivial
 |(_,_)::_,(_,_)::_,⟨h1,⟨N,h2⟩,h3⟩=>⟨h1,⟨N,hb _ _ h2⟩,Dt hb h3⟩
theorem RD.mono0(h:xb Z H Z' H')(hb:XN β β'){d:DC}{c:C}(ht:cM d=true)(hr:RD Z H β d c):RD Z' H' β' d c:=by
 cases d with
 |f d=>exact RF.mono h hr
 |g b o=>exact hr
 |ptr k o=>obtain⟨b,N,h1,h2⟩:=hr;exact⟨b,N,hb _ _ h1,h2⟩
 |own k o n esz=>
  rcases hr with⟨h1,h2⟩|⟨b,N,cap,ex,h1,h2⟩
  ·exact .inl ⟨hb _ _ h1,h2⟩
  ·exact .inr ⟨b,N,cap,ex,hb _ _ h1,h2⟩
 |fptr l=>obtain⟨b,o,cs,h1,h2,h3,h4⟩:=hr;exact⟨b,o,cs,h1,(h b h2).1,h.loads h2 h3,h4.mono fun _ _=>RF.mono h⟩
 |fn f caps=>obtain⟨caps',h1,h2⟩:=hr;exact⟨caps',h1,Dt hb h2⟩
 |any=>trivial
 |om k=>obtain⟨b,N,h1,h2⟩:=hr;exact⟨b,N,hb _ _ h1,h2⟩
 |yl k=>obtain⟨b,N,h1,h2⟩:=hr;exact⟨b,N,hb _ _ h1,h2⟩
 |fz f ls=>obtain⟨caps,h1,h2⟩:=hr;exact⟨caps,h1,h2.mono h⟩
 |tptr k i o=>cases ht
 |trow k i o n=>cases ht
theorem RDL.mono0(h:xb Z H Z' H')(hb:XN β β'):∀{l:List DC} {cs:List C},xa cM l=true->qe (RD Z H β) l cs->qe (RD Z' H' β') l cs
 |[],[],_,_=>trivial
 |d::l,c::cs,ha,hr=>by
  have h1:=yX ha d (by simp);have h2:xa cM l=true:=by simp only [xa,h1] at ha;exact ha
  exact⟨RD.mono0 h hb h1 hr.1,RDL.mono0 h hb h2 hr.2⟩
 |[],_::_,_,hr=>hr.elim
 |_::_,[],_,hr=>hr.elim
theorem zC.mono0(h:xb Z H Z' H')(hb:XN β β'){d:DV}{v:V}(ht:HM d=true)(hr:zC Z H β d v):zC Z' H' β' d v:=by
 cases d with
 |one d=>obtain⟨c,h1,h2⟩:=hr;exact⟨c,h1,RD.mono0 h hb ht h2⟩
 |agg l=>obtain⟨c,h1,h2⟩:=hr;exact⟨c,h1,RDL.mono0 h hb ht h2⟩
 |tup l=>cases ht
theorem RDV1L.mono0(h:xb Z H Z' H')(hb:XN β β'):∀{l:List DV} {vs:List V},xa HM l=true->qe (zC Z H β) l vs->qe (zC Z' H' β') l vs
 |[],[],_,_=>trivial
 |d::l,c::cs,ha,hr=>by
  have h1:=yX ha d (by simp);have h2:xa HM l=true:=by simp only [xa,h1] at ha;exact ha
  exact⟨zC.mono0 h hb h1 hr.1,RDV1L.mono0 h hb h2 hr.2⟩
 |[],_::_,_,hr=>hr.elim
 |_::_,[],_,hr=>hr.elim
theorem xi.mono0(h:xb Z H Z' H')(hb:XN β β'){d:DV}{v:V}(ht:TF d=true)(hr:xi Z H β d v):xi Z' H' β' d v:=by
 cases d with
 |one d=>exact zC.mono0 (d:=.one d) h hb ht hr
 |agg l=>exact zC.mono0 (d:=.agg l) h hb ht hr
 |tup l=>obtain⟨vs,h1,h2⟩:=hr;exact⟨vs,h1,RDV1L.mono0 h hb ht h2⟩
theorem NV:∀{E:qk} {n:Nat} {d:DV},bK E=true->lk E n=some d->TF d=true
 |[],_,_,_,h=>by cases h
 |(k,x)::E,n,d,ht,h=>by
  simp only [bK] at ht;split at ht
  ·rename_i hx;rw [qw] at h;split at h
   ·obtain rfl:=zsi h;exact hx
   ·exact NV ht h
  ·cases ht
theorem ER.mono0(h:xb Z H Z' H')(hb:XN β β'){E:qk}{F:T V}(ht:bK E=true)(hr:ER Z β H E F):ER Z' β' H' E F:=fun n d hd=>by
 obtain⟨v,h1,h2⟩:=hr n d hd;exact⟨v,h1,xi.mono0 h hb (NV ht hd) h2⟩
end
def DX(p:Par)(f:FuncId)(ds:List DV)(S:Bx)(nk:Nat)(R:DV->Bx->Nat->Prop):Prop:=∀Z β H args,SR p Z β H S nk->qe (xi Z H β) ds args->
 xc p.P p.G f args H fun v H'=>∃d S' nk' Z' β',SR p Z' β' H' S' nk'/\xi Z' H' β' d v/\xb Z H Z' H'/\XN β β'/\R d S' nk'
theorem DX.mono{p:Par}{f:FuncId}{ds:List DV}{S:Bx}{nk:Nat}{R R':DV->Bx->Nat->Prop}(h:DX p f ds S nk R)(hr:∀d S nk,R d S nk->R' d S nk):DX p f ds S nk R':=fun Z β H args h1 h2=>(h Z β H args h1 h2).mono fun _ _ ⟨d,S',nk',Z',β',g1,g2,g3,g4,g5⟩=>⟨d,S',nk',Z',β',g1,g2,g3,g4,hr _ _ _ g5⟩
abbrev Par.hold(p:Par)(Z:Nat->Prop)(nk:Nat)(β:qt)(H:Hp):Par:=⟨p.P,p.G,p.GH,Z,p.lo,nk,β,H,none⟩
theorem SR.hold{p:Par}{Z:Nat->Prop}{β:qt}{H:Hp}{S:Bx}{nk:Nat}(h:SR p Z β H S nk):SR (p.hold Z nk β H) Z β H S nk:=
 ⟨h.wf,h.lo,h.z,fun _ hb=>.inl hb,fun _ hb=>hb,fun b bk hb=>hb.elim (fun hb=>h.glob b bk (.inl hb)) fun hb=>hb,h.nk,h.bd,h.box,h.inj,h.blo,fun _ _ _=>rfl,qz _⟩
theorem SR.free{p:Par}{Z Z':Nat->Prop}{β β':qt}{H H':Hp}{S S':Bx}{nk nk':Nat}(h:SR p Z β H S nk)(h':SR (p.hold Z nk β H) Z' β' H' S' nk'):SR p Z' β' H' S' nk'/\xb Z H Z' H'/\XN β β':=by
 have hz:∀b,Z b->Z' b:=h'.zz;refine⟨⟨h'.wf,h'.lo,h'.z,fun b hb=>(h'.zlo b hb).elim (h.zlo b) .inr,fun b hb=>hz b (h.zz b hb),fun b bk hb=>h'.glob b bk (.inr (h.glob b bk hb)),h'.nk,h'.bd,h'.box,h'.inj,h'.blo,fun κ hκ h0=>?_,aZ h.ancn h'.ancn⟩,fun b hb=>⟨hz b hb,fun i c hc=>?_⟩,fun k s hκ=>?_⟩
 ·exact (h'.anch κ (Qg hκ h.ancn) h0).trans (h.anch κ hκ h0)
 ·unfold Hp.cell at hc ⊢;cases hg:H.get b with
  |none=>rw [hg] at hc;cases hc
  |some bk=>rw [(h'.glob b bk (.inr ⟨hb,hg⟩)).2];rw [hg] at hc;exact hc
 ·exact (h'.anch (k,0) (h.lt1 hκ) O).trans hκ
theorem Dm {p:Par} {f:FuncId} {sf:SFn} (hf:yr p.P p.G f=some sf) {ds:List DV} {S:Bx} {nk:Nat} {R:DV->Bx->Nat->Prop} (hn:Nat.ble ds.length sf.n=true)
 (h:∀Z β H,DPS (p.hold Z nk β H) sf.n sf.code (cG (p.hold Z nk β H) sf.res R) (jC ds 0) S nk):DX p f ds S nk R:=by
 intro Z β H args hS ha;refine aH hf (by rw [<-ha.len];exact jP hn) ?_;refine jn ((h Z β H).run Z β H _ hS.hold (Yx 0 ha)) fun e F' H' ⟨E',S',nk',Z',β',h1,h2,h3⟩=>?_;have fin:(∃d,j3 (p.hold Z nk β H) E' S' sf.res=some d/\V7 d=true/\∃S0,wV S0 S'/\R d S0 nk')->∃v,yk F' H' sf.res=some v/\∃d S' nk' Z' β',SR p Z' β' H' S' nk'/\xi Z' H' β' d v/\xb Z H Z' H'/\XN β β'/\R d S' nk':=fun⟨d,hd,hfr,S0,hsub,hR⟩=>by
  obtain⟨v,hv,hr⟩:=WJ h1 h2 hd hfr;obtain⟨g1,g2,g3⟩:=hS.free (h1.keepS hsub);exact⟨v,hv,d,S0,nk',Z',β',g1,hr,g2,g3,hR⟩
 cases e with
 |normal=>obtain⟨v,hv,hr⟩:=fin h3;simp only [Z6,hv];exact hr
 |ret=>obtain⟨v,hv,hr⟩:=fin h3;simp only [Z6,hv];exact hr
 |_=>exact h3.elim
def noW:Wt->Bool
 |[]=>true
 |(_,none)::W=>noW W
 |_::_=>false
theorem CR.noW{W:Wt}{Z Z':Nat->Prop}{β β':qt}{H H':Hp}{c:z7}(h:CR W Z β H c)(hW:∀y∈W,y.2=none)(hZ:xb Z H Z' H'):CR W Z' β' H' c:=fun x hx=>by
 obtain⟨y,hy,hw⟩:=h x hx;refine⟨y,hy,?_⟩;have e:=hW y hy;obtain⟨y1,y2⟩:=y;simp only at e;subst e;obtain⟨b,hb,hq⟩:=hw;exact⟨b,(hZ b hb).1,fun H'' hh=>hq H'' fun i c hc=>hh i c ((hZ b hb).2 i c hc)⟩
theorem JX:∀{W:Wt},noW W=true->∀y∈W,y.2=none
 |[],_,y,hy=>by cases hy
 |(_,none)::W,h,y,hy=>by
  rcases zd.1 hy with rfl|hy
  ·rfl
  ·exact JX (W:=W) h y hy
 |(_,some _)::_,h,_,_=>by cases h
def sD:List (Nat × Nat)->List DV
 |[]=>[]
 |(k,o)::r=>.one (.ptr k o)::sD r
theorem CD{Z:Nat->Prop}{β:qt}{H:Hp}:∀{l l':List (Nat × Nat)},ki β l l'->qe (xi Z H β) (sD l) (l'.map WO)
 |[],[],_=>trivial
 |(k,o)::r,(b,o')::r',⟨h1,⟨N,h2⟩,h3⟩=>⟨⟨_,rfl,b,N,h2,by rw [h1]⟩,CD h3⟩
section
variable{p:Par}{base rs:Nat}{Q:qk->Bx->Nat->Prop}{r:List SOper}{W:Wt}{A:List Nat}{E:qk}{S:Bx}{nk:Nat}{id:Nat}{dst:Option Nat}{aid:Option Nat}{ws:List Nat}{keep:Bool}
theorem iL{f:FuncId}{args:List Opd}{ds:List DV}{R:DV->Bx->Nat->Prop}(hvs:Zx E args=some ds)(hW:noW W=true)(hT:bK E=true)(hc:DX p f ds S nk R)(h:∀d S' nk',R d S' nk'->DPW p base 0 Q r W A (qI E dst d) S' nk'):DPW p base rs Q (⟨id,dst,.cf f args,none,aid,ws,keep⟩::r) W A E S nk:=.mk fun Z β H F c QP hS hE hC hA=>by
 simp only [qC,qH,if_true];refine (hc Z β H _ hS (Z5 hE hvs)).monoP ?_;rintro v H' ⟨d,S',nk',Z',β',hS',hr,hZ,hB,hR⟩;have hC':CR W Z' β' H' c:=hC.noW (JX hW) hZ;exact⟨hC'.watch ws,(h d S' nk' hR).run Z' β' H' _ c QP hS' ((hE.mono0 hZ hB hT).set dst hr) hC' ⟨hA.1,fun j hj=>absurd hj oM⟩⟩
theorem Ny{x:Opd}{f:FuncId}{args:List Opd}{ds:List DV}{R:DV->Prop}(hx:ro E x=some (.one (.f (.c (.fn f [])))))(hfn:wL p.P f=true)(hvs:Zx E args=some ds)(hf:xa ZB ds=true)(hc:yR p.P p.G p.GH f ds R)(h:∀d,R d->DPW p base rs Q r W A (qI E dst d) S nk):DPW p base rs Q (⟨id,dst,.cv x args,none,aid,ws,keep⟩::r) W A E S nk:=.mk fun Z β H F c QP hS hE hC hA=>by
 have hw:=(qf (id:=id) (dst:=dst) (aid:=aid) (ws:=ws) (keep:=keep) hvs hf hc h).run Z β H F c QP hS hE hC hA;obtain⟨cx,hcx,hr⟩:=xz hE hx;cases hr;simp only [qC,qH,if_true] at hw;simp only [qC,qH,if_true,hcx,sS,yI];exact⟨hfn,hw⟩
end
section
variable{Z:Nat->Prop}{H H':Hp}{β β':qt}{kb:Nat}
end
section
variable{p:Par}{base rs:Nat}{Q:qk->Bx->Nat->Prop}{r:List SOper}{W:Wt}{A:List Nat}{E:qk}{S:Bx}{nk:Nat}{id:Nat}{dst:Option Nat}{aid:Option Nat}{ws:List Nat}{keep:Bool}
end
section
variable{p:Par}{base rs n:Nat}{Q:qk->Bx->Nat->Prop}{r:List SOper}{W:Wt}{A:List Nat}{E:qk}{S:Bx}{nk:Nat}{id:Nat}{dst:Option Nat}{aid:Option Nat}{ws:List Nat}{keep:Bool}
end
section
variable{Z Z':Nat->Prop}{H H':Hp}{β β':qt}
end
section
variable{p:Par}{base rs:Nat}{Q:qk->Bx->Nat->Prop}{r:List SOper}{W:Wt}{A:List Nat}{E:qk}{S:Bx}{nk:Nat}{id:Nat}{dst:Option Nat}{aid:Option Nat}{ws:List Nat}{keep:Bool}
end
section
variable{p:Par}{base rs:Nat}{Q:qk->Bx->Nat->Prop}{r:List SOper}{W:Wt}{A:List Nat}{E:qk}{S:Bx}{nk:Nat}{id:Nat}{dst:Option Nat}{aid:Option Nat}{ws:List Nat}{keep:Bool}
theorem FE{l:List SOper}(t esz:Nat)(ht:lk E t=some (.one (.f (.c .nils))))(h:DPW p base rs Q l W A ((t,.one (.own nk 0 0 esz))::E) ((nk,.data [])::S) (nk+1)):DPW p base rs Q l W A E S nk:=.mk fun Z β H F c QP hS hE hC hA=>by
 refine h.run Z _ H F c QP (V1 hS) (fun k d hd=>?_) (hC.step (xb.refl Z H) (hS.ble .nil) fun _ _ _ _ _ _ _ _ _ _ _ _ _ h=>h) ⟨hA.1,fun j hj hjA=>?_⟩
 ·rw [qw] at hd;split at hd
  ·rename_i e;subst e;obtain rfl:=zsi hd;obtain⟨v,hv,c,rfl,hr⟩:=hE _ _ ht;cases hr;exact⟨_,hv,_,O,.inl ⟨xk _ _ _,O,O,O⟩⟩
  ·exact hE.mono (xb.refl Z H) (hS.ble .nil) k d hd
 ·obtain⟨a1,a2,a3,a4⟩:=hA.2 j hj hjA;refine⟨a1,a2,a3,fun k N hk=>?_⟩;unfold wm at hk;split at hk
  ·cases hk
  ·exact a4 k N hk
end
def AP(E:qk):List Nat->Option (List DC)
 |[]=>some []
 |t::ts=>match lk E t,AP E ts with
  |some (.one d),some l=>some (d::l)
  |_,_=>none
def iG:List Nat->List DC->qk
 |t::ts,d::l=>(t,.one d)::iG ts l
 |_,_=>[]
def KU(E:qk):List Nat->List DV->qk
 |t::ps,d::ds=>KU (qI E (some t) d) ps ds
 |_,_=>E
section
variable{Z Z':Nat->Prop}{β β':qt}{H H':Hp}{E:qk}{F:T V}
theorem FA(hE:ER Z β H E F):∀{ts:List Nat} {l:List DC},AP E ts=some l->∃cs,R7 F ts cs/\qe (RD Z H β) l cs
 |[],l,h=>by simp [AP] at h;subst h;exact⟨[],trivial,trivial⟩
 |t::ts,l,h=>by
  simp only [AP] at h;split at h
  ·rename_i d r h1 h2;obtain rfl:=zsi h;obtain⟨v,e1,c,rfl,hr⟩:=hE t _ h1;obtain⟨cs,e2,e3⟩:=FA hE h2;exact⟨c::cs,⟨e1,e2⟩,hr,e3⟩
  ·cases h
theorem AO:∀{ts:List Nat} {l:List DC} {cs:List C},R7 F ts cs->qe (RD Z H β) l cs->ER Z β H (iG ts l) F
 |[],_,_,_,_=>fun n d hd=>by cases hd
 |_::_,[],_,_,_=>fun n d hd=>by cases hd
 |t::ts,d::l,[],h,_=>h.elim
 |t::ts,d::l,c::cs,h,ha=>fun n x hx=>by
  simp only [iG] at hx;rw [qw] at hx;split at hx
  ·rename_i e;subst e;obtain rfl:=zsi hx;exact⟨_,h.1,c,O,ha.1⟩
  ·exact AO h.2 ha.2 n x hx
theorem n6:∀{ps:List Nat} {ds:List DV} {args:List V} {E:qk} {F:T V},ER Z β H E F->qe (xi Z H β) ds args->ER Z β H (KU E ps ds) (WE F ps args)
 |[],_,_,_,_,hE,_=>by simpa [KU,WE] using hE
 |_::_,[],[],_,_,hE,_=>hE
 |t::ps,d::ds,v::args,E,F,hE,ha=>n6 (ps:=ps) (hE.set (some t) ha.1) ha.2
 |_::_,[],_::_,_,_,_,ha=>ha.elim
 |_::_,_::_,[],_,_,_,ha=>ha.elim
end
abbrev Par.round(p:Par)(ρ:Nat)(Z:Nat->Prop)(nk:Nat)(β:qt)(H:Hp):Par:=⟨p.P,p.G,p.GH,Z,p.lo,nk,β,H,some ρ⟩
theorem SR.round{p:Par}{Z:Nat->Prop}{β:qt}{H:Hp}{S:Bx}{nk:Nat}(h:SR p Z β H S nk)(ρ:Nat):SR (p.round ρ Z nk β H) Z β H S nk:=
 let h:=h.hold
 ⟨h.wf,h.lo,h.z,h.zlo,h.zz,h.glob,h.nk,h.bd,h.box,h.inj,h.blo,h.anch,h.ancn⟩
theorem SR.unround{p:Par}{Z Z':Nat->Prop}{β β':qt}{H H':Hp}{S':Bx}{nk nk':Nat}{ρ:Nat}(h:SR (p.round ρ Z nk β H) Z' β' H' S' nk'):SR (p.hold Z nk β H) Z' β' H' S' nk':=
 ⟨h.wf,h.lo,h.z,h.zlo,h.zz,h.glob,h.nk,h.bd,h.box,h.inj,h.blo,h.anch,h.ancn⟩
def tO(k:Nat)(R:DV->Bx->Nat->Prop):Exit->qk->Bx->Nat->Prop
 |.normal,_,S,nk=>∃st j f n ts ps sg bd l,lk S k=some (.mp (.lp st j f n ts ps sg bd) l)/\R (.bool true) (put k (.mp (.lp .ready none f n ts ps sg bd) l) S) nk
 |.ret,_,S,nk=>∃st j f n ts ps sg bd l,lk S k=some (.mp (.lp st j f n ts ps sg bd) l)/\R (.bool false) (put k (.mp (.lp .done (some .ret) f n ts ps sg bd) l) S) nk
 |.exit id,_,S,nk=>∃st j f n ts ps sg bd l,lk S k=some (.mp (.lp st j f n ts ps sg bd) l)/\R (.bool false) (put k (.mp (.lp .done (some (.exit id)) f n ts ps sg bd) l) S) nk
 |_,_,_,_=>False
section
variable{p:Par}{Z:Nat->Prop}{β:qt}{H:Hp}{S:Bx}{nk:Nat}
theorem SR.lpb(hS:SR p Z β H S nk){k b N:Nat}{st:LoopState}{j:Option Code}{f:FuncId}{n:Nat}{ts ps:List Nat}{sg bd:Code}{l:List DC}(hb:lk S k=some (.mp (.lp st j f n ts ps sg bd) l))(hs:β (k,0)=some (.blk b N)):
 ∃F cs,H.get b=some (.lp st j f n F ps.toArray sg bd)/\R7 F ts cs/\qe (RD Z H β) l cs:=by
 obtain⟨s,hs',hbx⟩:=hS.box (k,0) _ (zN hb rfl);rw [hs] at hs';obtain rfl:=zsi hs';obtain⟨g1,g2,g3,cs,rest,⟨F,g4,g5⟩,g8,g7⟩:=hbx;have g8:rest=[]:=g8;subst g8;rw [yI] at g5;exact⟨F,cs,g4,g5,g7⟩
theorem SR.lpSet(hS:SR p Z β H S nk){k b N:Nat}{st st':LoopState}{j j':Option Code}{f:FuncId}{n:Nat}{F:T V}{ts ps:List Nat}{sg bd:Code}{l:List DC}(hb:lk S k=some (.mp (.lp st j f n ts ps sg bd) l))(hs:β (k,0)=some (.blk b N))(hF:H.get b=some (.lp st j f n F ps.toArray sg bd)):
 SR p Z β (H.add b (.lp st' j' f n F ps.toArray sg bd)) (put k (.mp (.lp st' j' f n ts ps sg bd) l) S) nk/\xb Z H Z (H.add b (.lp st' j' f n F ps.toArray sg bd)):=by
 obtain⟨F',cs,g4,g5,g7⟩:=hS.lpb hb hs;rw [hF] at g4;obtain rfl:F=F':=by simpa using g4
 refine hS.updK (x':=.mp (.lp st' j' f n ts ps sg bd) l) (rest:=[]) (cs:=cs) hb O hs g7 (fun b' hb'=>Hp.get_add_ne _ _ hb') O ⟨F,by simp,by simpa using g5⟩ O
theorem Bg {k b N:Nat} {j:Option Code} {f:FuncId} {n:Nat} {ts ps:List Nat} {sg bd:Code} {sa sb:SC} {l:List DC} {ds:List DV} {args:List V} {R:DV->Bx->Nat->Prop} (hS:SR p Z β H S nk) (hb:lk S k=some (.mp (.lp .ready j f n ts ps sg bd) l)) (hs:β (k,0)=some (.blk b N))
 (hlen:ds.length=ps.length) (ha:qe (xi Z H β) ds args) (hsg:xB p.P p.G n sg=some sa) (hbd:xB p.P p.G n bd=some sb)
 (h:∀ρ Z β H,DPS (p.round ρ Z nk β H) n sa (fun e E1 S1 nk1=>e=.normal/\∃st j1 f1 n1 ts1 ps1 sg1 bd1 l1,st=.ready/\lk S1 k=some (.mp (.lp st j1 f1 n1 ts1 ps1 sg1 bd1) l1)/\DPS (p.round ρ Z nk β H) n sb (tO k R) E1 (put k (.mp (.lp .busy j1 f1 n1 ts1 ps1 sg1 bd1) l1) S1) nk1) (KU (iG ts l) ps ds) S nk):
 vO p.P p.G b args H fun v H'=>∃d S' nk' Z' β',SR p Z' β' H' S' nk'/\xi Z' H' β' d v/\xb Z H Z' H'/\XN β β'/\R d S' nk':=by
 obtain⟨F0,cs,g4,g5,g7⟩:=hS.lpb hb hs;have hkn:=hS.lt hb;refine MO g4 (by rw [<-ha.len,hlen];simp) hsg hbd fun ρ=>?_;refine jn ((h ρ Z β H).run Z β H _ (hS.round ρ) (n6 (AO g5 g7) ha)) fun e F1 H1 he=>?_;obtain⟨E1,S1,nk1,Z1,β1,h1,h2,he',st,j1,f1,n1,ts1,ps1,sg1,bd1,l1,hst,hb1,hbody⟩:=he;subst he' hst;have hs1:β1 (k,0)=some (.blk b N):=(h1.anch (k,0) hkn rfl).trans hs;obtain⟨F1',cs1,q4,q5,q7⟩:=h1.lpb hb1 hs1;refine⟨O,j1,f1,n1,F1',ps1.toArray,sg1,bd1,q4,?_⟩;obtain⟨u1,u2⟩:=h1.lpSet (st':=.busy) (j':=j1) hb1 hs1 q4;have hE1:=h2.mono u2 (xL.refl _);refine jn (hbody.run Z1 β1 _ _ u1 hE1) fun e F2 H2 ⟨E2,S2,nk2,Z2,β2,v1,v2,hq⟩=>?_;have hs2:β2 (k,0)=some (.blk b N):=(v1.anch (k,0) hkn rfl).trans hs;have fin:∀(t:Bool) (st':LoopState) (j':Option Code),(∃st j f n ts ps sg bd l,lk S2 k=some (.mp (.lp st j f n ts ps sg bd) l)/\R (.bool t) (put k (.mp (.lp st' j' f n ts ps sg bd) l) S2) nk2)->
  ∃st j f n F ps sg bd,H2.get b=some (.lp st j f n F ps sg bd)/\∃d S' nk' Z' β',SR p Z' β' (H2.add b (.lp st' j' f n F ps sg bd)) S' nk'/\xi Z' (H2.add b (.lp st' j' f n F ps sg bd)) β' d (.bool t)/\xb Z H Z' (H2.add b (.lp st' j' f n F ps sg bd))/\XN β β'/\R d S' nk':=by
  rintro t st' j' ⟨st,j,f,n,ts,ps,sg,bd,l,hb2,hR⟩;obtain⟨F2',cs2,w4,w5,w7⟩:=v1.lpb hb2 hs2;obtain⟨x1,x2⟩:=v1.lpSet (st':=st') (j':=j') hb2 hs2 w4;obtain⟨y1,y2,y3⟩:=hS.free x1.unround;exact⟨st,j,f,n,F2',ps.toArray,sg,bd,w4,_,_,_,Z2,β2,y1,yg O,y2,y3,hR⟩
 cases e with
 |normal=>exact fin true .ready none hq
 |ret=>exact fin false .done (some .ret) hq
 |exit id=>exact fin false .done (some (.exit id)) hq
 |_=>exact hq.elim
end
section
variable{p:Par}{base rs:Nat}{Q:qk->Bx->Nat->Prop}{r:List SOper}{W:Wt}{A:List Nat}{E:qk}{S:Bx}{nk:Nat}{id:Nat}{dst:Option Nat}{aid:Option Nat}{ws:List Nat}{keep:Bool}
theorem Sa {x:Opd} {args:List Opd} {ds:List DV} {k:Nat} {j:Option Code} {f:FuncId} {n:Nat} {ts ps:List Nat} {sg bd:Code} {sa sb:SC} {l:List DC} {R:DV->Bx->Nat->Prop} (hx:ro E x=some (.one (.yl k))) (hvs:Zx E args=some ds) (hb:lk S k=some (.mp (.lp .ready j f n ts ps sg bd) l))
 (hlen:ds.length=ps.length) (hW:noW W=true) (hT:bK E=true) (hsg:xB p.P p.G n sg=some sa) (hbd:xB p.P p.G n bd=some sb)
 (hc:∀ρ Z β H,DPS (p.round ρ Z nk β H) n sa (fun e E1 S1 nk1=>e=.normal/\∃st j1 f1 n1 ts1 ps1 sg1 bd1 l1,st=.ready/\lk S1 k=some (.mp (.lp st j1 f1 n1 ts1 ps1 sg1 bd1) l1)/\DPS (p.round ρ Z nk β H) n sb (tO k R) E1 (put k (.mp (.lp .busy j1 f1 n1 ts1 ps1 sg1 bd1) l1) S1) nk1) (KU (iG ts l) ps ds) S nk)
 (h:∀d S' nk',R d S' nk'->DPW p base 0 Q r W A (qI E dst d) S' nk'):DPW p base rs Q (⟨id,dst,.cv x args,none,aid,ws,keep⟩::r) W A E S nk:=.mk fun Z β H F c QP hS hE hC hA=>by
 obtain⟨cx,hcx,b,N,hs,rfl⟩:=xz hE hx;simp only [qC,qH,if_true,hcx];refine (Bg hS hb hs hlen (Z5 hE hvs) hsg hbd hc).mono ?_;rintro v H' ⟨d,S',nk',Z',β',hS',hr,hZ,hB,hR⟩;have hC':CR W Z' β' H' c:=hC.noW (JX hW) hZ;exact⟨hC'.watch ws,(h d S' nk' hR).run Z' β' H' _ c QP hS' ((hE.mono0 hZ hB hT).set dst hr) hC' ⟨hA.1,fun j hj=>absurd hj oM⟩⟩
end
section
variable{p:Par}{base rs:Nat}{Q:qk->Bx->Nat->Prop}{r:List SOper}{W:Wt}{A:List Nat}{E:qk}{S:Bx}{nk:Nat}{id:Nat}{dst:Option Nat}{aid:Option Nat}{ws:List Nat}{keep:Bool}
theorem kB{x:Opd}{f:FuncId}{args:List Opd}{ds:List DV}{R:DV->Bx->Nat->Prop}(hx:ro E x=some (.one (.f (.c (.fn f [])))))(hf:wL p.P f=true)(hvs:Zx E args=some ds)(hW:noW W=true)(hT:bK E=true)(hc:DX p f ds S nk R)(h:∀d S' nk',R d S' nk'->DPW p base 0 Q r W A (qI E dst d) S' nk'):DPW p base rs Q (⟨id,dst,.cv x args,none,aid,ws,keep⟩::r) W A E S nk:=.mk fun Z β H F c QP hS hE hC hA=>by
 have hw:=(iL (id:=id) (dst:=dst) (aid:=aid) (ws:=ws) (keep:=keep) (rs:=rs) hvs hW hT hc h).run Z β H F c QP hS hE hC hA;obtain⟨cx,hcx,hr⟩:=xz hE hx;cases hr;simp only [qC,qH,if_true] at hw;simp only [qC,qH,if_true,hcx,sS,yI];exact⟨hf,hw⟩
end
def Ry(Q:Exit->qk->Bx->Nat->Prop):Option Code->qk->Bx->Nat->Prop
 |none=>Q .normal
 |some .ret=>Q .ret
 |some (.exit id)=>Q (.exit id)
 |_=>fun _ _ _=>False
section
variable{p:Par}{n:Nat}{Q:Exit->qk->Bx->Nat->Prop}{E:qk}{S:Bx}{nk:Nat}
theorem Sd (hρ:p.ρ=none) {d:Opd} {ps:List Nat} {sa sb:SC} {f:FuncId} {caps:List (Nat × Nat)} (ts:List Nat) {l:List DC} (hd:ro E d=some (.one (.fn f caps))) (hf:wL p.P f=true) (hT:bK E=true) (hl:AP E ts=some l)
 (h:∀fid sg bd,xB p.P p.G n sg=some sa->xB p.P p.G n bd=some sb->DX p f (.one (.yl nk)::sD caps) ((nk,.mp (.lp .ready none fid n ts ps sg bd) l)::S) (nk+1)
  fun _ S' nk'=>∃st j f1 n1 ts1 ps1 sg1 bd1 l1,lk S' nk=some (.mp (.lp st j f1 n1 ts1 ps1 sg1 bd1) l1)/\st≠.busy/\Ry Q j E (xP nk S') nk'):DPS p n (.rf d ps sa sb) Q E S nk:=.mk fun Z β H F hS hE=>by
 obtain⟨cx,hcx,caps',rfl,hcaps⟩:=xz hE hd;obtain⟨cs,hts,hcs⟩:=FA hE hl;rw [hρ];refine Lt hcx hf fun fid sg bd hsg hbd=>?_;have hfr:H.get H.nx=none:=hS.wf.fresh (qz _);have hg:∀b',b'≠H.nx->(H.push (.lp .ready none fid n F ps.toArray sg bd)).get b'=H.get b':=fun b' hb'=>by rw [Hp.get_push,if_neg hb']
 have hz:¬Z H.nx:=fun hz=>absurd (hS.z _ hz) oM;obtain⟨hS',hZ,hB⟩:=hS.newB (x:=.mp (.lp .ready none fid n ts ps sg bd) l) (b:=H.nx) (N0:=0) (H':=H.push (.lp .ready none fid n F ps.toArray sg bd)) rfl
  (fun β' hB hZ=>⟨hz,hS.lo,by simp,cs,[],⟨F,by rw [Hp.get_push,if_pos rfl],by simpa using hts⟩,rfl,Bk.rel_mono (x:=.mp (.lp .ready none fid n ts ps sg bd) l) hZ hB hcs⟩) hz (fun k N hk=>absurd (hS.bd k _ N hk) (by omega)) hS.lo (by simp) (by simp) (hS.wf.push _) hg
 have hBs:wm β nk (.blk H.nx 0) (nk,0)=some (.blk H.nx 0):=xk _ _ _;have hargs:qe (xi Z (H.push (.lp .ready none fid n F ps.toArray sg bd)) (wm β nk (.blk H.nx 0))) (.one (.yl nk)::sD caps) (.one (.yld H.nx)::caps'.map WO):=⟨⟨_,rfl,_,_,hBs,rfl⟩,CD (ki.mono hB hcaps)⟩;refine ((h fid sg bd hsg hbd) Z _ _ _ hS' hargs).mono ?_;rintro v H' ⟨d',S',nk',Z',β',hS2,_,hZ2,hB2,st,j,f1,n1,ts1,ps1,sg1,bd1,l1,hb,hst,hj⟩;have hs2:β' (nk,0)=some (.blk H.nx 0):=hB2 _ _ hBs;obtain⟨F1,cs1,w4,w5,w7⟩:=hS2.lpb hb hs2;obtain⟨x1,x2⟩:=hS2.lpSet (st':=.exhausted) (j':=j) hb hs2 w4;refine⟨st,j,f1,n1,F1,ps1.toArray,sg1,bd1,w4,hst,?_⟩;have hS3:SR p Z' β' (H'.add H.nx (.lp .exhausted j f1 n1 F1 ps1.toArray sg1 bd1)) (xP nk S') nk':=x1.keepS fun k x hk=>by
  rw [yB] at hk;split at hk
  ·cases hk
  ·rename_i e;rw [yu,if_neg e];exact hk
 have hE3:ER Z' β' (H'.add H.nx (.lp .exhausted j f1 n1 F1 ps1.toArray sg1 bd1)) E F:=(((hE.mono hZ hB).mono0 hZ2 hB2 hT).mono x2 (xL.refl _));cases j with
 |none=>exact⟨_,_,_,_,_,hS3,hE3,hj⟩
 |some c=>cases c<;>first|exact⟨_,_,_,_,_,hS3,hE3,hj⟩|exact hj.elim
end
def KN(S:Bx)(k:Nat):Wt->Bool
 |[]=>true
 |(_,none)::r=>KN S k r
 |(_,some ((j,t),_,_))::r=>match lk S j with
  |none=>false
  |some _=>match Nat.beq j k with
   |true=>match t with
    |0=>KN S k r
    |_+1=>false
   |false=>KN S k r
theorem Wx{S:Bx}{k:Nat}:∀{W:Wt},KN S k W=true->∀y∈W,∀(j:zP) o n,y.2=some (j,o,n)->(∃x,lk S j.1=some x)/\(j.1≠k\/j.2=0)
 |[],_,y,hy=>by cases hy
 |(i,none)::r,h,y,hy=>by
  rcases zd.1 hy with rfl|hy
  ·intro j o n e;cases e
  ·exact Wx (W:=r) h y hy
 |(i,some ((j',j2),o',n'))::r,h,y,hy=>by
  simp only [KN] at h;split at h
  ·cases h
  ·rename_i x hx;split at h
   ·rename_i e;split at h
    ·rcases zd.1 hy with rfl|hy
     ·intro j o n e';obtain⟨rfl,_⟩:=Prod.mk.inj (zsi e');exact⟨⟨x,hx⟩,.inr O⟩
     ·exact Wx (W:=r) h y hy
    ·cases h
   ·rename_i e;rcases zd.1 hy with rfl|hy
    ·intro j o n e';obtain⟨rfl,_⟩:=Prod.mk.inj (zsi e');exact⟨⟨x,hx⟩,.inl fun h=>by simp only at h;subst h;simp at e⟩
    ·exact Wx (W:=r) h y hy
section
variable{p:Par}{base rs:Nat}{Q:qk->Bx->Nat->Prop}{r:List SOper}{W:Wt}{A:List Nat}{E:qk}{S:Bx}{nk:Nat}{id:Nat}{dst:Option Nat}{aid:Option Nat}{ws:List Nat}{keep:Bool}
theorem CR.updT{Z:Nat->Prop}{β:qt}{H H':Hp}{b k i:Nat}{N:Nat}{c:z7}{x:Bk}(hS:SR p Z β H S nk)(hk:lk S k=some x)(hC:CR W Z β H c)(hZ:xb Z H Z H')(hg:∀b',b'≠b->H'.get b'=H.get b')(hb:β (k,i+1)=some (.blk b N))(hw:KN S k W=true):CR W Z β H' c:=hC.step hZ (xL.refl _) fun y hy j o n e b' N' i' q hj _ _ hq=>by
 obtain⟨⟨z,hz⟩,hne⟩:=Wx hw y hy j o n e;have:b'≠b:=fun e'=>by
  have h1:=hS.inj j (k,i+1) z x b N' N hz hk (e'▸hj) hb;subst h1;rcases hne with h|h
  ·exact h O
  ·cases h
 unfold Hp.cell at hq ⊢;rw [hg b' this];exact hq
theorem Nv {a v:Opd} {k i o:Nat} {rows:List (List FD)} {q:List FD} {x:FD} (ha:ro E a=some (.one (.tptr k i o))) (hv:ro E v=some (.one (.f x))) (hk:lk S k=some (.tree rows)) (hi:rows[i]?=some q) (ho:o<q.length) (hw:KN S k W=true)
 (h:DPW p base rs Q r W A (qI E dst .undef) (put k (.tree (rows.set i (q.set o x))) S) nk):DPW p base rs Q (⟨id,dst,.e (.store 1 a v),none,aid,ws,keep⟩::r) W A E S nk:=.mk fun Z β H F c QP hS hE hC hA=>by
 obtain⟨ca,hca,b,N,hb,rfl⟩:=xz hE ha;obtain⟨cv,hcv,hrv⟩:=xz hE hv;obtain⟨s,hs,hbx⟩:=hS.box (k,i+1) _ (Qo hk hi);rw [hb] at hs;obtain rfl:=zsi hs;obtain⟨hz,hlo,hlt,cs,rest,hrow,hN,hrel⟩:=hbx;have hN:(cs++rest).length=_:=hN;have hlen:q.length=cs.length:=qe.len hrel;obtain⟨H',e1,e2,e3,e4⟩:=hrow.stores (cs:=[cv]) (i:=o) (by simp;omega);rw [Xp [cv] cs rest o (by simp;omega)] at e2;obtain⟨hS',hZ⟩:=hS.updT (q':=q.set o x) (cs:=wn cs o [cv]) (rest:=rest) hk hi hb (by simp) (qe.set hrel o hrv) e3 e4 e2 (by rw [qE,ka,<-qE];exact hN);simp only [qC,qH,if_true,xe,hca,hcv,wP];rw [if_pos (by simp),e1];have hC':=hC.updT hS hk hZ e3 hb hw;exact⟨hC'.watch ws,h.run Z β H' _ c QP hS' ((hE.mono hZ (xL.refl _)).set dst kP) hC' (hA.upd e4 e3 hb)⟩
end
section
variable{p:Par}{base rs:Nat}{Q:qk->Bx->Nat->Prop}{r:List SOper}{W:Wt}{A:List Nat}{E:qk}{S:Bx}{nk:Nat}{id:Nat}{dst:Option Nat}{aid:Option Nat}{ws:List Nat}{keep:Bool}
theorem SU{k:Nat}{x:Bk}(hk:lk S k=some x):∀j z,lk (put k x S) j=some z->lk S j=some z:=fun j z hj=>by
 rw [yu] at hj;split at hj
 ·rename_i e;subst e;rw [hk] at hj ⊢;exact hj
 ·exact hj
theorem O9 {x y:Opd} {esz k o n m t:Nat} {l q q':List FD} {d:DV} (hx:ro E x=some (.one (.own k o n esz))) (hy:ro E y=some d) (hk:lk S k=some (.data l)) (hd:eC S esz d m q) (hle:o+n*esz<=l.length) (ht:min m n=t) (hq:q.take (t*esz)=q') (hw:X4 S k W=true)
 (h:DPW p base rs Q r W A (qI E dst (.int t)) (put k (.data (setLs l o q')) S) nk):DPW p base rs Q (⟨id,dst,.e (.copy esz x y),none,aid,ws,keep⟩::r) W A E S nk:=.mk fun Z β H F c QP hS hE hC hA=>by
 subst ht;subst hq;obtain⟨news,hn1,hn2,hn3⟩:=FL hS hE hy hd;obtain⟨cx,hcx,hrx⟩:=xz hE hx;simp only [qC,qH,if_true,xe,hcx,hn1];rcases hrx with⟨_,h0,h1,rfl⟩|⟨b,N,cap,ex,hb,rfl,hcap,hN'⟩
 ·subst h0;have hset:setLs l o (q.take (min m 0*esz))=l:=by simp [setLs]
  rw [hset] at h;have hSp:SR p Z β H (put k (.data l) S) nk:=hS.keepS (SU hk);rw [Nat.min_zero] at h;exact⟨hC.watch ws,h.run Z β H _ c QP hSp (hE.set dst ⟨_,O,.c _ O⟩) hC hA⟩
 ·have hfl:=sX hw hk;have hsh:=DU hw hk;obtain⟨s,hs,hbx⟩:=hS.box (k,0) _ (zN hk hfl);rw [hb] at hs;obtain rfl:=zsi hs;obtain⟨hzb,hlo,hlt,cs,rest,hrow,hN,hrel⟩:=hbx;have hN:(cs++rest).length=N:=hN;have hrow:yM H b (cs++rest):=hrow;have hlen:l.length=cs.length:=Bk.rel_len hrel;have hk2:=hn2.take (min m n*esz);have hmn:min m n*esz<=n*esz:=X1 _ oM;have hkl:(news.take (min m n*esz)).length<=n*esz:=by rw [xS];omega
  obtain⟨H',e1,e2,e3,e4⟩:=hrow.stores (cs:=news.take (min m n*esz)) (i:=o) (by rw [qE];omega);rw [Xp _ cs rest o (by omega)] at e2;obtain⟨hS',hZ⟩:=hS.upd (x':=.data (setLs l o (q.take (min m n*esz)))) (cs:=wn cs o (news.take (min m n*esz))) (rest:=rest) hk hfl hb (qe.setLs hk2 o hrel) e3 e4 rfl e2 (by rw [qE,ka,<-qE];exact hN);have hC':=hC.upd (k:=(k,0)) hS hk hZ e3 hb (Cr hw);simp only [if_true,e1,QA];exact⟨hC'.watch ws,h.run Z β H' _ c QP hS' ((hE.mono hZ (xL.refl _)).set dst ⟨_,O,.c _ O⟩) hC' (hA.upd e4 e3 hb)⟩
theorem AT{esz:Nat}{x:Opd}{hi mx:Opd}{n h:Nat}{m q:List FD}(hx:ro E x=some (.one (.f (.sl esz n m))))(hhi:VT E n (some hi)=some h)(hmx:VT E n (some mx)=some h)(h2:h<=n)(hq:m.take (h*esz)=q)(hd:DPW p base rs Q r W A (qI E dst (.one (.f (.sl esz h q)))) S nk):DPW p base rs Q (⟨id,dst,.p (.slice esz x none (some hi) (some mx)),none,aid,ws,keep⟩::r) W A E S nk:=by
 subst hq;refine yP (fun {Z β H F} hE=>?_) hd;obtain⟨c,hc,hr⟩:=xz hE hx;cases hr with
 |nil=>
  obtain rfl:h=0:=by omega
  refine⟨.one .nils,?_,_,O,by rw [nT,List.take_zero];exact RF.nil esz⟩;simp only [qp,hc,jV,ky hE hhi (qz 0),ky hE hmx (qz 0)];rfl
 |sl hz hl hcap hld hel=>
  rename_i b o cap ex cs;have hlen:m.length=cs.length:=by rw [hl,zW hld]
  have hmul:h*esz<=n*esz:=X1 _ h2;refine⟨.one (.slc b o h h esz (ex||true)),?_,_,O,.sl (cs:=cs.take (h*esz)) (fun h0=>hz ?_) ?_ (qz _) (y6 hld oM) fun i d c hd hc=>?_⟩
  ·simp only [qp,hc,jV];rw [if_neg (by simp),ky (d:=cap) (x:=some mx) hE hmx (show h<=cap by omega)];simp only [ky hE hhi (qz h)];simp [qQ]
  ·omega
  ·rw [xS];omega
  ·have ha:=(qe.mk hlen hel).take (h*esz);obtain⟨c',hc',hr'⟩:=ha.at i d hd;rw [hc] at hc';obtain rfl:=zsi hc';exact hr'
end
section
variable{P:Program}{G:Nat}{H:Hp}
end
section
variable{p:Par}{base rs:Nat}{Q:qk->Bx->Nat->Prop}{r:List SOper}{W:Wt}{A:List Nat}{E:qk}{S:Bx}{nk:Nat}{id:Nat}{dst:Option Nat}{aid:Option Nat}{ws:List Nat}{keep:Bool}
end
def uA:List SOper->Bool
 |[]=>true
 |o::r=>match o.watch with
  |[]=>uA r
  |_::_=>false
section
variable{P:Program}{G base:Nat}{QP:Hp->Prop}{Q:T V->Hp->Prop}
theorem jq:∀{l:List SOper} {ctx ctx':z7} {F:T V} {H:Hp},uA l=true->qC P G base QP Q l ctx F H->qC P G base QP Q l ctx' F H
 |[],_,_,_,_,_,h=>h
 |o::r,ctx,ctx',F,H,hn,h=>by
  have hn':o.watch=[]/\uA r=true:=by
   unfold uA at hn;split at hn
   ·rename_i e;exact⟨e,hn⟩
   ·cases hn
  obtain⟨ho,hr⟩:=hn';rw [qC] at h ⊢;split at h
  ·rename_i hw;rw [if_pos hw];cases hop:o.op with
   |p op=>
    simp only [hop] at h ⊢;cases hv:qp F op with
    |none=>simp [hv] at h
    |some v=>simp only [hv] at h ⊢;exact jq hr h
   |l op=>
    simp only [hop] at h ⊢;cases hv:qL F H op with
    |none=>simp [hv] at h
    |some v=>simp only [hv] at h ⊢;exact jq hr h
   |a op=>
    simp only [hop] at h ⊢;cases hv:xK F op with
    |none=>simp [hv] at h
    |some v=>
     simp only [hv] at h ⊢;cases hai:o.aid with
     |none=>simp only [hai] at h ⊢;exact jq hr h
     |some k=>simp only [hai] at h ⊢;exact jq hr h
   |e op=>
    simp only [hop] at h ⊢;cases hv:xe F H op with
    |none=>simp [hv] at h
    |some v=>simp only [hv] at h ⊢;exact⟨by rw [ho];trivial,jq hr h.2⟩
   |cf f args=>
    simp only [hop] at h ⊢;exact h.mono (fun v H' hh=>⟨by rw [ho];trivial,jq hr hh.2⟩) fun _ h=>h
   |cv x args=>
    simp only [hop] at h ⊢;split at h
    ·exact⟨h.1,h.2.mono (fun v H' hh=>⟨by rw [ho];trivial,jq hr hh.2⟩) fun _ h=>h⟩
    ·exact⟨h.1,h.2.mono (fun v H' hh=>⟨by rw [ho];trivial,jq hr hh.2⟩) fun _ h=>h⟩
    ·exact vO.mono h fun v H' hh=>⟨by rw [ho];trivial,jq hr hh.2⟩
    ·exact h.elim
   |nx x=>
    simp only [hop] at h ⊢;split at h
    ·exact Ks.mono h fun v H' hh=>⟨by rw [ho];trivial,jq hr hh.2⟩
    ·exact h.elim
   |no=>simp only [hop] at h
  ·rename_i hw;rw [if_neg hw];exact jq hr h
end
section
variable{p:Par}{base rs:Nat}{Q:qk->Bx->Nat->Prop}{r:List SOper}{W:Wt}{A:List Nat}{E:qk}{S:Bx}{nk:Nat}
theorem Wf(hn:uA r=true)(h:DPW p base rs Q r [] A E S nk):DPW p base rs Q r W A E S nk:=.mk fun Z β H F c QP hS hE _ hA=>
 jq hn (h.run Z β H F [] _ hS hE (fun x hx=>by cases hx) hA)
end
section
variable{p:Par}{base rs n:Nat}{Q:qk->Bx->Nat->Prop}{r:List SOper}{W:Wt}{A:List Nat}{E:qk}{S:Bx}{nk:Nat}{id:Nat}{dst:Option Nat}{aid:Option Nat}{ws:List Nat}{keep:Bool}
theorem CM:∀{l:List DC} {r:List FD},Yz l=some r->r.length=l.length
 |[],r,h=>by obtain rfl:=zsi h;rfl
 |.f d::l,r,h=>by
  simp only [Yz] at h;split at h
  ·rename_i q hq;obtain rfl:=zsi h;simp only [xA,CM hq]
  ·cases h
 |.g _ _::_,_,h|.ptr _ _::_,_,h|.own _ _ _ _::_,_,h|.fptr _::_,_,h|.fn _ _::_,_,h|.any::_,_,h|.trow _ _ _ _::_,_,h|.tptr _ _ _::_,_,h|.om _::_,_,h|.yl _::_,_,h|.fz _ _::_,_,h=>by cases h
theorem Pj{Z:Nat->Prop}{β:qt}{H:Hp}(hS:SR p Z β H S nk){k:Nat}{l:List DC}{m:List FD}(hk:lk S k=some (.cells l))(hm:Yz l=some m):SR p Z β H (put k (.data m) S) nk:=by
 have hl:∀j,lk (put k (.data m) S) j=if j=k then some (.data m) else lk S j:=fun j=>by
  rw [yu];split
  ·rename_i e;subst e;rw [hk];rfl
  ·rfl
 refine { hS with box:=fun κ x hx=>?_,inj:=fun κ κ' x x' b N N' h1 h2=>?_ }
 ·obtain⟨j,i⟩:=κ;by_cases hj:j=k
  ·subst hj;cases i with
   |zero=>
    simp only [qR,hl,if_true] at hx;obtain rfl:=zsi hx;obtain⟨s,hs,hb⟩:=hS.box (j,0) (.cells l) (zN hk rfl);refine⟨s,hs,?_⟩;cases s with
    |nil=>
     have hb:l.length=0:=hb;show m.length=0;rw [CM hm,hb]
    |blk b N=>
     obtain⟨g1,g2,g3,cs,rest,g4,g5,g6⟩:=hb;exact⟨g1,g2,g3,cs,rest,g4,g5,aV hm g6⟩
   |succ i=>
    simp only [qR,hl,if_true] at hx;cases hx
  ·have:qR (put k (.data m) S) (j,i)=qR S (j,i):=by
    cases i<;>simp only [qR,hl,if_neg hj]
   rw [this] at hx;exact hS.box _ _ hx
 ·have g:∀i z,lk (put k (.data m) S) i=some z->∃z',lk S i=some z':=fun i z h=>by
   rw [hl] at h;split at h
   ·rename_i e;subst e;exact⟨_,hk⟩
   ·exact⟨_,h⟩
  obtain⟨z1,e1⟩:=g _ _ h1;obtain⟨z2,e2⟩:=g _ _ h2;exact hS.inj κ κ' z1 z2 b N N' e1 e2
theorem PA(k:Nat){l:List DC}{m:List FD}(hk:lk S k=some (.cells l))(hm:Yz l=some m)(h:DPW p base rs Q r W A E (put k (.data m) S) nk):DPW p base rs Q r W A E S nk:=.mk fun Z β H F c QP hS hE hC hA=>h.run Z β H F c QP (Pj hS hk hm) hE hC hA
theorem FG{x y:Opd}{s t:ByteArray}(hx:ro E x=some (.one (.f (.c (.str s)))))(hy:ro E y=some (.one (.f (.c (.str t)))))(hs:s.size+t.size<=9223372036854775807)(h:DPW p base rs Q r W A (qI E dst (.one (.f (.c (.str (s++t)))))) S nk):DPW p base rs Q (⟨id,dst,.p (.scat x y),none,aid,ws,keep⟩::r) W A E S nk:=by
 refine yP (fun {Z β H F} hE=>⟨.one (.str (s++t)),?_,yg O⟩) h;simp only [qp,xj hE hx,xj hE hy];rw [if_pos hs]
end
theorem zp{α:Type}{f:α->List FD}{e:Nat}(hf:∀x,(f x).length=e):∀{l:List α} {i:Nat} {x:α},l[i]?=some x->xd (l.flatMap f) (i*e) e=some (f x)
 |[],i,x,h=>by simp at h
 |y::l,0,x,h=>by
  simp at h;subst h;have:=hf y;rw [nT,yj (by simp;omega)];simp [Kt,<-this]
 |y::l,i+1,x,h=>by
  have ih:=zp hf (l:=l) (i:=i) (x:=x) (by simpa using h);have hy:=hf y;obtain⟨h1,h2⟩:=zT ih;rw [wB,wW,Nat.one_mul,yj (by rw [qE];omega)];rw [show i*e+e=(f y).length+i*e by omega,<-DR,DQ (qz _),List.drop_length,Kv,<-h2]
theorem qO{α:Type}{f:α->List FD}{e:Nat}(hf:∀x,(f x).length=e)(l:List α):(l.flatMap f).length=l.length*e:=by
 induction l with
 |nil=>simp
 |cons x l ih=>simp [ih,hf x,wW];omega
theorem qD{α:Type}(l:List α){n:Nat}(h:l.length=n):xd l 0 n=some l:=by
 subst h;rw [yj (by omega)];simp
def Mi:DC->DC->List (Nat × Nat)
 |.own k _ _ _,.own j _ _ _=>[(k,j)]
 |.ptr k _,.ptr j _=>[(k,j)]
 |.trow k _ _ _,.trow j _ _ _=>[(k,j)]
 |.tptr k _ _,.tptr j _ _=>[(k,j)]
 |.om k,.om j=>[(k,j)]
 |.yl k,.yl j=>[(k,j)]
 |.fn _ a,.fn _ b=>(a.zip b).map fun p=>(p.1.1,p.2.1)
 |_,_=>[]
def HA:List DC->List DC->List (Nat × Nat)
 |a::l,b::m=>Mi a b++HA l m
 |_,_=>[]
def Tx:DV->DV->List (Nat × Nat)
 |.one a,.one b=>Mi a b
 |.agg l,.agg m=>HA l m
 |_,_=>[]
def SN(E:qk):qk->List (Nat × Nat)
 |[]=>[]
 |(t,v)::r=>match lk E t with
  |some w=>Tx v w++SN E r
  |none=>SN E r
def Tz:Bk->Bk->List (Nat × Nat)
 |.cells l,.cells m=>HA l m
 |.mp _ l,.mp _ m=>HA l m
 |_,_=>[]
def SM(S:Bx)(ρ:List (Nat × Nat)):Bx->List (Nat × Nat)
 |[]=>[]
 |(k,x)::r=>match lk S (rn ρ k) with
  |some y=>Tz x y++SM S ρ r
  |none=>SM S ρ r
def oE(E0:qk)(S0:Bx)(E:qk)(S:Bx):List (Nat × Nat):=let ρ:=SN E E0;ρ++SM S ρ S0
section
variable{p:Par}{base rs:Nat}{Q:qk->Bx->Nat->Prop}{r:List SOper}{W:Wt}{A:List Nat}{E:qk}{S:Bx}{nk:Nat}{id:Nat}{dst:Option Nat}{aid:Option Nat}{ws:List Nat}{keep:Bool}
theorem A4{x y:Opd}{a b:Int}(hx:ro E x=some (.int a))(hy:ro E y=some (.int b))(h1: -9223372036854775808<=a+b/\a+b<9223372036854775808)(h:DPW p base rs Q r W A (qI E dst (.int (a+b))) S nk):DPW p base rs Q (⟨id,dst,.p (.bin .add x y),none,aid,ws,keep⟩::r) W A E S nk:=
 yP (fun {Z β H F} hE=>⟨.one (.int .i64 (a+b)),by simp [qp,xj hE hx,xj hE hy,Zt,qm h1.1 h1.2],yg rfl⟩) h
theorem AQ{x y:Opd}{a b:Int}(hx:ro E x=some (.int a))(hy:ro E y=some (.int b))(h1: -9223372036854775808<=a-b/\a-b<9223372036854775808)(h:DPW p base rs Q r W A (qI E dst (.int (a-b))) S nk):DPW p base rs Q (⟨id,dst,.p (.bin .sub x y),none,aid,ws,keep⟩::r) W A E S nk:=
 yP (fun {Z β H F} hE=>⟨.one (.int .i64 (a-b)),by simp [qp,xj hE hx,xj hE hy,Zt,qm h1.1 h1.2],yg rfl⟩) h
theorem AZ{x y:Opd}{a b:Int}(hx:ro E x=some (.int a))(hy:ro E y=some (.int b))(h1: -9223372036854775808<=a*b/\a*b<9223372036854775808)(h:DPW p base rs Q r W A (qI E dst (.int (a*b))) S nk):DPW p base rs Q (⟨id,dst,.p (.bin .mul x y),none,aid,ws,keep⟩::r) W A E S nk:=
 yP (fun {Z β H F} hE=>⟨.one (.int .i64 (a*b)),by simp [qp,xj hE hx,xj hE hy,Zt,qm h1.1 h1.2],yg rfl⟩) h
theorem O6{l:List SOper}(g:Nat){t b:Bool}(hg:lk E g=some (.bool t))(ht:t=b)(h:DPW p base rs Q l W A ((g,.bool b)::E) S nk):DPW p base rs Q l W A E S nk:=.mk fun Z β H F c QP hS hE hC hA=>by
 refine h.run Z β H F c QP hS (fun n d hd=>?_) hC hA;rw [qw] at hd;split at hd
 ·rename_i e;obtain rfl:=zsi hd;subst e ht;exact hE g _ hg
 ·exact hE n d hd
theorem xG{op:SOp}{g:Nat}{t want:Bool}(hg:lk E g=some (.bool t))(h1:t=true->DPW p base rs Q (⟨id,dst,op,some (g,want),aid,ws,keep⟩::r) W A ((g,.bool true)::E) S nk)(h2:t=false->DPW p base rs Q (⟨id,dst,op,some (g,want),aid,ws,keep⟩::r) W A ((g,.bool false)::E) S nk):DPW p base rs Q (⟨id,dst,op,some (g,want),aid,ws,keep⟩::r) W A E S nk:=by
 cases t with
 |true=>exact O6 g hg O (h1 O)
 |false=>exact O6 g hg O (h2 O)
theorem vS{α:Type}[Inhabited α]{f:α->List FD}{e n:Nat}{l:List α}{x i:Opd}{kd:IntKind}{j:Nat}(hx:ro E x=some (.one (.f (.sl e n (l.flatMap f)))))(hi:ro E i=some (.one (.f (.c (.int kd (j:Nat))))))(h1:j<l.length)(hn:l.length=n)(he:0<e)(hf:∀a,(f a).length=e)(h:DPW p base rs Q r W A (qI E dst (.one (.fptr (f (l.getD j default))))) S nk):DPW p base rs Q (⟨id,dst,.p (.iaddr e x i),none,aid,ws,keep⟩::r) W A E S nk:=by
 refine yE hx hi oM he (zp hf ?_) h;rw [qT,zge h1];rfl
theorem VC{α:Type}[Inhabited α]{f:α->List FD}{e n:Nat}{l:List α}{x i:Opd}{kd:IntKind}{j:Int}(hx:ro E x=some (.one (.f (.sl e n (l.flatMap f)))))(hi:ro E i=some (.one (.f (.c (.int kd j)))))(h0:0<=j)(h1:j<l.length)(hn:l.length=n)(he:0<e)(hf:∀a,(f a).length=e)(h:DPW p base rs Q r W A (qI E dst (.one (.fptr (f (l.getD j.toNat default))))) S nk):DPW p base rs Q (⟨id,dst,.p (.iaddr e x i),none,aid,ws,keep⟩::r) W A E S nk:=by
 obtain⟨m,rfl⟩:∃m:Nat,j=m:=⟨j.toNat,oM⟩;exact vS hx hi oM hn he hf h
theorem VD{α:Type}[Inhabited α]{f:α->List FD}{e n:Nat}{l:List α}{x i:Opd}{kd:IntKind}(hx:ro E x=some (.one (.f (.sl e n (l.flatMap f)))))(hi:ro E i=some (.one (.f (.c (.int kd 0)))))(h1:0<l.length)(hn:l.length=n)(he:0<e)(hf:∀a,(f a).length=e)(h:DPW p base rs Q r W A (qI E dst (.one (.fptr (f (l.getD 0 default))))) S nk):DPW p base rs Q (⟨id,dst,.p (.iaddr e x i),none,aid,ws,keep⟩::r) W A E S nk:=vS (j:=0) hx hi h1 hn he hf h
theorem iM {α:Type} {f:α->List FD} {esz bytes:Nat} {s v:Opd} {k m':Nat} (m:List α) {d:DV} (hs:ro E s=some (.one (.own k 0 0 esz))) (hv:ro E v=some d) (hk:lk S k=some (.data [])) (hd:eC S esz d m' (m.flatMap f)) (hm:m.length=m') (hbb:m'*bytes<=140737488355328) (h62:m'<4611686018427387904) (he:0<esz) (hw:X4 S k W=true)
 (h:DPW p base rs Q r W A (qI E dst (.one (.own nk 0 m.length esz))) ((nk,.data (m.flatMap f))::xP k S) (nk+1)):DPW p base rs Q (⟨id,dst,.e (.append esz bytes s v),none,aid,ws,keep⟩::r) W A E S nk:=by
 refine qZ (l':=[]) hs hv hk (by rw [nT];rfl) hd (by rw [ym];exact hbb) (by omega) he hw ?_;rw [ym,Kv,<-hm];exact h
theorem zn {α:Type} {f:α->List FD} {esz bytes:Nat} {s v:Opd} {k n m':Nat} {l:List α} (m:List α) {d:DV} (hs:ro E s=some (.one (.own k 0 n esz))) (hv:ro E v=some d) (hk:lk S k=some (.data (l.flatMap f))) (hd:eC S esz d m' (m.flatMap f)) (hn:l.length=n) (hm:m.length=m') (hbb:(n+m')*bytes<=140737488355328) (h62:n+m'<4611686018427387904) (he:0<esz) (hf:∀a,(f a).length=esz) (hw:X4 S k W=true)
 (h:DPW p base rs Q r W A (qI E dst (.one (.own nk 0 (l++m).length esz))) ((nk,.data ((l++m).flatMap f))::xP k S) (nk+1)):DPW p base rs Q (⟨id,dst,.e (.append esz bytes s v),none,aid,ws,keep⟩::r) W A E S nk:=by
 refine qZ hs hv hk (qD _ (by rw [qO hf,hn])) hd hbb h62 he hw ?_;rw [<-X0,<-hn,<-hm,<-qE];exact h
end
section
variable{p:Par}{n:Nat}{Q:Exit->qk->Bx->Nat->Prop}{E:qk}{S:Bx}{nk:Nat}
theorem lp0{I:Nat->qk->Bx->Nat->Prop}{m n0:Nat}{E0:qk}{S0:Bx}(h3:I m E0 S0 n0)(h2:Wk p (oE E0 S0 E S) n0 E0 S0 E S):∃m E0 S0 n0 ρ,Wk p ρ n0 E0 S0 E S/\I m E0 S0 n0:=⟨m,E0,S0,n0,_,h2,h3⟩
theorem qM{I:Nat->qk->Bx->Nat->Prop}{m m' n0:Nat}{E0:qk}{S0:Bx}(h1:m'<m)(h3:I m' E0 S0 n0)(h2:Wk p (oE E0 S0 E S) n0 E0 S0 E S):∃m',m'<m/\∃E0 S0 n0 ρ,Wk p ρ n0 E0 S0 E S/\I m' E0 S0 n0:=⟨m',h1,E0,S0,n0,_,h2,h3⟩
end
section
variable{p:Par}{base rs:Nat}{Q:qk->Bx->Nat->Prop}{r:List SOper}{W:Wt}{A:List Nat}{E:qk}{S:Bx}{nk:Nat}{id:Nat}{dst:Option Nat}{aid:Option Nat}{ws:List Nat}{keep:Bool}
theorem Ze {α:Type} {f:α->List FD} {esz bytes:Nat} {s v:Opd} {k n:Nat} {l:List α} {a:α} {d:DV} (hs:ro E s=some (.one (.own k 0 n esz))) (hv:ro E v=some d) (hk:lk S k=some (.data (l.flatMap f))) (hd:eC S esz d 1 (f a)) (hn:l.length=n) (hbb:(n+1)*bytes<=140737488355328) (h62:n+1<4611686018427387904) (he:0<esz) (hf:∀a,(f a).length=esz) (hw:X4 S k W=true)
 (h:DPW p base rs Q r W A (qI E dst (.one (.own nk 0 (l++[a]).length esz))) ((nk,.data ((l++[a]).flatMap f))::xP k S) (nk+1)):DPW p base rs Q (⟨id,dst,.e (.append esz bytes s v),none,aid,ws,keep⟩::r) W A E S nk:=
 zn [a] hs hv hk (by rw [wB,List.flatMap_nil,yI];exact hd) hn rfl hbb h62 he hf hw h
end
section
variable{p:Par}{n:Nat}{Q:Exit->qk->Bx->Nat->Prop}{E:qk}{S:Bx}{nk:Nat}
theorem qh{d:Opd}{a b:SC}{P:Prop}{inst:Decidable P}(ht:ro E d=some (.bool (@decide P inst)))(h1:P->DPS p n a Q E S nk)(h2:¬P->DPS p n b Q E S nk):DPS p n (.cond d a b) Q E S nk:=qd ht (fun h=>h1 (xo h)) fun h=>h2 (zK h)
theorem qX{d:Opd}{a b:SC}{x y:Int}(ht:ro E d=some (.bool (x==y)))(h1:x=y->DPS p n a Q E S nk)(h2:x≠y->DPS p n b Q E S nk):DPS p n (.cond d a b) Q E S nk:=qd ht (fun h=>h1 (by simpa using h)) fun h=>h2 (by simpa using h)
theorem xw{d:Opd}{a b:SC}{x y:Int}(ht:ro E d=some (.bool (x !=y)))(h1:x≠y->DPS p n a Q E S nk)(h2:x=y->DPS p n b Q E S nk):DPS p n (.cond d a b) Q E S nk:=qd ht (fun h=>h1 (by simpa using h)) fun h=>h2 (by simpa using h)
theorem A5{d:Opd}{a b:SC}(ht:ro E d=some (.bool true))(h1:DPS p n a Q E S nk):DPS p n (.cond d a b) Q E S nk:=qd ht (fun _=>h1) fun h=>by cases h
theorem iO{d:Opd}{a b:SC}(ht:ro E d=some (.bool false))(h2:DPS p n b Q E S nk):DPS p n (.cond d a b) Q E S nk:=qd ht (fun h=>by cases h) fun _=>h2
end
section
variable{p:Par}{base rs:Nat}{Q:qk->Bx->Nat->Prop}{r:List SOper}{W:Wt}{A:List Nat}{E:qk}{S:Bx}{nk:Nat}{id:Nat}{dst:Option Nat}{aid:Option Nat}{ws:List Nat}{keep:Bool}
theorem mZ{x y:Opd}{a:Nat}{b:Int}(hx:ro E x=some (.int (a:Nat)))(hy:ro E y=some (.int b))(hb:0<b)(ha:a<9223372036854775808)(h:DPW p base rs Q r W A (qI E dst (.int ((a/b.toNat:Nat):Int))) S nk):DPW p base rs Q (⟨id,dst,.p (.bin .quo x y),none,aid,ws,keep⟩::r) W A E S nk:=by
 refine O5 hx hy oM ?_;obtain⟨m,rfl⟩:∃m:Nat,b=m:=⟨b.toNat,oM⟩;have hd:=L6 a m;rw [show (a:Int).tdiv (m:Int)=((a/m:Nat):Int) from rfl];have h:DPW p base rs Q r W A (qI E dst (.int ((a/m:Nat):Int))) S nk:=h;generalize a/m=q at h hd ⊢;rw [qm (by omega) (by omega)];exact h
theorem mY{x y:Opd}{a:Nat}{b:Int}(hx:ro E x=some (.int (a:Nat)))(hy:ro E y=some (.int b))(hb:0<b)(h:DPW p base rs Q r W A (qI E dst (.int ((a % b.toNat:Nat):Int))) S nk):DPW p base rs Q (⟨id,dst,.p (.bin .rem x y),none,aid,ws,keep⟩::r) W A E S nk:=by
 refine Wd hx hy oM ?_;obtain⟨m,rfl⟩:∃m:Nat,b=m:=⟨b.toNat,oM⟩;rw [show (a:Int).tmod (m:Int)=((a % m:Nat):Int) from rfl];exact h
theorem AX{op:PureOp}{P:Prop}{inst:Decidable P}(hd:zj E op=some (.bool (@decide P inst)))(hp:P)(h:DPW p base rs Q r W A (qI E dst (.bool true)) S nk):DPW p base rs Q (⟨id,dst,.p op,none,aid,ws,keep⟩::r) W A E S nk:=zi hd (by rw [decide_eq_true hp];exact h)
theorem AY{op:PureOp}{P:Prop}{inst:Decidable P}(hd:zj E op=some (.bool (@decide P inst)))(hp:¬P)(h:DPW p base rs Q r W A (qI E dst (.bool false)) S nk):DPW p base rs Q (⟨id,dst,.p op,none,aid,ws,keep⟩::r) W A E S nk:=zi hd (by rw [decide_eq_false hp];exact h)
theorem AU{op:PureOp}{a b:Int}(hd:zj E op=some (.bool (a==b)))(hp:a=b)(h:DPW p base rs Q r W A (qI E dst (.bool true)) S nk):DPW p base rs Q (⟨id,dst,.p op,none,aid,ws,keep⟩::r) W A E S nk:=zi hd (by rw [show (a==b)=true by simp [hp]];exact h)
theorem AV{op:PureOp}{a b:Int}(hd:zj E op=some (.bool (a==b)))(hp:a≠b)(h:DPW p base rs Q r W A (qI E dst (.bool false)) S nk):DPW p base rs Q (⟨id,dst,.p op,none,aid,ws,keep⟩::r) W A E S nk:=zi hd (by rw [show (a==b)=false by simp [hp]];exact h)
theorem AW{op:PureOp}{a b:Int}(hd:zj E op=some (.bool (a !=b)))(hp:a≠b)(h:DPW p base rs Q r W A (qI E dst (.bool true)) S nk):DPW p base rs Q (⟨id,dst,.p op,none,aid,ws,keep⟩::r) W A E S nk:=zi hd (by rw [show (a !=b)=true by simp [hp]];exact h)
theorem iK{op:PureOp}{a b:Int}(hd:zj E op=some (.bool (a !=b)))(hp:a=b)(h:DPW p base rs Q r W A (qI E dst (.bool false)) S nk):DPW p base rs Q (⟨id,dst,.p op,none,aid,ws,keep⟩::r) W A E S nk:=zi hd (by rw [show (a !=b)=false by simp [hp]];exact h)
end
theorem K6{α:Type}(f:α->List FD)(a:α):∀n,jx (f a) n=(List.replicate n a).flatMap f
 |0=>rfl
 |n+1=>by rw [jx,K6 f a n,LZ,wB]
section
variable{p:Par}{base rs:Nat}{Q:qk->Bx->Nat->Prop}{r:List SOper}{W:Wt}{A:List Nat}{E:qk}{S:Bx}{nk:Nat}{id:Nat}{dst:Option Nat}{aid:Option Nat}{ws:List Nat}{keep:Bool}
theorem QV {α:Type} (f:α->List FD) (a:α) {esz bytes n m:Nat} {z:List C} {lo co:Opd} {k k':IntKind} (hl:ro E lo=some (.one (.f (.c (.int k (n:Nat)))))) (hc:ro E co=some (.one (.f (.c (.int k' (m:Nat)))))) (hz:eE (f a) z) (hze:z.length=esz) (hp:0<esz) (hnm:n<=m) (hb:bytes*m<=281474976710656) (hm:m<4611686018427387904)
 (h:DPW p base rs Q r W A (qI E dst (.one (.own nk 0 n esz))) ((nk,.data ((List.replicate n a).flatMap f))::S) (nk+1)):DPW p base rs Q (⟨id,dst,.a (.mkslice esz bytes z lo co),none,none,ws,keep⟩::r) W A E S nk:=
 aJ (f a) hl hc hz hze hp hnm hb hm (by rw [K6];exact h)
theorem We {α:Type} (f:α->List FD) (a:α) {esz bytes n m:Nat} {z:List C} {lo co:Opd} {k k':IntKind} {i:Nat} (hi:Nat.blt i rs=true) (hA':A.elem i=false) (hl:ro E lo=some (.one (.f (.c (.int k (n:Nat)))))) (hc:ro E co=some (.one (.f (.c (.int k' (m:Nat)))))) (hz:eE (f a) z) (hze:z.length=esz) (hp:0<esz) (hnm:n<=m) (hb:bytes*m<=281474976710656) (hm:m<4611686018427387904)
 (h:DPW p base rs Q r W (i::A) (qI E dst (.one (.own nk 0 n esz))) ((nk,.data ((List.replicate n a).flatMap f))::S) (nk+1)):DPW p base rs Q (⟨id,dst,.a (.mkslice esz bytes z lo co),none,some i,ws,keep⟩::r) W A E S nk:=
 A1 (f a) hi hA' hl hc hz hze hp hnm hb hm (by rw [K6];exact h)
end
theorem qP{p:Par}{n k cnt e:Nat}(t:Nat){m:List FD}{Q:Exit->qk->Bx->Nat->Prop}{E:qk}{S:Bx}{nk:Nat}(ht:lk E t=some (.one (.own k 0 cnt e)))(hk:lk S k=some (.data m))(h:Q .ret [(t,.one (.f (.sl e cnt m)))] [] nk)(hm:m.length=cnt*e:=by first|exact qO (fun _=>by rfl) _|assumption|rfl|(simp;done)):DPS p n .ret Q E S nk:=by
 refine qx (E0:=[(t,.one (.own k 0 cnt e))]) (S0:=[(k,.data m)]) (qg ht (qv _)) (qg hk (qv _)) ?_;have hkk:Nat.beq k k=true:=Nat.beq_refl k;have hok:fQ k (oJ m) (.own k 0 cnt e):=by simp only [fQ,hkk];exact⟨O,hm⟩
 refine qF k (m:=m) (by rw [qw,if_pos rfl]) ⟨hok,trivial⟩ ⟨trivial,trivial⟩ ?_;refine qb ?_;have e1:zx (Vq k m) [(t,DV.one (.own k 0 cnt e))]=[(t,.one (.f (.sl e cnt m)))]:=by simp only [zx,Vq,Yn,hkk]
 have e2:zx (vI k m) (xP k [(k,Bk.data m)])=[]:=by simp [xP,hkk,zx]
 rw [e1,e2];exact h
theorem yV{p:Par}{n k cnt e:Nat}(t u:Nat){c:C}{m:List FD}{Q:Exit->qk->Bx->Nat->Prop}{E:qk}{S:Bx}{nk:Nat}(ht:lk E t=some (.one (.own k 0 cnt e)))(hu:lk E u=some (.one (.f (.c c))))(hk:lk S k=some (.data m))(h:Q .ret [(t,.one (.f (.sl e cnt m))),(u,.one (.f (.c c)))] [] nk)(hm:m.length=cnt*e:=by first|exact qO (fun _=>by rfl) _|assumption|rfl|(simp;done)):DPS p n .ret Q E S nk:=by
 refine qx (E0:=[(t,.one (.own k 0 cnt e)),(u,.one (.f (.c c)))]) (S0:=[(k,.data m)]) (qg ht (qg hu (qv _))) (qg hk (qv _)) ?_;have hkk:Nat.beq k k=true:=Nat.beq_refl k;have hok:fQ k (oJ m) (.own k 0 cnt e):=by simp only [fQ,hkk];exact⟨O,hm⟩
 refine qF k (m:=m) (by rw [qw,if_pos rfl]) ⟨hok,trivial,trivial⟩ ⟨trivial,trivial⟩ ?_;refine qb ?_;have e1:zx (Vq k m) [(t,DV.one (.own k 0 cnt e)),(u,.one (.f (.c c)))]=[(t,.one (.f (.sl e cnt m))),(u,.one (.f (.c c)))]:=by simp only [zx,Vq,Yn,hkk]
 have e2:zx (vI k m) (xP k [(k,Bk.data m)])=[]:=by simp [xP,hkk,zx]
 rw [e1,e2];exact h
theorem xp{P:Prop}(h:P:=by exact⟨by repeat (first|exact trivial|refine⟨by first|rfl|exact congrArg (fun z=>some (DV.int z)) (by first|omega|assumption),rfl,?_⟩),by repeat (first|exact trivial|refine⟨by first|rfl|exact congrArg (fun z=>some (Bk.data z)) (by first|assumption|simp)|exact congrArg (fun z=>some (Bk.tree z)) (by first|assumption|simp),rfl,rfl,?_⟩),rfl,rfl⟩):P:=h
theorem wY{P:Prop}(h:P:=by first|omega|(simp only [qE,xA,zR,xN,xS,zS];omega)):P:=h
theorem fG{P:Prop}(h:P:=by first|rfl|omega|simp):P:=h
theorem qr{P:Prop}(h:P:=by decide):P:=h
theorem sM{P:Prop}(h:P:=by simp):P:=h
theorem qG{p:Par}{E:qk}{S:Bx}{I:Nat->qk->Bx->Nat->Prop}{m n0:Nat}{E0:qk}{S0:Bx}(h3:I (m-1) E0 S0 n0)(h1:m-1<m:=by omega)(h2:Wk p (oE E0 S0 E S) n0 E0 S0 E S:=by exact xp):∃m',m'<m/\∃E0 S0 n0 ρ,Wk p ρ n0 E0 S0 E S/\I m' E0 S0 n0:=⟨m-1,h1,E0,S0,n0,_,h2,h3⟩
theorem qN{p:Par}{n:Nat}{Q:Exit->qk->Bx->Nat->Prop}{E:qk}{S:Bx}{nk:Nat}{a:SC}(I:Nat->qk->Bx->Nat->Prop)(m:Nat){n0:Nat}{E0:qk}{S0:Bx}(h3:I m E0 S0 n0)(round:∀m E S nk,I m E S nk->DPS p n a (eV (fun E' S' _=>∃m',m'<m/\∃E0 S0 n0 ρ,Wk p ρ n0 E0 S0 E' S'/\I m' E0 S0 n0) Q) E S nk)(h2:Wk p (oE E0 S0 E S) n0 E0 S0 E S:=by exact xp):DPS p n (.loop a) Q E S nk:=qu I ⟨m,E0,S0,n0,_,h2,h3⟩ round
end Go.Ab
