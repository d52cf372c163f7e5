/- -/
import Derived.Test.YtdlelodnhjacgaaGreatDoorAb11
set_option linter.unusedSimpArgs false
set_option linter.unusedVariables false
set_option maxRecDepth 8000
namespace Go.Ab
def setLs{α:Type}(l:List α)(i:Nat):List α->List α
 |[]=>l
 |c::cs=>setLs (l.set i c) (i+1) cs
theorem Xp:∀(cs l rest:List C) (i:Nat),i+cs.length<=l.length->wn (l++rest) i cs=wn l i cs++rest
 |[],_,_,_,_=>rfl
 |c::cs,l,rest,i,h=>by
  simp only [xA] at h;simp only [wn];rw [List.set_append_left _ _ (by omega)];exact Xp cs _ rest (i+1) (by simp;omega)
theorem qe.set{α β:Type}{R:α->β->Prop}:∀{l:List α} {m:List β},qe R l m->∀(i:Nat) {a:α} {b:β},R a b->qe R (l.set i a) (m.set i b)
 |[],[],_,_,_,_,_=>trivial
 |_::_,_::_,h,0,_,_,hr=>⟨hr,h.2⟩
 |_::_,_::_,h,i+1,_,_,hr=>⟨h.1,qe.set h.2 i hr⟩
 |[],_::_,h,_,_,_,_=>h.elim
 |_::_,[],h,_,_,_,_=>h.elim
theorem qe.setLs{α:Type}{R:α->C->Prop}:∀{ds:List α} {cs:List C},qe R ds cs->∀{l:List α} {m:List C} (i:Nat),qe R l m->qe R (setLs l i ds) (wn m i cs)
 |[],[],_,_,_,_,h=>h
 |_::_,_::_,hd,_,_,i,h=>qe.setLs hd.2 (i+1) (qe.set h i hd.1)
 |[],_::_,h,_,_,_,_=>h.elim
 |_::_,[],h,_,_,_,_=>h.elim
theorem Jh:∀(pre old cs rest:List C),cs.length=old.length->wn (pre++(old++rest)) pre.length cs=pre++(cs++rest)
 |_,[],[],_,_=>by simp [wn]
 |pre,o::old,c::cs,rest,h=>by
  simp only [wn];have e:(pre++(o::old++rest)).set pre.length c=(pre++[c])++(old++rest):=by simp
  rw [e];have:=Jh (pre++[c]) old cs rest (by simpa using h);simp only [qE,xA,zR] at this;rw [this];simp
 |_,[],_::_,_,h=>by simp at h
 |_,_::_,[],_,h=>by simp at h
def Zw(x:Bk)(o:Nat)(l:List DC):Bk:=match x with
 |.cells m=>.cells (setLs m o l)
 |.data m=>match Yz l with
  |some q=>.data (setLs m o q)
  |none=>.cells (setLs (m.map .f) o l)
 |x=>x
section
variable{p:Par}{base rs:Nat}{Q:qk->Bx->Nat->Prop}{r:List SOper}{W:Wt}{A:List Nat}{E:qk}{S:Bx}{nk:Nat}{id:Nat}{dst:Option Nat}{aid:Option Nat}{ws:List Nat}{keep:Bool}
theorem Cr{k:Nat}(h:X4 S k W=true):QF S k W=true:=by
 unfold X4 at h;split at h
 ·exact h
 ·cases h
theorem Lv{Z:Nat->Prop}{β:qt}{H:Hp}{x:Bk}{o:Nat}{l:List DC}{cs ks:List C}(hsh:x.shape=none)(hx:x.rel Z H β cs)(hl:qe (RD Z H β) l ks):(Zw x o l).rel Z H β (wn cs o ks):=by
 cases x with
 |cells m=>exact qe.setLs hl o hx
 |data m=>
  simp only [Zw];split
  ·rename_i q hq;exact qe.setLs (aV hq hl) o hx
  ·exact qe.setLs hl o (vt hx)
 |tree rows=>exact hx.elim
 |mp ks l=>cases hsh
 |mt es=>exact hx.elim
theorem MV{x:Bk}{o:Nat}{l:List DC}(hsh:x.shape=none):(Zw x o l).shape=none:=by
 cases x with
 |cells m=>rfl
 |data m=>simp only [Zw];split<;>rfl
 |tree rows=>rfl
 |mp ks l=>cases hsh
 |mt es=>rfl
theorem AR.upd{Z:Nat->Prop}{β:qt}{H H':Hp}{b:Nat}(hA:AR p base rs A Z β H)(hnx:H'.nx=H.nx)(hg:∀b',b'≠b->H'.get b'=H.get b'){k:zP}{N:Nat}(hb:β k=some (.blk b N)):AR p base rs A Z β H':=by
 refine⟨hA.1,fun j hj hjA=>?_⟩;obtain⟨h1,h2,h3,h4⟩:=hA.2 j hj hjA;exact⟨by omega,by rw [hg _ (fun e=>h4 k N (by rw [e];exact hb))];exact h2,h3,h4⟩
theorem CR.upd{Z:Nat->Prop}{β:qt}{H H':Hp}{b:Nat}{k:zP}{N:Nat}{c:z7}{x:Bk}(hS:SR p Z β H S nk)(hk:lk S k.1=some x)(hC:CR W Z β H c)(hZ:xb Z H Z H')(hg:∀b',b'≠b->H'.get b'=H.get b')(hb:β k=some (.blk b N))(hw:QF S k.1 W=true):CR W Z β H' c:=hC.step hZ (xL.refl _) fun y hy j o n e b' N' i q hj _ _ hq=>by
 obtain⟨⟨z,hz⟩,hne⟩:=ZW hw y hy j o n e;have:b'≠b:=fun e'=>hne (by rw [hS.inj j k z x b N' N hz hk (e'▸hj) hb]);unfold Hp.cell at hq ⊢;rw [hg b' this];exact hq
theorem wh {n:Nat} {a v:Opd} {k o:Nat} {x:Bk} {d:DV} {l:List DC} (ha:ro E a=some (.one (.ptr k o))) (hv:ro E v=some d) (hl:qq d=some l) (hn:l.length=n) (hk:lk S k=some x) (hle:o+n<=x.len) (hw:X4 S k W=true)
 (h:DPW p base rs Q r W A (qI E dst .undef) (put k (Zw x o l) S) nk):DPW p base rs Q (⟨id,dst,.e (.store n a v),none,aid,ws,keep⟩::r) W A E S nk:=.mk fun Z β H F c QP hS hE hC hA=>by
 obtain⟨ca,hca,b,N,hb,rfl⟩:=xz hE ha;obtain⟨ks,hk1,hk2⟩:=VO (xz hE hv) hl;have hfl:=sX hw hk;have hsh:=DU hw hk;obtain⟨s,hs,hbx⟩:=hS.box (k,0) x (zN hk hfl);rw [hb] at hs;obtain rfl:=zsi hs;obtain⟨hz,hlo,hlt,cs,rest,hrow,hN,hrel⟩:=hbx;rw [hsh] at hrow hN;have hN:(cs++rest).length=N:=hN;have hrow:yM H b (cs++rest):=hrow;have hlen:=Bk.rel_len hrel;have hkl:=hk2.len;obtain⟨H',e1,e2,e3,e4⟩:=hrow.stores (cs:=ks) (i:=o) (by simp;omega);rw [Xp ks cs rest o (by omega)] at e2;obtain⟨hS',hZ⟩:=hS.upd (x':=Zw x o l) (cs:=wn cs o ks) (rest:=rest) hk hfl hb (Lv hsh hrel hk2) e3 e4 (MV hsh) e2 (by rw [qE,ka,<-qE];exact hN);simp only [qC,qH,if_true,xe,hca,hk1];rw [if_pos (by omega),e1];have hC':=hC.upd (k:=(k,0)) hS hk hZ e3 hb (Cr hw);exact⟨hC'.watch ws,h.run Z β H' _ c QP hS' ((hE.mono hZ (xL.refl _)).set dst kP) hC' (hA.upd e4 e3 hb)⟩
def eC(S:Bx)(esz:Nat)(d:DV)(m:Nat)(q:List FD):Prop:=match d with
 |.one (.own k o m' e)=>m'=m/\e=esz/\∃l,lk S k=some (.data l)/\xd l o (m*esz)=some q
 |.one (.f (.sl e m' l))=>m'=m/\e=esz/\l=q
 |.one (.f (.c .nils))=>m=0/\q=[]
 |_=>False
theorem NR{Z:Nat->Prop}{β:qt}{H:Hp}(hS:SR p Z β H S nk){k o n esz:Nat}{c:C}(hr:RD Z H β (.own k o n esz) c){l q:List FD}(hk:lk S k=some (.data l))(hq:xd l o (n*esz)=some q):∃cs,qe (RF Z H) q cs/\((c=.nils/\n=0/\cs=[])\/∃b cap ex N,β (k,0)=some (.blk b N)/\c=.slc b o n cap esz ex/\n<=cap/\H.loads b o (n*esz)=some cs):=by
 obtain⟨hle,rfl⟩:=zT hq;rcases hr with⟨_,rfl,rfl,rfl⟩|⟨b,N,cap,ex,hb,rfl,hcap,_⟩
 ·exact⟨[],by simp;trivial,.inl ⟨rfl,rfl,rfl⟩⟩
 ·obtain⟨s,hs,hbx⟩:=hS.box (k,0) _ (zN hk rfl);rw [hb] at hs;obtain rfl:=zsi hs;obtain⟨_,_,_,cs,rest,hrow,hN,hrel⟩:=hbx;have hN:(cs++rest).length=_:=hN;have hlen:=Bk.rel_len hrel;simp only [Bk.len] at hlen;refine⟨(cs.drop o).take (n*esz),(qe.drop hrel o).take _,.inr ⟨b,cap,ex,N,hb,O,hcap,?_⟩⟩;have h1:H.loads b (0+o) (n*esz)=some (((cs++rest).drop o).take (n*esz)):=Xy hrow.2 (by simp;omega);rw [ym] at h1;rw [h1,DQ (by omega),Kt (by simp;omega)]
theorem FL{Z:Nat->Prop}{β:qt}{H:Hp}{F:T V}(hS:SR p Z β H S nk)(hE:ER Z β H E F){x:Opd}{d:DV}(hx:ro E x=some d){esz m:Nat}{q:List FD}(hd:eC S esz d m q):∃cs,zU H esz (x.ev F)=some (m,cs)/\qe (RF Z H) q cs/\cs.length=m*esz:=by
 have hr:=xz hE hx;unfold eC at hd;split at hd
 ·obtain⟨rfl,rfl,l,hk,hq⟩:=hd;obtain⟨c,hc,hr⟩:=hr;obtain⟨cs,h1,h2⟩:=NR hS hr hk hq;rcases h2 with⟨rfl,rfl,rfl⟩|⟨b,cap,ex,N,_,rfl,_,h2⟩
  ·exact⟨[],by rw [hc];rfl,h1,by simp⟩
  ·exact⟨cs,by rw [hc];simp [zU,h2],h1,zW h2⟩
 ·obtain⟨rfl,rfl,rfl⟩:=hd;obtain⟨c,hc,hr⟩:=hr;cases hr with
  |nil=>exact⟨[],by rw [hc];rfl,trivial,by simp⟩
  |sl hz hl hn hld hel=>
   rename_i b o cap ex cs;exact⟨cs,by rw [hc];simp [zU,hld],qe.mk (by rw [hl,zW hld]) hel,zW hld⟩
 ·obtain⟨rfl,rfl⟩:=hd;obtain⟨c,hc,hr⟩:=hr;cases hr;exact⟨[],by rw [hc];rfl,trivial,by simp⟩
 ·exact hd.elim
theorem AR.repl{Z:Nat->Prop}{β:qt}{H H':Hp}{b N:Nat}{k:zP}(hA:AR p base rs A Z β H)(hnx:H.nx<=H'.nx)(hg:∀b',b'≠b->(∀N,β k≠some (.blk b' N))->H'.get b'=H.get b')(hb:(∃N,β k=some (.blk b N))\/H.nx<=b):AR p base rs A Z (wm β nk (.blk b N)) H':=by
 refine⟨hA.1,fun j hj hjA=>?_⟩;obtain⟨h1,h2,h3,h4⟩:=hA.2 j hj hjA;have hne:base+j≠b:=fun e=>by
  rcases hb with⟨M,hM⟩|hb
  ·exact h4 k M (e▸hM)
  ·omega
 refine⟨by omega,by rw [hg _ hne fun M=>h4 k M];exact h2,h3,fun i M=>?_⟩;by_cases e:i=(nk,0)
 ·subst e;rw [xk];intro h;exact hne (Slot.blk.inj (zsi h)).1.symm
 ·rw [z8 _ _ e];exact h4 i M
theorem CR.repl{Z:Nat->Prop}{β β':qt}{H H':Hp}{b k:Nat}{c:z7}{x:Bk}(hS:SR p Z β H S nk)(hk:lk S k=some x)(hC:CR W Z β H c)(hZ:xb Z H Z H')(hB:xL β β')(hg:∀b',b'≠b->(∀N,β (k,0)≠some (.blk b' N))->H'.get b'=H.get b')(hb:(∃N,β (k,0)=some (.blk b N))\/H.nx<=b)(hw:X4 S k W=true):CR W Z β' H' c:=hC.step hZ hB fun y hy j o n e b' N' i q hj _ _ hq=>by
 obtain⟨⟨z,hz⟩,hne⟩:=Eg hw y hy j o n e;have h2:∀N,β (k,0)≠some (.blk b' N):=fun N e'=>hne (by rw [hS.inj j (k,0) z x b' N' N hz hk hj e']);have h1:b'≠b:=fun e'=>by
  rcases hb with⟨M,hM⟩|hb
  ·exact h2 M (e'▸hM)
  ·have:=hS.bd j b' N' hj;omega
 unfold Hp.cell at hq ⊢;rw [hg b' h1 h2];exact hq
theorem SR.keepS{Z:Nat->Prop}{β:qt}{H:Hp}{S0:Bx}(hS:SR p Z β H S nk)(h2:∀k x,lk S0 k=some x->lk S k=some x):SR p Z β H S0 nk:=
 ⟨hS.wf,hS.lo,hS.z,hS.zlo,hS.zz,hS.glob,hS.nk,hS.bd,fun k x hk=>hS.box k x (by
  obtain⟨y,hy⟩:=ju hk;rw [yK (S':=S0) (by rw [hy,h2 _ _ hy])];exact hk),fun k k' x x' b N N' hk hk'=>hS.inj k k' x x' b N N' (h2 _ x hk) (h2 _ x' hk'),hS.blo,hS.anch,hS.ancn⟩
theorem V1{Z:Nat->Prop}{β:qt}{H:Hp}(hS:SR p Z β H S nk):SR p Z (wm β nk .nil) H ((nk,.data [])::S) (nk+1):=by
 have hB:=hS.ble .nil;refine⟨hS.wf,hS.lo,hS.z,hS.zlo,hS.zz,hS.glob,fun j hj=>?_,fun j b' N hj=>?_,fun j y hj=>?_,fun j j' y y' b' N N' hj hj' e1 e2=>?_,fun j b' N hj=>?_,fun κ hκ h0=>by rw [vY _ _ (by have:=hS.ancn;omega)];exact hS.anch κ hκ h0,Nat.le_succ_of_le hS.ancn⟩
 ·rw [vY _ _ (by omega)];exact hS.nk j (by omega)
 ·by_cases e:j=(nk,0)
  ·subst e;rw [xk] at hj;cases hj
  ·rw [z8 _ _ e] at hj;exact hS.bd j b' N hj
 ·rw [cP rfl] at hj;split at hj
  ·rename_i e;split at hj
   ·rename_i e2;obtain rfl:=Yf e e2;obtain rfl:=zsi hj;exact⟨_,xk _ _ _,O⟩
   ·cases hj
  ·obtain⟨s,hs,hbx⟩:=hS.box j y hj;exact⟨s,hB j s hs,hbx.mono hB (qz _) fun _ _=>O⟩
 ·by_cases e:j=(nk,0)
  ·subst e;rw [xk] at e1;cases e1
  ·rw [z8 _ _ e] at e1;by_cases e':j'=(nk,0)
   ·subst e';rw [xk] at e2;cases e2
   ·rw [z8 _ _ e'] at e2;have n1:=hS.lt1 e1;have n2:=hS.lt1 e2;rw [qw,if_neg (by omega)] at hj hj';exact hS.inj j j' y y' b' N N' hj hj' e1 e2
 ·by_cases e:j=(nk,0)
  ·subst e;rw [xk] at hj;cases hj
  ·rw [z8 _ _ e] at hj;exact hS.blo j b' N hj
theorem qZ {esz bytes:Nat} {s v:Opd} {k n m:Nat} {l q l':List FD} {d:DV} (hs:ro E s=some (.one (.own k 0 n esz))) (hv:ro E v=some d) (hk:lk S k=some (.data l)) (hl':xd l 0 (n*esz)=some l') (hd:eC S esz d m q) (hbb:(n+m)*bytes<=140737488355328) (h62:n+m<4611686018427387904) (he:0<esz) (hw:X4 S k W=true)
 (h:DPW p base rs Q r W A (qI E dst (.one (.own nk 0 (n+m) esz))) ((nk,.data (l'++q))::xP k S) (nk+1)):DPW p base rs Q (⟨id,dst,.e (.append esz bytes s v),none,aid,ws,keep⟩::r) W A E S nk:=.mk fun Z β H F c QP hS hE hC hA=>by
 obtain⟨news,hn1,hn2,hn3⟩:=FL hS hE hv hd;obtain⟨cs,hcs,hr⟩:=xz hE hs;obtain⟨hle,hl'e⟩:=zT hl';rw [ym] at hle;rw [Kz] at hl'e;obtain⟨sk,hsk,hbx⟩:=hS.box (k,0) _ (zN hk rfl);simp only [qC,qH,if_true,xe,hn1,hcs];have hfin:∀(H':Hp) (b:Nat) (ys rest:List C) (cap:Nat) (ex:Bool),qe (RF Z H) (l'++q) ys->((∃N,β (k,0)=some (.blk b N))\/(b=H.nx))->b<H'.nx->H.nx<=H'.nx->WF H'->(∀b',b'≠b->(∀N,β (k,0)≠some (.blk b' N))->H'.get b'=H.get b')->yM H' b (ys++rest)->n+m<=cap->cap*esz<=(ys++rest).length->
  yi ws c H'/\qC p.P p.G base QP (fun F' H'=>∃E' S' nk' Z' β',SR p Z' β' H' S' nk'/\ER Z' β' H' E' F'/\Q E' S' nk') r c (xg F dst (.one (.slc b 0 (n+m) cap esz ex))) H':=by
  intro H' b ys rest cap ex hys hb hbl hnx hwf hg hrow hcap hcl;have hb':(∃N,β (k,0)=some (.blk b N))\/H.nx<=b:=hb.imp (fun h=>h) fun e=>by omega
  obtain⟨hS',hZ,hB⟩:=hS.replace (x':=.data (l'++q)) hk rfl hys (hb.imp (fun h=>h) fun e=>by subst e;exact⟨fun hz=>absurd (hS.z _ hz) (by omega),fun k N hk=>absurd (hS.bd k _ N hk) (by omega),hS.lo⟩) hbl hnx hwf hg rfl hrow;have hC':=hC.repl hS hk hZ hB hg hb' hw;exact⟨hC'.watch ws,h.run Z _ H' _ c QP hS' ((hE.mono hZ hB).set dst ⟨_,O,.inr ⟨b,_,cap,ex,xk _ _ _,O,hcap,by omega⟩⟩) hC' (hA.repl hnx hg hb')⟩
 rcases hr with⟨hnil,rfl,_,rfl⟩|⟨b,N,cap,ex,hb,rfl,hcap,hcN⟩
 ·have hl0:l'=[]:=by rw [hl'e];simp
  subst hl0;simp only [yx];rw [ym] at hbb h62;by_cases hm:m=0
  ·subst hm;rw [if_pos rfl];have hq0:q=[]:=vw (by rw [hn2.len,hn3];simp);subst hq0;refine⟨hC.watch ws,?_⟩;have hB:=hS.ble .nil;have hkn:=hS.lt hk;have hZ:=xb.refl Z H;have hS':SR p Z (wm β nk .nil) H ((nk,.data [])::xP k S) (nk+1):=by
    exact (V1 hS).keepS fun j y hj=>by
     rw [qw] at hj ⊢;split at hj
     ·rename_i e;rw [if_pos e];exact hj
     ·rename_i e;rw [if_neg e];rw [yB] at hj;split at hj
      ·cases hj
      ·exact hj
   refine h.run Z _ H _ c QP hS' ((hE.mono hZ hB).set dst ⟨_,O,.inl ⟨xk _ _ _,O,O,O⟩⟩) (hC.step hZ hB fun _ _ _ _ _ _ _ _ _ _ _ _ _ h=>h) ⟨hA.1,fun j hj hjA=>?_⟩;obtain⟨h1,h2,h3,h4⟩:=hA.2 j hj hjA;refine⟨h1,h2,h3,fun i M=>?_⟩;by_cases e:i=(nk,0)
   ·subst e;rw [xk];intro h;cases h
   ·rw [z8 _ _ e];exact h4 i M
  ·rw [if_neg hm,if_pos ⟨hbb,h62⟩];have:=hfin (H.push (.row news.length news .lf true)) H.nx news [] m false (by simpa using hn2) (.inr rfl) (by simp) (by simp) (hS.wf.push _) (fun b' hb' _=>by rw [Hp.get_push,if_neg hb']) (by rw [yI];exact yM.new news) (by omega) (by simp [hn3]);rw [ym] at this;exact this
 ·rw [hb] at hsk;obtain rfl:=zsi hsk;obtain⟨hz,hlo,hlt,cells,rest,hrow,hN,hrel⟩:=hbx;have hN:(cells++rest).length=_:=hN;have hlen:l.length=cells.length:=Bk.rel_len hrel;have hoN:n*esz<=N:=by
   have:n*esz<=cap*esz:=X1 _ hcap;omega
  have hpre:qe (RF Z H) l' (cells.take (n*esz)):=by rw [hl'e];exact qe.take hrel _
  simp only [yx];rw [if_neg (by simp)];by_cases hfit:n+m<=cap
  ·rw [if_pos hfit,ym];have hcm:(n+m)*esz<=cap*esz:=X1 _ hfit;rw [wW] at hcm;have hsplit:cells++rest=cells.take (n*esz)++((cells++rest).drop (n*esz)).take (m*esz)++(cells++rest).drop (n*esz+m*esz):=by
    rw [j5,<-DR,ZV,<-Kt (l₁:=cells) (l₂:=rest) (by omega),ZV]
   obtain⟨H',e1,e2,e3,e4⟩:=hrow.stores (cs:=news) (i:=n*esz) (by rw [hN,hn3];omega);rw [e1];have hset:wn (cells++rest) (n*esz) news=(cells.take (n*esz)++news)++(cells++rest).drop (n*esz+m*esz):=by
    conv=>lhs;rw [hsplit,j5]
    have:=Jh (cells.take (n*esz)) (((cells++rest).drop (n*esz)).take (m*esz)) news ((cells++rest).drop (n*esz+m*esz)) (by rw [hn3,xS,zS,hN];omega);rw [xS,L7 (by omega)] at this;rw [this,j5]
   rw [hset] at e2;refine hfin H' b (cells.take (n*esz)++news) _ cap ex (hpre.append hn2) (.inl ⟨N,hb⟩) (by omega) (by omega) (fun b' bk hb'=>?_) (fun b' hb' _=>e3 b' hb') e2 hfit ?_
   ·rw [e4];by_cases e:b'=b
    ·omega
    ·rw [e3 b' e] at hb';exact hS.wf b' bk hb'
   ·have h1:=congrArg List.length hset;rw [ka] at h1;omega
  ·rw [if_neg hfit,if_pos ⟨hbb,h62⟩];have hld:H.loads b 0 (n*esz)=some (cells.take (n*esz)):=by
    have:=y6 hrow.2 (m:=n*esz) (by omega);rw [this,Kt (by omega)]
   rw [hld];have hlen2:(cells.take (n*esz)++news).length=(n+m)*esz:=by
    rw [qE,xS,hn3,wW];omega
   have hrow':=yM.new (H:=H) (cells.take (n*esz)++news);cases ex with
   |true=>
    simp only [if_true];exact hfin _ H.nx (cells.take (n*esz)++news) [] (n+m) false (hpre.append hn2) (.inr O) (by simp) (by simp) (hS.wf.push _) (fun b' hb' _=>by rw [Hp.get_push,if_neg hb']) (by rw [yI];exact hrow') (qz _) (by rw [yI,hlen2];exact qz _)
   |false=>
    simp only [yz,if_false,hrow.mut,if_true];refine hfin _ H.nx (cells.take (n*esz)++news) [] (n+m) false (hpre.append hn2) (.inr O) (by simp) (by simp) (fun b' bk hb'=>?_) (fun b' hb' hne=>?_) (by rw [yI];exact hrow'.same (by rw [Hp.get_del,if_neg (by omega)])) (qz _) (by rw [yI,hlen2];exact qz _)
    ·rw [Hp.get_del] at hb';split at hb'
     ·cases hb'
     ·exact hS.wf.push _ b' bk hb'
    ·rw [Hp.get_del,if_neg (fun (e:b'=b)=>hne N (by rw [e];exact hb)),Hp.get_push,if_neg hb']
end
def gA:DC->Bool
 |.f _=>true
 |.g _ _=>true
 |.fptr _=>true
 |.fz _ _=>true
 |_=>false
def gB:DV->Bool
 |.one d=>gA d
 |.agg l=>xa gA l
 |.tup _=>false
def ZB:DV->Bool
 |.tup l=>xa gB l
 |.one d=>gA d
 |.agg l=>xa gA l
def kx:qt:=fun _=>none
theorem Mt(β:qt):xL kx β:=fun _ _ h=>by cases h
section
variable{Z Z':Nat->Prop}{H H':Hp}{β β':qt}
theorem f9{d:DC}{c:C}(h:gA d=true)(hr:RD Z H β d c):RD Z H β' d c:=by
 cases d with
 |f d=>exact hr
 |g b o=>exact hr
 |fptr l=>exact hr
 |fz f ls=>exact hr
 |_=>cases h
theorem u5:∀{l:List DC} {cs:List C},xa gA l=true->qe (RD Z H β) l cs->qe (RD Z H β') l cs
 |[],[],_,_=>trivial
 |d::l,c::cs,h,hr=>by
  have h1:=yX h d (by simp);have h2:xa gA l=true:=by simp only [xa,h1] at h;exact h
  exact⟨f9 h1 hr.1,u5 h2 hr.2⟩
 |[],_::_,_,hr=>hr.elim
 |_::_,[],_,hr=>hr.elim
theorem OQ{d:DV}{v:V}(h:gB d=true)(hr:zC Z H β d v):zC Z H β' d v:=by
 cases d with
 |one d=>obtain⟨c,rfl,hr⟩:=hr;exact⟨c,O,f9 h hr⟩
 |agg l=>obtain⟨c,rfl,hr⟩:=hr;exact⟨c,O,u5 h hr⟩
 |tup l=>cases h
theorem aF:∀{l:List DV} {cs:List V},xa gB l=true->qe (zC Z H β) l cs->qe (zC Z H β') l cs
 |[],[],_,_=>trivial
 |d::l,c::cs,h,hr=>by
  have h1:=yX h d (by simp);have h2:xa gB l=true:=by simp only [xa,h1] at h;exact h
  exact⟨OQ h1 hr.1,aF h2 hr.2⟩
 |[],_::_,_,hr=>hr.elim
 |_::_,[],_,hr=>hr.elim
theorem No{d:DV}{v:V}(h:ZB d=true)(hr:xi Z H β d v):xi Z H β' d v:=by
 cases d with
 |one d=>obtain⟨c,rfl,hr⟩:=hr;exact⟨c,O,f9 h hr⟩
 |agg l=>obtain⟨c,rfl,hr⟩:=hr;exact⟨c,O,u5 h hr⟩
 |tup l=>obtain⟨c,rfl,hr⟩:=hr;exact⟨c,O,aF h hr⟩
theorem lV:∀{l:List DV} {cs:List V},xa ZB l=true->qe (xi Z H β) l cs->qe (xi Z H β') l cs
 |[],[],_,_=>trivial
 |d::l,c::cs,h,hr=>by
  have h1:=yX h d (by simp);have h2:xa ZB l=true:=by simp only [xa,h1] at h;exact h
  exact⟨No h1 hr.1,lV h2 hr.2⟩
 |[],_::_,_,hr=>hr.elim
 |_::_,[],_,hr=>hr.elim
end
def B7:DC->Bool
 |.f (.c _)=>true
 |_=>false
def VM:DV->Bool
 |.one d=>B7 d
 |.agg l=>xa B7 l
 |.tup _=>false
def Tp:DV->Bool
 |.tup l=>xa VM l
 |.one d=>B7 d
 |.agg l=>xa B7 l
section
variable{Z Z':Nat->Prop}{H H':Hp}{β β':qt}
theorem B6{d:DC}{c:C}(h:B7 d=true)(hr:RD Z H β d c):RD Z' H' β' d c:=by
 cases d with
 |f d=>cases d with
  |c x=>cases hr with
   |c _ hx=>exact RF.c _ hx
  |sl=>cases h
 |_=>cases h
theorem B5:∀{l:List DC} {cs:List C},xa B7 l=true->qe (RD Z H β) l cs->qe (RD Z' H' β') l cs
 |[],[],_,_=>trivial
 |d::l,c::cs,h,hr=>by
  have h1:=yX h d (by simp);have h2:xa B7 l=true:=by simp only [xa,h1] at h;exact h
  exact⟨B6 h1 hr.1,B5 h2 hr.2⟩
 |[],_::_,_,hr=>hr.elim
 |_::_,[],_,hr=>hr.elim
theorem Ph{d:DV}{v:V}(h:VM d=true)(hr:zC Z H β d v):zC Z' H' β' d v:=by
 cases d with
 |one d=>obtain⟨c,rfl,hr⟩:=hr;exact⟨c,O,B6 h hr⟩
 |agg l=>obtain⟨c,rfl,hr⟩:=hr;exact⟨c,O,B5 h hr⟩
 |tup l=>cases h
theorem GA:∀{l:List DV} {cs:List V},xa VM l=true->qe (zC Z H β) l cs->qe (zC Z' H' β') l cs
 |[],[],_,_=>trivial
 |d::l,c::cs,h,hr=>by
  have h1:=yX h d (by simp);have h2:xa VM l=true:=by simp only [xa,h1] at h;exact h
  exact⟨Ph h1 hr.1,GA h2 hr.2⟩
 |[],_::_,_,hr=>hr.elim
 |_::_,[],_,hr=>hr.elim
theorem Pg{d:DV}{v:V}(h:Tp d=true)(hr:xi Z H β d v):xi Z' H' β' d v:=by
 cases d with
 |one d=>obtain⟨c,rfl,hr⟩:=hr;exact⟨c,O,B6 h hr⟩
 |agg l=>obtain⟨c,rfl,hr⟩:=hr;exact⟨c,O,B5 h hr⟩
 |tup l=>obtain⟨c,rfl,hr⟩:=hr;exact⟨c,O,GA h hr⟩
end
def yR(P:Program)(G:Nat)(GH:Hp)(f:FuncId)(ds:List DV)(R:DV->Prop):Prop:=∀(H:Hp) (Z:Nat->Prop) (args:List V),WF H->(∀b,Z b->b<H.nx)->(∀b bk,GH.get b=some bk->Z b/\H.get b=some bk)->qe (xi Z H kx) ds args->
 xc P G f args H fun v H'=>WF H'/\H.nx<=H'.nx/\(∀b,b<H.nx->H'.get b=H.get b)/\∃d,xi (fun b=>Z b\/(H.nx<=b/\b<H'.nx)) H' kx d v/\R d
theorem yR.mono{P:Program}{G:Nat}{GH:Hp}{f:FuncId}{ds:List DV}{R R':DV->Prop}(h:yR P G GH f ds R)(hr:∀d,R d->R' d):yR P G GH f ds R':=fun H Z args h1 h2 h3 h4=>(h H Z args h1 h2 h3 h4).mono fun _ _ ⟨g1,g2,g3,d,g4,g5⟩=>⟨g1,g2,g3,d,g4,hr d g5⟩
theorem xc.none{P:Program}{G:Nat}{f:FuncId}{args:List V}{H:Hp}{R:V->Hp->Prop}(h:xc P G f args H R):xc P G f args H fun v H'=>R v H'/\∀b,b<H.nx->H.get b=none->H'.get b=none:=fun μ K w xs hR ha=>(h μ K w xs hR ha).mono fun _ _ ⟨x,e,v,H',μ',K',h1,h2,h3,h4⟩=>⟨x,e,v,H',μ',K',⟨h1,h4.none⟩,h2,h3,h4⟩
def Zx(E:qk):List Opd->Option (List DV)
 |[]=>some []
 |x::l=>match ro E x,Zx E l with
  |some d,some r=>some (d::r)
  |_,_=>none
theorem Z5{Z:Nat->Prop}{β:qt}{H:Hp}{E:qk}{F:T V}(h:ER Z β H E F):∀{args:List Opd} {ds:List DV},Zx E args=some ds->qe (xi Z H β) ds (args.map (·.ev F))
 |[],ds,hd=>by obtain rfl:=zsi hd;trivial
 |x::l,ds,hd=>by
  simp only [Zx] at hd;split at hd
  ·rename_i d q h1 h2;obtain rfl:=zsi hd;exact⟨xz h h1,Z5 h h2⟩
  ·cases hd
def xn(r:List FD):FD:=.sl 1 r.length r
def V2(S:Bx):DC->DC->Prop
 |.own k o n esz,e=>match lk S k with
  |some (.tree rows)=>o=0/\n=rows.length/\esz=1/\e=.f (.sl 1 n (rows.map xn))
  |_=>∃l q,lk S k=some (.data l)/\xd l o (n*esz)=some q/\e=.f (.sl esz n q)
 |.trow k i o n,e=>∃rows r q,lk S k=some (.tree rows)/\rows[i]?=some r/\xd r o n=some q/\e=.f (.sl 1 n q)
 |d,e=>gA d=true/\e=d
def rR(S:Bx):DV->DV->Prop
 |.one d,e=>∃x,e=.one x/\V2 S d x
 |.agg l,e=>∃m,e=.agg m/\qe (V2 S) l m
 |.tup _,_=>False
section
variable{p:Par}{base rs:Nat}{Q:qk->Bx->Nat->Prop}{r:List SOper}{W:Wt}{A:List Nat}{E:qk}{S:Bx}{nk:Nat}{id:Nat}{dst:Option Nat}{aid:Option Nat}{ws:List Nat}{keep:Bool}
theorem SR.grow{Z:Nat->Prop}{β:qt}{H H':Hp}(hS:SR p Z β H S nk){Z':Nat->Prop}(hz:∀b,Z' b↔Z b\/(H.nx<=b/\Z' b))(hzz:∀b,Z' b->b<H'.nx)(hw:WF H')(hnx:H.nx<=H'.nx)(hg:∀b,b<H.nx->H'.get b=H.get b):SR p Z' β H' S nk/\xb Z H Z' H':=by
 have hz1:∀b,Z b->Z' b:=fun b hb=>(hz b).2 (.inl hb);have hz2:∀b,Z' b->b<H.nx->Z b:=fun b hb hl=>((hz b).1 hb).elim (fun h=>h) fun h=>by omega
 have hZ:xb Z H Z' H':=xb.of_get hz1 fun b hb=>hg b (hS.z b hb);refine⟨⟨hw,aZ hS.lo hnx,hzz,fun b hb=>?_,fun b hb=>hz1 b (hS.zz b hb),fun b bk hb=>?_,hS.nk,fun k b N hk=>Qg (hS.bd k b N hk) hnx,fun k x hk=>?_,hS.inj,hS.blo,hS.anch,hS.ancn⟩,hZ⟩
 ·rcases (hz b).1 hb with h|h
  ·exact hS.zlo b h
  ·exact .inr (aZ hS.lo h.1)
 ·obtain⟨h1,h2⟩:=hS.glob b bk hb;exact⟨hz1 b h1,by rw [hg b (hS.z b h1)];exact h2⟩
 ·obtain⟨s,hs,hbx⟩:=hS.box k x hk;refine⟨s,hs,?_⟩;cases s with
  |nil=>exact hbx
  |blk b N=>
   obtain⟨h1,h2,h3,cs,rest,h4,h5,h6⟩:=hbx;exact⟨fun h=>h1 (hz2 b h h3),h2,by omega,cs,rest,h4.same (hg b h3),h5,Bk.rel_mono hZ (xL.refl _) h6⟩
theorem AR.grow{Z Z':Nat->Prop}{β:qt}{H H':Hp}(hA:AR p base rs A Z β H)(hz:∀b,Z' b↔Z b\/(H.nx<=b/\Z' b))(hnx:H.nx<=H'.nx)(hg:∀b,b<H.nx->H'.get b=H.get b):AR p base rs A Z' β H':=⟨hA.1,fun j hj hjA=>by
 obtain⟨h1,h2,h3,h4⟩:=hA.2 j hj hjA;exact⟨by omega,by rw [hg _ h1];exact h2,fun h=>((hz _).1 h).elim h3 fun h=>by omega,h4⟩⟩
theorem qf{f:FuncId}{args:List Opd}{ds:List DV}{R:DV->Prop}(hvs:Zx E args=some ds)(hf:xa ZB ds=true)(hc:yR p.P p.G p.GH f ds R)(h:∀d,R d->DPW p base rs Q r W A (qI E dst d) S nk):DPW p base rs Q (⟨id,dst,.cf f args,none,aid,ws,keep⟩::r) W A E S nk:=.mk fun Z β H F c QP hS hE hC hA=>by
 simp only [qC,qH,if_true];refine (hc H Z _ hS.wf hS.z (fun b bk hb=>hS.glob b bk (.inl hb)) (lV hf (Z5 hE hvs))).monoP ?_;rintro v H' ⟨hw,hnx,hg,d,hr,hR⟩;have hz:∀b,(Z b\/(H.nx<=b/\b<H'.nx))↔Z b\/(H.nx<=b/\(Z b\/(H.nx<=b/\b<H'.nx))):=fun b=>⟨fun h=>h.elim .inl fun h=>.inr ⟨h.1,.inr h⟩,fun h=>h.elim .inl fun h=>h.2⟩;obtain⟨hS',hZ⟩:=hS.grow (Z':=fun b=>Z b\/(H.nx<=b/\b<H'.nx)) hz (fun b hb=>hb.elim (fun h=>Qg (hS.z b h) hnx) fun h=>h.2) hw hnx hg;have hC':=hC.same hZ (xL.refl β) hg hS.wf;exact⟨hC'.watch ws,(h d hR).run _ β H' _ c QP hS' ((hE.mono hZ (xL.refl _)).set dst (hr.mono (xb.refl _ _) (Mt β))) hC' (hA.grow hz hnx hg)⟩
theorem OE{Z:Nat->Prop}{β:qt}{H:Hp}(hS:SR p Z β H S nk){κ:zP}{o n esz:Nat}{c:C}(hr:(β κ=some .nil/\n=0/\o=0/\c=.nils)\/∃b N cap ex,β κ=some (.blk b N)/\c=.slc b o n cap esz ex/\n<=cap/\o+cap*esz<=N){l q:List FD}(hk:qR S κ=some (.data l))(hq:xd l o (n*esz)=some q):∃cs,qe (RF Z H) q cs/\((c=.nils/\n=0/\cs=[])\/∃b cap ex N,β κ=some (.blk b N)/\c=.slc b o n cap esz ex/\n<=cap/\H.loads b o (n*esz)=some cs):=by
 obtain⟨hle,rfl⟩:=zT hq;rcases hr with⟨_,rfl,rfl,rfl⟩|⟨b,N,cap,ex,hb,rfl,hcap,_⟩
 ·exact⟨[],by simp;trivial,.inl ⟨rfl,rfl,rfl⟩⟩
 ·obtain⟨s,hs,hbx⟩:=hS.box κ _ hk;rw [hb] at hs;obtain rfl:=zsi hs;obtain⟨_,_,_,cs,rest,hrow,hN,hrel⟩:=hbx;have hN:(cs++rest).length=_:=hN;have hlen:=Bk.rel_len hrel;simp only [Bk.len] at hlen;refine⟨(cs.drop o).take (n*esz),(qe.drop hrel o).take _,.inr ⟨b,cap,ex,N,hb,O,hcap,?_⟩⟩;have h1:H.loads b (0+o) (n*esz)=some (((cs++rest).drop o).take (n*esz)):=Xy hrow.2 (by simp;omega);rw [ym] at h1;rw [h1,DQ (by omega),Kt (by simp;omega)]
theorem aD{Z Z':Nat->Prop}{β:qt}{H:Hp}(hS:SR p Z β H S nk)(hZ:xb Z H Z' H){κ:zP}{o n esz:Nat}{c:C}(hr:(β κ=some .nil/\n=0/\o=0/\c=.nils)\/∃b N cap ex,β κ=some (.blk b N)/\c=.slc b o n cap esz ex/\n<=cap/\o+cap*esz<=N){l q:List FD}(hk:qR S κ=some (.data l))(hq:xd l o (n*esz)=some q)(hz:∀b N,β κ=some (.blk b N)->Z' b):RF Z' H (.sl esz n q) c:=by
 have hql:q.length=n*esz:=by obtain⟨h1,rfl⟩:=zT hq;simp;omega
 obtain⟨cs,h1,h2⟩:=OE hS hr hk hq;rcases h2 with⟨rfl,rfl,rfl⟩|⟨b,cap,ex,N,hb,rfl,hcap,h2⟩
 ·have:q=[]:=vw (by simpa using hql);subst this;exact .nil esz
 ·refine .sl (fun _=>hz b N hb) hql hcap h2 fun i d c hd hc=>?_;obtain⟨c',hc',hr'⟩:=h1.at i d hd;rw [hc] at hc';obtain rfl:=zsi hc';exact RF.mono hZ hr'
theorem Qo{k i:Nat}{rows:List (List FD)}{r:List FD}(hk:lk S k=some (.tree rows))(hi:rows[i]?=some r):qR S (k,i+1)=some (.data r):=by simp only [qR,hk,hi];rfl
theorem sZ{Z Z':Nat->Prop}{β:qt}{H:Hp}(hS:SR p Z β H S nk)(hZ:xb Z H Z' H){k:Nat}{rows:List (List FD)}{c:C}(hk:lk S k=some (.tree rows))(hr:RD Z H β (.own k 0 rows.length 1) c)(hz:∀i b N x,qR S (k,i)=some x->β (k,i)=some (.blk b N)->Z' b):RF Z' H (.sl 1 rows.length (rows.map xn)) c:=by
 have hk0:qR S (k,0)=some (.cells (za k 0 rows)):=by simp only [qR,hk]
 rcases hr with⟨_,h0,_,rfl⟩|⟨b,N,cap,ex,hb,rfl,hcap,_⟩
 ·have:rows=[]:=vw h0;subst this;exact .nil 1
 ·obtain⟨s,hs,hbx⟩:=hS.box (k,0) _ hk0;rw [hb] at hs;obtain rfl:=zsi hs;obtain⟨_,_,_,cs,rest,hrow,hN,hrel⟩:=hbx;have hN:(cs++rest).length=_:=hN;have hlen:(za k 0 rows).length=cs.length:=qe.len hrel;rw [kQ] at hlen;refine .sl (cs:=cs) (fun _=>hz 0 b N _ hk0 hb) (by simp) hcap ?_ fun i d c hd hc=>?_
  ·rw [X2,hlen];have:=y6 hrow.2 (m:=cs.length) (by simp);rw [this,List.take_left]
  ·rw [jH] at hd;cases hri:rows[i]? with
   |none=>rw [hri] at hd;cases hd
   |some r=>
    rw [hri] at hd;obtain rfl:=zsi hd;obtain⟨c',hc',hrr⟩:=qe.at hrel i (.trow k i 0 r.length) (by rw [Xq,hri];simp);rw [hc] at hc';obtain rfl:=zsi hc';exact aD (esz:=1) hS hZ hrr (Qo hk hri) (by rw [yj (by simp)];simp) fun b N=>hz (i+1) b N _ (Qo hk hri)
theorem sY{Z:Nat->Prop}{β:qt}{H:Hp}(hS:SR p Z β H S nk){d e:DC}{c:C}(hv:V2 S d e)(hr:RD Z H β d c):RD (fun b=>Z b\/∃(k:zP) (x:Bk) (N:Nat),lk S k.1=some x/\β k=some (.blk b N)) H kx e c:=by
 have hZ:xb Z H (fun b=>Z b\/∃(k:zP) (x:Bk) (N:Nat),lk S k.1=some x/\β k=some (.blk b N)) H:=fun b hb=>⟨.inl hb,fun _ _ h=>h⟩;have key:∀d,gA d=true->e=d->RD Z H β d c->RD (fun b=>Z b\/∃(k:zP) (x:Bk) (N:Nat),lk S k.1=some x/\β k=some (.blk b N)) H kx e c:=fun d hf he hr=>by
  subst he;exact f9 hf (hr.mono hZ (xL.refl β))
 cases d with
 |own k o n esz=>
  simp only [V2] at hv;split at hv
  rotate_left
  ·obtain⟨l,q,hk,hq,rfl⟩:=hv;exact aD hS hZ hr (zN hk O) hq fun b N hb=>.inr ⟨(k,0),_,N,hk,hb⟩
  ·rename_i rows hk;obtain⟨rfl,rfl,rfl,rfl⟩:=hv;exact sZ hS hZ hk hr fun i b N _ _ hb=>.inr ⟨(k,i),_,N,hk,hb⟩
 |trow k i o n=>
  obtain⟨rows,r,q,hk,hri,hq,rfl⟩:=hv;exact aD (esz:=1) hS hZ hr (Qo hk hri) (by rw [X2];exact hq) fun b N hb=>.inr ⟨(k,i+1),_,N,hk,hb⟩
 |f d=>exact key _ hv.1 hv.2 hr
 |g b o=>exact key _ hv.1 hv.2 hr
 |fptr l=>exact key _ hv.1 hv.2 hr
 |fz f ls=>exact key _ hv.1 hv.2 hr
 |_=>cases hv.1
theorem nY{Z:Nat->Prop}{β:qt}{H:Hp}(hS:SR p Z β H S nk):∀{l m:List DC} {cs:List C},qe (V2 S) l m->qe (RD Z H β) l cs->qe (RD (fun b=>Z b\/∃(k:zP) (x:Bk) (N:Nat),lk S k.1=some x/\β k=some (.blk b N)) H kx) m cs
 |[],[],[],_,_=>trivial
 |_::_,_::_,_::_,h,hr=>⟨sY hS h.1 hr.1,nY hS h.2 hr.2⟩
 |[],_::_,_,h,_=>h.elim
 |_::_,[],_,h,_=>h.elim
 |[],[],_::_,_,hr=>hr.elim
 |_::_,_::_,[],_,hr=>hr.elim
theorem SD{Z:Nat->Prop}{β:qt}{H:Hp}(hS:SR p Z β H S nk){d e:DV}{v:V}(hv:rR S d e)(hr:xi Z H β d v):xi (fun b=>Z b\/∃(k:zP) (x:Bk) (N:Nat),lk S k.1=some x/\β k=some (.blk b N)) H kx e v:=by
 cases d with
 |one d=>obtain⟨x,rfl,hv⟩:=hv;obtain⟨c,rfl,hr⟩:=hr;exact⟨c,O,sY hS hv hr⟩
 |agg l=>obtain⟨x,rfl,hv⟩:=hv;obtain⟨c,rfl,hr⟩:=hr;exact⟨c,O,nY hS hv hr⟩
 |tup l=>exact hv.elim
theorem nX{Z:Nat->Prop}{β:qt}{H:Hp}(hS:SR p Z β H S nk):∀{l m:List DV} {cs:List V},qe (rR S) l m->qe (xi Z H β) l cs->qe (xi (fun b=>Z b\/∃(k:zP) (x:Bk) (N:Nat),lk S k.1=some x/\β k=some (.blk b N)) H kx) m cs
 |[],[],[],_,_=>trivial
 |_::_,_::_,_::_,h,hr=>⟨SD hS h.1 hr.1,nX hS h.2 hr.2⟩
 |[],_::_,_,h,_=>h.elim
 |_::_,[],_,h,_=>h.elim
 |[],[],_::_,_,hr=>hr.elim
 |_::_,_::_,[],_,hr=>hr.elim
theorem Ys{f:FuncId}{args:List Opd}{vs ds:List DV}{R:DV->Prop}(hvs:Zx E args=some vs)(hf:qe (rR S) vs ds)(hc:yR p.P p.G p.GH f ds R)(hcl:∀d,R d->Tp d=true)(h:∀d,R d->DPW p base rs Q r W A (qI E dst d) S nk):DPW p base rs Q (⟨id,dst,.cf f args,none,aid,ws,keep⟩::r) W A E S nk:=.mk fun Z β H F c QP hS hE hC hA=>by
 simp only [qC,qH,if_true];refine (hc H _ _ hS.wf (fun b hb=>hb.elim (hS.z b) fun⟨k,x,N,_,h2⟩=>hS.bd k b N h2) (fun b bk hb=>⟨.inl (hS.glob b bk (.inl hb)).1,(hS.glob b bk (.inl hb)).2⟩) (nX hS hf (Z5 hE hvs))).monoP ?_;rintro v H' ⟨hw,hnx,hg,d,hr,hR⟩;have hz:∀b,Z b↔Z b\/(H.nx<=b/\Z b):=fun b=>⟨.inl,fun h=>h.elim (fun h=>h) fun h=>h.2⟩;obtain⟨hS',hZ⟩:=hS.grow hz (fun b h=>Qg (hS.z b h) hnx) hw hnx hg;have hC':=hC.same hZ (xL.refl β) hg hS.wf;exact⟨hC'.watch ws,(h d hR).run _ β H' _ c QP hS' ((hE.mono hZ (xL.refl _)).set dst (Pg (hcl d hR) hr)) hC' (hA.grow hz hnx hg)⟩
end
def Yn(k:Nat)(l:List FD):DC->DC
 |.own j o n e=>match Nat.beq j k with
  |true=>.f (.sl e n l)
  |false=>.own j o n e
 |.trow j i o n=>match Nat.beq j k with
  |true=>.any
  |false=>.trow j i o n
 |d=>d
def fQ(k:Nat)(ok:Nat->Nat->Nat->Prop):DC->Prop
 |.own j o n e=>match Nat.beq j k with
  |true=>ok o n e
  |false=>True
 |_=>True
def Xf(k:Nat)(ok:Nat->Nat->Nat->Prop):List DC->Prop
 |[]=>True
 |d::r=>fQ k ok d/\Xf k ok r
def oJ(l:List FD)(o n e:Nat):Prop:=o=0/\l.length=n*e
def EK(rows:List (List FD))(o n e:Nat):Prop:=o=0/\n=rows.length/\e=1
def Vq(k:Nat)(l:List FD):DV->DV
 |.one d=>.one (Yn k l d)
 |.agg m=>.agg (m.map (Yn k l))
 |.tup m=>.tup m
def tX(k:Nat)(ok:Nat->Nat->Nat->Prop):DV->Prop
 |.one d=>fQ k ok d
 |.agg m=>Xf k ok m
 |.tup _=>True
def vI(k:Nat)(l:List FD):Bk->Bk
 |.cells m=>.cells (m.map (Yn k l))
 |.data m=>.data m
 |.tree rows=>.tree rows
 |.mp ks m=>.mp ks (m.map (Yn k l))
 |.mt es=>.mt (vP (Yn k l) es)
def Dh(k:Nat)(ok:Nat->Nat->Nat->Prop):List (Int × ME)->Prop
 |[]=>True
 |(_,.row _)::es=>Dh k ok es
 |(_,.out c)::es=>fQ k ok c/\Dh k ok es
def fS(k:Nat)(ok:Nat->Nat->Nat->Prop):Bk->Prop
 |.cells m=>Xf k ok m
 |.data _=>True
 |.tree _=>True
 |.mp _ m=>Xf k ok m
 |.mt es=>Dh k ok es
def zx{α:Type}(f:α->α):List (Nat × α)->List (Nat × α)
 |[]=>[]
 |(k,x)::r=>(k,f x)::zx f r
def y9{α:Type}(f:α->Prop):List (Nat × α)->Prop
 |[]=>True
 |(_,x)::r=>f x/\y9 f r
theorem kA{α:Type}(f:α->α)(n:Nat):∀E:List (Nat × α),lk (zx f E) n=(lk E n).map f
 |[]=>rfl
 |(k,x)::r=>by
  simp only [zx,qw];split
  ·rfl
  ·exact kA f n r
theorem tY{α:Type}{f:α->Prop}{n:Nat}{x:α}:∀{E:List (Nat × α)},y9 f E->lk E n=some x->f x
 |[],_,h=>by cases h
 |(k,y)::r,ho,h=>by
  rw [qw] at h;split at h
  ·obtain rfl:=zsi h;exact ho.1
  ·exact tY ho.2 h
section
variable{p:Par}{base rs:Nat}{Q:qk->Bx->Nat->Prop}{W:Wt}{A:List Nat}{E:qk}{S:Bx}{nk:Nat}
theorem EY{k:Nat}{l:List FD}{j:Nat}(hj:j≠k):∀(i:Nat) (rows:List (List FD)),(za j i rows).map (Yn k l)=za j i rows
 |_,[]=>rfl
 |i,r::rs=>by simp only [za,jr,EY hj (i+1) rs,Yn,wS hj]
theorem Nb{k:Nat}{l:List FD}{S:Bx}{κ:zP}{y:Bk}(hy:qR (zx (vI k l) (xP k S)) κ=some y):κ.1≠k/\∃x,qR S κ=some x/\y=vI k l x:=by
 obtain⟨z,hz⟩:=ju hy;rw [kA,yB] at hz;split at hz
 ·cases hz
 ·rename_i hne;refine⟨hne,?_⟩;cases hl:lk S κ.1 with
  |none=>rw [hl] at hz;cases hz
  |some x=>
   have hlk:lk (zx (vI k l) (xP k S)) κ.1=some (vI k l x):=by rw [kA,yB,if_neg hne,hl];rfl
   obtain⟨j,i⟩:=κ;simp only at hl hlk hne;cases i with
   |zero=>
    simp only [qR,hl];simp only [qR,hlk] at hy;cases x with
    |cells m=>exact⟨_,O,(zsi hy).symm⟩
    |data m=>exact⟨_,O,(zsi hy).symm⟩
    |tree rows=>refine⟨_,O,?_⟩;rw [<-zsi hy];simp only [vI,EY hne]
    |mp ks m=>exact⟨_,O,(zsi hy).symm⟩
    |mt es=>refine⟨_,O,?_⟩;rw [<-zsi hy];simp only [vI];rw [JY (Yn k l) j j (fun _=>rfl) (fun i n=>by simp only [Yn,wS hne])]
   |succ i=>
    simp only [qR,hl];simp only [qR,hlk] at hy;cases x with
    |cells m=>cases hy
    |data m=>cases hy
    |tree rows=>
     cases hr:rows[i]? with
     |none=>simp only [vI,hr] at hy;cases hy
     |some r=>simp only [vI,hr] at hy;exact⟨.data r,by simp only [hr];rfl,(zsi hy).symm⟩
    |mp ks m=>cases hy
    |mt es=>
     simp only [vI,Vc] at hy;obtain⟨y',r,h1,rfl⟩:=Ya hy;exact⟨.data r,by simp only [h1,XR],rfl⟩
theorem tZ{k:Nat}{ok:Nat->Nat->Nat->Prop}(j:Nat):∀(i:Nat) (rows:List (List FD)),Xf k ok (za j i rows)
 |_,[]=>trivial
 |i,_::rs=>⟨trivial,tZ j (i+1) rs⟩
theorem t7{k:Nat}{ok:Nat->Nat->Nat->Prop}(j:Nat):∀(i:Nat) (es:List (Int × ME)),Dh k ok es->Xf k ok (Vb j i es)
 |_,[],_=>trivial
 |i,(_,.row _)::es,h=>⟨trivial,trivial,t7 j (i+1) es h⟩
 |i,(_,.out _)::es,h=>⟨trivial,h.1,t7 j (i+1) es h.2⟩
theorem Fu{k:Nat}{ok:Nat->Nat->Nat->Prop}{S:Bx}{κ:zP}{z:Bk}(hlk:∀{n:Nat} {x:Bk},lk S n=some x->fS k ok x)(hz:qR S κ=some z):fS k ok z:=by
 obtain⟨j,i⟩:=κ;obtain⟨x,hx⟩:=ju hz;have ho:=hlk hx;cases i with
 |zero=>
  simp only [qR] at hz hx;rw [hx] at hz;cases x with
  |cells m=>obtain rfl:=zsi hz;exact ho
  |data m=>obtain rfl:=zsi hz;exact ho
  |tree rows=>obtain rfl:=zsi hz;exact tZ j 0 rows
  |mp ks m=>obtain rfl:=zsi hz;exact ho
  |mt es=>obtain rfl:=zsi hz;exact t7 j 0 es ho
 |succ i=>
  simp only [qR] at hz hx;rw [hx] at hz;cases x with
  |cells m=>cases hz
  |data m=>cases hz
  |tree rows=>
   cases hr:rows[i]? with
   |none=>simp only [hr] at hz;cases hz
   |some r=>simp only [hr] at hz;obtain rfl:=zsi hz;trivial
  |mp ks m=>cases hz
  |mt es=>obtain⟨_,r,_,rfl⟩:=Ya hz;trivial
theorem oY(k:Nat)(l:List FD)(x:Bk):(vI k l x).shape=x.shape:=by cases x<;>rfl
theorem SR.lo2{Z:Nat->Prop}{β:qt}{H:Hp}(hS:SR p Z β H S nk){κ:zP}{x:Bk}{b N:Nat}(hk:qR S κ=some x)(hb:β κ=some (.blk b N)):p.lo<=b:=by
 obtain⟨s,hs,hbx⟩:=hS.box κ x hk;rw [hb] at hs;obtain rfl:=zsi hs;exact hbx.2.1
theorem u4 {Z:Nat->Prop} {β:qt} {H:Hp} {F:T V} (hS:SR p Z β H S nk) (hE:ER Z β H E F) {k:Nat} {x:Bk} {l:List FD} {ok:Nat->Nat->Nat->Prop} (hk:lk S k=some x)
 (hall:∀{Z'},xb Z H Z' H->(∀i b N x,qR S (k,i)=some x->β (k,i)=some (.blk b N)->Z' b)->∀o n e c,ok o n e->RD Z H β (.own k o n e) c->RF Z' H (.sl e n l) c) (hoE:y9 (tX k ok) E) (hoS:y9 (fS k ok) S):
 ∃Z',SR p Z' β H (zx (vI k l) (xP k S)) nk/\ER Z' β H (zx (Vq k l) E) F/\xb Z H Z' H/\∀b,Z' b↔Z b\/∃i N x,qR S (k,i)=some x/\β (k,i)=some (.blk b N):=by
 have hZ:xb Z H (fun b=>Z b\/∃i N x,qR S (k,i)=some x/\β (k,i)=some (.blk b N)) H:=fun b hb=>⟨.inl hb,fun _ _ h=>h⟩;have hC:∀d c,fQ k ok d->RD Z H β d c->RD (fun b=>Z b\/∃i N x,qR S (k,i)=some x/\β (k,i)=some (.blk b N)) H β (Yn k l d) c:=fun d c ho hr=>by
  cases d with
  |own j o n e=>
   simp only [Yn,fQ] at ho ⊢;by_cases hj:j=k
   ·subst hj;rw [vf] at ho ⊢;exact hall hZ (fun i b N x hx hb=>.inr ⟨i,N,x,hx,hb⟩) o n e c ho hr
   ·rw [wS hj];simp only;exact hr.mono hZ (xL.refl β)
  |trow j i o n=>
   simp only [Yn];by_cases hj:j=k
   ·subst hj;rw [vf];trivial
   ·rw [wS hj];exact hr
  |f d=>exact RD.mono (d:=.f d) hZ (xL.refl β) hr
  |g b o=>exact hr
  |ptr j o=>exact hr
  |tptr j i o=>exact hr
  |fptr q=>exact RD.mono (d:=.fptr q) hZ (xL.refl β) hr
  |fn f caps=>exact hr
  |any=>trivial
  |om j=>exact hr
  |yl j=>exact hr
  |fz f ls=>exact RD.mono (d:=.fz f ls) hZ (xL.refl β) hr
 have hL:∀{m:List DC} {cs:List C},Xf k ok m->qe (RD Z H β) m cs->qe (RD (fun b=>Z b\/∃i N x,qR S (k,i)=some x/\β (k,i)=some (.blk b N)) H β) (m.map (Yn k l)) cs:=by
  intro m;induction m with
  |nil=>intro cs _ h;cases cs with
   |nil=>trivial
   |cons _ _=>exact h.elim
  |cons d m ih=>intro cs ho h;cases cs with
   |nil=>exact h.elim
   |cons c cs=>exact⟨hC d c ho.1 h.1,ih ho.2 h.2⟩
 refine⟨fun b=>Z b\/∃i N x,qR S (k,i)=some x/\β (k,i)=some (.blk b N),⟨hS.wf,hS.lo,fun b hb=>hb.elim (hS.z b) fun⟨i,N,_,_,h⟩=>hS.bd _ b N h,fun b hb=>?_,fun b hb=>.inl (hS.zz b hb),fun b bk hb=>⟨.inl (hS.glob b bk hb).1,(hS.glob b bk hb).2⟩,hS.nk,hS.bd,fun j y hj=>?_,fun j j' y y' b N N' hj hj' h1 h2=>?_,hS.blo,hS.anch,hS.ancn⟩,fun n d hd=>?_,hZ,fun b=>Iff.rfl⟩
 ·rcases hb with hb|⟨i,N,x,hx,hb⟩
  ·exact hS.zlo b hb
  ·exact .inr (hS.lo2 hx hb)
 ·obtain⟨hne,z,hz,rfl⟩:=Nb hj;obtain⟨s,hs,hbx⟩:=hS.box j z hz;obtain⟨w,hw⟩:=ju hz;refine⟨s,hs,?_⟩;cases s with
  |nil=>cases z<;>simpa [vD,vI,Bk.len,vP] using hbx
  |blk b N=>
   obtain⟨h1,h2,h3,cs,rest,h4,h5,h6⟩:=hbx;have hoz:=Fu (fun hx=>tY hoS hx) hz;refine⟨fun h=>h.elim h1 fun⟨i,M,_,_,hM⟩=>hne (by rw [hS.inj j (k,i) w _ b N M hw hk hs hM]),h2,h3,cs,rest,by rw [oY];exact h4,by rw [oY];exact h5,?_⟩;cases z with
   |cells m=>exact hL hoz h6
   |data m=>exact qe.mono (fun _ _=>RF.mono hZ) h6
   |tree m=>exact h6.elim
   |mp ks m=>exact hL hoz h6
   |mt es=>exact h6.elim
 ·have f:∀(κ:zP) w,lk (zx (vI k l) (xP k S)) κ.1=some w->∃z,lk S κ.1=some z:=fun κ w hw=>by
   rw [kA,yB] at hw;split at hw
   ·cases hw
   ·cases e:lk S κ.1 with
    |none=>rw [e] at hw;cases hw
    |some z=>exact⟨z,O⟩
  obtain⟨z1,e1⟩:=f j y hj;obtain⟨z2,e2⟩:=f j' y' hj';exact hS.inj j j' z1 z2 b N N' e1 e2 h1 h2
 ·rw [kA] at hd;cases hl:lk E n with
  |none=>rw [hl] at hd;cases hd
  |some y=>
   rw [hl] at hd;obtain rfl:=zsi hd;obtain⟨v,hv,hr⟩:=hE n y hl;refine⟨v,hv,?_⟩;have hoy:=tY hoE hl;cases y with
   |one d=>obtain⟨c,rfl,hr⟩:=hr;exact⟨c,O,hC d c hoy hr⟩
   |agg m=>obtain⟨c,rfl,hr⟩:=hr;exact⟨c,O,hL hoy hr⟩
   |tup m=>exact xi.mono (d:=.tup m) hZ (xL.refl β) hr
theorem OP{Z:Nat->Prop}{β:qt}{H:Hp}{F:T V}(hS:SR p Z β H S nk)(hE:ER Z β H E F){k:Nat}{l:List FD}(hk:lk S k=some (.data l))(hoE:y9 (tX k (oJ l)) E)(hoS:y9 (fS k (oJ l)) S):
 ∃Z',SR p Z' β H (zx (vI k l) (xP k S)) nk/\ER Z' β H (zx (Vq k l) E) F/\xb Z H Z' H/\∀b,Z' b↔Z b\/∃i N x,qR S (k,i)=some x/\β (k,i)=some (.blk b N):=
 u4 hS hE hk (fun {Z'} hZ hz o n e c ho hr=>aD hS hZ hr (zN hk rfl) (by obtain⟨rfl,h⟩:=ho;rw [yj (by omega),Kz,Q9 (by omega)]) fun b N=>hz 0 b N _ (zN hk rfl)) hoE hoS
theorem E3{Z:Nat->Prop}{β:qt}{H:Hp}{F:T V}(hS:SR p Z β H S nk)(hE:ER Z β H E F){k:Nat}{rows:List (List FD)}(hk:lk S k=some (.tree rows))(hoE:y9 (tX k (EK rows)) E)(hoS:y9 (fS k (EK rows)) S):
 ∃Z',SR p Z' β H (zx (vI k (rows.map xn)) (xP k S)) nk/\ER Z' β H (zx (Vq k (rows.map xn)) E) F/\xb Z H Z' H/\∀b,Z' b↔Z b\/∃i N x,qR S (k,i)=some x/\β (k,i)=some (.blk b N):=
 u4 hS hE hk (fun {Z'} hZ hz o n e c ho hr=>by obtain⟨rfl,rfl,rfl⟩:=ho;exact sZ hS hZ hk hr hz) hoE hoS
theorem qY{l:List SOper}(k:Nat){m:List FD}(hk:lk S k=some (.data m))(hoE:y9 (tX k (oJ m)) E)(hoS:y9 (fS k (oJ m)) S)(h:DPW p base rs Q l W A (zx (Vq k m) E) (zx (vI k m) (xP k S)) nk):DPW p base rs Q l W A E S nk:=.mk fun Z β H F c QP hS hE hC hA=>by
 obtain⟨Z',hS',hE',hZ,hz⟩:=OP hS hE hk hoE hoS;refine h.run Z' β H F c QP hS' hE' (hC.step hZ (xL.refl β) fun _ _ _ _ _ _ _ _ _ _ _ _ _ h=>h) ⟨hA.1,fun j hj hjA=>?_⟩;obtain⟨h1,h2,h3,h4⟩:=hA.2 j hj hjA;exact⟨h1,h2,fun h=>((hz _).1 h).elim h3 fun⟨i,N,_,_,hN⟩=>h4 _ N hN,h4⟩
theorem FJ{l:List SOper}(k:Nat){rows:List (List FD)}(hk:lk S k=some (.tree rows))(hoE:y9 (tX k (EK rows)) E)(hoS:y9 (fS k (EK rows)) S)(h:DPW p base rs Q l W A (zx (Vq k (rows.map xn)) E) (zx (vI k (rows.map xn)) (xP k S)) nk):DPW p base rs Q l W A E S nk:=.mk fun Z β H F c QP hS hE hC hA=>by
 obtain⟨Z',hS',hE',hZ,hz⟩:=E3 hS hE hk hoE hoS;refine h.run Z' β H F c QP hS' hE' (hC.step hZ (xL.refl β) fun _ _ _ _ _ _ _ _ _ _ _ _ _ h=>h) ⟨hA.1,fun j hj hjA=>?_⟩;obtain⟨h1,h2,h3,h4⟩:=hA.2 j hj hjA;exact⟨h1,h2,fun h=>((hz _).1 h).elim h3 fun⟨i,N,_,_,hN⟩=>h4 _ N hN,h4⟩
end
end Go.Ab
