/- -/
import Derived.Test.YtbfbplnghpdmhaaGreatDoorAb11
set_option linter.unusedSimpArgs false
set_option linter.unusedVariables false
namespace Go.Ab
def setLs{α:Type}(l:List α)(i:Nat):List α->List α
 |[]=>l
 |c::cs=>setLs (l.set i c) (i+1) cs
theorem Qe:∀(cs l rest:List C) (i:Nat),i+cs.length<=l.length->yH (l++rest) i cs=yH l i cs++rest
 |[],_,_,_,_=>rfl
 |c::cs,l,rest,i,h=>by
  simp only [List.length_cons] at h;simp only [yH];rw [List.set_append_left _ _ (by omega)];exact Qe cs _ rest (i+1) (by simp;omega)
theorem qg.set{α β:Type}{R:α->β->Prop}:∀{l:List α} {m:List β},qg R l m->∀(i:Nat) {a:α} {b:β},R a b->qg R (l.set i a) (m.set i b)
 |[],[],_,_,_,_,_=>trivial
 |_::_,_::_,h,0,_,_,hr=>⟨hr,h.2⟩
 |_::_,_::_,h,i+1,_,_,hr=>⟨h.1,qg.set h.2 i hr⟩
 |[],_::_,h,_,_,_,_=>h.elim
 |_::_,[],h,_,_,_,_=>h.elim
theorem qg.setLs{α:Type}{R:α->C->Prop}:∀{ds:List α} {cs:List C},qg R ds cs->∀{l:List α} {m:List C} (i:Nat),qg R l m->qg R (setLs l i ds) (yH m i cs)
 |[],[],_,_,_,_,h=>h
 |_::_,_::_,hd,_,_,i,h=>qg.setLs hd.2 (i+1) (qg.set h i hd.1)
 |[],_::_,h,_,_,_,_=>h.elim
 |_::_,[],h,_,_,_,_=>h.elim
theorem vd:∀(pre old cs rest:List C),cs.length=old.length->yH (pre++(old++rest)) pre.length cs=pre++(cs++rest)
 |_,[],[],_,_=>by simp [yH]
 |pre,o::old,c::cs,rest,h=>by
  simp only [yH];have e:(pre++(o::old++rest)).set pre.length c=(pre++[c])++(old++rest):=by simp
  rw [e];have:=vd (pre++[c]) old cs rest (by simpa using h);simp only [List.length_append,List.length_cons,List.length_nil] at this;rw [this];simp
 |_,[],_::_,_,h=>by simp at h
 |_,_::_,[],_,h=>by simp at h
def Q2(x:Bk)(o:Nat)(l:List DC):Bk:=match x with
 |.cells m=>.cells (setLs m o l)
 |.data m=>match dP l with
  |some q=>.data (setLs m o q)
  |none=>.cells (setLs (m.map .f) o l)
 |x=>x
section
variable{p:Par}{base rs:Nat}{Q:qq->Bx->Nat->Prop}{r:List SOper}{W:Wt}{A:List Nat}{E:qq}{S:Bx}{nk:Nat}{id:Nat}{dst:Option Nat}{aid:Option Nat}{ws:List Nat}{keep:Bool}
theorem LW{k:Nat}(h:YJ S k W=true):jD S k W=true:=by
 unfold YJ at h;split at h
 ·exact h
 ·cases h
theorem UL{Z:Nat->Prop}{β:qw}{H:Hp}{x:Bk}{o:Nat}{l:List DC}{cs ks:List C}(hsh:x.shape=none)(hx:x.rel Z H β cs)(hl:qg (RD Z H β) l ks):(Q2 x o l).rel Z H β (yH cs o ks):=by
 cases x with
 |cells m=>exact qg.setLs hl o hx
 |data m=>
  simp only [Q2];split
  ·rename_i q hq;exact qg.setLs (dO hq hl) o hx
  ·exact qg.setLs hl o (vE hx)
 |tree rows=>exact hx.elim
 |mp ks l=>cases hsh
 |mt es=>exact hx.elim
theorem BO{x:Bk}{o:Nat}{l:List DC}(hsh:x.shape=none):(Q2 x o l).shape=none:=by
 cases x with
 |cells m=>rfl
 |data m=>simp only [Q2];split<;>rfl
 |tree rows=>rfl
 |mp ks l=>cases hsh
 |mt es=>rfl
theorem AR.upd{Z:Nat->Prop}{β:qw}{H H':Hp}{b:Nat}(hA:AR p base rs A Z β H)(hnx:H'.nx=H.nx)(hg:∀b',b'≠b->H'.get b'=H.get b'){k:zC}{N:Nat}(hb:β k=some (.blk b N)):AR p base rs A Z β H':=by
 refine⟨hA.1,fun j hj hjA=>?_⟩;obtain⟨h1,h2,h3,h4⟩:=hA.2 j hj hjA;exact⟨by omega,by rw [hg _ (fun e=>h4 k N (by rw [e];exact hb))];exact h2,h3,h4⟩
theorem CR.upd{Z:Nat->Prop}{β:qw}{H H':Hp}{b:Nat}{k:zC}{N:Nat}{c:zR}{x:Bk}(hS:SR p Z β H S nk)(hk:lk S k.1=some x)(hC:CR W Z β H c)(hZ:xo Z H Z H')(hg:∀b',b'≠b->H'.get b'=H.get b')(hb:β k=some (.blk b N))(hw:jD S k.1 W=true):CR W Z β H' c:=hC.step hZ (xO.refl _) fun y hy j o n e b' N' i q hj _ _ hq=>by
 obtain⟨⟨z,hz⟩,hne⟩:=Q6 hw y hy j o n e;have:b'≠b:=fun e'=>hne (by rw [hS.inj j k z x b N' N hz hk (e'▸hj) hb]);unfold Hp.cell at hq ⊢;rw [hg b' this];exact hq
theorem vB {n:Nat} {a v:Opd} {k o:Nat} {x:Bk} {d:DV} {l:List DC} (ha:ro E a=some (.one (.ptr k o))) (hv:ro E v=some d) (hl:Kh d=some l) (hn:l.length=n) (hk:lk S k=some x) (hle:o+n<=x.len) (hw:YJ S k W=true)
 (h:DPW p base rs Q r W A (xk E dst .undef) (put k (Q2 x o l) S) nk):DPW p base rs Q (⟨id,dst,.e (.store n a v),none,aid,ws,keep⟩::r) W A E S nk:=.mk fun Z β H F c hS hE hC hA=>by
 obtain⟨ca,hca,b,N,hb,rfl⟩:=xf hE ha;obtain⟨ks,hk1,hk2⟩:=Kg (xf hE hv) hl;have hfl:=gT hw hk;have hsh:=pC hw hk;obtain⟨s,hs,hbx⟩:=hS.box (k,0) x (xX hk hfl);rw [hb] at hs;obtain rfl:=zsi hs;obtain⟨hz,hlo,hlt,cs,rest,hrow,hN,hrel⟩:=hbx;rw [hsh] at hrow hN;have hN:(cs++rest).length=N:=hN;have hrow:x6 H b (cs++rest):=hrow;have hlen:=Bk.rel_len hrel;have hkl:=hk2.len;obtain⟨H',e1,e2,e3,e4⟩:=hrow.stores (cs:=ks) (i:=o) (by simp;omega);rw [Qe ks cs rest o (by omega)] at e2;obtain⟨hS',hZ⟩:=hS.upd (x':=Q2 x o l) (cs:=yH cs o ks) (rest:=rest) hk hfl hb (UL hsh hrel hk2) e3 e4 (BO hsh) e2 (by rw [List.length_append,wV,<-List.length_append];exact hN);simp only [qF,qt,if_true,xr,hca,hk1];rw [if_pos (by omega),e1];have hC':=hC.upd (k:=(k,0)) hS hk hZ e3 hb (LW hw);exact⟨hC'.watch ws,h.run Z β H' _ c hS' ((hE.mono hZ (xO.refl _)).set dst yY) hC' (hA.upd e4 e3 hb)⟩
def AT(S:Bx)(esz:Nat)(d:DV)(m:Nat)(q:List FD):Prop:=match d with
 |.one (.own k o m' e)=>m'=m/\e=esz/\∃l,lk S k=some (.data l)/\xK l o (m*esz)=some q
 |.one (.f (.sl e m' l))=>m'=m/\e=esz/\l=q
 |.one (.f (.c .nils))=>m=0/\q=[]
 |_=>False
theorem CV{Z:Nat->Prop}{β:qw}{H:Hp}(hS:SR p Z β H S nk){k o n esz:Nat}{c:C}(hr:RD Z H β (.own k o n esz) c){l q:List FD}(hk:lk S k=some (.data l))(hq:xK l o (n*esz)=some q):∃cs,qg (RF Z H) q cs/\((c=.nils/\n=0/\cs=[])\/∃b cap ex N,β (k,0)=some (.blk b N)/\c=.slc b o n cap esz ex/\n<=cap/\H.loads b o (n*esz)=some cs):=by
 obtain⟨hle,rfl⟩:=zV hq;rcases hr with⟨_,rfl,rfl,rfl⟩|⟨b,N,cap,ex,hb,rfl,hcap,_⟩
 ·exact⟨[],by simp;trivial,.inl ⟨rfl,rfl,rfl⟩⟩
 ·obtain⟨s,hs,hbx⟩:=hS.box (k,0) _ (xX hk rfl);rw [hb] at hs;obtain rfl:=zsi hs;obtain⟨_,_,_,cs,rest,hrow,hN,hrel⟩:=hbx;have hN:(cs++rest).length=_:=hN;have hlen:=Bk.rel_len hrel;simp only [Bk.len] at hlen;refine⟨(cs.drop o).take (n*esz),(qg.drop hrel o).take _,.inr ⟨b,cap,ex,N,hb,rfl,hcap,?_⟩⟩;have h1:H.loads b (0+o) (n*esz)=some (((cs++rest).drop o).take (n*esz)):=kZ hrow.2 (by simp;omega);rw [Nat.zero_add] at h1;rw [h1,List.drop_append_of_le_length (by omega),List.take_append_of_le_length (by simp;omega)]
theorem rX{Z:Nat->Prop}{β:qw}{H:Hp}{F:T V}(hS:SR p Z β H S nk)(hE:ER Z β H E F){x:Opd}{d:DV}(hx:ro E x=some d){esz m:Nat}{q:List FD}(hd:AT S esz d m q):∃cs,zF H esz (x.ev F)=some (m,cs)/\qg (RF Z H) q cs/\cs.length=m*esz:=by
 have hr:=xf hE hx;unfold AT at hd;split at hd
 ·obtain⟨rfl,rfl,l,hk,hq⟩:=hd;obtain⟨c,hc,hr⟩:=hr;obtain⟨cs,h1,h2⟩:=CV hS hr hk hq;rcases h2 with⟨rfl,rfl,rfl⟩|⟨b,cap,ex,N,_,rfl,_,h2⟩
  ·exact⟨[],by rw [hc];rfl,h1,by simp⟩
  ·exact⟨cs,by rw [hc];simp [zF,h2],h1,yV h2⟩
 ·obtain⟨rfl,rfl,rfl⟩:=hd;obtain⟨c,hc,hr⟩:=hr;cases hr with
  |nil=>exact⟨[],by rw [hc];rfl,trivial,by simp⟩
  |sl hz hl hn hld hel=>
   rename_i b o cap ex cs;exact⟨cs,by rw [hc];simp [zF,hld],qg.mk (by rw [hl,yV hld]) hel,yV hld⟩
 ·obtain⟨rfl,rfl⟩:=hd;obtain⟨c,hc,hr⟩:=hr;cases hr;exact⟨[],by rw [hc];rfl,trivial,by simp⟩
 ·exact hd.elim
theorem AR.repl{Z:Nat->Prop}{β:qw}{H H':Hp}{b N:Nat}{k:zC}(hA:AR p base rs A Z β H)(hnx:H.nx<=H'.nx)(hg:∀b',b'≠b->(∀N,β k≠some (.blk b' N))->H'.get b'=H.get b')(hb:(∃N,β k=some (.blk b N))\/H.nx<=b):AR p base rs A Z (wz β nk (.blk b N)) H':=by
 refine⟨hA.1,fun j hj hjA=>?_⟩;obtain⟨h1,h2,h3,h4⟩:=hA.2 j hj hjA;have hne:base+j≠b:=fun e=>by
  rcases hb with⟨M,hM⟩|hb
  ·exact h4 k M (e▸hM)
  ·omega
 refine⟨by omega,by rw [hg _ hne fun M=>h4 k M];exact h2,h3,fun i M=>?_⟩;by_cases e:i=(nk,0)
 ·subst e;rw [xu];intro h;exact hne (Slot.blk.inj (zsi h)).1.symm
 ·rw [yi _ _ e];exact h4 i M
theorem CR.repl{Z:Nat->Prop}{β β':qw}{H H':Hp}{b k:Nat}{c:zR}{x:Bk}(hS:SR p Z β H S nk)(hk:lk S k=some x)(hC:CR W Z β H c)(hZ:xo Z H Z H')(hB:xO β β')(hg:∀b',b'≠b->(∀N,β (k,0)≠some (.blk b' N))->H'.get b'=H.get b')(hb:(∃N,β (k,0)=some (.blk b N))\/H.nx<=b)(hw:YJ S k W=true):CR W Z β' H' c:=hC.step hZ hB fun y hy j o n e b' N' i q hj _ _ hq=>by
 obtain⟨⟨z,hz⟩,hne⟩:=OK hw y hy j o n e;have h2:∀N,β (k,0)≠some (.blk b' N):=fun N e'=>hne (by rw [hS.inj j (k,0) z x b' N' N hz hk hj e']);have h1:b'≠b:=fun e'=>by
  rcases hb with⟨M,hM⟩|hb
  ·exact h2 M (e'▸hM)
  ·have:=hS.bd j b' N' hj;omega
 unfold Hp.cell at hq ⊢;rw [hg b' h1 h2];exact hq
theorem SR.keepS{Z:Nat->Prop}{β:qw}{H:Hp}{S0:Bx}(hS:SR p Z β H S nk)(h2:∀k x,lk S0 k=some x->lk S k=some x):SR p Z β H S0 nk:=
 ⟨hS.wf,hS.lo,hS.z,hS.zlo,hS.zz,hS.glob,hS.nk,hS.bd,fun k x hk=>hS.box k x (by
  obtain⟨y,hy⟩:=yy hk;rw [z6 (S':=S0) (by rw [hy,h2 _ _ hy])];exact hk),fun k k' x x' b N N' hk hk'=>hS.inj k k' x x' b N N' (h2 _ x hk) (h2 _ x' hk'),hS.blo,hS.anch,hS.ancn⟩
theorem Zi{Z:Nat->Prop}{β:qw}{H:Hp}(hS:SR p Z β H S nk):SR p Z (wz β nk .nil) H ((nk,.data [])::S) (nk+1):=by
 have hB:=hS.ble .nil;refine⟨hS.wf,hS.lo,hS.z,hS.zlo,hS.zz,hS.glob,fun j hj=>?_,fun j b' N hj=>?_,fun j y hj=>?_,fun j j' y y' b' N N' hj hj' e1 e2=>?_,fun j b' N hj=>?_,fun κ hκ h0=>by rw [Qc _ _ (by have:=hS.ancn;omega)];exact hS.anch κ hκ h0,Nat.le_succ_of_le hS.ancn⟩
 ·rw [Qc _ _ (by omega)];exact hS.nk j (by omega)
 ·by_cases e:j=(nk,0)
  ·subst e;rw [xu] at hj;cases hj
  ·rw [yi _ _ e] at hj;exact hS.bd j b' N hj
 ·rw [Jv rfl] at hj;split at hj
  ·rename_i e;split at hj
   ·rename_i e2;obtain rfl:=vZ e e2;obtain rfl:=zsi hj;exact⟨_,xu _ _ _,rfl⟩
   ·cases hj
  ·obtain⟨s,hs,hbx⟩:=hS.box j y hj;exact⟨s,hB j s hs,hbx.mono hB (Nat.le_refl _) fun _ _=>rfl⟩
 ·by_cases e:j=(nk,0)
  ·subst e;rw [xu] at e1;cases e1
  ·rw [yi _ _ e] at e1;by_cases e':j'=(nk,0)
   ·subst e';rw [xu] at e2;cases e2
   ·rw [yi _ _ e'] at e2;have n1:=hS.lt1 e1;have n2:=hS.lt1 e2;rw [qQ,if_neg (by omega)] at hj hj';exact hS.inj j j' y y' b' N N' hj hj' e1 e2
 ·by_cases e:j=(nk,0)
  ·subst e;rw [xu] at hj;cases hj
  ·rw [yi _ _ e] at hj;exact hS.blo j b' N hj
theorem qY {esz bytes:Nat} {s v:Opd} {k n m:Nat} {l q l':List FD} {d:DV} (hs:ro E s=some (.one (.own k 0 n esz))) (hv:ro E v=some d) (hk:lk S k=some (.data l)) (hl':xK l 0 (n*esz)=some l') (hd:AT S esz d m q) (hbb:(n+m)*bytes<=140737488355328) (h62:n+m<4611686018427387904) (he:0<esz) (hw:YJ S k W=true)
 (h:DPW p base rs Q r W A (xk E dst (.one (.own nk 0 (n+m) esz))) ((nk,.data (l'++q))::zB k S) (nk+1)):DPW p base rs Q (⟨id,dst,.e (.append esz bytes s v),none,aid,ws,keep⟩::r) W A E S nk:=.mk fun Z β H F c hS hE hC hA=>by
 obtain⟨news,hn1,hn2,hn3⟩:=rX hS hE hv hd;obtain⟨cs,hcs,hr⟩:=xf hE hs;obtain⟨hle,hl'e⟩:=zV hl';rw [Nat.zero_add] at hle;rw [List.drop_zero] at hl'e;obtain⟨sk,hsk,hbx⟩:=hS.box (k,0) _ (xX hk rfl);simp only [qF,qt,if_true,xr,hn1,hcs];have hfin:∀(H':Hp) (b:Nat) (ys rest:List C) (cap:Nat) (ex:Bool),qg (RF Z H) (l'++q) ys->((∃N,β (k,0)=some (.blk b N))\/(b=H.nx))->b<H'.nx->H.nx<=H'.nx->WF H'->(∀b',b'≠b->(∀N,β (k,0)≠some (.blk b' N))->H'.get b'=H.get b')->x6 H' b (ys++rest)->n+m<=cap->cap*esz<=(ys++rest).length->
  zx ws c H'/\qF p.P p.G base (fun F' H'=>∃E' S' nk' Z' β',SR p Z' β' H' S' nk'/\ER Z' β' H' E' F'/\Q E' S' nk') r c (xF F dst (.one (.slc b 0 (n+m) cap esz ex))) H':=by
  intro H' b ys rest cap ex hys hb hbl hnx hwf hg hrow hcap hcl;have hb':(∃N,β (k,0)=some (.blk b N))\/H.nx<=b:=hb.imp (fun h=>h) fun e=>by omega
  obtain⟨hS',hZ,hB⟩:=hS.replace (x':=.data (l'++q)) hk rfl hys (hb.imp (fun h=>h) fun e=>by subst e;exact⟨fun hz=>absurd (hS.z _ hz) (by omega),fun k N hk=>absurd (hS.bd k _ N hk) (by omega),hS.lo⟩) hbl hnx hwf hg rfl hrow;have hC':=hC.repl hS hk hZ hB hg hb' hw;exact⟨hC'.watch ws,h.run Z _ H' _ c hS' ((hE.mono hZ hB).set dst ⟨_,rfl,.inr ⟨b,_,cap,ex,xu _ _ _,rfl,hcap,by omega⟩⟩) hC' (hA.repl hnx hg hb')⟩
 rcases hr with⟨hnil,rfl,_,rfl⟩|⟨b,N,cap,ex,hb,rfl,hcap,hcN⟩
 ·have hl0:l'=[]:=by rw [hl'e];simp
  subst hl0;simp only [zq];rw [Nat.zero_add] at hbb h62;by_cases hm:m=0
  ·subst hm;rw [if_pos rfl];have hq0:q=[]:=List.eq_nil_of_length_eq_zero (by rw [hn2.len,hn3];simp);subst hq0;refine⟨hC.watch ws,?_⟩;have hB:=hS.ble .nil;have hkn:=hS.lt hk;have hZ:=xo.refl Z H;have hS':SR p Z (wz β nk .nil) H ((nk,.data [])::zB k S) (nk+1):=by
    exact (Zi hS).keepS fun j y hj=>by
     rw [qQ] at hj ⊢;split at hj
     ·rename_i e;rw [if_pos e];exact hj
     ·rename_i e;rw [if_neg e];rw [yP] at hj;split at hj
      ·cases hj
      ·exact hj
   refine h.run Z _ H _ c hS' ((hE.mono hZ hB).set dst ⟨_,rfl,.inl ⟨xu _ _ _,rfl,rfl,rfl⟩⟩) (hC.step hZ hB fun _ _ _ _ _ _ _ _ _ _ _ _ _ h=>h) ⟨hA.1,fun j hj hjA=>?_⟩;obtain⟨h1,h2,h3,h4⟩:=hA.2 j hj hjA;refine⟨h1,h2,h3,fun i M=>?_⟩;by_cases e:i=(nk,0)
   ·subst e;rw [xu];intro h;cases h
   ·rw [yi _ _ e];exact h4 i M
  ·rw [if_neg hm,if_pos ⟨hbb,h62⟩];have:=hfin (H.push (.row news.length news .lf true)) H.nx news [] m false (by simpa using hn2) (.inr rfl) (by simp) (by simp) (hS.wf.push _) (fun b' hb' _=>by rw [Hp.get_push,if_neg hb']) (by rw [List.append_nil];exact x6.new news) (by omega) (by simp [hn3]);rw [Nat.zero_add] at this;exact this
 ·rw [hb] at hsk;obtain rfl:=zsi hsk;obtain⟨hz,hlo,hlt,cells,rest,hrow,hN,hrel⟩:=hbx;have hN:(cells++rest).length=_:=hN;have hlen:l.length=cells.length:=Bk.rel_len hrel;have hoN:n*esz<=N:=by
   have:n*esz<=cap*esz:=Nat.mul_le_mul_right _ hcap;omega
  have hpre:qg (RF Z H) l' (cells.take (n*esz)):=by rw [hl'e];exact qg.take hrel _
  simp only [zq];rw [if_neg (by simp)];by_cases hfit:n+m<=cap
  ·rw [if_pos hfit,Nat.zero_add];have hcm:(n+m)*esz<=cap*esz:=Nat.mul_le_mul_right _ hfit;rw [Nat.add_mul] at hcm;have hsplit:cells++rest=cells.take (n*esz)++((cells++rest).drop (n*esz)).take (m*esz)++(cells++rest).drop (n*esz+m*esz):=by
    rw [List.append_assoc,<-List.drop_drop,List.take_append_drop,<-List.take_append_of_le_length (l₁:=cells) (l₂:=rest) (by omega),List.take_append_drop]
   obtain⟨H',e1,e2,e3,e4⟩:=hrow.stores (cs:=news) (i:=n*esz) (by rw [hN,hn3];omega);rw [e1];have hset:yH (cells++rest) (n*esz) news=(cells.take (n*esz)++news)++(cells++rest).drop (n*esz+m*esz):=by
    conv=>lhs;rw [hsplit,List.append_assoc]
    have:=vd (cells.take (n*esz)) (((cells++rest).drop (n*esz)).take (m*esz)) news ((cells++rest).drop (n*esz+m*esz)) (by rw [hn3,List.length_take,List.length_drop,hN];omega);rw [List.length_take,Nat.min_eq_left (by omega)] at this;rw [this,List.append_assoc]
   rw [hset] at e2;refine hfin H' b (cells.take (n*esz)++news) _ cap ex (hpre.append hn2) (.inl ⟨N,hb⟩) (by omega) (by omega) (fun b' bk hb'=>?_) (fun b' hb' _=>e3 b' hb') e2 hfit ?_
   ·rw [e4];by_cases e:b'=b
    ·omega
    ·rw [e3 b' e] at hb';exact hS.wf b' bk hb'
   ·have h1:=congrArg List.length hset;rw [wV] at h1;omega
  ·rw [if_neg hfit,if_pos ⟨hbb,h62⟩];have hld:H.loads b 0 (n*esz)=some (cells.take (n*esz)):=by
    have:=yo hrow.2 (m:=n*esz) (by omega);rw [this,List.take_append_of_le_length (by omega)]
   rw [hld];have hlen2:(cells.take (n*esz)++news).length=(n+m)*esz:=by
    rw [List.length_append,List.length_take,hn3,Nat.add_mul];omega
   have hrow':=x6.new (H:=H) (cells.take (n*esz)++news);cases ex with
   |true=>
    simp only [if_true];exact hfin _ H.nx (cells.take (n*esz)++news) [] (n+m) false (hpre.append hn2) (.inr rfl) (by simp) (by simp) (hS.wf.push _) (fun b' hb' _=>by rw [Hp.get_push,if_neg hb']) (by rw [List.append_nil];exact hrow') (Nat.le_refl _) (by rw [List.append_nil,hlen2];exact Nat.le_refl _)
   |false=>
    simp only [Bool.false_eq_true,if_false,hrow.mut,if_true];refine hfin _ H.nx (cells.take (n*esz)++news) [] (n+m) false (hpre.append hn2) (.inr rfl) (by simp) (by simp) (fun b' bk hb'=>?_) (fun b' hb' hne=>?_) (by rw [List.append_nil];exact hrow'.same (by rw [Hp.get_del,if_neg (by omega)])) (Nat.le_refl _) (by rw [List.append_nil,hlen2];exact Nat.le_refl _)
    ·rw [Hp.get_del] at hb';split at hb'
     ·cases hb'
     ·exact hS.wf.push _ b' bk hb'
    ·rw [Hp.get_del,if_neg (fun (e:b'=b)=>hne N (by rw [e];exact hb)),Hp.get_push,if_neg hb']
end
def bS:DC->Bool
 |.f _=>true
 |.g _ _=>true
 |.fptr _=>true
 |.fz _ _=>true
 |_=>false
def bT:DV->Bool
 |.one d=>bS d
 |.agg l=>qV bS l
 |.tup _=>false
def WT:DV->Bool
 |.tup l=>qV bT l
 |.one d=>bS d
 |.agg l=>qV bS l
def wG:qw:=fun _=>none
theorem CY(β:qw):xO wG β:=fun _ _ h=>by cases h
section
variable{Z Z':Nat->Prop}{H H':Hp}{β β':qw}
theorem bR{d:DC}{c:C}(h:bS d=true)(hr:RD Z H β d c):RD Z H β' d c:=by
 cases d with
 |f d=>exact hr
 |g b o=>exact hr
 |fptr l=>exact hr
 |fz f ls=>exact hr
 |_=>cases h
theorem l9:∀{l:List DC} {cs:List C},qV bS l=true->qg (RD Z H β) l cs->qg (RD Z H β') l cs
 |[],[],_,_=>trivial
 |d::l,c::cs,h,hr=>by
  have h1:=ye h d (by simp);have h2:qV bS l=true:=by simp only [qV,h1] at h;exact h
  exact⟨bR h1 hr.1,l9 h2 hr.2⟩
 |[],_::_,_,hr=>hr.elim
 |_::_,[],_,hr=>hr.elim
theorem DJ{d:DV}{v:V}(h:bT d=true)(hr:zw Z H β d v):zw Z H β' d v:=by
 cases d with
 |one d=>obtain⟨c,rfl,hr⟩:=hr;exact⟨c,rfl,bR h hr⟩
 |agg l=>obtain⟨c,rfl,hr⟩:=hr;exact⟨c,rfl,l9 h hr⟩
 |tup l=>cases h
theorem KP:∀{l:List DV} {cs:List V},qV bT l=true->qg (zw Z H β) l cs->qg (zw Z H β') l cs
 |[],[],_,_=>trivial
 |d::l,c::cs,h,hr=>by
  have h1:=ye h d (by simp);have h2:qV bT l=true:=by simp only [qV,h1] at h;exact h
  exact⟨DJ h1 hr.1,KP h2 hr.2⟩
 |[],_::_,_,hr=>hr.elim
 |_::_,[],_,hr=>hr.elim
theorem Al{d:DV}{v:V}(h:WT d=true)(hr:xC Z H β d v):xC Z H β' d v:=by
 cases d with
 |one d=>obtain⟨c,rfl,hr⟩:=hr;exact⟨c,rfl,bR h hr⟩
 |agg l=>obtain⟨c,rfl,hr⟩:=hr;exact⟨c,rfl,l9 h hr⟩
 |tup l=>obtain⟨c,rfl,hr⟩:=hr;exact⟨c,rfl,KP h hr⟩
theorem KO:∀{l:List DV} {cs:List V},qV WT l=true->qg (xC Z H β) l cs->qg (xC Z H β') l cs
 |[],[],_,_=>trivial
 |d::l,c::cs,h,hr=>by
  have h1:=ye h d (by simp);have h2:qV WT l=true:=by simp only [qV,h1] at h;exact h
  exact⟨Al h1 hr.1,KO h2 hr.2⟩
 |[],_::_,_,hr=>hr.elim
 |_::_,[],_,hr=>hr.elim
end
def nS:DC->Bool
 |.f (.c _)=>true
 |_=>false
def Q3:DV->Bool
 |.one d=>nS d
 |.agg l=>qV nS l
 |.tup _=>false
def clV:DV->Bool
 |.tup l=>qV Q3 l
 |.one d=>nS d
 |.agg l=>qV nS l
section
variable{Z Z':Nat->Prop}{H H':Hp}{β β':qw}
theorem nR{d:DC}{c:C}(h:nS d=true)(hr:RD Z H β d c):RD Z' H' β' d c:=by
 cases d with
 |f d=>cases d with
  |c x=>cases hr with
   |c _ hx=>exact RF.c _ hx
  |sl=>cases h
 |_=>cases h
theorem nQ:∀{l:List DC} {cs:List C},qV nS l=true->qg (RD Z H β) l cs->qg (RD Z' H' β') l cs
 |[],[],_,_=>trivial
 |d::l,c::cs,h,hr=>by
  have h1:=ye h d (by simp);have h2:qV nS l=true:=by simp only [qV,h1] at h;exact h
  exact⟨nR h1 hr.1,nQ h2 hr.2⟩
 |[],_::_,_,hr=>hr.elim
 |_::_,[],_,hr=>hr.elim
theorem qck{d:DV}{v:V}(h:Q3 d=true)(hr:zw Z H β d v):zw Z' H' β' d v:=by
 cases d with
 |one d=>obtain⟨c,rfl,hr⟩:=hr;exact⟨c,rfl,nR h hr⟩
 |agg l=>obtain⟨c,rfl,hr⟩:=hr;exact⟨c,rfl,nQ h hr⟩
 |tup l=>cases h
theorem sA:∀{l:List DV} {cs:List V},qV Q3 l=true->qg (zw Z H β) l cs->qg (zw Z' H' β') l cs
 |[],[],_,_=>trivial
 |d::l,c::cs,h,hr=>by
  have h1:=ye h d (by simp);have h2:qV Q3 l=true:=by simp only [qV,h1] at h;exact h
  exact⟨qck h1 hr.1,sA h2 hr.2⟩
 |[],_::_,_,hr=>hr.elim
 |_::_,[],_,hr=>hr.elim
theorem qcj{d:DV}{v:V}(h:clV d=true)(hr:xC Z H β d v):xC Z' H' β' d v:=by
 cases d with
 |one d=>obtain⟨c,rfl,hr⟩:=hr;exact⟨c,rfl,nR h hr⟩
 |agg l=>obtain⟨c,rfl,hr⟩:=hr;exact⟨c,rfl,nQ h hr⟩
 |tup l=>obtain⟨c,rfl,hr⟩:=hr;exact⟨c,rfl,sA h hr⟩
end
def yd(P:Program)(G:Nat)(GH:Hp)(f:FuncId)(ds:List DV)(R:DV->Prop):Prop:=∀(H:Hp) (Z:Nat->Prop) (args:List V),WF H->(∀b,Z b->b<H.nx)->(∀b bk,GH.get b=some bk->Z b/\H.get b=some bk)->qg (xC Z H wG) ds args->
 qH P G f args H fun v H'=>WF H'/\H.nx<=H'.nx/\(∀b,b<H.nx->H'.get b=H.get b)/\∃d,xC (fun b=>Z b\/(H.nx<=b/\b<H'.nx)) H' wG d v/\R d
theorem yd.mono{P:Program}{G:Nat}{GH:Hp}{f:FuncId}{ds:List DV}{R R':DV->Prop}(h:yd P G GH f ds R)(hr:∀d,R d->R' d):yd P G GH f ds R':=fun H Z args h1 h2 h3 h4=>(h H Z args h1 h2 h3 h4).mono fun _ _ ⟨g1,g2,g3,d,g4,g5⟩=>⟨g1,g2,g3,d,g4,hr d g5⟩
theorem qH.none{P:Program}{G:Nat}{f:FuncId}{args:List V}{H:Hp}{R:V->Hp->Prop}(h:qH P G f args H R):qH P G f args H fun v H'=>R v H'/\∀b,b<H.nx->H.get b=none->H'.get b=none:=fun μ K w xs hR ha=>(h μ K w xs hR ha).mono fun _ _ ⟨x,e,v,H',μ',K',h1,h2,h3,h4⟩=>⟨x,e,v,H',μ',K',⟨h1,h4.none⟩,h2,h3,h4⟩
def X4(E:qq):List Opd->Option (List DV)
 |[]=>some []
 |x::l=>match ro E x,X4 E l with
  |some d,some r=>some (d::r)
  |_,_=>none
theorem kS{Z:Nat->Prop}{β:qw}{H:Hp}{E:qq}{F:T V}(h:ER Z β H E F):∀{args:List Opd} {ds:List DV},X4 E args=some ds->qg (xC Z H β) ds (args.map (·.ev F))
 |[],ds,hd=>by obtain rfl:=zsi hd;trivial
 |x::l,ds,hd=>by
  simp only [X4] at hd;split at hd
  ·rename_i d q h1 h2;obtain rfl:=zsi hd;exact⟨xf h h1,kS h h2⟩
  ·cases hd
def zI(r:List FD):FD:=.sl 1 r.length r
def aL(S:Bx):DC->DC->Prop
 |.own k o n esz,e=>match lk S k with
  |some (.tree rows)=>o=0/\n=rows.length/\esz=1/\e=.f (.sl 1 n (rows.map zI))
  |_=>∃l q,lk S k=some (.data l)/\xK l o (n*esz)=some q/\e=.f (.sl esz n q)
 |.trow k i o n,e=>∃rows r q,lk S k=some (.tree rows)/\rows[i]?=some r/\xK r o n=some q/\e=.f (.sl 1 n q)
 |d,e=>bS d=true/\e=d
def sW(S:Bx):DV->DV->Prop
 |.one d,e=>∃x,e=.one x/\aL S d x
 |.agg l,e=>∃m,e=.agg m/\qg (aL S) l m
 |.tup _,_=>False
section
variable{p:Par}{base rs:Nat}{Q:qq->Bx->Nat->Prop}{r:List SOper}{W:Wt}{A:List Nat}{E:qq}{S:Bx}{nk:Nat}{id:Nat}{dst:Option Nat}{aid:Option Nat}{ws:List Nat}{keep:Bool}
theorem SR.grow{Z:Nat->Prop}{β:qw}{H H':Hp}(hS:SR p Z β H S nk){Z':Nat->Prop}(hz:∀b,Z' b↔Z b\/(H.nx<=b/\Z' b))(hzz:∀b,Z' b->b<H'.nx)(hw:WF H')(hnx:H.nx<=H'.nx)(hg:∀b,b<H.nx->H'.get b=H.get b):SR p Z' β H' S nk/\xo Z H Z' H':=by
 have hz1:∀b,Z b->Z' b:=fun b hb=>(hz b).2 (.inl hb);have hz2:∀b,Z' b->b<H.nx->Z b:=fun b hb hl=>((hz b).1 hb).elim (fun h=>h) fun h=>by omega
 have hZ:xo Z H Z' H':=xo.of_get hz1 fun b hb=>hg b (hS.z b hb);refine⟨⟨hw,Nat.le_trans hS.lo hnx,hzz,fun b hb=>?_,fun b hb=>hz1 b (hS.zz b hb),fun b bk hb=>?_,hS.nk,fun k b N hk=>Nat.lt_of_lt_of_le (hS.bd k b N hk) hnx,fun k x hk=>?_,hS.inj,hS.blo,hS.anch,hS.ancn⟩,hZ⟩
 ·rcases (hz b).1 hb with h|h
  ·exact hS.zlo b h
  ·exact .inr (Nat.le_trans hS.lo h.1)
 ·obtain⟨h1,h2⟩:=hS.glob b bk hb;exact⟨hz1 b h1,by rw [hg b (hS.z b h1)];exact h2⟩
 ·obtain⟨s,hs,hbx⟩:=hS.box k x hk;refine⟨s,hs,?_⟩;cases s with
  |nil=>exact hbx
  |blk b N=>
   obtain⟨h1,h2,h3,cs,rest,h4,h5,h6⟩:=hbx;exact⟨fun h=>h1 (hz2 b h h3),h2,by omega,cs,rest,h4.same (hg b h3),h5,Bk.rel_mono hZ (xO.refl _) h6⟩
theorem AR.grow{Z Z':Nat->Prop}{β:qw}{H H':Hp}(hA:AR p base rs A Z β H)(hz:∀b,Z' b↔Z b\/(H.nx<=b/\Z' b))(hnx:H.nx<=H'.nx)(hg:∀b,b<H.nx->H'.get b=H.get b):AR p base rs A Z' β H':=⟨hA.1,fun j hj hjA=>by
 obtain⟨h1,h2,h3,h4⟩:=hA.2 j hj hjA;exact⟨by omega,by rw [hg _ h1];exact h2,fun h=>((hz _).1 h).elim h3 fun h=>by omega,h4⟩⟩
theorem qk{f:FuncId}{args:List Opd}{ds:List DV}{R:DV->Prop}(hvs:X4 E args=some ds)(hf:qV WT ds=true)(hc:yd p.P p.G p.GH f ds R)(h:∀d,R d->DPW p base rs Q r W A (xk E dst d) S nk):DPW p base rs Q (⟨id,dst,.cf f args,none,aid,ws,keep⟩::r) W A E S nk:=.mk fun Z β H F c hS hE hC hA=>by
 simp only [qF,qt,if_true];refine (hc H Z _ hS.wf hS.z (fun b bk hb=>hS.glob b bk (.inl hb)) (KO hf (kS hE hvs))).mono ?_;rintro v H' ⟨hw,hnx,hg,d,hr,hR⟩;have hz:∀b,(Z b\/(H.nx<=b/\b<H'.nx))↔Z b\/(H.nx<=b/\(Z b\/(H.nx<=b/\b<H'.nx))):=fun b=>⟨fun h=>h.elim .inl fun h=>.inr ⟨h.1,.inr h⟩,fun h=>h.elim .inl fun h=>h.2⟩;obtain⟨hS',hZ⟩:=hS.grow (Z':=fun b=>Z b\/(H.nx<=b/\b<H'.nx)) hz (fun b hb=>hb.elim (fun h=>Nat.lt_of_lt_of_le (hS.z b h) hnx) fun h=>h.2) hw hnx hg;have hC':=hC.same hZ (xO.refl β) hg hS.wf;exact⟨hC'.watch ws,(h d hR).run _ β H' _ c hS' ((hE.mono hZ (xO.refl _)).set dst (hr.mono (xo.refl _ _) (CY β))) hC' (hA.grow hz hnx hg)⟩
theorem DB{Z:Nat->Prop}{β:qw}{H:Hp}(hS:SR p Z β H S nk){κ:zC}{o n esz:Nat}{c:C}(hr:(β κ=some .nil/\n=0/\o=0/\c=.nils)\/∃b N cap ex,β κ=some (.blk b N)/\c=.slc b o n cap esz ex/\n<=cap/\o+cap*esz<=N){l q:List FD}(hk:qP S κ=some (.data l))(hq:xK l o (n*esz)=some q):∃cs,qg (RF Z H) q cs/\((c=.nils/\n=0/\cs=[])\/∃b cap ex N,β κ=some (.blk b N)/\c=.slc b o n cap esz ex/\n<=cap/\H.loads b o (n*esz)=some cs):=by
 obtain⟨hle,rfl⟩:=zV hq;rcases hr with⟨_,rfl,rfl,rfl⟩|⟨b,N,cap,ex,hb,rfl,hcap,_⟩
 ·exact⟨[],by simp;trivial,.inl ⟨rfl,rfl,rfl⟩⟩
 ·obtain⟨s,hs,hbx⟩:=hS.box κ _ hk;rw [hb] at hs;obtain rfl:=zsi hs;obtain⟨_,_,_,cs,rest,hrow,hN,hrel⟩:=hbx;have hN:(cs++rest).length=_:=hN;have hlen:=Bk.rel_len hrel;simp only [Bk.len] at hlen;refine⟨(cs.drop o).take (n*esz),(qg.drop hrel o).take _,.inr ⟨b,cap,ex,N,hb,rfl,hcap,?_⟩⟩;have h1:H.loads b (0+o) (n*esz)=some (((cs++rest).drop o).take (n*esz)):=kZ hrow.2 (by simp;omega);rw [Nat.zero_add] at h1;rw [h1,List.drop_append_of_le_length (by omega),List.take_append_of_le_length (by simp;omega)]
theorem KL{Z Z':Nat->Prop}{β:qw}{H:Hp}(hS:SR p Z β H S nk)(hZ:xo Z H Z' H){κ:zC}{o n esz:Nat}{c:C}(hr:(β κ=some .nil/\n=0/\o=0/\c=.nils)\/∃b N cap ex,β κ=some (.blk b N)/\c=.slc b o n cap esz ex/\n<=cap/\o+cap*esz<=N){l q:List FD}(hk:qP S κ=some (.data l))(hq:xK l o (n*esz)=some q)(hz:∀b N,β κ=some (.blk b N)->Z' b):RF Z' H (.sl esz n q) c:=by
 have hql:q.length=n*esz:=by obtain⟨h1,rfl⟩:=zV hq;simp;omega
 obtain⟨cs,h1,h2⟩:=DB hS hr hk hq;rcases h2 with⟨rfl,rfl,rfl⟩|⟨b,cap,ex,N,hb,rfl,hcap,h2⟩
 ·have:q=[]:=List.eq_nil_of_length_eq_zero (by simpa using hql);subst this;exact .nil esz
 ·refine .sl (fun _=>hz b N hb) hql hcap h2 fun i d c hd hc=>?_;obtain⟨c',hc',hr'⟩:=h1.at i d hd;rw [hc] at hc';obtain rfl:=zsi hc';exact RF.mono hZ hr'
theorem Qu{k i:Nat}{rows:List (List FD)}{r:List FD}(hk:lk S k=some (.tree rows))(hi:rows[i]?=some r):qP S (k,i+1)=some (.data r):=by simp only [qP,hk,hi];rfl
theorem gW{Z Z':Nat->Prop}{β:qw}{H:Hp}(hS:SR p Z β H S nk)(hZ:xo Z H Z' H){k:Nat}{rows:List (List FD)}{c:C}(hk:lk S k=some (.tree rows))(hr:RD Z H β (.own k 0 rows.length 1) c)(hz:∀i b N x,qP S (k,i)=some x->β (k,i)=some (.blk b N)->Z' b):RF Z' H (.sl 1 rows.length (rows.map zI)) c:=by
 have hk0:qP S (k,0)=some (.cells (zh k 0 rows)):=by simp only [qP,hk]
 rcases hr with⟨_,h0,_,rfl⟩|⟨b,N,cap,ex,hb,rfl,hcap,_⟩
 ·have:rows=[]:=List.eq_nil_of_length_eq_zero h0;subst this;exact .nil 1
 ·obtain⟨s,hs,hbx⟩:=hS.box (k,0) _ hk0;rw [hb] at hs;obtain rfl:=zsi hs;obtain⟨_,_,_,cs,rest,hrow,hN,hrel⟩:=hbx;have hN:(cs++rest).length=_:=hN;have hlen:(zh k 0 rows).length=cs.length:=qg.len hrel;rw [kO] at hlen;refine .sl (cs:=cs) (fun _=>hz 0 b N _ hk0 hb) (by simp) hcap ?_ fun i d c hd hc=>?_
  ·rw [Nat.mul_one,hlen];have:=yo hrow.2 (m:=cs.length) (by simp);rw [this,List.take_left]
  ·rw [List.getElem?_map] at hd;cases hri:rows[i]? with
   |none=>rw [hri] at hd;cases hd
   |some r=>
    rw [hri] at hd;obtain rfl:=zsi hd;obtain⟨c',hc',hrr⟩:=qg.at hrel i (.trow k i 0 r.length) (by rw [Q9,hri];simp);rw [hc] at hc';obtain rfl:=zsi hc';exact KL (esz:=1) hS hZ hrr (Qu hk hri) (by rw [yj (by simp)];simp) fun b N=>hz (i+1) b N _ (Qu hk hri)
theorem gU{Z:Nat->Prop}{β:qw}{H:Hp}(hS:SR p Z β H S nk){d e:DC}{c:C}(hv:aL S d e)(hr:RD Z H β d c):RD (fun b=>Z b\/∃(k:zC) (x:Bk) (N:Nat),lk S k.1=some x/\β k=some (.blk b N)) H wG e c:=by
 have hZ:xo Z H (fun b=>Z b\/∃(k:zC) (x:Bk) (N:Nat),lk S k.1=some x/\β k=some (.blk b N)) H:=fun b hb=>⟨.inl hb,fun _ _ h=>h⟩;have key:∀d,bS d=true->e=d->RD Z H β d c->RD (fun b=>Z b\/∃(k:zC) (x:Bk) (N:Nat),lk S k.1=some x/\β k=some (.blk b N)) H wG e c:=fun d hf he hr=>by
  subst he;exact bR hf (hr.mono hZ (xO.refl β))
 cases d with
 |own k o n esz=>
  simp only [aL] at hv;split at hv
  rotate_left
  ·obtain⟨l,q,hk,hq,rfl⟩:=hv;exact KL hS hZ hr (xX hk rfl) hq fun b N hb=>.inr ⟨(k,0),_,N,hk,hb⟩
  ·rename_i rows hk;obtain⟨rfl,rfl,rfl,rfl⟩:=hv;exact gW hS hZ hk hr fun i b N _ _ hb=>.inr ⟨(k,i),_,N,hk,hb⟩
 |trow k i o n=>
  obtain⟨rows,r,q,hk,hri,hq,rfl⟩:=hv;exact KL (esz:=1) hS hZ hr (Qu hk hri) (by rw [Nat.mul_one];exact hq) fun b N hb=>.inr ⟨(k,i+1),_,N,hk,hb⟩
 |f d=>exact key _ hv.1 hv.2 hr
 |g b o=>exact key _ hv.1 hv.2 hr
 |fptr l=>exact key _ hv.1 hv.2 hr
 |fz f ls=>exact key _ hv.1 hv.2 hr
 |_=>cases hv.1
theorem d3{Z:Nat->Prop}{β:qw}{H:Hp}(hS:SR p Z β H S nk):∀{l m:List DC} {cs:List C},qg (aL S) l m->qg (RD Z H β) l cs->qg (RD (fun b=>Z b\/∃(k:zC) (x:Bk) (N:Nat),lk S k.1=some x/\β k=some (.blk b N)) H wG) m cs
 |[],[],[],_,_=>trivial
 |_::_,_::_,_::_,h,hr=>⟨gU hS h.1 hr.1,d3 hS h.2 hr.2⟩
 |[],_::_,_,h,_=>h.elim
 |_::_,[],_,h,_=>h.elim
 |[],[],_::_,_,hr=>hr.elim
 |_::_,_::_,[],_,hr=>hr.elim
theorem FU{Z:Nat->Prop}{β:qw}{H:Hp}(hS:SR p Z β H S nk){d e:DV}{v:V}(hv:sW S d e)(hr:xC Z H β d v):xC (fun b=>Z b\/∃(k:zC) (x:Bk) (N:Nat),lk S k.1=some x/\β k=some (.blk b N)) H wG e v:=by
 cases d with
 |one d=>obtain⟨x,rfl,hv⟩:=hv;obtain⟨c,rfl,hr⟩:=hr;exact⟨c,rfl,gU hS hv hr⟩
 |agg l=>obtain⟨x,rfl,hv⟩:=hv;obtain⟨c,rfl,hr⟩:=hr;exact⟨c,rfl,d3 hS hv hr⟩
 |tup l=>exact hv.elim
theorem d2{Z:Nat->Prop}{β:qw}{H:Hp}(hS:SR p Z β H S nk):∀{l m:List DV} {cs:List V},qg (sW S) l m->qg (xC Z H β) l cs->qg (xC (fun b=>Z b\/∃(k:zC) (x:Bk) (N:Nat),lk S k.1=some x/\β k=some (.blk b N)) H wG) m cs
 |[],[],[],_,_=>trivial
 |_::_,_::_,_::_,h,hr=>⟨FU hS h.1 hr.1,d2 hS h.2 hr.2⟩
 |[],_::_,_,h,_=>h.elim
 |_::_,[],_,h,_=>h.elim
 |[],[],_::_,_,hr=>hr.elim
 |_::_,_::_,[],_,hr=>hr.elim
theorem Y1{f:FuncId}{args:List Opd}{vs ds:List DV}{R:DV->Prop}(hvs:X4 E args=some vs)(hf:qg (sW S) vs ds)(hc:yd p.P p.G p.GH f ds R)(hcl:∀d,R d->clV d=true)(h:∀d,R d->DPW p base rs Q r W A (xk E dst d) S nk):DPW p base rs Q (⟨id,dst,.cf f args,none,aid,ws,keep⟩::r) W A E S nk:=.mk fun Z β H F c hS hE hC hA=>by
 simp only [qF,qt,if_true];refine (hc H _ _ hS.wf (fun b hb=>hb.elim (hS.z b) fun⟨k,x,N,_,h2⟩=>hS.bd k b N h2) (fun b bk hb=>⟨.inl (hS.glob b bk (.inl hb)).1,(hS.glob b bk (.inl hb)).2⟩) (d2 hS hf (kS hE hvs))).mono ?_;rintro v H' ⟨hw,hnx,hg,d,hr,hR⟩;have hz:∀b,Z b↔Z b\/(H.nx<=b/\Z b):=fun b=>⟨.inl,fun h=>h.elim (fun h=>h) fun h=>h.2⟩;obtain⟨hS',hZ⟩:=hS.grow hz (fun b h=>Nat.lt_of_lt_of_le (hS.z b h) hnx) hw hnx hg;have hC':=hC.same hZ (xO.refl β) hg hS.wf;exact⟨hC'.watch ws,(h d hR).run _ β H' _ c hS' ((hE.mono hZ (xO.refl _)).set dst (qcj (hcl d hR) hr)) hC' (hA.grow hz hnx hg)⟩
end
def ZJ(k:Nat)(l:List FD):DC->DC
 |.own j o n e=>match Nat.beq j k with
  |true=>.f (.sl e n l)
  |false=>.own j o n e
 |.trow j i o n=>match Nat.beq j k with
  |true=>.any
  |false=>.trow j i o n
 |d=>d
def p7(k:Nat)(ok:Nat->Nat->Nat->Prop):DC->Prop
 |.own j o n e=>match Nat.beq j k with
  |true=>ok o n e
  |false=>True
 |_=>True
def eN(k:Nat)(ok:Nat->Nat->Nat->Prop):List DC->Prop
 |[]=>True
 |d::r=>p7 k ok d/\eN k ok r
def eL(l:List FD)(o n e:Nat):Prop:=o=0/\l.length=n*e
def MA(rows:List (List FD))(o n e:Nat):Prop:=o=0/\n=rows.length/\e=1
def rH(k:Nat)(l:List FD):DV->DV
 |.one d=>.one (ZJ k l d)
 |.agg m=>.agg (m.map (ZJ k l))
 |.tup m=>.tup m
def p5(k:Nat)(ok:Nat->Nat->Nat->Prop):DV->Prop
 |.one d=>p7 k ok d
 |.agg m=>eN k ok m
 |.tup _=>True
def vO(k:Nat)(l:List FD):Bk->Bk
 |.cells m=>.cells (m.map (ZJ k l))
 |.data m=>.data m
 |.tree rows=>.tree rows
 |.mp ks m=>.mp ks (m.map (ZJ k l))
 |.mt es=>.mt (wg (ZJ k l) es)
def CX(k:Nat)(ok:Nat->Nat->Nat->Prop):List (Int × ME)->Prop
 |[]=>True
 |(_,.row _)::es=>CX k ok es
 |(_,.out c)::es=>p7 k ok c/\CX k ok es
def bG(k:Nat)(ok:Nat->Nat->Nat->Prop):Bk->Prop
 |.cells m=>eN k ok m
 |.data _=>True
 |.tree _=>True
 |.mp _ m=>eN k ok m
 |.mt es=>CX k ok es
def yr{α:Type}(f:α->α):List (Nat × α)->List (Nat × α)
 |[]=>[]
 |(k,x)::r=>(k,f x)::yr f r
def Ye{α:Type}(f:α->Prop):List (Nat × α)->Prop
 |[]=>True
 |(_,x)::r=>f x/\Ye f r
theorem wK{α:Type}(f:α->α)(n:Nat):∀E:List (Nat × α),lk (yr f E) n=(lk E n).map f
 |[]=>rfl
 |(k,x)::r=>by
  simp only [yr,qQ];split
  ·rfl
  ·exact wK f n r
theorem i7{α:Type}{f:α->Prop}{n:Nat}{x:α}:∀{E:List (Nat × α)},Ye f E->lk E n=some x->f x
 |[],_,h=>by cases h
 |(k,y)::r,ho,h=>by
  rw [qQ] at h;split at h
  ·obtain rfl:=zsi h;exact ho.1
  ·exact i7 ho.2 h
section
variable{p:Par}{base rs:Nat}{Q:qq->Bx->Nat->Prop}{W:Wt}{A:List Nat}{E:qq}{S:Bx}{nk:Nat}
theorem rI{k:Nat}{l:List FD}{j:Nat}(hj:j≠k):∀(i:Nat) (rows:List (List FD)),(zh j i rows).map (ZJ k l)=zh j i rows
 |_,[]=>rfl
 |i,r::rs=>by simp only [zh,List.map_cons,rI hj (i+1) rs,ZJ,jr hj]
theorem Ac{k:Nat}{l:List FD}{S:Bx}{κ:zC}{y:Bk}(hy:qP (yr (vO k l) (zB k S)) κ=some y):κ.1≠k/\∃x,qP S κ=some x/\y=vO k l x:=by
 obtain⟨z,hz⟩:=yy hy;rw [wK,yP] at hz;split at hz
 ·cases hz
 ·rename_i hne;refine⟨hne,?_⟩;cases hl:lk S κ.1 with
  |none=>rw [hl] at hz;cases hz
  |some x=>
   have hlk:lk (yr (vO k l) (zB k S)) κ.1=some (vO k l x):=by rw [wK,yP,if_neg hne,hl];rfl
   obtain⟨j,i⟩:=κ;simp only at hl hlk hne;cases i with
   |zero=>
    simp only [qP,hl];simp only [qP,hlk] at hy;cases x with
    |cells m=>exact⟨_,rfl,(zsi hy).symm⟩
    |data m=>exact⟨_,rfl,(zsi hy).symm⟩
    |tree rows=>refine⟨_,rfl,?_⟩;rw [<-zsi hy];simp only [vO,rI hne]
    |mp ks m=>exact⟨_,rfl,(zsi hy).symm⟩
    |mt es=>refine⟨_,rfl,?_⟩;rw [<-zsi hy];simp only [vO];rw [YU (ZJ k l) j j (fun _=>rfl) (fun i n=>by simp only [ZJ,jr hne])]
   |succ i=>
    simp only [qP,hl];simp only [qP,hlk] at hy;cases x with
    |cells m=>cases hy
    |data m=>cases hy
    |tree rows=>
     cases hr:rows[i]? with
     |none=>simp only [vO,hr] at hy;cases hy
     |some r=>simp only [vO,hr] at hy;exact⟨.data r,by simp only [hr];rfl,(zsi hy).symm⟩
    |mp ks m=>cases hy
    |mt es=>
     simp only [vO,WJ] at hy;obtain⟨y',r,h1,rfl⟩:=wo hy;exact⟨.data r,by simp only [h1,we],rfl⟩
theorem i8{k:Nat}{ok:Nat->Nat->Nat->Prop}(j:Nat):∀(i:Nat) (rows:List (List FD)),eN k ok (zh j i rows)
 |_,[]=>trivial
 |i,_::rs=>⟨trivial,i8 j (i+1) rs⟩
theorem i9{k:Nat}{ok:Nat->Nat->Nat->Prop}(j:Nat):∀(i:Nat) (es:List (Int × ME)),CX k ok es->eN k ok (kY j i es)
 |_,[],_=>trivial
 |i,(_,.row _)::es,h=>⟨trivial,trivial,i9 j (i+1) es h⟩
 |i,(_,.out _)::es,h=>⟨trivial,h.1,i9 j (i+1) es h.2⟩
theorem PF{k:Nat}{ok:Nat->Nat->Nat->Prop}{S:Bx}{κ:zC}{z:Bk}(hlk:∀{n:Nat} {x:Bk},lk S n=some x->bG k ok x)(hz:qP S κ=some z):bG k ok z:=by
 obtain⟨j,i⟩:=κ;obtain⟨x,hx⟩:=yy hz;have ho:=hlk hx;cases i with
 |zero=>
  simp only [qP] at hz hx;rw [hx] at hz;cases x with
  |cells m=>obtain rfl:=zsi hz;exact ho
  |data m=>obtain rfl:=zsi hz;exact ho
  |tree rows=>obtain rfl:=zsi hz;exact i8 j 0 rows
  |mp ks m=>obtain rfl:=zsi hz;exact ho
  |mt es=>obtain rfl:=zsi hz;exact i9 j 0 es ho
 |succ i=>
  simp only [qP] at hz hx;rw [hx] at hz;cases x with
  |cells m=>cases hz
  |data m=>cases hz
  |tree rows=>
   cases hr:rows[i]? with
   |none=>simp only [hr] at hz;cases hz
   |some r=>simp only [hr] at hz;obtain rfl:=zsi hz;trivial
  |mp ks m=>cases hz
  |mt es=>obtain⟨_,r,_,rfl⟩:=wo hz;trivial
theorem e7(k:Nat)(l:List FD)(x:Bk):(vO k l x).shape=x.shape:=by cases x<;>rfl
theorem SR.lo2{Z:Nat->Prop}{β:qw}{H:Hp}(hS:SR p Z β H S nk){κ:zC}{x:Bk}{b N:Nat}(hk:qP S κ=some x)(hb:β κ=some (.blk b N)):p.lo<=b:=by
 obtain⟨s,hs,hbx⟩:=hS.box κ x hk;rw [hb] at hs;obtain rfl:=zsi hs;exact hbx.2.1
theorem l8 {Z:Nat->Prop} {β:qw} {H:Hp} {F:T V} (hS:SR p Z β H S nk) (hE:ER Z β H E F) {k:Nat} {x:Bk} {l:List FD} {ok:Nat->Nat->Nat->Prop} (hk:lk S k=some x)
 (hall:∀{Z'},xo Z H Z' H->(∀i b N x,qP S (k,i)=some x->β (k,i)=some (.blk b N)->Z' b)->∀o n e c,ok o n e->RD Z H β (.own k o n e) c->RF Z' H (.sl e n l) c) (hoE:Ye (p5 k ok) E) (hoS:Ye (bG k ok) S):
 ∃Z',SR p Z' β H (yr (vO k l) (zB k S)) nk/\ER Z' β H (yr (rH k l) E) F/\xo Z H Z' H/\∀b,Z' b↔Z b\/∃i N x,qP S (k,i)=some x/\β (k,i)=some (.blk b N):=by
 have hZ:xo Z H (fun b=>Z b\/∃i N x,qP S (k,i)=some x/\β (k,i)=some (.blk b N)) H:=fun b hb=>⟨.inl hb,fun _ _ h=>h⟩;have hC:∀d c,p7 k ok d->RD Z H β d c->RD (fun b=>Z b\/∃i N x,qP S (k,i)=some x/\β (k,i)=some (.blk b N)) H β (ZJ k l d) c:=fun d c ho hr=>by
  cases d with
  |own j o n e=>
   simp only [ZJ,p7] at ho ⊢;by_cases hj:j=k
   ·subst hj;rw [jU] at ho ⊢;exact hall hZ (fun i b N x hx hb=>.inr ⟨i,N,x,hx,hb⟩) o n e c ho hr
   ·rw [jr hj];simp only;exact hr.mono hZ (xO.refl β)
  |trow j i o n=>
   simp only [ZJ];by_cases hj:j=k
   ·subst hj;rw [jU];trivial
   ·rw [jr hj];exact hr
  |f d=>exact RD.mono (d:=.f d) hZ (xO.refl β) hr
  |g b o=>exact hr
  |ptr j o=>exact hr
  |tptr j i o=>exact hr
  |fptr q=>exact RD.mono (d:=.fptr q) hZ (xO.refl β) hr
  |fn f caps=>exact hr
  |any=>trivial
  |om j=>exact hr
  |yl j=>exact hr
  |fz f ls=>exact RD.mono (d:=.fz f ls) hZ (xO.refl β) hr
 have hL:∀{m:List DC} {cs:List C},eN k ok m->qg (RD Z H β) m cs->qg (RD (fun b=>Z b\/∃i N x,qP S (k,i)=some x/\β (k,i)=some (.blk b N)) H β) (m.map (ZJ k l)) cs:=by
  intro m;induction m with
  |nil=>intro cs _ h;cases cs with
   |nil=>trivial
   |cons _ _=>exact h.elim
  |cons d m ih=>intro cs ho h;cases cs with
   |nil=>exact h.elim
   |cons c cs=>exact⟨hC d c ho.1 h.1,ih ho.2 h.2⟩
 refine⟨fun b=>Z b\/∃i N x,qP S (k,i)=some x/\β (k,i)=some (.blk b N),⟨hS.wf,hS.lo,fun b hb=>hb.elim (hS.z b) fun⟨i,N,_,_,h⟩=>hS.bd _ b N h,fun b hb=>?_,fun b hb=>.inl (hS.zz b hb),fun b bk hb=>⟨.inl (hS.glob b bk hb).1,(hS.glob b bk hb).2⟩,hS.nk,hS.bd,fun j y hj=>?_,fun j j' y y' b N N' hj hj' h1 h2=>?_,hS.blo,hS.anch,hS.ancn⟩,fun n d hd=>?_,hZ,fun b=>Iff.rfl⟩
 ·rcases hb with hb|⟨i,N,x,hx,hb⟩
  ·exact hS.zlo b hb
  ·exact .inr (hS.lo2 hx hb)
 ·obtain⟨hne,z,hz,rfl⟩:=Ac hj;obtain⟨s,hs,hbx⟩:=hS.box j z hz;obtain⟨w,hw⟩:=yy hz;refine⟨s,hs,?_⟩;cases s with
  |nil=>cases z<;>simpa [y8,vO,Bk.len,wg] using hbx
  |blk b N=>
   obtain⟨h1,h2,h3,cs,rest,h4,h5,h6⟩:=hbx;have hoz:=PF (fun hx=>i7 hoS hx) hz;refine⟨fun h=>h.elim h1 fun⟨i,M,_,_,hM⟩=>hne (by rw [hS.inj j (k,i) w _ b N M hw hk hs hM]),h2,h3,cs,rest,by rw [e7];exact h4,by rw [e7];exact h5,?_⟩;cases z with
   |cells m=>exact hL hoz h6
   |data m=>exact qg.mono (fun _ _=>RF.mono hZ) h6
   |tree m=>exact h6.elim
   |mp ks m=>exact hL hoz h6
   |mt es=>exact h6.elim
 ·have f:∀(κ:zC) w,lk (yr (vO k l) (zB k S)) κ.1=some w->∃z,lk S κ.1=some z:=fun κ w hw=>by
   rw [wK,yP] at hw;split at hw
   ·cases hw
   ·cases e:lk S κ.1 with
    |none=>rw [e] at hw;cases hw
    |some z=>exact⟨z,rfl⟩
  obtain⟨z1,e1⟩:=f j y hj;obtain⟨z2,e2⟩:=f j' y' hj';exact hS.inj j j' z1 z2 b N N' e1 e2 h1 h2
 ·rw [wK] at hd;cases hl:lk E n with
  |none=>rw [hl] at hd;cases hd
  |some y=>
   rw [hl] at hd;obtain rfl:=zsi hd;obtain⟨v,hv,hr⟩:=hE n y hl;refine⟨v,hv,?_⟩;have hoy:=i7 hoE hl;cases y with
   |one d=>obtain⟨c,rfl,hr⟩:=hr;exact⟨c,rfl,hC d c hoy hr⟩
   |agg m=>obtain⟨c,rfl,hr⟩:=hr;exact⟨c,rfl,hL hoy hr⟩
   |tup m=>exact xC.mono (d:=.tup m) hZ (xO.refl β) hr
theorem DI{Z:Nat->Prop}{β:qw}{H:Hp}{F:T V}(hS:SR p Z β H S nk)(hE:ER Z β H E F){k:Nat}{l:List FD}(hk:lk S k=some (.data l))(hoE:Ye (p5 k (eL l)) E)(hoS:Ye (bG k (eL l)) S):
 ∃Z',SR p Z' β H (yr (vO k l) (zB k S)) nk/\ER Z' β H (yr (rH k l) E) F/\xo Z H Z' H/\∀b,Z' b↔Z b\/∃i N x,qP S (k,i)=some x/\β (k,i)=some (.blk b N):=
 l8 hS hE hk (fun {Z'} hZ hz o n e c ho hr=>KL hS hZ hr (xX hk rfl) (by obtain⟨rfl,h⟩:=ho;rw [yj (by omega),List.drop_zero,List.take_of_length_le (by omega)]) fun b N=>hz 0 b N _ (xX hk rfl)) hoE hoS
theorem PM{Z:Nat->Prop}{β:qw}{H:Hp}{F:T V}(hS:SR p Z β H S nk)(hE:ER Z β H E F){k:Nat}{rows:List (List FD)}(hk:lk S k=some (.tree rows))(hoE:Ye (p5 k (MA rows)) E)(hoS:Ye (bG k (MA rows)) S):
 ∃Z',SR p Z' β H (yr (vO k (rows.map zI)) (zB k S)) nk/\ER Z' β H (yr (rH k (rows.map zI)) E) F/\xo Z H Z' H/\∀b,Z' b↔Z b\/∃i N x,qP S (k,i)=some x/\β (k,i)=some (.blk b N):=
 l8 hS hE hk (fun {Z'} hZ hz o n e c ho hr=>by obtain⟨rfl,rfl,rfl⟩:=ho;exact gW hS hZ hk hr hz) hoE hoS
theorem XQ{l:List SOper}(k:Nat){m:List FD}(hk:lk S k=some (.data m))(hoE:Ye (p5 k (eL m)) E)(hoS:Ye (bG k (eL m)) S)(h:DPW p base rs Q l W A (yr (rH k m) E) (yr (vO k m) (zB k S)) nk):DPW p base rs Q l W A E S nk:=.mk fun Z β H F c hS hE hC hA=>by
 obtain⟨Z',hS',hE',hZ,hz⟩:=DI hS hE hk hoE hoS;refine h.run Z' β H F c hS' hE' (hC.step hZ (xO.refl β) fun _ _ _ _ _ _ _ _ _ _ _ _ _ h=>h) ⟨hA.1,fun j hj hjA=>?_⟩;obtain⟨h1,h2,h3,h4⟩:=hA.2 j hj hjA;exact⟨h1,h2,fun h=>((hz _).1 h).elim h3 fun⟨i,N,_,_,hN⟩=>h4 _ N hN,h4⟩
end
structure DPS (p:Par) (n:Nat) (s:SC) (Q:Exit->qq->Bx->Nat->Prop) (E:qq) (S:Bx) (nk:Nat):Prop where
 run:∀Z β H F,SR p Z β H S nk->ER Z β H E F->jI p.ρ p.P p.G n s (fun e F' H'=>∃E' S' nk' Z' β',SR p Z' β' H' S' nk'/\ER Z' β' H' E' F'/\Q e E' S' nk') F H
def LZ(next:qq->Bx->Nat->Prop)(Q:Exit->qq->Bx->Nat->Prop):Exit->qq->Bx->Nat->Prop
 |.normal,E,S,nk=>next E S nk
 |e,E,S,nk=>Q e E S nk
def FC(id:Nat)(Q:Exit->qq->Bx->Nat->Prop):Exit->qq->Bx->Nat->Prop
 |.exit id',E,S,nk=>match Nat.beq id' id with
  |true=>Q .normal E S nk
  |false=>Q (.exit id') E S nk
 |e,E,S,nk=>Q e E S nk
def rn(ρ:List (Nat × Nat))(k:Nat):Nat:=match lk ρ k with
 |some j=>j
 |none=>k
def UV(ρ:List (Nat × Nat)):List (Nat × Nat)->List (Nat × Nat)
 |[]=>[]
 |(k,o)::r=>(rn ρ k,o)::UV ρ r
def Wy(ρ:List (Nat × Nat)):DC->DC
 |.ptr k o=>.ptr (rn ρ k) o
 |.tptr k i o=>.tptr (rn ρ k) i o
 |.trow k i o n=>.trow (rn ρ k) i o n
 |.own k o n e=>.own (rn ρ k) o n e
 |.om k=>.om (rn ρ k)
 |.yl k=>.yl (rn ρ k)
 |.fn f caps=>.fn f (UV ρ caps)
 |d=>d
def Vf(ρ:List (Nat × Nat)):List DC->List DC
 |[]=>[]
 |d::l=>Wy ρ d::Vf ρ l
def rnV(ρ:List (Nat × Nat)):DV->DV
 |.one d=>.one (Wy ρ d)
 |.agg l=>.agg (Vf ρ l)
 |.tup l=>.tup l
def XH(ρ:List (Nat × Nat)):Bk->Bk
 |.cells l=>.cells (Vf ρ l)
 |.data l=>.data l
 |.tree l=>.tree l
 |.mp ks l=>.mp ks (Vf ρ l)
 |.mt es=>.mt (wg (Wy ρ) es)
theorem Kv(ρ:List (Nat × Nat)):∀l:List DC,Vf ρ l=l.map (Wy ρ)
 |[]=>rfl
 |d::l=>by simp only [Vf,List.map_cons,Kv ρ l]
theorem eF(ρ:List (Nat × Nat))(x:Bk):(XH ρ x).shape=x.shape:=by cases x<;>rfl
def L0(n:Nat):List (Nat × Nat)->Bool
 |[]=>true
 |(k,_)::r=>match Nat.blt k n with
  |true=>L0 n r
  |false=>false
def vM(n:Nat):DC->Bool
 |.ptr k _=>Nat.blt k n
 |.tptr k _ _=>Nat.blt k n
 |.trow k _ _ _=>Nat.blt k n
 |.own k _ _ _=>Nat.blt k n
 |.om k=>Nat.blt k n
 |.yl k=>Nat.blt k n
 |.fn _ caps=>L0 n caps
 |_=>true
def smV(n:Nat):DV->Bool
 |.one d=>vM n d
 |.agg l=>qV (vM n) l
 |.tup l=>qV bT l
def Vb(n:Nat):List (Int × ME)->Bool
 |[]=>true
 |(_,.row _)::es=>Vb n es
 |(_,.out c)::es=>match vM n c with
  |true=>Vb n es
  |false=>false
def Wn(n:Nat):Bk->Bool
 |.cells l=>qV (vM n) l
 |.data _=>true
 |.tree _=>true
 |.mp _ l=>qV (vM n) l
 |.mt es=>Vb n es
def FO(ρ:List (Nat × Nat))(n0:Nat)(E:qq):qq->Prop
 |[]=>True
 |(t,v)::r=>lk E t=some (rnV ρ v)/\smV n0 v=true/\FO ρ n0 E r
def Vu(ρ:List (Nat × Nat))(n0:Nat)(S:Bx):Bx->Prop
 |[]=>True
 |(k,x)::r=>lk S (rn ρ k)=some (XH ρ x)/\Wn n0 x=true/\Nat.blt k n0=true/\Vu ρ n0 S r
def dF(ρ:List (Nat × Nat)):Bx->List Nat->Bool
 |[],_=>true
 |(k,_)::r,seen=>match seen.elem (rn ρ k) with
  |true=>false
  |false=>dF ρ r (rn ρ k::seen)
def wB(ρ:List (Nat × Nat))(n0:Nat)(β:qw):qw:=fun κ=>if κ.1<n0 then β (rn ρ κ.1,κ.2) else none
def cQ(n0:Nat)(ρ:List (Nat × Nat)):Nat->Bool
 |0=>true
 |a+1=>match Nat.ble (a+1) n0 with
  |true=>qV (fun q=>Nat.ble (a+1) q.1) ρ
  |false=>false
theorem sI{n0:Nat}{ρ:List (Nat × Nat)}{a:Nat}(h:cQ n0 ρ a=true):a<=n0:=by
 cases a with
 |zero=>omega
 |succ a=>
  simp only [cQ] at h;split at h
  ·rename_i e;exact Nat.le_of_ble_eq_true e
  ·cases h
theorem LC{n0 k:Nat}{ρ:List (Nat × Nat)}{a:Nat}(h:cQ n0 ρ a=true)(hk:k<a):rn ρ k=k:=by
 cases a with
 |zero=>omega
 |succ a=>
  simp only [cQ] at h;split at h
  ·unfold rn;cases hl:lk ρ k with
   |none=>rfl
   |some j=>
    exfalso;have key:∀l:List (Nat × Nat),qV (fun q=>Nat.ble (a+1) q.1) l=true->lk l k=some j->False:=by
     intro l;induction l with
     |nil=>intro _ h;cases h
     |cons q l ih=>
      intro ha hl;have h1:=ye ha q (by simp);have h1':=Nat.le_of_ble_eq_true h1;have h2:qV (fun q:Nat × Nat=>Nat.ble (a+1) q.1) l=true:=by simp only [qV,h1] at ha;exact ha
      obtain⟨q1,q2⟩:=q;rw [qQ] at hl;split at hl
      ·simp only at h1';omega
      ·exact ih h2 hl
    exact key ρ h hl
  ·cases h
structure Wk (p:Par) (ρ:List (Nat × Nat)) (n0:Nat) (E0:qq) (S0:Bx) (E:qq) (S:Bx):Prop where
 e:FO ρ n0 E E0
 s:Vu ρ n0 S S0
 i:dF ρ S0 []=true
 a:cQ n0 ρ p.anc=true
theorem FO.at{ρ:List (Nat × Nat)}{n0:Nat}{E:qq}{t:Nat}{v:DV}:∀{E0:qq},FO ρ n0 E E0->lk E0 t=some v->lk E t=some (rnV ρ v)/\smV n0 v=true
 |[],_,h=>by cases h
 |(t',v')::r,hw,h=>by
  rw [qQ] at h;split at h
  ·rename_i e;subst e;obtain rfl:=zsi h;exact⟨hw.1,hw.2.1⟩
  ·exact FO.at hw.2.2 h
theorem Vu.at{ρ:List (Nat × Nat)}{n0:Nat}{S:Bx}{k:Nat}{x:Bk}:∀{S0:Bx},Vu ρ n0 S S0->lk S0 k=some x->lk S (rn ρ k)=some (XH ρ x)/\Wn n0 x=true/\k<n0
 |[],_,h=>by cases h
 |(t',v')::r,hw,h=>by
  rw [qQ] at h;split at h
  ·rename_i e;subst e;obtain rfl:=zsi h;exact⟨hw.1,hw.2.1,Nat.le_of_ble_eq_true hw.2.2.1⟩
  ·exact Vu.at hw.2.2.2 h
theorem VU{ρ:List (Nat × Nat)}{k:Nat}{x:Bk}:∀{S0:Bx} {seen:List Nat},dF ρ S0 seen=true->lk S0 k=some x->rn ρ k∉seen
 |[],_,_,h=>by cases h
 |(j,y)::r,seen,hi,h=>by
  simp only [dF] at hi;split at hi
  ·cases hi
  ·rename_i e;rw [qQ] at h;split at h
   ·rename_i ej;subst ej;exact fun hm=>by rw [List.elem_eq_true_of_mem hm] at e;cases e
   ·exact fun hm=>VU hi h (by simp [hm])
theorem DF{ρ:List (Nat × Nat)}{k k':Nat}{x x':Bk}:∀{S0:Bx} {seen:List Nat},dF ρ S0 seen=true->lk S0 k=some x->lk S0 k'=some x'->rn ρ k=rn ρ k'->k=k'
 |[],_,_,h,_,_=>by cases h
 |(j,y)::r,seen,hi,h,h',e=>by
  simp only [dF] at hi;split at hi
  ·cases hi
  ·rw [qQ] at h h';split at h
   ·rename_i ej;subst ej;split at h'
    ·rename_i ej;exact ej
    ·exact absurd (by simp [e]) (VU hi h')
   ·split at h'
    ·rename_i ej;subst ej;exact absurd (by simp [e]) (VU hi h)
    ·exact DF hi h h' e
theorem iN(ρ:List (Nat × Nat))(k:Nat):∀(i:Nat) (rows:List (List FD)),Vf ρ (zh k i rows)=zh (rn ρ k) i rows
 |_,[]=>rfl
 |i,r::rs=>by simp only [zh,Vf,Wy,iN ρ k (i+1) rs]
theorem iA{n k:Nat}(h:k<n):∀(i:Nat) (rows:List (List FD)),qV (vM n) (zh k i rows)=true
 |_,[]=>rfl
 |i,r::rs=>by
  have:Nat.blt k n=true:=Nat.ble_eq_true_of_le h;simp only [zh,qV,vM,this,iA h (i+1) rs]
theorem iB{n k:Nat}(h:k<n):∀(i:Nat) (es:List (Int × ME)),Vb n es=true->qV (vM n) (kY k i es)=true
 |_,[],_=>rfl
 |i,(_,.row r)::es,hs=>by
  have:Nat.blt k n=true:=Nat.ble_eq_true_of_le h;simp only [kY,qV,vM,this,iB h (i+1) es hs]
 |i,(_,.out c)::es,hs=>by
  simp only [Vb] at hs;split at hs
  ·rename_i hc;have e0:∀y:Int,vM n (.f (.c (.int .i64 y)))=true:=fun _=>rfl;simp only [kY,qV,e0,hc,iB h (i+1) es hs]
  ·cases hs
section
variable{p:Par}{E E0:qq}{S S0:Bx}{nk n0:Nat}{ρ:List (Nat × Nat)}
theorem YI{Z:Nat->Prop}{β:qw}{H:Hp}{F:T V}(hS:SR p Z β H S nk)(hE:ER Z β H E F)(hw:Wk p ρ n0 E0 S0 E S):SR p Z (wB ρ n0 β) H S0 n0/\ER Z (wB ρ n0 β) H E0 F:=by
 have hb0:∀k i,k<n0->wB ρ n0 β (k,i)=β (rn ρ k,i):=fun k i hk=>by simp [wB,hk]
 have hP:∀{l l':List (Nat × Nat)},L0 n0 l=true->jY β (UV ρ l) l'->jY (wB ρ n0 β) l l':=by
  intro l;induction l with
  |nil=>intro l' _ h;cases l' with
   |nil=>trivial
   |cons _ _=>exact h.elim
  |cons q l ih=>
   obtain⟨k,o⟩:=q;intro l' hs h;simp only [L0] at hs;split at hs
   ·rename_i hk;cases l' with
    |nil=>exact h.elim
    |cons q' l'=>
     obtain⟨b,o'⟩:=q';exact⟨h.1,by obtain⟨N,hN⟩:=h.2.1;exact⟨N,by rw [hb0 k 0 (Nat.le_of_ble_eq_true hk)];exact hN⟩,ih hs h.2.2⟩
   ·cases hs
 have hC:∀d c,vM n0 d=true->RD Z H β (Wy ρ d) c->RD Z H (wB ρ n0 β) d c:=fun d c hs hr=>by
  cases d with
  |ptr k o=>obtain⟨b,N,h1,h2⟩:=hr;exact⟨b,N,by rw [hb0 k 0 (Nat.le_of_ble_eq_true hs)];exact h1,h2⟩
  |tptr k i o=>obtain⟨b,N,h1,h2⟩:=hr;exact⟨b,N,by rw [hb0 k (i+1) (Nat.le_of_ble_eq_true hs)];exact h1,h2⟩
  |trow k i o n=>
   have hk:=Nat.le_of_ble_eq_true hs;rcases hr with⟨h1,h2⟩|⟨b,N,cap,ex,h1,h2⟩
   ·exact .inl ⟨by rw [hb0 k (i+1) hk];exact h1,h2⟩
   ·exact .inr ⟨b,N,cap,ex,by rw [hb0 k (i+1) hk];exact h1,h2⟩
  |own k o n e=>
   have hk:=Nat.le_of_ble_eq_true hs;rcases hr with⟨h1,h2⟩|⟨b,N,cap,ex,h1,h2⟩
   ·exact .inl ⟨by rw [hb0 k 0 hk];exact h1,h2⟩
   ·exact .inr ⟨b,N,cap,ex,by rw [hb0 k 0 hk];exact h1,h2⟩
  |om k=>obtain⟨b,N,h1,h2⟩:=hr;exact⟨b,N,by rw [hb0 k 0 (Nat.le_of_ble_eq_true hs)];exact h1,h2⟩
  |yl k=>obtain⟨b,N,h1,h2⟩:=hr;exact⟨b,N,by rw [hb0 k 0 (Nat.le_of_ble_eq_true hs)];exact h1,h2⟩
  |fn f caps=>obtain⟨l',h1,h2⟩:=hr;exact⟨l',h1,hP hs h2⟩
  |_=>exact hr
 have hL:∀{l:List DC} {cs:List C},qV (vM n0) l=true->qg (RD Z H β) (Vf ρ l) cs->qg (RD Z H (wB ρ n0 β)) l cs:=by
  intro l;induction l with
  |nil=>intro cs _ h;cases cs with
   |nil=>trivial
   |cons _ _=>exact h.elim
  |cons d l ih=>intro cs ho h;cases cs with
   |nil=>exact h.elim
   |cons c cs=>
    have h1:=ye ho d (by simp);have h2:qV (vM n0) l=true:=by simp only [qV,h1] at ho;exact ho
    exact⟨hC d c h1 h.1,ih h2 h.2⟩
 refine⟨⟨hS.wf,hS.lo,hS.z,hS.zlo,hS.zz,hS.glob,fun k hk=>by simp [wB];omega,fun k b N hk=>?_,fun k x hk=>?_,fun k k' x x' b N N' hk hk' h1 h2=>?_,fun k b N hk=>?_,fun κ hκ hz0=>by rw [hb0 κ.1 κ.2 (Nat.lt_of_lt_of_le hκ (sI hw.a)),LC hw.a hκ];exact hS.anch κ hκ hz0,sI hw.a⟩,fun t v ht=>?_⟩
 ·by_cases hkn:k.1<n0
  ·rw [hb0 k.1 k.2 hkn] at hk;exact hS.bd _ b N hk
  ·simp [wB,hkn] at hk
 ·obtain⟨y,hy⟩:=yy hk;obtain⟨h1,h2,h3⟩:=hw.s.at hy;obtain⟨j,i⟩:=k;have hk2:qP S (rn ρ j,i)=some (XH ρ x):=by
   simp only at hy h1;cases i with
   |zero=>
    simp only [qP,hy] at hk;simp only [qP,h1];cases y with
    |tree rows=>obtain rfl:=zsi hk;simp only [XH,iN]
    |mp ks l=>obtain rfl:=zsi hk;rfl
    |mt es=>obtain rfl:=zsi hk;simp only [XH,Kv];rw [YU (Wy ρ) j (rn ρ j) (fun _=>rfl) (fun _ _=>rfl)]
    |cells l=>obtain rfl:=zsi hk;rfl
    |data l=>obtain rfl:=zsi hk;rfl
   |succ i=>
    simp only [qP,hy] at hk;simp only [qP,h1];cases y with
    |tree rows=>
     cases hr:rows[i]? with
     |none=>simp only [hr] at hk;cases hk
     |some r=>simp only [hr] at hk;obtain rfl:=zsi hk;simp only [XH,hr];rfl
    |mp ks l=>cases hk
    |mt es=>
     obtain⟨y',r,e1,rfl⟩:=wo hk;show we (wg (Wy ρ) es)[i]?=_;rw [WJ,e1];rfl
    |cells l=>cases hk
    |data l=>cases hk
  have hsm:Wn n0 x=true:=by
   simp only at hy;cases i with
   |zero=>
    simp only [qP,hy] at hk;cases y with
    |tree rows=>obtain rfl:=zsi hk;exact iA h3 0 rows
    |mp ks l=>obtain rfl:=zsi hk;exact h2
    |mt es=>obtain rfl:=zsi hk;exact iB h3 0 es h2
    |cells l=>obtain rfl:=zsi hk;exact h2
    |data l=>obtain rfl:=zsi hk;exact h2
   |succ i=>
    simp only [qP,hy] at hk;cases y with
    |tree rows=>
     cases hr:rows[i]? with
     |none=>simp only [hr] at hk;cases hk
     |some r=>simp only [hr] at hk;obtain rfl:=zsi hk;rfl
    |mp ks l=>cases hk
    |mt es=>obtain⟨y',r,e1,rfl⟩:=wo hk;rfl
    |cells l=>cases hk
    |data l=>cases hk
  obtain⟨s,hs,hbx⟩:=hS.box _ _ hk2;refine⟨s,by rw [hb0 j i h3];exact hs,?_⟩;cases s with
  |nil=>cases x with
   |cells l=>cases l with
    |nil=>rfl
    |cons _ _=>cases hbx
   |data l=>exact hbx
   |tree l=>exact hbx
   |mp ks l=>cases l with
    |nil=>rfl
    |cons _ _=>cases hbx
   |mt es=>cases es with
    |nil=>rfl
    |cons _ _=>cases hbx
  |blk b N=>
   obtain⟨g1,g2,g3,cs,rest,g4,g5,g6⟩:=hbx;refine⟨g1,g2,g3,cs,rest,by rw [eF] at g4;exact g4,by rw [eF] at g5;exact g5,?_⟩;cases x with
   |cells l=>exact hL hsm g6
   |data l=>exact g6
   |tree l=>exact g6
   |mp ks l=>exact hL hsm g6
   |mt es=>exact g6
 ·have k1:=(hw.s.at hk).2.2;have k2:=(hw.s.at hk').2.2;obtain⟨k,i⟩:=k;obtain⟨k',i'⟩:=k';simp only at k1 k2 hk hk';rw [hb0 k i k1] at h1;rw [hb0 k' i' k2] at h2;have:=hS.inj (rn ρ k,i) (rn ρ k',i') _ _ b N N' (hw.s.at hk).1 (hw.s.at hk').1 h1 h2;obtain⟨e1,rfl⟩:=Prod.mk.inj this;rw [DF hw.i hk hk' e1]
 ·by_cases hkn:k.1<n0
  ·rw [hb0 k.1 k.2 hkn] at hk;exact hS.blo _ b N hk
  ·simp [wB,hkn] at hk
 ·obtain⟨h1,h2⟩:=hw.e.at ht;obtain⟨v',hv',hr⟩:=hE t _ h1;refine⟨v',hv',?_⟩;cases v with
  |one d=>obtain⟨c,rfl,hr⟩:=hr;exact⟨c,rfl,hC d c h2 hr⟩
  |agg l=>obtain⟨c,rfl,hr⟩:=hr;exact⟨c,rfl,hL h2 hr⟩
  |tup l=>obtain⟨c,rfl,hr⟩:=hr;exact⟨c,rfl,KP h2 hr⟩
theorem fV{Z:Nat->Prop}{β:qw}{H:Hp}{F:T V}(hS:SR p Z β H S nk)(hE:ER Z β H E F)(hw:Wk p ρ n0 E0 S0 E S):∃β0,SR p Z β0 H S0 n0/\ER Z β0 H E0 F:=⟨_,YI hS hE hw⟩
end
section
variable{p:Par}{n:Nat}{Q:Exit->qq->Bx->Nat->Prop}{E:qq}{S:Bx}{nk:Nat}
theorem JC{s:SC}{E0:qq}{S0:Bx}{n0:Nat}(ρ:List (Nat × Nat))(hw:Wk p ρ n0 E0 S0 E S)(h:DPS p n s Q E0 S0 n0):DPS p n s Q E S nk:=.mk fun Z β H F hS hE=>by
 obtain⟨β0,h1,h2⟩:=fV hS hE hw;exact h.run Z β0 H F h1 h2
theorem xn{s:SC}(k:Nat){m:List FD}(hk:lk S k=some (.data m))(hoE:Ye (p5 k (eL m)) E)(hoS:Ye (bG k (eL m)) S)(h:DPS p n s Q (yr (rH k m) E) (yr (vO k m) (zB k S)) nk):DPS p n s Q E S nk:=.mk fun Z β H F hS hE=>by
 obtain⟨Z',hS',hE',_,_⟩:=DI hS hE hk hoE hoS;exact h.run Z' β H F hS' hE'
theorem Xn(h:Q .normal E S nk):DPS p n .skip Q E S nk:=.mk fun Z β H F hS hE=>Vw ⟨E,S,nk,Z,β,hS,hE,h⟩
theorem y6{id:Nat}(h:Q (.exit id) E S nk):DPS p n (.exit id) Q E S nk:=.mk fun Z β H F hS hE=>Vy ⟨E,S,nk,Z,β,hS,hE,h⟩
theorem qf(h:Q .ret E S nk):DPS p n .ret Q E S nk:=.mk fun Z β H F hS hE=>cY ⟨E,S,nk,Z,β,hS,hE,h⟩
theorem jq(hm:p.P.follows .mixedOrders=true){l:List SOper}{rs:Nat}(h:∀base,DPW p base rs (Q .normal) l [] [] E S nk):DPS p n (.ops l rs) Q E S nk:=.mk fun Z β H F hS hE=>by
 refine cZ hm ((h H.nx).run Z β (H.skip rs) F [] ?_ (ER.mono (H:=H) (H':=H.skip rs) (xo.of_get (fun _ h=>h) fun _ _=>rfl) (xO.refl β) hE) (fun x hx=>by cases hx) ⟨hS.lo,fun j hj _=>⟨by simp;omega,hS.wf.fresh (by omega),fun hz=>absurd (hS.z _ hz) (by omega),fun k N hk=>absurd (hS.bd k _ N hk) (by omega)⟩⟩);exact⟨hS.wf.skip rs,by simp;have:=hS.lo;omega,fun b hb=>by simp;have:=hS.z b hb;omega,hS.zlo,hS.zz,hS.glob,hS.nk,fun k b N hk=>by simp;have:=hS.bd k b N hk;omega,fun k x hk=>by
  obtain⟨s,hs,hbx⟩:=hS.box k x hk;exact⟨s,hs,y8.mono (H:=H) (H':=H.skip rs) (xO.refl β) (by simp) (fun _ _=>rfl) hbx⟩,hS.inj,hS.blo,hS.anch,hS.ancn⟩
theorem jp{a b:SC}(h:DPS p n a (LZ (DPS p n b Q) Q) E S nk):DPS p n (.seq a b) Q E S nk:=.mk fun Z β H F hS hE=>cX (yL (h.run Z β H F hS hE) fun e F' H' ⟨E',S',nk',Z',β',h1,h2,h3⟩=>by
 cases e with
 |normal=>exact h3.run Z' β' H' F' h1 h2
 |_=>exact⟨E',S',nk',Z',β',h1,h2,h3⟩)
theorem qd{d:Opd}{a b:SC}{t:Bool}(ht:ro E d=some (.bool t))(h1:t=true->DPS p n a Q E S nk)(h2:t=false->DPS p n b Q E S nk):DPS p n (.cond d a b) Q E S nk:=.mk fun Z β H F hS hE=>by
 refine Jd (t:=t) (zT hE ht) ?_;cases t with
 |true=>exact (h1 rfl).run Z β H F hS hE
 |false=>exact (h2 rfl).run Z β H F hS hE
theorem Qi{id:Nat}{a:SC}(h:DPS p n a (FC id Q) E S nk):DPS p n (.block id a) Q E S nk:=.mk fun Z β H F hS hE=>Wj (yL (h.run Z β H F hS hE) fun e F' H' ⟨E',S',nk',Z',β',h1,h2,h3⟩=>by
 cases e with
 |exit id'=>
  simp only [FC] at h3;simp only [Y5];by_cases e:id'=id
  ·subst e;rw [jU] at h3;rw [if_pos rfl];exact⟨E',S',nk',Z',β',h1,h2,h3⟩
  ·rw [jr e] at h3;rw [if_neg e];exact⟨E',S',nk',Z',β',h1,h2,h3⟩
 |_=>exact⟨E',S',nk',Z',β',h1,h2,h3⟩)
theorem qm{a:SC}(I:Nat->qq->Bx->Nat->Prop)(h0:∃m E0 S0 n0 ρ,Wk p ρ n0 E0 S0 E S/\I m E0 S0 n0)(round:∀m E S nk,I m E S nk->DPS p n a (LZ (fun E' S' _=>∃m',m'<m/\∃E0 S0 n0 ρ,Wk p ρ n0 E0 S0 E' S'/\I m' E0 S0 n0) Q) E S nk):DPS p n (.loop a) Q E S nk:=.mk fun Z β H F hS hE=>by
 obtain⟨m,E0,S0,n0,ρ,hw,hI⟩:=h0;obtain⟨β0,g1,g2⟩:=fV hS hE hw;refine Vx (fun m F H=>∃E S nk Z β,SR p Z β H S nk/\ER Z β H E F/\I m E S nk) (m:=m) ⟨E0,S0,n0,Z,β0,g1,g2,hI⟩ ?_;rintro m F H ⟨E,S,nk,Z,β,hS,hE,hI⟩;refine yL ((round m E S nk hI).run Z β H F hS hE) fun e F' H' ⟨E',S',nk',Z',β',h1,h2,h3⟩=>?_;cases e with
 |normal=>
  obtain⟨m',hm',E1,S1,n1,ρ1,hw1,hI1⟩:=h3;obtain⟨β1,g1,g2⟩:=fV h1 h2 hw1;exact⟨m',hm',E1,S1,n1,Z',β1,g1,g2,hI1⟩
 |_=>exact⟨E',S',nk',Z',β',h1,h2,h3⟩
theorem Zo{s:SC}(k:Nat){rows:List (List FD)}(hk:lk S k=some (.tree rows))(hoE:Ye (p5 k (MA rows)) E)(hoS:Ye (bG k (MA rows)) S)(h:DPS p n s Q (yr (rH k (rows.map zI)) E) (yr (vO k (rows.map zI)) (zB k S)) nk):DPS p n s Q E S nk:=.mk fun Z β H F hS hE=>by
 obtain⟨Z',hS',hE',_,_⟩:=PM hS hE hk hoE hoS;exact h.run Z' β H F hS' hE'
theorem vD{s:SC}(t esz:Nat)(ht:lk E t=some (.one (.f (.c .nils))))(h:DPS p n s Q ((t,.one (.own nk 0 0 esz))::E) ((nk,.data [])::S) (nk+1)):DPS p n s Q E S nk:=.mk fun Z β H F hS hE=>by
 refine h.run Z _ H F (Zi hS) fun k d hd=>?_;rw [qQ] at hd;split at hd
 ·rename_i e;subst e;obtain rfl:=zsi hd;obtain⟨v,hv,c,rfl,hr⟩:=hE _ _ ht;cases hr;exact⟨_,hv,_,rfl,.inl ⟨xu _ _ _,rfl,rfl,rfl⟩⟩
 ·exact hE.mono (xo.refl Z H) (hS.ble .nil) k d hd
theorem cG{s:SC}(t esz:Nat)(ht:lk E t=some (.one (.f (.c .nils))))(h:DPS p n s Q ((t,.one (.f (.sl esz 0 [])))::E) S nk):DPS p n s Q E S nk:=.mk fun Z β H F hS hE=>by
 refine h.run Z β H F hS fun k d hd=>?_;rw [qQ] at hd;split at hd
 ·rename_i e;subst e;obtain rfl:=zsi hd;obtain⟨v,hv,c,rfl,hr⟩:=hE _ _ ht;cases hr;exact⟨_,hv,_,rfl,RF.nil esz⟩
 ·exact hE k d hd
end
def QY:List DV->Nat->qq
 |[],_=>[]
 |d::l,i=>(i,d)::QY l (i+1)
theorem ZT{Z:Nat->Prop}{β:qw}{H:Hp}:∀{ds:List DV} {args:List V} (i:Nat),qg (xC Z H β) ds args->ER Z β H (QY ds i) (vA args i)
 |[],[],_,_=>fun _ _ h=>by cases h
 |d::ds,v::args,i,h=>fun n x hx=>by
  simp only [QY,qQ] at hx;simp only [vA,T.get_set];split at hx
  ·rename_i e;subst e;rw [if_pos rfl];obtain rfl:=zsi hx;exact⟨v,rfl,h.1⟩
  ·rename_i e;rw [if_neg (fun h=>e h.symm)];exact ZT (i+1) h.2 n x hx
 |[],_::_,_,h=>h.elim
 |_::_,[],_,h=>h.elim
def tD(p:Par)(E:qq)(S:Bx):SRes->Option DV
 |.t n=>lk E n
 |.cell agg k n=>wi p E S agg k (.t n)
def Z9(p:Par)(E:qq)(S:Bx):List SRes->Option (List DV)
 |[]=>some []
 |r::l=>match tD p E S r,Z9 p E S l with
  |some d,some ds=>some (d::ds)
  |_,_=>none
def j7(p:Par)(E:qq)(S:Bx)(rs:List SRes):Option DV:=match Z9 p E S rs with
 |some [.one c]=>some (.one c)
 |some [.agg l]=>some (.agg l)
 |some [.tup _]=>none
 |some ds=>some (.tup ds)
 |none=>none
def WO:DV->Bool
 |.tup _=>false
 |_=>true
section
variable{p:Par}{E:qq}{S:Bx}{nk:Nat}
theorem pM{Z:Nat->Prop}{β:qw}{H:Hp}{F:T V}(hS:SR p Z β H S nk)(hE:ER Z β H E F){r:SRes}{d:DV}(h:tD p E S r=some d):∃v,Kp F H r=some v/\xC Z H β d v:=by
 cases r with
 |t n=>obtain⟨v,hv,hr⟩:=hE n d h;exact⟨v,by simp [Kp,hv],hr⟩
 |cell agg k n=>obtain⟨v,hv,hr,_⟩:=V5 hS hE h;exact⟨v,hv,xC.of1 hr⟩
theorem Ak{Z:Nat->Prop}{β:qw}{H:Hp}{d:DV}{v:V}(hr:xC Z H β d v)(hd:bT d=true):w9 v=true/\zw Z H β d v:=by
 cases d with
 |one d=>obtain⟨c,rfl,hr⟩:=hr;exact⟨rfl,c,rfl,hr⟩
 |agg l=>obtain⟨c,rfl,hr⟩:=hr;exact⟨rfl,c,rfl,hr⟩
 |tup l=>cases hd
theorem VH{Z:Nat->Prop}{β:qw}{H:Hp}{F:T V}(hS:SR p Z β H S nk)(hE:ER Z β H E F):∀{l:List SRes} {ds:List DV},Z9 p E S l=some ds->qV bT ds=true->∃vs,vG F H l=some vs/\qg (zw Z H β) ds vs
 |[],ds,h,_=>by obtain rfl:=zsi h;exact⟨[],rfl,trivial⟩
 |r::l,ds,h,hf=>by
  simp only [Z9] at h;split at h
  ·rename_i d q h1 h2;obtain rfl:=zsi h;have f1:=ye hf d (by simp);have f2:qV bT q=true:=by simp only [qV,f1] at hf;exact hf
   obtain⟨v,e1,e2⟩:=pM hS hE h1;obtain⟨vs,e3,e4⟩:=VH hS hE h2 f2;obtain⟨o1,o2⟩:=Ak e2 f1;exact⟨v::vs,by simp only [vG,e1,e3,o1,if_true],o2,e4⟩
  ·cases h
theorem tC{Z:Nat->Prop}{β:qw}{H:Hp}{F:T V}(hS:SR p Z β H S nk)(hE:ER Z β H E F){rs:List SRes}{d:DV}(h:j7 p E S rs=some d)(hf:WT d=true):∃v,yb F H rs=some v/\xC Z H wG d v:=by
 unfold j7 at h;have one:∀d',Z9 p E S rs=some [d']->bT d'=true->∃v,yb F H rs=some v/\xC Z H wG d' v:=fun d' hd' hf'=>by
  obtain⟨vs,h1,h2⟩:=VH hS hE hd' (by simp [qV,hf'])
  match vs,h1,h2 with
  |[v],h1,h2=>exact⟨v,by simp only [yb,h1],xC.of1 (DJ hf' h2.1)⟩
 split at h
 ·rename_i c hd';obtain rfl:=zsi h;exact one _ hd' hf
 ·rename_i l hd';obtain rfl:=zsi h;exact one _ hd' hf
 ·cases h
 ·rename_i ds hn1 hn2 hn3 hds;obtain rfl:=zsi h;obtain⟨vs,h1,h2⟩:=VH hS hE hds hf;refine⟨.tup vs,?_,vs,rfl,KP hf h2⟩;have hl:=h2.len;unfold yb;rw [h1]
  match vs,hl with
  |[],_=>rfl
  |[v],hl=>
   match ds,hl with
   |[.one d],_=>exact (hn1 d rfl).elim
   |[.agg d],_=>exact (hn2 d rfl).elim
   |[.tup d],_=>exact (hn3 d rfl).elim
  |_::_::_,_=>rfl
 ·cases h
end
def GF(p:Par)(rs:List SRes)(R:DV->Prop):Exit->qq->Bx->Nat->Prop
 |.normal,E,S,_=>∃d,j7 p E S rs=some d/\WT d=true/\R d
 |.ret,E,S,_=>∃d,j7 p E S rs=some d/\WT d=true/\R d
 |_,_,_,_=>False
theorem qD{P:Program}{G:Nat}{GH:Hp}{f:FuncId}{sf:SFn}(hf:qG P G f=some sf){ds:List DV}{R:DV->Prop}(hn:Nat.ble ds.length sf.n=true)(hG:∀b bk,GH.get b=some bk->bk.ro=some bk)(h:∀Z0 lo,DPS (Par.base P G GH Z0 lo) sf.n sf.code (GF (Par.base P G GH Z0 lo) sf.res R) (QY ds 0) [] 0):yd P G GH f ds R:=by
 intro H Z args hw hz hg ha;have hro:qH P G f args H.ro fun v H1=>WF H1/\H.nx<=H1.nx/\∃d Z1,(∀b,Z1 b->Z b\/H.nx<=b)/\(∀b,Z1 b->b<H1.nx)/\xC Z1 H1 wG d v/\R d:=by
  have hwr:WF H.ro:=fun b bk hb=>by
   rw [Hp.get_ro,Option.bind_eq_some_iff] at hb;obtain⟨x,hx,_⟩:=hb;exact hw b x hx
  refine (JA hf (by rw [<-ha.len];exact Nat.le_of_ble_eq_true hn) ?_);have hS:SR (Par.base P G GH Z H.nx) Z wG H.ro [] 0:=⟨hwr,Nat.le_refl _,hz,fun b hb=>.inl hb,fun b hb=>hb,fun b bk hb=>(by rcases hb with hb|⟨_,hb⟩;exact⟨(hg b bk hb).1,by rw [Hp.get_ro,(hg b bk hb).2];exact hG b bk hb⟩;cases hb),fun _ _=>rfl,fun _ _ _ hk=>(by cases hk),fun κ x hk=>(by obtain⟨y,hy⟩:=yy hk;cases hy),fun _ _ _ _ _ _ _ hk=>(by cases hk),fun _ _ _ hk=>(by cases hk),fun _ _ _=>rfl,Nat.le_refl _⟩
  have hE:ER Z wG H.ro (QY ds 0) (vA args 0):=ZT 0 (ha.mono fun _ _ hr=>xC.mono (xo.of_le (fun _ h=>h) (Le.ro H)) (xO.refl wG) hr);refine yL ((h Z H.nx).run Z wG H.ro _ hS hE) fun e F' H' ⟨E',S',nk',Z',β',h1,h2,h3⟩=>?_;have fin:(∃d,j7 (Par.base P G GH Z H.nx) E' S' sf.res=some d/\WT d=true/\R d)->∃v,yb F' H' sf.res=some v/\WF H'/\H.nx<=H'.nx/\∃d Z1,(∀b,Z1 b->Z b\/H.nx<=b)/\(∀b,Z1 b->b<H'.nx)/\xC Z1 H' wG d v/\R d:=fun⟨d,hd,hfr,hR⟩=>by
   obtain⟨v,hv,hr⟩:=tC h1 h2 hd hfr;exact⟨v,hv,h1.wf,h1.lo,d,Z',h1.zlo,h1.z,hr,hR⟩
  cases e with
  |normal=>obtain⟨v,hv,hr⟩:=fin h3;simp only [Xc,hv];exact hr
  |ret=>obtain⟨v,hv,hr⟩:=fin h3;simp only [Xc,hv];exact hr
  |_=>exact h3.elim
 refine (qH.none (qH.wf (qH.grow hro))).mono ?_;rintro v H' ⟨⟨⟨H1,⟨w1,n1,d,Z1,z1,z2,hr,hR⟩,e1,e2,e3,e4,e5⟩,hw'⟩,hno⟩;have hnx:H'.nx=H1.nx:=by rw [e1];rfl
 refine⟨hw',by omega,fun b hb=>?_,d,hr.mono (xo.of_le (fun b hb=>?_) e5) (xO.refl wG),hR⟩
 ·cases hgb:H.get b with
  |none=>exact hno b hb hgb
  |some bk=>exact e3 b bk hgb
 ·rcases z1 b hb with h|h
  ·exact .inl h
  ·exact .inr ⟨h,by rw [hnx];exact z2 b hb⟩
def yu{α:Type}(E0 E:List (Nat × α)):Prop:=∀k v,lk E0 k=some v->lk E k=some v
theorem qy{α:Type}(E:List (Nat × α)):yu [] E:=fun _ _ h=>by cases h
theorem zK{α:Type}(E:List (Nat × α)):yu E E:=fun _ _ h=>h
theorem qe{α:Type}{E0 E:List (Nat × α)}{k:Nat}{v:α}(h:lk E k=some v)(hr:yu E0 E):yu ((k,v)::E0) E:=fun n x hx=>by
 rw [qQ] at hx;split at hx
 ·rename_i e;subst e;rw [h];exact hx
 ·exact hr n x hx
section
variable{p:Par}{n:Nat}{Q:Exit->qq->Bx->Nat->Prop}{E E0:qq}{S S0:Bx}{nk:Nat}
theorem rD{Z:Nat->Prop}{β:qw}{H:Hp}{F:T V}(hS:SR p Z β H S nk)(hE:ER Z β H E F)(h1:yu E0 E)(h2:yu S0 S):SR p Z β H S0 nk/\ER Z β H E0 F:=
 ⟨hS.keepS h2,fun t d ht=>hE t d (h1 t d ht)⟩
theorem qu{s:SC}(h1:yu E0 E)(h2:yu S0 S)(h:DPS p n s Q E0 S0 nk):DPS p n s Q E S nk:=.mk fun Z β H F hS hE=>by
 obtain⟨g1,g2⟩:=rD hS hE h1 h2;exact h.run Z β H F g1 g2
end
section
variable{p:Par}{base rs:Nat}{Q:qq->Bx->Nat->Prop}{l:List SOper}{W:Wt}{A:List Nat}{E E0:qq}{S S0:Bx}{nk:Nat}
theorem yB(h1:yu E0 E)(h2:yu S0 S)(h:DPW p base rs Q l W A E0 S0 nk):DPW p base rs Q l W A E S nk:=.mk fun Z β H F c hS hE hC hA=>by
 obtain⟨g1,g2⟩:=rD hS hE h1 h2;exact h.run Z β H F c g1 g2 hC hA
end
section
variable{p:Par}{base rs:Nat}{Q:qq->Bx->Nat->Prop}{r:List SOper}{W:Wt}{A:List Nat}{E:qq}{S:Bx}{nk:Nat}{id:Nat}{dst:Option Nat}{aid:Option Nat}{ws:List Nat}{keep:Bool}
theorem KV{op:PureOp}{t b:Bool}(hd:jg E op=some (.bool t))(ht:t=b)(h:DPW p base rs Q r W A (xk E dst (.bool b)) S nk):DPW p base rs Q (⟨id,dst,.p op,none,aid,ws,keep⟩::r) W A E S nk:=zJ hd (ht▸h)
end
theorem qo{n:Int}(h1: -9223372036854775808<=n)(h2:n<9223372036854775808):IntKind.i64.wrap n=n:=by
 simp [IntKind.wrap,IntKind.signed,IntKind.bits];split<;>omega
theorem KT{Z:Nat->Prop}{H:Hp}{β:qw}:∀{ds:List DV} {vs args:List V},qg (fun d v=>bW d=some v) ds vs->qg (xC Z H β) ds args->args=vs
 |[],[],[],_,_=>rfl
 |_::_,_::_,_::_,h,hr=>by rw [D3 h.1 hr.1,KT h.2 hr.2]
 |[],_::_,_,h,_=>h.elim
 |_::_,[],_,h,_=>h.elim
 |[],[],_::_,_,hr=>hr.elim
 |_::_,_::_,[],_,hr=>hr.elim
theorem yd.of_pure{P:Program}{G:Nat}{GH:Hp}{f:FuncId}{ds:List DV}{vs:List V}{c:C}(hex:qg (fun d v=>bW d=some v) ds vs)(hc:c.closed=true)(h:∀H,(∀b bk,GH.get b=some bk->H.get b=some bk)->qH P G f vs H fun v H'=>v=.one c/\H'=H):yd P G GH f ds fun d=>d=.one (.f (.c c)):=fun H Z args hw hz hg ha=>by
 rw [KT hex ha];refine (h H fun b bk hb=>(hg b bk hb).2).mono ?_;rintro v H' ⟨rfl,rfl⟩;exact⟨hw,Nat.le_refl _,fun _ _=>rfl,_,wq hc,rfl⟩
theorem oM{P:Prop}(h:P:=by omega):P:=h
theorem aM{P:Prop}(h:P:=by assumption):P:=h
theorem cgI{n:Int}(h1: -9223372036854775808≤n)(h2:n<9223372036854775808):some (DV.int (IntKind.i64.wrap n))=some (DV.int n):=congrArg (fun z=>some (DV.int z)) (qo h1 h2)
theorem cgD{x y:List FD}(h:x=y):some (Bk.data x)=some (Bk.data y):=congrArg (fun z=>some (Bk.data z)) h
theorem ql{P:Prop}(h:P:=by exact⟨by repeat (first|exact trivial|refine⟨by first|rfl|exact cgI (by omega) (by omega),rfl,?_⟩),by repeat (first|exact trivial|refine⟨by first|rfl|exact cgD (by assumption),rfl,rfl,?_⟩),rfl,rfl⟩):P:=h
theorem ze{P:Prop}(h:P:=by repeat (first|exact trivial|refine⟨by first|rfl|exact cgI (by omega) (by omega),rfl,?_⟩)):P:=h
theorem qR{P:Prop}(h:P:=by repeat' (first|exact trivial|rfl|assumption|refine⟨?_,?_⟩)):P:=h
theorem Qy{P:Prop}(h:P:=by first|exact fun _=>rfl|exact fun h=>(by simp only [if_pos h];rfl)|exact fun h=>(by simp only [h,if_true,if_false];rfl)):P:=h
end Go.Ab
