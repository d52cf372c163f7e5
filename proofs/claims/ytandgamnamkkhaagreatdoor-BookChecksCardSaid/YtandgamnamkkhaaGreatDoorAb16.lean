/- -/
import Derived.Test.YtandgamnamkkhaaGreatDoorAb15
set_option linter.unusedSimpArgs false
set_option linter.unusedVariables false
set_option maxRecDepth 8000
namespace Go.Ab
def setLs{α:Type}(l:List α)(i:Nat):List α->List α
 |[]=>l
 |c::cs=>setLs (l.set i c) (i+1) cs
theorem Z4:∀(cs l rest:List C) (i:Nat),i+cs.length<=l.length->wn (l++rest) i cs=wn l i cs++rest
 |[],_,_,_,_=>rfl
 |c::cs,l,rest,i,h=>by
  simp only [List.length_cons] at h;simp only [wn];rw [List.set_append_left _ _ (by omega)];exact Z4 cs _ rest (i+1) (by simp;omega)
theorem qe.set{α β:Type}{R:α->β->Prop}:∀{l:List α} {m:List β},qe R l m->∀(i:Nat) {a:α} {b:β},R a b->qe R (l.set i a) (m.set i b)
 |[],[],_,_,_,_,_=>trivial
 |_::_,_::_,h,0,_,_,hr=>⟨hr,h.2⟩
 |_::_,_::_,h,i+1,_,_,hr=>⟨h.1,qe.set h.2 i hr⟩
 |[],_::_,h,_,_,_,_=>h.elim
 |_::_,[],h,_,_,_,_=>h.elim
theorem qe.setLs{α:Type}{R:α->C->Prop}:∀{ds:List α} {cs:List C},qe R ds cs->∀{l:List α} {m:List C} (i:Nat),qe R l m->qe R (setLs l i ds) (wn m i cs)
 |[],[],_,_,_,_,h=>h
 |_::_,_::_,hd,_,_,i,h=>qe.setLs hd.2 (i+1) (qe.set h i hd.1)
 |[],_::_,h,_,_,_,_=>h.elim
 |_::_,[],h,_,_,_,_=>h.elim
theorem X7:∀(pre old cs rest:List C),cs.length=old.length->wn (pre++(old++rest)) pre.length cs=pre++(cs++rest)
 |_,[],[],_,_=>by simp [wn]
 |pre,o::old,c::cs,rest,h=>by
  simp only [wn];have e:(pre++(o::old++rest)).set pre.length c=(pre++[c])++(old++rest):=by simp
  rw [e];have:=X7 (pre++[c]) old cs rest (by simpa using h);simp only [List.length_append,List.length_cons,List.length_nil] at this;rw [this];simp
 |_,[],_::_,_,h=>by simp at h
 |_,_::_,[],_,h=>by simp at h
def QC(x:Bk)(o:Nat)(l:List DC):Bk:=match x with
 |.cells m=>.cells (setLs m o l)
 |.data m=>match iP l with
  |some q=>.data (setLs m o q)
  |none=>.cells (setLs (m.map .f) o l)
 |x=>x
section
variable{p:Par}{base rs:Nat}{Q:qo->Bx->Nat->Prop}{r:List SOper}{W:Wt}{A:List Nat}{E:qo}{S:Bx}{nk:Nat}{id:Nat}{dst:Option Nat}{aid:Option Nat}{ws:List Nat}{keep:Bool}
theorem FK{k:Nat}(h:YJ S k W=true):kr S k W=true:=by
 unfold YJ at h;split at h
 ·exact h
 ·cases h
theorem NH{Z:Nat->Prop}{β:qq}{H:Hp}{x:Bk}{o:Nat}{l:List DC}{cs ks:List C}(hsh:x.shape=none)(hx:x.rel Z H β cs)(hl:qe (RD Z H β) l ks):(QC x o l).rel Z H β (wn cs o ks):=by
 cases x with
 |cells m=>exact qe.setLs hl o hx
 |data m=>
  simp only [QC];split
  ·rename_i q hq;exact qe.setLs (V4 hq hl) o hx
  ·exact qe.setLs hl o (wL hx)
 |tree rows=>exact hx.elim
 |mp ks l=>cases hsh
 |mt es=>exact hx.elim
theorem sJ{x:Bk}{o:Nat}{l:List DC}(hsh:x.shape=none):(QC x o l).shape=none:=by
 cases x with
 |cells m=>rfl
 |data m=>simp only [QC];split<;>rfl
 |tree rows=>rfl
 |mp ks l=>cases hsh
 |mt es=>rfl
theorem AR.upd{Z:Nat->Prop}{β:qq}{H H':Hp}{b:Nat}(hA:AR p base rs A Z β H)(hnx:H'.nx=H.nx)(hg:∀b',b'≠b->H'.get b'=H.get b'){k:x9}{N:Nat}(hb:β k=some (.blk b N)):AR p base rs A Z β H':=by
 refine⟨hA.1,fun j hj hjA=>?_⟩;obtain⟨h1,h2,h3,h4⟩:=hA.2 j hj hjA;exact⟨by omega,by rw [hg _ (fun e=>h4 k N (by rw [e];exact hb))];exact h2,h3,h4⟩
theorem CR.upd{Z:Nat->Prop}{β:qq}{H H':Hp}{b:Nat}{k:x9}{N:Nat}{c:za}{x:Bk}(hS:SR p Z β H S nk)(hk:lk S k.1=some x)(hC:CR W Z β H c)(hZ:xd Z H Z H')(hg:∀b',b'≠b->H'.get b'=H.get b')(hb:β k=some (.blk b N))(hw:kr S k.1 W=true):CR W Z β H' c:=hC.step hZ (xD.refl _) fun y hy j o n e b' N' i q hj _ _ hq=>by
 obtain⟨⟨z,hz⟩,hne⟩:=Q5 hw y hy j o n e;have:b'≠b:=fun e'=>hne (by rw [hS.inj j k z x b N' N hz hk (e'▸hj) hb]);unfold Hp.cell at hq ⊢;rw [hg b' this];exact hq
theorem vq {n:Nat} {a v:Opd} {k o:Nat} {x:Bk} {d:DV} {l:List DC} (ha:ro E a=some (.one (.ptr k o))) (hv:ro E v=some d) (hl:JI d=some l) (hn:l.length=n) (hk:lk S k=some x) (hle:o+n<=x.len) (hw:YJ S k W=true)
 (h:DPW p base rs Q r W A (qX E dst .undef) (put k (QC x o l) S) nk):DPW p base rs Q (⟨id,dst,.e (.store n a v),none,aid,ws,keep⟩::r) W A E S nk:=.mk fun Z β H F c QP hS hE hC hA=>by
 obtain⟨ca,hca,b,N,hb,rfl⟩:=xj hE ha;obtain⟨ks,hk1,hk2⟩:=JH (xj hE hv) hl;have hfl:=dQ hw hk;have hsh:=lF hw hk;obtain⟨s,hs,hbx⟩:=hS.box (k,0) x (xL hk hfl);rw [hb] at hs;obtain rfl:=zsi hs;obtain⟨hz,hlo,hlt,cs,rest,hrow,hN,hrel⟩:=hbx;rw [hsh] at hrow hN;have hN:(cs++rest).length=N:=hN;have hrow:zM H b (cs++rest):=hrow;have hlen:=Bk.rel_len hrel;have hkl:=hk2.len;obtain⟨H',e1,e2,e3,e4⟩:=hrow.stores (cs:=ks) (i:=o) (by simp;omega);rw [Z4 ks cs rest o (by omega)] at e2;obtain⟨hS',hZ⟩:=hS.upd (x':=QC x o l) (cs:=wn cs o ks) (rest:=rest) hk hfl hb (NH hsh hrel hk2) e3 e4 (sJ hsh) e2 (by rw [List.length_append,Q9,<-List.length_append];exact hN);simp only [qv,qs,if_true,qM,hca,hk1];rw [if_pos (by omega),e1];have hC':=hC.upd (k:=(k,0)) hS hk hZ e3 hb (FK hw);exact⟨hC'.watch ws,h.run Z β H' _ c QP hS' ((hE.mono hZ (xD.refl _)).set dst jM) hC' (hA.upd e4 e3 hb)⟩
def E4(S:Bx)(esz:Nat)(d:DV)(m:Nat)(q:List FD):Prop:=match d with
 |.one (.own k o m' e)=>m'=m/\e=esz/\∃l,lk S k=some (.data l)/\qT l o (m*esz)=some q
 |.one (.f (.sl e m' l))=>m'=m/\e=esz/\l=q
 |.one (.f (.c .nils))=>m=0/\q=[]
 |_=>False
theorem tJ{Z:Nat->Prop}{β:qq}{H:Hp}(hS:SR p Z β H S nk){k o n esz:Nat}{c:C}(hr:RD Z H β (.own k o n esz) c){l q:List FD}(hk:lk S k=some (.data l))(hq:qT l o (n*esz)=some q):∃cs,qe (RF Z H) q cs/\((c=.nils/\n=0/\cs=[])\/∃b cap ex N,β (k,0)=some (.blk b N)/\c=.slc b o n cap esz ex/\n<=cap/\H.loads b o (n*esz)=some cs):=by
 obtain⟨hle,rfl⟩:=x6 hq;rcases hr with⟨_,rfl,rfl,rfl⟩|⟨b,N,cap,ex,hb,rfl,hcap,_⟩
 ·exact⟨[],by simp;trivial,.inl ⟨rfl,rfl,rfl⟩⟩
 ·obtain⟨s,hs,hbx⟩:=hS.box (k,0) _ (xL hk rfl);rw [hb] at hs;obtain rfl:=zsi hs;obtain⟨_,_,_,cs,rest,hrow,hN,hrel⟩:=hbx;have hN:(cs++rest).length=_:=hN;have hlen:=Bk.rel_len hrel;simp only [Bk.len] at hlen;refine⟨(cs.drop o).take (n*esz),(qe.drop hrel o).take _,.inr ⟨b,cap,ex,N,hb,rfl,hcap,?_⟩⟩;have h1:H.loads b (0+o) (n*esz)=some (((cs++rest).drop o).take (n*esz)):=kD hrow.2 (by simp;omega);rw [Nat.zero_add] at h1;rw [h1,List.drop_append_of_le_length (by omega),List.take_append_of_le_length (by simp;omega)]
theorem LL{Z:Nat->Prop}{β:qq}{H:Hp}{F:T V}(hS:SR p Z β H S nk)(hE:ER Z β H E F){x:Opd}{d:DV}(hx:ro E x=some d){esz m:Nat}{q:List FD}(hd:E4 S esz d m q):∃cs,ze H esz (x.ev F)=some (m,cs)/\qe (RF Z H) q cs/\cs.length=m*esz:=by
 have hr:=xj hE hx;unfold E4 at hd;split at hd
 ·obtain⟨rfl,rfl,l,hk,hq⟩:=hd;obtain⟨c,hc,hr⟩:=hr;obtain⟨cs,h1,h2⟩:=tJ hS hr hk hq;rcases h2 with⟨rfl,rfl,rfl⟩|⟨b,cap,ex,N,_,rfl,_,h2⟩
  ·exact⟨[],by rw [hc];rfl,h1,by simp⟩
  ·exact⟨cs,by rw [hc];simp [ze,h2],h1,zq h2⟩
 ·obtain⟨rfl,rfl,rfl⟩:=hd;obtain⟨c,hc,hr⟩:=hr;cases hr with
  |nil=>exact⟨[],by rw [hc];rfl,trivial,by simp⟩
  |sl hz hl hn hld hel=>
   rename_i b o cap ex cs;exact⟨cs,by rw [hc];simp [ze,hld],qe.mk (by rw [hl,zq hld]) hel,zq hld⟩
 ·obtain⟨rfl,rfl⟩:=hd;obtain⟨c,hc,hr⟩:=hr;cases hr;exact⟨[],by rw [hc];rfl,trivial,by simp⟩
 ·exact hd.elim
theorem AR.repl{Z:Nat->Prop}{β:qq}{H H':Hp}{b N:Nat}{k:x9}(hA:AR p base rs A Z β H)(hnx:H.nx<=H'.nx)(hg:∀b',b'≠b->(∀N,β k≠some (.blk b' N))->H'.get b'=H.get b')(hb:(∃N,β k=some (.blk b N))\/H.nx<=b):AR p base rs A Z (ju β nk (.blk b N)) H':=by
 refine⟨hA.1,fun j hj hjA=>?_⟩;obtain⟨h1,h2,h3,h4⟩:=hA.2 j hj hjA;have hne:base+j≠b:=fun e=>by
  rcases hb with⟨M,hM⟩|hb
  ·exact h4 k M (e▸hM)
  ·omega
 refine⟨by omega,by rw [hg _ hne fun M=>h4 k M];exact h2,h3,fun i M=>?_⟩;by_cases e:i=(nk,0)
 ·subst e;rw [qW];intro h;exact hne (Slot.blk.inj (zsi h)).1.symm
 ·rw [zu _ _ e];exact h4 i M
theorem CR.repl{Z:Nat->Prop}{β β':qq}{H H':Hp}{b k:Nat}{c:za}{x:Bk}(hS:SR p Z β H S nk)(hk:lk S k=some x)(hC:CR W Z β H c)(hZ:xd Z H Z H')(hB:xD β β')(hg:∀b',b'≠b->(∀N,β (k,0)≠some (.blk b' N))->H'.get b'=H.get b')(hb:(∃N,β (k,0)=some (.blk b N))\/H.nx<=b)(hw:YJ S k W=true):CR W Z β' H' c:=hC.step hZ hB fun y hy j o n e b' N' i q hj _ _ hq=>by
 obtain⟨⟨z,hz⟩,hne⟩:=GZ hw y hy j o n e;have h2:∀N,β (k,0)≠some (.blk b' N):=fun N e'=>hne (by rw [hS.inj j (k,0) z x b' N' N hz hk hj e']);have h1:b'≠b:=fun e'=>by
  rcases hb with⟨M,hM⟩|hb
  ·exact h2 M (e'▸hM)
  ·have:=hS.bd j b' N' hj;omega
 unfold Hp.cell at hq ⊢;rw [hg b' h1 h2];exact hq
theorem SR.keepS{Z:Nat->Prop}{β:qq}{H:Hp}{S0:Bx}(hS:SR p Z β H S nk)(h2:∀k x,lk S0 k=some x->lk S k=some x):SR p Z β H S0 nk:=
 ⟨hS.wf,hS.lo,hS.z,hS.zlo,hS.zz,hS.glob,hS.nk,hS.bd,fun k x hk=>hS.box k x (by
  obtain⟨y,hy⟩:=jC hk;rw [y4 (S':=S0) (by rw [hy,h2 _ _ hy])];exact hk),fun k k' x x' b N N' hk hk'=>hS.inj k k' x x' b N N' (h2 _ x hk) (h2 _ x' hk'),hS.blo,hS.anch,hS.ancn⟩
theorem QU{Z:Nat->Prop}{β:qq}{H:Hp}(hS:SR p Z β H S nk):SR p Z (ju β nk .nil) H ((nk,.data [])::S) (nk+1):=by
 have hB:=hS.ble .nil;refine⟨hS.wf,hS.lo,hS.z,hS.zlo,hS.zz,hS.glob,fun j hj=>?_,fun j b' N hj=>?_,fun j y hj=>?_,fun j j' y y' b' N N' hj hj' e1 e2=>?_,fun j b' N hj=>?_,fun κ hκ h0=>by rw [ku _ _ (by have:=hS.ancn;omega)];exact hS.anch κ hκ h0,Nat.le_succ_of_le hS.ancn⟩
 ·rw [ku _ _ (by omega)];exact hS.nk j (by omega)
 ·by_cases e:j=(nk,0)
  ·subst e;rw [qW] at hj;cases hj
  ·rw [zu _ _ e] at hj;exact hS.bd j b' N hj
 ·rw [Yi rfl] at hj;split at hj
  ·rename_i e;split at hj
   ·rename_i e2;obtain rfl:=vg e e2;obtain rfl:=zsi hj;exact⟨_,qW _ _ _,rfl⟩
   ·cases hj
  ·obtain⟨s,hs,hbx⟩:=hS.box j y hj;exact⟨s,hB j s hs,hbx.mono hB (Nat.le_refl _) fun _ _=>rfl⟩
 ·by_cases e:j=(nk,0)
  ·subst e;rw [qW] at e1;cases e1
  ·rw [zu _ _ e] at e1;by_cases e':j'=(nk,0)
   ·subst e';rw [qW] at e2;cases e2
   ·rw [zu _ _ e'] at e2;have n1:=hS.lt1 e1;have n2:=hS.lt1 e2;rw [qR,if_neg (by omega)] at hj hj';exact hS.inj j j' y y' b' N N' hj hj' e1 e2
 ·by_cases e:j=(nk,0)
  ·subst e;rw [qW] at hj;cases hj
  ·rw [zu _ _ e] at hj;exact hS.blo j b' N hj
theorem qy {esz bytes:Nat} {s v:Opd} {k n m:Nat} {l q l':List FD} {d:DV} (hs:ro E s=some (.one (.own k 0 n esz))) (hv:ro E v=some d) (hk:lk S k=some (.data l)) (hl':qT l 0 (n*esz)=some l') (hd:E4 S esz d m q) (hbb:(n+m)*bytes<=140737488355328) (h62:n+m<4611686018427387904) (he:0<esz) (hw:YJ S k W=true)
 (h:DPW p base rs Q r W A (qX E dst (.one (.own nk 0 (n+m) esz))) ((nk,.data (l'++q))::jn k S) (nk+1)):DPW p base rs Q (⟨id,dst,.e (.append esz bytes s v),none,aid,ws,keep⟩::r) W A E S nk:=.mk fun Z β H F c QP hS hE hC hA=>by
 obtain⟨news,hn1,hn2,hn3⟩:=LL hS hE hv hd;obtain⟨cs,hcs,hr⟩:=xj hE hs;obtain⟨hle,hl'e⟩:=x6 hl';rw [Nat.zero_add] at hle;rw [List.drop_zero] at hl'e;obtain⟨sk,hsk,hbx⟩:=hS.box (k,0) _ (xL hk rfl);simp only [qv,qs,if_true,qM,hn1,hcs];have hfin:∀(H':Hp) (b:Nat) (ys rest:List C) (cap:Nat) (ex:Bool),qe (RF Z H) (l'++q) ys->((∃N,β (k,0)=some (.blk b N))\/(b=H.nx))->b<H'.nx->H.nx<=H'.nx->WF H'->(∀b',b'≠b->(∀N,β (k,0)≠some (.blk b' N))->H'.get b'=H.get b')->zM H' b (ys++rest)->n+m<=cap->cap*esz<=(ys++rest).length->
  xY ws c H'/\qv p.P p.G base QP (fun F' H'=>∃E' S' nk' Z' β',SR p Z' β' H' S' nk'/\ER Z' β' H' E' F'/\Q E' S' nk') r c (qP F dst (.one (.slc b 0 (n+m) cap esz ex))) H':=by
  intro H' b ys rest cap ex hys hb hbl hnx hwf hg hrow hcap hcl;have hb':(∃N,β (k,0)=some (.blk b N))\/H.nx<=b:=hb.imp (fun h=>h) fun e=>by omega
  obtain⟨hS',hZ,hB⟩:=hS.replace (x':=.data (l'++q)) hk rfl hys (hb.imp (fun h=>h) fun e=>by subst e;exact⟨fun hz=>absurd (hS.z _ hz) (by omega),fun k N hk=>absurd (hS.bd k _ N hk) (by omega),hS.lo⟩) hbl hnx hwf hg rfl hrow;have hC':=hC.repl hS hk hZ hB hg hb' hw;exact⟨hC'.watch ws,h.run Z _ H' _ c QP hS' ((hE.mono hZ hB).set dst ⟨_,rfl,.inr ⟨b,_,cap,ex,qW _ _ _,rfl,hcap,by omega⟩⟩) hC' (hA.repl hnx hg hb')⟩
 rcases hr with⟨hnil,rfl,_,rfl⟩|⟨b,N,cap,ex,hb,rfl,hcap,hcN⟩
 ·have hl0:l'=[]:=by rw [hl'e];simp
  subst hl0;simp only [yk];rw [Nat.zero_add] at hbb h62;by_cases hm:m=0
  ·subst hm;rw [if_pos rfl];have hq0:q=[]:=List.eq_nil_of_length_eq_zero (by rw [hn2.len,hn3];simp);subst hq0;refine⟨hC.watch ws,?_⟩;have hB:=hS.ble .nil;have hkn:=hS.lt hk;have hZ:=xd.refl Z H;have hS':SR p Z (ju β nk .nil) H ((nk,.data [])::jn k S) (nk+1):=by
    exact (QU hS).keepS fun j y hj=>by
     rw [qR] at hj ⊢;split at hj
     ·rename_i e;rw [if_pos e];exact hj
     ·rename_i e;rw [if_neg e];rw [yZ] at hj;split at hj
      ·cases hj
      ·exact hj
   refine h.run Z _ H _ c QP hS' ((hE.mono hZ hB).set dst ⟨_,rfl,.inl ⟨qW _ _ _,rfl,rfl,rfl⟩⟩) (hC.step hZ hB fun _ _ _ _ _ _ _ _ _ _ _ _ _ h=>h) ⟨hA.1,fun j hj hjA=>?_⟩;obtain⟨h1,h2,h3,h4⟩:=hA.2 j hj hjA;refine⟨h1,h2,h3,fun i M=>?_⟩;by_cases e:i=(nk,0)
   ·subst e;rw [qW];intro h;cases h
   ·rw [zu _ _ e];exact h4 i M
  ·rw [if_neg hm,if_pos ⟨hbb,h62⟩];have:=hfin (H.push (.row news.length news .lf true)) H.nx news [] m false (by simpa using hn2) (.inr rfl) (by simp) (by simp) (hS.wf.push _) (fun b' hb' _=>by rw [Hp.get_push,if_neg hb']) (by rw [List.append_nil];exact zM.new news) (by omega) (by simp [hn3]);rw [Nat.zero_add] at this;exact this
 ·rw [hb] at hsk;obtain rfl:=zsi hsk;obtain⟨hz,hlo,hlt,cells,rest,hrow,hN,hrel⟩:=hbx;have hN:(cells++rest).length=_:=hN;have hlen:l.length=cells.length:=Bk.rel_len hrel;have hoN:n*esz<=N:=by
   have:n*esz<=cap*esz:=Nat.mul_le_mul_right _ hcap;omega
  have hpre:qe (RF Z H) l' (cells.take (n*esz)):=by rw [hl'e];exact qe.take hrel _
  simp only [yk];rw [if_neg (by simp)];by_cases hfit:n+m<=cap
  ·rw [if_pos hfit,Nat.zero_add];have hcm:(n+m)*esz<=cap*esz:=Nat.mul_le_mul_right _ hfit;rw [Nat.add_mul] at hcm;have hsplit:cells++rest=cells.take (n*esz)++((cells++rest).drop (n*esz)).take (m*esz)++(cells++rest).drop (n*esz+m*esz):=by
    rw [List.append_assoc,<-List.drop_drop,List.take_append_drop,<-List.take_append_of_le_length (l₁:=cells) (l₂:=rest) (by omega),List.take_append_drop]
   obtain⟨H',e1,e2,e3,e4⟩:=hrow.stores (cs:=news) (i:=n*esz) (by rw [hN,hn3];omega);rw [e1];have hset:wn (cells++rest) (n*esz) news=(cells.take (n*esz)++news)++(cells++rest).drop (n*esz+m*esz):=by
    conv=>lhs;rw [hsplit,List.append_assoc]
    have:=X7 (cells.take (n*esz)) (((cells++rest).drop (n*esz)).take (m*esz)) news ((cells++rest).drop (n*esz+m*esz)) (by rw [hn3,List.length_take,List.length_drop,hN];omega);rw [List.length_take,Nat.min_eq_left (by omega)] at this;rw [this,List.append_assoc]
   rw [hset] at e2;refine hfin H' b (cells.take (n*esz)++news) _ cap ex (hpre.append hn2) (.inl ⟨N,hb⟩) (by omega) (by omega) (fun b' bk hb'=>?_) (fun b' hb' _=>e3 b' hb') e2 hfit ?_
   ·rw [e4];by_cases e:b'=b
    ·omega
    ·rw [e3 b' e] at hb';exact hS.wf b' bk hb'
   ·have h1:=congrArg List.length hset;rw [Q9] at h1;omega
  ·rw [if_neg hfit,if_pos ⟨hbb,h62⟩];have hld:H.loads b 0 (n*esz)=some (cells.take (n*esz)):=by
    have:=jR hrow.2 (m:=n*esz) (by omega);rw [this,List.take_append_of_le_length (by omega)]
   rw [hld];have hlen2:(cells.take (n*esz)++news).length=(n+m)*esz:=by
    rw [List.length_append,List.length_take,hn3,Nat.add_mul];omega
   have hrow':=zM.new (H:=H) (cells.take (n*esz)++news);cases ex with
   |true=>
    simp only [if_true];exact hfin _ H.nx (cells.take (n*esz)++news) [] (n+m) false (hpre.append hn2) (.inr rfl) (by simp) (by simp) (hS.wf.push _) (fun b' hb' _=>by rw [Hp.get_push,if_neg hb']) (by rw [List.append_nil];exact hrow') (Nat.le_refl _) (by rw [List.append_nil,hlen2];exact Nat.le_refl _)
   |false=>
    simp only [Bool.false_eq_true,if_false,hrow.mut,if_true];refine hfin _ H.nx (cells.take (n*esz)++news) [] (n+m) false (hpre.append hn2) (.inr rfl) (by simp) (by simp) (fun b' bk hb'=>?_) (fun b' hb' hne=>?_) (by rw [List.append_nil];exact hrow'.same (by rw [Hp.get_del,if_neg (by omega)])) (Nat.le_refl _) (by rw [List.append_nil,hlen2];exact Nat.le_refl _)
    ·rw [Hp.get_del] at hb';split at hb'
     ·cases hb'
     ·exact hS.wf.push _ b' bk hb'
    ·rw [Hp.get_del,if_neg (fun (e:b'=b)=>hne N (by rw [e];exact hb)),Hp.get_push,if_neg hb']
end
def KX:DC->Bool
 |.f _=>true
 |.g _ _=>true
 |.fptr _=>true
 |.fz _ _=>true
 |_=>false
def KY:DV->Bool
 |.one d=>KX d
 |.agg l=>qE KX l
 |.tup _=>false
def WE:DV->Bool
 |.tup l=>qE KY l
 |.one d=>KX d
 |.agg l=>qE KX l
def jA:qq:=fun _=>none
theorem N6(β:qq):xD jA β:=fun _ _ h=>by cases h
section
variable{Z Z':Nat->Prop}{H H':Hp}{β β':qq}
theorem KW{d:DC}{c:C}(h:KX d=true)(hr:RD Z H β d c):RD Z H β' d c:=by
 cases d with
 |f d=>exact hr
 |g b o=>exact hr
 |fptr l=>exact hr
 |fz f ls=>exact hr
 |_=>cases h
theorem f0:∀{l:List DC} {cs:List C},qE KX l=true->qe (RD Z H β) l cs->qe (RD Z H β') l cs
 |[],[],_,_=>trivial
 |d::l,c::cs,h,hr=>by
  have h1:=zo h d (by simp);have h2:qE KX l=true:=by simp only [qE,h1] at h;exact h
  exact⟨KW h1 hr.1,f0 h2 hr.2⟩
 |[],_::_,_,hr=>hr.elim
 |_::_,[],_,hr=>hr.elim
theorem uI{d:DV}{v:V}(h:KY d=true)(hr:xK Z H β d v):xK Z H β' d v:=by
 cases d with
 |one d=>obtain⟨c,rfl,hr⟩:=hr;exact⟨c,rfl,KW h hr⟩
 |agg l=>obtain⟨c,rfl,hr⟩:=hr;exact⟨c,rfl,f0 h hr⟩
 |tup l=>cases h
theorem Wc:∀{l:List DV} {cs:List V},qE KY l=true->qe (xK Z H β) l cs->qe (xK Z H β') l cs
 |[],[],_,_=>trivial
 |d::l,c::cs,h,hr=>by
  have h1:=zo h d (by simp);have h2:qE KY l=true:=by simp only [qE,h1] at h;exact h
  exact⟨uI h1 hr.1,Wc h2 hr.2⟩
 |[],_::_,_,hr=>hr.elim
 |_::_,[],_,hr=>hr.elim
theorem OH{d:DV}{v:V}(h:WE d=true)(hr:xc Z H β d v):xc Z H β' d v:=by
 cases d with
 |one d=>obtain⟨c,rfl,hr⟩:=hr;exact⟨c,rfl,KW h hr⟩
 |agg l=>obtain⟨c,rfl,hr⟩:=hr;exact⟨c,rfl,f0 h hr⟩
 |tup l=>obtain⟨c,rfl,hr⟩:=hr;exact⟨c,rfl,Wc h hr⟩
theorem VQ:∀{l:List DV} {cs:List V},qE WE l=true->qe (xc Z H β) l cs->qe (xc Z H β') l cs
 |[],[],_,_=>trivial
 |d::l,c::cs,h,hr=>by
  have h1:=zo h d (by simp);have h2:qE WE l=true:=by simp only [qE,h1] at h;exact h
  exact⟨OH h1 hr.1,VQ h2 hr.2⟩
 |[],_::_,_,hr=>hr.elim
 |_::_,[],_,hr=>hr.elim
end
def iC:DC->Bool
 |.f (.c _)=>true
 |_=>false
def ZQ:DV->Bool
 |.one d=>iC d
 |.agg l=>qE iC l
 |.tup _=>false
def Ef:DV->Bool
 |.tup l=>qE ZQ l
 |.one d=>iC d
 |.agg l=>qE iC l
section
variable{Z Z':Nat->Prop}{H H':Hp}{β β':qq}
theorem iB{d:DC}{c:C}(h:iC d=true)(hr:RD Z H β d c):RD Z' H' β' d c:=by
 cases d with
 |f d=>cases d with
  |c x=>cases hr with
   |c _ hx=>exact RF.c _ hx
  |sl=>cases h
 |_=>cases h
theorem iA:∀{l:List DC} {cs:List C},qE iC l=true->qe (RD Z H β) l cs->qe (RD Z' H' β') l cs
 |[],[],_,_=>trivial
 |d::l,c::cs,h,hr=>by
  have h1:=zo h d (by simp);have h2:qE iC l=true:=by simp only [qE,h1] at h;exact h
  exact⟨iB h1 hr.1,iA h2 hr.2⟩
 |[],_::_,_,hr=>hr.elim
 |_::_,[],_,hr=>hr.elim
theorem UJ{d:DV}{v:V}(h:ZQ d=true)(hr:xK Z H β d v):xK Z' H' β' d v:=by
 cases d with
 |one d=>obtain⟨c,rfl,hr⟩:=hr;exact⟨c,rfl,iB h hr⟩
 |agg l=>obtain⟨c,rfl,hr⟩:=hr;exact⟨c,rfl,iA h hr⟩
 |tup l=>cases h
theorem nO:∀{l:List DV} {cs:List V},qE ZQ l=true->qe (xK Z H β) l cs->qe (xK Z' H' β') l cs
 |[],[],_,_=>trivial
 |d::l,c::cs,h,hr=>by
  have h1:=zo h d (by simp);have h2:qE ZQ l=true:=by simp only [qE,h1] at h;exact h
  exact⟨UJ h1 hr.1,nO h2 hr.2⟩
 |[],_::_,_,hr=>hr.elim
 |_::_,[],_,hr=>hr.elim
theorem UI{d:DV}{v:V}(h:Ef d=true)(hr:xc Z H β d v):xc Z' H' β' d v:=by
 cases d with
 |one d=>obtain⟨c,rfl,hr⟩:=hr;exact⟨c,rfl,iB h hr⟩
 |agg l=>obtain⟨c,rfl,hr⟩:=hr;exact⟨c,rfl,iA h hr⟩
 |tup l=>obtain⟨c,rfl,hr⟩:=hr;exact⟨c,rfl,nO h hr⟩
end
def yE(P:Program)(G:Nat)(GH:Hp)(f:FuncId)(ds:List DV)(R:DV->Prop):Prop:=∀(H:Hp) (Z:Nat->Prop) (args:List V),WF H->(∀b,Z b->b<H.nx)->(∀b bk,GH.get b=some bk->Z b/\H.get b=some bk)->qe (xc Z H jA) ds args->
 qK P G f args H fun v H'=>WF H'/\H.nx<=H'.nx/\(∀b,b<H.nx->H'.get b=H.get b)/\∃d,xc (fun b=>Z b\/(H.nx<=b/\b<H'.nx)) H' jA d v/\R d
theorem qK.none{P:Program}{G:Nat}{f:FuncId}{args:List V}{H:Hp}{R:V->Hp->Prop}(h:qK P G f args H R):qK P G f args H fun v H'=>R v H'/\∀b,b<H.nx->H.get b=none->H'.get b=none:=fun μ K w xs hR ha=>(h μ K w xs hR ha).mono fun _ _ ⟨x,e,v,H',μ',K',h1,h2,h3,h4⟩=>⟨x,e,v,H',μ',K',⟨h1,h4.none⟩,h2,h3,h4⟩
def Xb(E:qo):List Opd->Option (List DV)
 |[]=>some []
 |x::l=>match ro E x,Xb E l with
  |some d,some r=>some (d::r)
  |_,_=>none
theorem wY{Z:Nat->Prop}{β:qq}{H:Hp}{E:qo}{F:T V}(h:ER Z β H E F):∀{args:List Opd} {ds:List DV},Xb E args=some ds->qe (xc Z H β) ds (args.map (·.ev F))
 |[],ds,hd=>by obtain rfl:=zsi hd;trivial
 |x::l,ds,hd=>by
  simp only [Xb] at hd;split at hd
  ·rename_i d q h1 h2;obtain rfl:=zsi hd;exact⟨xj h h1,wY h h2⟩
  ·cases hd
def NQ(r:List FD):FD:=.sl 1 r.length r
def Kr(S:Bx):DC->DC->Prop
 |.own k o n esz,e=>match lk S k with
  |some (.tree rows)=>o=0/\n=rows.length/\esz=1/\e=.f (.sl 1 n (rows.map NQ))
  |_=>∃l q,lk S k=some (.data l)/\qT l o (n*esz)=some q/\e=.f (.sl esz n q)
 |.trow k i o n,e=>∃rows r q,lk S k=some (.tree rows)/\rows[i]?=some r/\qT r o n=some q/\e=.f (.sl 1 n q)
 |d,e=>KX d=true/\e=d
def oF(S:Bx):DV->DV->Prop
 |.one d,e=>∃x,e=.one x/\Kr S d x
 |.agg l,e=>∃m,e=.agg m/\qe (Kr S) l m
 |.tup _,_=>False
section
variable{p:Par}{base rs:Nat}{Q:qo->Bx->Nat->Prop}{r:List SOper}{W:Wt}{A:List Nat}{E:qo}{S:Bx}{nk:Nat}{id:Nat}{dst:Option Nat}{aid:Option Nat}{ws:List Nat}{keep:Bool}
theorem SR.grow{Z:Nat->Prop}{β:qq}{H H':Hp}(hS:SR p Z β H S nk){Z':Nat->Prop}(hz:∀b,Z' b↔Z b\/(H.nx<=b/\Z' b))(hzz:∀b,Z' b->b<H'.nx)(hw:WF H')(hnx:H.nx<=H'.nx)(hg:∀b,b<H.nx->H'.get b=H.get b):SR p Z' β H' S nk/\xd Z H Z' H':=by
 have hz1:∀b,Z b->Z' b:=fun b hb=>(hz b).2 (.inl hb);have hz2:∀b,Z' b->b<H.nx->Z b:=fun b hb hl=>((hz b).1 hb).elim (fun h=>h) fun h=>by omega
 have hZ:xd Z H Z' H':=xd.of_get hz1 fun b hb=>hg b (hS.z b hb);refine⟨⟨hw,Nat.le_trans hS.lo hnx,hzz,fun b hb=>?_,fun b hb=>hz1 b (hS.zz b hb),fun b bk hb=>?_,hS.nk,fun k b N hk=>Nat.lt_of_lt_of_le (hS.bd k b N hk) hnx,fun k x hk=>?_,hS.inj,hS.blo,hS.anch,hS.ancn⟩,hZ⟩
 ·rcases (hz b).1 hb with h|h
  ·exact hS.zlo b h
  ·exact .inr (Nat.le_trans hS.lo h.1)
 ·obtain⟨h1,h2⟩:=hS.glob b bk hb;exact⟨hz1 b h1,by rw [hg b (hS.z b h1)];exact h2⟩
 ·obtain⟨s,hs,hbx⟩:=hS.box k x hk;refine⟨s,hs,?_⟩;cases s with
  |nil=>exact hbx
  |blk b N=>
   obtain⟨h1,h2,h3,cs,rest,h4,h5,h6⟩:=hbx;exact⟨fun h=>h1 (hz2 b h h3),h2,by omega,cs,rest,h4.same (hg b h3),h5,Bk.rel_mono hZ (xD.refl _) h6⟩
theorem AR.grow{Z Z':Nat->Prop}{β:qq}{H H':Hp}(hA:AR p base rs A Z β H)(hz:∀b,Z' b↔Z b\/(H.nx<=b/\Z' b))(hnx:H.nx<=H'.nx)(hg:∀b,b<H.nx->H'.get b=H.get b):AR p base rs A Z' β H':=⟨hA.1,fun j hj hjA=>by
 obtain⟨h1,h2,h3,h4⟩:=hA.2 j hj hjA;exact⟨by omega,by rw [hg _ h1];exact h2,fun h=>((hz _).1 h).elim h3 fun h=>by omega,h4⟩⟩
theorem qj{f:FuncId}{args:List Opd}{ds:List DV}{R:DV->Prop}(hvs:Xb E args=some ds)(hf:qE WE ds=true)(hc:yE p.P p.G p.GH f ds R)(h:∀d,R d->DPW p base rs Q r W A (qX E dst d) S nk):DPW p base rs Q (⟨id,dst,.cf f args,none,aid,ws,keep⟩::r) W A E S nk:=.mk fun Z β H F c QP hS hE hC hA=>by
 simp only [qv,qs,if_true];refine (hc H Z _ hS.wf hS.z (fun b bk hb=>hS.glob b bk (.inl hb)) (VQ hf (wY hE hvs))).monoP ?_;rintro v H' ⟨hw,hnx,hg,d,hr,hR⟩;have hz:∀b,(Z b\/(H.nx<=b/\b<H'.nx))↔Z b\/(H.nx<=b/\(Z b\/(H.nx<=b/\b<H'.nx))):=fun b=>⟨fun h=>h.elim .inl fun h=>.inr ⟨h.1,.inr h⟩,fun h=>h.elim .inl fun h=>h.2⟩;obtain⟨hS',hZ⟩:=hS.grow (Z':=fun b=>Z b\/(H.nx<=b/\b<H'.nx)) hz (fun b hb=>hb.elim (fun h=>Nat.lt_of_lt_of_le (hS.z b h) hnx) fun h=>h.2) hw hnx hg;have hC':=hC.same hZ (xD.refl β) hg hS.wf;exact⟨hC'.watch ws,(h d hR).run _ β H' _ c QP hS' ((hE.mono hZ (xD.refl _)).set dst (hr.mono (xd.refl _ _) (N6 β))) hC' (hA.grow hz hnx hg)⟩
theorem uA{Z:Nat->Prop}{β:qq}{H:Hp}(hS:SR p Z β H S nk){κ:x9}{o n esz:Nat}{c:C}(hr:(β κ=some .nil/\n=0/\o=0/\c=.nils)\/∃b N cap ex,β κ=some (.blk b N)/\c=.slc b o n cap esz ex/\n<=cap/\o+cap*esz<=N){l q:List FD}(hk:xb S κ=some (.data l))(hq:qT l o (n*esz)=some q):∃cs,qe (RF Z H) q cs/\((c=.nils/\n=0/\cs=[])\/∃b cap ex N,β κ=some (.blk b N)/\c=.slc b o n cap esz ex/\n<=cap/\H.loads b o (n*esz)=some cs):=by
 obtain⟨hle,rfl⟩:=x6 hq;rcases hr with⟨_,rfl,rfl,rfl⟩|⟨b,N,cap,ex,hb,rfl,hcap,_⟩
 ·exact⟨[],by simp;trivial,.inl ⟨rfl,rfl,rfl⟩⟩
 ·obtain⟨s,hs,hbx⟩:=hS.box κ _ hk;rw [hb] at hs;obtain rfl:=zsi hs;obtain⟨_,_,_,cs,rest,hrow,hN,hrel⟩:=hbx;have hN:(cs++rest).length=_:=hN;have hlen:=Bk.rel_len hrel;simp only [Bk.len] at hlen;refine⟨(cs.drop o).take (n*esz),(qe.drop hrel o).take _,.inr ⟨b,cap,ex,N,hb,rfl,hcap,?_⟩⟩;have h1:H.loads b (0+o) (n*esz)=some (((cs++rest).drop o).take (n*esz)):=kD hrow.2 (by simp;omega);rw [Nat.zero_add] at h1;rw [h1,List.drop_append_of_le_length (by omega),List.take_append_of_le_length (by simp;omega)]
theorem J9{Z Z':Nat->Prop}{β:qq}{H:Hp}(hS:SR p Z β H S nk)(hZ:xd Z H Z' H){κ:x9}{o n esz:Nat}{c:C}(hr:(β κ=some .nil/\n=0/\o=0/\c=.nils)\/∃b N cap ex,β κ=some (.blk b N)/\c=.slc b o n cap esz ex/\n<=cap/\o+cap*esz<=N){l q:List FD}(hk:xb S κ=some (.data l))(hq:qT l o (n*esz)=some q)(hz:∀b N,β κ=some (.blk b N)->Z' b):RF Z' H (.sl esz n q) c:=by
 have hql:q.length=n*esz:=by obtain⟨h1,rfl⟩:=x6 hq;simp;omega
 obtain⟨cs,h1,h2⟩:=uA hS hr hk hq;rcases h2 with⟨rfl,rfl,rfl⟩|⟨b,cap,ex,N,hb,rfl,hcap,h2⟩
 ·have:q=[]:=List.eq_nil_of_length_eq_zero (by simpa using hql);subst this;exact .nil esz
 ·refine .sl (fun _=>hz b N hb) hql hcap h2 fun i d c hd hc=>?_;obtain⟨c',hc',hr'⟩:=h1.at i d hd;rw [hc] at hc';obtain rfl:=zsi hc';exact RF.mono hZ hr'
theorem VM{k i:Nat}{rows:List (List FD)}{r:List FD}(hk:lk S k=some (.tree rows))(hi:rows[i]?=some r):xb S (k,i+1)=some (.data r):=by simp only [xb,hk,hi];rfl
theorem BX{Z Z':Nat->Prop}{β:qq}{H:Hp}(hS:SR p Z β H S nk)(hZ:xd Z H Z' H){k:Nat}{rows:List (List FD)}{c:C}(hk:lk S k=some (.tree rows))(hr:RD Z H β (.own k 0 rows.length 1) c)(hz:∀i b N x,xb S (k,i)=some x->β (k,i)=some (.blk b N)->Z' b):RF Z' H (.sl 1 rows.length (rows.map NQ)) c:=by
 have hk0:xb S (k,0)=some (.cells (zd k 0 rows)):=by simp only [xb,hk]
 rcases hr with⟨_,h0,_,rfl⟩|⟨b,N,cap,ex,hb,rfl,hcap,_⟩
 ·have:rows=[]:=List.eq_nil_of_length_eq_zero h0;subst this;exact .nil 1
 ·obtain⟨s,hs,hbx⟩:=hS.box (k,0) _ hk0;rw [hb] at hs;obtain rfl:=zsi hs;obtain⟨_,_,_,cs,rest,hrow,hN,hrel⟩:=hbx;have hN:(cs++rest).length=_:=hN;have hlen:(zd k 0 rows).length=cs.length:=qe.len hrel;rw [Y2] at hlen;refine .sl (cs:=cs) (fun _=>hz 0 b N _ hk0 hb) (by simp) hcap ?_ fun i d c hd hc=>?_
  ·rw [Nat.mul_one,hlen];have:=jR hrow.2 (m:=cs.length) (by simp);rw [this,List.take_left]
  ·rw [List.getElem?_map] at hd;cases hri:rows[i]? with
   |none=>rw [hri] at hd;cases hd
   |some r=>
    rw [hri] at hd;obtain rfl:=zsi hd;obtain⟨c',hc',hrr⟩:=qe.at hrel i (.trow k i 0 r.length) (by rw [WS,hri];simp);rw [hc] at hc';obtain rfl:=zsi hc';exact J9 (esz:=1) hS hZ hrr (VM hk hri) (by rw [zw (by simp)];simp) fun b N=>hz (i+1) b N _ (VM hk hri)
theorem dR{Z:Nat->Prop}{β:qq}{H:Hp}(hS:SR p Z β H S nk){d e:DC}{c:C}(hv:Kr S d e)(hr:RD Z H β d c):RD (fun b=>Z b\/∃(k:x9) (x:Bk) (N:Nat),lk S k.1=some x/\β k=some (.blk b N)) H jA e c:=by
 have hZ:xd Z H (fun b=>Z b\/∃(k:x9) (x:Bk) (N:Nat),lk S k.1=some x/\β k=some (.blk b N)) H:=fun b hb=>⟨.inl hb,fun _ _ h=>h⟩;have key:∀d,KX d=true->e=d->RD Z H β d c->RD (fun b=>Z b\/∃(k:x9) (x:Bk) (N:Nat),lk S k.1=some x/\β k=some (.blk b N)) H jA e c:=fun d hf he hr=>by
  subst he;exact KW hf (hr.mono hZ (xD.refl β))
 cases d with
 |own k o n esz=>
  simp only [Kr] at hv;split at hv
  rotate_left
  ·obtain⟨l,q,hk,hq,rfl⟩:=hv;exact J9 hS hZ hr (xL hk rfl) hq fun b N hb=>.inr ⟨(k,0),_,N,hk,hb⟩
  ·rename_i rows hk;obtain⟨rfl,rfl,rfl,rfl⟩:=hv;exact BX hS hZ hk hr fun i b N _ _ hb=>.inr ⟨(k,i),_,N,hk,hb⟩
 |trow k i o n=>
  obtain⟨rows,r,q,hk,hri,hq,rfl⟩:=hv;exact J9 (esz:=1) hS hZ hr (VM hk hri) (by rw [Nat.mul_one];exact hq) fun b N hb=>.inr ⟨(k,i+1),_,N,hk,hb⟩
 |f d=>exact key _ hv.1 hv.2 hr
 |g b o=>exact key _ hv.1 hv.2 hr
 |fptr l=>exact key _ hv.1 hv.2 hr
 |fz f ls=>exact key _ hv.1 hv.2 hr
 |_=>cases hv.1
theorem aF{Z:Nat->Prop}{β:qq}{H:Hp}(hS:SR p Z β H S nk):∀{l m:List DC} {cs:List C},qe (Kr S) l m->qe (RD Z H β) l cs->qe (RD (fun b=>Z b\/∃(k:x9) (x:Bk) (N:Nat),lk S k.1=some x/\β k=some (.blk b N)) H jA) m cs
 |[],[],[],_,_=>trivial
 |_::_,_::_,_::_,h,hr=>⟨dR hS h.1 hr.1,aF hS h.2 hr.2⟩
 |[],_::_,_,h,_=>h.elim
 |_::_,[],_,h,_=>h.elim
 |[],[],_::_,_,hr=>hr.elim
 |_::_,_::_,[],_,hr=>hr.elim
theorem BV{Z:Nat->Prop}{β:qq}{H:Hp}(hS:SR p Z β H S nk){d e:DV}{v:V}(hv:oF S d e)(hr:xc Z H β d v):xc (fun b=>Z b\/∃(k:x9) (x:Bk) (N:Nat),lk S k.1=some x/\β k=some (.blk b N)) H jA e v:=by
 cases d with
 |one d=>obtain⟨x,rfl,hv⟩:=hv;obtain⟨c,rfl,hr⟩:=hr;exact⟨c,rfl,dR hS hv hr⟩
 |agg l=>obtain⟨x,rfl,hv⟩:=hv;obtain⟨c,rfl,hr⟩:=hr;exact⟨c,rfl,aF hS hv hr⟩
 |tup l=>exact hv.elim
theorem aE{Z:Nat->Prop}{β:qq}{H:Hp}(hS:SR p Z β H S nk):∀{l m:List DV} {cs:List V},qe (oF S) l m->qe (xc Z H β) l cs->qe (xc (fun b=>Z b\/∃(k:x9) (x:Bk) (N:Nat),lk S k.1=some x/\β k=some (.blk b N)) H jA) m cs
 |[],[],[],_,_=>trivial
 |_::_,_::_,_::_,h,hr=>⟨BV hS h.1 hr.1,aE hS h.2 hr.2⟩
 |[],_::_,_,h,_=>h.elim
 |_::_,[],_,h,_=>h.elim
 |[],[],_::_,_,hr=>hr.elim
 |_::_,_::_,[],_,hr=>hr.elim
theorem XC{f:FuncId}{args:List Opd}{vs ds:List DV}{R:DV->Prop}(hvs:Xb E args=some vs)(hf:qe (oF S) vs ds)(hc:yE p.P p.G p.GH f ds R)(hcl:∀d,R d->Ef d=true)(h:∀d,R d->DPW p base rs Q r W A (qX E dst d) S nk):DPW p base rs Q (⟨id,dst,.cf f args,none,aid,ws,keep⟩::r) W A E S nk:=.mk fun Z β H F c QP hS hE hC hA=>by
 simp only [qv,qs,if_true];refine (hc H _ _ hS.wf (fun b hb=>hb.elim (hS.z b) fun⟨k,x,N,_,h2⟩=>hS.bd k b N h2) (fun b bk hb=>⟨.inl (hS.glob b bk (.inl hb)).1,(hS.glob b bk (.inl hb)).2⟩) (aE hS hf (wY hE hvs))).monoP ?_;rintro v H' ⟨hw,hnx,hg,d,hr,hR⟩;have hz:∀b,Z b↔Z b\/(H.nx<=b/\Z b):=fun b=>⟨.inl,fun h=>h.elim (fun h=>h) fun h=>h.2⟩;obtain⟨hS',hZ⟩:=hS.grow hz (fun b h=>Nat.lt_of_lt_of_le (hS.z b h) hnx) hw hnx hg;have hC':=hC.same hZ (xD.refl β) hg hS.wf;exact⟨hC'.watch ws,(h d hR).run _ β H' _ c QP hS' ((hE.mono hZ (xD.refl _)).set dst (UI (hcl d hR) hr)) hC' (hA.grow hz hnx hg)⟩
end
def Xx(k:Nat)(l:List FD):DC->DC
 |.own j o n e=>match Nat.beq j k with
  |true=>.f (.sl e n l)
  |false=>.own j o n e
 |.trow j i o n=>match Nat.beq j k with
  |true=>.any
  |false=>.trow j i o n
 |d=>d
def l6(k:Nat)(ok:Nat->Nat->Nat->Prop):DC->Prop
 |.own j o n e=>match Nat.beq j k with
  |true=>ok o n e
  |false=>True
 |_=>True
def Xo(k:Nat)(ok:Nat->Nat->Nat->Prop):List DC->Prop
 |[]=>True
 |d::r=>l6 k ok d/\Xo k ok r
def aW(l:List FD)(o n e:Nat):Prop:=o=0/\l.length=n*e
def F4(k:Nat)(l:List FD):DV->DV
 |.one d=>.one (Xx k l d)
 |.agg m=>.agg (m.map (Xx k l))
 |.tup m=>.tup m
def FW(k:Nat)(ok:Nat->Nat->Nat->Prop):DV->Prop
 |.one d=>l6 k ok d
 |.agg m=>Xo k ok m
 |.tup _=>True
def kM(k:Nat)(l:List FD):Bk->Bk
 |.cells m=>.cells (m.map (Xx k l))
 |.data m=>.data m
 |.tree rows=>.tree rows
 |.mp ks m=>.mp ks (m.map (Xx k l))
 |.mt es=>.mt (yW (Xx k l) es)
def tM(k:Nat)(ok:Nat->Nat->Nat->Prop):List (Int × ME)->Prop
 |[]=>True
 |(_,.row _)::es=>tM k ok es
 |(_,.out c)::es=>l6 k ok c/\tM k ok es
def eW(k:Nat)(ok:Nat->Nat->Nat->Prop):Bk->Prop
 |.cells m=>Xo k ok m
 |.data _=>True
 |.tree _=>True
 |.mp _ m=>Xo k ok m
 |.mt es=>tM k ok es
def wr{α:Type}(f:α->α):List (Nat × α)->List (Nat × α)
 |[]=>[]
 |(k,x)::r=>(k,f x)::wr f r
def yA{α:Type}(f:α->Prop):List (Nat × α)->Prop
 |[]=>True
 |(_,x)::r=>f x/\yA f r
theorem QW{α:Type}(f:α->α)(n:Nat):∀E:List (Nat × α),lk (wr f E) n=(lk E n).map f
 |[]=>rfl
 |(k,x)::r=>by
  simp only [wr,qR];split
  ·rfl
  ·exact QW f n r
theorem eT{α:Type}{f:α->Prop}{n:Nat}{x:α}:∀{E:List (Nat × α)},yA f E->lk E n=some x->f x
 |[],_,h=>by cases h
 |(k,y)::r,ho,h=>by
  rw [qR] at h;split at h
  ·obtain rfl:=zsi h;exact ho.1
  ·exact eT ho.2 h
section
variable{p:Par}{base rs:Nat}{Q:qo->Bx->Nat->Prop}{W:Wt}{A:List Nat}{E:qo}{S:Bx}{nk:Nat}
theorem mN{k:Nat}{l:List FD}{j:Nat}(hj:j≠k):∀(i:Nat) (rows:List (List FD)),(zd j i rows).map (Xx k l)=zd j i rows
 |_,[]=>rfl
 |i,r::rs=>by simp only [zd,List.map_cons,mN hj (i+1) rs,Xx,jg hj]
theorem OA{k:Nat}{l:List FD}{S:Bx}{κ:x9}{y:Bk}(hy:xb (wr (kM k l) (jn k S)) κ=some y):κ.1≠k/\∃x,xb S κ=some x/\y=kM k l x:=by
 obtain⟨z,hz⟩:=jC hy;rw [QW,yZ] at hz;split at hz
 ·cases hz
 ·rename_i hne;refine⟨hne,?_⟩;cases hl:lk S κ.1 with
  |none=>rw [hl] at hz;cases hz
  |some x=>
   have hlk:lk (wr (kM k l) (jn k S)) κ.1=some (kM k l x):=by rw [QW,yZ,if_neg hne,hl];rfl
   obtain⟨j,i⟩:=κ;simp only at hl hlk hne;cases i with
   |zero=>
    simp only [xb,hl];simp only [xb,hlk] at hy;cases x with
    |cells m=>exact⟨_,rfl,(zsi hy).symm⟩
    |data m=>exact⟨_,rfl,(zsi hy).symm⟩
    |tree rows=>refine⟨_,rfl,?_⟩;rw [<-zsi hy];simp only [kM,mN hne]
    |mp ks m=>exact⟨_,rfl,(zsi hy).symm⟩
    |mt es=>refine⟨_,rfl,?_⟩;rw [<-zsi hy];simp only [kM];rw [ZC (Xx k l) j j (fun _=>rfl) (fun i n=>by simp only [Xx,jg hne])]
   |succ i=>
    simp only [xb,hl];simp only [xb,hlk] at hy;cases x with
    |cells m=>cases hy
    |data m=>cases hy
    |tree rows=>
     cases hr:rows[i]? with
     |none=>simp only [kM,hr] at hy;cases hy
     |some r=>simp only [kM,hr] at hy;exact⟨.data r,by simp only [hr];rfl,(zsi hy).symm⟩
    |mp ks m=>cases hy
    |mt es=>
     simp only [kM,Jh] at hy;obtain⟨y',r,h1,rfl⟩:=jk hy;exact⟨.data r,by simp only [h1,yV],rfl⟩
theorem eU{k:Nat}{ok:Nat->Nat->Nat->Prop}(j:Nat):∀(i:Nat) (rows:List (List FD)),Xo k ok (zd j i rows)
 |_,[]=>trivial
 |i,_::rs=>⟨trivial,eU j (i+1) rs⟩
theorem eV{k:Nat}{ok:Nat->Nat->Nat->Prop}(j:Nat):∀(i:Nat) (es:List (Int × ME)),tM k ok es->Xo k ok (wp j i es)
 |_,[],_=>trivial
 |i,(_,.row _)::es,h=>⟨trivial,trivial,eV j (i+1) es h⟩
 |i,(_,.out _)::es,h=>⟨trivial,h.1,eV j (i+1) es h.2⟩
theorem HR{k:Nat}{ok:Nat->Nat->Nat->Prop}{S:Bx}{κ:x9}{z:Bk}(hlk:∀{n:Nat} {x:Bk},lk S n=some x->eW k ok x)(hz:xb S κ=some z):eW k ok z:=by
 obtain⟨j,i⟩:=κ;obtain⟨x,hx⟩:=jC hz;have ho:=hlk hx;cases i with
 |zero=>
  simp only [xb] at hz hx;rw [hx] at hz;cases x with
  |cells m=>obtain rfl:=zsi hz;exact ho
  |data m=>obtain rfl:=zsi hz;exact ho
  |tree rows=>obtain rfl:=zsi hz;exact eU j 0 rows
  |mp ks m=>obtain rfl:=zsi hz;exact ho
  |mt es=>obtain rfl:=zsi hz;exact eV j 0 es ho
 |succ i=>
  simp only [xb] at hz hx;rw [hx] at hz;cases x with
  |cells m=>cases hz
  |data m=>cases hz
  |tree rows=>
   cases hr:rows[i]? with
   |none=>simp only [hr] at hz;cases hz
   |some r=>simp only [hr] at hz;obtain rfl:=zsi hz;trivial
  |mp ks m=>cases hz
  |mt es=>obtain⟨_,r,_,rfl⟩:=jk hz;trivial
theorem bL(k:Nat)(l:List FD)(x:Bk):(kM k l x).shape=x.shape:=by cases x<;>rfl
theorem SR.lo2{Z:Nat->Prop}{β:qq}{H:Hp}(hS:SR p Z β H S nk){κ:x9}{x:Bk}{b N:Nat}(hk:xb S κ=some x)(hb:β κ=some (.blk b N)):p.lo<=b:=by
 obtain⟨s,hs,hbx⟩:=hS.box κ x hk;rw [hb] at hs;obtain rfl:=zsi hs;exact hbx.2.1
theorem CX {Z:Nat->Prop} {β:qq} {H:Hp} {F:T V} (hS:SR p Z β H S nk) (hE:ER Z β H E F) {k:Nat} {x:Bk} {l:List FD} {ok:Nat->Nat->Nat->Prop} (hk:lk S k=some x)
 (hall:∀{Z'},xd Z H Z' H->(∀i b N x,xb S (k,i)=some x->β (k,i)=some (.blk b N)->Z' b)->∀o n e c,ok o n e->RD Z H β (.own k o n e) c->RF Z' H (.sl e n l) c) (hoE:yA (FW k ok) E) (hoS:yA (eW k ok) S):
 ∃Z',SR p Z' β H (wr (kM k l) (jn k S)) nk/\ER Z' β H (wr (F4 k l) E) F/\xd Z H Z' H/\∀b,Z' b↔Z b\/∃i N x,xb S (k,i)=some x/\β (k,i)=some (.blk b N):=by
 have hZ:xd Z H (fun b=>Z b\/∃i N x,xb S (k,i)=some x/\β (k,i)=some (.blk b N)) H:=fun b hb=>⟨.inl hb,fun _ _ h=>h⟩;have hC:∀d c,l6 k ok d->RD Z H β d c->RD (fun b=>Z b\/∃i N x,xb S (k,i)=some x/\β (k,i)=some (.blk b N)) H β (Xx k l d) c:=fun d c ho hr=>by
  cases d with
  |own j o n e=>
   simp only [Xx,l6] at ho ⊢;by_cases hj:j=k
   ·subst hj;rw [jU] at ho ⊢;exact hall hZ (fun i b N x hx hb=>.inr ⟨i,N,x,hx,hb⟩) o n e c ho hr
   ·rw [jg hj];simp only;exact hr.mono hZ (xD.refl β)
  |trow j i o n=>
   simp only [Xx];by_cases hj:j=k
   ·subst hj;rw [jU];trivial
   ·rw [jg hj];exact hr
  |f d=>exact RD.mono (d:=.f d) hZ (xD.refl β) hr
  |g b o=>exact hr
  |ptr j o=>exact hr
  |tptr j i o=>exact hr
  |fptr q=>exact RD.mono (d:=.fptr q) hZ (xD.refl β) hr
  |fn f caps=>exact hr
  |any=>trivial
  |om j=>exact hr
  |yl j=>exact hr
  |fz f ls=>exact RD.mono (d:=.fz f ls) hZ (xD.refl β) hr
 have hL:∀{m:List DC} {cs:List C},Xo k ok m->qe (RD Z H β) m cs->qe (RD (fun b=>Z b\/∃i N x,xb S (k,i)=some x/\β (k,i)=some (.blk b N)) H β) (m.map (Xx k l)) cs:=by
  intro m;induction m with
  |nil=>intro cs _ h;cases cs with
   |nil=>trivial
   |cons _ _=>exact h.elim
  |cons d m ih=>intro cs ho h;cases cs with
   |nil=>exact h.elim
   |cons c cs=>exact⟨hC d c ho.1 h.1,ih ho.2 h.2⟩
 refine⟨fun b=>Z b\/∃i N x,xb S (k,i)=some x/\β (k,i)=some (.blk b N),⟨hS.wf,hS.lo,fun b hb=>hb.elim (hS.z b) fun⟨i,N,_,_,h⟩=>hS.bd _ b N h,fun b hb=>?_,fun b hb=>.inl (hS.zz b hb),fun b bk hb=>⟨.inl (hS.glob b bk hb).1,(hS.glob b bk hb).2⟩,hS.nk,hS.bd,fun j y hj=>?_,fun j j' y y' b N N' hj hj' h1 h2=>?_,hS.blo,hS.anch,hS.ancn⟩,fun n d hd=>?_,hZ,fun b=>Iff.rfl⟩
 ·rcases hb with hb|⟨i,N,x,hx,hb⟩
  ·exact hS.zlo b hb
  ·exact .inr (hS.lo2 hx hb)
 ·obtain⟨hne,z,hz,rfl⟩:=OA hj;obtain⟨s,hs,hbx⟩:=hS.box j z hz;obtain⟨w,hw⟩:=jC hz;refine⟨s,hs,?_⟩;cases s with
  |nil=>cases z<;>simpa [jI,kM,Bk.len,yW] using hbx
  |blk b N=>
   obtain⟨h1,h2,h3,cs,rest,h4,h5,h6⟩:=hbx;have hoz:=HR (fun hx=>eT hoS hx) hz;refine⟨fun h=>h.elim h1 fun⟨i,M,_,_,hM⟩=>hne (by rw [hS.inj j (k,i) w _ b N M hw hk hs hM]),h2,h3,cs,rest,by rw [bL];exact h4,by rw [bL];exact h5,?_⟩;cases z with
   |cells m=>exact hL hoz h6
   |data m=>exact qe.mono (fun _ _=>RF.mono hZ) h6
   |tree m=>exact h6.elim
   |mp ks m=>exact hL hoz h6
   |mt es=>exact h6.elim
 ·have f:∀(κ:x9) w,lk (wr (kM k l) (jn k S)) κ.1=some w->∃z,lk S κ.1=some z:=fun κ w hw=>by
   rw [QW,yZ] at hw;split at hw
   ·cases hw
   ·cases e:lk S κ.1 with
    |none=>rw [e] at hw;cases hw
    |some z=>exact⟨z,rfl⟩
  obtain⟨z1,e1⟩:=f j y hj;obtain⟨z2,e2⟩:=f j' y' hj';exact hS.inj j j' z1 z2 b N N' e1 e2 h1 h2
 ·rw [QW] at hd;cases hl:lk E n with
  |none=>rw [hl] at hd;cases hd
  |some y=>
   rw [hl] at hd;obtain rfl:=zsi hd;obtain⟨v,hv,hr⟩:=hE n y hl;refine⟨v,hv,?_⟩;have hoy:=eT hoE hl;cases y with
   |one d=>obtain⟨c,rfl,hr⟩:=hr;exact⟨c,rfl,hC d c hoy hr⟩
   |agg m=>obtain⟨c,rfl,hr⟩:=hr;exact⟨c,rfl,hL hoy hr⟩
   |tup m=>exact xc.mono (d:=.tup m) hZ (xD.refl β) hr
theorem uH{Z:Nat->Prop}{β:qq}{H:Hp}{F:T V}(hS:SR p Z β H S nk)(hE:ER Z β H E F){k:Nat}{l:List FD}(hk:lk S k=some (.data l))(hoE:yA (FW k (aW l)) E)(hoS:yA (eW k (aW l)) S):
 ∃Z',SR p Z' β H (wr (kM k l) (jn k S)) nk/\ER Z' β H (wr (F4 k l) E) F/\xd Z H Z' H/\∀b,Z' b↔Z b\/∃i N x,xb S (k,i)=some x/\β (k,i)=some (.blk b N):=
 CX hS hE hk (fun {Z'} hZ hz o n e c ho hr=>J9 hS hZ hr (xL hk rfl) (by obtain⟨rfl,h⟩:=ho;rw [zw (by omega),List.drop_zero,List.take_of_length_le (by omega)]) fun b N=>hz 0 b N _ (xL hk rfl)) hoE hoS
theorem JB{l:List SOper}(k:Nat){m:List FD}(hk:lk S k=some (.data m))(hoE:yA (FW k (aW m)) E)(hoS:yA (eW k (aW m)) S)(h:DPW p base rs Q l W A (wr (F4 k m) E) (wr (kM k m) (jn k S)) nk):DPW p base rs Q l W A E S nk:=.mk fun Z β H F c QP hS hE hC hA=>by
 obtain⟨Z',hS',hE',hZ,hz⟩:=uH hS hE hk hoE hoS;refine h.run Z' β H F c QP hS' hE' (hC.step hZ (xD.refl β) fun _ _ _ _ _ _ _ _ _ _ _ _ _ h=>h) ⟨hA.1,fun j hj hjA=>?_⟩;obtain⟨h1,h2,h3,h4⟩:=hA.2 j hj hjA;exact⟨h1,h2,fun h=>((hz _).1 h).elim h3 fun⟨i,N,_,_,hN⟩=>h4 _ N hN,h4⟩
end
end Go.Ab
