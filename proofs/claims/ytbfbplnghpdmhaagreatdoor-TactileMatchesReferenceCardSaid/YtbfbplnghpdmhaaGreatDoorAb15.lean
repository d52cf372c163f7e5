/- -/
import Derived.Test.YtbfbplnghpdmhaaGreatDoorAb14
set_option linter.unusedSimpArgs false
set_option maxHeartbeats 4000000
set_option linter.unusedVariables false
namespace Go.Ab
section
variable{p:Par}{base rs:Nat}{Q:qp->Bx->Nat->Prop}{r:List SOper}{W:Wt}{A:List Nat}{E:qp}{S:Bx}{nk:Nat}{id:Nat}{dst:Option Nat}{aid:Option Nat}{ws:List Nat}{keep:Bool}
theorem SR.congr2{S':Bx}{Z:Nat->Prop}{β:qw}{H:Hp}(h:SR p Z β H S nk)(h2:∀κ x,qR S' κ=some x->qR S κ=some x)(h1:∀k x,lk S' k=some x->∃y,lk S k=some y):SR p Z β H S' nk:=
 ⟨h.wf,h.lo,h.z,h.zlo,h.zz,h.glob,h.nk,h.bd,fun κ x hk=>h.box κ x (h2 κ x hk),fun κ κ' x x' b N N' hk hk'=>by
  obtain⟨y,hy⟩:=h1 _ _ hk;obtain⟨y',hy'⟩:=h1 _ _ hk';exact h.inj κ κ' y y' b N N' hy hy',h.blo,h.anch,h.ancn⟩
theorem HZ{k:Nat}{Z:Nat->Prop}{β:qw}{H:Hp}(h:SR p Z β H ((k,.mp (.m 0) [])::S) nk):SR p Z β H ((k,.mt [])::S) nk:=by
 refine h.congr2 (fun κ x hk=>?_) fun j x hj=>?_
 ·obtain⟨j,i⟩:=κ;by_cases e:k=j
  ·subst e;cases i with
   |zero=>simp only [qR,qT,if_true] at hk ⊢;exact hk
   |succ i=>simp only [qR,qT,if_true] at hk;simp [wg] at hk
  ·rw [<-hk];exact ya (by rw [qT,qT,if_neg e,if_neg e])
 ·rw [qT] at hj ⊢;split at hj
  ·rename_i e;rw [if_pos e];exact⟨_,rfl⟩
  ·rename_i e;rw [if_neg e];exact⟨x,hj⟩
theorem HC(h:DPW p base rs Q r W A (xn E dst (.one (.om nk))) ((nk,.mt [])::S) (nk+1)):DPW p base rs Q (⟨id,dst,.a .mkmap,none,none,ws,keep⟩::r) W A E S nk:=.mk fun Z β H F c hS hE hC hA=>by
 simp only [qE,qv,if_true,xD];have hfr:H.get H.nx=none:=hS.wf.fresh (Nat.le_refl _);have hg:∀b',b'≠H.nx->(H.push (.mp [])).get b'=H.get b':=fun b' hb'=>by rw [Hp.get_push,if_neg hb']
 have hz:¬Z H.nx:=fun hz=>absurd (hS.z _ hz) oM;obtain⟨hS',hZ,hB⟩:=hS.newB (x:=.mp (.m 0) []) (b:=H.nx) (N0:=0) (H':=H.push (.mp [])) rfl (fun β' hB hZ=>⟨hz,hS.lo,by simp,[],[],⟨[],by rw [Hp.get_push,if_pos rfl],by simp,rfl⟩,rfl,trivial⟩) hz (fun k N hk=>absurd (hS.bd k _ N hk) (by omega)) hS.lo (by simp) (by simp) (hS.wf.push _) hg;exact h.run Z _ _ _ c (HZ hS') ((hE.mono hZ hB).set dst ⟨_,rfl,_,_,xy _ _ _,rfl⟩) (hC.new hZ hB hg hfr) (hA.new (by simp) hg fun j hj hjA e=>by have:=(hA.2 j hj hjA).1;omega)
theorem SR.mtb{Z:Nat->Prop}{β:qw}{H:Hp}(hS:SR p Z β H S nk){kb:Nat}{es:List (Int × ME)}(hb:lk S kb=some (.mt es)){c:C}(hr:RD Z H β (.om kb) c):∃b N es',c=.map b/\β (kb,0)=some (.blk b N)/\¬Z b/\p.lo<=b/\b<H.nx/\H.get b=some (.mp es')/\zr Z H β kb 0 es es':=by
 obtain⟨b,N,h1,rfl⟩:=hr;obtain⟨s,hs,hbx⟩:=hS.box (kb,0) (.mp (.m 0) (kX kb 0 es)) (by simp only [qR,hb]);rw [h1] at hs;obtain rfl:=zsi hs;obtain⟨g1,g2,g3,cs,rest,⟨es',g4,g5,g6⟩,g8,g7⟩:=hbx;have g8:rest=[]:=g8;subst g8;rw [List.append_nil] at g6;exact⟨b,N,es',rfl,h1,g1,g2,g3,g4,WO g5 (by rw [g6];exact g7)⟩
theorem eW {z:C} {m k:Opd} {kb:Nat} {y:Int} {es:List (Int × ME)} (hm:ro E m=some (.one (.om kb))) (hk:ro E k=some (.one (.f (.c (.int .i64 y))))) (hb:lk S kb=some (.mt es)) (hn:∀e∈es,e.1≠y) (hz:z.closed=true)
 (h:DPW p base rs Q r W A (xn E dst (.one (.f (.c z)))) S nk):DPW p base rs Q (⟨id,dst,.l (.lookup (.one z) false m k),none,aid,ws,false⟩::r) W A E S nk:=.mk fun Z β H F c hS hE hC hA=>by
 obtain⟨cm,hcm,hrm⟩:=xg hE hm;obtain⟨b,N,es',rfl,h1,h2,h3,h4,h5,h6⟩:=hS.mtb hb hrm;simp only [qE,qv,if_true,xk,hcm,zS hE hk,wt,h5,h6.none hn,kG,Bool.false_eq_true,if_false];exact h.run Z β H _ c hS (hE.set dst (kh hz)) hC hA
def Qn(β:qw)(nk kb i:Nat):qw:=fun κ=>if κ=(nk,0) then β (kb,i+1) else if κ=(kb,i+1) then none else β κ
theorem o4{kb:Nat}(h:jH S kb W=true):∀y∈W,∀(j:zF) o n,y.2=some (j,o,n)->j.1≠kb:=fun y hy j o n e=>(Xd h y hy j o n e).2
theorem CR.monoK{Z:Nat->Prop}{β β':qw}{H:Hp}{c:zR}{kb:Nat}(h:CR W Z β H c)(hw:∀y∈W,∀(j:zF) o n,y.2=some (j,o,n)->j.1≠kb)(hb:Xx kb β β'):CR W Z β' H c:=fun x hx=>by
 obtain⟨y,hy,hq⟩:=h x hx;refine⟨y,hy,?_⟩;obtain⟨y1,y2⟩:=y
 match y2,hq,hy with
 |none,hq,_=>exact hq
 |some (k,o,n),⟨b,N,h1,h2⟩,hy=>exact⟨b,N,hb _ _ (.inl (hw _ hy k o n rfl)) h1,h2⟩
theorem AR.monoK{Z:Nat->Prop}{β β':qw}{H:Hp}(h:AR p base rs A Z β H)(hb:∀κ b N,β' κ=some (.blk b N)->∃κ' N',β κ'=some (.blk b N')):AR p base rs A Z β' H:=⟨h.1,fun j hj hjA=>by
 obtain⟨h1,h2,h3,h4⟩:=h.2 j hj hjA;refine⟨h1,h2,h3,fun k N hk=>?_⟩;obtain⟨κ',N',hk'⟩:=hb k _ N hk;exact h4 κ' N' hk'⟩
theorem ZC{α:Type}{l:List α}{i j:Nat}{x e:α}(h:(l.set i x)[j]?=some e):(j=i/\e=x)\/(j≠i/\l[j]?=some e):=by
 rw [List.getElem?_set] at h;split at h
 ·rename_i e';split at h
  ·exact .inl ⟨e'.symm,(zsi h).symm⟩
  ·cases h
 ·rename_i e';exact .inr ⟨fun h=>e' h.symm,h⟩
theorem Ks{kb:Nat}:∀{es:List (Int × ME)} {i:Nat} {y:Int} {d:DC},ka kb es=true->es[i]?=some (y,.out d)->wH kb d=true
 |[],_,_,_,_,h=>by simp at h
 |(_,.row _)::es,0,_,_,_,h=>by simp at h
 |(_,.row _)::es,i+1,_,_,hk,h=>Ks (es:=es) hk (by simpa using h)
 |(_,.out c)::es,i,_,_,hk,h=>by
  simp only [ka] at hk;split at hk
  ·rename_i hc;cases i with
   |zero=>simp at h;rw [<-h.2];exact hc
   |succ i=>exact Ks (es:=es) hk (by simpa using h)
  ·cases hk
theorem Jn{S:Bx}{kb:Nat}{es es1:List (Int × ME)}(hb:lk S kb=some (.mt es))(κ:zF):qR (put kb (.mt es1) S) κ=if κ.1=kb then (match κ.2 with|0=>some (.mp (.m 0) (kX kb 0 es1))|i+1=>wg es1[i]?) else qR S κ:=by
 obtain⟨k,i⟩:=κ;by_cases e:k=kb
 ·subst e;rw [if_pos rfl];have hl:lk (put k (.mt es1) S) k=some (.mt es1):=by rw [yF,if_pos rfl,hb];rfl
  cases i with
  |zero=>simp only [qR,hl]
  |succ i=>simp only [qR,hl]
 ·rw [if_neg e];exact ya (by rw [yF,if_neg e])
theorem SR.detach{Z:Nat->Prop}{β:qw}{H:Hp}(hS:SR p Z β H S nk){kb i:Nat}{y:Int}{es:List (Int × ME)}{q:List FD}(hb:lk S kb=some (.mt es))(hi:es[i]?=some (y,.row q))(hKS:Yv kb S=true)(hKM:ka kb es=true):
 SR p Z (Qn β nk kb i) H ((nk,.data q)::put kb (.mt (es.set i (y,.out (.own nk 0 q.length 1)))) S) (nk+1)/\Xx kb β (Qn β nk kb i)/\(∀κ b N,Qn β nk kb i κ=some (.blk b N)->∃κ' N',β κ'=some (.blk b N')):=by
 have hkn:=hS.lt hb;have hrow:qR S (kb,i+1)=some (.data q):=by simp only [qR,hb,hi,wg]
 have hself:Qn β nk kb i (nk,0)=β (kb,i+1):=by simp [Qn]
 have hgone:Qn β nk kb i (kb,i+1)=none:=by simp [Qn]
 have hoth:∀κ,κ≠(nk,0)->κ≠(kb,i+1)->Qn β nk kb i κ=β κ:=fun κ h1 h2=>by simp [Qn,h1,h2]
 have hB:Xx kb β (Qn β nk kb i):=fun κ s hne hκ=>by
  rw [hoth κ (fun e=>by have:=hS.lt1 hκ;rw [e] at this;simp only at this;omega) (fun e=>by rw [e] at hne;simp at hne)];exact hκ
 have himg:∀κ b N,Qn β nk kb i κ=some (.blk b N)->∃κ',β κ'=some (.blk b N)/\((κ=(nk,0)/\κ'=(kb,i+1))\/(κ≠(nk,0)/\κ≠(kb,i+1)/\κ'=κ)):=fun κ b N h=>by
  by_cases e1:κ=(nk,0)
  ·subst e1;rw [hself] at h;exact⟨_,h,.inl ⟨rfl,rfl⟩⟩
  ·by_cases e2:κ=(kb,i+1)
   ·subst e2;rw [hgone] at h;cases h
   ·rw [hoth κ e1 e2] at h;exact⟨κ,h,.inr ⟨e1,e2,rfl⟩⟩
 refine⟨⟨hS.wf,hS.lo,hS.z,hS.zlo,hS.zz,hS.glob,fun κ hκ=>?_,fun κ b N hκ=>?_,fun κ x hκ=>?_,fun κ κ' x x' b N N' hj hj' h1 h2=>?_,fun κ b N hκ=>?_,fun κ hκ h0=>?_,Nat.le_succ_of_le hS.ancn⟩,hB,fun κ b N h=>by obtain⟨κ',h',_⟩:=himg κ b N h;exact⟨κ',N,h'⟩⟩
 ·rw [hoth κ (fun e=>by rw [e] at hκ;simp only at hκ;omega) (fun e=>by rw [e] at hκ;simp only at hκ;omega)];exact hS.nk κ oM
 ·obtain⟨κ',h',_⟩:=himg κ b N hκ;exact hS.bd κ' b N h'
 ·rw [Jo rfl] at hκ;split at hκ
  ·rename_i e1;split at hκ
   ·rename_i e2;obtain rfl:=v8 e1 e2;obtain rfl:=zsi hκ;obtain⟨s,hs,hbx⟩:=hS.box _ _ hrow;refine⟨s,by rw [hself];exact hs,?_⟩;exact jd.monoK hB rfl hbx
   ·cases hκ
  ·rename_i e1;rw [Jn hb] at hκ;split at hκ
   ·rename_i e2;obtain⟨k,j⟩:=κ;simp only at e2;subst e2;cases j with
    |zero=>
     simp only at hκ;obtain rfl:=zsi hκ;obtain⟨s,hs,hbx⟩:=hS.box (k,0) (.mp (.m 0) (kX k 0 es)) (by simp only [qR,hb]);refine⟨s,hB _ _ (.inr rfl) hs,?_⟩;cases s with
     |nil=>
      have:es=[]:=by
       cases es with
       |nil=>rfl
       |cons e es=>obtain⟨y',e⟩:=e;cases e<;>cases hbx
      subst this;simp at hi
     |blk b N=>
      obtain⟨g1,g2,g3,cs,rest,⟨es',g4,g5,g6⟩,g8,g7⟩:=hbx;have g8:rest=[]:=g8;subst g8;rw [List.append_nil] at g6;have hent:=WO (kb:=k) (i:=0) g5 (by rw [g6];exact g7);have hent':zr Z H (Qn β nk k i) k 0 (es.set i (y,.out (.own nk 0 q.length 1))) es':=hent.mono (by simp) fun j e e1 he he1=>by
       rw [Nat.zero_add];rcases ZC he1 with⟨rfl,rfl⟩|⟨hne,he1⟩
       ·rw [hi] at he;obtain rfl:=zsi he;refine⟨rfl,fun c hc=>?_⟩;rcases hc with⟨h1,h2⟩|⟨b',N',cap,ex,h1,h2⟩
        ·exact .inl ⟨by rw [hself];exact h1,h2⟩
        ·exact .inr ⟨b',N',cap,ex,by rw [hself];exact h1,h2⟩
       ·rw [he] at he1;obtain rfl:=zsi he1;refine⟨rfl,fun c hc=>?_⟩;obtain⟨y',e⟩:=e;cases e with
        |out d=>exact RD.monoK hB (Ks hKM he) hc
        |row r=>
         have hk1:Qn β nk k i (k,j+1)=β (k,j+1):=hoth _ (fun e=>by have:=(Prod.mk.inj e).1;omega) (fun e=>by have:=(Prod.mk.inj e).2;omega);rcases hc with⟨h1,h2⟩|⟨b',N',cap,ex,h1,h2⟩
         ·exact .inl ⟨hk1.trans h1,h2⟩
         ·exact .inr ⟨b',N',cap,ex,hk1.trans h1,h2⟩
      obtain⟨t1,t2⟩:=WN hent';exact⟨g1,g2,g3,MF es',[],⟨es',g4,t1,by simp⟩,rfl,t2⟩
    |succ j=>
     simp only at hκ;obtain⟨y',r',h1,rfl⟩:=wr hκ;rcases ZC h1 with⟨rfl,h2⟩|⟨hne,h2⟩
     ·cases h2
     ·obtain⟨s,hs,hbx⟩:=hS.box (k,j+1) (.data r') (by simp only [qR,hb,h2,wg]);exact⟨s,by rw [hoth _ (fun e=>by have:=(Prod.mk.inj e).1;omega) (fun e=>by have:=(Prod.mk.inj e).2;omega)];exact hs,jd.monoK hB rfl hbx⟩
   ·rename_i e2;obtain⟨s,hs,hbx⟩:=hS.box κ x hκ;exact⟨s,hB _ _ (.inl e2) hs,jd.monoK hB (pS hKS hκ e2) hbx⟩
 ·have live:∀(κ:zF) w,lk ((nk,.data q)::put kb (.mt (es.set i (y,.out (.own nk 0 q.length 1)))) S) κ.1=some w->κ.1≠nk->∃w',lk S κ.1=some w':=fun κ w hw hne=>by
   rw [qT,if_neg (fun h=>hne h.symm),yF] at hw;split at hw
   ·cases hl:lk S κ.1 with
    |none=>rw [hl] at hw;cases hw
    |some w'=>exact⟨w',rfl⟩
   ·exact⟨w,hw⟩
  obtain⟨κ1,b1,c1⟩:=himg κ b N h1;obtain⟨κ2,b2,c2⟩:=himg κ' b N' h2;have l1:∃w,lk S κ1.1=some w:=by
   rcases c1 with⟨_,rfl⟩|⟨e1,_,rfl⟩
   ·exact⟨_,hb⟩
   ·exact live κ1 x hj (fun e=>by have:=hS.lt1 b1;omega)
  have l2:∃w,lk S κ2.1=some w:=by
   rcases c2 with⟨_,rfl⟩|⟨e1,_,rfl⟩
   ·exact⟨_,hb⟩
   ·exact live κ2 x' hj' (fun e=>by have:=hS.lt1 b2;omega)
  obtain⟨w1,l1⟩:=l1;obtain⟨w2,l2⟩:=l2;have:=hS.inj κ1 κ2 w1 w2 b N N' l1 l2 b1 b2;rcases c1 with⟨r1,r2⟩|⟨r1,r2,r3⟩
  ·rcases c2 with⟨s1,s2⟩|⟨s1,s2,s3⟩
   ·rw [r1,s1]
   ·exact absurd (by rw [<-s3,<-this,r2]) s2
  ·rcases c2 with⟨s1,s2⟩|⟨s1,s2,s3⟩
   ·exact absurd (by rw [<-r3,this,s2]) r2
   ·rw [<-r3,this,s3]
 ·obtain⟨κ',h',_⟩:=himg κ b N hκ;exact hS.blo κ' b N h'
 ·have:=hS.ancn;rw [hoth κ (fun e=>by rw [e] at hκ;simp only at hκ;omega) (fun e=>by rw [e] at h0;cases h0)];exact hS.anch κ hκ h0
end
section
variable{p:Par}{base rs n:Nat}{Q:qp->Bx->Nat->Prop}{r:List SOper}{W:Wt}{A:List Nat}{E:qp}{S:Bx}{nk:Nat}{id:Nat}{dst:Option Nat}{aid:Option Nat}{ws:List Nat}{keep:Bool}
theorem mQ {z:V} {m k:Opd} {kb i:Nat} {y:Int} {es:List (Int × ME)} {q:List FD} (hm:ro E m=some (.one (.om kb))) (hk:ro E k=some (.one (.f (.c (.int .i64 y))))) (hb:lk S kb=some (.mt es)) (hi:es[i]?=some (y,.row q)) (hf:∀(j:Nat) (e:Int × ME),j<i->es[j]?=some e->e.1≠y) (hKS:Yv kb S=true) (hKM:ka kb es=true) (hKE:VB kb E=true) (hW:jH S kb W=true)
 (h:DPW p base rs Q r W A (xn E dst (.one (.own nk 0 q.length 1))) ((nk,.data q)::put kb (.mt (es.set i (y,.out (.own nk 0 q.length 1)))) S) (nk+1)):DPW p base rs Q (⟨id,dst,.l (.lookup z false m k),none,aid,ws,false⟩::r) W A E S nk:=.mk fun Z β H F c hS hE hC hA=>by
 obtain⟨cm,hcm,hrm⟩:=xg hE hm;obtain⟨b,N,es',rfl,h1,h2,h3,h4,h5,h6⟩:=hS.mtb hb hrm;obtain⟨v,g1,g2⟩:=h6.find (n:=0) hi rfl hf;obtain⟨cv,g3,g4⟩:=h6.at hi;rw [g2] at g3;obtain⟨_,rfl⟩:=Prod.mk.inj (zsi g3);obtain⟨hS',hB,himg⟩:=hS.detach hb hi hKS hKM;simp only [qE,qv,if_true,xk,hcm,zS hE hk,wt,h5,g1,kG,Bool.false_eq_true,if_false];refine h.run Z _ H _ c hS' ((hE.monoK hB hKE).set dst ⟨_,rfl,?_⟩) (hC.monoK (o4 hW) hB) (hA.monoK himg);have hself:Qn β nk kb i (nk,0)=β (kb,i+1):=by simp [Qn]
 rw [Nat.zero_add] at g4;rcases g4 with⟨e1,e2⟩|⟨b',N',cap,ex,e1,e2⟩
 ·exact .inl ⟨by rw [hself];exact e1,e2⟩
 ·exact .inr ⟨b',N',cap,ex,by rw [hself];exact e1,e2⟩
def WG(β:qw)(kd kb i:Nat):qw:=fun κ=>if κ=(kb,i+1) then β (kd,0) else β κ
theorem SR.attach{Z:Nat->Prop}{β:qw}{H:Hp}(hS:SR p Z β H S nk){kb kd i:Nat}{y:Int}{es:List (Int × ME)}{q:List FD}(hb:lk S kb=some (.mt es))(hd:lk S kd=some (.data q))(hi:es[i]?=some (y,.out (.own kd 0 q.length 1)))(hKS:Yv kb S=true)(hKM:ka kb es=true):
 SR p Z (WG β kd kb i) H (zE kd (put kb (.mt (es.set i (y,.row q))) S)) nk/\Xx kb β (WG β kd kb i)/\(∀κ b N,WG β kd kb i κ=some (.blk b N)->∃κ' N',β κ'=some (.blk b N')):=by
 have hkn:=hS.lt hb;have hdn:=hS.lt hd;have hne:kd≠kb:=fun e=>by rw [e,hb] at hd;cases hd
 have hself:WG β kd kb i (kb,i+1)=β (kd,0):=by simp [WG]
 have hoth:∀κ,κ≠(kb,i+1)->WG β kd kb i κ=β κ:=fun κ h=>by simp [WG,h]
 have hB:Xx kb β (WG β kd kb i):=fun κ s hn hκ=>by
  rw [hoth κ (fun e=>by rw [e] at hn;simp at hn)];exact hκ
 have himg:∀κ b N,WG β kd kb i κ=some (.blk b N)->∃κ',β κ'=some (.blk b N)/\((κ=(kb,i+1)/\κ'=(kd,0))\/(κ≠(kb,i+1)/\κ'=κ)):=fun κ b N h=>by
  by_cases e2:κ=(kb,i+1)
  ·subst e2;rw [hself] at h;exact⟨_,h,.inl ⟨rfl,rfl⟩⟩
  ·rw [hoth κ e2] at h;exact⟨κ,h,.inr ⟨e2,rfl⟩⟩
 refine⟨⟨hS.wf,hS.lo,hS.z,hS.zlo,hS.zz,hS.glob,fun κ hκ=>?_,fun κ b N hκ=>?_,fun κ x hκ=>?_,fun κ κ' x x' b N N' hj hj' h1 h2=>?_,fun κ b N hκ=>?_,fun κ hκ h0=>?_,hS.ancn⟩,hB,fun κ b N h=>by obtain⟨κ',h',_⟩:=himg κ b N h;exact⟨κ',N,h'⟩⟩
 ·rw [hoth κ (fun e=>by rw [e] at hκ;simp only at hκ;omega)];exact hS.nk κ hκ
 ·obtain⟨κ',h',_⟩:=himg κ b N hκ;exact hS.bd κ' b N h'
 ·rw [QB] at hκ;split at hκ
  ·cases hκ
  ·rename_i e1;rw [Jn hb] at hκ;split at hκ
   ·rename_i e2;obtain⟨k,j⟩:=κ;simp only at e2;subst e2;cases j with
    |zero=>
     simp only at hκ;obtain rfl:=zsi hκ;obtain⟨s,hs,hbx⟩:=hS.box (k,0) (.mp (.m 0) (kX k 0 es)) (by simp only [qR,hb]);refine⟨s,hB _ _ (.inr rfl) hs,?_⟩;cases s with
     |nil=>
      have:es=[]:=by
       cases es with
       |nil=>rfl
       |cons e es=>obtain⟨y',e⟩:=e;cases e<;>cases hbx
      subst this;simp at hi
     |blk b N=>
      obtain⟨g1,g2,g3,cs,rest,⟨es',g4,g5,g6⟩,g8,g7⟩:=hbx;have g8:rest=[]:=g8;subst g8;rw [List.append_nil] at g6;have hent:=WO (kb:=k) (i:=0) g5 (by rw [g6];exact g7);have hent':zr Z H (WG β kd k i) k 0 (es.set i (y,.row q)) es':=hent.mono (by simp) fun j e e1 he he1=>by
       rw [Nat.zero_add];rcases ZC he1 with⟨rfl,rfl⟩|⟨hne',he1⟩
       ·rw [hi] at he;obtain rfl:=zsi he;refine⟨rfl,fun c hc=>?_⟩;rcases hc with⟨h1,h2⟩|⟨b',N',cap,ex,h1,h2⟩
        ·exact .inl ⟨by rw [hself];exact h1,h2⟩
        ·exact .inr ⟨b',N',cap,ex,by rw [hself];exact h1,h2⟩
       ·rw [he] at he1;obtain rfl:=zsi he1;refine⟨rfl,fun c hc=>?_⟩;obtain⟨y',e⟩:=e;cases e with
        |out d=>exact RD.monoK hB (Ks hKM he) hc
        |row r=>
         have hk1:WG β kd k i (k,j+1)=β (k,j+1):=hoth _ (fun e=>by have:=(Prod.mk.inj e).2;omega);rcases hc with⟨h1,h2⟩|⟨b',N',cap,ex,h1,h2⟩
         ·exact .inl ⟨hk1.trans h1,h2⟩
         ·exact .inr ⟨b',N',cap,ex,hk1.trans h1,h2⟩
      obtain⟨t1,t2⟩:=WN hent';exact⟨g1,g2,g3,MF es',[],⟨es',g4,t1,by simp⟩,rfl,t2⟩
    |succ j=>
     simp only at hκ;obtain⟨y',r',h1,rfl⟩:=wr hκ;rcases ZC h1 with⟨rfl,h2⟩|⟨hne',h2⟩
     ·obtain⟨_,h2⟩:=Prod.mk.inj h2;obtain rfl:=ME.row.inj h2;obtain⟨s,hs,hbx⟩:=hS.box (kd,0) (.data r') (xV hd rfl);exact⟨s,by rw [hself];exact hs,jd.monoK hB rfl hbx⟩
     ·obtain⟨s,hs,hbx⟩:=hS.box (k,j+1) (.data r') (by simp only [qR,hb,h2,wg]);exact⟨s,by rw [hoth _ (fun e=>by have:=(Prod.mk.inj e).2;omega)];exact hs,jd.monoK hB rfl hbx⟩
   ·rename_i e2;obtain⟨s,hs,hbx⟩:=hS.box κ x hκ;exact⟨s,hB _ _ (.inl e2) hs,jd.monoK hB (pS hKS hκ e2) hbx⟩
 ·have live:∀(κ:zF) w,lk (zE kd (put kb (.mt (es.set i (y,.row q))) S)) κ.1=some w->κ.1≠kd/\∃w',lk S κ.1=some w':=fun κ w hw=>by
   rw [yT] at hw;split at hw
   ·cases hw
   ·rename_i e;rw [yF] at hw;split at hw
    ·cases hl:lk S κ.1 with
     |none=>rw [hl] at hw;cases hw
     |some w'=>exact⟨e,w',rfl⟩
    ·exact⟨e,w,hw⟩
  obtain⟨κ1,b1,c1⟩:=himg κ b N h1;obtain⟨κ2,b2,c2⟩:=himg κ' b N' h2;obtain⟨n1,w1,l1⟩:=live κ x hj;obtain⟨n2,w2,l2⟩:=live κ' x' hj';have l1':∃w,lk S κ1.1=some w:=by
   rcases c1 with⟨_,rfl⟩|⟨_,rfl⟩
   ·exact⟨_,hd⟩
   ·exact⟨_,l1⟩
  have l2':∃w,lk S κ2.1=some w:=by
   rcases c2 with⟨_,rfl⟩|⟨_,rfl⟩
   ·exact⟨_,hd⟩
   ·exact⟨_,l2⟩
  obtain⟨w1',l1'⟩:=l1';obtain⟨w2',l2'⟩:=l2';have:=hS.inj κ1 κ2 w1' w2' b N N' l1' l2' b1 b2;rcases c1 with⟨r1,r2⟩|⟨r1,r2⟩
  ·rcases c2 with⟨s1,s2⟩|⟨s1,s2⟩
   ·rw [r1,s1]
   ·exact absurd (by rw [<-s2,<-this,r2]) n2
  ·rcases c2 with⟨s1,s2⟩|⟨s1,s2⟩
   ·exact absurd (by rw [<-r2,this,s2]) n1
   ·rw [<-r2,this,s2]
 ·obtain⟨κ',h',_⟩:=himg κ b N hκ;exact hS.blo κ' b N h'
 ·rw [hoth κ (fun e=>by rw [e] at h0;cases h0)];exact hS.anch κ hκ h0
theorem DQ {s:SC} {Q:Exit->qp->Bx->Nat->Prop} (kb kd i:Nat) {y:Int} {es:List (Int × ME)} {q:List FD} (hb:lk S kb=some (.mt es)) (hd:lk S kd=some (.data q)) (hi:es[i]?=some (y,.out (.own kd 0 q.length 1))) (hKS:Yv kb S=true) (hKM:ka kb es=true) (hKE:VB kb E=true)
 (h:DPS p n s Q E (zE kd (put kb (.mt (es.set i (y,.row q))) S)) nk):DPS p n s Q E S nk:=.mk fun Z β H F hS hE=>by
 obtain⟨hS',hB,_⟩:=hS.attach hb hd hi hKS hKM;exact h.run Z _ H F hS' (hE.monoK hB hKE)
theorem DO {l:List SOper} (kb kd i:Nat) {y:Int} {es:List (Int × ME)} {q:List FD} (hb:lk S kb=some (.mt es)) (hd:lk S kd=some (.data q)) (hi:es[i]?=some (y,.out (.own kd 0 q.length 1))) (hKS:Yv kb S=true) (hKM:ka kb es=true) (hKE:VB kb E=true) (hW:jH S kb W=true)
 (h:DPW p base rs Q l W A E (zE kd (put kb (.mt (es.set i (y,.row q))) S)) nk):DPW p base rs Q l W A E S nk:=.mk fun Z β H F c hS hE hC hA=>by
 obtain⟨hS',hB,himg⟩:=hS.attach hb hd hi hKS hKM;exact h.run Z _ H F c hS' (hE.monoK hB hKE) (hC.monoK (o4 hW) hB) (hA.monoK himg)
theorem SR.mtupd{Z:Nat->Prop}{β:qw}{H:Hp}(hS:SR p Z β H S nk){kb b N:Nat}{es es1:List (Int × ME)}{es':List (V × V)}(hb:lk S kb=some (.mt es))(hs:β (kb,0)=some (.blk b N))(he:zr Z H β kb 0 es1 es')(hrows:∀(i:Nat) (x:Bk),wg es1[i]?=some x->wg es[i]?=some x):
 SR p Z β (H.add b (.mp es')) (put kb (.mt es1) S) nk/\xo Z H Z (H.add b (.mp es')):=by
 obtain⟨s,hs',hbx⟩:=hS.box (kb,0) (.mp (.m 0) (kX kb 0 es)) (by simp only [qR,hb]);rw [hs] at hs';obtain rfl:=zsi hs';obtain⟨hz,hlo,hlt,_⟩:=hbx;have hg:∀b',b'≠b->(H.add b (.mp es')).get b'=H.get b':=fun b' hb'=>Hp.get_add_ne _ _ hb';have hzg:∀b',Z b'->(H.add b (.mp es')).get b'=H.get b':=fun b' hb'=>hg b' fun e=>hz (e▸hb');have hZ:xo Z H Z (H.add b (.mp es')):=xo.of_get (fun _ h=>h) hzg;refine⟨⟨fun b' bk hb'=>?_,hS.lo,hS.z,hS.zlo,hS.zz,fun b' bk hb'=>?_,hS.nk,hS.bd,fun κ x hκ=>?_,fun κ κ' x x' b' M M' hj hj'=>?_,hS.blo,hS.anch,hS.ancn⟩,hZ⟩
 ·rw [Hp.get_add] at hb';split at hb'
  ·rename_i e;subst e;exact hlt
  ·exact hS.wf b' bk hb'
 ·obtain⟨h1,h2⟩:=hS.glob b' bk hb';exact⟨h1,by rw [hzg b' h1];exact h2⟩
 ·have old:∀(κ:zF) x,qR S κ=some x->κ≠(kb,0)->∃s,β κ=some s/\jd p Z (H.add b (.mp es')) β x s:=fun κ x hκ hne=>by
   obtain⟨s,hsj,hbj⟩:=hS.box κ x hκ;obtain⟨z,hz'⟩:=yG hκ;refine⟨s,hsj,jd.mono (H:=H) (xP.refl _) (Nat.le_refl _:H.nx<=(H.add b (.mp es')).nx) (fun b' hb'=>?_) hbj⟩;rcases hb' with hb'|⟨M,rfl⟩
   ·exact hzg b' hb'
   ·exact hg b' fun e'=>hne (hS.inj κ (kb,0) z _ b M N hz' hb (e'▸hsj) hs)
  rw [Jn hb] at hκ;split at hκ
  ·rename_i e;obtain⟨k,j⟩:=κ;simp only at e;subst e;cases j with
   |zero=>
    simp only at hκ;obtain rfl:=zsi hκ;obtain⟨t1,t2⟩:=WN he;exact⟨_,hs,hz,hlo,hlt,MF es',[],⟨es',by simp,t1,by simp⟩,rfl,qg.mono (fun _ _=>RD.mono hZ (xP.refl _)) t2⟩
   |succ j=>
    simp only at hκ;exact old (k,j+1) x (by simp only [qR,hb];exact hrows j x hκ) (fun e=>by cases (Prod.mk.inj e).2)
  ·rename_i e;exact old κ x hκ fun e'=>e (by rw [e'])
 ·have f:∀i z,lk (put kb (.mt es1) S) i=some z->∃z',lk S i=some z':=fun i z hz=>by
   rw [yF] at hz;split at hz
   ·cases hl:lk S i with
    |none=>rw [hl] at hz;cases hz
    |some q=>exact⟨q,rfl⟩
   ·exact⟨z,hz⟩
  obtain⟨z1,e1⟩:=f _ x hj;obtain⟨z2,e2⟩:=f _ x' hj';exact hS.inj κ κ' z1 z2 b' M M' e1 e2
theorem zr.set{Z:Nat->Prop}{H:Hp}{β:qw}{kb:Nat}{d:DC}{cv:C}{y:Int}:∀{j i:Nat} {es:List (Int × ME)} {es':List (V × V)} {e:ME},zr Z H β kb j es es'->es[i]?=some (y,e)->RD Z H β d cv->zr Z H β kb j (es.set i (y,.out d)) (cQ es' i (.one cv))
 |j,i,[],_,e,_,h,_=>by simp at h
 |j,i,(_,.row _)::es,[],e,h,_,_=>h.elim
 |j,i,(_,.out _)::es,[],e,h,_,_=>h.elim
 |j,0,e0::es,x::es',e,h,hi,hd=>by
  obtain⟨h1,_,h3⟩:=zr.cons.1 h;simp at hi;subst hi;exact zr.cons.2 ⟨h1,⟨cv,rfl,hd⟩,h3⟩
 |j,i+1,e0::es,x::es',e,h,hi,hd=>by
  obtain⟨h1,h2,h3⟩:=zr.cons.1 h;have:=zr.set h3 (by simpa using hi) hd;exact zr.cons.2 ⟨h1,h2,this⟩
theorem zr.push{Z:Nat->Prop}{H:Hp}{β:qw}{kb:Nat}{d:DC}{cv:C}{y:Int}:∀{j:Nat} {es:List (Int × ME)} {es':List (V × V)},zr Z H β kb j es es'->RD Z H β d cv->zr Z H β kb j (es++[(y,.out d)]) (es'++[(.one (.int .i64 y),.one cv)])
 |j,[],[],_,hd=>⟨rfl,⟨cv,rfl,hd⟩,trivial⟩
 |j,[],_::_,h,_=>h.elim
 |j,(_,.row _)::es,[],h,_=>h.elim
 |j,(_,.out _)::es,[],h,_=>h.elim
 |j,e0::es,x::es',h,hd=>by
  obtain⟨h1,h2,h3⟩:=zr.cons.1 h;exact zr.cons.2 ⟨h1,h2,zr.push h3 hd⟩
theorem CR.mtupd{Z:Nat->Prop}{β:qw}{H H':Hp}{b kb N:Nat}{c:zR}{x:Bk}(hS:SR p Z β H S nk)(hk:lk S kb=some x)(hC:CR W Z β H c)(hZ:xo Z H Z H')(hg:∀b',b'≠b->H'.get b'=H.get b')(hb:β (kb,0)=some (.blk b N))(hw:jH S kb W=true):CR W Z β H' c:=CR.upd (k:=(kb,0)) hS hk hC hZ hg hb hw
theorem rE {m k x:Opd} {kb i:Nat} {y:Int} {es:List (Int × ME)} {e:ME} {d:DC} (hm:ro E m=some (.one (.om kb))) (hk:ro E k=some (.one (.f (.c (.int .i64 y))))) (hx:ro E x=some (.one d)) (hb:lk S kb=some (.mt es)) (hi:es[i]?=some (y,e)) (hf:∀(j:Nat) (e:Int × ME),j<i->es[j]?=some e->e.1≠y) (hW:jH S kb W=true)
 (h:DPW p base rs Q r W A (xn E dst .undef) (put kb (.mt (es.set i (y,.out d))) S) nk):DPW p base rs Q (⟨id,dst,.e (.mapupd m k x),none,aid,ws,keep⟩::r) W A E S nk:=.mk fun Z β H F c hS hE hC hA=>by
 obtain⟨cm,hcm,hrm⟩:=xg hE hm;obtain⟨cx,hcx,hrx⟩:=xg hE hx;obtain⟨b,N,es',rfl,h1,h2,h3,h4,h5,h6⟩:=hS.mtb hb hrm;obtain⟨v,g1,g2⟩:=h6.find (n:=0) hi rfl hf;obtain⟨hS',hZ⟩:=hS.mtupd (es1:=es.set i (y,.out d)) hb h1 (h6.set hi hrx) (fun j z hz=>by
  obtain⟨y',r',t1,rfl⟩:=wr hz;rcases ZC t1 with⟨_,t2⟩|⟨_,t2⟩
  ·cases t2
  ·rw [t2];rfl)
 simp only [qE,qv,if_true,xq,hcm,zS hE hk,wt,hcx,kf,h5,g1,Bool.and_self,Nat.zero_add];have hg:∀b',b'≠b->(H.add b (.mp (cQ es' i (.one cx)))).get b'=H.get b':=fun b' hb'=>Hp.get_add_ne _ _ hb';have hC':=hC.mtupd hS hb hZ hg h1 hW;exact⟨hC'.watch ws,h.run Z β _ _ c hS' ((hE.mono hZ (xP.refl _)).set dst y6) hC' (hA.upd rfl hg h1)⟩
theorem HB {m k x:Opd} {kb:Nat} {y:Int} {es:List (Int × ME)} {d:DC} (hm:ro E m=some (.one (.om kb))) (hk:ro E k=some (.one (.f (.c (.int .i64 y))))) (hx:ro E x=some (.one d)) (hb:lk S kb=some (.mt es)) (hn:∀e∈es,e.1≠y) (hW:jH S kb W=true)
 (h:DPW p base rs Q r W A (xn E dst .undef) (put kb (.mt (es++[(y,.out d)])) S) nk):DPW p base rs Q (⟨id,dst,.e (.mapupd m k x),none,aid,ws,keep⟩::r) W A E S nk:=.mk fun Z β H F c hS hE hC hA=>by
 obtain⟨cm,hcm,hrm⟩:=xg hE hm;obtain⟨cx,hcx,hrx⟩:=xg hE hx;obtain⟨b,N,es',rfl,h1,h2,h3,h4,h5,h6⟩:=hS.mtb hb hrm;obtain⟨hS',hZ⟩:=hS.mtupd (es1:=es++[(y,.out d)]) hb h1 (h6.push hrx) (fun j z hz=>by
  obtain⟨y',r',t1,rfl⟩:=wr hz;rw [List.getElem?_append] at t1;split at t1
  ·rw [t1];rfl
  ·rw [List.getElem?_singleton] at t1;split at t1
   ·cases t1
   ·cases t1)
 simp only [qE,qv,if_true,xq,hcm,zS hE hk,wt,hcx,kf,h5,h6.none hn,Bool.and_self];have hg:∀b',b'≠b->(H.add b (.mp (es'++[(.one (.int .i64 y),.one cx)]))).get b'=H.get b':=fun b' hb'=>Hp.get_add_ne _ _ hb';have hC':=hC.mtupd hS hb hZ hg h1 hW;exact⟨hC'.watch ws,h.run Z β _ _ c hS' ((hE.mono hZ (xP.refl _)).set dst y6) hC' (hA.upd rfl hg h1)⟩
end
def DE:DC->Bool
 |.f (.c _)=>true
 |.g _ _=>true
 |.ptr _ _=>true
 |.om _=>true
 |.yl _=>true
 |_=>false
def V4(S S':Bx):Wt->Prop
 |[]=>True
 |(_,none)::W=>V4 S S' W
 |(_,some ((k,i),o,n))::W=>i=0/\(∃l,lk S k=some (.cells l)/\lk S' k=some (.cells l)/\qW DE l=true/\Nat.ble (o+n) l.length=true)/\V4 S S' W
section
variable{Z Z':Nat->Prop}{H H':Hp}{β β':qw}
theorem Ux{d:DC}{c c':C}(hd:DE d=true)(hb:vV β β')(h:RD Z H β d c)(h':RD Z' H' β' d c'):c'=c:=by
 cases d with
 |f d=>cases d with
  |c x=>cases h;cases h';rfl
  |sl=>cases hd
 |g b o=>
  have h:c=.ptr b o:=h;have h':c'=.ptr b o:=h';rw [h,h']
 |ptr k o=>
  obtain⟨b,N,h1,rfl⟩:=h;obtain⟨b',N',h2,rfl⟩:=h';rw [hb _ _ h1] at h2;rw [(Slot.blk.inj (zsi h2)).1]
 |om k=>
  obtain⟨b,N,h1,rfl⟩:=h;obtain⟨b',N',h2,rfl⟩:=h';rw [hb _ _ h1] at h2;rw [(Slot.blk.inj (zsi h2)).1]
 |yl k=>
  obtain⟨b,N,h1,rfl⟩:=h;obtain⟨b',N',h2,rfl⟩:=h';rw [hb _ _ h1] at h2;rw [(Slot.blk.inj (zsi h2)).1]
 |_=>cases hd
theorem rA(hb:vV β β'):∀{l:List DC} {cs cs':List C},qW DE l=true->qg (RD Z H β) l cs->qg (RD Z' H' β') l cs'->cs'=cs
 |[],[],[],_,_,_=>rfl
 |d::l,c::cs,c'::cs',ha,h,h'=>by
  have h1:=yk ha d (by simp);have h2:qW DE l=true:=by simp only [qW,h1] at ha;exact ha
  rw [Ux h1 hb h.1 h'.1,rA hb h2 h.2 h'.2]
 |[],[],_::_,_,_,h=>h.elim
 |[],_::_,_,_,h,_=>h.elim
 |_::_,[],_,_,h,_=>h.elim
 |_::_,_::_,[],_,_,h=>h.elim
end
section
variable{p:Par}{base rs:Nat}{Q:qp->Bx->Nat->Prop}{r:List SOper}{W:Wt}{A:List Nat}{E:qp}{S:Bx}{nk:Nat}{id:Nat}{dst:Option Nat}{aid:Option Nat}{ws:List Nat}{keep:Bool}
theorem J3{S S':Bx}:∀{W:Wt},V4 S S' W->∀y∈W,y.2=none\/∃k o n l,y.2=some ((k,0),o,n)/\lk S k=some (.cells l)/\lk S' k=some (.cells l)/\qW DE l=true/\o+n<=l.length
 |[],_,y,hy=>by cases hy
 |(_,none)::W,h,y,hy=>by
  rcases List.mem_cons.1 hy with rfl|hy
  ·exact .inl rfl
  ·exact J3 (W:=W) h y hy
 |(_,some ((k,i),o,n))::W,⟨h0,⟨l,h1,h2,h3,h4⟩,h5⟩,y,hy=>by
  rcases List.mem_cons.1 hy with rfl|hy
  ·subst h0;exact .inr ⟨k,o,n,l,rfl,h1,h2,h3,Nat.le_of_ble_eq_true h4⟩
  ·exact J3 (W:=W) h5 y hy
theorem CR.wsame{S':Bx}{nk':Nat}{Z Z':Nat->Prop}{β β':qw}{H H':Hp}{c:zR}(h:CR W Z β H c)(hS:SR p Z β H S nk)(hS':SR p Z' β' H' S' nk')(hZ:xo Z H Z' H')(hB:vV β β')(hW:V4 S S' W):CR W Z' β' H' c:=fun x hx=>by
 obtain⟨y,hy,hw⟩:=h x hx;refine⟨y,hy,?_⟩;rcases J3 hW y hy with e|⟨k,o,n,l,e,h1,h2,h3,h4⟩
 ·obtain⟨y1,y2⟩:=y;simp only at e;subst e;obtain⟨b,hb,hq⟩:=hw;exact⟨b,(hZ b hb).1,fun H'' hh=>hq H'' fun i c hc=>hh i c ((hZ b hb).2 i c hc)⟩
 ·obtain⟨y1,y2⟩:=y;simp only at e;subst e;obtain⟨b,N,hb,hq⟩:=hw;refine⟨b,N,hB _ _ hb,fun H'' hh=>hq H'' fun i c g1 g2 hc=>hh i c g1 g2 ?_⟩;obtain⟨s,hs,hbx⟩:=hS.box (k,0) _ (xV h1 rfl);obtain⟨s',hs',hbx'⟩:=hS'.box (k,0) _ (xV h2 rfl);rw [hb] at hs;obtain rfl:=zsi hs;rw [hB _ _ hb] at hs';obtain rfl:=zsi hs';obtain⟨_,_,_,cs,rest,r1,_,r2⟩:=hbx;obtain⟨_,_,_,cs',rest',r1',_,r2'⟩:=hbx';have r1:xX H b (cs++rest):=r1;have r1':xX H' b (cs'++rest'):=r1';obtain rfl:=rA hB h3 r2 r2';have hl:l.length=cs'.length:=qg.len r2;have hi:i<cs'.length:=by omega
  have k1:=vq r1.2 (i:=i) (by simp;omega);have k2:=vq r1'.2 (i:=i) (by simp;omega);rw [Nat.zero_add] at k1 k2;rw [k1,List.getElem?_append_left hi] at hc;rw [k2,List.getElem?_append_left hi];exact hc
theorem qah{f:FuncId}{args:List Opd}{ds:List DV}{R:DV->Bx->Nat->Prop}(hvs:Zc E args=some ds)(hT:YO E=true)(hc:DX p f ds S nk R)(h:∀d S' nk',R d S' nk'->V4 S S' W/\DPW p base 0 Q r W A (xn E dst d) S' nk'):DPW p base rs Q (⟨id,dst,.cf f args,none,aid,ws,keep⟩::r) W A E S nk:=.mk fun Z β H F c hS hE hC hA=>by
 simp only [qE,qv,if_true];refine (hc Z β H _ hS (kS hE hvs)).mono ?_;rintro v H' ⟨d,S',nk',Z',β',hS',hr,hZ,hB,hR⟩;obtain⟨hw,h⟩:=h d S' nk' hR;have hC':CR W Z' β' H' c:=hC.wsame hS hS' hZ hB hw;exact⟨hC'.watch ws,h.run Z' β' H' _ c hS' ((hE.mono0 hZ hB hT).set dst hr) hC' ⟨hA.1,fun j hj=>absurd hj oM⟩⟩
end
section
variable{p:Par}{base rs:Nat}{Q:qp->Bx->Nat->Prop}{r:List SOper}{W:Wt}{A:List Nat}{E:qp}{S:Bx}{nk:Nat}{id:Nat}{dst:Option Nat}{aid:Option Nat}{ws:List Nat}{keep:Bool}
theorem P5{l:List SOper}(t esz:Nat)(ht:lk E t=some (.one (.f (.c .nils))))(h:DPW p base rs Q l W A ((t,.one (.own nk 0 0 esz))::E) ((nk,.data [])::S) (nk+1)):DPW p base rs Q l W A E S nk:=.mk fun Z β H F c hS hE hC hA=>by
 refine h.run Z _ H F c (Zo hS) (fun k d hd=>?_) (hC.step (xo.refl Z H) (hS.ble .nil) fun _ _ _ _ _ _ _ _ _ _ _ _ _ h=>h) ⟨hA.1,fun j hj hjA=>?_⟩
 ·rw [qT] at hd;split at hd
  ·rename_i e;subst e;obtain rfl:=zsi hd;obtain⟨v,hv,c,rfl,hr⟩:=hE _ _ ht;cases hr;exact⟨_,hv,_,rfl,.inl ⟨xy _ _ _,rfl,rfl,rfl⟩⟩
  ·exact hE.mono (xo.refl Z H) (hS.ble .nil) k d hd
 ·obtain⟨a1,a2,a3,a4⟩:=hA.2 j hj hjA;refine⟨a1,a2,a3,fun k N hk=>?_⟩;unfold wB at hk;split at hk
  ·cases hk
  ·exact a4 k N hk
theorem FQ{Z:Nat->Prop}{H:Hp}{zf:List FD}{z:List C}(hz:VW zf z)(hp:0<z.length)(n:Nat):qg (RF Z H) (yY zf n) (yS z (n*z.length)):=by
 obtain⟨cs,rest,h1,h2⟩:=CA (Z:=Z) (H:=H) hz hp (Nat.le_refl (n*z.length));have hl:zf.length=z.length:=(VV (Z:=Z) (H:=H) hz).len;have h3:=h2.len;rw [kU,hl] at h3;have h4:((List.range (n*z.length)).map fun i=>z.getD (i % z.length) .nilp).length=n*z.length:=by simp
 rw [h1,List.length_append] at h4;have:rest=[]:=List.eq_nil_of_length_eq_zero oM;subst this;unfold yS;rw [h1,List.append_nil];exact h2
theorem qak {esz k o n:Nat} {z:List C} {zf:List FD} {x:Opd} {l:List FD} (hx:ro E x=some (.one (.own k o n esz))) (hk:lk S k=some (.data l)) (hle:o+n*esz<=l.length) (hz:VW zf z) (hze:z.length=esz) (hp:0<esz) (hn:0<n) (hw:YE S k W=true)
 (h:DPW p base rs Q r W A (xn E dst .undef) (put k (.data (setLs l o (yY zf n))) S) nk):DPW p base rs Q (⟨id,dst,.e (.clear esz z x),none,aid,ws,keep⟩::r) W A E S nk:=.mk fun Z β H F c hS hE hC hA=>by
 subst hze;obtain⟨ca,hca,hr⟩:=xg hE hx;rcases hr with⟨_,h0,_⟩|⟨b,N,cap,ex,hb,rfl,hcap,hN'⟩
 ·omega
 have hfl:=gJ hw hk;have hsh:=o3 hw hk;obtain⟨s,hs,hbx⟩:=hS.box (k,0) _ (xV hk hfl);rw [hb] at hs;obtain rfl:=zsi hs;obtain⟨hzb,hlo,hlt,cs,rest,hrow,hN,hrel⟩:=hbx;have hN:(cs++rest).length=N:=hN;have hrow:xX H b (cs++rest):=hrow;have hlen:l.length=cs.length:=Bk.rel_len hrel;have hk2:=FQ (Z:=Z) (H:=H) hz hp n;have hkl:=hk2.len;have hpl:(yS z (n*z.length)).length=n*z.length:=by simp [yS]
 obtain⟨H',e1,e2,e3,e4⟩:=hrow.stores (cs:=yS z (n*z.length)) (i:=o) (by simp;omega);rw [Qk _ cs rest o (by omega)] at e2;obtain⟨hS',hZ⟩:=hS.upd (x':=.data (setLs l o (yY zf n))) (cs:=yO cs o (yS z (n*z.length))) (rest:=rest) hk hfl hb (qg.setLs hk2 o hrel) e3 e4 rfl e2 (by rw [List.length_append,wZ,<-List.length_append];exact hN);simp only [qE,qv,if_true,xq,hca];rw [e1];have hC':=hC.upd (k:=(k,0)) hS hk hZ e3 hb (LB hw);exact⟨hC'.watch ws,h.run Z β H' _ c hS' ((hE.mono hZ (xP.refl _)).set dst y6) hC' (hA.upd e4 e3 hb)⟩
end
def mM(E:qp):List Nat->Option (List DC)
 |[]=>some []
 |t::ts=>match lk E t,mM E ts with
  |some (.one d),some l=>some (d::l)
  |_,_=>none
def bJ:List Nat->List DC->qp
 |t::ts,d::l=>(t,.one d)::bJ ts l
 |_,_=>[]
def Wc(E:qp):List Nat->List DV->qp
 |t::ps,d::ds=>Wc (xn E (some t) d) ps ds
 |_,_=>E
section
variable{Z Z':Nat->Prop}{β β':qw}{H H':Hp}{E:qp}{F:T V}
theorem rB(hE:ER Z β H E F):∀{ts:List Nat} {l:List DC},mM E ts=some l->∃cs,ET F ts cs/\qg (RD Z H β) l cs
 |[],l,h=>by simp [mM] at h;subst h;exact⟨[],trivial,trivial⟩
 |t::ts,l,h=>by
  simp only [mM] at h;split at h
  ·rename_i d r h1 h2;obtain rfl:=zsi h;obtain⟨v,e1,c,rfl,hr⟩:=hE t _ h1;obtain⟨cs,e2,e3⟩:=rB hE h2;exact⟨c::cs,⟨e1,e2⟩,hr,e3⟩
  ·cases h
theorem mL:∀{ts:List Nat} {l:List DC} {cs:List C},ET F ts cs->qg (RD Z H β) l cs->ER Z β H (bJ ts l) F
 |[],_,_,_,_=>fun n d hd=>by cases hd
 |_::_,[],_,_,_=>fun n d hd=>by cases hd
 |t::ts,d::l,[],h,_=>h.elim
 |t::ts,d::l,c::cs,h,ha=>fun n x hx=>by
  simp only [bJ] at hx;rw [qT] at hx;split at hx
  ·rename_i e;subst e;obtain rfl:=zsi hx;exact⟨_,h.1,c,rfl,ha.1⟩
  ·exact mL h.2 ha.2 n x hx
theorem dY:∀{ps:List Nat} {ds:List DV} {args:List V} {E:qp} {F:T V},ER Z β H E F->qg (xG Z H β) ds args->ER Z β H (Wc E ps ds) (Jb F ps args)
 |[],_,_,_,_,hE,_=>by simpa [Wc,Jb] using hE
 |_::_,[],[],_,_,hE,_=>hE
 |t::ps,d::ds,v::args,E,F,hE,ha=>dY (ps:=ps) (hE.set (some t) ha.1) ha.2
 |_::_,[],_::_,_,_,_,ha=>ha.elim
 |_::_,_::_,[],_,_,_,ha=>ha.elim
end
abbrev Par.round(p:Par)(ρ:Nat)(Z:Nat->Prop)(nk:Nat)(β:qw)(H:Hp):Par:=⟨p.P,p.G,p.GH,Z,p.lo,nk,β,H,some ρ⟩
theorem SR.round{p:Par}{Z:Nat->Prop}{β:qw}{H:Hp}{S:Bx}{nk:Nat}(h:SR p Z β H S nk)(ρ:Nat):SR (p.round ρ Z nk β H) Z β H S nk:=
 let h:=h.hold
 ⟨h.wf,h.lo,h.z,h.zlo,h.zz,h.glob,h.nk,h.bd,h.box,h.inj,h.blo,h.anch,h.ancn⟩
theorem SR.unround{p:Par}{Z Z':Nat->Prop}{β β':qw}{H H':Hp}{S':Bx}{nk nk':Nat}{ρ:Nat}(h:SR (p.round ρ Z nk β H) Z' β' H' S' nk'):SR (p.hold Z nk β H) Z' β' H' S' nk':=
 ⟨h.wf,h.lo,h.z,h.zlo,h.zz,h.glob,h.nk,h.bd,h.box,h.inj,h.blo,h.anch,h.ancn⟩
def BN(k:Nat)(R:DV->Bx->Nat->Prop):Exit->qp->Bx->Nat->Prop
 |.normal,_,S,nk=>∃st j f n ts ps sg bd l,lk S k=some (.mp (.lp st j f n ts ps sg bd) l)/\R (.bool true) (put k (.mp (.lp .ready none f n ts ps sg bd) l) S) nk
 |.ret,_,S,nk=>∃st j f n ts ps sg bd l,lk S k=some (.mp (.lp st j f n ts ps sg bd) l)/\R (.bool false) (put k (.mp (.lp .done (some .ret) f n ts ps sg bd) l) S) nk
 |.exit id,_,S,nk=>∃st j f n ts ps sg bd l,lk S k=some (.mp (.lp st j f n ts ps sg bd) l)/\R (.bool false) (put k (.mp (.lp .done (some (.exit id)) f n ts ps sg bd) l) S) nk
 |_,_,_,_=>False
section
variable{p:Par}{Z:Nat->Prop}{β:qw}{H:Hp}{S:Bx}{nk:Nat}
theorem SR.lpb(hS:SR p Z β H S nk){k b N:Nat}{st:LoopState}{j:Option Code}{f:FuncId}{n:Nat}{ts ps:List Nat}{sg bd:Code}{l:List DC}(hb:lk S k=some (.mp (.lp st j f n ts ps sg bd) l))(hs:β (k,0)=some (.blk b N)):
 ∃F cs,H.get b=some (.lp st j f n F ps.toArray sg bd)/\ET F ts cs/\qg (RD Z H β) l cs:=by
 obtain⟨s,hs',hbx⟩:=hS.box (k,0) _ (xV hb rfl);rw [hs] at hs';obtain rfl:=zsi hs';obtain⟨g1,g2,g3,cs,rest,⟨F,g4,g5⟩,g8,g7⟩:=hbx;have g8:rest=[]:=g8;subst g8;rw [List.append_nil] at g5;exact⟨F,cs,g4,g5,g7⟩
theorem SR.lpSet(hS:SR p Z β H S nk){k b N:Nat}{st st':LoopState}{j j':Option Code}{f:FuncId}{n:Nat}{F:T V}{ts ps:List Nat}{sg bd:Code}{l:List DC}(hb:lk S k=some (.mp (.lp st j f n ts ps sg bd) l))(hs:β (k,0)=some (.blk b N))(hF:H.get b=some (.lp st j f n F ps.toArray sg bd)):
 SR p Z β (H.add b (.lp st' j' f n F ps.toArray sg bd)) (put k (.mp (.lp st' j' f n ts ps sg bd) l) S) nk/\xo Z H Z (H.add b (.lp st' j' f n F ps.toArray sg bd)):=by
 obtain⟨F',cs,g4,g5,g7⟩:=hS.lpb hb hs;rw [hF] at g4;obtain rfl:F=F':=by simpa using g4
 refine hS.updK (x':=.mp (.lp st' j' f n ts ps sg bd) l) (rest:=[]) (cs:=cs) hb rfl hs g7 (fun b' hb'=>Hp.get_add_ne _ _ hb') rfl ⟨F,by simp,by simpa using g5⟩ rfl
theorem IB {k b N:Nat} {j:Option Code} {f:FuncId} {n:Nat} {ts ps:List Nat} {sg bd:Code} {sa sb:SC} {l:List DC} {ds:List DV} {args:List V} {R:DV->Bx->Nat->Prop} (hS:SR p Z β H S nk) (hb:lk S k=some (.mp (.lp .ready j f n ts ps sg bd) l)) (hs:β (k,0)=some (.blk b N))
 (hlen:ds.length=ps.length) (ha:qg (xG Z H β) ds args) (hsg:xS p.P p.G n sg=some sa) (hbd:xS p.P p.G n bd=some sb)
 (h:∀ρ Z β H,DPS (p.round ρ Z nk β H) n sa (fun e E1 S1 nk1=>e=.normal/\∃st j1 f1 n1 ts1 ps1 sg1 bd1 l1,st=.ready/\lk S1 k=some (.mp (.lp st j1 f1 n1 ts1 ps1 sg1 bd1) l1)/\DPS (p.round ρ Z nk β H) n sb (BN k R) E1 (put k (.mp (.lp .busy j1 f1 n1 ts1 ps1 sg1 bd1) l1) S1) nk1) (Wc (bJ ts l) ps ds) S nk):
 Qd p.P p.G b args H fun v H'=>∃d S' nk' Z' β',SR p Z' β' H' S' nk'/\xG Z' H' β' d v/\xo Z H Z' H'/\vV β β'/\R d S' nk':=by
 obtain⟨F0,cs,g4,g5,g7⟩:=hS.lpb hb hs;have hkn:=hS.lt hb;refine AU g4 (by rw [<-ha.len,hlen];simp) hsg hbd fun ρ=>?_;refine yR ((h ρ Z β H).run Z β H _ (hS.round ρ) (dY (mL g5 g7) ha)) fun e F1 H1 he=>?_;obtain⟨E1,S1,nk1,Z1,β1,h1,h2,he',st,j1,f1,n1,ts1,ps1,sg1,bd1,l1,hst,hb1,hbody⟩:=he;subst he' hst;have hs1:β1 (k,0)=some (.blk b N):=(h1.anch (k,0) hkn rfl).trans hs;obtain⟨F1',cs1,q4,q5,q7⟩:=h1.lpb hb1 hs1;refine⟨rfl,j1,f1,n1,F1',ps1.toArray,sg1,bd1,q4,?_⟩;obtain⟨u1,u2⟩:=h1.lpSet (st':=.busy) (j':=j1) hb1 hs1 q4;have hE1:=h2.mono u2 (xP.refl _);refine yR (hbody.run Z1 β1 _ _ u1 hE1) fun e F2 H2 ⟨E2,S2,nk2,Z2,β2,v1,v2,hq⟩=>?_;have hs2:β2 (k,0)=some (.blk b N):=(v1.anch (k,0) hkn rfl).trans hs;have fin:∀(t:Bool) (st':LoopState) (j':Option Code),(∃st j f n ts ps sg bd l,lk S2 k=some (.mp (.lp st j f n ts ps sg bd) l)/\R (.bool t) (put k (.mp (.lp st' j' f n ts ps sg bd) l) S2) nk2)->
  ∃st j f n F ps sg bd,H2.get b=some (.lp st j f n F ps sg bd)/\∃d S' nk' Z' β',SR p Z' β' (H2.add b (.lp st' j' f n F ps sg bd)) S' nk'/\xG Z' (H2.add b (.lp st' j' f n F ps sg bd)) β' d (.bool t)/\xo Z H Z' (H2.add b (.lp st' j' f n F ps sg bd))/\vV β β'/\R d S' nk':=by
  rintro t st' j' ⟨st,j,f,n,ts,ps,sg,bd,l,hb2,hR⟩;obtain⟨F2',cs2,w4,w5,w7⟩:=v1.lpb hb2 hs2;obtain⟨x1,x2⟩:=v1.lpSet (st':=st') (j':=j') hb2 hs2 w4;obtain⟨y1,y2,y3⟩:=hS.free x1.unround;exact⟨st,j,f,n,F2',ps.toArray,sg,bd,w4,_,_,_,Z2,β2,y1,kh rfl,y2,y3,hR⟩
 cases e with
 |normal=>exact fin true .ready none hq
 |ret=>exact fin false .done (some .ret) hq
 |exit id=>exact fin false .done (some (.exit id)) hq
 |_=>exact hq.elim
end
section
variable{p:Par}{base rs:Nat}{Q:qp->Bx->Nat->Prop}{r:List SOper}{W:Wt}{A:List Nat}{E:qp}{S:Bx}{nk:Nat}{id:Nat}{dst:Option Nat}{aid:Option Nat}{ws:List Nat}{keep:Bool}
theorem MI {x:Opd} {args:List Opd} {ds:List DV} {k:Nat} {j:Option Code} {f:FuncId} {n:Nat} {ts ps:List Nat} {sg bd:Code} {sa sb:SC} {l:List DC} {R:DV->Bx->Nat->Prop} (hx:ro E x=some (.one (.yl k))) (hvs:Zc E args=some ds) (hb:lk S k=some (.mp (.lp .ready j f n ts ps sg bd) l))
 (hlen:ds.length=ps.length) (hW:noW W=true) (hT:YO E=true) (hsg:xS p.P p.G n sg=some sa) (hbd:xS p.P p.G n bd=some sb)
 (hc:∀ρ Z β H,DPS (p.round ρ Z nk β H) n sa (fun e E1 S1 nk1=>e=.normal/\∃st j1 f1 n1 ts1 ps1 sg1 bd1 l1,st=.ready/\lk S1 k=some (.mp (.lp st j1 f1 n1 ts1 ps1 sg1 bd1) l1)/\DPS (p.round ρ Z nk β H) n sb (BN k R) E1 (put k (.mp (.lp .busy j1 f1 n1 ts1 ps1 sg1 bd1) l1) S1) nk1) (Wc (bJ ts l) ps ds) S nk)
 (h:∀d S' nk',R d S' nk'->DPW p base 0 Q r W A (xn E dst d) S' nk'):DPW p base rs Q (⟨id,dst,.cv x args,none,aid,ws,keep⟩::r) W A E S nk:=.mk fun Z β H F c hS hE hC hA=>by
 obtain⟨cx,hcx,b,N,hs,rfl⟩:=xg hE hx;simp only [qE,qv,if_true,hcx];refine (IB hS hb hs hlen (kS hE hvs) hsg hbd hc).mono ?_;rintro v H' ⟨d,S',nk',Z',β',hS',hr,hZ,hB,hR⟩;have hC':CR W Z' β' H' c:=hC.noW (Xn hW) hZ;exact⟨hC'.watch ws,(h d S' nk' hR).run Z' β' H' _ c hS' ((hE.mono0 hZ hB hT).set dst hr) hC' ⟨hA.1,fun j hj=>absurd hj oM⟩⟩
end
section
variable{p:Par}{base rs:Nat}{Q:qp->Bx->Nat->Prop}{r:List SOper}{W:Wt}{A:List Nat}{E:qp}{S:Bx}{nk:Nat}{id:Nat}{dst:Option Nat}{aid:Option Nat}{ws:List Nat}{keep:Bool}
end
def qch(Q:Exit->qp->Bx->Nat->Prop):Option Code->qp->Bx->Nat->Prop
 |none=>Q .normal
 |some .ret=>Q .ret
 |some (.exit id)=>Q (.exit id)
 |_=>fun _ _ _=>False
section
variable{p:Par}{n:Nat}{Q:Exit->qp->Bx->Nat->Prop}{E:qp}{S:Bx}{nk:Nat}
theorem ML (hρ:p.ρ=none) {d:Opd} {ps:List Nat} {sa sb:SC} {f:FuncId} {caps:List (Nat × Nat)} (ts:List Nat) {l:List DC} (hd:ro E d=some (.one (.fn f caps))) (hf:qB p.P f=true) (hT:YO E=true) (hl:mM E ts=some l)
 (h:∀fid sg bd,xS p.P p.G n sg=some sa->xS p.P p.G n bd=some sb->DX p f (.one (.yl nk)::KN caps) ((nk,.mp (.lp .ready none fid n ts ps sg bd) l)::S) (nk+1)
  fun _ S' nk'=>∃st j f1 n1 ts1 ps1 sg1 bd1 l1,lk S' nk=some (.mp (.lp st j f1 n1 ts1 ps1 sg1 bd1) l1)/\st≠.busy/\qch Q j E (zE nk S') nk'):DPS p n (.rf d ps sa sb) Q E S nk:=.mk fun Z β H F hS hE=>by
 obtain⟨cx,hcx,caps',rfl,hcaps⟩:=xg hE hd;obtain⟨cs,hts,hcs⟩:=rB hE hl;rw [hρ];refine TN hcx hf fun fid sg bd hsg hbd=>?_;have hfr:H.get H.nx=none:=hS.wf.fresh (Nat.le_refl _);have hg:∀b',b'≠H.nx->(H.push (.lp .ready none fid n F ps.toArray sg bd)).get b'=H.get b':=fun b' hb'=>by rw [Hp.get_push,if_neg hb']
 have hz:¬Z H.nx:=fun hz=>absurd (hS.z _ hz) oM;obtain⟨hS',hZ,hB⟩:=hS.newB (x:=.mp (.lp .ready none fid n ts ps sg bd) l) (b:=H.nx) (N0:=0) (H':=H.push (.lp .ready none fid n F ps.toArray sg bd)) rfl
  (fun β' hB hZ=>⟨hz,hS.lo,by simp,cs,[],⟨F,by rw [Hp.get_push,if_pos rfl],by simpa using hts⟩,rfl,Bk.rel_mono (x:=.mp (.lp .ready none fid n ts ps sg bd) l) hZ hB hcs⟩) hz (fun k N hk=>absurd (hS.bd k _ N hk) (by omega)) hS.lo (by simp) (by simp) (hS.wf.push _) hg
 have hBs:wB β nk (.blk H.nx 0) (nk,0)=some (.blk H.nx 0):=xy _ _ _;have hargs:qg (xG Z (H.push (.lp .ready none fid n F ps.toArray sg bd)) (wB β nk (.blk H.nx 0))) (.one (.yl nk)::KN caps) (.one (.yld H.nx)::caps'.map Ji):=⟨⟨_,rfl,_,_,hBs,rfl⟩,JC (jW.mono hB hcaps)⟩;refine ((h fid sg bd hsg hbd) Z _ _ _ hS' hargs).mono ?_;rintro v H' ⟨d',S',nk',Z',β',hS2,_,hZ2,hB2,st,j,f1,n1,ts1,ps1,sg1,bd1,l1,hb,hst,hj⟩;have hs2:β' (nk,0)=some (.blk H.nx 0):=hB2 _ _ hBs;obtain⟨F1,cs1,w4,w5,w7⟩:=hS2.lpb hb hs2;obtain⟨x1,x2⟩:=hS2.lpSet (st':=.exhausted) (j':=j) hb hs2 w4;refine⟨st,j,f1,n1,F1,ps1.toArray,sg1,bd1,w4,hst,?_⟩;have hS3:SR p Z' β' (H'.add H.nx (.lp .exhausted j f1 n1 F1 ps1.toArray sg1 bd1)) (zE nk S') nk':=x1.keepS fun k x hk=>by
  rw [yT] at hk;split at hk
  ·cases hk
  ·rename_i e;rw [yF,if_neg e];exact hk
 have hE3:ER Z' β' (H'.add H.nx (.lp .exhausted j f1 n1 F1 ps1.toArray sg1 bd1)) E F:=(((hE.mono hZ hB).mono0 hZ2 hB2 hT).mono x2 (xP.refl _));cases j with
 |none=>exact⟨_,_,_,_,_,hS3,hE3,hj⟩
 |some c=>cases c<;>first|exact⟨_,_,_,_,_,hS3,hE3,hj⟩|exact hj.elim
end
section
variable{p:Par}{base rs:Nat}{Q:qp->Bx->Nat->Prop}{r:List SOper}{W:Wt}{A:List Nat}{E:qp}{S:Bx}{nk:Nat}{id:Nat}{dst:Option Nat}{aid:Option Nat}{ws:List Nat}{keep:Bool}
end
section
variable{p:Par}{base rs:Nat}{Q:qp->Bx->Nat->Prop}{r:List SOper}{W:Wt}{A:List Nat}{E:qp}{S:Bx}{nk:Nat}{id:Nat}{dst:Option Nat}{aid:Option Nat}{ws:List Nat}{keep:Bool}
end
section
variable{P:Program}{G:Nat}{H:Hp}
theorem lQ{μ:Nat->Pl}{K:Nat->Prop}{v:V}{x:Value}(h:yf μ K v x):kf v=true:=by
 cases v with
 |tup l=>exact h.elim
 |_=>rfl
theorem II {b mb since last clk:Nat} {seen:List Nat} {es:List (V × V × Nat)} {R:V->Hp->Prop} (hb:H.get b=some (.it mb since seen last)) (hm:H.get mb=some (.st es clk)) (hold:∀e∈es,e.2.2<since) (hsc:since<=last)
 (h0:(∀e∈es,e.2.2∈seen)->R (.tup [.one (.bool false)]) H)
 (h1:∀e∈es,e.2.2∉seen->kf e.1=true->kf e.2.1=true->R (.tup [.one (.bool true),e.1,e.2.1]) (H.add b (.it mb since (seen++[e.2.2]) clk))):Ys P G b H R:=by
 intro μ K w hR hK ty;obtain⟨_,_,hob,hkm,hoff⟩:=hR.blk b _ hb;obtain⟨ces,_,hom,hall⟩:=hR.blk mb _ hm;have hpt:(μ b).addr 0=⟨(μ b).blk,0,none⟩:=by simp [Pl.addr,hoff]
 rw [hpt];have hent:∀x∈ces.toList,∃e∈es,yf μ K e.1 x.key/\yf μ K e.2.1 x.val/\e.2.2=x.born:=fun x hx=>by
  obtain⟨i,hi⟩:=List.getElem?_of_mem hx;obtain⟨e,he,hr⟩:=hall.at' i x hi;exact⟨e,zmg he,hr⟩
 have hent':∀e∈es,∃x∈ces.toList,e.2.2=x.born:=fun e he=>by
  obtain⟨i,hi⟩:=List.getElem?_of_mem he;obtain⟨x,hx,hr⟩:=hall.at i e hi;exact⟨x,zmg hx,hr.2.2⟩
 have hold':∀x∈ces.toList,x.born<since:=fun x hx=>by
  obtain⟨e,he,_,_,hr⟩:=hent x hx;rw [<-hr];exact hold e he
 simp only [Instr.next,getObj,Sem.run_bind,Sem.run,hob,hom,Result.andThen,next_test_false seen.toArray ces since last hold' hsc,Bool.false_eq_true,if_false];have hLm:∀x,x∈(Array.filter (fun e=>!seen.toArray.contains e.born) ces).toList↔x∈ces.toList/\x.born∉seen:=fun x=>by simp
 have hmem:∀x∈(Array.filter (fun e=>!seen.toArray.contains e.born) ces).toList,x.born<since:=fun x hx=>hold' x ((hLm x).1 hx).1;generalize Array.filter (fun e=>!seen.toArray.contains e.born) ces=L at hmem hLm ⊢;have e1:L.filter (fun x=>decide (x.born<since))=L:=Array.filter_eq_self.2 (fun x hx=>by simpa using hmem x (by simpa using hx));have e2:L.filter (fun x=>decide (x.born>=since))=#[]:=by
  rw [Array.filter_eq_empty_iff];intro x hx;have:=hmem x (by simpa using hx);simp;omega
 simp only [e1,e2,Array.append_empty];by_cases hz:L.size=0
 ·have:L=#[]:=Array.eq_empty_of_size_eq_zero hz;subst this;refine⟨.tuple #[.bool false],w,?_,_,H,μ,K,h0 fun e he=>?_,⟨[.bool false],rfl,rfl,trivial⟩,hR,Fr.refl hR⟩
  ·simp [choose,Sem.run,Question.forced]
  ·obtain⟨x,hx,hxe⟩:=hent' e he;refine Classical.byContradiction fun hn=>?_;have:=(hLm x).2 ⟨hx,by rw [<-hxe];exact hn⟩;simp at this
 ·have hne:L.isEmpty=false:=by simp [Array.isEmpty,hz]
  simp only [hne,Bool.false_eq_true,if_false,Array.empty_append,Array.size_map];have hch:∃(j d:Nat),j<L.size/\w.drawn<=d/\(choose (Question.mapNext L.size)).run P w=.ok j { w with drawn:=d }:=by
   by_cases hf:L.size<=1
   ·exact⟨0,w.drawn,by omega,Nat.le_refl _,by simp [choose,Sem.run,Question.forced,hf]⟩
   ·exact⟨_,w.drawn+1,Nat.mod_lt _ oM,Nat.le_succ _,by
     simp only [choose,Sem.run,Question.forced,xQ,hf,if_false,Question.cut];rfl⟩
  obtain⟨j,d,hj,hd,hrun⟩:=hch;have hxm:L[j]∈L.toList:=by simp
  obtain⟨hx1,hx2⟩:=(hLm _).1 hxm;obtain⟨e,he,hk,hv,hbn⟩:=hent _ hx1;have hR2:Rel G μ K H { w with drawn:=d }:=hR.drawn d;obtain⟨r1,r2⟩:=hR2.setB (bk':=.it mb since (seen++[e.2.2]) clk) (o:=.mapIter (some (μ mb).blk) since (seen.toArray.push L[j].born) clk) hb rfl rfl ⟨(),(),by simp [hbn],hkm,hoff⟩;refine⟨.tuple #[.bool true,L[j].key,L[j].val],_,?_,_,_,μ,K,h1 e he (by rw [hbn];exact hx2) (lQ hk) (lQ hv),⟨[.bool true,L[j].key,L[j].val],rfl,rfl,hk,hv,trivial⟩,r1,(Fr.drawn hR d hd).trans hR.lt' r2⟩;have hset:∀ob,(setObj (μ b).blk ob).run P { w with drawn:=d }=.ok () { w with drawn:=d,heap:=w.heap.setIfInBounds (μ b).blk ob }:=fun ob=>by simp [setObj,Sem.run,hob]
  simp only [hrun,Array.getElem?_map,Array.getElem?_eq_getElem hj,Option.map_some,Sem.run_bind,hset,Result.andThen];rfl
end
def sO(es:List (V × V × Nat))(clk:Nat)(l:List C)(c:C):Option (List (V × V × Nat) × Nat):=match QX l,vi l es 0 with
 |true,some none=>some (es++[(.agg l,.one c,clk)],clk+1)
 |true,some (some i)=>some (Vn es i (.one c),clk)
 |_,_=>none
section
variable{p:Par}{base rs:Nat}{Q:qp->Bx->Nat->Prop}{r:List SOper}{W:Wt}{A:List Nat}{E:qp}{S:Bx}{nk:Nat}{id:Nat}{dst:Option Nat}{aid:Option Nat}{ws:List Nat}{keep:Bool}
theorem RE(h:DPW p base rs Q r W A (xn E dst (.one (.om nk))) ((nk,.mp (.st [] 0) [])::S) (nk+1)):DPW p base rs Q (⟨id,dst,.a .mkst,none,none,ws,keep⟩::r) W A E S nk:=.mk fun Z β H F c hS hE hC hA=>by
 simp only [qE,qv,if_true,xD];have hfr:H.get H.nx=none:=hS.wf.fresh (Nat.le_refl _);have hg:∀b',b'≠H.nx->(H.push (.st [] 0)).get b'=H.get b':=fun b' hb'=>by rw [Hp.get_push,if_neg hb']
 have hz:¬Z H.nx:=fun hz=>absurd (hS.z _ hz) oM;obtain⟨hS',hZ,hB⟩:=hS.newB (x:=.mp (.st [] 0) []) (b:=H.nx) (N0:=0) (H':=H.push (.st [] 0)) rfl (fun β' hB hZ=>⟨hz,hS.lo,by simp,[],[],⟨(),by rw [Hp.get_push,if_pos rfl],rfl⟩,rfl,trivial⟩) hz (fun k N hk=>absurd (hS.bd k _ N hk) (by omega)) hS.lo (by simp) (by simp) (hS.wf.push _) hg;exact h.run Z _ _ _ c hS' ((hE.mono hZ hB).set dst ⟨_,rfl,_,_,xy _ _ _,rfl⟩) (hC.new hZ hB hg hfr) (hA.new (by simp) hg fun j hj hjA e=>by have:=(hA.2 j hj hjA).1;omega)
theorem SR.stb{Z:Nat->Prop}{β:qw}{H:Hp}(hS:SR p Z β H S nk){kb:Nat}{es:List (V × V × Nat)}{clk:Nat}(hb:lk S kb=some (.mp (.st es clk) [])){b N:Nat}(h1:β (kb,0)=some (.blk b N)):H.get b=some (.st es clk)/\b<H.nx:=by
 obtain⟨s,hs,hbx⟩:=hS.box (kb,0) _ (xV hb rfl);rw [h1] at hs;obtain rfl:=zsi hs;obtain⟨g1,g2,g3,cs,rest,⟨_,g4,_⟩,_⟩:=hbx;exact⟨g4,g3⟩
theorem mP {m k x:Opd} {kb clk clk':Nat} {i j:IntKind} {y z:Int} {es es':List (V × V × Nat)} {cv:C} (hm:ro E m=some (.one (.om kb))) (hk:ro E k=some (.agg [.f (.c (.int i y)),.f (.c (.int j z))])) (hx:ro E x=some (.one (.f (.c cv)))) (hb:lk S kb=some (.mp (.st es clk) [])) (hu:sO es clk [.int i y,.int j z] cv=some (es',clk')) (hW:jH S kb W=true)
 (h:DPW p base rs Q r W A (xn E dst .undef) (put kb (.mp (.st es' clk') []) S) nk):DPW p base rs Q (⟨id,dst,.e (.stupd m k x),none,aid,ws,keep⟩::r) W A E S nk:=.mk fun Z β H F c hS hE hC hA=>by
 obtain⟨cm,hcm,b,N,h1,rfl⟩:=xg hE hm;obtain⟨ck,hck,hrk⟩:=xg hE hk;have hcx:=zS hE hx;have hkk:ck=[.int i y,.int j z]:=by
  match ck,hrk with
  |[p,q],hrk=>
   obtain⟨h3,h4,_⟩:=hrk;cases h3;cases h4;rfl
 subst hkk;obtain⟨g4,g3⟩:=hS.stb hb h1;have heff:xq F H (.stupd m k x)=some (V.undef,H.add b (.st es' clk')):=by
  simp only [xq,hcm,hck,hcx,g4];unfold sO at hu;split at hu
  ·rename_i e1 e2;obtain⟨rfl,rfl⟩:=Prod.mk.inj (zsi hu);simp only [e1,e2]
  ·rename_i i0 e1 e2;obtain⟨rfl,rfl⟩:=Prod.mk.inj (zsi hu);simp only [e1,e2]
  ·cases hu
 have hg:∀b',b'≠b->(H.add b (.st es' clk')).get b'=H.get b':=fun b' hb'=>Hp.get_add_ne _ _ hb';obtain⟨hS',hZ⟩:=hS.updK (x':=.mp (.st es' clk') []) (rest:=[]) (cs:=[]) (H':=H.add b (.st es' clk')) hb rfl h1 trivial hg rfl ⟨(),by simp,rfl⟩ rfl;simp only [qE,qv,if_true,heff];have hC':=hC.mtupd hS hb hZ hg h1 hW;exact⟨hC'.watch ws,h.run Z β _ _ c hS' ((hE.mono hZ (xP.refl _)).set dst y6) hC' (hA.upd rfl hg h1)⟩
theorem qae {m:Opd} {kb clk:Nat} {es:List (V × V × Nat)} (hm:ro E m=some (.one (.om kb))) (hb:lk S kb=some (.mp (.st es clk) []))
 (h:DPW p base rs Q r W A (xn E dst (.one (.ptr nk 0))) ((nk,.mp (.it clk [] clk) [.om kb])::S) (nk+1)):DPW p base rs Q (⟨id,dst,.e (.rng m),none,aid,ws,keep⟩::r) W A E S nk:=.mk fun Z β H F c hS hE hC hA=>by
 obtain⟨cm,hcm,b,N,h1,rfl⟩:=xg hE hm;obtain⟨g4,g3⟩:=hS.stb hb h1;have hfr:H.get H.nx=none:=hS.wf.fresh (Nat.le_refl _);have hg:∀b',b'≠H.nx->(H.push (.it b clk [] clk)).get b'=H.get b':=fun b' hb'=>by rw [Hp.get_push,if_neg hb']
 have hz:¬Z H.nx:=fun hz=>absurd (hS.z _ hz) oM;obtain⟨hS',hZ,hB⟩:=hS.newB (x:=.mp (.it clk [] clk) [.om kb]) (b:=H.nx) (N0:=0) (H':=H.push (.it b clk [] clk)) rfl (fun β' hB hZ=>⟨hz,hS.lo,by simp,[.map b],[],⟨b,by rw [Hp.get_push,if_pos rfl],rfl⟩,rfl,⟨_,_,hB _ _ h1,rfl⟩,trivial⟩) hz (fun k N hk=>absurd (hS.bd k _ N hk) (by omega)) hS.lo (by simp) (by simp) (hS.wf.push _) hg;simp only [qE,qv,if_true,xq,hcm,g4];have hC':=hC.new hZ hB hg hfr;exact⟨hC'.watch ws,h.run Z _ _ _ c hS' ((hE.mono hZ hB).set dst ⟨_,rfl,_,_,xy _ _ _,rfl⟩) hC' (hA.new (by simp) hg fun j hj hjA e=>by have:=(hA.2 j hj hjA).1;omega)⟩
theorem qo2 {x:Opd} {k kb since last clk:Nat} {seen:List Nat} {es:List (V × V × Nat)} (hx:ro E x=some (.one (.ptr k 0))) (hk:lk S k=some (.mp (.it since seen last) [.om kb])) (hb:lk S kb=some (.mp (.st es clk) [])) (hold:∀e∈es,e.2.2<since) (hsc:since<=last) (hW:jH S k W=true)
 (h0:(∀e∈es,e.2.2∈seen)->DPW p base rs Q r W A (xn E dst (.tup [.bool false])) S nk)
 (h1:∀e∈es,e.2.2∉seen->DPW p base rs Q r W A (xn E dst (.tup [.bool true,AT e.1,AT e.2.1])) (put k (.mp (.it since (seen++[e.2.2]) clk) [.om kb]) S) nk):DPW p base rs Q (⟨id,dst,.nx x,none,aid,ws,keep⟩::r) W A E S nk:=.mk fun Z β H F c hS hE hC hA=>by
 obtain⟨cx,hcx,b,N,g1,rfl⟩:=xg hE hx;obtain⟨s,hs,hbx⟩:=hS.box (k,0) _ (xV hk rfl);rw [g1] at hs;obtain rfl:=zsi hs;obtain⟨q1,q2,q3,cs,rest,⟨mb,q4,q5⟩,q6,q7⟩:=hbx;have q6:rest=[]:=q6;subst q6;rw [List.append_nil] at q5;subst q5;obtain⟨⟨b2,N2,q8,q9⟩,_⟩:=q7;obtain rfl:mb=b2:=by simpa using q9
 obtain⟨m1,m2⟩:=hS.stb hb q8;simp only [qE,qv,if_true,hcx];refine II q4 m1 hold hsc (fun ha=>?_) fun e he hn i1 i2=>?_
 ·exact⟨hC.watch ws,(h0 ha).run Z β H _ c hS (hE.set dst ⟨_,rfl,⟨_,rfl,.c _ rfl⟩,trivial⟩) hC hA⟩
 ·have hg:∀b',b'≠b->(H.add b (.it mb since (seen++[e.2.2]) clk)).get b'=H.get b':=fun b' hb'=>Hp.get_add_ne _ _ hb';obtain⟨hS',hZ⟩:=hS.updK (x':=.mp (.it since (seen++[e.2.2]) clk) [.om kb]) (rest:=[]) (cs:=[.map mb]) (H':=H.add b (.it mb since (seen++[e.2.2]) clk)) hk rfl g1 ⟨⟨_,_,q8,rfl⟩,trivial⟩ hg rfl ⟨mb,by simp,rfl⟩ rfl;have hC':=hC.mtupd hS hk hZ hg g1 hW;exact⟨hC'.watch ws,(h1 e he hn).run Z β _ _ c hS' ((hE.mono hZ (xP.refl _)).set dst ⟨_,rfl,⟨_,rfl,.c _ rfl⟩,YF _ i1,YF _ i2,trivial⟩) hC' (hA.upd rfl hg g1)⟩
theorem qag {x:Opd} {k kb since last clk st:Nat} {seen:List Nat} {es:List (V × V × Nat)} {e:V × V × Nat} (hx:ro E x=some (.one (.ptr k 0))) (hk:lk S k=some (.mp (.it since (seen++[st]) last) [.om kb])) (hb:lk S kb=some (.mp (.st es clk) [])) (hl:clk=last) (he:es.find? (fun e=>e.2.2==st)=some e) (hi:kf e.1=true) (hj:kf e.2.1=true)
 (h:DPW p base rs Q r W A (xn E dst (.tup [AT e.1,AT e.2.1])) S nk):DPW p base rs Q (⟨id,dst,.e (.ent x),none,aid,ws,keep⟩::r) W A E S nk:=.mk fun Z β H F c hS hE hC hA=>by
 obtain⟨cx,hcx,b,N,g1,rfl⟩:=xg hE hx;obtain⟨s,hs,hbx⟩:=hS.box (k,0) _ (xV hk rfl);rw [g1] at hs;obtain rfl:=zsi hs;obtain⟨q1,q2,q3,cs,rest,⟨mb,q4,q5⟩,q6,q7⟩:=hbx;have q6:rest=[]:=q6;subst q6;rw [List.append_nil] at q5;subst q5;obtain⟨⟨b2,N2,q8,q9⟩,_⟩:=q7;obtain rfl:mb=b2:=by simpa using q9
 obtain⟨m1,m2⟩:=hS.stb hb q8;have heff:xq F H (.ent x)=some (.tup [e.1,e.2.1],H):=by
  simp only [xq,hcx,q4,m1,List.getLast?_append,List.getLast?_singleton,Option.some_or,hl,if_true,he]
 simp only [qE,qv,if_true,heff];exact⟨hC.watch ws,h.run Z β H _ c hS (hE.set dst ⟨_,rfl,YF _ hi,YF _ hj,trivial⟩) hC hA⟩
end
def i7:List SOper->Bool
 |[]=>true
 |o::r=>match o.watch with
  |[]=>i7 r
  |_::_=>false
section
variable{P:Program}{G base:Nat}{Q:T V->Hp->Prop}
theorem jQ:∀{l:List SOper} {ctx ctx':zR} {F:T V} {H:Hp},i7 l=true->qE P G base Q l ctx F H->qE P G base Q l ctx' F H
 |[],_,_,_,_,_,h=>h
 |o::r,ctx,ctx',F,H,hn,h=>by
  have hn':o.watch=[]/\i7 r=true:=by
   unfold i7 at hn;split at hn
   ·rename_i e;exact⟨e,hn⟩
   ·cases hn
  obtain⟨ho,hr⟩:=hn';rw [qE] at h ⊢;split at h
  ·rename_i hw;rw [if_pos hw];cases hop:o.op with
   |p op=>
    simp only [hop] at h ⊢;cases hv:qy F op with
    |none=>simp [hv] at h
    |some v=>simp only [hv] at h ⊢;exact jQ hr h
   |l op=>
    simp only [hop] at h ⊢;cases hv:xk F H op with
    |none=>simp [hv] at h
    |some v=>simp only [hv] at h ⊢;exact jQ hr h
   |a op=>
    simp only [hop] at h ⊢;cases hv:xD F op with
    |none=>simp [hv] at h
    |some v=>
     simp only [hv] at h ⊢;cases hai:o.aid with
     |none=>simp only [hai] at h ⊢;exact jQ hr h
     |some k=>simp only [hai] at h ⊢;exact jQ hr h
   |e op=>
    simp only [hop] at h ⊢;cases hv:xq F H op with
    |none=>simp [hv] at h
    |some v=>simp only [hv] at h ⊢;exact⟨by rw [ho];trivial,jQ hr h.2⟩
   |cf f args=>
    simp only [hop] at h ⊢;exact h.mono fun v H' hh=>⟨by rw [ho];trivial,jQ hr hh.2⟩
   |cv x args=>
    simp only [hop] at h ⊢;split at h
    ·exact⟨h.1,h.2.mono fun v H' hh=>⟨by rw [ho];trivial,jQ hr hh.2⟩⟩
    ·exact Qd.mono h fun v H' hh=>⟨by rw [ho];trivial,jQ hr hh.2⟩
    ·exact h.elim
   |nx x=>
    simp only [hop] at h ⊢;split at h
    ·exact Ys.mono h fun v H' hh=>⟨by rw [ho];trivial,jQ hr hh.2⟩
    ·exact h.elim
   |no=>simp only [hop] at h
  ·rename_i hw;rw [if_neg hw];exact jQ hr h
end
section
variable{p:Par}{base rs:Nat}{Q:qp->Bx->Nat->Prop}{r:List SOper}{W:Wt}{A:List Nat}{E:qp}{S:Bx}{nk:Nat}
theorem yu(hn:i7 r=true)(h:DPW p base rs Q r [] A E S nk):DPW p base rs Q r W A E S nk:=.mk fun Z β H F c hS hE _ hA=>
 jQ hn (h.run Z β H F [] hS hE (fun x hx=>by cases hx) hA)
end
end Go.Ab

namespace Go.Ag
open Go.Ab Go.Proofs
theorem wi:Tryz.prog.follows .mixedOrders=true:=Tryz.checked.mixed
def uH:B:=.row 8 [.int .u8 1,.int .u8 3,.int .u8 9,.int .u8 25,.int .u8 17,.int .u8 11,.int .u8 27,.int .u8 19] .lf false
def H00(_:Nat):Hp:=⟨.nd (some uH) .lf .lf,1⟩
structure Hid (Q:Prop):Prop where
 get:Q
theorem qb{P Q:Prop}(k:Q)(h:Hid Q->P:=by intro goH;(repeat (first|refine Zu rfl rfl ?_|refine Zv rfl rfl ?_|refine ZR rfl ?_|refine ZS rfl rfl ?_|refine ZT rfl rfl ?_|refine YU rfl QE QE ?_|refine WS rfl rfl ?_|refine WQ rfl rfl ?_|refine zJ rfl ?_|refine jK rfl ?_|refine jC rfl ?_|refine bL rfl QE ?_|refine bM rfl QE ?_|refine WU rfl rfl oM oM ?_|refine WV rfl rfl oM oM ?_|refine WT rfl rfl oM oM ?_|refine WW rfl rfl oM (by decide) aM ?_|refine zV rfl rfl oM (by decide) aM ?_|refine jK (jh rfl rfl aM rfl) ?_|refine jC (jh rfl rfl aM rfl) ?_|refine jK (jf rfl rfl aM) ?_|refine jC (jf rfl rfl aM) ?_|refine jK (jg rfl rfl aM aM) ?_|refine jC (jg rfl rfl aM aM) ?_|refine Xs rfl ?_|refine bO rfl rfl rfl ?_|refine Qg rfl rfl rfl rfl rfl (Nat.le_of_ble_eq_true rfl) rfl ?_|refine yI ?_|refine js ?_|refine jt wi (fun base=>?_)|refine Xt ?_|refine Qo ?_|refine ja ?_));first|exact goH.get|(revert base;exact goH.get)):P:=h ⟨k⟩
theorem qU{P Q:Prop}(k:Q)(h:Hid Q->P:=by intro goH;(repeat (first|refine Zu rfl rfl ?_|refine Zv rfl rfl ?_|refine ZR rfl ?_|refine ZS rfl rfl ?_|refine ZT rfl rfl ?_|refine YU rfl QE QE ?_|refine WS rfl rfl ?_|refine WQ rfl rfl ?_|refine KH rfl aM ?_|refine zJ rfl ?_|refine jK rfl ?_|refine jC rfl ?_|refine bL rfl QE ?_|refine bM rfl QE ?_|refine WU rfl rfl oM oM ?_|refine WV rfl rfl oM oM ?_|refine WT rfl rfl oM oM ?_|refine WW rfl rfl oM (by decide) aM ?_|refine zV rfl rfl oM (by decide) aM ?_|refine jK (jh rfl rfl aM rfl) ?_|refine jC (jh rfl rfl aM rfl) ?_|refine jK (jf rfl rfl aM) ?_|refine jC (jf rfl rfl aM) ?_|refine jK (jg rfl rfl aM aM) ?_|refine jC (jg rfl rfl aM aM) ?_|refine Xs rfl ?_|refine bO rfl rfl rfl ?_|refine Qg rfl rfl rfl rfl rfl (Nat.le_of_ble_eq_true rfl) rfl ?_|refine yI ?_|refine js ?_|refine jt wi (fun base=>?_)|refine Xt ?_|refine Qo ?_|refine ja ?_));first|exact goH.get|(revert base;exact goH.get)):P:=h ⟨k⟩
theorem goP{P Q:Prop}(k:Q)(h:Hid Q->P:=by intro goH;(repeat (first|refine pG rfl rfl (by first|exact fun _=>rfl|exact fun h=>(by simp only [if_pos h];rfl)|exact fun h=>(by simp only [if_pos h];assumption)) (by first|exact fun _=>rfl|exact fun h=>(by simp only [if_pos h];rfl)|exact fun h=>(by simp only [if_pos h];assumption)) ?_|refine YI rfl ?_|refine BS rfl rfl rfl ?_|refine BR rfl rfl rfl ?_|refine YJ ?_|refine vQ rfl rfl ?_|refine LJ rfl rfl (by assumption) ?_|refine Ko rfl rfl (by assumption) ?_|refine BU rfl rfl (by assumption) ?_|refine BT rfl rfl (by assumption) ?_|refine LH rfl rfl (by first|exact fun _=>rfl|exact fun _=>(by assumption)|exact fun h=>(by simp only [if_pos h];rfl)|exact fun h=>(by simp only [if_pos h];assumption)) ?_|refine BV rfl rfl (by first|exact fun _=>rfl|exact fun h=>(by simp only [if_pos h];rfl)|exact fun h=>(by simp only [if_pos h];assumption)) (by assumption) ?_|refine vQ rfl (by assumption) ?_));exact goH.get):P:=h ⟨k⟩
theorem zP{P Q:Prop}(k:Q)(h:Hid Q->P:=by intro goH;(repeat (first|refine pG rfl rfl (by first|exact fun _=>rfl|exact fun h=>(by simp only [if_pos h];rfl)|exact fun h=>(by simp only [if_pos h];assumption)) (by first|exact fun _=>rfl|exact fun h=>(by simp only [if_pos h];rfl)|exact fun h=>(by simp only [if_pos h];assumption)) ?_|refine YI rfl ?_|refine BS rfl rfl rfl ?_|refine BR rfl rfl rfl ?_|refine YJ ?_|refine vQ rfl rfl ?_|refine LJ rfl rfl (by assumption) ?_|refine Ko rfl rfl (by assumption) ?_|refine BU rfl rfl (by assumption) ?_|refine BT rfl rfl (by assumption) ?_|refine LH rfl rfl (by first|exact fun _=>rfl|exact fun _=>(by assumption)|exact fun h=>(by simp only [if_pos h];rfl)|exact fun h=>(by simp only [if_pos h];assumption)) ?_|refine BV rfl rfl (by first|exact fun _=>rfl|exact fun h=>(by simp only [if_pos h];rfl)|exact fun h=>(by simp only [if_pos h];assumption)) (by assumption) ?_|refine vQ rfl (by assumption) ?_|refine XP ?_|refine vZ ?_|refine Xm wi ?_|refine OB ?_|refine FP ?_));exact goH.get):P:=h ⟨k⟩
theorem Qt{α:Type}{f:α->List FD}{e:Nat}(hf:∀x,(f x).length=e):∀{l:List α} {i:Nat} {x:α},l[i]?=some x->xN (l.flatMap f) (i*e) e=some (f x)
 |[],i,x,h=>by simp at h
 |y::l,0,x,h=>by
  simp at h;subst h;have:=hf y;rw [Nat.zero_mul,yE (by simp;omega)];simp [List.take_append_of_le_length,<-this]
 |y::l,i+1,x,h=>by
  have ih:=Qt hf (l:=l) (i:=i) (x:=x) (by simpa using h);have hy:=hf y;obtain⟨h1,h2⟩:=zW ih;rw [List.flatMap_cons,Nat.add_mul,Nat.one_mul,yE (by rw [List.length_append];omega)];rw [show i*e+e=(f y).length+i*e by omega,<-List.drop_drop,List.drop_append_of_le_length (Nat.le_refl _),List.drop_length,List.nil_append,<-h2]
theorem K9{α:Type}{f:α->List FD}{e:Nat}(hf:∀x,(f x).length=e)(l:List α):(l.flatMap f).length=l.length*e:=by
 induction l with
 |nil=>simp
 |cons x l ih=>simp [ih,hf x,Nat.add_mul];omega
theorem qH{α:Type}(l:List α){n:Nat}(h:l.length=n):xN l 0 n=some l:=by
 subst h;rw [yE (by omega)];simp
abbrev DK(f:FuncId)(ds:List DV)(R:DV->Prop):Prop:=yg Tryz.prog 1 (H00 1) f ds R
theorem qX:∀b bk,(H00 1).get b=some bk->bk.ro=some bk:=by
 intro b bk h;by_cases hb:b=0
 ·subst hb;rw [<-zsi h];rfl
 ·simp [Hp.get,H00,T.get_nd,hb] at h
abbrev qc:=Int × Int
def qh(p:qc):List FD:=[.c (.int .i64 p.1),.c (.int .i64 p.2)]
def qz(l:List qc):DV:=.one (.f (.sl 2 l.length (l.flatMap qh)))
def zd(p:qc):DV:=.agg [.f (.c (.int .i64 p.1)),.f (.c (.int .i64 p.2))]
theorem xd{l:List qc}{i:Nat}{x:qc}(h:l[i]?=some x):xN (l.flatMap qh) (i*2) 2=some (qh x):=Qt (e:=2) (fun _=>rfl) h
theorem xb(l:List qc):(l.flatMap qh).length=l.length*2:=K9 (f:=qh) (e:=2) (fun _=>rfl) l
end Go.Ag

namespace Go.Ab
theorem wI{H:Hp}(hw:WF H)(cs:List C){n:Nat}(hn:cs.length=n):WF (H.push (.row n cs .lf true))/\Ext H (H.push (.row n cs .lf true))/\xX (H.push (.row n cs .lf true)) H.nx cs:=by
 subst hn;exact⟨hw.push _,Ext.push hw (Ext.refl H) _,xX.new cs⟩
theorem xX.cell{H:Hp}{b:Nat}{l:List C}(h:xX H b l){i:Nat}{c:C}(hc:l[i]?=some c):H.cell b i=some c:=by
 have:=vq (i:=i) h.2 (zgs hc).1;rw [Nat.zero_add] at this;rw [this,hc]
theorem xX.ext{H H':Hp}{b:Nat}{l:List C}(h:xX H b l)(he:Ext H H'):xX H' b l:=by
 obtain⟨⟨z,m,hg⟩,hl⟩:=h;exact⟨⟨z,m,he.get _ _ hg⟩,he.loads hl⟩
theorem xw{n:Int}(h1: -9223372036854775808<=n)(h2:n<9223372036854775808):IntKind.i64.wrap n=n:=by
 simp [IntKind.wrap,IntKind.signed,IntKind.bits];split<;>omega
theorem NU(a:Int){b:Int}(hb:0<b): -b<a.tmod b/\a.tmod b<b:=by
 refine⟨?_,Int.tmod_lt_of_pos a hb⟩;rcases Int.le_total 0 a with h|h
 ·have:=Int.tmod_nonneg b h;omega
 ·have h1:(-a).tmod b<b:=Int.tmod_lt_of_pos _ hb;rw [Int.neg_tmod] at h1;omega
theorem KV:∀(pre cs rest:List C),cs.length=rest.length->yO (pre++rest) pre.length cs=pre++cs
 |_,[],[],_=>by simp [yO]
 |pre,c::cs,r::rest,h=>by
  simp only [yO];have e:(pre++r::rest).set pre.length c=(pre++[c])++rest:=by simp
  rw [e];have:=KV (pre++[c]) cs rest (by simpa using h);simp only [List.length_append,List.length_cons,List.length_nil] at this;rw [this];simp
 |_,[],_::_,h=>by simp at h
 |_,_::_,[],h=>by simp at h
theorem FC(cs z:List C)(h:cs.length=z.length):yO z 0 cs=cs:=by simpa using KV [] cs z h
theorem OJ{H:Hp}(hw:WF H)(z cs:List C)(hn:cs.length=z.length):∃H3,(H.push (.row z.length z .lf true)).stores H.nx 0 cs=some H3/\WF H3/\Ext H H3/\xX H3 H.nx cs/\H3.nx=H.nx+1:=by
 obtain⟨hw1,hx,hb⟩:=wI hw z rfl;obtain⟨H3,s1,s2,s3,s4⟩:=hb.stores (cs:=cs) (i:=0) oM;rw [FC cs z hn] at s2;refine⟨H3,s1,fun b bk h=>?_,⟨fun b bk h=>?_,by rw [s4];simp⟩,s2,by rw [s4];simp⟩
 ·rw [s4];by_cases e:b=H.nx
  ·subst e;simp
  ·rw [s3 b e] at h;exact hw1 b bk h
 ·rw [s3 b (by have:=hw b bk h;omega)];exact hx.get b bk h
def j5(H:Hp)(lo hi:Nat)(l:List Pt)(v:V):Prop:=fG H lo 2 l.length (zD l) v/\∀b,Wr v=some b->lo<=b/\b<hi
theorem j5.same{H H':Hp}{lo hi:Nat}{l:List Pt}{v:V}(h:j5 H lo hi l v)(hg:∀b,Wr v=some b->H'.get b=H.get b):j5 H' lo hi l v:=⟨h.1.same hg,h.2⟩
theorem j5.mono{H:Hp}{lo lo' hi hi':Nat}{l:List Pt}{v:V}(h:j5 H lo hi l v)(hlo:lo'<=lo)(hhi:hi<=hi'):j5 H lo' hi' l v:=by
 refine⟨⟨h.1.1,?_⟩,fun b hb=>by have:=h.2 b hb;omega⟩;rcases h.1.2 with h|⟨b,ex,hv,hl,hr⟩
 ·exact .inl h
 ·exact .inr ⟨b,ex,hv,oM,hr⟩
theorem j5.none{H:Hp}{lo hi b:Nat}(hb:H.get b=some (.row 0 [] .lf true))(h1:lo<=b)(h2:b<hi):j5 H lo hi [] (.one (.slc b 0 0 0 2 true)):=
 ⟨⟨rfl,.inr ⟨b,true,rfl,h1,⟨[],.lf,hb⟩,rfl⟩⟩,fun x hx=>by obtain rfl:=zsi hx;exact⟨h1,h2⟩⟩
theorem j5.append1{H H1:Hp}{lo hi:Nat}{l:List Pt}{v:V}{bb:Nat}{p:Pt}(h:j5 H lo hi l v)(hhi:hi<=H.nx)(hw1:WF H1)(hold:∀b,b<H.nx->H1.get b=H.get b)(hnx:H.nx<=H1.nx)(hbb:H1.get bb=some (.row 2 (x6 p) .lf true))(hlo:lo<=H.nx)(hlen:l.length<1000000000):
 ∃v' H',zG H1 2 (.one (.slc bb 0 1 1 2 true))=some (1,x6 p)/\zq H1 2 16 v 1 (x6 p)=some (v',H')/\j5 H' lo H'.nx (l++[p]) v'/\(∀b,b<H.nx->Wr v≠some b->H'.get b=H.get b)/\H.nx<=H'.nx/\WF H':=by
 have hsrc:H1.loads bb 0 (1*2)=some (x6 p):=XU (cs:=x6 p) (rw:=true) hbb;have h1:fG H1 lo 2 l.length (zD l) v:=h.1.same fun b hb=>hold b (by have:=h.2 b hb;omega);obtain⟨v',H',e1,e2,e3,e4,e5,e6⟩:=h1.append (bytes:=16) hw1 oM (m:=1) (news:=x6 p) rfl oM oM oM;refine⟨v',H',o7 hsrc,e1,⟨?_,fun b hb=>?_⟩,fun b hb hne=>?_,oM,e6⟩
 ·have:zD (l++[p])=zD l++x6 p:=by simp [zD]
  rw [this,List.length_append];exact e2
 ·rw [e3] at hb;obtain rfl:=zsi hb;omega
 ·rw [e4 b (by omega) hne,hold b hb]
theorem j5.one{H:Hp}{lo hi:Nat}{l:List Pt}{v:V}(h:j5 H lo hi l v):∃c,v=.one c:=by
 rcases h.1.2 with⟨h,_⟩|⟨b,ex,hv,_⟩
 ·exact⟨_,h⟩
 ·exact⟨_,hv⟩
theorem hY:∀(pre old cs rest:List C),cs.length=old.length->yO (pre++(old++rest)) pre.length cs=pre++(cs++rest)
 |_,[],[],_,_=>by simp [yO]
 |pre,o::old,c::cs,rest,h=>by
  simp only [yO];have e:(pre++(o::old++rest)).set pre.length c=(pre++[c])++(old++rest):=by simp
  rw [e];have:=hY (pre++[c]) old cs rest (by simpa using h);simp only [List.length_append,List.length_cons,List.length_nil] at this;rw [this];simp
 |_,[],_::_,_,h=>by simp at h
 |_,_::_,[],_,h=>by simp at h
def vF(H:Hp)(b cap:Nat)(l:List Pt):Prop:=∃rest,rest.length=(cap-l.length)*2/\l.length<=cap/\xX H b (zD l++rest)
theorem vF.append{H:Hp}{b cap:Nat}{l:List Pt}(h:vF H b cap l)(hc:l.length<cap)(bytes:Nat)(ex:Bool)(p:Pt):∃H',zq H 2 bytes (.one (.slc b 0 l.length cap 2 ex)) 1 (x6 p)=some (.one (.slc b 0 (l.length+1) cap 2 ex),H')/\vF H' b cap (l++[p])/\(∀b',b'≠b->H'.get b'=H.get b')/\H'.nx=H.nx:=by
 obtain⟨rest,h1,h2,h3⟩:=h;obtain⟨H',e1,e2,e3,e4⟩:=h3.stores (cs:=x6 p) (i:=l.length*2) (by simp [zM,h1,x6];omega);refine⟨H',?_,⟨rest.drop 2,by simp [h1];omega,by simp;omega,?_⟩,e3,e4⟩
 ·simp only [zq];rw [if_neg (by simp),if_pos (by omega),Nat.zero_add,e1];rfl
 ·have e5:zD (l++[p])=zD l++x6 p:=by simp [zD]
  have e6:zD l++rest=zD l++(rest.take 2++rest.drop 2):=by rw [List.take_append_drop]
  rw [e6,<-zM,hY _ _ _ _ (by simp [x6,h1];omega)] at e2;rw [e5,List.append_assoc];exact e2
theorem aU{H:Hp}{b n:Nat}{z:List C}{m:T C}{rw:Bool}(h:H.get b=some (.row n z m rw)):∀(k o:Nat),o+k<=n->∃cs,cs.length=k/\H.loads b o k=some cs
 |0,o,_=>⟨[],rfl,rfl⟩
 |k+1,o,hk=>by
  obtain⟨cs,h1,h2⟩:=aU h k (o+1) oM;have hc:H.cell b o=some ((m.get o).getD (z.getD (o % z.length) .nilp)):=by simp [Hp.cell,h,B.cell,show o<n by omega]
  exact⟨(m.get o).getD (z.getD (o % z.length) .nilp)::cs,by simp [h1],by simp only [Hp.loads,hc,h2]⟩
theorem xX.some{H:Hp}{b n:Nat}{z:List C}{m:T C}(h:H.get b=some (.row n z m true)):∃cs,cs.length=n/\xX H b cs:=by
 obtain⟨cs,h1,h2⟩:=aU h n 0 oM;exact⟨cs,h1,⟨z,m,by rw [h1];exact h⟩,by rw [h1];exact h2⟩
theorem vF.new{H:Hp}{b cap:Nat}{z:List C}(h:H.get b=some (.row (cap*2) z .lf true)):vF H b cap []:=by
 obtain⟨cs,h1,h2⟩:=xX.some h;exact⟨cs,by simp [h1],by simp,by simpa [zD] using h2⟩
theorem vF.same{H H':Hp}{b cap:Nat}{l:List Pt}(h:vF H b cap l)(hg:H'.get b=H.get b):vF H' b cap l:=by
 obtain⟨r,h1,h2,h3⟩:=h;exact⟨r,h1,h2,h3.same hg⟩
theorem vF.full{H:Hp}{lo hi b cap:Nat}{l:List Pt}{ex:Bool}(h:vF H b cap l)(hc:l.length=cap)(h1:lo<=b)(h2:b<hi):j5 H lo hi l (.one (.slc b 0 l.length cap 2 ex)):=by
 obtain⟨r,g1,g2,g3⟩:=h;have:r=[]:=List.eq_nil_of_length_eq_zero (by rw [g1,hc];simp);subst this;rw [List.append_nil] at g3;subst hc;exact⟨⟨zM l,.inr ⟨b,ex,rfl,h1,g3⟩⟩,fun x hx=>by obtain rfl:=zsi hx;exact⟨h1,h2⟩⟩
end Go.Ab

namespace Go.Ag
open Go.Ab Go.Proofs
theorem EQ{H:Hp}{n:Int}(h: -4000000000000000000<n)(h':n<4000000000000000000):qJ Tryz.prog 1 116 [.int n] H fun v H'=>v=.int (max n (-n))/\H'=H:=by
 refine v7 M1 (by simp [t7]) fun hwf=>?_;refine zP ?_;refine QQ rfl rfl (fun ht=>?_) (fun ht=>?_)
 ·refine zP ?_;refine jF ⟨_,rfl,?_,rfl⟩;simp at ht;rw [xw (by omega) (by omega)];congr 2;omega
 ·refine zP ?_;refine jF ⟨_,rfl,?_,rfl⟩;simp at ht;congr 2;omega
theorem pD{H:Hp}{n:Int}(h: -4000000000000000000<n)(h':n<4000000000000000000):qJ Tryz.prog 1 114 [.int n] H fun v H'=>v=.int (max n (-n))/\H'=H:=by
 refine v7 M2 (by simp [t8]) fun hwf=>?_;refine zP ?_;refine jF ⟨_,rfl,?_,rfl⟩;rw [xw (by omega) (by omega)];congr 3;omega
def xz(p q:Pt):Int:=max (max (p.1-q.1) (-(p.1-q.1))) (max (p.2-q.2) (-(p.2-q.2)))
def qC(B:Int)(p:Pt):Prop:= -B<=p.1/\p.1<=B/\ -B<=p.2/\p.2<=B
theorem IH{H:Hp}{p q:Pt}(hp:qC 1000000000000000000 p)(hq:qC 1000000000000000000 q):qJ Tryz.prog 1 93 [ptV p,ptV q] H fun v _=>v=.int (xz p q):=by
 obtain⟨p1,p2,p3,p4⟩:=hp;obtain⟨q1,q2,q3,q4⟩:=hq;refine v7 qaN (by simp [LS]) fun hwf=>?_;obtain⟨hw1,hx1,hb1⟩:=wI hwf (x6 p) rfl;obtain⟨hw2,hx2,hb2⟩:=wI hw1 (x6 q) rfl;refine vZ (Xm wi (Xk rfl rfl (Xk rfl rfl (YJ (XP ?_)))));replace hb1:=hb1.ext hx2;have c0:=hb1.cell (i:=0) rfl;have c1:=hb1.cell (i:=1) rfl;have d0:=hb2.cell (i:=0) rfl;have d1:=hb2.cell (i:=1) rfl;generalize ((H.push _).push _)=H2 at *;refine vZ (Wo wi ?_);refine zP ?_;rw [xw (n:=p.1-q.1) (by omega) (by omega)];rw [xw (n:=p.2-q.2) (by omega) (by omega)];refine kV rfl rfl (EQ oM oM) (by repeat (first|exact trivial|refine⟨by assumption,?_⟩)) (kV rfl rfl (EQ oM oM) (by repeat (first|exact trivial|refine⟨by assumption,?_⟩)) ?_);refine zP ?_;exact jF ⟨_,rfl,rfl⟩
theorem nT{H:Hp}{p q:Pt}(hp:qC 1000000000000000000 p)(hq:qC 1000000000000000000 q):qJ Tryz.prog 1 93 [ptV p,ptV q] H fun v H'=>v=.int (xz p q)/\H'=H:=
 (qJ.pure (IH hp hq) (fun v _ h=>by rw [h];rfl)).mono fun v H' ⟨⟨_,h⟩,e⟩=>⟨h,e⟩
theorem N6{H:Hp}{p q:Pt}(hp:qC 1000000000000000000 p)(hq:qC 1000000000000000000 q):qJ Tryz.prog 1 89 [ptV p,ptV q] H fun v _=>v=.int (xz p q):=by
 obtain⟨p1,p2,p3,p4⟩:=hp;obtain⟨q1,q2,q3,q4⟩:=hq;refine v7 qaQ (by simp [LU]) fun hwf=>?_;obtain⟨hw1,hx1,hb1⟩:=wI hwf (x6 p) rfl;obtain⟨hw2,hx2,hb2⟩:=wI hw1 (x6 q) rfl;refine vZ (Xm wi (Xk rfl rfl (Xk rfl rfl (YJ (XP ?_)))));replace hb1:=hb1.ext hx2;have c0:=hb1.cell (i:=0) rfl;have c1:=hb1.cell (i:=1) rfl;have d0:=hb2.cell (i:=0) rfl;have d1:=hb2.cell (i:=1) rfl;generalize ((H.push _).push _)=H2 at *;refine vZ (Wo wi ?_);refine zP ?_;rw [xw (n:=p.1-q.1) (by omega) (by omega)];rw [xw (n:=p.2-q.2) (by omega) (by omega)];refine kV rfl rfl (pD oM oM) (by repeat (first|exact trivial|refine⟨by assumption,?_⟩)) (kV rfl rfl (pD oM oM) (by repeat (first|exact trivial|refine⟨by assumption,?_⟩)) ?_);refine zP ?_;exact jF ⟨_,rfl,rfl⟩
theorem pA{H:Hp}{p q:Pt}(hp:qC 1000000000000000000 p)(hq:qC 1000000000000000000 q):qJ Tryz.prog 1 89 [ptV p,ptV q] H fun v H'=>v=.int (xz p q)/\H'=H:=
 (qJ.pure (N6 hp hq) (fun v _ h=>by rw [h];rfl)).mono fun v H' ⟨⟨_,h⟩,e⟩=>⟨h,e⟩
theorem rU{p q:qc}(hp:qC 1000000000000000000 p)(hq:qC 1000000000000000000 q):DK 93 [zd p,zd q] fun d=>d=.int (xz p q):=yg.of_pure (vs:=[ptV p,ptV q]) ⟨rfl,rfl,trivial⟩ rfl fun H _=>nT hp hq
theorem qo7{p q:qc}(hp:qC 1000000000000000000 p)(hq:qC 1000000000000000000 q):DK 89 [zd p,zd q] fun d=>d=.int (xz p q):=yg.of_pure (vs:=[ptV p,ptV q]) ⟨rfl,rfl,trivial⟩ rfl fun H _=>pA hp hq
theorem SF(p q:qc):Kg [.int .i64 p.1,.int .i64 p.2] [.int .i64 q.1,.int .i64 q.2] [(0,false),(1,false)]=some (decide (p=q)):=by
 obtain⟨p1,p2⟩:=p;obtain⟨q1,q2⟩:=q;simp only [Kg,sC,List.getElem?_cons_zero,List.getElem?_cons_succ,if_true];by_cases h1:p1=q1
 ·by_cases h2:p2=q2
  ·subst h1;subst h2;simp
  ·have e2:(p2==q2)=false:=by simpa using h2
   subst h1;simp [h2,e2]
 ·have e1:(p1==q1)=false:=by simpa using h1
  simp [h1,e1]
theorem vd{neg:Bool}{E:qp}{x y:Opd}{p q:qc}(hx:ro E x=some (.agg [.f (.c (.int .i64 p.1)),.f (.c (.int .i64 p.2))]))(hy:ro E y=some (.agg [.f (.c (.int .i64 q.1)),.f (.c (.int .i64 q.2))])):ji E (.eqs neg [(0,false),(1,false)] x y)=some (.bool (match neg with|true=>!decide (p=q)|false=>decide (p=q))):=by
 have ex:mJ E x=some (.agg [.int .i64 p.1,.int .i64 p.2]):=by simp [mJ,hx,bG,p9,DG]
 have ey:mJ E y=some (.agg [.int .i64 q.1,.int .i64 q.2]):=by simp [mJ,hy,bG,p9,DG]
 simp only [ji,MO,PureOp.opds,qW,tM,ex,ey,Option.isSome_some,PureOp.mp,rx,qy,Opd.ev,SF];cases neg<;>rfl
theorem uK{l:List qc}{p:qc}(hn:l.length<1000000000000):DK 55 [qz l,zd p] fun d=>d=.bool (decide (p∈l)):=by
 refine qD qbm rfl qX fun Z0 lo=>?_;refine qb ?_;intros;refine ql (fun m E S nk=>∃k:Nat,k+m=l.length/\E=[(0,qz l),(3,.one (.ptr 0 0)),(5,.int k)]/\S=[(0,.cells [.f (.c (.int .i64 p.1)),.f (.c (.int .i64 p.2))])]/\nk=1/\p∉l.take k) ⟨l.length,_,_,_,[],?wk,0,by omega,rfl,rfl,rfl,by simp⟩ ?_
 case wk=>exact qm
 rintro m E S nk ⟨k,hk,rfl,rfl,rfl,hno⟩;refine qb ?_;intros;refine qe rfl (fun ht=>?_) (fun ht=>?_)
 ·simp at ht;obtain⟨q,hq⟩:∃q,l[k]?=some q:=⟨_,zge oM⟩;have e1:=xd hq;refine qb ?_;intros;refine zJ (vd (p:=q) (q:=p) rfl rfl) ?_;refine qb ?_;intros;refine qe rfl (fun ht2=>?_) (fun ht2=>?_)
  ·simp at ht2;refine qb ?_;intros;refine qf ⟨_,rfl,rfl,?_⟩;rw [decide_eq_true (by rw [<-ht2];exact zmg hq)]
  ·simp at ht2;refine qb ?_;intros;refine⟨m-1,oM,_,_,_,[],?wk,k+1,oM,rfl,rfl,rfl,?_⟩
   case wk=>exact qm
   rw [List.take_add_one,hq];simp;exact⟨hno,fun h=>ht2 h.symm⟩
 ·simp at ht;refine qb ?_;intros;refine qf ⟨_,rfl,rfl,?_⟩;obtain rfl:k=l.length:=by omega
  rw [List.take_length] at hno;rw [decide_eq_false hno]
def yU(a b:List qc):List Int:=a.flatMap fun p=>b.map (xz p)
def xZ(a b:List qc):Int:=match a,b with
 |[],_=> -1
 |_,[]=> -1
 |p::_,q::_=>(yU a b).foldl min (xz p q)
def Qc(l:List qc):Prop:=∀p∈l,qC 1000000000000000000 p
theorem WK:∀(l:List Int) (x:Int),l.foldl min x<=x/\∀y∈l,l.foldl min x<=y
 |[],x=>⟨by simp,by simp⟩
 |y::l,x=>by
  have h:=WK l (min x y);simp only [List.foldl_cons];refine⟨oM,fun z hz=>?_⟩;rcases List.mem_cons.1 hz with rfl|hz
  ·omega
  ·exact h.2 z hz
theorem JS:∀(l:List Int) (x:Int),l.foldl min x=x\/l.foldl min x∈l
 |[],x=>.inl rfl
 |y::l,x=>by
  simp only [List.foldl_cons];rcases JS l (min x y) with h|h
  ·rw [h];by_cases hxy:x<=y
   ·exact .inl oM
   ·exact .inr (by simp;omega)
  ·exact .inr (by simp [h])
theorem Jz{a b:List qc}(ha:Qc a)(hb:Qc b)(hn:a.length<=256)(hm:b.length<=256):DK 60 [qz a,qz b] fun d=>d=.int (xZ a b):=by
 refine qD qbh rfl qX fun Z0 lo=>?_;refine qb ?_;intros;refine qe rfl (fun ht=>?_) (fun ht=>?_)
 ·simp at ht;refine qb ?_;intros;refine qf ⟨_,rfl,rfl,?_⟩;cases a with
  |nil=>rfl
  |cons p a=>cases b with
   |nil=>rfl
   |cons q b=>simp at ht
 ·simp only [Bool.if_true_left,Bool.or_eq_false_iff,decide_eq_false_iff_not,<-List.length_eq_zero_iff] at ht;simp at ht;obtain⟨ht1,ht2⟩:=ht;obtain⟨p0,a',rfl⟩:∃q l,a=q::l:=List.exists_cons_of_ne_nil ht1;obtain⟨q0,b',rfl⟩:∃q l,b=q::l:=List.exists_cons_of_ne_nil ht2;have e1:xN ((p0::a').flatMap qh) (0*2) 2=some (qh p0):=xd rfl;have e2:xN ((q0::b').flatMap qh) (0*2) 2=some (qh q0):=xd rfl;have hp0:=ha p0 (by simp);have hq0:=hb q0 (by simp);have hl1:0<(p0::a').length:=by simp
  have hl2:0<(q0::b').length:=by simp
  have hdist:xZ (p0::a') (q0::b')=(yU (p0::a') (q0::b')).foldl min (xz p0 q0):=rfl;rw [hdist];generalize hga:p0::a'=a at *;generalize hgb:q0::b'=b at *;refine qr (qd (k:=0) rfl (qd (k:=1) rfl (qu _))) (qu _) ?_;have hle:(a.length:Int)*b.length<=256*256:=Int.mul_le_mul oM oM oM oM;have h0:(0:Int)<=(a.length:Int)*b.length:=Int.mul_nonneg oM oM
  iterate 10 (first|(refine Zu rfl rfl ?_)|(refine Zv rfl rfl ?_)|(refine ZR rfl ?_)|(refine ZS rfl rfl ?_)|(refine ZT rfl rfl ?_)|(refine YU rfl QE QE ?_)|(refine WS rfl rfl ?_)|(refine WQ rfl rfl ?_)|(refine zJ rfl ?_)|(refine jK rfl ?_)|(refine jC rfl ?_)|(refine bL rfl QE ?_)|(refine bM rfl QE ?_)|(refine WU rfl rfl oM oM ?_)|(refine WV rfl rfl oM oM ?_)|(refine WT rfl rfl oM oM ?_)|(refine WW rfl rfl oM (by decide) aM ?_)|(refine zV rfl rfl oM (by decide) aM ?_)|(refine jK (jh rfl rfl aM rfl) ?_)|(refine jC (jh rfl rfl aM rfl) ?_)|(refine jK (jf rfl rfl aM) ?_)|(refine jC (jf rfl rfl aM) ?_)|(refine jK (jg rfl rfl aM aM) ?_)|(refine jC (jg rfl rfl aM aM) ?_)|(refine Xs rfl ?_)|(refine bO rfl rfl rfl ?_)|(refine Qg rfl rfl rfl rfl rfl (Nat.le_of_ble_eq_true rfl) rfl ?_)|(refine yI ?_)|(refine js ?_)|(refine jt wi (fun base=>?_))|(refine Xt ?_)|(refine Qo ?_)|(refine ja ?_))
  rw [show decide (IntKind.i64.wrap ((a.length:Int)*b.length)>65536)=false by rw [qq (by omega) (by omega)];simp;omega];refine qb ?_;intros;refine qe rfl (fun ht=>by cases ht) (fun _=>?_);refine qb ?_;intros;refine qk rfl rfl (rU hp0 hq0) ?_;rintro _ rfl;refine qb ?_;intros;refine ql (fun m E S nk=>∃k:Nat,k+m=a.length/\E=[(1,qz b),(5,.int ((yU (a.take k) b).foldl min (xz p0 q0))),(42,qz a),(43,.int a.length),(44,.int k)]/\S=[]/\nk=0) ⟨a.length,_,_,_,[],?wk,0,oM,rfl,rfl,rfl⟩ ?_
  case wk=>exact qm
  rintro m E S nk ⟨k,hk,rfl,rfl,rfl⟩;refine qb ?_;intros;refine qe rfl (fun ht=>?_) (fun ht=>?_)
  ·simp at ht;obtain⟨p,hp⟩:∃q,a[k]?=some q:=⟨_,zge oM⟩;have e3:=xd hp;have hps:=ha p (zmg hp);refine qb ?_;intros;refine ql (fun m E S nk=>∃j:Nat,j+m=b.length/\E=[(1,qz b),(5,.int (((b.take j).map (xz p)).foldl min ((yU (a.take k) b).foldl min (xz p0 q0)))),(7,.one (.ptr 0 0)),(42,qz a),(43,.int a.length),(44,.int k),(48,qz b),(49,.int b.length),(50,.int j)]/\S=[(0,.cells [.f (.c (.int .i64 p.1)),.f (.c (.int .i64 p.2))])]/\nk=1) ⟨b.length,_,_,_,[],?wk2,0,oM,rfl,rfl,rfl⟩ ?_
   case wk2=>exact qm
   rintro m2 E S nk ⟨j,hj,rfl,rfl,rfl⟩;refine qb ?_;intros;refine qe rfl (fun ht2=>?_) (fun ht2=>?_)
   ·simp at ht2;obtain⟨q,hq⟩:∃q,b[j]?=some q:=⟨_,zge oM⟩;have e4:=xd hq;have hqs:=hb q (zmg hq);refine qb ?_;intros;refine qk rfl rfl (rU (p:=p) (q:=q) hps hqs) ?_;rintro _ rfl;refine qb ?_;intros;have hD:min (((b.take j).map (xz p)).foldl min ((yU (a.take k) b).foldl min (xz p0 q0))) (xz p q)=((b.take (j+1)).map (xz p)).foldl min ((yU (a.take k) b).foldl min (xz p0 q0)):=by
     rw [List.take_add_one,hq];simp
    rw [hD];refine⟨m2-1,oM,_,_,_,[],?wk3,j+1,oM,rfl,rfl,rfl⟩
    case wk3=>exact qm
   ·simp at ht2;obtain rfl:j=b.length:=by omega
    refine qb ?_;intros;have hD:((b.take b.length).map (xz p)).foldl min ((yU (a.take k) b).foldl min (xz p0 q0))=(yU (a.take (k+1)) b).foldl min (xz p0 q0):=by
     rw [List.take_add_one,hp,List.take_length];simp [yU]
    rw [hD];refine⟨m-1,oM,_,_,_,[],?wk3,k+1,oM,rfl,rfl,rfl⟩
    case wk3=>exact qm
  ·simp at ht;obtain rfl:k=a.length:=by omega
   refine qb ?_;intros;refine qf ⟨_,rfl,rfl,?_⟩;rw [List.take_length]
def xp(a b:qc):Bool:=if decide (a.2<b.2)=true then true else if (a.2==b.2)=true then decide (a.1<b.1) else false
theorem HR{a b:qc}:DK 87 [zd a,zd b] fun d=>d=.bool (xp a b):=by
 refine qD qaS rfl qX fun Z0 lo=>?_;by_cases h1:a.2<b.2
 ·have g1:decide (a.2<b.2)=true:=by simpa using h1
  refine qU ?_;intros;exact qf ⟨_,rfl,rfl,by simp [xp,h1]⟩
 ·have g1:decide (a.2<b.2)=false:=by simpa using h1
  by_cases h2:a.2=b.2
  ·have g2:(a.2==b.2)=true:=by simpa using h2
   refine qU ?_;intros;exact qf ⟨_,rfl,rfl,by simp [xp,h1,h2]⟩
  ·have g2:(a.2==b.2)=false:=by simpa using h2
   refine qU ?_;intros;exact qf ⟨_,rfl,rfl,by simp [xp,h1,h2]⟩
def wF(x:qc)(out:List qc):Nat->Nat
 |0=>0
 |n+1=>match out[n]? with
  |some z=>if xp x z=true then wF x out n else n+1
  |none=>n+1
def QY(x:qc)(out:List qc):List qc:=out.take (wF x out out.length)++[x]++out.drop (wF x out out.length)
def vU(out:List qc)(x:qc):List qc:=if x∈out then out else QY x out
def qt(l:List qc):List qc:=l.foldl vU []
theorem pJ(x:qc)(out:List qc):∀n,wF x out n<=n
 |0=>Nat.le_refl 0
 |n+1=>by
  simp only [wF];have:=pJ x out n;split
  ·split<;>omega
  ·omega
theorem KT:∀(l out:List qc),(l.foldl vU out).length<=out.length+l.length
 |[],out=>by simp
 |x::l,out=>by
  have:=KT l (vU out x);have h2:(vU out x).length<=out.length+1:=by
   unfold vU;split
   ·omega
   ·simp [QY];omega
  simp only [List.foldl_cons,List.length_cons];omega
theorem VM{l:List qc}(hn:l.length<1000000):DK 52 [qz l] fun d=>d=qz (qt l):=by
 refine qD qbo rfl qX fun Z0 lo=>?_;refine qb ?_;intros;refine ql (fun m E S nk=>∃k:Nat,k+m=l.length/\∃out:List qc,out=qt (l.take k)/\E=[(0,qz l),(3,.one (.own 0 0 out.length 2)),(4,.int k)]/\S=[(0,.data (out.flatMap qh))]/\nk=1) ⟨l.length,_,_,_,[],?wk,0,oM,[],rfl,rfl,rfl,rfl⟩ ?_
 case wk=>exact qm
 rintro m E S nk ⟨k,hk,out,hout,rfl,rfl,rfl⟩;have hol:out.length<=1000000:=by
  have:=KT (l.take k) [];rw [hout,qt];simp at this;omega
 have hflat:=xb out;refine qb ?_;intros;refine qe rfl (fun ht=>?_) (fun ht=>?_)
 ·simp at ht;obtain⟨x,hx⟩:∃x,l[k]?=some x:=⟨_,zge oM⟩;have e1:=xd hx;have hstep:qt (l.take (k+1))=vU out x:=by
   rw [List.take_add_one,hx,hout,qt,qt];simp
  refine qb ?_;intros;refine YV (ds:=[.one _,zd x]) rfl ⟨⟨_,rfl,_,_,rfl,qH _ hflat,rfl⟩,⟨_,rfl,⟨rfl,rfl⟩,⟨rfl,rfl⟩,trivial⟩,trivial⟩ (uK (l:=out) (p:=x) oM) (by rintro _ rfl;rfl) ?_;rintro _ rfl;refine qb ?_;intros;refine qe rfl (fun ht2=>?_) (fun ht2=>?_)
  ·simp at ht2;refine qb ?_;intros;refine⟨m-1,oM,_,_,_,[],?wk1,k+1,oM,out,?ho,rfl,rfl,rfl⟩
   case wk1=>exact qm
   case ho=>rw [hstep,vU,if_pos ht2]
  ·simp at ht2;refine qb ?_;intros;refine ql (fun m E S nk=>∃j:Nat,j=m/\j<=out.length/\wF x out j=wF x out out.length/\E=[(0,qz l),(3,.one (.own 0 0 out.length 2)),(4,.int k),(5,.int j)]/\S=[(0,.data (out.flatMap qh))]/\nk=1) ⟨out.length,_,_,_,[],?wk2,out.length,rfl,Nat.le_refl _,rfl,rfl,rfl,rfl⟩ ?_
   case wk2=>exact qm
   rintro m2 E S nk ⟨j,hj,hjl,hpos,rfl,rfl,rfl⟩;have fin:j=wF x out out.length->∀Q:Exit->qp->Bx->Nat->Prop,Q .normal [(0,qz l),(3,.one (.own 5 0 (QY x out).length 2)),(4,.int k)] [(5,.data ((QY x out).flatMap qh))] 6->DPS (Par.base Tryz.prog 1 (H00 1) Z0 lo) L1.n (.seq (.ops L0 0) (.seq (.ops LZ 10) (.ops C3 0))) Q [(0,qz l),(3,.one (.own 0 0 out.length 2)),(4,.int k),(5,.int j)] [(0,.data (out.flatMap qh))] 1:=by
    intro hjp Q hQ;have hsplit:out.flatMap qh=(out.take j).flatMap qh++(out.drop j).flatMap qh:=by rw [<-List.flatMap_append,List.take_append_drop]
    have hlt:((out.take j).flatMap qh).length=j*2:=by rw [xb,List.length_take];omega
    have hld:((out.drop j).flatMap qh).length=(out.length-j)*2:=by rw [xb,List.length_drop]
    have htake:xN (out.flatMap qh) 0 (j*2)=some ((out.take j).flatMap qh):=by
     rw [yE (by omega),hsplit,List.drop_zero,List.take_append_of_le_length (by omega),List.take_of_length_le (by omega)]
    have hdrop:xN (out.flatMap qh) (j*2) ((out.length-j)*2)=some ((out.drop j).flatMap qh):=by
     rw [yE (by omega),hsplit,<-hlt,List.drop_left,List.take_of_length_le (by omega)]
    have hL:j+1+(out.length-j)=(QY x out).length:=by simp [QY,<-hjp];omega
    have hD:((out.take j).flatMap qh++[.c (.int .i64 x.1),.c (.int .i64 x.2)])++(out.drop j).flatMap qh=(QY x out).flatMap qh:=by
     rw [QY,<-hjp,List.flatMap_append,List.flatMap_append];rfl
    refine qb ?_;intros;refine YT (o':=j*2) (n':=out.length-j) rfl rfl rfl hjl (Nat.le_refl _) oM rfl ?_;refine qV (l':=[]) (q:=(out.drop j).flatMap qh) (m:=out.length-j) rfl rfl rfl rfl ⟨rfl,rfl,_,rfl,hdrop⟩ oM oM (by decide) rfl ?_;rw [Nat.zero_add (out.length-j),List.nil_append];refine qb ?_;intros;refine YT (o':=0) (n':=j) rfl rfl rfl (Nat.zero_le _) hjl oM oM ?_;refine qb ?_;intros;refine qV (l':=(out.take j).flatMap qh) (q:=[.c (.int .i64 x.1),.c (.int .i64 x.2)]) rfl rfl rfl htake ⟨rfl,rfl,_,rfl,rfl⟩ oM oM (by decide) rfl ?_;refine qb ?_;intros;refine qV (q:=(out.drop j).flatMap qh) (m:=out.length-j) rfl rfl rfl (qH _ (by rw [List.length_append,hlt];simp;omega)) ⟨rfl,rfl,_,rfl,qH _ hld⟩ (by omega) (by omega) (by decide) rfl ?_;rw [hL,hD];refine zJ rfl ?_;refine yJ (qd (k:=0) rfl (qd (k:=3) rfl (qd (k:=4) rfl (qu _)))) (qd (k:=5) rfl (qu _)) ?_;exact yI hQ
   by_cases hj0:j=0
   ·have g0:decide ((j:Int)>0)=false:=by simp;omega
    refine qU ?_;intros;refine qe rfl (fun ht=>by cases ht) (fun _=>?_);refine ja ?_;refine qr (qd (k:=0) rfl (qd (k:=3) rfl (qd (k:=4) rfl (qd (k:=5) rfl (qu _))))) (qd (k:=0) rfl (qu _)) ?_;refine fin (by rw [<-hpos,hj0];rfl) _ ?_;refine qb ?_;intros;refine⟨m-1,oM,_,_,_,[(0,5)],?wa,k+1,oM,QY x out,?ha,rfl,rfl,rfl⟩
    case wa=>exact qm
    case ha=>rw [hstep,vU,if_neg ht2]
   ·obtain⟨i,rfl⟩:∃i,j=i+1:=⟨j-1,oM⟩;have g0:decide (((i+1:Nat):Int)>0)=true:=by simp
    obtain⟨z,hz⟩:∃z,out[i]?=some z:=⟨_,zge oM⟩;have ez:=xd hz;have hp1:wF x out (i+1)=if xp x z=true then wF x out i else i+1:=by simp only [wF,hz]
    refine qU ?_;intros;rw [show IntKind.i64.wrap (((i+1:Nat):Int)-1)=(i:Nat) by rw [qq (by omega) (by omega)];omega];refine qU ?_;intros;refine qk rfl rfl (HR (a:=x) (b:=z)) ?_;rintro _ rfl;cases hb:xp x z with
    |true=>
     refine qU ?_;intros;refine qe rfl (fun _=>?_) (fun ht=>by cases ht);refine qb ?_;intros;rw [show IntKind.i64.wrap (((i+1:Nat):Int)-1)=(i:Nat) by rw [qq (by omega) (by omega)];omega];refine⟨i,oM,_,_,_,[],?wk3,i,rfl,oM,?hp,rfl,rfl,rfl⟩
     case wk3=>exact qm
     case hp=>rw [<-hpos,hp1,if_pos hb]
    |false=>
     refine qU ?_;intros;refine qe rfl (fun ht=>by cases ht) (fun _=>?_);refine ja ?_;refine qr (qd (k:=0) rfl (qd (k:=3) rfl (qd (k:=4) rfl (qd (k:=5) rfl (qu _))))) (qd (k:=0) rfl (qu _)) ?_;refine fin (by rw [<-hpos,hp1,if_neg (by rw [hb];decide)]) _ ?_;refine qb ?_;intros;refine⟨m-1,oM,_,_,_,[(0,5)],?wb,k+1,oM,QY x out,?hb2,rfl,rfl,rfl⟩
     case wb=>exact qm
     case hb2=>rw [hstep,vU,if_neg ht2]
 ·simp at ht;refine qr (qd (k:=3) rfl (qu _)) (qd (k:=0) rfl (qu _)) ?_;refine xt 0 rfl qO qO ?_;refine qb ?_;intros;refine qf ⟨_,rfl,rfl,?_⟩;rw [List.take_of_length_le (by omega)] at hout;subst hout;rfl
end Go.Ag
