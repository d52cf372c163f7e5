/- -/
import Derived.Test.YtandgamnamkkhaaGreatDoorAb21
set_option linter.unusedSimpArgs false
set_option linter.unusedVariables false
set_option maxRecDepth 8000
namespace Go.Ab
section
variable{p:Par}{base rs n:Nat}{Q:qo->Bx->Nat->Prop}{r:List SOper}{W:Wt}{A:List Nat}{E:qo}{S:Bx}{nk:Nat}{id:Nat}{dst:Option Nat}{aid:Option Nat}{ws:List Nat}{keep:Bool}
theorem gK {z:V} {m k:Opd} {kb i:Nat} {y:Int} {es:List (Int × ME)} {q:List FD} (hm:ro E m=some (.one (.om kb))) (hk:ro E k=some (.one (.f (.c (.int .i64 y))))) (hb:lk S kb=some (.mt es)) (hi:es[i]?=some (y,.row q)) (hf:∀(j:Nat) (e:Int × ME),j<i->es[j]?=some e->e.1≠y) (hKS:Zj kb S=true) (hKM:jQ kb es=true) (hKE:W2 kb E=true) (hW:kr S kb W=true)
 (h:DPW p base rs Q r W A (qX E dst (.one (.own nk 0 q.length 1))) ((nk,.data q)::put kb (.mt (es.set i (y,.out (.own nk 0 q.length 1)))) S) (nk+1)):DPW p base rs Q (⟨id,dst,.l (.lookup z false m k),none,aid,ws,false⟩::r) W A E S nk:=.mk fun Z β H F c QP hS hE hC hA=>by
 obtain⟨cm,hcm,hrm⟩:=xj hE hm;obtain⟨b,N,es',rfl,h1,h2,h3,h4,h5,h6⟩:=hS.mtb hb hrm;obtain⟨v,g1,g2⟩:=h6.find (n:=0) hi rfl hf;obtain⟨cv,g3,g4⟩:=h6.at hi;rw [g2] at g3;obtain⟨_,rfl⟩:=Prod.mk.inj (zsi g3);obtain⟨hS',hB,himg⟩:=hS.detach hb hi hKS hKM;simp only [qv,qs,if_true,qA,hcm,xA hE hk,jl,h5,g1,yG,Bool.false_eq_true,if_false];refine h.run Z _ H _ c QP hS' ((hE.monoK hB hKE).set dst ⟨_,rfl,?_⟩) (hC.monoK (lG hW) hB) (hA.monoK himg);have hself:kB β nk kb i (nk,0)=β (kb,i+1):=by simp [kB]
 rw [Nat.zero_add] at g4;rcases g4 with⟨e1,e2⟩|⟨b',N',cap,ex,e1,e2⟩
 ·exact .inl ⟨by rw [hself];exact e1,e2⟩
 ·exact .inr ⟨b',N',cap,ex,by rw [hself];exact e1,e2⟩
def Jq(β:qq)(kd kb i:Nat):qq:=fun κ=>if κ=(kb,i+1) then β (kd,0) else β κ
theorem SR.attach{Z:Nat->Prop}{β:qq}{H:Hp}(hS:SR p Z β H S nk){kb kd i:Nat}{y:Int}{es:List (Int × ME)}{q:List FD}(hb:lk S kb=some (.mt es))(hd:lk S kd=some (.data q))(hi:es[i]?=some (y,.out (.own kd 0 q.length 1)))(hKS:Zj kb S=true)(hKM:jQ kb es=true):
 SR p Z (Jq β kd kb i) H (jn kd (put kb (.mt (es.set i (y,.row q))) S)) nk/\Qd kb β (Jq β kd kb i)/\(∀κ b N,Jq β kd kb i κ=some (.blk b N)->∃κ' N',β κ'=some (.blk b N')):=by
 have hkn:=hS.lt hb;have hdn:=hS.lt hd;have hne:kd≠kb:=fun e=>by rw [e,hb] at hd;cases hd
 have hself:Jq β kd kb i (kb,i+1)=β (kd,0):=by simp [Jq]
 have hoth:∀κ,κ≠(kb,i+1)->Jq β kd kb i κ=β κ:=fun κ h=>by simp [Jq,h]
 have hB:Qd kb β (Jq β kd kb i):=fun κ s hn hκ=>by
  rw [hoth κ (fun e=>by rw [e] at hn;simp at hn)];exact hκ
 have himg:∀κ b N,Jq β kd kb i κ=some (.blk b N)->∃κ',β κ'=some (.blk b N)/\((κ=(kb,i+1)/\κ'=(kd,0))\/(κ≠(kb,i+1)/\κ'=κ)):=fun κ b N h=>by
  by_cases e2:κ=(kb,i+1)
  ·subst e2;rw [hself] at h;exact⟨_,h,.inl ⟨rfl,rfl⟩⟩
  ·rw [hoth κ e2] at h;exact⟨κ,h,.inr ⟨e2,rfl⟩⟩
 refine⟨⟨hS.wf,hS.lo,hS.z,hS.zlo,hS.zz,hS.glob,fun κ hκ=>?_,fun κ b N hκ=>?_,fun κ x hκ=>?_,fun κ κ' x x' b N N' hj hj' h1 h2=>?_,fun κ b N hκ=>?_,fun κ hκ h0=>?_,hS.ancn⟩,hB,fun κ b N h=>by obtain⟨κ',h',_⟩:=himg κ b N h;exact⟨κ',N,h'⟩⟩
 ·rw [hoth κ (fun e=>by rw [e] at hκ;simp only at hκ;omega)];exact hS.nk κ hκ
 ·obtain⟨κ',h',_⟩:=himg κ b N hκ;exact hS.bd κ' b N h'
 ·rw [VN] at hκ;split at hκ
  ·cases hκ
  ·rename_i e1;rw [Yh hb] at hκ;split at hκ
   ·rename_i e2;obtain⟨k,j⟩:=κ;simp only at e2;subst e2;cases j with
    |zero=>
     simp only at hκ;obtain rfl:=zsi hκ;obtain⟨s,hs,hbx⟩:=hS.box (k,0) (.mp (.m 0) (wp k 0 es)) (by simp only [xb,hb]);refine⟨s,hB _ _ (.inr rfl) hs,?_⟩;cases s with
     |nil=>
      have:es=[]:=by
       cases es with
       |nil=>rfl
       |cons e es=>obtain⟨y',e⟩:=e;cases e<;>cases hbx
      subst this;simp at hi
     |blk b N=>
      obtain⟨g1,g2,g3,cs,rest,⟨es',g4,g5,g6⟩,g8,g7⟩:=hbx;have g8:rest=[]:=g8;subst g8;rw [List.append_nil] at g6;have hent:=JA (kb:=k) (i:=0) g5 (by rw [g6];exact g7);have hent':xG Z H (Jq β kd k i) k 0 (es.set i (y,.row q)) es':=hent.mono (by simp) fun j e e1 he he1=>by
       rw [Nat.zero_add];rcases Q8 he1 with⟨rfl,rfl⟩|⟨hne',he1⟩
       ·rw [hi] at he;obtain rfl:=zsi he;refine⟨rfl,fun c hc=>?_⟩;rcases hc with⟨h1,h2⟩|⟨b',N',cap,ex,h1,h2⟩
        ·exact .inl ⟨by rw [hself];exact h1,h2⟩
        ·exact .inr ⟨b',N',cap,ex,by rw [hself];exact h1,h2⟩
       ·rw [he] at he1;obtain rfl:=zsi he1;refine⟨rfl,fun c hc=>?_⟩;obtain⟨y',e⟩:=e;cases e with
        |out d=>exact RD.monoK hB (J6 hKM he) hc
        |row r=>
         have hk1:Jq β kd k i (k,j+1)=β (k,j+1):=hoth _ (fun e=>by have:=(Prod.mk.inj e).2;omega);rcases hc with⟨h1,h2⟩|⟨b',N',cap,ex,h1,h2⟩
         ·exact .inl ⟨hk1.trans h1,h2⟩
         ·exact .inr ⟨b',N',cap,ex,hk1.trans h1,h2⟩
      obtain⟨t1,t2⟩:=Jz hent';exact⟨g1,g2,g3,MF es',[],⟨es',g4,t1,by simp⟩,rfl,t2⟩
    |succ j=>
     simp only at hκ;obtain⟨y',r',h1,rfl⟩:=jk hκ;rcases Q8 h1 with⟨rfl,h2⟩|⟨hne',h2⟩
     ·obtain⟨_,h2⟩:=Prod.mk.inj h2;obtain rfl:=ME.row.inj h2;obtain⟨s,hs,hbx⟩:=hS.box (kd,0) (.data r') (xL hd rfl);exact⟨s,by rw [hself];exact hs,jI.monoK hB rfl hbx⟩
     ·obtain⟨s,hs,hbx⟩:=hS.box (k,j+1) (.data r') (by simp only [xb,hb,h2,yV]);exact⟨s,by rw [hoth _ (fun e=>by have:=(Prod.mk.inj e).2;omega)];exact hs,jI.monoK hB rfl hbx⟩
   ·rename_i e2;obtain⟨s,hs,hbx⟩:=hS.box κ x hκ;exact⟨s,hB _ _ (.inl e2) hs,jI.monoK hB (mB hKS hκ e2) hbx⟩
 ·have live:∀(κ:x9) w,lk (jn kd (put kb (.mt (es.set i (y,.row q))) S)) κ.1=some w->κ.1≠kd/\∃w',lk S κ.1=some w':=fun κ w hw=>by
   rw [yZ] at hw;split at hw
   ·cases hw
   ·rename_i e;rw [yY] at hw;split at hw
    ·cases hl:lk S κ.1 with
     |none=>rw [hl] at hw;cases hw
     |some w'=>exact⟨e,w',rfl⟩
    ·exact⟨e,w,hw⟩
  obtain⟨κ1,b1,c1⟩:=himg κ b N h1;obtain⟨κ2,b2,c2⟩:=himg κ' b N' h2;obtain⟨n1,w1,l1⟩:=live κ x hj;obtain⟨n2,w2,l2⟩:=live κ' x' hj';have l1':∃w,lk S κ1.1=some w:=by
   rcases c1 with⟨_,rfl⟩|⟨_,rfl⟩
   ·exact⟨_,hd⟩
   ·exact⟨_,l1⟩
  have l2':∃w,lk S κ2.1=some w:=by
   rcases c2 with⟨_,rfl⟩|⟨_,rfl⟩
   ·exact⟨_,hd⟩
   ·exact⟨_,l2⟩
  obtain⟨w1',l1'⟩:=l1';obtain⟨w2',l2'⟩:=l2';have:=hS.inj κ1 κ2 w1' w2' b N N' l1' l2' b1 b2;rcases c1 with⟨r1,r2⟩|⟨r1,r2⟩
  ·rcases c2 with⟨s1,s2⟩|⟨s1,s2⟩
   ·rw [r1,s1]
   ·exact absurd (by rw [<-s2,<-this,r2]) n2
  ·rcases c2 with⟨s1,s2⟩|⟨s1,s2⟩
   ·exact absurd (by rw [<-r2,this,s2]) n1
   ·rw [<-r2,this,s2]
 ·obtain⟨κ',h',_⟩:=himg κ b N hκ;exact hS.blo κ' b N h'
 ·rw [hoth κ (fun e=>by rw [e] at h0;cases h0)];exact hS.anch κ hκ h0
theorem AK {s:SC} {Q:Exit->qo->Bx->Nat->Prop} (kb kd i:Nat) {y:Int} {es:List (Int × ME)} {q:List FD} (hb:lk S kb=some (.mt es)) (hd:lk S kd=some (.data q)) (hi:es[i]?=some (y,.out (.own kd 0 q.length 1))) (hKS:Zj kb S=true) (hKM:jQ kb es=true) (hKE:W2 kb E=true)
 (h:DPS p n s Q E (jn kd (put kb (.mt (es.set i (y,.row q))) S)) nk):DPS p n s Q E S nk:=.mk fun Z β H F hS hE=>by
 obtain⟨hS',hB,_⟩:=hS.attach hb hd hi hKS hKM;exact h.run Z _ H F hS' (hE.monoK hB hKE)
theorem AJ {l:List SOper} (kb kd i:Nat) {y:Int} {es:List (Int × ME)} {q:List FD} (hb:lk S kb=some (.mt es)) (hd:lk S kd=some (.data q)) (hi:es[i]?=some (y,.out (.own kd 0 q.length 1))) (hKS:Zj kb S=true) (hKM:jQ kb es=true) (hKE:W2 kb E=true) (hW:kr S kb W=true)
 (h:DPW p base rs Q l W A E (jn kd (put kb (.mt (es.set i (y,.row q))) S)) nk):DPW p base rs Q l W A E S nk:=.mk fun Z β H F c QP hS hE hC hA=>by
 obtain⟨hS',hB,himg⟩:=hS.attach hb hd hi hKS hKM;exact h.run Z _ H F c QP hS' (hE.monoK hB hKE) (hC.monoK (lG hW) hB) (hA.monoK himg)
theorem SR.mtupd{Z:Nat->Prop}{β:qq}{H:Hp}(hS:SR p Z β H S nk){kb b N:Nat}{es es1:List (Int × ME)}{es':List (V × V)}(hb:lk S kb=some (.mt es))(hs:β (kb,0)=some (.blk b N))(he:xG Z H β kb 0 es1 es')(hrows:∀(i:Nat) (x:Bk),yV es1[i]?=some x->yV es[i]?=some x):
 SR p Z β (H.add b (.mp es')) (put kb (.mt es1) S) nk/\xd Z H Z (H.add b (.mp es')):=by
 obtain⟨s,hs',hbx⟩:=hS.box (kb,0) (.mp (.m 0) (wp kb 0 es)) (by simp only [xb,hb]);rw [hs] at hs';obtain rfl:=zsi hs';obtain⟨hz,hlo,hlt,_⟩:=hbx;have hg:∀b',b'≠b->(H.add b (.mp es')).get b'=H.get b':=fun b' hb'=>Hp.get_add_ne _ _ hb';have hzg:∀b',Z b'->(H.add b (.mp es')).get b'=H.get b':=fun b' hb'=>hg b' fun e=>hz (e▸hb');have hZ:xd Z H Z (H.add b (.mp es')):=xd.of_get (fun _ h=>h) hzg;refine⟨⟨fun b' bk hb'=>?_,hS.lo,hS.z,hS.zlo,hS.zz,fun b' bk hb'=>?_,hS.nk,hS.bd,fun κ x hκ=>?_,fun κ κ' x x' b' M M' hj hj'=>?_,hS.blo,hS.anch,hS.ancn⟩,hZ⟩
 ·rw [Hp.get_add] at hb';split at hb'
  ·rename_i e;subst e;exact hlt
  ·exact hS.wf b' bk hb'
 ·obtain⟨h1,h2⟩:=hS.glob b' bk hb';exact⟨h1,by rw [hzg b' h1];exact h2⟩
 ·have old:∀(κ:x9) x,xb S κ=some x->κ≠(kb,0)->∃s,β κ=some s/\jI p Z (H.add b (.mp es')) β x s:=fun κ x hκ hne=>by
   obtain⟨s,hsj,hbj⟩:=hS.box κ x hκ;obtain⟨z,hz'⟩:=jC hκ;refine⟨s,hsj,jI.mono (H:=H) (xD.refl _) (Nat.le_refl _:H.nx<=(H.add b (.mp es')).nx) (fun b' hb'=>?_) hbj⟩;rcases hb' with hb'|⟨M,rfl⟩
   ·exact hzg b' hb'
   ·exact hg b' fun e'=>hne (hS.inj κ (kb,0) z _ b M N hz' hb (e'▸hsj) hs)
  rw [Yh hb] at hκ;split at hκ
  ·rename_i e;obtain⟨k,j⟩:=κ;simp only at e;subst e;cases j with
   |zero=>
    simp only at hκ;obtain rfl:=zsi hκ;obtain⟨t1,t2⟩:=Jz he;exact⟨_,hs,hz,hlo,hlt,MF es',[],⟨es',by simp,t1,by simp⟩,rfl,qe.mono (fun _ _=>RD.mono hZ (xD.refl _)) t2⟩
   |succ j=>
    simp only at hκ;exact old (k,j+1) x (by simp only [xb,hb];exact hrows j x hκ) (fun e=>by cases (Prod.mk.inj e).2)
  ·rename_i e;exact old κ x hκ fun e'=>e (by rw [e'])
 ·have f:∀i z,lk (put kb (.mt es1) S) i=some z->∃z',lk S i=some z':=fun i z hz=>by
   rw [yY] at hz;split at hz
   ·cases hl:lk S i with
    |none=>rw [hl] at hz;cases hz
    |some q=>exact⟨q,rfl⟩
   ·exact⟨z,hz⟩
  obtain⟨z1,e1⟩:=f _ x hj;obtain⟨z2,e2⟩:=f _ x' hj';exact hS.inj κ κ' z1 z2 b' M M' e1 e2
theorem xG.set{Z:Nat->Prop}{H:Hp}{β:qq}{kb:Nat}{d:DC}{cv:C}{y:Int}:∀{j i:Nat} {es:List (Int × ME)} {es':List (V × V)} {e:ME},xG Z H β kb j es es'->es[i]?=some (y,e)->RD Z H β d cv->xG Z H β kb j (es.set i (y,.out d)) (VJ es' i (.one cv))
 |j,i,[],_,e,_,h,_=>by simp at h
 |j,i,(_,.row _)::es,[],e,h,_,_=>h.elim
 |j,i,(_,.out _)::es,[],e,h,_,_=>h.elim
 |j,0,e0::es,x::es',e,h,hi,hd=>by
  obtain⟨h1,_,h3⟩:=xG.cons.1 h;simp at hi;subst hi;exact xG.cons.2 ⟨h1,⟨cv,rfl,hd⟩,h3⟩
 |j,i+1,e0::es,x::es',e,h,hi,hd=>by
  obtain⟨h1,h2,h3⟩:=xG.cons.1 h;have:=xG.set h3 (by simpa using hi) hd;exact xG.cons.2 ⟨h1,h2,this⟩
theorem xG.push{Z:Nat->Prop}{H:Hp}{β:qq}{kb:Nat}{d:DC}{cv:C}{y:Int}:∀{j:Nat} {es:List (Int × ME)} {es':List (V × V)},xG Z H β kb j es es'->RD Z H β d cv->xG Z H β kb j (es++[(y,.out d)]) (es'++[(.one (.int .i64 y),.one cv)])
 |j,[],[],_,hd=>⟨rfl,⟨cv,rfl,hd⟩,trivial⟩
 |j,[],_::_,h,_=>h.elim
 |j,(_,.row _)::es,[],h,_=>h.elim
 |j,(_,.out _)::es,[],h,_=>h.elim
 |j,e0::es,x::es',h,hd=>by
  obtain⟨h1,h2,h3⟩:=xG.cons.1 h;exact xG.cons.2 ⟨h1,h2,xG.push h3 hd⟩
theorem CR.mtupd{Z:Nat->Prop}{β:qq}{H H':Hp}{b kb N:Nat}{c:za}{x:Bk}(hS:SR p Z β H S nk)(hk:lk S kb=some x)(hC:CR W Z β H c)(hZ:xd Z H Z H')(hg:∀b',b'≠b->H'.get b'=H.get b')(hb:β (kb,0)=some (.blk b N))(hw:kr S kb W=true):CR W Z β H' c:=CR.upd (k:=(kb,0)) hS hk hC hZ hg hb hw
theorem nF {m k x:Opd} {kb i:Nat} {y:Int} {es:List (Int × ME)} {e:ME} {d:DC} (hm:ro E m=some (.one (.om kb))) (hk:ro E k=some (.one (.f (.c (.int .i64 y))))) (hx:ro E x=some (.one d)) (hb:lk S kb=some (.mt es)) (hi:es[i]?=some (y,e)) (hf:∀(j:Nat) (e:Int × ME),j<i->es[j]?=some e->e.1≠y) (hW:kr S kb W=true)
 (h:DPW p base rs Q r W A (qX E dst .undef) (put kb (.mt (es.set i (y,.out d))) S) nk):DPW p base rs Q (⟨id,dst,.e (.mapupd m k x),none,aid,ws,keep⟩::r) W A E S nk:=.mk fun Z β H F c QP hS hE hC hA=>by
 obtain⟨cm,hcm,hrm⟩:=xj hE hm;obtain⟨cx,hcx,hrx⟩:=xj hE hx;obtain⟨b,N,es',rfl,h1,h2,h3,h4,h5,h6⟩:=hS.mtb hb hrm;obtain⟨v,g1,g2⟩:=h6.find (n:=0) hi rfl hf;obtain⟨hS',hZ⟩:=hS.mtupd (es1:=es.set i (y,.out d)) hb h1 (h6.set hi hrx) (fun j z hz=>by
  obtain⟨y',r',t1,rfl⟩:=jk hz;rcases Q8 t1 with⟨_,t2⟩|⟨_,t2⟩
  ·cases t2
  ·rw [t2];rfl)
 simp only [qv,qs,if_true,qM,hcm,xA hE hk,jl,hcx,jq,h5,g1,Bool.and_self,Nat.zero_add];have hg:∀b',b'≠b->(H.add b (.mp (VJ es' i (.one cx)))).get b'=H.get b':=fun b' hb'=>Hp.get_add_ne _ _ hb';have hC':=hC.mtupd hS hb hZ hg h1 hW;exact⟨hC'.watch ws,h.run Z β _ _ c QP hS' ((hE.mono hZ (xD.refl _)).set dst jM) hC' (hA.upd rfl hg h1)⟩
theorem C7 {m k x:Opd} {kb:Nat} {y:Int} {es:List (Int × ME)} {d:DC} (hm:ro E m=some (.one (.om kb))) (hk:ro E k=some (.one (.f (.c (.int .i64 y))))) (hx:ro E x=some (.one d)) (hb:lk S kb=some (.mt es)) (hn:∀e∈es,e.1≠y) (hW:kr S kb W=true)
 (h:DPW p base rs Q r W A (qX E dst .undef) (put kb (.mt (es++[(y,.out d)])) S) nk):DPW p base rs Q (⟨id,dst,.e (.mapupd m k x),none,aid,ws,keep⟩::r) W A E S nk:=.mk fun Z β H F c QP hS hE hC hA=>by
 obtain⟨cm,hcm,hrm⟩:=xj hE hm;obtain⟨cx,hcx,hrx⟩:=xj hE hx;obtain⟨b,N,es',rfl,h1,h2,h3,h4,h5,h6⟩:=hS.mtb hb hrm;obtain⟨hS',hZ⟩:=hS.mtupd (es1:=es++[(y,.out d)]) hb h1 (h6.push hrx) (fun j z hz=>by
  obtain⟨y',r',t1,rfl⟩:=jk hz;rw [List.getElem?_append] at t1;split at t1
  ·rw [t1];rfl
  ·rw [List.getElem?_singleton] at t1;split at t1
   ·cases t1
   ·cases t1)
 simp only [qv,qs,if_true,qM,hcm,xA hE hk,jl,hcx,jq,h5,h6.none hn,Bool.and_self];have hg:∀b',b'≠b->(H.add b (.mp (es'++[(.one (.int .i64 y),.one cx)]))).get b'=H.get b':=fun b' hb'=>Hp.get_add_ne _ _ hb';have hC':=hC.mtupd hS hb hZ hg h1 hW;exact⟨hC'.watch ws,h.run Z β _ _ c QP hS' ((hE.mono hZ (xD.refl _)).set dst jM) hC' (hA.upd rfl hg h1)⟩
end
def AA:DC->Bool
 |.f (.c _)=>true
 |.g _ _=>true
 |.ptr _ _=>true
 |.om _=>true
 |.yl _=>true
 |_=>false
def Kq(S S':Bx):Wt->Prop
 |[]=>True
 |(_,none)::W=>Kq S S' W
 |(_,some ((k,i),o,n))::W=>i=0/\(∃l,lk S k=some (.cells l)/\lk S' k=some (.cells l)/\qE AA l=true/\Nat.ble (o+n) l.length=true)/\Kq S S' W
section
variable{Z Z':Nat->Prop}{H H':Hp}{β β':qq}
theorem S9{d:DC}{c c':C}(hd:AA d=true)(hb:wV β β')(h:RD Z H β d c)(h':RD Z' H' β' d c'):c'=c:=by
 cases d with
 |f d=>cases d with
  |c x=>cases h;cases h';rfl
  |sl=>cases hd
 |g b o=>
  have h:c=.ptr b o:=h;have h':c'=.ptr b o:=h';rw [h,h']
 |ptr k o=>
  obtain⟨b,N,h1,rfl⟩:=h;obtain⟨b',N',h2,rfl⟩:=h';rw [hb _ _ h1] at h2;rw [(Slot.blk.inj (zsi h2)).1]
 |om k=>
  obtain⟨b,N,h1,rfl⟩:=h;obtain⟨b',N',h2,rfl⟩:=h';rw [hb _ _ h1] at h2;rw [(Slot.blk.inj (zsi h2)).1]
 |yl k=>
  obtain⟨b,N,h1,rfl⟩:=h;obtain⟨b',N',h2,rfl⟩:=h';rw [hb _ _ h1] at h2;rw [(Slot.blk.inj (zsi h2)).1]
 |_=>cases hd
theorem m9(hb:wV β β'):∀{l:List DC} {cs cs':List C},qE AA l=true->qe (RD Z H β) l cs->qe (RD Z' H' β') l cs'->cs'=cs
 |[],[],[],_,_,_=>rfl
 |d::l,c::cs,c'::cs',ha,h,h'=>by
  have h1:=zo ha d (by simp);have h2:qE AA l=true:=by simp only [qE,h1] at ha;exact ha
  rw [S9 h1 hb h.1 h'.1,m9 hb h2 h.2 h'.2]
 |[],[],_::_,_,_,h=>h.elim
 |[],_::_,_,_,h,_=>h.elim
 |_::_,[],_,_,h,_=>h.elim
 |_::_,_::_,[],_,_,h=>h.elim
end
section
variable{p:Par}{base rs:Nat}{Q:qo->Bx->Nat->Prop}{r:List SOper}{W:Wt}{A:List Nat}{E:qo}{S:Bx}{nk:Nat}{id:Nat}{dst:Option Nat}{aid:Option Nat}{ws:List Nat}{keep:Bool}
theorem YT{S S':Bx}:∀{W:Wt},Kq S S' W->∀y∈W,y.2=none\/∃k o n l,y.2=some ((k,0),o,n)/\lk S k=some (.cells l)/\lk S' k=some (.cells l)/\qE AA l=true/\o+n<=l.length
 |[],_,y,hy=>by cases hy
 |(_,none)::W,h,y,hy=>by
  rcases List.mem_cons.1 hy with rfl|hy
  ·exact .inl rfl
  ·exact YT (W:=W) h y hy
 |(_,some ((k,i),o,n))::W,⟨h0,⟨l,h1,h2,h3,h4⟩,h5⟩,y,hy=>by
  rcases List.mem_cons.1 hy with rfl|hy
  ·subst h0;exact .inr ⟨k,o,n,l,rfl,h1,h2,h3,Nat.le_of_ble_eq_true h4⟩
  ·exact YT (W:=W) h5 y hy
theorem CR.wsame{S':Bx}{nk':Nat}{Z Z':Nat->Prop}{β β':qq}{H H':Hp}{c:za}(h:CR W Z β H c)(hS:SR p Z β H S nk)(hS':SR p Z' β' H' S' nk')(hZ:xd Z H Z' H')(hB:wV β β')(hW:Kq S S' W):CR W Z' β' H' c:=fun x hx=>by
 obtain⟨y,hy,hw⟩:=h x hx;refine⟨y,hy,?_⟩;rcases YT hW y hy with e|⟨k,o,n,l,e,h1,h2,h3,h4⟩
 ·obtain⟨y1,y2⟩:=y;simp only at e;subst e;obtain⟨b,hb,hq⟩:=hw;exact⟨b,(hZ b hb).1,fun H'' hh=>hq H'' fun i c hc=>hh i c ((hZ b hb).2 i c hc)⟩
 ·obtain⟨y1,y2⟩:=y;simp only at e;subst e;obtain⟨b,N,hb,hq⟩:=hw;refine⟨b,N,hB _ _ hb,fun H'' hh=>hq H'' fun i c g1 g2 hc=>hh i c g1 g2 ?_⟩;obtain⟨s,hs,hbx⟩:=hS.box (k,0) _ (xL h1 rfl);obtain⟨s',hs',hbx'⟩:=hS'.box (k,0) _ (xL h2 rfl);rw [hb] at hs;obtain rfl:=zsi hs;rw [hB _ _ hb] at hs';obtain rfl:=zsi hs';obtain⟨_,_,_,cs,rest,r1,_,r2⟩:=hbx;obtain⟨_,_,_,cs',rest',r1',_,r2'⟩:=hbx';have r1:zM H b (cs++rest):=r1;have r1':zM H' b (cs'++rest'):=r1';obtain rfl:=m9 hB h3 r2 r2';have hl:l.length=cs'.length:=qe.len r2;have hi:i<cs'.length:=by omega
  have k1:=ve r1.2 (i:=i) (by simp;omega);have k2:=ve r1'.2 (i:=i) (by simp;omega);rw [Nat.zero_add] at k1 k2;rw [k1,List.getElem?_append_left hi] at hc;rw [k2,List.getElem?_append_left hi];exact hc
theorem TJ{f:FuncId}{args:List Opd}{ds:List DV}{R:DV->Bx->Nat->Prop}(hvs:Xb E args=some ds)(hT:ZB E=true)(hc:DX p f ds S nk R)(h:∀d S' nk',R d S' nk'->Kq S S' W/\DPW p base 0 Q r W A (qX E dst d) S' nk'):DPW p base rs Q (⟨id,dst,.cf f args,none,aid,ws,keep⟩::r) W A E S nk:=.mk fun Z β H F c QP hS hE hC hA=>by
 simp only [qv,qs,if_true];refine (hc Z β H _ hS (wY hE hvs)).monoP ?_;rintro v H' ⟨d,S',nk',Z',β',hS',hr,hZ,hB,hR⟩;obtain⟨hw,h⟩:=h d S' nk' hR;have hC':CR W Z' β' H' c:=hC.wsame hS hS' hZ hB hw;exact⟨hC'.watch ws,h.run Z' β' H' _ c QP hS' ((hE.mono0 hZ hB hT).set dst hr) hC' ⟨hA.1,fun j hj=>absurd hj oM⟩⟩
end
section
variable{p:Par}{base rs:Nat}{Q:qo->Bx->Nat->Prop}{r:List SOper}{W:Wt}{A:List Nat}{E:qo}{S:Bx}{nk:Nat}{id:Nat}{dst:Option Nat}{aid:Option Nat}{ws:List Nat}{keep:Bool}
theorem LF{l:List SOper}(t esz:Nat)(ht:lk E t=some (.one (.f (.c .nils))))(h:DPW p base rs Q l W A ((t,.one (.own nk 0 0 esz))::E) ((nk,.data [])::S) (nk+1)):DPW p base rs Q l W A E S nk:=.mk fun Z β H F c QP hS hE hC hA=>by
 refine h.run Z _ H F c QP (QU hS) (fun k d hd=>?_) (hC.step (xd.refl Z H) (hS.ble .nil) fun _ _ _ _ _ _ _ _ _ _ _ _ _ h=>h) ⟨hA.1,fun j hj hjA=>?_⟩
 ·rw [qR] at hd;split at hd
  ·rename_i e;subst e;obtain rfl:=zsi hd;obtain⟨v,hv,c,rfl,hr⟩:=hE _ _ ht;cases hr;exact⟨_,hv,_,rfl,.inl ⟨qW _ _ _,rfl,rfl,rfl⟩⟩
  ·exact hE.mono (xd.refl Z H) (hS.ble .nil) k d hd
 ·obtain⟨a1,a2,a3,a4⟩:=hA.2 j hj hjA;refine⟨a1,a2,a3,fun k N hk=>?_⟩;unfold ju at hk;split at hk
  ·cases hk
  ·exact a4 k N hk
theorem CE{Z:Nat->Prop}{H:Hp}{zf:List FD}{z:List C}(hz:aA zf z)(hp:0<z.length)(n:Nat):qe (RF Z H) (yF zf n) (z7 z (n*z.length)):=by
 obtain⟨cs,rest,h1,h2⟩:=tR (Z:=Z) (H:=H) hz hp (Nat.le_refl (n*z.length));have hl:zf.length=z.length:=(Ko (Z:=Z) (H:=H) hz).len;have h3:=h2.len;rw [Qn,hl] at h3;have h4:((List.range (n*z.length)).map fun i=>z.getD (i % z.length) .nilp).length=n*z.length:=by simp
 rw [h1,List.length_append] at h4;have:rest=[]:=List.eq_nil_of_length_eq_zero oM;subst this;unfold z7;rw [h1,List.append_nil];exact h2
theorem TL {esz k o n:Nat} {z:List C} {zf:List FD} {x:Opd} {l:List FD} (hx:ro E x=some (.one (.own k o n esz))) (hk:lk S k=some (.data l)) (hle:o+n*esz<=l.length) (hz:aA zf z) (hze:z.length=esz) (hp:0<esz) (hn:0<n) (hw:YJ S k W=true)
 (h:DPW p base rs Q r W A (qX E dst .undef) (put k (.data (setLs l o (yF zf n))) S) nk):DPW p base rs Q (⟨id,dst,.e (.clear esz z x),none,aid,ws,keep⟩::r) W A E S nk:=.mk fun Z β H F c QP hS hE hC hA=>by
 subst hze;obtain⟨ca,hca,hr⟩:=xj hE hx;rcases hr with⟨_,h0,_⟩|⟨b,N,cap,ex,hb,rfl,hcap,hN'⟩
 ·omega
 have hfl:=dQ hw hk;have hsh:=lF hw hk;obtain⟨s,hs,hbx⟩:=hS.box (k,0) _ (xL hk hfl);rw [hb] at hs;obtain rfl:=zsi hs;obtain⟨hzb,hlo,hlt,cs,rest,hrow,hN,hrel⟩:=hbx;have hN:(cs++rest).length=N:=hN;have hrow:zM H b (cs++rest):=hrow;have hlen:l.length=cs.length:=Bk.rel_len hrel;have hk2:=CE (Z:=Z) (H:=H) hz hp n;have hkl:=hk2.len;have hpl:(z7 z (n*z.length)).length=n*z.length:=by simp [z7]
 obtain⟨H',e1,e2,e3,e4⟩:=hrow.stores (cs:=z7 z (n*z.length)) (i:=o) (by simp;omega);rw [Z4 _ cs rest o (by omega)] at e2;obtain⟨hS',hZ⟩:=hS.upd (x':=.data (setLs l o (yF zf n))) (cs:=wn cs o (z7 z (n*z.length))) (rest:=rest) hk hfl hb (qe.setLs hk2 o hrel) e3 e4 rfl e2 (by rw [List.length_append,Q9,<-List.length_append];exact hN);simp only [qv,qs,if_true,qM,hca];rw [e1];have hC':=hC.upd (k:=(k,0)) hS hk hZ e3 hb (FK hw);exact⟨hC'.watch ws,h.run Z β H' _ c QP hS' ((hE.mono hZ (xD.refl _)).set dst jM) hC' (hA.upd e4 e3 hb)⟩
end
def gG(E:qo):List Nat->Option (List DC)
 |[]=>some []
 |t::ts=>match lk E t,gG E ts with
  |some (.one d),some l=>some (d::l)
  |_,_=>none
def Vb:List Nat->List DC->qo
 |t::ts,d::l=>(t,.one d)::Vb ts l
 |_,_=>[]
def YZ(E:qo):List Nat->List DV->qo
 |t::ps,d::ds=>YZ (qX E (some t) d) ps ds
 |_,_=>E
section
variable{Z Z':Nat->Prop}{β β':qq}{H H':Hp}{E:qo}{F:T V}
theorem nA(hE:ER Z β H E F):∀{ts:List Nat} {l:List DC},gG E ts=some l->∃cs,BP F ts cs/\qe (RD Z H β) l cs
 |[],l,h=>by simp [gG] at h;subst h;exact⟨[],trivial,trivial⟩
 |t::ts,l,h=>by
  simp only [gG] at h;split at h
  ·rename_i d r h1 h2;obtain rfl:=zsi h;obtain⟨v,e1,c,rfl,hr⟩:=hE t _ h1;obtain⟨cs,e2,e3⟩:=nA hE h2;exact⟨c::cs,⟨e1,e2⟩,hr,e3⟩
  ·cases h
theorem gF:∀{ts:List Nat} {l:List DC} {cs:List C},BP F ts cs->qe (RD Z H β) l cs->ER Z β H (Vb ts l) F
 |[],_,_,_,_=>fun n d hd=>by cases hd
 |_::_,[],_,_,_=>fun n d hd=>by cases hd
 |t::ts,d::l,[],h,_=>h.elim
 |t::ts,d::l,c::cs,h,ha=>fun n x hx=>by
  simp only [Vb] at hx;rw [qR] at hx;split at hx
  ·rename_i e;subst e;obtain rfl:=zsi hx;exact⟨_,h.1,c,rfl,ha.1⟩
  ·exact gF h.2 ha.2 n x hx
theorem aO:∀{ps:List Nat} {ds:List DV} {args:List V} {E:qo} {F:T V},ER Z β H E F->qe (xc Z H β) ds args->ER Z β H (YZ E ps ds) (Z3 F ps args)
 |[],_,_,_,_,hE,_=>by simpa [YZ,Z3] using hE
 |_::_,[],[],_,_,hE,_=>hE
 |t::ps,d::ds,v::args,E,F,hE,ha=>aO (ps:=ps) (hE.set (some t) ha.1) ha.2
 |_::_,[],_::_,_,_,_,ha=>ha.elim
 |_::_,_::_,[],_,_,_,ha=>ha.elim
end
abbrev Par.round(p:Par)(ρ:Nat)(Z:Nat->Prop)(nk:Nat)(β:qq)(H:Hp):Par:=⟨p.P,p.G,p.GH,Z,p.lo,nk,β,H,some ρ⟩
theorem SR.round{p:Par}{Z:Nat->Prop}{β:qq}{H:Hp}{S:Bx}{nk:Nat}(h:SR p Z β H S nk)(ρ:Nat):SR (p.round ρ Z nk β H) Z β H S nk:=
 let h:=h.hold
 ⟨h.wf,h.lo,h.z,h.zlo,h.zz,h.glob,h.nk,h.bd,h.box,h.inj,h.blo,h.anch,h.ancn⟩
theorem SR.unround{p:Par}{Z Z':Nat->Prop}{β β':qq}{H H':Hp}{S':Bx}{nk nk':Nat}{ρ:Nat}(h:SR (p.round ρ Z nk β H) Z' β' H' S' nk'):SR (p.hold Z nk β H) Z' β' H' S' nk':=
 ⟨h.wf,h.lo,h.z,h.zlo,h.zz,h.glob,h.nk,h.bd,h.box,h.inj,h.blo,h.anch,h.ancn⟩
def s8(k:Nat)(R:DV->Bx->Nat->Prop):Exit->qo->Bx->Nat->Prop
 |.normal,_,S,nk=>∃st j f n ts ps sg bd l,lk S k=some (.mp (.lp st j f n ts ps sg bd) l)/\R (.bool true) (put k (.mp (.lp .ready none f n ts ps sg bd) l) S) nk
 |.ret,_,S,nk=>∃st j f n ts ps sg bd l,lk S k=some (.mp (.lp st j f n ts ps sg bd) l)/\R (.bool false) (put k (.mp (.lp .done (some .ret) f n ts ps sg bd) l) S) nk
 |.exit id,_,S,nk=>∃st j f n ts ps sg bd l,lk S k=some (.mp (.lp st j f n ts ps sg bd) l)/\R (.bool false) (put k (.mp (.lp .done (some (.exit id)) f n ts ps sg bd) l) S) nk
 |_,_,_,_=>False
section
variable{p:Par}{Z:Nat->Prop}{β:qq}{H:Hp}{S:Bx}{nk:Nat}
theorem SR.lpb(hS:SR p Z β H S nk){k b N:Nat}{st:LoopState}{j:Option Code}{f:FuncId}{n:Nat}{ts ps:List Nat}{sg bd:Code}{l:List DC}(hb:lk S k=some (.mp (.lp st j f n ts ps sg bd) l))(hs:β (k,0)=some (.blk b N)):
 ∃F cs,H.get b=some (.lp st j f n F ps.toArray sg bd)/\BP F ts cs/\qe (RD Z H β) l cs:=by
 obtain⟨s,hs',hbx⟩:=hS.box (k,0) _ (xL hb rfl);rw [hs] at hs';obtain rfl:=zsi hs';obtain⟨g1,g2,g3,cs,rest,⟨F,g4,g5⟩,g8,g7⟩:=hbx;have g8:rest=[]:=g8;subst g8;rw [List.append_nil] at g5;exact⟨F,cs,g4,g5,g7⟩
theorem SR.lpSet(hS:SR p Z β H S nk){k b N:Nat}{st st':LoopState}{j j':Option Code}{f:FuncId}{n:Nat}{F:T V}{ts ps:List Nat}{sg bd:Code}{l:List DC}(hb:lk S k=some (.mp (.lp st j f n ts ps sg bd) l))(hs:β (k,0)=some (.blk b N))(hF:H.get b=some (.lp st j f n F ps.toArray sg bd)):
 SR p Z β (H.add b (.lp st' j' f n F ps.toArray sg bd)) (put k (.mp (.lp st' j' f n ts ps sg bd) l) S) nk/\xd Z H Z (H.add b (.lp st' j' f n F ps.toArray sg bd)):=by
 obtain⟨F',cs,g4,g5,g7⟩:=hS.lpb hb hs;rw [hF] at g4;obtain rfl:F=F':=by simpa using g4
 refine hS.updK (x':=.mp (.lp st' j' f n ts ps sg bd) l) (rest:=[]) (cs:=cs) hb rfl hs g7 (fun b' hb'=>Hp.get_add_ne _ _ hb') rfl ⟨F,by simp,by simpa using g5⟩ rfl
theorem EM {k b N:Nat} {j:Option Code} {f:FuncId} {n:Nat} {ts ps:List Nat} {sg bd:Code} {sa sb:SC} {l:List DC} {ds:List DV} {args:List V} {R:DV->Bx->Nat->Prop} (hS:SR p Z β H S nk) (hb:lk S k=some (.mp (.lp .ready j f n ts ps sg bd) l)) (hs:β (k,0)=some (.blk b N))
 (hlen:ds.length=ps.length) (ha:qe (xc Z H β) ds args) (hsg:xe p.P p.G n sg=some sa) (hbd:xe p.P p.G n bd=some sb)
 (h:∀ρ Z β H,DPS (p.round ρ Z nk β H) n sa (fun e E1 S1 nk1=>e=.normal/\∃st j1 f1 n1 ts1 ps1 sg1 bd1 l1,st=.ready/\lk S1 k=some (.mp (.lp st j1 f1 n1 ts1 ps1 sg1 bd1) l1)/\DPS (p.round ρ Z nk β H) n sb (s8 k R) E1 (put k (.mp (.lp .busy j1 f1 n1 ts1 ps1 sg1 bd1) l1) S1) nk1) (YZ (Vb ts l) ps ds) S nk):
 kj p.P p.G b args H fun v H'=>∃d S' nk' Z' β',SR p Z' β' H' S' nk'/\xc Z' H' β' d v/\xd Z H Z' H'/\wV β β'/\R d S' nk':=by
 obtain⟨F0,cs,g4,g5,g7⟩:=hS.lpb hb hs;have hkn:=hS.lt hb;refine sA g4 (by rw [<-ha.len,hlen];simp) hsg hbd fun ρ=>?_;refine zP ((h ρ Z β H).run Z β H _ (hS.round ρ) (aO (gF g5 g7) ha)) fun e F1 H1 he=>?_;obtain⟨E1,S1,nk1,Z1,β1,h1,h2,he',st,j1,f1,n1,ts1,ps1,sg1,bd1,l1,hst,hb1,hbody⟩:=he;subst he' hst;have hs1:β1 (k,0)=some (.blk b N):=(h1.anch (k,0) hkn rfl).trans hs;obtain⟨F1',cs1,q4,q5,q7⟩:=h1.lpb hb1 hs1;refine⟨rfl,j1,f1,n1,F1',ps1.toArray,sg1,bd1,q4,?_⟩;obtain⟨u1,u2⟩:=h1.lpSet (st':=.busy) (j':=j1) hb1 hs1 q4;have hE1:=h2.mono u2 (xD.refl _);refine zP (hbody.run Z1 β1 _ _ u1 hE1) fun e F2 H2 ⟨E2,S2,nk2,Z2,β2,v1,v2,hq⟩=>?_;have hs2:β2 (k,0)=some (.blk b N):=(v1.anch (k,0) hkn rfl).trans hs;have fin:∀(t:Bool) (st':LoopState) (j':Option Code),(∃st j f n ts ps sg bd l,lk S2 k=some (.mp (.lp st j f n ts ps sg bd) l)/\R (.bool t) (put k (.mp (.lp st' j' f n ts ps sg bd) l) S2) nk2)->
  ∃st j f n F ps sg bd,H2.get b=some (.lp st j f n F ps sg bd)/\∃d S' nk' Z' β',SR p Z' β' (H2.add b (.lp st' j' f n F ps sg bd)) S' nk'/\xc Z' (H2.add b (.lp st' j' f n F ps sg bd)) β' d (.bool t)/\xd Z H Z' (H2.add b (.lp st' j' f n F ps sg bd))/\wV β β'/\R d S' nk':=by
  rintro t st' j' ⟨st,j,f,n,ts,ps,sg,bd,l,hb2,hR⟩;obtain⟨F2',cs2,w4,w5,w7⟩:=v1.lpb hb2 hs2;obtain⟨x1,x2⟩:=v1.lpSet (st':=st') (j':=j') hb2 hs2 w4;obtain⟨y1,y2,y3⟩:=hS.free x1.unround;exact⟨st,j,f,n,F2',ps.toArray,sg,bd,w4,_,_,_,Z2,β2,y1,zT rfl,y2,y3,hR⟩
 cases e with
 |normal=>exact fin true .ready none hq
 |ret=>exact fin false .done (some .ret) hq
 |exit id=>exact fin false .done (some (.exit id)) hq
 |_=>exact hq.elim
end
section
variable{p:Par}{base rs:Nat}{Q:qo->Bx->Nat->Prop}{r:List SOper}{W:Wt}{A:List Nat}{E:qo}{S:Bx}{nk:Nat}{id:Nat}{dst:Option Nat}{aid:Option Nat}{ws:List Nat}{keep:Bool}
theorem GA {x:Opd} {args:List Opd} {ds:List DV} {k:Nat} {j:Option Code} {f:FuncId} {n:Nat} {ts ps:List Nat} {sg bd:Code} {sa sb:SC} {l:List DC} {R:DV->Bx->Nat->Prop} (hx:ro E x=some (.one (.yl k))) (hvs:Xb E args=some ds) (hb:lk S k=some (.mp (.lp .ready j f n ts ps sg bd) l))
 (hlen:ds.length=ps.length) (hW:noW W=true) (hT:ZB E=true) (hsg:xe p.P p.G n sg=some sa) (hbd:xe p.P p.G n bd=some sb)
 (hc:∀ρ Z β H,DPS (p.round ρ Z nk β H) n sa (fun e E1 S1 nk1=>e=.normal/\∃st j1 f1 n1 ts1 ps1 sg1 bd1 l1,st=.ready/\lk S1 k=some (.mp (.lp st j1 f1 n1 ts1 ps1 sg1 bd1) l1)/\DPS (p.round ρ Z nk β H) n sb (s8 k R) E1 (put k (.mp (.lp .busy j1 f1 n1 ts1 ps1 sg1 bd1) l1) S1) nk1) (YZ (Vb ts l) ps ds) S nk)
 (h:∀d S' nk',R d S' nk'->DPW p base 0 Q r W A (qX E dst d) S' nk'):DPW p base rs Q (⟨id,dst,.cv x args,none,aid,ws,keep⟩::r) W A E S nk:=.mk fun Z β H F c QP hS hE hC hA=>by
 obtain⟨cx,hcx,b,N,hs,rfl⟩:=xj hE hx;simp only [qv,qs,if_true,hcx];refine (EM hS hb hs hlen (wY hE hvs) hsg hbd hc).mono ?_;rintro v H' ⟨d,S',nk',Z',β',hS',hr,hZ,hB,hR⟩;have hC':CR W Z' β' H' c:=hC.noW (vU hW) hZ;exact⟨hC'.watch ws,(h d S' nk' hR).run Z' β' H' _ c QP hS' ((hE.mono0 hZ hB hT).set dst hr) hC' ⟨hA.1,fun j hj=>absurd hj oM⟩⟩
end
section
variable{p:Par}{base rs:Nat}{Q:qo->Bx->Nat->Prop}{r:List SOper}{W:Wt}{A:List Nat}{E:qo}{S:Bx}{nk:Nat}{id:Nat}{dst:Option Nat}{aid:Option Nat}{ws:List Nat}{keep:Bool}
end
def Am(Q:Exit->qo->Bx->Nat->Prop):Option Code->qo->Bx->Nat->Prop
 |none=>Q .normal
 |some .ret=>Q .ret
 |some (.exit id)=>Q (.exit id)
 |_=>fun _ _ _=>False
section
variable{p:Par}{n:Nat}{Q:Exit->qo->Bx->Nat->Prop}{E:qo}{S:Bx}{nk:Nat}
theorem GC (hρ:p.ρ=none) {d:Opd} {ps:List Nat} {sa sb:SC} {f:FuncId} {caps:List (Nat × Nat)} (ts:List Nat) {l:List DC} (hd:ro E d=some (.one (.fn f caps))) (hf:zR p.P f=true) (hT:ZB E=true) (hl:gG E ts=some l)
 (h:∀fid sg bd,xe p.P p.G n sg=some sa->xe p.P p.G n bd=some sb->DX p f (.one (.yl nk)::Ws caps) ((nk,.mp (.lp .ready none fid n ts ps sg bd) l)::S) (nk+1)
  fun _ S' nk'=>∃st j f1 n1 ts1 ps1 sg1 bd1 l1,lk S' nk=some (.mp (.lp st j f1 n1 ts1 ps1 sg1 bd1) l1)/\st≠.busy/\Am Q j E (jn nk S') nk'):DPS p n (.rf d ps sa sb) Q E S nk:=.mk fun Z β H F hS hE=>by
 obtain⟨cx,hcx,caps',rfl,hcaps⟩:=xj hE hd;obtain⟨cs,hts,hcs⟩:=nA hE hl;rw [hρ];refine NE hcx hf fun fid sg bd hsg hbd=>?_;have hfr:H.get H.nx=none:=hS.wf.fresh (Nat.le_refl _);have hg:∀b',b'≠H.nx->(H.push (.lp .ready none fid n F ps.toArray sg bd)).get b'=H.get b':=fun b' hb'=>by rw [Hp.get_push,if_neg hb']
 have hz:¬Z H.nx:=fun hz=>absurd (hS.z _ hz) oM;obtain⟨hS',hZ,hB⟩:=hS.newB (x:=.mp (.lp .ready none fid n ts ps sg bd) l) (b:=H.nx) (N0:=0) (H':=H.push (.lp .ready none fid n F ps.toArray sg bd)) rfl
  (fun β' hB hZ=>⟨hz,hS.lo,by simp,cs,[],⟨F,by rw [Hp.get_push,if_pos rfl],by simpa using hts⟩,rfl,Bk.rel_mono (x:=.mp (.lp .ready none fid n ts ps sg bd) l) hZ hB hcs⟩) hz (fun k N hk=>absurd (hS.bd k _ N hk) (by omega)) hS.lo (by simp) (by simp) (hS.wf.push _) hg
 have hBs:ju β nk (.blk H.nx 0) (nk,0)=some (.blk H.nx 0):=qW _ _ _;have hargs:qe (xc Z (H.push (.lp .ready none fid n F ps.toArray sg bd)) (ju β nk (.blk H.nx 0))) (.one (.yl nk)::Ws caps) (.one (.yld H.nx)::caps'.map vQ):=⟨⟨_,rfl,_,_,hBs,rfl⟩,YB (je.mono hB hcaps)⟩;refine ((h fid sg bd hsg hbd) Z _ _ _ hS' hargs).mono ?_;rintro v H' ⟨d',S',nk',Z',β',hS2,_,hZ2,hB2,st,j,f1,n1,ts1,ps1,sg1,bd1,l1,hb,hst,hj⟩;have hs2:β' (nk,0)=some (.blk H.nx 0):=hB2 _ _ hBs;obtain⟨F1,cs1,w4,w5,w7⟩:=hS2.lpb hb hs2;obtain⟨x1,x2⟩:=hS2.lpSet (st':=.exhausted) (j':=j) hb hs2 w4;refine⟨st,j,f1,n1,F1,ps1.toArray,sg1,bd1,w4,hst,?_⟩;have hS3:SR p Z' β' (H'.add H.nx (.lp .exhausted j f1 n1 F1 ps1.toArray sg1 bd1)) (jn nk S') nk':=x1.keepS fun k x hk=>by
  rw [yZ] at hk;split at hk
  ·cases hk
  ·rename_i e;rw [yY,if_neg e];exact hk
 have hE3:ER Z' β' (H'.add H.nx (.lp .exhausted j f1 n1 F1 ps1.toArray sg1 bd1)) E F:=(((hE.mono hZ hB).mono0 hZ2 hB2 hT).mono x2 (xD.refl _));cases j with
 |none=>exact⟨_,_,_,_,_,hS3,hE3,hj⟩
 |some c=>cases c<;>first|exact⟨_,_,_,_,_,hS3,hE3,hj⟩|exact hj.elim
end
section
variable{p:Par}{base rs:Nat}{Q:qo->Bx->Nat->Prop}{r:List SOper}{W:Wt}{A:List Nat}{E:qo}{S:Bx}{nk:Nat}{id:Nat}{dst:Option Nat}{aid:Option Nat}{ws:List Nat}{keep:Bool}
end
section
variable{p:Par}{base rs:Nat}{Q:qo->Bx->Nat->Prop}{r:List SOper}{W:Wt}{A:List Nat}{E:qo}{S:Bx}{nk:Nat}{id:Nat}{dst:Option Nat}{aid:Option Nat}{ws:List Nat}{keep:Bool}
end
section
variable{P:Program}{G:Nat}{H:Hp}
theorem fX{μ:Nat->Pl}{K:Nat->Prop}{v:V}{x:Value}(h:x8 μ K v x):jq v=true:=by
 cases v with
 |tup l=>exact h.elim
 |_=>rfl
theorem EU {b mb since last clk:Nat} {seen:List Nat} {es:List (V × V × Nat)} {R:V->Hp->Prop} (hb:H.get b=some (.it mb since seen last)) (hm:H.get mb=some (.st es clk)) (hold:∀e∈es,e.2.2<since) (hsc:since<=last)
 (h0:(∀e∈es,e.2.2∈seen)->R (.tup [.one (.bool false)]) H)
 (h1:∀e∈es,e.2.2∉seen->jq e.1=true->jq e.2.1=true->R (.tup [.one (.bool true),e.1,e.2.1]) (H.add b (.it mb since (seen++[e.2.2]) clk))):Ze P G b H R:=by
 intro μ K w hR hK ty;obtain⟨_,_,hob,hkm,hoff⟩:=hR.blk b _ hb;obtain⟨ces,_,hom,hall⟩:=hR.blk mb _ hm;have hpt:(μ b).addr 0=⟨(μ b).blk,0,none⟩:=by simp [Pl.addr,hoff]
 rw [hpt];have hent:∀x∈ces.toList,∃e∈es,x8 μ K e.1 x.key/\x8 μ K e.2.1 x.val/\e.2.2=x.born:=fun x hx=>by
  obtain⟨i,hi⟩:=List.getElem?_of_mem hx;obtain⟨e,he,hr⟩:=hall.at' i x hi;exact⟨e,zmg he,hr⟩
 have hent':∀e∈es,∃x∈ces.toList,e.2.2=x.born:=fun e he=>by
  obtain⟨i,hi⟩:=List.getElem?_of_mem he;obtain⟨x,hx,hr⟩:=hall.at i e hi;exact⟨x,zmg hx,hr.2.2⟩
 have hold':∀x∈ces.toList,x.born<since:=fun x hx=>by
  obtain⟨e,he,_,_,hr⟩:=hent x hx;rw [<-hr];exact hold e he
 simp only [Instr.next,getObj,Sem.run_bind,Sem.run,hob,hom,Result.andThen,next_test_false seen.toArray ces since last hold' hsc,Bool.false_eq_true,if_false];have hLm:∀x,x∈(Array.filter (fun e=>!seen.toArray.contains e.born) ces).toList↔x∈ces.toList/\x.born∉seen:=fun x=>by simp
 have hmem:∀x∈(Array.filter (fun e=>!seen.toArray.contains e.born) ces).toList,x.born<since:=fun x hx=>hold' x ((hLm x).1 hx).1;generalize Array.filter (fun e=>!seen.toArray.contains e.born) ces=L at hmem hLm ⊢;have e1:L.filter (fun x=>decide (x.born<since))=L:=Array.filter_eq_self.2 (fun x hx=>by simpa using hmem x (by simpa using hx));have e2:L.filter (fun x=>decide (x.born>=since))=#[]:=by
  rw [Array.filter_eq_empty_iff];intro x hx;have:=hmem x (by simpa using hx);simp;omega
 simp only [e1,e2,Array.append_empty];by_cases hz:L.size=0
 ·have:L=#[]:=Array.eq_empty_of_size_eq_zero hz;subst this;refine⟨.tuple #[.bool false],w,?_,_,H,μ,K,h0 fun e he=>?_,⟨[.bool false],rfl,rfl,trivial⟩,hR,Fr.refl hR⟩
  ·simp [choose,Sem.run,Question.forced]
  ·obtain⟨x,hx,hxe⟩:=hent' e he;refine Classical.byContradiction fun hn=>?_;have:=(hLm x).2 ⟨hx,by rw [<-hxe];exact hn⟩;simp at this
 ·have hne:L.isEmpty=false:=by simp [Array.isEmpty,hz]
  simp only [hne,Bool.false_eq_true,if_false,Array.empty_append,Array.size_map];have hch:∃(j d:Nat),j<L.size/\w.drawn<=d/\(choose (Question.mapNext L.size)).run P w=.ok j { w with drawn:=d }:=by
   by_cases hf:L.size<=1
   ·exact⟨0,w.drawn,by omega,Nat.le_refl _,by simp [choose,Sem.run,Question.forced,hf]⟩
   ·exact⟨_,w.drawn+1,Nat.mod_lt _ oM,Nat.le_succ _,by
     simp only [choose,Sem.run,Question.forced,xF,hf,if_false,Question.cut];rfl⟩
  obtain⟨j,d,hj,hd,hrun⟩:=hch;have hxm:L[j]∈L.toList:=by simp
  obtain⟨hx1,hx2⟩:=(hLm _).1 hxm;obtain⟨e,he,hk,hv,hbn⟩:=hent _ hx1;have hR2:Rel G μ K H { w with drawn:=d }:=hR.drawn d;obtain⟨r1,r2⟩:=hR2.setB (bk':=.it mb since (seen++[e.2.2]) clk) (o:=.mapIter (some (μ mb).blk) since (seen.toArray.push L[j].born) clk) hb rfl rfl ⟨(),(),by simp [hbn],hkm,hoff⟩;refine⟨.tuple #[.bool true,L[j].key,L[j].val],_,?_,_,_,μ,K,h1 e he (by rw [hbn];exact hx2) (fX hk) (fX hv),⟨[.bool true,L[j].key,L[j].val],rfl,rfl,hk,hv,trivial⟩,r1,(Fr.drawn hR d hd).trans hR.lt' r2⟩;have hset:∀ob,(setObj (μ b).blk ob).run P { w with drawn:=d }=.ok () { w with drawn:=d,heap:=w.heap.setIfInBounds (μ b).blk ob }:=fun ob=>by simp [setObj,Sem.run,hob]
  simp only [hrun,Array.getElem?_map,Array.getElem?_eq_getElem hj,Option.map_some,Sem.run_bind,hset,Result.andThen];rfl
end
def oK(es:List (V × V × Nat))(clk:Nat)(l:List C)(c:C):Option (List (V × V × Nat) × Nat):=match Yn l,va l es 0 with
 |true,some none=>some (es++[(.agg l,.one c,clk)],clk+1)
 |true,some (some i)=>some (WQ es i (.one c),clk)
 |_,_=>none
section
variable{p:Par}{base rs:Nat}{Q:qo->Bx->Nat->Prop}{r:List SOper}{W:Wt}{A:List Nat}{E:qo}{S:Bx}{nk:Nat}{id:Nat}{dst:Option Nat}{aid:Option Nat}{ws:List Nat}{keep:Bool}
theorem LK(h:DPW p base rs Q r W A (qX E dst (.one (.om nk))) ((nk,.mp (.st [] 0) [])::S) (nk+1)):DPW p base rs Q (⟨id,dst,.a .mkst,none,none,ws,keep⟩::r) W A E S nk:=.mk fun Z β H F c QP hS hE hC hA=>by
 simp only [qv,qs,if_true,xw];have hfr:H.get H.nx=none:=hS.wf.fresh (Nat.le_refl _);have hg:∀b',b'≠H.nx->(H.push (.st [] 0)).get b'=H.get b':=fun b' hb'=>by rw [Hp.get_push,if_neg hb']
 have hz:¬Z H.nx:=fun hz=>absurd (hS.z _ hz) oM;obtain⟨hS',hZ,hB⟩:=hS.newB (x:=.mp (.st [] 0) []) (b:=H.nx) (N0:=0) (H':=H.push (.st [] 0)) rfl (fun β' hB hZ=>⟨hz,hS.lo,by simp,[],[],⟨(),by rw [Hp.get_push,if_pos rfl],rfl⟩,rfl,trivial⟩) hz (fun k N hk=>absurd (hS.bd k _ N hk) (by omega)) hS.lo (by simp) (by simp) (hS.wf.push _) hg;exact h.run Z _ _ _ c QP hS' ((hE.mono hZ hB).set dst ⟨_,rfl,_,_,qW _ _ _,rfl⟩) (hC.new hZ hB hg hfr) (hA.new (by simp) hg fun j hj hjA e=>by have:=(hA.2 j hj hjA).1;omega)
theorem SR.stb{Z:Nat->Prop}{β:qq}{H:Hp}(hS:SR p Z β H S nk){kb:Nat}{es:List (V × V × Nat)}{clk:Nat}(hb:lk S kb=some (.mp (.st es clk) [])){b N:Nat}(h1:β (kb,0)=some (.blk b N)):H.get b=some (.st es clk)/\b<H.nx:=by
 obtain⟨s,hs,hbx⟩:=hS.box (kb,0) _ (xL hb rfl);rw [h1] at hs;obtain rfl:=zsi hs;obtain⟨g1,g2,g3,cs,rest,⟨_,g4,_⟩,_⟩:=hbx;exact⟨g4,g3⟩
theorem gJ {m k x:Opd} {kb clk clk':Nat} {i j:IntKind} {y z:Int} {es es':List (V × V × Nat)} {cv:C} (hm:ro E m=some (.one (.om kb))) (hk:ro E k=some (.agg [.f (.c (.int i y)),.f (.c (.int j z))])) (hx:ro E x=some (.one (.f (.c cv)))) (hb:lk S kb=some (.mp (.st es clk) [])) (hu:oK es clk [.int i y,.int j z] cv=some (es',clk')) (hW:kr S kb W=true)
 (h:DPW p base rs Q r W A (qX E dst .undef) (put kb (.mp (.st es' clk') []) S) nk):DPW p base rs Q (⟨id,dst,.e (.stupd m k x),none,aid,ws,keep⟩::r) W A E S nk:=.mk fun Z β H F c QP hS hE hC hA=>by
 obtain⟨cm,hcm,b,N,h1,rfl⟩:=xj hE hm;obtain⟨ck,hck,hrk⟩:=xj hE hk;have hcx:=xA hE hx;have hkk:ck=[.int i y,.int j z]:=by
  match ck,hrk with
  |[p,q],hrk=>
   obtain⟨h3,h4,_⟩:=hrk;cases h3;cases h4;rfl
 subst hkk;obtain⟨g4,g3⟩:=hS.stb hb h1;have heff:qM F H (.stupd m k x)=some (V.undef,H.add b (.st es' clk')):=by
  simp only [qM,hcm,hck,hcx,g4];unfold oK at hu;split at hu
  ·rename_i e1 e2;obtain⟨rfl,rfl⟩:=Prod.mk.inj (zsi hu);simp only [e1,e2]
  ·rename_i i0 e1 e2;obtain⟨rfl,rfl⟩:=Prod.mk.inj (zsi hu);simp only [e1,e2]
  ·cases hu
 have hg:∀b',b'≠b->(H.add b (.st es' clk')).get b'=H.get b':=fun b' hb'=>Hp.get_add_ne _ _ hb';obtain⟨hS',hZ⟩:=hS.updK (x':=.mp (.st es' clk') []) (rest:=[]) (cs:=[]) (H':=H.add b (.st es' clk')) hb rfl h1 trivial hg rfl ⟨(),by simp,rfl⟩ rfl;simp only [qv,qs,if_true,heff];have hC':=hC.mtupd hS hb hZ hg h1 hW;exact⟨hC'.watch ws,h.run Z β _ _ c QP hS' ((hE.mono hZ (xD.refl _)).set dst jM) hC' (hA.upd rfl hg h1)⟩
theorem TG {m:Opd} {kb clk:Nat} {es:List (V × V × Nat)} (hm:ro E m=some (.one (.om kb))) (hb:lk S kb=some (.mp (.st es clk) []))
 (h:DPW p base rs Q r W A (qX E dst (.one (.ptr nk 0))) ((nk,.mp (.it clk [] clk) [.om kb])::S) (nk+1)):DPW p base rs Q (⟨id,dst,.e (.rng m),none,aid,ws,keep⟩::r) W A E S nk:=.mk fun Z β H F c QP hS hE hC hA=>by
 obtain⟨cm,hcm,b,N,h1,rfl⟩:=xj hE hm;obtain⟨g4,g3⟩:=hS.stb hb h1;have hfr:H.get H.nx=none:=hS.wf.fresh (Nat.le_refl _);have hg:∀b',b'≠H.nx->(H.push (.it b clk [] clk)).get b'=H.get b':=fun b' hb'=>by rw [Hp.get_push,if_neg hb']
 have hz:¬Z H.nx:=fun hz=>absurd (hS.z _ hz) oM;obtain⟨hS',hZ,hB⟩:=hS.newB (x:=.mp (.it clk [] clk) [.om kb]) (b:=H.nx) (N0:=0) (H':=H.push (.it b clk [] clk)) rfl (fun β' hB hZ=>⟨hz,hS.lo,by simp,[.map b],[],⟨b,by rw [Hp.get_push,if_pos rfl],rfl⟩,rfl,⟨_,_,hB _ _ h1,rfl⟩,trivial⟩) hz (fun k N hk=>absurd (hS.bd k _ N hk) (by omega)) hS.lo (by simp) (by simp) (hS.wf.push _) hg;simp only [qv,qs,if_true,qM,hcm,g4];have hC':=hC.new hZ hB hg hfr;exact⟨hC'.watch ws,h.run Z _ _ _ c QP hS' ((hE.mono hZ hB).set dst ⟨_,rfl,_,_,qW _ _ _,rfl⟩) hC' (hA.new (by simp) hg fun j hj hjA e=>by have:=(hA.2 j hj hjA).1;omega)⟩
theorem Cl {x:Opd} {k kb since last clk:Nat} {seen:List Nat} {es:List (V × V × Nat)} (hx:ro E x=some (.one (.ptr k 0))) (hk:lk S k=some (.mp (.it since seen last) [.om kb])) (hb:lk S kb=some (.mp (.st es clk) [])) (hold:∀e∈es,e.2.2<since) (hsc:since<=last) (hW:kr S k W=true)
 (h0:(∀e∈es,e.2.2∈seen)->DPW p base rs Q r W A (qX E dst (.tup [.bool false])) S nk)
 (h1:∀e∈es,e.2.2∉seen->DPW p base rs Q r W A (qX E dst (.tup [.bool true,r8 e.1,r8 e.2.1])) (put k (.mp (.it since (seen++[e.2.2]) clk) [.om kb]) S) nk):DPW p base rs Q (⟨id,dst,.nx x,none,aid,ws,keep⟩::r) W A E S nk:=.mk fun Z β H F c QP hS hE hC hA=>by
 obtain⟨cx,hcx,b,N,g1,rfl⟩:=xj hE hx;obtain⟨s,hs,hbx⟩:=hS.box (k,0) _ (xL hk rfl);rw [g1] at hs;obtain rfl:=zsi hs;obtain⟨q1,q2,q3,cs,rest,⟨mb,q4,q5⟩,q6,q7⟩:=hbx;have q6:rest=[]:=q6;subst q6;rw [List.append_nil] at q5;subst q5;obtain⟨⟨b2,N2,q8,q9⟩,_⟩:=q7;obtain rfl:mb=b2:=by simpa using q9
 obtain⟨m1,m2⟩:=hS.stb hb q8;simp only [qv,qs,if_true,hcx];refine EU q4 m1 hold hsc (fun ha=>?_) fun e he hn i1 i2=>?_
 ·exact⟨hC.watch ws,(h0 ha).run Z β H _ c QP hS (hE.set dst ⟨_,rfl,⟨_,rfl,.c _ rfl⟩,trivial⟩) hC hA⟩
 ·have hg:∀b',b'≠b->(H.add b (.it mb since (seen++[e.2.2]) clk)).get b'=H.get b':=fun b' hb'=>Hp.get_add_ne _ _ hb';obtain⟨hS',hZ⟩:=hS.updK (x':=.mp (.it since (seen++[e.2.2]) clk) [.om kb]) (rest:=[]) (cs:=[.map mb]) (H':=H.add b (.it mb since (seen++[e.2.2]) clk)) hk rfl g1 ⟨⟨_,_,q8,rfl⟩,trivial⟩ hg rfl ⟨mb,by simp,rfl⟩ rfl;have hC':=hC.mtupd hS hk hZ hg g1 hW;exact⟨hC'.watch ws,(h1 e he hn).run Z β _ _ c QP hS' ((hE.mono hZ (xD.refl _)).set dst ⟨_,rfl,⟨_,rfl,.c _ rfl⟩,Zv _ i1,Zv _ i2,trivial⟩) hC' (hA.upd rfl hg g1)⟩
theorem TI {x:Opd} {k kb since last clk st:Nat} {seen:List Nat} {es:List (V × V × Nat)} {e:V × V × Nat} (hx:ro E x=some (.one (.ptr k 0))) (hk:lk S k=some (.mp (.it since (seen++[st]) last) [.om kb])) (hb:lk S kb=some (.mp (.st es clk) [])) (hl:clk=last) (he:es.find? (fun e=>e.2.2==st)=some e) (hi:jq e.1=true) (hj:jq e.2.1=true)
 (h:DPW p base rs Q r W A (qX E dst (.tup [r8 e.1,r8 e.2.1])) S nk):DPW p base rs Q (⟨id,dst,.e (.ent x),none,aid,ws,keep⟩::r) W A E S nk:=.mk fun Z β H F c QP hS hE hC hA=>by
 obtain⟨cx,hcx,b,N,g1,rfl⟩:=xj hE hx;obtain⟨s,hs,hbx⟩:=hS.box (k,0) _ (xL hk rfl);rw [g1] at hs;obtain rfl:=zsi hs;obtain⟨q1,q2,q3,cs,rest,⟨mb,q4,q5⟩,q6,q7⟩:=hbx;have q6:rest=[]:=q6;subst q6;rw [List.append_nil] at q5;subst q5;obtain⟨⟨b2,N2,q8,q9⟩,_⟩:=q7;obtain rfl:mb=b2:=by simpa using q9
 obtain⟨m1,m2⟩:=hS.stb hb q8;have heff:qM F H (.ent x)=some (.tup [e.1,e.2.1],H):=by
  simp only [qM,hcx,q4,m1,List.getLast?_append,List.getLast?_singleton,Option.some_or,hl,if_true,he]
 simp only [qv,qs,if_true,heff];exact⟨hC.watch ws,h.run Z β H _ c QP hS (hE.set dst ⟨_,rfl,Zv _ hi,Zv _ hj,trivial⟩) hC hA⟩
end
def fD:List SOper->Bool
 |[]=>true
 |o::r=>match o.watch with
  |[]=>fD r
  |_::_=>false
section
variable{P:Program}{G base:Nat}{QP:Hp->Prop}{Q:T V->Hp->Prop}
theorem ym:∀{l:List SOper} {ctx ctx':za} {F:T V} {H:Hp},fD l=true->qv P G base QP Q l ctx F H->qv P G base QP Q l ctx' F H
 |[],_,_,_,_,_,h=>h
 |o::r,ctx,ctx',F,H,hn,h=>by
  have hn':o.watch=[]/\fD r=true:=by
   unfold fD at hn;split at hn
   ·rename_i e;exact⟨e,hn⟩
   ·cases hn
  obtain⟨ho,hr⟩:=hn';rw [qv] at h ⊢;split at h
  ·rename_i hw;rw [if_pos hw];cases hop:o.op with
   |p op=>
    simp only [hop] at h ⊢;cases hv:qn F op with
    |none=>simp [hv] at h
    |some v=>simp only [hv] at h ⊢;exact ym hr h
   |l op=>
    simp only [hop] at h ⊢;cases hv:qA F H op with
    |none=>simp [hv] at h
    |some v=>simp only [hv] at h ⊢;exact ym hr h
   |a op=>
    simp only [hop] at h ⊢;cases hv:xw F op with
    |none=>simp [hv] at h
    |some v=>
     simp only [hv] at h ⊢;cases hai:o.aid with
     |none=>simp only [hai] at h ⊢;exact ym hr h
     |some k=>simp only [hai] at h ⊢;exact ym hr h
   |e op=>
    simp only [hop] at h ⊢;cases hv:qM F H op with
    |none=>simp [hv] at h
    |some v=>simp only [hv] at h ⊢;exact⟨by rw [ho];trivial,ym hr h.2⟩
   |cf f args=>
    simp only [hop] at h ⊢;exact h.mono (fun v H' hh=>⟨by rw [ho];trivial,ym hr hh.2⟩) fun _ h=>h
   |cv x args=>
    simp only [hop] at h ⊢;split at h
    ·exact⟨h.1,h.2.mono (fun v H' hh=>⟨by rw [ho];trivial,ym hr hh.2⟩) fun _ h=>h⟩
    ·exact⟨h.1,h.2.mono (fun v H' hh=>⟨by rw [ho];trivial,ym hr hh.2⟩) fun _ h=>h⟩
    ·exact kj.mono h fun v H' hh=>⟨by rw [ho];trivial,ym hr hh.2⟩
    ·exact h.elim
   |nx x=>
    simp only [hop] at h ⊢;split at h
    ·exact Ze.mono h fun v H' hh=>⟨by rw [ho];trivial,ym hr hh.2⟩
    ·exact h.elim
   |no=>simp only [hop] at h
  ·rename_i hw;rw [if_neg hw];exact ym hr h
end
section
variable{p:Par}{base rs:Nat}{Q:qo->Bx->Nat->Prop}{r:List SOper}{W:Wt}{A:List Nat}{E:qo}{S:Bx}{nk:Nat}
theorem TH(hn:fD r=true)(h:DPW p base rs Q r [] A E S nk):DPW p base rs Q r W A E S nk:=.mk fun Z β H F c QP hS hE _ hA=>
 ym hn (h.run Z β H F [] _ hS hE (fun x hx=>by cases hx) hA)
end
end Go.Ab

namespace Go.Ah
open Go.Ab Go.Proofs
theorem wq:Tryz.prog.follows .mixedOrders=true:=by kernel_rfl
def digs:B:=.row 8 [.int .u8 1,.int .u8 3,.int .u8 9,.int .u8 25,.int .u8 17,.int .u8 11,.int .u8 27,.int .u8 19] .lf false
def H00(_:Nat):Hp:=⟨T.lf.set 4 (some digs),7⟩
structure Hid (Q:Prop):Prop where
 get:Q
theorem qa{P Q:Prop}(k:Q)(h:Hid Q->P:=by intro goH;(repeat (first|refine ZG rfl rfl ?_|refine ZH rfl rfl ?_|refine Yr rfl ?_|refine Ys rfl rfl ?_|refine Yt rfl rfl ?_|refine Wg rfl QF QF ?_|refine Vf rfl rfl ?_|refine Ve rfl rfl ?_|refine xT rfl ?_|refine jF rfl ?_|refine jt rfl ?_|refine cX rfl QF ?_|refine cY rfl QF ?_|refine Vh rfl rfl oM oM ?_|refine Vi rfl rfl oM oM ?_|refine Vg rfl rfl oM oM ?_|refine Vk rfl rfl oM (by decide) aM ?_|refine xU rfl rfl oM (by decide) aM ?_|refine jF (ja rfl rfl aM rfl) ?_|refine jt (ja rfl rfl aM rfl) ?_|refine jF (y8 rfl rfl aM) ?_|refine jt (y8 rfl rfl aM) ?_|refine jF (y9 rfl rfl aM aM) ?_|refine jt (y9 rfl rfl aM aM) ?_|refine Qz rfl ?_|refine cZ rfl rfl rfl ?_|refine vq rfl rfl rfl rfl rfl (Nat.le_of_ble_eq_true rfl) rfl ?_|refine zE ?_|refine yB ?_|refine yq wq (fun base=>?_)|refine ZJ ?_|refine XD ?_|refine ya ?_));first|exact goH.get|(revert base;exact goH.get)):P:=h ⟨k⟩
theorem xn{P Q:Prop}(k:Q)(h:Hid Q->P:=by intro goH;(repeat (first|refine ZG rfl rfl ?_|refine ZH rfl rfl ?_|refine Yr rfl ?_|refine Ys rfl rfl ?_|refine Yt rfl rfl ?_|refine Wg rfl QF QF ?_|refine Vf rfl rfl ?_|refine Ve rfl rfl ?_|refine Wh rfl aM ?_|refine xT rfl ?_|refine jF rfl ?_|refine jt rfl ?_|refine cX rfl QF ?_|refine cY rfl QF ?_|refine Vh rfl rfl oM oM ?_|refine Vi rfl rfl oM oM ?_|refine Vg rfl rfl oM oM ?_|refine Vk rfl rfl oM (by decide) aM ?_|refine xU rfl rfl oM (by decide) aM ?_|refine jF (ja rfl rfl aM rfl) ?_|refine jt (ja rfl rfl aM rfl) ?_|refine jF (y8 rfl rfl aM) ?_|refine jt (y8 rfl rfl aM) ?_|refine jF (y9 rfl rfl aM aM) ?_|refine jt (y9 rfl rfl aM aM) ?_|refine Qz rfl ?_|refine cZ rfl rfl rfl ?_|refine vq rfl rfl rfl rfl rfl (Nat.le_of_ble_eq_true rfl) rfl ?_|refine zE ?_|refine yB ?_|refine yq wq (fun base=>?_)|refine ZJ ?_|refine XD ?_|refine ya ?_));first|exact goH.get|(revert base;exact goH.get)):P:=h ⟨k⟩
theorem jm:∀b bk,(H00 1).get b=some bk->bk.ro=some bk:=by
 intro b bk h;have e:(H00 1).get b=if b=4 then some digs else none:=by
  show (T.lf.set 4 (some digs)).get b=_
  rw [T.get_set,T.get_lf]
 rw [e] at h;split at h
 ·rw [<-zsi h];rfl
 ·cases h
abbrev DK(f:FuncId)(ds:List DV)(R:DV->Prop):Prop:=yE Tryz.prog 7 (H00 1) f ds R
def pC(f:FuncId){s:SFn}(h:zK Tryz.prog 7 f=some s:=by set_option maxRecDepth 100000 in (conv=>lhs;reduce;simp only [Int.reduceOfNat,Int.reduceNegSucc])):{s//zK Tryz.prog 7 f=some s}:=⟨s,h⟩
theorem qI{f:FuncId}{ds:List DV}{R:DV->Prop}{sf:SFn}(h:∀Z0 lo,DPS (Par.base Tryz.prog 7 (H00 1) Z0 lo) sf.n sf.code (Y5 (Par.base Tryz.prog 7 (H00 1) Z0 lo) sf.res R) (kp ds 0) [] 0)(hf:zK Tryz.prog 7 f=some sf/\Nat.ble ds.length sf.n=true:=by constructor;(set_option maxRecDepth 100000 in (conv=>lhs;reduce;simp only [Int.reduceOfNat,Int.reduceNegSucc]));rfl):DK f ds R:=zy hf.1 hf.2 jm h
noncomputable def tabS (f:FuncId):Option SFn:=if zR Tryz.prog f then zK Tryz.prog 7 f else none
noncomputable def tabE (f:FuncId):Option SDef:=if zR Tryz.prog f then c9 Tryz.prog 7 f else none
def HS:Hp:=⟨.lf,7⟩
theorem G4:Vy Tryz.prog 7 tabS:=fun f sf h=>by
 unfold tabS at h;split at h
 ·rename_i hf;exact⟨h,hf⟩
 ·cases h
theorem G5:Wv Tryz.prog 7 tabE:=fun f sf h=>by
 unfold tabE at h;split at h
 ·rename_i hf;exact⟨h,hf⟩
 ·cases h
theorem QQ{f:FuncId}{ds:List DV}{vs:List V}{c:C}{fuel:Nat}(hex:qe (fun d v=>K9 d=some v) ds vs)(hcl:vs.all V.closed=true)(hc:c.closed=true)(h:vo tabS tabE fuel f vs HS=some (.one c)):DK f ds fun d=>d=.one (.f (.c c)):=by
 have hno:∀b bk,HS.get b=some bk->False:=fun b bk h=>by
  have:HS.get b=none:=T.get_lf b;rw [this] at h;cases h
 exact yE.of_pure hex hc fun H hH=>(qK.sub (H:=H) (C3 wq G4 G5 h) hcl (by decide) (fun b bk h=>(hno b bk h).elim) (fun b bk h=>(hno b bk h).elim) (fun v _ h=>by rw [h];exact hc)).mono fun v H' ⟨⟨_,h⟩,e⟩=>⟨h,e⟩
def Zp(n:Nat):Int:=if 97<=n % 128/\n % 128<=122 then 1 else if 65<=n % 128/\n % 128<=90 then 2 else if 48<=n % 128/\n % 128<=57 then 3 else if n % 128=32 then 4 else 5
def vu(n:Nat):Bool:=decide (32<=n % 128)&&decide (n % 128<=126)
theorem Dj:((List.range 256).all fun n=>match vo tabS tabE 100 72 [.one (.int .u8 n)] HS with
 |some (.one (.int .i64 c))=>decide (c=Zp n)
 |_=>false)=true:=by kernel_rfl
theorem UY:((List.range 256).all fun n=>match vo tabS tabE 100 100 [.one (.int .u8 n)] HS with
 |some (.one (.bool c))=>c==vu n
 |_=>false)=true:=by kernel_rfl
theorem LZ{n:Nat}(h:n<256):DK 72 [.one (.f (.c (.int .u8 n)))] fun d=>d=.int (Zp n):=by
 have h1:=List.all_eq_true.1 Dj n (List.mem_range.2 h);split at h1
 ·rename_i c hc;have:=qG h1;subst this;exact QQ (vs:=[.one (.int .u8 n)]) ⟨rfl,trivial⟩ rfl rfl hc
 ·cases h1
theorem Cu{n:Nat}(h:n<256):DK 100 [.one (.f (.c (.int .u8 n)))] fun d=>d=.bool (vu n):=by
 have h1:=List.all_eq_true.1 UY n (List.mem_range.2 h);split at h1
 ·rename_i c hc;have:c=vu n:=by simpa using h1
  subst this;exact QQ (vs:=[.one (.int .u8 n)]) ⟨rfl,trivial⟩ rfl rfl hc
 ·cases h1
end Go.Ah
