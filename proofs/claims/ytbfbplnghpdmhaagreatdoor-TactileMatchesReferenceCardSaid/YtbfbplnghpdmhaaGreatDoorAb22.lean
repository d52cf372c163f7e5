/- -/
import Derived.Test.YtbfbplnghpdmhaaGreatDoorAb21
set_option linter.unusedSimpArgs false
set_option maxHeartbeats 16000000
set_option linter.unusedVariables false
namespace Go.Ag
open Go.Ab Go.Proofs
theorem qaw{w h:Nat}{d:qI}{gap:Int}(hw:w<=200)(hh:h<=200)(hd:Sz w h d):DK 20 [yx w h d,.int gap] fun r=>∃cs,r=yn cs/\ClS (min (max gap 0) 2000) (zp d w h) cs:=by
 refine qD qbL rfl qX fun Z0 lo=>?_;have hpl:(zp d w h).length<=h*w:=XB d w h;have hhw:h*w<=200*200:=Nat.mul_le_mul hh hw;refine qb ?_;intros;refine qk rfl rfl (D3 hw hh hd) ?_;rintro _ rfl;refine qb ?_;intros;refine qk rfl rfl (bT (fun q hq=>?_) oM) ?_
 ·obtain⟨x,y,hx,hy,_,rfl⟩:=v6.1 hq;unfold qC;simp only;omega
 rintro _ ⟨cs,rfl,hcs⟩;rw [Ze (kW d w h)] at hcs;refine qb ?_;intros;exact qf ⟨_,rfl,rfl,cs,rfl,hcs⟩
inductive ShwR (p:Pic) (w h:Nat) (d:qI):Bool->Prop
 |chk (r:fF) (hr:Chk p r) (hne:r.2.2≠0):ShwR p w h d false
 |size (hne:¬((w:Int)=p.w/\(h:Int)=p.h)):ShwR p w h d false
 |cl (hv:qx p=true) (h1:jY p.gap (qo p)) (h2:jX p.gap (qo p)) (hw:(w:Int)=p.w) (hh:(h:Int)=p.h) (cs:List (List qc)) (hcs:ClS p.gap (zp d w h) cs):ShwR p w h d (we p cs)
theorem R8{L:List (List qc)}{k:qc}:Q5 L k=[]\/Q5 L k∈L:=by
 unfold Q5;cases hf:L.find? (y9 k) with
 |none=>exact .inl rfl
 |some c=>exact .inr (List.mem_of_find?_eq_some hf)
theorem SD{L:List (List qc)}{k:qc}(h:Q5 L k≠[]):L.any (y9 k)=true:=by
 unfold Q5 at h;cases hf:L.find? (y9 k) with
 |none=>rw [hf] at h;exact absurd rfl h
 |some c=>exact List.any_eq_true.2 ⟨c,List.mem_of_find?_eq_some hf,List.find?_some hf⟩
theorem rL{α:Type}{l:List α}{i:Nat}{a:α}(h:l[i]?=some a):l.drop i=a::l.drop (i+1):=by
 rw [<-(zgs h).2,List.getElem_cons_drop]
theorem sR{a:List qc}{l L:List (List qc)}(h:Q5 L (hd a)=a):wY (a::l) L=wY l (cut L (hd a)):=by
 rw [wY,if_pos h]
theorem FA{a:List qc}{l L:List (List qc)}(h:¬Q5 L (hd a)=a):wY (a::l) L=none:=by
 rw [wY,if_neg h]
theorem SB{cs:List (List qc)}(hc:Heads cs)(hn:cs.Nodup){k:Nat}{c:List qc}(h:cs[k]?=some c):(cs.take k).any (y9 (hd c))=false:=by
 rw [Bool.eq_false_iff];intro h2;obtain⟨d,h3,h4⟩:=List.any_eq_true.1 h2;have e:=hc.inj d (List.mem_of_mem_take h3) c (zmg h) (by simpa [y9] using h4);subst e;obtain⟨j,hj⟩:=List.getElem?_of_mem h3;rw [List.getElem?_take] at hj;split at hj
 ·rename_i hjk;have h5:=(zgs hj);have h6:=(zgs h);exact (List.pairwise_iff_getElem.1 hn j k h5.1 h6.1 hjk) (h5.2.trans h6.2.symm)
 ·cases hj
theorem fT{c:List qc}(h:c≠[]):c[0]?=some (hd c):=by
 obtain⟨a,t,rfl⟩:=List.exists_cons_of_ne_nil h;rfl
theorem Xv{p:Pic}(hFi:Qq p)(hFe:X3 p){w h:Nat}{d:qI}(hw:w<=200)(hh:h<=200)(hdz:Sz w h d):DK 14 [yi p,yx w h d] fun r=>∃b,ShwR p w h d b/\r=.bool b:=by
 refine qD qbQ rfl qX fun Z0 lo=>?_;refine qb ?_;intros;refine qk rfl rfl (rT hFi hFe) ?_;rintro _ ⟨r,hr,rfl⟩;refine qb ?_;intros;refine qe rfl (fun ht=>?_) (fun ht=>?_)
 ·refine qb ?_;intros;exact qf ⟨_,rfl,rfl,_,.chk r hr (by simpa using ht),rfl⟩
 ·have h0:r.2.2=0:=by simpa using ht
  have hv:qx p=true:=by
   cases hr with
   |arg h=>cases h0
   |bad1 i h hb=>exact h
   |bad2 i k h hg hb=>exact h
   |ok h hg hb=>exact h
  obtain⟨hg1,hg2⟩:=(hr.ok_iff hv).1 h0;have hl8:=(qL hv).1;have hgap:2<=p.gap/\p.gap<=6:=by
   have:=(qL hv).2.2.2;simp only [jV,xr,xQ] at this;exact this.1
  clear hr ht h0;refine qb ?_;intros;refine qk rfl rfl (nB hw hh hdz) ?_;rintro _ rfl;by_cases e1:(w:Int)=p.w
  ·have b1:((w:Int)!=p.w)=false:=by simpa using e1
   by_cases e2:(h:Int)=p.h
   ·have b2:((h:Int)!=p.h)=false:=by simpa using e2
    refine qU ?_;intros;refine qe rfl (fun h=>by cases h) (fun _=>?_);clear b1 b2;refine qb ?_;intros;refine qk rfl rfl (qaw hw hh hdz) ?_;rintro _ ⟨cs,rfl,hcs⟩;rw [show min (max p.gap 0) 2000=p.gap by omega] at hcs;refine qb ?_;intros;refine RG ?_;refine qb ?_;intros;have hD:=kW d w h;have hH:=hcs.hds hD;have hnd:=hcs.nodup hD;have hpl:(zp d w h).length<=h*w:=XB d w h;have hhw:h*w<=200*200:=Nat.mul_le_mul hh hw;obtain⟨hcl,hcc⟩:=hcs.count hD;have hh60:=(qL hv).2.2.1;simp only [yb,xr,xQ] at hh60;obtain⟨⟨⟨hw1,hw2⟩,_⟩,⟨hh1,hh2⟩,_⟩:=hh60;have hcsb:∀c∈cs,c≠[]/\c.length<1000000/\∀q∈c,zO q=true:=fun c hc=>by
     refine⟨hH.ne c hc,by have:=hcc c hc;omega,fun q hq=>?_⟩;obtain⟨x,y,hx,hy,_,rfl⟩:=v6.1 (hcs.mem c hc q hq);simp only [zO,xr,xQ];omega
    refine kz 0 (fs:=y7 p) rfl ?_;refine ql (fun m E S nk=>∃(k:Nat) (L:List (List qc × Nat)),k+m=cs.length/\zQ L=cs.take k/\E=[(2,.one (.fptr (y7 p))),(8,yn cs),(9,.one (.om 0)),(49,yn cs),(50,.int cs.length),(51,.int k)]/\S=[(0,QU L k)]/\nk=1)
     ⟨cs.length,_,_,_,[(0,2)],?wk0,0,[],oM,rfl,rfl,rfl,rfl⟩ ?_
    case wk0=>exact qm
    rintro m E S nk ⟨k,L,hk,hL,rfl,rfl,rfl⟩;refine qb ?_;intros;refine qe rfl (fun ht=>?_) (fun ht=>?_)
    ·have ht:k<cs.length:=by have:=xC ht;omega
     obtain⟨c,hc⟩:∃c,cs[k]?=some c:=⟨_,zge ht⟩;have hne:=hH.ne c (zmg hc);have e3:=j7 hc;have e4:=xd (fT hne);have hc0:=(zgs (fT hne)).1;refine qb ?_;intros;refine P7 (c:=c) rfl rfl rfl rfl rfl (by rw [hL];exact SB hH hnd hc) rfl ?_;refine qb ?_;intros;refine⟨m-1,oM,_,_,_,[],?wk1,k+1,L++[(c,k)],oM,?_,rfl,rfl,rfl⟩
     case wk1=>exact⟨za,⟨by rw [Qx];rfl,Qv _ _,rfl,trivial⟩,rfl,rfl⟩
     rw [show zQ (L++[(c,k)])=zQ L++[c] by simp [zQ],hL,List.take_add_one,hc];rfl
    ·have ht:k=cs.length:=by have:=xK ht;omega
     subst ht;rw [List.take_length] at hL;refine qb ?_;intros;refine ql (fun m E S nk=>∃(i:Nat) (L:List (List qc × Nat)),i+m=p.fs.length/\wY (qo p) cs=wY ((qo p).drop i) (zQ L)/\Left cs (zQ L)/\E=[(2,.one (.fptr (y7 p))),(8,yn cs),(9,.one (.om 0)),(62,.one (.f (.sl 3 p.fs.length (p.fs.flatMap zu)))),(63,.int p.fs.length),(64,.int i)]/\S=[(0,QU L cs.length)]/\nk=1)
      ⟨p.fs.length,_,_,_,[],?wk2,0,L,by omega,by rw [hL];rfl,by rw [hL];exact⟨fun _ h=>h,hnd⟩,rfl,rfl,rfl⟩ ?_
     case wk2=>exact⟨za,⟨by rw [Qx];rfl,Qv _ _,rfl,trivial⟩,rfl,rfl⟩
     clear hL L;rintro m E S nk ⟨i,L,hi,hsh,hLf,rfl,rfl,rfl⟩;refine qb ?_;intros;refine qe rfl (fun ht=>?_) (fun ht=>?_)
     ·have ht:i<p.fs.length:=by have:=xC ht;omega
      obtain⟨f,hf⟩:∃f,p.fs[i]?=some f:=⟨_,zge ht⟩;have e3:=ZO hf;have hvf:=zL hv f (zmg hf);have hpi:(qo p)[i]?=some (xe f):=by rw [qo,List.getElem?_map,hf];rfl
      have hne:=w9 hv _ (zmg hpi);have hlf:(xe f).length<=3600:=XC hvf;have hpt:=Jx hvf;have e4:=xd (fT hne);have hc0:=(zgs (fT hne)).1;generalize xe f=a at *;have hal:(Q5 (zQ L) (hd a)).length<1000000000:=by
       rcases R8 (L:=zQ L) (k:=hd a) with h1|h1
       ·rw [h1];decide
       ·have:=hcc _ (hLf.sub _ h1);omega
      refine qb ?_;intros;refine qk rfl rfl hpt ?_;rintro _ rfl;refine qb ?_;intros;refine rI rfl rfl rfl ?_;refine qb ?_;intros;refine qk rfl rfl (rR (a:=Q5 (zQ L) (hd a)) (b:=a) hal oM) ?_;rintro _ rfl;by_cases heq:Q5 (zQ L) (hd a)=a
      ·rw [decide_eq_true heq];refine qb ?_;intros;refine qe rfl (fun h=>by cases h) (fun _=>?_);refine qb ?_;intros;refine rH rfl rfl rfl (SD (by rw [heq];exact hne)) rfl (fun L' hL'=>?_);refine qb ?_;intros;refine⟨m-1,oM,_,_,_,[],?wk3,i+1,L',oM,?_,?_,rfl,rfl,rfl⟩
       case wk3=>exact⟨za,⟨by rw [Qx];rfl,Qv _ _,rfl,trivial⟩,rfl,rfl⟩
       ·rw [hsh,rL hpi,sR heq,hL']
       ·rw [hL'];exact (Zx hH hLf ((dA hH hLf hne).1 heq)).2
      ·rw [decide_eq_false heq];refine qb ?_;intros;refine qe rfl (fun _=>?_) (fun h=>by cases h);refine qb ?_;intros;refine qf ⟨_,rfl,rfl,we p cs,.cl hv hg1 hg2 e1 e2 cs hcs,?_⟩;rw [we,hsh,rL hpi,FA heq]
     ·have ht:i=p.fs.length:=by have:=xK ht;omega
      subst ht;have hpl2:(qo p).length=p.fs.length:=by simp [qo]
      rw [List.drop_of_length_le (by omega),wY] at hsh;refine qb ?_;intros;refine vB 15 2 rfl ?_;refine ql (fun m E S nk=>∃(i:Nat) (L':List (List qc × Nat)) (ps:List qc),i+m=p.fs.length/\vh p.fs.length 0 cs (zQ L) []=vh m i cs (zQ L') ps/\Left cs (zQ L')/\(ps.length=i/\∀q∈ps,qC 1000000 q)/\E=[(2,.one (.fptr (y7 p))),(8,yn cs),(9,.one (.om 0)),(15,.one (.own 1 0 ps.length 2)),(85,.int p.fs.length),(86,.int i)]/\S=[(0,QU L' cs.length),(1,.data (ps.flatMap qh))]/\nk=2)
       ⟨p.fs.length,_,_,_,[],?wk4,0,L,[],by omega,rfl,hLf,⟨rfl,by simp⟩,rfl,rfl,rfl⟩ ?_
      case wk4=>exact⟨za,⟨by rw [Qx];rfl,Qv _ _,rfl,rfl,rfl,rfl,trivial⟩,rfl,rfl⟩
      rintro m E S nk ⟨i,L',ps,hi,hsl,hLf',⟨hpi,hps⟩,rfl,rfl,rfl⟩;have hpd:=xb ps;refine qb ?_;intros;refine qe rfl (fun ht=>?_) (fun ht=>?_)
      ·have ht:i<p.fs.length:=by have:=xC ht;omega
       obtain⟨m',rfl⟩:∃m',m=m'+1:=⟨m-1,oM⟩;refine qb ?_;intros;refine vA rfl rfl rfl (TD (i:=i) oM oM hcsb _ _ _ _ _) ?_;rintro d' S' nk' (⟨c,L2,hfc,hL2,rfl,rfl,rfl⟩|⟨hfc,rfl,rfl,rfl⟩)
       ·have hcm:=List.mem_of_find?_eq_some hfc;obtain⟨hcL,_⟩:=(Yk hH hLf' hcm).1 (List.find?_some hfc);have hq60:=(hcsb c hcm).2.2 _ (lT (hH.ne c hcm));have hsm:qC 1000000 (QH (hd c)):=by
         simp only [zO,xr,xQ] at hq60;unfold qC QH;simp only;rw [Int.tdiv_eq_ediv_of_nonneg (by omega),Int.tdiv_eq_ediv_of_nonneg (by omega)];omega
        refine qb ?_;intros;refine qe rfl (fun h=>by cases h) (fun _=>?_);refine qb ?_;intros;refine qV (m:=1) (q:=qh (QH (hd c))) rfl rfl rfl (qH _ hpd) ⟨rfl,rfl,_,rfl,rfl⟩ oM oM (by decide) rfl ?_;refine qb ?_;intros;refine⟨m',by omega,_,_,_,[(1,6)],?wk5,i+1,L2,ps++[QH (hd c)],by omega,?_,?_,⟨by rw [List.length_append,hpi];rfl,fun q hq=>?_⟩,rfl,rfl,rfl⟩
        case wk5=>exact⟨(by repeat (first|exact trivial|refine⟨by first|rfl|exact cgI (by omega) (by omega)|exact congrArg (fun z=>some (DV.one (.own 6 0 z 2))) (by simp),rfl,?_⟩)),⟨by rw [Qx];rfl,Qv _ _,rfl,congrArg (fun z=>some (Bk.data z)) (by simp),rfl,rfl,trivial⟩,rfl,rfl⟩
        ·rw [hsl,vh,hfc,hL2]
        ·rw [hL2];exact (Zx hH hLf' hcL).2
        ·rcases List.mem_append.1 hq with hq|hq
         ·exact hps q hq
         ·rw [List.mem_singleton] at hq;rw [hq];exact hsm
       ·refine qb ?_;intros;refine qe rfl (fun _=>?_) (fun h=>by cases h);refine qb ?_;intros;refine qf ⟨_,rfl,rfl,we p cs,.cl hv hg1 hg2 e1 e2 cs hcs,?_⟩;rw [we,hsh];simp only;rw [hsl,vh,hfc]
      ·have ht:i=p.fs.length:=by have:=xK ht;omega
       obtain rfl:m=0:=by omega
       rw [vh] at hsl;have hshow:we p cs=((zQ L').isEmpty&&yH p ps):=by
        rw [we,hsh];simp only;rw [hsl]
       have hlg:=RT (p:=p) (l:=ps) hFi hFe hps;rw [hv,Bool.true_and] at hlg;cases hLe:zQ L' with
       |nil=>
        have b3:(((zQ L').length:Int)==0)=true:=by rw [hLe];rfl
        rw [hLe] at hshow;refine qb ?_;intros;refine rF rfl rfl ?_;refine qU ?_;intros;refine yJ (qd (k:=106) rfl (qd (k:=107) rfl (qd (k:=108) rfl (qu _)))) (qd (k:=1) rfl (qu _)) ?_;refine Qb 1 rfl qO qO ?_;refine qk rfl rfl hlg ?_;rintro _ rfl;refine qb ?_;intros;refine qf ⟨_,rfl,rfl,we p cs,.cl hv hg1 hg2 e1 e2 cs hcs,?_⟩;rw [hshow];rfl
       |cons c0 t0=>
        have b3:(((zQ L').length:Int)==0)=false:=by rw [hLe];simp;omega
        rw [hLe] at hshow;refine qb ?_;intros;refine rF rfl rfl ?_;refine qU ?_;intros;refine qf ⟨_,rfl,rfl,we p cs,.cl hv hg1 hg2 e1 e2 cs hcs,?_⟩;rw [hshow];rfl
   ·have b2:((h:Int)!=p.h)=true:=by simpa using e2
    refine qU ?_;intros;refine qe rfl (fun _=>?_) (fun h=>by cases h);refine qb ?_;intros;exact qf ⟨_,rfl,rfl,_,.size (fun e=>e2 e.2),rfl⟩
  ·have b1:((w:Int)!=p.w)=true:=by simpa using e1
   refine qU ?_;intros;refine qe rfl (fun _=>?_) (fun h=>by cases h);refine qb ?_;intros;exact qf ⟨_,rfl,rfl,_,.size (fun e=>e1 e.1),rfl⟩
theorem oG{p:Pic}(hv:qx p=true){l qs:List qc}(h:y4 p (l++qs)=true):y4 p l=true:=by
 have:=(vr hv).2 (((vr hv).1 h).take l.length)
 rwa [List.take_left' rfl] at this
theorem A4{p:Pic}{d:qI}:∀(n:Nat) {l:List qc},XM p d n l=true->∃qs:List qc,qs.length=n/\y4 p (l++qs)=true/\wp p (jP p (l++qs))=d
 |0,l,h=>by
  rw [XM,xr,xQ] at h;exact⟨[],rfl,by rw [List.append_nil];exact h.1,by rw [List.append_nil];exact h.2⟩
 |n+1,l,h=>by
  rw [XM,xr,List.any_eq_true] at h;obtain⟨_,q,_,h2⟩:=h;obtain⟨qs,h3,h4,h5⟩:=A4 n h2;rw [List.append_assoc,List.singleton_append] at h4 h5;exact⟨q::qs,by rw [List.length_cons,h3],h4,h5⟩
theorem oF{p:Pic}(hv:qx p=true){l:List qc}(hl:y4 p l=true)(hle:l.length<=p.fs.length){d:qI}(hd:wp p (jP p l)=d){i:Nat}{q:qc}(hq:l[i]?=some q):q∈QR p.w p.h d i:=by
 have hi:=(zgs hq).1;have h1:=((vr hv).1 hl).ch i q hq;rw [j9 (by omega)] at h1;have hf:=(QG hv).1 h1;rw [zU,xr] at hf;have h:=hf.1;simp only [kg,xr,xQ] at h;rw [iQ];refine⟨⟨q.1.toNat,q.2.toNat,by omega,by omega,Prod.ext (by simp only;omega) (by simp only;omega)⟩,?_⟩;rw [dZ,List.all_eq_true];intro r hr;have hb:=cU (p:=p) (i:=i) (q:=q) h.1.1 h.2.1 h.2.2 r hr;rw [Vp,xr];refine⟨by simp only [XT,xr,xQ];omega,?_⟩;rw [<-hd,wp,kw _ (Sz.blankD _ _) _ _ (by omega) (by omega)];refine .inr ⟨qS i q,?_,?_⟩
 ·rw [jP];exact List.mem_append.2 (.inr (List.mem_map.2 ⟨i,List.mem_range.2 hi,by rw [xM hq]⟩))
 ·rw [show (((r.1.toNat:Nat):Int),((r.2.toNat:Nat):Int))=r from Prod.ext (by simp only;omega) (by simp only;omega)];exact hr
theorem A5{p:Pic}(hv:qx p=true){d:qI}:∀(n:Nat) {l qs:List qc},qs.length=n->(l++qs).length<=p.fs.length->y4 p (l++qs)=true->wp p (jP p (l++qs))=d->XM p d n l=true
 |0,l,qs,hn,hle,h1,h2=>by
  obtain rfl:qs=[]:=List.length_eq_zero_iff.1 hn;rw [List.append_nil] at h1 h2;rw [XM,h1,Bool.true_and,decide_eq_true h2]
 |n+1,l,qs,hn,hle,h1,h2=>by
  obtain⟨q,t,rfl⟩:=List.exists_cons_of_ne_nil (l:=qs) (fun e=>by rw [e] at hn;cases hn);rw [XM,oG hv h1,Bool.true_and,List.any_eq_true];refine⟨q,oF hv h1 hle h2 (by rw [List.getElem?_append_right (by omega)];simp),?_⟩;have e:l++q::t=(l++[q])++t:=by simp
  rw [e] at h1 h2 hle;exact A5 hv n (by simpa using hn) hle h1 h2
def b7(p:Pic)(d:qI):Prop:=qx p=true/\jY p.gap (qo p)/\jX p.gap (qo p)/\∃l,yH p l=true/\wp p (qF p l p.fs.length)=d
theorem aW{p:Pic}{l:List qc}:yH p l=true↔l.length=p.fs.length/\y4 p l=true:=by
 rw [yH,xr,xQ]
theorem NZ{p:Pic}(hv:qx p=true){d:qI}:XM p d p.fs.length []=true↔∃l,yH p l=true/\wp p (qF p l p.fs.length)=d:=by
 constructor
 ·intro h;obtain⟨qs,h1,h2,h3⟩:=A4 _ h;rw [List.nil_append] at h2 h3;refine⟨qs,aW.2 ⟨h1,h2⟩,?_⟩;rw [<-Jj (Jk (p:=p) h1)];exact h3
 ·rintro ⟨l,h1,h2⟩;have h1:=aW.1 h1;refine A5 hv (qs:=l) _ h1.1 (by rw [List.nil_append];omega) (by rw [List.nil_append];exact h1.2) ?_;rw [List.nil_append,Jj (Jk (p:=p) h1.1)];exact h2
theorem ShwR.iff{p:Pic}{d:qI}{w h:Nat}(hw:(w:Int)=p.w)(hh:(h:Int)=p.h)(hd:Sz w h d){b:Bool}(hb:ShwR p w h d b):b=true↔b7 p d:=by
 cases hb with
 |chk r hr hne=>exact⟨(fun h=>by cases h),fun h=>absurd ((hr.ok_iff h.1).2 ⟨h.2.1,h.2.2.1⟩) hne⟩
 |size hne=>exact absurd ⟨hw,hh⟩ hne
 |cl hv h1 h2 _ _ cs hcs=>
  have ew:p.w.toNat=w:=by omega
  have eh:p.h.toNat=h:=by omega
  rw [A8 hv (kW _ _ _) hcs h1 h2];constructor
  ·rintro ⟨l,hl,he⟩;refine⟨hv,h1,h2,l,hl,?_⟩;rw [<-ew,<-eh] at hd he;exact (iR hv hd hl).1 he
  ·rintro ⟨_,_,_,l,hl,he⟩;refine⟨l,hl,?_⟩;rw [<-ew,<-eh] at hd ⊢;exact (iR hv hd hl).2 he
theorem VN{p:Pic}(hFi:Qq p)(hFe:X3 p){w h:Nat}{d:qI}(hw:w<=200)(hh:h<=200)(ew:(w:Int)=p.w)(eh:(h:Int)=p.h)(hdz:Sz w h d):DK 15 [yi p,yx p.w p.h d] fun r=>∃b,(b=true↔b7 p d)/\r=.bool b:=by
 refine qD qbP rfl qX fun Z0 lo=>?_;have b1:(p.w !=p.w)=false:=by simp
 have b2:(p.h !=p.h)=false:=by simp
 have hgv:=D2 hw hh hdz;rw [ew,eh] at hgv;have ew':w=p.w.toNat:=by omega
 have eh':h=p.h.toNat:=by omega
 subst ew' eh';refine qb ?_;intros;refine qk rfl rfl (nA hFi) ?_;rintro _ ⟨r,hr,rfl⟩;refine qb ?_;intros;refine qk rfl rfl hgv ?_;rintro _ rfl;by_cases h0:r.2.2=0
 ·have hv:=hr.valid h0;obtain⟨hg1,hg2⟩:=(hr.ok_iff hv).1 h0;have b3:(r.2.2!=0)=false:=by simpa using h0
  have hl8:=(qL hv).1;refine qU ?_;intros;refine qe rfl (fun h=>by cases h) (fun _=>?_);have hnl:([]:List FD).length=0*2:=rfl;refine qb ?_;intros;refine Qb 3 rfl qO qO ?_;refine qk rfl rfl (eX (l:=[]) hv hFe hdz p.fs.length (by simp) (fun _ h=>by cases h)) ?_;rintro _ rfl;refine qb ?_;intros;refine qf ⟨_,rfl,rfl,_,?_,rfl⟩;rw [NZ hv];exact⟨fun h=>⟨hv,hg1,hg2,h⟩,fun h=>h.2.2.2⟩
 ·have b3:(r.2.2!=0)=true:=by simpa using h0
  refine qU ?_;intros;refine qe rfl (fun _=>?_) (fun h=>by cases h);refine qb ?_;intros;refine qf ⟨_,rfl,rfl,_,?_,rfl⟩;exact⟨(fun h=>by cases h),fun h=>absurd ((hr.ok_iff h.1).2 ⟨h.2.1,h.2.2.1⟩) h0⟩
def Qu(l:List qc):Pic:=⟨20,18,2,l.map Y7⟩
theorem eY{l:List qc}(hn:l.length<1000):DK 28 [qz l] fun d=>d=yi (Qu l):=by
 refine qD qbI rfl qX fun Z0 lo=>?_;refine qb ?_;intros;refine VK 1 3 3 rfl rfl ?_;refine ql (fun m E S nk=>∃(i:Nat) (out:List Ft),i+m=l.length/\out=(l.take i).map Y7/\E=[(0,qz l),(2,.one (.ptr 0 0)),(3,.one (.ptr 1 0)),(4,.int i)]/\
  S=[(0,.cells [.f (.c (.int .i64 0)),.f (.c (.int .i64 0)),.f (.c (.int .i64 0)),.f (.c .nils)]),(1,.cells [.f (.c (.int .i64 20)),.f (.c (.int .i64 18)),.f (.c (.int .i64 2)),.own 2 0 out.length 3]),(2,.data (out.flatMap zu))]/\nk=3)
  ⟨l.length,_,_,_,[],?wk,0,[],oM,rfl,rfl,rfl,rfl⟩ ?_
 case wk=>exact qm
 rintro m E S nk ⟨i,out,hi,ho,rfl,rfl,rfl⟩;refine qb ?_;intros;refine qe rfl (fun hi2=>?_) (fun hi2=>?_)
 ·have hi2:i<l.length:=by have:=xC hi2;omega
  obtain⟨q,hq⟩:∃q,l[i]?=some q:=⟨_,zge hi2⟩;have e1:=xd hq;have hol:out.length=i:=by rw [ho,List.length_map,List.length_take];omega
  have hfl:=KA out
  iterate 12 (first|(refine Zu rfl rfl ?_)|(refine Zv rfl rfl ?_)|(refine ZR rfl ?_)|(refine ZS rfl rfl ?_)|(refine ZT rfl rfl ?_)|(refine YU rfl QE QE ?_)|(refine WS rfl rfl ?_)|(refine WQ rfl rfl ?_)|(refine zJ rfl ?_)|(refine jK rfl ?_)|(refine jC rfl ?_)|(refine bL rfl QE ?_)|(refine bM rfl QE ?_)|(refine WU rfl rfl oM oM ?_)|(refine WV rfl rfl oM oM ?_)|(refine WT rfl rfl oM oM ?_)|(refine WW rfl rfl oM (by decide) aM ?_)|(refine zV rfl rfl oM (by decide) aM ?_)|(refine jK (jh rfl rfl aM rfl) ?_)|(refine jC (jh rfl rfl aM rfl) ?_)|(refine jK (jf rfl rfl aM) ?_)|(refine jC (jf rfl rfl aM) ?_)|(refine jK (jg rfl rfl aM aM) ?_)|(refine jC (jg rfl rfl aM aM) ?_)|(refine Xs rfl ?_)|(refine bO rfl rfl rfl ?_)|(refine Qg rfl rfl rfl rfl rfl (Nat.le_of_ble_eq_true rfl) rfl ?_)|(refine yI ?_)|(refine js ?_)|(refine jt wi (fun base=>?_))|(refine Xt ?_)|(refine Qo ?_)|(refine ja ?_))
  have hq2:(qh q).length=1*2:=rfl;refine Qb 3 rfl qO qO ?_;refine qb ?_;intros;refine qV (m:=1) (q:=zu (Y7 q)) rfl rfl rfl (qH _ hfl) ⟨rfl,rfl,_,rfl,rfl⟩ oM oM (by decide) rfl ?_;rw [show out.flatMap zu++zu (Y7 q)=(out++[Y7 q]).flatMap zu by simp,show out.length+1=(out++[Y7 q]).length by simp];refine qb ?_;intros;refine⟨m-1,by omega,_,_,_,[(2,5)],?wk1,i+1,out++[Y7 q],by omega,by rw [List.take_add_one,hq,ho];simp,rfl,rfl,rfl⟩
  case wk1=>exact qm
 ·have hi2:i=l.length:=by have:=xK hi2;omega
  subst hi2;rw [List.take_length] at ho;have hfl:=KA out;refine qb ?_;intros;refine qr (qd (k:=2) rfl (qu _)) (qd (k:=0) rfl (qd (k:=2) rfl (qu _))) ?_;refine xt 2 rfl qO qO ?_;refine qf ⟨_,rfl,rfl,?_⟩;rw [Qu,<-ho];rfl
theorem Drw.uniq{p:Pic}{a b:DV × Int × Int}(ha:Drw p a)(hb:Drw p b):a=b:=by
 cases ha with
 |chk r h hne=>
  cases hb with
  |chk r' h' hne'=>rw [h.uniq h']
  |bad hv h1 h2 q hq hne'=>exact absurd ((h.ok_iff hv).2 ⟨h1,h2⟩) hne
  |ok hv h1 h2 q hq h0=>exact absurd ((h.ok_iff hv).2 ⟨h1,h2⟩) hne
 |bad hv h1 h2 q hq hne=>
  cases hb with
  |chk r h' hne'=>exact absurd ((h'.ok_iff hv).2 ⟨h1,h2⟩) hne'
  |bad _ _ _ q' hq' hne'=>rw [hq.uniq hq']
  |ok _ _ _ q' hq' h0=>rw [hq.uniq hq'] at hne;exact absurd h0 hne
 |ok hv h1 h2 q hq h0=>
  cases hb with
  |chk r h' hne'=>exact absurd ((h'.ok_iff hv).2 ⟨h1,h2⟩) hne'
  |bad _ _ _ q' hq' hne'=>rw [hq'.uniq hq] at hne';exact absurd h0 hne'
  |ok _ _ _ q' hq' h0'=>rw [hq.uniq hq']
theorem B0{p:Pic}(hv:qx p=true){q:cA}(hq:PlcR p q)(h0:q.2.2=0):yH p q.1=true:=(Zr hv hq h0).2.1
theorem gY{p:Pic}(hv:qx p=true)(h1:jY p.gap (qo p))(h2:jX p.gap (qo p)){q:cA}(hq:PlcR p q)(h0:q.2.2=0):b7 p (wp p (qF p q.1 p.fs.length)):=⟨hv,h1,h2,q.1,B0 hv hq h0,rfl⟩
theorem XN{l:List qc}(hn:l.length<1000):Qq (Qu l):=by
 refine⟨by simpa [Qu] using hn,fun f hf=>?_⟩;obtain⟨q,_,rfl⟩:=List.mem_map.1 hf;exact Nat.lt_of_lt_of_le (Nat.lt_succ_self 1) (Nat.le_add_left 2 998)
theorem ZA{l:List qc}:X3 (Qu l):=fun f hf _=>by
 obtain⟨q,_,rfl⟩:=List.mem_map.1 hf;exact p8 (q:=q) rfl rfl
theorem R3{g:Int}{q:qc}:Xa g [q]=true:=(c8 (by simp)).2 fun x hx y hy=>by
 rw [List.mem_singleton] at hx hy;subst hx;subst hy;exact .base (by simp)
theorem J8{l:List qc}{k:Int}:jY k (qo (Qu l)):=fun a ha=>by
 obtain⟨f,hf,rfl⟩:=List.mem_map.1 ha;obtain⟨q,_,rfl⟩:=List.mem_map.1 hf;exact R3
def wx:Pic:=Qu [(1,1)]
def Kh:Pic:=Qu [(1,1),(3,1)]
def tC:Pic:=⟨0,0,0,[]⟩
theorem TV:kO wx 0=[(2,0)]:=by kernel_rfl
theorem LN:PlcR wx ([(2,0)],1,0):=by
 have h:=PlcR.ok (p:=wx) fun j hj=>by
  obtain rfl:j=0:=by have:j<1:=hj;omega
  rw [TV];decide
 rw [show wx.fs.length-1=0 from rfl,TV] at h;exact h
theorem aP:jX wx.gap (qo wx):=fun i k a b hik ha hb=>by
 have hk:=(zgs hb).1;have hk:k<1:=hk;omega
theorem K5:qx wx=true:=by kernel_rfl
theorem n7:qx Kh=true:=by kernel_rfl
def tO:qI:=wp wx (qF wx [(2,0)] wx.fs.length)
theorem Js:Sz 20 18 tO:=Zs wx _
theorem RK:Drw wx (yx 20 18 tO,1,0):=.ok K5 J8 aP ([(2,0)],1,0) LN rfl
theorem A9:b7 wx tO:=gY K5 J8 aP LN rfl
theorem gM:xZ [(1,1)] [(3,1)]<=2:=by decide
theorem R5:Chk Kh (0,1,140):=.bad2 0 1 n7 J8 ⟨⟨[(1,1)],[(3,1)],oM,rfl,rfl,gM⟩,fun i' k' a b h1 h2=>oM⟩
theorem RJ:Drw Kh (YS,0,140):=.chk (0,1,140) R5 (by decide)
theorem OH{d:qI}:¬b7 Kh d:=fun h=>h.2.2.1 0 1 [(1,1)] [(3,1)] oM rfl rfl gM
theorem RM:Drw tC (YS,0,1):=.chk (0,0,1) (.arg (by decide)) (by decide)
theorem tB:Qq tC:=⟨by decide,fun f hf=>by cases hf⟩
theorem B8:X3 tC:=fun f hf=>by cases hf
theorem RU:DK 9 [.agg [.f (.c (.int .i64 0)),.f (.c (.int .i64 0)),.f (.c (.int .i64 0)),.f (.c .nils)]] fun d=>d=WX (YS,0,1):=fun H Z args hw hz hg ha=>by
 refine (bS tB B8 (Nat.zero_le _)).mono ?_ H Z args hw hz hg ?_
 ·rintro _ ⟨r,hr,rfl⟩;rw [hr.uniq RM]
 ·match args,ha with
  |[v],⟨⟨cs,hv,hr⟩,_⟩=>
   refine⟨⟨cs,hv,?_⟩,trivial⟩
   match cs,hr with
   |[c1,c2,c3,c4],⟨h1,h2,h3,h4,_⟩=>
    have h4:RF Z H (.c .nils) c4:=h4;cases h4;exact⟨h1,h2,h3,RF.nil 3,trivial⟩
theorem HK{p:Pic}(hFi:Qq p)(hFe:X3 p)(h0:p.w≠0):DK 14 [yi p,YS] fun d=>d=.bool false:=fun H Z args hw hz hg ha=>by
 refine (Xv hFi hFe (w:=0) (h:=0) (d:=[]) oM oM ⟨rfl,fun r hr=>by cases hr⟩).mono ?_ H Z args hw hz hg ?_
 ·rintro _ ⟨b,hb,rfl⟩;cases hb with
  |chk r hr hne=>rfl
  |size hne=>rfl
  |cl hv h1 h2 hw hh cs hcs=>exact absurd hw.symm h0
 ·match args,ha with
  |[v0,v],⟨h0,⟨cs,hv,hr⟩,_⟩=>
   refine⟨h0,⟨cs,hv,?_⟩,trivial⟩
   match cs,hr with
   |[c1,c2,c3],⟨h1,h2,h3,_⟩=>
    have h3:RF Z H (.c .nils) c3:=h3;cases h3;exact⟨h1,h2,RF.nil 1,trivial⟩
theorem HL:DK 7 [] fun d=>d=.bool true:=by
 refine qD cp7 rfl qX fun Z0 lo=>?_;refine qb ?_;intros;refine Qb 0 rfl qO qO ?_;refine qk rfl rfl (eY (l:=[(1,1)]) (by decide)) ?_;rintro _ rfl;refine qb ?_;intros;refine Qb 2 rfl qO qO ?_;refine qk rfl rfl (eY (l:=[(1,1),(3,1)]) (by decide)) ?_;rintro _ rfl;refine qb ?_;intros;refine qk rfl rfl (bS (p:=wx) (XN (by decide)) ZA (by decide)) ?_;rintro _ ⟨r,hr,rfl⟩;obtain rfl:=hr.uniq RK;clear hr;refine qb ?_;intros;refine qk rfl rfl (bS (p:=Kh) (XN (by decide)) ZA (by decide)) ?_;rintro _ ⟨r,hr,rfl⟩;obtain rfl:=hr.uniq RJ;clear hr;refine qb ?_;intros;refine qk rfl rfl RU ?_;rintro _ rfl;refine qb ?_;intros;refine qk rfl rfl (Xv (p:=wx) (XN (by decide)) ZA (w:=20) (h:=18) (by decide) (by decide) Js) ?_;rintro _ ⟨b,hb,rfl⟩;obtain rfl:b=true:=(hb.iff rfl rfl Js).2 A9;clear hb;refine qb ?_;intros;refine qk rfl rfl (Xv (p:=Kh) (XN (by decide)) ZA (w:=20) (h:=18) (by decide) (by decide) Js) ?_;rintro _ ⟨b,hb,rfl⟩;obtain rfl:b=false:=by
  cases b with
  |false=>rfl
  |true=>exact absurd ((hb.iff rfl rfl Js).1 rfl) OH
 clear hb;refine qb ?_;intros;refine qk rfl rfl (HK (p:=wx) (XN (by decide)) ZA (by decide)) ?_;rintro _ rfl;refine qb ?_;intros;exact qf ⟨_,rfl,rfl,rfl⟩
theorem OP{x:Raw}(hx:x.ok):(12<=(wK x).w/\(wK x).w<=36)/\12<=(wK x).h/\(wK x).h<=36:=⟨(UD hx).1,(UD hx).2.1⟩
theorem FU{w h:Nat}{d:qI}(hw:w<=200)(hh:h<=200)(hd:Sz w h d):fI 39 [yx w h d,.one (.f (.c .nils))] fun r S nk=>r=.agg [.f (.c (.int .i64 w)),.f (.c (.int .i64 h)),.own 4 0 h 1]/\S=[(4,.tree (xj d))]/\nk=6:=by
 refine QF HY rfl qX fun Z0 lo=>?_;refine qb ?_;intros;refine jr rfl rfl (Wu w h) ?_;rintro _ _ _ ⟨n,m,hn,hm,_,_,rfl,rfl,rfl⟩;obtain rfl:=Zq hn hw;obtain rfl:=Zq hm hh;refine qb ?_;intros;refine qr (qd (k:=1) rfl (qd (k:=2) rfl (qd (k:=4) rfl (qd (k:=5) rfl (qd (k:=6) rfl (qu _)))))) (qd (k:=0) rfl (qd (k:=1) rfl (qd (k:=4) rfl (qd (k:=5) rfl (qu _))))) ?_;refine ql (fun k E S nk=>∃y:Nat,y+k=m/\∃cur:qI,Cp n m d y 0 cur/\E=[(1,.one (.f (.c .nils))),(2,.one (.ptr 0 0)),(4,.one (.ptr 1 0)),(5,.one (.ptr 5 0)),(6,.int y)]/\S=[(0,.cells [.f (.c (.int .i64 n)),.f (.c (.int .i64 m)),.f (.sl 1 d.length ((xj d).map yh))]),(1,.cells [.f (.c (.int .i64 0)),.f (.c (.int .i64 0)),.f (.c .nils)]),(4,.tree (xj cur)),(5,.cells [.f (.c (.int .i64 n)),.f (.c (.int .i64 m)),.own 4 0 m 1])]/\nk=6) ⟨m,_,_,_,[],?wk,0,oM,blankD n m,Cp.start n m d,rfl,rfl,rfl⟩ ?_
 case wk=>exact qm
 rintro k E S nk ⟨y,hy,cur,hcur,rfl,rfl,rfl⟩;refine qb ?_;intros;refine qe rfl (fun ht=>?_) (fun ht=>?_)
 ·simp at ht;refine qb ?_;intros;refine qr (qd (k:=1) rfl (qd (k:=2) rfl (qd (k:=4) rfl (qd (k:=5) rfl (qd (k:=6) rfl (qd (k:=7) rfl (qu _))))))) (zH _) ?_;refine ql (fun k2 E S nk=>∃x:Nat,x+k2=n/\∃cur:qI,Cp n m d y x cur/\E=[(1,.one (.f (.c .nils))),(2,.one (.ptr 0 0)),(4,.one (.ptr 1 0)),(5,.one (.ptr 5 0)),(6,.int y),(7,.int x)]/\S=[(0,.cells [.f (.c (.int .i64 n)),.f (.c (.int .i64 m)),.f (.sl 1 d.length ((xj d).map yh))]),(1,.cells [.f (.c (.int .i64 0)),.f (.c (.int .i64 0)),.f (.c .nils)]),(4,.tree (xj cur)),(5,.cells [.f (.c (.int .i64 n)),.f (.c (.int .i64 m)),.own 4 0 m 1])]/\nk=6) ⟨n,_,_,_,[],?wk1,0,oM,cur,hcur,rfl,rfl,rfl⟩ ?_
  case wk1=>exact qm
  rintro k2 E S nk ⟨x,hx,cur,hcur,rfl,rfl,rfl⟩;refine qb ?_;intros;refine qe rfl (fun ht2=>?_) (fun ht2=>?_)
  ·simp at ht2;obtain⟨r,hr,hrl,hrx⟩:=hd.cell (x:=x) (y:=y) oM oM;obtain⟨q,hq,hql⟩:=hcur.1.row (y:=y) oM;have hdl:=hd.1;have e1:=vj (yA hr);have e2:=YM (ZV hrx);have e3:=yA hq;have l1:x<(r.map jR).length:=by simp;omega
   have l2:x<(q.map jR).length:=by simp;omega
   refine qb ?_;intros;refine WP (x:=.c (.bool (y5 d x y))) rfl rfl rfl e3 (by simpa using l2) rfl ?_;rw [Int.toNat_natCast,Int.toNat_natCast,kQ hq];refine qb ?_;intros;refine⟨k2-1,oM,_,_,_,[],?wk2,x+1,oM,_,hcur.step oM oM,rfl,rfl,rfl⟩
   case wk2=>exact qm
  ·simp at ht2;obtain rfl:x=n:=by omega
   refine qb ?_;intros;refine⟨k-1,oM,_,_,_,[],?wk3,y+1,oM,_,hcur.next,rfl,rfl,rfl⟩
   case wk3=>exact qm
 ·simp at ht;obtain rfl:y=m:=by omega
  obtain rfl:=hcur.fin hd;refine qb ?_;intros;refine qr (qd (k:=1) rfl (qd (k:=4) rfl (qd (k:=5) rfl (qd (k:=8) rfl (qu _))))) (zH _) ?_;refine ql (fun k E S nk=>k=0/\E=[(1,.one (.f (.c .nils))),(4,.one (.ptr 1 0)),(5,.one (.ptr 5 0)),(8,.int (0:Nat))]/\S=[(1,.cells [.f (.c (.int .i64 0)),.f (.c (.int .i64 0)),.f (.c .nils)]),(4,.tree (xj cur)),(5,.cells [.f (.c (.int .i64 n)),.f (.c (.int .i64 y)),.own 4 0 y 1])]/\nk=6) ⟨0,_,_,_,[],?wk4,rfl,rfl,rfl,rfl⟩ ?_
  case wk4=>exact qm
  rintro k E S nk ⟨rfl,rfl,rfl,rfl⟩;refine qb ?_;intros;refine qe rfl (fun ht2=>by simp at ht2) (fun _=>?_);refine qb ?_;intros;exact qf ⟨_,rfl,rfl,_,qd (k:=4) rfl (qu _),rfl,rfl,rfl⟩
def Y4(d:qI)(x y:Nat):qI:=kp d x y (!y5 d x y)
theorem W0{w h:Nat}{d:qI}{x y:Nat}(hw:w<=200)(hh:h<=200)(hd:Sz w h d)(hx:x<w)(hy:y<h):DK 13 [yx w h d,.int x,.int y] fun r=>r=yx w h (Y4 d x y):=by
 refine qD qbR rfl qX fun Z0 lo=>?_;obtain⟨r,hr,hrl,hrx⟩:=hd.cell hx hy;have hlen:h=(xj d).length:=by rw [yX,hd.1]
 have e2:(r.map jR)[Int.toNat (x:Int)]?=some (.c (.bool (y5 d x y))):=by rw [Int.toNat_natCast];exact ZV hrx
 have e3:=yA hr;have l2:x<(r.map jR).length:=by simp;omega
 have c1:decide ((y:Int)>=0)=true:=by simp
 have c2:decide ((y:Int)<(h:Int))=true:=by simp;omega
 have c3:decide ((x:Int)>=0)=true:=by simp
 have c4:decide ((x:Int)<(((r.map jR).length:Nat):Int))=true:=by simp;omega
 refine qb ?_;intros;refine jr rfl rfl (FU hw hh hd) ?_;rintro _ _ _ ⟨rfl,rfl,rfl⟩;refine qU ?_;intros;refine qe rfl (fun _=>?_) (fun h=>by cases h);refine qb ?_;intros;refine WP (x:=.c (.bool (!y5 d x y))) rfl rfl rfl e3 (by simpa using l2) rfl ?_;rw [Int.toNat_natCast,Int.toNat_natCast,kQ hr,show kp d x y (!y5 d x y)=Y4 d x y from rfl];have hsz:Sz w h (Y4 d x y):=hd.set _ _ _;have hlen2:h=(xj (Y4 d x y)).length:=by rw [yX,hsz.1]
 refine qb ?_;intros;refine qr (qd (k:=6) rfl (qd (k:=7) rfl (qu _))) (zH _) ?_;refine ky 6 rfl qO qO ?_;refine qb ?_;intros;refine qf ⟨_,rfl,rfl,?_⟩;simp only [yx,hsz.1];rfl
def AS(p:qc):List FD:=[.c (.int .u8 p.1),.c (.int .u8 p.2)]
def Vi(l:List qc):DV:=.one (.f (.sl 2 l.length (l.flatMap AS)))
theorem gL{l:List qc}{i:Nat}{x:qc}(h:l[i]?=some x):xN (l.flatMap AS) (i*2) 2=some (AS x):=Qt (e:=2) (fun _=>rfl) h
theorem Zp{a b:Int}(ha:0<=a)(hb:0<b):a.tmod b=(((a.tmod b).toNat:Nat):Int)/\(a.tmod b).toNat<b.toNat:=by
 rw [tm ha];have h1:=Int.emod_nonneg a (show b≠0 by omega);have h2:=Int.emod_lt_of_pos a hb;omega
theorem d_tmatches{x:Raw}(hx:x.ok){L:List qc}(hL:∀q∈L,vM q.1/\vM q.2):DK 3 [FJ x,Vi L] fun d=>d=.bool true:=by
 refine qD cp3 rfl qX fun Z0 lo=>?_;have hFi:=CF x;have hFe:=F3 hx;have h4:(wK x).fs.length<=4:=(CH x).2;have hb:=OP hx;refine qb ?_;intros;refine qk rfl rfl HL ?_;rintro _ rfl;refine qb ?_;intros;refine qk rfl rfl (qaz hx) ?_;rintro _ rfl;clear hx;generalize wK x=p at *;have hwn:((p.w.toNat:Nat):Int)=p.w:=by omega
 have hhn:((p.h.toNat:Nat):Int)=p.h:=by omega
 have b9:(true==true)=true:=rfl;have b8:(false==false)=true:=rfl;refine qb ?_;intros;refine qk rfl rfl (bS hFi hFe h4) ?_;rintro _ ⟨r,hr,rfl⟩;cases hr with
 |chk c hc hne=>
  have b1:(c.2.2!=c.2.2)=false:=by simp
  have b2:(c.1!=c.1)=false:=by simp
  have b3:(c.2.2==0)=false:=by simpa using hne
  have b4:(c.2.2!=0)=true:=by simpa using hne
  refine qb ?_;intros;refine qk rfl rfl (c7 hFi hFe) ?_;rintro _ ⟨r',hr',rfl⟩;obtain rfl:=hr'.uniq (.chk c hc hne);clear hr';refine qU ?_;intros;refine qe (t:=false) rfl (fun h=>by cases h) (fun _=>?_);refine qU ?_;intros;refine qe (t:=true) rfl (fun _=>?_) (fun h=>by cases h);refine qU ?_;intros;refine jr rfl rfl (Wu p.w p.h) ?_;rintro _ _ _ ⟨n,m,hn',hm',_,_,rfl,rfl,rfl⟩;have en:p.w.toNat=n:=by unfold jI at hn';omega
  have em:p.h.toNat=m:=by unfold jI at hm';omega
  subst en em;have hlen:p.h.toNat=(xj (blankD p.w.toNat p.h.toNat)).length:=by rw [yX];simp [blankD]
  refine qb ?_;intros;refine qr (qd (k:=1) rfl (qd (k:=5) rfl (qd (k:=6) rfl (qd (k:=9) rfl (qd (k:=10) rfl (qd (k:=13) rfl (qd (k:=14) rfl (qu _)))))))) (qd (k:=1) rfl (qd (k:=3) rfl (qd (k:=4) rfl (qd (k:=7) rfl (qu _))))) ?_;refine ky 7 rfl qO qO ?_;have hg:some (Bk.cells [.f (.c (.int .i64 (p.w.toNat:Int))),.f (.c (.int .i64 (p.h.toNat:Int))),.f (.sl 1 p.h.toNat ((xj (blankD p.w.toNat p.h.toNat)).map yh))])=some (Bk.cells (zi p.w p.h (blankD p.w.toNat p.h.toNat))):=by
   rw [hwn,hhn,zi,show (blankD p.w.toNat p.h.toNat).length=p.h.toNat by simp [blankD]]
  refine qr (E0:=[(1,Vi L),(5,.bool true),(6,.one (.ptr 1 0)),(9,.int c.2.2),(10,.one (.ptr 3 0)),(13,.one (.ptr 4 0)),(14,.int (0:Nat))]) (S0:=[(1,.cells (yj p)),(3,.cells [.f (.c (.int .i64 0)),.f (.c (.int .i64 0)),.f (.c .nils)]),(4,.cells (zi p.w p.h (blankD p.w.toNat p.h.toNat)))])
   (qd rfl (qd rfl (qd rfl (qd rfl (qd rfl (qd rfl (qd rfl (qu _)))))))) (qd rfl (qd rfl (qd hg (qu _)))) ?_
  refine ql (fun m E S nk=>∃(i:Nat) (d:qI),i+m=min L.length 3/\Sz p.w.toNat p.h.toNat d/\E=[(1,Vi L),(5,.bool true),(6,.one (.ptr 1 0)),(9,.int c.2.2),(10,.one (.ptr 3 0)),(13,.one (.ptr 4 0)),(14,.int (i:Nat))]/\S=[(1,.cells (yj p)),(3,.cells [.f (.c (.int .i64 0)),.f (.c (.int .i64 0)),.f (.c .nils)]),(4,.cells (zi p.w p.h d))]/\nk=8) ⟨min L.length 3,_,_,_,[],?wk,0,blankD p.w.toNat p.h.toNat,oM,Sz.blankD _ _,rfl,rfl,rfl⟩ ?_
  case wk=>exact qm
  rintro m E S nk ⟨i,d,hi,hsz,rfl,rfl,rfl⟩;have hdg:=fun x y (hx:x<p.w.toNat) (hy:y<p.h.toNat)=>W0 (x:=x) (y:=y) oM oM hsz hx hy;have hs1:=Xv hFi hFe (w:=p.w.toNat) (h:=p.h.toNat) oM oM hsz;have hs2:=VN hFi hFe (w:=p.w.toNat) (h:=p.h.toNat) oM oM hwn hhn hsz;rw [hwn,hhn] at hdg hs1;refine qb ?_;intros;refine qe rfl (fun ht=>?_) (fun ht=>?_)
  ·rw [vu,xr] at ht;have ht1:i<L.length:=by have:=xC ht.1;omega
   have ht2:i<3:=by have:=xC ht.2;omega
   clear hs1 hs2;obtain⟨q,hq⟩:∃q,L[i]?=some q:=⟨_,zge ht1⟩;have e1:=gL hq;obtain⟨g1,g2⟩:=hL q (zmg hq);unfold vM at g1 g2;have w1:IntKind.i64.wrap q.1=q.1:=qq oM oM;have w2:IntKind.i64.wrap q.2=q.2:=qq oM oM;obtain⟨t1,t2⟩:=Zp (a:=q.1) (b:=p.w) oM oM;obtain⟨t3,t4⟩:=Zp (a:=q.2) (b:=p.h) oM oM;have hd:=hdg _ _ t2 t4;rw [<-t1,<-t3] at hd;refine qb ?_;intros;rw [w1];refine Qa rfl rfl oM ?_;refine qb ?_;intros;rw [w2];refine Qa rfl rfl oM ?_;refine qb ?_;intros;refine qk rfl rfl hd ?_;rintro _ rfl;refine qb ?_;intros;refine⟨m-1,oM,_,_,_,[],?wk1,i+1,Y4 d (q.1.tmod p.w).toNat (q.2.tmod p.h).toNat,oM,hsz.set _ _ _,rfl,rfl,rfl⟩
   case wk1=>exact qm
  ·clear hdg ht;refine qU ?_;intros;refine qk rfl rfl hs1 ?_;rintro _ ⟨b,hb1,rfl⟩;refine qU ?_;intros;refine qk rfl rfl hs2 ?_;rintro _ ⟨b',hb2,rfl⟩;obtain rfl:b=b':=Bool.eq_iff_iff.2 ((hb1.iff hwn hhn hsz).trans hb2.symm);have b10:(b==b)=true:=by simp
   refine qU ?_;intros;exact qf ⟨_,rfl,rfl,rfl⟩
 |bad hv h1 h2 q0 hq hne=>
  have b1:(q0.2.2!=q0.2.2)=false:=by simp
  have b2:(q0.2.1!=q0.2.1)=false:=by simp
  have b3:(q0.2.2==0)=false:=by simpa using hne
  have b4:(q0.2.2!=0)=true:=by simpa using hne
  refine qb ?_;intros;refine qk rfl rfl (c7 hFi hFe) ?_;rintro _ ⟨r',hr',rfl⟩;obtain rfl:=hr'.uniq (.bad hv h1 h2 q0 hq hne);clear hr';refine qU ?_;intros;refine qe (t:=false) rfl (fun h=>by cases h) (fun _=>?_);refine qU ?_;intros;refine qe (t:=true) rfl (fun _=>?_) (fun h=>by cases h);refine qU ?_;intros;refine jr rfl rfl (Wu p.w p.h) ?_;rintro _ _ _ ⟨n,m,hn',hm',_,_,rfl,rfl,rfl⟩;have en:p.w.toNat=n:=by unfold jI at hn';omega
  have em:p.h.toNat=m:=by unfold jI at hm';omega
  subst en em;have hlen:p.h.toNat=(xj (blankD p.w.toNat p.h.toNat)).length:=by rw [yX];simp [blankD]
  refine qb ?_;intros;refine qr (qd (k:=1) rfl (qd (k:=5) rfl (qd (k:=6) rfl (qd (k:=9) rfl (qd (k:=10) rfl (qd (k:=13) rfl (qd (k:=14) rfl (qu _)))))))) (qd (k:=1) rfl (qd (k:=3) rfl (qd (k:=4) rfl (qd (k:=7) rfl (qu _))))) ?_;refine ky 7 rfl qO qO ?_;have hg:some (Bk.cells [.f (.c (.int .i64 (p.w.toNat:Int))),.f (.c (.int .i64 (p.h.toNat:Int))),.f (.sl 1 p.h.toNat ((xj (blankD p.w.toNat p.h.toNat)).map yh))])=some (Bk.cells (zi p.w p.h (blankD p.w.toNat p.h.toNat))):=by
   rw [hwn,hhn,zi,show (blankD p.w.toNat p.h.toNat).length=p.h.toNat by simp [blankD]]
  refine qr (E0:=[(1,Vi L),(5,.bool true),(6,.one (.ptr 1 0)),(9,.int q0.2.2),(10,.one (.ptr 3 0)),(13,.one (.ptr 4 0)),(14,.int (0:Nat))]) (S0:=[(1,.cells (yj p)),(3,.cells [.f (.c (.int .i64 0)),.f (.c (.int .i64 0)),.f (.c .nils)]),(4,.cells (zi p.w p.h (blankD p.w.toNat p.h.toNat)))])
   (qd rfl (qd rfl (qd rfl (qd rfl (qd rfl (qd rfl (qd rfl (qu _)))))))) (qd rfl (qd rfl (qd hg (qu _)))) ?_
  refine ql (fun m E S nk=>∃(i:Nat) (d:qI),i+m=min L.length 3/\Sz p.w.toNat p.h.toNat d/\E=[(1,Vi L),(5,.bool true),(6,.one (.ptr 1 0)),(9,.int q0.2.2),(10,.one (.ptr 3 0)),(13,.one (.ptr 4 0)),(14,.int (i:Nat))]/\S=[(1,.cells (yj p)),(3,.cells [.f (.c (.int .i64 0)),.f (.c (.int .i64 0)),.f (.c .nils)]),(4,.cells (zi p.w p.h d))]/\nk=8) ⟨min L.length 3,_,_,_,[],?wk,0,blankD p.w.toNat p.h.toNat,oM,Sz.blankD _ _,rfl,rfl,rfl⟩ ?_
  case wk=>exact qm
  rintro m E S nk ⟨i,d,hi,hsz,rfl,rfl,rfl⟩;have hdg:=fun x y (hx:x<p.w.toNat) (hy:y<p.h.toNat)=>W0 (x:=x) (y:=y) oM oM hsz hx hy;have hs1:=Xv hFi hFe (w:=p.w.toNat) (h:=p.h.toNat) oM oM hsz;have hs2:=VN hFi hFe (w:=p.w.toNat) (h:=p.h.toNat) oM oM hwn hhn hsz;rw [hwn,hhn] at hdg hs1;refine qb ?_;intros;refine qe rfl (fun ht=>?_) (fun ht=>?_)
  ·rw [vu,xr] at ht;have ht1:i<L.length:=by have:=xC ht.1;omega
   have ht2:i<3:=by have:=xC ht.2;omega
   clear hs1 hs2;obtain⟨q,hq⟩:∃q,L[i]?=some q:=⟨_,zge ht1⟩;have e1:=gL hq;obtain⟨g1,g2⟩:=hL q (zmg hq);unfold vM at g1 g2;have w1:IntKind.i64.wrap q.1=q.1:=qq oM oM;have w2:IntKind.i64.wrap q.2=q.2:=qq oM oM;obtain⟨t1,t2⟩:=Zp (a:=q.1) (b:=p.w) oM oM;obtain⟨t3,t4⟩:=Zp (a:=q.2) (b:=p.h) oM oM;have hd:=hdg _ _ t2 t4;rw [<-t1,<-t3] at hd;refine qb ?_;intros;rw [w1];refine Qa rfl rfl oM ?_;refine qb ?_;intros;rw [w2];refine Qa rfl rfl oM ?_;refine qb ?_;intros;refine qk rfl rfl hd ?_;rintro _ rfl;refine qb ?_;intros;refine⟨m-1,oM,_,_,_,[],?wk1,i+1,Y4 d (q.1.tmod p.w).toNat (q.2.tmod p.h).toNat,oM,hsz.set _ _ _,rfl,rfl,rfl⟩
   case wk1=>exact qm
  ·clear hdg ht;refine qU ?_;intros;refine qk rfl rfl hs1 ?_;rintro _ ⟨b,hb1,rfl⟩;refine qU ?_;intros;refine qk rfl rfl hs2 ?_;rintro _ ⟨b',hb2,rfl⟩;obtain rfl:b=b':=Bool.eq_iff_iff.2 ((hb1.iff hwn hhn hsz).trans hb2.symm);have b10:(b==b)=true:=by simp
   refine qU ?_;intros;exact qf ⟨_,rfl,rfl,rfl⟩
 |ok hv h1 h2 q0 hq h0=>
  refine qb ?_;intros;refine qk rfl rfl (c7 hFi hFe) ?_;rintro _ ⟨r',hr',rfl⟩;obtain rfl:=hr'.uniq (.ok hv h1 h2 q0 hq h0);clear hr';have hszg:=Zs p (qF p q0.1 p.fs.length);have hshg:=gY hv h1 h2 hq h0;generalize wp p (qF p q0.1 p.fs.length)=g at *;have hgm:=rQ (w:=p.w.toNat) (h:=p.h.toNat) oM oM hszg hszg;have hsg:=Xv hFi hFe (w:=p.w.toNat) (h:=p.h.toNat) oM oM hszg;rw [hwn,hhn] at hgm hsg;rw [decide_eq_true (rfl:g=g)] at hgm;have b2:((p.fs.length:Int)!=(p.fs.length:Int))=false:=by simp
  refine qU ?_;intros;refine qk rfl rfl hgm ?_;rintro _ rfl;refine qU ?_;intros;refine qe (t:=false) rfl (fun h=>by cases h) (fun _=>?_);refine qU ?_;intros;refine qe (t:=false) rfl (fun h=>by cases h) (fun _=>?_);refine qU ?_;intros;refine qr (qd (k:=1) rfl (qd (k:=5) rfl (qd (k:=6) rfl (qd (k:=9) rfl (qd (k:=10) rfl (qd (k:=13) rfl (qd (k:=14) rfl (qu _)))))))) (qd (k:=1) rfl (qd (k:=3) rfl (qd (k:=4) rfl (qu _)))) ?_;refine ql (fun m E S nk=>∃(i:Nat) (d:qI),i+m=min L.length 3/\Sz p.w.toNat p.h.toNat d/\E=[(1,Vi L),(5,.bool true),(6,.one (.ptr 1 0)),(9,.int 0),(10,.one (.ptr 3 0)),(13,.one (.ptr 4 0)),(14,.int (i:Nat))]/\S=[(1,.cells (yj p)),(3,.cells (zi p.w p.h g)),(4,.cells (zi p.w p.h d))]/\nk=5) ⟨min L.length 3,_,_,_,[],?wk,0,g,oM,hszg,rfl,rfl,rfl⟩ ?_
  case wk=>exact qm
  rintro m E S nk ⟨i,d,hi,hsz,rfl,rfl,rfl⟩;have hdg:=fun x y (hx:x<p.w.toNat) (hy:y<p.h.toNat)=>W0 (x:=x) (y:=y) oM oM hsz hx hy;have hs1:=Xv hFi hFe (w:=p.w.toNat) (h:=p.h.toNat) oM oM hsz;have hs2:=VN hFi hFe (w:=p.w.toNat) (h:=p.h.toNat) oM oM hwn hhn hsz;rw [hwn,hhn] at hdg hs1;refine qb ?_;intros;refine qe rfl (fun ht=>?_) (fun ht=>?_)
  ·rw [vu,xr] at ht;have ht1:i<L.length:=by have:=xC ht.1;omega
   have ht2:i<3:=by have:=xC ht.2;omega
   clear hs1 hs2;obtain⟨q,hq⟩:∃q,L[i]?=some q:=⟨_,zge ht1⟩;have e1:=gL hq;obtain⟨g1,g2⟩:=hL q (zmg hq);unfold vM at g1 g2;have w1:IntKind.i64.wrap q.1=q.1:=qq oM oM;have w2:IntKind.i64.wrap q.2=q.2:=qq oM oM;obtain⟨t1,t2⟩:=Zp (a:=q.1) (b:=p.w) oM oM;obtain⟨t3,t4⟩:=Zp (a:=q.2) (b:=p.h) oM oM;have hd:=hdg _ _ t2 t4;rw [<-t1,<-t3] at hd;refine qb ?_;intros;rw [w1];refine Qa rfl rfl oM ?_;refine qb ?_;intros;rw [w2];refine Qa rfl rfl oM ?_;refine qb ?_;intros;refine qk rfl rfl hd ?_;rintro _ rfl;refine qb ?_;intros;refine⟨m-1,oM,_,_,_,[],?wk1,i+1,Y4 d (q.1.tmod p.w).toNat (q.2.tmod p.h).toNat,oM,hsz.set _ _ _,rfl,rfl,rfl⟩
   case wk1=>exact qm
  ·clear hdg ht;refine qU ?_;intros;refine qk rfl rfl hs1 ?_;rintro _ ⟨b,hb1,rfl⟩;refine qU ?_;intros;refine qk rfl rfl hs2 ?_;rintro _ ⟨b',hb2,rfl⟩;obtain rfl:b=b':=Bool.eq_iff_iff.2 ((hb1.iff hwn hhn hsz).trans hb2.symm);have b10:(b==b)=true:=by simp
   refine qU ?_;intros;refine qk rfl rfl hsg ?_;rintro _ ⟨b3,hb3,rfl⟩;obtain rfl:b3=true:=(hb3.iff hwn hhn hszg).2 hshg;refine qU ?_;intros;exact qf ⟨_,rfl,rfl,rfl⟩
def iN:Ty:=.agg (.pair (.int .u8) (.pair (.int .u8) .unit))
def pu8R(l:List (Int × Int × Unit)):List qc:=l.map fun y=>(y.1,y.2.1)
theorem pu8R_ok{l:List (Int × Int × Unit)}(h:Ty.okD (.slice iN) (show (Ty.slice iN).den from l)):∀q∈pu8R l,vM q.1/\vM q.2:=fun q hq=>by
 obtain⟨y,hy,rfl⟩:=List.mem_map.1 hq;obtain⟨g1,g2,_⟩:=h.1 y hy;exact⟨QK g1,QK g2⟩
theorem pu8R_d(l:List (Int × Int × Unit)):Vi (pu8R l)=dB (.slice iN) (show (Ty.slice iN).den from l):=by
 have h:∀l:List (Int × Int × Unit),(l.map fun y=>((y.1,y.2.1):qc)).flatMap AS=List.flatMap (Ty.fd iN) l:=by
  intro l;induction l with
  |nil=>rfl
  |cons y l ih=>rw [List.map_cons,List.flatMap_cons,ih];rfl
 show DV.one (.f (.sl 2 (l.map fun y=>((y.1,y.2.1):qc)).length ((l.map fun y=>((y.1,y.2.1):qc)).flatMap AS)))=_
 rw [h l,List.length_map];rfl
theorem conv2{F:DV->DV->Prop}{a a' b b':DV}(e1:a=a')(e2:b=b')(h:F a b):F a' b':=by
 subst e1 e2;exact h
end Go.Ag
