/- -/
import Derived.Test.YtdlelodnhjacgaaGreatDoorAb31
set_option linter.unusedSimpArgs false
set_option linter.unusedVariables false
set_option maxRecDepth 8000
set_option maxHeartbeats 16000000
namespace Go.Ai
open Go.Ab Go.Proofs
theorem UQ{U:List StL}{t:TbL}(hu:TOk U t){w h b:Nat}(hw:24<=w/\w<=60)(hh:4<=h/\h<=40)(hb:1<=b/\b<=20){ms:List MB}(hms:MOk ms)(hl:ms.length<=5){i0 i1:Nat}(h01:i0<=i1)(h1:i1<=ms.length):DK 13 [Zy ms,kE t w h b,.agg (GX i0 i1)] fun d=>∃(q:List RowL) (a e:Int),d=.agg [.f (.sl 5 q.length (q.flatMap zr)),.f (FD.int a),.f (FD.int e)]/\q.length<=10001/\vX w i0 i1 q:=by
 have hk:=PX (ms:=ms) h01 h1 oM;refine wj ?_;refine xr ?_;intros;refine qS O O (PO hw hh hb) ?_;intros;refine qf O O hk ?_;rintro _ ⟨kl,rfl,hkl⟩;refine qc ?_;intros;refine yG 4 0 5 O O ?_;refine qN (fun m E S nk=>∃(i cnt:Nat) (fr:Int) (q nq:List RowL),i+m=i1/\i0<=i/\cnt<=i-i0/\(cnt=0/\fr= -1\/(i0:Int)<=fr/\fr<i1)/\q.length+nq.length<=2000*(i-i0)/\vX w i0 i1 q/\vX w i0 i1 nq/\E=[(0,Zy ms),(4,.one (.ptr 0 0)),(5,.one (.ptr 1 0)),(6,.one (.ptr 2 0)),(7,x7 kl),(8,.one (.ptr 4 0)),(9,.one (.own 3 0 nq.length 5)),(10,.int cnt),(11,.int fr),(12,.int i)]/\S=[(0,cB t w h b),(1,.cells (GX i0 i1)),(2,wx),(3,.data (nq.flatMap zr)),(4,.cells [.own 5 0 q.length 5,.f (FD.int 0),.f (FD.int 0)]),(5,.data (q.flatMap zr))]/\nk=6) (i1-i0) ⟨i0,0, -1,[],[],by omega,qz _,by omega,.inl ⟨rfl,rfl⟩,by simp,.nil,.nil,rfl,rfl,rfl⟩ ?_;rintro m E S nk ⟨i,cnt,fr,q,nq,hm,hi,hcnt,hfr,hq,hqo,hnqo,rfl,rfl,rfl⟩;refine qc ?_;intros;refine qh O (fun g=>?_) (fun g=>?_)
 ·have hmi:=qn (l:=ms) (i:=i) oM;obtain⟨k,c1,c2,c3,c4,c5,c6,c7,c8,c9,hc⟩:=(ms.getD i default).ten;have haf:=Ib (l:=kl) (i:=i-i0) oM oM;rw [show ((i-i0:Nat):Int)=(i:Int)-i0 by omega] at haf;have hsp:=fun (notes:List Int) (h2:notes.length<=10) h3=>PE hu hw (h:=h) (b:=b) (hms.good _ hmi) (notes:=notes) h2 h3;rw [hc] at hsp;refine qc ?_;intros;refine vS (f:=MB.cells) (l:=ms) (j:=i) O O oM O qr MB.len ?_;rw [hc];refine qc ?_;intros;refine qf O O haf ?_;rintro _ ⟨notes,rfl,hn1,hn2⟩;refine qc ?_;intros;refine zw O O (hsp notes oM hn2) ?_;rintro _ _ _ ⟨x,a,e,hx,hxo,rfl,rfl,rfl⟩;refine qc ?_;intros;refine xw O (fun g3=>?_) (fun g3=>?_)
  ·refine qc ?_;intros;exact qb ⟨_,O,O,.agg [.f (.sl 5 0 []),.f (FD.int i),.f (FD.int e)],nv,[],i,e,O,by simp,.nil⟩
  ·refine qc ?_;intros;refine qN (fun m2 E S nk=>∃(k2:Nat) (x':List RowL),k2+m2=x.length/\x'.length=x.length/\(∀r∈x',jE w r)/\(∀j,j<k2->(x'.getD j default).block=i)/\E=[(0,Zy ms),(4,.one (.ptr 0 0)),(5,.one (.ptr 1 0)),(6,.one (.ptr 2 0)),(7,x7 kl),(8,.one (.ptr 4 0)),(9,.one (.own 3 0 nq.length 5)),(10,.int cnt),(11,.int fr),(12,.int i),(13,.one (.ptr 8 0)),(14,.int k2)]/\S=[(0,cB t w h b),(1,.cells (GX i0 i1)),(2,wx),(3,.data (nq.flatMap zr)),(4,.cells [.own 5 0 q.length 5,.f (FD.int 0),.f (FD.int 0)]),(5,.data (q.flatMap zr)),(6,.data (x'.flatMap zr)),(8,.cells [.own 6 0 x.length 5,.f (FD.int a),.f (FD.int e)])]/\nk=9) (x.length) ⟨0,x,oM,O,hxo,fun j hj=>absurd hj oM,O,O,O⟩ ?_;rintro m2 E S nk ⟨k2,x',hm2,hxl,hxo',hxb,rfl,rfl,rfl⟩;refine qc ?_;intros;refine qh O (fun g4=>?_) (fun g4=>?_)
   ·refine qc ?_;intros;refine QU (f:=zr) (l:=x') (i:=k2) (c:=3) (q:=[FD.int i]) { x'.getD k2 default with block:=i } O O O O O O oM (fun _=>O) qr O O ?_
    refine qc ?_;intros;exact qM (m':=m2-1) (by omega) ⟨k2+1,x'.set k2 { x'.getD k2 default with block:=i },by omega,by rw [jG];exact hxl,aU hxo' (show jE w _ from (hxo' (x'.getD k2 default) (qn (by omega)):jE w (x'.getD k2 default))),(fun j hj=>by
     by_cases ej:j=k2
     ·subst ej;rw [qT,nI (by omega),QB]
     ·rw [qT,eI (by omega),<-qT];exact hxb j oM),rfl,rfl,rfl⟩ xp
   ·have hxr:vX w i0 i1 x':=fun r hr=>by
     obtain⟨j,hj,rfl⟩:=Cf.1 hr;have:=hxb j oM;rw [qT,zge hj] at this;exact⟨hxo' _ hr,by have h5:x'[j].block=i:=this;omega,by have h5:x'[j].block=i:=this;omega⟩
    refine qc ?_;intros;refine vS (f:=MB.cells) (l:=ms) (j:=i) O O oM O qr MB.len ?_;rw [hc];refine qc ?_;intros;refine xw O (fun g5=>?_) (fun g5=>?_)
    ·refine qc ?_;intros;refine zn (f:=zr) (l:=q) x' O O O ⟨O,O,_,O,qD _ (by rw [qO (f:=zr) (e:=5) (fun _=>rfl),hxl])⟩ O hxl (by omega) (by omega) (by decide) (fun _=>O) O ?_;refine qc ?_;intros;exact qG ⟨i+1,cnt,fr,q++x',nq,by omega,by omega,by omega,hfr,by rw [qE];omega,hqo.app hxr,hnqo,rfl,rfl,rfl⟩
    ·refine qc ?_;intros;refine qh O (fun g6=>?_) (fun g6=>?_)
     ·refine qc ?_;intros;refine zn (f:=zr) (l:=nq) x' O O O ⟨O,O,_,O,qD _ (by rw [qO (f:=zr) (e:=5) (fun _=>rfl),hxl])⟩ O hxl (by omega) (by omega) (by decide) (fun _=>O) O ?_;refine qc ?_;intros;exact qG ⟨i+1,cnt+1,i,q,nq++x',by omega,by omega,by omega,   .inr ⟨by omega,by omega⟩,by rw [qE];omega,hqo,hnqo.app hxr,rfl,rfl,rfl⟩
     ·have hfr2:(i0:Int)<=fr/\fr<i1:=hfr.elim (fun h=>absurd h.2 oM) id;refine qc ?_;intros;refine zn (f:=zr) (l:=nq) x' O O O ⟨O,O,_,O,qD _ (by rw [qO (f:=zr) (e:=5) (fun _=>rfl),hxl])⟩ O hxl (by omega) (by omega) (by decide) (fun _=>O) O ?_;refine qc ?_;intros;exact qG ⟨i+1,cnt+1,fr,q,nq++x',by omega,by omega,by omega,.inr hfr2,by rw [qE];omega,hqo,hnqo.app hxr,rfl,rfl,rfl⟩
 ·refine qc ?_;intros;refine qh O (fun g3=>?_) (fun g3=>?_)
  ·have hfr2:(i0:Int)<=fr/\fr<i1:=hfr.elim (fun h=>absurd h.1 oM) id;have hc999:∀v∈[4,(cnt:Int)],0<=v/\v<=999:=fun v hv=>by
    simp only [zd,nO,or_false] at hv;omega
   refine qc ?_;intros;refine qY 6 O qo qo ?_;refine qf O O (BV (l:=[4,(cnt:Int)]) (by show 2<=5;omega) hc999) ?_;rintro _ ⟨c,rfl,hcl,hcc⟩;have hro:vX w i0 i1 [⟨c,true,0,fr, -1⟩]:=fun r hr=>by
    rw [xM.1 hr];exact⟨⟨by show c.length<=w;omega,.pos hcc,Ky _,Ky _,by show (0:Int)<=9999;decide⟩,hfr2.1,hfr2.2⟩
   refine qc ?_;intros;refine Ze (a:=(⟨c,true,0,fr, -1⟩:RowL)) O O O ⟨O,O,_,O,O⟩ fG wY wY qr (fun _=>O) O ?_;refine qc ?_;intros;refine Wf O ?_;refine qc ?_;intros;have hql:((q++[(⟨c,true,0,fr, -1⟩:RowL)]++nq).flatMap zr).length=(q++[(⟨c,true,0,fr, -1⟩:RowL)]++nq).length*5:=kH (fun _=>by rfl) _;refine qx (qg (k:=6) O (qg (k:=8) O (qv _))) (qg (k:=2) O (qg (k:=4) O (qg (k:=9) O (qv _)))) ?_;refine qF 9 O qo qo ?_;refine qc ?_;intros;exact qb ⟨_,O,O,.agg [.f (.sl 5 (q++[(⟨c,true,0,fr, -1⟩:RowL)]++nq).length ((q++[(⟨c,true,0,fr, -1⟩:RowL)]++nq).flatMap zr)),.f (FD.int 0),.f (FD.int 0)],nv,_,0,0,O,by rw [qE,qE];simp only [xA,zR];omega,(hqo.app hro).app hnqo⟩
  ·have hql:(q.flatMap zr).length=q.length*5:=kH (fun _=>by rfl) _;refine qx (qg (k:=6) O (qg (k:=8) O (qv _))) (qg (k:=2) O (qg (k:=4) O (qg (k:=5) O (qv _)))) ?_;refine qF 5 O qo qo ?_;refine qc ?_;intros;exact qb ⟨_,O,O,.agg [.f (.sl 5 q.length (q.flatMap zr)),.f (FD.int 0),.f (FD.int 0)],nv,q,0,0,O,oM,hqo⟩
end Go.Ai
