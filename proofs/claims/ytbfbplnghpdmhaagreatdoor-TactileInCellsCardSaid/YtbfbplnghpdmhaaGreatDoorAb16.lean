/- -/
import Derived.Test.YtbfbplnghpdmhaaGreatDoorAb15
set_option linter.unusedSimpArgs false
set_option maxHeartbeats 8000000
set_option linter.unusedVariables false
namespace Go.Ab
section
variable{p:Par}{base rs:Nat}{Q:qq->Bx->Nat->Prop}{r:List SOper}{W:Wt}{A:List Nat}{E:qq}{S:Bx}{nk:Nat}{id:Nat}{dst:Option Nat}{aid:Option Nat}{ws:List Nat}{keep:Bool}
end
def qcF(Q:Exit->qq->Bx->Nat->Prop):Option Code->qq->Bx->Nat->Prop
 |none=>Q .normal
 |some .ret=>Q .ret
 |some (.exit id)=>Q (.exit id)
 |_=>fun _ _ _=>False
section
variable{p:Par}{n:Nat}{Q:Exit->qq->Bx->Nat->Prop}{E:qq}{S:Bx}{nk:Nat}
theorem NA (hρ:p.ρ=none) {d:Opd} {ps:List Nat} {sa sb:SC} {f:FuncId} {caps:List (Nat × Nat)} (ts:List Nat) {l:List DC} (hd:ro E d=some (.one (.fn f caps))) (hf:qA p.P f=true) (hT:YT E=true) (hl:mT E ts=some l)
 (h:∀fid sg bd,xS p.P p.G n sg=some sa->xS p.P p.G n bd=some sb->DX p f (.one (.yl nk)::K5 caps) ((nk,.mp (.lp .ready none fid n ts ps sg bd) l)::S) (nk+1)
  fun _ S' nk'=>∃st j f1 n1 ts1 ps1 sg1 bd1 l1,lk S' nk=some (.mp (.lp st j f1 n1 ts1 ps1 sg1 bd1) l1)/\st≠.busy/\qcF Q j E (zB nk S') nk'):DPS p n (.rf d ps sa sb) Q E S nk:=.mk fun Z β H F hS hE=>by
 obtain⟨cx,hcx,caps',rfl,hcaps⟩:=xf hE hd;obtain⟨cs,hts,hcs⟩:=rO hE hl;rw [hρ];refine UJ hcx hf fun fid sg bd hsg hbd=>?_;have hfr:H.get H.nx=none:=hS.wf.fresh (Nat.le_refl _);have hg:∀b',b'≠H.nx->(H.push (.lp .ready none fid n F ps.toArray sg bd)).get b'=H.get b':=fun b' hb'=>by rw [Hp.get_push,if_neg hb']
 have hz:¬Z H.nx:=fun hz=>absurd (hS.z _ hz) oM;obtain⟨hS',hZ,hB⟩:=hS.newB (x:=.mp (.lp .ready none fid n ts ps sg bd) l) (b:=H.nx) (N0:=0) (H':=H.push (.lp .ready none fid n F ps.toArray sg bd)) rfl
  (fun β' hB hZ=>⟨hz,hS.lo,by simp,cs,[],⟨F,by rw [Hp.get_push,if_pos rfl],by simpa using hts⟩,rfl,Bk.rel_mono (x:=.mp (.lp .ready none fid n ts ps sg bd) l) hZ hB hcs⟩) hz (fun k N hk=>absurd (hS.bd k _ N hk) (by omega)) hS.lo (by simp) (by simp) (hS.wf.push _) hg
 have hBs:wz β nk (.blk H.nx 0) (nk,0)=some (.blk H.nx 0):=xu _ _ _;have hargs:qg (xC Z (H.push (.lp .ready none fid n F ps.toArray sg bd)) (wz β nk (.blk H.nx 0))) (.one (.yl nk)::K5 caps) (.one (.yld H.nx)::caps'.map Jq):=⟨⟨_,rfl,_,_,hBs,rfl⟩,JL (jY.mono hB hcaps)⟩;refine ((h fid sg bd hsg hbd) Z _ _ _ hS' hargs).mono ?_;rintro v H' ⟨d',S',nk',Z',β',hS2,_,hZ2,hB2,st,j,f1,n1,ts1,ps1,sg1,bd1,l1,hb,hst,hj⟩;have hs2:β' (nk,0)=some (.blk H.nx 0):=hB2 _ _ hBs;obtain⟨F1,cs1,w4,w5,w7⟩:=hS2.lpb hb hs2;obtain⟨x1,x2⟩:=hS2.lpSet (st':=.exhausted) (j':=j) hb hs2 w4;refine⟨st,j,f1,n1,F1,ps1.toArray,sg1,bd1,w4,hst,?_⟩;have hS3:SR p Z' β' (H'.add H.nx (.lp .exhausted j f1 n1 F1 ps1.toArray sg1 bd1)) (zB nk S') nk':=x1.keepS fun k x hk=>by
  rw [yP] at hk;split at hk
  ·cases hk
  ·rename_i e;rw [yx,if_neg e];exact hk
 have hE3:ER Z' β' (H'.add H.nx (.lp .exhausted j f1 n1 F1 ps1.toArray sg1 bd1)) E F:=(((hE.mono hZ hB).mono0 hZ2 hB2 hT).mono x2 (xO.refl _));cases j with
 |none=>exact⟨_,_,_,_,_,hS3,hE3,hj⟩
 |some c=>cases c<;>first|exact⟨_,_,_,_,_,hS3,hE3,hj⟩|exact hj.elim
end
section
variable{p:Par}{base rs:Nat}{Q:qq->Bx->Nat->Prop}{r:List SOper}{W:Wt}{A:List Nat}{E:qq}{S:Bx}{nk:Nat}{id:Nat}{dst:Option Nat}{aid:Option Nat}{ws:List Nat}{keep:Bool}
end
section
variable{p:Par}{base rs:Nat}{Q:qq->Bx->Nat->Prop}{r:List SOper}{W:Wt}{A:List Nat}{E:qq}{S:Bx}{nk:Nat}{id:Nat}{dst:Option Nat}{aid:Option Nat}{ws:List Nat}{keep:Bool}
end
section
variable{P:Program}{G:Nat}{H:Hp}
theorem lY{μ:Nat->Pl}{K:Nat->Prop}{v:V}{x:Value}(h:yc μ K v x):w9 v=true:=by
 cases v with
 |tup l=>exact h.elim
 |_=>rfl
theorem LB {b mb since last clk:Nat} {seen:List Nat} {es:List (V × V × Nat)} {R:V->Hp->Prop} (hb:H.get b=some (.it mb since seen last)) (hm:H.get mb=some (.st es clk)) (hold:∀e∈es,e.2.2<since) (hsc:since<=last)
 (h0:(∀e∈es,e.2.2∈seen)->R (.tup [.one (.bool false)]) H)
 (h1:∀e∈es,e.2.2∉seen->w9 e.1=true->w9 e.2.1=true->R (.tup [.one (.bool true),e.1,e.2.1]) (H.add b (.it mb since (seen++[e.2.2]) clk))):Ys P G b H R:=by
 intro μ K w hR hK ty;obtain⟨_,_,hob,hkm,hoff⟩:=hR.blk b _ hb;obtain⟨ces,_,hom,hall⟩:=hR.blk mb _ hm;have hpt:(μ b).addr 0=⟨(μ b).blk,0,none⟩:=by simp [Pl.addr,hoff]
 rw [hpt];have hent:∀x∈ces.toList,∃e∈es,yc μ K e.1 x.key/\yc μ K e.2.1 x.val/\e.2.2=x.born:=fun x hx=>by
  obtain⟨i,hi⟩:=List.getElem?_of_mem hx;obtain⟨e,he,hr⟩:=hall.at' i x hi;exact⟨e,zmg he,hr⟩
 have hent':∀e∈es,∃x∈ces.toList,e.2.2=x.born:=fun e he=>by
  obtain⟨i,hi⟩:=List.getElem?_of_mem he;obtain⟨x,hx,hr⟩:=hall.at i e hi;exact⟨x,zmg hx,hr.2.2⟩
 have hold':∀x∈ces.toList,x.born<since:=fun x hx=>by
  obtain⟨e,he,_,_,hr⟩:=hent x hx;rw [<-hr];exact hold e he
 simp only [Instr.next,getObj,Sem.run_bind,Sem.run,hob,hom,Result.andThen,next_test_false seen.toArray ces since last hold' hsc,Bool.false_eq_true,if_false];have hLm:∀x,x∈(Array.filter (fun e=>!seen.toArray.contains e.born) ces).toList↔x∈ces.toList/\x.born∉seen:=fun x=>by simp
 have hmem:∀x∈(Array.filter (fun e=>!seen.toArray.contains e.born) ces).toList,x.born<since:=fun x hx=>hold' x ((hLm x).1 hx).1;generalize Array.filter (fun e=>!seen.toArray.contains e.born) ces=L at hmem hLm ⊢;have e1:L.filter (fun x=>decide (x.born<since))=L:=Array.filter_eq_self.2 (fun x hx=>by simpa using hmem x (by simpa using hx));have e2:L.filter (fun x=>decide (x.born>=since))=#[]:=by
  rw [Array.filter_eq_empty_iff];intro x hx;have:=hmem x (by simpa using hx);simp;omega
 simp only [e1,e2,Array.append_empty];by_cases hz:L.size=0
 ·have:L=#[]:=Array.eq_empty_of_size_eq_zero hz;subst this;refine⟨.tuple #[.bool false],w,?_,_,H,μ,K,h0 fun e he=>?_,⟨[.bool false],rfl,rfl,trivial⟩,hR,Fr.refl hR⟩
  ·simp [choose,Sem.run,Question.forced]
  ·obtain⟨x,hx,hxe⟩:=hent' e he;refine Classical.byContradiction fun hn=>?_;have:=(hLm x).2 ⟨hx,by rw [<-hxe];exact hn⟩;simp at this
 ·have hne:L.isEmpty=false:=by simp [Array.isEmpty,hz]
  simp only [hne,Bool.false_eq_true,if_false,Array.empty_append,Array.size_map];have hch:∃(j d:Nat),j<L.size/\w.drawn<=d/\(choose (Question.mapNext L.size)).run P w=.ok j { w with drawn:=d }:=by
   by_cases hf:L.size<=1
   ·exact⟨0,w.drawn,by omega,Nat.le_refl _,by simp [choose,Sem.run,Question.forced,hf]⟩
   ·exact⟨_,w.drawn+1,Nat.mod_lt _ oM,Nat.le_succ _,by
     simp only [choose,Sem.run,Question.forced,xV,hf,if_false,Question.cut];rfl⟩
  obtain⟨j,d,hj,hd,hrun⟩:=hch;have hxm:L[j]∈L.toList:=by simp
  obtain⟨hx1,hx2⟩:=(hLm _).1 hxm;obtain⟨e,he,hk,hv,hbn⟩:=hent _ hx1;have hR2:Rel G μ K H { w with drawn:=d }:=hR.drawn d;obtain⟨r1,r2⟩:=hR2.setB (bk':=.it mb since (seen++[e.2.2]) clk) (o:=.mapIter (some (μ mb).blk) since (seen.toArray.push L[j].born) clk) hb rfl rfl ⟨(),(),by simp [hbn],hkm,hoff⟩;refine⟨.tuple #[.bool true,L[j].key,L[j].val],_,?_,_,_,μ,K,h1 e he (by rw [hbn];exact hx2) (lY hk) (lY hv),⟨[.bool true,L[j].key,L[j].val],rfl,rfl,hk,hv,trivial⟩,r1,(Fr.drawn hR d hd).trans hR.lt' r2⟩;have hset:∀ob,(setObj (μ b).blk ob).run P { w with drawn:=d }=.ok () { w with drawn:=d,heap:=w.heap.setIfInBounds (μ b).blk ob }:=fun ob=>by simp [setObj,Sem.run,hob]
  simp only [hrun,Array.getElem?_map,Array.getElem?_eq_getElem hj,Option.map_some,Sem.run_bind,hset,Result.andThen];rfl
end
def sY(es:List (V × V × Nat))(clk:Nat)(l:List C)(c:C):Option (List (V × V × Nat) × Nat):=match QP l,vn l es 0 with
 |true,some none=>some (es++[(.agg l,.one c,clk)],clk+1)
 |true,some (some i)=>some (Vz es i (.one c),clk)
 |_,_=>none
section
variable{p:Par}{base rs:Nat}{Q:qq->Bx->Nat->Prop}{r:List SOper}{W:Wt}{A:List Nat}{E:qq}{S:Bx}{nk:Nat}{id:Nat}{dst:Option Nat}{aid:Option Nat}{ws:List Nat}{keep:Bool}
theorem R7(h:DPW p base rs Q r W A (xk E dst (.one (.om nk))) ((nk,.mp (.st [] 0) [])::S) (nk+1)):DPW p base rs Q (⟨id,dst,.a .mkst,none,none,ws,keep⟩::r) W A E S nk:=.mk fun Z β H F c hS hE hC hA=>by
 simp only [qF,qt,if_true,xA];have hfr:H.get H.nx=none:=hS.wf.fresh (Nat.le_refl _);have hg:∀b',b'≠H.nx->(H.push (.st [] 0)).get b'=H.get b':=fun b' hb'=>by rw [Hp.get_push,if_neg hb']
 have hz:¬Z H.nx:=fun hz=>absurd (hS.z _ hz) oM;obtain⟨hS',hZ,hB⟩:=hS.newB (x:=.mp (.st [] 0) []) (b:=H.nx) (N0:=0) (H':=H.push (.st [] 0)) rfl (fun β' hB hZ=>⟨hz,hS.lo,by simp,[],[],⟨(),by rw [Hp.get_push,if_pos rfl],rfl⟩,rfl,trivial⟩) hz (fun k N hk=>absurd (hS.bd k _ N hk) (by omega)) hS.lo (by simp) (by simp) (hS.wf.push _) hg;exact h.run Z _ _ _ c hS' ((hE.mono hZ hB).set dst ⟨_,rfl,_,_,xu _ _ _,rfl⟩) (hC.new hZ hB hg hfr) (hA.new (by simp) hg fun j hj hjA e=>by have:=(hA.2 j hj hjA).1;omega)
theorem SR.stb{Z:Nat->Prop}{β:qw}{H:Hp}(hS:SR p Z β H S nk){kb:Nat}{es:List (V × V × Nat)}{clk:Nat}(hb:lk S kb=some (.mp (.st es clk) [])){b N:Nat}(h1:β (kb,0)=some (.blk b N)):H.get b=some (.st es clk)/\b<H.nx:=by
 obtain⟨s,hs,hbx⟩:=hS.box (kb,0) _ (xX hb rfl);rw [h1] at hs;obtain rfl:=zsi hs;obtain⟨g1,g2,g3,cs,rest,⟨_,g4,_⟩,_⟩:=hbx;exact⟨g4,g3⟩
theorem mY {m k x:Opd} {kb clk clk':Nat} {i j:IntKind} {y z:Int} {es es':List (V × V × Nat)} {cv:C} (hm:ro E m=some (.one (.om kb))) (hk:ro E k=some (.agg [.f (.c (.int i y)),.f (.c (.int j z))])) (hx:ro E x=some (.one (.f (.c cv)))) (hb:lk S kb=some (.mp (.st es clk) [])) (hu:sY es clk [.int i y,.int j z] cv=some (es',clk')) (hW:jD S kb W=true)
 (h:DPW p base rs Q r W A (xk E dst .undef) (put kb (.mp (.st es' clk') []) S) nk):DPW p base rs Q (⟨id,dst,.e (.stupd m k x),none,aid,ws,keep⟩::r) W A E S nk:=.mk fun Z β H F c hS hE hC hA=>by
 obtain⟨cm,hcm,b,N,h1,rfl⟩:=xf hE hm;obtain⟨ck,hck,hrk⟩:=xf hE hk;have hcx:=zT hE hx;have hkk:ck=[.int i y,.int j z]:=by
  match ck,hrk with
  |[p,q],hrk=>
   obtain⟨h3,h4,_⟩:=hrk;cases h3;cases h4;rfl
 subst hkk;obtain⟨g4,g3⟩:=hS.stb hb h1;have heff:xr F H (.stupd m k x)=some (V.undef,H.add b (.st es' clk')):=by
  simp only [xr,hcm,hck,hcx,g4];unfold sY at hu;split at hu
  ·rename_i e1 e2;obtain⟨rfl,rfl⟩:=Prod.mk.inj (zsi hu);simp only [e1,e2]
  ·rename_i i0 e1 e2;obtain⟨rfl,rfl⟩:=Prod.mk.inj (zsi hu);simp only [e1,e2]
  ·cases hu
 have hg:∀b',b'≠b->(H.add b (.st es' clk')).get b'=H.get b':=fun b' hb'=>Hp.get_add_ne _ _ hb';obtain⟨hS',hZ⟩:=hS.updK (x':=.mp (.st es' clk') []) (rest:=[]) (cs:=[]) (H':=H.add b (.st es' clk')) hb rfl h1 trivial hg rfl ⟨(),by simp,rfl⟩ rfl;simp only [qF,qt,if_true,heff];have hC':=hC.mtupd hS hb hZ hg h1 hW;exact⟨hC'.watch ws,h.run Z β _ _ c hS' ((hE.mono hZ (xO.refl _)).set dst yY) hC' (hA.upd rfl hg h1)⟩
theorem qaC {m:Opd} {kb clk:Nat} {es:List (V × V × Nat)} (hm:ro E m=some (.one (.om kb))) (hb:lk S kb=some (.mp (.st es clk) []))
 (h:DPW p base rs Q r W A (xk E dst (.one (.ptr nk 0))) ((nk,.mp (.it clk [] clk) [.om kb])::S) (nk+1)):DPW p base rs Q (⟨id,dst,.e (.rng m),none,aid,ws,keep⟩::r) W A E S nk:=.mk fun Z β H F c hS hE hC hA=>by
 obtain⟨cm,hcm,b,N,h1,rfl⟩:=xf hE hm;obtain⟨g4,g3⟩:=hS.stb hb h1;have hfr:H.get H.nx=none:=hS.wf.fresh (Nat.le_refl _);have hg:∀b',b'≠H.nx->(H.push (.it b clk [] clk)).get b'=H.get b':=fun b' hb'=>by rw [Hp.get_push,if_neg hb']
 have hz:¬Z H.nx:=fun hz=>absurd (hS.z _ hz) oM;obtain⟨hS',hZ,hB⟩:=hS.newB (x:=.mp (.it clk [] clk) [.om kb]) (b:=H.nx) (N0:=0) (H':=H.push (.it b clk [] clk)) rfl (fun β' hB hZ=>⟨hz,hS.lo,by simp,[.map b],[],⟨b,by rw [Hp.get_push,if_pos rfl],rfl⟩,rfl,⟨_,_,hB _ _ h1,rfl⟩,trivial⟩) hz (fun k N hk=>absurd (hS.bd k _ N hk) (by omega)) hS.lo (by simp) (by simp) (hS.wf.push _) hg;simp only [qF,qt,if_true,xr,hcm,g4];have hC':=hC.new hZ hB hg hfr;exact⟨hC'.watch ws,h.run Z _ _ _ c hS' ((hE.mono hZ hB).set dst ⟨_,rfl,_,_,xu _ _ _,rfl⟩) hC' (hA.new (by simp) hg fun j hj hjA e=>by have:=(hA.2 j hj hjA).1;omega)⟩
theorem qps {x:Opd} {k kb since last clk:Nat} {seen:List Nat} {es:List (V × V × Nat)} (hx:ro E x=some (.one (.ptr k 0))) (hk:lk S k=some (.mp (.it since seen last) [.om kb])) (hb:lk S kb=some (.mp (.st es clk) [])) (hold:∀e∈es,e.2.2<since) (hsc:since<=last) (hW:jD S k W=true)
 (h0:(∀e∈es,e.2.2∈seen)->DPW p base rs Q r W A (xk E dst (.tup [.bool false])) S nk)
 (h1:∀e∈es,e.2.2∉seen->DPW p base rs Q r W A (xk E dst (.tup [.bool true,BH e.1,BH e.2.1])) (put k (.mp (.it since (seen++[e.2.2]) clk) [.om kb]) S) nk):DPW p base rs Q (⟨id,dst,.nx x,none,aid,ws,keep⟩::r) W A E S nk:=.mk fun Z β H F c hS hE hC hA=>by
 obtain⟨cx,hcx,b,N,g1,rfl⟩:=xf hE hx;obtain⟨s,hs,hbx⟩:=hS.box (k,0) _ (xX hk rfl);rw [g1] at hs;obtain rfl:=zsi hs;obtain⟨q1,q2,q3,cs,rest,⟨mb,q4,q5⟩,q6,q7⟩:=hbx;have q6:rest=[]:=q6;subst q6;rw [List.append_nil] at q5;subst q5;obtain⟨⟨b2,N2,q8,q9⟩,_⟩:=q7;obtain rfl:mb=b2:=by simpa using q9
 obtain⟨m1,m2⟩:=hS.stb hb q8;simp only [qF,qt,if_true,hcx];refine LB q4 m1 hold hsc (fun ha=>?_) fun e he hn i1 i2=>?_
 ·exact⟨hC.watch ws,(h0 ha).run Z β H _ c hS (hE.set dst ⟨_,rfl,⟨_,rfl,.c _ rfl⟩,trivial⟩) hC hA⟩
 ·have hg:∀b',b'≠b->(H.add b (.it mb since (seen++[e.2.2]) clk)).get b'=H.get b':=fun b' hb'=>Hp.get_add_ne _ _ hb';obtain⟨hS',hZ⟩:=hS.updK (x':=.mp (.it since (seen++[e.2.2]) clk) [.om kb]) (rest:=[]) (cs:=[.map mb]) (H':=H.add b (.it mb since (seen++[e.2.2]) clk)) hk rfl g1 ⟨⟨_,_,q8,rfl⟩,trivial⟩ hg rfl ⟨mb,by simp,rfl⟩ rfl;have hC':=hC.mtupd hS hk hZ hg g1 hW;exact⟨hC'.watch ws,(h1 e he hn).run Z β _ _ c hS' ((hE.mono hZ (xO.refl _)).set dst ⟨_,rfl,⟨_,rfl,.c _ rfl⟩,YK _ i1,YK _ i2,trivial⟩) hC' (hA.upd rfl hg g1)⟩
theorem qaE {x:Opd} {k kb since last clk st:Nat} {seen:List Nat} {es:List (V × V × Nat)} {e:V × V × Nat} (hx:ro E x=some (.one (.ptr k 0))) (hk:lk S k=some (.mp (.it since (seen++[st]) last) [.om kb])) (hb:lk S kb=some (.mp (.st es clk) [])) (hl:clk=last) (he:es.find? (fun e=>e.2.2==st)=some e) (hi:w9 e.1=true) (hj:w9 e.2.1=true)
 (h:DPW p base rs Q r W A (xk E dst (.tup [BH e.1,BH e.2.1])) S nk):DPW p base rs Q (⟨id,dst,.e (.ent x),none,aid,ws,keep⟩::r) W A E S nk:=.mk fun Z β H F c hS hE hC hA=>by
 obtain⟨cx,hcx,b,N,g1,rfl⟩:=xf hE hx;obtain⟨s,hs,hbx⟩:=hS.box (k,0) _ (xX hk rfl);rw [g1] at hs;obtain rfl:=zsi hs;obtain⟨q1,q2,q3,cs,rest,⟨mb,q4,q5⟩,q6,q7⟩:=hbx;have q6:rest=[]:=q6;subst q6;rw [List.append_nil] at q5;subst q5;obtain⟨⟨b2,N2,q8,q9⟩,_⟩:=q7;obtain rfl:mb=b2:=by simpa using q9
 obtain⟨m1,m2⟩:=hS.stb hb q8;have heff:xr F H (.ent x)=some (.tup [e.1,e.2.1],H):=by
  simp only [xr,hcx,q4,m1,List.getLast?_append,List.getLast?_singleton,Option.some_or,hl,if_true,he]
 simp only [qF,qt,if_true,heff];exact⟨hC.watch ws,h.run Z β H _ c hS (hE.set dst ⟨_,rfl,YK _ hi,YK _ hj,trivial⟩) hC hA⟩
end
def lE:List SOper->Bool
 |[]=>true
 |o::r=>match o.watch with
  |[]=>lE r
  |_::_=>false
section
variable{P:Program}{G base:Nat}{Q:T V->Hp->Prop}
theorem jS:∀{l:List SOper} {ctx ctx':zR} {F:T V} {H:Hp},lE l=true->qF P G base Q l ctx F H->qF P G base Q l ctx' F H
 |[],_,_,_,_,_,h=>h
 |o::r,ctx,ctx',F,H,hn,h=>by
  have hn':o.watch=[]/\lE r=true:=by
   unfold lE at hn;split at hn
   ·rename_i e;exact⟨e,hn⟩
   ·cases hn
  obtain⟨ho,hr⟩:=hn';rw [qF] at h ⊢;split at h
  ·rename_i hw;rw [if_pos hw];cases hop:o.op with
   |p op=>
    simp only [hop] at h ⊢;cases hv:qv F op with
    |none=>simp [hv] at h
    |some v=>simp only [hv] at h ⊢;exact jS hr h
   |l op=>
    simp only [hop] at h ⊢;cases hv:xj F H op with
    |none=>simp [hv] at h
    |some v=>simp only [hv] at h ⊢;exact jS hr h
   |a op=>
    simp only [hop] at h ⊢;cases hv:xA F op with
    |none=>simp [hv] at h
    |some v=>
     simp only [hv] at h ⊢;cases hai:o.aid with
     |none=>simp only [hai] at h ⊢;exact jS hr h
     |some k=>simp only [hai] at h ⊢;exact jS hr h
   |e op=>
    simp only [hop] at h ⊢;cases hv:xr F H op with
    |none=>simp [hv] at h
    |some v=>simp only [hv] at h ⊢;exact⟨by rw [ho];trivial,jS hr h.2⟩
   |cf f args=>
    simp only [hop] at h ⊢;exact h.mono fun v H' hh=>⟨by rw [ho];trivial,jS hr hh.2⟩
   |cv x args=>
    simp only [hop] at h ⊢;split at h
    ·exact⟨h.1,h.2.mono fun v H' hh=>⟨by rw [ho];trivial,jS hr hh.2⟩⟩
    ·exact v8.mono h fun v H' hh=>⟨by rw [ho];trivial,jS hr hh.2⟩
    ·exact h.elim
   |nx x=>
    simp only [hop] at h ⊢;split at h
    ·exact Ys.mono h fun v H' hh=>⟨by rw [ho];trivial,jS hr hh.2⟩
    ·exact h.elim
   |no=>simp only [hop] at h
  ·rename_i hw;rw [if_neg hw];exact jS hr h
end
section
variable{p:Par}{base rs:Nat}{Q:qq->Bx->Nat->Prop}{r:List SOper}{W:Wt}{A:List Nat}{E:qq}{S:Bx}{nk:Nat}
theorem ym(hn:lE r=true)(h:DPW p base rs Q r [] A E S nk):DPW p base rs Q r W A E S nk:=.mk fun Z β H F c hS hE _ hA=>
 jS hn (h.run Z β H F [] hS hE (fun x hx=>by cases hx) hA)
end
end Go.Ab

namespace Go.Ag
open Go.Ab Go.Proofs
theorem j3:Tryz.prog.follows .mixedOrders=true:=Tryz.checked.mixed
def uY:B:=.row 8 [.int .u8 1,.int .u8 3,.int .u8 9,.int .u8 25,.int .u8 17,.int .u8 11,.int .u8 27,.int .u8 19] .lf false
def H00(_:Nat):Hp:=⟨.nd (some uY) .lf .lf,1⟩
structure Hid (Q:Prop):Prop where
 get:Q
theorem qb{P Q:Prop}(k:Q)(h:Hid Q->P:=by intro goH;(repeat (first|refine Zm rfl rfl ?_|refine Zn rfl rfl ?_|refine ZO rfl ?_|refine ZP rfl rfl ?_|refine ZQ rfl rfl ?_|refine Y0 rfl Qy Qy ?_|refine W1 rfl rfl ?_|refine W0 rfl rfl ?_|refine zJ rfl ?_|refine jG rfl ?_|refine jy rfl ?_|refine cA rfl Qy ?_|refine cB rfl Qy ?_|refine W3 rfl rfl oM oM ?_|refine W4 rfl rfl oM oM ?_|refine W2 rfl rfl oM oM ?_|refine W5 rfl rfl oM (by decide) aM ?_|refine zU rfl rfl oM (by decide) aM ?_|refine jG (jf rfl rfl aM rfl) ?_|refine jy (jf rfl rfl aM rfl) ?_|refine jG (jd rfl rfl aM) ?_|refine jy (jd rfl rfl aM) ?_|refine jG (je rfl rfl aM aM) ?_|refine jy (je rfl rfl aM aM) ?_|refine Xm rfl ?_|refine cE rfl rfl rfl ?_|refine vB rfl rfl rfl rfl rfl (Nat.le_of_ble_eq_true rfl) rfl ?_|refine yA ?_|refine jp ?_|refine jq j3 (fun base=>?_)|refine Xn ?_|refine Qi ?_|refine y6 ?_));first|exact goH.get|(revert base;exact goH.get)):P:=h ⟨k⟩
theorem qU{P Q:Prop}(k:Q)(h:Hid Q->P:=by intro goH;(repeat (first|refine Zm rfl rfl ?_|refine Zn rfl rfl ?_|refine ZO rfl ?_|refine ZP rfl rfl ?_|refine ZQ rfl rfl ?_|refine Y0 rfl Qy Qy ?_|refine W1 rfl rfl ?_|refine W0 rfl rfl ?_|refine KV rfl aM ?_|refine zJ rfl ?_|refine jG rfl ?_|refine jy rfl ?_|refine cA rfl Qy ?_|refine cB rfl Qy ?_|refine W3 rfl rfl oM oM ?_|refine W4 rfl rfl oM oM ?_|refine W2 rfl rfl oM oM ?_|refine W5 rfl rfl oM (by decide) aM ?_|refine zU rfl rfl oM (by decide) aM ?_|refine jG (jf rfl rfl aM rfl) ?_|refine jy (jf rfl rfl aM rfl) ?_|refine jG (jd rfl rfl aM) ?_|refine jy (jd rfl rfl aM) ?_|refine jG (je rfl rfl aM aM) ?_|refine jy (je rfl rfl aM aM) ?_|refine Xm rfl ?_|refine cE rfl rfl rfl ?_|refine vB rfl rfl rfl rfl rfl (Nat.le_of_ble_eq_true rfl) rfl ?_|refine yA ?_|refine jp ?_|refine jq j3 (fun base=>?_)|refine Xn ?_|refine Qi ?_|refine y6 ?_));first|exact goH.get|(revert base;exact goH.get)):P:=h ⟨k⟩
theorem goP{P Q:Prop}(k:Q)(h:Hid Q->P:=by intro goH;(repeat (first|refine pR rfl rfl (by first|exact fun _=>rfl|exact fun h=>(by simp only [if_pos h];rfl)|exact fun h=>(by simp only [if_pos h];assumption)) (by first|exact fun _=>rfl|exact fun h=>(by simp only [if_pos h];rfl)|exact fun h=>(by simp only [if_pos h];assumption)) ?_|refine YO rfl ?_|refine CI rfl rfl rfl ?_|refine CH rfl rfl rfl ?_|refine YP ?_|refine kV rfl rfl ?_|refine L5 rfl rfl (by assumption) ?_|refine Ky rfl rfl (by assumption) ?_|refine CK rfl rfl (by assumption) ?_|refine CJ rfl rfl (by assumption) ?_|refine L3 rfl rfl (by first|exact fun _=>rfl|exact fun _=>(by assumption)|exact fun h=>(by simp only [if_pos h];rfl)|exact fun h=>(by simp only [if_pos h];assumption)) ?_|refine CL rfl rfl (by first|exact fun _=>rfl|exact fun h=>(by simp only [if_pos h];rfl)|exact fun h=>(by simp only [if_pos h];assumption)) (by assumption) ?_|refine kV rfl (by assumption) ?_));exact goH.get):P:=h ⟨k⟩
theorem zk{P Q:Prop}(k:Q)(h:Hid Q->P:=by intro goH;(repeat (first|refine pR rfl rfl (by first|exact fun _=>rfl|exact fun h=>(by simp only [if_pos h];rfl)|exact fun h=>(by simp only [if_pos h];assumption)) (by first|exact fun _=>rfl|exact fun h=>(by simp only [if_pos h];rfl)|exact fun h=>(by simp only [if_pos h];assumption)) ?_|refine YO rfl ?_|refine CI rfl rfl rfl ?_|refine CH rfl rfl rfl ?_|refine YP ?_|refine kV rfl rfl ?_|refine L5 rfl rfl (by assumption) ?_|refine Ky rfl rfl (by assumption) ?_|refine CK rfl rfl (by assumption) ?_|refine CJ rfl rfl (by assumption) ?_|refine L3 rfl rfl (by first|exact fun _=>rfl|exact fun _=>(by assumption)|exact fun h=>(by simp only [if_pos h];rfl)|exact fun h=>(by simp only [if_pos h];assumption)) ?_|refine CL rfl rfl (by first|exact fun _=>rfl|exact fun h=>(by simp only [if_pos h];rfl)|exact fun h=>(by simp only [if_pos h];assumption)) (by assumption) ?_|refine kV rfl (by assumption) ?_|refine XI ?_|refine vY ?_|refine Xf j3 ?_|refine OZ ?_|refine GN ?_));exact goH.get):P:=h ⟨k⟩
theorem XE{α:Type}{f:α->List FD}{e:Nat}(hf:∀x,(f x).length=e):∀{l:List α} {i:Nat} {x:α},l[i]?=some x->xK (l.flatMap f) (i*e) e=some (f x)
 |[],i,x,h=>by simp at h
 |y::l,0,x,h=>by
  simp at h;subst h;have:=hf y;rw [Nat.zero_mul,yj (by simp;omega)];simp [List.take_append_of_le_length,<-this]
 |y::l,i+1,x,h=>by
  have ih:=XE hf (l:=l) (i:=i) (x:=x) (by simpa using h);have hy:=hf y;obtain⟨h1,h2⟩:=zV ih;rw [List.flatMap_cons,Nat.add_mul,Nat.one_mul,yj (by rw [List.length_append];omega)];rw [show i*e+e=(f y).length+i*e by omega,<-List.drop_drop,List.drop_append_of_le_length (Nat.le_refl _),List.drop_length,List.nil_append,<-h2]
theorem YB{α:Type}{f:α->List FD}{e:Nat}(hf:∀x,(f x).length=e)(l:List α):(l.flatMap f).length=l.length*e:=by
 induction l with
 |nil=>simp
 |cons x l ih=>simp [ih,hf x,Nat.add_mul];omega
theorem qI{α:Type}(l:List α){n:Nat}(h:l.length=n):xK l 0 n=some l:=by
 subst h;rw [yj (by omega)];simp
abbrev DK(f:FuncId)(ds:List DV)(R:DV->Prop):Prop:=yd Tryz.prog 1 (H00 1) f ds R
theorem xa:∀b bk,(H00 1).get b=some bk->bk.ro=some bk:=by
 intro b bk h;by_cases hb:b=0
 ·subst hb;rw [<-zsi h];rfl
 ·simp [Hp.get,H00,T.get_nd,hb] at h
abbrev qc:=Int × Int
def qh(p:qc):List FD:=[.c (.int .i64 p.1),.c (.int .i64 p.2)]
def qz(l:List qc):DV:=.one (.f (.sl 2 l.length (l.flatMap qh)))
def zg(p:qc):DV:=.agg [.f (.c (.int .i64 p.1)),.f (.c (.int .i64 p.2))]
theorem xi{l:List qc}{i:Nat}{x:qc}(h:l[i]?=some x):xK (l.flatMap qh) (i*2) 2=some (qh x):=XE (e:=2) (fun _=>rfl) h
theorem xc(l:List qc):(l.flatMap qh).length=l.length*2:=YB (f:=qh) (e:=2) (fun _=>rfl) l
end Go.Ag

namespace Go.Ab
theorem wI{H:Hp}(hw:WF H)(cs:List C){n:Nat}(hn:cs.length=n):WF (H.push (.row n cs .lf true))/\Ext H (H.push (.row n cs .lf true))/\x6 (H.push (.row n cs .lf true)) H.nx cs:=by
 subst hn;exact⟨hw.push _,Ext.push hw (Ext.refl H) _,x6.new cs⟩
theorem x6.cell{H:Hp}{b:Nat}{l:List C}(h:x6 H b l){i:Nat}{c:C}(hc:l[i]?=some c):H.cell b i=some c:=by
 have:=vt (i:=i) h.2 (zgs hc).1;rw [Nat.zero_add] at this;rw [this,hc]
theorem x6.ext{H H':Hp}{b:Nat}{l:List C}(h:x6 H b l)(he:Ext H H'):x6 H' b l:=by
 obtain⟨⟨z,m,hg⟩,hl⟩:=h;exact⟨⟨z,m,he.get _ _ hg⟩,he.loads hl⟩
theorem xp{n:Int}(h1: -9223372036854775808<=n)(h2:n<9223372036854775808):IntKind.i64.wrap n=n:=by
 simp [IntKind.wrap,IntKind.signed,IntKind.bits];split<;>omega
theorem ON(a:Int){b:Int}(hb:0<b): -b<a.tmod b/\a.tmod b<b:=by
 refine⟨?_,Int.tmod_lt_of_pos a hb⟩;rcases Int.le_total 0 a with h|h
 ·have:=Int.tmod_nonneg b h;omega
 ·have h1:(-a).tmod b<b:=Int.tmod_lt_of_pos _ hb;rw [Int.neg_tmod] at h1;omega
theorem Vc:∀(pre cs rest:List C),cs.length=rest.length->yH (pre++rest) pre.length cs=pre++cs
 |_,[],[],_=>by simp [yH]
 |pre,c::cs,r::rest,h=>by
  simp only [yH];have e:(pre++r::rest).set pre.length c=(pre++[c])++rest:=by simp
  rw [e];have:=Vc (pre++[c]) cs rest (by simpa using h);simp only [List.length_append,List.length_cons,List.length_nil] at this;rw [this];simp
 |_,[],_::_,h=>by simp at h
 |_,_::_,[],h=>by simp at h
theorem F8(cs z:List C)(h:cs.length=z.length):yH z 0 cs=cs:=by simpa using Vc [] cs z h
theorem O7{H:Hp}(hw:WF H)(z cs:List C)(hn:cs.length=z.length):∃H3,(H.push (.row z.length z .lf true)).stores H.nx 0 cs=some H3/\WF H3/\Ext H H3/\x6 H3 H.nx cs/\H3.nx=H.nx+1:=by
 obtain⟨hw1,hx,hb⟩:=wI hw z rfl;obtain⟨H3,s1,s2,s3,s4⟩:=hb.stores (cs:=cs) (i:=0) oM;rw [F8 cs z hn] at s2;refine⟨H3,s1,fun b bk h=>?_,⟨fun b bk h=>?_,by rw [s4];simp⟩,s2,by rw [s4];simp⟩
 ·rw [s4];by_cases e:b=H.nx
  ·subst e;simp
  ·rw [s3 b e] at h;exact hw1 b bk h
 ·rw [s3 b (by have:=hw b bk h;omega)];exact hx.get b bk h
def j6(H:Hp)(lo hi:Nat)(l:List Pt)(v:V):Prop:=fS H lo 2 l.length (zn l) v/\∀b,WC v=some b->lo<=b/\b<hi
theorem j6.same{H H':Hp}{lo hi:Nat}{l:List Pt}{v:V}(h:j6 H lo hi l v)(hg:∀b,WC v=some b->H'.get b=H.get b):j6 H' lo hi l v:=⟨h.1.same hg,h.2⟩
theorem j6.mono{H:Hp}{lo lo' hi hi':Nat}{l:List Pt}{v:V}(h:j6 H lo hi l v)(hlo:lo'<=lo)(hhi:hi<=hi'):j6 H lo' hi' l v:=by
 refine⟨⟨h.1.1,?_⟩,fun b hb=>by have:=h.2 b hb;omega⟩;rcases h.1.2 with h|⟨b,ex,hv,hl,hr⟩
 ·exact .inl h
 ·exact .inr ⟨b,ex,hv,oM,hr⟩
theorem j6.none{H:Hp}{lo hi b:Nat}(hb:H.get b=some (.row 0 [] .lf true))(h1:lo<=b)(h2:b<hi):j6 H lo hi [] (.one (.slc b 0 0 0 2 true)):=
 ⟨⟨rfl,.inr ⟨b,true,rfl,h1,⟨[],.lf,hb⟩,rfl⟩⟩,fun x hx=>by obtain rfl:=zsi hx;exact⟨h1,h2⟩⟩
theorem j6.append1{H H1:Hp}{lo hi:Nat}{l:List Pt}{v:V}{bb:Nat}{p:Pt}(h:j6 H lo hi l v)(hhi:hi<=H.nx)(hw1:WF H1)(hold:∀b,b<H.nx->H1.get b=H.get b)(hnx:H.nx<=H1.nx)(hbb:H1.get bb=some (.row 2 (xW p) .lf true))(hlo:lo<=H.nx)(hlen:l.length<1000000000):
 ∃v' H',zF H1 2 (.one (.slc bb 0 1 1 2 true))=some (1,xW p)/\zq H1 2 16 v 1 (xW p)=some (v',H')/\j6 H' lo H'.nx (l++[p]) v'/\(∀b,b<H.nx->WC v≠some b->H'.get b=H.get b)/\H.nx<=H'.nx/\WF H':=by
 have hsrc:H1.loads bb 0 (1*2)=some (xW p):=XL (cs:=xW p) (rw:=true) hbb;have h1:fS H1 lo 2 l.length (zn l) v:=h.1.same fun b hb=>hold b (by have:=h.2 b hb;omega);obtain⟨v',H',e1,e2,e3,e4,e5,e6⟩:=h1.append (bytes:=16) hw1 oM (m:=1) (news:=xW p) rfl oM oM oM;refine⟨v',H',pH hsrc,e1,⟨?_,fun b hb=>?_⟩,fun b hb hne=>?_,oM,e6⟩
 ·have:zn (l++[p])=zn l++xW p:=by simp [zn]
  rw [this,List.length_append];exact e2
 ·rw [e3] at hb;obtain rfl:=zsi hb;omega
 ·rw [e4 b (by omega) hne,hold b hb]
theorem j6.one{H:Hp}{lo hi:Nat}{l:List Pt}{v:V}(h:j6 H lo hi l v):∃c,v=.one c:=by
 rcases h.1.2 with⟨h,_⟩|⟨b,ex,hv,_⟩
 ·exact⟨_,h⟩
 ·exact⟨_,hv⟩
theorem iJ:∀(pre old cs rest:List C),cs.length=old.length->yH (pre++(old++rest)) pre.length cs=pre++(cs++rest)
 |_,[],[],_,_=>by simp [yH]
 |pre,o::old,c::cs,rest,h=>by
  simp only [yH];have e:(pre++(o::old++rest)).set pre.length c=(pre++[c])++(old++rest):=by simp
  rw [e];have:=iJ (pre++[c]) old cs rest (by simpa using h);simp only [List.length_append,List.length_cons,List.length_nil] at this;rw [this];simp
 |_,[],_::_,_,h=>by simp at h
 |_,_::_,[],_,h=>by simp at h
def vI(H:Hp)(b cap:Nat)(l:List Pt):Prop:=∃rest,rest.length=(cap-l.length)*2/\l.length<=cap/\x6 H b (zn l++rest)
theorem vI.append{H:Hp}{b cap:Nat}{l:List Pt}(h:vI H b cap l)(hc:l.length<cap)(bytes:Nat)(ex:Bool)(p:Pt):∃H',zq H 2 bytes (.one (.slc b 0 l.length cap 2 ex)) 1 (xW p)=some (.one (.slc b 0 (l.length+1) cap 2 ex),H')/\vI H' b cap (l++[p])/\(∀b',b'≠b->H'.get b'=H.get b')/\H'.nx=H.nx:=by
 obtain⟨rest,h1,h2,h3⟩:=h;obtain⟨H',e1,e2,e3,e4⟩:=h3.stores (cs:=xW p) (i:=l.length*2) (by simp [ptsC_len,h1,xW];omega);refine⟨H',?_,⟨rest.drop 2,by simp [h1];omega,by simp;omega,?_⟩,e3,e4⟩
 ·simp only [zq];rw [if_neg (by simp),if_pos (by omega),Nat.zero_add,e1];rfl
 ·have e5:zn (l++[p])=zn l++xW p:=by simp [zn]
  have e6:zn l++rest=zn l++(rest.take 2++rest.drop 2):=by rw [List.take_append_drop]
  rw [e6,<-ptsC_len,iJ _ _ _ _ (by simp [xW,h1];omega)] at e2;rw [e5,List.append_assoc];exact e2
theorem bM{H:Hp}{b n:Nat}{z:List C}{m:T C}{rw:Bool}(h:H.get b=some (.row n z m rw)):∀(k o:Nat),o+k<=n->∃cs,cs.length=k/\H.loads b o k=some cs
 |0,o,_=>⟨[],rfl,rfl⟩
 |k+1,o,hk=>by
  obtain⟨cs,h1,h2⟩:=bM h k (o+1) oM;have hc:H.cell b o=some ((m.get o).getD (z.getD (o % z.length) .nilp)):=by simp [Hp.cell,h,B.cell,show o<n by omega]
  exact⟨(m.get o).getD (z.getD (o % z.length) .nilp)::cs,by simp [h1],by simp only [Hp.loads,hc,h2]⟩
theorem x6.some{H:Hp}{b n:Nat}{z:List C}{m:T C}(h:H.get b=some (.row n z m true)):∃cs,cs.length=n/\x6 H b cs:=by
 obtain⟨cs,h1,h2⟩:=bM h n 0 oM;exact⟨cs,h1,⟨z,m,by rw [h1];exact h⟩,by rw [h1];exact h2⟩
theorem vI.new{H:Hp}{b cap:Nat}{z:List C}(h:H.get b=some (.row (cap*2) z .lf true)):vI H b cap []:=by
 obtain⟨cs,h1,h2⟩:=x6.some h;exact⟨cs,by simp [h1],by simp,by simpa [zn] using h2⟩
theorem vI.same{H H':Hp}{b cap:Nat}{l:List Pt}(h:vI H b cap l)(hg:H'.get b=H.get b):vI H' b cap l:=by
 obtain⟨r,h1,h2,h3⟩:=h;exact⟨r,h1,h2,h3.same hg⟩
theorem vI.full{H:Hp}{lo hi b cap:Nat}{l:List Pt}{ex:Bool}(h:vI H b cap l)(hc:l.length=cap)(h1:lo<=b)(h2:b<hi):j6 H lo hi l (.one (.slc b 0 l.length cap 2 ex)):=by
 obtain⟨r,g1,g2,g3⟩:=h;have:r=[]:=List.eq_nil_of_length_eq_zero (by rw [g1,hc];simp);subst this;rw [List.append_nil] at g3;subst hc;exact⟨⟨ptsC_len l,.inr ⟨b,ex,rfl,h1,g3⟩⟩,fun x hx=>by obtain rfl:=zsi hx;exact⟨h1,h2⟩⟩
end Go.Ab

namespace Go.Ag
open Go.Ab Go.Proofs
theorem FN{H:Hp}{n:Int}(h: -4000000000000000000<n)(h':n<4000000000000000000):qH Tryz.prog 1 116 [.int n] H fun v H'=>v=.int (max n (-n))/\H'=H:=by
 refine kX NP (by simp [uO]) fun hwf=>?_;refine zk ?_;refine kD rfl rfl (fun ht=>?_) (fun ht=>?_)
 ·refine zk ?_;refine yN ⟨_,rfl,?_,rfl⟩;simp at ht;rw [xp (by omega) (by omega)];congr 2;omega
 ·refine zk ?_;refine yN ⟨_,rfl,?_,rfl⟩;simp at ht;congr 2;omega
theorem pO{H:Hp}{n:Int}(h: -4000000000000000000<n)(h':n<4000000000000000000):qH Tryz.prog 1 114 [.int n] H fun v H'=>v=.int (max n (-n))/\H'=H:=by
 refine kX NQ (by simp [uP]) fun hwf=>?_;refine zk ?_;refine yN ⟨_,rfl,?_,rfl⟩;rw [xp (by omega) (by omega)];congr 3;omega
def xy(p q:Pt):Int:=max (max (p.1-q.1) (-(p.1-q.1))) (max (p.2-q.2) (-(p.2-q.2)))
def qE(B:Int)(p:Pt):Prop:= -B<=p.1/\p.1<=B/\ -B<=p.2/\p.2<=B
theorem LA{H:Hp}{p q:Pt}(hp:qE 1000000000000000000 p)(hq:qE 1000000000000000000 q):qH Tryz.prog 1 93 [ptV p,ptV q] H fun v _=>v=.int (xy p q):=by
 obtain⟨p1,p2,p3,p4⟩:=hp;obtain⟨q1,q2,q3,q4⟩:=hq;refine kX qbb (by simp [MG]) fun hwf=>?_;obtain⟨hw1,hx1,hb1⟩:=wI hwf (xW p) rfl;obtain⟨hw2,hx2,hb2⟩:=wI hw1 (xW q) rfl;refine vY (Xf j3 (Xd rfl rfl (Xd rfl rfl (YP (XI ?_)))));replace hb1:=hb1.ext hx2;have c0:=hb1.cell (i:=0) rfl;have c1:=hb1.cell (i:=1) rfl;have d0:=hb2.cell (i:=0) rfl;have d1:=hb2.cell (i:=1) rfl;generalize ((H.push _).push _)=H2 at *;refine vY (YR j3 ?_);refine zk ?_;rw [xp (n:=p.1-q.1) (by omega) (by omega)];rw [xp (n:=p.2-q.2) (by omega) (by omega)];refine kW rfl rfl (FN oM oM) (by repeat (first|exact trivial|refine⟨by assumption,?_⟩)) (kW rfl rfl (FN oM oM) (by repeat (first|exact trivial|refine⟨by assumption,?_⟩)) ?_);refine zk ?_;exact yN ⟨_,rfl,rfl⟩
theorem nZ{H:Hp}{p q:Pt}(hp:qE 1000000000000000000 p)(hq:qE 1000000000000000000 q):qH Tryz.prog 1 93 [ptV p,ptV q] H fun v H'=>v=.int (xy p q)/\H'=H:=
 (qH.pure (LA hp hq) (fun v _ h=>by rw [h];rfl)).mono fun v H' ⟨⟨_,h⟩,e⟩=>⟨h,e⟩
theorem OV{H:Hp}{p q:Pt}(hp:qE 1000000000000000000 p)(hq:qE 1000000000000000000 q):qH Tryz.prog 1 89 [ptV p,ptV q] H fun v _=>v=.int (xy p q):=by
 obtain⟨p1,p2,p3,p4⟩:=hp;obtain⟨q1,q2,q3,q4⟩:=hq;refine kX qbe (by simp [MI]) fun hwf=>?_;obtain⟨hw1,hx1,hb1⟩:=wI hwf (xW p) rfl;obtain⟨hw2,hx2,hb2⟩:=wI hw1 (xW q) rfl;refine vY (Xf j3 (Xd rfl rfl (Xd rfl rfl (YP (XI ?_)))));replace hb1:=hb1.ext hx2;have c0:=hb1.cell (i:=0) rfl;have c1:=hb1.cell (i:=1) rfl;have d0:=hb2.cell (i:=0) rfl;have d1:=hb2.cell (i:=1) rfl;generalize ((H.push _).push _)=H2 at *;refine vY (YR j3 ?_);refine zk ?_;rw [xp (n:=p.1-q.1) (by omega) (by omega)];rw [xp (n:=p.2-q.2) (by omega) (by omega)];refine kW rfl rfl (pO oM oM) (by repeat (first|exact trivial|refine⟨by assumption,?_⟩)) (kW rfl rfl (pO oM oM) (by repeat (first|exact trivial|refine⟨by assumption,?_⟩)) ?_);refine zk ?_;exact yN ⟨_,rfl,rfl⟩
theorem pL{H:Hp}{p q:Pt}(hp:qE 1000000000000000000 p)(hq:qE 1000000000000000000 q):qH Tryz.prog 1 89 [ptV p,ptV q] H fun v H'=>v=.int (xy p q)/\H'=H:=
 (qH.pure (OV hp hq) (fun v _ h=>by rw [h];rfl)).mono fun v H' ⟨⟨_,h⟩,e⟩=>⟨h,e⟩
theorem r9{p q:qc}(hp:qE 1000000000000000000 p)(hq:qE 1000000000000000000 q):DK 93 [zg p,zg q] fun d=>d=.int (xy p q):=yd.of_pure (vs:=[ptV p,ptV q]) ⟨rfl,rfl,trivial⟩ rfl fun H _=>nZ hp hq
theorem qpz{p q:qc}(hp:qE 1000000000000000000 p)(hq:qE 1000000000000000000 q):DK 89 [zg p,zg q] fun d=>d=.int (xy p q):=yd.of_pure (vs:=[ptV p,ptV q]) ⟨rfl,rfl,trivial⟩ rfl fun H _=>pL hp hq
theorem TD(p q:qc):JQ [.int .i64 p.1,.int .i64 p.2] [.int .i64 q.1,.int .i64 q.2] [(0,false),(1,false)]=some (decide (p=q)):=by
 obtain⟨p1,p2⟩:=p;obtain⟨q1,q2⟩:=q;simp only [JQ,n8,List.getElem?_cons_zero,List.getElem?_cons_succ,if_true];by_cases h1:p1=q1
 ·by_cases h2:p2=q2
  ·subst h1;subst h2;simp
  ·have e2:(p2==q2)=false:=by simpa using h2
   subst h1;simp [h2,e2]
 ·have e1:(p1==q1)=false:=by simpa using h1
  simp [h1,e1]
theorem ve{neg:Bool}{E:qq}{x y:Opd}{p q:qc}(hx:ro E x=some (.agg [.f (.c (.int .i64 p.1)),.f (.c (.int .i64 p.2))]))(hy:ro E y=some (.agg [.f (.c (.int .i64 q.1)),.f (.c (.int .i64 q.2))])):jg E (.eqs neg [(0,false),(1,false)] x y)=some (.bool (match neg with|true=>!decide (p=q)|false=>decide (p=q))):=by
 have ex:mQ E x=some (.agg [.int .i64 p.1,.int .i64 p.2]):=by simp [mQ,hx,bW,rM,D7]
 have ey:mQ E y=some (.agg [.int .i64 q.1,.int .i64 q.2]):=by simp [mQ,hy,bW,rM,D7]
 simp only [jg,NC,PureOp.opds,qV,t8,ex,ey,Option.isSome_some,PureOp.mp,rx,qv,Opd.ev,TD];cases neg<;>rfl
theorem u3{l:List qc}{p:qc}(hn:l.length<1000000000000):DK 55 [qz l,zg p] fun d=>d=.bool (decide (p∈l)):=by
 refine qD qbH rfl xa fun Z0 lo=>?_;refine qb ?_;intros;refine qm (fun m E S nk=>∃k:Nat,k+m=l.length/\E=[(0,qz l),(3,.one (.ptr 0 0)),(5,.int k)]/\S=[(0,.cells [.f (.c (.int .i64 p.1)),.f (.c (.int .i64 p.2))])]/\nk=1/\p∉l.take k) ⟨l.length,_,_,_,[],?wk,0,by omega,rfl,rfl,rfl,by simp⟩ ?_
 case wk=>exact ql
 rintro m E S nk ⟨k,hk,rfl,rfl,rfl,hno⟩;refine qb ?_;intros;refine qd rfl (fun ht=>?_) (fun ht=>?_)
 ·simp at ht;obtain⟨q,hq⟩:∃q,l[k]?=some q:=⟨_,zge oM⟩;have e1:=xi hq;refine qb ?_;intros;refine zJ (ve (p:=q) (q:=p) rfl rfl) ?_;refine qb ?_;intros;refine qd rfl (fun ht2=>?_) (fun ht2=>?_)
  ·simp at ht2;refine qb ?_;intros;refine qf ⟨_,rfl,rfl,?_⟩;rw [decide_eq_true (by rw [<-ht2];exact zmg hq)]
  ·simp at ht2;refine qb ?_;intros;refine⟨m-1,oM,_,_,_,[],?wk,k+1,oM,rfl,rfl,rfl,?_⟩
   case wk=>exact ql
   rw [List.take_add_one,hq];simp;exact⟨hno,fun h=>ht2 h.symm⟩
 ·simp at ht;refine qb ?_;intros;refine qf ⟨_,rfl,rfl,?_⟩;obtain rfl:k=l.length:=by omega
  rw [List.take_length] at hno;rw [decide_eq_false hno]
def yR(a b:List qc):List Int:=a.flatMap fun p=>b.map (xy p)
def x8(a b:List qc):Int:=match a,b with
 |[],_=> -1
 |_,[]=> -1
 |p::_,q::_=>(yR a b).foldl min (xy p q)
def vi(l:List qc):Prop:=∀p∈l,qE 1000000000000000000 p
theorem WU:∀(l:List Int) (x:Int),l.foldl min x<=x/\∀y∈l,l.foldl min x<=y
 |[],x=>⟨by simp,by simp⟩
 |y::l,x=>by
  have h:=WU l (min x y);simp only [List.foldl_cons];refine⟨oM,fun z hz=>?_⟩;rcases List.mem_cons.1 hz with rfl|hz
  ·omega
  ·exact h.2 z hz
theorem J5:∀(l:List Int) (x:Int),l.foldl min x=x\/l.foldl min x∈l
 |[],x=>.inl rfl
 |y::l,x=>by
  simp only [List.foldl_cons];rcases J5 l (min x y) with h|h
  ·rw [h];by_cases hxy:x<=y
   ·exact .inl oM
   ·exact .inr (by simp;omega)
  ·exact .inr (by simp [h])
theorem JI{a b:List qc}(ha:vi a)(hb:vi b)(hn:a.length<=256)(hm:b.length<=256):DK 60 [qz a,qz b] fun d=>d=.int (x8 a b):=by
 refine qD qbC rfl xa fun Z0 lo=>?_;refine qb ?_;intros;refine qd rfl (fun ht=>?_) (fun ht=>?_)
 ·simp at ht;refine qb ?_;intros;refine qf ⟨_,rfl,rfl,?_⟩;cases a with
  |nil=>rfl
  |cons p a=>cases b with
   |nil=>rfl
   |cons q b=>simp at ht
 ·simp only [Bool.if_true_left,Bool.or_eq_false_iff,decide_eq_false_iff_not,<-List.length_eq_zero_iff] at ht;simp at ht;obtain⟨ht1,ht2⟩:=ht;obtain⟨p0,a',rfl⟩:∃q l,a=q::l:=List.exists_cons_of_ne_nil ht1;obtain⟨q0,b',rfl⟩:∃q l,b=q::l:=List.exists_cons_of_ne_nil ht2;have e1:xK ((p0::a').flatMap qh) (0*2) 2=some (qh p0):=xi rfl;have e2:xK ((q0::b').flatMap qh) (0*2) 2=some (qh q0):=xi rfl;have hp0:=ha p0 (by simp);have hq0:=hb q0 (by simp);have hl1:0<(p0::a').length:=by simp
  have hl2:0<(q0::b').length:=by simp
  have hdist:x8 (p0::a') (q0::b')=(yR (p0::a') (q0::b')).foldl min (xy p0 q0):=rfl;rw [hdist];generalize hga:p0::a'=a at *;generalize hgb:q0::b'=b at *;refine qu (qe (k:=0) rfl (qe (k:=1) rfl (qy _))) (qy _) ?_;have hle:(a.length:Int)*b.length<=256*256:=Int.mul_le_mul oM oM oM oM;have h0:(0:Int)<=(a.length:Int)*b.length:=Int.mul_nonneg oM oM
  iterate 10 (first|(refine Zm rfl rfl ?_)|(refine Zn rfl rfl ?_)|(refine ZO rfl ?_)|(refine ZP rfl rfl ?_)|(refine ZQ rfl rfl ?_)|(refine Y0 rfl Qy Qy ?_)|(refine W1 rfl rfl ?_)|(refine W0 rfl rfl ?_)|(refine zJ rfl ?_)|(refine jG rfl ?_)|(refine jy rfl ?_)|(refine cA rfl Qy ?_)|(refine cB rfl Qy ?_)|(refine W3 rfl rfl oM oM ?_)|(refine W4 rfl rfl oM oM ?_)|(refine W2 rfl rfl oM oM ?_)|(refine W5 rfl rfl oM (by decide) aM ?_)|(refine zU rfl rfl oM (by decide) aM ?_)|(refine jG (jf rfl rfl aM rfl) ?_)|(refine jy (jf rfl rfl aM rfl) ?_)|(refine jG (jd rfl rfl aM) ?_)|(refine jy (jd rfl rfl aM) ?_)|(refine jG (je rfl rfl aM aM) ?_)|(refine jy (je rfl rfl aM aM) ?_)|(refine Xm rfl ?_)|(refine cE rfl rfl rfl ?_)|(refine vB rfl rfl rfl rfl rfl (Nat.le_of_ble_eq_true rfl) rfl ?_)|(refine yA ?_)|(refine jp ?_)|(refine jq j3 (fun base=>?_))|(refine Xn ?_)|(refine Qi ?_)|(refine y6 ?_))
  rw [show decide (IntKind.i64.wrap ((a.length:Int)*b.length)>65536)=false by rw [qo (by omega) (by omega)];simp;omega];refine qb ?_;intros;refine qd rfl (fun ht=>by cases ht) (fun _=>?_);refine qb ?_;intros;refine qk rfl rfl (r9 hp0 hq0) ?_;rintro _ rfl;refine qb ?_;intros;refine qm (fun m E S nk=>∃k:Nat,k+m=a.length/\E=[(1,qz b),(5,.int ((yR (a.take k) b).foldl min (xy p0 q0))),(42,qz a),(43,.int a.length),(44,.int k)]/\S=[]/\nk=0) ⟨a.length,_,_,_,[],?wk,0,oM,rfl,rfl,rfl⟩ ?_
  case wk=>exact ql
  rintro m E S nk ⟨k,hk,rfl,rfl,rfl⟩;refine qb ?_;intros;refine qd rfl (fun ht=>?_) (fun ht=>?_)
  ·simp at ht;obtain⟨p,hp⟩:∃q,a[k]?=some q:=⟨_,zge oM⟩;have e3:=xi hp;have hps:=ha p (zmg hp);refine qb ?_;intros;refine qm (fun m E S nk=>∃j:Nat,j+m=b.length/\E=[(1,qz b),(5,.int (((b.take j).map (xy p)).foldl min ((yR (a.take k) b).foldl min (xy p0 q0)))),(7,.one (.ptr 0 0)),(42,qz a),(43,.int a.length),(44,.int k),(48,qz b),(49,.int b.length),(50,.int j)]/\S=[(0,.cells [.f (.c (.int .i64 p.1)),.f (.c (.int .i64 p.2))])]/\nk=1) ⟨b.length,_,_,_,[],?wk2,0,oM,rfl,rfl,rfl⟩ ?_
   case wk2=>exact ql
   rintro m2 E S nk ⟨j,hj,rfl,rfl,rfl⟩;refine qb ?_;intros;refine qd rfl (fun ht2=>?_) (fun ht2=>?_)
   ·simp at ht2;obtain⟨q,hq⟩:∃q,b[j]?=some q:=⟨_,zge oM⟩;have e4:=xi hq;have hqs:=hb q (zmg hq);refine qb ?_;intros;refine qk rfl rfl (r9 (p:=p) (q:=q) hps hqs) ?_;rintro _ rfl;refine qb ?_;intros;have hD:min (((b.take j).map (xy p)).foldl min ((yR (a.take k) b).foldl min (xy p0 q0))) (xy p q)=((b.take (j+1)).map (xy p)).foldl min ((yR (a.take k) b).foldl min (xy p0 q0)):=by
     rw [List.take_add_one,hq];simp
    rw [hD];refine⟨m2-1,oM,_,_,_,[],?wk3,j+1,oM,rfl,rfl,rfl⟩
    case wk3=>exact ql
   ·simp at ht2;obtain rfl:j=b.length:=by omega
    refine qb ?_;intros;have hD:((b.take b.length).map (xy p)).foldl min ((yR (a.take k) b).foldl min (xy p0 q0))=(yR (a.take (k+1)) b).foldl min (xy p0 q0):=by
     rw [List.take_add_one,hp,List.take_length];simp [yR]
    rw [hD];refine⟨m-1,oM,_,_,_,[],?wk3,k+1,oM,rfl,rfl,rfl⟩
    case wk3=>exact ql
  ·simp at ht;obtain rfl:k=a.length:=by omega
   refine qb ?_;intros;refine qf ⟨_,rfl,rfl,?_⟩;rw [List.take_length]
def Vn(i:Nat):Int:=[1,3,9,25,17,11,27,19].getD i 0
def gE(i:Nat):DV:=.one (.f (.sl 1 2 [.c (.int .u8 60),.c (.int .u8 (Vn i))]))
theorem ST{i:Nat}(hi:i<8):DK 67 [.int i] fun d=>d=gE i:=by
 refine qD qbv rfl xa fun Z0 lo=>?_
 match i,hi with
 |0,_=>
  refine qb ?_;intros;refine qd rfl (fun h=>absurd h (by decide)) (fun _=>?_);refine qb ?_;intros;refine qu (qe (k:=2) rfl (qy _)) (qe (k:=0) rfl (qy _)) ?_;refine xn 0 rfl qR qR ?_;exact qf ⟨_,rfl,rfl,rfl⟩
 |1,_=>
  refine qb ?_;intros;refine qd rfl (fun h=>absurd h (by decide)) (fun _=>?_);refine qb ?_;intros;refine qu (qe (k:=2) rfl (qy _)) (qe (k:=0) rfl (qy _)) ?_;refine xn 0 rfl qR qR ?_;exact qf ⟨_,rfl,rfl,rfl⟩
 |2,_=>
  refine qb ?_;intros;refine qd rfl (fun h=>absurd h (by decide)) (fun _=>?_);refine qb ?_;intros;refine qu (qe (k:=2) rfl (qy _)) (qe (k:=0) rfl (qy _)) ?_;refine xn 0 rfl qR qR ?_;exact qf ⟨_,rfl,rfl,rfl⟩
 |3,_=>
  refine qb ?_;intros;refine qd rfl (fun h=>absurd h (by decide)) (fun _=>?_);refine qb ?_;intros;refine qu (qe (k:=2) rfl (qy _)) (qe (k:=0) rfl (qy _)) ?_;refine xn 0 rfl qR qR ?_;exact qf ⟨_,rfl,rfl,rfl⟩
 |4,_=>
  refine qb ?_;intros;refine qd rfl (fun h=>absurd h (by decide)) (fun _=>?_);refine qb ?_;intros;refine qu (qe (k:=2) rfl (qy _)) (qe (k:=0) rfl (qy _)) ?_;refine xn 0 rfl qR qR ?_;exact qf ⟨_,rfl,rfl,rfl⟩
 |5,_=>
  refine qb ?_;intros;refine qd rfl (fun h=>absurd h (by decide)) (fun _=>?_);refine qb ?_;intros;refine qu (qe (k:=2) rfl (qy _)) (qe (k:=0) rfl (qy _)) ?_;refine xn 0 rfl qR qR ?_;exact qf ⟨_,rfl,rfl,rfl⟩
 |6,_=>
  refine qb ?_;intros;refine qd rfl (fun h=>absurd h (by decide)) (fun _=>?_);refine qb ?_;intros;refine qu (qe (k:=2) rfl (qy _)) (qe (k:=0) rfl (qy _)) ?_;refine xn 0 rfl qR qR ?_;exact qf ⟨_,rfl,rfl,rfl⟩
 |7,_=>
  refine qb ?_;intros;refine qd rfl (fun h=>absurd h (by decide)) (fun _=>?_);refine qb ?_;intros;refine qu (qe (k:=2) rfl (qy _)) (qe (k:=0) rfl (qy _)) ?_;refine xn 0 rfl qR qR ?_;exact qf ⟨_,rfl,rfl,rfl⟩
 |i+8,h=>omega
theorem IP{i:Nat}(hi:i<8):DK 88 [.int i] fun d=>d=gE i:=by
 refine qD qbf rfl xa fun Z0 lo=>?_
 match i,hi with
 |0,_=>
  refine qb ?_;intros;refine qu (qe (k:=2) rfl (qy _)) (qe (k:=1) rfl (qy _)) ?_;refine xn 1 rfl qR qR ?_;exact qf ⟨_,rfl,rfl,rfl⟩
 |1,_=>
  refine qb ?_;intros;refine qu (qe (k:=2) rfl (qy _)) (qe (k:=1) rfl (qy _)) ?_;refine xn 1 rfl qR qR ?_;exact qf ⟨_,rfl,rfl,rfl⟩
 |2,_=>
  refine qb ?_;intros;refine qu (qe (k:=2) rfl (qy _)) (qe (k:=1) rfl (qy _)) ?_;refine xn 1 rfl qR qR ?_;exact qf ⟨_,rfl,rfl,rfl⟩
 |3,_=>
  refine qb ?_;intros;refine qu (qe (k:=2) rfl (qy _)) (qe (k:=1) rfl (qy _)) ?_;refine xn 1 rfl qR qR ?_;exact qf ⟨_,rfl,rfl,rfl⟩
 |4,_=>
  refine qb ?_;intros;refine qu (qe (k:=2) rfl (qy _)) (qe (k:=1) rfl (qy _)) ?_;refine xn 1 rfl qR qR ?_;exact qf ⟨_,rfl,rfl,rfl⟩
 |5,_=>
  refine qb ?_;intros;refine qu (qe (k:=2) rfl (qy _)) (qe (k:=1) rfl (qy _)) ?_;refine xn 1 rfl qR qR ?_;exact qf ⟨_,rfl,rfl,rfl⟩
 |6,_=>
  refine qb ?_;intros;refine qu (qe (k:=2) rfl (qy _)) (qe (k:=1) rfl (qy _)) ?_;refine xn 1 rfl qR qR ?_;exact qf ⟨_,rfl,rfl,rfl⟩
 |7,_=>
  refine qb ?_;intros;refine qu (qe (k:=2) rfl (qy _)) (qe (k:=1) rfl (qy _)) ?_;refine xn 1 rfl qR qR ?_;exact qf ⟨_,rfl,rfl,rfl⟩
 |i+8,h=>omega
def AK(v:Int)(n:Nat):Bool:=IntKind.u8.wrap (((BitVec.ofInt 8 (v.fdiv (2^n))&&& BitVec.ofInt 8 1).toNat:Nat):Int)==1
def zy(v:Int)(j:Nat):Bool:=AK (if j % 4<2 then 60 else v) (3*(j % 2)+j/4)
def qM(q:qc)(j:Nat):qc:=(2*q.1+(j % 4:Nat),3*q.2+(j/4:Nat))
def wQ(v:Int)(q:qc)(k:Nat):List qc:=((List.range k).filter (zy v)).map (qM q)
theorem yE{v:Int}{q:qc}{k:Nat}(h:zy v k=true):wQ v q (k+1)=wQ v q k++[qM q k]:=by
 simp [wQ,List.range_succ,h]
theorem yF{v:Int}{q:qc}{k:Nat}(h:zy v k=false):wQ v q (k+1)=wQ v q k:=by
 simp [wQ,List.range_succ,h]
theorem Xi(v:Int)(q:qc)(k:Nat):(wQ v q k).length<=k:=by
 unfold wQ;rw [List.length_map];exact Nat.le_trans (List.length_filter_le _ _) (by simp)
def qS(i:Nat)(q:qc):List qc:=wQ (Vn i) q 12
theorem XR{i:Nat}{q:qc}(hi:i<8)(hq:qE 1000000 q):DK 34 [.int i,zg q] fun d=>d=qz (qS i q):=by
 refine qD qbY rfl xa fun Z0 lo=>?_;unfold qE at hq;have w1:IntKind.i64.wrap (2*q.1)=2*q.1:=qo oM oM;have w2:IntKind.i64.wrap (3*q.2)=3*q.2:=qo oM oM;refine qb ?_;intros;refine qk rfl rfl (ST hi) ?_;rintro _ rfl;unfold gE qS;generalize Vn i=v;refine qb ?_;intros;refine vD 6 2 rfl ?_;refine qm (fun m E S nk=>∃(r:Nat) (out:List qc),r+m=3/\out=wQ v q (4*r)/\E=[(3,.one (.ptr 0 0)),(5,.one (.f (.sl 1 2 [.c (.int .u8 60),.c (.int .u8 v)]))),(6,.one (.own 1 0 out.length 2)),(11,.int r)]/\S=[(0,.cells [.f (.c (.int .i64 q.1)),.f (.c (.int .i64 q.2))]),(1,.data (out.flatMap qh))]/\nk=2) ⟨3,_,_,_,[],?wk,0,[],oM,rfl,rfl,rfl,rfl⟩ ?_
 case wk=>exact ql
 rintro m E S nk ⟨r,out,hr,ho,rfl,rfl,rfl⟩;refine qb ?_;intros;refine qd rfl (fun ht=>?_) (fun ht=>?_)
 ·have ht:r<3:=by have:=xL ht;omega
  match r,ht with
  |0,_=>
   refine qb ?_;intros;refine qm (fun m E S nk=>∃(c:Nat) (out:List qc),c+m=4/\out=wQ v q (0+c)/\E=[(3,.one (.ptr 0 0)),(5,.one (.f (.sl 1 2 [.c (.int .u8 60),.c (.int .u8 v)]))),(6,.one (.own 1 0 out.length 2)),(7,.int (0:Nat)),(11,.int (0:Nat)),(16,.int 4),(17,.int c)]/\S=[(0,.cells [.f (.c (.int .i64 q.1)),.f (.c (.int .i64 q.2))]),(1,.data (out.flatMap qh))]/\nk=2) ⟨4,_,_,_,[],?wk0,0,out,oM,ho,rfl,rfl,rfl⟩ ?_
   case wk0=>exact ql
   rintro m2 E S nk ⟨c,out,hc,ho,rfl,rfl,rfl⟩;have hol:=Xi v q (0+c);rw [<-ho] at hol;have hfl:=xc out;refine qb ?_;intros;refine qd rfl (fun ht2=>?_) (fun ht2=>?_)
   ·have ht2:c<4:=by have:=xL ht2;omega
    match c,ht2 with
    |0,_=>
     have w3:IntKind.i64.wrap (2*q.1+((0:Nat):Int))=2*q.1+((0:Nat):Int):=qo oM oM;have w4:IntKind.i64.wrap (3*q.2+((0:Nat):Int))=3*q.2+((0:Nat):Int):=qo oM oM;refine qb ?_;intros;refine zU (j:=0) (q:=[.c (.int .u8 60)]) rfl rfl (by decide) (by decide) rfl ?_;refine qb ?_;intros;refine qd rfl (fun hb=>?_) (fun hb=>?_)
     ·have hb:zy v 0=true:=hb;refine qb ?_;intros;refine qY (m:=1) (q:=qh (qM q 0)) rfl rfl rfl (qI _ hfl) ⟨rfl,rfl,_,rfl,by rw [w1,w2,w3,w4];rfl⟩ (by omega) (by omega) (by decide) rfl ?_;rw [show out.flatMap qh++qh (qM q 0)=(out++[qM q 0]).flatMap qh by simp,show out.length+1=(out++[qM q 0]).length by simp];refine qb ?_;intros;refine⟨m2-1,by omega,_,_,_,[(1,3)],?wa,1,out++[qM q 0],by omega,by rw [ho];exact (yE hb).symm,rfl,rfl,rfl⟩
      case wa=>exact ql
     ·have hb:zy v 0=false:=hb;refine qb ?_;intros;refine⟨m2-1,by omega,_,_,_,[],?wb,1,out,by omega,by rw [ho];exact (yF hb).symm,rfl,rfl,rfl⟩
      case wb=>exact ql
    |1,_=>
     have w3:IntKind.i64.wrap (2*q.1+((1:Nat):Int))=2*q.1+((1:Nat):Int):=qo oM oM;have w4:IntKind.i64.wrap (3*q.2+((0:Nat):Int))=3*q.2+((0:Nat):Int):=qo oM oM;refine qb ?_;intros;refine zU (j:=0) (q:=[.c (.int .u8 60)]) rfl rfl (by decide) (by decide) rfl ?_;refine qb ?_;intros;refine qd rfl (fun hb=>?_) (fun hb=>?_)
     ·have hb:zy v 1=true:=hb;refine qb ?_;intros;refine qY (m:=1) (q:=qh (qM q 1)) rfl rfl rfl (qI _ hfl) ⟨rfl,rfl,_,rfl,by rw [w1,w2,w3,w4];rfl⟩ (by omega) (by omega) (by decide) rfl ?_;rw [show out.flatMap qh++qh (qM q 1)=(out++[qM q 1]).flatMap qh by simp,show out.length+1=(out++[qM q 1]).length by simp];refine qb ?_;intros;refine⟨m2-1,by omega,_,_,_,[(1,3)],?wa,2,out++[qM q 1],by omega,by rw [ho];exact (yE hb).symm,rfl,rfl,rfl⟩
      case wa=>exact ql
     ·have hb:zy v 1=false:=hb;refine qb ?_;intros;refine⟨m2-1,by omega,_,_,_,[],?wb,2,out,by omega,by rw [ho];exact (yF hb).symm,rfl,rfl,rfl⟩
      case wb=>exact ql
    |2,_=>
     have w3:IntKind.i64.wrap (2*q.1+((2:Nat):Int))=2*q.1+((2:Nat):Int):=qo oM oM;have w4:IntKind.i64.wrap (3*q.2+((0:Nat):Int))=3*q.2+((0:Nat):Int):=qo oM oM;refine qb ?_;intros;refine zU (j:=1) (q:=[.c (.int .u8 v)]) rfl rfl (by decide) (by decide) rfl ?_;refine qb ?_;intros;refine qd rfl (fun hb=>?_) (fun hb=>?_)
     ·have hb:zy v 2=true:=hb;refine qb ?_;intros;refine qY (m:=1) (q:=qh (qM q 2)) rfl rfl rfl (qI _ hfl) ⟨rfl,rfl,_,rfl,by rw [w1,w2,w3,w4];rfl⟩ (by omega) (by omega) (by decide) rfl ?_;rw [show out.flatMap qh++qh (qM q 2)=(out++[qM q 2]).flatMap qh by simp,show out.length+1=(out++[qM q 2]).length by simp];refine qb ?_;intros;refine⟨m2-1,by omega,_,_,_,[(1,3)],?wa,3,out++[qM q 2],by omega,by rw [ho];exact (yE hb).symm,rfl,rfl,rfl⟩
      case wa=>exact ql
     ·have hb:zy v 2=false:=hb;refine qb ?_;intros;refine⟨m2-1,by omega,_,_,_,[],?wb,3,out,by omega,by rw [ho];exact (yF hb).symm,rfl,rfl,rfl⟩
      case wb=>exact ql
    |3,_=>
     have w3:IntKind.i64.wrap (2*q.1+((3:Nat):Int))=2*q.1+((3:Nat):Int):=qo oM oM;have w4:IntKind.i64.wrap (3*q.2+((0:Nat):Int))=3*q.2+((0:Nat):Int):=qo oM oM;refine qb ?_;intros;refine zU (j:=1) (q:=[.c (.int .u8 v)]) rfl rfl (by decide) (by decide) rfl ?_;refine qb ?_;intros;refine qd rfl (fun hb=>?_) (fun hb=>?_)
     ·have hb:zy v 3=true:=hb;refine qb ?_;intros;refine qY (m:=1) (q:=qh (qM q 3)) rfl rfl rfl (qI _ hfl) ⟨rfl,rfl,_,rfl,by rw [w1,w2,w3,w4];rfl⟩ (by omega) (by omega) (by decide) rfl ?_;rw [show out.flatMap qh++qh (qM q 3)=(out++[qM q 3]).flatMap qh by simp,show out.length+1=(out++[qM q 3]).length by simp];refine qb ?_;intros;refine⟨m2-1,by omega,_,_,_,[(1,3)],?wa,4,out++[qM q 3],by omega,by rw [ho];exact (yE hb).symm,rfl,rfl,rfl⟩
      case wa=>exact ql
     ·have hb:zy v 3=false:=hb;refine qb ?_;intros;refine⟨m2-1,by omega,_,_,_,[],?wb,4,out,by omega,by rw [ho];exact (yF hb).symm,rfl,rfl,rfl⟩
      case wb=>exact ql
    |c+4,h=>omega
   ·have ht2:c=4:=by have:=xP ht2;omega
    subst ht2;refine qb ?_;intros;refine⟨m-1,oM,_,_,_,[],?wc,1,out,oM,ho,rfl,rfl,rfl⟩
    case wc=>exact ql
  |1,_=>
   refine qb ?_;intros;refine qm (fun m E S nk=>∃(c:Nat) (out:List qc),c+m=4/\out=wQ v q (4+c)/\E=[(3,.one (.ptr 0 0)),(5,.one (.f (.sl 1 2 [.c (.int .u8 60),.c (.int .u8 v)]))),(6,.one (.own 1 0 out.length 2)),(7,.int (1:Nat)),(11,.int (1:Nat)),(16,.int 4),(17,.int c)]/\S=[(0,.cells [.f (.c (.int .i64 q.1)),.f (.c (.int .i64 q.2))]),(1,.data (out.flatMap qh))]/\nk=2) ⟨4,_,_,_,[],?wk1,0,out,oM,ho,rfl,rfl,rfl⟩ ?_
   case wk1=>exact ql
   rintro m2 E S nk ⟨c,out,hc,ho,rfl,rfl,rfl⟩;have hol:=Xi v q (4+c);rw [<-ho] at hol;have hfl:=xc out;refine qb ?_;intros;refine qd rfl (fun ht2=>?_) (fun ht2=>?_)
   ·have ht2:c<4:=by have:=xL ht2;omega
    match c,ht2 with
    |0,_=>
     have w3:IntKind.i64.wrap (2*q.1+((0:Nat):Int))=2*q.1+((0:Nat):Int):=qo oM oM;have w4:IntKind.i64.wrap (3*q.2+((1:Nat):Int))=3*q.2+((1:Nat):Int):=qo oM oM;refine qb ?_;intros;refine zU (j:=0) (q:=[.c (.int .u8 60)]) rfl rfl (by decide) (by decide) rfl ?_;refine qb ?_;intros;refine qd rfl (fun hb=>?_) (fun hb=>?_)
     ·have hb:zy v 4=true:=hb;refine qb ?_;intros;refine qY (m:=1) (q:=qh (qM q 4)) rfl rfl rfl (qI _ hfl) ⟨rfl,rfl,_,rfl,by rw [w1,w2,w3,w4];rfl⟩ (by omega) (by omega) (by decide) rfl ?_;rw [show out.flatMap qh++qh (qM q 4)=(out++[qM q 4]).flatMap qh by simp,show out.length+1=(out++[qM q 4]).length by simp];refine qb ?_;intros;refine⟨m2-1,by omega,_,_,_,[(1,3)],?wa,1,out++[qM q 4],by omega,by rw [ho];exact (yE hb).symm,rfl,rfl,rfl⟩
      case wa=>exact ql
     ·have hb:zy v 4=false:=hb;refine qb ?_;intros;refine⟨m2-1,by omega,_,_,_,[],?wb,1,out,by omega,by rw [ho];exact (yF hb).symm,rfl,rfl,rfl⟩
      case wb=>exact ql
    |1,_=>
     have w3:IntKind.i64.wrap (2*q.1+((1:Nat):Int))=2*q.1+((1:Nat):Int):=qo oM oM;have w4:IntKind.i64.wrap (3*q.2+((1:Nat):Int))=3*q.2+((1:Nat):Int):=qo oM oM;refine qb ?_;intros;refine zU (j:=0) (q:=[.c (.int .u8 60)]) rfl rfl (by decide) (by decide) rfl ?_;refine qb ?_;intros;refine qd rfl (fun hb=>?_) (fun hb=>?_)
     ·have hb:zy v 5=true:=hb;refine qb ?_;intros;refine qY (m:=1) (q:=qh (qM q 5)) rfl rfl rfl (qI _ hfl) ⟨rfl,rfl,_,rfl,by rw [w1,w2,w3,w4];rfl⟩ (by omega) (by omega) (by decide) rfl ?_;rw [show out.flatMap qh++qh (qM q 5)=(out++[qM q 5]).flatMap qh by simp,show out.length+1=(out++[qM q 5]).length by simp];refine qb ?_;intros;refine⟨m2-1,by omega,_,_,_,[(1,3)],?wa,2,out++[qM q 5],by omega,by rw [ho];exact (yE hb).symm,rfl,rfl,rfl⟩
      case wa=>exact ql
     ·have hb:zy v 5=false:=hb;refine qb ?_;intros;refine⟨m2-1,by omega,_,_,_,[],?wb,2,out,by omega,by rw [ho];exact (yF hb).symm,rfl,rfl,rfl⟩
      case wb=>exact ql
    |2,_=>
     have w3:IntKind.i64.wrap (2*q.1+((2:Nat):Int))=2*q.1+((2:Nat):Int):=qo oM oM;have w4:IntKind.i64.wrap (3*q.2+((1:Nat):Int))=3*q.2+((1:Nat):Int):=qo oM oM;refine qb ?_;intros;refine zU (j:=1) (q:=[.c (.int .u8 v)]) rfl rfl (by decide) (by decide) rfl ?_;refine qb ?_;intros;refine qd rfl (fun hb=>?_) (fun hb=>?_)
     ·have hb:zy v 6=true:=hb;refine qb ?_;intros;refine qY (m:=1) (q:=qh (qM q 6)) rfl rfl rfl (qI _ hfl) ⟨rfl,rfl,_,rfl,by rw [w1,w2,w3,w4];rfl⟩ (by omega) (by omega) (by decide) rfl ?_;rw [show out.flatMap qh++qh (qM q 6)=(out++[qM q 6]).flatMap qh by simp,show out.length+1=(out++[qM q 6]).length by simp];refine qb ?_;intros;refine⟨m2-1,by omega,_,_,_,[(1,3)],?wa,3,out++[qM q 6],by omega,by rw [ho];exact (yE hb).symm,rfl,rfl,rfl⟩
      case wa=>exact ql
     ·have hb:zy v 6=false:=hb;refine qb ?_;intros;refine⟨m2-1,by omega,_,_,_,[],?wb,3,out,by omega,by rw [ho];exact (yF hb).symm,rfl,rfl,rfl⟩
      case wb=>exact ql
    |3,_=>
     have w3:IntKind.i64.wrap (2*q.1+((3:Nat):Int))=2*q.1+((3:Nat):Int):=qo oM oM;have w4:IntKind.i64.wrap (3*q.2+((1:Nat):Int))=3*q.2+((1:Nat):Int):=qo oM oM;refine qb ?_;intros;refine zU (j:=1) (q:=[.c (.int .u8 v)]) rfl rfl (by decide) (by decide) rfl ?_;refine qb ?_;intros;refine qd rfl (fun hb=>?_) (fun hb=>?_)
     ·have hb:zy v 7=true:=hb;refine qb ?_;intros;refine qY (m:=1) (q:=qh (qM q 7)) rfl rfl rfl (qI _ hfl) ⟨rfl,rfl,_,rfl,by rw [w1,w2,w3,w4];rfl⟩ (by omega) (by omega) (by decide) rfl ?_;rw [show out.flatMap qh++qh (qM q 7)=(out++[qM q 7]).flatMap qh by simp,show out.length+1=(out++[qM q 7]).length by simp];refine qb ?_;intros;refine⟨m2-1,by omega,_,_,_,[(1,3)],?wa,4,out++[qM q 7],by omega,by rw [ho];exact (yE hb).symm,rfl,rfl,rfl⟩
      case wa=>exact ql
     ·have hb:zy v 7=false:=hb;refine qb ?_;intros;refine⟨m2-1,by omega,_,_,_,[],?wb,4,out,by omega,by rw [ho];exact (yF hb).symm,rfl,rfl,rfl⟩
      case wb=>exact ql
    |c+4,h=>omega
   ·have ht2:c=4:=by have:=xP ht2;omega
    subst ht2;refine qb ?_;intros;refine⟨m-1,oM,_,_,_,[],?wc,2,out,oM,ho,rfl,rfl,rfl⟩
    case wc=>exact ql
  |2,_=>
   refine qb ?_;intros;refine qm (fun m E S nk=>∃(c:Nat) (out:List qc),c+m=4/\out=wQ v q (8+c)/\E=[(3,.one (.ptr 0 0)),(5,.one (.f (.sl 1 2 [.c (.int .u8 60),.c (.int .u8 v)]))),(6,.one (.own 1 0 out.length 2)),(7,.int (2:Nat)),(11,.int (2:Nat)),(16,.int 4),(17,.int c)]/\S=[(0,.cells [.f (.c (.int .i64 q.1)),.f (.c (.int .i64 q.2))]),(1,.data (out.flatMap qh))]/\nk=2) ⟨4,_,_,_,[],?wk2,0,out,oM,ho,rfl,rfl,rfl⟩ ?_
   case wk2=>exact ql
   rintro m2 E S nk ⟨c,out,hc,ho,rfl,rfl,rfl⟩;have hol:=Xi v q (8+c);rw [<-ho] at hol;have hfl:=xc out;refine qb ?_;intros;refine qd rfl (fun ht2=>?_) (fun ht2=>?_)
   ·have ht2:c<4:=by have:=xL ht2;omega
    match c,ht2 with
    |0,_=>
     have w3:IntKind.i64.wrap (2*q.1+((0:Nat):Int))=2*q.1+((0:Nat):Int):=qo oM oM;have w4:IntKind.i64.wrap (3*q.2+((2:Nat):Int))=3*q.2+((2:Nat):Int):=qo oM oM;refine qb ?_;intros;refine zU (j:=0) (q:=[.c (.int .u8 60)]) rfl rfl (by decide) (by decide) rfl ?_;refine qb ?_;intros;refine qd rfl (fun hb=>?_) (fun hb=>?_)
     ·have hb:zy v 8=true:=hb;refine qb ?_;intros;refine qY (m:=1) (q:=qh (qM q 8)) rfl rfl rfl (qI _ hfl) ⟨rfl,rfl,_,rfl,by rw [w1,w2,w3,w4];rfl⟩ (by omega) (by omega) (by decide) rfl ?_;rw [show out.flatMap qh++qh (qM q 8)=(out++[qM q 8]).flatMap qh by simp,show out.length+1=(out++[qM q 8]).length by simp];refine qb ?_;intros;refine⟨m2-1,by omega,_,_,_,[(1,3)],?wa,1,out++[qM q 8],by omega,by rw [ho];exact (yE hb).symm,rfl,rfl,rfl⟩
      case wa=>exact ql
     ·have hb:zy v 8=false:=hb;refine qb ?_;intros;refine⟨m2-1,by omega,_,_,_,[],?wb,1,out,by omega,by rw [ho];exact (yF hb).symm,rfl,rfl,rfl⟩
      case wb=>exact ql
    |1,_=>
     have w3:IntKind.i64.wrap (2*q.1+((1:Nat):Int))=2*q.1+((1:Nat):Int):=qo oM oM;have w4:IntKind.i64.wrap (3*q.2+((2:Nat):Int))=3*q.2+((2:Nat):Int):=qo oM oM;refine qb ?_;intros;refine zU (j:=0) (q:=[.c (.int .u8 60)]) rfl rfl (by decide) (by decide) rfl ?_;refine qb ?_;intros;refine qd rfl (fun hb=>?_) (fun hb=>?_)
     ·have hb:zy v 9=true:=hb;refine qb ?_;intros;refine qY (m:=1) (q:=qh (qM q 9)) rfl rfl rfl (qI _ hfl) ⟨rfl,rfl,_,rfl,by rw [w1,w2,w3,w4];rfl⟩ (by omega) (by omega) (by decide) rfl ?_;rw [show out.flatMap qh++qh (qM q 9)=(out++[qM q 9]).flatMap qh by simp,show out.length+1=(out++[qM q 9]).length by simp];refine qb ?_;intros;refine⟨m2-1,by omega,_,_,_,[(1,3)],?wa,2,out++[qM q 9],by omega,by rw [ho];exact (yE hb).symm,rfl,rfl,rfl⟩
      case wa=>exact ql
     ·have hb:zy v 9=false:=hb;refine qb ?_;intros;refine⟨m2-1,by omega,_,_,_,[],?wb,2,out,by omega,by rw [ho];exact (yF hb).symm,rfl,rfl,rfl⟩
      case wb=>exact ql
    |2,_=>
     have w3:IntKind.i64.wrap (2*q.1+((2:Nat):Int))=2*q.1+((2:Nat):Int):=qo oM oM;have w4:IntKind.i64.wrap (3*q.2+((2:Nat):Int))=3*q.2+((2:Nat):Int):=qo oM oM;refine qb ?_;intros;refine zU (j:=1) (q:=[.c (.int .u8 v)]) rfl rfl (by decide) (by decide) rfl ?_;refine qb ?_;intros;refine qd rfl (fun hb=>?_) (fun hb=>?_)
     ·have hb:zy v 10=true:=hb;refine qb ?_;intros;refine qY (m:=1) (q:=qh (qM q 10)) rfl rfl rfl (qI _ hfl) ⟨rfl,rfl,_,rfl,by rw [w1,w2,w3,w4];rfl⟩ (by omega) (by omega) (by decide) rfl ?_;rw [show out.flatMap qh++qh (qM q 10)=(out++[qM q 10]).flatMap qh by simp,show out.length+1=(out++[qM q 10]).length by simp];refine qb ?_;intros;refine⟨m2-1,by omega,_,_,_,[(1,3)],?wa,3,out++[qM q 10],by omega,by rw [ho];exact (yE hb).symm,rfl,rfl,rfl⟩
      case wa=>exact ql
     ·have hb:zy v 10=false:=hb;refine qb ?_;intros;refine⟨m2-1,by omega,_,_,_,[],?wb,3,out,by omega,by rw [ho];exact (yF hb).symm,rfl,rfl,rfl⟩
      case wb=>exact ql
    |3,_=>
     have w3:IntKind.i64.wrap (2*q.1+((3:Nat):Int))=2*q.1+((3:Nat):Int):=qo oM oM;have w4:IntKind.i64.wrap (3*q.2+((2:Nat):Int))=3*q.2+((2:Nat):Int):=qo oM oM;refine qb ?_;intros;refine zU (j:=1) (q:=[.c (.int .u8 v)]) rfl rfl (by decide) (by decide) rfl ?_;refine qb ?_;intros;refine qd rfl (fun hb=>?_) (fun hb=>?_)
     ·have hb:zy v 11=true:=hb;refine qb ?_;intros;refine qY (m:=1) (q:=qh (qM q 11)) rfl rfl rfl (qI _ hfl) ⟨rfl,rfl,_,rfl,by rw [w1,w2,w3,w4];rfl⟩ (by omega) (by omega) (by decide) rfl ?_;rw [show out.flatMap qh++qh (qM q 11)=(out++[qM q 11]).flatMap qh by simp,show out.length+1=(out++[qM q 11]).length by simp];refine qb ?_;intros;refine⟨m2-1,by omega,_,_,_,[(1,3)],?wa,4,out++[qM q 11],by omega,by rw [ho];exact (yE hb).symm,rfl,rfl,rfl⟩
      case wa=>exact ql
     ·have hb:zy v 11=false:=hb;refine qb ?_;intros;refine⟨m2-1,by omega,_,_,_,[],?wb,4,out,by omega,by rw [ho];exact (yF hb).symm,rfl,rfl,rfl⟩
      case wb=>exact ql
    |c+4,h=>omega
   ·have ht2:c=4:=by have:=xP ht2;omega
    subst ht2;refine qb ?_;intros;refine⟨m-1,oM,_,_,_,[],?wc,3,out,oM,ho,rfl,rfl,rfl⟩
    case wc=>exact ql
  |r+3,h=>omega
 ·have ht:r=3:=by have:=xP ht;omega
  subst ht;have hfl:=xc out;refine qb ?_;intros;refine qu (qe (k:=4) rfl (qy _)) (qe (k:=1) rfl (qy _)) ?_;refine xn 1 rfl qR qR ?_;refine qf ⟨_,rfl,rfl,?_⟩;rw [show wQ v q 12=out from ho.symm];rfl
theorem Zf{i:Nat}{q:qc}(hi:i<8)(hq:qE 1000000 q):DK 53 [.int i,zg q] fun d=>d=qz (qS i q):=by
 refine qD qbJ rfl xa fun Z0 lo=>?_;unfold qE at hq;have w1:IntKind.i64.wrap (2*q.1)=2*q.1:=qo oM oM;have w2:IntKind.i64.wrap (3*q.2)=3*q.2:=qo oM oM;refine qb ?_;intros;refine qk rfl rfl (IP hi) ?_;rintro _ rfl;unfold gE qS;generalize Vn i=v;refine qb ?_;intros;refine qm (fun m E S nk=>∃(r:Nat) (out:List qc),r+m=3/\out=wQ v q (4*r)/\E=[(3,.one (.ptr 0 0)),(5,.one (.own 1 0 out.length 2)),(6,.one (.f (.sl 1 2 [.c (.int .u8 60),.c (.int .u8 v)]))),(7,.int r)]/\S=[(0,.cells [.f (.c (.int .i64 q.1)),.f (.c (.int .i64 q.2))]),(1,.data (out.flatMap qh))]/\nk=2) ⟨3,_,_,_,[],?wk,0,[],oM,rfl,rfl,rfl,rfl⟩ ?_
 case wk=>exact ql
 rintro m E S nk ⟨r,out,hr,ho,rfl,rfl,rfl⟩;refine qb ?_;intros;refine qd rfl (fun ht=>?_) (fun ht=>?_)
 ·have ht:r<3:=by have:=xL ht;omega
  match r,ht with
  |0,_=>
   refine qb ?_;intros;refine qm (fun m E S nk=>∃(c:Nat) (out:List qc),c+m=4/\out=wQ v q (0+c)/\E=[(3,.one (.ptr 0 0)),(5,.one (.own 1 0 out.length 2)),(6,.one (.f (.sl 1 2 [.c (.int .u8 60),.c (.int .u8 v)]))),(7,.int (0:Nat)),(8,.int c)]/\S=[(0,.cells [.f (.c (.int .i64 q.1)),.f (.c (.int .i64 q.2))]),(1,.data (out.flatMap qh))]/\nk=2) ⟨4,_,_,_,[],?wk0,0,out,oM,ho,rfl,rfl,rfl⟩ ?_
   case wk0=>exact ql
   rintro m2 E S nk ⟨c,out,hc,ho,rfl,rfl,rfl⟩;have hol:=Xi v q (0+c);rw [<-ho] at hol;have hfl:=xc out;refine qb ?_;intros;refine qd rfl (fun ht2=>?_) (fun ht2=>?_)
   ·have ht2:c<4:=by have:=xL ht2;omega
    match c,ht2 with
    |0,_=>
     have w3:IntKind.i64.wrap (2*q.1+((0:Nat):Int))=2*q.1+((0:Nat):Int):=qo oM oM;have w4:IntKind.i64.wrap (3*q.2+((0:Nat):Int))=3*q.2+((0:Nat):Int):=qo oM oM;refine qb ?_;intros;refine zU (j:=0) (q:=[.c (.int .u8 60)]) rfl rfl (by decide) (by decide) rfl ?_;refine qb ?_;intros;refine qd rfl (fun hb=>?_) (fun hb=>?_)
     ·have hb:zy v 0=true:=hb;refine qb ?_;intros;refine qY (m:=1) (q:=qh (qM q 0)) rfl rfl rfl (qI _ hfl) ⟨rfl,rfl,_,rfl,by rw [w1,w2,w3,w4];rfl⟩ (by omega) (by omega) (by decide) rfl ?_;rw [show out.flatMap qh++qh (qM q 0)=(out++[qM q 0]).flatMap qh by simp,show out.length+1=(out++[qM q 0]).length by simp];refine qb ?_;intros;refine⟨m2-1,by omega,_,_,_,[(1,3)],?wa,1,out++[qM q 0],by omega,by rw [ho];exact (yE hb).symm,rfl,rfl,rfl⟩
      case wa=>exact ql
     ·have hb:zy v 0=false:=hb;refine qb ?_;intros;refine⟨m2-1,by omega,_,_,_,[],?wb,1,out,by omega,by rw [ho];exact (yF hb).symm,rfl,rfl,rfl⟩
      case wb=>exact ql
    |1,_=>
     have w3:IntKind.i64.wrap (2*q.1+((1:Nat):Int))=2*q.1+((1:Nat):Int):=qo oM oM;have w4:IntKind.i64.wrap (3*q.2+((0:Nat):Int))=3*q.2+((0:Nat):Int):=qo oM oM;refine qb ?_;intros;refine zU (j:=0) (q:=[.c (.int .u8 60)]) rfl rfl (by decide) (by decide) rfl ?_;refine qb ?_;intros;refine qd rfl (fun hb=>?_) (fun hb=>?_)
     ·have hb:zy v 1=true:=hb;refine qb ?_;intros;refine qY (m:=1) (q:=qh (qM q 1)) rfl rfl rfl (qI _ hfl) ⟨rfl,rfl,_,rfl,by rw [w1,w2,w3,w4];rfl⟩ (by omega) (by omega) (by decide) rfl ?_;rw [show out.flatMap qh++qh (qM q 1)=(out++[qM q 1]).flatMap qh by simp,show out.length+1=(out++[qM q 1]).length by simp];refine qb ?_;intros;refine⟨m2-1,by omega,_,_,_,[(1,3)],?wa,2,out++[qM q 1],by omega,by rw [ho];exact (yE hb).symm,rfl,rfl,rfl⟩
      case wa=>exact ql
     ·have hb:zy v 1=false:=hb;refine qb ?_;intros;refine⟨m2-1,by omega,_,_,_,[],?wb,2,out,by omega,by rw [ho];exact (yF hb).symm,rfl,rfl,rfl⟩
      case wb=>exact ql
    |2,_=>
     have w3:IntKind.i64.wrap (2*q.1+((2:Nat):Int))=2*q.1+((2:Nat):Int):=qo oM oM;have w4:IntKind.i64.wrap (3*q.2+((0:Nat):Int))=3*q.2+((0:Nat):Int):=qo oM oM;refine qb ?_;intros;refine zU (j:=1) (q:=[.c (.int .u8 v)]) rfl rfl (by decide) (by decide) rfl ?_;refine qb ?_;intros;refine qd rfl (fun hb=>?_) (fun hb=>?_)
     ·have hb:zy v 2=true:=hb;refine qb ?_;intros;refine qY (m:=1) (q:=qh (qM q 2)) rfl rfl rfl (qI _ hfl) ⟨rfl,rfl,_,rfl,by rw [w1,w2,w3,w4];rfl⟩ (by omega) (by omega) (by decide) rfl ?_;rw [show out.flatMap qh++qh (qM q 2)=(out++[qM q 2]).flatMap qh by simp,show out.length+1=(out++[qM q 2]).length by simp];refine qb ?_;intros;refine⟨m2-1,by omega,_,_,_,[(1,3)],?wa,3,out++[qM q 2],by omega,by rw [ho];exact (yE hb).symm,rfl,rfl,rfl⟩
      case wa=>exact ql
     ·have hb:zy v 2=false:=hb;refine qb ?_;intros;refine⟨m2-1,by omega,_,_,_,[],?wb,3,out,by omega,by rw [ho];exact (yF hb).symm,rfl,rfl,rfl⟩
      case wb=>exact ql
    |3,_=>
     have w3:IntKind.i64.wrap (2*q.1+((3:Nat):Int))=2*q.1+((3:Nat):Int):=qo oM oM;have w4:IntKind.i64.wrap (3*q.2+((0:Nat):Int))=3*q.2+((0:Nat):Int):=qo oM oM;refine qb ?_;intros;refine zU (j:=1) (q:=[.c (.int .u8 v)]) rfl rfl (by decide) (by decide) rfl ?_;refine qb ?_;intros;refine qd rfl (fun hb=>?_) (fun hb=>?_)
     ·have hb:zy v 3=true:=hb;refine qb ?_;intros;refine qY (m:=1) (q:=qh (qM q 3)) rfl rfl rfl (qI _ hfl) ⟨rfl,rfl,_,rfl,by rw [w1,w2,w3,w4];rfl⟩ (by omega) (by omega) (by decide) rfl ?_;rw [show out.flatMap qh++qh (qM q 3)=(out++[qM q 3]).flatMap qh by simp,show out.length+1=(out++[qM q 3]).length by simp];refine qb ?_;intros;refine⟨m2-1,by omega,_,_,_,[(1,3)],?wa,4,out++[qM q 3],by omega,by rw [ho];exact (yE hb).symm,rfl,rfl,rfl⟩
      case wa=>exact ql
     ·have hb:zy v 3=false:=hb;refine qb ?_;intros;refine⟨m2-1,by omega,_,_,_,[],?wb,4,out,by omega,by rw [ho];exact (yF hb).symm,rfl,rfl,rfl⟩
      case wb=>exact ql
    |c+4,h=>omega
   ·have ht2:c=4:=by have:=xP ht2;omega
    subst ht2;refine qb ?_;intros;refine⟨m-1,oM,_,_,_,[],?wc,1,out,oM,ho,rfl,rfl,rfl⟩
    case wc=>exact ql
  |1,_=>
   refine qb ?_;intros;refine qm (fun m E S nk=>∃(c:Nat) (out:List qc),c+m=4/\out=wQ v q (4+c)/\E=[(3,.one (.ptr 0 0)),(5,.one (.own 1 0 out.length 2)),(6,.one (.f (.sl 1 2 [.c (.int .u8 60),.c (.int .u8 v)]))),(7,.int (1:Nat)),(8,.int c)]/\S=[(0,.cells [.f (.c (.int .i64 q.1)),.f (.c (.int .i64 q.2))]),(1,.data (out.flatMap qh))]/\nk=2) ⟨4,_,_,_,[],?wk1,0,out,oM,ho,rfl,rfl,rfl⟩ ?_
   case wk1=>exact ql
   rintro m2 E S nk ⟨c,out,hc,ho,rfl,rfl,rfl⟩;have hol:=Xi v q (4+c);rw [<-ho] at hol;have hfl:=xc out;refine qb ?_;intros;refine qd rfl (fun ht2=>?_) (fun ht2=>?_)
   ·have ht2:c<4:=by have:=xL ht2;omega
    match c,ht2 with
    |0,_=>
     have w3:IntKind.i64.wrap (2*q.1+((0:Nat):Int))=2*q.1+((0:Nat):Int):=qo oM oM;have w4:IntKind.i64.wrap (3*q.2+((1:Nat):Int))=3*q.2+((1:Nat):Int):=qo oM oM;refine qb ?_;intros;refine zU (j:=0) (q:=[.c (.int .u8 60)]) rfl rfl (by decide) (by decide) rfl ?_;refine qb ?_;intros;refine qd rfl (fun hb=>?_) (fun hb=>?_)
     ·have hb:zy v 4=true:=hb;refine qb ?_;intros;refine qY (m:=1) (q:=qh (qM q 4)) rfl rfl rfl (qI _ hfl) ⟨rfl,rfl,_,rfl,by rw [w1,w2,w3,w4];rfl⟩ (by omega) (by omega) (by decide) rfl ?_;rw [show out.flatMap qh++qh (qM q 4)=(out++[qM q 4]).flatMap qh by simp,show out.length+1=(out++[qM q 4]).length by simp];refine qb ?_;intros;refine⟨m2-1,by omega,_,_,_,[(1,3)],?wa,1,out++[qM q 4],by omega,by rw [ho];exact (yE hb).symm,rfl,rfl,rfl⟩
      case wa=>exact ql
     ·have hb:zy v 4=false:=hb;refine qb ?_;intros;refine⟨m2-1,by omega,_,_,_,[],?wb,1,out,by omega,by rw [ho];exact (yF hb).symm,rfl,rfl,rfl⟩
      case wb=>exact ql
    |1,_=>
     have w3:IntKind.i64.wrap (2*q.1+((1:Nat):Int))=2*q.1+((1:Nat):Int):=qo oM oM;have w4:IntKind.i64.wrap (3*q.2+((1:Nat):Int))=3*q.2+((1:Nat):Int):=qo oM oM;refine qb ?_;intros;refine zU (j:=0) (q:=[.c (.int .u8 60)]) rfl rfl (by decide) (by decide) rfl ?_;refine qb ?_;intros;refine qd rfl (fun hb=>?_) (fun hb=>?_)
     ·have hb:zy v 5=true:=hb;refine qb ?_;intros;refine qY (m:=1) (q:=qh (qM q 5)) rfl rfl rfl (qI _ hfl) ⟨rfl,rfl,_,rfl,by rw [w1,w2,w3,w4];rfl⟩ (by omega) (by omega) (by decide) rfl ?_;rw [show out.flatMap qh++qh (qM q 5)=(out++[qM q 5]).flatMap qh by simp,show out.length+1=(out++[qM q 5]).length by simp];refine qb ?_;intros;refine⟨m2-1,by omega,_,_,_,[(1,3)],?wa,2,out++[qM q 5],by omega,by rw [ho];exact (yE hb).symm,rfl,rfl,rfl⟩
      case wa=>exact ql
     ·have hb:zy v 5=false:=hb;refine qb ?_;intros;refine⟨m2-1,by omega,_,_,_,[],?wb,2,out,by omega,by rw [ho];exact (yF hb).symm,rfl,rfl,rfl⟩
      case wb=>exact ql
    |2,_=>
     have w3:IntKind.i64.wrap (2*q.1+((2:Nat):Int))=2*q.1+((2:Nat):Int):=qo oM oM;have w4:IntKind.i64.wrap (3*q.2+((1:Nat):Int))=3*q.2+((1:Nat):Int):=qo oM oM;refine qb ?_;intros;refine zU (j:=1) (q:=[.c (.int .u8 v)]) rfl rfl (by decide) (by decide) rfl ?_;refine qb ?_;intros;refine qd rfl (fun hb=>?_) (fun hb=>?_)
     ·have hb:zy v 6=true:=hb;refine qb ?_;intros;refine qY (m:=1) (q:=qh (qM q 6)) rfl rfl rfl (qI _ hfl) ⟨rfl,rfl,_,rfl,by rw [w1,w2,w3,w4];rfl⟩ (by omega) (by omega) (by decide) rfl ?_;rw [show out.flatMap qh++qh (qM q 6)=(out++[qM q 6]).flatMap qh by simp,show out.length+1=(out++[qM q 6]).length by simp];refine qb ?_;intros;refine⟨m2-1,by omega,_,_,_,[(1,3)],?wa,3,out++[qM q 6],by omega,by rw [ho];exact (yE hb).symm,rfl,rfl,rfl⟩
      case wa=>exact ql
     ·have hb:zy v 6=false:=hb;refine qb ?_;intros;refine⟨m2-1,by omega,_,_,_,[],?wb,3,out,by omega,by rw [ho];exact (yF hb).symm,rfl,rfl,rfl⟩
      case wb=>exact ql
    |3,_=>
     have w3:IntKind.i64.wrap (2*q.1+((3:Nat):Int))=2*q.1+((3:Nat):Int):=qo oM oM;have w4:IntKind.i64.wrap (3*q.2+((1:Nat):Int))=3*q.2+((1:Nat):Int):=qo oM oM;refine qb ?_;intros;refine zU (j:=1) (q:=[.c (.int .u8 v)]) rfl rfl (by decide) (by decide) rfl ?_;refine qb ?_;intros;refine qd rfl (fun hb=>?_) (fun hb=>?_)
     ·have hb:zy v 7=true:=hb;refine qb ?_;intros;refine qY (m:=1) (q:=qh (qM q 7)) rfl rfl rfl (qI _ hfl) ⟨rfl,rfl,_,rfl,by rw [w1,w2,w3,w4];rfl⟩ (by omega) (by omega) (by decide) rfl ?_;rw [show out.flatMap qh++qh (qM q 7)=(out++[qM q 7]).flatMap qh by simp,show out.length+1=(out++[qM q 7]).length by simp];refine qb ?_;intros;refine⟨m2-1,by omega,_,_,_,[(1,3)],?wa,4,out++[qM q 7],by omega,by rw [ho];exact (yE hb).symm,rfl,rfl,rfl⟩
      case wa=>exact ql
     ·have hb:zy v 7=false:=hb;refine qb ?_;intros;refine⟨m2-1,by omega,_,_,_,[],?wb,4,out,by omega,by rw [ho];exact (yF hb).symm,rfl,rfl,rfl⟩
      case wb=>exact ql
    |c+4,h=>omega
   ·have ht2:c=4:=by have:=xP ht2;omega
    subst ht2;refine qb ?_;intros;refine⟨m-1,oM,_,_,_,[],?wc,2,out,oM,ho,rfl,rfl,rfl⟩
    case wc=>exact ql
  |2,_=>
   refine qb ?_;intros;refine qm (fun m E S nk=>∃(c:Nat) (out:List qc),c+m=4/\out=wQ v q (8+c)/\E=[(3,.one (.ptr 0 0)),(5,.one (.own 1 0 out.length 2)),(6,.one (.f (.sl 1 2 [.c (.int .u8 60),.c (.int .u8 v)]))),(7,.int (2:Nat)),(8,.int c)]/\S=[(0,.cells [.f (.c (.int .i64 q.1)),.f (.c (.int .i64 q.2))]),(1,.data (out.flatMap qh))]/\nk=2) ⟨4,_,_,_,[],?wk2,0,out,oM,ho,rfl,rfl,rfl⟩ ?_
   case wk2=>exact ql
   rintro m2 E S nk ⟨c,out,hc,ho,rfl,rfl,rfl⟩;have hol:=Xi v q (8+c);rw [<-ho] at hol;have hfl:=xc out;refine qb ?_;intros;refine qd rfl (fun ht2=>?_) (fun ht2=>?_)
   ·have ht2:c<4:=by have:=xL ht2;omega
    match c,ht2 with
    |0,_=>
     have w3:IntKind.i64.wrap (2*q.1+((0:Nat):Int))=2*q.1+((0:Nat):Int):=qo oM oM;have w4:IntKind.i64.wrap (3*q.2+((2:Nat):Int))=3*q.2+((2:Nat):Int):=qo oM oM;refine qb ?_;intros;refine zU (j:=0) (q:=[.c (.int .u8 60)]) rfl rfl (by decide) (by decide) rfl ?_;refine qb ?_;intros;refine qd rfl (fun hb=>?_) (fun hb=>?_)
     ·have hb:zy v 8=true:=hb;refine qb ?_;intros;refine qY (m:=1) (q:=qh (qM q 8)) rfl rfl rfl (qI _ hfl) ⟨rfl,rfl,_,rfl,by rw [w1,w2,w3,w4];rfl⟩ (by omega) (by omega) (by decide) rfl ?_;rw [show out.flatMap qh++qh (qM q 8)=(out++[qM q 8]).flatMap qh by simp,show out.length+1=(out++[qM q 8]).length by simp];refine qb ?_;intros;refine⟨m2-1,by omega,_,_,_,[(1,3)],?wa,1,out++[qM q 8],by omega,by rw [ho];exact (yE hb).symm,rfl,rfl,rfl⟩
      case wa=>exact ql
     ·have hb:zy v 8=false:=hb;refine qb ?_;intros;refine⟨m2-1,by omega,_,_,_,[],?wb,1,out,by omega,by rw [ho];exact (yF hb).symm,rfl,rfl,rfl⟩
      case wb=>exact ql
    |1,_=>
     have w3:IntKind.i64.wrap (2*q.1+((1:Nat):Int))=2*q.1+((1:Nat):Int):=qo oM oM;have w4:IntKind.i64.wrap (3*q.2+((2:Nat):Int))=3*q.2+((2:Nat):Int):=qo oM oM;refine qb ?_;intros;refine zU (j:=0) (q:=[.c (.int .u8 60)]) rfl rfl (by decide) (by decide) rfl ?_;refine qb ?_;intros;refine qd rfl (fun hb=>?_) (fun hb=>?_)
     ·have hb:zy v 9=true:=hb;refine qb ?_;intros;refine qY (m:=1) (q:=qh (qM q 9)) rfl rfl rfl (qI _ hfl) ⟨rfl,rfl,_,rfl,by rw [w1,w2,w3,w4];rfl⟩ (by omega) (by omega) (by decide) rfl ?_;rw [show out.flatMap qh++qh (qM q 9)=(out++[qM q 9]).flatMap qh by simp,show out.length+1=(out++[qM q 9]).length by simp];refine qb ?_;intros;refine⟨m2-1,by omega,_,_,_,[(1,3)],?wa,2,out++[qM q 9],by omega,by rw [ho];exact (yE hb).symm,rfl,rfl,rfl⟩
      case wa=>exact ql
     ·have hb:zy v 9=false:=hb;refine qb ?_;intros;refine⟨m2-1,by omega,_,_,_,[],?wb,2,out,by omega,by rw [ho];exact (yF hb).symm,rfl,rfl,rfl⟩
      case wb=>exact ql
    |2,_=>
     have w3:IntKind.i64.wrap (2*q.1+((2:Nat):Int))=2*q.1+((2:Nat):Int):=qo oM oM;have w4:IntKind.i64.wrap (3*q.2+((2:Nat):Int))=3*q.2+((2:Nat):Int):=qo oM oM;refine qb ?_;intros;refine zU (j:=1) (q:=[.c (.int .u8 v)]) rfl rfl (by decide) (by decide) rfl ?_;refine qb ?_;intros;refine qd rfl (fun hb=>?_) (fun hb=>?_)
     ·have hb:zy v 10=true:=hb;refine qb ?_;intros;refine qY (m:=1) (q:=qh (qM q 10)) rfl rfl rfl (qI _ hfl) ⟨rfl,rfl,_,rfl,by rw [w1,w2,w3,w4];rfl⟩ (by omega) (by omega) (by decide) rfl ?_;rw [show out.flatMap qh++qh (qM q 10)=(out++[qM q 10]).flatMap qh by simp,show out.length+1=(out++[qM q 10]).length by simp];refine qb ?_;intros;refine⟨m2-1,by omega,_,_,_,[(1,3)],?wa,3,out++[qM q 10],by omega,by rw [ho];exact (yE hb).symm,rfl,rfl,rfl⟩
      case wa=>exact ql
     ·have hb:zy v 10=false:=hb;refine qb ?_;intros;refine⟨m2-1,by omega,_,_,_,[],?wb,3,out,by omega,by rw [ho];exact (yF hb).symm,rfl,rfl,rfl⟩
      case wb=>exact ql
    |3,_=>
     have w3:IntKind.i64.wrap (2*q.1+((3:Nat):Int))=2*q.1+((3:Nat):Int):=qo oM oM;have w4:IntKind.i64.wrap (3*q.2+((2:Nat):Int))=3*q.2+((2:Nat):Int):=qo oM oM;refine qb ?_;intros;refine zU (j:=1) (q:=[.c (.int .u8 v)]) rfl rfl (by decide) (by decide) rfl ?_;refine qb ?_;intros;refine qd rfl (fun hb=>?_) (fun hb=>?_)
     ·have hb:zy v 11=true:=hb;refine qb ?_;intros;refine qY (m:=1) (q:=qh (qM q 11)) rfl rfl rfl (qI _ hfl) ⟨rfl,rfl,_,rfl,by rw [w1,w2,w3,w4];rfl⟩ (by omega) (by omega) (by decide) rfl ?_;rw [show out.flatMap qh++qh (qM q 11)=(out++[qM q 11]).flatMap qh by simp,show out.length+1=(out++[qM q 11]).length by simp];refine qb ?_;intros;refine⟨m2-1,by omega,_,_,_,[(1,3)],?wa,4,out++[qM q 11],by omega,by rw [ho];exact (yE hb).symm,rfl,rfl,rfl⟩
      case wa=>exact ql
     ·have hb:zy v 11=false:=hb;refine qb ?_;intros;refine⟨m2-1,by omega,_,_,_,[],?wb,4,out,by omega,by rw [ho];exact (yF hb).symm,rfl,rfl,rfl⟩
      case wb=>exact ql
    |c+4,h=>omega
   ·have ht2:c=4:=by have:=xP ht2;omega
    subst ht2;refine qb ?_;intros;refine⟨m-1,oM,_,_,_,[],?wc,3,out,oM,ho,rfl,rfl,rfl⟩
    case wc=>exact ql
  |r+3,h=>omega
 ·have ht:r=3:=by have:=xP ht;omega
  subst ht;have hfl:=xc out;refine qb ?_;intros;refine qu (qe (k:=4) rfl (qy _)) (qe (k:=1) rfl (qy _)) ?_;refine xn 1 rfl qR qR ?_;refine qf ⟨_,rfl,rfl,?_⟩;rw [show wQ v q 12=out from ho.symm];rfl
def xq(a b:qc):Bool:=if decide (a.2<b.2)=true then true else if (a.2==b.2)=true then decide (a.1<b.1) else false
theorem IR{a b:qc}:DK 87 [zg a,zg b] fun d=>d=.bool (xq a b):=by
 refine qD qbg rfl xa fun Z0 lo=>?_;by_cases h1:a.2<b.2
 ·have g1:decide (a.2<b.2)=true:=by simpa using h1
  refine qU ?_;intros;exact qf ⟨_,rfl,rfl,by simp [xq,h1]⟩
 ·have g1:decide (a.2<b.2)=false:=by simpa using h1
  by_cases h2:a.2=b.2
  ·have g2:(a.2==b.2)=true:=by simpa using h2
   refine qU ?_;intros;exact qf ⟨_,rfl,rfl,by simp [xq,h1,h2]⟩
  ·have g2:(a.2==b.2)=false:=by simpa using h2
   refine qU ?_;intros;exact qf ⟨_,rfl,rfl,by simp [xq,h1,h2]⟩
def wC(x:qc)(out:List qc):Nat->Nat
 |0=>0
 |n+1=>match out[n]? with
  |some z=>if xq x z=true then wC x out n else n+1
  |none=>n+1
def QQ(x:qc)(out:List qc):List qc:=out.take (wC x out out.length)++[x]++out.drop (wC x out out.length)
def vU(out:List qc)(x:qc):List qc:=if x∈out then out else QQ x out
def qr(l:List qc):List qc:=l.foldl vU []
theorem pV(x:qc)(out:List qc):∀n,wC x out n<=n
 |0=>Nat.le_refl 0
 |n+1=>by
  simp only [wC];have:=pV x out n;split
  ·split<;>omega
  ·omega
theorem Va:∀(l out:List qc),(l.foldl vU out).length<=out.length+l.length
 |[],out=>by simp
 |x::l,out=>by
  have:=Va l (vU out x);have h2:(vU out x).length<=out.length+1:=by
   unfold vU;split
   ·omega
   ·simp [QQ];omega
  simp only [List.foldl_cons,List.length_cons];omega
theorem V2{l:List qc}(hn:l.length<1000000):DK 52 [qz l] fun d=>d=qz (qr l):=by
 refine qD qbK rfl xa fun Z0 lo=>?_;refine qb ?_;intros;refine qm (fun m E S nk=>∃k:Nat,k+m=l.length/\∃out:List qc,out=qr (l.take k)/\E=[(0,qz l),(3,.one (.own 0 0 out.length 2)),(4,.int k)]/\S=[(0,.data (out.flatMap qh))]/\nk=1) ⟨l.length,_,_,_,[],?wk,0,oM,[],rfl,rfl,rfl,rfl⟩ ?_
 case wk=>exact ql
 rintro m E S nk ⟨k,hk,out,hout,rfl,rfl,rfl⟩;have hol:out.length<=1000000:=by
  have:=Va (l.take k) [];rw [hout,qr];simp at this;omega
 have hflat:=xc out;refine qb ?_;intros;refine qd rfl (fun ht=>?_) (fun ht=>?_)
 ·simp at ht;obtain⟨x,hx⟩:∃x,l[k]?=some x:=⟨_,zge oM⟩;have e1:=xi hx;have hstep:qr (l.take (k+1))=vU out x:=by
   rw [List.take_add_one,hx,hout,qr,qr];simp
  refine qb ?_;intros;refine Y1 (ds:=[.one _,zg x]) rfl ⟨⟨_,rfl,_,_,rfl,qI _ hflat,rfl⟩,⟨_,rfl,⟨rfl,rfl⟩,⟨rfl,rfl⟩,trivial⟩,trivial⟩ (u3 (l:=out) (p:=x) oM) (by rintro _ rfl;rfl) ?_;rintro _ rfl;refine qb ?_;intros;refine qd rfl (fun ht2=>?_) (fun ht2=>?_)
  ·simp at ht2;refine qb ?_;intros;refine⟨m-1,oM,_,_,_,[],?wk1,k+1,oM,out,?ho,rfl,rfl,rfl⟩
   case wk1=>exact ql
   case ho=>rw [hstep,vU,if_pos ht2]
  ·simp at ht2;refine qb ?_;intros;refine qm (fun m E S nk=>∃j:Nat,j=m/\j<=out.length/\wC x out j=wC x out out.length/\E=[(0,qz l),(3,.one (.own 0 0 out.length 2)),(4,.int k),(5,.int j)]/\S=[(0,.data (out.flatMap qh))]/\nk=1) ⟨out.length,_,_,_,[],?wk2,out.length,rfl,Nat.le_refl _,rfl,rfl,rfl,rfl⟩ ?_
   case wk2=>exact ql
   rintro m2 E S nk ⟨j,hj,hjl,hpos,rfl,rfl,rfl⟩;have fin:j=wC x out out.length->∀Q:Exit->qq->Bx->Nat->Prop,Q .normal [(0,qz l),(3,.one (.own 5 0 (QQ x out).length 2)),(4,.int k)] [(5,.data ((QQ x out).flatMap qh))] 6->DPS (Par.base Tryz.prog 1 (H00 1) Z0 lo) MQ.n (.seq (.ops MP 0) (.seq (.ops MO 10) (.ops DW 0))) Q [(0,qz l),(3,.one (.own 0 0 out.length 2)),(4,.int k),(5,.int j)] [(0,.data (out.flatMap qh))] 1:=by
    intro hjp Q hQ;have hsplit:out.flatMap qh=(out.take j).flatMap qh++(out.drop j).flatMap qh:=by rw [<-List.flatMap_append,List.take_append_drop]
    have hlt:((out.take j).flatMap qh).length=j*2:=by rw [xc,List.length_take];omega
    have hld:((out.drop j).flatMap qh).length=(out.length-j)*2:=by rw [xc,List.length_drop]
    have htake:xK (out.flatMap qh) 0 (j*2)=some ((out.take j).flatMap qh):=by
     rw [yj (by omega),hsplit,List.drop_zero,List.take_append_of_le_length (by omega),List.take_of_length_le (by omega)]
    have hdrop:xK (out.flatMap qh) (j*2) ((out.length-j)*2)=some ((out.drop j).flatMap qh):=by
     rw [yj (by omega),hsplit,<-hlt,List.drop_left,List.take_of_length_le (by omega)]
    have hL:j+1+(out.length-j)=(QQ x out).length:=by simp [QQ,<-hjp];omega
    have hD:((out.take j).flatMap qh++[.c (.int .i64 x.1),.c (.int .i64 x.2)])++(out.drop j).flatMap qh=(QQ x out).flatMap qh:=by
     rw [QQ,<-hjp,List.flatMap_append,List.flatMap_append];rfl
    refine qb ?_;intros;refine YZ (o':=j*2) (n':=out.length-j) rfl rfl rfl hjl (Nat.le_refl _) oM rfl ?_;refine qY (l':=[]) (q:=(out.drop j).flatMap qh) (m:=out.length-j) rfl rfl rfl rfl ⟨rfl,rfl,_,rfl,hdrop⟩ oM oM (by decide) rfl ?_;rw [Nat.zero_add (out.length-j),List.nil_append];refine qb ?_;intros;refine YZ (o':=0) (n':=j) rfl rfl rfl (Nat.zero_le _) hjl oM oM ?_;refine qb ?_;intros;refine qY (l':=(out.take j).flatMap qh) (q:=[.c (.int .i64 x.1),.c (.int .i64 x.2)]) rfl rfl rfl htake ⟨rfl,rfl,_,rfl,rfl⟩ oM oM (by decide) rfl ?_;refine qb ?_;intros;refine qY (q:=(out.drop j).flatMap qh) (m:=out.length-j) rfl rfl rfl (qI _ (by rw [List.length_append,hlt];simp;omega)) ⟨rfl,rfl,_,rfl,qI _ hld⟩ (by omega) (by omega) (by decide) rfl ?_;rw [hL,hD];refine zJ rfl ?_;refine yB (qe (k:=0) rfl (qe (k:=3) rfl (qe (k:=4) rfl (qy _)))) (qe (k:=5) rfl (qy _)) ?_;exact yA hQ
   by_cases hj0:j=0
   ·have g0:decide ((j:Int)>0)=false:=by simp;omega
    refine qU ?_;intros;refine qd rfl (fun ht=>by cases ht) (fun _=>?_);refine y6 ?_;refine qu (qe (k:=0) rfl (qe (k:=3) rfl (qe (k:=4) rfl (qe (k:=5) rfl (qy _))))) (qe (k:=0) rfl (qy _)) ?_;refine fin (by rw [<-hpos,hj0];rfl) _ ?_;refine qb ?_;intros;refine⟨m-1,oM,_,_,_,[(0,5)],?wa,k+1,oM,QQ x out,?ha,rfl,rfl,rfl⟩
    case wa=>exact ql
    case ha=>rw [hstep,vU,if_neg ht2]
   ·obtain⟨i,rfl⟩:∃i,j=i+1:=⟨j-1,oM⟩;have g0:decide (((i+1:Nat):Int)>0)=true:=by simp
    obtain⟨z,hz⟩:∃z,out[i]?=some z:=⟨_,zge oM⟩;have ez:=xi hz;have hp1:wC x out (i+1)=if xq x z=true then wC x out i else i+1:=by simp only [wC,hz]
    refine qU ?_;intros;rw [show IntKind.i64.wrap (((i+1:Nat):Int)-1)=(i:Nat) by rw [qo (by omega) (by omega)];omega];refine qU ?_;intros;refine qk rfl rfl (IR (a:=x) (b:=z)) ?_;rintro _ rfl;cases hb:xq x z with
    |true=>
     refine qU ?_;intros;refine qd rfl (fun _=>?_) (fun ht=>by cases ht);refine qb ?_;intros;rw [show IntKind.i64.wrap (((i+1:Nat):Int)-1)=(i:Nat) by rw [qo (by omega) (by omega)];omega];refine⟨i,oM,_,_,_,[],?wk3,i,rfl,oM,?hp,rfl,rfl,rfl⟩
     case wk3=>exact ql
     case hp=>rw [<-hpos,hp1,if_pos hb]
    |false=>
     refine qU ?_;intros;refine qd rfl (fun ht=>by cases ht) (fun _=>?_);refine y6 ?_;refine qu (qe (k:=0) rfl (qe (k:=3) rfl (qe (k:=4) rfl (qe (k:=5) rfl (qy _))))) (qe (k:=0) rfl (qy _)) ?_;refine fin (by rw [<-hpos,hp1,if_neg (by rw [hb];decide)]) _ ?_;refine qb ?_;intros;refine⟨m-1,oM,_,_,_,[(0,5)],?wb,k+1,oM,QQ x out,?hb2,rfl,rfl,rfl⟩
     case wb=>exact ql
     case hb2=>rw [hstep,vU,if_neg ht2]
 ·simp at ht;refine qu (qe (k:=3) rfl (qy _)) (qe (k:=0) rfl (qy _)) ?_;refine xn 0 rfl qR qR ?_;refine qb ?_;intros;refine qf ⟨_,rfl,rfl,?_⟩;rw [List.take_of_length_le (by omega)] at hout;subst hout;rfl
end Go.Ag
