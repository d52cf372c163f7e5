/- -/
import Derived.Test.YtbfbplnghpdmhaaGreatDoorAb4
import Derived.Laws.IdiomStrings
import Derived.WideKeyRuns
import Derived.Laws.IdiomRangeMap
set_option linter.unusedSimpArgs false
set_option linter.unusedVariables false
namespace Go.Ab
def IQ(nx:Next)(x:Value):Prop:=nx=.value x\/(nx=.skip/\x=Go.undef)
section
variable{P:Program}{G n:Nat}{μ:Nat->Pl}{K:Nat->Prop}{H H':Hp}{w:World}{F:T V}{a:Act}
theorem Rel.setMap (hR:Rel G μ K H w) {b:Nat} {es es':List (V × V)} {ces:Array MapEntry} {clk:Nat} (hb:H.get b=some (.mp es))
 (ha:qg (fun (e:V × V) (x:MapEntry)=>yf μ K e.1 x.key/\yf μ K e.2 x.val) es' ces.toList) (c2:Nat) (hclk:clk=c2):
 Rel G μ K (H.add b (.mp es')) { w with heap:=w.heap.setIfInBounds (μ b).blk (.map ces clk) }/\Fr μ K H w μ K (H.add b (.mp es')) { w with heap:=w.heap.setIfInBounds (μ b).blk (.map ces clk) }:=by
 have hlt:=hR.blk_lt hb;have hh:∀i,(w.heap.setIfInBounds (μ b).blk (.map ces clk))[i]?=if i=(μ b).blk then some (.map ces clk) else w.heap[i]?:=fun i=>by
  rw [Array.getElem?_setIfInBounds];by_cases e:(μ b).blk=i
  ·subst e;simp [hlt]
  ·rw [if_neg e,if_neg (fun h=>e h.symm)]
 constructor
 ·refine⟨fun i k hi=>?_,hR.lt,fun i k hi=>?_,fun i j k1 k2 h1 h2 hm he=>?_,hR.glob⟩
  ·rw [Hp.get_add] at hi;split at hi
   ·rename_i e;subst e;exact hR.dom _ _ hb
   ·exact hR.dom _ _ hi
  ·rw [Hp.get_add] at hi;simp only [hh];split at hi
   ·rename_i e;subst e;obtain rfl:=zsi hi;exact⟨ces,clk,by simp,ha⟩
   ·rename_i e;rw [if_neg (fun he=>e (hR.inj b i _ _ hb hi rfl he.symm).symm)];exact hR.blk i k hi
  ·rw [Hp.get_add] at h1 h2;have f1:∃k,H.get i=some k/\k.mut=true:=by
    split at h1
    ·rename_i e;subst e;exact⟨_,hb,rfl⟩
    ·exact⟨_,h1,hm⟩
   have f2:∃k,H.get j=some k:=by
    split at h2
    ·rename_i e;subst e;exact⟨_,hb⟩
    ·exact⟨_,h2⟩
   obtain⟨_,g1,gm⟩:=f1;obtain⟨_,g2⟩:=f2;exact hR.inj _ _ _ _ g1 g2 gm he
 ·refine⟨⟨rfl,rfl,rfl,Nat.le_refl _⟩,by simp,fun i _ hne=>?_,fun i k hi hm=>?_,fun i k hi hk=>?_,fun _ _=>rfl,fun _ h=>h,fun _ _ h=>h,Nat.le_refl _,fun i hi hn=>?_,fun i k1 k2 e1 e2=>?_,fun i k1 e1 hm=>?_⟩
  ·simp only [hh];rw [if_neg (fun e=>hne b _ hb rfl e.symm)]
  ·rw [Hp.get_add] at hi;split at hi
   ·rename_i e;subst e;exact .inl ⟨i,_,hb,rfl,rfl⟩
   ·exact .inl ⟨i,k,hi,hm,rfl⟩
  ·rw [Hp.get_add] at hk;split at hk
   ·obtain rfl:=zsi hk;exact .inl rfl
   ·exact absurd (hR.lt' i k hk) (by omega)
  ·rw [Hp.get_add];split
   ·rename_i e;subst e;rw [hb] at hn;cases hn
   ·exact hn
  ·rw [Hp.get_add] at e2;split at e2
   ·rename_i e;subst e;rw [hb] at e1;rw [<-zsi e1,<-zsi e2];rfl
   ·rw [e1] at e2;rw [zsi e2]
  ·rw [Hp.get_add];split
   ·rename_i e;subst e;rw [hb] at e1;rw [<-zsi e1] at hm;cases hm
   ·exact e1
theorem Rel.setB(hR:Rel G μ K H w){b:Nat}{bk bk':B}{o:Obj}(hb:H.get b=some bk)(hm:bk.mut=true)(hm':bk'.mut=true)(ho:RB μ K (μ b) bk' (some o)):
 Rel G μ K (H.add b bk') { w with heap:=w.heap.setIfInBounds (μ b).blk o }/\Fr μ K H w μ K (H.add b bk') { w with heap:=w.heap.setIfInBounds (μ b).blk o }:=by
 have hlt:=hR.blk_lt hb;have hh:∀i,(w.heap.setIfInBounds (μ b).blk o)[i]?=if i=(μ b).blk then some o else w.heap[i]?:=fun i=>by
  rw [Array.getElem?_setIfInBounds];by_cases e:(μ b).blk=i
  ·subst e;simp [hlt]
  ·rw [if_neg e,if_neg (fun h=>e h.symm)]
 constructor
 ·refine⟨fun i k hi=>?_,hR.lt,fun i k hi=>?_,fun i j k1 k2 h1 h2 hm1 he=>?_,hR.glob⟩
  ·rw [Hp.get_add] at hi;split at hi
   ·rename_i e;subst e;exact hR.dom _ _ hb
   ·exact hR.dom _ _ hi
  ·rw [Hp.get_add] at hi;simp only [hh];split at hi
   ·rename_i e;subst e;obtain rfl:=zsi hi;simpa using ho
   ·rename_i e;rw [if_neg (fun he=>e (hR.inj b i _ _ hb hi hm he.symm).symm)];exact hR.blk i k hi
  ·rw [Hp.get_add] at h1 h2;have f1:∃k,H.get i=some k/\k.mut=true:=by
    split at h1
    ·rename_i e;subst e;exact⟨_,hb,hm⟩
    ·exact⟨_,h1,hm1⟩
   have f2:∃k,H.get j=some k:=by
    split at h2
    ·rename_i e;subst e;exact⟨_,hb⟩
    ·exact⟨_,h2⟩
   obtain⟨_,g1,gm⟩:=f1;obtain⟨_,g2⟩:=f2;exact hR.inj _ _ _ _ g1 g2 gm he
 ·refine⟨⟨rfl,rfl,rfl,Nat.le_refl _⟩,by simp,fun i _ hne=>?_,fun i k hi hmk=>?_,fun i k hi hk=>?_,fun _ _=>rfl,fun _ h=>h,fun _ _ h=>h,Nat.le_refl _,fun i hi hn=>?_,fun i k1 k2 e1 e2=>?_,fun i k1 e1 hmk=>?_⟩
  ·simp only [hh];rw [if_neg (fun e=>hne b _ hb hm e.symm)]
  ·rw [Hp.get_add] at hi;split at hi
   ·rename_i e;subst e;exact .inl ⟨i,_,hb,hm,rfl⟩
   ·exact .inl ⟨i,k,hi,hmk,rfl⟩
  ·rw [Hp.get_add] at hk;split at hk
   ·obtain rfl:=zsi hk;exact .inl hm'
   ·exact absurd (hR.lt' i k hk) (by omega)
  ·rw [Hp.get_add];split
   ·rename_i e;subst e;rw [hb] at hn;cases hn
   ·exact hn
  ·rw [Hp.get_add] at e2;split at e2
   ·rename_i e;subst e;rw [hb] at e1;rw [<-zsi e1,<-zsi e2,hm,hm']
   ·rw [e1] at e2;rw [zsi e2]
  ·rw [Hp.get_add];split
   ·rename_i e;subst e;rw [hb] at e1;rw [<-zsi e1,hm] at hmk;cases hmk
   ·exact e1
theorem ZI{t:TypeId}(h:ZJ P t=true):∃f g i j,P.underlying t=some (.struct #[f,g])/\P.underlying f.type=some (.int i)/\P.underlying g.type=some (.int j)/\f.name≠"_"/\g.name≠"_"/\f.offset=0/\g.offset=1/\P.stoodInHeld t=false:=by
 unfold ZJ at h;split at h
 ·rename_i fs hu;split at h
  ·rename_i f g hfs;split at h
   ·rename_i i j hf hg;simp only [xr,xQ,beq_iff_eq,Bool.not_eq_true'] at h;refine⟨f,g,i,j,?_,hf,hg,h.1,h.2.1,h.2.2.1,h.2.2.2.1,h.2.2.2.2⟩;have:fs=#[f,g]:=by apply Array.ext';simpa using hfs
    rw [hu,this]
   ·cases h
  ·cases h
 ·cases h
theorem Xl{t:TypeId}(h:ZJ P t=true){e:Bool}{n:Nat}{k k':IntKind}{a b:Int}:(Instr.checkKey e (n+2) t (.agg #[.int k a,.int k' b])).run P w=.ok () w:=by
 obtain⟨f,g,i,j,hu,hf,hg,n1,n2,o1,o2,_⟩:=ZI h;simp [Instr.checkKey,run_underlying hu,run_underlying hf,run_underlying hg,n1,n2,o1,o2,part,isAgg]
theorem FO{t:TypeId}(h:ZJ P t=true){k k':IntKind}{a b c d:Int}:(Op.equal t (.agg #[.int k a,.int k' b]) (.agg #[.int k c,.int k' d])).run P w=.ok (a==c&&b==d) w:=by
 obtain⟨f,g,i,j,hu,hf,hg,n1,n2,o1,o2,hs⟩:=ZI h;have hfo:P.fieldsOf t=#[f,g]:=by simp [Program.fieldsOf,hu]
 show (Op.equalIn (9999+1) t _ _).run P w=_
 rw [run_equalIn_struct w 9999 t _ _ (by rw [hfo];exact hu) hs,hfo];refine bI (μ:=fun _=>⟨0,0,0⟩) (K:=fun _=>True) 9998 (xs:=[.int k a,.int k' b]) (ys:=[.int k c,.int k' d]) (vx:=[.int k a,.int k' b]) (vy:=[.int k c,.int k' d]) ⟨rfl,rfl,trivial⟩ ⟨rfl,rfl,trivial⟩ (ks:=[(0,false),(1,false)]) (by simp [Q0,n1,n2,hf,hg,o1,o2]) ?_;simp only [Kg,sC,List.getElem?_cons_zero,List.getElem?_cons_succ,if_true];cases h1:(a==c)<;>cases h2:(b==d)<;>simp
theorem QC{l:List C}(h:QX l=true):∃k a k' b,l=[.int k a,.int k' b]:=by
 unfold QX at h;split at h
 ·exact⟨_,_,_,_,rfl⟩
 ·cases h
theorem Qj{t:TypeId}(ht:ZJ P t=true){k k':IntKind}{a b:Int}:∀{es:List (V × V × Nat)} {ces:List MapEntry} {i:Nat} {r:Option Nat},qg (fun (e:V × V × Nat) (x:MapEntry)=>yf μ K e.1 x.key/\yf μ K e.2.1 x.val/\e.2.2=x.born) es ces->
 vi [.int k a,.int k' b] es i=some r->
 (r=none/\(Instr.findAsking t (.agg #[.int k a,.int k' b]) ces i).run P w=.ok none w)\/∃j x,r=some j/\(Instr.findAsking t (.agg #[.int k a,.int k' b]) ces i).run P w=.ok (some (j,x)) w/\i<=j/\
  ∃ce,ces[j-i]?=some ce/\ce.key=.agg #[.int k a,.int k' b]/\x=ce.val
 |[],[],i,r,_,h=>by simp [vi] at h;subst h;exact .inl ⟨rfl,by simp [Instr.findAsking]⟩
 |e::es,c::ces,i,r,ha,h=>by
  simp only [vi] at h;cases hk:cK [.int k a,.int k' b] e.1 with
  |none=>simp [hk] at h
  |some q=>
   obtain⟨e1,e2⟩:=e;have hkey:∃c d,e1=.agg [.int k c,.int k' d]/\q=(a==c&&b==d):=by
    unfold cK at hk;split at hk
    ·rename_i k1 a1 k2 b1 j1 c1 j2 d1 e3 e4;obtain⟨⟨rfl,rfl⟩,⟨rfl,rfl⟩⟩:(k=k1/\a=a1)/\(k'=k2/\b=b1):=by simpa using e3
     split at hk
     ·rename_i hkk;obtain⟨rfl,rfl⟩:=hkk;exact⟨_,_,e4,(zsi hk).symm⟩
     ·cases hk
    ·cases hk
   obtain⟨x,y,rfl,rfl⟩:=hkey;have hck:c.key=.agg #[.int k x,.int k' y]:=by
    obtain⟨xs,h1,h2⟩:=ha.1.1
    match xs,h2 with
    |[p,q],h2=>
     obtain⟨h3,h4,_⟩:=h2;rw [h1,show p=.int k x from h3,show q=.int k' y from h4]
   simp only [Instr.findAsking,Sem.run_bind,hck,FO ht,Result.andThen_ok];cases hb:(a==x&&b==y) with
   |true=>
    simp only [hk,hb,zoi] at h;subst h;have:a=x/\b=y:=by simpa using hb
    obtain⟨rfl,rfl⟩:=this;exact .inr ⟨i,c.val,rfl,by simp,Nat.le_refl _,c,by simp,hck,rfl⟩
   |false=>
    simp only [hk,hb] at h;rcases Qj ht ha.2 h with⟨h1,h2⟩|⟨j,v,h1,h2,h3,ce,h5⟩
    ·exact .inl ⟨h1,by simpa using h2⟩
    ·refine .inr ⟨j,v,h1,by simpa using h2,by omega,ce,?_⟩;rw [show j-i=(j-(i+1))+1 by omega];simpa using h5
 |[],_::_,_,_,ha,_=>ha.elim
 |_::_,[],_,_,ha,_=>ha.elim
theorem p7{s:Nat}:∀{es:List (V × V × Nat)} {ces:List MapEntry} {e:V × V × Nat},qg (fun (e:V × V × Nat) (x:MapEntry)=>yf μ K e.1 x.key/\yf μ K e.2.1 x.val/\e.2.2=x.born) es ces->
 es.find? (fun e=>e.2.2==s)=some e->∃x,ces.find? (fun x=>x.born==s)=some x/\yf μ K e.1 x.key/\yf μ K e.2.1 x.val/\e.2.2=x.born
 |[],_,_,_,h=>by cases h
 |e0::es,c::ces,e,ha,h=>by
  rw [List.find?_cons] at h ⊢;rw [<-ha.1.2.2];cases hb:(e0.2.2==s) with
  |true=>
   simp only [hb,zoi] at h;subst h;exact⟨c,rfl,ha.1⟩
  |false=>
   simp only [hb] at h;exact p7 ha.2 h
 |_::_,[],_,ha,_=>ha.elim
theorem lP{v:V}{x:Value}(h:kf v=true)(hv:RV μ K v x):yf μ K v x:=by
 cases v with
 |one c=>exact hv
 |agg l=>exact hv
 |tup l=>simp [kf] at h
theorem qg.erase{α β:Type}{R:α->β->Prop}:∀{l:List α} {m:List β} (_:qg R l m) (i:Nat),qg R (l.eraseIdx i) (m.eraseIdx i)
 |[],[],_,_=>trivial
 |_::_,_::_,h,0=>h.2
 |_::_,_::_,h,i+1=>⟨h.1,qg.erase h.2 i⟩
 |[],_::_,h,_=>h.elim
 |_::_,[],h,_=>h.elim
theorem uB{α:Type}(a:Array α){i:Nat}{x:α}(h:a[i]?=some x):(a.eraseIdxIfInBounds i).toList=a.toList.eraseIdx i:=by
 have hi:i<a.size:=(Array.getElem?_eq_some_iff.1 h).1;unfold Array.eraseIdxIfInBounds;rw [dif_pos hi,Array.toList_eraseIdx]
theorem aJ{k:Value}{l:List C}(h:RV μ K (.agg l) k){k1 k2:IntKind}{a1 b1:Int}(hl:l=[.int k1 a1,.int k2 b1]):k=.agg #[.int k1 a1,.int k2 b1]:=by
 subst hl;obtain⟨xs,h1,h2⟩:=h
 match xs,h2 with
 |[p,q],h2=>
  obtain⟨h3,h4,_⟩:=h2;rw [h1,show p=_ from h3,show q=_ from h4]
theorem qaa(hR:Rel G μ K H w)(hF:z6 μ K n F a.tmps){o:Oper}{p:EffOp}{v:V}(hc:bW P G n o=some p)(h:xq F H p=some (v,H')):
 ∃nx x w' μ' K',(execOp a.eval o).run P w=.ok nx w'/\IQ nx x/\RV μ' K' v x/\Rel G μ' K' H' w'/\Fr μ K H w μ' K' H' w':=by
 unfold bW at hc;split at hc
 case _ t x y ho=>
  split at hc
  ·rename_i s dx dy hs hx hy;obtain rfl:=zsi hc;have vx:=xf hR hF hx;have vy:=xf hR hF hy;simp only [xq] at h;split at h
   ·rename_i b o' cs ex ec;split at h
    ·rename_i hlen;simp only [zom,zpi] at h;obtain⟨H1,hst,rfl,rfl⟩:=h;rw [ex] at vx;obtain⟨hk,vx'⟩:K b/\a.eval x=.pointer (some ((μ b).addr o')):=vx;have hcs:=W8 vy ec;obtain⟨w',hrun,hR',hF'⟩:=Rel.stores (P:=P) (o:=o') (i:=0) hR hst hcs;refine⟨.skip,Go.undef,w',μ,K,?_,.inr ⟨rfl,rfl⟩,RV.undef,hR',hF'⟩;have hsz:(a.eval y).cells.size=s:=by have:=hcs.len;simp at this;omega
     have hrun':(storeCells ((μ b).addr o') (a.eval y).cells.toList).run P w=.ok () w':=hrun;simp [execOp,ho,Instr.storeAt,vx',Instr.sureAddr,storeVar,zX hs,hsz,hrun']
    ·cases h
   ·cases h
  ·cases hc
 case _ t m k x ho=>
  split at hc
  ·rename_i kt et dm dk dx hu hm hk hx;split at hc
   ·rename_i k0 hkt;obtain rfl:=zsi hc;have vm:=xf hR hF hm;have vk:=xf hR hF hk;have vx:=xf hR hF hx;simp only [xq] at h;split at h
    ·rename_i b em;split at h
     ·rename_i es hget;split at h
      ·rename_i hcond;rw [xr] at hcond;obtain⟨kk,q,hq⟩:=aY hcond.1;rw [em] at vm;rw [hq] at vk;have vk':a.eval k=.int kk q:=vk;obtain⟨hkb,vm'⟩:K b/\a.eval m=.map (some (μ b).blk):=vm;have vx1:=lP hcond.2 vx;obtain⟨ces,clk,hob,hall⟩:=hR.blk b _ hget;have hobj:(getObj (μ b).blk).run P w=.ok (.map ces clk) w:=by simp [getObj,Sem.run,hob]
       have hset:∀ob,(setObj (μ b).blk ob).run P w=.ok () { w with heap:=w.heap.setIfInBounds (μ b).blk ob }:=fun ob=>by simp [setObj,Sem.run,hob]
       rw [hq] at h;split at h
       ·rename_i hf;simp only [zoi,zpi] at h;obtain⟨rfl,rfl⟩:=h;rcases ZH (k0:=k0) hall hf with⟨_,h2⟩|⟨j,v,x,h1,_⟩
        ·obtain⟨r1,r2⟩:=hR.setMap (es':=es++[(.one (.int kk q),dx.ev F)]) (ces:=ces.push { key:=.int kk q,val:=a.eval x,born:=clk }) (clk:=clk+1) hget (by
          simp only [Array.toList_push];exact hall.append ⟨⟨rfl,vx1⟩,trivial⟩) _ rfl
         refine⟨.skip,Go.undef,_,μ,K,?_,.inr ⟨rfl,rfl⟩,RV.undef,r1,r2⟩;simp [execOp,ho,Instr.mapUpdate,vm',vk',run_underlying hu,hobj,ve (d:=9999) hkt,Instr.findKey,run_underlying hkt,h2,hset]
        ·cases h1
       ·rename_i jj vv hf;simp only [zoi,zpi] at h;obtain⟨rfl,rfl⟩:=h;rcases ZH (k0:=k0) hall hf with⟨h1,_⟩|⟨j,v,y,h1,h2,h3,_,e',ce,h5,h6,h7,h8,h9⟩
        ·cases h1
        ·obtain⟨rfl,rfl⟩:jj=j/\vv=v:=by simpa using h1
         have h7':ces[jj]?=some ce:=by simpa using h7
         obtain⟨r1,r2⟩:=hR.setMap (es':=cQ es jj (dx.ev F)) (ces:=ces.modify jj fun e=>{ e with key:=.int kk q,val:=a.eval x }) (clk:=clk) hget (by
          refine qg.mk (by have:=hall.len;simp [cQ] at this ⊢;exact this) fun i e1 e2 g1 g2=>?_;simp only [cQ,List.getElem?_modify] at g1;rw [Array.getElem?_toList,Array.getElem?_modify] at g2;by_cases hij:jj=i
          ·subst hij;simp only [if_true,Option.map_eq_map,zom] at g1 g2;obtain⟨e0,g1,rfl⟩:=g1;obtain⟨c0,g2,rfl⟩:=g2;have hee:e0=e':=by
            have:es[jj]?=some e':=by simpa using h5
            rw [this] at g1;exact (zsi g1).symm
           subst hee;exact⟨by rw [h9];exact rfl,vx1⟩
          ·simp only [hij,if_false] at g1 g2;have g1':es[i]?=some e1:=by simpa using g1
           obtain⟨b',hb',hr⟩:=hall.at i e1 g1';rw [Array.getElem?_toList,g2] at hb';obtain rfl:=zsi hb';exact hr) _ rfl
         refine⟨.skip,Go.undef,_,μ,K,?_,.inr ⟨rfl,rfl⟩,RV.undef,r1,r2⟩;have hstay:(Instr.keyThatStays ce.key (.int kk q)).run P w=.ok (.int kk q) w:=by rw [h8];simp [Instr.keyThatStays,Instr.sameBits]
         simp [execOp,ho,Instr.mapUpdate,vm',vk',run_underlying hu,hobj,ve (d:=9999) hkt,Instr.findKey,run_underlying hkt,h2,h7',hstay,hset]
       ·cases h
      ·cases h
     ·cases h
    ·cases h
   ·split at hc
    ·rename_i hpt;obtain rfl:=zsi hc;have vm:=xf hR hF hm;have vk:=xf hR hF hk;have vx:=xf hR hF hx;have hwide:(match P.underlying kt with|some (.array _ _)|some (.struct _)=>true|_=>false)=true:=by
      obtain⟨f,g,i,j,hu',_⟩:=ZI hpt;rw [hu']
     simp only [xq] at h;split at h
     ·rename_i b l c em ek ex;split at h
      ·rename_i es clk hget;rw [em] at vm;rw [ek] at vk;rw [ex] at vx;obtain⟨hkb,vm'⟩:K b/\a.eval m=.map (some (μ b).blk):=vm;obtain⟨ces,_,hob,hall⟩:=hR.blk b _ hget;have hobj:(getObj (μ b).blk).run P w=.ok (.map ces clk) w:=by simp [getObj,Sem.run,hob]
       have hset:∀ob,(setObj (μ b).blk ob).run P w=.ok () { w with heap:=w.heap.setIfInBounds (μ b).blk ob }:=fun ob=>by simp [setObj,Sem.run,hob]
       have hkv:∀{k1 k2:IntKind} {a1 b1:Int},l=[.int k1 a1,.int k2 b1]->a.eval k=.agg #[.int k1 a1,.int k2 b1]:=fun hl=>by
        subst hl;obtain⟨xs,h1,h2⟩:=vk
        match xs,h2 with
        |[p,q],h2=>
         obtain⟨h3,h4,_⟩:=h2;rw [h1,show p=_ from h3,show q=_ from h4]
       split at h
       ·rename_i hl hf;obtain⟨k1,a1,k2,b1,rfl⟩:=QC hl;have vk':=hkv rfl;simp only [zoi,zpi] at h;obtain⟨rfl,rfl⟩:=h;rcases Qj (w:=w) hpt hall hf with⟨_,h2⟩|⟨j,y,h1,_⟩
        ·obtain⟨r1,r2⟩:=hR.setB (bk':=.st (es++[(.agg [.int k1 a1,.int k2 b1],.one c,clk)]) (clk+1)) (o:=.map (ces.push { key:=.agg #[.int k1 a1,.int k2 b1],val:=a.eval x,born:=clk }) (clk+1)) hget rfl rfl
          ⟨_,(),rfl,by
           simp only [Array.toList_push];exact hall.append ⟨⟨⟨_,rfl,rfl,rfl,trivial⟩,vx,rfl⟩,trivial⟩⟩
         refine⟨.skip,Go.undef,_,μ,K,?_,.inr ⟨rfl,rfl⟩,RV.undef,r1,r2⟩;simp [execOp,ho,Instr.mapUpdate,vm',vk',run_underlying hu,hobj,Xl (n:=9998) hpt,run_findKey_eq w hwide,h2,hset]
        ·cases h1
       ·rename_i jj hl hf;obtain⟨k1,a1,k2,b1,rfl⟩:=QC hl;have vk':=hkv rfl;simp only [zoi,zpi] at h;obtain⟨rfl,rfl⟩:=h;rcases Qj (w:=w) hpt hall hf with⟨h1,_⟩|⟨j,y,h1,h2,_,ce,h7,h8,_⟩
        ·cases h1
        ·obtain rfl:=zsi h1;have h7':ces[jj]?=some ce:=by simpa using h7
         obtain⟨r1,r2⟩:=hR.setB (bk':=.st (Vn es jj (.one c)) clk) (o:=.map (ces.modify jj fun e=>{ e with key:=.agg #[.int k1 a1,.int k2 b1],val:=a.eval x }) clk) hget rfl rfl
          ⟨_,(),rfl,by
           refine qg.mk (by have:=hall.len;simp [Vn] at this ⊢;exact this) fun i e1 e2 g1 g2=>?_;simp only [Vn,List.getElem?_modify] at g1;rw [Array.getElem?_toList,Array.getElem?_modify] at g2;by_cases hij:jj=i
           ·subst hij;simp only [if_true,Option.map_eq_map,zom] at g1 g2;obtain⟨e0,g1,rfl⟩:=g1;obtain⟨c0,g2,rfl⟩:=g2;obtain⟨b',hb',hr⟩:=hall.at jj e0 g1;rw [Array.getElem?_toList,g2] at hb';obtain rfl:=zsi hb';rw [h7'] at g2;obtain rfl:=zsi g2;exact⟨by rw [<-h8];exact hr.1,vx,hr.2.2⟩
           ·simp only [hij,if_false] at g1 g2;have g1':es[i]?=some e1:=by simpa using g1
            obtain⟨b',hb',hr⟩:=hall.at i e1 g1';rw [Array.getElem?_toList,g2] at hb';obtain rfl:=zsi hb';exact hr⟩
         refine⟨.skip,Go.undef,_,μ,K,?_,.inr ⟨rfl,rfl⟩,RV.undef,r1,r2⟩;have hstay:(Instr.keyThatStays ce.key (.agg #[.int k1 a1,.int k2 b1])).run P w=.ok (.agg #[.int k1 a1,.int k2 b1]) w:=by rw [h8];simp [Instr.keyThatStays,Instr.sameBits]
         simp [execOp,ho,Instr.mapUpdate,vm',vk',run_underlying hu,hobj,Xl (n:=9998) hpt,run_findKey_eq w hwide,h2,h7',hstay,hset]
       ·cases h
      ·cases h
     ·cases h
    ·cases hc
  ·cases hc
 case _ args ts ho=>
  split at hc
  ·rename_i s x t t' hargs hts;have hargs':args=#[s,x]:=by cases args;simp_all
   have hts':ts=#[t,t']:=by cases ts;simp_all
   subst hargs' hts';split at hc
   ·rename_i e e' ds dx hu hu' hs hx;split at hc
    ·rename_i i z hi hz;split at hc
     ·rename_i hzl;obtain rfl:=zsi hc;have vs:=xf hR hF hs;have vx:=xf hR hF hx;simp only [xq] at h;split at h
      ·rename_i m news hsrc;obtain⟨i',zv,hi',hzv,hall⟩:=Qh (μ:=μ) (K:=K) hz;obtain rfl:i=i':=by rw [hi] at hi';exact zsi hi'
       have hzs:zv.cells.size=i.size:=by have:=hall.len;simp at this;omega
       obtain⟨r,w',μ',K',h1,h2,h3,h4⟩:=EL (P:=P) (ty:=o.type) hR hu hu' hi hzv hzs vs vx hsrc h;exact⟨.value r,r,w',μ',K',by simp [execOp,ho,resolve,invoke,builtin,h1],.inl rfl,h2,h3,h4⟩
      ·cases h
     ·cases hc
    ·cases hc
   ·rename_i e kk ds dx hu hu' hs hx;split at hc
    ·rename_i i z hi hz;split at hc
     ·rename_i hzl;obtain rfl:=zsi hc;have vs:=xf hR hF hs;have vx:=xf hR hF hx;simp only [xq] at h;split at h
      ·rename_i kq q he;split at h
       ·rename_i hq;obtain⟨i',zv,hi',hzv,hall⟩:=Qh (μ:=μ) (K:=K) hz;obtain rfl:i=i':=by rw [hi] at hi';exact zsi hi'
        have hzs:zv.cells.size=i.size:=by have:=hall.len;simp at this;omega
        rw [he] at vx;have vx':a.eval x=.int kq q:=vx;obtain⟨r,w',μ',K',h1,h2,h3,h4⟩:=u4 (P:=P) (ty:=o.type) (kq:=kq) hR hu hu' hi hzv hzs hzl.2 vs hall hq.2.1 hq.2.2 h;rw [Int.toNat_of_nonneg hq.1] at h1;exact⟨.value r,r,w',μ',K',by simp [execOp,ho,resolve,invoke,builtin,vx',h1],.inl rfl,h2,h3,h4⟩
       ·cases h
      ·cases h
     ·cases hc
    ·cases hc
   ·cases hc
  ·cases hc
 case _ args ts ho=>
  split at hc
  ·rename_i s x t rest hargs hts;have hargs':args=#[s,x]:=by cases args;simp_all
   subst hargs';have hts':ts[0]?=some t:=by cases ts;simp_all
   split at hc
   ·rename_i e ds dx hu hs hx;simp only [zom] at hc;obtain⟨k,hk,rfl⟩:=hc;have vs:=xf hR hF hs;have vx:=xf hR hF hx;simp only [xq] at h;split at h
    ·rename_i sm em hsrc;simp only [zoi,zpi] at h;obtain⟨rfl,rfl⟩:=h;obtain⟨m,cs⟩:=sm;obtain⟨hlen,hcl,xs,hxs,hfirst⟩:=gT (P:=P) hR vx hsrc;rw [em] at vs;have vs':a.eval s=.slice none 0 0:=vs;have hf0:=hfirst 0 (by omega) w.drawn;have hf0':(Builtin.firstCells k 0 (a.eval x)).run P w=.ok #[] w:=by simpa using hf0
     refine⟨.value (.int .i64 0),.int .i64 0,w,μ,K,?_,.inl rfl,rfl,hR,Fr.refl hR⟩;have hmin:Nat.min m 0=0:=Nat.min_zero m;simp [execOp,ho,resolve,invoke,builtin,Builtin.copy_,hts',vs',run_underlying hu,hlen,zX hk,hf0',goInt]
    ·rename_i b o' len cap e0 ex m cs em hsrc;split at h
     ·rename_i he;subst he;simp only [zom,zpi] at h;obtain⟨H1,hst,rfl,rfl⟩:=h;obtain⟨hlen,hcl,xs,hxs,hfirst⟩:=gT (P:=P) hR vx hsrc;rw [em] at vs;obtain⟨hb,ad,c,vs',h1,h2,h3,h4⟩:RC μ K (.slc b o' len cap e0 ex) (a.eval s):=vs;have hf0:=hfirst (min m len) (by omega) w.drawn;have hf0':(Builtin.firstCells e0 (min m len) (a.eval x)).run P w=.ok (xs.take (min m len*e0)).toArray w:=hf0;rcases h4 with h4|⟨rfl,h5⟩
      ·have hl0:len=0:=by omega
       subst hl0;simp only [Nat.min_zero,Nat.zero_mul,List.take_zero,Hp.stores,zoi] at hst;subst hst;refine⟨.value (.int .i64 0),.int .i64 0,w,μ,K,?_,.inl rfl,by simp;rfl,hR,Fr.refl hR⟩;simp only [Nat.min_zero,Nat.zero_mul,List.take_zero] at hf0';simp [execOp,ho,resolve,invoke,builtin,Builtin.copy_,hts',vs',run_underlying hu,hlen,zX hk,hf0',goInt,storeCells]
      ·obtain⟨w',hrun,hR',hF'⟩:=Rel.stores (P:=P) (o:=o') (i:=0) hR hst (hxs.take (min m len*e0));refine⟨.value (.int .i64 (min m len:Nat)),.int .i64 (min m len:Nat),w',μ,K,?_,.inl rfl,rfl,hR',hF'⟩;have hrun':(storeCells ((μ b).addr o') (xs.take (min m len*e0))).run P w=.ok () w':=hrun;have hmin:Nat.min m len=min m len:=rfl;simp [execOp,ho,resolve,invoke,builtin,Builtin.copy_,hts',vs',run_underlying hu,hlen,zX hk,hf0',goInt,hrun']
     ·cases h
    ·cases h
   ·cases hc
  ·cases hc
 case _ args ts ho=>
  split at hc
  ·rename_i x t hargs hts;have hargs':args=#[x]:=by cases args;simp_all
   have hts':ts=#[t]:=by cases ts;simp_all
   subst hargs' hts';split at hc
   ·rename_i e dx hu hx;split at hc
    ·rename_i k z hk hz;split at hc
     ·rename_i hzl;obtain rfl:=zsi hc;have vx:=xf hR hF hx;simp only [xq] at h;split at h
      ·rename_i em;simp only [zoi,zpi] at h;obtain⟨rfl,rfl⟩:=h;rw [em] at vx;have vx':a.eval x=.slice none 0 0:=vx;refine⟨.value (.tuple #[]),.tuple #[],w,μ,K,?_,.inl rfl,RV.undef,hR,Fr.refl hR⟩;simp [execOp,ho,resolve,invoke,builtin,Builtin.clear_,vx',run_underlying hu]
      ·rename_i b o' len cap e0 ex em;split at h
       ·rename_i he;subst he;simp only [zom,zpi] at h;obtain⟨H1,hst,rfl,rfl⟩:=h;rw [em] at vx;obtain⟨hb,ad,c,vx',h1,h2,h3,h4⟩:RC μ K (.slc b o' len cap e0 ex) (a.eval x):=vx;obtain⟨i',zv,hi',hzv,hall⟩:=Qh (μ:=μ) (K:=K) hz;have hzs:zv.cells.size=e0:=by have:=hall.len;simp at this;omega
        by_cases hl0:len=0
        ·subst hl0;simp only [yS,Nat.zero_mul,List.range_zero,List.map_nil,Hp.stores,zoi] at hst;subst hst;refine⟨.value (.tuple #[]),.tuple #[],w,μ,K,?_,.inl rfl,RV.undef,hR,Fr.refl hR⟩;simp [execOp,ho,resolve,invoke,builtin,Builtin.clear_,vx',run_underlying hu]
        ·rcases h4 with h4|⟨rfl,h5⟩
         ·omega
         ·have hz0:=(Y1 hall (len*e0)).resolve_right (by omega);obtain⟨w',hrun,hR',hF'⟩:=Rel.stores (P:=P) (o:=o') (i:=0) hR hst hz0;refine⟨.value (.tuple #[]),.tuple #[],w',μ,K,?_,.inl rfl,RV.undef,hR',hF'⟩;have hzc:Builtin.zeroCells zv.cells len=(Array.range (len*e0)).map (zv.cells[· % zv.cells.size]!):=by simp [Builtin.zeroCells,hzs]
          have hrun':(storeCells ((μ b).addr o') (Builtin.zeroCells zv.cells len).toList).run P w=.ok () w':=by rw [hzc];exact hrun
          obtain⟨len',rfl⟩:∃l,len=l+1:=⟨len-1,by omega⟩;have hzr:(zeroValue e).run P w=.ok zv w:=by simp [zeroValue,typeInfo,hi',hzv]
          simp [execOp,ho,resolve,invoke,builtin,Builtin.clear_,vx',run_underlying hu,hzr,hrun']
       ·cases h
      ·cases h
     ·cases hc
    ·cases hc
   ·cases hc
  ·cases hc
 case _ src dst x ho=>
  split at hc
  ·rename_i e d hs hd hx;split at hc
   ·rename_i he;obtain rfl:=zsi hc;have vx:=xf hR hF hx;simp only [xq] at h;split at h
    ·rename_i s hsx;simp only [zoi,zpi] at h;obtain⟨rfl,rfl⟩:=h;rw [hsx] at vx;have vx':a.eval x=.string s:=vx;have hrun:=run_bytes_of_string w src dst e s hs hd he;have hnc:s.size<=grownCap w s.size 0 e:=by simp [grownCap,Question.cut]
     have hsz:(bytesRow s (grownCap w s.size 0 e)).size=grownCap w s.size 0 e:=by
      simp only [bytesRow,Array.size_append,Array.size_map,Array.size_replicate];have:s.data.size=s.size:=rfl;omega
     have hrb:RB μ K ⟨w.heap.size,0,grownCap w s.size 0 e⟩ (.row s.size (s.data.toList.map fun b=>.int .u8 b.toNat) .lf false) (some (.cells (bytesRow s (grownCap w s.size 0 e)) e ((bytesRow s (grownCap w s.size 0 e)).size,(bytesRow s (grownCap w s.size 0 e)).size+1))):=by
      refine⟨_,e,_,rfl,hsz,by rw [hsz];simpa using hnc,fun h=>(by cases h),fun i c hc=>?_⟩;simp only [B.cell,T.get_lf,Option.getD_none] at hc;split at hc
      ·rename_i hi;have hl:(s.data.toList.map fun b=>C.int .u8 b.toNat).length=s.size:=by simp
       rw [hl,Nat.mod_eq_of_lt hi] at hc;have hi':i<s.data.size:=hi;refine⟨.int .u8 (s.data[i].toNat),?_,?_⟩
       ·simp only [Nat.zero_add,bytesRow];rw [Array.getElem?_append_left (by simpa using hi')];simp;exact⟨s.data[i],Array.getElem?_eq_getElem hi',rfl⟩
       ·simp [List.getD_eq_getElem?_getD,hi'] at hc;rw [Array.getElem?_eq_getElem hi'] at hc;simp only [Option.map_some,Option.getD_some] at hc;subst hc;exact rfl
      ·cases hc
     obtain⟨r1,r2⟩:=hR.push' (d:=w.drawn+1) (Nat.le_succ _) hrb;refine⟨.value _,_,_,_,_,by simp only [execOp,ho,vx',hrun,Sem.run_bind,Result.andThen_ok,Sem.run_pure];rfl,.inl rfl,⟨.inr rfl,_,grownCap w s.size 0 e,rfl,Nat.le_refl _,hnc,by simp,.inr ⟨by simp [Pl.addr],by simp⟩⟩,r1,r2⟩
    ·cases h
   ·cases hc
  ·cases hc
 case _ t x ho=>
  split at hc
  ·rename_i kt et dm hu hm;obtain rfl:=zsi hc;have vm:=xf hR hF hm;simp only [xq] at h;split at h
   ·rename_i b em;split at h
    ·rename_i es clk hget;simp only [zoi,zpi] at h;obtain⟨rfl,rfl⟩:=h;rw [em] at vm;obtain⟨hkb,vm'⟩:K b/\a.eval x=.map (some (μ b).blk):=vm;obtain⟨ces,_,hob,hall⟩:=hR.blk b _ hget;have hobj:(getObj (μ b).blk).run P w=.ok (.map ces clk) w:=by simp [getObj,Sem.run,hob]
     have hrb:RB μ K ⟨w.heap.size,0,0⟩ (.it b clk [] clk) (some (.mapIter (some (μ b).blk) clk #[] clk)):=⟨(),(),rfl,hkb,rfl⟩;obtain⟨r1,r2⟩:=hR.push' (d:=w.drawn) (Nat.le_refl _) hrb;refine⟨.value (.pointer (some ⟨w.heap.size,0,none⟩)),_,_,_,_,?_,.inl rfl,⟨.inr rfl,by simp [Pl.addr]⟩,r1,r2⟩;simp [execOp,ho,Instr.range,vm',run_underlying hu,hobj]
    ·cases h
   ·cases h
  ·cases hc
 case _ x ho=>
  simp only [zom] at hc;obtain⟨dx,hx,rfl⟩:=hc;have vx:=xf hR hF hx;simp only [xq] at h;split at h
  ·rename_i b em;split at h
   ·rename_i mb since seen last hget;split at h
    ·rename_i es clk s hgm hls;split at h
     ·rename_i hcl;split at h
      ·rename_i e hfe;simp only [zoi,zpi] at h;obtain⟨rfl,rfl⟩:=h;rw [em] at vx;obtain⟨hkb,vx'⟩:K b/\a.eval x=.pointer (some ((μ b).addr 0)):=vx;obtain⟨_,_,hob,hkm,hoff⟩:=hR.blk b _ hget;obtain⟨ces,_,hom,hall⟩:=hR.blk mb _ hgm;have hpt:(μ b).addr 0=⟨(μ b).blk,0,none⟩:=by simp [Pl.addr,hoff]
       rw [hpt] at vx';have hob1:(getObj (μ b).blk).run P w=.ok (.mapIter (some (μ mb).blk) since seen.toArray last) w:=by simp [getObj,Sem.run,hob]
       have hob2:(getObj (μ mb).blk).run P w=.ok (.map ces clk) w:=by simp [getObj,Sem.run,hom]
       obtain⟨x0,hfx,hr1,hr2,_⟩:=p7 hall hfe;have hback:seen.toArray.back?=some s:=by rw [List.back?_toArray];exact hls
       have hfx':ces.find? (fun e=>e.born==s)=some x0:=by rw [<-Array.find?_toList];exact hfx
       refine⟨.value (.tuple #[x0.key,x0.val]),_,w,μ,K,?_,.inl rfl,⟨[x0.key,x0.val],rfl,hr1,hr2,trivial⟩,hR,Fr.refl hR⟩;simp [execOp,ho,Instr.entry,vx',hob1,hob2,hback,hcl,hfx']
      ·cases h
     ·cases h
    ·cases h
   ·cases h
  ·cases h
 case _ t x i ok ho=>
  split at hc
  ·rename_i kt e m k hu hm hk;split at hc
   ·rename_i ie hpt hie;split at hc
    ·rename_i z hz;simp only [zom] at hc;obtain⟨zv,hzv,rfl⟩:=hc;have vm:=xf hR hF hm;have vk:=xf hR hF hk;have hwide:(match P.underlying kt with|some (.array _ _)|some (.struct _)=>true|_=>false)=true:=by
      obtain⟨f,g,i,j,hu',_⟩:=ZI hpt;rw [hu']
     have hzero:(zeroValue e).run P w=.ok z w:=by simp [zeroValue,typeInfo,hie,hz]
     have hz1:yf μ K zv z:=uU hzv;simp only [xq] at h;split at h
     ·rename_i b l em ek;split at h
      ·rename_i es clk hget;rw [em] at vm;rw [ek] at vk;obtain⟨hkb,vm'⟩:K b/\a.eval x=.map (some (μ b).blk):=vm;obtain⟨ces,_,hob,hall⟩:=hR.blk b _ hget;have hobj:(getObj (μ b).blk).run P w=.ok (.map ces clk) w:=by simp [getObj,Sem.run,hob]
       split at h
       ·rename_i hl hf;obtain⟨k1,a1,k2,b1,rfl⟩:=QC hl;have vk':=aJ vk rfl;simp only [zoi,zpi] at h;obtain⟨rfl,rfl⟩:=h;rcases Qj (w:=w) hpt hall hf with⟨_,h2⟩|⟨j,y,h1,_⟩
        ·refine⟨.value (if ok then .tuple #[z,.bool false] else z),_,w,μ,K,?_,.inl rfl,?_,hR,Fr.refl hR⟩
         ·simp [execOp,ho,Instr.lookup,vm',vk',run_underlying hu,hobj,Xl (n:=9998) hpt,run_findKey_eq w hwide,h2,hzero]
         ·cases ok
          ·simpa [kG] using RV.of1 hz1
          ·exact⟨[z,.bool false],rfl,hz1,rfl,trivial⟩
        ·cases h1
       ·rename_i jj hl hf;obtain⟨k1,a1,k2,b1,rfl⟩:=QC hl;have vk':=aJ vk rfl;split at h
        ·rename_i e0 he0;simp only [zoi,zpi] at h;obtain⟨rfl,rfl⟩:=h;rcases Qj (w:=w) hpt hall hf with⟨h1,_⟩|⟨j,y,h1,h2,_,ce,h7,h8,rfl⟩
         ·cases h1
         ·obtain rfl:=zsi h1;obtain⟨b',hb',hr⟩:=hall.at jj e0 he0;rw [Nat.sub_zero,hb'] at h7;obtain rfl:=zsi h7;refine⟨.value (if ok then .tuple #[b'.val,.bool true] else b'.val),_,w,μ,K,?_,.inl rfl,?_,hR,Fr.refl hR⟩
          ·simp [execOp,ho,Instr.lookup,vm',vk',run_underlying hu,hobj,Xl (n:=9998) hpt,run_findKey_eq w hwide,h2]
          ·cases ok
           ·simpa [kG] using RV.of1 hr.2.1
           ·exact⟨[b'.val,.bool true],rfl,hr.2.1,rfl,trivial⟩
        ·cases h
       ·cases h
      ·cases h
     ·cases h
    ·cases hc
   ·cases hc
  ·cases hc
 case _ args ts ho=>
  split at hc
  ·rename_i x t hargs hts;have hargs':args=#[x]:=by cases args;simp_all
   subst hargs';have hts':ts[0]?=some t:=hts;split at hc
   ·rename_i kt e hu;split at hc
    ·simp only [zom] at hc;obtain⟨d,hd,rfl⟩:=hc;have hv:=xf hR hF hd;simp only [xq] at h;split at h
     ·rename_i b he;rw [he] at hv;obtain⟨hkb,hv'⟩:K b/\a.eval x=.map (some (μ b).blk):=hv;split at h
      ·rename_i es clk hget;simp only [zoi,zpi] at h;obtain⟨rfl,rfl⟩:=h;obtain⟨ces,_,hob,hall⟩:=hR.blk b _ hget;have hobj:(getObj (μ b).blk).run P w=.ok (.map ces clk) w:=by simp [getObj,Sem.run,hob]
       have hlen:=hall.len;refine⟨.value (.int .i64 es.length),_,w,μ,K,?_,.inl rfl,rfl,hR,Fr.refl hR⟩;simp [execOp,ho,resolve,invoke,builtin,Builtin.len_,hts',hv',run_underlying hu,goInt,hobj,hlen]
      ·cases h
     ·cases h
    ·cases hc
   ·cases hc
  ·cases hc
 case _ args ts ho=>
  split at hc
  ·rename_i x y t hargs hts;have hargs':args=#[x,y]:=by cases args;simp_all
   subst hargs';have hts':ts[0]?=some t:=hts;split at hc
   ·rename_i kt e m k hu hm hk;split at hc
    ·rename_i hpt;obtain rfl:=zsi hc;have vm:=xf hR hF hm;have vk:=xf hR hF hk;have hwide:(match P.underlying kt with|some (.array _ _)|some (.struct _)=>true|_=>false)=true:=by
      obtain⟨f,g,i,j,hu',_⟩:=ZI hpt;rw [hu']
     simp only [xq] at h;split at h
     ·rename_i b l em ek;split at h
      ·rename_i es clk hget;rw [em] at vm;rw [ek] at vk;obtain⟨hkb,vm'⟩:K b/\a.eval x=.map (some (μ b).blk):=vm;obtain⟨ces,_,hob,hall⟩:=hR.blk b _ hget;have hobj:(getObj (μ b).blk).run P w=.ok (.map ces clk) w:=by simp [getObj,Sem.run,hob]
       have hset:∀ob,(setObj (μ b).blk ob).run P w=.ok () { w with heap:=w.heap.setIfInBounds (μ b).blk ob }:=fun ob=>by simp [setObj,Sem.run,hob]
       split at h
       ·rename_i hl hf;obtain⟨k1,a1,k2,b1,rfl⟩:=QC hl;have vk':=aJ vk rfl;simp only [zoi,zpi] at h;obtain⟨rfl,rfl⟩:=h;rcases Qj (w:=w) hpt hall hf with⟨_,h2⟩|⟨j,y,h1,_⟩
        ·obtain⟨r1,r2⟩:=hR.setB (bk':=.st es clk) (o:=.map ces clk) hget rfl rfl ⟨_,(),rfl,hall⟩;refine⟨.value (.tuple #[]),.tuple #[],_,μ,K,?_,.inl rfl,RV.undef,r1,r2⟩;simp [execOp,ho,resolve,invoke,builtin,Builtin.delete_,hts',vm',vk',run_underlying hu,hobj,Xl (n:=9998) hpt,run_findKey_eq w hwide,h2,hset]
        ·cases h1
       ·rename_i jj hl hf;obtain⟨k1,a1,k2,b1,rfl⟩:=QC hl;have vk':=aJ vk rfl;simp only [zoi,zpi] at h;obtain⟨rfl,rfl⟩:=h;rcases Qj (w:=w) hpt hall hf with⟨h1,_⟩|⟨j,y,h1,h2,_,ce,h7,h8,_⟩
        ·cases h1
        ·obtain rfl:=zsi h1;have h7':ces[jj]?=some ce:=by simpa using h7
         obtain⟨r1,r2⟩:=hR.setB (bk':=.st (es.eraseIdx jj) clk) (o:=.map (ces.eraseIdxIfInBounds jj) clk) hget rfl rfl ⟨_,(),rfl,by rw [uB ces h7'];exact hall.erase jj⟩;refine⟨.value (.tuple #[]),.tuple #[],_,μ,K,?_,.inl rfl,RV.undef,r1,r2⟩;simp [execOp,ho,resolve,invoke,builtin,Builtin.delete_,hts',vm',vk',run_underlying hu,hobj,Xl (n:=9998) hpt,run_findKey_eq w hwide,h2,hset]
       ·cases h
      ·cases h
     ·cases h
    ·cases hc
   ·cases hc
  ·cases hc
 case _=>cases hc
end
end Go.Ab
