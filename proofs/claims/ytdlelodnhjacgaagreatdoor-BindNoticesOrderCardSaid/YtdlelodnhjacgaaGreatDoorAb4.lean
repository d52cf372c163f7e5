/- -/
import Derived.Test.YtdlelodnhjacgaaGreatDoorAb3
import Derived.Laws.IdiomStrings
import Derived.WideKeyRuns
import Derived.Laws.IdiomRangeMap
set_option linter.unusedSimpArgs false
set_option linter.unusedVariables false
set_option maxRecDepth 8000
namespace Go.Ab
def LK(nx:Next)(x:Value):Prop:=nx=.value x\/(nx=.skip/\x=Go.undef)
section
variable{P:Program}{G n:Nat}{μ:Nat->Pl}{K:Nat->Prop}{H H':Hp}{w:World}{F:T V}{a:Act}
theorem Rel.setMap (hR:Rel G μ K H w) {b:Nat} {es es':List (V × V)} {ces:Array MapEntry} {clk:Nat} (hb:H.get b=some (.mp es))
 (ha:qe (fun (e:V × V) (x:MapEntry)=>z6 μ K e.1 x.key/\z6 μ K e.2 x.val) es' ces.toList) (c2:Nat) (hclk:clk=c2):
 Rel G μ K (H.add b (.mp es')) { w with heap:=w.heap.setIfInBounds (μ b).blk (.map ces clk) }/\Fr μ K H w μ K (H.add b (.mp es')) { w with heap:=w.heap.setIfInBounds (μ b).blk (.map ces clk) }:=by
 have hlt:=hR.blk_lt hb;have hh:∀i,(w.heap.setIfInBounds (μ b).blk (.map ces clk))[i]?=if i=(μ b).blk then some (.map ces clk) else w.heap[i]?:=fun i=>by
  rw [XZ];by_cases e:(μ b).blk=i
  ·subst e;simp [hlt]
  ·rw [if_neg e,if_neg (fun h=>e h.symm)]
 constructor
 ·refine⟨fun i k hi=>?_,hR.lt,fun i k hi=>?_,fun i j k1 k2 h1 h2 hm he=>?_,hR.glob⟩
  ·rw [Hp.get_add] at hi;split at hi
   ·rename_i e;subst e;exact hR.dom _ _ hb
   ·exact hR.dom _ _ hi
  ·rw [Hp.get_add] at hi;simp only [hh];split at hi
   ·rename_i e;subst e;obtain rfl:=zsi hi;exact⟨ces,clk,by simp,ha⟩
   ·rename_i e;rw [if_neg (fun he=>e (hR.inj b i _ _ hb hi rfl he.symm).symm)];exact hR.blk i k hi
  ·rw [Hp.get_add] at h1 h2;have f1:∃k,H.get i=some k/\k.mut=true:=by
    split at h1
    ·rename_i e;subst e;exact⟨_,hb,O⟩
    ·exact⟨_,h1,hm⟩
   have f2:∃k,H.get j=some k:=by
    split at h2
    ·rename_i e;subst e;exact⟨_,hb⟩
    ·exact⟨_,h2⟩
   obtain⟨_,g1,gm⟩:=f1;obtain⟨_,g2⟩:=f2;exact hR.inj _ _ _ _ g1 g2 gm he
 ·refine⟨⟨O,O,O,qz _⟩,by simp,fun i _ hne=>?_,fun i k hi hm=>?_,fun i k hi hk=>?_,fun _ _=>rfl,fun _ h=>h,fun _ _ h=>h,qz _,fun i hi hn=>?_,fun i k1 k2 e1 e2=>?_,fun i k1 e1 hm=>?_⟩
  ·simp only [hh];rw [if_neg (fun e=>hne b _ hb rfl e.symm)]
  ·rw [Hp.get_add] at hi;split at hi
   ·rename_i e;subst e;exact .inl ⟨i,_,hb,O,O⟩
   ·exact .inl ⟨i,k,hi,hm,O⟩
  ·rw [Hp.get_add] at hk;split at hk
   ·obtain rfl:=zsi hk;exact .inl O
   ·exact absurd (hR.lt' i k hk) (by omega)
  ·rw [Hp.get_add];split
   ·rename_i e;subst e;rw [hb] at hn;cases hn
   ·exact hn
  ·rw [Hp.get_add] at e2;split at e2
   ·rename_i e;subst e;rw [hb] at e1;rw [<-zsi e1,<-zsi e2];rfl
   ·rw [e1] at e2;rw [zsi e2]
  ·rw [Hp.get_add];split
   ·rename_i e;subst e;rw [hb] at e1;rw [<-zsi e1] at hm;cases hm
   ·exact e1
theorem Rel.setB(hR:Rel G μ K H w){b:Nat}{bk bk':B}{o:Obj}(hb:H.get b=some bk)(hm:bk.mut=true)(hm':bk'.mut=true)(ho:RB μ K (μ b) bk' (some o)):
 Rel G μ K (H.add b bk') { w with heap:=w.heap.setIfInBounds (μ b).blk o }/\Fr μ K H w μ K (H.add b bk') { w with heap:=w.heap.setIfInBounds (μ b).blk o }:=by
 have hlt:=hR.blk_lt hb;have hh:∀i,(w.heap.setIfInBounds (μ b).blk o)[i]?=if i=(μ b).blk then some o else w.heap[i]?:=fun i=>by
  rw [XZ];by_cases e:(μ b).blk=i
  ·subst e;simp [hlt]
  ·rw [if_neg e,if_neg (fun h=>e h.symm)]
 constructor
 ·refine⟨fun i k hi=>?_,hR.lt,fun i k hi=>?_,fun i j k1 k2 h1 h2 hm1 he=>?_,hR.glob⟩
  ·rw [Hp.get_add] at hi;split at hi
   ·rename_i e;subst e;exact hR.dom _ _ hb
   ·exact hR.dom _ _ hi
  ·rw [Hp.get_add] at hi;simp only [hh];split at hi
   ·rename_i e;subst e;obtain rfl:=zsi hi;simpa using ho
   ·rename_i e;rw [if_neg (fun he=>e (hR.inj b i _ _ hb hi hm he.symm).symm)];exact hR.blk i k hi
  ·rw [Hp.get_add] at h1 h2;have f1:∃k,H.get i=some k/\k.mut=true:=by
    split at h1
    ·rename_i e;subst e;exact⟨_,hb,hm⟩
    ·exact⟨_,h1,hm1⟩
   have f2:∃k,H.get j=some k:=by
    split at h2
    ·rename_i e;subst e;exact⟨_,hb⟩
    ·exact⟨_,h2⟩
   obtain⟨_,g1,gm⟩:=f1;obtain⟨_,g2⟩:=f2;exact hR.inj _ _ _ _ g1 g2 gm he
 ·refine⟨⟨O,O,O,qz _⟩,by simp,fun i _ hne=>?_,fun i k hi hmk=>?_,fun i k hi hk=>?_,fun _ _=>rfl,fun _ h=>h,fun _ _ h=>h,qz _,fun i hi hn=>?_,fun i k1 k2 e1 e2=>?_,fun i k1 e1 hmk=>?_⟩
  ·simp only [hh];rw [if_neg (fun e=>hne b _ hb hm e.symm)]
  ·rw [Hp.get_add] at hi;split at hi
   ·rename_i e;subst e;exact .inl ⟨i,_,hb,hm,O⟩
   ·exact .inl ⟨i,k,hi,hmk,O⟩
  ·rw [Hp.get_add] at hk;split at hk
   ·obtain rfl:=zsi hk;exact .inl hm'
   ·exact absurd (hR.lt' i k hk) (by omega)
  ·rw [Hp.get_add];split
   ·rename_i e;subst e;rw [hb] at hn;cases hn
   ·exact hn
  ·rw [Hp.get_add] at e2;split at e2
   ·rename_i e;subst e;rw [hb] at e1;rw [<-zsi e1,<-zsi e2,hm,hm']
   ·rw [e1] at e2;rw [zsi e2]
  ·rw [Hp.get_add];split
   ·rename_i e;subst e;rw [hb] at e1;rw [<-zsi e1,hm] at hmk;cases hmk
   ·exact e1
theorem Yg{t:TypeId}(h:Yh P t=true):∃f g i j,P.underlying t=some (.struct #[f,g])/\P.underlying f.type=some (.int i)/\P.underlying g.type=some (.int j)/\f.name≠ "_"/\g.name≠ "_"/\f.offset=0/\g.offset=1/\P.stoodInHeld t=false:=by
 unfold Yh at h;split at h
 ·rename_i fs hu;split at h
  ·rename_i f g hfs;split at h
   ·rename_i i j hf hg;simp only [x8,yA,beq_iff_eq,Bool.not_eq_true'] at h;refine⟨f,g,i,j,?_,hf,hg,h.1,h.2.1,h.2.2.1,h.2.2.2.1,h.2.2.2.2⟩;have:fs=#[f,g]:=by apply Array.ext';simpa using hfs
    rw [hu,this]
   ·cases h
  ·cases h
 ·cases h
theorem Xt{t:TypeId}(h:Yh P t=true){e:Bool}{n:Nat}{k k':IntKind}{a b:Int}:(Instr.checkKey e (n+2) t (.agg #[.int k a,.int k' b])).run P w=.ok () w:=by
 obtain⟨f,g,i,j,hu,hf,hg,n1,n2,o1,o2,_⟩:=Yg h;simp [Instr.checkKey,run_underlying hu,run_underlying hf,run_underlying hg,n1,n2,o1,o2,part,isAgg]
theorem SZ{t:TypeId}(h:Yh P t=true){k k':IntKind}{a b c d:Int}:(Op.equal t (.agg #[.int k a,.int k' b]) (.agg #[.int k c,.int k' d])).run P w=.ok (a==c&&b==d) w:=by
 obtain⟨f,g,i,j,hu,hf,hg,n1,n2,o1,o2,hs⟩:=Yg h;have hfo:P.fieldsOf t=#[f,g]:=by simp [Program.fieldsOf,hu]
 show (Op.equalIn (9999+1) t _ _).run P w=_
 rw [run_equalIn_struct w 9999 t _ _ (by rw [hfo];exact hu) hs,hfo];refine iE (μ:=fun _=>⟨0,0,0⟩) (K:=fun _=>True) 9998 (xs:=[.int k a,.int k' b]) (ys:=[.int k c,.int k' d]) (vx:=[.int k a,.int k' b]) (vy:=[.int k c,.int k' d]) ⟨O,O,trivial⟩ ⟨O,O,trivial⟩ (ks:=[(0,false),(1,false)]) (by simp [QT,n1,n2,hf,hg,o1,o2]) ?_;simp only [Zs,pV,sR,eJ,if_true];cases h1:(a==c)<;>cases h2:(b==d)<;>simp
theorem Qq{l:List C}(h:fZ l=true):∃k a k' b,l=[.int k a,.int k' b]:=by
 unfold fZ at h;split at h
 ·exact⟨_,_,_,_,O⟩
 ·cases h
theorem v6{t:TypeId}(ht:Yh P t=true){k k':IntKind}{a b:Int}:∀{es:List (V × V × Nat)} {ces:List MapEntry} {i:Nat} {r:Option Nat},qe (fun (e:V × V × Nat) (x:MapEntry)=>z6 μ K e.1 x.key/\z6 μ K e.2.1 x.val/\e.2.2=x.born) es ces->
 WD [.int k a,.int k' b] es i=some r->
 (r=none/\(Instr.findAsking t (.agg #[.int k a,.int k' b]) ces i).run P w=.ok none w)\/∃j x,r=some j/\(Instr.findAsking t (.agg #[.int k a,.int k' b]) ces i).run P w=.ok (some (j,x)) w/\i<=j/\
  ∃ce,ces[j-i]?=some ce/\ce.key=.agg #[.int k a,.int k' b]/\x=ce.val
 |[],[],i,r,_,h=>by simp [WD] at h;subst h;exact .inl ⟨O,by simp [Instr.findAsking]⟩
 |e::es,c::ces,i,r,ha,h=>by
  simp only [WD] at h;cases hk:S3 [.int k a,.int k' b] e.1 with
  |none=>simp [hk] at h
  |some q=>
   obtain⟨e1,e2⟩:=e;have hkey:∃c d,e1=.agg [.int k c,.int k' d]/\q=(a==c&&b==d):=by
    unfold S3 at hk;split at hk
    ·rename_i k1 a1 k2 b1 j1 c1 j2 d1 e3 e4;obtain⟨⟨rfl,rfl⟩,⟨rfl,rfl⟩⟩:(k=k1/\a=a1)/\(k'=k2/\b=b1):=by simpa using e3
     split at hk
     ·rename_i hkk;obtain⟨rfl,rfl⟩:=hkk;exact⟨_,_,e4,(zsi hk).symm⟩
     ·cases hk
    ·cases hk
   obtain⟨x,y,rfl,rfl⟩:=hkey;have hck:c.key=.agg #[.int k x,.int k' y]:=by
    obtain⟨xs,h1,h2⟩:=ha.1.1
    match xs,h2 with
    |[p,q],h2=>
     obtain⟨h3,h4,_⟩:=h2;rw [h1,show p=.int k x from h3,show q=.int k' y from h4]
   simp only [Instr.findAsking,Sem.run_bind,hck,SZ ht,Result.andThen_ok];cases hb:(a==x&&b==y) with
   |true=>
    simp only [hk,hb,zoi] at h;subst h;have:a=x/\b=y:=by simpa using hb
    obtain⟨rfl,rfl⟩:=this;exact .inr ⟨i,c.val,O,by simp,qz _,c,by simp,hck,rfl⟩
   |false=>
    simp only [hk,hb] at h;rcases v6 ht ha.2 h with⟨h1,h2⟩|⟨j,v,h1,h2,h3,ce,h5⟩
    ·exact .inl ⟨h1,by simpa using h2⟩
    ·refine .inr ⟨j,v,h1,by simpa using h2,by omega,ce,?_⟩;rw [show j-i=(j-(i+1))+1 by omega];simpa using h5
 |[],_::_,_,_,ha,_=>ha.elim
 |_::_,[],_,_,ha,_=>ha.elim
theorem E7{s:Nat}:∀{es:List (V × V × Nat)} {ces:List MapEntry} {e:V × V × Nat},qe (fun (e:V × V × Nat) (x:MapEntry)=>z6 μ K e.1 x.key/\z6 μ K e.2.1 x.val/\e.2.2=x.born) es ces->
 es.find? (fun e=>e.2.2==s)=some e->∃x,ces.find? (fun x=>x.born==s)=some x/\z6 μ K e.1 x.key/\z6 μ K e.2.1 x.val/\e.2.2=x.born
 |[],_,_,_,h=>by cases h
 |e0::es,c::ces,e,ha,h=>by
  rw [List.find?_cons] at h ⊢;rw [<-ha.1.2.2];cases hb:(e0.2.2==s) with
  |true=>
   simp only [hb,zoi] at h;subst h;exact⟨c,O,ha.1⟩
  |false=>
   simp only [hb] at h;exact E7 ha.2 h
 |_::_,[],_,ha,_=>ha.elim
theorem cT{v:V}{x:Value}(h:Y8 v=true)(hv:RV μ K v x):z6 μ K v x:=by
 cases v with
 |one c=>exact hv
 |agg l=>exact hv
 |tup l=>simp [Y8] at h
theorem qe.erase{α β:Type}{R:α->β->Prop}:∀{l:List α} {m:List β} (_:qe R l m) (i:Nat),qe R (l.eraseIdx i) (m.eraseIdx i)
 |[],[],_,_=>trivial
 |_::_,_::_,h,0=>h.2
 |_::_,_::_,h,i+1=>⟨h.1,qe.erase h.2 i⟩
 |[],_::_,h,_=>h.elim
 |_::_,[],h,_=>h.elim
theorem H8{α:Type}(a:Array α){i:Nat}{x:α}(h:a[i]?=some x):(a.eraseIdxIfInBounds i).toList=a.toList.eraseIdx i:=by
 have hi:i<a.size:=(nJ.1 h).1;unfold Array.eraseIdxIfInBounds;rw [dif_pos hi,Array.toList_eraseIdx]
theorem fK{k:Value}{l:List C}(h:RV μ K (.agg l) k){k1 k2:IntKind}{a1 b1:Int}(hl:l=[.int k1 a1,.int k2 b1]):k=.agg #[.int k1 a1,.int k2 b1]:=by
 subst hl;obtain⟨xs,h1,h2⟩:=h
 match xs,h2 with
 |[p,q],h2=>
  obtain⟨h3,h4,_⟩:=h2;rw [h1,show p=_ from h3,show q=_ from h4]
theorem Gl(hR:Rel G μ K H w)(hF:xR μ K n F a.tmps){o:Oper}{p:EffOp}{v:V}(hc:Wi P G n o=some p)(h:xe F H p=some (v,H')):
 ∃nx x w' μ' K',(execOp a.eval o).run P w=.ok nx w'/\LK nx x/\RV μ' K' v x/\Rel G μ' K' H' w'/\Fr μ K H w μ' K' H' w':=by
 unfold Wi at hc;split at hc
 case _ t x y ho=>
  split at hc
  ·rename_i s dx dy hs hx hy;obtain rfl:=zsi hc;have vx:=qy hR hF hx;have vy:=qy hR hF hy;simp only [xe] at h;split at h
   ·rename_i b o' cs ex ec;split at h
    ·rename_i hlen;simp only [zom,zpi] at h;obtain⟨H1,hst,rfl,rfl⟩:=h;rw [ex] at vx;obtain⟨hk,vx'⟩:K b/\a.eval x=.pointer (some ((μ b).addr o')):=vx;have hcs:=VP vy ec;obtain⟨w',hrun,hR',hF'⟩:=Rel.stores (P:=P) (o:=o') (i:=0) hR hst hcs;refine⟨.skip,Go.undef,w',μ,K,?_,.inr ⟨O,O⟩,RV.undef,hR',hF'⟩;have hsz:(a.eval y).cells.size=s:=by have:=hcs.len;simp at this;omega
     have hrun':(storeCells ((μ b).addr o') (a.eval y).cells.toList).run P w=.ok () w':=hrun;simp [execOp,ho,Instr.storeAt,vx',Instr.sureAddr,storeVar,zq hs,hsz,hrun']
    ·cases h
   ·cases h
  ·cases hc
 case _ t m k x ho=>
  split at hc
  ·rename_i kt et dm dk dx hu hm hk hx;split at hc
   ·rename_i k0 hkt;obtain rfl:=zsi hc;have vm:=qy hR hF hm;have vk:=qy hR hF hk;have vx:=qy hR hF hx;simp only [xe] at h;split at h
    ·rename_i b em;split at h
     ·rename_i es hget;split at h
      ·rename_i hcond;rw [x8] at hcond;obtain⟨kk,q,hq⟩:=f5 hcond.1;rw [em] at vm;rw [hq] at vk;have vk':a.eval k=.int kk q:=vk;obtain⟨hkb,vm'⟩:K b/\a.eval m=.map (some (μ b).blk):=vm;have vx1:=cT hcond.2 vx;obtain⟨ces,clk,hob,hall⟩:=hR.blk b _ hget;have hobj:(getObj (μ b).blk).run P w=.ok (.map ces clk) w:=by simp [getObj,Sem.run,hob]
       have hset:∀ob,(setObj (μ b).blk ob).run P w=.ok () { w with heap:=w.heap.setIfInBounds (μ b).blk ob }:=fun ob=>by simp [setObj,Sem.run,hob]
       rw [hq] at h;split at h
       ·rename_i hf;simp only [zoi,zpi] at h;obtain⟨rfl,rfl⟩:=h;rcases Yb (k0:=k0) hall hf with⟨_,h2⟩|⟨j,v,x,h1,_⟩
        ·obtain⟨r1,r2⟩:=hR.setMap (es':=es++[(.one (.int kk q),dx.ev F)]) (ces:=ces.push { key:=.int kk q,val:=a.eval x,born:=clk }) (clk:=clk+1) hget (by
          simp only [Array.toList_push];exact hall.append ⟨⟨O,vx1⟩,trivial⟩) _ rfl
         refine⟨.skip,Go.undef,_,μ,K,?_,.inr ⟨O,O⟩,RV.undef,r1,r2⟩;simp [execOp,ho,Instr.mapUpdate,vm',vk',run_underlying hu,hobj,vb (d:=9999) hkt,Instr.findKey,run_underlying hkt,h2,hset]
        ·cases h1
       ·rename_i jj vv hf;simp only [zoi,zpi] at h;obtain⟨rfl,rfl⟩:=h;rcases Yb (k0:=k0) hall hf with⟨h1,_⟩|⟨j,v,y,h1,h2,h3,_,e',ce,h5,h6,h7,h8,h9⟩
        ·cases h1
        ·obtain⟨rfl,rfl⟩:jj=j/\vv=v:=by simpa using h1
         have h7':ces[jj]?=some ce:=by simpa using h7
         obtain⟨r1,r2⟩:=hR.setMap (es':=HQ es jj (dx.ev F)) (ces:=ces.modify jj fun e=>{ e with key:=.int kk q,val:=a.eval x }) (clk:=clk) hget (by
          refine qe.mk (by have:=hall.len;simp [HQ] at this ⊢;exact this) fun i e1 e2 g1 g2=>?_;simp only [HQ,List.getElem?_modify] at g1;rw [L2,Ch] at g2;by_cases hij:jj=i
          ·subst hij;simp only [if_true,Option.map_eq_map,zom] at g1 g2;obtain⟨e0,g1,rfl⟩:=g1;obtain⟨c0,g2,rfl⟩:=g2;have hee:e0=e':=by
            have:es[jj]?=some e':=by simpa using h5
            rw [this] at g1;exact (zsi g1).symm
           subst hee;exact⟨by rw [h9];exact rfl,vx1⟩
          ·simp only [hij,if_false] at g1 g2;have g1':es[i]?=some e1:=by simpa using g1
           obtain⟨b',hb',hr⟩:=hall.at i e1 g1';rw [L2,g2] at hb';obtain rfl:=zsi hb';exact hr) _ rfl
         refine⟨.skip,Go.undef,_,μ,K,?_,.inr ⟨O,O⟩,RV.undef,r1,r2⟩;have hstay:(Instr.keyThatStays ce.key (.int kk q)).run P w=.ok (.int kk q) w:=by rw [h8];simp [Instr.keyThatStays,Instr.sameBits]
         simp [execOp,ho,Instr.mapUpdate,vm',vk',run_underlying hu,hobj,vb (d:=9999) hkt,Instr.findKey,run_underlying hkt,h2,h7',hstay,hset]
       ·cases h
      ·cases h
     ·cases h
    ·cases h
   ·split at hc
    ·rename_i hpt;obtain rfl:=zsi hc;have vm:=qy hR hF hm;have vk:=qy hR hF hk;have vx:=qy hR hF hx;have hwide:(match P.underlying kt with|some (.array _ _)|some (.struct _)=>true|_=>false)=true:=by
      obtain⟨f,g,i,j,hu',_⟩:=Yg hpt;rw [hu']
     simp only [xe] at h;split at h
     ·rename_i b l c em ek ex;split at h
      ·rename_i es clk hget;rw [em] at vm;rw [ek] at vk;rw [ex] at vx;obtain⟨hkb,vm'⟩:K b/\a.eval m=.map (some (μ b).blk):=vm;obtain⟨ces,_,hob,hall⟩:=hR.blk b _ hget;have hobj:(getObj (μ b).blk).run P w=.ok (.map ces clk) w:=by simp [getObj,Sem.run,hob]
       have hset:∀ob,(setObj (μ b).blk ob).run P w=.ok () { w with heap:=w.heap.setIfInBounds (μ b).blk ob }:=fun ob=>by simp [setObj,Sem.run,hob]
       have hkv:∀{k1 k2:IntKind} {a1 b1:Int},l=[.int k1 a1,.int k2 b1]->a.eval k=.agg #[.int k1 a1,.int k2 b1]:=fun hl=>by
        subst hl;obtain⟨xs,h1,h2⟩:=vk
        match xs,h2 with
        |[p,q],h2=>
         obtain⟨h3,h4,_⟩:=h2;rw [h1,show p=_ from h3,show q=_ from h4]
       split at h
       ·rename_i hl hf;obtain⟨k1,a1,k2,b1,rfl⟩:=Qq hl;have vk':=hkv rfl;simp only [zoi,zpi] at h;obtain⟨rfl,rfl⟩:=h;rcases v6 (w:=w) hpt hall hf with⟨_,h2⟩|⟨j,y,h1,_⟩
        ·obtain⟨r1,r2⟩:=hR.setB (bk':=.st (es++[(.agg [.int k1 a1,.int k2 b1],.one c,clk)]) (clk+1)) (o:=.map (ces.push { key:=.agg #[.int k1 a1,.int k2 b1],val:=a.eval x,born:=clk }) (clk+1)) hget rfl rfl
          ⟨_,(),rfl,by
           simp only [Array.toList_push];exact hall.append ⟨⟨⟨_,O,O,O,trivial⟩,vx,O⟩,trivial⟩⟩
         refine⟨.skip,Go.undef,_,μ,K,?_,.inr ⟨O,O⟩,RV.undef,r1,r2⟩;simp [execOp,ho,Instr.mapUpdate,vm',vk',run_underlying hu,hobj,Xt (n:=9998) hpt,run_findKey_eq w hwide,h2,hset]
        ·cases h1
       ·rename_i jj hl hf;obtain⟨k1,a1,k2,b1,rfl⟩:=Qq hl;have vk':=hkv rfl;simp only [zoi,zpi] at h;obtain⟨rfl,rfl⟩:=h;rcases v6 (w:=w) hpt hall hf with⟨h1,_⟩|⟨j,y,h1,h2,_,ce,h7,h8,_⟩
        ·cases h1
        ·obtain rfl:=zsi h1;have h7':ces[jj]?=some ce:=by simpa using h7
         obtain⟨r1,r2⟩:=hR.setB (bk':=.st (G2 es jj (.one c)) clk) (o:=.map (ces.modify jj fun e=>{ e with key:=.agg #[.int k1 a1,.int k2 b1],val:=a.eval x }) clk) hget rfl rfl
          ⟨_,(),rfl,by
           refine qe.mk (by have:=hall.len;simp [G2] at this ⊢;exact this) fun i e1 e2 g1 g2=>?_;simp only [G2,List.getElem?_modify] at g1;rw [L2,Ch] at g2;by_cases hij:jj=i
           ·subst hij;simp only [if_true,Option.map_eq_map,zom] at g1 g2;obtain⟨e0,g1,rfl⟩:=g1;obtain⟨c0,g2,rfl⟩:=g2;obtain⟨b',hb',hr⟩:=hall.at jj e0 g1;rw [L2,g2] at hb';obtain rfl:=zsi hb';rw [h7'] at g2;obtain rfl:=zsi g2;exact⟨by rw [<-h8];exact hr.1,vx,hr.2.2⟩
           ·simp only [hij,if_false] at g1 g2;have g1':es[i]?=some e1:=by simpa using g1
            obtain⟨b',hb',hr⟩:=hall.at i e1 g1';rw [L2,g2] at hb';obtain rfl:=zsi hb';exact hr⟩
         refine⟨.skip,Go.undef,_,μ,K,?_,.inr ⟨O,O⟩,RV.undef,r1,r2⟩;have hstay:(Instr.keyThatStays ce.key (.agg #[.int k1 a1,.int k2 b1])).run P w=.ok (.agg #[.int k1 a1,.int k2 b1]) w:=by rw [h8];simp [Instr.keyThatStays,Instr.sameBits]
         simp [execOp,ho,Instr.mapUpdate,vm',vk',run_underlying hu,hobj,Xt (n:=9998) hpt,run_findKey_eq w hwide,h2,h7',hstay,hset]
       ·cases h
      ·cases h
     ·cases h
    ·cases hc
  ·cases hc
 case _ args ts ho=>
  split at hc
  ·rename_i s x t t' hargs hts;have hargs':args=#[s,x]:=by cases args;simp_all
   have hts':ts=#[t,t']:=by cases ts;simp_all
   subst hargs' hts';split at hc
   ·rename_i e e' ds dx hu hu' hs hx;split at hc
    ·rename_i i z hi hz;split at hc
     ·rename_i hzl;obtain rfl:=zsi hc;have vs:=qy hR hF hs;have vx:=qy hR hF hx;simp only [xe] at h;split at h
      ·rename_i m news hsrc;obtain⟨i',zv,hi',hzv,hall⟩:=w6 (μ:=μ) (K:=K) hz;obtain rfl:i=i':=by rw [hi] at hi';exact zsi hi'
       have hzs:zv.cells.size=i.size:=by have:=hall.len;simp at this;omega
       obtain⟨r,w',μ',K',h1,h2,h3,h4⟩:=RU (P:=P) (ty:=o.type) hR hu hu' hi hzv hzs vs vx hsrc h;exact⟨.value r,r,w',μ',K',by simp [execOp,ho,resolve,invoke,builtin,h1],.inl rfl,h2,h3,h4⟩
      ·cases h
     ·cases hc
    ·cases hc
   ·rename_i e kk ds dx hu hu' hs hx;split at hc
    ·rename_i i z hi hz;split at hc
     ·rename_i hzl;obtain rfl:=zsi hc;have vs:=qy hR hF hs;have vx:=qy hR hF hx;simp only [xe] at h;split at h
      ·rename_i kq q he;split at h
       ·rename_i hq;obtain⟨i',zv,hi',hzv,hall⟩:=w6 (μ:=μ) (K:=K) hz;obtain rfl:i=i':=by rw [hi] at hi';exact zsi hi'
        have hzs:zv.cells.size=i.size:=by have:=hall.len;simp at this;omega
        rw [he] at vx;have vx':a.eval x=.int kq q:=vx;obtain⟨r,w',μ',K',h1,h2,h3,h4⟩:=LD (P:=P) (ty:=o.type) (kq:=kq) hR hu hu' hi hzv hzs hzl.2 vs hall hq.2.1 hq.2.2 h;rw [LY hq.1] at h1;exact⟨.value r,r,w',μ',K',by simp [execOp,ho,resolve,invoke,builtin,vx',h1],.inl rfl,h2,h3,h4⟩
       ·cases h
      ·cases h
     ·cases hc
    ·cases hc
   ·cases hc
  ·cases hc
 case _ args ts ho=>
  split at hc
  ·rename_i s x t rest hargs hts;have hargs':args=#[s,x]:=by cases args;simp_all
   subst hargs';have hts':ts[0]?=some t:=by cases ts;simp_all
   split at hc
   ·rename_i e ds dx hu hs hx;simp only [zom] at hc;obtain⟨k,hk,rfl⟩:=hc;have vs:=qy hR hF hs;have vx:=qy hR hF hx;simp only [xe] at h;split at h
    ·rename_i sm em hsrc;simp only [zoi,zpi] at h;obtain⟨rfl,rfl⟩:=h;obtain⟨m,cs⟩:=sm;obtain⟨hlen,hcl,xs,hxs,hfirst⟩:=eY (P:=P) hR vx hsrc;rw [em] at vs;have vs':a.eval s=.slice none 0 0:=vs;have hf0:=hfirst 0 (by omega) w.drawn;have hf0':(Builtin.firstCells k 0 (a.eval x)).run P w=.ok #[] w:=by simpa using hf0
     refine⟨.value (.int .i64 0),.int .i64 0,w,μ,K,?_,.inl O,O,hR,Fr.refl hR⟩;have hmin:Nat.min m 0=0:=Nat.min_zero m;simp [execOp,ho,resolve,invoke,builtin,Builtin.copy_,hts',vs',run_underlying hu,hlen,zq hk,hf0',goInt]
    ·rename_i b o' len cap e0 ex m cs em hsrc;split at h
     ·rename_i he;subst he;simp only [zom,zpi] at h;obtain⟨H1,hst,rfl,rfl⟩:=h;obtain⟨hlen,hcl,xs,hxs,hfirst⟩:=eY (P:=P) hR vx hsrc;rw [em] at vs;obtain⟨hb,ad,c,vs',h1,h2,h3,h4⟩:RC μ K (.slc b o' len cap e0 ex) (a.eval s):=vs;have hf0:=hfirst (min m len) (by omega) w.drawn;have hf0':(Builtin.firstCells e0 (min m len) (a.eval x)).run P w=.ok (xs.take (min m len*e0)).toArray w:=hf0;rcases h4 with h4|⟨rfl,h5⟩
      ·have hl0:len=0:=by omega
       subst hl0;simp only [Nat.min_zero,nT,List.take_zero,Hp.stores,zoi] at hst;subst hst;refine⟨.value (.int .i64 0),.int .i64 0,w,μ,K,?_,.inl O,by simp;rfl,hR,Fr.refl hR⟩;simp only [Nat.min_zero,nT,List.take_zero] at hf0';simp [execOp,ho,resolve,invoke,builtin,Builtin.copy_,hts',vs',run_underlying hu,hlen,zq hk,hf0',goInt,storeCells]
      ·obtain⟨w',hrun,hR',hF'⟩:=Rel.stores (P:=P) (o:=o') (i:=0) hR hst (hxs.take (min m len*e0));refine⟨.value (.int .i64 (min m len:Nat)),.int .i64 (min m len:Nat),w',μ,K,?_,.inl O,O,hR',hF'⟩;have hrun':(storeCells ((μ b).addr o') (xs.take (min m len*e0))).run P w=.ok () w':=hrun;have hmin:Nat.min m len=min m len:=rfl;simp [execOp,ho,resolve,invoke,builtin,Builtin.copy_,hts',vs',run_underlying hu,hlen,zq hk,hf0',goInt,hrun']
     ·cases h
    ·cases h
   ·cases hc
  ·cases hc
 case _ args ts ho=>
  split at hc
  ·rename_i x t hargs hts;have hargs':args=#[x]:=by cases args;simp_all
   have hts':ts=#[t]:=by cases ts;simp_all
   subst hargs' hts';split at hc
   ·rename_i e dx hu hx;split at hc
    ·rename_i k z hk hz;split at hc
     ·rename_i hzl;obtain rfl:=zsi hc;have vx:=qy hR hF hx;simp only [xe] at h;split at h
      ·rename_i em;simp only [zoi,zpi] at h;obtain⟨rfl,rfl⟩:=h;rw [em] at vx;have vx':a.eval x=.slice none 0 0:=vx;refine⟨.value (.tuple #[]),.tuple #[],w,μ,K,?_,.inl rfl,RV.undef,hR,Fr.refl hR⟩;simp [execOp,ho,resolve,invoke,builtin,Builtin.clear_,vx',run_underlying hu]
      ·rename_i b o' len cap e0 ex em;split at h
       ·rename_i he;subst he;simp only [zom,zpi] at h;obtain⟨H1,hst,rfl,rfl⟩:=h;rw [em] at vx;obtain⟨hb,ad,c,vx',h1,h2,h3,h4⟩:RC μ K (.slc b o' len cap e0 ex) (a.eval x):=vx;obtain⟨i',zv,hi',hzv,hall⟩:=w6 (μ:=μ) (K:=K) hz;have hzs:zv.cells.size=e0:=by have:=hall.len;simp at this;omega
        by_cases hl0:len=0
        ·subst hl0;simp only [jy,nT,List.range_zero,sS,Hp.stores,zoi] at hst;subst hst;refine⟨.value (.tuple #[]),.tuple #[],w,μ,K,?_,.inl rfl,RV.undef,hR,Fr.refl hR⟩;simp [execOp,ho,resolve,invoke,builtin,Builtin.clear_,vx',run_underlying hu]
        ·rcases h4 with h4|⟨rfl,h5⟩
         ·omega
         ·have hz0:=(Wv hall (len*e0)).resolve_right (by omega);obtain⟨w',hrun,hR',hF'⟩:=Rel.stores (P:=P) (o:=o') (i:=0) hR hst hz0;refine⟨.value (.tuple #[]),.tuple #[],w',μ,K,?_,.inl rfl,RV.undef,hR',hF'⟩;have hzc:Builtin.zeroCells zv.cells len=(Array.range (len*e0)).map (zv.cells[· % zv.cells.size]!):=by simp [Builtin.zeroCells,hzs]
          have hrun':(storeCells ((μ b).addr o') (Builtin.zeroCells zv.cells len).toList).run P w=.ok () w':=by rw [hzc];exact hrun
          obtain⟨len',rfl⟩:∃l,len=l+1:=⟨len-1,by omega⟩;have hzr:(zeroValue e).run P w=.ok zv w:=by simp [zeroValue,typeInfo,hi',hzv]
          simp [execOp,ho,resolve,invoke,builtin,Builtin.clear_,vx',run_underlying hu,hzr,hrun']
       ·cases h
      ·cases h
     ·cases hc
    ·cases hc
   ·cases hc
  ·cases hc
 case _ src dst x ho=>
  split at hc
  ·rename_i e d hs hd hx;split at hc
   ·rename_i he;obtain rfl:=zsi hc;have vx:=qy hR hF hx;simp only [xe] at h;split at h
    ·rename_i s hsx;simp only [zoi,zpi] at h;obtain⟨rfl,rfl⟩:=h;rw [hsx] at vx;have vx':a.eval x=.string s:=vx;have hrun:=run_bytes_of_string w src dst e s hs hd he;have hnc:s.size<=grownCap w s.size 0 e:=by simp [grownCap,Question.cut]
     have hsz:(bytesRow s (grownCap w s.size 0 e)).size=grownCap w s.size 0 e:=by
      simp only [bytesRow,Array.size_append,Array.size_map,Array.size_replicate];have:s.data.size=s.size:=rfl;omega
     have hrb:RB μ K ⟨w.heap.size,0,grownCap w s.size 0 e⟩ (.row s.size (s.data.toList.map fun b=>.int .u8 b.toNat) .lf false) (some (.cells (bytesRow s (grownCap w s.size 0 e)) e ((bytesRow s (grownCap w s.size 0 e)).size,(bytesRow s (grownCap w s.size 0 e)).size+1))):=by
      refine⟨_,e,_,O,hsz,by rw [hsz];simpa using hnc,fun h=>(by cases h),fun i c hc=>?_⟩;simp only [B.cell,T.get_lf,bE] at hc;split at hc
      ·rename_i hi;have hl:(s.data.toList.map fun b=>C.int .u8 b.toNat).length=s.size:=by simp
       rw [hl,kJ hi] at hc;have hi':i<s.data.size:=hi;refine⟨.int .u8 (s.data[i].toNat),?_,?_⟩
       ·simp only [ym,bytesRow];rw [Ck (by simpa using hi')];simp;exact⟨s.data[i],sO hi',O⟩
       ·simp [qT,hi'] at hc;rw [sO hi'] at hc;simp only [QA,QB] at hc;subst hc;exact rfl
      ·cases hc
     obtain⟨r1,r2⟩:=hR.push' (d:=w.drawn+1) (Nat.le_succ _) hrb;refine⟨.value _,_,_,_,_,by simp only [execOp,ho,vx',hrun,Sem.run_bind,Result.andThen_ok,Sem.run_pure];rfl,.inl rfl,⟨.inr rfl,_,grownCap w s.size 0 e,rfl,qz _,hnc,by simp,.inr ⟨by simp [Pl.addr],by simp⟩⟩,r1,r2⟩
    ·cases h
   ·cases hc
  ·cases hc
 case _ t x ho=>
  split at hc
  ·rename_i kt et dm hu hm;obtain rfl:=zsi hc;have vm:=qy hR hF hm;simp only [xe] at h;split at h
   ·rename_i b em;split at h
    ·rename_i es clk hget;simp only [zoi,zpi] at h;obtain⟨rfl,rfl⟩:=h;rw [em] at vm;obtain⟨hkb,vm'⟩:K b/\a.eval x=.map (some (μ b).blk):=vm;obtain⟨ces,_,hob,hall⟩:=hR.blk b _ hget;have hobj:(getObj (μ b).blk).run P w=.ok (.map ces clk) w:=by simp [getObj,Sem.run,hob]
     have hrb:RB μ K ⟨w.heap.size,0,0⟩ (.it b clk [] clk) (some (.mapIter (some (μ b).blk) clk #[] clk)):=⟨(),(),rfl,hkb,rfl⟩;obtain⟨r1,r2⟩:=hR.push' (d:=w.drawn) (qz _) hrb;refine⟨.value (.pointer (some ⟨w.heap.size,0,none⟩)),_,_,_,_,?_,.inl O,⟨.inr O,by simp [Pl.addr]⟩,r1,r2⟩;simp [execOp,ho,Instr.range,vm',run_underlying hu,hobj]
    ·cases h
   ·cases h
  ·cases hc
 case _ x ho=>
  simp only [zom] at hc;obtain⟨dx,hx,rfl⟩:=hc;have vx:=qy hR hF hx;simp only [xe] at h;split at h
  ·rename_i b em;split at h
   ·rename_i mb since seen last hget;split at h
    ·rename_i es clk s hgm hls;split at h
     ·rename_i hcl;split at h
      ·rename_i e hfe;simp only [zoi,zpi] at h;obtain⟨rfl,rfl⟩:=h;rw [em] at vx;obtain⟨hkb,vx'⟩:K b/\a.eval x=.pointer (some ((μ b).addr 0)):=vx;obtain⟨_,_,hob,hkm,hoff⟩:=hR.blk b _ hget;obtain⟨ces,_,hom,hall⟩:=hR.blk mb _ hgm;have hpt:(μ b).addr 0=⟨(μ b).blk,0,none⟩:=by simp [Pl.addr,hoff]
       rw [hpt] at vx';have hob1:(getObj (μ b).blk).run P w=.ok (.mapIter (some (μ mb).blk) since seen.toArray last) w:=by simp [getObj,Sem.run,hob]
       have hob2:(getObj (μ mb).blk).run P w=.ok (.map ces clk) w:=by simp [getObj,Sem.run,hom]
       obtain⟨x0,hfx,hr1,hr2,_⟩:=E7 hall hfe;have hback:seen.toArray.back?=some s:=by rw [List.back?_toArray];exact hls
       have hfx':ces.find? (fun e=>e.born==s)=some x0:=by rw [<-Array.find?_toList];exact hfx
       refine⟨.value (.tuple #[x0.key,x0.val]),_,w,μ,K,?_,.inl O,⟨[x0.key,x0.val],O,hr1,hr2,trivial⟩,hR,Fr.refl hR⟩;simp [execOp,ho,Instr.entry,vx',hob1,hob2,hback,hcl,hfx']
      ·cases h
     ·cases h
    ·cases h
   ·cases h
  ·cases h
 case _ t x i ok ho=>
  split at hc
  ·rename_i kt e m k hu hm hk;split at hc
   ·rename_i ie hpt hie;split at hc
    ·rename_i z hz;simp only [zom] at hc;obtain⟨zv,hzv,rfl⟩:=hc;have vm:=qy hR hF hm;have vk:=qy hR hF hk;have hwide:(match P.underlying kt with|some (.array _ _)|some (.struct _)=>true|_=>false)=true:=by
      obtain⟨f,g,i,j,hu',_⟩:=Yg hpt;rw [hu']
     have hzero:(zeroValue e).run P w=.ok z w:=by simp [zeroValue,typeInfo,hie,hz]
     have hz1:z6 μ K zv z:=sE hzv;simp only [xe] at h;split at h
     ·rename_i b l em ek;split at h
      ·rename_i es clk hget;rw [em] at vm;rw [ek] at vk;obtain⟨hkb,vm'⟩:K b/\a.eval x=.map (some (μ b).blk):=vm;obtain⟨ces,_,hob,hall⟩:=hR.blk b _ hget;have hobj:(getObj (μ b).blk).run P w=.ok (.map ces clk) w:=by simp [getObj,Sem.run,hob]
       split at h
       ·rename_i hl hf;obtain⟨k1,a1,k2,b1,rfl⟩:=Qq hl;have vk':=fK vk rfl;simp only [zoi,zpi] at h;obtain⟨rfl,rfl⟩:=h;rcases v6 (w:=w) hpt hall hf with⟨_,h2⟩|⟨j,y,h1,_⟩
        ·refine⟨.value (if ok then .tuple #[z,.bool false] else z),_,w,μ,K,?_,.inl O,?_,hR,Fr.refl hR⟩
         ·simp [execOp,ho,Instr.lookup,vm',vk',run_underlying hu,hobj,Xt (n:=9998) hpt,run_findKey_eq w hwide,h2,hzero]
         ·cases ok
          ·simpa [wz] using RV.of1 hz1
          ·exact⟨[z,.bool false],O,hz1,O,trivial⟩
        ·cases h1
       ·rename_i jj hl hf;obtain⟨k1,a1,k2,b1,rfl⟩:=Qq hl;have vk':=fK vk rfl;split at h
        ·rename_i e0 he0;simp only [zoi,zpi] at h;obtain⟨rfl,rfl⟩:=h;rcases v6 (w:=w) hpt hall hf with⟨h1,_⟩|⟨j,y,h1,h2,_,ce,h7,h8,rfl⟩
         ·cases h1
         ·obtain rfl:=zsi h1;obtain⟨b',hb',hr⟩:=hall.at jj e0 he0;rw [Nat.sub_zero,hb'] at h7;obtain rfl:=zsi h7;refine⟨.value (if ok then .tuple #[b'.val,.bool true] else b'.val),_,w,μ,K,?_,.inl O,?_,hR,Fr.refl hR⟩
          ·simp [execOp,ho,Instr.lookup,vm',vk',run_underlying hu,hobj,Xt (n:=9998) hpt,run_findKey_eq w hwide,h2]
          ·cases ok
           ·simpa [wz] using RV.of1 hr.2.1
           ·exact⟨[b'.val,.bool true],O,hr.2.1,O,trivial⟩
        ·cases h
       ·cases h
      ·cases h
     ·cases h
    ·cases hc
   ·cases hc
  ·cases hc
 case _ args ts ho=>
  split at hc
  ·rename_i x t hargs hts;have hargs':args=#[x]:=by cases args;simp_all
   subst hargs';have hts':ts[0]?=some t:=hts;split at hc
   ·rename_i kt e hu;split at hc
    ·simp only [zom] at hc;obtain⟨d,hd,rfl⟩:=hc;have hv:=qy hR hF hd;simp only [xe] at h;split at h
     ·rename_i b he;rw [he] at hv;obtain⟨hkb,hv'⟩:K b/\a.eval x=.map (some (μ b).blk):=hv;split at h
      ·rename_i es clk hget;simp only [zoi,zpi] at h;obtain⟨rfl,rfl⟩:=h;obtain⟨ces,_,hob,hall⟩:=hR.blk b _ hget;have hobj:(getObj (μ b).blk).run P w=.ok (.map ces clk) w:=by simp [getObj,Sem.run,hob]
       have hlen:=hall.len;refine⟨.value (.int .i64 es.length),_,w,μ,K,?_,.inl O,O,hR,Fr.refl hR⟩;simp [execOp,ho,resolve,invoke,builtin,Builtin.len_,hts',hv',run_underlying hu,goInt,hobj,hlen]
      ·cases h
     ·cases h
    ·cases hc
   ·cases hc
  ·cases hc
 case _ args ts ho=>
  split at hc
  ·rename_i x y t hargs hts;have hargs':args=#[x,y]:=by cases args;simp_all
   subst hargs';have hts':ts[0]?=some t:=hts;split at hc
   ·rename_i kt e m k hu hm hk;split at hc
    ·rename_i hpt;obtain rfl:=zsi hc;have vm:=qy hR hF hm;have vk:=qy hR hF hk;have hwide:(match P.underlying kt with|some (.array _ _)|some (.struct _)=>true|_=>false)=true:=by
      obtain⟨f,g,i,j,hu',_⟩:=Yg hpt;rw [hu']
     simp only [xe] at h;split at h
     ·rename_i b l em ek;split at h
      ·rename_i es clk hget;rw [em] at vm;rw [ek] at vk;obtain⟨hkb,vm'⟩:K b/\a.eval x=.map (some (μ b).blk):=vm;obtain⟨ces,_,hob,hall⟩:=hR.blk b _ hget;have hobj:(getObj (μ b).blk).run P w=.ok (.map ces clk) w:=by simp [getObj,Sem.run,hob]
       have hset:∀ob,(setObj (μ b).blk ob).run P w=.ok () { w with heap:=w.heap.setIfInBounds (μ b).blk ob }:=fun ob=>by simp [setObj,Sem.run,hob]
       split at h
       ·rename_i hl hf;obtain⟨k1,a1,k2,b1,rfl⟩:=Qq hl;have vk':=fK vk rfl;simp only [zoi,zpi] at h;obtain⟨rfl,rfl⟩:=h;rcases v6 (w:=w) hpt hall hf with⟨_,h2⟩|⟨j,y,h1,_⟩
        ·obtain⟨r1,r2⟩:=hR.setB (bk':=.st es clk) (o:=.map ces clk) hget rfl rfl ⟨_,(),rfl,hall⟩;refine⟨.value (.tuple #[]),.tuple #[],_,μ,K,?_,.inl rfl,RV.undef,r1,r2⟩;simp [execOp,ho,resolve,invoke,builtin,Builtin.delete_,hts',vm',vk',run_underlying hu,hobj,Xt (n:=9998) hpt,run_findKey_eq w hwide,h2,hset]
        ·cases h1
       ·rename_i jj hl hf;obtain⟨k1,a1,k2,b1,rfl⟩:=Qq hl;have vk':=fK vk rfl;simp only [zoi,zpi] at h;obtain⟨rfl,rfl⟩:=h;rcases v6 (w:=w) hpt hall hf with⟨h1,_⟩|⟨j,y,h1,h2,_,ce,h7,h8,_⟩
        ·cases h1
        ·obtain rfl:=zsi h1;have h7':ces[jj]?=some ce:=by simpa using h7
         obtain⟨r1,r2⟩:=hR.setB (bk':=.st (es.eraseIdx jj) clk) (o:=.map (ces.eraseIdxIfInBounds jj) clk) hget rfl rfl ⟨_,(),rfl,by rw [H8 ces h7'];exact hall.erase jj⟩;refine⟨.value (.tuple #[]),.tuple #[],_,μ,K,?_,.inl rfl,RV.undef,r1,r2⟩;simp [execOp,ho,resolve,invoke,builtin,Builtin.delete_,hts',vm',vk',run_underlying hu,hobj,Xt (n:=9998) hpt,run_findKey_eq w hwide,h2,hset]
       ·cases h
      ·cases h
     ·cases h
    ·cases hc
   ·cases hc
  ·cases hc
 case _=>cases hc
end
section
variable{P:Program}{G n:Nat}{μ:Nat->Pl}{K:Nat->Prop}{H H':Hp}{w:World}{F:T V}{a:Act}
theorem Rel.extendT (hR:Rel G μ K H w) {b:Nat} {tt:TypeId} {lb:List C} (hb:H.get b=some (.tr tt lb)) (hoff:(μ b).off=0) {w':World} {cs':Array Value} {t:TypeId} {l:List C}
 (hg:w'.heap[(μ b).blk]?=some (.cells cs' t (0,0))) (hsz:cs'.size=(μ b).size) (hoth:∀j,j≠(μ b).blk->w'.heap[j]?=w.heap[j]?) (hs:w'.heap.size=w.heap.size)
 (hsame:w'.os=w.os/\w'.tape=w.tape/\w'.output=w.output/\w.drawn<=w'.drawn) (hin:l.length<=cs'.size) (hl:∀(i:Nat) c,l[i]?=some c->∃x,cs'[i]?=some x/\RC μ K c x):
 Rel G (fun i=>if i=H.nx then ⟨(μ b).blk,0,(μ b).size⟩ else μ i) (fun i=>K i\/i=H.nx) ((H.push (.tr t l)).del b) w'/\
 Fr μ K H w (fun i=>if i=H.nx then ⟨(μ b).blk,0,(μ b).size⟩ else μ i) (fun i=>K i\/i=H.nx) ((H.push (.tr t l)).del b) w':=by
 have hbl:=hR.lt' b _ hb;have hget:∀i,((H.push (.tr t l)).del b).get i=if i=b then none else if i=H.nx then some (.tr t l) else H.get i:=fun i=>by
  rw [Hp.get_del,Hp.get_push]
 have hmu:∀i,K i->(if i=H.nx then (⟨(μ b).blk,0,(μ b).size⟩:Pl) else μ i)=μ i:=fun i hi=>by
  have:=hR.lt i hi;rw [if_neg (by omega)]
 have hne:∀i k,i≠b->H.get i=some k->(μ i).blk≠(μ b).blk:=fun i k hi hk he=>hi (hR.inj b i _ _ hb hk rfl he.symm).symm;constructor
 ·refine⟨fun i k hi=>?_,fun i hi=>?_,fun i k hi=>?_,fun i j k1 k2 h1 h2 hm he=>?_,fun g hg'=>?_⟩
  ·rw [hget] at hi;split at hi
   ·cases hi
   ·split at hi
    ·rename_i e;exact .inr e
    ·exact .inl (hR.dom _ _ hi)
  ·simp;rcases hi with hi|rfl
   ·have:=hR.lt i hi;omega
   ·omega
  ·rw [hget] at hi;split at hi
   ·cases hi
   ·rename_i hib;split at hi
    ·rename_i e;subst e;obtain rfl:=zsi hi;simp only [if_true];rw [hg];refine⟨cs',(),O,hsz,O,hin,fun i c hc=>?_⟩;obtain⟨x,hx,hr⟩:=hl i c hc;exact⟨x,hx,hr.mono (fun _ h=>.inl h) hmu⟩
    ·rename_i e;simp only [e,if_false];rw [hoth _ (hne i k hib hi)];exact (hR.blk i k hi).mono (fun _ h=>.inl h) hmu
  ·rw [hget] at h1 h2;split at h1
   ·cases h1
   ·rename_i ib;split at h2
    ·cases h2
    ·rename_i jb;by_cases e1:i=H.nx
     ·by_cases e2:j=H.nx
      ·rw [e1,e2]
      ·rw [if_neg e2] at h2;simp only [e1,e2,if_true,if_false] at he;exact absurd he.symm (hne j k2 jb h2)
     ·by_cases e2:j=H.nx
      ·rw [if_neg e1] at h1;simp only [e1,e2,if_true,if_false] at he;exact absurd he (hne i k1 ib h1)
      ·rw [if_neg e1] at h1;rw [if_neg e2] at h2;simp only [e1,e2,if_false] at he;exact hR.inj i j k1 k2 h1 h2 hm he
  ·obtain⟨h1,h2⟩:=hR.glob g hg';have:=hmu g h1;exact⟨.inl h1,by simp only [this];exact h2⟩
 ·refine⟨hsame,by omega,fun i hi hn=>hoth i (fun e=>hn b _ hb rfl e.symm),fun i k hi hm=>?_,fun i k hi hk=>?_,fun i hi=>hmu i hi,fun i hi=>.inl hi,fun i hi hk=>?_,by simp,fun i hi hn=>?_,fun i k k' hi hk=>?_,fun i k hi hm=>?_⟩
  ·rw [hget] at hi;split at hi
   ·cases hi
   ·split at hi
    ·rename_i e;subst e;exact .inl ⟨b,_,hb,O,by simp⟩
    ·rename_i e;exact .inl ⟨i,k,hi,hm,by simp [e]⟩
  ·rw [hget] at hk;split at hk
   ·cases hk
   ·split at hk
    ·rw [<-zsi hk];exact .inl O
    ·exact absurd (hR.lt' i k hk) (by omega)
  ·rcases hk with hk|rfl
   ·exact hk
   ·omega
  ·rw [hget,hn];rw [if_neg (show¬i=H.nx by omega)];simp
  ·rw [hget] at hk;have:=hR.lt' i k hi;split at hk
   ·cases hk
   ·rw [if_neg (show¬i=H.nx by omega),hi] at hk;rw [zsi hk]
  ·have:=hR.lt' i k hi;rw [hget,if_neg (fun e=>by subst e;rw [hb] at hi;rw [<-zsi hi] at hm;cases hm),if_neg (by omega)];exact hi
theorem CK (hR:Rel G μ K H w) {e:TypeId}
 {s v:V} {xs:Value} {m:Nat} {nc:List C} (hs:RV μ K s xs) {news:List Value} (hnews:qe (RC μ K) nc news) (hncl:nc.length=m*1) {run:Value->Result Value}
 (hfits:∀(base:Option Addr) (sl sc:Nat),sl+m<=sc->run (.slice base sl sc)=
  (
   match base with
   |some ad=>((storeCells (ad.add (sl*1)) news).run P w).andThen fun _ w'=>.ok (.slice base (sl+m) sc) w'
   |none=>.ok (.slice base (sl+m) sc) w))
 (hgrows:∀(base:Option Addr) (sl sc:Nat) (olds:Array Value),(∀d,(Builtin.firstCells 1 sl (.slice base sl sc)).run P { w with drawn:=d }=.ok olds { w with drawn:=d })->sc<sl+m->(sl+m)*1<=140737488355328->sl+m<4611686018427387904->
  ∃nc rest d,w.drawn<=d/\sl+m<=nc/\rest.size=(nc-(sl+m))*1/\run (.slice base sl sc)=
   .ok (.slice (some ⟨w.heap.size,0,none⟩) (sl+m) nc) { w with drawn:=d,heap:=w.heap.push (.cells (olds++news.toArray++rest) e) })
 (h:vh e H s m nc=some (v,H')):
 ∃x w' μ' K',run xs=.ok x w'/\RV μ' K' v x/\Rel G μ' K' H' w'/\Fr μ K H w μ' K' H' w':=by
 have hnl:news.length=m*1:=by rw [<-hncl];exact hnews.len.symm
 have fresh:∀(olds:List C) (oldv:List Value) (rest:Array Value) (len cap:Nat),qe (RC μ K) olds oldv->olds.length=len*1->len+m<=cap->rest.size=(cap-(len+m))*1->∀d,w.drawn<=d->
  ∃μ' K',RV μ' K' (.one (.slc H.nx 0 (len+m) (len+m) 1 false)) (.slice (some ⟨w.heap.size,0,none⟩) (len+m) cap)/\
   Rel G μ' K' (H.push (.tr e (olds++nc))) { w with drawn:=d,heap:=w.heap.push (.cells (oldv.toArray++news.toArray++rest) e) }/\
   Fr μ K H w μ' K' (H.push (.tr e (olds++nc))) { w with drawn:=d,heap:=w.heap.push (.cells (oldv.toArray++news.toArray++rest) e) }:=by
  intro olds oldv rest len cap ho hol hcap hrest d hdd;have hsize:(oldv.toArray++news.toArray++rest).size=cap*1:=by
   have h1:=ho.len;simp only [Array.size_append,List.size_toArray,hrest,hnl,<-h1,hol];rw [<-wW,<-wW];congr 1;omega
  have hrb:RB μ K ⟨w.heap.size,0,cap*1⟩ (.tr e (olds++nc)) (some (.cells (oldv.toArray++news.toArray++rest) e)):=by
   refine⟨_,(),O,hsize,O,?_,fun j c hc=>?_⟩
   ·rw [hsize];simp only [qE,hol,hncl,<-wW];exact X1 _ hcap
   ·obtain⟨x,hx,hr⟩:=(ho.append hnews).at j c hc;refine⟨x,?_,hr⟩;have hj:j<(oldv++news).length:=(zgs hx).1;rw [Ck (by simpa using hj)];rw [<-hx];simp
  obtain⟨h1,h2⟩:=hR.push (d:=d) hdd rfl hrb;exact⟨_,_,⟨.inr O,_,cap,O,qz _,hcap,by simp,.inr ⟨by simp [Pl.addr],by simp⟩⟩,h1,h2⟩
 cases s with
 |one c=>
  cases c<;>simp only [vh] at h<;>try (cases h;done)
  case slc b o len cap e0 ex=>
   split at h
   ·cases h
   ·rename_i he;obtain rfl:e0=1:=by simpa using he
    obtain⟨hb,ad,c,hxs,h1,h2,h3,h4⟩:RC μ K (.slc b o len cap 1 ex) xs:=hs;subst hxs;split at h
    ·rename_i hfit;simp only [zom,zpi] at h;obtain⟨H1,hst,rfl,rfl⟩:=h;have hrun:=hfits (some ad) len c (by omega);rcases h4 with h4|⟨rfl,h5⟩
     ·have hm0:m=0:=by omega
      have hn0:news=[]:=vw (by simp [hnl,hm0]);have hc0:nc=[]:=vw (by simp [hncl,hm0]);subst hn0 hc0;simp only [Hp.stores,zoi] at hst;subst hst;refine⟨_,w,μ,K,by rw [hrun];simp [storeCells],⟨hb,ad,c,rfl,by omega,h2,h3,.inl h4⟩,hR,Fr.refl hR⟩
     ·obtain⟨w',hrun',hR',hF'⟩:=Rel.stores (P:=P) (o:=o+len*1) (i:=0) hR hst hnews;refine⟨_,w',μ,K,?_,⟨hb,_,c,O,hfit,h2,h3,.inr ⟨O,h5⟩⟩,hR',hF'⟩;have hrun2:(storeCells ((μ b).addr (o+len*1)) news).run P w=.ok () w':=hrun';rw [hrun];simp only [yh];rw [hrun2];rfl
    ·rename_i hnfit;split at h
     ·rename_i hbound;split at h
      ·cases h
      ·rename_i olds hold;obtain⟨oldv,hov,hcells⟩:=hR.cells hold;have hol:=zW hold;have hovl:oldv.length=len*1:=by rw [<-hol];exact hov.len.symm
       have holds:∀d,(Builtin.firstCells 1 len (.slice (some ad) len c)).run P { w with drawn:=d }=.ok oldv.toArray { w with drawn:=d }:=fun d=>by
        by_cases hl0:len=0
        ·subst hl0;have:oldv=[]:=vw (by simp [hovl]);subst this;simp [Builtin.firstCells,loadCells,loadCellsFrom]
        ·rcases h4 with h4|⟨rfl,_⟩
         ·omega
         ·have:=Zi (P:=P) (w:={ w with drawn:=d }) (ad:=(μ b).addr o) (xs:=oldv) (i:=0) (acc:=#[]) fun j y hy=>by
           rw [yh,ym];exact hcells j y hy
          rw [hovl] at this;simpa [Builtin.firstCells,loadCells] using this
       have grows:c<len+m->∃x d rest ncap,w.drawn<=d/\len+m<=ncap/\rest.size=(ncap-(len+m))*1/\x=Value.slice (some ⟨w.heap.size,0,none⟩) (len+m) ncap/\
        run (.slice (some ad) len c)=.ok x { w with drawn:=d,heap:=w.heap.push (.cells (oldv.toArray++news.toArray++rest) e) }:=by
        intro hgr;obtain⟨ncap,rest,d,g0,g1,g2,g3⟩:=hgrows (some ad) len c _ holds hgr hbound.1 hbound.2;exact⟨_,d,rest,ncap,g0,g1,g2,O,g3⟩
       cases ex with
       |true=>
        simp only [if_true,zoi,zpi] at h;obtain⟨rfl,rfl⟩:=h;obtain⟨x,d,rest,ncap,g0,g1,g2,rfl,g3⟩:=grows (by have:=h3 rfl;omega);obtain⟨μ',K',f1,f2,f3⟩:=fresh olds oldv rest len ncap hov hol g1 g2 d g0;exact⟨_,_,μ',K',g3,f1,f2,f3⟩
       |false=>
        simp only [yz,if_false] at h;split at h
        ·rename_i tt lb hgb;split at h
         ·rename_i hto;obtain⟨rfl,rfl⟩:=hto;simp only [zoi,zpi] at h;obtain⟨rfl,rfl⟩:=h;by_cases hroom:len+m<=c
          ·-- in place
           have hrun:=hfits (some ad) len c hroom;rcases h4 with h4|⟨rfl,h5⟩
           ·omega
           ·obtain⟨cs,_,k1,k2,k3,k4,k5⟩:=hR.blk b _ hgb;have hroom':(len+m)*1<=c*1:=X1 _ hroom;rw [wW] at hroom';obtain⟨w',cs',q1,q2,q3,q4,q5,q6,q7,q8,q9⟩:=WA (P:=P) (g:=(μ b).blk) (t:=tt) (xs:=news) (w:=w) (cs:=cs) (q:=(μ b).off+(0+len*1)) (i:=0) k1 hnews.oneC (by omega);have hext:=hR.extendT hgb k3 (w':=w') (cs':=cs') (t:=tt) (l:=olds++nc) q2 (by omega) q5 q6 ⟨q7,q8,q9⟩ (by simp only [qE];omega) (fun j cc hj=>by
             rw [q4];by_cases hjl:j<olds.length
             ·rw [if_neg (by omega)];rw [Qz hjl] at hj;obtain⟨x,hx',hr⟩:=hov.at j cc hj;have hcx:=hcells j x hx';rw [XK k1,k3] at hcx;exact⟨x,by simpa using hcx,hr⟩
             ·rw [Q3 (by omega)] at hj;have hjn:j-olds.length<nc.length:=(zgs hj).1;rw [if_pos (by omega)];obtain⟨x,hx',hr⟩:=hnews.at _ cc hj;exact⟨x,by rw [show j-((μ b).off+(0+len*1)+0)=j-olds.length by omega];exact hx',hr⟩)
            refine⟨_,w',_,_,?_,⟨.inr O,(μ b).addr 0,c,O,qz _,hroom,by simp,.inr ⟨by simp [Pl.addr,k3],by simp;simpa [k3] using h5⟩⟩,hext.1,hext.2⟩;rw [hrun];simp only [yh];have:(storeCells ((μ b).addr (0+len*1)) news).run P w=.ok () w':=q1;rw [this];rfl
          ·obtain⟨x,d,rest,ncap,g0,g1,g2,rfl,g3⟩:=grows (by omega);obtain⟨μ',K',f1,f2,f3⟩:=fresh olds oldv rest len ncap hov hol g1 g2 d g0;refine⟨_,_,μ',K',g3,f1,f2.sub (fun j k hj=>?_) O,f3.trans hR.lt' (Fr.del f2 b (fun bk hbk=>by
            rw [Hp.get_push,if_neg (by have:=hR.lt' b _ hgb;omega),hgb] at hbk;rw [<-zsi hbk];rfl))⟩
           rw [Hp.get_del] at hj;split at hj
           ·cases hj
           ·exact hj
         ·cases h
        ·cases h
     ·cases h
  case nils=>
   have hxs:xs=.slice none 0 0:=hs;subst hxs;split at h
   ·rename_i hm0;simp only [zoi,zpi] at h;obtain⟨rfl,rfl⟩:=h;subst hm0;have hrun:=hfits none 0 0 (by omega);exact⟨_,w,μ,K,hrun,O,hR,Fr.refl hR⟩
   ·rename_i hm0;split at h
    ·rename_i hbound;simp only [zoi,zpi] at h;obtain⟨rfl,rfl⟩:=h;obtain⟨ncap,rest,d,g0,g1,g2,g3⟩:=hgrows none 0 0 #[] (fun d=>by simp [Builtin.firstCells]) (by omega) (by simpa using hbound.1) (by omega);obtain⟨μ',K',f1,f2,f3⟩:=fresh [] [] rest 0 ncap trivial (by simp) g1 g2 d g0;simp only [ym,Kv] at f1 f2 f3;refine⟨_,_,μ',K',g3,?_,f2,f3⟩;simpa using f1
    ·cases h
 |agg l=>simp [vh] at h
 |tup l=>simp [vh] at h
theorem LE (hR:Rel G μ K H w) {t t' e ty:TypeId} {i:TypeInfo} {z:Value} (ht:P.underlying t=some (.slice e)) (ht':sH P t') (hi:P.info? e=some i) (hs1:i.size=1) (hb1:i.bytes=1) (hz:i.zero=some z) (hzs:z.cells.size=i.size)
 {s v:V} {xs xx:Value} {m:Nat} {nc:List C} (hs:RV μ K s xs) {vx:V} (hx:RV μ K vx xx) (hsrc:zU H 1 vx=some (m,nc)) (h:vh e H s m nc=some (v,H')):
 ∃x w' μ' K',(Builtin.append_ #[t,t'] ty #[xs,xx]).run P w=.ok x w'/\RV μ' K' v x/\Rel G μ' K' H' w'/\Fr μ K H w μ' K' H' w':=by
 obtain⟨hlen,hncl,news,hnews,hfirst⟩:=eY (P:=P) hR hx hsrc;have hnl:news.length=m*1:=by rw [<-hncl];exact hnews.len.symm
 have hfm:∀d,(Builtin.firstCells i.size m xx).run P { w with drawn:=d }=.ok news.toArray { w with drawn:=d }:=fun d=>by
  have:=hfirst m (qz _) d;rw [hs1]
  rwa [Q9 (by omega)] at this
 have hfm0:(Builtin.firstCells i.size m xx).run P w=.ok news.toArray w:=hfm w.drawn;refine CK (P:=P) (e:=e) (run:=fun xs=>(Builtin.append_ #[t,t'] ty #[xs,xx]).run P w) hR hs hnews hncl (fun base sl sc hfit=>?_) (fun base sl sc olds ho hg hb h63=>?_) h
 ·have:=YV (P:=P) (ty:=ty) (base:=base) ht ht' hi hlen hfm0 hfit
  rwa [hs1] at this
 ·have:=ZZ (P:=P) (ty:=ty) (base:=base) (olds:=olds) ht ht' hi hz hzs hlen hfm (fun d=>by rw [hs1];exact ho d) hg (by rw [hb1];exact hb) h63
  rwa [hs1] at this
end
end Go.Ab
