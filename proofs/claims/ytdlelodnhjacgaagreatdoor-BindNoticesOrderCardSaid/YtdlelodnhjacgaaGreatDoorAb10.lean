/- -/
import Derived.Test.YtdlelodnhjacgaaGreatDoorAb9
import Derived.RecoverIn
set_option linter.unusedSimpArgs false
set_option linter.unusedVariables false
set_option maxRecDepth 8000
namespace Go.Ab
structure SDef where
 n:Nat
 r:Nat
 p:PureOp
 d:Option Nat
 c:Opd
 l:List SOper
section
variable{P:Program}{G:Nat}
end
inductive EE where
 |normal
 |exit (id:Nat)
 |ret
 /-- a panic;what it has left of the temporaries ds is not known -/
 |pan (ds:List Nat)
section
variable{P:Program}{G:Nat}{tb:Nat->Option SFn}{td:Nat->Option SDef}
end
structure Ext (H H':Hp):Prop where
 get:∀b bk,H.get b=some bk->H'.get b=some bk
 nx:H.nx<=H'.nx
theorem Ext.refl(H:Hp):Ext H H:=⟨fun _ _ h=>h,qz _⟩
theorem Ext.trans{H H' H'':Hp}(h:Ext H H')(k:Ext H' H''):Ext H H'':=⟨fun b bk hb=>k.get b bk (h.get b bk hb),aZ h.nx k.nx⟩
theorem Ext.push{H H':Hp}(hw:WF H')(h:Ext H H')(bk:B):Ext H (H'.push bk):=
 ⟨fun b k hb=>by rw [Hp.get_push,if_neg (by have:=hw b k (h.get b k hb);omega)];exact h.get b k hb,by have:=h.nx;simp;omega⟩
theorem Ext.skip{H H':Hp}(h:Ext H H')(n:Nat):Ext H (H'.skip n):=⟨h.get,by have:=h.nx;simp;omega⟩
theorem Ext.cell{H H':Hp}(h:Ext H H'){b i:Nat}{c:C}(hc:H.cell b i=some c):H'.cell b i=some c:=by
 unfold Hp.cell at hc ⊢;cases hb:H.get b with
 |none=>simp [hb] at hc
 |some bk=>rw [h.get b bk hb];simpa [hb] using hc
theorem WF.push{H:Hp}(h:WF H)(bk:B):WF (H.push bk):=fun b k hb=>by
 rw [Hp.get_push] at hb;split at hb
 ·rename_i e;simp;omega
 ·have:=h b k hb;simp;omega
theorem WF.skip{H:Hp}(h:WF H)(n:Nat):WF (H.skip n):=fun b k hb=>by have:=h b k hb;simp;omega
theorem WF.fresh{H:Hp}(h:WF H){b:Nat}(hb:H.nx<=b):H.get b=none:=by
 cases hg:H.get b with
 |none=>rfl
 |some k=>have:=h b k hg;omega
theorem ZD{H:Hp}{b:Nat}:∀{m o n:Nat} {l:List C},H.loads b o n=some l->m<=n->H.loads b (o+m) (n-m)=some (l.drop m)
 |0,o,n,l,h,_=>by simpa using h
 |m+1,o,0,l,h,hm=>by omega
 |m+1,o,n+1,l,h,hm=>by
  simp only [Hp.loads] at h;split at h
  ·cases h
  ·split at h
   ·cases h
   ·rename_i c _ l' hl';obtain rfl:=zsi h;have:=ZD (m:=m) hl' (by omega);rw [show o+(m+1)=o+1+m by omega,show n+1-(m+1)=n-m by omega];simpa using this
theorem y6{H:Hp}{b:Nat}:∀{m o n:Nat} {l:List C},H.loads b o n=some l->m<=n->H.loads b o m=some (l.take m)
 |0,o,n,l,h,_=>by simp [Hp.loads]
 |m+1,o,0,l,h,hm=>by omega
 |m+1,o,n+1,l,h,hm=>by
  simp only [Hp.loads] at h ⊢;split at h
  ·cases h
  ·rename_i c hc;split at h
   ·cases h
   ·rename_i l' hl';obtain rfl:=zsi h;simp [y6 (m:=m) hl' (by omega)]
theorem Xy{H:Hp}{b o n i k:Nat}{l:List C}(h:H.loads b o n=some l)(hk:i+k<=n):H.loads b (o+i) k=some ((l.drop i).take k):=
 y6 (ZD h (by omega)) (by omega)
theorem fV{H:Hp}{b o n i:Nat}{l:List C}(h:H.loads b o n=some l)(hi:i<n):H.cell b (o+i)=l[i]?:=by
 have:=Xy (i:=i) (k:=1) h (by omega);simp only [Hp.loads] at this;cases hc:H.cell b (o+i) with
 |none=>simp [hc] at this
 |some c=>
  simp only [hc,zoi] at this;have hl:i<l.length:=by rw [zW h];exact hi
  have h2:(List.take 1 (List.drop i l))[0]?=some l[i]:=by rw [kr hl];simp
  rw [<-this] at h2;simp at h2;rw [zge hl,h2]
theorem Vg{H:Hp}{b:Nat}{cs:List C}{rw:Bool}(h:H.get b=some (.row cs.length cs .lf rw)):H.loads b 0 cs.length=some cs:=by
 have key:∀(m o:Nat),o+m=cs.length->H.loads b o m=some (cs.drop o):=by
  intro m;induction m with
  |zero=>intro o ho;simp only [Hp.loads];rw [LQ (by omega)]
  |succ m ih=>
   intro o ho;have hlt:o<cs.length:=by omega
   have hc:H.cell b o=some cs[o]:=by
    simp only [Hp.cell,h,JN,B.cell,hlt,if_true,T.get_lf,bE,kJ hlt];simp [qT,hlt]
   simp only [Hp.loads,hc,ih (o+1) (by omega)];rw [kr hlt]
 simpa using key cs.length 0 (by omega)
abbrev Pt:=Int × Int
@[simp] theorem Hp.loads_skip (H:Hp) (k:Nat):∀(n b o:Nat),(H.skip k).loads b o n=H.loads b o n
 |0,_,_=>rfl
 |n+1,b,o=>by
  simp only [Hp.loads];rw [Hp.loads_skip H k n b (o+1)];rfl
@[simp] theorem Hp.cell_skip (H:Hp) (k b i:Nat):(H.skip k).cell b i=H.cell b i:=rfl
def yM(H:Hp)(b:Nat)(l:List C):Prop:=(∃z m,H.get b=some (.row l.length z m true))/\H.loads b 0 l.length=some l
theorem Jw{H H':Hp}{b:Nat}(h:H'.get b=H.get b):∀(n o:Nat),H'.loads b o n=H.loads b o n
 |0,_=>rfl
 |n+1,o=>by
  have hc:H'.cell b o=H.cell b o:=by unfold Hp.cell;rw [h]
  simp only [Hp.loads,hc,Jw h n (o+1)]
theorem yM.same{H H':Hp}{b:Nat}{l:List C}(h:yM H b l)(hg:H'.get b=H.get b):yM H' b l:=⟨by rw [hg];exact h.1,by rw [Jw hg];exact h.2⟩
theorem yM.mut{H:Hp}{b:Nat}{l:List C}(h:yM H b l):H.mutRow b=true:=by obtain⟨⟨z,m,hg⟩,_⟩:=h;simp [Hp.mutRow,hg]
theorem yM.new{H:Hp}(l:List C):yM (H.push (.row l.length l .lf true)) H.nx l:=
 ⟨⟨l,.lf,by rw [Hp.get_push,if_pos rfl]⟩,Vg (rw:=true) (by rw [Hp.get_push,if_pos rfl])⟩
theorem oQ{H:Hp}{b:Nat}{N:Nat}{z:List C}{m:T C}{i:Nat}{c:C}(hg:H.get b=some (.row N z m true))(hi:i<N):∀{n o:Nat} {l:List C},H.loads b o n=some l->
 (H.add b (.row N z (m.set i (some c)) true)).loads b o n=some (if o<=i then l.set (i-o) c else l)
 |0,o,l,h=>by
  simp only [Hp.loads,zoi] at h ⊢;subst h;simp
 |n+1,o,l,h=>by
  simp only [Hp.loads] at h ⊢;split at h
  ·cases h
  ·rename_i c0 hc0;split at h
   ·cases h
   ·rename_i l' hl';obtain rfl:=zsi h;have hcell:(H.add b (.row N z (m.set i (some c)) true)).cell b o=some (if o=i then c else c0):=by
     simp only [Hp.cell,Hp.get_add_self,JN,EB hi];split
     ·rfl
     ·simpa [Hp.cell,hg] using hc0
    rw [hcell];simp only;rw [oQ hg hi hl'];by_cases e1:o=i
    ·subst e1;rw [if_neg (by omega)];simp
    ·by_cases e2:o<=i
     ·rw [if_pos (by omega),if_neg e1,if_pos e2,show i-o=(i-(o+1))+1 by omega];simp
     ·rw [if_neg (by omega),if_neg e1,if_neg e2]
theorem yM.store{H:Hp}{b:Nat}{l:List C}(h:yM H b l){i:Nat}(hi:i<l.length)(c:C):
 ∃H',H.store b i c=some H'/\yM H' b (l.set i c)/\(∀b',b'≠b->H'.get b'=H.get b')/\H'.nx=H.nx:=by
 obtain⟨⟨z,m,hg⟩,hl⟩:=h;refine⟨_,by simp only [Hp.store,hg,hi,if_true];rfl,⟨⟨z,m.set i (some c),by simp⟩,?_⟩,fun b' hb'=>Hp.get_add_ne _ _ hb',rfl⟩;rw [jG,oQ hg hi hl];simp
def wn(l:List C)(i:Nat):List C->List C
 |[]=>l
 |c::cs=>wn (l.set i c) (i+1) cs
theorem ka:∀(cs l:List C) (i:Nat),(wn l i cs).length=l.length
 |[],_,_=>rfl
 |c::cs,l,i=>by rw [wn,ka];simp
theorem yM.stores:∀{cs:List C} {H:Hp} {b:Nat} {l:List C},yM H b l->∀{i:Nat},i+cs.length<=l.length->
 ∃H',H.stores b i cs=some H'/\yM H' b (wn l i cs)/\(∀b',b'≠b->H'.get b'=H.get b')/\H'.nx=H.nx
 |[],H,b,l,h,i,_=>⟨H,rfl,h,fun _ _=>rfl,rfl⟩
 |c::cs,H,b,l,h,i,hi=>by
  simp only [xA] at hi;obtain⟨H1,h1,h2,h3,h4⟩:=h.store (i:=i) (by omega) c;obtain⟨H2,g1,g2,g3,g4⟩:=yM.stores (cs:=cs) h2 (i:=i+1) (by simp;omega);exact⟨H2,by simp only [Hp.stores,h1,g1],g2,fun b' hb'=>(g3 b' hb').trans (h3 b' hb'),by rw [g4,h4]⟩
namespace T
variable{α β:Type}
def bindT(f:α->Option β):T α->T β
 |lf=>lf
 |nd v l r=>nd (v.bind f) (bindT f l) (bindT f r)
theorem get_bindT(f:α->Option β):∀(t:T α) (n:Nat),(t.bindT f).get n=(t.get n).bind f
 |lf,_=>rfl
 |nd v l r,n=>by
  simp only [bindT,Zb];split
  ·rfl
  ·split
   ·exact get_bindT f l _
   ·exact get_bindT f r _
def over:T α->T α->T α
 |lf,t=>t
 |nd v l r,lf=>nd v l r
 |nd v l r,nd v' l' r'=>nd (v.or v') (over l l') (over r r')
theorem get_over:∀(t t':T α) (n:Nat),(t.over t').get n=(t.get n).or (t'.get n)
 |lf,_,_=>by simp [over]
 |nd v l r,lf,n=>by simp [over]
 |nd v l r,nd v' l' r',n=>by
  simp only [over,Zb];split
  ·rfl
  ·split
   ·exact get_over l l' _
   ·exact get_over r r' _
end T
def B.ro:B->Option B
 |.row n z m _=>some (.row n z m false)
 |.mp _=>none
 |.lp ..=>none
 |.st ..=>none
 |.it ..=>none
 |.tr _ l=>some (.row l.length l .lf false)
theorem B.row_cell(l:List C)(i:Nat):(B.row l.length l .lf false).cell i=l[i]?:=by
 simp only [B.cell,T.get_lf,bE];split
 ·rename_i h;rw [kJ h,zge h,qT,zge h];rfl
 ·rename_i h;exact (yJ (by omega)).symm
def Hp.ro(H:Hp):Hp:=⟨H.m.bindT B.ro,H.nx⟩
theorem Hp.get_ro(H:Hp)(b:Nat):H.ro.get b=(H.get b).bind B.ro:=T.get_bindT _ _ _
@[simp] theorem Hp.nx_ro (H:Hp):H.ro.nx=H.nx:=rfl
theorem B.ro_mut{x y:B}(h:x.ro=some y):y.mut=false:=by
 cases x with
 |row n z m rw=>simp only [B.ro,zoi] at h;subst h;rfl
 |tr t l=>simp only [B.ro,zoi] at h;subst h;rfl
 |mp es=>cases h
 |lp=>cases h
 |st=>cases h
 |it=>cases h
theorem B.ro_cell{x y:B}(h:x.ro=some y)(i:Nat):y.cell i=x.cell i:=by
 cases x with
 |row n z m rw=>simp only [B.ro,zoi] at h;subst h;rfl
 |tr t l=>simp only [B.ro,zoi] at h;subst h;exact B.row_cell l i
 |mp es=>cases h
 |lp=>cases h
 |st=>cases h
 |it=>cases h
theorem Hp.cell_ro(H:Hp)(b i:Nat):H.ro.cell b i=H.cell b i:=by
 unfold Hp.cell;rw [Hp.get_ro];cases h:H.get b with
 |none=>rfl
 |some x=>
  cases x with
  |row n z m rw=>rfl
  |tr t l=>exact B.row_cell l i
  |mp es=>rfl
  |lp=>rfl
  |st=>rfl
  |it=>rfl
theorem Hp.ro_mut{H:Hp}{b:Nat}{bk:B}(h:H.ro.get b=some bk):bk.mut=false:=by
 rw [Hp.get_ro,JJ] at h;obtain⟨x,_,hx⟩:=h;exact B.ro_mut hx
def Le(H H':Hp):Prop:=∀b i c,H.cell b i=some c->H'.cell b i=some c
theorem Ext.le{H H':Hp}(h:Ext H H'):Le H H':=fun _ _ _ hc=>h.cell hc
theorem Le.ro(H:Hp):Le H H.ro:=fun b i c h=>by rw [Hp.cell_ro];exact h
theorem Le.loads{H H':Hp}(h:Le H H'):∀{n b o:Nat} {l:List C},H.loads b o n=some l->H'.loads b o n=some l
 |0,_,_,_,hl=>hl
 |n+1,b,o,l,hl=>by
  simp only [Hp.loads] at hl ⊢;cases hc:H.cell b o with
  |none=>simp [hc] at hl
  |some c=>
   simp only [hc] at hl;simp only [h _ _ _ hc];cases hr:H.loads b (o+1) n with
   |none=>simp [hr] at hl
   |some r=>simp only [hr] at hl;simp only [h.loads hr];exact hl
def C.closed:C->Bool
 |.bool _=>true
 |.int _ _=>true
 |.str _=>true
 |.nilp=>true
 |.nils=>true
 |.nilm=>true
 |.nilf=>true
 |.fn _ caps=>caps.isEmpty
 |.ifa=>true
 |.nili=>true
 |.anyi=>true
 |_=>false
def V.closed1:V->Bool
 |.one c=>c.closed
 |.agg l=>l.all C.closed
 |.tup _=>false
def V.closed:V->Bool
 |.one c=>c.closed
 |.agg l=>l.all C.closed
 |.tup l=>l.all V.closed1
section
variable{μ μ':Nat->Pl}{K K':Nat->Prop}
theorem RC.closed{c:C}{x:Value}(hc:c.closed=true)(h:RC μ K c x):RC μ' K' c x:=by
 cases c with
 |ptr b o=>cases hc
 |slc b o len cap esz ex=>cases hc
 |map b=>cases hc
 |yld b=>cases hc
 |bm f b o=>cases hc
 |fn f caps=>
  simp only [C.closed,List.isEmpty_iff] at hc;subst hc;exact⟨fun p hp=>(by cases hp),h.2⟩
 |_=>exact h
theorem RCs.closed:∀{l:List C} {xs:List Value},l.all C.closed=true->qe (RC μ K) l xs->qe (RC μ' K') l xs
 |[],[],_,_=>trivial
 |_::_,_::_,hc,hh=>by
  simp only [List.all_cons,x8] at hc;exact⟨RC.closed hc.1 hh.1,RCs.closed hc.2 hh.2⟩
 |[],_::_,_,hh=>hh.elim
 |_::_,[],_,hh=>hh.elim
theorem z6.closed{v:V}{x:Value}(hc:v.closed1=true)(h:z6 μ K v x):z6 μ' K' v x:=by
 cases v with
 |one c=>exact RC.closed hc h
 |agg l=>obtain⟨xs,hx,ha⟩:=h;exact⟨xs,hx,RCs.closed hc ha⟩
 |tup l=>exact h.elim
theorem RV1s.closed:∀{l:List V} {xs:List Value},l.all V.closed1=true->qe (z6 μ K) l xs->qe (z6 μ' K') l xs
 |[],[],_,_=>trivial
 |_::_,_::_,hc,hh=>by
  simp only [List.all_cons,x8] at hc;exact⟨z6.closed hc.1 hh.1,RV1s.closed hc.2 hh.2⟩
 |[],_::_,_,hh=>hh.elim
 |_::_,[],_,hh=>hh.elim
theorem RV.closed{v:V}{x:Value}(hc:v.closed=true)(h:RV μ K v x):RV μ' K' v x:=by
 cases v with
 |one c=>exact RC.closed hc h
 |agg l=>obtain⟨xs,hx,ha⟩:=h;exact⟨xs,hx,RCs.closed hc ha⟩
 |tup l=>obtain⟨xs,hx,ha⟩:=h;exact⟨xs,hx,RV1s.closed hc ha⟩
theorem RVs.closed:∀{l:List V} {xs:List Value},l.all V.closed=true->qe (RV μ K) l xs->qe (RV μ' K') l xs
 |[],[],_,_=>trivial
 |_::_,_::_,hc,hh=>by
  simp only [List.all_cons,x8] at hc;exact⟨RV.closed hc.1 hh.1,RVs.closed hc.2 hh.2⟩
 |[],_::_,_,hh=>hh.elim
 |_::_,[],_,hh=>hh.elim
end
section
variable{P:Program}{G:Nat}
theorem Rel.toRo{μ:Nat->Pl}{K:Nat->Prop}{H:Hp}{w:World}(hR:Rel G μ K H w):Rel G μ K H.ro w:=by
 refine⟨fun b bk h=>?_,hR.lt,fun b bk h=>?_,fun b b' bk bk' h _ hm=>?_,hR.glob⟩
 ·rw [Hp.get_ro,JJ] at h;obtain⟨x,hx,_⟩:=h;exact hR.dom b x hx
 ·rw [Hp.get_ro,JJ] at h;obtain⟨x,hx,h⟩:=h;have hb:=hR.blk b x hx;cases x with
  |mp es=>cases h
  |lp=>cases h
  |st=>cases h
  |it=>cases h
  |row n z m rw=>
   simp only [B.ro,zoi] at h;subst h;obtain⟨cs,t,fz,h1,h2,h3,h4,h5⟩:=hb;exact⟨cs,t,fz,h1,h2,h3,fun h=>(by cases h),fun i c hc=>h5 i c hc⟩
  |tr t l=>
   simp only [B.ro,zoi] at h;subst h;obtain⟨cs,u,h1,h2,h3,h4,h5⟩:=hb;exact⟨cs,t,(0,0),h1,h2,by omega,fun h=>(by cases h),fun i c hc=>by
    rw [B.row_cell] at hc;obtain⟨x,hx,hr⟩:=h5 i c hc;exact⟨x,by rw [h3,ym];exact hx,hr⟩⟩
 ·rw [Hp.ro_mut h] at hm;cases hm
theorem xc.sub {f:FuncId} {args:List V} {H1 H:Hp} {R:V->Hp->Prop} (h:xc P G f args H1 R) (hargs:args.all V.closed=true) (hG:G<=H1.nx) (hw:WF H1)
 (hsub:∀b bk,H1.get b=some bk->H.get b=some bk/\bk.mut=false/\∀i c,bk.cell i=some c->c.closed=true) (hc:∀v H',R v H'->v.closed=true):
 xc P G f args H fun v H'=>(∃H1,R v H1)/\H'=H:=by
 intro μ K w xs hR ha;have hR1:Rel G μ (fun b=>b<H1.nx/\K b) H1 w:=by
  refine⟨fun b bk hb=>⟨hw b bk hb,hR.dom b bk (hsub b bk hb).1⟩,fun b hb=>hb.1,fun b bk hb=>?_,fun b b' bk bk' hb _ hm=>?_,fun g hg=>⟨⟨Qg hg hG,(hR.glob g hg).1⟩,(hR.glob g hg).2⟩⟩
  ·obtain⟨g1,g2,g3⟩:=hsub b bk hb;have hb':=hR.blk b bk g1;cases bk with
   |mp es=>cases g2
   |lp=>cases g2
   |st=>cases g2
   |it=>cases g2
   |tr=>cases g2
   |row n z m rw=>
    obtain⟨cs,t,fz,e1,e2,e3,e4,e5⟩:=hb';exact⟨cs,t,fz,e1,e2,e3,e4,fun i c hcc=>by
     obtain⟨x,hx,hr⟩:=e5 i c hcc;exact⟨x,hx,hr.closed (g3 i c hcc)⟩⟩
  ·rw [(hsub b bk hb).2.1] at hm;cases hm
 refine (h μ _ w xs hR1 (RVs.closed hargs ha)).mono ?_;rintro e w' ⟨x,rfl,v,H',μ',K',h1,h2,h3,h4⟩;have hkeep:∀i,i<w.heap.size->w'.heap[i]?=w.heap[i]?:=fun i hi=>h4.keep i hi fun b bk hb hm=>by rw [(hsub b bk hb).2.1] at hm;cases hm
 refine⟨x,O,v,H,μ,K,⟨⟨H',h1⟩,O⟩,h2.closed (hc v H' h1),⟨hR.dom,hR.lt,fun b bk hb=>?_,hR.inj,hR.glob⟩,?_⟩
 ·rw [hkeep _ (hR.blk_lt hb)];exact hR.blk b bk hb
 ·have r:=Fr.refl hR;exact⟨h4.same,h4.size,fun i hi _=>hkeep i hi,r.img,r.newmut,r.mu,r.kk,r.knew,r.nx,r.none,r.stay,r.ro⟩
def Hp.over(H H1:Hp):Hp:=⟨H.m.over H1.m,H1.nx⟩
theorem Hp.get_over(H H1:Hp)(b:Nat):(H.over H1).get b=(H.get b).or (H1.get b):=T.get_over _ _ _
theorem xc.grow{f:FuncId}{args:List V}{H:Hp}{R:V->Hp->Prop}(h:xc P G f args H.ro R):
 xc P G f args H fun v H'=>∃H1,R v H1/\H'=H.over H1/\H.nx<=H1.nx/\(∀b bk,H.get b=some bk->H'.get b=some bk)/\(∀b,H.nx<=b->H'.get b=H1.get b)/\Le H1 H':=by
 intro μ K w xs hR ha;refine (h μ K w xs hR.toRo ha).mono ?_;rintro e w' ⟨x,rfl,v,H1,μ',K',h1,h2,h3,h4⟩;have hkeep:∀i,i<w.heap.size->w'.heap[i]?=w.heap[i]?:=fun i hi=>h4.keep i hi fun b bk hb hm=>by rw [Hp.ro_mut hb] at hm;cases hm
 have hold:∀b bk,H.get b=some bk->(H.over H1).get b=some bk:=fun b bk hb=>by rw [Hp.get_over,hb];rfl
 have hno:∀b,H.nx<=b->H.get b=none:=fun b hb=>by
  cases hg:H.get b with
  |none=>rfl
  |some k=>have:=hR.lt' b k hg;omega
 have hnew:∀b,H.nx<=b->(H.over H1).get b=H1.get b:=fun b hb=>by rw [Hp.get_over,hno b hb];rfl
 have hcase:∀b bk,(H.over H1).get b=some bk->H.get b=some bk\/(H.get b=none/\H1.get b=some bk/\H.nx<=b/\(bk.mut=true\/(K' b/\w.heap.size<=(μ' b).blk))/\w.heap.size<=(μ' b).blk):=by
  intro b bk hb;rw [Hp.get_over] at hb;cases hg:H.get b with
  |some k=>rw [hg] at hb;exact .inl hb
  |none=>
   rw [hg] at hb;have hb:H1.get b=some bk:=hb;by_cases hlt:b<H.nx
   ·have:=h4.none b hlt (by rw [Hp.get_ro,hg];rfl);rw [this] at hb;cases hb
   ·have hm:=h4.newmut b bk (by simpa using hlt) hb;refine .inr ⟨O,hb,by omega,hm,?_⟩;rcases hm with hm|⟨_,hge⟩
    ·rcases h4.img b bk hb hm with⟨b0,k0,g0,m0,_⟩|hge
     ·rw [Hp.ro_mut g0] at m0;cases m0
     ·exact hge
    ·exact hge
 have hmu:∀b bk,H.get b=some bk->μ' b=μ b:=fun b bk hb=>h4.mu b (hR.dom b bk hb);refine⟨x,O,v,H.over H1,μ',K',⟨H1,h1,O,h4.nx,hold,hnew,fun b i c hc=>?_⟩,h2,⟨fun b bk hb=>?_,h3.lt,fun b bk hb=>?_,fun b b' bk bk' hb hb' hm he=>?_,h3.glob⟩,?_⟩
 ·unfold Hp.cell at hc ⊢;rw [Hp.get_over];cases hg:H.get b with
  |none=>exact hc
  |some k=>
   simp only [Option.some_or,JN];cases hk:k.ro with
   |none=>
    have hrn:H.ro.get b=none:=by rw [Hp.get_ro,hg];exact hk
    rw [h4.none b (hR.lt' b k hg) hrn] at hc;cases hc
   |some k'=>
    have hrn:H.ro.get b=some k':=by rw [Hp.get_ro,hg];exact hk
    rw [h4.ro b k' hrn (B.ro_mut hk)] at hc;simpa [B.ro_cell hk] using hc
 ·rcases hcase b bk hb with ho|⟨_,hn,_⟩
  ·exact h4.kk b (hR.dom b bk ho)
  ·exact h3.dom b bk hn
 ·rcases hcase b bk hb with ho|⟨_,hn,_⟩
  ·rw [hmu b bk ho,hkeep _ (hR.blk_lt ho)];exact (hR.blk b bk ho).mono h4.kk h4.mu
  ·exact h3.blk b bk hn
 ·rcases hcase b bk hb with ho|⟨_,hn,hge,hm1,hsz⟩
  ·rcases hcase b' bk' hb' with ho'|⟨_,hn',_,_,hsz'⟩
   ·rw [hmu b bk ho,hmu b' bk' ho'] at he;exact hR.inj b b' bk bk' ho ho' hm he
   ·rw [hmu b bk ho] at he;have:=hR.blk_lt ho;omega
  ·rcases hcase b' bk' hb' with ho'|⟨_,hn',_⟩
   ·rw [hmu b' bk' ho'] at he;have:=hR.blk_lt ho';omega
   ·exact h3.inj b b' bk bk' hn hn' hm he
 ·refine⟨h4.same,h4.size,fun i hi _=>hkeep i hi,fun b bk hb hm=>?_,fun b bk hb hg=>?_,h4.mu,h4.kk,h4.knew,h4.nx,fun b hb hn=>?_,fun b bk bk' hb hb'=>?_,fun b bk hb _=>hold b bk hb⟩
  ·rcases hcase b bk hb with ho|⟨_,_,_,_,hsz⟩
   ·exact .inl ⟨b,bk,ho,hm,by rw [hmu b bk ho]⟩
   ·exact .inr hsz
  ·rcases hcase b bk hg with ho|⟨_,_,_,hm,_⟩
   ·have:=hR.lt' b bk ho;omega
   ·exact hm
  ·cases hg:(H.over H1).get b with
   |none=>rfl
   |some k=>
    rcases hcase b k hg with ho|⟨_,_,hge,_⟩
    ·rw [hn] at ho;cases ho
    ·omega
  ·rw [hold b bk hb] at hb';rw [zsi hb']
end
end Go.Ab
namespace Go.Ab
abbrev Xi:=List (Nat × V)
def Mz:Xi->Nat->Option V
 |[],_=>none
 |(k,v)::E,n=>match Nat.beq k n with
  |true=>some v
  |false=>Mz E n
def res(E:Xi):Opd->Opd
 |.t n=>match Mz E n with
  |some v=>.c v
  |none=>.t n
 |.c v=>.c v
def rX(f:Opd->Opd):List (Nat × Nat × Opd)->List (Nat × Nat × Opd)
 |[]=>[]
 |(a,b,x)::r=>(a,b,f x)::rX f r
def K7:List (Nat × Nat × Opd)->List Opd
 |[]=>[]
 |(_,_,x)::r=>x::K7 r
def wH(f:Opd->Opd):Option Opd->Option Opd
 |none=>none
 |some x=>some (f x)
def kK:Option Opd->List Opd
 |none=>[]
 |some x=>[x]
def PureOp.mp(f:Opd->Opd):PureOp->PureOp
 |.mv x=>.mv (f x)
 |.pick c a b=>.pick (f c) (f a) (f b)
 |.build z ps=>.build z (rX f ps)
 |.nilck x=>.nilck (f x)
 |.bin op x y=>.bin op (f x) (f y)
 |.beq n x y=>.beq n (f x) (f y)
 |.eqs n ks x y=>.eqs n ks (f x) (f y)
 |.neg x=>.neg (f x)
 |.not x=>.not (f x)
 |.conv k x=>.conv k (f x)
 |.mkfn g caps=>.mkfn g (caps.map f)
 |.slice e x lo hi mx=>.slice e (f x) (wH f lo) (wH f hi) (wH f mx)
 |.faddr o x=>.faddr o (f x)
 |.field a o n x=>.field a o n (f x)
 |.iaddr e x i=>.iaddr e (f x) (f i)
 |.aaddr l e x i=>.aaddr l e (f x) (f i)
 |.aindex l e a x i=>.aindex l e a (f x) (f i)
 |.extract x i=>.extract (f x) i
 |.len x=>.len (f x)
 |.mm b x y=>.mm b (f x) (f y)
 |.nileq n x=>.nileq n (f x)
 |.cint n=>.cint n
 |.sindex x i=>.sindex (f x) (f i)
 |.slen x=>.slen (f x)
 |.sslice x lo hi=>.sslice (f x) (wH f lo) (wH f hi)
 |.cap x=>.cap (f x)
 |.scat x y=>.scat (f x) (f y)
 |.seq n x y=>.seq n (f x) (f y)
 |.mkif x=>.mkif (f x)
 |.ifeq n x=>.ifeq n (f x)
 |.peq n x y=>.peq n (f x) (f y)
 |.bm g x=>.bm g (f x)
 |.sdata x=>.sdata (f x)
 |.idxb x y=>.idxb (f x) (f y)
 |.cnt x y=>.cnt (f x) (f y)
def PureOp.opds:PureOp->List Opd
 |.mv x=>[x]
 |.pick c a b=>[c,a,b]
 |.build _ ps=>K7 ps
 |.nilck x=>[x]
 |.bin _ x y=>[x,y]
 |.beq _ x y=>[x,y]
 |.eqs _ _ x y=>[x,y]
 |.neg x=>[x]
 |.not x=>[x]
 |.conv _ x=>[x]
 |.mkfn _ caps=>caps
 |.slice _ x lo hi mx=>x::(kK lo++(kK hi++kK mx))
 |.faddr _ x=>[x]
 |.field _ _ _ x=>[x]
 |.iaddr _ x i=>[x,i]
 |.aaddr _ _ x i=>[x,i]
 |.aindex _ _ _ x i=>[x,i]
 |.extract x _=>[x]
 |.len x=>[x]
 |.mm _ x y=>[x,y]
 |.nileq _ x=>[x]
 |.cint _=>[]
 |.sindex x i=>[x,i]
 |.slen x=>[x]
 |.sslice x lo hi=>x::(kK lo++kK hi)
 |.cap x=>[x]
 |.scat x y=>[x,y]
 |.seq _ x y=>[x,y]
 |.mkif x=>[x]
 |.ifeq _ x=>[x]
 |.peq _ x y=>[x,y]
 |.bm _ x=>[x]
 |.sdata x=>[x]
 |.idxb x y=>[x,y]
 |.cnt x y=>[x,y]
section
variable{f:Opd->Opd}{F F':T V}
theorem E8:∀{ps:List (Nat × Nat × Opd)} {z:List C},(∀o∈K7 ps,(f o).ev F'=o.ev F)->yD F' z (rX f ps)=yD F z ps
 |[],_,_=>rfl
 |(a,b,x)::r,z,h=>by
  simp only [rX,yD,h x (by simp [K7])];split
  ·rfl
  ·split
   ·exact E8 fun o ho=>h o (by simp [K7,ho])
   ·rfl
theorem GD:∀{l:List Opd},(∀o∈l,(f o).ev F'=o.ev F)->kN F' (l.map f)=kN F l
 |[],_=>rfl
 |x::l,h=>by
  simp only [jr,kN,h x (by simp),GD (l:=l) fun o ho=>h o (by simp [ho])]
theorem dZ{d y:Nat}{x:Option Opd}(h:∀o∈kK x,(f o).ev F'=o.ev F):qQ F' d y (wH f x)=qQ F d y x:=by
 cases x with
 |none=>rfl
 |some x=>simp only [wH,qQ,h x (by simp [kK])]
theorem MY{v:V}{lo hi:Option Opd}(h:∀o∈kK lo++kK hi,(f o).ev F'=o.ev F):wU F' v (wH f lo) (wH f hi)=wU F v lo hi:=by
 unfold wU;have h1:∀k y,qQ F' k y (wH f lo)=qQ F k y lo:=fun k y=>by
  cases lo with
  |none=>rfl
  |some x=>simp only [wH,qQ,h x (by simp [kK])]
 have h2:∀k y,qQ F' k y (wH f hi)=qQ F k y hi:=fun k y=>by
  cases hi with
  |none=>rfl
  |some x=>simp only [wH,qQ,h x (by simp [kK])]
 simp only [h1,h2]
theorem SI{e:Nat}{v:V}{lo hi mx:Option Opd}(h:∀o∈kK lo++(kK hi++kK mx),(f o).ev F'=o.ev F):jV F' e v (wH f lo) (wH f hi) (wH f mx)=jV F e v lo hi mx:=by
 have h1:∀d y,qQ F' d y (wH f lo)=qQ F d y lo:=fun _ _=>dZ fun o ho=>h o (by simp [ho]);have h2:∀d y,qQ F' d y (wH f hi)=qQ F d y hi:=fun _ _=>dZ fun o ho=>h o (by simp [ho]);have h3:∀d y,qQ F' d y (wH f mx)=qQ F d y mx:=fun _ _=>dZ fun o ho=>h o (by simp [ho]);have h4:(wH f mx).isSome=mx.isSome:=by cases mx<;>rfl
 simp only [jV,h1,h2,h3,h4]
theorem Ez{op:PureOp}(h:∀o∈op.opds,(f o).ev F'=o.ev F):qp F' (op.mp f)=qp F op:=by
 cases op with
 |build z ps=>simp only [PureOp.mp,qp,E8 h]
 |mkfn g caps=>
  have h':∀o∈caps,(f o).ev F'=o.ev F:=h;simp only [PureOp.mp,qp,GD h']
 |sslice x lo hi=>
  simp only [PureOp.mp,qp];rw [h x (by simp [PureOp.opds]),MY fun o ho=>h o (by simp only [PureOp.opds,zd];exact .inr ho)]
 |slice e x lo hi mx=>
  simp only [PureOp.mp,qp];rw [h x (by simp [PureOp.opds]),SI fun o ho=>h o (by simp only [PureOp.opds,zd];exact .inr ho)]
 |_=>simp only [PureOp.opds,zd,nO,or_false,forall_eq_or_imp,forall_eq] at h<;>simp only [PureOp.mp,qp,h]
end
section
variable{P:Program}{G base:Nat}{Q:Xi->Hp->Prop}{r:List SOper}{ctx:z7}{E:Xi}{H:Hp}{id:Nat}{dst:Option Nat}{aid:Option Nat}{ws:List Nat}{keep:Bool}
end
section
variable{P:Program}{G n:Nat}{Q:Exit->Xi->Hp->Prop}{E:Xi}{H:Hp}
end
section
variable{P:Program}{G base:Nat}{Q:Xi->Hp->Prop}{r:List SOper}{ctx:z7}{E:Xi}{H H':Hp}{id:Nat}{dst:Option Nat}{aid:Option Nat}{ws:List Nat}{keep:Bool}
end
section
variable{P:Program}{G base:Nat}{Q:Xi->Hp->Prop}{r:List SOper}{ctx:z7}{E:Xi}{H H':Hp}{id:Nat}{dst:Option Nat}{aid:Option Nat}{ws:List Nat}{keep:Bool}
end
section
variable{P:Program}{G base:Nat}{Q:Xi->Hp->Prop}{r:List SOper}{ctx:z7}{E:Xi}{H H':Hp}{id:Nat}{dst:Option Nat}{aid:Option Nat}{ws:List Nat}{keep:Bool}
end
theorem MA{ws:List Nat}{ctx:z7}{H:Hp}(h:∀x∈ctx,x.2 H):yi ws ctx H:=by
 cases ws with
 |nil=>trivial
 |cons k r=>exact fun j _ p hp=>h (j,p) hp
section
variable{P:Program}{G base:Nat}{Q:Xi->Hp->Prop}{r:List SOper}{ctx:z7}{E:Xi}{H H':Hp}{id:Nat}{dst:Option Nat}{aid:Option Nat}{ws:List Nat}{keep:Bool}
end
section
variable{P:Program}{G base:Nat}{Q:Xi->Hp->Prop}{r:List SOper}{ctx:z7}{E:Xi}{H H':Hp}{id:Nat}{dst:Option Nat}{aid:Option Nat}{ws:List Nat}{keep:Bool}
end
section
variable{P:Program}{G base:Nat}{Q:Xi->Hp->Prop}{r:List SOper}{ctx:z7}{E:Xi}{H H':Hp}{id:Nat}{dst:Option Nat}{aid:Option Nat}{ws:List Nat}{keep:Bool}
end
inductive FD where
 |c (x:C)
 |sl (esz n:Nat) (l:List FD)
inductive DC where
 |f (d:FD)
 |g (b o:Nat)
 |ptr (k o:Nat)
 |own (k o n esz:Nat)
 |fptr (l:List FD)
 |fn (f:FuncId) (caps:List (Nat × Nat))
 |any
 |trow (k i o n:Nat)
 |tptr (k i o:Nat)
 |om (k:Nat)
 |yl (k:Nat)
 /-- a function whose variables are no more written -/
 |fz (f:FuncId) (ls:List (List FD))
inductive DV where
 |one (c:DC)
 |agg (l:List DC)
 |tup (l:List DV)
abbrev DV.int(n:Int):DV:=.one (.f (.c (.int .i64 n)))
abbrev DV.bool(b:Bool):DV:=.one (.f (.c (.bool b)))
abbrev DV.undef:DV:=.tup []
inductive ME where
 |row (r:List FD)
 |out (c:DC)
inductive Sh where
 |m (ks:Nat)
 |lp (st:LoopState) (j:Option Code) (f:FuncId) (n:Nat) (ts:List Nat) (ps:List Nat) (sg bd:Code)
 /-- a map with structures as keys,whole -/
 |st (es:List (V × V × Nat)) (clk:Nat)
 /-- an iteration over one;its one cell is the map -/
 |it (since:Nat) (seen:List Nat) (last:Nat)
 /-- a map with points as keys:these with their stamps;its cells are the values -/
 |sm (ks:List (Int × Int × Nat)) (clk:Nat)
inductive Bk where
 |cells (l:List DC)
 |data (l:List FD)
 |tree (rows:List (List FD))
 |mp (ks:Sh) (l:List DC)
 |mt (es:List (Int × ME))
inductive Slot where
 |nil
 |blk (b N:Nat)
inductive RF (Z:Nat->Prop) (H:Hp):FD->C->Prop where
 |c (x:C):x.closed=true->RF Z H (.c x) x
 |nil (esz:Nat):RF Z H (.sl esz 0 []) .nils
 |sl {esz n b o cap:Nat} {ex:Bool} {l:List FD} {cs:List C}:(0<n*esz->Z b)->l.length=n*esz->n<=cap->H.loads b o (n*esz)=some cs->(∀(i:Nat) d c,l[i]?=some d->cs[i]?=some c->RF Z H d c)->RF Z H (.sl esz n l) (.slc b o n cap esz ex)
abbrev zP:=Nat × Nat
abbrev qt:=zP->Option Slot
def ki(β:qt):List (Nat × Nat)->List (Nat × Nat)->Prop
 |[],[]=>True
 |(k,o)::r,(b,o')::r'=>o'=o/\(∃N,β (k,0)=some (.blk b N))/\ki β r r'
 |_,_=>False
def GR(Z:Nat->Prop)(H:Hp):List (List FD)->List (Nat × Nat)->Prop
 |[],[]=>True
 |l::ls,p::ps=>(Z p.1/\∃cs,H.loads p.1 p.2 l.length=some cs/\qe (RF Z H) l cs)/\GR Z H ls ps
 |_,_=>False
def RD(Z:Nat->Prop)(H:Hp)(β:qt):DC->C->Prop
 |.f d,c=>RF Z H d c
 |.g b o,c=>c=.ptr b o
 |.ptr k o,c=>∃b N,β (k,0)=some (.blk b N)/\c=.ptr b o
 |.own k o n esz,c=>(β (k,0)=some .nil/\n=0/\o=0/\c=.nils)\/∃b N cap ex,β (k,0)=some (.blk b N)/\c=.slc b o n cap esz ex/\n<=cap/\o+cap*esz<=N
 |.fptr l,c=>∃b o cs,c=.ptr b o/\Z b/\H.loads b o l.length=some cs/\qe (RF Z H) l cs
 |.fn f caps,c=>∃caps',c=.fn f caps'/\ki β caps caps'
 |.any,_=>True
 |.tptr k i o,c=>∃b N,β (k,i+1)=some (.blk b N)/\c=.ptr b o
 |.om k,c=>∃b N,β (k,0)=some (.blk b N)/\c=.map b
 |.yl k,c=>∃b N,β (k,0)=some (.blk b N)/\c=.yld b
 |.fz f ls,c=>∃caps,c=.fn f caps/\GR Z H ls caps
 |.trow k i o n,c=>(β (k,i+1)=some .nil/\n=0/\o=0/\c=.nils)\/∃b N cap ex,β (k,i+1)=some (.blk b N)/\c=.slc b o n cap 1 ex/\n<=cap/\o+cap*1<=N
def zC(Z:Nat->Prop)(H:Hp)(β:qt):DV->V->Prop
 |.one d,v=>∃c,v=.one c/\RD Z H β d c
 |.agg l,v=>∃cs,v=.agg cs/\qe (RD Z H β) l cs
 |.tup _,_=>False
def xi(Z:Nat->Prop)(H:Hp)(β:qt):DV->V->Prop
 |.tup l,v=>∃vs,v=.tup vs/\qe (zC Z H β) l vs
 |d,v=>zC Z H β d v
def Bk.rel(Z:Nat->Prop)(H:Hp)(β:qt):Bk->List C->Prop
 |.cells l,cs=>qe (RD Z H β) l cs
 |.data l,cs=>qe (RF Z H) l cs
 |.tree _,_=>False
 |.mp _ l,cs=>qe (RD Z H β) l cs
 |.mt _,_=>False
def Bk.len:Bk->Nat
 |.cells l=>l.length
 |.data l=>l.length
 |.tree rows=>rows.length
 |.mp _ l=>l.length
 |.mt es=>es.length
def Bk.flat:Bk->Bool
 |.tree _=>false
 |.mt _=>false
 |_=>true
def Bk.shape:Bk->Option Sh
 |.mp ks _=>some ks
 |_=>none
def Rv:Nat->V->Prop
 |0,v=>∃c,v=.one c
 |n+1,v=>∃l,v=.agg l/\l.length=n+1
def MF:List (V × V)->List C
 |[]=>[]
 |(k,v)::es=>k.cells++v.cells++MF es
def R7(F:T V):List Nat->List C->Prop
 |[],[]=>True
 |t::ts,c::cs=>F.get t=some (.one c)/\R7 F ts cs
 |_,_=>False
def Tt:List (Int × Int × Nat)->List C->List (V × V × Nat)->Prop
 |[],[],[]=>True
 |k::ks,c::cs,e::es=>e=(.agg [.int .i64 k.1,.int .i64 k.2.1],.one c,k.2.2)/\Tt ks cs es
 |_,_,_=>False
def CT:Option Sh->Hp->Nat->List C->Prop
 |none,H,b,cs=>yM H b cs
 |some (.m ks),H,b,cs=>∃es,H.get b=some (.mp es)/\(∀e∈es,Rv ks e.1/\∃c,e.2=.one c)/\MF es=cs
 |some (.lp st j f n ts ps sg bd),H,b,cs=>∃F,H.get b=some (.lp st j f n F ps.toArray sg bd)/\R7 F ts cs
 |some (.st es clk),H,b,cs=>∃_:Unit,H.get b=some (.st es clk)/\cs=[]
 |some (.it since seen last),H,b,cs=>∃mb,H.get b=some (.it mb since seen last)/\cs=[.map mb]
 |some (.sm ks clk),H,b,cs=>∃es,H.get b=some (.st es clk)/\Tt ks cs es
def Y6:Option Sh->Nat->Nat->List C->Prop
 |none,n,N,_=>n=N
 |some _,_,_,rest=>rest=[]
theorem Y6.of{s:Option Sh}{n N:Nat}{rest:List C}(hs:s=none)(h:n=N):Y6 s n N rest:=by subst hs;exact h
theorem CT.same{s:Option Sh}{H H':Hp}{b:Nat}{cs:List C}(h:CT s H b cs)(hg:H'.get b=H.get b):CT s H' b cs:=by
 cases s with
 |none=>exact yM.same h hg
 |some ks=>cases ks<;>(obtain⟨es,h1,h2⟩:=h;exact⟨es,by rw [hg];exact h1,h2⟩)
abbrev qk:=List (Nat × DV)
abbrev Bx:=List (Nat × Bk)
def lk{α:Type}:List (Nat × α)->Nat->Option α
 |[],_=>none
 |(k,v)::E,n=>match Nat.beq k n with
  |true=>some v
  |false=>lk E n
theorem vf(k:Nat):Nat.beq k k=true:=by simp
theorem wS{k n:Nat}(h:k≠n):Nat.beq k n=false:=by
 cases hb:Nat.beq k n with
 |true=>exact absurd (Nat.eq_of_beq_eq_true hb) h
 |false=>rfl
theorem qw{α:Type}(k:Nat)(v:α)(E:List (Nat × α))(n:Nat):lk ((k,v)::E) n=if k=n then some v else lk E n:=by
 simp only [lk];by_cases h:k=n
 ·subst h;simp
 ·rw [if_neg h,wS h]
def xP{α:Type}(k:Nat):List (Nat × α)->List (Nat × α)
 |[]=>[]
 |(j,v)::E=>match Nat.beq j k with
  |true=>xP k E
  |false=>(j,v)::xP k E
theorem yB{α:Type}(k n:Nat):∀E:List (Nat × α),lk (xP k E) n=if n=k then none else lk E n
 |[]=>by simp [xP,lk]
 |(j,v)::E=>by
  simp only [xP];by_cases h:j=k
  ·subst h;rw [vf,qw];simp only;rw [yB j n E];by_cases h2:n=j
   ·rw [if_pos h2,if_pos h2]
   ·rw [if_neg h2,if_neg h2,if_neg (fun h=>h2 h.symm)]
  ·rw [wS h];simp only;rw [qw,qw,yB k n E];by_cases h2:j=n
   ·rw [if_pos h2,if_neg (by omega),if_pos h2]
   ·rw [if_neg h2,if_neg h2]
def put{α:Type}(k:Nat)(v:α):List (Nat × α)->List (Nat × α)
 |[]=>[]
 |(j,u)::E=>match Nat.beq j k with
  |true=>(j,v)::E
  |false=>(j,u)::put k v E
theorem yu{α:Type}(k:Nat)(v:α)(n:Nat):∀E:List (Nat × α),lk (put k v E) n=if n=k then (lk E n).map (fun _=>v) else lk E n
 |[]=>by simp [put,lk]
 |(j,u)::E=>by
  simp only [put];by_cases h:j=k
  ·subst h;rw [vf];simp only;rw [qw,qw];by_cases h2:n=j
   ·subst h2;simp
   ·rw [if_neg h2,if_neg (fun h=>h2 h.symm),if_neg (fun h=>h2 h.symm)]
  ·rw [wS h];simp only;rw [qw,qw,yu k v n E];by_cases h2:j=n
   ·rw [if_pos h2,if_pos h2,if_neg (by omega)]
   ·rw [if_neg h2,if_neg h2]
def za(k:Nat):Nat->List (List FD)->List DC
 |_,[]=>[]
 |i,r::rs=>.trow k i 0 r.length::za k (i+1) rs
def Vb(k:Nat):Nat->List (Int × ME)->List DC
 |_,[]=>[]
 |i,(y,.row r)::es=>.f (.c (.int .i64 y))::.trow k i 0 r.length::Vb k (i+1) es
 |i,(y,.out c)::es=>.f (.c (.int .i64 y))::c::Vb k (i+1) es
def XR:Option (Int × ME)->Option Bk
 |some (_,.row r)=>some (.data r)
 |_=>none
def qR(S:Bx):zP->Option Bk
 |(k,0)=>match lk S k with
  |some (.tree rows)=>some (.cells (za k 0 rows))
  |some (.mt es)=>some (.mp (.m 0) (Vb k 0 es))
  |o=>o
 |(k,i+1)=>match lk S k with
  |some (.tree rows)=>(rows[i]?).map .data
  |some (.mt es)=>XR es[i]?
  |_=>none
theorem Ya{o:Option (Int × ME)}{x:Bk}(h:XR o=some x):∃y r,o=some (y,.row r)/\x=.data r:=by
 unfold XR at h;split at h
 ·exact⟨_,_,O,(zsi h).symm⟩
 ·cases h
def ME.map(f:DC->DC):ME->ME
 |.row r=>.row r
 |.out c=>.out (f c)
def vP(f:DC->DC)(es:List (Int × ME)):List (Int × ME):=es.map fun e=>(e.1,e.2.map f)
theorem Vc(f:DC->DC)(es:List (Int × ME))(i:Nat):XR (vP f es)[i]?=XR es[i]?:=by
 unfold vP;rw [jH];cases es[i]? with
 |none=>rfl
 |some e=>obtain⟨y,e⟩:=e;cases e<;>rfl
theorem JY(f:DC->DC)(k k':Nat)(hf:∀x,f (.f x)=.f x)(ht:∀i n,f (.trow k i 0 n)=.trow k' i 0 n):∀(i:Nat) (es:List (Int × ME)),Vb k' i (vP f es)=(Vb k i es).map f
 |_,[]=>rfl
 |i,(y,.row r)::es=>by
  have:=JY f k k' hf ht (i+1) es;simp only [vP,jr,ME.map,Vb,hf,ht] at this ⊢;rw [this]
 |i,(y,.out c)::es=>by
  have:=JY f k k' hf ht (i+1) es;simp only [vP,jr,ME.map,Vb,hf] at this ⊢;rw [this]
theorem kQ(k:Nat):∀(i:Nat) (rs:List (List FD)),(za k i rs).length=rs.length
 |_,[]=>rfl
 |i,_::rs=>by simp [za,kQ k (i+1) rs]
theorem Xq(k:Nat):∀(i:Nat) (rs:List (List FD)) (j:Nat),(za k i rs)[j]?=(rs[j]?).map fun r=>.trow k (i+j) 0 r.length
 |_,[],j=>by simp [za]
 |i,r::rs,0=>by simp [za]
 |i,r::rs,j+1=>by
  simp only [za,eJ,Xq k (i+1) rs j];rw [show i+1+j=i+(j+1) by omega]
theorem ju{S:Bx}{κ:zP}{x:Bk}(h:qR S κ=some x):∃y,lk S κ.1=some y:=by
 obtain⟨k,i⟩:=κ;cases i with
 |zero=>
  simp only [qR] at h;cases hl:lk S k with
  |none=>rw [hl] at h;cases h
  |some y=>exact⟨y,O⟩
 |succ i=>
  simp only [qR] at h;cases hl:lk S k with
  |none=>rw [hl] at h;cases h
  |some y=>exact⟨y,O⟩
theorem zN{S:Bx}{k:Nat}{x:Bk}(h:lk S k=some x)(hx:x.flat=true):qR S (k,0)=some x:=by
 simp only [qR,h];cases x with
 |tree rows=>cases hx
 |cells l=>rfl
 |data l=>rfl
 |mp ks l=>rfl
 |mt es=>cases hx
theorem uJ{S:Bx}{k i:Nat}{x y:Bk}(h:lk S k=some x)(hx:x.flat=true)(hy:qR S (k,i)=some y):i=0/\y=x:=by
 cases i with
 |zero=>rw [zN h hx] at hy;exact⟨O,(zsi hy).symm⟩
 |succ i=>
  simp only [qR,h] at hy;cases x with
  |tree rows=>cases hx
  |cells l=>cases hy
  |data l=>cases hy
  |mp ks l=>cases hy
  |mt es=>cases hx
theorem yK{S S':Bx}{κ:zP}(h:lk S κ.1=lk S' κ.1):qR S κ=qR S' κ:=by
 obtain⟨k,i⟩:=κ;cases i with
 |zero=>simp only [qR];rw [h]
 |succ i=>simp only [qR];rw [h]
theorem TN{S:Bx}{κ:zP}(h:lk S κ.1=none):qR S κ=none:=by
 cases hl:qR S κ with
 |none=>rfl
 |some x=>obtain⟨y,hy⟩:=ju hl;rw [h] at hy;cases hy
structure Par where
 P:Program
 G:Nat
 GH:Hp
 Z0:Nat->Prop
 lo:Nat
 anc:Nat
 β0:qt
 H1:Hp
 /-- whose round it is -/
 ρ:Option Nat
abbrev Par.base(P:Program)(G:Nat)(GH:Hp)(Z0:Nat->Prop)(lo:Nat):Par:=⟨P,G,GH,Z0,lo,0,fun _=>none,⟨.lf,0⟩,none⟩
def Par.fix(p:Par)(b:Nat)(bk:B):Prop:=p.GH.get b=some bk\/(p.Z0 b/\p.H1.get b=some bk)
def vD(p:Par)(Z:Nat->Prop)(H:Hp)(β:qt)(x:Bk):Slot->Prop
 |.nil=>x.len=0
 |.blk b N=>¬Z b/\p.lo<=b/\b<H.nx/\∃cs rest,CT x.shape H b (cs++rest)/\Y6 x.shape (cs++rest).length N rest/\x.rel Z H β cs
structure SR (p:Par) (Z:Nat->Prop) (β:qt) (H:Hp) (S:Bx) (nn:Nat):Prop where
 wf:WF H
 lo:p.lo<=H.nx
 z:∀b,Z b->b<H.nx
 zlo:∀b,Z b->p.Z0 b\/p.lo<=b
 zz:∀b,p.Z0 b->Z b
 glob:∀b bk,p.fix b bk->Z b/\H.get b=some bk
 nk:∀κ:zP,nn<=κ.1->β κ=none
 bd:∀κ b N,β κ=some (.blk b N)->b<H.nx
 box:∀κ x,qR S κ=some x->∃s,β κ=some s/\vD p Z H β x s
 inj:∀(κ κ':zP) x x' b N N',lk S κ.1=some x->lk S κ'.1=some x'->β κ=some (.blk b N)->β κ'=some (.blk b N')->κ=κ'
 blo:∀κ b N,β κ=some (.blk b N)->p.lo<=b
 anch:∀κ:zP,κ.1<p.anc->κ.2=0->β κ=p.β0 κ
 ancn:p.anc<=nn
def ER(Z:Nat->Prop)(β:qt)(H:Hp)(E:qk)(F:T V):Prop:=∀n d,lk E n=some d->∃v,F.get n=some v/\xi Z H β d v
section
variable{Z Z':Nat->Prop}{H H':Hp}{β β':qt}
def xb(Z:Nat->Prop)(H:Hp)(Z':Nat->Prop)(H':Hp):Prop:=∀b,Z b->Z' b/\∀i c,H.cell b i=some c->H'.cell b i=some c
theorem xb.loads(h:xb Z H Z' H'){b:Nat}(hb:Z b):∀{n o:Nat} {l:List C},H.loads b o n=some l->H'.loads b o n=some l
 |0,_,_,hl=>hl
 |n+1,o,l,hl=>by
  simp only [Hp.loads] at hl ⊢;cases hc:H.cell b o with
  |none=>simp [hc] at hl
  |some c=>
   simp only [hc] at hl;simp only [(h b hb).2 _ _ hc];cases hr:H.loads b (o+1) n with
   |none=>simp [hr] at hl
   |some r=>simp only [hr] at hl;simp only [h.loads hb hr];exact hl
theorem RF.mono(h:xb Z H Z' H'){d:FD}{c:C}(hr:RF Z H d c):RF Z' H' d c:=by
 induction hr with
 |c x hx=>exact .c x hx
 |nil e=>exact .nil e
 |sl hz hl hn hld _ ih=>
  rename_i esz n _ _ _ _ _ _ _;refine .sl (fun h0=>(h _ (hz h0)).1) hl hn ?_ ih;by_cases h0:0<n*esz
  ·exact h.loads (hz h0) hld
  ·have h1:n*esz=0:=by omega
   rw [h1] at hld ⊢;exact hld
def xL(β β':qt):Prop:=∀k s,β k=some s->β' k=some s
theorem ki.mono(hb:xL β β'):∀{l l':List (Nat × Nat)},ki β l l'->ki β' l l'
 |[],[],_=>trivial
 |(_,_)::_,(_,_)::_,⟨h1,⟨N,h2⟩,h3⟩=>⟨h1,⟨N,hb _ _ h2⟩,ki.mono hb h3⟩
theorem GR.mono(h:xb Z H Z' H'):∀{ls:List (List FD)} {ps:List (Nat × Nat)},GR Z H ls ps->GR Z' H' ls ps
 |[],[],_=>trivial
 |_::_,p::_,⟨⟨h1,cs,h2,h3⟩,h4⟩=>⟨⟨(h p.1 h1).1,cs,h.loads h1 h2,h3.mono fun _ _=>RF.mono h⟩,GR.mono h h4⟩
 |[],_::_,hh=>hh.elim
 |_::_,[],hh=>hh.elim
theorem RD.mono(h:xb Z H Z' H')(hb:xL β β'){d:DC}{c:C}(hr:RD Z H β d c):RD Z' H' β' d c:=by
 cases d with
 |f d=>exact RF.mono h hr
 |g b o=>exact hr
 |ptr k o=>obtain⟨b,N,h1,h2⟩:=hr;exact⟨b,N,hb _ _ h1,h2⟩
 |own k o n esz=>
  rcases hr with⟨h1,h2⟩|⟨b,N,cap,ex,h1,h2⟩
  ·exact .inl ⟨hb _ _ h1,h2⟩
  ·exact .inr ⟨b,N,cap,ex,hb _ _ h1,h2⟩
 |fptr l=>obtain⟨b,o,cs,h1,h2,h3,h4⟩:=hr;exact⟨b,o,cs,h1,(h b h2).1,h.loads h2 h3,h4.mono fun _ _=>RF.mono h⟩
 |fn f caps=>obtain⟨caps',h1,h2⟩:=hr;exact⟨caps',h1,h2.mono hb⟩
 |any=>trivial
 |om k=>obtain⟨b,N,h1,h2⟩:=hr;exact⟨b,N,hb _ _ h1,h2⟩
 |yl k=>obtain⟨b,N,h1,h2⟩:=hr;exact⟨b,N,hb _ _ h1,h2⟩
 |fz f ls=>obtain⟨caps,h1,h2⟩:=hr;exact⟨caps,h1,h2.mono h⟩
 |tptr k i o=>obtain⟨b,N,h1,h2⟩:=hr;exact⟨b,N,hb _ _ h1,h2⟩
 |trow k i o n=>
  rcases hr with⟨h1,h2⟩|⟨b,N,cap,ex,h1,h2⟩
  ·exact .inl ⟨hb _ _ h1,h2⟩
  ·exact .inr ⟨b,N,cap,ex,hb _ _ h1,h2⟩
theorem zC.mono(h:xb Z H Z' H')(hb:xL β β'){d:DV}{v:V}(hr:zC Z H β d v):zC Z' H' β' d v:=by
 cases d with
 |one d=>obtain⟨c,h1,h2⟩:=hr;exact⟨c,h1,h2.mono h hb⟩
 |agg l=>obtain⟨c,h1,h2⟩:=hr;exact⟨c,h1,h2.mono fun _ _=>RD.mono h hb⟩
 |tup l=>exact hr.elim
theorem xi.mono(h:xb Z H Z' H')(hb:xL β β'){d:DV}{v:V}(hr:xi Z H β d v):xi Z' H' β' d v:=by
 cases d with
 |one d=>exact zC.mono (d:=.one d) h hb hr
 |agg l=>exact zC.mono (d:=.agg l) h hb hr
 |tup l=>obtain⟨vs,h1,h2⟩:=hr;exact⟨vs,h1,h2.mono fun _ _=>zC.mono h hb⟩
theorem xi.of1{d:DV}{v:V}(h:zC Z H β d v):xi Z H β d v:=by
 cases d with
 |one c=>exact h
 |agg l=>exact h
 |tup l=>exact h.elim
theorem Bk.rel_mono(h:xb Z H Z' H')(hb:xL β β'){x:Bk}{cs:List C}(hr:x.rel Z H β cs):x.rel Z' H' β' cs:=by
 cases x with
 |cells l=>exact qe.mono (fun _ _=>RD.mono h hb) hr
 |data l=>exact qe.mono (fun _ _=>RF.mono h) hr
 |tree rows=>exact hr.elim
 |mp ks l=>exact qe.mono (fun _ _=>RD.mono h hb) hr
 |mt es=>exact hr.elim
theorem Bk.rel_len{x:Bk}{cs:List C}(hr:x.rel Z H β cs):x.len=cs.length:=by
 cases x with
 |cells l=>exact qe.len hr
 |data l=>exact qe.len hr
 |tree rows=>exact hr.elim
 |mp ks l=>exact qe.len hr
 |mt es=>exact hr.elim
theorem Bk.rel_flat{x:Bk}{cs:List C}(hr:x.rel Z H β cs):x.flat=true:=by
 cases x with
 |tree rows=>exact hr.elim
 |mt es=>exact hr.elim
 |_=>rfl
theorem ER.mono(h:xb Z H Z' H')(hb:xL β β'){E:qk}{F:T V}(hr:ER Z β H E F):ER Z' β' H' E F:=fun n d hd=>by
 obtain⟨v,h1,h2⟩:=hr n d hd;exact⟨v,h1,h2.mono h hb⟩
theorem xb.refl(Z:Nat->Prop)(H:Hp):xb Z H Z H:=fun _ h=>⟨h,fun _ _ h=>h⟩
theorem xb.of_get(hz:∀b,Z b->Z' b)(hg:∀b,Z b->H'.get b=H.get b):xb Z H Z' H':=fun b h=>⟨hz b h,fun i c hc=>by unfold Hp.cell at hc ⊢;rw [hg b h];exact hc⟩
theorem xL.refl(β:qt):xL β β:=fun _ _ h=>h
theorem xb.of_le(hz:∀b,Z b->Z' b)(hl:Le H H'):xb Z H Z' H':=fun b h=>⟨hz b h,fun i c hc=>hl b i c hc⟩
def qI(E:qk):Option Nat->DV->qk
 |some d,v=>(d,v)::E
 |none,_=>E
theorem ER.set{E:qk}{F:T V}(h:ER Z β H E F)(d:Option Nat){x:DV}{v:V}(hv:xi Z H β x v):ER Z β H (qI E d x) (xg F d v):=by
 cases d with
 |none=>exact h
 |some d=>
  intro n y hy;simp only [qI,qw] at hy;simp only [xg,T.get_set];split at hy
  ·rename_i e;subst e;rw [if_pos rfl];obtain rfl:=zsi hy;exact⟨v,O,hv⟩
  ·rename_i e;rw [if_neg (fun h=>e h.symm)];exact h n y hy
def Qj:C->DC
 |.ptr b o=>.g b o
 |.slc _ _ _ _ _ _=>.any
 |.map _=>.any
 |.yld _=>.any
 |.bm _ _ _=>.any
 |.fn f []=>.f (.c (.fn f []))
 |.fn _ _=>.any
 |c=>.f (.c c)
def Uu:V->DV
 |.one c=>.one (Qj c)
 |.agg l=>.agg (l.map Qj)
 |.tup _=>.one .any
theorem s4(c:C):RD Z H β (Qj c) c:=by
 cases c with
 |fn f caps=>cases caps with
  |nil=>exact .c _ O
  |cons _ _=>trivial
 |ptr b o=>rfl
 |slc=>trivial
 |map=>trivial
 |yld=>trivial
 |bm=>trivial
 |_=>exact .c _ O
theorem Xm:∀l:List C,qe (RD Z H β) (l.map Qj) l
 |[]=>trivial
 |c::l=>⟨s4 c,Xm l⟩
theorem ML(v:V)(hv:Y8 v=true):zC Z H β (Uu v) v:=by
 cases v with
 |one c=>exact⟨c,O,s4 c⟩
 |agg l=>exact⟨l,O,Xm l⟩
 |tup l=>cases hv
def ro(E:qk):Opd->Option DV
 |.t n=>lk E n
 |.c (.one (.int k n))=>some (.one (.f (.c (.int k n))))
 |.c (.one (.bool b))=>some (.one (.f (.c (.bool b))))
 |.c (.one c)=>some (.one (Qj c))
 |.c (.agg l)=>some (.agg (l.map Qj))
 |.c (.tup _)=>none
theorem xz{E:qk}{F:T V}(h:ER Z β H E F){o:Opd}{d:DV}(ho:ro E o=some d):xi Z H β d (o.ev F):=by
 cases o with
 |t n=>
  obtain⟨v,h1,h2⟩:=h n d ho;simp only [Opd.ev,h1,QB];exact h2
 |c v=>
  cases v with
  |one c=>cases c<;>(obtain rfl:=zsi ho;exact xi.of1 (ML (.one _) O))
  |agg l=>obtain rfl:=zsi ho;exact xi.of1 (ML (.agg l) O)
  |tup l=>cases ho
def iD:DC->Option C
 |.f (.c x)=>some x
 |_=>none
def bO:List DC->Option (List C)
 |[]=>some []
 |d::l=>match iD d,bO l with
  |some c,some r=>some (c::r)
  |_,_=>none
def Je:DV->Option V
 |.one d=>match iD d with
  |some c=>some (.one c)
  |none=>none
 |.agg l=>match bO l with
  |some r=>some (.agg r)
  |none=>none
 |.tup _=>none
theorem OZ{d:DC}{x c:C}(h:iD d=some x)(hr:RD Z H β d c):c=x:=by
 cases d with
 |f d=>cases d with
  |c y=>obtain rfl:=zsi h;cases hr;rfl
  |sl=>cases h
 |_=>cases h
theorem OY:∀{l:List DC} {xs cs:List C},bO l=some xs->qe (RD Z H β) l cs->cs=xs
 |[],xs,[],h,_=>by obtain rfl:=zsi h;rfl
 |d::l,xs,c::cs,h,hr=>by
  simp only [bO] at h;split at h
  ·rename_i x r h1 h2;obtain rfl:=zsi h;rw [OZ h1 hr.1,OY h2 hr.2]
  ·cases h
 |[],_,_::_,_,hr=>hr.elim
 |_::_,_,[],_,hr=>hr.elim
theorem OX{d:DV}{x v:V}(h:Je d=some x)(hr:xi Z H β d v):v=x:=by
 cases d with
 |one d=>
  obtain⟨c,rfl,hr⟩:=hr;simp only [Je] at h;split at h
  ·rename_i y hy;obtain rfl:=zsi h;rw [OZ hy hr]
  ·cases h
 |agg l=>
  obtain⟨c,rfl,hr⟩:=hr;simp only [Je] at h;split at h
  ·rename_i y hy;obtain rfl:=zsi h;rw [OY hy hr]
  ·cases h
 |tup l=>cases h
end
def xd{α:Type}(l:List α)(o n:Nat):Option (List α):=match Nat.ble (o+n) l.length with
 |true=>some ((l.drop o).take n)
 |false=>none
theorem zT{α:Type}{l r:List α}{o n:Nat}(h:xd l o n=some r):o+n<=l.length/\r=(l.drop o).take n:=by
 unfold xd at h;split at h
 ·rename_i e;exact⟨jP e,(zsi h).symm⟩
 ·cases h
theorem yj{α:Type}{l:List α}{o n:Nat}(h:o+n<=l.length):xd l o n=some ((l.drop o).take n):=by
 unfold xd;rw [Ci h]
def r9(agg:Bool)(off n:Nat)(l:List DC):Option DV:=
 match agg with
 |true=>match xd l off n with
  |some r=>some (.agg r)
  |none=>none
 |false=>match l[off]? with
  |some c=>some (.one c)
  |none=>none
def qq:DV->Option (List DC)
 |.one c=>some [c]
 |.agg l=>some l
 |.tup _=>none
def gF(E:qk):List DC->List (Nat × Nat × Opd)->Option (List DC)
 |z,[]=>some z
 |z,(off,size,x)::r=>match ro E x with
  |none=>none
  |some d=>match qq d with
   |none=>none
   |some cs=>match Nat.beq cs.length size,Nat.ble (off+size) z.length with
    |true,true=>gF E (z.take off++cs++z.drop (off+size)) r
    |_,_=>none
def Yp(E:qk)(o:Opd):Option V:=match ro E o with
 |some d=>Je d
 |none=>none
def rx(E:qk)(o:Opd):Opd:=match Yp E o with
 |some v=>.c v
 |none=>o
def lQ(E:qk)(o:Opd):Bool:=(Yp E o).isSome
def xa{α:Type}(f:α->Bool):List α->Bool
 |[]=>true
 |x::l=>match f x with
  |true=>xa f l
  |false=>false
theorem yX{α:Type}{f:α->Bool}:∀{l:List α},xa f l=true->∀x∈l,f x=true
 |[],_,x,hx=>by cases hx
 |y::l,h,x,hx=>by
  simp only [xa] at h;split at h
  ·rename_i e;rcases zd.1 hx with rfl|hx
   ·exact e
   ·exact yX h x hx
  ·cases h
def Lp:Option V->Option DV
 |some (.one (.int k n))=>some (.one (.f (.c (.int k n))))
 |some (.one (.bool b))=>some (.one (.f (.c (.bool b))))
 |some (.one c)=>some (.one (Qj c))
 |some (.agg l)=>some (.agg (l.map Qj))
 |_=>none
def F7(E:qk)(op:PureOp):Option DV:=match xa (lQ E) op.opds with
 |true=>Lp (qp .lf (op.mp (rx E)))
 |false=>none
def sC(E:qk):List Opd->Option (List (Nat × Nat))
 |[]=>some []
 |x::l=>match ro E x,sC E l with
  |some (.one (.ptr k o)),some r=>some ((k,o)::r)
  |_,_=>none
def idx(j:Int)(len:Nat):Option Nat:=match j with
 |.ofNat n=>match Nat.blt n len with
  |true=>some n
  |false=>none
 |.negSucc _=>none
theorem OK{j:Int}{len n:Nat}(h:idx j len=some n):j=n/\n<len:=by
 unfold idx at h;split at h
 ·split at h
  ·rename_i e;obtain rfl:=zsi h;exact⟨O,jP e⟩
  ·cases h
 ·cases h
def Nd:DC->Option DV
 |.own _ _ n _=>some (.int n)
 |.trow _ _ _ n=>some (.int n)
 |.f (.sl _ n _)=>some (.int n)
 |.f (.c .nils)=>some (.int 0)
 |_=>none
def zj(E:qk):PureOp->Option DV
 |.mv x=>ro E x
 |.build z ps=>match gF E (z.map Qj) ps with
  |some l=>some (.agg l)
  |none=>none
 |.nilck x=>match ro E x with
  |some (.one (.ptr k o))=>some (.one (.ptr k o))
  |some (.one (.g b o))=>some (.one (.g b o))
  |some (.one (.fptr l))=>some (.one (.fptr l))
  |some (.one (.tptr k i o))=>some (.one (.tptr k i o))
  |some (.one (.fn f l))=>some (.one (.fn f l))
  |some (.one (.f (.c (.fn f l))))=>some (.one (.f (.c (.fn f l))))
  |_=>none
 |.mkfn f caps=>match sC E caps with
  |some []=>some (.one (.f (.c (.fn f []))))
  |some l=>some (.one (.fn f l))
  |none=>none
 |.faddr off x=>match ro E x with
  |some (.one (.ptr k o))=>some (.one (.ptr k (o+off)))
  |some (.one (.g b o))=>some (.one (.g b (o+off)))
  |some (.one (.fptr l))=>some (.one (.fptr (l.drop off)))
  |_=>none
 |.field agg off n x=>match ro E x with
  |some (.agg l)=>r9 agg off n l
  |_=>none
 |.aaddr len esz x i=>match ro E x,ro E i with
  |some (.one (.ptr k o)),some (.one (.f (.c (.int _ j))))=>match idx j len with
   |some n=>some (.one (.ptr k (o+n*esz)))
   |none=>none
  |some (.one (.fptr l)),some (.one (.f (.c (.int _ j))))=>match idx j len with
   |some n=>some (.one (.fptr (l.drop (n*esz))))
   |none=>none
  |some (.one (.g b o)),some (.one (.f (.c (.int _ j))))=>match idx j len with
   |some n=>some (.one (.g b (o+n*esz)))
   |none=>none
  |_,_=>none
 |.aindex len esz agg x i=>match ro E x,ro E i with
  |some (.agg l),some (.one (.f (.c (.int _ j))))=>match idx j len with
   |some n=>r9 agg (n*esz) esz l
   |none=>none
  |_,_=>none
 |.extract x i=>match ro E x with
  |some (.tup l)=>l[i]?
  |_=>none
 |.len x=>match ro E x with
  |some (.one d)=>Nd d
  |_=>none
 |.nileq neg x=>match ro E x with
  |some (.one (.f (.c .nils)))=>some (.bool !neg)
  |some (.one (.f (.sl _ (_+1) _)))=>some (.bool neg)
  |some (.one (.own _ _ (_+1) _))=>some (.bool neg)
  |_=>none
 |op=>F7 E op
section
variable{Z:Nat->Prop}{H:Hp}{β:qt}{E:qk}{F:T V}
theorem Ro(h:ER Z β H E F){o:Opd}(ho:lQ E o=true):(rx E o).ev .lf=o.ev F:=by
 unfold lQ at ho;obtain⟨v,hv⟩:=eK.1 ho;simp only [rx,hv,Opd.ev];unfold Yp at hv;split at hv
 ·rename_i d hd;exact (OX hv (xz h hd)).symm
 ·cases hv
theorem Pc(h:ER Z β H E F){op:PureOp}{d:DV}(hd:F7 E op=some d):∃v,qp F op=some v/\xi Z H β d v:=by
 unfold F7 at hd;split at hd
 ·rename_i hall;rw [Ez (F:=F) fun o ho=>Ro h (yX hall o ho)] at hd;unfold Lp at hd;split at hd
  ·rename_i hc;obtain rfl:=zsi hd;exact⟨_,hc,_,O,.c _ O⟩
  ·rename_i hc;obtain rfl:=zsi hd;exact⟨_,hc,_,O,.c _ O⟩
  ·rename_i c _ _ hc;obtain rfl:=zsi hd;exact⟨_,hc,c,O,s4 c⟩
  ·rename_i l hc;obtain rfl:=zsi hd;exact⟨_,hc,l,O,Xm l⟩
  ·cases hd
 ·cases hd
theorem A6{agg:Bool}{off n:Nat}{l:List DC}{cs:List C}(hr:qe (RD Z H β) l cs){d:DV}(hd:r9 agg off n l=some d):∃v,Ko agg off n cs=some v/\xi Z H β d v:=by
 unfold r9 at hd;split at hd
 ·split at hd
  ·rename_i r hs;obtain rfl:=zsi hd;obtain⟨h1,rfl⟩:=zT hs;refine⟨.agg ((cs.drop off).take n),?_,_,O,(hr.drop off).take n⟩;simp only [Ko,if_true];rw [if_pos (by rw [<-hr.len];exact h1)]
  ·cases hd
 ·split at hd
  ·rename_i c hc;obtain rfl:=zsi hd;obtain⟨x,hx,hrx⟩:=hr.at off c hc;refine⟨.one x,?_,x,O,hrx⟩;simp [Ko,hx]
  ·cases hd
theorem VO{d:DV}{v:V}{l:List DC}(hr:xi Z H β d v)(hl:qq d=some l):∃cs,wP v=some cs/\qe (RD Z H β) l cs:=by
 cases d with
 |one d=>obtain⟨c,rfl,hr⟩:=hr;obtain rfl:=zsi hl;exact⟨_,O,hr,trivial⟩
 |agg l'=>obtain⟨c,rfl,hr⟩:=hr;obtain rfl:=zsi hl;exact⟨_,O,hr⟩
 |tup l'=>cases hl
theorem dA(h:ER Z β H E F):∀{ps:List (Nat × Nat × Opd)} {z l:List DC} {zs:List C},qe (RD Z H β) z zs->gF E z ps=some l->∃cs,yD F zs ps=some cs/\qe (RD Z H β) l cs
 |[],z,l,zs,hz,hl=>by obtain rfl:=zsi hl;exact⟨zs,O,hz⟩
 |(off,size,x)::r,z,l,zs,hz,hl=>by
  simp only [gF] at hl;split at hl
  ·cases hl
  ·rename_i d hd;split at hl
   ·cases hl
   ·rename_i cs hcs;split at hl
    ·rename_i e1 e2;obtain⟨ks,hk1,hk2⟩:=VO (xz h hd) hcs;have e1':=Nat.eq_of_beq_eq_true e1;have e2':=jP e2;obtain⟨cs',g1,g2⟩:=dA h (((hz.take off).append hk2).append (hz.drop (off+size))) hl;refine⟨cs',?_,g2⟩;simp only [yD,hk1];rw [if_pos ⟨by rw [<-hk2.len];exact e1',by rw [<-hz.len];exact e2'⟩];exact g1
    ·cases hl
theorem dX(h:ER Z β H E F):∀{l:List Opd} {r:List (Nat × Nat)},sC E l=some r->∃r',kN F l=some r'/\ki β r r'
 |[],r,hr=>by obtain rfl:=zsi hr;exact⟨[],O,trivial⟩
 |x::l,r,hr=>by
  simp only [sC] at hr;split at hr
  ·rename_i k o r0 h1 h2;obtain rfl:=zsi hr;obtain⟨r',g1,g2⟩:=dX h h2;obtain⟨c,hc,b,N,hb,rfl⟩:=xz h h1;exact⟨(b,o)::r',by simp only [kN,hc,g1],rfl,⟨N,hb⟩,g2⟩
  ·cases hr
theorem Dk{l:List FD}{b o:Nat}{cs:List C}(h1:H.loads b o l.length=some cs)(h2:qe (RF Z H) l cs)(off:Nat):∃cs',H.loads b (o+off) (l.drop off).length=some cs'/\qe (RF Z H) (l.drop off) cs':=by
 by_cases ho:off<=l.length
 ·refine⟨cs.drop off,?_,h2.drop off⟩;rw [zS];exact ZD h1 ho
 ·refine⟨[],?_,?_⟩
  ·rw [zS,show l.length-off=0 by omega];rfl
  ·rw [LQ (by omega)];trivial
theorem Au(h:ER Z β H E F){op:PureOp}{d:DV}(hd:zj E op=some d):∃v,qp F op=some v/\xi Z H β d v:=by
 cases op with
 |mv x=>exact⟨_,O,xz h hd⟩
 |build z ps=>
  simp only [zj] at hd;split at hd
  ·rename_i l hl;obtain rfl:=zsi hd;obtain⟨cs,h1,h2⟩:=dA h (Xm z) hl;exact⟨.agg cs,by simp [qp,h1],cs,rfl,h2⟩
  ·cases hd
 |nilck x=>
  simp only [zj] at hd;split at hd
  all_goals try (cases hd;done)
  all_goals (rename_i hx;obtain rfl:=zsi hd;have hr:=xz h hx)
  ·obtain⟨c,hc,b,N,hb,rfl⟩:=hr;exact⟨_,by simp only [qp,hc],_,rfl,b,N,hb,rfl⟩
  ·obtain⟨c,hc,rfl⟩:=hr;exact⟨_,by simp only [qp,hc],_,rfl,rfl⟩
  ·obtain⟨c,hc,b,o,cs,rfl,h2⟩:=hr;exact⟨_,by simp only [qp,hc],_,rfl,b,o,cs,rfl,h2⟩
  ·obtain⟨c,hc,b,N,hb,rfl⟩:=hr;exact⟨_,by simp only [qp,hc],_,rfl,b,N,hb,rfl⟩
  ·obtain⟨c,hc,l',rfl,h2⟩:=hr;exact⟨_,by simp only [qp,hc],_,rfl,l',rfl,h2⟩
  ·obtain⟨c,hc,h2⟩:=hr;cases h2;rename_i h2;exact⟨_,by simp only [qp,hc],_,rfl,.c _ h2⟩
 |mkfn f caps=>
  simp only [zj] at hd;split at hd
  ·rename_i hc;obtain rfl:=zsi hd;obtain⟨r',h1,h2⟩:=dX h hc;cases r' with
   |nil=>exact⟨.one (.fn f []),by simp [qp,h1],_,rfl,.c _ rfl⟩
   |cons _ _=>exact h2.elim
  ·rename_i l _ hc;obtain rfl:=zsi hd;obtain⟨r',h1,h2⟩:=dX h hc;exact⟨.one (.fn f r'),by simp [qp,h1],_,rfl,r',rfl,h2⟩
  ·cases hd
 |faddr off x=>
  simp only [zj] at hd;split at hd
  all_goals try (cases hd;done)
  all_goals (rename_i hx;obtain rfl:=zsi hd;have hr:=xz h hx)
  ·obtain⟨c,hc,b,N,hb,rfl⟩:=hr;exact⟨_,by simp only [qp,hc],_,rfl,b,N,hb,rfl⟩
  ·obtain⟨c,hc,rfl⟩:=hr;exact⟨_,by simp only [qp,hc],_,rfl,rfl⟩
  ·obtain⟨c,hc,b,o,cs,rfl,h2,h3,h4⟩:=hr;obtain⟨cs',g1,g2⟩:=Dk h3 h4 off;exact⟨_,by simp only [qp,hc],_,rfl,b,_,cs',rfl,h2,g1,g2⟩
 |field agg off n x=>
  simp only [zj] at hd;split at hd
  ·rename_i l hx;obtain⟨cs,hc,hr⟩:=xz h hx;obtain⟨v,h1,h2⟩:=A6 hr hd;exact⟨v,by simp only [qp,hc,h1],h2⟩
  ·cases hd
 |aaddr len esz x i=>
  simp only [zj] at hd;split at hd
  all_goals try (cases hd;done)
  all_goals
   split at hd
   all_goals try (cases hd;done)
   rename_i hx hi _ n hn;obtain rfl:=zsi hd;obtain⟨ci,hci,hri⟩:=xz h hi;cases hri;obtain⟨rfl,hlt⟩:=OK hn;have hr:=xz h hx
  ·obtain⟨c,hc,b,N,hb,rfl⟩:=hr;refine⟨_,by simp only [qp,hc,hci];rw [if_pos ⟨by omega,by omega⟩,jW],_,rfl,b,N,hb,rfl⟩
  ·obtain⟨c,hc,b,o,cs,rfl,h2,h3,h4⟩:=hr;obtain⟨cs',g1,g2⟩:=Dk h3 h4 (n*esz);refine⟨_,by simp only [qp,hc,hci];rw [if_pos ⟨by omega,by omega⟩,jW],_,rfl,b,_,cs',rfl,h2,g1,g2⟩
  ·obtain⟨c,hc,rfl⟩:=hr;exact⟨_,by simp only [qp,hc,hci];rw [if_pos ⟨by omega,by omega⟩,jW],_,rfl,rfl⟩
 |aindex len esz agg x i=>
  simp only [zj] at hd;split at hd
  ·rename_i hx hi;split at hd
   ·rename_i n hn;obtain⟨cs,hc,hr⟩:=xz h hx;obtain⟨ci,hci,hri⟩:=xz h hi;cases hri;obtain⟨rfl,hlt⟩:=OK hn;obtain⟨v,h1,h2⟩:=A6 hr hd;exact⟨v,by simp only [qp,hc,hci];rw [if_pos ⟨by omega,by omega⟩,jW,h1],h2⟩
   ·cases hd
  ·cases hd
 |extract x i=>
  simp only [zj] at hd;split at hd
  ·rename_i l hx;obtain⟨vs,hc,hr⟩:=xz h hx;obtain⟨v,h1,h2⟩:=hr.at i d hd;exact⟨v,by simp only [qp,hc,h1],xi.of1 h2⟩
  ·cases hd
 |len x=>
  simp only [zj] at hd;split at hd
  ·rename_i e hx;obtain⟨c,hc,hr⟩:=xz h hx;unfold Nd at hd;split at hd
   ·obtain rfl:=zsi hd;rcases hr with⟨_,rfl,_,rfl⟩|⟨b,N,cap,ex,_,rfl,_⟩
    ·exact⟨_,by simp only [qp,hc,WU];rfl,_,rfl,.c _ rfl⟩
    ·exact⟨_,by simp only [qp,hc,WU],_,rfl,.c _ rfl⟩
   ·obtain rfl:=zsi hd;rcases hr with⟨_,rfl,_,rfl⟩|⟨b,N,cap,ex,_,rfl,_⟩
    ·exact⟨_,by simp only [qp,hc,WU];rfl,_,rfl,.c _ rfl⟩
    ·exact⟨_,by simp only [qp,hc,WU],_,rfl,.c _ rfl⟩
   ·obtain rfl:=zsi hd;cases hr with
    |nil=>exact⟨_,by simp only [qp,hc,WU];rfl,_,rfl,.c _ rfl⟩
    |sl=>exact⟨_,by simp only [qp,hc,WU],_,rfl,.c _ rfl⟩
   ·obtain rfl:=zsi hd;cases hr;exact⟨_,by simp only [qp,hc,WU],_,rfl,.c _ rfl⟩
   ·cases hd
  ·cases hd
 |nileq neg x=>
  simp only [zj] at hd;split at hd
  all_goals try (cases hd;done)
  all_goals (rename_i hx;obtain rfl:=zsi hd;obtain⟨c,hc,hr⟩:=xz h hx)
  ·cases hr;exact⟨_,by simp only [qp,hc],_,rfl,.c _ rfl⟩
  ·cases hr with
   |sl=>exact⟨_,by simp only [qp,hc],_,rfl,.c _ rfl⟩
  ·rcases hr with⟨_,h0,_⟩|⟨b,N,cap,ex,_,rfl,_⟩
   ·cases h0
   ·exact⟨_,by simp only [qp,hc],_,rfl,.c _ rfl⟩
 |_=>exact Pc h hd
end
end Go.Ab
