/- -/
import Derived.Test.YtdlelodnhjacgaaGreatDoorAb10
import GoSem.ClaimChange
import GoSem.ClaimJoined
import Derived.ChangeArms
import Derived.OpenShut
set_option linter.unusedSimpArgs false
set_option linter.unusedVariables false
set_option maxRecDepth 8000
namespace Go.Ab
inductive Ty where
 |bool
 |int (k:IntKind)
 |str
 |slice (e:Ty)
 |unit
 |pair (a b:Ty)
 |agg (r:Ty)
def Ty.sz:Ty->Nat
 |.bool=>1
 |.int _=>1
 |.str=>1
 |.slice _=>1
 |.unit=>0
 |.pair a b=>a.sz+b.sz
 |.agg r=>r.sz
def cI(t:Ty):Nat->Ty
 |0=>.unit
 |n+1=>.pair t (cI t n)
def XC(d:TypeId->Option Ty):List Field->Nat->Option Ty
 |[],_=>some .unit
 |f::fs,off=>if f.offset=off then match d f.type with
  |some a=>match XC d fs (off+a.sz) with
   |some b=>some (.pair a b)
   |none=>none
  |none=>none
  else none
def RH(n:Nat):Option Ty->Option Ty
 |some t=>if t.sz=n then some t else none
 |none=>none
def desc(P:Program):Nat->TypeId->Option Ty
 |0,_=>none
 |n+1,t=>RH (P.cellsOf t) (match P.underlying t with
  |some .bool=>some .bool
  |some (.int k)=>some (.int k)
  |some .string=>some .str
  |some (.slice e)=>match desc P n e with
   |some a=>if 0<a.sz then some (.slice a) else none
   |none=>none
  |some (.struct fs)=>match XC (desc P n) fs.toList 0 with
   |some r=>some (.agg r)
   |none=>none
  |some (.array k e)=>match desc P n e with
   |some a=>some (.agg (cI a k))
   |none=>none
  |_=>none)
section
variable{X:Type}
def Jz(f:DataW X->Hp->Option (List C × Hp)):List (DataW X)->Hp->Option (List C × Hp)
 |[],H=>some ([],H)
 |d::ds,H=>match f d H with
  |some (l,H1)=>match Jz f ds H1 with
   |some (l',H2)=>some (l++l',H2)
   |none=>none
  |none=>none
def HO(sz n:Nat)(cs:List C)(H:Hp):List C × Hp:=
 match cs with
 |[]=>([.slc H.nx 0 0 0 sz false],H.skip 1)
 |cs=>([.slc H.nx 0 n n sz false],H.push (.row cs.length cs .lf false))
def jc:Ty->List (DataW X)->Hp->Option (List C × Hp)
 |.bool,[.lit (.bool b)],H=>some ([.bool b],H)
 |.int k,[.lit (.int k' n)],H=>if k'=k/\(Lit.int k n).wf=true then some ([.int k n],H) else none
 |.str,[.lit (.string s)],H=>some ([.str ⟨s.toArray⟩],H)
 |.slice _,[.nil],H=>some ([.nils],H)
 |.slice e,[.slice es _],H=>if es.length<=9223372036854775807 then (match Jz (fun d H=>jc e [d] H) es H with
  |some (cs,H1)=>some (HO e.sz es.length cs H1)
  |none=>none) else none
 |.unit,[],H=>some ([],H)
 |.pair a b,d::ds,H=>match jc a [d] H with
  |some (l,H1)=>match jc b ds H1 with
   |some (l',H2)=>some (l++l',H2)
   |none=>none
  |none=>none
 |.agg r,[.agg ds],H=>jc r ds H
 |_,_,_=>none
end
def vu(H:Hp):Prop:=∀b bk,H.get b=some bk->bk.mut=false
structure Gr (μ:Nat->Pl) (K:Nat->Prop) (H:Hp) (μ':Nat->Pl) (K':Nat->Prop) (H':Hp):Prop where
 mu:∀b,K b->μ' b=μ b
 kk:∀b,K b->K' b
 nx:H.nx<=H'.nx
 get:∀b bk,H.get b=some bk->H'.get b=some bk
 new:∀b bk,H'.get b=some bk->H.get b=some bk\/bk.mut=false
theorem Gr.refl(μ:Nat->Pl)(K:Nat->Prop)(H:Hp):Gr μ K H μ K H:=⟨fun _ _=>rfl,fun _ h=>h,qz _,fun _ _ h=>h,fun _ _ h=>.inl h⟩
theorem Gr.trans{μ μ' μ'':Nat->Pl}{K K' K'':Nat->Prop}{H H' H'':Hp}(h:Gr μ K H μ' K' H')(k:Gr μ' K' H' μ'' K'' H''):Gr μ K H μ'' K'' H'':=
 ⟨fun b hb=>(k.mu b (h.kk b hb)).trans (h.mu b hb),fun b hb=>k.kk b (h.kk b hb),aZ h.nx k.nx,fun b bk hb=>k.get b bk (h.get b bk hb),
  fun b bk hb=>(k.new b bk hb).elim (fun h1=>h.new b bk h1) .inr⟩
theorem Gr.rc{μ μ':Nat->Pl}{K K':Nat->Prop}{H H':Hp}(h:Gr μ K H μ' K' H'){l:List C}{xs:List Value}(ha:qe (RC μ K) l xs):qe (RC μ' K') l xs:=ha.mono fun _ _ hh=>hh.mono h.kk h.mu
theorem Qn{α β:Type}{f:α->Option β}:∀{l:List α} {r:List β},l.mapM f=some r->qe (fun a b=>f a=some b) l r
 |[],r,h=>by
  simp only [List.mapM_nil,Option.pure_def,zoi] at h;subst h;trivial
 |a::l,r,h=>by
  simp only [List.mapM_cons,Option.bind_eq_bind,JJ,Option.pure_def,zoi] at h;obtain⟨b,hb,r',hr',rfl⟩:=h;exact⟨hb,Qn hr'⟩
theorem bW{α β γ:Type}{A:α->β->Prop}{B:β->γ->Prop}:∀{l:List α} {xs:List γ},qe (fun i x=>∃y,A i y/\B y x) l xs->∃ys,qe A l ys/\qe B ys xs
 |[],[],_=>⟨[],trivial,trivial⟩
 |_::_,_::_,⟨⟨y,h1,h2⟩,hr⟩=>by
  obtain⟨ys,g1,g2⟩:=bW hr;exact⟨y::ys,⟨h1,g1⟩,⟨h2,g2⟩⟩
 |[],_::_,h=>h.elim
 |_::_,[],h=>h.elim
theorem u7{α:Type}{c:Nat}:∀{ys:List (List α)},(∀y∈ys,y.length=c)->ys.flatten.length=ys.length*c
 |[],_=>by simp
 |y::ys,h=>by
  rw [LU,qE,h y (by simp),u7 (fun z hz=>h z (by simp [hz])),xA,wW];omega
theorem E5{α:Type}{c:Nat}:∀{ys:List (List α)},(∀y∈ys,y.length=c)->∀{i j:Nat},j<c->ys.flatten[i*c+j]?=(ys[i]?).bind (·[j]?)
 |[],_,i,j,_=>by simp
 |y::ys,h,0,j,hj=>by
  rw [LU,Qz (by rw [h y (by simp)];omega)];simp
 |y::ys,h,i+1,j,hj=>by
  rw [LU,Q3 (by rw [h y (by simp),wW];omega),h y (by simp),show (i+1)*c+j-c=i*c+j by rw [wW];omega];rw [E5 (fun z hz=>h z (by simp [hz])) hj];simp
section
variable{X:Type}{enc:TypeId × Value->X}{P:Program}{G:Nat}{w:World}{base:Nat}{held:Bool}
theorem Gr.noMut{μ μ':Nat->Pl}{K K':Nat->Prop}{H H':Hp}(h:Gr μ K H μ' K' H')(hN:vu H):vu H':=fun b bk hb=>(h.new b bk hb).elim (hN b bk) id
def sI(enc:TypeId × Value->X)(P:Program)(G:Nat)(w:World)(base:Nat)(held:Bool)(t:TypeId)(T:Ty):Prop:=
 ∀{fuel:Nat} {cs:List Value} {d:DataW X} {ps:List MemPlace} {μ:Nat->Pl} {K:Nat->Prop} {H:Hp},DataW.trod enc P w base (fun _=>true) held fuel t cs=some (d,ps)->Rel G μ K H w->vu H->
  cs.length=T.sz/\∃l H' μ' K',jc T [d] H=some (l,H')/\Rel G μ' K' H' w/\qe (RC μ' K') l cs/\Gr μ K H μ' K' H'
theorem lP{t:TypeId}{T:Ty}(hT:sI enc P G w base held t T):∀{cells:List (List Value)} {xs:List (DataW X × List MemPlace)} {μ:Nat->Pl} {K:Nat->Prop} {H:Hp},
 qe (fun cs x=>∃fuel,DataW.trod enc P w base (fun _=>true) held fuel t cs=some x) cells xs->Rel G μ K H w->vu H->
 (∀y∈cells,y.length=T.sz)/\∃l H' μ' K',Jz (fun d H=>jc T [d] H) (xs.map (·.1)) H=some (l,H')/\Rel G μ' K' H' w/\qe (RC μ' K') l cells.flatten/\Gr μ K H μ' K' H'
 |[],[],μ,K,H,_,hR,_=>⟨by simp,[],H,μ,K,rfl,hR,trivial,Gr.refl _ _ _⟩
 |cs::cells,(d,ps)::xs,μ,K,H,⟨⟨fuel,h1⟩,hr⟩,hR,hN=>by
  obtain⟨hl,l,H1,μ1,K1,e1,R1,a1,g1⟩:=hT h1 hR hN;obtain⟨hls,l',H2,μ2,K2,e2,R2,a2,g2⟩:=lP hT hr R1 (g1.noMut hN);refine⟨fun y hy=>?_,l++l',H2,μ2,K2,by simp [Jz,e1,e2],R2,?_,g1.trans g2⟩
  ·rcases zd.1 hy with rfl|hy
   ·exact hl
   ·exact hls y hy
  ·rw [LU];exact (g2.rc a1).append a2
 |[],_::_,_,_,_,h,_,_=>h.elim
 |_::_,[],_,_,_,h,_,_=>h.elim
theorem uM{T:Ty}:∀{n:Nat} {ds:List (DataW X)} {H:Hp},ds.length=n->jc (cI T n) ds H=Jz (fun d H=>jc T [d] H) ds H
 |0,[],H,_=>rfl
 |n+1,d::ds,H,h=>by
  simp only [cI,jc,Jz];cases jc T [d] H with
  |none=>rfl
  |some x=>simp only [uM (n:=n) (ds:=ds) (by simpa using h)]
 |0,_::_,_,h=>by simp at h
 |n+1,[],_,h=>by simp at h
theorem EF(T:Ty):∀n,(cI T n).sz=n*T.sz
 |0=>by simp [cI,Ty.sz]
 |n+1=>by simp [cI,Ty.sz,EF T n,wW];omega
theorem Rel.newRo {μ:Nat->Pl} {K:Nat->Prop} {H:Hp} (hR:Rel G μ K H w) (hN:vu H) {p:Pl} {cs':Array Value} {ty:TypeId} {fz:Nat × Nat} {cs:List C} (hb:w.heap[p.blk]?=some (.cells cs' ty fz)) (hs:cs'.size=p.size) (hle:p.off+cs.length<=cs'.size)
 (hc:∀(i:Nat) c,cs[i]?=some c->∃x,cs'[p.off+i]?=some x/\RC μ K c x):
 Rel G (fun b=>if b=H.nx then p else μ b) (fun b=>K b\/b=H.nx) (H.push (.row cs.length cs .lf false)) w/\Gr μ K H (fun b=>if b=H.nx then p else μ b) (fun b=>K b\/b=H.nx) (H.push (.row cs.length cs .lf false)):=by
 have hne:∀b,K b->b≠H.nx:=fun b hb=>by have:=hR.lt b hb;omega
 have hmu:∀b,K b->(fun b=>if b=H.nx then p else μ b) b=μ b:=fun b hb=>by simp [hne b hb]
 have hkk:∀b,K b->(fun b=>K b\/b=H.nx) b:=fun b hb=>.inl hb;refine⟨⟨fun b bk h=>?_,fun b hb=>?_,fun b bk h=>?_,fun b b' bk bk' h h' hm he=>?_,fun g hg=>?_⟩,hmu,hkk,by simp,fun b bk h=>?_,fun b bk h=>?_⟩
 ·rw [Hp.get_push] at h;split at h
  ·rename_i e;exact .inr e
  ·exact .inl (hR.dom b bk h)
 ·rcases hb with hb|rfl
  ·have:=hR.lt b hb;simp;omega
  ·simp
 ·rw [Hp.get_push] at h;split at h
  ·rename_i e;subst e;obtain rfl:=zsi h;simp only [if_true];refine⟨cs',ty,fz,hb,hs,hle,fun h=>(by cases h),fun i c hcc=>?_⟩;simp only [B.cell] at hcc;split at hcc
   ·rename_i hi;simp only [T.get_lf,bE,kJ hi,qT,zge hi,QB,zoi] at hcc;obtain⟨x,hx,hr⟩:=hc i c (by rw [zge hi,hcc]);exact⟨x,hx,hr.mono hkk hmu⟩
   ·cases hcc
  ·simp only [if_neg (hne b (hR.dom b bk h))];exact (hR.blk b bk h).mono hkk hmu
 ·rw [Hp.get_push] at h h';split at h
  ·obtain rfl:=zsi h;cases hm
  ·rw [hN b bk h] at hm;cases hm
 ·have:=hR.glob g hg;refine⟨.inl this.1,?_⟩;rw [if_neg (hne g this.1)];exact this.2
 ·rw [Hp.get_push,if_neg (hne b (hR.dom b bk h))];exact h
 ·rw [Hp.get_push] at h;split at h
  ·obtain rfl:=zsi h;exact .inr O
  ·exact .inl h
theorem Rel.skipK{μ:Nat->Pl}{K:Nat->Prop}{H:Hp}(hR:Rel G μ K H w)(p:Pl):Rel G (fun b=>if b=H.nx then p else μ b) (fun b=>K b\/b=H.nx) (H.skip 1) w/\Gr μ K H (fun b=>if b=H.nx then p else μ b) (fun b=>K b\/b=H.nx) (H.skip 1):=by
 have hne:∀b,K b->b≠H.nx:=fun b hb=>by have:=hR.lt b hb;omega
 have hmu:∀b,K b->(fun b=>if b=H.nx then p else μ b) b=μ b:=fun b hb=>by simp [hne b hb]
 have hkk:∀b,K b->(fun b=>K b\/b=H.nx) b:=fun b hb=>.inl hb;refine⟨⟨fun b bk h=>.inl (hR.dom b bk h),fun b hb=>?_,fun b bk h=>?_,fun b b' bk bk' h h' hm he=>?_,fun g hg=>?_⟩,hmu,hkk,by simp,fun b bk h=>h,fun b bk h=>.inl h⟩
 ·rcases hb with hb|rfl
  ·have:=hR.lt b hb;simp;omega
  ·simp
 ·simp only [if_neg (hne b (hR.dom b bk h))];exact (hR.blk b bk h).mono hkk hmu
 ·simp only [if_neg (hne b (hR.dom b bk h)),if_neg (hne b' (hR.dom b' bk' h'))] at he;exact hR.inj b b' bk bk' h h' hm he
 ·have:=hR.glob g hg;refine⟨.inl this.1,?_⟩;rw [if_neg (hne g this.1)];exact this.2
theorem dW{b0:Nat}{a:Addr}{i c:Nat}{y:List Value}(h:w.cells? b0 (a.add (i*c)) c=some y):y.length=c/\∀j,j<c->∃x,y[j]?=some x/\w.cell? ((a.add (i*c)).add j)=some x:=by
 unfold World.cells? at h;split at h
 ·have h2:=Qn h;have hl:=h2.len;simp at hl;refine⟨hl.symm,fun j hj=>?_⟩;obtain⟨x,hx,hh⟩:=h2.at j j (by simp [hj]);exact⟨x,hx,hh⟩
 ·cases h
theorem GO{a:Addr}(hs:a.spot=none)(m j:Nat):(a.add m).add j=⟨a.block,a.off+(m+j),none⟩:=by
 cases a with
 |mk b o s=>
  simp only at hs;subst hs;unfold Addr.add;split<;>split<;>simp<;>omega
theorem RI{a:Addr}{x:Value}(h:w.cell? a=some x):a.spot=none:=by
 unfold World.cell? at h;split at h
 ·split at h
  ·cases h
  ·rename_i hs;simpa using hs
 ·cases h
theorem C0 {e:TypeId} {E:Ty} (hE:sI enc P G w base held e E) (hsz:E.sz=P.cellsOf e) (hpos:0<E.sz) {fuel:Nat} {a:Addr} {len cap:Nat} {es rest:List (DataW X × List MemPlace)} {μ:Nat->Pl} {K:Nat->Prop} {H:Hp} (hR:Rel G μ K H w) (hN:vu H)
 (hle:len<=cap) (hbd:cap<=9223372036854775807)
 (h1:(List.range len).mapM (fun i=>(w.cells? base (a.add (i*P.cellsOf e)) (P.cellsOf e)).bind (DataW.trod enc P w base (fun _=>true) held fuel e))=some es)
 (h2:(List.range (cap-len)).mapM (fun j=>(w.cells? base (a.add ((len+j)*P.cellsOf e)) (P.cellsOf e)).bind (DataW.trod enc P w base (fun _=>true) held fuel e))=some rest):
 ∃l H' μ' K',jc (.slice E) [.slice (es.map (·.1)) (rest.map (·.1))] H=some (l,H')/\Rel G μ' K' H' w/\qe (RC μ' K') l [.slice (some a) len cap]/\Gr μ K H μ' K' H':=by
 rw [<-hsz] at h1 h2;have hx:∀i,i<cap->∃y,w.cells? base (a.add (i*E.sz)) E.sz=some y:=by
  intro i hi;by_cases hlt:i<len
  ·obtain⟨x,_,hh⟩:=(Qn h1).at i i (by simp [hlt]);simp only [JJ] at hh;obtain⟨y,hy,_⟩:=hh;exact⟨y,hy⟩
  ·obtain⟨x,_,hh⟩:=(Qn h2).at (i-len) (i-len) (by rw [Kx (by omega)]);simp only [JJ] at hh;obtain⟨y,hy,_⟩:=hh;exact⟨y,by rw [show len+(i-len)=i by omega] at hy;exact hy⟩
 have h1':qe (fun (i:Nat) x=>∃y,w.cells? base (a.add (i*E.sz)) E.sz=some y/\∃fuel,DataW.trod enc P w base (fun _=>true) held fuel e y=some x) (List.range len) es:=by
  refine (Qn h1).mono fun i x hh=>?_;simp only [JJ] at hh;obtain⟨y,hy,ht⟩:=hh;exact⟨y,hy,fuel,ht⟩
 obtain⟨ys,hA,hB⟩:=bW h1';have hlen:ys.length=len:=by have:=hA.len;simp at this;exact this.symm
 obtain⟨hyl,cs,H1,μ1,K1,e1,R1,a1,g1⟩:=lP hE hB hR hN;have hcl:cs.length=len*E.sz:=by rw [a1.len,u7 hyl,hlen]
 have hes:es.length=len:=by have:=hB.len;omega
 have hplace:cap=0\/∃cs' ty fz,a.spot=none/\w.heap[a.block]?=some (.cells cs' ty fz)/\a.off+cap*E.sz<=cs'.size:=by
  by_cases h0:cap=0
  ·exact .inl h0
  ·right;obtain⟨y0,hy0⟩:=hx 0 (by omega);obtain⟨_,hc0⟩:=dW hy0;obtain⟨x0,_,hx0⟩:=hc0 0 hpos;have hs:a.spot=none:=RI (by simpa [Addr.add] using hx0);obtain⟨y,hy⟩:=hx (cap-1) (by omega);obtain⟨_,hc⟩:=dW hy;obtain⟨x,_,hxx⟩:=hc (E.sz-1) (by omega);rw [GO hs] at hxx;unfold World.cell? at hxx;split at hxx
   ·rename_i c t fz hcc;simp only [Option.isSome_none,yz,if_false] at hxx;have:=(nJ.1 hxx).1;have e2:(cap-1)*E.sz+(E.sz-1)+1=cap*E.sz:=by
     obtain⟨k,rfl⟩:∃k,cap=k+1:=⟨cap-1,by omega⟩;rw [bB,wW];omega
    exact⟨c,t,fz,hs,hcc,by omega⟩
   ·cases hxx
 simp only [jc,xX,hes];rw [if_pos (aZ hle hbd)];simp only [e1];cases hcs:cs with
 |nil=>
  have hz:len=0:=by
   rw [hcs,zR] at hcl;rcases LW len with h|h
   ·exact h
   ·have:=Nat.mul_pos h hpos;omega
  subst hz;have key:∃p:Pl,cap=0\/(a=p.addr 0/\p.off+0+cap*E.sz<=p.size):=by
   rcases hplace with h0|⟨cs',ty,fz,hs,_,hsz'⟩
   ·exact⟨⟨0,0,0⟩,.inl h0⟩
   ·refine⟨⟨a.block,a.off,cs'.size⟩,.inr ⟨?_,by simpa using hsz'⟩⟩;cases a;simp only at hs;subst hs;rfl
  obtain⟨p,hp⟩:=key;obtain⟨R2,g2⟩:=R1.skipK p;refine⟨_,_,_,_,O,R2,⟨⟨.inr O,a,cap,O,by omega,by omega,fun h=>(by cases h),?_⟩,trivial⟩,g1.trans g2⟩;simpa using hp
 |cons c0 cr=>
  have hpl:0<len:=by
   rw [hcs] at hcl;rcases LW len with h|h
   ·subst h;simp at hcl
   ·exact h
  rcases hplace with h0|⟨cs',ty,fz,hs,hblk,hsz'⟩
  ·omega
  have hmul:len*E.sz<=cap*E.sz:=X1 _ hle;obtain⟨R2,g2⟩:=R1.newRo (g1.noMut hN) (p:=⟨a.block,a.off,cs'.size⟩) (cs:=cs) hblk rfl (by rw [hcl];show a.off+_<=_;omega) (by
   intro k c hk;have hkl:k<cs.length:=(zgs hk).1;obtain⟨x,hxx,hr⟩:=a1.at k c hk;refine⟨x,?_,hr⟩;rw [hcl] at hkl;have hj:k % E.sz<E.sz:=kp _ hpos;have hdm:k/E.sz*E.sz+k % E.sz=k:=by rw [Nat.mul_comm];exact Nat.div_add_mod k E.sz
   have hi:k/E.sz<len:=by rw [Nat.div_lt_iff_lt_mul hpos];exact hkl
   rw [<-hdm,E5 hyl hj] at hxx;obtain⟨y,hy,hyc⟩:=hA.at (k/E.sz) (k/E.sz) (by simp [hi]);rw [hy] at hxx;obtain⟨_,hcc⟩:=dW hyc;obtain⟨x',hx',hcell⟩:=hcc (k % E.sz) hj;simp only [JN] at hxx;rw [hx'] at hxx;obtain rfl:=zsi hxx;rw [GO hs,hdm] at hcell;simpa [World.cell?,hblk] using hcell)
  rw [<-hcs];have enew:HO E.sz len cs H1=([.slc H1.nx 0 len len E.sz false],H1.push (.row cs.length cs .lf false)):=by rw [hcs];rfl
  rw [enew];refine⟨_,_,_,_,O,R2,⟨⟨.inr O,a,cap,O,qz _,hle,fun h=>(by cases h),.inr ⟨?_,?_⟩⟩,trivial⟩,g1.trans g2⟩
  ·simp only [if_true];cases a;simp only at hs;subst hs;rfl
  ·simp only [if_true];show a.off+0+_<=_;omega
theorem o8{dd:TypeId->Option Ty}(hdd:∀t T,dd t=some T->sI enc P G w base held t T/\T.sz=P.cellsOf t):∀{fs:List Field} {off:Nat} {r:Ty} {fuel:Nat} {cs:List Value} {xs:List (DataW X × List MemPlace)} {μ:Nat->Pl} {K:Nat->Prop} {H:Hp},
 XC dd fs off=some r->cs.length=off+r.sz->
 fs.mapM (fun f=>DataW.trod enc P w base (fun _=>true) held fuel f.type ((cs.drop f.offset).take (P.cellsOf f.type)))=some xs->Rel G μ K H w->vu H->
 ∃l H' μ' K',jc r (xs.map (·.1)) H=some (l,H')/\Rel G μ' K' H' w/\qe (RC μ' K') l (cs.drop off)/\Gr μ K H μ' K' H'
 |[],off,r,fuel,cs,xs,μ,K,H,hf,hl,hm,hR,hN=>by
  simp only [XC,zoi] at hf;subst hf;simp only [List.mapM_nil,Option.pure_def,zoi] at hm;subst hm;refine⟨[],H,μ,K,O,hR,?_,Gr.refl _ _ _⟩;rw [LQ (by simp [Ty.sz] at hl;omega)];trivial
 |f::fs,off,r,fuel,cs,xs,μ,K,H,hf,hl,hm,hR,hN=>by
  simp only [XC] at hf;split at hf
  ·rename_i ho;cases ha:dd f.type with
   |none=>simp [ha] at hf
   |some a=>
    simp only [ha] at hf;cases hb:XC dd fs (off+a.sz) with
    |none=>simp [hb] at hf
    |some b=>
     simp only [hb,zoi] at hf;subst hf;obtain⟨hok,hsz⟩:=hdd f.type a ha;simp only [List.mapM_cons,Option.bind_eq_bind,JJ,Option.pure_def,zoi] at hm;obtain⟨⟨d,ps⟩,hx,xs',hxs,rfl⟩:=hm;obtain⟨_,l,H1,μ1,K1,e1,R1,a1,g1⟩:=hok hx hR hN;simp only [Ty.sz] at hl;obtain⟨l',H2,μ2,K2,e2,R2,a2,g2⟩:=o8 hdd (cs:=cs) hb (by omega) hxs R1 (g1.noMut hN);refine⟨l++l',H2,μ2,K2,by simp [jc,e1,e2],R2,?_,g1.trans g2⟩;rw [ho,<-hsz] at a1;have:cs.drop off=(cs.drop off).take a.sz++cs.drop (off+a.sz):=by rw [<-DR];exact (ZV _ _).symm
     rw [this];exact (g2.rc a1).append a2
  ·cases hf
theorem fJ{α:Type}(cs:List α)(c:Nat):∀n,n*c<=cs.length->((List.range n).map fun i=>(cs.drop (i*c)).take c).flatten=cs.take (n*c)
 |0,_=>by simp
 |n+1,h=>by
  rw [XY,JM,List.flatten_append,fJ cs c n (by rw [wW] at h;omega)];simp only [jr,sS,LU,List.flatten_nil,yI];rw [wW,Nat.one_mul,List.take_add]
theorem J0:∀(n:Nat) (t:TypeId) (T:Ty),desc P n t=some T->sI enc P G w base held t T/\T.sz=P.cellsOf t
 |0,_,_,h=>by cases h
 |n+1,t,T,h=>by
  simp only [desc,RH] at h;split at h
  ·rename_i T0 hT0;split at h
   ·rename_i hsz;obtain rfl:=zsi h;refine⟨?_,hsz⟩;intro fuel cs d ps μ K H ht hR hN;split at hT0
    ·rename_i hu;obtain rfl:=zsi hT0;obtain⟨b,rfl,hx⟩:=DataW.trod_bool hu ht;obtain⟨rfl,rfl⟩:=Prod.mk.inj hx;exact⟨O,_,H,μ,K,O,hR,⟨O,trivial⟩,Gr.refl _ _ _⟩
    ·rename_i k hu;obtain rfl:=zsi hT0;obtain⟨b,rfl,hx,hw⟩:=DataW.trod_int hu ht;obtain⟨rfl,rfl⟩:=Prod.mk.inj hx;exact⟨O,[.int k b],H,μ,K,by simp only [jc];rw [if_pos ⟨trivial,hw⟩],hR,⟨rfl,trivial⟩,Gr.refl _ _ _⟩
    ·rename_i hu;obtain rfl:=zsi hT0;obtain⟨b,rfl,hx,_⟩:=DataW.trod_string hu ht;obtain⟨rfl,rfl⟩:=Prod.mk.inj hx;exact⟨O,_,H,μ,K,O,hR,⟨O,trivial⟩,Gr.refl _ _ _⟩
    ·rename_i e hu;cases hde:desc P n e with
     |none=>simp [hde] at hT0
     |some E=>
      simp only [hde] at hT0;split at hT0
      ·rename_i hpos;obtain rfl:=zsi hT0;obtain⟨hok,hszE⟩:=J0 n e E hde;cases fuel with
       |zero=>cases ht
       |succ fuel=>
        rw [DataW.trod_step] at ht;unfold DataW.trodStep at ht;simp only [hu] at ht;split at ht
        all_goals first
         |(exfalso;simp_all;done)
         |skip
        ·simp only [zoi,zpi] at ht;obtain⟨rfl,rfl⟩:=ht;exact⟨O,_,H,μ,K,O,hR,⟨O,trivial⟩,Gr.refl _ _ _⟩
        ·rename_i _ e' a len cap he';simp only [zoi,TypeDesc.slice.injEq] at he';subst he';split at ht
         ·rename_i hc;simp only [if_true,JJ,zom] at ht;obtain⟨es,he1,rest,he2,hx⟩:=ht;obtain⟨rfl,_⟩:=Prod.mk.inj hx;obtain⟨l,H',μ',K',r⟩:=C0 hok hszE hpos hR hN hc.2.1 hc.2.2 he1 he2;exact⟨O,l,H',μ',K',r⟩
         ·cases ht
      ·cases hT0
    ·rename_i fs hu;cases hf:XC (desc P n) fs.toList 0 with
     |none=>simp [hf] at hT0
     |some r=>
      simp only [hf,zoi] at hT0;subst hT0;cases fuel with
      |zero=>cases ht
      |succ fuel=>
       rw [DataW.trod_step] at ht;unfold DataW.trodStep at ht;simp only [hu] at ht;split at ht
       ·rename_i hl;simp only [zom] at ht;obtain⟨xs,hxs,hx⟩:=ht;obtain⟨rfl,_⟩:=Prod.mk.inj hx;have hl':cs.length=0+r.sz:=by rw [hl,<-hsz];simp [Ty.sz]
        obtain⟨l,H',μ',K',e1,R1,a1,g1⟩:=o8 (fun t T h=>J0 n t T h) (cs:=cs) hf hl' hxs hR hN;exact⟨by rw [hl,hsz],l,H',μ',K',e1,R1,by simpa using a1,g1⟩
       ·cases ht
    ·rename_i k e hu;cases hde:desc P n e with
     |none=>simp [hde] at hT0
     |some E=>
      simp only [hde,zoi] at hT0;subst hT0;obtain⟨hok,hszE⟩:=J0 n e E hde;cases fuel with
      |zero=>cases ht
      |succ fuel=>
       rw [DataW.trod_step] at ht;unfold DataW.trodStep at ht;simp only [hu] at ht;split at ht
       ·rename_i hl;simp only [zom] at ht;obtain⟨xs,hxs,hx⟩:=ht;obtain⟨rfl,_⟩:=Prod.mk.inj hx;have h2:=Qn hxs;have hlx:xs.length=k:=by have:=h2.len;simp at this;exact this.symm
        have h3:qe (fun cs x=>∃fuel,DataW.trod enc P w base (fun _=>true) held fuel e cs=some x) ((List.range k).map fun i=>(cs.drop (i*P.cellsOf e)).take (P.cellsOf e)) (xs.map id):=
         qe.map _ _ (fun i x h=>⟨fuel,h⟩) h2
        rw [List.map_id] at h3;obtain⟨_,l,H',μ',K',e1,R1,a1,g1⟩:=lP hok h3 hR hN;have hl':cs.length=k*P.cellsOf e:=by rw [hl,<-hsz,<-hszE];simp only [Ty.sz];rw [EF]
        rw [fJ _ _ _ (by omega),Q9 (by omega)] at a1;refine⟨by rw [hl,hsz],l,H',μ',K',?_,R1,a1,g1⟩;simp only [jc];rw [uM (by simp [hlx])];exact e1
       ·cases ht
    ·cases hT0
   ·cases h
  ·cases h
end
end Go.Ab
