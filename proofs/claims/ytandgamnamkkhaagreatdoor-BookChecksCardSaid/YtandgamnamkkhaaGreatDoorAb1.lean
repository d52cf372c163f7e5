/- -/
import Derived.Orders
set_option linter.unusedSimpArgs false
set_option linter.unusedVariables false
set_option maxRecDepth 8000
namespace Go.Ab
theorem zsi.{u}{α:Type u}{a b:α}(h:some a=some b):a=b:=Option.some.inj h
theorem zge.{u}{α:Type u}{l:List α}{i:Nat}(h:i<l.length):l[i]?=some l[i]:=List.getElem?_eq_getElem h
theorem qG{p:Prop}[Decidable p](h:decide p=true):p:=of_decide_eq_true h
theorem qQ{p:Prop}[Decidable p](h:decide p=false):¬p:=of_decide_eq_false h
theorem zmg.{u}{α:Type u}{l:List α}{i:Nat}{a:α}(h:l[i]?=some a):a∈l:=List.mem_of_getElem? h
theorem zgs.{u}{α:Type u}{l:List α}{i:Nat}{a:α}(h:l[i]?=some a):∃h:i<l.length,l[i]=a:=List.getElem?_eq_some_iff.1 h
theorem zfm.{u}{α:Type u}{p:α→Prop}{a:α}{l:List α}(h:p a∧∀x,x∈l→p x):∀x,x∈a::l→p x:=List.forall_mem_cons.2 h
theorem zoi.{u}{α:Type u}(a b:α):(some a=some b)=(a=b):=Option.some.injEq a b
theorem zpi.{u,v}{α:Type u}{β:Type v}(a:α)(b:β)(c:α)(d:β):((a,b)=(c,d))=(a=c∧b=d):=Prod.mk.injEq a b c d
theorem xt(a b:Bool):((a&&b)=true)=(a=true∧b=true):=Bool.and_eq_true a b
theorem xF(p:Prop)[Decidable p]:(decide p=true)=p:=decide_eq_true_eq
theorem zom.{u,v}{α:Type u}{β:Type v}{b:β}{f:α→β}{o:Option α}:o.map f=some b↔∃a,o=some a∧f a=b:=Option.map_eq_some_iff
inductive T (α:Type) where
 |lf
 |nd (v:Option α) (l r:T α)
namespace T
variable{α:Type}
def val:T α->Option α
 |lf=>none
 |nd v _ _=>v
def left:T α->T α
 |lf=>lf
 |nd _ l _=>l
def right:T α->T α
 |lf=>lf
 |nd _ _ r=>r
def get:T α->Nat->Option α
 |lf,_=>none
 |nd v l r,n=>if n=0 then v else if n % 2=1 then l.get (n/2) else r.get (n/2-1)
def Qw:Nat->T α->Nat->Option α->T α
 |0,t,_,_=>t
 |f+1,t,n,x=>
  if n=0 then nd x t.left t.right
  else if n % 2=1 then nd t.val (Qw f t.left (n/2) x) t.right
  else nd t.val t.left (Qw f t.right (n/2-1) x)
def set(t:T α)(n:Nat)(x:Option α):T α:=Qw (n+1) t n x
@[simp] theorem get_lf (n:Nat):(lf:T α).get n=none:=rfl
theorem OF(t:T α)(n:Nat):t.get n=if n=0 then t.val else if n % 2=1 then t.left.get (n/2) else t.right.get (n/2-1):=by
 cases t with
 |lf=>simp [val,left,right]
 |nd v l r=>rfl
theorem Qs(v:Option α)(l r:T α)(n:Nat):(nd v l r).get n=if n=0 then v else if n % 2=1 then l.get (n/2) else r.get (n/2-1):=rfl
theorem Qx:∀(f:Nat) (t:T α) (n:Nat) (x:Option α),n<f->(Qw f t n x).get n=x
 |0,_,_,_,h=>absurd h (by omega)
 |f+1,t,n,x,h=>by
  simp only [Qw];by_cases h0:n=0
  ·simp [h0,Qs]
  ·by_cases h1:n % 2=1
   ·simp only [h0,h1,if_true,if_false,Qs];exact Qx f _ _ _ (by omega)
   ·simp only [h0,h1,if_false,Qs];exact Qx f _ _ _ (by omega)
theorem Zn:∀(f:Nat) (t:T α) (n m:Nat) (x:Option α),m≠n->(Qw f t n x).get m=t.get m
 |0,_,_,_,_,_=>rfl
 |f+1,t,n,m,x,h=>by
  rw [OF t m];simp only [Qw];by_cases h0:n=0
  ·simp only [h0,if_true,Qs];have m0:m≠0:=by omega
   simp [m0]
  ·by_cases h1:n % 2=1
   ·simp only [h0,h1,if_true,if_false,Qs];by_cases m0:m=0
    ·simp [m0]
    ·by_cases m1:m % 2=1
     ·simp only [m0,m1,if_true,if_false];exact Zn f _ _ _ _ (by omega)
     ·simp [m0,m1]
   ·simp only [h0,h1,if_false,Qs];by_cases m0:m=0
    ·simp [m0]
    ·by_cases m1:m % 2=1
     ·simp [m0,m1]
     ·simp only [m0,m1,if_false];exact Zn f _ _ _ _ (by omega)
@[simp] theorem OE (t:T α) (n:Nat) (x:Option α):(t.set n x).get n=x:=Qx _ _ _ _ (by omega)
theorem get_set_ne(t:T α){n m:Nat}(x:Option α)(h:m≠n):(t.set n x).get m=t.get m:=Zn _ _ _ _ _ h
theorem get_set(t:T α)(n m:Nat)(x:Option α):(t.set n x).get m=if m=n then x else t.get m:=by
 by_cases h:m=n
 ·subst h;simp
 ·simp [h,get_set_ne t x h]
@[simp] theorem rZ (v:Option α) (l r:T α):(nd v l r).val=v:=rfl
@[simp] theorem mC (v:Option α) (l r:T α):(nd v l r).left=l:=rfl
@[simp] theorem eE (v:Option α) (l r:T α):(nd v l r).right=r:=rfl
theorem Y0:∀(f g:Nat) (t:T α) (i j:Nat) (x y:Option α),i≠j->i<g->j<f->Qw f (Qw g t i x) j y=Qw g (Qw f t j y) i x
 |0,_,_,_,_,_,_,_,_,h=>absurd h (by omega)
 |_+1,0,_,_,_,_,_,_,h,_=>absurd h (by omega)
 |f+1,g+1,t,i,j,x,y,hne,hi,hj=>by
  simp only [Qw];by_cases i0:i=0
  ·have j0:j≠0:=by omega
   by_cases j1:j % 2=1<;>simp [i0,j0,j1]
  ·by_cases j0:j=0
   ·by_cases i1:i % 2=1<;>simp [i0,j0,i1]
   ·by_cases i1:i % 2=1
    ·by_cases j1:j % 2=1
     ·simp only [i0,j0,i1,j1,if_true,if_false,rZ,mC,eE];rw [Y0 f g _ _ _ _ _ (by omega) (by omega) (by omega)]
     ·simp [i0,j0,i1,j1]
    ·by_cases j1:j % 2=1
     ·simp [i0,j0,i1,j1]
     ·simp only [i0,j0,i1,j1,if_false,rZ,mC,eE];rw [Y0 f g _ _ _ _ _ (by omega) (by omega) (by omega)]
theorem set_comm(t:T α){i j:Nat}(x y:Option α)(h:i≠j):(t.set i x).set j y=(t.set j y).set i x:=
 Y0 _ _ _ _ _ _ _ h (by omega) (by omega)
end T
end Go.Ab

namespace Go.Ab
inductive C where
 |bool (b:Bool)
 |int (k:IntKind) (n:Int)
 |str (s:ByteArray)
 |ptr (b o:Nat)
 |nilp
 |slc (b o len cap esz:Nat) (ex:Bool)
 |nils
 |map (b:Nat)
 |nilm
 |fn (f:FuncId) (caps:List (Nat × Nat))
 |nilf
 |yld (b:Nat)
 /-- an interface value that is not nil;the nil one -/
 |ifa
 |nili
 /-- a method that is bound to a pointer -/
 |bm (f:FuncId) (b o:Nat)
 /-- some number -/
 |anyi
inductive V where
 |one (c:C)
 |agg (l:List C)
 |tup (l:List V)
abbrev V.undef:V:=.tup []
abbrev V.bool(b:Bool):V:=.one (.bool b)
abbrev V.int(n:Int):V:=.one (.int .i64 n)
def V.cells:V->List C
 |.one c=>[c]
 |.agg l=>l
 |.tup _=>[]
inductive B where
 |row (n:Nat) (z:List C) (m:T C) (rw:Bool)
 |mp (es:List (V × V))
 /-- the record of a range over a function:its state,the pending jump,whose it is,the temporaries at its beginning,its parameters,what a round assigns,what it does -/
 |lp (st:LoopState) (jump:Option Code) (f:FuncId) (n:Nat) (F:T V) (ps:Array Tmp) (sg bd:Code)
 /-- a map whose keys are structures,with the stamps of its entries -/
 |st (es:List (V × V × Nat)) (clk:Nat)
 /-- an iteration over such a map:the stamps that it has seen,when it last stepped -/
 |it (mb since:Nat) (seen:List Nat) (last:Nat)
 /-- a row whose type is known -/
 |tr (t:TypeId) (l:List C)
def B.cell:B->Nat->Option C
 |.row n z m _,i=>if i<n then some ((m.get i).getD (z.getD (i % z.length) .nilp)) else none
 |.mp _,_=>none
 |.lp ..,_=>none
 |.st ..,_=>none
 |.it ..,_=>none
 |.tr _ l,i=>l[i]?
def B.mut:B->Bool
 |.row _ _ _ rw=>rw
 |.mp _=>true
 |.lp ..=>true
 |.st ..=>true
 |.it ..=>true
 |.tr ..=>true
structure Hp where
 m:T B
 nx:Nat
namespace Hp
def get(H:Hp)(b:Nat):Option B:=H.m.get b
def cell(H:Hp)(b i:Nat):Option C:=(H.get b).bind (·.cell i)
def add(H:Hp)(b:Nat)(x:B):Hp:=⟨H.m.set b (some x),H.nx⟩
def del(H:Hp)(b:Nat):Hp:=⟨H.m.set b none,H.nx⟩
def push(H:Hp)(x:B):Hp:=⟨H.m.set H.nx (some x),H.nx+1⟩
def skip(H:Hp)(n:Nat):Hp:=⟨H.m,H.nx+n⟩
def store(H:Hp)(b i:Nat)(c:C):Option Hp:=
 match H.get b with
 |some (.row n z m true)=>if i<n then some (H.add b (.row n z (m.set i (some c)) true)) else none
 |some (.tr t l)=>if i<l.length then some (H.add b (.tr t (l.set i c))) else none
 |_=>none
def loads(H:Hp)(b o:Nat):Nat->Option (List C)
 |0=>some []
 |n+1=>match H.cell b o with
  |none=>none
  |some c=>match H.loads b (o+1) n with
   |none=>none
   |some l=>some (c::l)
def stores(H:Hp)(b o:Nat):List C->Option Hp
 |[]=>some H
 |c::l=>match H.store b o c with
  |none=>none
  |some H'=>H'.stores b (o+1) l
end Hp
structure Pl where
 blk:Nat
 off:Nat
 size:Nat
def Pl.addr(p:Pl)(o:Nat):Addr:=⟨p.blk,p.off+o,none⟩
def qe{α β:Type}(R:α->β->Prop):List α->List β->Prop
 |[],[]=>True
 |a::l,b::m=>R a b/\qe R l m
 |_,_=>False
def RC(μ:Nat->Pl)(K:Nat->Prop):C->Value->Prop
 |.bool b,x=>x=.bool b
 |.int k n,x=>x=.int k n
 |.str s,x=>x=.string s
 |.ptr b o,x=>K b/\x=.pointer (some ((μ b).addr o))
 |.nilp,x=>x=.pointer none
 |.slc b o len cap esz ex,x=>K b/\∃a c,x=.slice (some a) len c/\len<=cap/\cap<=c/\(ex=true->c=cap)/\
  (c=0\/(a=(μ b).addr o/\(μ b).off+o+c*esz<=(μ b).size))
 |.nils,x=>x=.slice none 0 0
 |.map b,x=>K b/\x=.map (some (μ b).blk)
 |.nilm,x=>x=.map none
 |.fn f caps,x=>(∀p∈caps,K p.1)/\x=.func (.func f) #[] (caps.map fun p=>Value.pointer (some ((μ p.1).addr p.2))).toArray
 |.nilf,x=>x=.nilFunc
 |.yld b,x=>K b/\x=.func (.yield (μ b).blk) #[] #[]
 |.ifa,x=>∃t v,x=.iface t v
 |.nili,x=>x=.nilIface
 |.bm f b o,x=>K b/\x=.func (.func f) #[.pointer (some ((μ b).addr o))] #[]
 |.anyi,x=>∃k n,x=.int k n
def x8(μ:Nat->Pl)(K:Nat->Prop):V->Value->Prop
 |.one c,x=>RC μ K c x
 |.agg l,x=>∃xs:List Value,x=.agg xs.toArray/\qe (RC μ K) l xs
 |.tup _,_=>False
def RV(μ:Nat->Pl)(K:Nat->Prop):V->Value->Prop
 |.tup l,x=>∃xs:List Value,x=.tuple xs.toArray/\qe (x8 μ K) l xs
 |v,x=>x8 μ K v x
def RB(μ:Nat->Pl)(K:Nat->Prop)(p:Pl)(bk:B)(o:Option Obj):Prop:=
 match bk with
 |.row n z m rw=>∃cs t fz,o=some (.cells cs t fz)/\cs.size=p.size/\p.off+n<=cs.size/\(rw=true->fz=(0,0))/\
  ∀i c,(B.row n z m rw).cell i=some c->∃x,cs[p.off+i]?=some x/\RC μ K c x
 |.mp es=>∃ces clk,o=some (.map ces clk)/\qe (fun (e:V × V) (x:MapEntry)=>x8 μ K e.1 x.key/\x8 μ K e.2 x.val) es ces.toList
 |.lp st jump f n F ps sg bd=>∃tmps df,o=some (.loop ⟨st,jump,f,tmps,ps,sg,bd,df⟩)/\tmps.size=n/\∀i,i<n->RV μ K ((F.get i).getD V.undef) (tmps.getD i Go.undef)
 |.st es clk=>∃(ces:Array MapEntry) (_:Unit),o=some (.map ces clk)/\qe (fun (e:V × V × Nat) (x:MapEntry)=>x8 μ K e.1 x.key/\x8 μ K e.2.1 x.val/\e.2.2=x.born) es ces.toList
 |.it mb since seen last=>∃(_ _:Unit),o=some (.mapIter (some (μ mb).blk) since seen.toArray last)/\K mb/\p.off=0
 |.tr t l=>∃(cs:Array Value) (_:Unit),o=some (.cells cs t (0,0))/\cs.size=p.size/\p.off=0/\l.length<=cs.size/\∀(i:Nat) c,l[i]?=some c->∃x,cs[i]?=some x/\RC μ K c x
structure Rel (G:Nat) (μ:Nat->Pl) (K:Nat->Prop) (H:Hp) (w:World):Prop where
 dom:∀b bk,H.get b=some bk->K b
 lt:∀b,K b->b<H.nx
 blk:∀b bk,H.get b=some bk->RB μ K (μ b) bk w.heap[(μ b).blk]?
 inj:∀b b' bk bk',H.get b=some bk->H.get b'=some bk'->bk.mut=true->(μ b).blk=(μ b').blk->b=b'
 glob:∀g,g<G->K g/\(μ g).blk=g/\(μ g).off=0
structure Fr (μ:Nat->Pl) (K:Nat->Prop) (H:Hp) (w:World) (μ':Nat->Pl) (K':Nat->Prop) (H':Hp) (w':World):Prop where
 same:w'.os=w.os/\w'.tape=w.tape/\w'.output=w.output/\w.drawn<=w'.drawn
 size:w.heap.size<=w'.heap.size
 keep:∀i,i<w.heap.size->(∀b bk,H.get b=some bk->bk.mut=true->(μ b).blk≠i)->w'.heap[i]?=w.heap[i]?
 img:∀b bk,H'.get b=some bk->bk.mut=true->(∃b0 bk0,H.get b0=some bk0/\bk0.mut=true/\(μ b0).blk=(μ' b).blk)\/w.heap.size<=(μ' b).blk
 newmut:∀b bk,H.nx<=b->H'.get b=some bk->bk.mut=true\/(K' b/\w.heap.size<=(μ' b).blk)
 mu:∀b,K b->μ' b=μ b
 kk:∀b,K b->K' b
 knew:∀b,b<H.nx->K' b->K b
 nx:H.nx<=H'.nx
 none:∀b,b<H.nx->H.get b=none->H'.get b=none
 stay:∀b bk bk',H.get b=some bk->H'.get b=some bk'->bk'.mut=bk.mut
 ro:∀b bk,H.get b=some bk->bk.mut=false->H'.get b=some bk
section
variable{α β:Type}{R R':α->β->Prop}
theorem qe.mono(h:∀a b,R a b->R' a b):∀{l:List α} {m:List β},qe R l m->qe R' l m
 |[],[],_=>trivial
 |_::_,_::_,hh=>⟨h _ _ hh.1,qe.mono h hh.2⟩
 |[],_::_,hh=>hh.elim
 |_::_,[],hh=>hh.elim
theorem qe.len:∀{l:List α} {m:List β},qe R l m->l.length=m.length
 |[],[],_=>rfl
 |_::_,_::_,hh=>by simp [qe.len hh.2]
 |[],_::_,hh=>hh.elim
 |_::_,[],hh=>hh.elim
theorem qe.at:∀{l:List α} {m:List β},qe R l m->∀(i:Nat) (a:α),l[i]?=some a->∃b,m[i]?=some b/\R a b
 |[],[],_,_,_,h=>by simp at h
 |_::_,b::_,hh,0,_,h=>by
  simp at h;subst h;exact⟨b,rfl,hh.1⟩
 |_::_,_::_,hh,i+1,a,h=>by
  simp at h;obtain⟨b,hb,hr⟩:=qe.at hh.2 i a h;exact⟨b,by simpa using hb,hr⟩
 |[],_::_,hh,_,_,_=>hh.elim
 |_::_,[],hh,_,_,_=>hh.elim
theorem qe.at'{l:List α}{m:List β}(h:qe R l m)(i:Nat)(b:β)(hb:m[i]?=some b):∃a,l[i]?=some a/\R a b:=by
 have hl:=h.len;have hi:i<m.length:=(zgs hb).1;obtain⟨b',hb',hr⟩:=h.at i l[i] (zge (by omega));rw [hb] at hb';obtain rfl:=zsi hb';exact⟨_,zge (by omega),hr⟩
theorem qe.mk:∀{l:List α} {m:List β},l.length=m.length->(∀(i:Nat) a b,l[i]?=some a->m[i]?=some b->R a b)->qe R l m
 |[],[],_,_=>trivial
 |a::l,b::m,hl,h=>⟨h 0 a b rfl rfl,qe.mk (by simpa using hl) fun i a b ha hb=>h (i+1) a b (by simpa using ha) (by simpa using hb)⟩
 |[],_::_,hl,_=>by simp at hl
 |_::_,[],hl,_=>by simp at hl
theorem qe.append:∀{l:List α} {m:List β} {l':List α} {m':List β},qe R l m->qe R l' m'->qe R (l++l') (m++m')
 |[],[],_,_,_,h=>h
 |_::_,_::_,_,_,hh,h=>⟨hh.1,qe.append hh.2 h⟩
 |[],_::_,_,_,hh,_=>hh.elim
 |_::_,[],_,_,hh,_=>hh.elim
theorem qe.take{l:List α}{m:List β}(h:qe R l m)(n:Nat):qe R (l.take n) (m.take n):=by
 refine qe.mk (by simp [h.len]) fun i a b ha hb=>?_;rw [List.getElem?_take] at ha hb;split at ha
 ·rename_i hi;rw [if_pos hi] at hb;obtain⟨b',hb',hr⟩:=h.at i a ha;rw [hb] at hb';obtain rfl:=zsi hb';exact hr
 ·simp at ha
theorem qe.drop{l:List α}{m:List β}(h:qe R l m)(n:Nat):qe R (l.drop n) (m.drop n):=by
 refine qe.mk (by simp [h.len]) fun i a b ha hb=>?_;rw [List.getElem?_drop] at ha hb;obtain⟨b',hb',hr⟩:=h.at _ a ha;rw [hb] at hb';obtain rfl:=zsi hb';exact hr
theorem qe.map{γ δ:Type}{S:γ->δ->Prop}(f:α->γ)(g:β->δ)(hfg:∀a b,R a b->S (f a) (g b)):∀{l:List α} {m:List β},qe R l m->qe S (l.map f) (m.map g)
 |[],[],_=>trivial
 |_::_,_::_,hh=>⟨hfg _ _ hh.1,qe.map f g hfg hh.2⟩
 |[],_::_,hh=>hh.elim
 |_::_,[],hh=>hh.elim
end
section
variable{μ μ':Nat->Pl}{K K':Nat->Prop}
theorem RC.mono(hK:∀b,K b->K' b)(hμ:∀b,K b->μ' b=μ b){c:C}{x:Value}(h:RC μ K c x):RC μ' K' c x:=by
 cases c with
 |bool b=>exact h
 |int k n=>exact h
 |str s=>exact h
 |ptr b o=>exact⟨hK _ h.1,by rw [hμ b h.1];exact h.2⟩
 |nilp=>exact h
 |slc b o len cap esz ex=>
  obtain⟨hb,a,c,hx,h1,h2,h3,h4⟩:=h;exact⟨hK _ hb,a,c,hx,h1,h2,h3,by rw [hμ b hb];exact h4⟩
 |nils=>exact h
 |map b=>exact⟨hK _ h.1,by rw [hμ b h.1];exact h.2⟩
 |nilm=>exact h
 |fn f caps=>
  refine⟨fun p hp=>hK _ (h.1 p hp),?_⟩;rw [h.2];congr 2;exact List.map_congr_left fun p hp=>by rw [hμ p.1 (h.1 p hp)]
 |nilf=>exact h
 |yld b=>exact⟨hK _ h.1,by rw [hμ b h.1];exact h.2⟩
 |ifa=>exact h
 |nili=>exact h
 |bm f b o=>exact⟨hK _ h.1,by rw [hμ b h.1];exact h.2⟩
 |anyi=>exact h
theorem x8.mono(hK:∀b,K b->K' b)(hμ:∀b,K b->μ' b=μ b){v:V}{x:Value}(h:x8 μ K v x):x8 μ' K' v x:=by
 cases v with
 |one c=>exact RC.mono hK hμ h
 |agg l=>obtain⟨xs,hx,ha⟩:=h;exact⟨xs,hx,ha.mono fun _ _=>RC.mono hK hμ⟩
 |tup l=>exact h.elim
theorem RV.mono(hK:∀b,K b->K' b)(hμ:∀b,K b->μ' b=μ b){v:V}{x:Value}(h:RV μ K v x):RV μ' K' v x:=by
 cases v with
 |one c=>exact x8.mono (v:=.one c) hK hμ h
 |agg l=>exact x8.mono (v:=.agg l) hK hμ h
 |tup l=>obtain⟨xs,hx,ha⟩:=h;exact⟨xs,hx,ha.mono fun _ _=>x8.mono hK hμ⟩
theorem RV.of1{v:V}{x:Value}(h:x8 μ K v x):RV μ K v x:=by
 cases v with
 |one c=>exact h
 |agg l=>exact h
 |tup l=>exact h.elim
theorem RV.undef:RV μ K V.undef (.tuple #[]):=⟨[],rfl,trivial⟩
theorem RB.mono{p:Pl}{bk:B}{o:Option Obj}(hK:∀b,K b->K' b)(hμ:∀b,K b->μ' b=μ b)(h:RB μ K p bk o):RB μ' K' p bk o:=by
 cases bk with
 |row n z m rw=>
  obtain⟨cs,t,fz,h1,h2,h3,h4,h5⟩:=h;exact⟨cs,t,fz,h1,h2,h3,h4,fun i c hc=>by
   obtain⟨x,hx,hr⟩:=h5 i c hc;exact⟨x,hx,hr.mono hK hμ⟩⟩
 |mp es=>
  obtain⟨ces,clk,h1,h2⟩:=h;exact⟨ces,clk,h1,h2.mono fun _ _ hh=>⟨hh.1.mono hK hμ,hh.2.mono hK hμ⟩⟩
 |lp st jump f n F ps sg bd=>
  obtain⟨tmps,df,h1,h2,h3⟩:=h;exact⟨tmps,df,h1,h2,fun i hi=>RV.mono hK hμ (h3 i hi)⟩
 |st es clk=>
  obtain⟨ces,u,h1,h2⟩:=h;exact⟨ces,u,h1,h2.mono fun _ _ hh=>⟨hh.1.mono hK hμ,hh.2.1.mono hK hμ,hh.2.2⟩⟩
 |it mb since seen last=>
  obtain⟨u,v,h1,h2,h3⟩:=h;exact⟨u,v,by rw [hμ mb h2];exact h1,hK mb h2,h3⟩
 |tr t l=>
  obtain⟨cs,u,h1,h2,h3,h4,h5⟩:=h;exact⟨cs,u,h1,h2,h3,h4,fun i c hc=>by
   obtain⟨x,hx,hr⟩:=h5 i c hc;exact⟨x,hx,hr.mono hK hμ⟩⟩
theorem x8.cells{v:V}{x:Value}(h:x8 μ K v x):qe (RC μ K) v.cells x.cells.toList:=by
 cases v with
 |one c=>
  have h':RC μ K c x:=h;have:x.cells=#[x]:=by
   cases c<;>simp only [RC] at h'
   all_goals first
    |(obtain⟨_,a,c,rfl,_⟩:=h';rfl)
    |(obtain⟨_,rfl⟩:=h';rfl)
    |(obtain⟨_,_,rfl⟩:=h';rfl)
    |(subst h';rfl)
  rw [this];exact⟨h',trivial⟩
 |agg l=>obtain⟨xs,rfl,ha⟩:=h;simpa [V.cells,Value.cells] using ha
 |tup l=>exact h.elim
end
namespace Hp
@[simp] theorem get_add_self (H:Hp) (b:Nat) (x:B):(H.add b x).get b=some x:=by simp [get,add]
theorem get_add_ne(H:Hp){b c:Nat}(x:B)(h:c≠b):(H.add b x).get c=H.get c:=by simp [get,add,T.get_set_ne _ _ h]
theorem get_add(H:Hp)(b c:Nat)(x:B):(H.add b x).get c=if c=b then some x else H.get c:=by simp [get,add,T.get_set]
theorem get_del(H:Hp)(b c:Nat):(H.del b).get c=if c=b then none else H.get c:=by simp [get,del,T.get_set]
theorem get_push(H:Hp)(c:Nat)(x:B):(H.push x).get c=if c=H.nx then some x else H.get c:=by simp [get,push,T.get_set]
@[simp] theorem Ev (H:Hp) (n c:Nat):(H.skip n).get c=H.get c:=rfl
@[simp] theorem Gj (H:Hp) (b:Nat) (x:B):(H.add b x).nx=H.nx:=rfl
@[simp] theorem Gi (H:Hp) (b:Nat):(H.del b).nx=H.nx:=rfl
@[simp] theorem Ge (H:Hp) (x:B):(H.push x).nx=H.nx+1:=rfl
@[simp] theorem Gc (H:Hp) (n:Nat):(H.skip n).nx=H.nx+n:=rfl
end Hp
theorem Fr.refl{G:Nat}{μ:Nat->Pl}{K:Nat->Prop}{H:Hp}{w:World}(hR:Rel G μ K H w):Fr μ K H w μ K H w:=
 ⟨⟨rfl,rfl,rfl,Nat.le_refl _⟩,Nat.le_refl _,fun _ _ _=>rfl,fun b bk h hm=>.inl ⟨b,bk,h,hm,rfl⟩,fun b bk hb h=>absurd (hR.lt b (hR.dom b bk h)) (by omega),fun _ _=>rfl,fun _ h=>h,fun _ _ h=>h,Nat.le_refl _,fun _ _ h=>h,fun _ _ _ h h'=>by rw [h] at h';rw [zsi h'],fun _ _ h _=>h⟩
theorem Fr.trans{μ μ' μ'':Nat->Pl}{K K' K'':Nat->Prop}{H H' H'':Hp}{w w' w'':World}(hlt':∀b bk,H.get b=some bk->b<H.nx)(h:Fr μ K H w μ' K' H' w')(k:Fr μ' K' H' w' μ'' K'' H'' w''):Fr μ K H w μ'' K'' H'' w'':=by
 refine⟨⟨k.same.1.trans h.same.1,k.same.2.1.trans h.same.2.1,k.same.2.2.1.trans h.same.2.2.1,Nat.le_trans h.same.2.2.2 k.same.2.2.2⟩,Nat.le_trans h.size k.size,fun i hi hne=>?_,fun b bk hb hm=>?_,fun b bk hb hg=>?_,
  fun b hb=>(k.mu b (h.kk b hb)).trans (h.mu b hb),fun b hb=>k.kk b (h.kk b hb),fun b hb hk=>h.knew b hb (k.knew b (Nat.lt_of_lt_of_le hb h.nx) hk),Nat.le_trans h.nx k.nx,
  fun b hb hn=>k.none b (Nat.lt_of_lt_of_le hb h.nx) (h.none b hb hn),fun b bk bk' hb hb'=>?_,fun b bk hb hm=>k.ro b bk (h.ro b bk hb hm) hm⟩
 ·rw [k.keep i (Nat.lt_of_lt_of_le hi h.size) fun b bk hb hm he=>?_,h.keep i hi hne];rcases h.img b bk hb hm with⟨b0,bk0,h0,m0,e0⟩|hge
  ·exact hne b0 bk0 h0 m0 (e0.trans he)
  ·omega
 ·rcases k.img b bk hb hm with⟨b0,bk0,h0,m0,e0⟩|hge
  ·rcases h.img b0 bk0 h0 m0 with⟨b1,bk1,h1,m1,e1⟩|hge
   ·exact .inl ⟨b1,bk1,h1,m1,e1.trans e0⟩
   ·exact .inr (by rw [<-e0];exact hge)
  ·exact .inr (Nat.le_trans h.size hge)
 ·by_cases hlt:b<H'.nx
  ·cases hg':H'.get b with
   |none=>rw [k.none b hlt hg'] at hg;cases hg
   |some bk'=>
    rw [k.stay b bk' bk hg' hg];rcases h.newmut b bk' hb hg' with h1|⟨h1,h2⟩
    ·exact .inl h1
    ·exact .inr ⟨k.kk b h1,by rw [k.mu b h1];exact h2⟩
  ·rcases k.newmut b bk (by omega) hg with h1|⟨h1,h2⟩
   ·exact .inl h1
   ·exact .inr ⟨h1,Nat.le_trans h.size h2⟩
 ·cases hg':H'.get b with
  |none=>
   by_cases hlt:b<H'.nx
   ·rw [k.none b hlt hg'] at hb';cases hb'
   ·exact absurd (hlt' b bk hb) (by have:=h.nx;omega)
  |some bk1=>rw [k.stay b bk1 bk' hg' hb',h.stay b bk bk1 hb hg']
theorem Rel.drawn{G:Nat}{μ:Nat->Pl}{K:Nat->Prop}{H:Hp}{w:World}(h:Rel G μ K H w)(n:Nat):Rel G μ K H { w with drawn:=n }:=⟨h.dom,h.lt,h.blk,h.inj,h.glob⟩
theorem Fr.drawn{G:Nat}{μ:Nat->Pl}{K:Nat->Prop}{H:Hp}{w:World}(h:Rel G μ K H w)(n:Nat)(hn:w.drawn<=n):Fr μ K H w μ K H { w with drawn:=n }:=
 let r:=Fr.refl h
 ⟨⟨rfl,rfl,rfl,hn⟩,Nat.le_refl _,fun _ _ _=>rfl,r.img,r.newmut,r.mu,r.kk,r.knew,r.nx,r.none,r.stay,r.ro⟩
end Go.Ab

namespace Go.Ab
section
variable{G:Nat}{μ:Nat->Pl}{K:Nat->Prop}{H H':Hp}{w:World}
theorem Qb{cs:Array Value}{t:TypeId}{fz:Nat × Nat}{p:Pl}{o:Nat}(h:w.heap[p.blk]?=some (.cells cs t fz)):w.cell? (p.addr o)=cs[p.off+o]?:=by
 simp [World.cell?,Pl.addr,h]
theorem Rel.cell(hR:Rel G μ K H w){b i:Nat}{c:C}(h:H.cell b i=some c):∃x,w.cell? ((μ b).addr i)=some x/\RC μ K c x:=by
 unfold Hp.cell at h;cases hb:H.get b with
 |none=>simp [hb] at h
 |some bk=>
  simp [hb] at h;have hB:=hR.blk b bk hb;cases bk with
  |row n z m rw=>
   obtain⟨cs,t,fz,h1,h2,h3,h4,h5⟩:=hB;obtain⟨x,hx,hr⟩:=h5 i c h;exact⟨x,by rw [Qb h1];exact hx,hr⟩
  |mp es=>simp [B.cell] at h
  |lp st j f n F ps sg bd=>simp [B.cell] at h
  |st=>simp [B.cell] at h
  |it=>simp [B.cell] at h
  |tr t l=>
   obtain⟨cs,u,h1,h2,h3,h4,h5⟩:=hB;obtain⟨x,hx,hr⟩:=h5 i c h;exact⟨x,by rw [Qb h1,h3,Nat.zero_add];exact hx,hr⟩
theorem W7(w:World)(a:Addr)(x:Value){cs:Array Value}{t:TypeId}{fz:Nat × Nat}(h:w.heap[a.block]?=some (.cells cs t fz))(hs:a.spot=none)(i:Nat):
 (w.setCell a x).heap[i]?=if i=a.block then some (.cells (cs.setIfInBounds a.off x) t fz) else w.heap[i]?:=by
 simp only [World.setCell,Array.getElem?_modify];by_cases e:a.block=i
 ·subst e;simp [h,hs]
 ·rw [if_neg e,if_neg (fun h=>e h.symm)]
theorem lM{n i j:Nat}{z:List C}{m:T C}{rw:Bool}{c:C}(hi:i<n):(B.row n z (m.set i (some c)) rw).cell j=if j=i then some c else (B.row n z m rw).cell j:=by
 simp only [B.cell];by_cases e:j=i
 ·subst e;simp [hi]
 ·simp [T.get_set_ne _ _ e,e]
theorem Rel.store(hR:Rel G μ K H w){b i:Nat}{c:C}{x:Value}(hs:H.store b i c=some H')(hc:RC μ K c x):
 (∃y,w.cell? ((μ b).addr i)=some y)/\w.frozen? ((μ b).addr i)=false/\Rel G μ K H' (w.setCell ((μ b).addr i) x)/\Fr μ K H w μ K H' (w.setCell ((μ b).addr i) x):=by
 unfold Hp.store at hs;cases hb:H.get b with
 |none=>simp [hb] at hs
 |some bk=>
  cases bk with
  |mp es=>simp [hb] at hs
  |lp st j f n F ps sg bd=>simp [hb] at hs
  |st=>simp [hb] at hs
  |it=>simp [hb] at hs
  |tr ty l=>
   simp only [hb] at hs;by_cases hi:i<l.length
   ·simp only [hi,if_true,zoi] at hs;subst hs;obtain⟨cs,u,h1,h2,h3,h4,h5⟩:=hR.blk b _ hb;have hcell:∃y,w.cell? ((μ b).addr i)=some y:=by
     rw [Qb h1];exact⟨_,Array.getElem?_eq_getElem (by omega)⟩
    have hh:=W7 w ((μ b).addr i) x (cs:=cs) (t:=ty) (fz:=(0,0)) h1 rfl;refine⟨hcell,by simp [World.frozen?,Pl.addr,h1],⟨fun b' bk' h'=>?_,hR.lt,fun b' bk' h'=>?_,fun b1 b2 k1 k2 e1 e2 hm he=>?_,hR.glob⟩,?_⟩
    ·rw [Hp.get_add] at h';split at h'
     ·rename_i e;subst e;exact hR.dom _ _ hb
     ·exact hR.dom _ _ h'
    ·rw [Hp.get_add] at h';rw [hh];split at h'
     ·rename_i e;subst e;obtain rfl:=zsi h';refine⟨cs.setIfInBounds ((μ b').off+i) x,(),by simp [Pl.addr],by simpa using h2,h3,by simpa using h4,fun j d hd=>?_⟩;rw [List.getElem?_set] at hd;split at hd
      ·rename_i e;subst e;obtain rfl:=zsi hd;exact⟨x,by rw [h3,Nat.zero_add,Array.getElem?_setIfInBounds];simp;omega,hc⟩
      ·rename_i e;obtain⟨y,hy,hr⟩:=h5 j d hd;exact⟨y,by rw [h3,Nat.zero_add,Array.getElem?_setIfInBounds];rw [if_neg (by omega)];exact hy,hr⟩
     ·rename_i e;have hne:(μ b').blk≠((μ b).addr i).block:=fun he=>e (hR.inj b b' _ _ hb h' rfl he.symm).symm;rw [if_neg hne];exact hR.blk b' bk' h'
    ·rw [Hp.get_add] at e1 e2;have f1:∃k,H.get b1=some k/\k.mut=true:=by
      split at e1
      ·rename_i e;subst e;exact⟨_,hb,rfl⟩
      ·exact⟨_,e1,hm⟩
     have f2:∃k,H.get b2=some k:=by
      split at e2
      ·rename_i e;subst e;exact⟨_,hb⟩
      ·exact⟨_,e2⟩
     obtain⟨_,g1,gm⟩:=f1;obtain⟨_,g2⟩:=f2;exact hR.inj _ _ _ _ g1 g2 gm he
    ·refine⟨⟨rfl,rfl,rfl,Nat.le_refl _⟩,by simp [World.setCell],fun j _ hne=>?_,fun b' bk' h' hm=>?_,fun b' bk' hb' h'=>?_,fun _ _=>rfl,fun _ h=>h,fun _ _ h=>h,Nat.le_refl _,fun b' hb' hn=>?_,fun b' k1 k2 e1 e2=>?_,fun b' k1 e1 hm=>?_⟩
     ·rw [hh,if_neg (fun e=>hne b _ hb rfl e.symm)]
     ·rw [Hp.get_add] at h';split at h'
      ·rename_i e;subst e;exact .inl ⟨b',_,hb,rfl,rfl⟩
      ·exact .inl ⟨b',bk',h',hm,rfl⟩
     ·rw [Hp.get_add] at h';split at h'
      ·obtain rfl:=zsi h';exact .inl rfl
      ·exact absurd (hR.lt _ (hR.dom _ _ h')) (by omega)
     ·rw [Hp.get_add];split
      ·rename_i e;subst e;rw [hb] at hn;cases hn
      ·exact hn
     ·rw [Hp.get_add] at e2;split at e2
      ·rename_i e;subst e;rw [hb] at e1;obtain rfl:=zsi e1;obtain rfl:=zsi e2;rfl
      ·rw [e1] at e2;rw [zsi e2]
     ·rw [Hp.get_add];split
      ·rename_i e;subst e;rw [hb] at e1;obtain rfl:=zsi e1;cases hm
      ·exact e1
   ·simp [hi] at hs
  |row n z m rw=>
   cases rw with
   |false=>simp [hb] at hs
   |true=>
    simp only [hb] at hs;by_cases hi:i<n
    ·simp only [hi,if_true,zoi] at hs;subst hs;obtain⟨cs,t,fz,h1,h2,h3,h4,h5⟩:=hR.blk b _ hb;obtain rfl:=h4 rfl;have hcell:∃y,w.cell? ((μ b).addr i)=some y:=by
      rw [Qb h1];exact⟨_,Array.getElem?_eq_getElem (by omega)⟩
     have hh:=W7 w ((μ b).addr i) x (cs:=cs) (t:=t) (fz:=(0,0)) h1 rfl;refine⟨hcell,by simp [World.frozen?,Pl.addr,h1],⟨fun b' bk' h'=>?_,hR.lt,fun b' bk' h'=>?_,fun b1 b2 k1 k2 e1 e2 hm he=>?_,hR.glob⟩,?_⟩
     ·rw [Hp.get_add] at h';split at h'
      ·rename_i e;subst e;exact hR.dom _ _ hb
      ·exact hR.dom _ _ h'
     ·rw [Hp.get_add] at h';rw [hh];split at h'
      ·rename_i e;subst e;obtain rfl:=zsi h';refine⟨cs.setIfInBounds ((μ b').off+i) x,t,(0,0),by simp [Pl.addr],by simpa using h2,by simpa using h3,fun _=>rfl,fun j d hd=>?_⟩;rw [lM hi] at hd;split at hd
       ·rename_i e;subst e;obtain rfl:=zsi hd;exact⟨x,by rw [Array.getElem?_setIfInBounds];simp;omega,hc⟩
       ·rename_i e;obtain⟨y,hy,hr⟩:=h5 j d hd;exact⟨y,by rw [Array.getElem?_setIfInBounds];rw [if_neg (by omega)];exact hy,hr⟩
      ·rename_i e;have hne:(μ b').blk≠((μ b).addr i).block:=fun he=>e (hR.inj b b' _ _ hb h' rfl he.symm).symm;rw [if_neg hne];exact hR.blk b' bk' h'
     ·rw [Hp.get_add] at e1 e2;have f1:∃k,H.get b1=some k/\k.mut=true:=by
       split at e1
       ·rename_i e;subst e;exact⟨_,hb,rfl⟩
       ·exact⟨_,e1,hm⟩
      have f2:∃k,H.get b2=some k:=by
       split at e2
       ·rename_i e;subst e;exact⟨_,hb⟩
       ·exact⟨_,e2⟩
      obtain⟨_,g1,gm⟩:=f1;obtain⟨_,g2⟩:=f2;exact hR.inj _ _ _ _ g1 g2 gm he
     ·refine⟨⟨rfl,rfl,rfl,Nat.le_refl _⟩,by simp [World.setCell],fun j _ hne=>?_,fun b' bk' h' hm=>?_,fun b' bk' hb' h'=>?_,fun _ _=>rfl,fun _ h=>h,fun _ _ h=>h,Nat.le_refl _,fun b' hb' hn=>?_,fun b' k1 k2 e1 e2=>?_,fun b' k1 e1 hm=>?_⟩
      ·rw [hh,if_neg (fun e=>hne b _ hb rfl e.symm)]
      ·rw [Hp.get_add] at h';split at h'
       ·rename_i e;subst e;exact .inl ⟨b',_,hb,rfl,rfl⟩
       ·exact .inl ⟨b',bk',h',hm,rfl⟩
      ·rw [Hp.get_add] at h';split at h'
       ·obtain rfl:=zsi h';exact .inl rfl
       ·exact absurd (hR.lt _ (hR.dom _ _ h')) (by omega)
      ·rw [Hp.get_add];split
       ·rename_i e;subst e;rw [hb] at hn;cases hn
       ·exact hn
      ·rw [Hp.get_add] at e2;split at e2
       ·rename_i e;subst e;rw [hb] at e1;rw [<-zsi e1,<-zsi e2];rfl
       ·rw [e1] at e2;rw [zsi e2]
      ·rw [Hp.get_add];split
       ·rename_i e;subst e;rw [hb] at e1;rw [<-zsi e1] at hm;cases hm
       ·exact e1
    ·simp [hi] at hs
def oneC:Value->Bool
 |.agg _=>false
 |.tuple _=>false
 |_=>true
theorem Y1{P:Program}{a:Addr}{x:Value}{β:Type}{k:Sem β}(hx:oneC x=true)(hc:∃y,w.cell? a=some y)(hf:w.frozen? a=false):
 (Sem.store .plain a x k).run P w=k.run P (w.setCell a x):=by
 obtain⟨y,hy⟩:=hc;cases x<;>first
  |(simp [oneC] at hx;done)
  |simp [Sem.run,hy,hf]
theorem RC.oneCell{c:C}{x:Value}(h:RC μ K c x):oneC x=true:=by
 cases c<;>simp only [RC] at h
 all_goals first
  |(obtain⟨_,a,c,rfl,_⟩:=h;rfl)
  |(obtain⟨_,rfl⟩:=h;rfl)
  |(subst h;rfl)
theorem zp(p:Pl)(o i:Nat):(p.addr o).add i=p.addr (o+i):=by
 unfold Addr.add Pl.addr;by_cases h:i=0
 ·simp [h]
 ·simp [h,Nat.add_assoc]
theorem Rel.loads(hR:Rel G μ K H w){P:Program}:∀{n b o i:Nat} {l:List C} {acc:Array Value},H.loads b (o+i) n=some l->
 ∃xs:List Value,qe (RC μ K) l xs/\(loadCellsFrom ((μ b).addr o) i n acc).run P w=.ok (acc++xs.toArray) w
 |0,b,o,i,l,acc,h=>by
  simp [Hp.loads] at h;subst h;exact⟨[],trivial,by simp [loadCellsFrom,pure,Sem.run]⟩
 |n+1,b,o,i,l,acc,h=>by
  simp only [Hp.loads] at h;cases hc:H.cell b (o+i) with
  |none=>simp [hc] at h
  |some c=>
   simp only [hc] at h;cases hl:H.loads b (o+i+1) n with
   |none=>simp [hl] at h
   |some l'=>
    simp only [hl,zoi] at h;subst h;obtain⟨x,hx,hr⟩:=hR.cell hc;obtain⟨xs,ha,hrun⟩:=Rel.loads hR (P:=P) (acc:=acc.push x) (n:=n) (b:=b) (o:=o) (i:=i+1) hl;refine⟨x::xs,⟨hr,ha⟩,?_⟩;simp only [loadCellsFrom,load,bind,Sem.bind,Sem.run,zp,hx];rw [hrun];simp
theorem Rel.stores{P:Program}:∀{l:List C} {xs:List Value} {w:World} {H H':Hp} {b o i:Nat},Rel G μ K H w->H.stores b (o+i) l=some H'->qe (RC μ K) l xs->
 ∃w',(storeCells ((μ b).addr o) xs i).run P w=.ok () w'/\Rel G μ K H' w'/\Fr μ K H w μ K H' w'
 |[],[],w,H,H',b,o,i,hR,h,_=>by
  simp [Hp.stores] at h;subst h;exact⟨w,by simp [storeCells,pure,Sem.run],hR,Fr.refl hR⟩
 |c::l,x::xs,w,H,H',b,o,i,hR,h,ha=>by
  simp only [Hp.stores] at h;cases hs:H.store b (o+i) c with
  |none=>simp [hs] at h
  |some H1=>
   simp only [hs] at h;obtain⟨hc,hf,hR1,hF1⟩:=hR.store hs ha.1;obtain⟨w',hrun,hR2,hF2⟩:=Rel.stores (P:=P) (xs:=xs) (i:=i+1) hR1 h ha.2;refine⟨w',?_,hR2,hF1.trans (fun b bk hb=>hR.lt _ (hR.dom _ _ hb)) hF2⟩;simp only [storeCells,bind,zp];exact (Y1 ha.1.oneCell hc hf).trans hrun
 |[],_::_,_,_,_,_,_,_,_,_,ha=>ha.elim
 |_::_,[],_,_,_,_,_,_,_,_,ha=>ha.elim
theorem Rel.new' (hR:Rel G μ K H w) {b N:Nat} {bk:B} {o:Obj} {sz:Nat} (hb:¬K b) (hbN:b<N) (hN:H.nx<=N)
 (ho:RB μ K ⟨w.heap.size,0,sz⟩ bk (some o)):
 Rel G (fun i=>if i=b then ⟨w.heap.size,0,sz⟩ else μ i) (fun i=>K i\/i=b) ⟨H.m.set b (some bk),N⟩ { w with heap:=w.heap.push o }:=by
 have hget:∀i,Hp.get ⟨H.m.set b (some bk),N⟩ i=if i=b then some bk else H.get i:=fun i=>by simp [Hp.get,T.get_set]
 have hmu:∀i,K i->(fun i=>if i=b then (⟨w.heap.size,0,sz⟩:Pl) else μ i) i=μ i:=fun i hi=>by
  by_cases e:i=b
  ·subst e;exact absurd hi hb
  ·simp [e]
 have hlt:∀i k,H.get i=some k->(μ i).blk<w.heap.size:=fun i k hi=>by
  have h:=hR.blk i k hi;rcases Nat.lt_or_ge (μ i).blk w.heap.size with h1|h1
  ·exact h1
  ·rw [Array.getElem?_eq_none h1] at h;cases k with
   |row n z m rw=>obtain⟨_,_,_,h,_⟩:=h;cases h
   |mp es=>obtain⟨_,_,h,_⟩:=h;cases h
   |lp st j f n F ps sg bd=>obtain⟨_,_,h,_⟩:=h;cases h
   |st=>obtain⟨_,_,h,_⟩:=h;cases h
   |it=>obtain⟨_,_,h,_⟩:=h;cases h
   |tr=>obtain⟨_,_,h,_⟩:=h;cases h
 have hne:∀i k,H.get i=some k->i≠b:=fun i k hi e=>hb (e▸hR.dom i k hi);refine⟨fun i k hi=>?_,fun i hi=>?_,fun i k hi=>?_,fun i j k1 k2 h1 h2 hm he=>?_,fun g hg=>?_⟩
 ·rw [hget] at hi;split at hi
  ·rename_i e;exact .inr e
  ·exact .inl (hR.dom _ _ hi)
 ·rcases hi with hi|rfl
  ·exact Nat.lt_of_lt_of_le (hR.lt i hi) hN
  ·exact hbN
 ·rw [hget] at hi;split at hi
  ·rename_i e;subst e;obtain rfl:=zsi hi;simp only [if_true,Array.getElem?_push];exact ho.mono (fun _ h=>.inl h) hmu
  ·rename_i e;simp only [e,if_false,Array.getElem?_push];rw [if_neg (Nat.ne_of_lt (hlt i k hi))];exact (hR.blk i k hi).mono (fun _ h=>.inl h) hmu
 ·rw [hget] at h1 h2;by_cases e1:i=b
  ·by_cases e2:j=b
   ·rw [e1,e2]
   ·rw [if_neg e2] at h2;simp only [e1,e2,if_true,if_false] at he;have:=hlt j k2 h2;omega
  ·by_cases e2:j=b
   ·rw [if_neg e1] at h1;simp only [e1,e2,if_true,if_false] at he;have:=hlt i k1 h1;omega
   ·rw [if_neg e1] at h1;rw [if_neg e2] at h2;simp only [e1,e2,if_false] at he;exact hR.inj i j k1 k2 h1 h2 hm he
 ·obtain⟨h1,h2⟩:=hR.glob g hg;exact⟨.inl h1,by have:=hmu g h1;simp only at this;rw [this];exact h2⟩
theorem Fr.new' {μ0:Nat->Pl} {K0:Nat->Prop} {H0:Hp} {w0:World} (h:Fr μ0 K0 H0 w0 μ K H w) {b N:Nat} {bk:B} {o:Obj} {sz:Nat}
 (hb:¬K b) (hb0:H0.nx<=b) (hlt0:∀b bk,H0.get b=some bk->b<H0.nx) (hN:H.nx<=N):
 Fr μ0 K0 H0 w0 (fun i=>if i=b then ⟨w.heap.size,0,sz⟩ else μ i) (fun i=>K i\/i=b) ⟨H.m.set b (some bk),N⟩ { w with heap:=w.heap.push o }:=by
 have hget:∀i,Hp.get ⟨H.m.set b (some bk),N⟩ i=if i=b then some bk else H.get i:=fun i=>by simp [Hp.get,T.get_set]
 refine⟨h.same,by simp;have:=h.size;omega,fun i hi hne=>?_,fun i k hi hm=>?_,fun i k hi hk=>?_,fun i hi=>?_,fun i hi=>.inl (h.kk i hi),fun i hi hk=>?_,Nat.le_trans h.nx hN,fun i hi hn=>?_,fun i k k' hi hk=>?_,fun i k hi hm=>?_⟩
 ·rw [<-h.keep i hi hne];simp only [Array.getElem?_push];rw [if_neg (by have:=h.size;omega)]
 ·rw [hget] at hi;split at hi
  ·rename_i e;subst e;right;simp;exact h.size
  ·rename_i e;rcases h.img i k hi hm with h1|h1
   ·left;simpa [e] using h1
   ·right;simpa [e] using h1
 ·rw [hget] at hk;split at hk
  ·rename_i e;subst e;exact .inr ⟨.inr rfl,by simp;exact h.size⟩
  ·rename_i e;rcases h.newmut i k hi hk with h1|⟨h1,h2⟩
   ·exact .inl h1
   ·exact .inr ⟨.inl h1,by simpa [e] using h2⟩
 ·by_cases e:i=b
  ·subst e;exact absurd (h.kk i hi) hb
  ·simp [e,h.mu i hi]
 ·rcases hk with hk|rfl
  ·exact h.knew i hi hk
  ·omega
 ·rw [hget,if_neg (by omega)];exact h.none i hi hn
 ·rw [hget] at hk;have:=hlt0 i k hi;rw [if_neg (by omega)] at hk;exact h.stay i k k' hi hk
 ·have:=hlt0 i k hi;rw [hget,if_neg (by omega)];exact h.ro i k hi hm
theorem Rel.new (hR:Rel G μ K H w) {b N:Nat} {bk:B} {o:Obj} {sz:Nat} (hb:¬K b) (hbN:b<N) (hN:H.nx<=N) (_:bk.mut=true)
 (ho:RB μ K ⟨w.heap.size,0,sz⟩ bk (some o)):
 Rel G (fun i=>if i=b then ⟨w.heap.size,0,sz⟩ else μ i) (fun i=>K i\/i=b) ⟨H.m.set b (some bk),N⟩ { w with heap:=w.heap.push o }:=Rel.new' hR hb hbN hN ho
theorem Fr.new {μ0:Nat->Pl} {K0:Nat->Prop} {H0:Hp} {w0:World} (h:Fr μ0 K0 H0 w0 μ K H w) {b N:Nat} {bk:B} {o:Obj} {sz:Nat}
 (hb:¬K b) (hb0:H0.nx<=b) (hlt0:∀b bk,H0.get b=some bk->b<H0.nx) (hN:H.nx<=N) (_:bk.mut=true):
 Fr μ0 K0 H0 w0 (fun i=>if i=b then ⟨w.heap.size,0,sz⟩ else μ i) (fun i=>K i\/i=b) ⟨H.m.set b (some bk),N⟩ { w with heap:=w.heap.push o }:=Fr.new' h hb hb0 hlt0 hN
theorem Rel.sub(hR:Rel G μ K H w)(hs:∀b bk,H'.get b=some bk->H.get b=some bk)(hn:H'.nx=H.nx):Rel G μ K H' w:=
 ⟨fun b bk h=>hR.dom b bk (hs b bk h),fun b h=>by rw [hn];exact hR.lt b h,fun b bk h=>hR.blk b bk (hs b bk h),fun b b' k k' h h'=>hR.inj b b' k k' (hs _ _ h) (hs _ _ h'),hR.glob⟩
theorem Rel.skip(hR:Rel G μ K H w)(n:Nat):Rel G μ K (H.skip n) w:=
 ⟨hR.dom,fun b h=>by have:=hR.lt b h;simp;omega,hR.blk,hR.inj,hR.glob⟩
theorem Fr.skip(hR:Rel G μ K H w)(n:Nat):Fr μ K H w μ K (H.skip n) w:=
 let r:=Fr.refl hR
 ⟨r.same,r.size,r.keep,r.img,r.newmut,r.mu,r.kk,r.knew,by simp,r.none,r.stay,r.ro⟩
theorem Fr.del(hR:Rel G μ K H w)(b:Nat)(hbm:∀bk,H.get b=some bk->bk.mut=true):Fr μ K H w μ K (H.del b) w:=by
 have hs:∀i k,(H.del b).get i=some k->H.get i=some k:=fun i k h=>by
  rw [Hp.get_del] at h;split at h
  ·cases h
  ·exact h
 let r:=Fr.refl hR;exact⟨r.same,r.size,r.keep,fun i k h hm=>r.img i k (hs i k h) hm,fun i k hi h=>r.newmut i k hi (hs i k h),r.mu,r.kk,r.knew,Nat.le_refl _,fun i hi hn=>by rw [Hp.get_del,hn];simp,
  fun i k k' h h'=>r.stay i k k' h (hs i k' h'),fun i k h hm=>by
   rw [Hp.get_del,if_neg (fun e=>by subst e;rw [hbm k h] at hm;cases hm)];exact h⟩
end
end Go.Ab
