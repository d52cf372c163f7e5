/- -/
import Derived.Orders
import Derived.Laws.Sem
import Derived.Laws.Tables
import Derived.Laws.StructEq
set_option linter.unusedSimpArgs false
set_option linter.unusedVariables false
set_option maxRecDepth 8000
namespace Go.Ab
theorem zsi.{u}{α:Type u}{a b:α}(h:some a=some b):a=b:=Option.some.inj h
theorem zge.{u}{α:Type u}{l:List α}{i:Nat}(h:i<l.length):l[i]?=some l[i]:=List.getElem?_eq_getElem h
theorem xo{p:Prop}[Decidable p](h:decide p=true):p:=of_decide_eq_true h
theorem zK{p:Prop}[Decidable p](h:decide p=false):¬p:=of_decide_eq_false h
theorem zmg.{u}{α:Type u}{l:List α}{i:Nat}{a:α}(h:l[i]?=some a):a∈l:=List.mem_of_getElem? h
theorem zgs.{u}{α:Type u}{l:List α}{i:Nat}{a:α}(h:l[i]?=some a):∃h:i<l.length,l[i]=a:=List.getElem?_eq_some_iff.1 h
theorem zfm.{u}{α:Type u}{p:α→Prop}{a:α}{l:List α}(h:p a∧∀x,x∈l→p x):∀x,x∈a::l→p x:=List.forall_mem_cons.2 h
theorem zoi.{u}{α:Type u}(a b:α):(some a=some b)=(a=b):=Option.some.injEq a b
theorem zpi.{u,v}{α:Type u}{β:Type v}(a:α)(b:β)(c:α)(d:β):((a,b)=(c,d))=(a=c∧b=d):=Prod.mk.injEq a b c d
theorem x8(a b:Bool):((a&&b)=true)=(a=true∧b=true):=Bool.and_eq_true a b
theorem yA(p:Prop)[Decidable p]:(decide p=true)=p:=decide_eq_true_eq
theorem zom.{u,v}{α:Type u}{β:Type v}{b:β}{f:α→β}{o:Option α}:o.map f=some b↔∃a,o=some a∧f a=b:=Option.map_eq_some_iff
abbrev qT:= @List.getD_eq_getElem?_getD
abbrev qE:= @List.length_append
abbrev qz:= @Nat.le_refl
abbrev xN:= @List.length_replicate
abbrev xM:= @List.mem_singleton
abbrev xu:= @List.mem_append
abbrev xA:= @List.length_cons
abbrev xS:= @List.length_take
abbrev xX:= @List.length_map
abbrev yJ:= @List.getElem?_eq_none
abbrev zS:= @List.length_drop
abbrev yz:= @Bool.false_eq_true
abbrev zd:= @List.mem_cons
abbrev zR:= @List.length_nil
abbrev vw:= @List.eq_nil_of_length_eq_zero
abbrev jP:= @Nat.le_of_ble_eq_true
abbrev yI:= @List.append_nil
abbrev jH:= @List.getElem?_map
abbrev Qz:= @List.getElem?_append_left
abbrev j5:= @List.append_assoc
abbrev Q3:= @List.getElem?_append_right
abbrev ym:= @Nat.zero_add
abbrev jG:= @List.length_set
abbrev wB:= @List.flatMap_cons
abbrev jF:= @List.mem_range
abbrev wA:= @List.all_eq_true
abbrev Q9:= @List.take_of_length_le
abbrev jr:= @List.map_cons
abbrev Zu:= @List.getElem?_replicate
abbrev Q7:= @List.mem_cons_of_mem
abbrev Kt:= @List.take_append_of_le_length
abbrev Qg:= @Nat.lt_of_lt_of_le
abbrev vF:= @List.ext_getElem?
abbrev vz:= @List.cons_append
abbrev X1:= @Nat.mul_le_mul_right
abbrev QC:= @List.mem_cons_self
abbrev vE:= @List.take_length
abbrev X0:= @List.flatMap_append
abbrev Q6:= @Int.tmod_lt_of_pos
abbrev ZV:= @List.take_append_drop
abbrev j6:= @List.mem_map
abbrev JJ:= @Option.bind_eq_some_iff
abbrev Q5:= @List.take_add_one
abbrev jW:= @Int.toNat_natCast
abbrev wW:= @Nat.add_mul
abbrev aZ:= @Nat.le_trans
abbrev XZ:= @Array.getElem?_setIfInBounds
abbrev Q4:= @List.getElem?_set
abbrev QB:= @Option.getD_some
abbrev QA:= @Option.map_some
abbrev XY:= @List.range_succ
abbrev kJ:= @Nat.mod_eq_of_lt
abbrev bD:= @Nat.lt_or_ge
abbrev kr:= @List.drop_eq_getElem_cons
abbrev X2:= @Nat.mul_one
abbrev YP:= @Int.tmod_nonneg
abbrev Kx:= @List.getElem?_range
abbrev eK:= @Option.isSome_iff_exists
abbrev kp:= @Nat.mod_lt
abbrev nL:= @Array.getD_eq_getD_getElem?
abbrev Kw:= @List.getElem?_take
abbrev nK:= @Int.tmod_eq_emod_of_nonneg
abbrev nJ:= @Array.getElem?_eq_some_iff
abbrev eJ:= @List.getElem?_cons_succ
abbrev JN:= @Option.bind_some
abbrev YO:= @List.nodup_cons
abbrev YN:= @List.foldl_cons
abbrev KM:= @List.mem_filterMap
abbrev JM:= @List.map_append
abbrev JL:= @Bool.or_eq_true
abbrev Xa:= @Nat.zero_le
abbrev eI:= @List.getElem?_set_ne
abbrev eH:= @List.getElem?_of_mem
abbrev bB:= @Nat.add_sub_cancel
abbrev nI:= @List.getElem?_set_self
abbrev Kv:= @List.nil_append
abbrev JK:= @Int.ofNat_tmod
abbrev sO:= @Array.getElem?_eq_getElem
abbrev DQ:= @List.drop_append_of_le_length
abbrev nR:= @List.length_filter_le
abbrev Kz:= @List.drop_zero
abbrev sR:= @List.getElem?_cons_zero
abbrev eO:= @Int.natCast_nonneg
abbrev sQ:= @Int.eq_ofNat_of_zero_le
abbrev nQ:= @List.mem_of_mem_take
abbrev bE:= @Option.getD_none
abbrev DP:= @Int.tdiv_eq_ediv_of_nonneg
abbrev eN:= @List.foldl_append
abbrev nP:= @List.getElem?_drop
abbrev eL:= @Nat.not_lt_zero
abbrev LT:= @List.idxOf_lt_length_of_mem
abbrev LS:= @List.exists_cons_of_ne_nil
abbrev nO:= @List.not_mem_nil
abbrev nN:= @List.mem_flatMap
abbrev LR:= @List.mem_or_eq_of_mem_set
abbrev Ky:= @Int.le_refl
abbrev nM:= @List.mem_filter
abbrev DO:= @List.filterMap_cons
abbrev sP:= @List.getElem_mem
abbrev Cd:= @Int.mul_le_mul_of_nonneg_left
abbrev LQ:= @List.drop_of_length_le
abbrev LP:= @Array.getElem?_eq_none
abbrev DN:= @List.set_cons_succ
abbrev DM:= @List.mem_replicate
abbrev eQ:= @List.map_set
abbrev eP:= @Int.mul_comm
abbrev L2:= @Array.getElem?_toList
abbrev nU:= @List.sum_cons
abbrev Ck:= @Array.getElem?_append_left
abbrev L1:= @List.replicate_succ'
abbrev L0:= @List.pairwise_append
abbrev LZ:= @List.replicate_succ
abbrev LY:= @Int.toNat_of_nonneg
abbrev LX:= @Array.getElem?_push
abbrev nT:= @Nat.zero_mul
abbrev nS:= @Nat.add_zero
abbrev LW:= @Nat.eq_zero_or_pos
abbrev LV:= @List.set_cons_zero
abbrev Cj:= @List.getLast_eq_getElem
abbrev LU:= @List.flatten_cons
abbrev Iy:= @Array.getElem?_setIfInBounds_ne
abbrev DS:= @Nat.mul_le_mul
abbrev DR:= @List.drop_drop
abbrev Ci:= @Nat.ble_eq_true_of_le
abbrev sS:= @List.map_nil
abbrev Ch:= @Array.getElem?_modify
abbrev Ix:= @List.getLast_append_of_ne_nil
abbrev Cg:= @List.mem_of_mem_drop
abbrev Cf:= @List.mem_iff_getElem
abbrev Ce:= @Bool.or_eq_false_iff
abbrev DT:= @Bool.true_and
abbrev L7:= @Nat.min_eq_left
abbrev L6:= @Nat.div_le_self
abbrev Cm:= @List.map_congr_left
abbrev Cl:= @List.getD_cons_succ
abbrev L5:= @Int.natCast_mul
abbrev sV:= @Int.mul_sub
theorem O.{u}{α:Sort u}{a:α}:a=a:=rfl
inductive T (α:Type) where
 |lf
 |nd (v:Option α) (l r:T α)
namespace T
variable{α:Type}
def val:T α->Option α
 |lf=>none
 |nd v _ _=>v
def left:T α->T α
 |lf=>lf
 |nd _ l _=>l
def right:T α->T α
 |lf=>lf
 |nd _ _ r=>r
def get:T α->Nat->Option α
 |lf,_=>none
 |nd v l r,n=>if n=0 then v else if n % 2=1 then l.get (n/2) else r.get (n/2-1)
def Zn:Nat->T α->Nat->Option α->T α
 |0,t,_,_=>t
 |f+1,t,n,x=>
  if n=0 then nd x t.left t.right
  else if n % 2=1 then nd t.val (Zn f t.left (n/2) x) t.right
  else nd t.val t.left (Zn f t.right (n/2-1) x)
def set(t:T α)(n:Nat)(x:Option α):T α:=Zn (n+1) t n x
@[simp] theorem get_lf (n:Nat):(lf:T α).get n=none:=rfl
theorem Nl(t:T α)(n:Nat):t.get n=if n=0 then t.val else if n % 2=1 then t.left.get (n/2) else t.right.get (n/2-1):=by
 cases t with
 |lf=>simp [val,left,right]
 |nd v l r=>rfl
theorem Zb(v:Option α)(l r:T α)(n:Nat):(nd v l r).get n=if n=0 then v else if n % 2=1 then l.get (n/2) else r.get (n/2-1):=rfl
theorem Zp:∀(f:Nat) (t:T α) (n:Nat) (x:Option α),n<f->(Zn f t n x).get n=x
 |0,_,_,_,h=>absurd h (by omega)
 |f+1,t,n,x,h=>by
  simp only [Zn];by_cases h0:n=0
  ·simp [h0,Zb]
  ·by_cases h1:n % 2=1
   ·simp only [h0,h1,if_true,if_false,Zb];exact Zp f _ _ _ (by omega)
   ·simp only [h0,h1,if_false,Zb];exact Zp f _ _ _ (by omega)
theorem JB:∀(f:Nat) (t:T α) (n m:Nat) (x:Option α),m≠n->(Zn f t n x).get m=t.get m
 |0,_,_,_,_,_=>rfl
 |f+1,t,n,m,x,h=>by
  rw [Nl t m];simp only [Zn];by_cases h0:n=0
  ·simp only [h0,if_true,Zb];have m0:m≠0:=by omega
   simp [m0]
  ·by_cases h1:n % 2=1
   ·simp only [h0,h1,if_true,if_false,Zb];by_cases m0:m=0
    ·simp [m0]
    ·by_cases m1:m % 2=1
     ·simp only [m0,m1,if_true,if_false];exact JB f _ _ _ _ (by omega)
     ·simp [m0,m1]
   ·simp only [h0,h1,if_false,Zb];by_cases m0:m=0
    ·simp [m0]
    ·by_cases m1:m % 2=1
     ·simp [m0,m1]
     ·simp only [m0,m1,if_false];exact JB f _ _ _ _ (by omega)
@[simp] theorem Nk (t:T α) (n:Nat) (x:Option α):(t.set n x).get n=x:=Zp _ _ _ _ (by omega)
theorem get_set_ne(t:T α){n m:Nat}(x:Option α)(h:m≠n):(t.set n x).get m=t.get m:=JB _ _ _ _ _ h
theorem get_set(t:T α)(n m:Nat)(x:Option α):(t.set n x).get m=if m=n then x else t.get m:=by
 by_cases h:m=n
 ·subst h;simp
 ·simp [h,get_set_ne t x h]
@[simp] theorem MG (v:Option α) (l r:T α):(nd v l r).val=v:=rfl
@[simp] theorem EO (v:Option α) (l r:T α):(nd v l r).left=l:=rfl
@[simp] theorem tQ (v:Option α) (l r:T α):(nd v l r).right=r:=rfl
theorem KV:∀(f g:Nat) (t:T α) (i j:Nat) (x y:Option α),i≠j->i<g->j<f->Zn f (Zn g t i x) j y=Zn g (Zn f t j y) i x
 |0,_,_,_,_,_,_,_,_,h=>absurd h (by omega)
 |_+1,0,_,_,_,_,_,_,h,_=>absurd h (by omega)
 |f+1,g+1,t,i,j,x,y,hne,hi,hj=>by
  simp only [Zn];by_cases i0:i=0
  ·have j0:j≠0:=by omega
   by_cases j1:j % 2=1<;>simp [i0,j0,j1]
  ·by_cases j0:j=0
   ·by_cases i1:i % 2=1<;>simp [i0,j0,i1]
   ·by_cases i1:i % 2=1
    ·by_cases j1:j % 2=1
     ·simp only [i0,j0,i1,j1,if_true,if_false,MG,EO,tQ];rw [KV f g _ _ _ _ _ (by omega) (by omega) (by omega)]
     ·simp [i0,j0,i1,j1]
    ·by_cases j1:j % 2=1
     ·simp [i0,j0,i1,j1]
     ·simp only [i0,j0,i1,j1,if_false,MG,EO,tQ];rw [KV f g _ _ _ _ _ (by omega) (by omega) (by omega)]
theorem set_comm(t:T α){i j:Nat}(x y:Option α)(h:i≠j):(t.set i x).set j y=(t.set j y).set i x:=
 KV _ _ _ _ _ _ _ h (by omega) (by omega)
end T
end Go.Ab
namespace Go.Ab
def uV(g:Nat):Option Nat:=if g=3 then some 20 else none
inductive C where
 |bool (b:Bool)
 |int (k:IntKind) (n:Int)
 |str (s:ByteArray)
 |ptr (b o:Nat)
 |nilp
 |slc (b o len cap esz:Nat) (ex:Bool)
 |nils
 |map (b:Nat)
 |nilm
 |fn (f:FuncId) (caps:List (Nat × Nat))
 |nilf
 |yld (b:Nat)
 /-- an interface value that is not nil;the nil one -/
 |ifa
 |nili
 /-- a method that is bound to a pointer -/
 |bm (f:FuncId) (b o:Nat)
 /-- some number -/
 |anyi
inductive V where
 |one (c:C)
 |agg (l:List C)
 |tup (l:List V)
abbrev V.undef:V:=.tup []
abbrev V.bool(b:Bool):V:=.one (.bool b)
def V.cells:V->List C
 |.one c=>[c]
 |.agg l=>l
 |.tup _=>[]
inductive B where
 |row (n:Nat) (z:List C) (m:T C) (rw:Bool)
 |mp (es:List (V × V))
 /-- the record of a range over a function:its state,the pending jump,whose it is,the temporaries at its beginning,its parameters,what a round assigns,what it does -/
 |lp (st:LoopState) (jump:Option Code) (f:FuncId) (n:Nat) (F:T V) (ps:Array Tmp) (sg bd:Code)
 /-- a map whose keys are structures,with the stamps of its entries -/
 |st (es:List (V × V × Nat)) (clk:Nat)
 /-- an iteration over such a map:the stamps that it has seen,when it last stepped -/
 |it (mb since:Nat) (seen:List Nat) (last:Nat)
 /-- a row whose type is known -/
 |tr (t:TypeId) (l:List C)
def B.cell:B->Nat->Option C
 |.row n z m _,i=>if i<n then some ((m.get i).getD (z.getD (i % z.length) .nilp)) else none
 |.mp _,_=>none
 |.lp ..,_=>none
 |.st ..,_=>none
 |.it ..,_=>none
 |.tr _ l,i=>l[i]?
def B.mut:B->Bool
 |.row _ _ _ rw=>rw
 |.mp _=>true
 |.lp ..=>true
 |.st ..=>true
 |.it ..=>true
 |.tr ..=>true
structure Hp where
 m:T B
 nx:Nat
namespace Hp
def get(H:Hp)(b:Nat):Option B:=H.m.get b
def cell(H:Hp)(b i:Nat):Option C:=(H.get b).bind (·.cell i)
def add(H:Hp)(b:Nat)(x:B):Hp:=⟨H.m.set b (some x),H.nx⟩
def del(H:Hp)(b:Nat):Hp:=⟨H.m.set b none,H.nx⟩
def push(H:Hp)(x:B):Hp:=⟨H.m.set H.nx (some x),H.nx+1⟩
def skip(H:Hp)(n:Nat):Hp:=⟨H.m,H.nx+n⟩
def store(H:Hp)(b i:Nat)(c:C):Option Hp:=
 match H.get b with
 |some (.row n z m true)=>if i<n then some (H.add b (.row n z (m.set i (some c)) true)) else none
 |some (.tr t l)=>if i<l.length then some (H.add b (.tr t (l.set i c))) else none
 |_=>none
def loads(H:Hp)(b o:Nat):Nat->Option (List C)
 |0=>some []
 |n+1=>match H.cell b o with
  |none=>none
  |some c=>match H.loads b (o+1) n with
   |none=>none
   |some l=>some (c::l)
def stores(H:Hp)(b o:Nat):List C->Option Hp
 |[]=>some H
 |c::l=>match H.store b o c with
  |none=>none
  |some H'=>H'.stores b (o+1) l
end Hp
structure Pl where
 blk:Nat
 off:Nat
 size:Nat
def Pl.addr(p:Pl)(o:Nat):Addr:=⟨p.blk,p.off+o,none⟩
def qe{α β:Type}(R:α->β->Prop):List α->List β->Prop
 |[],[]=>True
 |a::l,b::m=>R a b/\qe R l m
 |_,_=>False
def RC(μ:Nat->Pl)(K:Nat->Prop):C->Value->Prop
 |.bool b,x=>x=.bool b
 |.int k n,x=>x=.int k n
 |.str s,x=>x=.string s
 |.ptr b o,x=>K b/\x=.pointer (some ((μ b).addr o))
 |.nilp,x=>x=.pointer none
 |.slc b o len cap esz ex,x=>K b/\∃a c,x=.slice (some a) len c/\len<=cap/\cap<=c/\(ex=true->c=cap)/\
  (c=0\/(a=(μ b).addr o/\(μ b).off+o+c*esz<=(μ b).size))
 |.nils,x=>x=.slice none 0 0
 |.map b,x=>K b/\x=.map (some (μ b).blk)
 |.nilm,x=>x=.map none
 |.fn f caps,x=>(∀p∈caps,K p.1)/\x=.func (.func f) #[] (caps.map fun p=>Value.pointer (some ((μ p.1).addr p.2))).toArray
 |.nilf,x=>x=.nilFunc
 |.yld b,x=>K b/\x=.func (.yield (μ b).blk) #[] #[]
 |.ifa,x=>∃t v,x=.iface t v
 |.nili,x=>x=.nilIface
 |.bm f b o,x=>K b/\x=.func (.func f) #[.pointer (some ((μ b).addr o))] #[]
 |.anyi,x=>∃k n,x=.int k n
def z6(μ:Nat->Pl)(K:Nat->Prop):V->Value->Prop
 |.one c,x=>RC μ K c x
 |.agg l,x=>∃xs:List Value,x=.agg xs.toArray/\qe (RC μ K) l xs
 |.tup _,_=>False
def RV(μ:Nat->Pl)(K:Nat->Prop):V->Value->Prop
 |.tup l,x=>∃xs:List Value,x=.tuple xs.toArray/\qe (z6 μ K) l xs
 |v,x=>z6 μ K v x
def RB(μ:Nat->Pl)(K:Nat->Prop)(p:Pl)(bk:B)(o:Option Obj):Prop:=
 match bk with
 |.row n z m rw=>∃cs t fz,o=some (.cells cs t fz)/\cs.size=p.size/\p.off+n<=cs.size/\(rw=true->fz=(0,0))/\
  ∀i c,(B.row n z m rw).cell i=some c->∃x,cs[p.off+i]?=some x/\RC μ K c x
 |.mp es=>∃ces clk,o=some (.map ces clk)/\qe (fun (e:V × V) (x:MapEntry)=>z6 μ K e.1 x.key/\z6 μ K e.2 x.val) es ces.toList
 |.lp st jump f n F ps sg bd=>∃tmps df,o=some (.loop ⟨st,jump,f,tmps,ps,sg,bd,df⟩)/\tmps.size=n/\∀i,i<n->RV μ K ((F.get i).getD V.undef) (tmps.getD i Go.undef)
 |.st es clk=>∃(ces:Array MapEntry) (_:Unit),o=some (.map ces clk)/\qe (fun (e:V × V × Nat) (x:MapEntry)=>z6 μ K e.1 x.key/\z6 μ K e.2.1 x.val/\e.2.2=x.born) es ces.toList
 |.it mb since seen last=>∃(_ _:Unit),o=some (.mapIter (some (μ mb).blk) since seen.toArray last)/\K mb/\p.off=0
 |.tr t l=>∃(cs:Array Value) (_:Unit),o=some (.cells cs t (0,0))/\cs.size=p.size/\p.off=0/\l.length<=cs.size/\∀(i:Nat) c,l[i]?=some c->∃x,cs[i]?=some x/\RC μ K c x
structure Rel (G:Nat) (μ:Nat->Pl) (K:Nat->Prop) (H:Hp) (w:World):Prop where
 dom:∀b bk,H.get b=some bk->K b
 lt:∀b,K b->b<H.nx
 blk:∀b bk,H.get b=some bk->RB μ K (μ b) bk w.heap[(μ b).blk]?
 inj:∀b b' bk bk',H.get b=some bk->H.get b'=some bk'->bk.mut=true->(μ b).blk=(μ b').blk->b=b'
 glob:∀g,g<G->K g/\(μ g).blk=g/\(μ g).off=0/\∀n,uV g=some n->(μ g).size=n
structure Fr (μ:Nat->Pl) (K:Nat->Prop) (H:Hp) (w:World) (μ':Nat->Pl) (K':Nat->Prop) (H':Hp) (w':World):Prop where
 same:w'.os=w.os/\w'.tape=w.tape/\w'.output=w.output/\w.drawn<=w'.drawn
 size:w.heap.size<=w'.heap.size
 keep:∀i,i<w.heap.size->(∀b bk,H.get b=some bk->bk.mut=true->(μ b).blk≠i)->w'.heap[i]?=w.heap[i]?
 img:∀b bk,H'.get b=some bk->bk.mut=true->(∃b0 bk0,H.get b0=some bk0/\bk0.mut=true/\(μ b0).blk=(μ' b).blk)\/w.heap.size<=(μ' b).blk
 newmut:∀b bk,H.nx<=b->H'.get b=some bk->bk.mut=true\/(K' b/\w.heap.size<=(μ' b).blk)
 mu:∀b,K b->μ' b=μ b
 kk:∀b,K b->K' b
 knew:∀b,b<H.nx->K' b->K b
 nx:H.nx<=H'.nx
 none:∀b,b<H.nx->H.get b=none->H'.get b=none
 stay:∀b bk bk',H.get b=some bk->H'.get b=some bk'->bk'.mut=bk.mut
 ro:∀b bk,H.get b=some bk->bk.mut=false->H'.get b=some bk
section
variable{α β:Type}{R R':α->β->Prop}
theorem qe.mono(h:∀a b,R a b->R' a b):∀{l:List α} {m:List β},qe R l m->qe R' l m
 |[],[],_=>trivial
 |_::_,_::_,hh=>⟨h _ _ hh.1,qe.mono h hh.2⟩
 |[],_::_,hh=>hh.elim
 |_::_,[],hh=>hh.elim
theorem qe.len:∀{l:List α} {m:List β},qe R l m->l.length=m.length
 |[],[],_=>rfl
 |_::_,_::_,hh=>by simp [qe.len hh.2]
 |[],_::_,hh=>hh.elim
 |_::_,[],hh=>hh.elim
theorem qe.at:∀{l:List α} {m:List β},qe R l m->∀(i:Nat) (a:α),l[i]?=some a->∃b,m[i]?=some b/\R a b
 |[],[],_,_,_,h=>by simp at h
 |_::_,b::_,hh,0,_,h=>by
  simp at h;subst h;exact⟨b,O,hh.1⟩
 |_::_,_::_,hh,i+1,a,h=>by
  simp at h;obtain⟨b,hb,hr⟩:=qe.at hh.2 i a h;exact⟨b,by simpa using hb,hr⟩
 |[],_::_,hh,_,_,_=>hh.elim
 |_::_,[],hh,_,_,_=>hh.elim
theorem qe.at'{l:List α}{m:List β}(h:qe R l m)(i:Nat)(b:β)(hb:m[i]?=some b):∃a,l[i]?=some a/\R a b:=by
 have hl:=h.len;have hi:i<m.length:=(zgs hb).1;obtain⟨b',hb',hr⟩:=h.at i l[i] (zge (by omega));rw [hb] at hb';obtain rfl:=zsi hb';exact⟨_,zge (by omega),hr⟩
theorem qe.mk:∀{l:List α} {m:List β},l.length=m.length->(∀(i:Nat) a b,l[i]?=some a->m[i]?=some b->R a b)->qe R l m
 |[],[],_,_=>trivial
 |a::l,b::m,hl,h=>⟨h 0 a b rfl rfl,qe.mk (by simpa using hl) fun i a b ha hb=>h (i+1) a b (by simpa using ha) (by simpa using hb)⟩
 |[],_::_,hl,_=>by simp at hl
 |_::_,[],hl,_=>by simp at hl
theorem qe.append:∀{l:List α} {m:List β} {l':List α} {m':List β},qe R l m->qe R l' m'->qe R (l++l') (m++m')
 |[],[],_,_,_,h=>h
 |_::_,_::_,_,_,hh,h=>⟨hh.1,qe.append hh.2 h⟩
 |[],_::_,_,_,hh,_=>hh.elim
 |_::_,[],_,_,hh,_=>hh.elim
theorem qe.take{l:List α}{m:List β}(h:qe R l m)(n:Nat):qe R (l.take n) (m.take n):=by
 refine qe.mk (by simp [h.len]) fun i a b ha hb=>?_;rw [Kw] at ha hb;split at ha
 ·rename_i hi;rw [if_pos hi] at hb;obtain⟨b',hb',hr⟩:=h.at i a ha;rw [hb] at hb';obtain rfl:=zsi hb';exact hr
 ·simp at ha
theorem qe.drop{l:List α}{m:List β}(h:qe R l m)(n:Nat):qe R (l.drop n) (m.drop n):=by
 refine qe.mk (by simp [h.len]) fun i a b ha hb=>?_;rw [nP] at ha hb;obtain⟨b',hb',hr⟩:=h.at _ a ha;rw [hb] at hb';obtain rfl:=zsi hb';exact hr
theorem qe.map{γ δ:Type}{S:γ->δ->Prop}(f:α->γ)(g:β->δ)(hfg:∀a b,R a b->S (f a) (g b)):∀{l:List α} {m:List β},qe R l m->qe S (l.map f) (m.map g)
 |[],[],_=>trivial
 |_::_,_::_,hh=>⟨hfg _ _ hh.1,qe.map f g hfg hh.2⟩
 |[],_::_,hh=>hh.elim
 |_::_,[],hh=>hh.elim
end
section
variable{μ μ':Nat->Pl}{K K':Nat->Prop}
theorem RC.mono(hK:∀b,K b->K' b)(hμ:∀b,K b->μ' b=μ b){c:C}{x:Value}(h:RC μ K c x):RC μ' K' c x:=by
 cases c with
 |bool b=>exact h
 |int k n=>exact h
 |str s=>exact h
 |ptr b o=>exact⟨hK _ h.1,by rw [hμ b h.1];exact h.2⟩
 |nilp=>exact h
 |slc b o len cap esz ex=>
  obtain⟨hb,a,c,hx,h1,h2,h3,h4⟩:=h;exact⟨hK _ hb,a,c,hx,h1,h2,h3,by rw [hμ b hb];exact h4⟩
 |nils=>exact h
 |map b=>exact⟨hK _ h.1,by rw [hμ b h.1];exact h.2⟩
 |nilm=>exact h
 |fn f caps=>
  refine⟨fun p hp=>hK _ (h.1 p hp),?_⟩;rw [h.2];congr 2;exact Cm fun p hp=>by rw [hμ p.1 (h.1 p hp)]
 |nilf=>exact h
 |yld b=>exact⟨hK _ h.1,by rw [hμ b h.1];exact h.2⟩
 |ifa=>exact h
 |nili=>exact h
 |bm f b o=>exact⟨hK _ h.1,by rw [hμ b h.1];exact h.2⟩
 |anyi=>exact h
theorem z6.mono(hK:∀b,K b->K' b)(hμ:∀b,K b->μ' b=μ b){v:V}{x:Value}(h:z6 μ K v x):z6 μ' K' v x:=by
 cases v with
 |one c=>exact RC.mono hK hμ h
 |agg l=>obtain⟨xs,hx,ha⟩:=h;exact⟨xs,hx,ha.mono fun _ _=>RC.mono hK hμ⟩
 |tup l=>exact h.elim
theorem RV.mono(hK:∀b,K b->K' b)(hμ:∀b,K b->μ' b=μ b){v:V}{x:Value}(h:RV μ K v x):RV μ' K' v x:=by
 cases v with
 |one c=>exact z6.mono (v:=.one c) hK hμ h
 |agg l=>exact z6.mono (v:=.agg l) hK hμ h
 |tup l=>obtain⟨xs,hx,ha⟩:=h;exact⟨xs,hx,ha.mono fun _ _=>z6.mono hK hμ⟩
theorem RV.of1{v:V}{x:Value}(h:z6 μ K v x):RV μ K v x:=by
 cases v with
 |one c=>exact h
 |agg l=>exact h
 |tup l=>exact h.elim
theorem RV.undef:RV μ K V.undef (.tuple #[]):=⟨[],rfl,trivial⟩
theorem RB.mono{p:Pl}{bk:B}{o:Option Obj}(hK:∀b,K b->K' b)(hμ:∀b,K b->μ' b=μ b)(h:RB μ K p bk o):RB μ' K' p bk o:=by
 cases bk with
 |row n z m rw=>
  obtain⟨cs,t,fz,h1,h2,h3,h4,h5⟩:=h;exact⟨cs,t,fz,h1,h2,h3,h4,fun i c hc=>by
   obtain⟨x,hx,hr⟩:=h5 i c hc;exact⟨x,hx,hr.mono hK hμ⟩⟩
 |mp es=>
  obtain⟨ces,clk,h1,h2⟩:=h;exact⟨ces,clk,h1,h2.mono fun _ _ hh=>⟨hh.1.mono hK hμ,hh.2.mono hK hμ⟩⟩
 |lp st jump f n F ps sg bd=>
  obtain⟨tmps,df,h1,h2,h3⟩:=h;exact⟨tmps,df,h1,h2,fun i hi=>RV.mono hK hμ (h3 i hi)⟩
 |st es clk=>
  obtain⟨ces,u,h1,h2⟩:=h;exact⟨ces,u,h1,h2.mono fun _ _ hh=>⟨hh.1.mono hK hμ,hh.2.1.mono hK hμ,hh.2.2⟩⟩
 |it mb since seen last=>
  obtain⟨u,v,h1,h2,h3⟩:=h;exact⟨u,v,by rw [hμ mb h2];exact h1,hK mb h2,h3⟩
 |tr t l=>
  obtain⟨cs,u,h1,h2,h3,h4,h5⟩:=h;exact⟨cs,u,h1,h2,h3,h4,fun i c hc=>by
   obtain⟨x,hx,hr⟩:=h5 i c hc;exact⟨x,hx,hr.mono hK hμ⟩⟩
theorem z6.cells{v:V}{x:Value}(h:z6 μ K v x):qe (RC μ K) v.cells x.cells.toList:=by
 cases v with
 |one c=>
  have h':RC μ K c x:=h;have:x.cells=#[x]:=by
   cases c<;>simp only [RC] at h'
   all_goals first
    |(obtain⟨_,a,c,rfl,_⟩:=h';rfl)
    |(obtain⟨_,rfl⟩:=h';rfl)
    |(obtain⟨_,_,rfl⟩:=h';rfl)
    |(subst h';rfl)
  rw [this];exact⟨h',trivial⟩
 |agg l=>obtain⟨xs,rfl,ha⟩:=h;simpa [V.cells,Value.cells] using ha
 |tup l=>exact h.elim
end
namespace Hp
@[simp] theorem get_add_self (H:Hp) (b:Nat) (x:B):(H.add b x).get b=some x:=by simp [get,add]
theorem get_add_ne(H:Hp){b c:Nat}(x:B)(h:c≠b):(H.add b x).get c=H.get c:=by simp [get,add,T.get_set_ne _ _ h]
theorem get_add(H:Hp)(b c:Nat)(x:B):(H.add b x).get c=if c=b then some x else H.get c:=by simp [get,add,T.get_set]
theorem get_del(H:Hp)(b c:Nat):(H.del b).get c=if c=b then none else H.get c:=by simp [get,del,T.get_set]
theorem get_push(H:Hp)(c:Nat)(x:B):(H.push x).get c=if c=H.nx then some x else H.get c:=by simp [get,push,T.get_set]
@[simp] theorem Ui (H:Hp) (n c:Nat):(H.skip n).get c=H.get c:=rfl
@[simp] theorem Ux (H:Hp) (b:Nat) (x:B):(H.add b x).nx=H.nx:=rfl
@[simp] theorem Uw (H:Hp) (b:Nat):(H.del b).nx=H.nx:=rfl
@[simp] theorem Us (H:Hp) (x:B):(H.push x).nx=H.nx+1:=rfl
@[simp] theorem Ur (H:Hp) (n:Nat):(H.skip n).nx=H.nx+n:=rfl
end Hp
theorem Fr.refl{G:Nat}{μ:Nat->Pl}{K:Nat->Prop}{H:Hp}{w:World}(hR:Rel G μ K H w):Fr μ K H w μ K H w:=
 ⟨⟨rfl,rfl,rfl,qz _⟩,qz _,fun _ _ _=>rfl,fun b bk h hm=>.inl ⟨b,bk,h,hm,rfl⟩,fun b bk hb h=>absurd (hR.lt b (hR.dom b bk h)) (by omega),fun _ _=>rfl,fun _ h=>h,fun _ _ h=>h,qz _,fun _ _ h=>h,fun _ _ _ h h'=>by rw [h] at h';rw [zsi h'],fun _ _ h _=>h⟩
theorem Fr.trans{μ μ' μ'':Nat->Pl}{K K' K'':Nat->Prop}{H H' H'':Hp}{w w' w'':World}(hlt':∀b bk,H.get b=some bk->b<H.nx)(h:Fr μ K H w μ' K' H' w')(k:Fr μ' K' H' w' μ'' K'' H'' w''):Fr μ K H w μ'' K'' H'' w'':=by
 refine⟨⟨k.same.1.trans h.same.1,k.same.2.1.trans h.same.2.1,k.same.2.2.1.trans h.same.2.2.1,aZ h.same.2.2.2 k.same.2.2.2⟩,aZ h.size k.size,fun i hi hne=>?_,fun b bk hb hm=>?_,fun b bk hb hg=>?_,
  fun b hb=>(k.mu b (h.kk b hb)).trans (h.mu b hb),fun b hb=>k.kk b (h.kk b hb),fun b hb hk=>h.knew b hb (k.knew b (Qg hb h.nx) hk),aZ h.nx k.nx,
  fun b hb hn=>k.none b (Qg hb h.nx) (h.none b hb hn),fun b bk bk' hb hb'=>?_,fun b bk hb hm=>k.ro b bk (h.ro b bk hb hm) hm⟩
 ·rw [k.keep i (Qg hi h.size) fun b bk hb hm he=>?_,h.keep i hi hne];rcases h.img b bk hb hm with⟨b0,bk0,h0,m0,e0⟩|hge
  ·exact hne b0 bk0 h0 m0 (e0.trans he)
  ·omega
 ·rcases k.img b bk hb hm with⟨b0,bk0,h0,m0,e0⟩|hge
  ·rcases h.img b0 bk0 h0 m0 with⟨b1,bk1,h1,m1,e1⟩|hge
   ·exact .inl ⟨b1,bk1,h1,m1,e1.trans e0⟩
   ·exact .inr (by rw [<-e0];exact hge)
  ·exact .inr (aZ h.size hge)
 ·by_cases hlt:b<H'.nx
  ·cases hg':H'.get b with
   |none=>rw [k.none b hlt hg'] at hg;cases hg
   |some bk'=>
    rw [k.stay b bk' bk hg' hg];rcases h.newmut b bk' hb hg' with h1|⟨h1,h2⟩
    ·exact .inl h1
    ·exact .inr ⟨k.kk b h1,by rw [k.mu b h1];exact h2⟩
  ·rcases k.newmut b bk (by omega) hg with h1|⟨h1,h2⟩
   ·exact .inl h1
   ·exact .inr ⟨h1,aZ h.size h2⟩
 ·cases hg':H'.get b with
  |none=>
   by_cases hlt:b<H'.nx
   ·rw [k.none b hlt hg'] at hb';cases hb'
   ·exact absurd (hlt' b bk hb) (by have:=h.nx;omega)
  |some bk1=>rw [k.stay b bk1 bk' hg' hb',h.stay b bk bk1 hb hg']
theorem Rel.drawn{G:Nat}{μ:Nat->Pl}{K:Nat->Prop}{H:Hp}{w:World}(h:Rel G μ K H w)(n:Nat):Rel G μ K H { w with drawn:=n }:=⟨h.dom,h.lt,h.blk,h.inj,h.glob⟩
theorem Fr.drawn{G:Nat}{μ:Nat->Pl}{K:Nat->Prop}{H:Hp}{w:World}(h:Rel G μ K H w)(n:Nat)(hn:w.drawn<=n):Fr μ K H w μ K H { w with drawn:=n }:=
 let r:=Fr.refl h
 ⟨⟨rfl,rfl,rfl,hn⟩,qz _,fun _ _ _=>rfl,r.img,r.newmut,r.mu,r.kk,r.knew,r.nx,r.none,r.stay,r.ro⟩
end Go.Ab
namespace Go.Ab
section
variable{G:Nat}{μ:Nat->Pl}{K:Nat->Prop}{H H':Hp}{w:World}
theorem XK{cs:Array Value}{t:TypeId}{fz:Nat × Nat}{p:Pl}{o:Nat}(h:w.heap[p.blk]?=some (.cells cs t fz)):w.cell? (p.addr o)=cs[p.off+o]?:=by
 simp [World.cell?,Pl.addr,h]
theorem Rel.cell(hR:Rel G μ K H w){b i:Nat}{c:C}(h:H.cell b i=some c):∃x,w.cell? ((μ b).addr i)=some x/\RC μ K c x:=by
 unfold Hp.cell at h;cases hb:H.get b with
 |none=>simp [hb] at h
 |some bk=>
  simp [hb] at h;have hB:=hR.blk b bk hb;cases bk with
  |row n z m rw=>
   obtain⟨cs,t,fz,h1,h2,h3,h4,h5⟩:=hB;obtain⟨x,hx,hr⟩:=h5 i c h;exact⟨x,by rw [XK h1];exact hx,hr⟩
  |mp es=>simp [B.cell] at h
  |lp st j f n F ps sg bd=>simp [B.cell] at h
  |st=>simp [B.cell] at h
  |it=>simp [B.cell] at h
  |tr t l=>
   obtain⟨cs,u,h1,h2,h3,h4,h5⟩:=hB;obtain⟨x,hx,hr⟩:=h5 i c h;exact⟨x,by rw [XK h1,h3,ym];exact hx,hr⟩
theorem cX(w:World)(a:Addr)(x:Value){cs:Array Value}{t:TypeId}{fz:Nat × Nat}(h:w.heap[a.block]?=some (.cells cs t fz))(hs:a.spot=none)(i:Nat):
 (w.setCell a x).heap[i]?=if i=a.block then some (.cells (cs.setIfInBounds a.off x) t fz) else w.heap[i]?:=by
 simp only [World.setCell,Ch];by_cases e:a.block=i
 ·subst e;simp [h,hs]
 ·rw [if_neg e,if_neg (fun h=>e h.symm)]
theorem EB{n i j:Nat}{z:List C}{m:T C}{rw:Bool}{c:C}(hi:i<n):(B.row n z (m.set i (some c)) rw).cell j=if j=i then some c else (B.row n z m rw).cell j:=by
 simp only [B.cell];by_cases e:j=i
 ·subst e;simp [hi]
 ·simp [T.get_set_ne _ _ e,e]
theorem Rel.store(hR:Rel G μ K H w){b i:Nat}{c:C}{x:Value}(hs:H.store b i c=some H')(hc:RC μ K c x):
 (∃y,w.cell? ((μ b).addr i)=some y)/\w.frozen? ((μ b).addr i)=false/\Rel G μ K H' (w.setCell ((μ b).addr i) x)/\Fr μ K H w μ K H' (w.setCell ((μ b).addr i) x):=by
 unfold Hp.store at hs;cases hb:H.get b with
 |none=>simp [hb] at hs
 |some bk=>
  cases bk with
  |mp es=>simp [hb] at hs
  |lp st j f n F ps sg bd=>simp [hb] at hs
  |st=>simp [hb] at hs
  |it=>simp [hb] at hs
  |tr ty l=>
   simp only [hb] at hs;by_cases hi:i<l.length
   ·simp only [hi,if_true,zoi] at hs;subst hs;obtain⟨cs,u,h1,h2,h3,h4,h5⟩:=hR.blk b _ hb;have hcell:∃y,w.cell? ((μ b).addr i)=some y:=by
     rw [XK h1];exact⟨_,sO (by omega)⟩
    have hh:=cX w ((μ b).addr i) x (cs:=cs) (t:=ty) (fz:=(0,0)) h1 rfl;refine⟨hcell,by simp [World.frozen?,Pl.addr,h1],⟨fun b' bk' h'=>?_,hR.lt,fun b' bk' h'=>?_,fun b1 b2 k1 k2 e1 e2 hm he=>?_,hR.glob⟩,?_⟩
    ·rw [Hp.get_add] at h';split at h'
     ·rename_i e;subst e;exact hR.dom _ _ hb
     ·exact hR.dom _ _ h'
    ·rw [Hp.get_add] at h';rw [hh];split at h'
     ·rename_i e;subst e;obtain rfl:=zsi h';refine⟨cs.setIfInBounds ((μ b').off+i) x,(),by simp [Pl.addr],by simpa using h2,h3,by simpa using h4,fun j d hd=>?_⟩;rw [Q4] at hd;split at hd
      ·rename_i e;subst e;obtain rfl:=zsi hd;exact⟨x,by rw [h3,ym,XZ];simp;omega,hc⟩
      ·rename_i e;obtain⟨y,hy,hr⟩:=h5 j d hd;exact⟨y,by rw [h3,ym,XZ];rw [if_neg (by omega)];exact hy,hr⟩
     ·rename_i e;have hne:(μ b').blk≠((μ b).addr i).block:=fun he=>e (hR.inj b b' _ _ hb h' rfl he.symm).symm;rw [if_neg hne];exact hR.blk b' bk' h'
    ·rw [Hp.get_add] at e1 e2;have f1:∃k,H.get b1=some k/\k.mut=true:=by
      split at e1
      ·rename_i e;subst e;exact⟨_,hb,O⟩
      ·exact⟨_,e1,hm⟩
     have f2:∃k,H.get b2=some k:=by
      split at e2
      ·rename_i e;subst e;exact⟨_,hb⟩
      ·exact⟨_,e2⟩
     obtain⟨_,g1,gm⟩:=f1;obtain⟨_,g2⟩:=f2;exact hR.inj _ _ _ _ g1 g2 gm he
    ·refine⟨⟨O,O,O,qz _⟩,by simp [World.setCell],fun j _ hne=>?_,fun b' bk' h' hm=>?_,fun b' bk' hb' h'=>?_,fun _ _=>rfl,fun _ h=>h,fun _ _ h=>h,qz _,fun b' hb' hn=>?_,fun b' k1 k2 e1 e2=>?_,fun b' k1 e1 hm=>?_⟩
     ·rw [hh,if_neg (fun e=>hne b _ hb rfl e.symm)]
     ·rw [Hp.get_add] at h';split at h'
      ·rename_i e;subst e;exact .inl ⟨b',_,hb,O,O⟩
      ·exact .inl ⟨b',bk',h',hm,O⟩
     ·rw [Hp.get_add] at h';split at h'
      ·obtain rfl:=zsi h';exact .inl O
      ·exact absurd (hR.lt _ (hR.dom _ _ h')) (by omega)
     ·rw [Hp.get_add];split
      ·rename_i e;subst e;rw [hb] at hn;cases hn
      ·exact hn
     ·rw [Hp.get_add] at e2;split at e2
      ·rename_i e;subst e;rw [hb] at e1;obtain rfl:=zsi e1;obtain rfl:=zsi e2;rfl
      ·rw [e1] at e2;rw [zsi e2]
     ·rw [Hp.get_add];split
      ·rename_i e;subst e;rw [hb] at e1;obtain rfl:=zsi e1;cases hm
      ·exact e1
   ·simp [hi] at hs
  |row n z m rw=>
   cases rw with
   |false=>simp [hb] at hs
   |true=>
    simp only [hb] at hs;by_cases hi:i<n
    ·simp only [hi,if_true,zoi] at hs;subst hs;obtain⟨cs,t,fz,h1,h2,h3,h4,h5⟩:=hR.blk b _ hb;obtain rfl:=h4 rfl;have hcell:∃y,w.cell? ((μ b).addr i)=some y:=by
      rw [XK h1];exact⟨_,sO (by omega)⟩
     have hh:=cX w ((μ b).addr i) x (cs:=cs) (t:=t) (fz:=(0,0)) h1 rfl;refine⟨hcell,by simp [World.frozen?,Pl.addr,h1],⟨fun b' bk' h'=>?_,hR.lt,fun b' bk' h'=>?_,fun b1 b2 k1 k2 e1 e2 hm he=>?_,hR.glob⟩,?_⟩
     ·rw [Hp.get_add] at h';split at h'
      ·rename_i e;subst e;exact hR.dom _ _ hb
      ·exact hR.dom _ _ h'
     ·rw [Hp.get_add] at h';rw [hh];split at h'
      ·rename_i e;subst e;obtain rfl:=zsi h';refine⟨cs.setIfInBounds ((μ b').off+i) x,t,(0,0),by simp [Pl.addr],by simpa using h2,by simpa using h3,fun _=>rfl,fun j d hd=>?_⟩;rw [EB hi] at hd;split at hd
       ·rename_i e;subst e;obtain rfl:=zsi hd;exact⟨x,by rw [XZ];simp;omega,hc⟩
       ·rename_i e;obtain⟨y,hy,hr⟩:=h5 j d hd;exact⟨y,by rw [XZ];rw [if_neg (by omega)];exact hy,hr⟩
      ·rename_i e;have hne:(μ b').blk≠((μ b).addr i).block:=fun he=>e (hR.inj b b' _ _ hb h' rfl he.symm).symm;rw [if_neg hne];exact hR.blk b' bk' h'
     ·rw [Hp.get_add] at e1 e2;have f1:∃k,H.get b1=some k/\k.mut=true:=by
       split at e1
       ·rename_i e;subst e;exact⟨_,hb,O⟩
       ·exact⟨_,e1,hm⟩
      have f2:∃k,H.get b2=some k:=by
       split at e2
       ·rename_i e;subst e;exact⟨_,hb⟩
       ·exact⟨_,e2⟩
      obtain⟨_,g1,gm⟩:=f1;obtain⟨_,g2⟩:=f2;exact hR.inj _ _ _ _ g1 g2 gm he
     ·refine⟨⟨O,O,O,qz _⟩,by simp [World.setCell],fun j _ hne=>?_,fun b' bk' h' hm=>?_,fun b' bk' hb' h'=>?_,fun _ _=>rfl,fun _ h=>h,fun _ _ h=>h,qz _,fun b' hb' hn=>?_,fun b' k1 k2 e1 e2=>?_,fun b' k1 e1 hm=>?_⟩
      ·rw [hh,if_neg (fun e=>hne b _ hb rfl e.symm)]
      ·rw [Hp.get_add] at h';split at h'
       ·rename_i e;subst e;exact .inl ⟨b',_,hb,O,O⟩
       ·exact .inl ⟨b',bk',h',hm,O⟩
      ·rw [Hp.get_add] at h';split at h'
       ·obtain rfl:=zsi h';exact .inl O
       ·exact absurd (hR.lt _ (hR.dom _ _ h')) (by omega)
      ·rw [Hp.get_add];split
       ·rename_i e;subst e;rw [hb] at hn;cases hn
       ·exact hn
      ·rw [Hp.get_add] at e2;split at e2
       ·rename_i e;subst e;rw [hb] at e1;rw [<-zsi e1,<-zsi e2];rfl
       ·rw [e1] at e2;rw [zsi e2]
      ·rw [Hp.get_add];split
       ·rename_i e;subst e;rw [hb] at e1;rw [<-zsi e1] at hm;cases hm
       ·exact e1
    ·simp [hi] at hs
def oneC:Value->Bool
 |.agg _=>false
 |.tuple _=>false
 |_=>true
theorem KX{P:Program}{a:Addr}{x:Value}{β:Type}{k:Sem β}(hx:oneC x=true)(hc:∃y,w.cell? a=some y)(hf:w.frozen? a=false):
 (Sem.store .plain a x k).run P w=k.run P (w.setCell a x):=by
 obtain⟨y,hy⟩:=hc;cases x<;>first
  |(simp [oneC] at hx;done)
  |simp [Sem.run,hy,hf]
theorem RC.oneCell{c:C}{x:Value}(h:RC μ K c x):oneC x=true:=by
 cases c<;>simp only [RC] at h
 all_goals first
  |(obtain⟨_,a,c,rfl,_⟩:=h;rfl)
  |(obtain⟨_,rfl⟩:=h;rfl)
  |(subst h;rfl)
theorem yh(p:Pl)(o i:Nat):(p.addr o).add i=p.addr (o+i):=by
 unfold Addr.add Pl.addr;by_cases h:i=0
 ·simp [h]
 ·simp [h,Nat.add_assoc]
theorem Rel.loads(hR:Rel G μ K H w){P:Program}:∀{n b o i:Nat} {l:List C} {acc:Array Value},H.loads b (o+i) n=some l->
 ∃xs:List Value,qe (RC μ K) l xs/\(loadCellsFrom ((μ b).addr o) i n acc).run P w=.ok (acc++xs.toArray) w
 |0,b,o,i,l,acc,h=>by
  simp [Hp.loads] at h;subst h;exact⟨[],trivial,by simp [loadCellsFrom,pure,Sem.run]⟩
 |n+1,b,o,i,l,acc,h=>by
  simp only [Hp.loads] at h;cases hc:H.cell b (o+i) with
  |none=>simp [hc] at h
  |some c=>
   simp only [hc] at h;cases hl:H.loads b (o+i+1) n with
   |none=>simp [hl] at h
   |some l'=>
    simp only [hl,zoi] at h;subst h;obtain⟨x,hx,hr⟩:=hR.cell hc;obtain⟨xs,ha,hrun⟩:=Rel.loads hR (P:=P) (acc:=acc.push x) (n:=n) (b:=b) (o:=o) (i:=i+1) hl;refine⟨x::xs,⟨hr,ha⟩,?_⟩;simp only [loadCellsFrom,load,bind,Sem.bind,Sem.run,yh,hx];rw [hrun];simp
theorem Rel.stores{P:Program}:∀{l:List C} {xs:List Value} {w:World} {H H':Hp} {b o i:Nat},Rel G μ K H w->H.stores b (o+i) l=some H'->qe (RC μ K) l xs->
 ∃w',(storeCells ((μ b).addr o) xs i).run P w=.ok () w'/\Rel G μ K H' w'/\Fr μ K H w μ K H' w'
 |[],[],w,H,H',b,o,i,hR,h,_=>by
  simp [Hp.stores] at h;subst h;exact⟨w,by simp [storeCells,pure,Sem.run],hR,Fr.refl hR⟩
 |c::l,x::xs,w,H,H',b,o,i,hR,h,ha=>by
  simp only [Hp.stores] at h;cases hs:H.store b (o+i) c with
  |none=>simp [hs] at h
  |some H1=>
   simp only [hs] at h;obtain⟨hc,hf,hR1,hF1⟩:=hR.store hs ha.1;obtain⟨w',hrun,hR2,hF2⟩:=Rel.stores (P:=P) (xs:=xs) (i:=i+1) hR1 h ha.2;refine⟨w',?_,hR2,hF1.trans (fun b bk hb=>hR.lt _ (hR.dom _ _ hb)) hF2⟩;simp only [storeCells,bind,yh];exact (KX ha.1.oneCell hc hf).trans hrun
 |[],_::_,_,_,_,_,_,_,_,_,ha=>ha.elim
 |_::_,[],_,_,_,_,_,_,_,_,ha=>ha.elim
theorem Rel.new' (hR:Rel G μ K H w) {b N:Nat} {bk:B} {o:Obj} {sz:Nat} (hb:¬K b) (hbN:b<N) (hN:H.nx<=N)
 (ho:RB μ K ⟨w.heap.size,0,sz⟩ bk (some o)):
 Rel G (fun i=>if i=b then ⟨w.heap.size,0,sz⟩ else μ i) (fun i=>K i\/i=b) ⟨H.m.set b (some bk),N⟩ { w with heap:=w.heap.push o }:=by
 have hget:∀i,Hp.get ⟨H.m.set b (some bk),N⟩ i=if i=b then some bk else H.get i:=fun i=>by simp [Hp.get,T.get_set]
 have hmu:∀i,K i->(fun i=>if i=b then (⟨w.heap.size,0,sz⟩:Pl) else μ i) i=μ i:=fun i hi=>by
  by_cases e:i=b
  ·subst e;exact absurd hi hb
  ·simp [e]
 have hlt:∀i k,H.get i=some k->(μ i).blk<w.heap.size:=fun i k hi=>by
  have h:=hR.blk i k hi;rcases bD (μ i).blk w.heap.size with h1|h1
  ·exact h1
  ·rw [LP h1] at h;cases k with
   |row n z m rw=>obtain⟨_,_,_,h,_⟩:=h;cases h
   |mp es=>obtain⟨_,_,h,_⟩:=h;cases h
   |lp st j f n F ps sg bd=>obtain⟨_,_,h,_⟩:=h;cases h
   |st=>obtain⟨_,_,h,_⟩:=h;cases h
   |it=>obtain⟨_,_,h,_⟩:=h;cases h
   |tr=>obtain⟨_,_,h,_⟩:=h;cases h
 have hne:∀i k,H.get i=some k->i≠b:=fun i k hi e=>hb (e▸hR.dom i k hi);refine⟨fun i k hi=>?_,fun i hi=>?_,fun i k hi=>?_,fun i j k1 k2 h1 h2 hm he=>?_,fun g hg=>?_⟩
 ·rw [hget] at hi;split at hi
  ·rename_i e;exact .inr e
  ·exact .inl (hR.dom _ _ hi)
 ·rcases hi with hi|rfl
  ·exact Qg (hR.lt i hi) hN
  ·exact hbN
 ·rw [hget] at hi;split at hi
  ·rename_i e;subst e;obtain rfl:=zsi hi;simp only [if_true,LX];exact ho.mono (fun _ h=>.inl h) hmu
  ·rename_i e;simp only [e,if_false,LX];rw [if_neg (Nat.ne_of_lt (hlt i k hi))];exact (hR.blk i k hi).mono (fun _ h=>.inl h) hmu
 ·rw [hget] at h1 h2;by_cases e1:i=b
  ·by_cases e2:j=b
   ·rw [e1,e2]
   ·rw [if_neg e2] at h2;simp only [e1,e2,if_true,if_false] at he;have:=hlt j k2 h2;omega
  ·by_cases e2:j=b
   ·rw [if_neg e1] at h1;simp only [e1,e2,if_true,if_false] at he;have:=hlt i k1 h1;omega
   ·rw [if_neg e1] at h1;rw [if_neg e2] at h2;simp only [e1,e2,if_false] at he;exact hR.inj i j k1 k2 h1 h2 hm he
 ·obtain⟨h1,h2⟩:=hR.glob g hg;exact⟨.inl h1,by have:=hmu g h1;simp only at this;rw [this];exact h2⟩
theorem Fr.new' {μ0:Nat->Pl} {K0:Nat->Prop} {H0:Hp} {w0:World} (h:Fr μ0 K0 H0 w0 μ K H w) {b N:Nat} {bk:B} {o:Obj} {sz:Nat}
 (hb:¬K b) (hb0:H0.nx<=b) (hlt0:∀b bk,H0.get b=some bk->b<H0.nx) (hN:H.nx<=N):
 Fr μ0 K0 H0 w0 (fun i=>if i=b then ⟨w.heap.size,0,sz⟩ else μ i) (fun i=>K i\/i=b) ⟨H.m.set b (some bk),N⟩ { w with heap:=w.heap.push o }:=by
 have hget:∀i,Hp.get ⟨H.m.set b (some bk),N⟩ i=if i=b then some bk else H.get i:=fun i=>by simp [Hp.get,T.get_set]
 refine⟨h.same,by simp;have:=h.size;omega,fun i hi hne=>?_,fun i k hi hm=>?_,fun i k hi hk=>?_,fun i hi=>?_,fun i hi=>.inl (h.kk i hi),fun i hi hk=>?_,aZ h.nx hN,fun i hi hn=>?_,fun i k k' hi hk=>?_,fun i k hi hm=>?_⟩
 ·rw [<-h.keep i hi hne];simp only [LX];rw [if_neg (by have:=h.size;omega)]
 ·rw [hget] at hi;split at hi
  ·rename_i e;subst e;right;simp;exact h.size
  ·rename_i e;rcases h.img i k hi hm with h1|h1
   ·left;simpa [e] using h1
   ·right;simpa [e] using h1
 ·rw [hget] at hk;split at hk
  ·rename_i e;subst e;exact .inr ⟨.inr O,by simp;exact h.size⟩
  ·rename_i e;rcases h.newmut i k hi hk with h1|⟨h1,h2⟩
   ·exact .inl h1
   ·exact .inr ⟨.inl h1,by simpa [e] using h2⟩
 ·by_cases e:i=b
  ·subst e;exact absurd (h.kk i hi) hb
  ·simp [e,h.mu i hi]
 ·rcases hk with hk|rfl
  ·exact h.knew i hi hk
  ·omega
 ·rw [hget,if_neg (by omega)];exact h.none i hi hn
 ·rw [hget] at hk;have:=hlt0 i k hi;rw [if_neg (by omega)] at hk;exact h.stay i k k' hi hk
 ·have:=hlt0 i k hi;rw [hget,if_neg (by omega)];exact h.ro i k hi hm
theorem Rel.new (hR:Rel G μ K H w) {b N:Nat} {bk:B} {o:Obj} {sz:Nat} (hb:¬K b) (hbN:b<N) (hN:H.nx<=N) (_:bk.mut=true)
 (ho:RB μ K ⟨w.heap.size,0,sz⟩ bk (some o)):
 Rel G (fun i=>if i=b then ⟨w.heap.size,0,sz⟩ else μ i) (fun i=>K i\/i=b) ⟨H.m.set b (some bk),N⟩ { w with heap:=w.heap.push o }:=Rel.new' hR hb hbN hN ho
theorem Fr.new {μ0:Nat->Pl} {K0:Nat->Prop} {H0:Hp} {w0:World} (h:Fr μ0 K0 H0 w0 μ K H w) {b N:Nat} {bk:B} {o:Obj} {sz:Nat}
 (hb:¬K b) (hb0:H0.nx<=b) (hlt0:∀b bk,H0.get b=some bk->b<H0.nx) (hN:H.nx<=N) (_:bk.mut=true):
 Fr μ0 K0 H0 w0 (fun i=>if i=b then ⟨w.heap.size,0,sz⟩ else μ i) (fun i=>K i\/i=b) ⟨H.m.set b (some bk),N⟩ { w with heap:=w.heap.push o }:=Fr.new' h hb hb0 hlt0 hN
theorem Rel.sub(hR:Rel G μ K H w)(hs:∀b bk,H'.get b=some bk->H.get b=some bk)(hn:H'.nx=H.nx):Rel G μ K H' w:=
 ⟨fun b bk h=>hR.dom b bk (hs b bk h),fun b h=>by rw [hn];exact hR.lt b h,fun b bk h=>hR.blk b bk (hs b bk h),fun b b' k k' h h'=>hR.inj b b' k k' (hs _ _ h) (hs _ _ h'),hR.glob⟩
theorem Rel.skip(hR:Rel G μ K H w)(n:Nat):Rel G μ K (H.skip n) w:=
 ⟨hR.dom,fun b h=>by have:=hR.lt b h;simp;omega,hR.blk,hR.inj,hR.glob⟩
theorem Fr.skip(hR:Rel G μ K H w)(n:Nat):Fr μ K H w μ K (H.skip n) w:=
 let r:=Fr.refl hR
 ⟨r.same,r.size,r.keep,r.img,r.newmut,r.mu,r.kk,r.knew,by simp,r.none,r.stay,r.ro⟩
theorem Fr.del(hR:Rel G μ K H w)(b:Nat)(hbm:∀bk,H.get b=some bk->bk.mut=true):Fr μ K H w μ K (H.del b) w:=by
 have hs:∀i k,(H.del b).get i=some k->H.get i=some k:=fun i k h=>by
  rw [Hp.get_del] at h;split at h
  ·cases h
  ·exact h
 let r:=Fr.refl hR;exact⟨r.same,r.size,r.keep,fun i k h hm=>r.img i k (hs i k h) hm,fun i k hi h=>r.newmut i k hi (hs i k h),r.mu,r.kk,r.knew,qz _,fun i hi hn=>by rw [Hp.get_del,hn];simp,
  fun i k k' h h'=>r.stay i k k' h (hs i k' h'),fun i k h hm=>by
   rw [Hp.get_del,if_neg (fun e=>by subst e;rw [hbm k h] at hm;cases hm)];exact h⟩
end
inductive Opd where
 |t (n:Nat)
 |c (v:V)
def Opd.ev(F:T V):Opd->V
 |.t n=>(F.get n).getD V.undef
 |.c v=>v
def xR(μ:Nat->Pl)(K:Nat->Prop)(n:Nat)(F:T V)(tmps:Array Value):Prop:=
 tmps.size=n/\∀i,i<n->RV μ K ((F.get i).getD V.undef) (tmps.getD i Go.undef)
def cC:Value->Option C
 |.bool b=>some (.bool b)
 |.int k n=>some (.int k n)
 |.string s=>some (.str s)
 |.pointer none=>some .nilp
 |.slice none 0 0=>some .nils
 |.map none=>some .nilm
 |.nilFunc=>some .nilf
 |.nilIface=>some .nili
 |_=>none
def cL:List Value->Option (List C)
 |[]=>some []
 |x::l=>match cC x,cL l with
  |some c,some r=>some (c::r)
  |_,_=>none
def cV:Value->Option V
 |.agg cs=>(cL cs.toList).map .agg
 |x=>(cC x).map .one
def cO(G n:Nat):Operand->Option Opd
 |.tmp t=>if t<n then some (.t t) else none
 |.const v=>(cV v).map .c
 |.global g=>if g<G then some (.c (.one (.ptr g 0))) else none
 |.func f=>some (.c (.one (.fn f [])))
def KJ(G n:Nat):List Operand->Option (List Opd)
 |[]=>some []
 |x::l=>match cO G n x,KJ G n l with
  |some c,some r=>some (c::r)
  |_,_=>none
section
variable{G n:Nat}{μ:Nat->Pl}{K:Nat->Prop}{H:Hp}{w:World}{F:T V}{a:Act}
theorem Du{x:Value}{c:C}(h:cC x=some c):RC μ K c x:=by
 cases x<;>simp only [cC] at h
 all_goals first
  |(obtain rfl:=zsi h;rfl)
  |(rename_i p;cases p<;>simp [cC] at h;subst h;rfl)
  |(cases h;done)
  |skip
 rename_i p l cp;cases p with
 |none=>
  cases l with
  |zero=>cases cp with
   |zero=>simp [cC] at h;subst h;rfl
   |succ m=>simp [cC] at h
  |succ m=>simp [cC] at h
 |some a=>simp [cC] at h
theorem I5:∀{l:List Value} {cs:List C},cL l=some cs->qe (RC μ K) cs l
 |[],cs,h=>by simp [cL] at h;subst h;trivial
 |x::l,cs,h=>by
  simp only [cL] at h;cases hx:cC x with
  |none=>simp [hx] at h
  |some c=>
   cases hl:cL l with
   |none=>simp [hx,hl] at h
   |some r=>simp only [hx,hl,zoi] at h;subst h;exact⟨Du hx,I5 hl⟩
theorem sE{x:Value}{v:V}(h:cV x=some v):z6 μ K v x:=by
 cases x with
 |agg cs=>
  simp only [cV,zom] at h;obtain⟨l,hl,rfl⟩:=h;exact⟨cs.toList,by simp,I5 hl⟩
 |_=>simp only [cV,zom] at h;obtain⟨c,hc,rfl⟩:=h;exact Du hc
theorem qy(hR:Rel G μ K H w)(hF:xR μ K n F a.tmps){o:Operand}{d:Opd}(h:cO G n o=some d):RV μ K (d.ev F) (a.eval o):=by
 cases o with
 |tmp t=>
  simp only [cO] at h;split at h
  ·rename_i ht;obtain rfl:=zsi h;exact hF.2 t ht
  ·cases h
 |const v=>simp only [cO,zom] at h;obtain⟨c,hc,rfl⟩:=h;exact RV.of1 (sE hc)
 |global g=>
  simp only [cO] at h;split at h
  ·rename_i hg;obtain rfl:=zsi h;obtain⟨h1,h2,h3,_⟩:=hR.glob g hg;exact⟨h1,by simp [Act.eval,Pl.addr,h2,h3]⟩
  ·cases h
 |func f=>simp only [cO] at h;obtain rfl:=zsi h;exact⟨by simp,by simp [Act.eval]⟩
theorem VR(hR:Rel G μ K H w)(hF:xR μ K n F a.tmps):∀{os:List Operand} {ds:List Opd},KJ G n os=some ds->qe (RV μ K) (ds.map (·.ev F)) (os.map a.eval)
 |[],ds,h=>by simp [KJ] at h;subst h;trivial
 |x::l,ds,h=>by
  simp only [KJ] at h;cases hx:cO G n x with
  |none=>simp [hx] at h
  |some c=>
   cases hl:KJ G n l with
   |none=>simp [hx,hl] at h
   |some r=>simp only [hx,hl,zoi] at h;subst h;exact⟨qy hR hF hx,VR hR hF hl⟩
end
inductive PureOp where
 |mv (x:Opd)
 |pick (c a b:Opd)
 |build (z:List C) (ps:List (Nat × Nat × Opd))
 |nilck (x:Opd)
 |bin (op:BinOp) (x y:Opd)
 |beq (neg:Bool) (x y:Opd)
 |eqs (neg:Bool) (ks:List (Nat × Bool)) (x y:Opd)
 |neg (x:Opd)
 |not (x:Opd)
 |conv (k:IntKind) (x:Opd)
 |mkfn (f:FuncId) (caps:List Opd)
 |slice (esz:Nat) (x:Opd) (lo hi mx:Option Opd)
 |faddr (off:Nat) (x:Opd)
 |field (agg:Bool) (off n:Nat) (x:Opd)
 |iaddr (esz:Nat) (x i:Opd)
 |aaddr (len esz:Nat) (x i:Opd)
 |aindex (len esz:Nat) (agg:Bool) (x i:Opd)
 |extract (x:Opd) (i:Nat)
 |len (x:Opd)
 |mm (isMax:Bool) (x y:Opd)
 |nileq (neg:Bool) (x:Opd)
 |cint (n:Int)
 |sindex (x i:Opd)
 |slen (x:Opd)
 |sslice (x:Opd) (lo hi:Option Opd)
 |cap (x:Opd)
 |scat (x y:Opd)
 |seq (neg:Bool) (x y:Opd)
 |mkif (x:Opd)
 |ifeq (neg:Bool) (x:Opd)
 |peq (neg:Bool) (x y:Opd)
 |bm (f:FuncId) (x:Opd)
 |sdata (x:Opd)
 |idxb (x y:Opd)
 |cnt (x y:Opd)
def wP:V->Option (List C)
 |.one c=>some [c]
 |.agg l=>some l
 |.tup _=>none
def yD(F:T V):List C->List (Nat × Nat × Opd)->Option (List C)
 |z,[]=>some z
 |z,(off,size,x)::r=>
  match wP (x.ev F) with
  |none=>none
  |some cs=>if cs.length=size/\off+size<=z.length then yD F (z.take off++cs++z.drop (off+size)) r else none
def Zt(op:BinOp)(k:IntKind)(a:Int)(k':IntKind)(b:Int):Option C:=
 match op with
 |.shl=>if b<0 then none else some (.int k (k.wrap (a*2^(min b.toNat k.bits))))
 |.shr=>if b<0 then none else some (.int k (a.fdiv (2^(min b.toNat k.bits))))
 |op=>if k≠k' then none else
  match op with
  |.add=>some (.int k (k.wrap (a+b)))
  |.sub=>some (.int k (k.wrap (a-b)))
  |.mul=>some (.int k (k.wrap (a*b)))
  |.quo=>if b=0 then none else some (.int k (k.wrap (a.tdiv b)))
  |.rem=>if b=0 then none else some (.int k (a.tmod b))
  |.and=>some (.int k (k.wrap (BitVec.ofInt k.bits a&&& BitVec.ofInt k.bits b).toNat))
  |.or=>some (.int k (k.wrap (BitVec.ofInt k.bits a|||BitVec.ofInt k.bits b).toNat))
  |.xor=>some (.int k (k.wrap (BitVec.ofInt k.bits a^^^BitVec.ofInt k.bits b).toNat))
  |.andNot=>some (.int k (k.wrap (BitVec.ofInt k.bits a&&& ~~~ BitVec.ofInt k.bits b).toNat))
  |.eql=>some (.bool (a==b))
  |.neq=>some (.bool (a !=b))
  |.lss=>some (.bool (decide (a<b)))
  |.leq=>some (.bool (decide (a<=b)))
  |.gtr=>some (.bool (decide (a>b)))
  |.geq=>some (.bool (decide (a>=b)))
  |_=>none
def pV:Bool->C->C->Option Bool
 |false,.int k a,.int k' b=>if k=k' then some (a==b) else none
 |true,.bool a,.bool b=>some (a==b)
 |_,_,_=>none
def Zs(xs ys:List C):List (Nat × Bool)->Option Bool
 |[]=>some true
 |(k,t)::r=>
  match xs[k]?,ys[k]? with
  |some x,some y=>match pV t x y with
   |some true=>Zs xs ys r
   |some false=>some false
   |none=>none
  |_,_=>none
def kN(F:T V):List Opd->Option (List (Nat × Nat))
 |[]=>some []
 |x::l=>
  match x.ev F,kN F l with
  |.one (.ptr b o),some r=>some ((b,o)::r)
  |_,_=>none
def qQ(F:T V)(d:Nat)(y:Nat):Option Opd->Option Nat
 |none=>if d<=y then some d else none
 |some x=>match x.ev F with
  |.one (.int _ i)=>if 0<=i/\i<=y then some i.toNat else none
  |_=>none
def jV(F:T V)(esz:Nat)(x:V)(lo hi mx:Option Opd):Option V:=
 match x with
 |.one (.slc b o len cap e ex)=>
  if e≠esz then none else
  match qQ F cap cap mx with
  |none=>none
  |some m=>match qQ F len m hi with
   |none=>none
   |some h=>match qQ F 0 h lo with
    |none=>none
    |some l=>some (.one (.slc b (o+l*esz) (h-l) (m-l) esz (ex||mx.isSome)))
 |.one .nils=>
  match qQ F 0 0 mx,qQ F 0 0 hi,qQ F 0 0 lo with
  |some _,some _,some _=>some (.one .nils)
  |_,_,_=>none
 |_=>none
def wU(F:T V)(x:V)(lo hi:Option Opd):Option V:=
 match x with
 |.one (.str s)=>match qQ F s.size s.size hi with
  |none=>none
  |some h=>match qQ F 0 h lo with
   |none=>none
   |some l=>some (.one (.str (s.extract l h)))
 |_=>none
def Ko(agg:Bool)(off n:Nat)(l:List C):Option V:=
 if agg then (if off+n<=l.length then some (.agg ((l.drop off).take n)) else none) else (l[off]?).map .one
def WU:V->Option V
 |.one (.slc _ _ len _ _ _)=>some (.one (.int .i64 len))
 |.one .nils=>some (.one (.int .i64 0))
 |_=>none
def Vm(esz:Nat)(x i:V):Option V:=
 match x,i with
 |.one (.slc b o len _ e _),.one (.int _ j)=>if e=esz/\0<=j/\j<len then some (.one (.ptr b (o+j.toNat*esz))) else none
 |_,_=>none
def By:V->V->Option Bool
 |.one .nilp,.one .nilp=>some true
 |.one .nilp,.one (.ptr _ _)=>some false
 |.one (.ptr _ _),.one .nilp=>some false
 |.one (.ptr b o),.one (.ptr b' o')=>if b=b' then some (decide (o=o')) else none
 |_,_=>none
def Vv:List UInt8->Nat->Nat->Int
 |[],_,_=> -1
 |b::l,c,i=>if b.toNat=c then i else Vv l c (i+1)
def Wl:List UInt8->Nat->Nat
 |[],_=>0
 |b::l,c=>if b.toNat=c then Wl l c+1 else Wl l c
def qp(F:T V):PureOp->Option V
 |.mv x=>some (x.ev F)
 |.pick c a b=>match c.ev F with
  |.one (.bool t)=>some (if t then a.ev F else b.ev F)
  |_=>none
 |.build z ps=>(yD F z ps).map .agg
 |.nilck x=>match x.ev F with
  |.one (.ptr b o)=>some (.one (.ptr b o))
  |.one (.fn f cs)=>some (.one (.fn f cs))
  |_=>none
 |.bin op x y=>match x.ev F,y.ev F with
  |.one (.int k a),.one (.int k' b)=>(Zt op k a k' b).map .one
  |_,_=>none
 |.beq neg x y=>match x.ev F,y.ev F with
  |.one (.bool a),.one (.bool b)=>some (.one (.bool (if neg then !(a==b) else a==b)))
  |_,_=>none
 |.eqs neg ks x y=>match x.ev F,y.ev F with
  |.agg xs,.agg ys=>match Zs xs ys ks with
   |some r=>some (.one (.bool (if neg then !r else r)))
   |none=>none
  |_,_=>none
 |.neg x=>match x.ev F with
  |.one (.int k a)=>some (.one (.int k (k.wrap (0-a))))
  |_=>none
 |.not x=>match x.ev F with
  |.one (.bool a)=>some (.one (.bool !a))
  |_=>none
 |.conv k x=>match x.ev F with
  |.one (.int _ a)=>some (.one (.int k (k.wrap a)))
  |_=>none
 |.mkfn f caps=>(kN F caps).map fun l=>.one (.fn f l)
 |.slice esz x lo hi mx=>jV F esz (x.ev F) lo hi mx
 |.faddr off x=>match x.ev F with
  |.one (.ptr b o)=>some (.one (.ptr b (o+off)))
  |_=>none
 |.field agg off n x=>match x.ev F with
  |.agg l=>Ko agg off n l
  |_=>none
 |.iaddr esz x i=>Vm esz (x.ev F) (i.ev F)
 |.aaddr len esz x i=>match x.ev F,i.ev F with
  |.one (.ptr b o),.one (.int _ j)=>if 0<=j/\j<len then some (.one (.ptr b (o+j.toNat*esz))) else none
  |_,_=>none
 |.aindex len esz agg x i=>match x.ev F,i.ev F with
  |.agg l,.one (.int _ j)=>if 0<=j/\j<len then Ko agg (j.toNat*esz) esz l else none
  |_,_=>none
 |.extract x i=>match x.ev F with
  |.tup l=>l[i]?
  |_=>none
 |.len x=>WU (x.ev F)
 |.mm isMax x y=>match x.ev F,y.ev F with
  |.one (.int k a),.one (.int k' b)=>if k=k' then some (.one (.int k (if isMax then (if b>a then b else a) else (if b<a then b else a)))) else none
  |_,_=>none
 |.nileq neg x=>match x.ev F with
  |.one (.slc ..)=>some (.one (.bool neg))
  |.one .nils=>some (.one (.bool !neg))
  |_=>none
 |.cint n=>some (.one (.int .i64 n))
 |.sindex x i=>match x.ev F,i.ev F with
  |.one (.str s),.one (.int _ j)=>if 0<=j then match s[j.toNat]? with
   |some b=>some (.one (.int .u8 b.toNat))
   |none=>none
   else none
  |_,_=>none
 |.slen x=>match x.ev F with
  |.one (.str s)=>some (.one (.int .i64 s.size))
  |_=>none
 |.sslice x lo hi=>wU F (x.ev F) lo hi
 |.cap x=>match x.ev F with
  |.one (.slc _ _ _ cap _ true)=>some (.one (.int .i64 cap))
  |.one .nils=>some (.one (.int .i64 0))
  |_=>none
 |.scat x y=>match x.ev F,y.ev F with
  |.one (.str a),.one (.str b)=>if a.size+b.size<=9223372036854775807 then some (.one (.str (a++b))) else none
  |_,_=>none
 |.seq neg x y=>match x.ev F,y.ev F with
  |.one (.str a),.one (.str b)=>some (.one (.bool (if neg then !(a.data.toList==b.data.toList) else a.data.toList==b.data.toList)))
  |_,_=>none
 |.mkif x=>match x.ev F with
  |.tup _=>none
  |_=>some (.one .ifa)
 |.ifeq neg x=>match x.ev F with
  |.one .ifa=>some (.one (.bool neg))
  |.one .nili=>some (.one (.bool !neg))
  |_=>none
 |.peq neg x y=>(By (x.ev F) (y.ev F)).map fun r=>.one (.bool (if neg then !r else r))
 |.bm f x=>match x.ev F with
  |.one (.ptr b o)=>some (.one (.bm f b o))
  |_=>none
 |.sdata x=>match x.ev F with
  |.one (.slc b o _ (_+1) _ _)=>some (.one (.ptr b o))
  |.one .nils=>some (.one .nilp)
  |_=>none
 |.idxb x y=>match x.ev F,y.ev F with
  |.one (.str a),.one (.int .u8 c)=>if 0<=c/\c<256 then some (.one (.int .i64 (Vv a.data.toList c.toNat 0))) else none
  |_,_=>none
 |.cnt x y=>match x.ev F,y.ev F with
  |.one (.str a),.one (.int .u8 c)=>if 0<=c/\c<256 then some (.one (.int .i64 (Wl a.data.toList c.toNat))) else none
  |_,_=>none
def Yk(P:Program)(t:TypeId):Option Bool:=
 match P.underlying t with
 |some (.struct _)=>some true
 |some (.array _ _)=>some true
 |some _=>some false
 |none=>none
def vi(P:Program)(t:TypeId):Option (List C):=
 match P.info? t with
 |some i=>match i.zero with
  |some z=>cL z.cells.toList
  |none=>none
 |none=>none
def ya(P:Program)(t:TypeId):Option Nat:=(P.info? t).map (·.size)
def X7(G n:Nat)(place:Nat->Option (Nat × Nat)):List (Nat × Operand)->Option (List (Nat × Nat × Opd))
 |[]=>some []
 |(i,x)::r=>
  match place i,cO G n x,X7 G n place r with
  |some (off,size),some d,some l=>some ((off,size,d)::l)
  |_,_,_=>none
def JH(P:Program)(t:TypeId):Option (Nat->Option (Nat × Nat)):=
 match P.underlying t with
 |some (.array _ e)=>(ya P e).map fun s=>fun i=>some (i*s,s)
 |some (.struct fields)=>(fields.toList.mapM (fun f=>(P.info? f.type).map fun i=>(f.offset,i.size))).map fun pl=>(pl.toArray[·]?)
 |_=>none
def QT(P:Program):List Field->Option (List (Nat × Bool))
 |[]=>some []
 |f::r=>
  if f.name≠ "_" then
   match P.underlying f.type,QT P r with
   |some (.int _),some l=>some ((f.offset,false)::l)
   |some .bool,some l=>some ((f.offset,true)::l)
   |_,_=>none
  else QT P r
def ww(G n:Nat):Option Operand->Option (Option Opd)
 |none=>some none
 |some x=>(cO G n x).map some
def I1(P:Program)(G n:Nat)(op:BinOp)(t:TypeId)(x y:Operand):Option PureOp:=
 match cO G n x,cO G n y with
 |some a,some b=>
  match P.underlying t with
  |some (.int _)=>some (.bin op a b)
  |some .bool=>match op with
   |.eql=>some (.beq false a b)
   |.neq=>some (.beq true a b)
   |_=>none
  |some (.struct fs)=>
   if P.stoodInHeld t||P.eqGuardType P.depth t then none else
   match QT P fs.toList with
   |none=>none
   |some ks=>match op with
    |.eql=>some (.eqs false ks a b)
    |.neq=>some (.eqs true ks a b)
    |_=>none
  |some (.slice _)=>match y,op with
   |.const (.slice none _ _),.eql=>some (.nileq false a)
   |.const (.slice none _ _),.neq=>some (.nileq true a)
   |_,_=>none
  |_=>none
 |_,_=>none
def aR(P:Program)(G n:Nat)(o:Oper):Option PureOp:=
 match o.op with
 |.move x=>(cO G n x).map .mv
 |.assign x=>(cO G n x).map .mv
 |.pick c a b=>match cO G n c,cO G n a,cO G n b with
  |some c,some a,some b=>some (.pick c a b)
  |_,_,_=>none
 |.build t parts=>match vi P t,JH P t with
  |some z,some pl=>(X7 G n pl parts.toList).map (.build z)
  |_,_=>none
 |.nilCheck x=>(cO G n x).map .nilck
 |.binOp op t x y _=>I1 P G n op t x y
 |.unOp .neg _ x=>(cO G n x).map .neg
 |.unOp .not _ x=>(cO G n x).map .not
 |.convert src dst x=>match P.underlying src,P.underlying dst,cO G n x with
  |some (.int _),some (.int k),some d=>some (.conv k d)
  |_,_,_=>none
 |.makeFunc (.func f) first caps=>if first.size=0 then (KJ G n caps.toList).map (.mkfn f) else none
 |.slice t x lo hi mx=>match P.underlying t,cO G n x,ww G n lo,ww G n hi,ww G n mx with
  |some (.slice e),some d,some lo,some hi,some mx=>match ya P e with
   |some s=>if mx.isSome&&hi.isNone then none else some (.slice s d lo hi mx)
   |none=>none
  |some .string,some d,some lo,some hi,some none=>some (.sslice d lo hi)
  |_,_,_,_,_=>none
 |.fieldAddr s x f=>match P.underlying s,cO G n x with
  |some (.struct fs),some d=>match fs[f]? with
   |some fd=>match ya P fd.type with
    |some (_+1)=>some (.faddr fd.offset d)
    |_=>none
   |none=>none
  |_,_=>none
 |.field s x f=>match P.underlying s,cO G n x with
  |some (.struct fs),some d=>match fs[f]? with
   |some fd=>match ya P fd.type,Yk P fd.type with
    |some k,some g=>some (.field g fd.offset k d)
    |_,_=>none
   |none=>none
  |_,_=>none
 |.indexAddr t x i=>match P.underlying t,cO G n x,cO G n i with
  |some (.slice e),some d,some j=>(ya P e).map fun s=>.iaddr s d j
  |some (.array len e),some d,some j=>(ya P e).map fun s=>.aaddr len s d j
  |_,_,_=>none
 |.index t x i=>match P.underlying t,cO G n x,cO G n i with
  |some (.array len e),some d,some j=>match ya P e,Yk P e with
   |some s,some g=>some (.aindex len s g d j)
   |_,_=>none
  |some .string,some d,some j=>some (.sindex d j)
  |_,_,_=>none
 |.extract x i=>(cO G n x).map fun d=>.extract d i
 |.call { callee:=.builtin .len,args:=args,argTypes:=ts }=>
  match args.toList,ts[0]? with
  |[x],some t=>match P.underlying t with
   |some (.slice _)=>(cO G n x).map .len
   |some (.array k _)=>some (.cint k)
   |some .string=>(cO G n x).map .slen
   |_=>none
  |_,_=>none
 |.call { callee:=.builtin .cap,args:=args,argTypes:=ts }=>
  match args.toList,ts[0]? with
  |[x],some t=>match P.underlying t with
   |some (.slice _)=>(cO G n x).map .cap
   |_=>none
  |_,_=>none
 |.call { callee:=.builtin .max,args:=args,argTypes:=_ }=>
  match args.toList with
  |[x,y]=>match cO G n x,cO G n y with
   |some a,some b=>some (.mm true a b)
   |_,_=>none
  |_=>none
 |.call { callee:=.builtin .min,args:=args,argTypes:=_ }=>
  match args.toList with
  |[x,y]=>match cO G n x,cO G n y with
   |some a,some b=>some (.mm false a b)
   |_,_=>none
  |_=>none
 |_=>none
def aE(P:Program)(f:FuncId)(nm:String):Bool:=
 match P.funcs[f]? with
 |some fn=>fn.name==nm&&fn.body.isNone&&fn.origin== ""
 |none=>false
def aQ(P:Program)(G n:Nat)(o:Oper):Option PureOp:=
 match o.op with
 |.binOp op t x y _=>match P.underlying t,cO G n x,cO G n y with
  |some .string,some a,some b=>match op with
   |.add=>some (.scat a b)
   |.eql=>some (.seq false a b)
   |.neq=>some (.seq true a b)
   |_=>none
  |some (.interface _),some a,some _=>match y,op with
   |.const .nilIface,.eql=>some (.ifeq false a)
   |.const .nilIface,.neq=>some (.ifeq true a)
   |_,_=>none
  |some (.pointer e),some a,some b=>match op,ya P e with
   |.eql,some (_+1)=>some (.peq false a b)
   |.neq,some (_+1)=>some (.peq true a b)
   |_,_=>none
  |_,_,_=>none
 |.makeInterface t x=>match P.underlying t,cO G n x with
  |some (.interface _),_=>none
  |some _,some a=>some (.mkif a)
  |_,_=>none
 |.makeFunc (.func f) first caps=>match first.toList,caps.isEmpty with
  |[x],true=>(cO G n x).map (.bm f)
  |_,_=>none
 |.call { callee:=.builtin .unsafeSliceData,args:=args,argTypes:=_ }=>match args.toList with
  |[x]=>(cO G n x).map .sdata
  |_=>none
 |.call { callee:=.value (.func f),args:=args,argTypes:=_ }=>match args.toList with
  |[x]=>if aE P f "internal/abi.NoEscape" then (cO G n x).map .mv else none
  |[x,y]=>match cO G n x,cO G n y with
   |some a,some b=>if aE P f "internal/bytealg.IndexByteString" then some (.idxb a b) else if aE P f "internal/bytealg.CountString" then some (.cnt a b) else none
   |_,_=>none
  |_=>none
 |_=>none
def VK(P:Program)(G n:Nat)(o:Oper):Option PureOp:=
 match aR P G n o with
 |some p=>some p
 |none=>aQ P G n o
section
variable{P:Program}{G n:Nat}{μ:Nat->Pl}{K:Nat->Prop}{H:Hp}{w:World}{F:T V}{a:Act}
theorem wX(s:Sem Value){x:Value}{w':World}(h:s.run P w=.ok x w'):(do let r<-s;pure (Next.value r):Sem Next).run P w=.ok (.value x) w':=by
 simp [h]
theorem zq{t:TypeId}{s:Nat}(h:ya P t=some s)(w:World):(sizeOf t).run P w=.ok s w:=by
 unfold ya at h;cases hi:P.info? t with
 |none=>simp [hi] at h
 |some i=>simp [hi] at h;simp [sizeOf,typeInfo,hi,h]
theorem vp{t:TypeId}{g:Bool}(h:Yk P t=some g)(w:World):(isAgg t).run P w=.ok g w:=by
 unfold Yk at h;cases hu:P.underlying t with
 |none=>simp [hu] at h
 |some d=>cases d<;>simp [hu] at h<;>subst h<;>simp [isAgg,run_underlying hu]
theorem VP{v:V}{x:Value}{l:List C}(h:RV μ K v x)(hl:wP v=some l):qe (RC μ K) l x.cells.toList:=by
 cases v with
 |one c=>simp [wP] at hl;subst hl;exact z6.cells (v:=.one c) h
 |agg m=>simp [wP] at hl;subst hl;exact z6.cells (v:=.agg m) h
 |tup m=>simp [wP] at hl
theorem oZ:∀(vs:List Value) (k off:Nat) (cs:Array Value),off+k+vs.length<=cs.size->
 ((vs.zipIdx k).foldl (fun cs (c,j)=>cs.setIfInBounds (off+j) c) cs).toList=cs.toList.take (off+k)++vs++cs.toList.drop (off+k+vs.length)
 |[],k,off,cs,_=>by simp
 |v::vs,k,off,cs,h=>by
  simp only [xA] at h;rw [List.zipIdx_cons,YN,oZ vs (k+1) off _ (by simp;omega)];simp only [Array.toList_setIfInBounds];rw [show off+(k+1)=(off+k)+1 by omega];apply vF;intro i;simp only [List.getElem?_append,qE,xS,jG,Array.length_toList,Kw,nP,Q4,xA];have e1:min (off+k+1) cs.size=off+k+1:=by omega
  have e2:min (off+k) cs.size=off+k:=by omega
  rw [e1,e2];by_cases h1:i<off+k
  ·rw [if_pos (by omega),if_pos (by omega),if_pos (by omega),if_neg (by omega),if_pos (by omega),if_pos h1,if_pos h1]
  ·by_cases h2:i=off+k
   ·subst h2;rw [if_pos (by omega),if_pos (by omega),if_pos (by omega),if_pos rfl,if_pos (by omega),if_pos (by omega),if_neg (by omega)];simp
   ·by_cases h3:i<off+k+1+vs.length
    ·rw [if_pos (by omega),if_neg (by omega),if_pos (by omega),if_neg (by omega),show i-(off+k)=(i-(off+k+1))+1 by omega];simp
    ·rw [if_neg (by omega),if_neg (by omega),if_neg (by omega)];congr 1;omega
theorem lZ(hR:Rel G μ K H w)(hF:xR μ K n F a.tmps){place:Nat->Option (Nat × Nat)}:∀{parts:List (Nat × Operand)} {ps:List (Nat × Nat × Opd)} {z z':List C} {zc:Array Value},
 X7 G n place parts=some ps->yD F z ps=some z'->qe (RC μ K) z zc.toList->
 ∃cs:Array Value,Instr.fill place zc (parts.map fun p=>(p.1,a.eval p.2))=some cs/\qe (RC μ K) z' cs.toList
 |[],ps,z,z',zc,hp,hf,hz=>by
  simp [X7] at hp;subst hp;simp [yD] at hf;subst hf;exact⟨zc,by simp [Instr.fill],hz⟩
 |(i,x)::r,ps,z,z',zc,hp,hf,hz=>by
  simp only [X7] at hp;cases h1:place i with
  |none=>simp [h1] at hp
  |some os=>
   obtain⟨off,size⟩:=os;cases h2:cO G n x with
   |none=>simp [h1,h2] at hp
   |some d=>
    cases h3:X7 G n place r with
    |none=>simp [h1,h2,h3] at hp
    |some l=>
     simp only [h1,h2,h3,zoi] at hp;subst hp;simp only [yD] at hf;cases h4:wP (d.ev F) with
     |none=>simp [h4] at hf
     |some cs=>
      simp only [h4] at hf;split at hf
      ·rename_i hc;have hx:=VP (qy hR hF h2) h4;have hlx:(a.eval x).cells.size=size:=by have:=hx.len;simp at this;omega
       have hlz:=hz.len;simp at hlz;have key:=oZ (a.eval x).cells.toList 0 off zc (by simp;omega);obtain⟨cs',hfill,hall⟩:=lZ hR hF (zc:=(a.eval x).cells.zipIdx.foldl (fun cs (c,j)=>cs.setIfInBounds (off+j) c) zc) h3 hf (by
        rw [<-Array.foldl_toList];rw [Array.toList_zipIdx];rw [key];have e:off+0+(a.eval x).cells.toList.length=off+size:=by simp;omega
        rw [e,nS];exact ((hz.take off).append hx).append (hz.drop (off+size)))
       refine⟨cs',?_,hall⟩;simp only [jr,Instr.fill,h1];rw [if_neg (by simp;omega)];exact hfill
      ·cases hf
theorem w6{t:TypeId}{z:List C}(h:vi P t=some z):∃i v,P.info? t=some i/\i.zero=some v/\qe (RC μ K) z v.cells.toList:=by
 unfold vi at h;cases hi:P.info? t with
 |none=>simp [hi] at h
 |some i=>
  cases hz:i.zero with
  |none=>simp [hi,hz] at h
  |some v=>simp only [hi,hz] at h;exact⟨i,v,O,hz,I5 h⟩
theorem Bc (hR:Rel G μ K H w) (hF:xR μ K n F a.tmps) {t:TypeId} {parts:Array (Nat × Operand)} {z z':List C} {pl:Nat->Option (Nat × Nat)} {ps:List (Nat × Nat × Opd)}
 (hz:vi P t=some z) (hb:JH P t=some pl) (hp:X7 G n pl parts.toList=some ps) (hf:yD F z ps=some z'):
 ∃cs:Array Value,(Instr.build t (parts.map fun (i,x)=>(i,a.eval x))).run P w=.ok (.agg cs) w/\qe (RC μ K) z' cs.toList:=by
 obtain⟨i,v,hi,hv,hall⟩:=w6 (μ:=μ) (K:=K) hz;obtain⟨cs,hfill,hall'⟩:=lZ hR hF hp hf hall;refine⟨cs,run_build w t _ cs ?_,hall'⟩;have hl:(parts.map fun (i,x)=>(i,a.eval x)).toList=parts.toList.map fun p=>(p.1,a.eval p.2):=by simp
 rw [hl];unfold Program.built;unfold JH at hb;cases hu:P.underlying t with
 |none=>simp [hu] at hb
 |some d=>
  cases d<;>try (simp [hu] at hb;done)
  case array k e=>
   simp only [hu,ya,Option.map_map,zom] at hb;obtain⟨ie,hie,rfl⟩:=hb;simp only [hi,hv,hie];exact hfill
  case struct fields=>
   simp only [hu,zom] at hb;obtain⟨places,hpl,rfl⟩:=hb;simp only [hi,hv,hpl];exact hfill
theorem EI{t:TypeId}{g:Bool}{s off:Nat}{l:List C}{xs:List Value}{v:V}(hg:Yk P t=some g)(hs:ya P t=some s)(hl:qe (RC μ K) l xs)(h:Ko g off s l=some v):
 ∃x,(part t xs.toArray off).run P w=.ok x w/\RV μ K v x:=by
 unfold Ko at h;cases g with
 |true=>
  simp only [if_true] at h;split at h
  ·obtain rfl:=zsi h;refine⟨.agg (xs.toArray.extract off (off+s)),by simp [part,vp hg,zq hs],(xs.drop off).take s,?_,(hl.drop off).take s⟩;congr 1;apply Array.ext';simp [List.extract_eq_take_drop]
  ·cases h
 |false=>
  simp only [yz,if_false,zom] at h;obtain⟨c,hc,rfl⟩:=h;obtain⟨x,hx,hr⟩:=hl.at off c hc;exact⟨x,by simp [part,vp hg,hx],hr⟩
end
end Go.Ab
