/- -/
import Derived.Test.YtbfbplnghpdmhaaGreatDoorAb1
import Derived.Laws.Sem
set_option linter.unusedSimpArgs false
set_option linter.unusedVariables false
namespace Go.Ab
inductive Opd where
 |t (n:Nat)
 |c (v:V)
def Opd.ev(F:T V):Opd->V
 |.t n=>(F.get n).getD V.undef
 |.c v=>v
def z6(μ:Nat->Pl)(K:Nat->Prop)(n:Nat)(F:T V)(tmps:Array Value):Prop:=
 tmps.size=n/\∀i,i<n->RV μ K ((F.get i).getD V.undef) (tmps.getD i Go.undef)
def cC:Value->Option C
 |.bool b=>some (.bool b)
 |.int k n=>some (.int k n)
 |.string s=>some (.str s)
 |.pointer none=>some .nilp
 |.slice none 0 0=>some .nils
 |.map none=>some .nilm
 |.nilFunc=>some .nilf
 |_=>none
def cL:List Value->Option (List C)
 |[]=>some []
 |x::l=>match cC x,cL l with
  |some c,some r=>some (c::r)
  |_,_=>none
def cV:Value->Option V
 |.agg cs=>(cL cs.toList).map .agg
 |x=>(cC x).map .one
def cO(G n:Nat):Operand->Option Opd
 |.tmp t=>if t<n then some (.t t) else none
 |.const v=>(cV v).map .c
 |.global g=>if g<G then some (.c (.one (.ptr g 0))) else none
 |.func f=>some (.c (.one (.fn f [])))
def JT(G n:Nat):List Operand->Option (List Opd)
 |[]=>some []
 |x::l=>match cO G n x,JT G n l with
  |some c,some r=>some (c::r)
  |_,_=>none
section
variable{G n:Nat}{μ:Nat->Pl}{K:Nat->Prop}{H:Hp}{w:World}{F:T V}{a:Act}
theorem NI{x:Value}{c:C}(h:cC x=some c):RC μ K c x:=by
 cases x<;>simp only [cC] at h
 all_goals first
  |(obtain rfl:=zsi h;rfl)
  |(rename_i p;cases p<;>simp [cC] at h;subst h;rfl)
  |(cases h;done)
  |skip
 rename_i p l cp;cases p with
 |none=>
  cases l with
  |zero=>cases cp with
   |zero=>simp [cC] at h;subst h;rfl
   |succ m=>simp [cC] at h
  |succ m=>simp [cC] at h
 |some a=>simp [cC] at h
theorem uV:∀{l:List Value} {cs:List C},cL l=some cs->qg (RC μ K) cs l
 |[],cs,h=>by simp [cL] at h;subst h;trivial
 |x::l,cs,h=>by
  simp only [cL] at h;cases hx:cC x with
  |none=>simp [hx] at h
  |some c=>
   cases hl:cL l with
   |none=>simp [hx,hl] at h
   |some r=>simp only [hx,hl,zoi] at h;subst h;exact⟨NI hx,uV hl⟩
theorem uU{x:Value}{v:V}(h:cV x=some v):yf μ K v x:=by
 cases x with
 |agg cs=>
  simp only [cV,zom] at h;obtain⟨l,hl,rfl⟩:=h;exact⟨cs.toList,by simp,uV hl⟩
 |_=>simp only [cV,zom] at h;obtain⟨c,hc,rfl⟩:=h;exact NI hc
theorem xf(hR:Rel G μ K H w)(hF:z6 μ K n F a.tmps){o:Operand}{d:Opd}(h:cO G n o=some d):RV μ K (d.ev F) (a.eval o):=by
 cases o with
 |tmp t=>
  simp only [cO] at h;split at h
  ·rename_i ht;obtain rfl:=zsi h;exact hF.2 t ht
  ·cases h
 |const v=>simp only [cO,zom] at h;obtain⟨c,hc,rfl⟩:=h;exact RV.of1 (uU hc)
 |global g=>
  simp only [cO] at h;split at h
  ·rename_i hg;obtain rfl:=zsi h;obtain⟨h1,h2,h3⟩:=hR.glob g hg;exact⟨h1,by simp [Act.eval,Pl.addr,h2,h3]⟩
  ·cases h
 |func f=>simp only [cO] at h;obtain rfl:=zsi h;exact⟨by simp,by simp [Act.eval]⟩
theorem bY(hR:Rel G μ K H w)(hF:z6 μ K n F a.tmps):∀{os:List Operand} {ds:List Opd},JT G n os=some ds->qg (RV μ K) (ds.map (·.ev F)) (os.map a.eval)
 |[],ds,h=>by simp [JT] at h;subst h;trivial
 |x::l,ds,h=>by
  simp only [JT] at h;cases hx:cO G n x with
  |none=>simp [hx] at h
  |some c=>
   cases hl:JT G n l with
   |none=>simp [hx,hl] at h
   |some r=>simp only [hx,hl,zoi] at h;subst h;exact⟨xf hR hF hx,bY hR hF hl⟩
end
inductive PureOp where
 |mv (x:Opd)
 |pick (c a b:Opd)
 |build (z:List C) (ps:List (Nat × Nat × Opd))
 |nilck (x:Opd)
 |bin (op:BinOp) (x y:Opd)
 |beq (neg:Bool) (x y:Opd)
 |eqs (neg:Bool) (ks:List (Nat × Bool)) (x y:Opd)
 |neg (x:Opd)
 |not (x:Opd)
 |conv (k:IntKind) (x:Opd)
 |mkfn (f:FuncId) (caps:List Opd)
 |slice (esz:Nat) (x:Opd) (lo hi mx:Option Opd)
 |faddr (off:Nat) (x:Opd)
 |field (agg:Bool) (off n:Nat) (x:Opd)
 |iaddr (esz:Nat) (x i:Opd)
 |aaddr (len esz:Nat) (x i:Opd)
 |aindex (len esz:Nat) (agg:Bool) (x i:Opd)
 |extract (x:Opd) (i:Nat)
 |len (x:Opd)
 |mm (isMax:Bool) (x y:Opd)
 |nileq (neg:Bool) (x:Opd)
 |cint (n:Int)
 |sindex (x i:Opd)
 |slen (x:Opd)
 |sslice (x:Opd) (lo hi:Option Opd)
 |cap (x:Opd)
def jG:V->Option (List C)
 |.one c=>some [c]
 |.agg l=>some l
 |.tup _=>none
def yy(F:T V):List C->List (Nat × Nat × Opd)->Option (List C)
 |z,[]=>some z
 |z,(off,size,x)::r=>
  match jG (x.ev F) with
  |none=>none
  |some cs=>if cs.length=size/\off+size<=z.length then yy F (z.take off++cs++z.drop (off+size)) r else none
def jU(op:BinOp)(k:IntKind)(a:Int)(k':IntKind)(b:Int):Option C:=
 match op with
 |.shl=>if b<0 then none else some (.int k (k.wrap (a*2^(min b.toNat k.bits))))
 |.shr=>if b<0 then none else some (.int k (a.fdiv (2^(min b.toNat k.bits))))
 |op=>if k≠k' then none else
  match op with
  |.add=>some (.int k (k.wrap (a+b)))
  |.sub=>some (.int k (k.wrap (a-b)))
  |.mul=>some (.int k (k.wrap (a*b)))
  |.quo=>if b=0 then none else some (.int k (k.wrap (a.tdiv b)))
  |.rem=>if b=0 then none else some (.int k (a.tmod b))
  |.and=>some (.int k (k.wrap (BitVec.ofInt k.bits a&&& BitVec.ofInt k.bits b).toNat))
  |.or=>some (.int k (k.wrap (BitVec.ofInt k.bits a|||BitVec.ofInt k.bits b).toNat))
  |.xor=>some (.int k (k.wrap (BitVec.ofInt k.bits a^^^BitVec.ofInt k.bits b).toNat))
  |.andNot=>some (.int k (k.wrap (BitVec.ofInt k.bits a&&& ~~~ BitVec.ofInt k.bits b).toNat))
  |.eql=>some (.bool (a==b))
  |.neq=>some (.bool (a !=b))
  |.lss=>some (.bool (decide (a<b)))
  |.leq=>some (.bool (decide (a<=b)))
  |.gtr=>some (.bool (decide (a>b)))
  |.geq=>some (.bool (decide (a>=b)))
  |_=>none
def sC:Bool->C->C->Option Bool
 |false,.int k a,.int k' b=>if k=k' then some (a==b) else none
 |true,.bool a,.bool b=>some (a==b)
 |_,_,_=>none
def Kg(xs ys:List C):List (Nat × Bool)->Option Bool
 |[]=>some true
 |(k,t)::r=>
  match xs[k]?,ys[k]? with
  |some x,some y=>match sC t x y with
   |some true=>Kg xs ys r
   |some false=>some false
   |none=>none
  |_,_=>none
def kJ(F:T V):List Opd->Option (List (Nat × Nat))
 |[]=>some []
 |x::l=>
  match x.ev F,kJ F l with
  |.one (.ptr b o),some r=>some ((b,o)::r)
  |_,_=>none
def xu(F:T V)(d:Nat)(y:Nat):Option Opd->Option Nat
 |none=>if d<=y then some d else none
 |some x=>match x.ev F with
  |.one (.int _ i)=>if 0<=i/\i<=y then some i.toNat else none
  |_=>none
def jx(F:T V)(esz:Nat)(x:V)(lo hi mx:Option Opd):Option V:=
 match x with
 |.one (.slc b o len cap e ex)=>
  if e≠esz then none else
  match xu F cap cap mx with
  |none=>none
  |some m=>match xu F len m hi with
   |none=>none
   |some h=>match xu F 0 h lo with
    |none=>none
    |some l=>some (.one (.slc b (o+l*esz) (h-l) (m-l) esz (ex||mx.isSome)))
 |.one .nils=>
  match xu F 0 0 mx,xu F 0 0 hi,xu F 0 0 lo with
  |some _,some _,some _=>some (.one .nils)
  |_,_,_=>none
 |_=>none
def vD(F:T V)(x:V)(lo hi:Option Opd):Option V:=
 match x with
 |.one (.str s)=>match xu F s.size s.size hi with
  |none=>none
  |some h=>match xu F 0 h lo with
   |none=>none
   |some l=>some (.one (.str (s.extract l h)))
 |_=>none
def JG(agg:Bool)(off n:Nat)(l:List C):Option V:=
 if agg then (if off+n<=l.length then some (.agg ((l.drop off).take n)) else none) else (l[off]?).map .one
def X6:V->Option V
 |.one (.slc _ _ len _ _ _)=>some (.one (.int .i64 len))
 |.one .nils=>some (.one (.int .i64 0))
 |_=>none
def XX(esz:Nat)(x i:V):Option V:=
 match x,i with
 |.one (.slc b o len _ e _),.one (.int _ j)=>if e=esz/\0<=j/\j<len then some (.one (.ptr b (o+j.toNat*esz))) else none
 |_,_=>none
def qy(F:T V):PureOp->Option V
 |.mv x=>some (x.ev F)
 |.pick c a b=>match c.ev F with
  |.one (.bool t)=>some (if t then a.ev F else b.ev F)
  |_=>none
 |.build z ps=>(yy F z ps).map .agg
 |.nilck x=>match x.ev F with
  |.one (.ptr b o)=>some (.one (.ptr b o))
  |.one (.fn f cs)=>some (.one (.fn f cs))
  |_=>none
 |.bin op x y=>match x.ev F,y.ev F with
  |.one (.int k a),.one (.int k' b)=>(jU op k a k' b).map .one
  |_,_=>none
 |.beq neg x y=>match x.ev F,y.ev F with
  |.one (.bool a),.one (.bool b)=>some (.one (.bool (if neg then !(a==b) else a==b)))
  |_,_=>none
 |.eqs neg ks x y=>match x.ev F,y.ev F with
  |.agg xs,.agg ys=>match Kg xs ys ks with
   |some r=>some (.one (.bool (if neg then !r else r)))
   |none=>none
  |_,_=>none
 |.neg x=>match x.ev F with
  |.one (.int k a)=>some (.one (.int k (k.wrap (0-a))))
  |_=>none
 |.not x=>match x.ev F with
  |.one (.bool a)=>some (.one (.bool !a))
  |_=>none
 |.conv k x=>match x.ev F with
  |.one (.int _ a)=>some (.one (.int k (k.wrap a)))
  |_=>none
 |.mkfn f caps=>(kJ F caps).map fun l=>.one (.fn f l)
 |.slice esz x lo hi mx=>jx F esz (x.ev F) lo hi mx
 |.faddr off x=>match x.ev F with
  |.one (.ptr b o)=>some (.one (.ptr b (o+off)))
  |_=>none
 |.field agg off n x=>match x.ev F with
  |.agg l=>JG agg off n l
  |_=>none
 |.iaddr esz x i=>XX esz (x.ev F) (i.ev F)
 |.aaddr len esz x i=>match x.ev F,i.ev F with
  |.one (.ptr b o),.one (.int _ j)=>if 0<=j/\j<len then some (.one (.ptr b (o+j.toNat*esz))) else none
  |_,_=>none
 |.aindex len esz agg x i=>match x.ev F,i.ev F with
  |.agg l,.one (.int _ j)=>if 0<=j/\j<len then JG agg (j.toNat*esz) esz l else none
  |_,_=>none
 |.extract x i=>match x.ev F with
  |.tup l=>l[i]?
  |_=>none
 |.len x=>X6 (x.ev F)
 |.mm isMax x y=>match x.ev F,y.ev F with
  |.one (.int k a),.one (.int k' b)=>if k=k' then some (.one (.int k (if isMax then (if b>a then b else a) else (if b<a then b else a)))) else none
  |_,_=>none
 |.nileq neg x=>match x.ev F with
  |.one (.slc ..)=>some (.one (.bool neg))
  |.one .nils=>some (.one (.bool !neg))
  |_=>none
 |.cint n=>some (.one (.int .i64 n))
 |.sindex x i=>match x.ev F,i.ev F with
  |.one (.str s),.one (.int _ j)=>if 0<=j then match s[j.toNat]? with
   |some b=>some (.one (.int .u8 b.toNat))
   |none=>none
   else none
  |_,_=>none
 |.slen x=>match x.ev F with
  |.one (.str s)=>some (.one (.int .i64 s.size))
  |_=>none
 |.sslice x lo hi=>vD F (x.ev F) lo hi
 |.cap x=>match x.ev F with
  |.one (.slc _ _ _ cap _ true)=>some (.one (.int .i64 cap))
  |.one .nils=>some (.one (.int .i64 0))
  |_=>none
end Go.Ab
