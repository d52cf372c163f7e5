/- -/
import Derived.Test.YtandgamnamkkhaaGreatDoorAb1
import Derived.Laws.Sem
set_option linter.unusedSimpArgs false
set_option linter.unusedVariables false
set_option maxRecDepth 8000
namespace Go.Ab
inductive Opd where
 |t (n:Nat)
 |c (v:V)
def Opd.ev(F:T V):Opd->V
 |.t n=>(F.get n).getD V.undef
 |.c v=>v
def xy(μ:Nat->Pl)(K:Nat->Prop)(n:Nat)(F:T V)(tmps:Array Value):Prop:=
 tmps.size=n/\∀i,i<n->RV μ K ((F.get i).getD V.undef) (tmps.getD i Go.undef)
def cC:Value->Option C
 |.bool b=>some (.bool b)
 |.int k n=>some (.int k n)
 |.string s=>some (.str s)
 |.pointer none=>some .nilp
 |.slice none 0 0=>some .nils
 |.map none=>some .nilm
 |.nilFunc=>some .nilf
 |.nilIface=>some .nili
 |_=>none
def cL:List Value->Option (List C)
 |[]=>some []
 |x::l=>match cC x,cL l with
  |some c,some r=>some (c::r)
  |_,_=>none
def cV:Value->Option V
 |.agg cs=>(cL cs.toList).map .agg
 |x=>(cC x).map .one
def cO(G n:Nat):Operand->Option Opd
 |.tmp t=>if t<n then some (.t t) else none
 |.const v=>(cV v).map .c
 |.global g=>if g<G then some (.c (.one (.ptr g 0))) else none
 |.func f=>some (.c (.one (.fn f [])))
def YQ(G n:Nat):List Operand->Option (List Opd)
 |[]=>some []
 |x::l=>match cO G n x,YQ G n l with
  |some c,some r=>some (c::r)
  |_,_=>none
section
variable{G n:Nat}{μ:Nat->Pl}{K:Nat->Prop}{H:Hp}{w:World}{F:T V}{a:Act}
theorem GN{x:Value}{c:C}(h:cC x=some c):RC μ K c x:=by
 cases x<;>simp only [cC] at h
 all_goals first
  |(obtain rfl:=zsi h;rfl)
  |(rename_i p;cases p<;>simp [cC] at h;subst h;rfl)
  |(cases h;done)
  |skip
 rename_i p l cp;cases p with
 |none=>
  cases l with
  |zero=>cases cp with
   |zero=>simp [cC] at h;subst h;rfl
   |succ m=>simp [cC] at h
  |succ m=>simp [cC] at h
 |some a=>simp [cC] at h
theorem rD:∀{l:List Value} {cs:List C},cL l=some cs->qe (RC μ K) cs l
 |[],cs,h=>by simp [cL] at h;subst h;trivial
 |x::l,cs,h=>by
  simp only [cL] at h;cases hx:cC x with
  |none=>simp [hx] at h
  |some c=>
   cases hl:cL l with
   |none=>simp [hx,hl] at h
   |some r=>simp only [hx,hl,zoi] at h;subst h;exact⟨GN hx,rD hl⟩
theorem dC{x:Value}{v:V}(h:cV x=some v):x8 μ K v x:=by
 cases x with
 |agg cs=>
  simp only [cV,zom] at h;obtain⟨l,hl,rfl⟩:=h;exact⟨cs.toList,by simp,rD hl⟩
 |_=>simp only [cV,zom] at h;obtain⟨c,hc,rfl⟩:=h;exact GN hc
theorem qr(hR:Rel G μ K H w)(hF:xy μ K n F a.tmps){o:Operand}{d:Opd}(h:cO G n o=some d):RV μ K (d.ev F) (a.eval o):=by
 cases o with
 |tmp t=>
  simp only [cO] at h;split at h
  ·rename_i ht;obtain rfl:=zsi h;exact hF.2 t ht
  ·cases h
 |const v=>simp only [cO,zom] at h;obtain⟨c,hc,rfl⟩:=h;exact RV.of1 (dC hc)
 |global g=>
  simp only [cO] at h;split at h
  ·rename_i hg;obtain rfl:=zsi h;obtain⟨h1,h2,h3⟩:=hR.glob g hg;exact⟨h1,by simp [Act.eval,Pl.addr,h2,h3]⟩
  ·cases h
 |func f=>simp only [cO] at h;obtain rfl:=zsi h;exact⟨by simp,by simp [Act.eval]⟩
theorem JK(hR:Rel G μ K H w)(hF:xy μ K n F a.tmps):∀{os:List Operand} {ds:List Opd},YQ G n os=some ds->qe (RV μ K) (ds.map (·.ev F)) (os.map a.eval)
 |[],ds,h=>by simp [YQ] at h;subst h;trivial
 |x::l,ds,h=>by
  simp only [YQ] at h;cases hx:cO G n x with
  |none=>simp [hx] at h
  |some c=>
   cases hl:YQ G n l with
   |none=>simp [hx,hl] at h
   |some r=>simp only [hx,hl,zoi] at h;subst h;exact⟨qr hR hF hx,JK hR hF hl⟩
end
inductive PureOp where
 |mv (x:Opd)
 |pick (c a b:Opd)
 |build (z:List C) (ps:List (Nat × Nat × Opd))
 |nilck (x:Opd)
 |bin (op:BinOp) (x y:Opd)
 |beq (neg:Bool) (x y:Opd)
 |eqs (neg:Bool) (ks:List (Nat × Bool)) (x y:Opd)
 |neg (x:Opd)
 |not (x:Opd)
 |conv (k:IntKind) (x:Opd)
 |mkfn (f:FuncId) (caps:List Opd)
 |slice (esz:Nat) (x:Opd) (lo hi mx:Option Opd)
 |faddr (off:Nat) (x:Opd)
 |field (agg:Bool) (off n:Nat) (x:Opd)
 |iaddr (esz:Nat) (x i:Opd)
 |aaddr (len esz:Nat) (x i:Opd)
 |aindex (len esz:Nat) (agg:Bool) (x i:Opd)
 |extract (x:Opd) (i:Nat)
 |len (x:Opd)
 |mm (isMax:Bool) (x y:Opd)
 |nileq (neg:Bool) (x:Opd)
 |cint (n:Int)
 |sindex (x i:Opd)
 |slen (x:Opd)
 |sslice (x:Opd) (lo hi:Option Opd)
 |cap (x:Opd)
 |scat (x y:Opd)
 |seq (neg:Bool) (x y:Opd)
 |mkif (x:Opd)
 |ifeq (neg:Bool) (x:Opd)
 |peq (neg:Bool) (x y:Opd)
 |bm (f:FuncId) (x:Opd)
 |sdata (x:Opd)
 |idxb (x y:Opd)
 |cnt (x y:Opd)
def kf:V->Option (List C)
 |.one c=>some [c]
 |.agg l=>some l
 |.tup _=>none
def zI(F:T V):List C->List (Nat × Nat × Opd)->Option (List C)
 |z,[]=>some z
 |z,(off,size,x)::r=>
  match kf (x.ev F) with
  |none=>none
  |some cs=>if cs.length=size/\off+size<=z.length then zI F (z.take off++cs++z.drop (off+size)) r else none
def yN(op:BinOp)(k:IntKind)(a:Int)(k':IntKind)(b:Int):Option C:=
 match op with
 |.shl=>if b<0 then none else some (.int k (k.wrap (a*2^(min b.toNat k.bits))))
 |.shr=>if b<0 then none else some (.int k (a.fdiv (2^(min b.toNat k.bits))))
 |op=>if k≠k' then none else
  match op with
  |.add=>some (.int k (k.wrap (a+b)))
  |.sub=>some (.int k (k.wrap (a-b)))
  |.mul=>some (.int k (k.wrap (a*b)))
  |.quo=>if b=0 then none else some (.int k (k.wrap (a.tdiv b)))
  |.rem=>if b=0 then none else some (.int k (a.tmod b))
  |.and=>some (.int k (k.wrap (BitVec.ofInt k.bits a&&& BitVec.ofInt k.bits b).toNat))
  |.or=>some (.int k (k.wrap (BitVec.ofInt k.bits a|||BitVec.ofInt k.bits b).toNat))
  |.xor=>some (.int k (k.wrap (BitVec.ofInt k.bits a^^^BitVec.ofInt k.bits b).toNat))
  |.andNot=>some (.int k (k.wrap (BitVec.ofInt k.bits a&&& ~~~ BitVec.ofInt k.bits b).toNat))
  |.eql=>some (.bool (a==b))
  |.neq=>some (.bool (a !=b))
  |.lss=>some (.bool (decide (a<b)))
  |.leq=>some (.bool (decide (a<=b)))
  |.gtr=>some (.bool (decide (a>b)))
  |.geq=>some (.bool (decide (a>=b)))
  |_=>none
def n4:Bool->C->C->Option Bool
 |false,.int k a,.int k' b=>if k=k' then some (a==b) else none
 |true,.bool a,.bool b=>some (a==b)
 |_,_,_=>none
def JQ(xs ys:List C):List (Nat × Bool)->Option Bool
 |[]=>some true
 |(k,t)::r=>
  match xs[k]?,ys[k]? with
  |some x,some y=>match n4 t x y with
   |some true=>JQ xs ys r
   |some false=>some false
   |none=>none
  |_,_=>none
def wj(F:T V):List Opd->Option (List (Nat × Nat))
 |[]=>some []
 |x::l=>
  match x.ev F,wj F l with
  |.one (.ptr b o),some r=>some ((b,o)::r)
  |_,_=>none
def qF(F:T V)(d:Nat)(y:Nat):Option Opd->Option Nat
 |none=>if d<=y then some d else none
 |some x=>match x.ev F with
  |.one (.int _ i)=>if 0<=i/\i<=y then some i.toNat else none
  |_=>none
def yh(F:T V)(esz:Nat)(x:V)(lo hi mx:Option Opd):Option V:=
 match x with
 |.one (.slc b o len cap e ex)=>
  if e≠esz then none else
  match qF F cap cap mx with
  |none=>none
  |some m=>match qF F len m hi with
   |none=>none
   |some h=>match qF F 0 h lo with
    |none=>none
    |some l=>some (.one (.slc b (o+l*esz) (h-l) (m-l) esz (ex||mx.isSome)))
 |.one .nils=>
  match qF F 0 0 mx,qF F 0 0 hi,qF F 0 0 lo with
  |some _,some _,some _=>some (.one .nils)
  |_,_,_=>none
 |_=>none
def jH(F:T V)(x:V)(lo hi:Option Opd):Option V:=
 match x with
 |.one (.str s)=>match qF F s.size s.size hi with
  |none=>none
  |some h=>match qF F 0 h lo with
   |none=>none
   |some l=>some (.one (.str (s.extract l h)))
 |_=>none
def YF(agg:Bool)(off n:Nat)(l:List C):Option V:=
 if agg then (if off+n<=l.length then some (.agg ((l.drop off).take n)) else none) else (l[off]?).map .one
def Yk:V->Option V
 |.one (.slc _ _ len _ _ _)=>some (.one (.int .i64 len))
 |.one .nils=>some (.one (.int .i64 0))
 |_=>none
def Jr(esz:Nat)(x i:V):Option V:=
 match x,i with
 |.one (.slc b o len _ e _),.one (.int _ j)=>if e=esz/\0<=j/\j<len then some (.one (.ptr b (o+j.toNat*esz))) else none
 |_,_=>none
def E3:V->V->Option Bool
 |.one .nilp,.one .nilp=>some true
 |.one .nilp,.one (.ptr _ _)=>some false
 |.one (.ptr _ _),.one .nilp=>some false
 |.one (.ptr b o),.one (.ptr b' o')=>if b=b' then some (decide (o=o')) else none
 |_,_=>none
def Jw:List UInt8->Nat->Nat->Int
 |[],_,_=> -1
 |b::l,c,i=>if b.toNat=c then i else Jw l c (i+1)
def ZP:List UInt8->Nat->Nat
 |[],_=>0
 |b::l,c=>if b.toNat=c then ZP l c+1 else ZP l c
def qn(F:T V):PureOp->Option V
 |.mv x=>some (x.ev F)
 |.pick c a b=>match c.ev F with
  |.one (.bool t)=>some (if t then a.ev F else b.ev F)
  |_=>none
 |.build z ps=>(zI F z ps).map .agg
 |.nilck x=>match x.ev F with
  |.one (.ptr b o)=>some (.one (.ptr b o))
  |.one (.fn f cs)=>some (.one (.fn f cs))
  |_=>none
 |.bin op x y=>match x.ev F,y.ev F with
  |.one (.int k a),.one (.int k' b)=>(yN op k a k' b).map .one
  |_,_=>none
 |.beq neg x y=>match x.ev F,y.ev F with
  |.one (.bool a),.one (.bool b)=>some (.one (.bool (if neg then !(a==b) else a==b)))
  |_,_=>none
 |.eqs neg ks x y=>match x.ev F,y.ev F with
  |.agg xs,.agg ys=>match JQ xs ys ks with
   |some r=>some (.one (.bool (if neg then !r else r)))
   |none=>none
  |_,_=>none
 |.neg x=>match x.ev F with
  |.one (.int k a)=>some (.one (.int k (k.wrap (0-a))))
  |_=>none
 |.not x=>match x.ev F with
  |.one (.bool a)=>some (.one (.bool !a))
  |_=>none
 |.conv k x=>match x.ev F with
  |.one (.int _ a)=>some (.one (.int k (k.wrap a)))
  |_=>none
 |.mkfn f caps=>(wj F caps).map fun l=>.one (.fn f l)
 |.slice esz x lo hi mx=>yh F esz (x.ev F) lo hi mx
 |.faddr off x=>match x.ev F with
  |.one (.ptr b o)=>some (.one (.ptr b (o+off)))
  |_=>none
 |.field agg off n x=>match x.ev F with
  |.agg l=>YF agg off n l
  |_=>none
 |.iaddr esz x i=>Jr esz (x.ev F) (i.ev F)
 |.aaddr len esz x i=>match x.ev F,i.ev F with
  |.one (.ptr b o),.one (.int _ j)=>if 0<=j/\j<len then some (.one (.ptr b (o+j.toNat*esz))) else none
  |_,_=>none
 |.aindex len esz agg x i=>match x.ev F,i.ev F with
  |.agg l,.one (.int _ j)=>if 0<=j/\j<len then YF agg (j.toNat*esz) esz l else none
  |_,_=>none
 |.extract x i=>match x.ev F with
  |.tup l=>l[i]?
  |_=>none
 |.len x=>Yk (x.ev F)
 |.mm isMax x y=>match x.ev F,y.ev F with
  |.one (.int k a),.one (.int k' b)=>if k=k' then some (.one (.int k (if isMax then (if b>a then b else a) else (if b<a then b else a)))) else none
  |_,_=>none
 |.nileq neg x=>match x.ev F with
  |.one (.slc ..)=>some (.one (.bool neg))
  |.one .nils=>some (.one (.bool !neg))
  |_=>none
 |.cint n=>some (.one (.int .i64 n))
 |.sindex x i=>match x.ev F,i.ev F with
  |.one (.str s),.one (.int _ j)=>if 0<=j then match s[j.toNat]? with
   |some b=>some (.one (.int .u8 b.toNat))
   |none=>none
   else none
  |_,_=>none
 |.slen x=>match x.ev F with
  |.one (.str s)=>some (.one (.int .i64 s.size))
  |_=>none
 |.sslice x lo hi=>jH F (x.ev F) lo hi
 |.cap x=>match x.ev F with
  |.one (.slc _ _ _ cap _ true)=>some (.one (.int .i64 cap))
  |.one .nils=>some (.one (.int .i64 0))
  |_=>none
 |.scat x y=>match x.ev F,y.ev F with
  |.one (.str a),.one (.str b)=>if a.size+b.size<=9223372036854775807 then some (.one (.str (a++b))) else none
  |_,_=>none
 |.seq neg x y=>match x.ev F,y.ev F with
  |.one (.str a),.one (.str b)=>some (.one (.bool (if neg then !(a.data.toList==b.data.toList) else a.data.toList==b.data.toList)))
  |_,_=>none
 |.mkif x=>match x.ev F with
  |.tup _=>none
  |_=>some (.one .ifa)
 |.ifeq neg x=>match x.ev F with
  |.one .ifa=>some (.one (.bool neg))
  |.one .nili=>some (.one (.bool !neg))
  |_=>none
 |.peq neg x y=>(E3 (x.ev F) (y.ev F)).map fun r=>.one (.bool (if neg then !r else r))
 |.bm f x=>match x.ev F with
  |.one (.ptr b o)=>some (.one (.bm f b o))
  |_=>none
 |.sdata x=>match x.ev F with
  |.one (.slc b o _ (_+1) _ _)=>some (.one (.ptr b o))
  |.one .nils=>some (.one .nilp)
  |_=>none
 |.idxb x y=>match x.ev F,y.ev F with
  |.one (.str a),.one (.int .u8 c)=>if 0<=c/\c<256 then some (.one (.int .i64 (Jw a.data.toList c.toNat 0))) else none
  |_,_=>none
 |.cnt x y=>match x.ev F,y.ev F with
  |.one (.str a),.one (.int .u8 c)=>if 0<=c/\c<256 then some (.one (.int .i64 (ZP a.data.toList c.toNat))) else none
  |_,_=>none
end Go.Ab
