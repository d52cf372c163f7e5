/- -/
import Derived.Test.YtdlelodnhjacgaaGreatDoorAb34
set_option linter.unusedSimpArgs false
set_option linter.unusedVariables false
set_option maxRecDepth 8000
set_option maxHeartbeats 8000000
namespace Go.Ai
open Go.Ab Go.Proofs
def zY(b:Bool):FD:=.c (.bool b)
abbrev qK:=List (List Bool)
def zt(d:qK):List (List FD):=d.map (·.map zY)
def f8(w h:Int)(d:qK):DV:=.agg [.f (.c (.int .i64 w)),.f (.c (.int .i64 h)),.f (.sl 1 d.length ((zt d).map xn))]
def blankDB(w h:Nat):qK:=List.replicate h (List.replicate w false)
theorem NC(d:qK):(zt d).length=d.length:=by simp [zt]
theorem WH{d:qK}{y:Nat}{r:List Bool}(h:d[y]?=some r):(zt d)[y]?=some (r.map zY):=by simp [zt,h]
theorem Ic(r:List Bool)(x:Nat)(b:Bool):(r.map zY).set x (zY b)=(r.set x b).map zY:=by simp [eQ]
theorem CF{r:List Bool}{x:Nat}{b:Bool}(h:r[x]?=some b):(r.map zY)[x]?=some (zY b):=by simp [h]
theorem HD(n:Nat):jx [.c (.bool false)] n=(List.replicate n false).map zY:=by rw [YZ];simp [zY]
def jf(w h:Nat)(d:qK):Prop:=d.length=h/\∀r∈d,r.length=w
def yp(d:qK)(x y:Nat):Bool:=match d[y]? with
 |some r=>(r[x]?).getD false
 |none=>false
def Qk(d:qK)(x y:Nat)(b:Bool):qK:=match d[y]? with
 |some r=>d.set y (r.set x b)
 |none=>d
theorem jf.row{w h:Nat}{d:qK}(hd:jf w h d){y:Nat}(hy:y<h):∃r,d[y]?=some r/\r.length=w:=by
 have hl:y<d.length:=by rw [hd.1];exact hy
 exact⟨d[y],zge hl,hd.2 _ (sP hl)⟩
theorem jf.cell{w h:Nat}{d:qK}(hd:jf w h d){x y:Nat}(hx:x<w)(hy:y<h):∃r,d[y]?=some r/\r.length=w/\r[x]?=some (yp d x y):=by
 obtain⟨r,h1,h2⟩:=hd.row hy;refine⟨r,h1,h2,?_⟩;have:x<r.length:=oM;simp [yp,h1,zge this]
theorem jf.set{w h:Nat}{d:qK}(hd:jf w h d)(x y:Nat)(b:Bool):jf w h (Qk d x y b):=by
 unfold Qk;split
 ·rename_i r hr;refine⟨by simpa using hd.1,fun q hq=>?_⟩;rcases LR hq with h|h
  ·exact hd.2 q h
  ·subst h;simpa using hd.2 r (zmg hr)
 ·exact hd
theorem FN{w h:Nat}{d:qK}(hd:jf w h d){x y:Nat}(hx:x<w)(hy:y<h)(b:Bool)(i j:Nat):yp (Qk d x y b) i j=if i=x/\j=y then b else yp d i j:=by
 obtain⟨r,h1,h2⟩:=hd.row hy;have hyl:y<d.length:=by rw [hd.1];exact hy
 simp only [Qk,h1,yp,Q4];by_cases e:y=j
 ·subst e;rw [if_pos rfl,if_pos hyl];simp only [h1,Q4];by_cases e2:x=i
  ·subst e2;rw [if_pos rfl,if_pos (by omega)];simp
  ·rw [if_neg e2,if_neg (fun h=>e2 h.1.symm)]
 ·rw [if_neg e,if_neg (fun h=>e h.2.symm)]
theorem jf.ext{w h:Nat}{d d':qK}(hd:jf w h d)(hd':jf w h d')(he:∀x y,x<w->y<h->yp d x y=yp d' x y):d=d':=by
 refine vF fun y=>?_;by_cases hy:y<h
 ·obtain⟨r,h1,h2⟩:=hd.row hy;obtain⟨r',h1',h2'⟩:=hd'.row hy;rw [h1,h1'];congr 1;refine vF fun x=>?_;by_cases hx:x<w
  ·obtain⟨_,g1,_,g2⟩:=hd.cell hx hy;obtain⟨_,g1',_,g2'⟩:=hd'.cell hx hy;rw [h1] at g1;rw [h1'] at g1';obtain rfl:=zsi g1;obtain rfl:=zsi g1';rw [g2,g2',he x y hx hy]
  ·rw [yJ (by omega),yJ (by omega)]
 ·rw [yJ (by rw [hd.1];omega),yJ (by rw [hd'.1];omega)]
theorem jf.blankDB(w h:Nat):jf w h (blankDB w h):=⟨by simp [Ai.blankDB],fun r hr=>by
 obtain⟨_,rfl⟩:=DM.1 hr;simp⟩
theorem pD(w h x y:Nat):yp (blankDB w h) x y=false:=by
 unfold yp;split
 ·rename_i r hr;simp only [blankDB,Zu] at hr;split at hr
  ·obtain rfl:=zsi hr;rw [Zu];split<;>rfl
  ·cases hr
 ·rfl
theorem ZP{rows:List (List FD)}{y:Nat}{r:List FD}(h:rows[y]?=some r):xd (rows.map xn) (y*1) 1=some [xn r]:=by
 have hl:=(zgs h).1;rw [X2,yj (by simp;omega)];congr 1;refine vF fun j=>?_;rw [Kw];split
 ·rename_i hj;obtain rfl:j=0:=by omega
  rw [nP,jH,nS,h];rfl
 ·rw [yJ (by simp;omega)]
theorem JV{r:List FD}{x:Nat}{b:FD}(h:r[x]?=some b):xd r (x*1) 1=some [b]:=by
 have hl:=(zgs h).1;rw [X2,yj (by omega)];congr 1;refine vF fun j=>?_;rw [Kw];split
 ·rename_i hj;obtain rfl:j=0:=by omega
  rw [nP,nS,h];rfl
 ·rw [yJ (by simp;omega)]
def Wu(w h:Nat)(d:qK)(y x:Nat)(cur:qK):Prop:=jf w h cur/\∀i j,i<w->j<h->yp cur i j=if j<y\/(j=y/\i<x) then yp d i j else false
theorem Wu.start(w h:Nat)(d:qK):Wu w h d 0 0 (blankDB w h):=⟨jf.blankDB w h,fun i j _ _=>by rw [pD,if_neg (by omega)]⟩
theorem Wu.step{w h:Nat}{d:qK}{y x:Nat}{cur:qK}(hc:Wu w h d y x cur)(hx:x<w)(hy:y<h):Wu w h d y (x+1) (Qk cur x y (yp d x y)):=by
 refine⟨hc.1.set _ _ _,fun i j hi hj=>?_⟩;rw [FN hc.1 hx hy];split
 ·rename_i e;rw [if_pos (by omega),e.1,e.2]
 ·rename_i e;rw [hc.2 i j hi hj];by_cases h1:j<y\/(j=y/\i<x)
  ·rw [if_pos h1,if_pos (by omega)]
  ·rw [if_neg h1,if_neg (by omega)]
theorem Wu.next{w h:Nat}{d:qK}{y:Nat}{cur:qK}(hc:Wu w h d y w cur):Wu w h d (y+1) 0 cur:=⟨hc.1,fun i j hi hj=>by
 rw [hc.2 i j hi hj];by_cases h1:j<y\/(j=y/\i<w)
 ·rw [if_pos h1,if_pos (by omega)]
 ·rw [if_neg h1,if_neg (by omega)]⟩
theorem Wu.fin{w h:Nat}{d:qK}{cur:qK}(hd:jf w h d)(hc:Wu w h d h 0 cur):cur=d:=hc.1.ext hd fun i j hi hj=>by
 rw [hc.2 i j hi hj,if_pos (by omega)]
def yw(c:Int):FD:=.c (.int .u8 c)
abbrev qV:=List (List Int)
def xU(l:qV):List (List FD):=l.map (·.map yw)
def VN(l:qV):DV:=.one (.f (.sl 1 l.length ((xU l).map xn)))
def Kl(c:Int)(k:Nat):Bool:=(IntKind.u8.wrap ((BitVec.ofInt 8 (c.fdiv (2^(min k 8)))&&& BitVec.ofInt 8 1).toNat:Int)==1)
def Jn(l:qV)(x y:Nat):Bool:=match l[y/3]? with
 |some r=>match r[x/2]? with
  |some c=>Kl c (x % 2*3+y % 3)
  |none=>false
 |none=>false
def y8(w h:Nat)(l:qV):qK:=(List.range h).map fun y=>(List.range w).map fun x=>Jn l x y
theorem kf(w h:Nat)(l:qV):jf w h (y8 w h l):=⟨by simp [y8],fun r hr=>by
 simp only [y8,j6] at hr;obtain⟨y,_,rfl⟩:=hr;simp⟩
theorem Vr{w h:Nat}(l:qV){x y:Nat}(hx:x<w)(hy:y<h):yp (y8 w h l) x y=Jn l x y:=by
 simp [yp,y8,hx,hy]
theorem Jl{l:qV}{y:Nat}{r:List Int}(h:l[y]?=some r):(xU l)[y]?=some (r.map yw):=by simp [xU,h]
theorem I6{r:List Int}{x:Nat}{b:Int}(h:r[x]?=some b):(r.map yw)[x]?=some (yw b):=by simp [h]
theorem Ct{a:Int}{b:Int}(h:0<=a):a.tmod b=a % b:=nK h
theorem Td{a:Int}{b:Int}(h:0<=a):a.tdiv b=a/b:=DP h
def Tv(r i k x y:Nat):Prop:=y/3<r\/(y/3=r/\(x/2<i\/(x/2=i/\x % 2*3+y % 3<k)))
instance (r i k x y:Nat):Decidable (Tv r i k x y):=by unfold Tv;infer_instance
def bJ(a:Int)(k:Nat):Int:=IntKind.u8.wrap ((BitVec.ofInt 8 a|||BitVec.ofInt 8 (IntKind.u8.wrap (1*2^(min k 8)))).toNat:Int)
def zA(d:qK)(r i:Nat):Nat->Int
 |0=>0
 |k+1=>if yp d (2*i+k/3) (3*r+k % 3)=true then bJ (zA d r i k) k else zA d r i k
def rowAt(d:qK)(q r i k:Nat):List Int:=(List.range q).map fun t=>if t<i then zA d r t 6 else if t=i then zA d r i k else 0
def Xn(n m:Nat)(d:qK):qV:=(List.range (m/3)).map fun r=>(List.range (n/2)).map fun i=>zA d r i 6
theorem j8(d:qK)(q r i k:Nat):(rowAt d q r i k).length=q:=by simp [rowAt]
theorem v7(d:qK){q r i k t:Nat}(ht:t<q):(rowAt d q r i k)[t]?=some (if t<i then zA d r t 6 else if t=i then zA d r i k else 0):=by simp [rowAt,ht]
theorem CV(d:qK)(q r:Nat):rowAt d q r 0 0=List.replicate q 0:=by
 refine vF fun t=>?_;by_cases ht:t<q
 ·rw [v7 d ht,Zu,if_pos ht,if_neg (by omega)];split<;>rfl
 ·rw [yJ (by rw [j8];omega),yJ (by simp;omega)]
theorem NE(d:qK){q r i k:Nat}(hd:yp d (2*i+k/3) (3*r+k % 3)=true):(rowAt d q r i k).set i (bJ (zA d r i k) k)=rowAt d q r i (k+1):=by
 refine vF fun t=>?_;by_cases ht:t<q
 ·rw [Q4,v7 d ht,v7 d ht];by_cases e:i=t
  ·subst e;rw [if_pos rfl,if_pos (by rw [j8];omega),if_neg (by omega),if_pos rfl,zA,if_pos hd]
  ·have e':¬t=i:=fun h=>e h.symm;rw [if_neg e];simp only [if_neg e']
 ·rw [yJ (by rw [jG,j8];omega),yJ (by rw [j8];omega)]
theorem G7(d:qK){q r i k:Nat}(hd:yp d (2*i+k/3) (3*r+k % 3)=false):rowAt d q r i (k+1)=rowAt d q r i k:=by
 simp only [rowAt,zA,hd,yz,if_false]
theorem G8(d:qK)(q r i:Nat):rowAt d q r (i+1) 0=rowAt d q r i 6:=by
 refine vF fun t=>?_;by_cases ht:t<q
 ·rw [v7 d ht,v7 d ht];by_cases h1:t<i
  ·rw [if_pos (by omega),if_pos h1]
  ·rw [if_neg h1];by_cases h2:t=i
   ·subst h2;rw [if_pos (by omega),if_pos rfl]
   ·rw [if_neg (by omega),if_neg h2];split<;>rfl
 ·rw [yJ (by rw [j8];omega),yJ (by rw [j8];omega)]
theorem NF(d:qK)(q r k:Nat):rowAt d q r q k=(List.range q).map fun i=>zA d r i 6:=by
 refine vF fun t=>?_;by_cases ht:t<q
 ·rw [v7 d ht,if_pos ht];simp [ht]
 ·rw [yJ (by rw [j8];omega),yJ (by simp;omega)]
theorem i7(X:qV)(y:Nat)(r:List Int):(xU X).set y (r.map yw)=xU (X.set y r):=by simp [xU,eQ]
theorem DI{X:qV}{y:Nat}{r:List Int}(x:Nat)(c:Int):(xU (X.set y r)).set y ((r.map yw).set x (.c (.int .u8 c)))=xU (X.set y (r.set x c)):=by
 rw [show (r.map yw).set x (.c (.int .u8 c))=(r.set x c).map yw by simp [eQ,yw],i7,List.set_set]
theorem Kj(X:qV):(xU X).length=X.length:=by simp [xU]
theorem NG(n:Nat):jx [.c (.int .u8 0)] n=(List.replicate n (0:Int)).map yw:=by rw [YZ];simp [yw]
def Fj:DV:=.tup [.one (.f (.c .nils)),.int 1]
def ZL(b:Nat->Bool):Nat->Int
 |0=>0
 |k+1=>if b k=true then bJ (ZL b k) k else ZL b k
theorem CB(d:qK)(r i:Nat):∀k,zA d r i k=ZL (fun k=>yp d (2*i+k/3) (3*r+k % 3)) k
 |0=>rfl
 |k+1=>by simp only [zA,ZL,CB d r i k]
theorem bT{b b':Nat->Bool}:∀{k:Nat},(∀j,j<k->b j=b' j)->ZL b k=ZL b' k
 |0,_=>rfl
 |k+1,h=>by
  simp only [ZL];rw [bT (k:=k) fun j hj=>h j (by omega),h k (by omega)]
theorem I4:∀c:Fin 64,ZL (Kl (c.val:Int)) 6=(c.val:Int):=by decide+kernel
theorem i8:ZL (fun _=>false) 6=0:=rfl
theorem DJ{n m:Nat}{l:qV}(hp:∀r∈l,∀c∈r,0<=c/\c<64){r i:Nat}(hr:3*r+2<m)(hi:2*i+1<n):zA (y8 n m l) r i 6=match l[r]? with
 |some row=>(row[i]?).getD 0
 |none=>0:=by
 have key:∀k,k<6->yp (y8 n m l) (2*i+k/3) (3*r+k % 3)=match l[r]? with
  |some row=>match row[i]? with
   |some c=>Kl c k
   |none=>false
  |none=>false:=fun k hk=>by
  rw [Vr l (by omega) (by omega)];have e1:(3*r+k % 3)/3=r:=oM;have e2:(2*i+k/3)/2=i:=oM;have e3:(2*i+k/3) % 2*3+(3*r+k % 3) % 3=k:=oM;simp only [Jn,e1,e2,e3]
  try (cases l[r]? with
   |none=>rfl
   |some row=>cases hri:row[i]?<;>simp only [hri])
 rw [CB,bT key];cases hrow:l[r]? with
 |none=>simp only;exact i8
 |some row=>
  simp only;cases hc:row[i]? with
  |none=>simp only;exact i8
  |some c=>
   simp only [QB];obtain⟨h1,h2⟩:=hp row (zmg hrow) c (zmg hc);have:=I4 ⟨c.toNat,oM⟩;simp only [LY h1] at this;exact this
theorem U8{w h:Nat}{d:qK}(hw:w<=200)(hh:h<=200)(hd:jf w h d):DK 202 [f8 w h d] fun d=>d=.bool true:=by
 refine va fun Z0 lo=>?_;have hl:=hd.1;have g1:decide ((w:Int)<0)=false:=sM;have g2:decide ((w:Int)>200)=false:=by simp;omega
 have g3:decide ((h:Int)<0)=false:=sM;have g4:decide ((h:Int)>200)=false:=by simp;omega
 have g5:(((d.length:Nat):Int)!=(h:Int))=false:=by simp [hl]
 refine zh ?_;intros;refine qd O (fun ht=>by cases ht) (fun _=>?_);refine qa ?_;intros;refine qu (fun m E S nk=>∃k:Nat,k+m=d.length/\E=[(1,.one (.ptr 0 0)),(32,.one (.f (.sl 1 d.length ((zt d).map xn)))),(33,.int d.length),(34,.int k)]/\S=[(0,.cells [.f (.c (.int .i64 w)),.f (.c (.int .i64 h)),.f (.sl 1 d.length ((zt d).map xn))])]/\nk=1) ⟨d.length,_,_,_,[],?wk,0,oM,O,O,O⟩ ?_
 case wk=>exact qs
 rintro m E S nk ⟨k,hk,rfl,rfl,rfl⟩;refine qa ?_;intros;refine qd O (fun ht=>?_) (fun ht=>?_)
 ·simp at ht;obtain⟨r,hr,hrl⟩:=hd.row (y:=k) oM;have e1:=ZP (WH hr);have e2:((((r.map zY).length:Nat):Int)!=(w:Int))=false:=by simp [hrl]
  refine zh ?_;intros;refine qd O (fun ht=>by cases ht) (fun _=>?_);refine qa ?_;intros;refine⟨m-1,oM,_,_,_,[],?wk1,k+1,oM,O,O,O⟩
  case wk1=>exact qs
 ·simp at ht;exact QK
theorem Sl{n m:Nat}{d:qK}(hn:n<=200)(hm:m<=200)(hd:jf n m d):DK 192 [f8 n m d] fun e=>(n % 2=0/\m % 3=0/\e=.tup [VN (Xn n m d),.int 0])\/(¬(n % 2=0/\m % 3=0)/\e=Fj):=by
 refine Of ?_;intros;refine x6 O O (U8 hn hm hd) ?_;intros;refine qd O (fun ht=>?_) (fun ht=>?_)
 ·simp only [Bool.if_true_left,JL,Ce,yA,decide_eq_false_iff_not,Ct (eO n),Ct (eO m),bne_iff_ne] at ht;refine qa ?_;intros;exact qb ⟨_,O,O,.inr ⟨oM,O⟩⟩
 ·have ht':¬_:=fun h=>Bool.false_ne_true (ht.symm.trans h);simp only [Bool.if_true_left,JL,yA,Ct (eO n),Ct (eO m),bne_iff_ne] at ht';have hn2:n % 2=0:=oM;have hm3:m % 3=0:=oM;clear ht ht';have hdl:=hd.1;have hw2:IntKind.i64.wrap ((n:Int).tdiv 2)=((n/2:Nat):Int):=by rw [Td (by omega),qm (by omega) (by omega)];omega
  have hw3:IntKind.i64.wrap ((m:Int).tdiv 3)=((m/3:Nat):Int):=by rw [Td (by omega),qm (by omega) (by omega)];omega
  refine qa ?_;intros;rw [hw3];refine A0 (n:=m/3) O O oM oM ?_;refine qa ?_;intros;refine qx (qg (k:=1) O (qg (k:=4) O (qg (k:=28) O (qg (k:=29) O (qv _))))) (wC _) ?_;refine qu (fun k E S nk=>∃r:Nat,r+k=m/3/\∃cur:qV,cur.length=m/3/\(∀j,j<r->cur[j]?=some ((List.range (n/2)).map fun i=>zA d j i 6))/\E=[(1,.one (.ptr 0 0)),(4,.one (.own 1 0 (m/3) 1)),(28,.int (m/3:Nat)),(29,.int r)]/\S=[(0,.cells [.f (.c (.int .i64 n)),.f (.c (.int .i64 m)),.f (.sl 1 d.length ((zt d).map xn))]),(1,.tree (xU cur))]/\nk=2) ⟨m/3,_,_,_,[],?wk,0,by omega,List.replicate (m/3) [],by simp,by omega,rfl,rfl,rfl⟩ ?_
  case wk=>exact⟨by repeat (first|exact trivial|refine⟨rfl,rfl,?_⟩),⟨rfl,rfl,rfl,congrArg (fun z=>some (Bk.tree z)) (by simp [xU]),rfl,rfl,trivial⟩,rfl,rfl⟩
  rintro k E S nk ⟨r,hr,cur,hcl,hcur,rfl,rfl,rfl⟩;refine qa ?_;intros;refine qd rfl (fun ht=>?_) (fun ht=>?_)
  ·simp at ht;have ht:r<m/3:=oM;refine qa ?_;intros;rw [hw2];refine aJ [.c (.int .u8 0)] rfl rfl ⟨rfl,rfl,trivial⟩ rfl qr (qz _) oM oM ?_;refine qa ?_;intros;refine AS (o:=r) rfl rfl rfl rfl (by rw [jI];simp) (by rw [Kj];omega) rfl ?_;rw [NG,i7,<-CV d (n/2) r];have hget:∀row,(cur.set r row)[r]?=some row:=fun row=>by rw [Q4,if_pos rfl,if_pos (by omega)]
   have e1:=Jl (hget (rowAt d (n/2) r 0 0));refine qa ?_;intros;refine qx (qg (k:=1) rfl (qg (k:=4) rfl (qg (k:=5) rfl (qg (k:=28) rfl (qg (k:=29) rfl (qg (k:=43) rfl (qg (k:=44) rfl (qv _)))))))) (wC _) ?_;refine qu (fun k2 E S nk=>∃i:Nat,i+k2=n/2/\E=[(1,.one (.ptr 0 0)),(4,.one (.own 3 0 (m/3) 1)),(5,.int r),(28,.int (m/3:Nat)),(29,.int r),(43,.int (n/2:Nat)),(44,.int i)]/\S=[(0,.cells [.f (.c (.int .i64 n)),.f (.c (.int .i64 m)),.f (.sl 1 d.length ((zt d).map xn))]),(3,.tree (xU (cur.set r (rowAt d (n/2) r i 0))))]/\nk=4) ⟨n/2,_,_,_,[],?wk1,0,oM,rfl,rfl,rfl⟩ ?_
   case wk1=>exact⟨⟨rfl,rfl,rfl,rfl,rfl,rfl,rfl,rfl,rfl,rfl,congrArg (fun z:Nat=>some (DV.int z)) (by simp [j8]),rfl,rfl,rfl,trivial⟩,by repeat (first|exact trivial|refine⟨rfl,rfl,rfl,?_⟩),rfl,rfl⟩
   rintro k2 E S nk ⟨i,hi,rfl,rfl,rfl⟩;refine qa ?_;intros;refine qd rfl (fun ht3=>?_) (fun ht3=>?_)
   ·simp at ht3;have ht3:i<n/2:=oM;refine qa ?_;intros;refine qx (qg (k:=1) rfl (qg (k:=4) rfl (qg (k:=5) rfl (qg (k:=6) rfl (qg (k:=28) rfl (qg (k:=29) rfl (qg (k:=43) rfl (qg (k:=44) rfl (qg (k:=47) rfl (qv _)))))))))) (wC _) ?_;refine qu (fun k3 E S nk=>∃j:Nat,j+k3=6/\E=[(1,.one (.ptr 0 0)),(4,.one (.own 3 0 (m/3) 1)),(5,.int r),(6,.int i),(28,.int (m/3:Nat)),(29,.int r),(43,.int (n/2:Nat)),(44,.int i),(47,.int j)]/\S=[(0,.cells [.f (.c (.int .i64 n)),.f (.c (.int .i64 m)),.f (.sl 1 d.length ((zt d).map xn))]),(3,.tree (xU (cur.set r (rowAt d (n/2) r i j))))]/\nk=4) ⟨6,_,_,_,[],?wk2,0,oM,rfl,rfl,rfl⟩ ?_
    case wk2=>exact qs
    rintro k3 E S nk ⟨j,hj,rfl,rfl,rfl⟩;refine qa ?_;intros;refine qd rfl (fun ht5=>?_) (fun ht5=>?_)
    ·simp at ht5;have hy:3*r+j % 3<m:=oM;have hx:2*i+j/3<n:=oM;obtain⟨q,hq,hql,hqx⟩:=hd.cell hx hy;have e2:=ZP (WH hq);have e3:=JV (CF hqx);have l2:2*i+j/3<(q.map zY).length:=by simp;omega
     have e4:=Jl (hget (rowAt d (n/2) r i j));have e5:=I6 (show (rowAt d (n/2) r i j)[i]?=some (zA d r i j) by rw [v7 d ht3,if_neg (by omega),if_pos rfl]);have l3:i<((rowAt d (n/2) r i j).map yw).length:=by rw [xX,j8];exact ht3
     have hset:=DI (X:=cur) (y:=r) (r:=rowAt d (n/2) r i j) i (bJ (zA d r i j) j);have hst:=NE d (q:=n/2) (r:=r) (i:=i) (k:=j);have hsk:=G7 d (q:=n/2) (r:=r) (i:=i) (k:=j);have w1:IntKind.i64.wrap (3*(r:Int))=((3*r:Nat):Int):=by rw [qm (by omega) (by omega)];omega
     have w2:IntKind.i64.wrap (2*(i:Int))=((2*i:Nat):Int):=by rw [qm (by omega) (by omega)];omega
     have hj6:j=0\/j=1\/j=2\/j=3\/j=4\/j=5:=oM;rcases hj6 with rfl|rfl|rfl|rfl|rfl|rfl
     ·have w3:IntKind.i64.wrap (((3*r:Nat):Int)+0)=((3*r+0 % 3:Nat):Int):=by rw [qm (by omega) (by omega)];omega
      have w4:IntKind.i64.wrap (((2*i:Nat):Int)+0)=((2*i+0/3:Nat):Int):=by rw [qm (by omega) (by omega)];omega
      refine qa ?_;intros;rw [w1,w3];refine qa ?_;intros;rw [w2,w4];refine qa ?_;intros;refine qd (t:=yp d (2*i+0/3) (3*r+0 % 3)) rfl (fun hb=>?_) (fun hb=>?_)
      ·refine qa ?_;intros;refine Yq (i:=r) (o:=i) (x:=.c (.int .u8 (bJ (zA d r i 0) 0))) rfl rfl rfl e4 l3 rfl ?_;rw [hset,hst hb];refine qa ?_;intros;refine⟨k3-1,oM,_,_,_,[],?wk3,0+1,oM,rfl,rfl,rfl⟩
       case wk3=>exact qs
      ·rw [<-hsk hb];refine qa ?_;intros;refine⟨k3-1,oM,_,_,_,[],?wk3,0+1,oM,rfl,rfl,rfl⟩
       case wk3=>exact qs
     ·have w3:IntKind.i64.wrap (((3*r:Nat):Int)+1)=((3*r+1 % 3:Nat):Int):=by rw [qm (by omega) (by omega)];omega
      have w4:IntKind.i64.wrap (((2*i:Nat):Int)+0)=((2*i+1/3:Nat):Int):=by rw [qm (by omega) (by omega)];omega
      refine qa ?_;intros;rw [w1,w3];refine qa ?_;intros;rw [w2,w4];refine qa ?_;intros;refine qd (t:=yp d (2*i+1/3) (3*r+1 % 3)) rfl (fun hb=>?_) (fun hb=>?_)
      ·refine qa ?_;intros;refine Yq (i:=r) (o:=i) (x:=.c (.int .u8 (bJ (zA d r i 1) 1))) rfl rfl rfl e4 l3 rfl ?_;rw [hset,hst hb];refine qa ?_;intros;refine⟨k3-1,oM,_,_,_,[],?wk3,1+1,oM,rfl,rfl,rfl⟩
       case wk3=>exact qs
      ·rw [<-hsk hb];refine qa ?_;intros;refine⟨k3-1,oM,_,_,_,[],?wk3,1+1,oM,rfl,rfl,rfl⟩
       case wk3=>exact qs
     ·have w3:IntKind.i64.wrap (((3*r:Nat):Int)+2)=((3*r+2 % 3:Nat):Int):=by rw [qm (by omega) (by omega)];omega
      have w4:IntKind.i64.wrap (((2*i:Nat):Int)+0)=((2*i+2/3:Nat):Int):=by rw [qm (by omega) (by omega)];omega
      refine qa ?_;intros;rw [w1,w3];refine qa ?_;intros;rw [w2,w4];refine qa ?_;intros;refine qd (t:=yp d (2*i+2/3) (3*r+2 % 3)) rfl (fun hb=>?_) (fun hb=>?_)
      ·refine qa ?_;intros;refine Yq (i:=r) (o:=i) (x:=.c (.int .u8 (bJ (zA d r i 2) 2))) rfl rfl rfl e4 l3 rfl ?_;rw [hset,hst hb];refine qa ?_;intros;refine⟨k3-1,oM,_,_,_,[],?wk3,2+1,oM,rfl,rfl,rfl⟩
       case wk3=>exact qs
      ·rw [<-hsk hb];refine qa ?_;intros;refine⟨k3-1,oM,_,_,_,[],?wk3,2+1,oM,rfl,rfl,rfl⟩
       case wk3=>exact qs
     ·have w3:IntKind.i64.wrap (((3*r:Nat):Int)+0)=((3*r+3 % 3:Nat):Int):=by rw [qm (by omega) (by omega)];omega
      have w4:IntKind.i64.wrap (((2*i:Nat):Int)+1)=((2*i+3/3:Nat):Int):=by rw [qm (by omega) (by omega)];omega
      refine qa ?_;intros;rw [w1,w3];refine qa ?_;intros;rw [w2,w4];refine qa ?_;intros;refine qd (t:=yp d (2*i+3/3) (3*r+3 % 3)) rfl (fun hb=>?_) (fun hb=>?_)
      ·refine qa ?_;intros;refine Yq (i:=r) (o:=i) (x:=.c (.int .u8 (bJ (zA d r i 3) 3))) rfl rfl rfl e4 l3 rfl ?_;rw [hset,hst hb];refine qa ?_;intros;refine⟨k3-1,oM,_,_,_,[],?wk3,3+1,oM,rfl,rfl,rfl⟩
       case wk3=>exact qs
      ·rw [<-hsk hb];refine qa ?_;intros;refine⟨k3-1,oM,_,_,_,[],?wk3,3+1,oM,rfl,rfl,rfl⟩
       case wk3=>exact qs
     ·have w3:IntKind.i64.wrap (((3*r:Nat):Int)+1)=((3*r+4 % 3:Nat):Int):=by rw [qm (by omega) (by omega)];omega
      have w4:IntKind.i64.wrap (((2*i:Nat):Int)+1)=((2*i+4/3:Nat):Int):=by rw [qm (by omega) (by omega)];omega
      refine qa ?_;intros;rw [w1,w3];refine qa ?_;intros;rw [w2,w4];refine qa ?_;intros;refine qd (t:=yp d (2*i+4/3) (3*r+4 % 3)) rfl (fun hb=>?_) (fun hb=>?_)
      ·refine qa ?_;intros;refine Yq (i:=r) (o:=i) (x:=.c (.int .u8 (bJ (zA d r i 4) 4))) rfl rfl rfl e4 l3 rfl ?_;rw [hset,hst hb];refine qa ?_;intros;refine⟨k3-1,oM,_,_,_,[],?wk3,4+1,oM,rfl,rfl,rfl⟩
       case wk3=>exact qs
      ·rw [<-hsk hb];refine qa ?_;intros;refine⟨k3-1,oM,_,_,_,[],?wk3,4+1,oM,rfl,rfl,rfl⟩
       case wk3=>exact qs
     ·have w3:IntKind.i64.wrap (((3*r:Nat):Int)+2)=((3*r+5 % 3:Nat):Int):=by rw [qm (by omega) (by omega)];omega
      have w4:IntKind.i64.wrap (((2*i:Nat):Int)+1)=((2*i+5/3:Nat):Int):=by rw [qm (by omega) (by omega)];omega
      refine qa ?_;intros;rw [w1,w3];refine qa ?_;intros;rw [w2,w4];refine qa ?_;intros;refine qd (t:=yp d (2*i+5/3) (3*r+5 % 3)) rfl (fun hb=>?_) (fun hb=>?_)
      ·refine qa ?_;intros;refine Yq (i:=r) (o:=i) (x:=.c (.int .u8 (bJ (zA d r i 5) 5))) rfl rfl rfl e4 l3 rfl ?_;rw [hset,hst hb];refine qa ?_;intros;refine⟨k3-1,oM,_,_,_,[],?wk3,5+1,oM,rfl,rfl,rfl⟩
       case wk3=>exact qs
      ·rw [<-hsk hb];refine qa ?_;intros;refine⟨k3-1,oM,_,_,_,[],?wk3,5+1,oM,rfl,rfl,rfl⟩
       case wk3=>exact qs
    ·simp at ht5;obtain rfl:j=6:=by omega
     rw [<-G8];refine qa ?_;intros;refine⟨k2-1,oM,_,_,_,[],?wk4,i+1,oM,rfl,rfl,rfl⟩
     case wk4=>exact qs
   ·simp at ht3;obtain rfl:i=n/2:=by omega
    rw [NF];refine qa ?_;intros;refine⟨k-1,by omega,_,_,_,[(1,3)],?wk5,r+1,by omega,cur.set r ((List.range (n/2)).map fun i=>zA d r i 6),by simpa using hcl,fun t ht=>?_,rfl,rfl,rfl⟩
    case wk5=>exact qs
    rw [Q4];by_cases e:r=t
    ·subst e;rw [if_pos rfl,if_pos (by omega)]
    ·rw [if_neg e];exact hcur t (by omega)
  ·simp at ht;obtain rfl:r=m/3:=by omega
   have hfin:cur=Xn n m d:=by
    refine vF fun t=>?_;by_cases ht:t<m/3
    ·rw [hcur t ht];simp [Xn,ht]
    ·rw [yJ (by omega),yJ (by simp [Xn];omega)]
   subst hfin;have hlen:m/3=(xU (Xn n m d)).length:=by rw [Kj];exact hcl.symm
   refine qx (qg (k:=4) rfl (qv _)) (qg (k:=1) rfl (qv _)) ?_;refine XF 1 rfl qo qo ?_;refine qa ?_;intros;refine qb ⟨_,rfl,rfl,.inl ⟨hn2,hm3,?_⟩⟩;simp only [VN,hcl];rfl
end Go.Ai
