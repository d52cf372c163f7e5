/- -/
import Derived.Test.YtbfbplnghpdmhaaGreatDoorAb7
set_option linter.unusedSimpArgs false
set_option linter.unusedVariables false
namespace Go.Ab
def xN{α:Type}(l:List α)(o n:Nat):Option (List α):=match Nat.ble (o+n) l.length with
 |true=>some ((l.drop o).take n)
 |false=>none
theorem zW{α:Type}{l r:List α}{o n:Nat}(h:xN l o n=some r):o+n<=l.length/\r=(l.drop o).take n:=by
 unfold xN at h;split at h
 ·rename_i e;exact⟨Nat.le_of_ble_eq_true e,(zsi h).symm⟩
 ·cases h
theorem yE{α:Type}{l:List α}{o n:Nat}(h:o+n<=l.length):xN l o n=some ((l.drop o).take n):=by
 unfold xN;rw [Nat.ble_eq_true_of_le h]
def fV(agg:Bool)(off n:Nat)(l:List DC):Option DV:=
 match agg with
 |true=>match xN l off n with
  |some r=>some (.agg r)
  |none=>none
 |false=>match l[off]? with
  |some c=>some (.one c)
  |none=>none
def W7:DV->Option (List DC)
 |.one c=>some [c]
 |.agg l=>some l
 |.tup _=>none
def KE(E:qp):List DC->List (Nat × Nat × Opd)->Option (List DC)
 |z,[]=>some z
 |z,(off,size,x)::r=>match ro E x with
  |none=>none
  |some d=>match W7 d with
   |none=>none
   |some cs=>match Nat.beq cs.length size,Nat.ble (off+size) z.length with
    |true,true=>KE E (z.take off++cs++z.drop (off+size)) r
    |_,_=>none
def mJ(E:qp)(o:Opd):Option V:=match ro E o with
 |some d=>bG d
 |none=>none
def rx(E:qp)(o:Opd):Opd:=match mJ E o with
 |some v=>.c v
 |none=>o
def tM(E:qp)(o:Opd):Bool:=(mJ E o).isSome
def qW{α:Type}(f:α->Bool):List α->Bool
 |[]=>true
 |x::l=>match f x with
  |true=>qW f l
  |false=>false
theorem yk{α:Type}{f:α->Bool}:∀{l:List α},qW f l=true->∀x∈l,f x=true
 |[],_,x,hx=>by cases hx
 |y::l,h,x,hx=>by
  simp only [qW] at h;split at h
  ·rename_i e;rcases List.mem_cons.1 hx with rfl|hx
   ·exact e
   ·exact yk h x hx
  ·cases h
def TJ:Option V->Option DV
 |some (.one (.int k n))=>some (.one (.f (.c (.int k n))))
 |some (.one (.bool b))=>some (.one (.f (.c (.bool b))))
 |some (.one c)=>some (.one (QM c))
 |some (.agg l)=>some (.agg (l.map QM))
 |_=>none
def MO(E:qp)(op:PureOp):Option DV:=match qW (tM E) op.opds with
 |true=>TJ (qy .lf (op.mp (rx E)))
 |false=>none
def fX(E:qp):List Opd->Option (List (Nat × Nat))
 |[]=>some []
 |x::l=>match ro E x,fX E l with
  |some (.one (.ptr k o)),some r=>some ((k,o)::r)
  |_,_=>none
def xO(j:Int)(len:Nat):Option Nat:=match j with
 |.ofNat n=>match Nat.blt n len with
  |true=>some n
  |false=>none
 |.negSucc _=>none
theorem CO{j:Int}{len n:Nat}(h:xO j len=some n):j=n/\n<len:=by
 unfold xO at h;split at h
 ·split at h
  ·rename_i e;obtain rfl:=zsi h;exact⟨rfl,Nat.le_of_ble_eq_true e⟩
  ·cases h
 ·cases h
def UH:DC->Option DV
 |.own _ _ n _=>some (.int n)
 |.trow _ _ _ n=>some (.int n)
 |.f (.sl _ n _)=>some (.int n)
 |.f (.c .nils)=>some (.int 0)
 |_=>none
def ji(E:qp):PureOp->Option DV
 |.mv x=>ro E x
 |.build z ps=>match KE E (z.map QM) ps with
  |some l=>some (.agg l)
  |none=>none
 |.nilck x=>match ro E x with
  |some (.one (.ptr k o))=>some (.one (.ptr k o))
  |some (.one (.g b o))=>some (.one (.g b o))
  |some (.one (.fptr l))=>some (.one (.fptr l))
  |some (.one (.tptr k i o))=>some (.one (.tptr k i o))
  |some (.one (.fn f l))=>some (.one (.fn f l))
  |some (.one (.f (.c (.fn f l))))=>some (.one (.f (.c (.fn f l))))
  |_=>none
 |.mkfn f caps=>match fX E caps with
  |some []=>some (.one (.f (.c (.fn f []))))
  |some l=>some (.one (.fn f l))
  |none=>none
 |.faddr off x=>match ro E x with
  |some (.one (.ptr k o))=>some (.one (.ptr k (o+off)))
  |some (.one (.g b o))=>some (.one (.g b (o+off)))
  |some (.one (.fptr l))=>some (.one (.fptr (l.drop off)))
  |_=>none
 |.field agg off n x=>match ro E x with
  |some (.agg l)=>fV agg off n l
  |_=>none
 |.aaddr len esz x i=>match ro E x,ro E i with
  |some (.one (.ptr k o)),some (.one (.f (.c (.int _ j))))=>match xO j len with
   |some n=>some (.one (.ptr k (o+n*esz)))
   |none=>none
  |some (.one (.fptr l)),some (.one (.f (.c (.int _ j))))=>match xO j len with
   |some n=>some (.one (.fptr (l.drop (n*esz))))
   |none=>none
  |some (.one (.g b o)),some (.one (.f (.c (.int _ j))))=>match xO j len with
   |some n=>some (.one (.g b (o+n*esz)))
   |none=>none
  |_,_=>none
 |.aindex len esz agg x i=>match ro E x,ro E i with
  |some (.agg l),some (.one (.f (.c (.int _ j))))=>match xO j len with
   |some n=>fV agg (n*esz) esz l
   |none=>none
  |_,_=>none
 |.extract x i=>match ro E x with
  |some (.tup l)=>l[i]?
  |_=>none
 |.len x=>match ro E x with
  |some (.one d)=>UH d
  |_=>none
 |.nileq neg x=>match ro E x with
  |some (.one (.f (.c .nils)))=>some (.bool !neg)
  |some (.one (.f (.sl _ (_+1) _)))=>some (.bool neg)
  |some (.one (.own _ _ (_+1) _))=>some (.bool neg)
  |_=>none
 |op=>MO E op
section
variable{Z:Nat->Prop}{H:Hp}{β:qw}{E:qp}{F:T V}
theorem qcd(h:ER Z β H E F){o:Opd}(ho:tM E o=true):(rx E o).ev .lf=o.ev F:=by
 unfold tM at ho;obtain⟨v,hv⟩:=Option.isSome_iff_exists.1 ho;simp only [rx,hv,Opd.ev];unfold mJ at hv;split at hv
 ·rename_i d hd;exact (C9 hv (xg h hd)).symm
 ·cases hv
theorem qaE(h:ER Z β H E F){op:PureOp}{d:DV}(hd:MO E op=some d):∃v,qy F op=some v/\xG Z H β d v:=by
 unfold MO at hd;split at hd
 ·rename_i hall;rw [pI (F:=F) fun o ho=>qcd h (yk hall o ho)] at hd;unfold TJ at hd;split at hd
  ·rename_i hc;obtain rfl:=zsi hd;exact⟨_,hc,_,rfl,.c _ rfl⟩
  ·rename_i hc;obtain rfl:=zsi hd;exact⟨_,hc,_,rfl,.c _ rfl⟩
  ·rename_i c _ _ hc;obtain rfl:=zsi hd;exact⟨_,hc,c,rfl,gO c⟩
  ·rename_i l hc;obtain rfl:=zsi hd;exact⟨_,hc,l,rfl,Xe l⟩
  ·cases hd
 ·cases hd
theorem mU{agg:Bool}{off n:Nat}{l:List DC}{cs:List C}(hr:qg (RD Z H β) l cs){d:DV}(hd:fV agg off n l=some d):∃v,JG agg off n cs=some v/\xG Z H β d v:=by
 unfold fV at hd;split at hd
 ·split at hd
  ·rename_i r hs;obtain rfl:=zsi hd;obtain⟨h1,rfl⟩:=zW hs;refine⟨.agg ((cs.drop off).take n),?_,_,rfl,(hr.drop off).take n⟩;simp only [JG,if_true];rw [if_pos (by rw [<-hr.len];exact h1)]
  ·cases hd
 ·split at hd
  ·rename_i c hc;obtain rfl:=zsi hd;obtain⟨x,hx,hrx⟩:=hr.at off c hc;refine⟨.one x,?_,x,rfl,hrx⟩;simp [JG,hx]
  ·cases hd
theorem W6{d:DV}{v:V}{l:List DC}(hr:xG Z H β d v)(hl:W7 d=some l):∃cs,jG v=some cs/\qg (RD Z H β) l cs:=by
 cases d with
 |one d=>obtain⟨c,rfl,hr⟩:=hr;obtain rfl:=zsi hl;exact⟨_,rfl,hr,trivial⟩
 |agg l'=>obtain⟨c,rfl,hr⟩:=hr;obtain rfl:=zsi hl;exact⟨_,rfl,hr⟩
 |tup l'=>cases hl
theorem VH(h:ER Z β H E F):∀{ps:List (Nat × Nat × Opd)} {z l:List DC} {zs:List C},qg (RD Z H β) z zs->KE E z ps=some l->∃cs,yy F zs ps=some cs/\qg (RD Z H β) l cs
 |[],z,l,zs,hz,hl=>by obtain rfl:=zsi hl;exact⟨zs,rfl,hz⟩
 |(off,size,x)::r,z,l,zs,hz,hl=>by
  simp only [KE] at hl;split at hl
  ·cases hl
  ·rename_i d hd;split at hl
   ·cases hl
   ·rename_i cs hcs;split at hl
    ·rename_i e1 e2;obtain⟨ks,hk1,hk2⟩:=W6 (xg h hd) hcs;have e1':=Nat.eq_of_beq_eq_true e1;have e2':=Nat.le_of_ble_eq_true e2;obtain⟨cs',g1,g2⟩:=VH h (((hz.take off).append hk2).append (hz.drop (off+size))) hl;refine⟨cs',?_,g2⟩;simp only [yy,hk1];rw [if_pos ⟨by rw [<-hk2.len];exact e1',by rw [<-hz.len];exact e2'⟩];exact g1
    ·cases hl
theorem VQ(h:ER Z β H E F):∀{l:List Opd} {r:List (Nat × Nat)},fX E l=some r->∃r',kJ F l=some r'/\jW β r r'
 |[],r,hr=>by obtain rfl:=zsi hr;exact⟨[],rfl,trivial⟩
 |x::l,r,hr=>by
  simp only [fX] at hr;split at hr
  ·rename_i k o r0 h1 h2;obtain rfl:=zsi hr;obtain⟨r',g1,g2⟩:=VQ h h2;obtain⟨c,hc,b,N,hb,rfl⟩:=xg h h1;exact⟨(b,o)::r',by simp only [kJ,hc,g1],rfl,⟨N,hb⟩,g2⟩
  ·cases hr
theorem LQ{l:List FD}{b o:Nat}{cs:List C}(h1:H.loads b o l.length=some cs)(h2:qg (RF Z H) l cs)(off:Nat):∃cs',H.loads b (o+off) (l.drop off).length=some cs'/\qg (RF Z H) (l.drop off) cs':=by
 by_cases ho:off<=l.length
 ·refine⟨cs.drop off,?_,h2.drop off⟩;rw [List.length_drop];exact QW h1 ho
 ·refine⟨[],?_,?_⟩
  ·rw [List.length_drop,show l.length-off=0 by omega];rfl
  ·rw [List.drop_of_length_le (by omega)];trivial
theorem HS(h:ER Z β H E F){op:PureOp}{d:DV}(hd:ji E op=some d):∃v,qy F op=some v/\xG Z H β d v:=by
 cases op with
 |mv x=>exact⟨_,rfl,xg h hd⟩
 |build z ps=>
  simp only [ji] at hd;split at hd
  ·rename_i l hl;obtain rfl:=zsi hd;obtain⟨cs,h1,h2⟩:=VH h (Xe z) hl;exact⟨.agg cs,by simp [qy,h1],cs,rfl,h2⟩
  ·cases hd
 |nilck x=>
  simp only [ji] at hd;split at hd
  all_goals try (cases hd;done)
  all_goals (rename_i hx;obtain rfl:=zsi hd;have hr:=xg h hx)
  ·obtain⟨c,hc,b,N,hb,rfl⟩:=hr;exact⟨_,by simp only [qy,hc],_,rfl,b,N,hb,rfl⟩
  ·obtain⟨c,hc,rfl⟩:=hr;exact⟨_,by simp only [qy,hc],_,rfl,rfl⟩
  ·obtain⟨c,hc,b,o,cs,rfl,h2⟩:=hr;exact⟨_,by simp only [qy,hc],_,rfl,b,o,cs,rfl,h2⟩
  ·obtain⟨c,hc,b,N,hb,rfl⟩:=hr;exact⟨_,by simp only [qy,hc],_,rfl,b,N,hb,rfl⟩
  ·obtain⟨c,hc,l',rfl,h2⟩:=hr;exact⟨_,by simp only [qy,hc],_,rfl,l',rfl,h2⟩
  ·obtain⟨c,hc,h2⟩:=hr;cases h2;rename_i h2;exact⟨_,by simp only [qy,hc],_,rfl,.c _ h2⟩
 |mkfn f caps=>
  simp only [ji] at hd;split at hd
  ·rename_i hc;obtain rfl:=zsi hd;obtain⟨r',h1,h2⟩:=VQ h hc;cases r' with
   |nil=>exact⟨.one (.fn f []),by simp [qy,h1],_,rfl,.c _ rfl⟩
   |cons _ _=>exact h2.elim
  ·rename_i l _ hc;obtain rfl:=zsi hd;obtain⟨r',h1,h2⟩:=VQ h hc;exact⟨.one (.fn f r'),by simp [qy,h1],_,rfl,r',rfl,h2⟩
  ·cases hd
 |faddr off x=>
  simp only [ji] at hd;split at hd
  all_goals try (cases hd;done)
  all_goals (rename_i hx;obtain rfl:=zsi hd;have hr:=xg h hx)
  ·obtain⟨c,hc,b,N,hb,rfl⟩:=hr;exact⟨_,by simp only [qy,hc],_,rfl,b,N,hb,rfl⟩
  ·obtain⟨c,hc,rfl⟩:=hr;exact⟨_,by simp only [qy,hc],_,rfl,rfl⟩
  ·obtain⟨c,hc,b,o,cs,rfl,h2,h3,h4⟩:=hr;obtain⟨cs',g1,g2⟩:=LQ h3 h4 off;exact⟨_,by simp only [qy,hc],_,rfl,b,_,cs',rfl,h2,g1,g2⟩
 |field agg off n x=>
  simp only [ji] at hd;split at hd
  ·rename_i l hx;obtain⟨cs,hc,hr⟩:=xg h hx;obtain⟨v,h1,h2⟩:=mU hr hd;exact⟨v,by simp only [qy,hc,h1],h2⟩
  ·cases hd
 |aaddr len esz x i=>
  simp only [ji] at hd;split at hd
  all_goals try (cases hd;done)
  all_goals
   split at hd
   all_goals try (cases hd;done)
   rename_i hx hi _ n hn;obtain rfl:=zsi hd;obtain⟨ci,hci,hri⟩:=xg h hi;cases hri;obtain⟨rfl,hlt⟩:=CO hn;have hr:=xg h hx
  ·obtain⟨c,hc,b,N,hb,rfl⟩:=hr;refine⟨_,by simp only [qy,hc,hci];rw [if_pos ⟨by omega,by omega⟩,Int.toNat_natCast],_,rfl,b,N,hb,rfl⟩
  ·obtain⟨c,hc,b,o,cs,rfl,h2,h3,h4⟩:=hr;obtain⟨cs',g1,g2⟩:=LQ h3 h4 (n*esz);refine⟨_,by simp only [qy,hc,hci];rw [if_pos ⟨by omega,by omega⟩,Int.toNat_natCast],_,rfl,b,_,cs',rfl,h2,g1,g2⟩
  ·obtain⟨c,hc,rfl⟩:=hr;exact⟨_,by simp only [qy,hc,hci];rw [if_pos ⟨by omega,by omega⟩,Int.toNat_natCast],_,rfl,rfl⟩
 |aindex len esz agg x i=>
  simp only [ji] at hd;split at hd
  ·rename_i hx hi;split at hd
   ·rename_i n hn;obtain⟨cs,hc,hr⟩:=xg h hx;obtain⟨ci,hci,hri⟩:=xg h hi;cases hri;obtain⟨rfl,hlt⟩:=CO hn;obtain⟨v,h1,h2⟩:=mU hr hd;exact⟨v,by simp only [qy,hc,hci];rw [if_pos ⟨by omega,by omega⟩,Int.toNat_natCast,h1],h2⟩
   ·cases hd
  ·cases hd
 |extract x i=>
  simp only [ji] at hd;split at hd
  ·rename_i l hx;obtain⟨vs,hc,hr⟩:=xg h hx;obtain⟨v,h1,h2⟩:=hr.at i d hd;exact⟨v,by simp only [qy,hc,h1],xG.of1 h2⟩
  ·cases hd
 |len x=>
  simp only [ji] at hd;split at hd
  ·rename_i e hx;obtain⟨c,hc,hr⟩:=xg h hx;unfold UH at hd;split at hd
   ·obtain rfl:=zsi hd;rcases hr with⟨_,rfl,_,rfl⟩|⟨b,N,cap,ex,_,rfl,_⟩
    ·exact⟨_,by simp only [qy,hc,X6];rfl,_,rfl,.c _ rfl⟩
    ·exact⟨_,by simp only [qy,hc,X6],_,rfl,.c _ rfl⟩
   ·obtain rfl:=zsi hd;rcases hr with⟨_,rfl,_,rfl⟩|⟨b,N,cap,ex,_,rfl,_⟩
    ·exact⟨_,by simp only [qy,hc,X6];rfl,_,rfl,.c _ rfl⟩
    ·exact⟨_,by simp only [qy,hc,X6],_,rfl,.c _ rfl⟩
   ·obtain rfl:=zsi hd;cases hr with
    |nil=>exact⟨_,by simp only [qy,hc,X6];rfl,_,rfl,.c _ rfl⟩
    |sl=>exact⟨_,by simp only [qy,hc,X6],_,rfl,.c _ rfl⟩
   ·obtain rfl:=zsi hd;cases hr;exact⟨_,by simp only [qy,hc,X6],_,rfl,.c _ rfl⟩
   ·cases hd
  ·cases hd
 |nileq neg x=>
  simp only [ji] at hd;split at hd
  all_goals try (cases hd;done)
  all_goals (rename_i hx;obtain rfl:=zsi hd;obtain⟨c,hc,hr⟩:=xg h hx)
  ·cases hr;exact⟨_,by simp only [qy,hc],_,rfl,.c _ rfl⟩
  ·cases hr with
   |sl=>exact⟨_,by simp only [qy,hc],_,rfl,.c _ rfl⟩
  ·rcases hr with⟨_,h0,_⟩|⟨b,N,cap,ex,_,rfl,_⟩
   ·cases h0
   ·exact⟨_,by simp only [qy,hc],_,rfl,.c _ rfl⟩
 |_=>exact qaE h hd
end
def wB(β:qw)(k:Nat)(s:Slot):qw:=fun j=>if j=(k,0) then some s else β j
theorem xy(β:qw)(k:Nat)(s:Slot):wB β k s (k,0)=some s:=by simp [wB]
theorem yq(β:qw){k:Nat}{j:zF}(s:Slot)(h:j≠(k,0)):wB β k s j=β j:=by simp [wB,h]
theorem Qi(β:qw){k:Nat}{j:zF}(s:Slot)(h:j.1≠k):wB β k s j=β j:=yq β s fun e=>h (by rw [e])
theorem Jo{k:Nat}{x:Bk}(hx:x.flat=true)(S:Bx)(κ:zF):qR ((k,x)::S) κ=if κ.1=k then (if κ.2=0 then some x else none) else qR S κ:=by
 obtain⟨j,i⟩:=κ;by_cases h:j=k
 ·subst h;have hl:lk ((j,x)::S) j=some x:=by rw [qT,if_pos rfl]
  simp only [if_true];cases i with
  |zero=>rw [xV hl hx,if_pos rfl]
  |succ i=>
   rw [if_neg (by simp)];cases h2:qR ((j,x)::S) (j,i+1) with
   |none=>rfl
   |some y=>exact absurd (lF hl hx h2).1 (by simp)
 ·simp only [if_neg h];exact ya (by rw [qT,if_neg (fun e=>h e.symm)])
theorem QB(k:Nat)(S:Bx)(κ:zF):qR (zE k S) κ=if κ.1=k then none else qR S κ:=by
 by_cases h:κ.1=k
 ·rw [if_pos h];exact F5 (by rw [yT,if_pos h])
 ·rw [if_neg h];exact ya (by rw [yT,if_neg h])
theorem Zt{k:Nat}{x x':Bk}{S:Bx}(hk:lk S k=some x)(hx':x'.flat=true)(κ:zF):qR (put k x' S) κ=if κ.1=k then (if κ.2=0 then some x' else none) else qR S κ:=by
 obtain⟨j,i⟩:=κ;by_cases h:j=k
 ·subst h;have hl:lk (put j x' S) j=some x':=by rw [yF,if_pos rfl,hk];rfl
  simp only [if_true];cases i with
  |zero=>rw [xV hl hx',if_pos rfl]
  |succ i=>
   rw [if_neg (by simp)];cases h2:qR (put j x' S) (j,i+1) with
   |none=>rfl
   |some y=>exact absurd (lF hl hx' h2).1 (by simp)
 ·simp only [if_neg h];exact ya (by rw [yF,if_neg h])
theorem v8{κ:zF}{k:Nat}(h1:κ.1=k)(h2:κ.2=0):κ=(k,0):=by obtain⟨a,b⟩:=κ;simp only at h1 h2;rw [h1,h2]
section
variable{p:Par}{Z:Nat->Prop}{β:qw}{H H':Hp}{S:Bx}{nk:Nat}
theorem SR.ble(h:SR p Z β H S nk)(s:Slot):xP β (wB β nk s):=fun k t hk=>by
 by_cases e:k.1=nk
 ·rw [h.nk k (by omega)] at hk;cases hk
 ·rw [Qi _ _ e];exact hk
theorem SR.lt(h:SR p Z β H S nk){k:Nat}{x:Bk}(hk:lk S k=some x):k<nk:=by
 have:∃y,qR S (k,0)=some y:=by
  simp only [qR,hk];cases x with
  |tree rows=>exact⟨_,rfl⟩
  |mp ks l=>exact⟨_,rfl⟩
  |mt es=>exact⟨_,rfl⟩
  |cells l=>exact⟨_,rfl⟩
  |data l=>exact⟨_,rfl⟩
 obtain⟨y,hy⟩:=this;obtain⟨s,hs,_⟩:=h.box (k,0) y hy;by_cases e:nk<=k
 ·rw [h.nk (k,0) e] at hs;cases hs
 ·omega
theorem SR.lt1(h:SR p Z β H S nk){κ:zF}{s:Slot}(hk:β κ=some s):κ.1<nk:=by
 by_cases e:nk<=κ.1
 ·rw [h.nk κ e] at hk;cases hk
 ·omega
theorem jd.mono{x:Bk}{s:Slot}{β':qw}(hb:xP β β')(hnx:H.nx<=H'.nx)(hg:∀b,(Z b\/∃N,s=.blk b N)->H'.get b=H.get b)(h:jd p Z H β x s):jd p Z H' β' x s:=by
 cases s with
 |nil=>exact h
 |blk b N=>
  obtain⟨h1,h2,h3,cs,rest,h4,h5,h6⟩:=h;exact⟨h1,h2,by omega,cs,rest,h4.same (hg b (.inr ⟨N,rfl⟩)),h5,Bk.rel_mono (xo.of_get (fun _ h=>h) fun b hb=>hg b (.inl hb)) hb h6⟩
theorem SR.newB(h:SR p Z β H S nk){x:Bk}{b N0:Nat}(hfl:x.flat=true)(hbx:∀β',xP β β'->xo Z H Z H'->jd p Z H' β' x (.blk b N0))(hz:¬Z b)(hβ:∀κ N,β κ≠some (.blk b N))(hlo:p.lo<=b)(hb:b<H'.nx)(hnx:H.nx<=H'.nx)(hw:WF H')(hg:∀b',b'≠b->H'.get b'=H.get b'):
 SR p Z (wB β nk (.blk b N0)) H' ((nk,x)::S) (nk+1)/\xo Z H Z H'/\xP β (wB β nk (.blk b N0)):=by
 have hzg:∀b',Z b'->H'.get b'=H.get b':=fun b' hb'=>hg b' fun e=>hz (e▸hb');have hZ:xo Z H Z H':=xo.of_get (fun _ h=>h) hzg;have hB:=h.ble (.blk b N0);refine⟨⟨hw,Nat.le_trans h.lo hnx,fun b' hb'=>Nat.lt_of_lt_of_le (h.z b' hb') hnx,h.zlo,h.zz,fun b' bk hb'=>?_,fun k hk=>?_,fun k b' N hk=>?_,fun k y hk=>?_,fun k k' y y' b' N N' hk hk' hs hs'=>?_,fun k b' N hk=>?_,fun κ hκ h0=>by rw [Qi _ _ (by have:=h.ancn;omega)];exact h.anch κ hκ h0,Nat.le_succ_of_le h.ancn⟩,hZ,hB⟩
 ·obtain⟨h1,h2⟩:=h.glob b' bk hb';exact⟨h1,by rw [hzg b' h1];exact h2⟩
 ·rw [Qi _ _ (by omega)];exact h.nk k (by omega)
 ·by_cases e:k=(nk,0)
  ·subst e;rw [xy] at hk;obtain⟨rfl,rfl⟩:=Slot.blk.inj (zsi hk);exact hb
  ·rw [yq _ _ e] at hk;exact Nat.lt_of_lt_of_le (h.bd k b' N hk) hnx
 ·rw [Jo hfl] at hk;split at hk
  ·rename_i e;split at hk
   ·rename_i e2;obtain rfl:=v8 e e2;obtain rfl:=zsi hk;exact⟨_,xy _ _ _,hbx _ hB hZ⟩
   ·cases hk
  ·obtain⟨s,hs,hbx⟩:=h.box k y hk;refine⟨s,hB k s hs,hbx.mono hB hnx fun b' hb'=>?_⟩;rcases hb' with hb'|⟨N,rfl⟩
   ·exact hzg b' hb'
   ·exact hg b' fun e=>hβ k N (by rw [hs,e])
 ·by_cases e1:k=(nk,0)
  ·by_cases e2:k'=(nk,0)
   ·rw [e1,e2]
   ·rw [yq _ _ e2] at hs';rw [e1,xy] at hs;obtain⟨rfl,rfl⟩:=Slot.blk.inj (zsi hs);exact absurd hs' (hβ _ _)
  ·rw [yq _ _ e1] at hs;by_cases e2:k'=(nk,0)
   ·rw [e2,xy] at hs';obtain⟨rfl,rfl⟩:=Slot.blk.inj (zsi hs');exact absurd hs (hβ _ _)
   ·rw [yq _ _ e2] at hs';have n1:=h.lt1 hs;have n2:=h.lt1 hs';rw [qT,if_neg (by omega)] at hk hk';exact h.inj k k' y y' b' N N' hk hk' hs hs'
 ·by_cases e:k=(nk,0)
  ·subst e;rw [xy] at hk;obtain⟨rfl,rfl⟩:=Slot.blk.inj (zsi hk);exact hlo
  ·rw [yq _ _ e] at hk;exact h.blo k b' N hk
theorem SR.new(h:SR p Z β H S nk){x:Bk}{b:Nat}{cs rest:List C}(hsh:x.shape=none)(hx:x.rel Z H β cs)(hz:¬Z b)(hβ:∀κ N,β κ≠some (.blk b N))(hlo:p.lo<=b)(hb:b<H'.nx)(hnx:H.nx<=H'.nx)(hw:WF H')(hg:∀b',b'≠b->H'.get b'=H.get b')(hr:xX H' b (cs++rest)):
 SR p Z (wB β nk (.blk b (cs++rest).length)) H' ((nk,x)::S) (nk+1)/\xo Z H Z H'/\xP β (wB β nk (.blk b (cs++rest).length)):=
 h.newB (Bk.rel_flat hx) (fun β' hB hZ=>⟨hz,hlo,hb,cs,rest,by rw [hsh];exact hr,Yi.of hsh rfl,Bk.rel_mono hZ hB hx⟩) hz hβ hlo hb hnx hw hg
theorem SR.updK(h:SR p Z β H S nk){k b N:Nat}{x x':Bk}{cs rest:List C}(hk:lk S k=some x)(hfl:x.flat=true)(hs:β (k,0)=some (.blk b N))(hx:x'.rel Z H β cs)(hg:∀b',b'≠b->H'.get b'=H.get b')(hnx:H'.nx=H.nx)(hr:nZ x'.shape H' b (cs++rest))(hN:Yi x'.shape (cs++rest).length N rest):
 SR p Z β H' (put k x' S) nk/\xo Z H Z H':=by
 obtain⟨s,hs',hbx⟩:=h.box (k,0) x (xV hk hfl);rw [hs] at hs';obtain rfl:=zsi hs';obtain⟨hz,hlo,hlt,_⟩:=hbx;have hzg:∀b',Z b'->H'.get b'=H.get b':=fun b' hb'=>hg b' fun e=>hz (e▸hb');have hZ:xo Z H Z H':=xo.of_get (fun _ h=>h) hzg;refine⟨⟨fun b' bk hb'=>?_,by rw [hnx];exact h.lo,fun b' hb'=>by rw [hnx];exact h.z b' hb',h.zlo,h.zz,fun b' bk hb'=>?_,h.nk,fun k b' N hk=>by rw [hnx];exact h.bd k b' N hk,fun j y hj=>?_,fun j j' y y' b' M M' hj hj' hsj hsj'=>?_,h.blo,h.anch,h.ancn⟩,hZ⟩
 ·rw [hnx];by_cases e:b'=b
  ·omega
  ·rw [hg b' e] at hb';exact h.wf b' bk hb'
 ·obtain⟨h1,h2⟩:=h.glob b' bk hb';exact⟨h1,by rw [hzg b' h1];exact h2⟩
 ·rw [Zt hk (Bk.rel_flat hx)] at hj;split at hj
  ·rename_i e;split at hj
   ·rename_i e2;obtain rfl:=v8 e e2;obtain rfl:=zsi hj;exact⟨_,hs,hz,hlo,by omega,cs,rest,hr,hN,Bk.rel_mono hZ (xP.refl _) hx⟩
   ·cases hj
  ·rename_i e;obtain⟨s,hsj,hbj⟩:=h.box j y hj;obtain⟨z,hz⟩:=yG hj;refine⟨s,hsj,hbj.mono (xP.refl _) (by omega) fun b' hb'=>?_⟩;rcases hb' with hb'|⟨M,rfl⟩
   ·exact hzg b' hb'
   ·exact hg b' fun e'=>e (by rw [h.inj j (k,0) z x b M N hz hk (e'▸hsj) hs])
 ·rw [yF] at hj hj';have f:∀i z,(if i=k then Option.map (fun _=>x') (lk S i) else lk S i)=some z->∃z',lk S i=some z':=fun i z hz=>by
   split at hz
   ·cases hl:lk S i with
    |none=>rw [hl] at hz;cases hz
    |some q=>exact⟨q,rfl⟩
   ·exact⟨z,hz⟩
  obtain⟨z1,e1⟩:=f j.1 y hj;obtain⟨z2,e2⟩:=f j'.1 y' hj';exact h.inj j j' z1 z2 b' M M' e1 e2 hsj hsj'
theorem SR.upd(h:SR p Z β H S nk){k b N:Nat}{x x':Bk}{cs rest:List C}(hk:lk S k=some x)(hfl:x.flat=true)(hs:β (k,0)=some (.blk b N))(hx:x'.rel Z H β cs)(hg:∀b',b'≠b->H'.get b'=H.get b')(hnx:H'.nx=H.nx)(hsh:x'.shape=none)(hr:xX H' b (cs++rest))(hN:(cs++rest).length=N):
 SR p Z β H' (put k x' S) nk/\xo Z H Z H':=h.updK hk hfl hs hx hg hnx (by rw [hsh];exact hr) (Yi.of hsh hN)
theorem SR.replace(h:SR p Z β H S nk){k:Nat}{x x':Bk}{b:Nat}{cs rest:List C}(hk:lk S k=some x)(hfl:x.flat=true)(hx:x'.rel Z H β cs)(hb:(∃N,β (k,0)=some (.blk b N))\/(¬Z b/\(∀κ N,β κ≠some (.blk b N))/\p.lo<=b))(hbl:b<H'.nx)(hnx:H.nx<=H'.nx)(hw:WF H')(hg:∀b',b'≠b->(∀N,β (k,0)≠some (.blk b' N))->H'.get b'=H.get b')(hsh:x'.shape=none)(hr:xX H' b (cs++rest)):
 SR p Z (wB β nk (.blk b (cs++rest).length)) H' ((nk,x')::zE k S) (nk+1)/\xo Z H Z H'/\xP β (wB β nk (.blk b (cs++rest).length)):=by
 have hkn:=h.lt hk;obtain⟨sk,hsk,hbk⟩:=h.box (k,0) x (xV hk hfl);have hzk:∀b' N,Z b'->β (k,0)≠some (.blk b' N):=fun b' N hz e=>by
  rw [hsk] at e;obtain rfl:=zsi e;exact hbk.1 hz
 have hzb:¬Z b:=by
  rcases hb with⟨N,hN⟩|⟨hz,_⟩
  ·exact fun hz=>hzk b N hz hN
  ·exact hz
 have hlob:p.lo<=b:=by
  rcases hb with⟨N,hN⟩|⟨_,_,hlo⟩
  ·rw [hsk] at hN;obtain rfl:=zsi hN;exact hbk.2.1
  ·exact hlo
 have hzg:∀b',Z b'->H'.get b'=H.get b':=fun b' hb'=>hg b' (fun e=>hzb (e▸hb')) fun N=>hzk b' N hb';have hZ:xo Z H Z H':=xo.of_get (fun _ h=>h) hzg;have hB:=h.ble (.blk b (cs++rest).length);have hoth:∀(j:zF) y N,lk S j.1=some y->j.1≠k->β j≠some (.blk b N):=fun j y N hj hjk e=>by
  rcases hb with⟨M,hM⟩|⟨_,hno,_⟩
  ·exact hjk (by rw [h.inj j (k,0) y x b N M hj hk e hM])
  ·exact hno j N e
 refine⟨⟨hw,Nat.le_trans h.lo hnx,fun b' hb'=>Nat.lt_of_lt_of_le (h.z b' hb') hnx,h.zlo,h.zz,fun b' bk hb'=>?_,fun k hk=>?_,fun k b' N hk=>?_,fun j y hj=>?_,fun j j' y y' b' N N' hj hj' hs hs'=>?_,fun k b' N hk=>?_,fun κ hκ h0=>by rw [Qi _ _ (by have:=h.ancn;omega)];exact h.anch κ hκ h0,Nat.le_succ_of_le h.ancn⟩,hZ,hB⟩
 ·obtain⟨h1,h2⟩:=h.glob b' bk hb';exact⟨h1,by rw [hzg b' h1];exact h2⟩
 ·rw [Qi _ _ (by omega)];exact h.nk k (by omega)
 ·by_cases e:k=(nk,0)
  ·subst e;rw [xy] at hk;obtain⟨rfl,rfl⟩:=Slot.blk.inj (zsi hk);exact hbl
  ·rw [yq _ _ e] at hk;exact Nat.lt_of_lt_of_le (h.bd k b' N hk) hnx
 ·rw [Jo (Bk.rel_flat hx),QB] at hj;split at hj
  ·rename_i e;split at hj
   ·rename_i e2;obtain rfl:=v8 e e2;obtain rfl:=zsi hj;exact⟨_,xy _ _ _,hzb,hlob,hbl,cs,rest,by rw [hsh];exact hr,Yi.of hsh rfl,Bk.rel_mono hZ hB hx⟩
   ·cases hj
  ·split at hj
   ·cases hj
   ·rename_i e e2;obtain⟨s,hs,hbx⟩:=h.box j y hj;obtain⟨z,hz⟩:=yG hj;refine⟨s,hB j s hs,hbx.mono hB hnx fun b' hb'=>?_⟩;rcases hb' with hb'|⟨N,rfl⟩
    ·exact hzg b' hb'
    ·exact hg b' (fun e'=>hoth j z N hz e2 (e'▸hs)) fun M eM=>e2 (by rw [h.inj j (k,0) z x b' N M hz hk hs eM])
 ·have live:∀(κ:zF) w s,lk ((nk,x')::zE k S) κ.1=some w->κ≠(nk,0)->β κ=some s->lk S κ.1=some w/\κ.1≠k:=fun κ w s hl hne hs=>by
   have:=h.lt1 hs;rw [qT,if_neg (by omega),yT] at hl;split at hl
   ·cases hl
   ·exact⟨hl,by assumption⟩
  by_cases e1:j=(nk,0)
  ·by_cases e2:j'=(nk,0)
   ·rw [e1,e2]
   ·rw [yq _ _ e2] at hs';rw [e1,xy] at hs;obtain⟨rfl,rfl⟩:=Slot.blk.inj (zsi hs);obtain⟨l1,l2⟩:=live j' y' _ hj' e2 hs';exact absurd hs' (hoth j' y' N' l1 l2)
  ·rw [yq _ _ e1] at hs;obtain⟨l1,l2⟩:=live j y _ hj e1 hs;by_cases e2:j'=(nk,0)
   ·rw [e2,xy] at hs';obtain⟨rfl,rfl⟩:=Slot.blk.inj (zsi hs');exact absurd hs (hoth j y N l1 l2)
   ·rw [yq _ _ e2] at hs';obtain⟨l3,l4⟩:=live j' y' _ hj' e2 hs';exact h.inj j j' y y' b' N N' l1 l3 hs hs'
 ·by_cases e:k=(nk,0)
  ·subst e;rw [xy] at hk;obtain⟨rfl,rfl⟩:=Slot.blk.inj (zsi hk);exact hlob
  ·rw [yq _ _ e] at hk;exact h.blo k b' N hk
end
abbrev Wt:=List (Nat × Option (zF × Nat × Nat))
def WR(Z:Nat->Prop)(β:qw)(H:Hp):Option (zF × Nat × Nat)->(Hp->Prop)->Prop
 |none,q=>∃b,Z b/\∀H':Hp,(∀i c,H.cell b i=some c->H'.cell b i=some c)->q H'
 |some (k,o,n),q=>∃b N,β k=some (.blk b N)/\∀H':Hp,(∀i c,o<=i->i<o+n->H.cell b i=some c->H'.cell b i=some c)->q H'
def CR(W:Wt)(Z:Nat->Prop)(β:qw)(H:Hp)(c:zR):Prop:=∀x∈c,∃y∈W,WR Z β H y.2 x.2
def AR(p:Par)(base rs:Nat)(A:List Nat)(Z:Nat->Prop)(β:qw)(H:Hp):Prop:=p.lo<=base/\∀j,j<rs->j∉A->base+j<H.nx/\H.get (base+j)=none/\¬Z (base+j)/\∀k N,β k≠some (.blk (base+j) N)
structure DPW (p:Par) (base rs:Nat) (Q:qp->Bx->Nat->Prop) (l:List SOper) (W:Wt) (A:List Nat) (E:qp) (S:Bx) (nk:Nat):Prop where
 run:∀Z β H F c,SR p Z β H S nk->ER Z β H E F->CR W Z β H c->AR p base rs A Z β H->
  qE p.P p.G base (fun F' H'=>∃E' S' nk' Z' β',SR p Z' β' H' S' nk'/\ER Z' β' H' E' F'/\Q E' S' nk') l c F H
section
variable{Z Z':Nat->Prop}{β β':qw}{H H':Hp}{W:Wt}{c:zR}
theorem CR.watch(h:CR W Z β H c)(ws:List Nat):zA ws c H:=J1 fun x hx=>by
 obtain⟨y,_,hy⟩:=h x hx;obtain⟨_,y2⟩:=y
 match y2,hy with
 |none,⟨b,_,hq⟩=>exact hq H fun _ _ h=>h
 |some (k,o,n),⟨b,N,_,hq⟩=>exact hq H fun _ _ _ _ h=>h
theorem CR.step(h:CR W Z β H c)(hZ:xo Z H Z' H')(hB:xP β β')(hk:∀y∈W,∀k o n,y.2=some (k,o,n)->∀b N i x,β k=some (.blk b N)->o<=i->i<o+n->H.cell b i=some x->H'.cell b i=some x):CR W Z' β' H' c:=fun x hx=>by
 obtain⟨y,hy,hw⟩:=h x hx;refine⟨y,hy,?_⟩;obtain⟨y1,y2⟩:=y
 match y2,hw,hy with
 |none,⟨b,hb,hq⟩,_=>exact⟨b,(hZ b hb).1,fun H'' hh=>hq H'' fun i c hc=>hh i c ((hZ b hb).2 i c hc)⟩
 |some (k,o,n),⟨b,N,hb,hq⟩,hy=>exact⟨b,N,hB k _ hb,fun H'' hh=>hq H'' fun i c h1 h2 hc=>hh i c h1 h2 (hk _ hy k o n rfl b N i c hb h1 h2 hc)⟩
theorem CR.same(h:CR W Z β H c)(hZ:xo Z H Z' H')(hB:xP β β')(hg:∀b,b<H.nx->H'.get b=H.get b)(hw:WF H):CR W Z' β' H' c:=h.step hZ hB fun y hy k o n e b N i x hb _ _ hx=>by
 unfold Hp.cell at hx ⊢;cases hgb:H.get b with
 |none=>simp [hgb] at hx
 |some bk=>rw [hg b (hw b bk hgb)];exact hx
end
def jH(S:Bx)(k:Nat):Wt->Bool
 |[]=>true
 |(_,none)::r=>jH S k r
 |(_,some ((j,_),_,_))::r=>match lk S j with
  |none=>false
  |some _=>match Nat.beq j k with
   |true=>false
   |false=>jH S k r
def OX:Option Bk->Bool
 |some (.tree _)=>false
 |some (.mp _ _)=>false
 |some (.mt _)=>false
 |_=>true
def YE(S:Bx)(k:Nat)(W:Wt):Bool:=match OX (lk S k) with
 |true=>jH S k W
 |false=>false
theorem gJ{S:Bx}{k:Nat}{W:Wt}{x:Bk}(h:YE S k W=true)(hk:lk S k=some x):x.flat=true:=by
 unfold YE at h;rw [hk] at h;cases x with
 |tree rows=>cases h
 |mp ks l=>cases h
 |mt es=>cases h
 |cells l=>rfl
 |data l=>rfl
theorem o3{S:Bx}{k:Nat}{W:Wt}{x:Bk}(h:YE S k W=true)(hk:lk S k=some x):x.shape=none:=by
 unfold YE at h;rw [hk] at h;cases x with
 |tree rows=>cases h
 |mp ks l=>cases h
 |mt es=>cases h
 |cells l=>rfl
 |data l=>rfl
theorem Xd{S:Bx}{k:Nat}:∀{W:Wt},jH S k W=true->∀y∈W,∀(j:zF) o n,y.2=some (j,o,n)->(∃x,lk S j.1=some x)/\j.1≠k
 |[],_,y,hy=>by cases hy
 |(i,none)::r,h,y,hy=>by
  rcases List.mem_cons.1 hy with rfl|hy
  ·intro j o n e;cases e
  ·exact Xd (W:=r) h y hy
 |(i,some ((j',j2),o',n'))::r,h,y,hy=>by
  simp only [jH] at h;split at h
  ·cases h
  ·rename_i x hx;split at h
   ·cases h
   ·rename_i e;rcases List.mem_cons.1 hy with rfl|hy
    ·intro j o n e';obtain⟨rfl,_⟩:=Prod.mk.inj (zsi e');exact⟨⟨x,hx⟩,fun h=>by simp only at h;subst h;simp at e⟩
    ·exact Xd (W:=r) h y hy
theorem NS{S:Bx}{k:Nat}{W:Wt}(h:YE S k W=true):∀y∈W,∀(j:zF) o n,y.2=some (j,o,n)->(∃x,lk S j.1=some x)/\j.1≠k:=by
 unfold YE at h;split at h
 ·exact Xd h
 ·cases h
section
variable{p:Par}{base rs:Nat}{Q:qp->Bx->Nat->Prop}{r:List SOper}{W:Wt}{A:List Nat}{E:qp}{S:Bx}{nk:Nat}{id:Nat}{dst:Option Nat}{aid:Option Nat}{ws:List Nat}{keep:Bool}
theorem yI(h:Q E S nk):DPW p base rs Q [] W A E S nk:=.mk fun Z β H F c hS hE _ _=>⟨E,S,nk,Z,β,hS,hE,h⟩
theorem zJ{op:PureOp}{d:DV}(hd:ji E op=some d)(h:DPW p base rs Q r W A (xn E dst d) S nk):DPW p base rs Q (⟨id,dst,.p op,none,aid,ws,keep⟩::r) W A E S nk:=.mk fun Z β H F c hS hE hC hA=>by
 obtain⟨v,hv,hr⟩:=HS hE hd;simp only [qE,qv,if_true,hv];exact h.run Z β H _ c hS (hE.set dst hr) hC hA
theorem Q1{op:PureOp}{d:DV}(hd:∀{Z β H F},ER Z β H E F->∃v,qy F op=some v/\xG Z H β d v)(h:DPW p base rs Q r W A (xn E dst d) S nk):DPW p base rs Q (⟨id,dst,.p op,none,aid,ws,keep⟩::r) W A E S nk:=.mk fun Z β H F c hS hE hC hA=>by
 obtain⟨v,hv,hr⟩:=hd hE;simp only [qE,qv,if_true,hv];exact h.run Z β H _ c hS (hE.set dst hr) hC hA
theorem kh{Z:Nat->Prop}{β:qw}{H:Hp}{c:C}(hc:c.closed=true):xG Z H β (.one (.f (.c c))) (.one c):=⟨c,rfl,.c c hc⟩
theorem zS{Z:Nat->Prop}{β:qw}{H:Hp}{F:T V}(hE:ER Z β H E F){o:Opd}{c:C}(h:ro E o=some (.one (.f (.c c)))):o.ev F=.one c:=by
 obtain⟨x,hx,hr⟩:=xg hE h;cases hr;exact hx
theorem WS{x y:Opd}{k:IntKind}{a b:Int}(hx:ro E x=some (.one (.f (.c (.int k a)))))(hy:ro E y=some (.one (.f (.c (.int k b)))))(h:DPW p base rs Q r W A (xn E dst (.one (.f (.c (.int k (max a b)))))) S nk):DPW p base rs Q (⟨id,dst,.p (.mm true x y),none,aid,ws,keep⟩::r) W A E S nk:=by
 refine Q1 (fun {Z β H F} hE=>⟨.one (.int k (max a b)),?_,kh rfl⟩) h;simp only [qy,zS hE hx,zS hE hy,if_true];congr 3;split<;>omega
theorem WQ{x y:Opd}{k:IntKind}{a b:Int}(hx:ro E x=some (.one (.f (.c (.int k a)))))(hy:ro E y=some (.one (.f (.c (.int k b)))))(h:DPW p base rs Q r W A (xn E dst (.one (.f (.c (.int k (min a b)))))) S nk):DPW p base rs Q (⟨id,dst,.p (.mm false x y),none,aid,ws,keep⟩::r) W A E S nk:=by
 refine Q1 (fun {Z β H F} hE=>⟨.one (.int k (min a b)),?_,kh rfl⟩) h;simp only [qy,zS hE hx,zS hE hy,if_true,Bool.false_eq_true,if_false];congr 3;split<;>omega
theorem Qa{x y:Opd}{k:IntKind}{a b:Int}(hx:ro E x=some (.one (.f (.c (.int k a)))))(hy:ro E y=some (.one (.f (.c (.int k b)))))(hb:b≠0)(h:DPW p base rs Q r W A (xn E dst (.one (.f (.c (.int k (a.tmod b)))))) S nk):DPW p base rs Q (⟨id,dst,.p (.bin .rem x y),none,aid,ws,keep⟩::r) W A E S nk:=
 Q1 (fun {Z β H F} hE=>⟨.one (.int k (a.tmod b)),by simp [qy,zS hE hx,zS hE hy,jU,hb],kh rfl⟩) h
theorem YU{o a b:Opd}{t x y:Bool}(hc:ro E o=some (.bool t))(ha:t=true->ro E a=some (.bool x))(hb:t=false->ro E b=some (.bool y))(h:DPW p base rs Q r W A (xn E dst (.bool (if t=true then x else y))) S nk):DPW p base rs Q (⟨id,dst,.p (.pick o a b),none,aid,ws,keep⟩::r) W A E S nk:=by
 refine Q1 (fun {Z β H F} hE=>⟨.one (.bool (if t=true then x else y)),?_,kh rfl⟩) h
 simp only [qy,zS hE hc];cases t with
 |true=>simp [zS hE (ha rfl)]
 |false=>simp [zS hE (hb rfl)]
theorem ZS{o a b:Opd}{d:DV}(hc:ro E o=some (.bool true))(ha:ro E a=some d)(h:DPW p base rs Q r W A (xn E dst d) S nk):DPW p base rs Q (⟨id,dst,.p (.pick o a b),none,aid,ws,keep⟩::r) W A E S nk:=
 Q1 (fun {Z β H F} hE=>⟨_,by simp only [qy,zS hE hc,if_true],xg hE ha⟩) h
theorem ZT{o a b:Opd}{d:DV}(hc:ro E o=some (.bool false))(hb:ro E b=some d)(h:DPW p base rs Q r W A (xn E dst d) S nk):DPW p base rs Q (⟨id,dst,.p (.pick o a b),none,aid,ws,keep⟩::r) W A E S nk:=
 Q1 (fun {Z β H F} hE=>⟨_,by simp only [qy,zS hE hc,Bool.false_eq_true,if_false],xg hE hb⟩) h
theorem bN{esz:Nat}{x i:Opd}{k o n:Nat}{kd:IntKind}{j:Int}(hx:ro E x=some (.one (.own k o n esz)))(hi:ro E i=some (.one (.f (.c (.int kd j)))))(h0:0<=j)(h1:j<n)(h:DPW p base rs Q r W A (xn E dst (.one (.ptr k (o+j.toNat*esz)))) S nk):DPW p base rs Q (⟨id,dst,.p (.iaddr esz x i),none,aid,ws,keep⟩::r) W A E S nk:=by
 refine Q1 (fun {Z β H F} hE=>?_) h;obtain⟨c,hc,hr⟩:=xg hE hx;rcases hr with⟨_,h2,_⟩|⟨b,N,cap,ex,h2,rfl,_⟩
 ·omega
 ·exact⟨.one (.ptr b (o+j.toNat*esz)),by simp only [qy,hc,zS hE hi,XX];rw [if_pos ⟨trivial,h0,h1⟩],_,rfl,b,N,h2,rfl⟩
theorem WV{esz:Nat}{x i:Opd}{k n:Nat}{kd:IntKind}{j:Int}(hx:ro E x=some (.one (.own k 0 n esz)))(hi:ro E i=some (.one (.f (.c (.int kd j)))))(h0:0<=j)(h1:j<n)(h:DPW p base rs Q r W A (xn E dst (.one (.ptr k (j.toNat*esz)))) S nk):DPW p base rs Q (⟨id,dst,.p (.iaddr esz x i),none,aid,ws,keep⟩::r) W A E S nk:=
 bN hx hi h0 h1 (by rw [Nat.zero_add];exact h)
theorem qcc{Z:Nat->Prop}{H:Hp}{esz n:Nat}{l q:List FD}{c:C}(hr:RF Z H (.sl esz n l) c){j:Nat}(hj:j<n)(he:0<esz)(hq:xN l (j*esz) esz=some q):∃b o cap ex cs,c=.slc b o n cap esz ex/\Z b/\H.loads b (o+j*esz) q.length=some cs/\qg (RF Z H) q cs:=by
 obtain⟨hle,rfl⟩:=zW hq;cases hr with
 |nil=>omega
 |sl hz hl hn hld hel=>
  rename_i b o cap ex cs;refine⟨b,o,cap,ex,(cs.drop (j*esz)).take esz,rfl,hz (Nat.mul_pos (by omega) he),?_,?_⟩
  ·rw [List.length_take,List.length_drop,show min esz (l.length-j*esz)=esz by omega];exact kY hld (by omega)
  ·have hlen:l.length=cs.length:=by rw [hl,jn hld]
   exact ((qg.mk hlen hel).drop _).take _
theorem zV{esz:Nat}{x i:Opd}{n:Nat}{l q:List FD}{kd:IntKind}{j:Nat}(hx:ro E x=some (.one (.f (.sl esz n l))))(hi:ro E i=some (.one (.f (.c (.int kd (j:Nat))))))(h1:j<n)(he:0<esz)(hq:xN l (j*esz) esz=some q)(h:DPW p base rs Q r W A (xn E dst (.one (.fptr q))) S nk):DPW p base rs Q (⟨id,dst,.p (.iaddr esz x i),none,aid,ws,keep⟩::r) W A E S nk:=by
 refine Q1 (fun {Z β H F} hE=>?_) h;obtain⟨c,hc,hr⟩:=xg hE hx;obtain⟨b,o,cap,ex,cs,rfl,hz,hl,ha⟩:=qcc hr h1 he hq;refine⟨.one (.ptr b (o+j*esz)),?_,_,rfl,b,_,cs,rfl,hz,hl,ha⟩;simp only [qy,hc,zS hE hi,XX];rw [if_pos ⟨trivial,by omega,by omega⟩,Int.toNat_natCast]
theorem WW{esz:Nat}{x i:Opd}{n:Nat}{l q:List FD}{kd:IntKind}(hx:ro E x=some (.one (.f (.sl esz n l))))(hi:ro E i=some (.one (.f (.c (.int kd 0)))))(h1:0<n)(he:0<esz)(hq:xN l (0*esz) esz=some q)(h:DPW p base rs Q r W A (xn E dst (.one (.fptr q))) S nk):DPW p base rs Q (⟨id,dst,.p (.iaddr esz x i),none,aid,ws,keep⟩::r) W A E S nk:=zV (j:=0) hx hi h1 he hq h
theorem y6{Z:Nat->Prop}{β:qw}{H:Hp}:xG Z H β .undef V.undef:=⟨[],rfl,trivial⟩
theorem Zu{op:SOp}{g:Nat}{t want:Bool}(hg:lk E g=some (.bool t))(ht:t=want)(h:DPW p base rs Q (⟨id,dst,op,none,aid,ws,keep⟩::r) W A E S nk):DPW p base rs Q (⟨id,dst,op,some (g,want),aid,ws,keep⟩::r) W A E S nk:=.mk fun Z β H F c hS hE hC hA=>by
 have h':=h.run Z β H F c hS hE hC hA;obtain⟨v,hv,x,rfl,hr⟩:=hE g _ hg;cases hr;have hw:qv (some (g,want)) F=true:=by simp [qv,hv,ht]
 rw [qE] at h' ⊢;simp only [qv,if_true] at h';simp only [hw,if_true];exact h'
theorem Zv{op:SOp}{g:Nat}{t want:Bool}(hg:lk E g=some (.bool t))(ht:t=!want)(h:DPW p base rs Q r W A (xn E dst .undef) S nk):DPW p base rs Q (⟨id,dst,op,some (g,want),aid,ws,keep⟩::r) W A E S nk:=.mk fun Z β H F c hS hE hC hA=>by
 obtain⟨v,hv,x,rfl,hr⟩:=hE g _ hg;cases hr;have hw:qv (some (g,want)) F=false:=by simp [qv,hv,ht]
 rw [qE];simp only [hw,Bool.false_eq_true,if_false];exact h.run Z β H _ c hS (hE.set dst y6) hC hA
theorem ZR{op:SOp}{g:Nat}{want:Bool}(hg:lk E g=some .undef)(h:DPW p base rs Q r W A (xn E dst .undef) S nk):DPW p base rs Q (⟨id,dst,op,some (g,want),aid,ws,keep⟩::r) W A E S nk:=.mk fun Z β H F c hS hE hC hA=>by
 obtain⟨v,hv,x,rfl,hr⟩:=hE g _ hg;have hw:qv (some (g,want)) F=false:=by simp [qv,hv]
 rw [qE];simp only [hw,Bool.false_eq_true,if_false];exact h.run Z β H _ c hS (hE.set dst y6) hC hA
theorem MK{op:SOp}{g:Nat}{t want:Bool}(hg:lk E g=some (.bool t))(h1:t=want->DPW p base rs Q (⟨id,dst,op,none,aid,ws,keep⟩::r) W A E S nk)(h2:t=!want->DPW p base rs Q r W A (xn E dst .undef) S nk):DPW p base rs Q (⟨id,dst,op,some (g,want),aid,ws,keep⟩::r) W A E S nk:=by
 by_cases ht:t=want
 ·exact Zu hg ht (h1 ht)
 ·have hb:∀a b:Bool,¬a=b->a=!b:=by decide
  have ht':=hb t want ht;exact Zv hg ht' (h2 ht')
theorem bL{op:PureOp}{d:DV}{g:Nat}{t want:Bool}(hg:lk E g=some (.bool t))(hd:t=want->ji E op=some d)(h:DPW p base rs Q r W A (xn E dst (if t=want then d else .undef)) S nk):DPW p base rs Q (⟨id,dst,.p op,some (g,want),aid,ws,keep⟩::r) W A E S nk:=
 MK hg (fun ht=>zJ (hd ht) (by rw [if_pos ht] at h;exact h)) (fun ht=>by rw [if_neg (by rw [ht];cases want<;>decide)] at h;exact h)
def YH(p:Par)(S:Bx):DC->Nat->Option (List DC)
 |.ptr k o,n=>match lk S k with
  |some (.cells l)=>xN l o n
  |some (.data l)=>match xN l o n with
   |some q=>some (q.map .f)
   |none=>none
  |some (.tree rows)=>xN (zh k 0 rows) o n
  |_=>none
 |.tptr k i o,n=>match lk S k with
  |some (.tree rows)=>match rows[i]? with
   |some r=>match xN r o n with
    |some q=>some (q.map .f)
    |none=>none
   |none=>none
  |_=>none
 |.fptr l,n=>match xN l 0 n with
  |some q=>some (q.map .f)
  |none=>none
 |.g b o,n=>match p.GH.get b,p.GH.loads b o n with
  |some _,some q=>some (q.map QM)
  |_,_=>none
 |_,_=>none
def TF:DC->Nat->Option (zF × Nat × Nat)
 |.ptr k o,n=>some ((k,0),o,n)
 |.tptr k i o,n=>some ((k,i+1),o,n)
 |_,_=>none
theorem vC{Z:Nat->Prop}{H:Hp}{β:qw}:∀{l:List FD} {cs:List C},qg (RF Z H) l cs->qg (RD Z H β) (l.map .f) cs
 |[],[],_=>trivial
 |_::_,_::_,h=>⟨h.1,vC h.2⟩
 |[],_::_,h=>h.elim
 |_::_,[],h=>h.elim
theorem BO{Z:Nat->Prop}{β:qw}{H:Hp}(hS:SR p Z β H S nk){d:DC}{c:C}(hr:RD Z H β d c){n:Nat}{l:List DC}(hl:YH p S d n=some l):
 ∃b o cs,c=.ptr b o/\H.loads b o n=some cs/\qg (RD Z H β) l cs/\∀q:Hp->Prop,(∀H':Hp,(∀i x,o<=i->i<o+n->H.cell b i=some x->H'.cell b i=some x)->q H')->WR Z β H (TF d n) q:=by
 have key:∀{κ:zF} {o:Nat} {x:Bk} {q:List DC},qR S κ=some x->x.shape=none->(∀cs,x.rel Z H β cs->qg (RD Z H β) q ((cs.drop o).take n))->o+n<=x.len->(∃b N,β κ=some (.blk b N)/\c=.ptr b o)->∃b o' cs,c=.ptr b o'/\H.loads b o' n=some cs/\qg (RD Z H β) q cs/\∀q:Hp->Prop,(∀H':Hp,(∀i x,o'<=i->i<o'+n->H.cell b i=some x->H'.cell b i=some x)->q H')->WR Z β H (some (κ,o,n)) q:=by
  intro κ o x q hk hsh hq hle hr;obtain⟨b,N,hb,rfl⟩:=hr;obtain⟨s,hs,hbx⟩:=hS.box κ x hk;rw [hb] at hs;obtain rfl:=zsi hs;obtain⟨_,_,_,cs,rest,hrow,hN,hrel⟩:=hbx;rw [hsh] at hrow;have hrow:xX H b (cs++rest):=hrow;have hlen:=Bk.rel_len hrel;refine⟨b,o,(cs.drop o).take n,rfl,?_,hq cs hrel,fun q hq=>⟨b,N,hb,hq⟩⟩;have h1:H.loads b (0+o) n=some (((cs++rest).drop o).take n):=kY hrow.2 (by simp;omega);rw [Nat.zero_add] at h1;rw [h1,List.drop_append_of_le_length (by omega),List.take_append_of_le_length (by simp;omega)]
 cases d with
 |ptr k o=>
  simp only [YH] at hl;split at hl
  ·rename_i l0 hk;obtain⟨h1,rfl⟩:=zW hl;exact key (xV hk rfl) rfl (fun cs hrel=>(qg.drop hrel o).take n) h1 hr
  ·rename_i l0 hk;split at hl
   ·rename_i q hq;obtain rfl:=zsi hl;obtain⟨h1,rfl⟩:=zW hq;exact key (xV hk rfl) rfl (fun cs hrel=>vC ((qg.drop hrel o).take n)) h1 hr
   ·cases hl
  ·rename_i rows hk;obtain⟨h1,rfl⟩:=zW hl;exact key (κ:=(k,0)) (x:=.cells (zh k 0 rows)) (by simp only [qR,hk]) rfl (fun cs hrel=>(qg.drop hrel o).take n) h1 hr
  ·cases hl
 |tptr k i o=>
  simp only [YH] at hl;split at hl
  ·rename_i rows hk;split at hl
   ·rename_i r hri;split at hl
    ·rename_i q hq;obtain rfl:=zsi hl;obtain⟨h1,rfl⟩:=zW hq;exact key (κ:=(k,i+1)) (x:=.data r) (by simp only [qR,hk,hri];rfl) rfl (fun cs hrel=>vC ((qg.drop hrel o).take n)) h1 hr
    ·cases hl
   ·cases hl
  ·cases hl
 |fptr l0=>
  simp only [YH] at hl;split at hl
  ·rename_i q hq;obtain rfl:=zsi hl;obtain⟨h1,rfl⟩:=zW hq;obtain⟨b,o,cs,rfl,hz,hld,ha⟩:=hr;refine⟨b,o,cs.take n,rfl,yw hld (by omega),vC (by simpa using ha.take n),fun q hq=>⟨b,hz,fun H' hh=>hq H' fun i x _ _ hx=>hh i x hx⟩⟩
  ·cases hl
 |g b o=>
  simp only [YH] at hl;split at hl
  ·rename_i bk q hn hq;obtain rfl:=zsi hl;obtain rfl:c=.ptr b o:=hr;obtain⟨h1,h2⟩:=hS.glob b bk (.inl hn);refine⟨b,o,q,rfl,by rw [Yw (H:=p.GH) (by rw [h2,hn])];exact hq,Xe q,fun q hq=>⟨b,h1,fun H' hh=>hq H' fun i x _ _ hx=>hh i x hx⟩⟩
  ·cases hl
 |_=>cases hl
def wn(p:Par)(E:qp)(S:Bx)(agg:Bool)(n:Nat)(a:Opd):Option DV:=match ro E a with
 |some (.one d)=>match agg with
  |true=>match YH p S d n with
   |some l=>some (.agg l)
   |none=>none
  |false=>match YH p S d 1 with
   |some (x::_)=>some (.one x)
   |_=>none
 |_=>none
def lI(agg:Bool)(n:Nat):Nat:=match agg with
 |true=>n
 |false=>1
def AO(E:qp)(a:Opd)(agg:Bool)(n:Nat):Option (zF × Nat × Nat):=match ro E a with
 |some (.one d)=>TF d (lI agg n)
 |_=>none
theorem uS{H:Hp}{b o n:Nat}{x:C}{l:List C}(h:H.loads b o (n+1)=some (x::l)):H.cell b o=some x:=by
 have:=vq (i:=0) h (by omega);simpa using this
theorem aV{H H':Hp}{b:Nat}:∀{n o:Nat} {l:List C},H.loads b o n=some l->(∀i x,o<=i->i<o+n->H.cell b i=some x->H'.cell b i=some x)->H'.loads b o n=some l
 |0,_,_,hl,_=>hl
 |n+1,o,l,hl,hh=>by
  simp only [Hp.loads] at hl ⊢;cases hc:H.cell b o with
  |none=>simp [hc] at hl
  |some c=>
   simp only [hc] at hl;simp only [hh o c (by omega) (by omega) hc];cases hr:H.loads b (o+1) n with
   |none=>simp [hr] at hl
   |some r=>simp only [hr] at hl;simp only [aV hr fun i x h1 h2=>hh i x (by omega) (by omega)];exact hl
theorem VO{Z:Nat->Prop}{β:qw}{H:Hp}{F:T V}(hS:SR p Z β H S nk)(hE:ER Z β H E F){agg:Bool}{n:Nat}{a:Opd}{d:DV}(hd:wn p E S agg n a=some d):
 ∃v,xk F H (.load agg n a)=some v/\zy Z H β d v/\WR Z β H (AO E a agg n) fun H'=>xk F H' (.load agg n a)=some v:=by
 unfold wn at hd;split at hd
 ·rename_i e he;have hwt:AO E a agg n=TF e (lI agg n):=by simp only [AO,he]
  rw [hwt];obtain⟨x,hx,hr⟩:=xg hE he;cases agg with
  |true=>
   simp only [lI] at hd ⊢;split at hd
   ·rename_i l hl;obtain rfl:=zsi hd;obtain⟨b,o,cs,rfl,h1,h2,h3⟩:=BO hS hr hl;refine⟨.agg cs,by simp [xk,hx,h1],⟨cs,rfl,h2⟩,h3 _ fun H' hh=>?_⟩;simp [xk,hx,aV h1 hh]
   ·cases hd
  |false=>
   simp only [lI] at hd ⊢;split at hd
   ·rename_i x' l hl;obtain rfl:=zsi hd;obtain⟨b,o,cs,rfl,h1,h2,h3⟩:=BO hS hr hl;cases cs with
    |nil=>exact h2.elim
    |cons y cs=>
     have hcell:=uS h1;refine⟨.one y,by simp [xk,hx,hcell],⟨y,rfl,h2.1⟩,h3 _ fun H' hh=>?_⟩;simp [xk,hx,hh o y (by omega) (by omega) hcell]
   ·cases hd
 ·cases hd
theorem jK{agg:Bool}{n:Nat}{a:Opd}{d:DV}(hd:wn p E S agg n a=some d)(h:DPW p base rs Q r W A (xn E dst d) S nk):DPW p base rs Q (⟨id,dst,.l (.load agg n a),none,aid,ws,false⟩::r) W A E S nk:=.mk fun Z β H F c hS hE hC hA=>by
 obtain⟨v,hv,hr,_⟩:=VO hS hE hd;simp only [qE,qv,if_true,hv,Bool.false_eq_true,if_false];exact h.run Z β H _ c hS (hE.set dst (xG.of1 hr)) hC hA
theorem jC{agg:Bool}{n:Nat}{a:Opd}{d:DV}(hd:wn p E S agg n a=some d)(h:DPW p base rs Q r ((id,AO E a agg n)::W) A (xn E dst d) S nk):DPW p base rs Q (⟨id,dst,.l (.load agg n a),none,aid,ws,true⟩::r) W A E S nk:=.mk fun Z β H F c hS hE hC hA=>by
 obtain⟨v,hv,hr,hw⟩:=VO hS hE hd;simp only [qE,qv,if_true,hv];refine h.run Z β H _ _ hS (hE.set dst (xG.of1 hr)) (fun x hx=>?_) hA;rcases List.mem_cons.1 hx with rfl|hx
 ·exact⟨(id,AO E a agg n),List.mem_cons_self,hw⟩
 ·obtain⟨y,hy,hr⟩:=hC x hx;exact⟨y,by simp [hy],hr⟩
theorem bM{agg:Bool}{n:Nat}{a:Opd}{d:DV}{g:Nat}{t want:Bool}(hg:lk E g=some (.bool t))(hd:t=want->wn p E S agg n a=some d)(h:DPW p base rs Q r W A (xn E dst (if t=want then d else .undef)) S nk):DPW p base rs Q (⟨id,dst,.l (.load agg n a),some (g,want),aid,ws,false⟩::r) W A E S nk:=
 MK hg (fun ht=>jK (hd ht) (by rw [if_pos ht] at h;exact h)) (fun ht=>by rw [if_neg (by rw [ht];cases want<;>decide)] at h;exact h)
theorem jh{agg:Bool}{n k o:Nat}{a:Opd}{l q:List FD}(ha:ro E a=some (.one (.ptr k o)))(hk:lk S k=some (.data l))(hl:xN l o (lI agg n)=some q){d:DV}(hd:(match agg,q with|true,q=>some (.agg (q.map .f))|false,x::_=>some (.one (.f x))|false,[]=>none)=some d):wn p E S agg n a=some d:=by
 cases agg with
 |true=>simp only [lI] at hl hd;simp only [wn,ha,YH,hk,hl];exact hd
 |false=>
  simp only [lI] at hl;cases q with
  |nil=>cases hd
  |cons x q=>simp only at hd;simp only [wn,ha,YH,hk,hl,List.map_cons];exact hd
theorem jf{n k o:Nat}{a:Opd}{rows:List (List FD)}{r:List FD}(ha:ro E a=some (.one (.ptr k o)))(hk:lk S k=some (.tree rows))(hl:rows[o]?=some r):wn p E S false n a=some (.one (.trow k o 0 r.length)):=by
 have h1:o<rows.length:=(zgs hl).1;have h2:xN (zh k 0 rows) o 1=some [.trow k o 0 r.length]:=by
  rw [yE (by rw [kP];omega)];congr 1;refine List.ext_getElem? fun j=>?_;rw [List.getElem?_take];split
  ·rename_i hj;obtain rfl:j=0:=by omega
   rw [List.getElem?_drop,Xg,Nat.add_zero,hl];simp
  ·rename_i hj;rw [List.getElem?_eq_none (by simp;omega)]
 simp only [wn,ha,YH,hk,h2]
theorem jg{n k i o:Nat}{a:Opd}{rows:List (List FD)}{r:List FD}{x:FD}(ha:ro E a=some (.one (.tptr k i o)))(hk:lk S k=some (.tree rows))(hi:rows[i]?=some r)(ho:r[o]?=some x):wn p E S false n a=some (.one (.f x)):=by
 have h1:o<r.length:=(zgs ho).1;have h2:xN r o 1=some [x]:=by
  rw [yE (by omega)];congr 1;refine List.ext_getElem? fun j=>?_;rw [List.getElem?_take];split
  ·rename_i hj;obtain rfl:j=0:=by omega
   rw [List.getElem?_drop,Nat.add_zero,ho];simp
  ·rename_i hj;rw [List.getElem?_eq_none (by simp;omega)]
 simp only [wn,ha,YH,hk,hi,h2,List.map_cons]
theorem qo3{x i:Opd}{k t o n:Nat}{kd:IntKind}{j:Int}(hx:ro E x=some (.one (.trow k t o n)))(hi:ro E i=some (.one (.f (.c (.int kd j)))))(h0:0<=j)(h1:j<n)(h:DPW p base rs Q r W A (xn E dst (.one (.tptr k t (o+j.toNat*1)))) S nk):DPW p base rs Q (⟨id,dst,.p (.iaddr 1 x i),none,aid,ws,keep⟩::r) W A E S nk:=by
 refine Q1 (fun {Z β H F} hE=>?_) h;obtain⟨c,hc,hr⟩:=xg hE hx;rcases hr with⟨_,h2,_⟩|⟨b,N,cap,ex,h2,rfl,_⟩
 ·omega
 ·exact⟨.one (.ptr b (o+j.toNat*1)),by simp only [qy,hc,zS hE hi,XX];rw [if_pos ⟨trivial,h0,h1⟩],_,rfl,b,N,h2,rfl⟩
theorem WT{x i:Opd}{k t n:Nat}{kd:IntKind}{j:Int}(hx:ro E x=some (.one (.trow k t 0 n)))(hi:ro E i=some (.one (.f (.c (.int kd j)))))(h0:0<=j)(h1:j<n)(h:DPW p base rs Q r W A (xn E dst (.one (.tptr k t j.toNat))) S nk):DPW p base rs Q (⟨id,dst,.p (.iaddr 1 x i),none,aid,ws,keep⟩::r) W A E S nk:=
 qo3 hx hi h0 h1 (by rw [Nat.zero_add,Nat.mul_one];exact h)
theorem WU{x i:Opd}{k n:Nat}{kd:IntKind}{j:Int}(hx:ro E x=some (.one (.own k 0 n 1)))(hi:ro E i=some (.one (.f (.c (.int kd j)))))(h0:0<=j)(h1:j<n)(h:DPW p base rs Q r W A (xn E dst (.one (.ptr k j.toNat))) S nk):DPW p base rs Q (⟨id,dst,.p (.iaddr 1 x i),none,aid,ws,keep⟩::r) W A E S nk:=
 bN hx hi h0 h1 (by rw [Nat.zero_add,Nat.mul_one];exact h)
end
def nW:List DC->Option (List FD)
 |[]=>some []
 |.f d::l=>match nW l with
  |some r=>some (d::r)
  |none=>none
 |_::_=>none
def lA(l:List DC):Bk:=match nW l with
 |some r=>.data r
 |none=>.cells l
section
variable{Z:Nat->Prop}{H:Hp}{β:qw}
theorem dC:∀{l:List DC} {r:List FD} {cs:List C},nW l=some r->qg (RD Z H β) l cs->qg (RF Z H) r cs
 |[],r,[],h,_=>by obtain rfl:=zsi h;trivial
 |.f d::l,r,c::cs,h,hr=>by
  simp only [nW] at h;split at h
  ·rename_i q hq;obtain rfl:=zsi h;exact⟨hr.1,dC hq hr.2⟩
  ·cases h
 |[],_,_::_,_,hr=>hr.elim
 |_::_,_,[],_,hr=>hr.elim
 |.g _ _::_,_,_::_,h,_=>by cases h
 |.ptr _ _::_,_,_::_,h,_=>by cases h
 |.own _ _ _ _::_,_,_::_,h,_=>by cases h
 |.fptr _::_,_,_::_,h,_=>by cases h
 |.fn _ _::_,_,_::_,h,_=>by cases h
 |.any::_,_,_::_,h,_=>by cases h
 |.om _::_,_,_::_,h,_=>by cases h
 |.yl _::_,_,_::_,h,_=>by cases h
 |.fz _ _::_,_,_::_,h,_=>by cases h
 |.trow _ _ _ _::_,_,_::_,h,_=>by cases h
 |.tptr _ _ _::_,_,_::_,h,_=>by cases h
theorem OO{l:List DC}{cs:List C}(h:qg (RD Z H β) l cs):(lA l).rel Z H β cs:=by
 unfold lA;split
 ·rename_i r hr;exact dC hr h
 ·exact h
end
theorem tF(l:List DC):(lA l).shape=none:=by
 unfold lA;split<;>rfl
theorem eS{F:T V}:∀{ps:List (Nat × Nat × Opd)} {z l:List C},yy F z ps=some l->l.length=z.length
 |[],z,l,h=>by rw [zsi h]
 |(off,size,x)::r,z,l,h=>by
  simp only [yy] at h;split at h
  ·cases h
  ·rename_i cs _;split at h
   ·rename_i e;rw [eS h];simp only [List.length_append,List.length_take,List.length_drop];omega
   ·cases h
def X0(E:qp)(nk:Nat):AllocOp->Option (Bk × DV)
 |.alloc z=>some (.cells (z.map QM),.one (.ptr nk 0))
 |.box x=>match ro E x with
  |some d=>match W7 d with
   |some l=>some (.cells l,.one (.ptr nk 0))
   |none=>none
  |none=>none
 |.bslice esz len z ps=>match KE E ((yS z (len*esz)).map QM) ps with
  |some l=>some (lA l,.one (.own nk 0 len esz))
  |none=>none
 |_=>none
theorem W2{E:qp}{nk:Nat}{op:AllocOp}{x:Bk}{d:DV}(h:X0 E nk op=some (x,d)):x.shape=none:=by
 cases op with
 |alloc z=>obtain⟨rfl,rfl⟩:=Prod.mk.inj (zsi h);rfl
 |box o=>
  simp only [X0] at h;split at h
  ·split at h
   ·obtain⟨rfl,rfl⟩:=Prod.mk.inj (zsi h);rfl
   ·cases h
  ·cases h
 |bslice esz len z ps=>
  simp only [X0] at h;split at h
  ·obtain⟨rfl,rfl⟩:=Prod.mk.inj (zsi h);exact tF _
  ·cases h
 |_=>cases h
section
variable{p:Par}{Z:Nat->Prop}{H:Hp}{β:qw}{E:qp}{F:T V}{nk:Nat}
theorem e8(hE:ER Z β H E F){op:AllocOp}{x:Bk}{d:DV}(h:X0 E nk op=some (x,d)):∃cs g,xD F op=some (.row cs.length cs .lf true,g)/\x.rel Z H β cs/\∀b H' Z' β',β' (nk,0)=some (.blk b cs.length)->xG Z' H' β' d (g b):=by
 cases op with
 |alloc z=>
  obtain⟨rfl,rfl⟩:=Prod.mk.inj (zsi h);exact⟨z,_,rfl,Xe z,fun b H' Z' β' hb=>⟨_,rfl,b,_,hb,rfl⟩⟩
 |box o=>
  simp only [X0] at h;split at h
  ·rename_i d' hd';split at h
   ·rename_i l hl;obtain⟨rfl,rfl⟩:=Prod.mk.inj (zsi h);obtain⟨cs,h1,h2⟩:=W6 (xg hE hd') hl;exact⟨cs,fun b=>.one (.ptr b 0),by simp only [xD,h1],h2,fun b H' Z' β' hb=>⟨_,rfl,b,_,hb,rfl⟩⟩
   ·cases h
  ·cases h
 |bslice esz len z ps=>
  simp only [X0] at h;split at h
  ·rename_i l hl;obtain⟨rfl,rfl⟩:=Prod.mk.inj (zsi h);obtain⟨cs,h1,h2⟩:=VH hE (Xe _) hl;have hlen:=eS h1;refine⟨cs,fun b=>.one (.slc b 0 len len esz true),by simp only [xD,h1],OO h2,fun b H' Z' β' hb=>⟨_,rfl,.inr ⟨b,cs.length,len,true,hb,rfl,Nat.le_refl _,?_⟩⟩⟩;rw [hlen];simp [yS]
  ·cases h
 |_=>cases h
end
section
variable{p:Par}{base rs:Nat}{Q:qp->Bx->Nat->Prop}{r:List SOper}{W:Wt}{A:List Nat}{E:qp}{S:Bx}{nk:Nat}{id:Nat}{dst:Option Nat}{aid:Option Nat}{ws:List Nat}{keep:Bool}
theorem AR.new{Z:Nat->Prop}{β:qw}{H H':Hp}{b N:Nat}(hA:AR p base rs A Z β H)(hnx:H.nx<=H'.nx)(hg:∀b',b'≠b->H'.get b'=H.get b')(hb:∀j,j<rs->j∉A->base+j≠b):AR p base rs A Z (wB β nk (.blk b N)) H':=by
 refine⟨hA.1,fun j hj hjA=>?_⟩;obtain⟨h1,h2,h3,h4⟩:=hA.2 j hj hjA;refine⟨by omega,by rw [hg _ (hb j hj hjA)];exact h2,h3,fun k M=>?_⟩;by_cases e:k=(nk,0)
 ·subst e;rw [xy];intro h;exact hb j hj hjA (Slot.blk.inj (zsi h)).1.symm
 ·rw [yq _ _ e];exact h4 k M
theorem CR.new{Z:Nat->Prop}{β β':qw}{H H':Hp}{b:Nat}{c:zR}(hC:CR W Z β H c)(hZ:xo Z H Z H')(hB:xP β β')(hg:∀b',b'≠b->H'.get b'=H.get b')(hb:H.get b=none):CR W Z β' H' c:=hC.step hZ hB fun y _ k o n _ b' N i x _ _ _ hx=>by
 unfold Hp.cell at hx ⊢;by_cases e:b'=b
 ·subst e;rw [hb] at hx;cases hx
 ·rw [hg b' e];exact hx
theorem rJ {op:AllocOp} {x:Bk} {d:DV} (hsh:x.shape=none) (hd:∀{Z:Nat->Prop} {β:qw} {H:Hp} {F:T V},ER Z β H E F->∃bk g cs rest,xD F op=some (bk,g)/\(∀b H',H'.get b=some bk->xX H' b (cs++rest))/\x.rel Z H β cs/\∀b (H':Hp) (Z':Nat->Prop) β',β' (nk,0)=some (.blk b (cs++rest).length)->xG Z' H' β' d (g b))
 (h:DPW p base rs Q r W A (xn E dst d) ((nk,x)::S) (nk+1)):DPW p base rs Q (⟨id,dst,.a op,none,none,ws,keep⟩::r) W A E S nk:=.mk fun Z β H F c hS hE hC hA=>by
 obtain⟨bk,g,cs,rest,h1,h2,h3,h4⟩:=hd hE;simp only [qE,qv,if_true,h1];have hfr:H.get H.nx=none:=hS.wf.fresh (Nat.le_refl _);have hg:∀b',b'≠H.nx->(H.push bk).get b'=H.get b':=fun b' hb'=>by rw [Hp.get_push,if_neg hb']
 obtain⟨hS',hZ,hB⟩:=hS.new (x:=x) (b:=H.nx) (H':=H.push bk) (cs:=cs) (rest:=rest) hsh h3 (fun hz=>absurd (hS.z _ hz) (by omega)) (fun k N hk=>absurd (hS.bd k _ N hk) (by omega)) hS.lo (by simp) (by simp) (hS.wf.push _) hg (h2 _ _ (by rw [Hp.get_push,if_pos rfl]));exact h.run Z _ _ _ c hS' ((hE.mono hZ hB).set dst (h4 _ _ _ _ (xy _ _ _))) (hC.new hZ hB hg hfr) (hA.new (by simp) hg fun j hj hjA e=>by have:=(hA.2 j hj hjA).1;omega)
theorem mR {op:AllocOp} {x:Bk} {d:DV} {i:Nat} (hi:Nat.blt i rs=true) (hA':A.elem i=false) (hsh:x.shape=none) (hd:∀{Z:Nat->Prop} {β:qw} {H:Hp} {F:T V},ER Z β H E F->∃bk g cs rest,xD F op=some (bk,g)/\(∀b H',H'.get b=some bk->xX H' b (cs++rest))/\x.rel Z H β cs/\∀b (H':Hp) (Z':Nat->Prop) β',β' (nk,0)=some (.blk b (cs++rest).length)->xG Z' H' β' d (g b))
 (h:DPW p base rs Q r W (i::A) (xn E dst d) ((nk,x)::S) (nk+1)):DPW p base rs Q (⟨id,dst,.a op,none,some i,ws,keep⟩::r) W A E S nk:=.mk fun Z β H F c hS hE hC hA=>by
 obtain⟨bk,g,cs,rest,h1,h2,h3,h4⟩:=hd hE;simp only [qE,qv,if_true,h1];have hi':i<rs:=Nat.le_of_ble_eq_true hi;have hiA:i∉A:=fun h=>by rw [List.elem_eq_true_of_mem h] at hA';cases hA'
 obtain⟨g1,g2,g3,g4⟩:=hA.2 i hi' hiA;have hg:∀b',b'≠base+i->(H.add (base+i) bk).get b'=H.get b':=fun b' hb'=>Hp.get_add_ne _ _ hb';have hw:WF (H.add (base+i) bk):=fun b k hb=>by
  rw [Hp.get_add] at hb;split at hb
  ·simp;omega
  ·exact hS.wf b k hb
 obtain⟨hS',hZ,hB⟩:=hS.new (x:=x) (b:=base+i) (H':=H.add (base+i) bk) (cs:=cs) (rest:=rest) hsh h3 g3 g4 (by have:=hA.1;omega) (by simpa using g1) (by simp) hw hg (h2 _ _ (by simp));refine h.run Z _ _ _ c hS' ((hE.mono hZ hB).set dst (h4 _ _ _ _ (xy _ _ _))) (hC.new hZ hB hg g2) ?_;have hA2:AR p base rs (i::A) Z β H:=⟨hA.1,fun j hj hjA=>hA.2 j hj fun h=>hjA (by simp [h])⟩;exact hA2.new (by simp) hg fun j hj hjA e=>hjA (by simp;omega)
theorem BK{cs:List C}(b:Nat)(H':Hp)(h:H'.get b=some (.row cs.length cs .lf true)):xX H' b (cs++[]):=by
 rw [List.append_nil];exact⟨⟨cs,.lf,h⟩,XU (rw:=true) h⟩
theorem Xs{op:AllocOp}{x:Bk}{d:DV}(hd:X0 E nk op=some (x,d))(h:DPW p base rs Q r W A (xn E dst d) ((nk,x)::S) (nk+1)):DPW p base rs Q (⟨id,dst,.a op,none,none,ws,keep⟩::r) W A E S nk:=
 rJ (W2 hd) (fun hE=>by
  obtain⟨cs,g,h1,h2,h3⟩:=e8 hE hd;exact⟨_,g,cs,[],h1,BK,h2,fun b H' Z' β' hb=>h3 b H' Z' β' (by simpa using hb)⟩) h
theorem bO{op:AllocOp}{x:Bk}{d:DV}{i:Nat}(hi:Nat.blt i rs=true)(hA':A.elem i=false)(hd:X0 E nk op=some (x,d))(h:DPW p base rs Q r W (i::A) (xn E dst d) ((nk,x)::S) (nk+1)):DPW p base rs Q (⟨id,dst,.a op,none,some i,ws,keep⟩::r) W A E S nk:=
 mR hi hA' (W2 hd) (fun hE=>by
  obtain⟨cs,g,h1,h2,h3⟩:=e8 hE hd;exact⟨_,g,cs,[],h1,BK,h2,fun b H' Z' β' hb=>h3 b H' Z' β' (by simpa using hb)⟩) h
def zok:List FD->List C->Bool
 |[],[]=>true
 |.c _::l,x::m=>x.closed&&zok l m
 |.sl _ 0 []::l,.nils::m=>zok l m
 |_,_=>false
def VW:List FD->List C->Prop
 |[],[]=>True
 |.c y::l,x::m=>y=x/\x.closed=true/\VW l m
 |.sl _ n q::l,x::m=>n=0/\q=[]/\x=.nils/\VW l m
 |_,_=>False
theorem VV{Z:Nat->Prop}{H:Hp}:∀{l:List FD} {m:List C},VW l m->qg (RF Z H) l m
 |[],[],_=>trivial
 |.c y::l,x::m,h=>by obtain⟨rfl,h1,h2⟩:=h;exact⟨.c _ h1,VV h2⟩
 |.sl e n q::l,x::m,h=>by obtain⟨rfl,rfl,rfl,h2⟩:=h;exact⟨.nil e,VV h2⟩
 |[],_::_,h=>h.elim
 |.c _::_,[],h=>h.elim
 |.sl _ _ _::_,[],h=>h.elim
def yY(z:List FD):Nat->List FD
 |0=>[]
 |n+1=>z++yY z n
theorem kU(z:List FD):∀n,(yY z n).length=n*z.length
 |0=>by simp [yY]
 |n+1=>by simp [yY,kU z n,Nat.add_mul];omega
theorem iL(z:List FD):∀(n i:Nat),i<n*z.length->(yY z n)[i]?=z[i % z.length]?
 |0,i,h=>by simp at h
 |n+1,i,h=>by
  simp only [yY];by_cases hi:i<z.length
  ·rw [List.getElem?_append_left hi,Nat.mod_eq_of_lt hi]
  ·rw [List.getElem?_append_right (by omega),iL z n (i-z.length) (by rw [Nat.add_mul,Nat.one_mul] at h;omega)];congr 1;exact (Nat.mod_eq_sub_mod (by omega)).symm
theorem Wn(x:FD):∀n,yY [x] n=List.replicate n x
 |0=>rfl
 |n+1=>by simp [yY,Wn x n,List.replicate_succ]
theorem o9{z:List C}{M:Nat}(hz:0<z.length)(b:Nat)(H':Hp)(h:H'.get b=some (.row M z .lf true)):xX H' b ((List.range M).map fun i=>z.getD (i % z.length) .nilp):=by
 refine⟨⟨z,.lf,by simpa using h⟩,?_⟩;have key:∀(m o:Nat),o+m=M->H'.loads b o m=some ((List.range' o m).map fun i=>z.getD (i % z.length) .nilp):=by
  intro m;induction m with
  |zero=>intro o _;rfl
  |succ m ih=>
   intro o ho;have hc:H'.cell b o=some (z.getD (o % z.length) .nilp):=by simp [Hp.cell,h,B.cell,show o<M by omega]
   simp only [Hp.loads,hc,ih (o+1) (by omega),List.range'_succ,List.map_cons]
 have:=key M 0 (by omega);simpa [List.range_eq_range'] using this
theorem CA{Z:Nat->Prop}{H:Hp}{zf:List FD}{z:List C}(hz:VW zf z)(hp:0<z.length){n M:Nat}(hn:n*z.length<=M):∃cs rest,(List.range M).map (fun i=>z.getD (i % z.length) .nilp)=cs++rest/\qg (RF Z H) (yY zf n) cs:=by
 have ha:=VV (Z:=Z) (H:=H) hz;have hl:=ha.len;refine⟨((List.range M).map (fun i=>z.getD (i % z.length) .nilp)).take (n*z.length),_,(List.take_append_drop _ _).symm,qg.mk ?_ fun i d c hd hc=>?_⟩
 ·rw [kU,hl];simp;omega
 ·have hi:i<n*zf.length:=by rw [<-kU];exact (zgs hd).1
  rw [iL zf n i hi] at hd;obtain⟨x,hx,hr⟩:=ha.at _ d hd;rw [List.getElem?_take,if_pos (by rw [<-hl];exact hi),List.getElem?_map,List.getElem?_range (by rw [hl] at hi;omega)] at hc;simp only [Option.map_some,zoi] at hc;rw [<-hl] at hc;rw [List.getD_eq_getElem?_getD,hx] at hc;simp only [Option.getD_some] at hc;exact hc▸hr
theorem LP {esz bytes n m:Nat} {z:List C} {zf:List FD} {lo co:Opd} {k k':IntKind} (hl:ro E lo=some (.one (.f (.c (.int k (n:Nat)))))) (hc:ro E co=some (.one (.f (.c (.int k' (m:Nat)))))) (hz:VW zf z) (hze:z.length=esz) (hp:0<esz) (hnm:n<=m) (hb:bytes*m<=281474976710656) (hm:m<4611686018427387904)
 {Z:Nat->Prop} {β:qw} {H:Hp} {F:T V} (hE:ER Z β H E F):∃bk g cs rest,xD F (.mkslice esz bytes z lo co)=some (bk,g)/\(∀b H',H'.get b=some bk->xX H' b (cs++rest))/\(Bk.data (yY zf n)).rel Z H β cs/\∀b (H':Hp) (Z':Nat->Prop) β',β' (nk,0)=some (.blk b (cs++rest).length)->xG Z' H' β' (.one (.own nk 0 n esz)) (g b):=by
 obtain⟨cs,rest,h1,h2⟩:=CA (Z:=Z) (H:=H) hz (by omega) (n:=n) (M:=m*esz) (by rw [hze];exact Nat.mul_le_mul_right _ hnm);refine⟨.row (m*esz) z .lf true,fun b=>.one (.slc b 0 n m esz true),cs,rest,?_,fun b H' hb=>?_,h2,fun b H' Z' β' hb=>⟨_,rfl,.inr ⟨b,_,m,true,hb,rfl,hnm,?_⟩⟩⟩
 ·simp only [xD,zS hE hl,zS hE hc];rw [if_pos ⟨by omega,by omega,by omega,by omega⟩];simp
 ·rw [<-h1];exact o9 (by omega) b H' hb
 ·rw [<-h1];simp
theorem MJ {esz bytes n m:Nat} {z:List C} (zf:List FD) {lo co:Opd} {k k':IntKind} (hl:ro E lo=some (.one (.f (.c (.int k (n:Nat)))))) (hc:ro E co=some (.one (.f (.c (.int k' (m:Nat)))))) (hz:VW zf z) (hze:z.length=esz) (hp:0<esz) (hnm:n<=m) (hb:bytes*m<=281474976710656) (hm:m<4611686018427387904)
 (h:DPW p base rs Q r W A (xn E dst (.one (.own nk 0 n esz))) ((nk,.data (yY zf n))::S) (nk+1)):DPW p base rs Q (⟨id,dst,.a (.mkslice esz bytes z lo co),none,none,ws,keep⟩::r) W A E S nk:=
 rJ (x:=.data (yY zf n)) rfl (fun hE=>LP hl hc hz hze hp hnm hb hm hE) h
theorem DL {esz bytes n m:Nat} {z:List C} (zf:List FD) {lo co:Opd} {k k':IntKind} {i:Nat} (hi:Nat.blt i rs=true) (hA':A.elem i=false) (hl:ro E lo=some (.one (.f (.c (.int k (n:Nat)))))) (hc:ro E co=some (.one (.f (.c (.int k' (m:Nat)))))) (hz:VW zf z) (hze:z.length=esz) (hp:0<esz) (hnm:n<=m) (hb:bytes*m<=281474976710656) (hm:m<4611686018427387904)
 (h:DPW p base rs Q r W (i::A) (xn E dst (.one (.own nk 0 n esz))) ((nk,.data (yY zf n))::S) (nk+1)):DPW p base rs Q (⟨id,dst,.a (.mkslice esz bytes z lo co),none,some i,ws,keep⟩::r) W A E S nk:=
 mR (x:=.data (yY zf n)) hi hA' rfl (fun hE=>LP hl hc hz hze hp hnm hb hm hE) h
end
def setLs{α:Type}(l:List α)(i:Nat):List α->List α
 |[]=>l
 |c::cs=>setLs (l.set i c) (i+1) cs
theorem Qk:∀(cs l rest:List C) (i:Nat),i+cs.length<=l.length->yO (l++rest) i cs=yO l i cs++rest
 |[],_,_,_,_=>rfl
 |c::cs,l,rest,i,h=>by
  simp only [List.length_cons] at h;simp only [yO];rw [List.set_append_left _ _ (by omega)];exact Qk cs _ rest (i+1) (by simp;omega)
theorem qg.set{α β:Type}{R:α->β->Prop}:∀{l:List α} {m:List β},qg R l m->∀(i:Nat) {a:α} {b:β},R a b->qg R (l.set i a) (m.set i b)
 |[],[],_,_,_,_,_=>trivial
 |_::_,_::_,h,0,_,_,hr=>⟨hr,h.2⟩
 |_::_,_::_,h,i+1,_,_,hr=>⟨h.1,qg.set h.2 i hr⟩
 |[],_::_,h,_,_,_,_=>h.elim
 |_::_,[],h,_,_,_,_=>h.elim
theorem qg.setLs{α:Type}{R:α->C->Prop}:∀{ds:List α} {cs:List C},qg R ds cs->∀{l:List α} {m:List C} (i:Nat),qg R l m->qg R (setLs l i ds) (yO m i cs)
 |[],[],_,_,_,_,h=>h
 |_::_,_::_,hd,_,_,i,h=>qg.setLs hd.2 (i+1) (qg.set h i hd.1)
 |[],_::_,h,_,_,_,_=>h.elim
 |_::_,[],h,_,_,_,_=>h.elim
theorem vb:∀(pre old cs rest:List C),cs.length=old.length->yO (pre++(old++rest)) pre.length cs=pre++(cs++rest)
 |_,[],[],_,_=>by simp [yO]
 |pre,o::old,c::cs,rest,h=>by
  simp only [yO];have e:(pre++(o::old++rest)).set pre.length c=(pre++[c])++(old++rest):=by simp
  rw [e];have:=vb (pre++[c]) old cs rest (by simpa using h);simp only [List.length_append,List.length_cons,List.length_nil] at this;rw [this];simp
 |_,[],_::_,_,h=>by simp at h
 |_,_::_,[],_,h=>by simp at h
def Zb(x:Bk)(o:Nat)(l:List DC):Bk:=match x with
 |.cells m=>.cells (setLs m o l)
 |.data m=>match nW l with
  |some q=>.data (setLs m o q)
  |none=>.cells (setLs (m.map .f) o l)
 |x=>x
section
variable{p:Par}{base rs:Nat}{Q:qp->Bx->Nat->Prop}{r:List SOper}{W:Wt}{A:List Nat}{E:qp}{S:Bx}{nk:Nat}{id:Nat}{dst:Option Nat}{aid:Option Nat}{ws:List Nat}{keep:Bool}
theorem LB{k:Nat}(h:YE S k W=true):jH S k W=true:=by
 unfold YE at h;split at h
 ·exact h
 ·cases h
theorem TP{Z:Nat->Prop}{β:qw}{H:Hp}{x:Bk}{o:Nat}{l:List DC}{cs ks:List C}(hsh:x.shape=none)(hx:x.rel Z H β cs)(hl:qg (RD Z H β) l ks):(Zb x o l).rel Z H β (yO cs o ks):=by
 cases x with
 |cells m=>exact qg.setLs hl o hx
 |data m=>
  simp only [Zb];split
  ·rename_i q hq;exact qg.setLs (dC hq hl) o hx
  ·exact qg.setLs hl o (vC hx)
 |tree rows=>exact hx.elim
 |mp ks l=>cases hsh
 |mt es=>exact hx.elim
theorem A0{x:Bk}{o:Nat}{l:List DC}(hsh:x.shape=none):(Zb x o l).shape=none:=by
 cases x with
 |cells m=>rfl
 |data m=>simp only [Zb];split<;>rfl
 |tree rows=>rfl
 |mp ks l=>cases hsh
 |mt es=>rfl
theorem AR.upd{Z:Nat->Prop}{β:qw}{H H':Hp}{b:Nat}(hA:AR p base rs A Z β H)(hnx:H'.nx=H.nx)(hg:∀b',b'≠b->H'.get b'=H.get b'){k:zF}{N:Nat}(hb:β k=some (.blk b N)):AR p base rs A Z β H':=by
 refine⟨hA.1,fun j hj hjA=>?_⟩;obtain⟨h1,h2,h3,h4⟩:=hA.2 j hj hjA;exact⟨by omega,by rw [hg _ (fun e=>h4 k N (by rw [e];exact hb))];exact h2,h3,h4⟩
theorem CR.upd{Z:Nat->Prop}{β:qw}{H H':Hp}{b:Nat}{k:zF}{N:Nat}{c:zR}{x:Bk}(hS:SR p Z β H S nk)(hk:lk S k.1=some x)(hC:CR W Z β H c)(hZ:xo Z H Z H')(hg:∀b',b'≠b->H'.get b'=H.get b')(hb:β k=some (.blk b N))(hw:jH S k.1 W=true):CR W Z β H' c:=hC.step hZ (xP.refl _) fun y hy j o n e b' N' i q hj _ _ hq=>by
 obtain⟨⟨z,hz⟩,hne⟩:=Xd hw y hy j o n e;have:b'≠b:=fun e'=>hne (by rw [hS.inj j k z x b N' N hz hk (e'▸hj) hb]);unfold Hp.cell at hq ⊢;rw [hg b' this];exact hq
theorem Qg {n:Nat} {a v:Opd} {k o:Nat} {x:Bk} {d:DV} {l:List DC} (ha:ro E a=some (.one (.ptr k o))) (hv:ro E v=some d) (hl:W7 d=some l) (hn:l.length=n) (hk:lk S k=some x) (hle:o+n<=x.len) (hw:YE S k W=true)
 (h:DPW p base rs Q r W A (xn E dst .undef) (put k (Zb x o l) S) nk):DPW p base rs Q (⟨id,dst,.e (.store n a v),none,aid,ws,keep⟩::r) W A E S nk:=.mk fun Z β H F c hS hE hC hA=>by
 obtain⟨ca,hca,b,N,hb,rfl⟩:=xg hE ha;obtain⟨ks,hk1,hk2⟩:=W6 (xg hE hv) hl;have hfl:=gJ hw hk;have hsh:=o3 hw hk;obtain⟨s,hs,hbx⟩:=hS.box (k,0) x (xV hk hfl);rw [hb] at hs;obtain rfl:=zsi hs;obtain⟨hz,hlo,hlt,cs,rest,hrow,hN,hrel⟩:=hbx;rw [hsh] at hrow hN;have hN:(cs++rest).length=N:=hN;have hrow:xX H b (cs++rest):=hrow;have hlen:=Bk.rel_len hrel;have hkl:=hk2.len;obtain⟨H',e1,e2,e3,e4⟩:=hrow.stores (cs:=ks) (i:=o) (by simp;omega);rw [Qk ks cs rest o (by omega)] at e2;obtain⟨hS',hZ⟩:=hS.upd (x':=Zb x o l) (cs:=yO cs o ks) (rest:=rest) hk hfl hb (TP hsh hrel hk2) e3 e4 (A0 hsh) e2 (by rw [List.length_append,wZ,<-List.length_append];exact hN);simp only [qE,qv,if_true,xq,hca,hk1];rw [if_pos (by omega),e1];have hC':=hC.upd (k:=(k,0)) hS hk hZ e3 hb (LB hw);exact⟨hC'.watch ws,h.run Z β H' _ c hS' ((hE.mono hZ (xP.refl _)).set dst y6) hC' (hA.upd e4 e3 hb)⟩
def u6(S:Bx)(esz:Nat)(d:DV)(m:Nat)(q:List FD):Prop:=match d with
 |.one (.own k o m' e)=>m'=m/\e=esz/\∃l,lk S k=some (.data l)/\xN l o (m*esz)=some q
 |.one (.f (.sl e m' l))=>m'=m/\e=esz/\l=q
 |.one (.f (.c .nils))=>m=0/\q=[]
 |_=>False
theorem B3{Z:Nat->Prop}{β:qw}{H:Hp}(hS:SR p Z β H S nk){k o n esz:Nat}{c:C}(hr:RD Z H β (.own k o n esz) c){l q:List FD}(hk:lk S k=some (.data l))(hq:xN l o (n*esz)=some q):∃cs,qg (RF Z H) q cs/\((c=.nils/\n=0/\cs=[])\/∃b cap ex N,β (k,0)=some (.blk b N)/\c=.slc b o n cap esz ex/\n<=cap/\H.loads b o (n*esz)=some cs):=by
 obtain⟨hle,rfl⟩:=zW hq;rcases hr with⟨_,rfl,rfl,rfl⟩|⟨b,N,cap,ex,hb,rfl,hcap,_⟩
 ·exact⟨[],by simp;trivial,.inl ⟨rfl,rfl,rfl⟩⟩
 ·obtain⟨s,hs,hbx⟩:=hS.box (k,0) _ (xV hk rfl);rw [hb] at hs;obtain rfl:=zsi hs;obtain⟨_,_,_,cs,rest,hrow,hN,hrel⟩:=hbx;have hN:(cs++rest).length=_:=hN;have hlen:=Bk.rel_len hrel;simp only [Bk.len] at hlen;refine⟨(cs.drop o).take (n*esz),(qg.drop hrel o).take _,.inr ⟨b,cap,ex,N,hb,rfl,hcap,?_⟩⟩;have h1:H.loads b (0+o) (n*esz)=some (((cs++rest).drop o).take (n*esz)):=kY hrow.2 (by simp;omega);rw [Nat.zero_add] at h1;rw [h1,List.drop_append_of_le_length (by omega),List.take_append_of_le_length (by simp;omega)]
theorem rK{Z:Nat->Prop}{β:qw}{H:Hp}{F:T V}(hS:SR p Z β H S nk)(hE:ER Z β H E F){x:Opd}{d:DV}(hx:ro E x=some d){esz m:Nat}{q:List FD}(hd:u6 S esz d m q):∃cs,zG H esz (x.ev F)=some (m,cs)/\qg (RF Z H) q cs/\cs.length=m*esz:=by
 have hr:=xg hE hx;unfold u6 at hd;split at hd
 ·obtain⟨rfl,rfl,l,hk,hq⟩:=hd;obtain⟨c,hc,hr⟩:=hr;obtain⟨cs,h1,h2⟩:=B3 hS hr hk hq;rcases h2 with⟨rfl,rfl,rfl⟩|⟨b,cap,ex,N,_,rfl,_,h2⟩
  ·exact⟨[],by rw [hc];rfl,h1,by simp⟩
  ·exact⟨cs,by rw [hc];simp [zG,h2],h1,jn h2⟩
 ·obtain⟨rfl,rfl,rfl⟩:=hd;obtain⟨c,hc,hr⟩:=hr;cases hr with
  |nil=>exact⟨[],by rw [hc];rfl,trivial,by simp⟩
  |sl hz hl hn hld hel=>
   rename_i b o cap ex cs;exact⟨cs,by rw [hc];simp [zG,hld],qg.mk (by rw [hl,jn hld]) hel,jn hld⟩
 ·obtain⟨rfl,rfl⟩:=hd;obtain⟨c,hc,hr⟩:=hr;cases hr;exact⟨[],by rw [hc];rfl,trivial,by simp⟩
 ·exact hd.elim
theorem AR.repl{Z:Nat->Prop}{β:qw}{H H':Hp}{b N:Nat}{k:zF}(hA:AR p base rs A Z β H)(hnx:H.nx<=H'.nx)(hg:∀b',b'≠b->(∀N,β k≠some (.blk b' N))->H'.get b'=H.get b')(hb:(∃N,β k=some (.blk b N))\/H.nx<=b):AR p base rs A Z (wB β nk (.blk b N)) H':=by
 refine⟨hA.1,fun j hj hjA=>?_⟩;obtain⟨h1,h2,h3,h4⟩:=hA.2 j hj hjA;have hne:base+j≠b:=fun e=>by
  rcases hb with⟨M,hM⟩|hb
  ·exact h4 k M (e▸hM)
  ·omega
 refine⟨by omega,by rw [hg _ hne fun M=>h4 k M];exact h2,h3,fun i M=>?_⟩;by_cases e:i=(nk,0)
 ·subst e;rw [xy];intro h;exact hne (Slot.blk.inj (zsi h)).1.symm
 ·rw [yq _ _ e];exact h4 i M
theorem CR.repl{Z:Nat->Prop}{β β':qw}{H H':Hp}{b k:Nat}{c:zR}{x:Bk}(hS:SR p Z β H S nk)(hk:lk S k=some x)(hC:CR W Z β H c)(hZ:xo Z H Z H')(hB:xP β β')(hg:∀b',b'≠b->(∀N,β (k,0)≠some (.blk b' N))->H'.get b'=H.get b')(hb:(∃N,β (k,0)=some (.blk b N))\/H.nx<=b)(hw:YE S k W=true):CR W Z β' H' c:=hC.step hZ hB fun y hy j o n e b' N' i q hj _ _ hq=>by
 obtain⟨⟨z,hz⟩,hne⟩:=NS hw y hy j o n e;have h2:∀N,β (k,0)≠some (.blk b' N):=fun N e'=>hne (by rw [hS.inj j (k,0) z x b' N' N hz hk hj e']);have h1:b'≠b:=fun e'=>by
  rcases hb with⟨M,hM⟩|hb
  ·exact h2 M (e'▸hM)
  ·have:=hS.bd j b' N' hj;omega
 unfold Hp.cell at hq ⊢;rw [hg b' h1 h2];exact hq
theorem SR.keepS{Z:Nat->Prop}{β:qw}{H:Hp}{S0:Bx}(hS:SR p Z β H S nk)(h2:∀k x,lk S0 k=some x->lk S k=some x):SR p Z β H S0 nk:=
 ⟨hS.wf,hS.lo,hS.z,hS.zlo,hS.zz,hS.glob,hS.nk,hS.bd,fun k x hk=>hS.box k x (by
  obtain⟨y,hy⟩:=yG hk;rw [ya (S':=S0) (by rw [hy,h2 _ _ hy])];exact hk),fun k k' x x' b N N' hk hk'=>hS.inj k k' x x' b N N' (h2 _ x hk) (h2 _ x' hk'),hS.blo,hS.anch,hS.ancn⟩
theorem Zo{Z:Nat->Prop}{β:qw}{H:Hp}(hS:SR p Z β H S nk):SR p Z (wB β nk .nil) H ((nk,.data [])::S) (nk+1):=by
 have hB:=hS.ble .nil;refine⟨hS.wf,hS.lo,hS.z,hS.zlo,hS.zz,hS.glob,fun j hj=>?_,fun j b' N hj=>?_,fun j y hj=>?_,fun j j' y y' b' N N' hj hj' e1 e2=>?_,fun j b' N hj=>?_,fun κ hκ h0=>by rw [Qi _ _ (by have:=hS.ancn;omega)];exact hS.anch κ hκ h0,Nat.le_succ_of_le hS.ancn⟩
 ·rw [Qi _ _ (by omega)];exact hS.nk j (by omega)
 ·by_cases e:j=(nk,0)
  ·subst e;rw [xy] at hj;cases hj
  ·rw [yq _ _ e] at hj;exact hS.bd j b' N hj
 ·rw [Jo rfl] at hj;split at hj
  ·rename_i e;split at hj
   ·rename_i e2;obtain rfl:=v8 e e2;obtain rfl:=zsi hj;exact⟨_,xy _ _ _,rfl⟩
   ·cases hj
  ·obtain⟨s,hs,hbx⟩:=hS.box j y hj;exact⟨s,hB j s hs,hbx.mono hB (Nat.le_refl _) fun _ _=>rfl⟩
 ·by_cases e:j=(nk,0)
  ·subst e;rw [xy] at e1;cases e1
  ·rw [yq _ _ e] at e1;by_cases e':j'=(nk,0)
   ·subst e';rw [xy] at e2;cases e2
   ·rw [yq _ _ e'] at e2;have n1:=hS.lt1 e1;have n2:=hS.lt1 e2;rw [qT,if_neg (by omega)] at hj hj';exact hS.inj j j' y y' b' N N' hj hj' e1 e2
 ·by_cases e:j=(nk,0)
  ·subst e;rw [xy] at hj;cases hj
  ·rw [yq _ _ e] at hj;exact hS.blo j b' N hj
theorem qV {esz bytes:Nat} {s v:Opd} {k n m:Nat} {l q l':List FD} {d:DV} (hs:ro E s=some (.one (.own k 0 n esz))) (hv:ro E v=some d) (hk:lk S k=some (.data l)) (hl':xN l 0 (n*esz)=some l') (hd:u6 S esz d m q) (hbb:(n+m)*bytes<=140737488355328) (h62:n+m<4611686018427387904) (he:0<esz) (hw:YE S k W=true)
 (h:DPW p base rs Q r W A (xn E dst (.one (.own nk 0 (n+m) esz))) ((nk,.data (l'++q))::zE k S) (nk+1)):DPW p base rs Q (⟨id,dst,.e (.append esz bytes s v),none,aid,ws,keep⟩::r) W A E S nk:=.mk fun Z β H F c hS hE hC hA=>by
 obtain⟨news,hn1,hn2,hn3⟩:=rK hS hE hv hd;obtain⟨cs,hcs,hr⟩:=xg hE hs;obtain⟨hle,hl'e⟩:=zW hl';rw [Nat.zero_add] at hle;rw [List.drop_zero] at hl'e;obtain⟨sk,hsk,hbx⟩:=hS.box (k,0) _ (xV hk rfl);simp only [qE,qv,if_true,xq,hn1,hcs];have hfin:∀(H':Hp) (b:Nat) (ys rest:List C) (cap:Nat) (ex:Bool),qg (RF Z H) (l'++q) ys->((∃N,β (k,0)=some (.blk b N))\/(b=H.nx))->b<H'.nx->H.nx<=H'.nx->WF H'->(∀b',b'≠b->(∀N,β (k,0)≠some (.blk b' N))->H'.get b'=H.get b')->xX H' b (ys++rest)->n+m<=cap->cap*esz<=(ys++rest).length->
  zA ws c H'/\qE p.P p.G base (fun F' H'=>∃E' S' nk' Z' β',SR p Z' β' H' S' nk'/\ER Z' β' H' E' F'/\Q E' S' nk') r c (xI F dst (.one (.slc b 0 (n+m) cap esz ex))) H':=by
  intro H' b ys rest cap ex hys hb hbl hnx hwf hg hrow hcap hcl;have hb':(∃N,β (k,0)=some (.blk b N))\/H.nx<=b:=hb.imp (fun h=>h) fun e=>by omega
  obtain⟨hS',hZ,hB⟩:=hS.replace (x':=.data (l'++q)) hk rfl hys (hb.imp (fun h=>h) fun e=>by subst e;exact⟨fun hz=>absurd (hS.z _ hz) (by omega),fun k N hk=>absurd (hS.bd k _ N hk) (by omega),hS.lo⟩) hbl hnx hwf hg rfl hrow;have hC':=hC.repl hS hk hZ hB hg hb' hw;exact⟨hC'.watch ws,h.run Z _ H' _ c hS' ((hE.mono hZ hB).set dst ⟨_,rfl,.inr ⟨b,_,cap,ex,xy _ _ _,rfl,hcap,by omega⟩⟩) hC' (hA.repl hnx hg hb')⟩
 rcases hr with⟨hnil,rfl,_,rfl⟩|⟨b,N,cap,ex,hb,rfl,hcap,hcN⟩
 ·have hl0:l'=[]:=by rw [hl'e];simp
  subst hl0;simp only [zq];rw [Nat.zero_add] at hbb h62;by_cases hm:m=0
  ·subst hm;rw [if_pos rfl];have hq0:q=[]:=List.eq_nil_of_length_eq_zero (by rw [hn2.len,hn3];simp);subst hq0;refine⟨hC.watch ws,?_⟩;have hB:=hS.ble .nil;have hkn:=hS.lt hk;have hZ:=xo.refl Z H;have hS':SR p Z (wB β nk .nil) H ((nk,.data [])::zE k S) (nk+1):=by
    exact (Zo hS).keepS fun j y hj=>by
     rw [qT] at hj ⊢;split at hj
     ·rename_i e;rw [if_pos e];exact hj
     ·rename_i e;rw [if_neg e];rw [yT] at hj;split at hj
      ·cases hj
      ·exact hj
   refine h.run Z _ H _ c hS' ((hE.mono hZ hB).set dst ⟨_,rfl,.inl ⟨xy _ _ _,rfl,rfl,rfl⟩⟩) (hC.step hZ hB fun _ _ _ _ _ _ _ _ _ _ _ _ _ h=>h) ⟨hA.1,fun j hj hjA=>?_⟩;obtain⟨h1,h2,h3,h4⟩:=hA.2 j hj hjA;refine⟨h1,h2,h3,fun i M=>?_⟩;by_cases e:i=(nk,0)
   ·subst e;rw [xy];intro h;cases h
   ·rw [yq _ _ e];exact h4 i M
  ·rw [if_neg hm,if_pos ⟨hbb,h62⟩];have:=hfin (H.push (.row news.length news .lf true)) H.nx news [] m false (by simpa using hn2) (.inr rfl) (by simp) (by simp) (hS.wf.push _) (fun b' hb' _=>by rw [Hp.get_push,if_neg hb']) (by rw [List.append_nil];exact xX.new news) (by omega) (by simp [hn3]);rw [Nat.zero_add] at this;exact this
 ·rw [hb] at hsk;obtain rfl:=zsi hsk;obtain⟨hz,hlo,hlt,cells,rest,hrow,hN,hrel⟩:=hbx;have hN:(cells++rest).length=_:=hN;have hlen:l.length=cells.length:=Bk.rel_len hrel;have hoN:n*esz<=N:=by
   have:n*esz<=cap*esz:=Nat.mul_le_mul_right _ hcap;omega
  have hpre:qg (RF Z H) l' (cells.take (n*esz)):=by rw [hl'e];exact qg.take hrel _
  simp only [zq];rw [if_neg (by simp)];by_cases hfit:n+m<=cap
  ·rw [if_pos hfit,Nat.zero_add];have hcm:(n+m)*esz<=cap*esz:=Nat.mul_le_mul_right _ hfit;rw [Nat.add_mul] at hcm;have hsplit:cells++rest=cells.take (n*esz)++((cells++rest).drop (n*esz)).take (m*esz)++(cells++rest).drop (n*esz+m*esz):=by
    rw [List.append_assoc,<-List.drop_drop,List.take_append_drop,<-List.take_append_of_le_length (l₁:=cells) (l₂:=rest) (by omega),List.take_append_drop]
   obtain⟨H',e1,e2,e3,e4⟩:=hrow.stores (cs:=news) (i:=n*esz) (by rw [hN,hn3];omega);rw [e1];have hset:yO (cells++rest) (n*esz) news=(cells.take (n*esz)++news)++(cells++rest).drop (n*esz+m*esz):=by
    conv=>lhs;rw [hsplit,List.append_assoc]
    have:=vb (cells.take (n*esz)) (((cells++rest).drop (n*esz)).take (m*esz)) news ((cells++rest).drop (n*esz+m*esz)) (by rw [hn3,List.length_take,List.length_drop,hN];omega);rw [List.length_take,Nat.min_eq_left (by omega)] at this;rw [this,List.append_assoc]
   rw [hset] at e2;refine hfin H' b (cells.take (n*esz)++news) _ cap ex (hpre.append hn2) (.inl ⟨N,hb⟩) (by omega) (by omega) (fun b' bk hb'=>?_) (fun b' hb' _=>e3 b' hb') e2 hfit ?_
   ·rw [e4];by_cases e:b'=b
    ·omega
    ·rw [e3 b' e] at hb';exact hS.wf b' bk hb'
   ·have h1:=congrArg List.length hset;rw [wZ] at h1;omega
  ·rw [if_neg hfit,if_pos ⟨hbb,h62⟩];have hld:H.loads b 0 (n*esz)=some (cells.take (n*esz)):=by
    have:=yw hrow.2 (m:=n*esz) (by omega);rw [this,List.take_append_of_le_length (by omega)]
   rw [hld];have hlen2:(cells.take (n*esz)++news).length=(n+m)*esz:=by
    rw [List.length_append,List.length_take,hn3,Nat.add_mul];omega
   have hrow':=xX.new (H:=H) (cells.take (n*esz)++news);cases ex with
   |true=>
    simp only [if_true];exact hfin _ H.nx (cells.take (n*esz)++news) [] (n+m) false (hpre.append hn2) (.inr rfl) (by simp) (by simp) (hS.wf.push _) (fun b' hb' _=>by rw [Hp.get_push,if_neg hb']) (by rw [List.append_nil];exact hrow') (Nat.le_refl _) (by rw [List.append_nil,hlen2];exact Nat.le_refl _)
   |false=>
    simp only [Bool.false_eq_true,if_false,hrow.mut,if_true];refine hfin _ H.nx (cells.take (n*esz)++news) [] (n+m) false (hpre.append hn2) (.inr rfl) (by simp) (by simp) (fun b' bk hb'=>?_) (fun b' hb' hne=>?_) (by rw [List.append_nil];exact hrow'.same (by rw [Hp.get_del,if_neg (by omega)])) (Nat.le_refl _) (by rw [List.append_nil,hlen2];exact Nat.le_refl _)
    ·rw [Hp.get_del] at hb';split at hb'
     ·cases hb'
     ·exact hS.wf.push _ b' bk hb'
    ·rw [Hp.get_del,if_neg (fun (e:b'=b)=>hne N (by rw [e];exact hb)),Hp.get_push,if_neg hb']
end
def bA:DC->Bool
 |.f _=>true
 |.g _ _=>true
 |.fptr _=>true
 |.fz _ _=>true
 |_=>false
def bB:DV->Bool
 |.one d=>bA d
 |.agg l=>qW bA l
 |.tup _=>false
def WJ:DV->Bool
 |.tup l=>qW bB l
 |.one d=>bA d
 |.agg l=>qW bA l
def wU:qw:=fun _=>none
theorem B6(β:qw):xP wU β:=fun _ _ h=>by cases h
section
variable{Z Z':Nat->Prop}{H H':Hp}{β β':qw}
theorem a8{d:DC}{c:C}(h:bA d=true)(hr:RD Z H β d c):RD Z H β' d c:=by
 cases d with
 |f d=>exact hr
 |g b o=>exact hr
 |fptr l=>exact hr
 |fz f ls=>exact hr
 |_=>cases h
theorem lW:∀{l:List DC} {cs:List C},qW bA l=true->qg (RD Z H β) l cs->qg (RD Z H β') l cs
 |[],[],_,_=>trivial
 |d::l,c::cs,h,hr=>by
  have h1:=yk h d (by simp);have h2:qW bA l=true:=by simp only [qW,h1] at h;exact h
  exact⟨a8 h1 hr.1,lW h2 hr.2⟩
 |[],_::_,_,hr=>hr.elim
 |_::_,[],_,hr=>hr.elim
theorem CS{d:DV}{v:V}(h:bB d=true)(hr:zy Z H β d v):zy Z H β' d v:=by
 cases d with
 |one d=>obtain⟨c,rfl,hr⟩:=hr;exact⟨c,rfl,a8 h hr⟩
 |agg l=>obtain⟨c,rfl,hr⟩:=hr;exact⟨c,rfl,lW h hr⟩
 |tup l=>cases h
theorem KC:∀{l:List DV} {cs:List V},qW bB l=true->qg (zy Z H β) l cs->qg (zy Z H β') l cs
 |[],[],_,_=>trivial
 |d::l,c::cs,h,hr=>by
  have h1:=yk h d (by simp);have h2:qW bB l=true:=by simp only [qW,h1] at h;exact h
  exact⟨CS h1 hr.1,KC h2 hr.2⟩
 |[],_::_,_,hr=>hr.elim
 |_::_,[],_,hr=>hr.elim
theorem UL{d:DV}{v:V}(h:WJ d=true)(hr:xG Z H β d v):xG Z H β' d v:=by
 cases d with
 |one d=>obtain⟨c,rfl,hr⟩:=hr;exact⟨c,rfl,a8 h hr⟩
 |agg l=>obtain⟨c,rfl,hr⟩:=hr;exact⟨c,rfl,lW h hr⟩
 |tup l=>obtain⟨c,rfl,hr⟩:=hr;exact⟨c,rfl,KC h hr⟩
theorem KB:∀{l:List DV} {cs:List V},qW WJ l=true->qg (xG Z H β) l cs->qg (xG Z H β') l cs
 |[],[],_,_=>trivial
 |d::l,c::cs,h,hr=>by
  have h1:=yk h d (by simp);have h2:qW WJ l=true:=by simp only [qW,h1] at h;exact h
  exact⟨UL h1 hr.1,KB h2 hr.2⟩
 |[],_::_,_,hr=>hr.elim
 |_::_,[],_,hr=>hr.elim
end
def nM:DC->Bool
 |.f (.c _)=>true
 |_=>false
def Xa:DV->Bool
 |.one d=>nM d
 |.agg l=>qW nM l
 |.tup _=>false
def clV:DV->Bool
 |.tup l=>qW Xa l
 |.one d=>nM d
 |.agg l=>qW nM l
section
variable{Z Z':Nat->Prop}{H H':Hp}{β β':qw}
theorem nL{d:DC}{c:C}(h:nM d=true)(hr:RD Z H β d c):RD Z' H' β' d c:=by
 cases d with
 |f d=>cases d with
  |c x=>cases hr with
   |c _ hx=>exact RF.c _ hx
  |sl=>cases h
 |_=>cases h
theorem nK:∀{l:List DC} {cs:List C},qW nM l=true->qg (RD Z H β) l cs->qg (RD Z' H' β') l cs
 |[],[],_,_=>trivial
 |d::l,c::cs,h,hr=>by
  have h1:=yk h d (by simp);have h2:qW nM l=true:=by simp only [qW,h1] at h;exact h
  exact⟨nL h1 hr.1,nK h2 hr.2⟩
 |[],_::_,_,hr=>hr.elim
 |_::_,[],_,hr=>hr.elim
theorem qbW{d:DV}{v:V}(h:Xa d=true)(hr:zy Z H β d v):zy Z' H' β' d v:=by
 cases d with
 |one d=>obtain⟨c,rfl,hr⟩:=hr;exact⟨c,rfl,nL h hr⟩
 |agg l=>obtain⟨c,rfl,hr⟩:=hr;exact⟨c,rfl,nK h hr⟩
 |tup l=>cases h
theorem rV:∀{l:List DV} {cs:List V},qW Xa l=true->qg (zy Z H β) l cs->qg (zy Z' H' β') l cs
 |[],[],_,_=>trivial
 |d::l,c::cs,h,hr=>by
  have h1:=yk h d (by simp);have h2:qW Xa l=true:=by simp only [qW,h1] at h;exact h
  exact⟨qbW h1 hr.1,rV h2 hr.2⟩
 |[],_::_,_,hr=>hr.elim
 |_::_,[],_,hr=>hr.elim
theorem qbV{d:DV}{v:V}(h:clV d=true)(hr:xG Z H β d v):xG Z' H' β' d v:=by
 cases d with
 |one d=>obtain⟨c,rfl,hr⟩:=hr;exact⟨c,rfl,nL h hr⟩
 |agg l=>obtain⟨c,rfl,hr⟩:=hr;exact⟨c,rfl,nK h hr⟩
 |tup l=>obtain⟨c,rfl,hr⟩:=hr;exact⟨c,rfl,rV h hr⟩
end
def yg(P:Program)(G:Nat)(GH:Hp)(f:FuncId)(ds:List DV)(R:DV->Prop):Prop:=∀(H:Hp) (Z:Nat->Prop) (args:List V),WF H->(∀b,Z b->b<H.nx)->(∀b bk,GH.get b=some bk->Z b/\H.get b=some bk)->qg (xG Z H wU) ds args->
 qJ P G f args H fun v H'=>WF H'/\H.nx<=H'.nx/\(∀b,b<H.nx->H'.get b=H.get b)/\∃d,xG (fun b=>Z b\/(H.nx<=b/\b<H'.nx)) H' wU d v/\R d
theorem yg.mono{P:Program}{G:Nat}{GH:Hp}{f:FuncId}{ds:List DV}{R R':DV->Prop}(h:yg P G GH f ds R)(hr:∀d,R d->R' d):yg P G GH f ds R':=fun H Z args h1 h2 h3 h4=>(h H Z args h1 h2 h3 h4).mono fun _ _ ⟨g1,g2,g3,d,g4,g5⟩=>⟨g1,g2,g3,d,g4,hr d g5⟩
theorem qJ.none{P:Program}{G:Nat}{f:FuncId}{args:List V}{H:Hp}{R:V->Hp->Prop}(h:qJ P G f args H R):qJ P G f args H fun v H'=>R v H'/\∀b,b<H.nx->H.get b=none->H'.get b=none:=fun μ K w xs hR ha=>(h μ K w xs hR ha).mono fun _ _ ⟨x,e,v,H',μ',K',h1,h2,h3,h4⟩=>⟨x,e,v,H',μ',K',⟨h1,h4.none⟩,h2,h3,h4⟩
def Zc(E:qp):List Opd->Option (List DV)
 |[]=>some []
 |x::l=>match ro E x,Zc E l with
  |some d,some r=>some (d::r)
  |_,_=>none
theorem kS{Z:Nat->Prop}{β:qw}{H:Hp}{E:qp}{F:T V}(h:ER Z β H E F):∀{args:List Opd} {ds:List DV},Zc E args=some ds->qg (xG Z H β) ds (args.map (·.ev F))
 |[],ds,hd=>by obtain rfl:=zsi hd;trivial
 |x::l,ds,hd=>by
  simp only [Zc] at hd;split at hd
  ·rename_i d q h1 h2;obtain rfl:=zsi hd;exact⟨xg h h1,kS h h2⟩
  ·cases hd
def yh(r:List FD):FD:=.sl 1 r.length r
def V5(S:Bx):DC->DC->Prop
 |.own k o n esz,e=>match lk S k with
  |some (.tree rows)=>o=0/\n=rows.length/\esz=1/\e=.f (.sl 1 n (rows.map yh))
  |_=>∃l q,lk S k=some (.data l)/\xN l o (n*esz)=some q/\e=.f (.sl esz n q)
 |.trow k i o n,e=>∃rows r q,lk S k=some (.tree rows)/\rows[i]?=some r/\xN r o n=some q/\e=.f (.sl 1 n q)
 |d,e=>bA d=true/\e=d
def sM(S:Bx):DV->DV->Prop
 |.one d,e=>∃x,e=.one x/\V5 S d x
 |.agg l,e=>∃m,e=.agg m/\qg (V5 S) l m
 |.tup _,_=>False
section
variable{p:Par}{base rs:Nat}{Q:qp->Bx->Nat->Prop}{r:List SOper}{W:Wt}{A:List Nat}{E:qp}{S:Bx}{nk:Nat}{id:Nat}{dst:Option Nat}{aid:Option Nat}{ws:List Nat}{keep:Bool}
theorem SR.grow{Z:Nat->Prop}{β:qw}{H H':Hp}(hS:SR p Z β H S nk){Z':Nat->Prop}(hz:∀b,Z' b↔Z b\/(H.nx<=b/\Z' b))(hzz:∀b,Z' b->b<H'.nx)(hw:WF H')(hnx:H.nx<=H'.nx)(hg:∀b,b<H.nx->H'.get b=H.get b):SR p Z' β H' S nk/\xo Z H Z' H':=by
 have hz1:∀b,Z b->Z' b:=fun b hb=>(hz b).2 (.inl hb);have hz2:∀b,Z' b->b<H.nx->Z b:=fun b hb hl=>((hz b).1 hb).elim (fun h=>h) fun h=>by omega
 have hZ:xo Z H Z' H':=xo.of_get hz1 fun b hb=>hg b (hS.z b hb);refine⟨⟨hw,Nat.le_trans hS.lo hnx,hzz,fun b hb=>?_,fun b hb=>hz1 b (hS.zz b hb),fun b bk hb=>?_,hS.nk,fun k b N hk=>Nat.lt_of_lt_of_le (hS.bd k b N hk) hnx,fun k x hk=>?_,hS.inj,hS.blo,hS.anch,hS.ancn⟩,hZ⟩
 ·rcases (hz b).1 hb with h|h
  ·exact hS.zlo b h
  ·exact .inr (Nat.le_trans hS.lo h.1)
 ·obtain⟨h1,h2⟩:=hS.glob b bk hb;exact⟨hz1 b h1,by rw [hg b (hS.z b h1)];exact h2⟩
 ·obtain⟨s,hs,hbx⟩:=hS.box k x hk;refine⟨s,hs,?_⟩;cases s with
  |nil=>exact hbx
  |blk b N=>
   obtain⟨h1,h2,h3,cs,rest,h4,h5,h6⟩:=hbx;exact⟨fun h=>h1 (hz2 b h h3),h2,by omega,cs,rest,h4.same (hg b h3),h5,Bk.rel_mono hZ (xP.refl _) h6⟩
theorem AR.grow{Z Z':Nat->Prop}{β:qw}{H H':Hp}(hA:AR p base rs A Z β H)(hz:∀b,Z' b↔Z b\/(H.nx<=b/\Z' b))(hnx:H.nx<=H'.nx)(hg:∀b,b<H.nx->H'.get b=H.get b):AR p base rs A Z' β H':=⟨hA.1,fun j hj hjA=>by
 obtain⟨h1,h2,h3,h4⟩:=hA.2 j hj hjA;exact⟨by omega,by rw [hg _ h1];exact h2,fun h=>((hz _).1 h).elim h3 fun h=>by omega,h4⟩⟩
theorem qk{f:FuncId}{args:List Opd}{ds:List DV}{R:DV->Prop}(hvs:Zc E args=some ds)(hf:qW WJ ds=true)(hc:yg p.P p.G p.GH f ds R)(h:∀d,R d->DPW p base rs Q r W A (xn E dst d) S nk):DPW p base rs Q (⟨id,dst,.cf f args,none,aid,ws,keep⟩::r) W A E S nk:=.mk fun Z β H F c hS hE hC hA=>by
 simp only [qE,qv,if_true];refine (hc H Z _ hS.wf hS.z (fun b bk hb=>hS.glob b bk (.inl hb)) (KB hf (kS hE hvs))).mono ?_;rintro v H' ⟨hw,hnx,hg,d,hr,hR⟩;have hz:∀b,(Z b\/(H.nx<=b/\b<H'.nx))↔Z b\/(H.nx<=b/\(Z b\/(H.nx<=b/\b<H'.nx))):=fun b=>⟨fun h=>h.elim .inl fun h=>.inr ⟨h.1,.inr h⟩,fun h=>h.elim .inl fun h=>h.2⟩;obtain⟨hS',hZ⟩:=hS.grow (Z':=fun b=>Z b\/(H.nx<=b/\b<H'.nx)) hz (fun b hb=>hb.elim (fun h=>Nat.lt_of_lt_of_le (hS.z b h) hnx) fun h=>h.2) hw hnx hg;have hC':=hC.same hZ (xP.refl β) hg hS.wf;exact⟨hC'.watch ws,(h d hR).run _ β H' _ c hS' ((hE.mono hZ (xP.refl _)).set dst (hr.mono (xo.refl _ _) (B6 β))) hC' (hA.grow hz hnx hg)⟩
theorem CL{Z:Nat->Prop}{β:qw}{H:Hp}(hS:SR p Z β H S nk){κ:zF}{o n esz:Nat}{c:C}(hr:(β κ=some .nil/\n=0/\o=0/\c=.nils)\/∃b N cap ex,β κ=some (.blk b N)/\c=.slc b o n cap esz ex/\n<=cap/\o+cap*esz<=N){l q:List FD}(hk:qR S κ=some (.data l))(hq:xN l o (n*esz)=some q):∃cs,qg (RF Z H) q cs/\((c=.nils/\n=0/\cs=[])\/∃b cap ex N,β κ=some (.blk b N)/\c=.slc b o n cap esz ex/\n<=cap/\H.loads b o (n*esz)=some cs):=by
 obtain⟨hle,rfl⟩:=zW hq;rcases hr with⟨_,rfl,rfl,rfl⟩|⟨b,N,cap,ex,hb,rfl,hcap,_⟩
 ·exact⟨[],by simp;trivial,.inl ⟨rfl,rfl,rfl⟩⟩
 ·obtain⟨s,hs,hbx⟩:=hS.box κ _ hk;rw [hb] at hs;obtain rfl:=zsi hs;obtain⟨_,_,_,cs,rest,hrow,hN,hrel⟩:=hbx;have hN:(cs++rest).length=_:=hN;have hlen:=Bk.rel_len hrel;simp only [Bk.len] at hlen;refine⟨(cs.drop o).take (n*esz),(qg.drop hrel o).take _,.inr ⟨b,cap,ex,N,hb,rfl,hcap,?_⟩⟩;have h1:H.loads b (0+o) (n*esz)=some (((cs++rest).drop o).take (n*esz)):=kY hrow.2 (by simp;omega);rw [Nat.zero_add] at h1;rw [h1,List.drop_append_of_le_length (by omega),List.take_append_of_le_length (by simp;omega)]
theorem Ky{Z Z':Nat->Prop}{β:qw}{H:Hp}(hS:SR p Z β H S nk)(hZ:xo Z H Z' H){κ:zF}{o n esz:Nat}{c:C}(hr:(β κ=some .nil/\n=0/\o=0/\c=.nils)\/∃b N cap ex,β κ=some (.blk b N)/\c=.slc b o n cap esz ex/\n<=cap/\o+cap*esz<=N){l q:List FD}(hk:qR S κ=some (.data l))(hq:xN l o (n*esz)=some q)(hz:∀b N,β κ=some (.blk b N)->Z' b):RF Z' H (.sl esz n q) c:=by
 have hql:q.length=n*esz:=by obtain⟨h1,rfl⟩:=zW hq;simp;omega
 obtain⟨cs,h1,h2⟩:=CL hS hr hk hq;rcases h2 with⟨rfl,rfl,rfl⟩|⟨b,cap,ex,N,hb,rfl,hcap,h2⟩
 ·have:q=[]:=List.eq_nil_of_length_eq_zero (by simpa using hql);subst this;exact .nil esz
 ·refine .sl (fun _=>hz b N hb) hql hcap h2 fun i d c hd hc=>?_;obtain⟨c',hc',hr'⟩:=h1.at i d hd;rw [hc] at hc';obtain rfl:=zsi hc';exact RF.mono hZ hr'
theorem QA{k i:Nat}{rows:List (List FD)}{r:List FD}(hk:lk S k=some (.tree rows))(hi:rows[i]?=some r):qR S (k,i+1)=some (.data r):=by simp only [qR,hk,hi];rfl
theorem gN{Z Z':Nat->Prop}{β:qw}{H:Hp}(hS:SR p Z β H S nk)(hZ:xo Z H Z' H){k:Nat}{rows:List (List FD)}{c:C}(hk:lk S k=some (.tree rows))(hr:RD Z H β (.own k 0 rows.length 1) c)(hz:∀i b N x,qR S (k,i)=some x->β (k,i)=some (.blk b N)->Z' b):RF Z' H (.sl 1 rows.length (rows.map yh)) c:=by
 have hk0:qR S (k,0)=some (.cells (zh k 0 rows)):=by simp only [qR,hk]
 rcases hr with⟨_,h0,_,rfl⟩|⟨b,N,cap,ex,hb,rfl,hcap,_⟩
 ·have:rows=[]:=List.eq_nil_of_length_eq_zero h0;subst this;exact .nil 1
 ·obtain⟨s,hs,hbx⟩:=hS.box (k,0) _ hk0;rw [hb] at hs;obtain rfl:=zsi hs;obtain⟨_,_,_,cs,rest,hrow,hN,hrel⟩:=hbx;have hN:(cs++rest).length=_:=hN;have hlen:(zh k 0 rows).length=cs.length:=qg.len hrel;rw [kP] at hlen;refine .sl (cs:=cs) (fun _=>hz 0 b N _ hk0 hb) (by simp) hcap ?_ fun i d c hd hc=>?_
  ·rw [Nat.mul_one,hlen];have:=yw hrow.2 (m:=cs.length) (by simp);rw [this,List.take_left]
  ·rw [List.getElem?_map] at hd;cases hri:rows[i]? with
   |none=>rw [hri] at hd;cases hd
   |some r=>
    rw [hri] at hd;obtain rfl:=zsi hd;obtain⟨c',hc',hrr⟩:=qg.at hrel i (.trow k i 0 r.length) (by rw [Xg,hri];simp);rw [hc] at hc';obtain rfl:=zsi hc';exact Ky (esz:=1) hS hZ hrr (QA hk hri) (by rw [yE (by simp)];simp) fun b N=>hz (i+1) b N _ (QA hk hri)
theorem gK{Z:Nat->Prop}{β:qw}{H:Hp}(hS:SR p Z β H S nk){d e:DC}{c:C}(hv:V5 S d e)(hr:RD Z H β d c):RD (fun b=>Z b\/∃(k:zF) (x:Bk) (N:Nat),lk S k.1=some x/\β k=some (.blk b N)) H wU e c:=by
 have hZ:xo Z H (fun b=>Z b\/∃(k:zF) (x:Bk) (N:Nat),lk S k.1=some x/\β k=some (.blk b N)) H:=fun b hb=>⟨.inl hb,fun _ _ h=>h⟩;have key:∀d,bA d=true->e=d->RD Z H β d c->RD (fun b=>Z b\/∃(k:zF) (x:Bk) (N:Nat),lk S k.1=some x/\β k=some (.blk b N)) H wU e c:=fun d hf he hr=>by
  subst he;exact a8 hf (hr.mono hZ (xP.refl β))
 cases d with
 |own k o n esz=>
  simp only [V5] at hv;split at hv
  rotate_left
  ·obtain⟨l,q,hk,hq,rfl⟩:=hv;exact Ky hS hZ hr (xV hk rfl) hq fun b N hb=>.inr ⟨(k,0),_,N,hk,hb⟩
  ·rename_i rows hk;obtain⟨rfl,rfl,rfl,rfl⟩:=hv;exact gN hS hZ hk hr fun i b N _ _ hb=>.inr ⟨(k,i),_,N,hk,hb⟩
 |trow k i o n=>
  obtain⟨rows,r,q,hk,hri,hq,rfl⟩:=hv;exact Ky (esz:=1) hS hZ hr (QA hk hri) (by rw [Nat.mul_one];exact hq) fun b N hb=>.inr ⟨(k,i+1),_,N,hk,hb⟩
 |f d=>exact key _ hv.1 hv.2 hr
 |g b o=>exact key _ hv.1 hv.2 hr
 |fptr l=>exact key _ hv.1 hv.2 hr
 |fz f ls=>exact key _ hv.1 hv.2 hr
 |_=>cases hv.1
theorem dP{Z:Nat->Prop}{β:qw}{H:Hp}(hS:SR p Z β H S nk):∀{l m:List DC} {cs:List C},qg (V5 S) l m->qg (RD Z H β) l cs->qg (RD (fun b=>Z b\/∃(k:zF) (x:Bk) (N:Nat),lk S k.1=some x/\β k=some (.blk b N)) H wU) m cs
 |[],[],[],_,_=>trivial
 |_::_,_::_,_::_,h,hr=>⟨gK hS h.1 hr.1,dP hS h.2 hr.2⟩
 |[],_::_,_,h,_=>h.elim
 |_::_,[],_,h,_=>h.elim
 |[],[],_::_,_,hr=>hr.elim
 |_::_,_::_,[],_,hr=>hr.elim
theorem EY{Z:Nat->Prop}{β:qw}{H:Hp}(hS:SR p Z β H S nk){d e:DV}{v:V}(hv:sM S d e)(hr:xG Z H β d v):xG (fun b=>Z b\/∃(k:zF) (x:Bk) (N:Nat),lk S k.1=some x/\β k=some (.blk b N)) H wU e v:=by
 cases d with
 |one d=>obtain⟨x,rfl,hv⟩:=hv;obtain⟨c,rfl,hr⟩:=hr;exact⟨c,rfl,gK hS hv hr⟩
 |agg l=>obtain⟨x,rfl,hv⟩:=hv;obtain⟨c,rfl,hr⟩:=hr;exact⟨c,rfl,dP hS hv hr⟩
 |tup l=>exact hv.elim
theorem dO{Z:Nat->Prop}{β:qw}{H:Hp}(hS:SR p Z β H S nk):∀{l m:List DV} {cs:List V},qg (sM S) l m->qg (xG Z H β) l cs->qg (xG (fun b=>Z b\/∃(k:zF) (x:Bk) (N:Nat),lk S k.1=some x/\β k=some (.blk b N)) H wU) m cs
 |[],[],[],_,_=>trivial
 |_::_,_::_,_::_,h,hr=>⟨EY hS h.1 hr.1,dO hS h.2 hr.2⟩
 |[],_::_,_,h,_=>h.elim
 |_::_,[],_,h,_=>h.elim
 |[],[],_::_,_,hr=>hr.elim
 |_::_,_::_,[],_,hr=>hr.elim
theorem YV{f:FuncId}{args:List Opd}{vs ds:List DV}{R:DV->Prop}(hvs:Zc E args=some vs)(hf:qg (sM S) vs ds)(hc:yg p.P p.G p.GH f ds R)(hcl:∀d,R d->clV d=true)(h:∀d,R d->DPW p base rs Q r W A (xn E dst d) S nk):DPW p base rs Q (⟨id,dst,.cf f args,none,aid,ws,keep⟩::r) W A E S nk:=.mk fun Z β H F c hS hE hC hA=>by
 simp only [qE,qv,if_true];refine (hc H _ _ hS.wf (fun b hb=>hb.elim (hS.z b) fun⟨k,x,N,_,h2⟩=>hS.bd k b N h2) (fun b bk hb=>⟨.inl (hS.glob b bk (.inl hb)).1,(hS.glob b bk (.inl hb)).2⟩) (dO hS hf (kS hE hvs))).mono ?_;rintro v H' ⟨hw,hnx,hg,d,hr,hR⟩;have hz:∀b,Z b↔Z b\/(H.nx<=b/\Z b):=fun b=>⟨.inl,fun h=>h.elim (fun h=>h) fun h=>h.2⟩;obtain⟨hS',hZ⟩:=hS.grow hz (fun b h=>Nat.lt_of_lt_of_le (hS.z b h) hnx) hw hnx hg;have hC':=hC.same hZ (xP.refl β) hg hS.wf;exact⟨hC'.watch ws,(h d hR).run _ β H' _ c hS' ((hE.mono hZ (xP.refl _)).set dst (qbV (hcl d hR) hr)) hC' (hA.grow hz hnx hg)⟩
end
def ZN(k:Nat)(l:List FD):DC->DC
 |.own j o n e=>match Nat.beq j k with
  |true=>.f (.sl e n l)
  |false=>.own j o n e
 |.trow j i o n=>match Nat.beq j k with
  |true=>.any
  |false=>.trow j i o n
 |d=>d
def pP(k:Nat)(ok:Nat->Nat->Nat->Prop):DC->Prop
 |.own j o n e=>match Nat.beq j k with
  |true=>ok o n e
  |false=>True
 |_=>True
def eB(k:Nat)(ok:Nat->Nat->Nat->Prop):List DC->Prop
 |[]=>True
 |d::r=>pP k ok d/\eB k ok r
def eA(l:List FD)(o n e:Nat):Prop:=o=0/\l.length=n*e
def LO(rows:List (List FD))(o n e:Nat):Prop:=o=0/\n=rows.length/\e=1
def pZ(k:Nat)(l:List FD):DV->DV
 |.one d=>.one (ZN k l d)
 |.agg m=>.agg (m.map (ZN k l))
 |.tup m=>.tup m
def pN(k:Nat)(ok:Nat->Nat->Nat->Prop):DV->Prop
 |.one d=>pP k ok d
 |.agg m=>eB k ok m
 |.tup _=>True
def vO(k:Nat)(l:List FD):Bk->Bk
 |.cells m=>.cells (m.map (ZN k l))
 |.data m=>.data m
 |.tree rows=>.tree rows
 |.mp ks m=>.mp ks (m.map (ZN k l))
 |.mt es=>.mt (wh (ZN k l) es)
def B5(k:Nat)(ok:Nat->Nat->Nat->Prop):List (Int × ME)->Prop
 |[]=>True
 |(_,.row _)::es=>B5 k ok es
 |(_,.out c)::es=>pP k ok c/\B5 k ok es
def aQ(k:Nat)(ok:Nat->Nat->Nat->Prop):Bk->Prop
 |.cells m=>eB k ok m
 |.data _=>True
 |.tree _=>True
 |.mp _ m=>eB k ok m
 |.mt es=>B5 k ok es
def yB{α:Type}(f:α->α):List (Nat × α)->List (Nat × α)
 |[]=>[]
 |(k,x)::r=>(k,f x)::yB f r
def Yf{α:Type}(f:α->Prop):List (Nat × α)->Prop
 |[]=>True
 |(_,x)::r=>f x/\Yf f r
theorem wL{α:Type}(f:α->α)(n:Nat):∀E:List (Nat × α),lk (yB f E) n=(lk E n).map f
 |[]=>rfl
 |(k,x)::r=>by
  simp only [yB,qT];split
  ·rfl
  ·exact wL f n r
theorem iW{α:Type}{f:α->Prop}{n:Nat}{x:α}:∀{E:List (Nat × α)},Yf f E->lk E n=some x->f x
 |[],_,h=>by cases h
 |(k,y)::r,ho,h=>by
  rw [qT] at h;split at h
  ·obtain rfl:=zsi h;exact ho.1
  ·exact iW ho.2 h
section
variable{p:Par}{base rs:Nat}{Q:qp->Bx->Nat->Prop}{W:Wt}{A:List Nat}{E:qp}{S:Bx}{nk:Nat}
theorem p5{k:Nat}{l:List FD}{j:Nat}(hj:j≠k):∀(i:Nat) (rows:List (List FD)),(zh j i rows).map (ZN k l)=zh j i rows
 |_,[]=>rfl
 |i,r::rs=>by simp only [zh,List.map_cons,p5 hj (i+1) rs,ZN,jv hj]
theorem UF{k:Nat}{l:List FD}{S:Bx}{κ:zF}{y:Bk}(hy:qR (yB (vO k l) (zE k S)) κ=some y):κ.1≠k/\∃x,qR S κ=some x/\y=vO k l x:=by
 obtain⟨z,hz⟩:=yG hy;rw [wL,yT] at hz;split at hz
 ·cases hz
 ·rename_i hne;refine⟨hne,?_⟩;cases hl:lk S κ.1 with
  |none=>rw [hl] at hz;cases hz
  |some x=>
   have hlk:lk (yB (vO k l) (zE k S)) κ.1=some (vO k l x):=by rw [wL,yT,if_neg hne,hl];rfl
   obtain⟨j,i⟩:=κ;simp only at hl hlk hne;cases i with
   |zero=>
    simp only [qR,hl];simp only [qR,hlk] at hy;cases x with
    |cells m=>exact⟨_,rfl,(zsi hy).symm⟩
    |data m=>exact⟨_,rfl,(zsi hy).symm⟩
    |tree rows=>refine⟨_,rfl,?_⟩;rw [<-zsi hy];simp only [vO,p5 hne]
    |mp ks m=>exact⟨_,rfl,(zsi hy).symm⟩
    |mt es=>refine⟨_,rfl,?_⟩;rw [<-zsi hy];simp only [vO];rw [YP (ZN k l) j j (fun _=>rfl) (fun i n=>by simp only [ZN,jv hne])]
   |succ i=>
    simp only [qR,hl];simp only [qR,hlk] at hy;cases x with
    |cells m=>cases hy
    |data m=>cases hy
    |tree rows=>
     cases hr:rows[i]? with
     |none=>simp only [vO,hr] at hy;cases hy
     |some r=>simp only [vO,hr] at hy;exact⟨.data r,by simp only [hr];rfl,(zsi hy).symm⟩
    |mp ks m=>cases hy
    |mt es=>
     simp only [vO,Wz] at hy;obtain⟨y',r,h1,rfl⟩:=wr hy;exact⟨.data r,by simp only [h1,wg],rfl⟩
theorem iY{k:Nat}{ok:Nat->Nat->Nat->Prop}(j:Nat):∀(i:Nat) (rows:List (List FD)),eB k ok (zh j i rows)
 |_,[]=>trivial
 |i,_::rs=>⟨trivial,iY j (i+1) rs⟩
theorem iZ{k:Nat}{ok:Nat->Nat->Nat->Prop}(j:Nat):∀(i:Nat) (es:List (Int × ME)),B5 k ok es->eB k ok (kX j i es)
 |_,[],_=>trivial
 |i,(_,.row _)::es,h=>⟨trivial,trivial,iZ j (i+1) es h⟩
 |i,(_,.out _)::es,h=>⟨trivial,h.1,iZ j (i+1) es h.2⟩
theorem OS{k:Nat}{ok:Nat->Nat->Nat->Prop}{S:Bx}{κ:zF}{z:Bk}(hlk:∀{n:Nat} {x:Bk},lk S n=some x->aQ k ok x)(hz:qR S κ=some z):aQ k ok z:=by
 obtain⟨j,i⟩:=κ;obtain⟨x,hx⟩:=yG hz;have ho:=hlk hx;cases i with
 |zero=>
  simp only [qR] at hz hx;rw [hx] at hz;cases x with
  |cells m=>obtain rfl:=zsi hz;exact ho
  |data m=>obtain rfl:=zsi hz;exact ho
  |tree rows=>obtain rfl:=zsi hz;exact iY j 0 rows
  |mp ks m=>obtain rfl:=zsi hz;exact ho
  |mt es=>obtain rfl:=zsi hz;exact iZ j 0 es ho
 |succ i=>
  simp only [qR] at hz hx;rw [hx] at hz;cases x with
  |cells m=>cases hz
  |data m=>cases hz
  |tree rows=>
   cases hr:rows[i]? with
   |none=>simp only [hr] at hz;cases hz
   |some r=>simp only [hr] at hz;obtain rfl:=zsi hz;trivial
  |mp ks m=>cases hz
  |mt es=>obtain⟨_,r,_,rfl⟩:=wr hz;trivial
theorem eO(k:Nat)(l:List FD)(x:Bk):(vO k l x).shape=x.shape:=by cases x<;>rfl
theorem SR.lo2{Z:Nat->Prop}{β:qw}{H:Hp}(hS:SR p Z β H S nk){κ:zF}{x:Bk}{b N:Nat}(hk:qR S κ=some x)(hb:β κ=some (.blk b N)):p.lo<=b:=by
 obtain⟨s,hs,hbx⟩:=hS.box κ x hk;rw [hb] at hs;obtain rfl:=zsi hs;exact hbx.2.1
theorem lV {Z:Nat->Prop} {β:qw} {H:Hp} {F:T V} (hS:SR p Z β H S nk) (hE:ER Z β H E F) {k:Nat} {x:Bk} {l:List FD} {ok:Nat->Nat->Nat->Prop} (hk:lk S k=some x)
 (hall:∀{Z'},xo Z H Z' H->(∀i b N x,qR S (k,i)=some x->β (k,i)=some (.blk b N)->Z' b)->∀o n e c,ok o n e->RD Z H β (.own k o n e) c->RF Z' H (.sl e n l) c) (hoE:Yf (pN k ok) E) (hoS:Yf (aQ k ok) S):
 ∃Z',SR p Z' β H (yB (vO k l) (zE k S)) nk/\ER Z' β H (yB (pZ k l) E) F/\xo Z H Z' H/\∀b,Z' b↔Z b\/∃i N x,qR S (k,i)=some x/\β (k,i)=some (.blk b N):=by
 have hZ:xo Z H (fun b=>Z b\/∃i N x,qR S (k,i)=some x/\β (k,i)=some (.blk b N)) H:=fun b hb=>⟨.inl hb,fun _ _ h=>h⟩;have hC:∀d c,pP k ok d->RD Z H β d c->RD (fun b=>Z b\/∃i N x,qR S (k,i)=some x/\β (k,i)=some (.blk b N)) H β (ZN k l d) c:=fun d c ho hr=>by
  cases d with
  |own j o n e=>
   simp only [ZN,pP] at ho ⊢;by_cases hj:j=k
   ·subst hj;rw [jS] at ho ⊢;exact hall hZ (fun i b N x hx hb=>.inr ⟨i,N,x,hx,hb⟩) o n e c ho hr
   ·rw [jv hj];simp only;exact hr.mono hZ (xP.refl β)
  |trow j i o n=>
   simp only [ZN];by_cases hj:j=k
   ·subst hj;rw [jS];trivial
   ·rw [jv hj];exact hr
  |f d=>exact RD.mono (d:=.f d) hZ (xP.refl β) hr
  |g b o=>exact hr
  |ptr j o=>exact hr
  |tptr j i o=>exact hr
  |fptr q=>exact RD.mono (d:=.fptr q) hZ (xP.refl β) hr
  |fn f caps=>exact hr
  |any=>trivial
  |om j=>exact hr
  |yl j=>exact hr
  |fz f ls=>exact RD.mono (d:=.fz f ls) hZ (xP.refl β) hr
 have hL:∀{m:List DC} {cs:List C},eB k ok m->qg (RD Z H β) m cs->qg (RD (fun b=>Z b\/∃i N x,qR S (k,i)=some x/\β (k,i)=some (.blk b N)) H β) (m.map (ZN k l)) cs:=by
  intro m;induction m with
  |nil=>intro cs _ h;cases cs with
   |nil=>trivial
   |cons _ _=>exact h.elim
  |cons d m ih=>intro cs ho h;cases cs with
   |nil=>exact h.elim
   |cons c cs=>exact⟨hC d c ho.1 h.1,ih ho.2 h.2⟩
 refine⟨fun b=>Z b\/∃i N x,qR S (k,i)=some x/\β (k,i)=some (.blk b N),⟨hS.wf,hS.lo,fun b hb=>hb.elim (hS.z b) fun⟨i,N,_,_,h⟩=>hS.bd _ b N h,fun b hb=>?_,fun b hb=>.inl (hS.zz b hb),fun b bk hb=>⟨.inl (hS.glob b bk hb).1,(hS.glob b bk hb).2⟩,hS.nk,hS.bd,fun j y hj=>?_,fun j j' y y' b N N' hj hj' h1 h2=>?_,hS.blo,hS.anch,hS.ancn⟩,fun n d hd=>?_,hZ,fun b=>Iff.rfl⟩
 ·rcases hb with hb|⟨i,N,x,hx,hb⟩
  ·exact hS.zlo b hb
  ·exact .inr (hS.lo2 hx hb)
 ·obtain⟨hne,z,hz,rfl⟩:=UF hj;obtain⟨s,hs,hbx⟩:=hS.box j z hz;obtain⟨w,hw⟩:=yG hz;refine⟨s,hs,?_⟩;cases s with
  |nil=>cases z<;>simpa [jd,vO,Bk.len,wh] using hbx
  |blk b N=>
   obtain⟨h1,h2,h3,cs,rest,h4,h5,h6⟩:=hbx;have hoz:=OS (fun hx=>iW hoS hx) hz;refine⟨fun h=>h.elim h1 fun⟨i,M,_,_,hM⟩=>hne (by rw [hS.inj j (k,i) w _ b N M hw hk hs hM]),h2,h3,cs,rest,by rw [eO];exact h4,by rw [eO];exact h5,?_⟩;cases z with
   |cells m=>exact hL hoz h6
   |data m=>exact qg.mono (fun _ _=>RF.mono hZ) h6
   |tree m=>exact h6.elim
   |mp ks m=>exact hL hoz h6
   |mt es=>exact h6.elim
 ·have f:∀(κ:zF) w,lk (yB (vO k l) (zE k S)) κ.1=some w->∃z,lk S κ.1=some z:=fun κ w hw=>by
   rw [wL,yT] at hw;split at hw
   ·cases hw
   ·cases e:lk S κ.1 with
    |none=>rw [e] at hw;cases hw
    |some z=>exact⟨z,rfl⟩
  obtain⟨z1,e1⟩:=f j y hj;obtain⟨z2,e2⟩:=f j' y' hj';exact hS.inj j j' z1 z2 b N N' e1 e2 h1 h2
 ·rw [wL] at hd;cases hl:lk E n with
  |none=>rw [hl] at hd;cases hd
  |some y=>
   rw [hl] at hd;obtain rfl:=zsi hd;obtain⟨v,hv,hr⟩:=hE n y hl;refine⟨v,hv,?_⟩;have hoy:=iW hoE hl;cases y with
   |one d=>obtain⟨c,rfl,hr⟩:=hr;exact⟨c,rfl,hC d c hoy hr⟩
   |agg m=>obtain⟨c,rfl,hr⟩:=hr;exact⟨c,rfl,hL hoy hr⟩
   |tup m=>exact xG.mono (d:=.tup m) hZ (xP.refl β) hr
theorem CQ{Z:Nat->Prop}{β:qw}{H:Hp}{F:T V}(hS:SR p Z β H S nk)(hE:ER Z β H E F){k:Nat}{l:List FD}(hk:lk S k=some (.data l))(hoE:Yf (pN k (eA l)) E)(hoS:Yf (aQ k (eA l)) S):
 ∃Z',SR p Z' β H (yB (vO k l) (zE k S)) nk/\ER Z' β H (yB (pZ k l) E) F/\xo Z H Z' H/\∀b,Z' b↔Z b\/∃i N x,qR S (k,i)=some x/\β (k,i)=some (.blk b N):=
 lV hS hE hk (fun {Z'} hZ hz o n e c ho hr=>Ky hS hZ hr (xV hk rfl) (by obtain⟨rfl,h⟩:=ho;rw [yE (by omega),List.drop_zero,List.take_of_length_le (by omega)]) fun b N=>hz 0 b N _ (xV hk rfl)) hoE hoS
theorem OZ{Z:Nat->Prop}{β:qw}{H:Hp}{F:T V}(hS:SR p Z β H S nk)(hE:ER Z β H E F){k:Nat}{rows:List (List FD)}(hk:lk S k=some (.tree rows))(hoE:Yf (pN k (LO rows)) E)(hoS:Yf (aQ k (LO rows)) S):
 ∃Z',SR p Z' β H (yB (vO k (rows.map yh)) (zE k S)) nk/\ER Z' β H (yB (pZ k (rows.map yh)) E) F/\xo Z H Z' H/\∀b,Z' b↔Z b\/∃i N x,qR S (k,i)=some x/\β (k,i)=some (.blk b N):=
 lV hS hE hk (fun {Z'} hZ hz o n e c ho hr=>by obtain⟨rfl,rfl,rfl⟩:=ho;exact gN hS hZ hk hr hz) hoE hoS
theorem Qb{l:List SOper}(k:Nat){m:List FD}(hk:lk S k=some (.data m))(hoE:Yf (pN k (eA m)) E)(hoS:Yf (aQ k (eA m)) S)(h:DPW p base rs Q l W A (yB (pZ k m) E) (yB (vO k m) (zE k S)) nk):DPW p base rs Q l W A E S nk:=.mk fun Z β H F c hS hE hC hA=>by
 obtain⟨Z',hS',hE',hZ,hz⟩:=CQ hS hE hk hoE hoS;refine h.run Z' β H F c hS' hE' (hC.step hZ (xP.refl β) fun _ _ _ _ _ _ _ _ _ _ _ _ _ h=>h) ⟨hA.1,fun j hj hjA=>?_⟩;obtain⟨h1,h2,h3,h4⟩:=hA.2 j hj hjA;exact⟨h1,h2,fun h=>((hz _).1 h).elim h3 fun⟨i,N,_,_,hN⟩=>h4 _ N hN,h4⟩
end
end Go.Ab
