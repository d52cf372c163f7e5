/- -/
import Derived.Test.YtdlelodnhjacgaaGreatDoorAb21
set_option linter.unusedSimpArgs false
set_option linter.unusedVariables false
set_option maxRecDepth 8000
set_option maxHeartbeats 16000000
namespace Go.Ai
open Go.Ab Go.Proofs
theorem UI{f:List (Int × Int)}(hf:f.length<1000){op n:Int}{x y:Tr}(h:(Tr.nd op n [x,y]).ok)(ho:2<=op/\op<=5){i:Nat}{rest:List (Int × Int)}(e:f.drop i=(Tr.nd op n [x,y]).fl++rest):DK 140 [xD f,.int i] fun r=>r=.bool true:=by
 have hop:=Wg hf h e;unfold Tr.ok y9 y9 at h;obtain⟨g1,g2,g3,g4,a0,o0,a1,o1,_⟩:=h;rw [Tr.fl,vz] at e;have hd:=wZ e;have hd2:=hd.2;rw [xq,xq,xq,yI,j5] at hd2;obtain⟨n0,hx⟩:=Tr.root hd2;obtain⟨n1,hy⟩:=Tr.root (XG hd2);have hsi:=Qm hd.1;have hsx:=Qm hx;have hsy:=Qm hy;have hil:i<f.length:=(zgs hd.1).1;have hxl:i+1<f.length:=(zgs hx).1;have hyl:i+1+x.fl.length<f.length:=(zgs hy).1;simp only [yy] at hop;have hk0:xd ([(i+1,x.dep),(i+1+x.fl.length,y.dep)].flatMap Qb) (0*1) 1=some (Qb (i+1,x.dep)):=rfl;have hk1:xd ([(i+1,x.dep),(i+1+x.fl.length,y.dep)].flatMap Qb) (1*1) 1=some (Qb (i+1+x.fl.length,y.dep)):=rfl;have hpo:=m8 g1;have hpx:=m8 (Tr.ok_op o0);have hpy:=m8 (Tr.ok_op o1);unfold eA at a0 a1;rw [if_pos ho,if_pos (by decide)] at a0;rw [if_pos ho,if_neg (by decide)] at a1;have ec:op=2\/op=3\/op=4\/op=5:=oM;rcases ec with rfl|rfl|rfl|rfl
 all_goals
  refine yQ ?_;intros;refine x6 O O hop ?_;intros
  repeat (first|(refine qd (t:=false) O (fun h=>by cases h) (fun _=>?_);refine qa ?_;intros)|(refine qd (t:=true) O (fun _=>?_) (fun h=>by cases h);refine qa ?_;intros))
  refine x6 O O hpo ?_;intros;refine yE (j:=0) (q:=Qb (i+1,x.dep)) O O sM (by decide) hk0 ?_;refine qa ?_;intros;refine x6 O O hpx ?_;intros;simp only [a0];refine qa ?_;intros;refine yE (j:=1) (q:=Qb (i+1+x.fl.length,y.dep)) O O sM (by decide) hk1 ?_;refine qa ?_;intros;refine x6 O O hpy ?_;intros;exact qb ⟨_,O,O,congrArg (fun z=>DV.bool z) a1⟩
theorem Sq{cs:List Tr}:∀{j:Nat},y9 12 j cs->∀t∈cs,t.op=0:=by
 induction cs with
 |nil=>intro j _ t ht;cases ht
 |cons c cs ih=>
  intro j h t ht;unfold y9 at h;rcases zd.1 ht with rfl|ht
  ·have:=h.1;unfold eA at this;rw [if_neg (by decide),if_pos rfl] at this;exact xo this
  ·exact ih h.2.2 t ht
theorem cR{f:List (Int × Int)}:∀{cs:List Tr} {a:Nat} {rest:List (Int × Int)},f.drop a=xq cs++rest->∀p∈yy a cs,∃t∈cs,∃n,f[p.1]?=some (t.op,n)
 |[],a,rest,_,p,hp=>by rw [yy] at hp;cases hp
 |t::r,a,rest,e,p,hp=>by
  rw [yy] at hp;rw [xq,j5] at e;rcases zd.1 hp with rfl|hp
  ·obtain⟨n,h⟩:=Tr.root e;exact⟨t,QC ..,n,h⟩
  ·obtain⟨t',h1,h2⟩:=cR (XG e) p hp;exact⟨t',Q7 _ h1,h2⟩
theorem PL{f:List (Int × Int)}(hf:f.length<1000){n:Int}{cs:List Tr}(h:(Tr.nd 12 n cs).ok){i:Nat}{rest:List (Int × Int)}(e:f.drop i=(Tr.nd 12 n cs).fl++rest):DK 140 [xD f,.int i] fun r=>r=.bool true:=by
 have hop:=Wg hf h e;unfold Tr.ok at h;obtain⟨g1,g2,g3,g4,g5⟩:=h;rw [Tr.fl,vz] at e;have hd:=wZ e;have hsi:=Qm hd.1;have hil:i<f.length:=(zgs hd.1).1;have hall:∀p∈yy (i+1) cs,∃m,f[p.1]?=some (0,m):=fun p hp=>by
  obtain⟨t,ht,m,hm⟩:=cR hd.2 p hp;rw [Sq g5 t ht] at hm;exact⟨m,hm⟩
 have hkl:=jo (i+1) cs;generalize yy (i+1) cs=ps at *;refine yQ ?_;intros;refine x6 O O hop ?_;intros
 repeat (first|(refine qd (t:=false) O (fun h=>by cases h) (fun _=>?_);refine qa ?_;intros)|(refine qd (t:=true) O (fun _=>?_) (fun h=>by cases h);refine qa ?_;intros))
 refine qu (fun m E S nk=>∃k:Nat,k+m=ps.length/\E=[(0,xD f),(5,XS ps),(7,.int k)]/\S=[]/\nk=0)
  ⟨ps.length,_,_,_,[],?wk,0,oM,rfl,rfl,rfl⟩ ?_
 case wk=>exact qs
 rintro m E S nk ⟨k,hkm,rfl,rfl,rfl⟩;refine qa ?_;intros;refine qd O (fun h1=>?_) (fun h1=>?_)
 ·have h1:=xo h1;obtain⟨p,hp⟩:∃p,ps[k]?=some p:=⟨_,zge oM⟩;have hsp:=OD hp;obtain⟨mm,hm⟩:=hall p (zmg hp);have hsn:=Qm hm;have hpl:p.1<f.length:=(zgs hm).1;refine qa ?_;intros;refine qd (t:=false) O (fun h=>by cases h) (fun _=>?_);refine qa ?_;intros;refine⟨m-1,oM,_,_,_,[],?wk,k+1,oM,O,O,O⟩
  case wk=>exact qs
 ·exact QK
theorem UJ{f:List (Int × Int)}(hf:f.length<1000){op n:Int}{cs:List Tr}(h:(Tr.nd op n cs).ok)(ho:op=0\/op=1\/op=6\/op=7\/op=8\/op=9\/op=10\/op=11\/op=13){i:Nat}{rest:List (Int × Int)}(e:f.drop i=(Tr.nd op n cs).fl++rest):DK 140 [xD f,.int i] fun r=>r=.bool true:=by
 have hop:=Wg hf h e;rw [Tr.fl,vz] at e;have hd:=wZ e;have hsi:=Qm hd.1;have hil:i<f.length:=(zgs hd.1).1;rcases ho with rfl|rfl|rfl|rfl|rfl|rfl|rfl|rfl|rfl
 all_goals
  refine yQ ?_;intros;refine x6 O O hop ?_;intros
  repeat (first|(refine qd (t:=false) O (fun h=>by cases h) (fun _=>?_);refine qa ?_;intros)|(refine qd (t:=true) O (fun _=>?_) (fun h=>by cases h);refine qa ?_;intros))
  exact qb ⟨_,O,O,O⟩
theorem Ha{f:List (Int × Int)}(hf:f.length<1000){t:Tr}(h:t.ok){i:Nat}{rest:List (Int × Int)}(e:f.drop i=t.fl++rest):DK 140 [xD f,.int i] fun r=>r=.bool true:=by
 match t,h,e with
 |.nd op n cs,h,e=>
  have h':=h;unfold Tr.ok at h';obtain⟨g1,g2,g3,g4,g5⟩:=h';by_cases h12:op=12
  ·subst h12;exact PL hf h e
  ·by_cases h25:2<=op/\op<=5
   ·have hl:cs.length=2:=by
     unfold Zk at g3;rw [if_neg (by omega),if_neg (by omega),if_pos (by omega)] at g3;have:=congrArg Prod.fst g3;simp only at this;omega
    match cs,hl,h,e with
    |[x,y],_,h,e=>exact UI hf h h25 e
   ·exact UJ hf h oM e
mutual
theorem Cs:∀(t:Tr),t.ok->∀k,k<t.fl.length->∃s:Tr,s.ok/\∃r,t.fl.drop k=s.fl++r
 |.nd op n cs,h,k,hk=>by
  cases k with
  |zero=>exact⟨.nd op n cs,h,[],by rw [Kz,yI]⟩
  |succ k=>
   have hc:Xf cs:=by unfold Tr.ok at h;exact Y3 h.2.2.2.2
   rw [Tr.fl,xA] at hk;obtain⟨s,hs,r,e⟩:=MK cs hc k oM;exact⟨s,hs,r,by rw [Tr.fl,List.drop_succ_cons,e]⟩
theorem MK:∀(cs:List Tr),Xf cs->∀k,k<(xq cs).length->∃s:Tr,s.ok/\∃r,(xq cs).drop k=s.fl++r
 |[],_,k,hk=>by simp [xq] at hk
 |t::cs,h,k,hk=>by
  rw [xq,qE] at hk;by_cases hl:k<t.fl.length
  ·obtain⟨s,hs,r,e⟩:=Cs t (h t (QC ..)) k hl;exact⟨s,hs,r++xq cs,by rw [xq,DQ (by omega),e,j5]⟩
  ·obtain⟨s,hs,r,e⟩:=MK cs (fun x hx=>h x (Q7 _ hx)) (k-t.fl.length) oM;refine⟨s,hs,r,?_⟩;rw [xq,<-e,show k=t.fl.length+(k-t.fl.length) by omega,<-DR,List.drop_left,show t.fl.length+(k-t.fl.length)-t.fl.length=k-t.fl.length by omega]
end
theorem Oi{t:Tr}(h:t.ok)(hl:t.fl.length<=200):DK 95 [xD t.fl] fun r=>r=.bool true:=by
 have hpos:=List.length_pos_iff.2 t.fl_ne;have hen:=IY (f:=t.fl) (by omega) h (i:=0) (rest:=[]) (by rw [Kz,yI]);rw [ym] at hen;have e7:((t.fl.length:Int)==0)=false:=by rw [beq_eq_false_iff_ne];omega
 have e11:decide ((t.fl.length:Int)>200)=false:=decide_eq_false oM;refine yQ ?_;intros;simp only [e7];refine qa ?_;intros;simp only [e11];refine qa ?_;intros;refine x6 O O hen ?_;intros;refine qd (t:=false) (congrArg (fun z=>some (DV.bool z)) sM) (fun h=>by cases h) (fun _=>?_);refine qa ?_;intros;refine qu (fun m E S nk=>∃k:Nat,k+m=t.fl.length/\E=[(0,xD t.fl),(3,.int k)]/\S=[]/\nk=0)
  ⟨t.fl.length,_,_,_,[],?wk,0,oM,rfl,rfl,rfl⟩ ?_
 case wk=>exact qs
 rintro m E S nk ⟨k,hkm,rfl,rfl,rfl⟩;refine qa ?_;intros;refine qd O (fun h1=>?_) (fun h1=>?_)
 ·have h1:=xo h1;obtain⟨s,hs,r,e⟩:=Cs t h k oM;have hsd:=Ha (f:=t.fl) oM hs e;refine qa ?_;intros;refine x6 O O hsd ?_;intros;refine qd (t:=false) O (fun h=>by cases h) (fun _=>?_);refine qa ?_;intros;refine⟨m-1,oM,_,_,_,[],?wk,k+1,oM,O,O,O⟩
  case wk=>exact qs
 ·exact QK
theorem UU{t:Tr}(h:t.ok)(hl:t.fl.length<1000)(hd:t.dep<100):DK 96 [xD t.fl] fun r=>r=.int t.dep:=by
 have hm:=NI (f:=t.fl) hl t h hd 0 [] (by rw [Kz,yI]);refine yQ ?_;intros;refine qf O O hm ?_;rintro _ rfl;exact QK
theorem Jk{t:Tr}(h:t.ok)(hl:t.fl.length<1000)(hd:t.dep<=8):DK 67 [xD t.fl] fun r=>r=.bool (decide (t.fl.length<=60)):=by
 refine vL fun Z0 lo=>?_;by_cases h6:t.fl.length<=60
 ·have e5:decide ((t.fl.length:Int)<=60)=true:=decide_eq_true oM;have e8:decide ((t.dep:Int)<=8)=true:=decide_eq_true oM;refine qa ?_;intros;simp only [e5];refine qa ?_;intros;refine x6 O O (Oi h oM) ?_;intros;refine x6 O O (UU h hl oM) ?_;intros;exact qb ⟨_,O,O,congrArg (fun z=>DV.bool z) (by rw [decide_eq_true h6];exact e8)⟩
 ·have e5:decide ((t.fl.length:Int)<=60)=false:=decide_eq_false oM;refine qa ?_;intros;simp only [e5];refine qa ?_;intros;exact qb ⟨_,O,O,congrArg (fun z=>DV.bool z) (by rw [decide_eq_false h6])⟩
abbrev kG(n:Nat):Tr:=.nd 0 n []
abbrev KO(n:Nat):Tr:=.nd 1 (n % 26:Nat) []
def wN(k n:Nat):Tr:=match k % 8 with
 |1=>KO n
 |2=>.nd 2 0 [KO n,kG n]
 |3=>.nd 3 0 [kG n,KO n]
 |4=>.nd 4 0 [kG n,KO n]
 |5=>.nd 7 0 [KO n,kG n]
 |6=>.nd 9 0 [.nd 10 0 [.nd 2 0 [KO n,kG n]]]
 |7=>.nd 6 0 [kG n,KO n]
 |_=>kG n
theorem t8{n:Nat}(h:n<=99999):(kG n).ok:=by
 unfold Tr.ok y9;refine⟨by omega,by omega,?_,by simp,trivial⟩;unfold Zk;rw [if_pos rfl,decide_eq_true (by omega),decide_eq_true (by omega)];rfl
theorem Lk(n:Nat):(KO n).ok:=by
 unfold Tr.ok y9;refine⟨by omega,by omega,?_,by simp,trivial⟩;unfold Zk;rw [if_neg (by decide),if_pos rfl,decide_eq_true (by omega),decide_eq_true (by omega)];rfl
theorem JQ{op:Int}{x y:Tr}(ho:2<=op/\op<=8)(hx:x.ok)(hy:y.ok)(h0:eA op 0 x.op=true)(h1:eA op 1 y.op=true):(Tr.nd op 0 [x,y]).ok:=by
 unfold Tr.ok y9 y9 y9;refine⟨by omega,by omega,?_,by simp,h0,hx,h1,hy,trivial⟩;unfold Zk;rw [if_neg (by omega),if_neg (by omega),if_pos (by omega)];rfl
theorem NT{op:Int}{x:Tr}(ho:9<=op/\op<=11)(hx:x.ok)(h0:eA op 0 x.op=true):(Tr.nd op 0 [x]).ok:=by
 unfold Tr.ok y9 y9;refine⟨by omega,by omega,?_,by simp,h0,hx,trivial⟩;unfold Zk;rw [if_neg (by omega),if_neg (by omega),if_neg (by omega),if_pos (by omega)];rfl
theorem O1(k:Nat){n:Nat}(h:n<=99999):(wN k n).ok:=by
 have hn:=t8 h;have hv:=Lk n;unfold wN;split
 ·exact hv
 ·exact JQ oM hv hn O O
 ·exact JQ oM hn hv O O
 ·exact JQ oM hn hv O O
 ·exact JQ oM hv hn O O
 ·exact NT oM (NT oM (JQ oM hv hn O O) O) O
 ·exact JQ oM hn hv O O
 ·exact hn
theorem FB(k n:Nat):(wN k n).dep<=4:=by
 unfold wN;split<;>simp [Tr.dep,kh]
theorem aI(k n:Nat):(wN k n).fl.length<=5:=by
 unfold wN;split<;>simp [Tr.fl,xq]
def T7(k n:Nat):List (Int × Int):=match k % 8 with
 |1=>[(1,(n % 26:Nat))]
 |2=>[(2,0),(1,(n % 26:Nat)),(0,n)]
 |3=>[(3,0),(0,n),(1,(n % 26:Nat))]
 |4=>[(4,0),(0,n),(1,(n % 26:Nat))]
 |5=>[(7,0),(1,(n % 26:Nat)),(0,n)]
 |6=>[(9,0),(10,0),(2,0),(1,(n % 26:Nat)),(0,n)]
 |7=>[(6,0),(0,n),(1,(n % 26:Nat))]
 |_=>[(0,n)]
theorem Gi(k n:Nat):T7 k n=(wN k n).fl:=by
 unfold T7 wN;split<;>simp [Tr.fl,xq]
theorem aN{k n:Nat}(hk:k<256)(hn:n<256):DK 91 [.one (.f (.c (.int .u8 k))),.one (.f (.c (.int .u8 n)))] fun r=>r=xD (wN k n).fl:=by
 rw [<-Gi];have hw1:IntKind.i64.wrap (n:Int)=n:=qm oM oM;have hw2:IntKind.i64.wrap ((n:Int).tmod 26)=((n % 26:Nat):Int):=by
  rw [show (26:Int)=((26:Nat):Int) from rfl,<-JK];have:n % 26<=n:=Nat.mod_le _ _;exact qm oM oM
 have hm:(k:Int).tmod 8=((k % 8:Nat):Int):=(JK k 8).symm;have h8:k % 8<8:=kp _ qr;have ec:k % 8=0\/k % 8=1\/k % 8=2\/k % 8=3\/k % 8=4\/k % 8=5\/k % 8=6\/k % 8=7:=oM;rcases ec with e|e|e|e|e|e|e|e
 all_goals
  rw [e] at hm;refine yQ ?_;intros;simp only [hm]
  repeat (first|(refine qd (t:=false) O (fun h=>by cases h) (fun _=>?_);refine qa ?_;intros)|(refine qd (t:=true) O (fun _=>?_) (fun h=>by cases h);refine qa ?_;intros))
  refine qF 2 O qo qo ?_;exact qb ⟨_,O,O,by simp only [T7,e,hw1,hw2];rfl⟩
end Go.Ai
