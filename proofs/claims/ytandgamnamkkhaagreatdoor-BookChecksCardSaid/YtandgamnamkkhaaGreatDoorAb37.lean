/- -/
import Derived.Test.YtandgamnamkkhaaGreatDoorAb36
set_option linter.unusedSimpArgs false
set_option maxHeartbeats 16000000
set_option linter.unusedVariables false
set_option maxRecDepth 8000
namespace Go.Ah
open Go.Ab Go.Proofs
inductive MB where
 |text (note:Bool) (s:ByteArray)
 |head (lv:Nat) (s:ByteArray)
 |tab (rows:List (List ByteArray))
 |math (t:Tr)
 |map (p:Pic)
 |ink (page:Nat)
def MB.blk:MB->Blk
 |.text note s=>⟨if note then 4 else 1,0,s,[],[],0,0,0,0,[],0⟩
 |.head lv s=>⟨2,lv,s,[],[],0,0,0,0,[],0⟩
 |.tab rows=>⟨3,0,⟨#[]⟩,rows,[],0,0,0,0,[],0⟩
 |.math t=>⟨5,0,⟨#[]⟩,[],t.fl,0,0,0,0,[],0⟩
 |.map p=>⟨6,0,⟨#[]⟩,[],[],p.w,p.h,p.gap,p.fs.length,p.fs.flatMap w8,0⟩
 |.ink page=>⟨7,0,⟨#[]⟩,[],[],0,0,0,0,[],page⟩
def MB.good:MB->Prop
 |.text _ s=>Gd 12 s
 |.head lv s=>1<=lv/\lv<=3/\Gd 12 s
 |.tab rows=>1<=rows.length/\rows.length<=3/\∃c,1<=c/\c<=3/\∀r∈rows,r.length=c/\∀s∈r,Gd 4 s
 |.math t=>t.ok/\t.dep<=8/\t.fl.length<=60
 |.map p=>Zr p/\iV p/\rO p
 |.ink page=>1<=page/\page<=256
theorem Gl{s:ByteArray}(h:Gd 4 s):s.size<=40/\xo s=true:=⟨by have:=h.le;omega,W8 h oM⟩
theorem NC{rows:List (List ByteArray)}(h:(MB.tab rows).good):jh rows=true:=by
 obtain⟨h1,h2,c,h3,h4,h5⟩:=h
 match rows,h1,h2,h5 with
 |r0::rows,h1,h2,h5=>
  have hr0:=h5 r0 (List.mem_cons_self ..);unfold jh;have e0:(r0::rows).getD 0 []=r0:=rfl;rw [e0,decide_eq_true h1,decide_eq_true (show (r0::rows).length<=6 by omega),decide_eq_true (show 1<=r0.length by omega),decide_eq_true (show r0.length<=4 by omega)];simp only [Bool.true_and];refine List.all_eq_true.2 fun r hr=>?_;have hr':=h5 r hr;rw [decide_eq_true (show r.length=r0.length by omega),Bool.true_and];refine List.all_eq_true.2 fun s hs=>?_;have hg:=Gl (hr'.2 s hs);rw [decide_eq_true hg.1,hg.2];rfl
theorem DS{t:Tr}(h:(MB.math t).good):DK 19 [vA (MB.math t).blk] fun d=>d=.bool true:=by
 refine qI fun Z0 lo=>?_;refine qa ?_;intros
 repeat (first|(refine qb (t:=false) rfl (fun h=>by cases h) (fun _=>?_);refine qa ?_;intros)|(refine qb (t:=true) rfl (fun _=>?_) (fun h=>by cases h);refine qa ?_;intros))
 refine qj rfl rfl (D5 h.1 h.2.2 h.2.1) ?_;rintro _ rfl;refine qa ?_;intros;refine qj rfl rfl (Kg (b:=⟨5,0,⟨#[]⟩,[],[],0,0,0,0,[],0⟩) ⟨.inl rfl,.inl rfl,.inl rfl,.inl rfl,.inr ⟨rfl,2,rfl⟩,.inl rfl,.inl rfl,.inl rfl,.inl rfl,.inl rfl,trivial⟩) ?_;rintro _ rfl;refine qa ?_;intros;exact qc ⟨_,rfl,rfl,rfl⟩
theorem DR{p:Pic}(h:(MB.map p).good):DK 19 [vA (MB.map p).blk] fun d=>d=.bool true:=by
 refine qI fun Z0 lo=>?_;refine qa ?_;intros
 repeat (first|(refine qb (t:=false) rfl (fun h=>by cases h) (fun _=>?_);refine qa ?_;intros)|(refine qb (t:=true) rfl (fun _=>?_) (fun h=>by cases h);refine qa ?_;intros))
 refine qj rfl rfl (pW h.1 h.2.1 h.2.2) ?_;rintro _ rfl;refine qa ?_;intros;refine qj rfl rfl (Kg (b:=⟨6,0,⟨#[]⟩,[],[],0,0,0,0,[],0⟩) ⟨.inl rfl,.inl rfl,.inl rfl,.inl rfl,.inl rfl,.inl rfl,.inl rfl,.inl rfl,.inr ⟨rfl,3,rfl⟩,.inl rfl,trivial⟩) ?_;rintro _ rfl;refine qa ?_;intros;exact qc ⟨_,rfl,rfl,rfl⟩
theorem lN{b:Blk}(h:b.kind=1\/b.kind=4):yT b=(xo b.text&&yp { b with text:=⟨#[]⟩ }):=if_pos h
theorem NU{b:Blk}(h:b.kind=2):yT b=(decide (1<=b.level)&&decide (b.level<=3)&&xo b.text&&yp { b with text:=⟨#[]⟩,level:=0 }):=by
 unfold yT;rw [if_neg (by omega),if_pos h]
theorem NT{b:Blk}(h:b.kind=3):yT b=(jh b.rows&&yp { b with rows:=[] }):=by
 unfold yT;rw [if_neg (by omega),if_neg (by omega),if_pos h]
theorem NS{b:Blk}(h:b.kind=7):yT b=(decide (1<=b.page)&&decide (b.page<=9999)&&yp { b with page:=0 }):=by
 unfold yT;rw [if_neg (by omega),if_neg (by omega),if_neg (by omega),if_pos h]
theorem gU{m:MB}(h:m.good):DK 19 [vA m.blk] fun d=>d=.bool true:=by
 match m,h with
 |.text note s,h=>
  have hc:=W8 h oM;cases note with
  |false=>
   have:=ZL (b:=(MB.text false s).blk) ⟨.inl rfl,fun r hr=>by cases hr⟩
   rwa [show yT (MB.text false s).blk=true from (lN (.inl rfl)).trans (by show (xo s&&_)=true;rw [hc];rfl)] at this
  |true=>
   have:=ZL (b:=(MB.text true s).blk) ⟨.inr (.inr (.inr (.inl rfl))),fun r hr=>by cases hr⟩
   rwa [show yT (MB.text true s).blk=true from (lN (.inr rfl)).trans (by show (xo s&&_)=true;rw [hc];rfl)] at this
 |.head lv s,h=>
  have hc:=W8 h.2.2 oM;have:=ZL (b:=(MB.head lv s).blk) ⟨.inr (.inl rfl),fun r hr=>by cases hr⟩
  rwa [show yT (MB.head lv s).blk=true by
   rw [NU (show (MB.head lv s).blk.kind=2 from rfl)];show (decide (1<=(lv:Int))&&decide ((lv:Int)<=3)&&xo s&&_)=true;rw [hc,decide_eq_true (show (1:Int)<=lv by have:=h.1;omega),decide_eq_true (show (lv:Int)<=3 by have:=h.2.1;omega)];rfl] at this
 |.tab rows,h=>
  have ht:=NC h;have hb:∀r∈rows,r.length<1000000:=fun r hr=>by
   obtain⟨_,_,c,h3,h4,h5⟩:=h;have:=(h5 r hr).1;omega
  have:=ZL (b:=(MB.tab rows).blk) ⟨.inr (.inr (.inl rfl)),hb⟩
  rwa [show yT (MB.tab rows).blk=true by
   rw [NT (show (MB.tab rows).blk.kind=3 from rfl)];show (jh rows&&_)=true;rw [ht];rfl] at this
 |.math t,h=>exact DS h
 |.map p,h=>exact DR h
 |.ink page,h=>
  have:=ZL (b:=(MB.ink page).blk) ⟨.inr (.inr (.inr (.inr rfl))),fun r hr=>by cases hr⟩
  rwa [show yT (MB.ink page).blk=true by
   rw [NS (show (MB.ink page).blk.kind=7 from rfl)];show (decide (1<=(page:Int))&&decide ((page:Int)<=9999)&&_)=true;rw [decide_eq_true (show (1:Int)<=page by have:=h.1;omega),decide_eq_true (show (page:Int)<=9999 by have:=h.2;omega)];rfl] at this
theorem kQ{w h g:Int}{n:Nat}{ff:List FD}:DK 41 [.agg [.f (FD.int w),.f (FD.int h),.f (FD.int g),.f (.sl 3 n ff)]] fun d=>∃v:Bool,d=.bool v:=by
 refine qI fun Z0 lo=>?_;refine qa ?_;intros;exact qc ⟨_,rfl,rfl,_,rfl⟩
theorem A1{rows:List (List ByteArray)}(h:(MB.tab rows).good):DK 43 [.one (.f (Qg rows))] fun d=>∃v:Bool,d=.bool v:=by
 obtain⟨h1,h2,c,h3,h4,h5⟩:=h;obtain⟨r0,hr0⟩:∃r,rows[0]?=some r:=⟨_,zge oM⟩;have hs0:=JW hr0;have hl0:=(h5 r0 (zmg hr0)).1;have e7:decide ((rows.length:Int)<1)=false:=decide_eq_false oM;have e11:decide ((rows.length:Int)>6)=false:=decide_eq_false oM;refine qI fun Z0 lo=>?_;refine qa ?_;intros;simp only [e7];refine qa ?_;intros;refine qb (t:=false) (congrArg (fun z=>some (DV.bool z)) e11) (fun h=>by cases h) (fun _=>?_);refine qa ?_;intros;refine qm (fun m E S nk=>∃i:Nat,i+m=rows.length/\E=[(0,.one (.f (Qg rows))),(3,.int i)]/\S=[]/\nk=0)
  ⟨rows.length,_,_,_,[],?wk,0,oM,rfl,rfl,rfl⟩ ?_
 case wk=>exact ql
 rintro m E S nk ⟨i,him,rfl,rfl,rfl⟩;refine qa ?_;intros;refine qb rfl (fun hi=>?_) (fun hi=>?_)
 ·have hi:=qG hi;obtain⟨r,hr⟩:∃r,rows[i]?=some r:=⟨_,zge oM⟩;have hsr:=JW hr;have hg:=h5 r (zmg hr);have hlr:=hg.1;have e28:((r.length:Int)!=r0.length)=false:=by rw [hlr,hl0];simp
  have e35:decide ((r.length:Int)<1)=false:=decide_eq_false oM;have e43:decide ((r.length:Int)>4)=false:=decide_eq_false oM;refine qa ?_;intros;simp only [e28];refine qa ?_;intros;simp only [e35];refine qa ?_;intros;refine qb (t:=false) (congrArg (fun z=>some (DV.bool z)) e43) (fun h=>by cases h) (fun _=>?_);refine qa ?_;intros;refine qm (fun m E S nk=>∃k:Nat,k+m=r.length/\E=[(0,.one (.f (Qg rows))),(3,.int i),(4,.int k)]/\S=[]/\nk=0)
   ⟨r.length,_,_,_,[],?wk,0,oM,rfl,rfl,rfl⟩ ?_
  case wk=>exact ql
  rintro m2 E S nk ⟨k,hkm,rfl,rfl,rfl⟩;refine qa ?_;intros;refine qb rfl (fun hk=>?_) (fun hk=>?_)
  ·have hk:=qG hk;obtain⟨s,hs⟩:∃s,r[k]?=some s:=⟨_,zge oM⟩;have hss:=lJ hs;have hgd:=hg.2 s (zmg hs);have hle:=hgd.le;have e72:decide ((s.size:Int)>40)=false:=decide_eq_false oM;refine qa ?_;intros;refine qj rfl rfl (Yx hgd oM) ?_;rintro _ rfl;refine qa ?_;intros;refine qb (t:=false) (congrArg (fun z=>some (DV.bool z)) e72) (fun h=>by cases h) (fun _=>?_);refine qa ?_;intros;refine⟨m2-1,oM,_,_,_,[],?wk,k+1,oM,rfl,rfl,rfl⟩
   case wk=>exact ql
  ·refine qa ?_;intros;refine⟨m-1,oM,_,_,_,[],?wk,i+1,oM,rfl,rfl,rfl⟩
   case wk=>exact ql
 ·refine qa ?_;intros;exact qc ⟨_,rfl,rfl,true,rfl⟩
def vT(l:List Blk)(i:Nat):Prop:=∀b,l[i]?=some b->(b.kind=4->∃q,0<i/\l[i-1]?=some q/\(q.kind=1\/q.kind=4))/\(b.kind=7->∀k q,k<i->l[k]?=some q->q.kind=7->q.page<b.page)
theorem HI{l:List Blk}{i:Nat}{b:Blk}(hb:l[i]?=some b)(h:b.kind≠4/\b.kind≠7):vT l i:=fun b' hb'=>by
 rw [hb] at hb';obtain rfl:=zsi hb';exact⟨fun e=>absurd e h.1,fun e=>absurd e h.2⟩
theorem Vm{l:List Blk}{i:Nat}{m:MB}(hl:l.length<1000)(hm:m.good)(hb:l[i]?=some m.blk)(hk:m.blk.kind≠4/\m.blk.kind≠7):DK 20 [jf l,.int i] fun d=>∃v:Bool,d=.bool v/\(v=true->vT l i):=by
 have hil:i<l.length:=(zgs hb).1;have hsb:=kh hb;have hok:=HI hb hk
 match m,hm,hsb,hk with
 |.text true s,hm,hsb,hk=>exact absurd rfl hk.1
 |.ink page,hm,hsb,hk=>exact absurd rfl hk.2
 |.text false s,hm,hsb,hk=>
  refine qI fun Z0 lo=>?_;refine qa ?_;intros;refine qj rfl rfl kQ ?_;rintro _ ⟨v1,rfl⟩;refine qa ?_;intros
  repeat (first|(refine qb (t:=false) rfl (fun h=>by cases h) (fun _=>?_);refine qa ?_;intros)|(refine qb (t:=true) rfl (fun _=>?_) (fun h=>by cases h);refine qa ?_;intros))
  refine qj rfl rfl (Yx hm oM) ?_;rintro _ rfl;refine qa ?_;intros;exact qc ⟨_,rfl,rfl,_,rfl,fun _=>hok⟩
 |.head lv s,hm,hsb,hk=>
  refine qI fun Z0 lo=>?_;refine qa ?_;intros;refine qj rfl rfl kQ ?_;rintro _ ⟨v1,rfl⟩;refine qa ?_;intros
  repeat (first|(refine qb (t:=false) rfl (fun h=>by cases h) (fun _=>?_);refine qa ?_;intros)|(refine qb (t:=true) rfl (fun _=>?_) (fun h=>by cases h);refine qa ?_;intros))
  refine qj rfl rfl (Yx hm.2.2 oM) ?_;rintro _ rfl;refine qa ?_;intros;exact qc ⟨_,rfl,rfl,_,rfl,fun _=>hok⟩
 |.tab rows,hm,hsb,hk=>
  refine qI fun Z0 lo=>?_;refine qa ?_;intros;refine qj rfl rfl kQ ?_;rintro _ ⟨v1,rfl⟩;refine qa ?_;intros
  repeat (first|(refine qb (t:=false) rfl (fun h=>by cases h) (fun _=>?_);refine qa ?_;intros)|(refine qb (t:=true) rfl (fun _=>?_) (fun h=>by cases h);refine qa ?_;intros))
  refine qj rfl rfl (A1 hm) ?_;rintro _ ⟨v2,rfl⟩;refine qa ?_;intros;exact qc ⟨_,rfl,rfl,_,rfl,fun _=>hok⟩
 |.math t,hm,hsb,hk=>
  refine qI fun Z0 lo=>?_;refine qa ?_;intros;refine qj rfl rfl kQ ?_;rintro _ ⟨v1,rfl⟩;refine qa ?_;intros
  repeat (first|(refine qb (t:=false) rfl (fun h=>by cases h) (fun _=>?_);refine qa ?_;intros)|(refine qb (t:=true) rfl (fun _=>?_) (fun h=>by cases h);refine qa ?_;intros))
  refine qj rfl rfl (bY hm.1 (by have:=hm.2.2;omega) hm.2.1) ?_;rintro _ rfl;refine qa ?_;intros;exact qc ⟨_,rfl,rfl,_,rfl,fun _=>hok⟩
 |.map p,hm,hsb,hk=>
  refine qI fun Z0 lo=>?_;refine qa ?_;intros;refine qj rfl rfl kQ ?_;rintro _ ⟨v1,rfl⟩;refine qa ?_;intros
  repeat (first|(refine qb (t:=false) rfl (fun h=>by cases h) (fun _=>?_);refine qa ?_;intros)|(refine qb (t:=true) rfl (fun _=>?_) (fun h=>by cases h);refine qa ?_;intros))
  refine qj rfl rfl (gY hm.1) ?_;rintro _ ⟨v2,rfl,_⟩;refine qa ?_;intros;exact qc ⟨_,rfl,rfl,_,rfl,fun _=>hok⟩
end Go.Ah
