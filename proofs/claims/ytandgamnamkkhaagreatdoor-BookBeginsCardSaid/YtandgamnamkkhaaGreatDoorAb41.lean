/- -/
import Derived.Test.YtandgamnamkkhaaGreatDoorAb40
set_option linter.unusedSimpArgs false
set_option maxHeartbeats 32000000
set_option linter.unusedVariables false
set_option maxRecDepth 8000
namespace Go.Ah
open Go.Ab Go.Proofs
theorem chk_pre(R:Blk->Bool):∀(l:List Blk) (prev page:Int) (i:Nat),
 (XF R prev page i l=(0,0)/\∀n,XF R prev page i (l.take n)=(0,0))\/
 ∃j,j<l.length/\XF R prev page i l=(((i+j:Nat):Int),170)/\XF R prev page i (l.take j)=(0,0)/\XF R prev page i (l.take (j+1))=(((i+j:Nat):Int),170)
 |[],prev,page,i=>.inl ⟨rfl,fun n=>by rw [List.take_nil];rfl⟩
 |b::l,prev,page,i=>by
  by_cases h1:R b=false
  ·have hs:∀r,XF R prev page i (b::r)=((i:Int),170):=fun r=>by rw [XF,if_pos h1]
   exact .inr ⟨0,Nat.succ_pos _,hs _,rfl,hs _⟩
  ·by_cases h2:b.kind=4/\(i=0\/prev≠1/\prev≠4)
   ·have hs:∀r,XF R prev page i (b::r)=((i:Int),170):=fun r=>by rw [XF,if_neg h1,if_pos h2]
    exact .inr ⟨0,Nat.succ_pos _,hs _,rfl,hs _⟩
   ·by_cases h3:b.kind=7/\b.page<=page
    ·have hs:∀r,XF R prev page i (b::r)=((i:Int),170):=fun r=>by rw [XF,if_neg h1,if_neg h2,if_pos h3]
     exact .inr ⟨0,Nat.succ_pos _,hs _,rfl,hs _⟩
    ·have hs:∀r,XF R prev page i (b::r)=XF R b.kind (if b.kind=7 then b.page else page) (i+1) r:=fun r=>by rw [XF,if_neg h1,if_neg h2,if_neg h3]
     rcases chk_pre R l b.kind (if b.kind=7 then b.page else page) (i+1) with⟨g1,g2⟩|⟨j,g1,g2,g3,g4⟩
     ·refine .inl ⟨by rw [hs];exact g1,fun n=>?_⟩;cases n with
      |zero=>rfl
      |succ n=>rw [List.take_succ_cons,hs];exact g2 n
     ·refine .inr ⟨j+1,Nat.succ_lt_succ g1,?_,?_,?_⟩
      ·rw [hs,g2,show i+1+j=i+(j+1) by omega]
      ·rw [List.take_succ_cons,hs,g3]
      ·rw [List.take_succ_cons,hs,g4,show i+1+j=i+(j+1) by omega]
theorem begins_plain(R:Blk->Bool){l:List Blk}(hl:l.length<=100):(jX R l=(0,0)/\∀n,kW R (l.take n)=true)\/
 ∃j:Nat,j<l.length/\jX R l=((j:Int),170)/\kW R (l.take j)=true/\kW R (l.take (j+1))=false:=by
 have ht (n:Nat):¬(l.take n).length>100:=by rw [List.length_take];omega
 unfold kW jX;rw [if_neg (by omega)];rcases chk_pre R l 0 0 0 with⟨h1,h2⟩|⟨j,h1,h2,h3,h4⟩
 ·exact .inl ⟨h1,fun n=>by rw [if_neg (ht n),h2];rfl⟩
 ·refine .inr ⟨j,h1,by rw [h2,Nat.zero_add],by rw [if_neg (ht j),h3];rfl,by rw [if_neg (ht _),h4];rfl⟩
theorem made_begins{ms:List MB}(h:MOk ms)(hl:ms.length<=6)(n:Nat):kW tt ((ms.map MB.blk).take n)=true:=by
 have hlen:(ms.map MB.blk).length=ms.length:=List.length_map ..;have hp:∀n,n<=(ms.map MB.blk).length->∃page,At tt (ms.map MB.blk) n page/\(page=0\/∃k q,k<n/\(ms.map MB.blk)[k]?=some q/\q.kind=7/\page=q.page):=by
  intro n;induction n with
  |zero=>intro _;exact⟨0,At.zero tt _,.inl rfl⟩
  |succ n ih=>
   intro hn;obtain⟨page,h1,h2⟩:=ih oM;obtain⟨b,hb⟩:∃b,(ms.map MB.blk)[n]?=some b:=⟨_,zge oM⟩;have hg:(ms.map MB.blk).getD n dB=b:=by rw [List.getD_eq_getElem?_getD,hb];rfl
   have ho:=h.ok n oM;have hno:¬(b.kind=4/\(n=0\/((ms.map MB.blk).getD (n-1) dB).kind≠1/\((ms.map MB.blk).getD (n-1) dB).kind≠4)):=fun e=>eY (by omega) ho ⟨by rw [hg];exact e.1,e.2⟩;have hpg:¬(b.kind=7/\b.page<=page):=fun⟨e1,e2⟩=>by
    have h0:=bJ h (zmg hb) e1;rcases h2 with h2|⟨k,q,hk,hq,hq7,h2⟩
    ·omega
    ·have:=(ho b hb).2 e1 k q hk hq hq7;omega
   have hst:=h1.step hb rfl hno hpg;by_cases h7:b.kind=7
   ·rw [if_pos h7] at hst;exact⟨_,hst,.inr ⟨n,b,oM,hb,h7,rfl⟩⟩
   ·rw [if_neg h7] at hst;refine⟨_,hst,h2.imp_right fun⟨k,q,hk,hq⟩=>⟨k,q,oM,hq⟩⟩
 obtain⟨page,h1,_⟩:=hp _ (Nat.le_refl _);have hd:=h1.done;rcases begins_plain tt (l:=ms.map MB.blk) oM with⟨_,g⟩|⟨j,_,g,_⟩
 ·exact g n
 ·unfold jX at g;rw [if_neg (by omega),hd] at g;cases congrArg Prod.snd g
open Classical in
noncomputable def RB (b:Blk):Bool:=decide (DK 19 [vA b] fun d=>d=.bool true)
open Classical in
theorem RB_of{b:Blk}{r:Bool}(h:DK 19 [vA b] fun d=>d=.bool r):DK 19 [vA b] fun d=>d=.bool (RB b):=by
 unfold RB;by_cases hc:DK 19 [vA b] fun d=>d=.bool true
 ·rw [decide_eq_true hc];exact hc
 ·rw [decide_eq_false hc];cases r with
  |true=>exact absurd h hc
  |false=>exact h
structure Spo where
 what:Nat
 at_:Nat
 n:Int
 s:ByteArray
structure Spo.ok (x:Spo):Prop where
 w:x.what<256
 a:x.at_<256
 n1: -128<=x.n
 n2:x.n<128
def spoC(x:Spo):List FD:=[.c (.int .u8 x.what),.c (.int .u8 x.at_),.c (.int .i8 x.n),.c (.str x.s)]
def spoD(x:Spo):DV:=.agg ((spoC x).map .f)
def chgB(x:Spo)(b:Blk):Blk:=match x.what % 10 with
 |0=>{ b with kind:=x.n }
 |1=>{ b with level:=b.level+x.n }
 |2=>{ b with text:=x.s }
 |3=>{ b with page:=b.page+x.n }
 |4=>{ b with rows:=b.rows++[[x.s]] }
 |5=>{ b with f:=b.f++[(x.n,0)] }
 |6=>{ b with gap:=b.gap+x.n }
 |_=>b
def spoilB(l:List Blk)(x:Spo):List Blk:=
 if l.length=0\/500<x.s.size then l++[{ dB with kind:=x.n }]
 else match x.what % 10 with
 |7=>l++[l.getD (x.at_ % l.length) dB]
 |8=>l.take (x.at_ % l.length)++l.drop (x.at_ % l.length+1)
 |9=>(l.set (x.at_ % l.length) (l.getD ((x.n % 256).toNat % l.length) dB)).set ((x.n % 256).toNat % l.length) (l.getD (x.at_ % l.length) dB)
 |_=>l.set (x.at_ % l.length) (chgB x (l.getD (x.at_ % l.length) dB))
structure Sm (b:Blk):Prop where
 lv: -1000000<b.level/\b.level<1000000
 pg: -1000000<b.page/\b.page<1000000
 gp: -1000000<b.gap/\b.gap<1000000
 rw:b.rows.length<1000
 fl:b.f.length<1000
abbrev bkF(l:List Blk):FD:=.sl 10 l.length (l.flatMap yC)
theorem all2_self:∀l:List FD,qe NilF l l
 |[]=>trivial
 |x::l=>⟨.refl x,all2_self l⟩
abbrev blkRF(b:Blk)(r f:FD):List FD:=[FD.int b.kind,FD.int b.level,.c (.str b.text),r,f,FD.int b.w,FD.int b.h,FD.int b.gap,.sl 3 b.nf b.ff,FD.int b.page]
abbrev newF(n:Int):List FD:=[FD.int n,FD.int 0,.c (.str ⟨#[]⟩),.c .nils,.c .nils,FD.int 0,FD.int 0,FD.int 0,.c .nils,FD.int 0]
theorem new_nil(l:List Blk)(n:Int):NilF (.sl 10 (l.length+1) (l.flatMap yC++newF n)) (bkF (l++[{ dB with kind:=n }])):=by
 unfold bkF;rw [List.flatMap_append,List.length_append];exact NilF.sl2 (iQ (all2_self _) ⟨.refl _,.refl _,.refl _,.nil 1,.nil 2,.refl _,.refl _,.refl _,.nil 3,.refl _,trivial⟩)
theorem setLs_mid:∀(pre old cs rest:List FD),cs.length=old.length->setLs (pre++(old++rest)) pre.length cs=pre++(cs++rest)
 |_,[],[],_,_=>rfl
 |pre,o::old,c::cs,rest,h=>by
  have ih:=setLs_mid (pre++[c]) old cs rest (by simpa using h);simp only [setLs];rw [List.set_append_right _ _ (Nat.le_refl _),Nat.sub_self];simpa using ih
theorem setLs_blk{l:List Blk}{i:Nat}{b:Blk}(hb:l[i]?=some b)(y:Blk):setLs (l.flatMap yC) (i*10) (yC y)=(l.set i y).flatMap yC:=by
 obtain⟨hi,e⟩:=zgs hb;have h1:l=l.take i++b::l.drop (i+1):=by rw [<-e,<-List.drop_eq_getElem_cons hi,List.take_append_drop]
 have h2:l.set i y=l.take i++y::l.drop (i+1):=by rw [List.set_eq_take_append_cons_drop,if_pos hi]
 have h3:=setLs_mid ((l.take i).flatMap yC) (yC b) (yC y) ((l.drop (i+1)).flatMap yC) rfl;rw [ZS,List.length_take,Nat.min_eq_left (Nat.le_of_lt hi)] at h3;rw [h2]
 conv=>lhs;rw [h1]
 rw [List.flatMap_append,List.flatMap_cons,List.flatMap_append,List.flatMap_cons];exact h3
theorem stB_blk{l:List Blk}{i:Nat}{b:Blk}(hb:l[i]?=some b)(y:Blk):QC (.data (l.flatMap yC)) (Int.toNat (i:Int)*10) ((yC y).map .f)=.data ((l.set i y).flatMap yC):=by
 rw [Int.toNat_natCast,<-setLs_blk hb y];exact congrArg Bk.data rfl
theorem blk_sub{l:List Blk}{j n:Nat}(h:j+n<=l.length):qT (l.flatMap yC) (j*10) (n*10)=some (((l.drop j).take n).flatMap yC):=by
 have h1:=ZS l;have h2:=ZS (l.take j);have h3:=ZS ((l.drop j).take n);rw [List.length_take,Nat.min_eq_left (by omega)] at h2;rw [List.length_take,List.length_drop,Nat.min_eq_left (by omega)] at h3;rw [zw (by omega)]
 conv=>lhs;rw [<-List.take_append_drop j l,<-List.take_append_drop n (l.drop j)]
 rw [List.flatMap_append,List.flatMap_append,<-h2,List.drop_left,<-h3,List.take_left]
theorem d_spoil{l:List Blk}{x:Spo}(hx:x.ok)(hl:l.length<=100)(hb:∀b∈l,Sm b):DK 11 [jf l,spoD x] fun d=>∃d',d=.one (.f d')/\NilF d' (bkF (spoilB l x)):=by
 have hfl:=ZS l;have hxn:IntKind.i64.wrap x.n=x.n:=qg (by have:=hx.n1;omega) (by have:=hx.n2;omega);refine qI fun Z0 lo=>?_;refine qa ?_;intros;refine qy (l':=[]) (m:=l.length) (q:=l.flatMap yC) rfl rfl rfl rfl ⟨rfl,rfl,rfl⟩ oM oM (by decide) rfl ?_;rw [show []++l.flatMap yC=l.flatMap yC from rfl,show 0+l.length=l.length from Nat.zero_add _];refine qa ?_;intros;by_cases hc:l.length=0\/500<x.s.size
 ·have hs:spoilB l x=l++[{ dB with kind:=x.n }]:=if_pos hc
  rw [hs];have hfn:(l.flatMap yC++newF x.n).length=(l.length+1)*10:=by rw [List.length_append,hfl];simp;omega
  by_cases h0:l.length=0
  ·have e0:((l.length:Int)==0)=true:=by rw [h0];rfl
   simp only [e0];refine qa ?_;intros;refine qb (t:=true) rfl (fun _=>?_) (fun h=>by cases h);refine qa ?_;intros;rw [hxn];refine qy (m:=1) (q:=newF x.n) rfl rfl rfl (qp _ hfl) ⟨rfl,rfl,newF x.n,rfl,rfl⟩ oM oM (by decide) rfl ?_;refine qa ?_;intros;refine qu (qf (k:=4) rfl (qw _)) (qf (k:=4) rfl (qw _)) ?_;refine qH 4 rfl qD qD ?_;exact qc ⟨_,rfl,rfl,_,rfl,new_nil l x.n⟩
  ·have e0:((l.length:Int)==0)=false:=by rw [beq_eq_false_iff_ne];omega
   have e1:decide ((x.s.size:Int)>500)=true:=decide_eq_true oM;simp only [e0];refine qa ?_;intros;simp only [e1];refine qa ?_;intros;refine qb (t:=true) rfl (fun _=>?_) (fun h=>by cases h);refine qa ?_;intros;rw [hxn];refine qy (m:=1) (q:=newF x.n) rfl rfl rfl (qp _ hfl) ⟨rfl,rfl,newF x.n,rfl,rfl⟩ oM oM (by decide) rfl ?_;refine qa ?_;intros;refine qu (qf (k:=4) rfl (qw _)) (qf (k:=4) rfl (qw _)) ?_;refine qH 4 rfl qD qD ?_;exact qc ⟨_,rfl,rfl,_,rfl,new_nil l x.n⟩
 ·have h0:l.length≠0:=fun h=>hc (.inl h);have h5:x.s.size<=500:=by omega
  have e0:((l.length:Int)==0)=false:=by rw [beq_eq_false_iff_ne];omega
  have e1:decide ((x.s.size:Int)>500)=false:=decide_eq_false oM;have hil:x.at_ % l.length<l.length:=Nat.mod_lt _ oM;obtain⟨b,hbi⟩:∃b,l[x.at_ % l.length]?=some b:=⟨_,zge hil⟩;have hsb:=kh hbi;have hgd:l.getD (x.at_ % l.length) dB=b:=by rw [List.getD_eq_getElem?_getD,hbi];rfl
  have hsm:=hb b (zmg hbi);have hj:(IntKind.i64.wrap (x.at_:Int)).tmod (l.length:Int)=((x.at_ % l.length:Nat):Int):=by rw [qg (by omega) (by have:=hx.a;omega)];exact (Int.ofNat_tmod _ _).symm
  have hs:spoilB l x=_:=if_neg hc;rw [hs,hgd];simp only [e0];refine qa ?_;intros;simp only [e1];refine qa ?_;intros;refine qb (t:=false) rfl (fun h=>by cases h) (fun _=>?_);refine qa ?_;intros;refine XB rfl rfl oM ?_;rw [hj];generalize x.at_ % l.length=i at *;have hw:((x.what:Nat):Int).tmod 10=((x.what % 10:Nat):Int):=(Int.ofNat_tmod _ _).symm;have hc10:x.what % 10<10:=Nat.mod_lt _ (by decide);unfold chgB;refine qa ?_;intros;rw [hw];generalize x.what % 10=c at *;have hle:Int.toNat (i:Int)*10+10<=(Bk.data (l.flatMap yC)).len:=by show _<=(l.flatMap yC).length;omega
  have hend (y:Blk):NilF (.sl 10 l.length ((l.set i y).flatMap yC)) (bkF (l.set i y)):=by unfold bkF;rw [List.length_set];exact .refl _
  rcases (show c=0\/c=1\/c=2\/c=3\/c=4\/c=5\/c=6\/c=7\/c=8\/c=9 by omega) with rfl|rfl|rfl|rfl|rfl|rfl|rfl|rfl|rfl|rfl
  ·refine qb (t:=true) rfl (fun _=>?_) (fun h=>by cases h);refine qa ?_;intros;rw [hxn];have hfs:=ZS (l.set i { b with kind:=x.n })
   rw [List.length_set] at hfs;refine vq (l:=(yC { b with kind:=x.n }).map .f) rfl rfl rfl rfl rfl hle rfl ?_
   rw [stB_blk hbi];refine qa ?_;intros;refine qu (qf (k:=4) rfl (qw _)) (qf (k:=2) rfl (qw _)) ?_;refine qH 2 rfl qD qD ?_;exact qc ⟨_,rfl,rfl,_,rfl,hend _⟩
  ·repeat (refine qb (t:=false) rfl (fun h=>by cases h) (fun _=>?_);refine qa ?_;intros)
   refine qb (t:=true) rfl (fun _=>?_) (fun h=>by cases h);refine qa ?_;intros;rw [hxn,qg (n:=b.level+x.n) (by have:=hsm.lv;have:=hx.n1;omega) (by have:=hsm.lv;have:=hx.n2;omega)];have hfs:=ZS (l.set i { b with level:=b.level+x.n })
   rw [List.length_set] at hfs;refine vq (l:=(yC { b with level:=b.level+x.n }).map .f) rfl rfl rfl rfl rfl hle rfl ?_
   rw [stB_blk hbi];refine qa ?_;intros;refine qu (qf (k:=4) rfl (qw _)) (qf (k:=2) rfl (qw _)) ?_;refine qH 2 rfl qD qD ?_;exact qc ⟨_,rfl,rfl,_,rfl,hend _⟩
  ·repeat (refine qb (t:=false) rfl (fun h=>by cases h) (fun _=>?_);refine qa ?_;intros)
   refine qb (t:=true) rfl (fun _=>?_) (fun h=>by cases h);refine qa ?_;intros;have hfs:=ZS (l.set i { b with text:=x.s })
   rw [List.length_set] at hfs;refine vq (l:=(yC { b with text:=x.s }).map .f) rfl rfl rfl rfl rfl hle rfl ?_
   rw [stB_blk hbi];refine qa ?_;intros;refine qu (qf (k:=4) rfl (qw _)) (qf (k:=2) rfl (qw _)) ?_;refine qH 2 rfl qD qD ?_;exact qc ⟨_,rfl,rfl,_,rfl,hend _⟩
  ·repeat (refine qb (t:=false) rfl (fun h=>by cases h) (fun _=>?_);refine qa ?_;intros)
   refine qb (t:=true) rfl (fun _=>?_) (fun h=>by cases h);refine qa ?_;intros;rw [hxn,qg (n:=b.page+x.n) (by have:=hsm.pg;have:=hx.n1;omega) (by have:=hsm.pg;have:=hx.n2;omega)];have hfs:=ZS (l.set i { b with page:=b.page+x.n })
   rw [List.length_set] at hfs;refine vq (l:=(yC { b with page:=b.page+x.n }).map .f) rfl rfl rfl rfl rfl hle rfl ?_
   rw [stB_blk hbi];refine qa ?_;intros;refine qu (qf (k:=4) rfl (qw _)) (qf (k:=2) rfl (qw _)) ?_;refine qH 2 rfl qD qD ?_;exact qc ⟨_,rfl,rfl,_,rfl,hend _⟩
  ·repeat (refine qb (t:=false) rfl (fun h=>by cases h) (fun _=>?_);refine qa ?_;intros)
   refine qb (t:=true) rfl (fun _=>?_) (fun h=>by cases h);have hrl:=hsm.rw;have hrd:FD.sl 1 (b.rows.length+1) (b.rows.map kw++[kw [x.s]])=Qg (b.rows++[[x.s]]):=by simp [Qg]
   have hrm:(b.rows.map kw++[kw [x.s]]).length=(b.rows.length+1)*1:=by simp
   refine qa ?_;intros;refine qy (l':=[]) (m:=b.rows.length) (q:=b.rows.map kw) rfl rfl rfl rfl ⟨rfl,rfl,rfl⟩ oM oM (by decide) rfl ?_;rw [show []++b.rows.map kw=b.rows.map kw from rfl,show 0+b.rows.length=b.rows.length from Nat.zero_add _]
   iterate 1 (first|(refine ZG rfl rfl ?_)|(refine ZH rfl rfl ?_)|(refine Yr rfl ?_)|(refine Ys rfl rfl ?_)|(refine Yt rfl rfl ?_)|(refine Wg rfl QF QF ?_)|(refine Vf rfl rfl ?_)|(refine Ve rfl rfl ?_)|(refine xT rfl ?_)|(refine jF rfl ?_)|(refine jt rfl ?_)|(refine cX rfl QF ?_)|(refine cY rfl QF ?_)|(refine Vh rfl rfl oM oM ?_)|(refine Vi rfl rfl oM oM ?_)|(refine Vg rfl rfl oM oM ?_)|(refine Vk rfl rfl oM (by decide) aM ?_)|(refine xU rfl rfl oM (by decide) aM ?_)|(refine jF (ja rfl rfl aM rfl) ?_)|(refine jt (ja rfl rfl aM rfl) ?_)|(refine jF (y8 rfl rfl aM) ?_)|(refine jt (y8 rfl rfl aM) ?_)|(refine jF (y9 rfl rfl aM aM) ?_)|(refine jt (y9 rfl rfl aM aM) ?_)|(refine Qz rfl ?_)|(refine cZ rfl rfl rfl ?_)|(refine vq rfl rfl rfl rfl rfl (Nat.le_of_ble_eq_true rfl) rfl ?_)|(refine zE ?_)|(refine yB ?_)|(refine yq wq (fun base=>?_))|(refine ZJ ?_)|(refine XD ?_)|(refine ya ?_))
   refine JB 6 rfl qD qD ?_;refine qa ?_;intros;refine qy (l':=b.rows.map kw) (m:=1) (q:=[kw [x.s]]) rfl rfl rfl (qp _ (by simp)) ⟨rfl,rfl,_,rfl,rfl⟩ (by omega) (by omega) (by decide) rfl ?_;refine JB 8 rfl qD qD ?_;refine qa ?_;intros;refine vq (x:=.data (l.flatMap yC)) (l:=(blkRF b (FD.sl 1 (b.rows.length+1) (b.rows.map kw++[kw [x.s]])) (pK b.f)).map .f) rfl rfl rfl rfl rfl hle rfl ?_;rw [hrd,show QC (.data (l.flatMap yC)) (Int.toNat (i:Int)*10) ((blkRF b (Qg (b.rows++[[x.s]])) (pK b.f)).map .f)=_ from stB_blk hbi { b with rows:=b.rows++[[x.s]] }]
   have hfs:=ZS (l.set i { b with rows:=b.rows++[[x.s]] })
   rw [List.length_set] at hfs;refine qa ?_;intros;refine qu (qf (k:=4) rfl (qw _)) (qf (k:=2) rfl (qw _)) ?_;refine qH 2 rfl qD qD ?_;exact qc ⟨_,rfl,rfl,_,rfl,hend _⟩
  ·repeat (refine qb (t:=false) rfl (fun h=>by cases h) (fun _=>?_);refine qa ?_;intros)
   refine qb (t:=true) rfl (fun _=>?_) (fun h=>by cases h);have hrl:=hsm.fl;have hnl:(b.f.flatMap jP).length=b.f.length*2:=zO (f:=jP) (e:=2) (fun _=>rfl) _;have hrm:(b.f.flatMap jP++jP (x.n,0)).length=(b.f.length+1)*2:=by rw [List.length_append,hnl];show _+2=_;omega
   have hrd:FD.sl 2 (b.f.length+1) (b.f.flatMap jP++jP (x.n,0))=pK (b.f++[(x.n,0)]):=by simp [pK]
   refine qa ?_;intros;refine qy (l':=[]) (m:=b.f.length) (q:=b.f.flatMap jP) rfl rfl rfl rfl ⟨rfl,rfl,rfl⟩ oM oM (by decide) rfl ?_;rw [show []++b.f.flatMap jP=b.f.flatMap jP from rfl,show 0+b.f.length=b.f.length from Nat.zero_add _];refine qa ?_;intros;rw [hxn];refine qy (l':=b.f.flatMap jP) (m:=1) (q:=jP (x.n,0)) rfl rfl rfl (qp _ hnl) ⟨rfl,rfl,_,rfl,rfl⟩ oM oM (by decide) rfl ?_;refine JB 7 rfl qD qD ?_;refine qa ?_;intros;refine vq (x:=.data (l.flatMap yC)) (l:=(blkRF b (Qg b.rows) (FD.sl 2 (b.f.length+1) (b.f.flatMap jP++jP (x.n,0)))).map .f) rfl rfl rfl rfl rfl hle rfl ?_;rw [hrd,show QC (.data (l.flatMap yC)) (Int.toNat (i:Int)*10) ((blkRF b (Qg b.rows) (pK (b.f++[(x.n,0)]))).map .f)=_ from stB_blk hbi { b with f:=b.f++[(x.n,0)] }]
   have hfs:=ZS (l.set i { b with f:=b.f++[(x.n,0)] })
   rw [List.length_set] at hfs;refine qa ?_;intros;refine qu (qf (k:=4) rfl (qw _)) (qf (k:=2) rfl (qw _)) ?_;refine qH 2 rfl qD qD ?_;exact qc ⟨_,rfl,rfl,_,rfl,hend _⟩
  ·repeat (refine qb (t:=false) rfl (fun h=>by cases h) (fun _=>?_);refine qa ?_;intros)
   refine qb (t:=true) rfl (fun _=>?_) (fun h=>by cases h);refine qa ?_;intros;rw [hxn,qg (n:=b.gap+x.n) (by have:=hsm.gp;have:=hx.n1;omega) (by have:=hsm.gp;have:=hx.n2;omega)];have hfs:=ZS (l.set i { b with gap:=b.gap+x.n })
   rw [List.length_set] at hfs;refine vq (l:=(yC { b with gap:=b.gap+x.n }).map .f) rfl rfl rfl rfl rfl hle rfl ?_
   rw [stB_blk hbi];refine qa ?_;intros;refine qu (qf (k:=4) rfl (qw _)) (qf (k:=2) rfl (qw _)) ?_;refine qH 2 rfl qD qD ?_;exact qc ⟨_,rfl,rfl,_,rfl,hend _⟩
  ·repeat (refine qb (t:=false) rfl (fun h=>by cases h) (fun _=>?_);refine qa ?_;intros)
   refine qb (t:=true) rfl (fun _=>?_) (fun h=>by cases h);have hfs:(l.flatMap yC++yC b).length=(l.length+1)*10:=by rw [List.length_append,hfl];show _+10=_;omega
   refine qa ?_;intros;refine qy (l:=l.flatMap yC) (m:=1) (q:=yC b) rfl rfl rfl (qp _ hfl) ⟨rfl,rfl,_,rfl,rfl⟩ oM oM (by decide) rfl ?_;refine qa ?_;intros;refine qu (qf (k:=4) rfl (qw _)) (qf (k:=5) rfl (qw _)) ?_;refine qH 5 rfl qD qD ?_;refine qc ⟨_,rfl,rfl,_,rfl,?_⟩;show NilF _ (bkF (l++[b]));unfold bkF;rw [List.length_append,List.flatMap_append,List.flatMap_cons,List.flatMap_nil,List.append_nil];exact .refl _
  ·repeat (refine qb (t:=false) rfl (fun h=>by cases h) (fun _=>?_);refine qa ?_;intros)
   refine qb (t:=true) rfl (fun _=>?_) (fun h=>by cases h);have hw1:IntKind.i64.wrap ((i:Int)+1)=((i+1:Nat):Int):=by rw [qg (by omega) (by omega)];omega
   have hq1:=blk_sub (l:=l) (j:=0) (n:=i) oM;have hq2:=blk_sub (l:=l) (j:=i+1) (n:=l.length-(i+1)) oM;rw [Nat.zero_mul,List.drop_zero] at hq1;rw [List.take_of_length_le (by rw [List.length_drop];omega)] at hq2;have hfs:=ZS (l.take i++l.drop (i+1));have hll:(l.take i++l.drop (i+1)).length=i+(l.length-(i+1)):=by rw [List.length_append,List.length_take,List.length_drop];omega
   rw [hll,List.flatMap_append] at hfs;refine qa ?_;intros;refine XA (l:=0) (h:=i) (o':=0) (n':=i) rfl rfl rfl oM oM oM oM ?_;refine qa ?_;intros;rw [hw1];refine XA (l:=i+1) (h:=l.length) (o':=(i+1)*10) (n':=l.length-(i+1)) rfl rfl rfl oM oM oM oM ?_;refine qa ?_;intros;refine qy (l':=(l.take i).flatMap yC) (m:=l.length-(i+1)) (q:=(l.drop (i+1)).flatMap yC) rfl rfl rfl hq1 ⟨rfl,rfl,_,rfl,hq2⟩ oM oM (by decide) rfl ?_;refine qa ?_;intros;refine qu (qf (k:=4) rfl (qw _)) (qf (k:=4) rfl (qw _)) ?_;refine qH 4 rfl qD qD ?_;refine qc ⟨_,rfl,rfl,_,rfl,?_⟩;show NilF _ (bkF (l.take i++l.drop (i+1)));unfold bkF;rw [hll,List.flatMap_append];exact .refl _
  ·repeat (refine qb (t:=false) rfl (fun h=>by cases h) (fun _=>?_);refine qa ?_;intros)
   have hj2:(IntKind.i64.wrap (IntKind.u8.wrap x.n)).tmod (l.length:Int)=(((x.n % 256).toNat % l.length:Nat):Int):=by
    rw [show IntKind.u8.wrap x.n=x.n % 256 from rfl,qg (by omega) (by omega)]
    conv=>lhs;rw [show x.n % 256=(((x.n % 256).toNat:Nat):Int) by omega]
    exact (Int.ofNat_tmod _ _).symm
   have hkl:(x.n % 256).toNat % l.length<l.length:=Nat.mod_lt _ oM;refine XB rfl rfl oM ?_;rw [hj2];generalize (x.n % 256).toNat % l.length=k at *;obtain⟨b2,hb2⟩:∃b,l[k]?=some b:=⟨_,zge hkl⟩;have hsb2:=kh hb2;have hgd2:l.getD k dB=b2:=by rw [List.getD_eq_getElem?_getD,hb2];rfl
   obtain⟨b3,hb3⟩:∃b,(l.set i b2)[k]?=some b:=⟨_,zge (by rw [List.length_set];exact hkl)⟩;have hfs:=ZS ((l.set i b2).set k b);rw [List.length_set,List.length_set] at hfs;have hfs2:=ZS (l.set i b2);rw [List.length_set] at hfs2;refine qa ?_;intros;refine vq (x:=.data (l.flatMap yC)) (l:=(yC b2).map .f) rfl rfl rfl rfl rfl hle rfl ?_;rw [stB_blk hbi];refine qa ?_;intros;refine vq (x:=.data ((l.set i b2).flatMap yC)) (l:=(yC b).map .f) rfl rfl rfl rfl rfl (by show _<=((l.set i b2).flatMap yC).length;omega) rfl ?_;rw [stB_blk hb3];refine qa ?_;intros;refine qu (qf (k:=4) rfl (qw _)) (qf (k:=2) rfl (qw _)) ?_;refine qH 2 rfl qD qD ?_;refine qc ⟨_,rfl,rfl,_,rfl,?_⟩;rw [hgd2];show NilF _ (bkF ((l.set i b2).set k b));unfold bkF;rw [List.length_set,List.length_set];exact .refl _
theorem d_right5A{b:Blk}{v:Bool}(hk:b.kind=5)(hv:DK 38 [xX b.f] fun d=>d=.bool v):DK 19 [vA b] fun d=>d=.bool (v&&yp { b with f:=[] }):=by
 obtain⟨kind,level,text,rows,f,w,h,gap,nf,ff,page⟩:=b;simp only at hk hv;subst hk;refine qI fun Z0 lo=>?_;refine qa ?_;intros
 repeat (first|(refine qb (t:=false) rfl (fun h=>by cases h) (fun _=>?_);refine qa ?_;intros)|(refine qb (t:=true) rfl (fun _=>?_) (fun h=>by cases h);refine qa ?_;intros))
 refine qj rfl rfl hv ?_;rintro _ rfl;cases v
 ·refine qa ?_;intros;exact qc ⟨_,rfl,rfl,rfl⟩
 ·refine qa ?_;intros;refine qj rfl rfl (Kg (b:=⟨5,level,text,rows,[],w,h,gap,nf,ff,page⟩) ⟨.inl rfl,.inl rfl,.inl rfl,.inl rfl,.inr ⟨rfl,2,rfl⟩,.inl rfl,.inl rfl,.inl rfl,.inl rfl,.inl rfl,trivial⟩) ?_;rintro _ rfl;refine qa ?_;intros;exact qc ⟨_,rfl,rfl,by rw [Bool.true_and]⟩
theorem d_right6A{b:Blk}{p:Pic}{v:Bool}(hk:b.kind=6)(hp:yz p=.agg [.f (FD.int b.w),.f (FD.int b.h),.f (FD.int b.gap),.f (.sl 3 b.nf b.ff)])(hv:DK 39 [yz p] fun d=>d=.bool v):DK 19 [vA b] fun d=>d=.bool (v&&yp { b with w:=0,h:=0,gap:=0,nf:=0,ff:=[] }):=by
 obtain⟨kind,level,text,rows,f,w,h,gap,nf,ff,page⟩:=b;simp only at hk hp;subst hk;rw [hp] at hv;refine qI fun Z0 lo=>?_;refine qa ?_;intros
 repeat (first|(refine qb (t:=false) rfl (fun h=>by cases h) (fun _=>?_);refine qa ?_;intros)|(refine qb (t:=true) rfl (fun _=>?_) (fun h=>by cases h);refine qa ?_;intros))
 refine qj rfl rfl hv ?_;rintro _ rfl;cases v
 ·refine qa ?_;intros;exact qc ⟨_,rfl,rfl,rfl⟩
 ·refine qa ?_;intros;refine qj rfl rfl (Kg (b:=⟨6,level,text,rows,f,0,0,0,0,[],page⟩) ⟨.inl rfl,.inl rfl,.inl rfl,.inl rfl,.inl rfl,.inl rfl,.inl rfl,.inl rfl,.inr ⟨rfl,3,rfl⟩,.inl rfl,trivial⟩) ?_;rintro _ rfl;refine qa ?_;intros;exact qc ⟨_,rfl,rfl,by rw [Bool.true_and]⟩
theorem d_rightX{b:Blk}(hk:b.kind<1\/7<b.kind):DK 19 [vA b] fun d=>d=.bool false:=by
 have k1:decide (b.kind=1)=false:=decide_eq_false oM;have k2:decide (b.kind=2)=false:=decide_eq_false oM;have k3:decide (b.kind=3)=false:=decide_eq_false oM;have k4:decide (b.kind=4)=false:=decide_eq_false oM;have k5:decide (b.kind=5)=false:=decide_eq_false oM;have k6:decide (b.kind=6)=false:=decide_eq_false oM;have k7:decide (b.kind=7)=false:=decide_eq_false oM;obtain⟨kind,level,text,rows,f,w,h,gap,nf,ff,page⟩:=b;simp only at *;refine qI fun Z0 lo=>?_;refine qa ?_;intros
 repeat (refine qb (t:=false) (congrArg (fun z=>some (DV.bool z)) aM) (fun h=>by cases h) (fun _=>?_);refine qa ?_;intros)
 exact qc ⟨_,rfl,rfl,rfl⟩
open Classical in
theorem d_drawA{p:Pic}(hF:Zr p)(hw:iV p):DK 39 [yz p] fun d=>d=.bool (decide (rO p)):=by
 refine qI fun Z0 lo=>?_;refine qa ?_;intros;refine qj rfl rfl (A5 hF hw) ?_;rintro _ ⟨r,hr,rfl⟩;obtain⟨r1,r2,r3⟩:=r;refine qa ?_;intros;refine qb (t:=(r3 !=0)) rfl (fun h1=>?_) (fun h1=>?_)
 ·have h1:r3≠0:=by simpa using h1
  refine qa ?_;intros;exact qc ⟨_,rfl,rfl,by rw [decide_eq_false fun hd:rO p=>h1 (congrArg (fun z:BQ=>z.2.2) (hr.uniq hd.1))]⟩
 ·have h1:r3=0:=by simpa using h1
  obtain⟨e,hv⟩:=hr.zero h1;rw [e] at hr;refine qa ?_;intros;refine qj rfl rfl (D3 hF hw) ?_;rintro _ ⟨q,hq,_,rfl⟩;have hz:=hq hv;obtain⟨q1,q2,q3⟩:=q;refine qa ?_;intros;refine qc ⟨_,rfl,rfl,congrArg (fun z=>DV.bool z) ?_⟩;by_cases h0:q3=0
  ·subst h0;have hd:rO p:=⟨hr,_,hz,rfl⟩;exact (decide_eq_true hd).symm
  ·rw [decide_eq_false fun⟨_,r',hr',h'⟩=>h0 (hr'.zero hz h')];simpa using h0
theorem d_fvalidN{f:List (Int × Int)}{e d:Int}{ok:Bool}(hm:f.length<=60->DK 101 [xX f,.int (0:Nat)] fun r=>r=.tup [.int e,.int d,.bool ok])(hbad:ok=false\/e≠f.length):DK 38 [xX f] fun r=>r=.bool false:=by
 have h73:DK 73 [xX f] fun r=>r=.int 0:=by
  refine qI fun Z0 lo=>?_;refine qa ?_;intros;refine qb (t:=decide ((f.length:Int)>60)) rfl (fun h=>?_) (fun h=>?_)
  ·refine qa ?_;intros;exact qc ⟨_,rfl,rfl,rfl⟩
  ·have h:=qQ h;refine qa ?_;intros;refine qj rfl rfl (hm oM) ?_;rintro _ rfl;cases ok with
   |false=>
    refine qa ?_;intros;refine qb (t:=true) rfl (fun _=>?_) (fun h=>by cases h);refine qa ?_;intros;exact qc ⟨_,rfl,rfl,rfl⟩
   |true=>
    have e1:(e !=(f.length:Int))=true:=by
     rcases hbad with h|h;· cases h
     ·simpa using h
    refine qa ?_;intros;simp only [e1];refine qa ?_;intros;refine qb (t:=true) rfl (fun _=>?_) (fun h=>by cases h);refine qa ?_;intros;exact qc ⟨_,rfl,rfl,rfl⟩
 refine qI fun Z0 lo=>?_;refine qa ?_;intros;refine qj rfl rfl h73 ?_;rintro _ rfl;refine qa ?_;intros;exact qc ⟨_,rfl,rfl,rfl⟩
theorem d_fvalid0:DK 38 [xX []] fun r=>r=.bool false:=by
 refine d_fvalidN (e:=0) (d:=0) (ok:=false) (fun _=>?_) (.inl rfl);refine qI fun Z0 lo=>?_;refine qa ?_;intros;refine qb (t:=true) rfl (fun _=>?_) (fun h=>by cases h);refine qa ?_;intros;exact qc ⟨_,rfl,rfl,rfl⟩
theorem d_fvalidT{t:Tr}(h:t.ok)(hd:t.dep<=8)(x:Int × Int):DK 38 [xX (t.fl++[x])] fun r=>r=.bool false:=
 d_fvalidN (e:=(0+t.fl.length:Nat)) (d:=t.dep) (ok:=true) (fun hl=>r7 (by omega) t h (by omega) 0 [x] (by rw [List.drop_zero])) (.inr (by rw [List.length_append,List.length_singleton];omega))
theorem right_any{b:Blk}(h5:b.kind=5->∃v,DK 38 [xX b.f] fun d=>d=.bool v)(h6:b.kind=6->∃p:Pic,Zr p/\iV p/\yz p=.agg [.f (FD.int b.w),.f (FD.int b.h),.f (FD.int b.gap),.f (.sl 3 b.nf b.ff)])(hr:∀r∈b.rows,r.length<1000000):DK 19 [vA b] fun d=>d=.bool (RB b):=by
 by_cases hx:b.kind<1\/7<b.kind
 ·exact RB_of (d_rightX hx)
 ·by_cases e5:b.kind=5
  ·obtain⟨v,hv⟩:=h5 e5;exact RB_of (d_right5A e5 hv)
  ·by_cases e6:b.kind=6
   ·obtain⟨p,h1,h2,h3⟩:=h6 e6;exact RB_of (d_right6A e6 h3 (d_drawA h1 h2))
   ·exact RB_of (ZL ⟨oM,hr⟩)
theorem fine0(g:Int):Zr ⟨0,0,g,[]⟩/\iV ⟨0,0,g,[]⟩:=⟨⟨Nat.zero_lt_succ _,fun f hf=>by cases hf⟩,fun f hf=>by cases hf⟩
theorem right_new(n:Int):DK 19 [vA { dB with kind:=n }] fun d=>d=.bool (RB { dB with kind:=n }):=
 right_any (fun _=>⟨_,d_fvalid0⟩) (fun _=>⟨⟨0,0,0,[]⟩,(fine0 0).1,(fine0 0).2,rfl⟩) fun r hr=>by cases hr
theorem good_rows{m:MB}(h:m.good):m.blk.rows.length<=3/\∀r∈m.blk.rows,r.length<=3:=by
 cases m with
 |tab rows=>
  obtain⟨_,h2,c,_,h4,h5⟩:=h;exact⟨h2,fun r hr=>by have:=(h5 r hr).1;omega⟩
 |text note s=>exact⟨Nat.zero_le _,fun r hr=>by cases hr⟩
 |head lv s=>exact⟨Nat.zero_le _,fun r hr=>by cases hr⟩
 |math t=>exact⟨Nat.zero_le _,fun r hr=>by cases hr⟩
 |map p=>exact⟨Nat.zero_le _,fun r hr=>by cases hr⟩
 |ink page=>exact⟨Nat.zero_le _,fun r hr=>by cases hr⟩
theorem good_f{m:MB}(h:m.good):(∃v,DK 38 [xX m.blk.f] fun d=>d=.bool v)/\(m.blk.kind=5->∀x,∃v,DK 38 [xX (m.blk.f++[x])] fun d=>d=.bool v):=by
 cases m with
 |math t=>exact⟨⟨_,D5 h.1 h.2.2 h.2.1⟩,fun _ x=>⟨_,d_fvalidT h.1 h.2.1 x⟩⟩
 |tab rows=>exact⟨⟨_,d_fvalid0⟩,fun e=>by cases e⟩
 |text note s=>exact⟨⟨_,d_fvalid0⟩,fun e=>by cases note<;>cases e⟩
 |head lv s=>exact⟨⟨_,d_fvalid0⟩,fun e=>by cases e⟩
 |map p=>exact⟨⟨_,d_fvalid0⟩,fun e=>by cases e⟩
 |ink page=>exact⟨⟨_,d_fvalid0⟩,fun e=>by cases e⟩
theorem good_pic{m:MB}(h:m.good)(g:Int):∃p:Pic,Zr p/\iV p/\yz p=.agg [.f (FD.int m.blk.w),.f (FD.int m.blk.h),.f (FD.int g),.f (.sl 3 m.blk.nf m.blk.ff)]:=by
 cases m with
 |map p=>exact⟨{ p with gap:=g },h.1,h.2.1,rfl⟩
 |math t=>exact⟨⟨0,0,g,[]⟩,(fine0 g).1,(fine0 g).2,rfl⟩
 |tab rows=>exact⟨⟨0,0,g,[]⟩,(fine0 g).1,(fine0 g).2,rfl⟩
 |text note s=>exact⟨⟨0,0,g,[]⟩,(fine0 g).1,(fine0 g).2,rfl⟩
 |head lv s=>exact⟨⟨0,0,g,[]⟩,(fine0 g).1,(fine0 g).2,rfl⟩
 |ink page=>exact⟨⟨0,0,g,[]⟩,(fine0 g).1,(fine0 g).2,rfl⟩
theorem right_chg{m:MB}(h:m.good)(x:Spo):DK 19 [vA (chgB x m.blk)] fun d=>d=.bool (RB (chgB x m.blk)):=by
 have hr:=good_rows h;have hf:=good_f h;have hrows:∀r∈m.blk.rows,r.length<1000000:=fun r hr'=>by have:=hr.2 r hr';omega
 unfold chgB;split
 ·exact right_any (fun _=>hf.1) (fun _=>good_pic h _) hrows
 ·exact right_any (fun _=>hf.1) (fun _=>good_pic h _) hrows
 ·exact right_any (fun _=>hf.1) (fun _=>good_pic h _) hrows
 ·exact right_any (fun _=>hf.1) (fun _=>good_pic h _) hrows
 ·refine right_any (fun _=>hf.1) (fun _=>good_pic h _) fun r hr'=>?_;rcases List.mem_append.1 hr' with hr'|hr'
  ·exact hrows r hr'
  ·rw [List.mem_singleton.1 hr'];exact Nat.succ_lt_succ (Nat.zero_lt_succ _)
 ·exact right_any (fun e=>hf.2 e _) (fun _=>good_pic h _) hrows
 ·exact right_any (fun _=>hf.1) (fun _=>good_pic h _) hrows
 ·exact right_any (fun _=>hf.1) (fun _=>good_pic h _) hrows
theorem right_spoil{ms:List MB}(h:MOk ms)(x:Spo):∀b∈spoilB (ms.map MB.blk) x,DK 19 [vA b] fun d=>d=.bool (RB b):=by
 have hm:∀b∈ms.map MB.blk,DK 19 [vA b] fun d=>d=.bool (RB b):=fun b hb=>by
  obtain⟨m,hm,rfl⟩:=List.mem_map.1 hb;exact RB_of (gU (h.good m hm))
 have hg:∀i,DK 19 [vA ((ms.map MB.blk).getD i dB)] fun d=>d=.bool (RB ((ms.map MB.blk).getD i dB)):=fun i=>by
  rw [List.getD_eq_getElem?_getD];cases e:(ms.map MB.blk)[i]? with
  |none=>exact right_new 0
  |some b=>exact hm b (zmg e)
 intro b hb;unfold spoilB at hb;split at hb
 ·rcases List.mem_append.1 hb with hb|hb
  ·exact hm b hb
  ·rw [List.mem_singleton.1 hb];exact right_new _
 ·rename_i h0;split at hb
  ·rcases List.mem_append.1 hb with hb|hb
   ·exact hm b hb
   ·rw [List.mem_singleton.1 hb];exact hg _
  ·rcases List.mem_append.1 hb with hb|hb
   ·exact hm b (List.mem_of_mem_take hb)
   ·exact hm b (List.mem_of_mem_drop hb)
  ·rcases List.mem_or_eq_of_mem_set hb with hb|rfl
   ·rcases List.mem_or_eq_of_mem_set hb with hb|rfl
    ·exact hm b hb
    ·exact hg _
   ·exact hg _
  ·rcases List.mem_or_eq_of_mem_set hb with hb|rfl
   ·exact hm b hb
   ·rw [List.getD_eq_getElem?_getD];have hlt:x.at_ % (ms.map MB.blk).length<(ms.map MB.blk).length:=Nat.mod_lt _ oM;rw [zge hlt];obtain⟨m,hm',e⟩:=List.mem_map.1 (List.getElem_mem hlt);show DK 19 [vA (chgB x _)] _;rw [Option.getD_some,<-e];exact right_chg (h.good m hm') x
theorem d_nilE{f:FuncId}{ds:List DV}{e:FD}(h:DK f ds fun d=>∃d',d=.one (.f d')/\NilF d' e):DK f ds fun d=>d=.one (.f e):=fun H Z args hw hz hg ha=>(h H Z args hw hz hg ha).mono fun v H' ⟨a1,a2,a3,d,hd,d',e1,hn⟩=>by
 subst e1;obtain⟨c,e2,hc⟩:=hd;exact⟨a1,a2,a3,.one (.f e),⟨c,e2,hn.ok hc⟩,rfl⟩
theorem good_sm{m:MB}(h:m.good):Sm m.blk:=by
 have z:(-1000000:Int)<0/\(0:Int)<1000000:=by decide
 have y:0<1000:=by decide
 cases m with
 |tab rows=>exact⟨z,z,z,Nat.lt_of_le_of_lt h.2.1 (by decide),y⟩
 |text note s=>exact⟨z,z,z,y,y⟩
 |head lv s=>exact⟨show (-1000000:Int)<(lv:Int)/\(lv:Int)<1000000 by have:=h.2.1;omega,z,z,y,y⟩
 |math t=>exact⟨z,z,z,y,Nat.lt_of_le_of_lt h.2.2 (by decide)⟩
 |map p=>
  have hv:=(h.2.2.1.zero rfl).2;have hg:2<=p.gap/\p.gap<=6:=by
   simp only [qJ,jS,xt,xF] at hv;exact hv.1.2.1
  exact⟨z,z,show -1000000<p.gap/\p.gap<1000000 by omega,y,y⟩
 |ink page=>exact⟨z,show (-1000000:Int)<(page:Int)/\(page:Int)<1000000 by have:=h.2;omega,z,y,y⟩
theorem spoil_len(l:List Blk)(x:Spo):(spoilB l x).length<=l.length+1:=by
 unfold spoilB;split
 ·simp
 ·split
  ·simp
  ·rw [List.length_append,List.length_take,List.length_drop];omega
  ·rw [List.length_set,List.length_set];omega
  ·rw [List.length_set];omega
theorem d_begins{l:List RawB}{x:Spo}{n:Nat}(h1:∀x∈l,x.ok)(g1:l.length<9223372036854775808)(hx:x.ok)(hn:n<256):DK 5 [J0 l,spoD x,.one (.f (.c (.int .u8 n)))] fun d=>d=.bool true:=by
 refine qI fun Z0 lo=>?_;refine qa ?_;intros;refine qj rfl rfl DN ?_;rintro _ rfl;refine qa ?_;intros;refine qj rfl rfl (nM h1 g1) ?_;rintro _ ⟨a,⟨ha,hal⟩,rfl⟩;have hA:(a.map MB.blk).length<=6:=by rw [List.length_map];exact hal
 have hv1 (j:Nat):DK 10 [jf ((a.map MB.blk).take j)] fun d=>d=.bool true:=by
  have:=QY (R:=tt) (l:=(a.map MB.blk).take j) fun b hb=>by
   obtain⟨m,hm,rfl⟩:=List.mem_map.1 (List.mem_of_mem_take hb);exact gU (ha.good m hm)
  rwa [made_begins ha hal] at this
 have hsp:=d_nilE (d_spoil hx (l:=a.map MB.blk) oM fun b hb=>by
  obtain⟨m,hm,rfl⟩:=List.mem_map.1 hb;exact good_sm (ha.good m hm))
 have hRs:=right_spoil ha x;have hlen:=spoil_len (a.map MB.blk) x;have hpl:=begins_plain RB (l:=spoilB (a.map MB.blk) x) oM;generalize a.map MB.blk=A at *;generalize spoilB A x=C at *;have hRt (j:Nat):DK 10 [jf (C.take j)] fun d=>d=.bool (kW RB (C.take j)):=QY fun b hb=>hRs b (List.mem_of_mem_take hb);have hw1:IntKind.i64.wrap ((A.length:Int)+1)=((A.length+1:Nat):Int):=by rw [qg (by omega) (by omega)];omega
 have hj:(IntKind.i64.wrap (n:Int)).tmod ((A.length+1:Nat):Int)=((n % (A.length+1):Nat):Int):=by rw [qg (by omega) (by omega)];exact (Int.ofNat_tmod _ _).symm
 have hjl:n % (A.length+1)<=A.length:=by have:=Nat.mod_lt n (show 0<A.length+1 by omega);omega
 have htk (L:List Blk) (j:Nat) (hj:j<=L.length):qT (L.flatMap yC) (0*10) (j*10)=some ((L.take j).flatMap yC)/\(L.take j).length=j:=by
  have:=blk_sub (l:=L) (j:=0) (n:=j) oM;exact⟨this,by rw [List.length_take];omega⟩
 refine qa ?_;intros;rw [hw1];refine XB rfl rfl oM ?_;rw [hj];generalize n % (A.length+1)=j at *;obtain⟨q1,q2⟩:=htk A j hjl;refine Vd (l:=0) (n':=j) (q:=(A.take j).flatMap yC) rfl rfl rfl oM oM oM q1 ?_;have hv1j:=hv1 j;rw [show jf (A.take j)=.one (.f (.sl 10 j ((A.take j).flatMap yC))) by rw [jf,q2]] at hv1j;refine qj rfl rfl hv1j ?_;rintro _ rfl;refine qa ?_;intros;refine qb (t:=false) rfl (fun h=>by cases h) (fun _=>?_);refine qa ?_;intros;refine qj rfl rfl hsp ?_;rintro _ rfl;refine qa ?_;intros;refine qj rfl rfl (L1 hRs) ?_;rintro _ rfl;rcases hpl with⟨k1,k2⟩|⟨i,hi,k1,k2,k3⟩
 ·rw [k1];have hc:=hRt C.length;rw [k2,List.take_length] at hc;refine qa ?_;intros;refine qb (t:=true) rfl (fun _=>?_) (fun h=>by cases h);refine qa ?_;intros;refine qj rfl rfl hc ?_;rintro _ rfl;refine qa ?_;intros;exact qc ⟨_,rfl,rfl,rfl⟩
 ·rw [k1];have hc1:=hRt i;have hc2:=hRt (i+1);rw [k2] at hc1;rw [k3] at hc2;obtain⟨p1,p2⟩:=htk C i oM;obtain⟨p3,p4⟩:=htk C (i+1) oM;rw [show jf (C.take i)=.one (.f (.sl 10 i ((C.take i).flatMap yC))) by rw [jf,p2]] at hc1;rw [show jf (C.take (i+1))=.one (.f (.sl 10 (i+1) ((C.take (i+1)).flatMap yC))) by rw [jf,p4]] at hc2;have e1:decide ((i:Int)>=0)=true:=decide_eq_true oM;have e2:decide ((i:Int)<C.length)=true:=decide_eq_true oM;have hw2:IntKind.i64.wrap ((i:Int)+1)=((i+1:Nat):Int):=by rw [qg (by omega) (by omega)];omega
  refine qa ?_;intros;refine qb (t:=false) rfl (fun h=>by cases h) (fun _=>?_);refine qa ?_;intros;simp only [e1];refine qa ?_;intros;simp only [e2];refine qa ?_;intros;refine Vd (l:=0) (n':=i) (q:=(C.take i).flatMap yC) rfl rfl rfl oM oM oM p1 ?_;refine qa ?_;intros;refine qj rfl rfl hc1 ?_;rintro _ rfl;refine qa ?_;intros;rw [hw2];refine Vd (l:=0) (n':=i+1) (q:=(C.take (i+1)).flatMap yC) rfl rfl rfl oM oM oM p3 ?_;refine qa ?_;intros;refine qj rfl rfl hc2 ?_;rintro _ rfl;refine qa ?_;intros;exact qc ⟨_,rfl,rfl,rfl⟩
theorem wf_i8{n:Int}(h:(Lit.int .i8 n).wf=true): -128<=n/\n<128:=by
 simp [Lit.wf,IntKind.min,IntKind.max,IntKind.signed,IntKind.bits] at h;omega
def spoT:Ty:=.agg (.pair (.int .u8) (.pair (.int .u8) (.pair (.int .i8) (.pair .str .unit))))
abbrev SpoDen:=Int × Int × Int × ByteArray × Unit
def spoR(a:SpoDen):Spo:=⟨a.1.toNat,a.2.1.toNat,a.2.2.1,a.2.2.2.1⟩
theorem spo_arg{a:SpoDen}(h:Ty.okD spoT a):(spoR a).ok/\spoD (spoR a)=ES spoT (show spoT.den from a):=by
 obtain⟨a1,a2,a3,a4,u⟩:=a;obtain⟨h1,h2,h3,_⟩:=h;obtain⟨m1,e1,g1⟩:=Qe h1;obtain⟨m2,e2,g2⟩:=Qe h2;simp only at e1 e2;subst e1 e2;have h3:=wf_i8 h3;exact⟨⟨g1,g2,h3.1,h3.2⟩,rfl⟩
theorem begins_law{l:List Q0}{w:SpoDen}{k:Int}(h:FX [.slice rawBT,spoT,.int .u8] (l,w,k,())):DK 5 (DA [.slice rawBT,spoT,.int .u8] (l,w,k,())) fun d=>d=.bool true:=by
 obtain⟨⟨h1,h1l⟩,h2,h3,_⟩:=h;obtain⟨n,e,hn⟩:=Qe h3;simp only at e;subst e;obtain⟨g1,g2⟩:=spo_arg h2;have:=d_begins (l:=l.map XW) (n:=n) (fun x hx=>by obtain⟨y,hy,rfl⟩:=List.mem_map.1 hx;exact eK (h1 y hy)) (by rw [List.length_map];exact Nat.lt_succ_of_le h1l) g1 hn;rw [eI h1,g2] at this;exact this
end Go.Ah
