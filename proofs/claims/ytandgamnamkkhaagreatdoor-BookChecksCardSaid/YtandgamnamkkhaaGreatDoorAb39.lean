/- -/
import Derived.Test.YtandgamnamkkhaaGreatDoorAb38
set_option linter.unusedSimpArgs false
set_option maxHeartbeats 32000000
set_option linter.unusedVariables false
set_option maxRecDepth 8000
namespace Go.Ah
open Go.Ab Go.Proofs
theorem ZS(l:List Blk):(l.flatMap yC).length=l.length*10:=zO (f:=yC) (e:=10) (fun _=>rfl) l
theorem kU{n:Int}(h:(Lit.int .u8 n).wf=true):Xv n:=by
 obtain⟨m,rfl,hm⟩:=Qe h;unfold Xv;omega
def oV:Ty:=.agg (.pair (.int .u8) (.pair (.int .u8) .unit))
def Eb:Ty:=.agg (.pair (.int .u8) (.pair (.int .u8) (.pair (.int .u8) (.pair (.int .u8) (.pair (.int .u8) (.pair (.int .u8) .unit))))))
def Af:Ty:=.agg (.pair (.int .u8) (.pair (.int .u8) (.pair (.slice oV) .unit)))
def Ad:Ty:=.agg (.pair (.int .u8) (.pair (.int .u8) (.pair (.int .u8) (.pair (.slice Eb) .unit))))
def rawBT:Ty:=.agg (.pair (.int .u8) (.pair (.int .u8) (.pair (.slice (.int .u8)) (.pair Af (.pair Ad .unit)))))
def sY(y:Int × Int × Int × Int × Int × Int × Unit):Rw:=⟨y.1,y.2.1,y.2.2.1,y.2.2.2.1,y.2.2.2.2.1,y.2.2.2.2.2.1⟩
def Ae(a:Int × Int × Int × List (Int × Int × Int × Int × Int × Int × Unit) × Unit):Raw:=⟨a.1,a.2.1,a.2.2.1,a.2.2.2.1.map sY⟩
def Ag(a:Int × Int × List (Int × Int × Unit) × Unit):RawF:=⟨a.1.toNat,a.2.1.toNat,a.2.2.1.map fun p=>(p.1.toNat,p.2.1.toNat)⟩
abbrev Q0:=Int × Int × List Int × (Int × Int × List (Int × Int × Unit) × Unit) × (Int × Int × Int × List (Int × Int × Int × Int × Int × Int × Unit) × Unit) × Unit
def XW(a:Q0):RawB:=⟨a.1.toNat,a.2.1.toNat,a.2.2.1.map Int.toNat,Ag a.2.2.2.1,Ae a.2.2.2.2.1⟩
theorem r4:∀l:List Int,(∀y,List.Mem y l->(Lit.int .u8 y).wf=true)->Zf (l.map Int.toNat)=List.flatMap (Ty.fd (.int .u8)) l
 |[],_=>rfl
 |y::l,h=>by
  obtain⟨m,rfl,_⟩:=Qe (h y (.head _));have ih:=r4 l fun z hz=>h z (.tail _ hz);show FD.c (.int .u8 (((m:Int).toNat:Nat):Int))::Zf (l.map Int.toNat)=_;rw [ih];rfl
theorem BB:∀l:List (Int × Int × Unit),(∀y,List.Mem y l->Ty.okD oV y)->(l.map fun p=>(p.1.toNat,p.2.1.toNat)).flatMap iG=List.flatMap (Ty.fd oV) l
 |[],_=>rfl
 |(y1,y2,u)::l,h=>by
  obtain⟨h1,h2,_⟩:=h _ (.head _);obtain⟨m1,e1,_⟩:=Qe h1;obtain⟨m2,e2,_⟩:=Qe h2;simp only at e1 e2;subst e1 e2;have ih:=BB l fun z hz=>h z (.tail _ hz);rw [List.map_cons,List.flatMap_cons,ih];rfl
theorem sZ:∀l:List (Int × Int × Int × Int × Int × Int × Unit),(l.map sY).flatMap vG=List.flatMap (Ty.fd Eb) l
 |[]=>rfl
 |y::l=>by rw [List.map_cons,List.flatMap_cons,sZ l];rfl
theorem eK{a:Q0}(h:Ty.okD rawBT a):(XW a).ok:=by
 obtain⟨h1,h2,⟨h3,h3l⟩,⟨f1,f2,⟨f3,f3l⟩,_⟩,⟨p1,p2,p3,⟨p4,p4l⟩,_⟩,_⟩:=h;have nat {n:Int} (h:(Lit.int .u8 n).wf=true):n.toNat<256:=by obtain⟨m,rfl,hm⟩:=Qe h;omega
 refine⟨nat h1,nat h2,fun v hv=>?_,?_,⟨nat f1,nat f2,fun q hq=>?_,?_⟩,⟨⟨kU p1,kU p2,kU p3⟩,fun r hr=>?_⟩,?_⟩
 ·obtain⟨y,hy,rfl⟩:=List.mem_map.1 hv;exact nat (h3 y hy)
 ·show (List.map Int.toNat a.2.2.1).length<_
  rw [List.length_map];exact Nat.lt_succ_of_le h3l
 ·obtain⟨y,hy,rfl⟩:=List.mem_map.1 hq;obtain⟨g1,g2,_⟩:=f3 y hy;exact⟨nat g1,nat g2⟩
 ·show (List.map _ a.2.2.2.1.2.2.1).length<_
  rw [List.length_map];exact Nat.lt_succ_of_le f3l
 ·obtain⟨y,hy,rfl⟩:=List.mem_map.1 hr;obtain⟨g1,g2,g3,g4,g5,g6,_⟩:=p4 y hy;exact⟨⟨kU g1,kU g2,kU g3⟩,kU g4,kU g5,kU g6⟩
 ·show (List.map sY a.2.2.2.2.1.2.2.2.1).length<_
  rw [List.length_map];exact Nat.lt_succ_of_le p4l
theorem B7{a:Q0}(h:Ty.okD rawBT a):Qh (XW a)=Ty.fd rawBT (show rawBT.den from a):=by
 obtain⟨a1,a2,t,⟨k,n,l,u1⟩,⟨w,hh,g,fs,u2⟩,u3⟩:=a;obtain⟨h1,h2,⟨h3,h3l⟩,⟨f1,f2,⟨f3,f3l⟩,_⟩,_,_⟩:=h;obtain⟨m1,e1,_⟩:=Qe h1;obtain⟨m2,e2,_⟩:=Qe h2;obtain⟨m3,e3,_⟩:=Qe f1;obtain⟨m4,e4,_⟩:=Qe f2;simp only at e1 e2 e3 e4;subst e1 e2 e3 e4;have q1:=r4 t h3;have q2:=BB l f3;have q3:=sZ fs;show [FD.c (.int .u8 _),.c (.int .u8 _),.sl 1 (t.map Int.toNat).length (Zf (t.map Int.toNat)),.c (.int .u8 _),.c (.int .u8 _),.sl 2 (l.map fun p=>(p.1.toNat,p.2.1.toNat)).length ((l.map fun p=>(p.1.toNat,p.2.1.toNat)).flatMap iG),.c (.int .u8 w),.c (.int .u8 hh),.c (.int .u8 g),.sl 6 (fs.map sY).length ((fs.map sY).flatMap vG)]=_;rw [q1,q2,q3,List.length_map,List.length_map,List.length_map];rfl
theorem eJ:∀l:List Q0,(∀y,List.Mem y l->Ty.okD rawBT y)->(l.map XW).flatMap Qh=List.flatMap (Ty.fd rawBT) l
 |[],_=>rfl
 |y::l,h=>by
  have ih:=eJ l fun z hz=>h z (.tail _ hz);rw [List.map_cons,List.flatMap_cons,ih,B7 (h y (.head _))];rfl
theorem eI{l:List Q0}(h:∀y,List.Mem y l->Ty.okD rawBT y):J0 (l.map XW)=ES (.slice rawBT) (show (Ty.slice rawBT).den from l):=by
 show DV.one (.f (.sl 10 (l.map XW).length ((l.map XW).flatMap Qh)))=_
 rw [eJ l h,List.length_map];rfl
theorem La(R:Blk->Bool):∀(l:List Blk) (prev page:Int) (i:Nat),
 (XF R prev page i l=(0,0)/\∀n,XF R prev page i (l.take n)=(0,0))\/
 ∃j,j<l.length/\XF R prev page i l=(((i+j:Nat):Int),170)/\XF R prev page i (l.take j)=(0,0)/\XF R prev page i (l.take (j+1))=(((i+j:Nat):Int),170)
 |[],prev,page,i=>.inl ⟨rfl,fun n=>by rw [List.take_nil];rfl⟩
 |b::l,prev,page,i=>by
  by_cases h1:R b=false
  ·have hs:∀r,XF R prev page i (b::r)=((i:Int),170):=fun r=>by rw [XF,if_pos h1]
   exact .inr ⟨0,Nat.succ_pos _,hs _,rfl,hs _⟩
  ·by_cases h2:b.kind=4/\(i=0\/prev≠1/\prev≠4)
   ·have hs:∀r,XF R prev page i (b::r)=((i:Int),170):=fun r=>by rw [XF,if_neg h1,if_pos h2]
    exact .inr ⟨0,Nat.succ_pos _,hs _,rfl,hs _⟩
   ·by_cases h3:b.kind=7/\b.page<=page
    ·have hs:∀r,XF R prev page i (b::r)=((i:Int),170):=fun r=>by rw [XF,if_neg h1,if_neg h2,if_pos h3]
     exact .inr ⟨0,Nat.succ_pos _,hs _,rfl,hs _⟩
    ·have hs:∀r,XF R prev page i (b::r)=XF R b.kind (if b.kind=7 then b.page else page) (i+1) r:=fun r=>by rw [XF,if_neg h1,if_neg h2,if_neg h3]
     rcases La R l b.kind (if b.kind=7 then b.page else page) (i+1) with⟨g1,g2⟩|⟨j,g1,g2,g3,g4⟩
     ·refine .inl ⟨by rw [hs];exact g1,fun n=>?_⟩;cases n with
      |zero=>rfl
      |succ n=>rw [List.take_succ_cons,hs];exact g2 n
     ·refine .inr ⟨j+1,Nat.succ_lt_succ g1,?_,?_,?_⟩
      ·rw [hs,g2,show i+1+j=i+(j+1) by omega]
      ·rw [List.take_succ_cons,hs,g3]
      ·rw [List.take_succ_cons,hs,g4,show i+1+j=i+(j+1) by omega]
theorem Iv(R:Blk->Bool){l:List Blk}(hl:l.length<=100):(jX R l=(0,0)/\∀n,kW R (l.take n)=true)\/
 ∃j:Nat,j<l.length/\jX R l=((j:Int),170)/\kW R (l.take j)=true/\kW R (l.take (j+1))=false:=by
 have ht (n:Nat):¬(l.take n).length>100:=by rw [List.length_take];omega
 unfold kW jX;rw [if_neg (by omega)];rcases La R l 0 0 0 with⟨h1,h2⟩|⟨j,h1,h2,h3,h4⟩
 ·exact .inl ⟨h1,fun n=>by rw [if_neg (ht n),h2];rfl⟩
 ·refine .inr ⟨j,h1,by rw [h2,Nat.zero_add],by rw [if_neg (ht j),h3];rfl,by rw [if_neg (ht _),h4];rfl⟩
theorem Iw{ms:List MB}(h:MOk ms)(hl:ms.length<=6)(n:Nat):kW tt ((ms.map MB.blk).take n)=true:=by
 have hlen:(ms.map MB.blk).length=ms.length:=List.length_map ..;have hp:∀n,n<=(ms.map MB.blk).length->∃page,At tt (ms.map MB.blk) n page/\(page=0\/∃k q,k<n/\(ms.map MB.blk)[k]?=some q/\q.kind=7/\page=q.page):=by
  intro n;induction n with
  |zero=>intro _;exact⟨0,At.zero tt _,.inl rfl⟩
  |succ n ih=>
   intro hn;obtain⟨page,h1,h2⟩:=ih oM;obtain⟨b,hb⟩:∃b,(ms.map MB.blk)[n]?=some b:=⟨_,zge oM⟩;have hg:(ms.map MB.blk).getD n dB=b:=by rw [List.getD_eq_getElem?_getD,hb];rfl
   have ho:=h.ok n oM;have hno:¬(b.kind=4/\(n=0\/((ms.map MB.blk).getD (n-1) dB).kind≠1/\((ms.map MB.blk).getD (n-1) dB).kind≠4)):=fun e=>eY (by omega) ho ⟨by rw [hg];exact e.1,e.2⟩;have hpg:¬(b.kind=7/\b.page<=page):=fun⟨e1,e2⟩=>by
    have h0:=bJ h (zmg hb) e1;rcases h2 with h2|⟨k,q,hk,hq,hq7,h2⟩
    ·omega
    ·have:=(ho b hb).2 e1 k q hk hq hq7;omega
   have hst:=h1.step hb rfl hno hpg;by_cases h7:b.kind=7
   ·rw [if_pos h7] at hst;exact⟨_,hst,.inr ⟨n,b,oM,hb,h7,rfl⟩⟩
   ·rw [if_neg h7] at hst;refine⟨_,hst,h2.imp_right fun⟨k,q,hk,hq⟩=>⟨k,q,oM,hq⟩⟩
 obtain⟨page,h1,_⟩:=hp _ (Nat.le_refl _);have hd:=h1.done;rcases Iv tt (l:=ms.map MB.blk) oM with⟨_,g⟩|⟨j,_,g,_⟩
 ·exact g n
 ·unfold jX at g;rw [if_neg (by omega),hd] at g;cases congrArg Prod.snd g
open Classical in
noncomputable def RB (b:Blk):Bool:=decide (DK 19 [vA b] fun d=>d=.bool true)
structure Spo where
 what:Nat
 at_:Nat
 n:Int
 s:ByteArray
structure Spo.ok (x:Spo):Prop where
 w:x.what<256
 a:x.at_<256
 n1: -128<=x.n
 n2:x.n<128
def Lx(x:Spo):List FD:=[.c (.int .u8 x.what),.c (.int .u8 x.at_),.c (.int .i8 x.n),.c (.str x.s)]
def Mv(x:Spo):DV:=.agg ((Lx x).map .f)
def Li(x:Spo)(b:Blk):Blk:=match x.what % 10 with
 |0=>{ b with kind:=x.n }
 |1=>{ b with level:=b.level+x.n }
 |2=>{ b with text:=x.s }
 |3=>{ b with page:=b.page+x.n }
 |4=>{ b with rows:=b.rows++[[x.s]] }
 |5=>{ b with f:=b.f++[(x.n,0)] }
 |6=>{ b with gap:=b.gap+x.n }
 |_=>b
def Hg(l:List Blk)(x:Spo):List Blk:=
 if l.length=0\/500<x.s.size then l++[{ dB with kind:=x.n }]
 else match x.what % 10 with
 |7=>l++[l.getD (x.at_ % l.length) dB]
 |8=>l.take (x.at_ % l.length)++l.drop (x.at_ % l.length+1)
 |9=>(l.set (x.at_ % l.length) (l.getD ((x.n % 256).toNat % l.length) dB)).set ((x.n % 256).toNat % l.length) (l.getD (x.at_ % l.length) dB)
 |_=>l.set (x.at_ % l.length) (Li x (l.getD (x.at_ % l.length) dB))
structure Sm (b:Blk):Prop where
 lv: -1000000<b.level/\b.level<1000000
 pg: -1000000<b.page/\b.page<1000000
 gp: -1000000<b.gap/\b.gap<1000000
 rw:b.rows.length<1000
 fl:b.f.length<1000
abbrev Hu(l:List Blk):FD:=.sl 10 l.length (l.flatMap yC)
theorem Im:∀l:List FD,qe NilF l l
 |[]=>trivial
 |x::l=>⟨.refl x,Im l⟩
abbrev Io(b:Blk)(r f:FD):List FD:=[FD.int b.kind,FD.int b.level,.c (.str b.text),r,f,FD.int b.w,FD.int b.h,FD.int b.gap,.sl 3 b.nf b.ff,FD.int b.page]
abbrev Ig(n:Int):List FD:=[FD.int n,FD.int 0,.c (.str ⟨#[]⟩),.c .nils,.c .nils,FD.int 0,FD.int 0,FD.int 0,.c .nils,FD.int 0]
theorem Iy(l:List Blk)(n:Int):NilF (.sl 10 (l.length+1) (l.flatMap yC++Ig n)) (Hu (l++[{ dB with kind:=n }])):=by
 unfold Hu;rw [List.flatMap_append,List.length_append];exact NilF.sl2 (iQ (Im _) ⟨.refl _,.refl _,.refl _,.nil 1,.nil 2,.refl _,.refl _,.refl _,.nil 3,.refl _,trivial⟩)
theorem Ij:∀(pre old cs rest:List FD),cs.length=old.length->setLs (pre++(old++rest)) pre.length cs=pre++(cs++rest)
 |_,[],[],_,_=>rfl
 |pre,o::old,c::cs,rest,h=>by
  have ih:=Ij (pre++[c]) old cs rest (by simpa using h);simp only [setLs];rw [List.set_append_right _ _ (Nat.le_refl _),Nat.sub_self];simpa using ih
theorem Lk{l:List Blk}{i:Nat}{b:Blk}(hb:l[i]?=some b)(y:Blk):setLs (l.flatMap yC) (i*10) (yC y)=(l.set i y).flatMap yC:=by
 obtain⟨hi,e⟩:=zgs hb;have h1:l=l.take i++b::l.drop (i+1):=by rw [<-e,<-List.drop_eq_getElem_cons hi,List.take_append_drop]
 have h2:l.set i y=l.take i++y::l.drop (i+1):=by rw [List.set_eq_take_append_cons_drop,if_pos hi]
 have h3:=Ij ((l.take i).flatMap yC) (yC b) (yC y) ((l.drop (i+1)).flatMap yC) rfl;rw [ZS,List.length_take,Nat.min_eq_left (Nat.le_of_lt hi)] at h3;rw [h2]
 conv=>lhs;rw [h1]
 rw [List.flatMap_append,List.flatMap_cons,List.flatMap_append,List.flatMap_cons];exact h3
theorem Hd{l:List Blk}{i:Nat}{b:Blk}(hb:l[i]?=some b)(y:Blk):QC (.data (l.flatMap yC)) (Int.toNat (i:Int)*10) ((yC y).map .f)=.data ((l.set i y).flatMap yC):=by
 rw [Int.toNat_natCast,<-Lk hb y];exact congrArg Bk.data rfl
theorem Lb{l:List Blk}{j n:Nat}(h:j+n<=l.length):qT (l.flatMap yC) (j*10) (n*10)=some (((l.drop j).take n).flatMap yC):=by
 have h1:=ZS l;have h2:=ZS (l.take j);have h3:=ZS ((l.drop j).take n);rw [List.length_take,Nat.min_eq_left (by omega)] at h2;rw [List.length_take,List.length_drop,Nat.min_eq_left (by omega)] at h3;rw [zw (by omega)]
 conv=>lhs;rw [<-List.take_append_drop j l,<-List.take_append_drop n (l.drop j)]
 rw [List.flatMap_append,List.flatMap_append,<-h2,List.drop_left,<-h3,List.take_left]
theorem Iz{l:List Blk}{x:Spo}(hx:x.ok)(hl:l.length<=100)(hb:∀b∈l,Sm b):DK 11 [jf l,Mv x] fun d=>∃d',d=.one (.f d')/\NilF d' (Hu (Hg l x)):=by
 have hfl:=ZS l;have hxn:IntKind.i64.wrap x.n=x.n:=qg (by have:=hx.n1;omega) (by have:=hx.n2;omega);refine qI fun Z0 lo=>?_;refine qa ?_;intros;refine qy (l':=[]) (m:=l.length) (q:=l.flatMap yC) rfl rfl rfl rfl ⟨rfl,rfl,rfl⟩ oM oM (by decide) rfl ?_;rw [show []++l.flatMap yC=l.flatMap yC from rfl,show 0+l.length=l.length from Nat.zero_add _];refine qa ?_;intros;by_cases hc:l.length=0\/500<x.s.size
 ·have hs:Hg l x=l++[{ dB with kind:=x.n }]:=if_pos hc
  rw [hs];have hfn:(l.flatMap yC++Ig x.n).length=(l.length+1)*10:=by rw [List.length_append,hfl];simp;omega
  by_cases h0:l.length=0
  ·have e0:((l.length:Int)==0)=true:=by rw [h0];rfl
   simp only [e0];refine qa ?_;intros;refine qb (t:=true) rfl (fun _=>?_) (fun h=>by cases h);refine qa ?_;intros;rw [hxn];refine qy (m:=1) (q:=Ig x.n) rfl rfl rfl (qp _ hfl) ⟨rfl,rfl,Ig x.n,rfl,rfl⟩ oM oM (by decide) rfl ?_;refine qa ?_;intros;refine qu (qf (k:=4) rfl (qw _)) (qf (k:=4) rfl (qw _)) ?_;refine qH 4 rfl qD qD ?_;exact qc ⟨_,rfl,rfl,_,rfl,Iy l x.n⟩
  ·have e0:((l.length:Int)==0)=false:=by rw [beq_eq_false_iff_ne];omega
   have e1:decide ((x.s.size:Int)>500)=true:=decide_eq_true oM;simp only [e0];refine qa ?_;intros;simp only [e1];refine qa ?_;intros;refine qb (t:=true) rfl (fun _=>?_) (fun h=>by cases h);refine qa ?_;intros;rw [hxn];refine qy (m:=1) (q:=Ig x.n) rfl rfl rfl (qp _ hfl) ⟨rfl,rfl,Ig x.n,rfl,rfl⟩ oM oM (by decide) rfl ?_;refine qa ?_;intros;refine qu (qf (k:=4) rfl (qw _)) (qf (k:=4) rfl (qw _)) ?_;refine qH 4 rfl qD qD ?_;exact qc ⟨_,rfl,rfl,_,rfl,Iy l x.n⟩
 ·have h0:l.length≠0:=fun h=>hc (.inl h);have h5:x.s.size<=500:=by omega
  have e0:((l.length:Int)==0)=false:=by rw [beq_eq_false_iff_ne];omega
  have e1:decide ((x.s.size:Int)>500)=false:=decide_eq_false oM;have hil:x.at_ % l.length<l.length:=Nat.mod_lt _ oM;obtain⟨b,hbi⟩:∃b,l[x.at_ % l.length]?=some b:=⟨_,zge hil⟩;have hsb:=kh hbi;have hgd:l.getD (x.at_ % l.length) dB=b:=by rw [List.getD_eq_getElem?_getD,hbi];rfl
  have hsm:=hb b (zmg hbi);have hj:(IntKind.i64.wrap (x.at_:Int)).tmod (l.length:Int)=((x.at_ % l.length:Nat):Int):=by rw [qg (by omega) (by have:=hx.a;omega)];exact (Int.ofNat_tmod _ _).symm
  have hs:Hg l x=_:=if_neg hc;rw [hs,hgd];simp only [e0];refine qa ?_;intros;simp only [e1];refine qa ?_;intros;refine qb (t:=false) rfl (fun h=>by cases h) (fun _=>?_);refine qa ?_;intros;refine XB rfl rfl oM ?_;rw [hj];generalize x.at_ % l.length=i at *;have hw:((x.what:Nat):Int).tmod 10=((x.what % 10:Nat):Int):=(Int.ofNat_tmod _ _).symm;have hc10:x.what % 10<10:=Nat.mod_lt _ (by decide);unfold Li;refine qa ?_;intros;rw [hw];generalize x.what % 10=c at *;have hle:Int.toNat (i:Int)*10+10<=(Bk.data (l.flatMap yC)).len:=by show _<=(l.flatMap yC).length;omega
  have hend (y:Blk):NilF (.sl 10 l.length ((l.set i y).flatMap yC)) (Hu (l.set i y)):=by unfold Hu;rw [List.length_set];exact .refl _
  rcases (show c=0\/c=1\/c=2\/c=3\/c=4\/c=5\/c=6\/c=7\/c=8\/c=9 by omega) with rfl|rfl|rfl|rfl|rfl|rfl|rfl|rfl|rfl|rfl
  ·refine qb (t:=true) rfl (fun _=>?_) (fun h=>by cases h);refine qa ?_;intros;rw [hxn];have hfs:=ZS (l.set i { b with kind:=x.n })
   rw [List.length_set] at hfs;refine vq (l:=(yC { b with kind:=x.n }).map .f) rfl rfl rfl rfl rfl hle rfl ?_
   rw [Hd hbi];refine qa ?_;intros;refine qu (qf (k:=4) rfl (qw _)) (qf (k:=2) rfl (qw _)) ?_;refine qH 2 rfl qD qD ?_;exact qc ⟨_,rfl,rfl,_,rfl,hend _⟩
  ·repeat (refine qb (t:=false) rfl (fun h=>by cases h) (fun _=>?_);refine qa ?_;intros)
   refine qb (t:=true) rfl (fun _=>?_) (fun h=>by cases h);refine qa ?_;intros;rw [hxn,qg (n:=b.level+x.n) (by have:=hsm.lv;have:=hx.n1;omega) (by have:=hsm.lv;have:=hx.n2;omega)];have hfs:=ZS (l.set i { b with level:=b.level+x.n })
   rw [List.length_set] at hfs;refine vq (l:=(yC { b with level:=b.level+x.n }).map .f) rfl rfl rfl rfl rfl hle rfl ?_
   rw [Hd hbi];refine qa ?_;intros;refine qu (qf (k:=4) rfl (qw _)) (qf (k:=2) rfl (qw _)) ?_;refine qH 2 rfl qD qD ?_;exact qc ⟨_,rfl,rfl,_,rfl,hend _⟩
  ·repeat (refine qb (t:=false) rfl (fun h=>by cases h) (fun _=>?_);refine qa ?_;intros)
   refine qb (t:=true) rfl (fun _=>?_) (fun h=>by cases h);refine qa ?_;intros;have hfs:=ZS (l.set i { b with text:=x.s })
   rw [List.length_set] at hfs;refine vq (l:=(yC { b with text:=x.s }).map .f) rfl rfl rfl rfl rfl hle rfl ?_
   rw [Hd hbi];refine qa ?_;intros;refine qu (qf (k:=4) rfl (qw _)) (qf (k:=2) rfl (qw _)) ?_;refine qH 2 rfl qD qD ?_;exact qc ⟨_,rfl,rfl,_,rfl,hend _⟩
  ·repeat (refine qb (t:=false) rfl (fun h=>by cases h) (fun _=>?_);refine qa ?_;intros)
   refine qb (t:=true) rfl (fun _=>?_) (fun h=>by cases h);refine qa ?_;intros;rw [hxn,qg (n:=b.page+x.n) (by have:=hsm.pg;have:=hx.n1;omega) (by have:=hsm.pg;have:=hx.n2;omega)];have hfs:=ZS (l.set i { b with page:=b.page+x.n })
   rw [List.length_set] at hfs;refine vq (l:=(yC { b with page:=b.page+x.n }).map .f) rfl rfl rfl rfl rfl hle rfl ?_
   rw [Hd hbi];refine qa ?_;intros;refine qu (qf (k:=4) rfl (qw _)) (qf (k:=2) rfl (qw _)) ?_;refine qH 2 rfl qD qD ?_;exact qc ⟨_,rfl,rfl,_,rfl,hend _⟩
  ·repeat (refine qb (t:=false) rfl (fun h=>by cases h) (fun _=>?_);refine qa ?_;intros)
   refine qb (t:=true) rfl (fun _=>?_) (fun h=>by cases h);have hrl:=hsm.rw;have hrd:FD.sl 1 (b.rows.length+1) (b.rows.map kw++[kw [x.s]])=Qg (b.rows++[[x.s]]):=by simp [Qg]
   have hrm:(b.rows.map kw++[kw [x.s]]).length=(b.rows.length+1)*1:=by simp
   refine qa ?_;intros;refine qy (l':=[]) (m:=b.rows.length) (q:=b.rows.map kw) rfl rfl rfl rfl ⟨rfl,rfl,rfl⟩ oM oM (by decide) rfl ?_;rw [show []++b.rows.map kw=b.rows.map kw from rfl,show 0+b.rows.length=b.rows.length from Nat.zero_add _]
   iterate 1 (first|(refine ZG rfl rfl ?_)|(refine ZH rfl rfl ?_)|(refine Yr rfl ?_)|(refine Ys rfl rfl ?_)|(refine Yt rfl rfl ?_)|(refine Wg rfl QF QF ?_)|(refine Vf rfl rfl ?_)|(refine Ve rfl rfl ?_)|(refine xT rfl ?_)|(refine jF rfl ?_)|(refine jt rfl ?_)|(refine cX rfl QF ?_)|(refine cY rfl QF ?_)|(refine Vh rfl rfl oM oM ?_)|(refine Vi rfl rfl oM oM ?_)|(refine Vg rfl rfl oM oM ?_)|(refine Vk rfl rfl oM (by decide) aM ?_)|(refine xU rfl rfl oM (by decide) aM ?_)|(refine jF (ja rfl rfl aM rfl) ?_)|(refine jt (ja rfl rfl aM rfl) ?_)|(refine jF (y8 rfl rfl aM) ?_)|(refine jt (y8 rfl rfl aM) ?_)|(refine jF (y9 rfl rfl aM aM) ?_)|(refine jt (y9 rfl rfl aM aM) ?_)|(refine Qz rfl ?_)|(refine cZ rfl rfl rfl ?_)|(refine vq rfl rfl rfl rfl rfl (Nat.le_of_ble_eq_true rfl) rfl ?_)|(refine zE ?_)|(refine yB ?_)|(refine yq wq (fun base=>?_))|(refine ZJ ?_)|(refine XD ?_)|(refine ya ?_))
   refine JB 6 rfl qD qD ?_;refine qa ?_;intros;refine qy (l':=b.rows.map kw) (m:=1) (q:=[kw [x.s]]) rfl rfl rfl (qp _ (by simp)) ⟨rfl,rfl,_,rfl,rfl⟩ (by omega) (by omega) (by decide) rfl ?_;refine JB 8 rfl qD qD ?_;refine qa ?_;intros;refine vq (x:=.data (l.flatMap yC)) (l:=(Io b (FD.sl 1 (b.rows.length+1) (b.rows.map kw++[kw [x.s]])) (pK b.f)).map .f) rfl rfl rfl rfl rfl hle rfl ?_;rw [hrd,show QC (.data (l.flatMap yC)) (Int.toNat (i:Int)*10) ((Io b (Qg (b.rows++[[x.s]])) (pK b.f)).map .f)=_ from Hd hbi { b with rows:=b.rows++[[x.s]] }]
   have hfs:=ZS (l.set i { b with rows:=b.rows++[[x.s]] })
   rw [List.length_set] at hfs;refine qa ?_;intros;refine qu (qf (k:=4) rfl (qw _)) (qf (k:=2) rfl (qw _)) ?_;refine qH 2 rfl qD qD ?_;exact qc ⟨_,rfl,rfl,_,rfl,hend _⟩
  ·repeat (refine qb (t:=false) rfl (fun h=>by cases h) (fun _=>?_);refine qa ?_;intros)
   refine qb (t:=true) rfl (fun _=>?_) (fun h=>by cases h);have hrl:=hsm.fl;have hnl:(b.f.flatMap jP).length=b.f.length*2:=zO (f:=jP) (e:=2) (fun _=>rfl) _;have hrm:(b.f.flatMap jP++jP (x.n,0)).length=(b.f.length+1)*2:=by rw [List.length_append,hnl];show _+2=_;omega
   have hrd:FD.sl 2 (b.f.length+1) (b.f.flatMap jP++jP (x.n,0))=pK (b.f++[(x.n,0)]):=by simp [pK]
   refine qa ?_;intros;refine qy (l':=[]) (m:=b.f.length) (q:=b.f.flatMap jP) rfl rfl rfl rfl ⟨rfl,rfl,rfl⟩ oM oM (by decide) rfl ?_;rw [show []++b.f.flatMap jP=b.f.flatMap jP from rfl,show 0+b.f.length=b.f.length from Nat.zero_add _];refine qa ?_;intros;rw [hxn];refine qy (l':=b.f.flatMap jP) (m:=1) (q:=jP (x.n,0)) rfl rfl rfl (qp _ hnl) ⟨rfl,rfl,_,rfl,rfl⟩ oM oM (by decide) rfl ?_;refine JB 7 rfl qD qD ?_;refine qa ?_;intros;refine vq (x:=.data (l.flatMap yC)) (l:=(Io b (Qg b.rows) (FD.sl 2 (b.f.length+1) (b.f.flatMap jP++jP (x.n,0)))).map .f) rfl rfl rfl rfl rfl hle rfl ?_;rw [hrd,show QC (.data (l.flatMap yC)) (Int.toNat (i:Int)*10) ((Io b (Qg b.rows) (pK (b.f++[(x.n,0)]))).map .f)=_ from Hd hbi { b with f:=b.f++[(x.n,0)] }]
   have hfs:=ZS (l.set i { b with f:=b.f++[(x.n,0)] })
   rw [List.length_set] at hfs;refine qa ?_;intros;refine qu (qf (k:=4) rfl (qw _)) (qf (k:=2) rfl (qw _)) ?_;refine qH 2 rfl qD qD ?_;exact qc ⟨_,rfl,rfl,_,rfl,hend _⟩
  ·repeat (refine qb (t:=false) rfl (fun h=>by cases h) (fun _=>?_);refine qa ?_;intros)
   refine qb (t:=true) rfl (fun _=>?_) (fun h=>by cases h);refine qa ?_;intros;rw [hxn,qg (n:=b.gap+x.n) (by have:=hsm.gp;have:=hx.n1;omega) (by have:=hsm.gp;have:=hx.n2;omega)];have hfs:=ZS (l.set i { b with gap:=b.gap+x.n })
   rw [List.length_set] at hfs;refine vq (l:=(yC { b with gap:=b.gap+x.n }).map .f) rfl rfl rfl rfl rfl hle rfl ?_
   rw [Hd hbi];refine qa ?_;intros;refine qu (qf (k:=4) rfl (qw _)) (qf (k:=2) rfl (qw _)) ?_;refine qH 2 rfl qD qD ?_;exact qc ⟨_,rfl,rfl,_,rfl,hend _⟩
  ·repeat (refine qb (t:=false) rfl (fun h=>by cases h) (fun _=>?_);refine qa ?_;intros)
   refine qb (t:=true) rfl (fun _=>?_) (fun h=>by cases h);have hfs:(l.flatMap yC++yC b).length=(l.length+1)*10:=by rw [List.length_append,hfl];show _+10=_;omega
   refine qa ?_;intros;refine qy (l:=l.flatMap yC) (m:=1) (q:=yC b) rfl rfl rfl (qp _ hfl) ⟨rfl,rfl,_,rfl,rfl⟩ oM oM (by decide) rfl ?_;refine qa ?_;intros;refine qu (qf (k:=4) rfl (qw _)) (qf (k:=5) rfl (qw _)) ?_;refine qH 5 rfl qD qD ?_;refine qc ⟨_,rfl,rfl,_,rfl,?_⟩;show NilF _ (Hu (l++[b]));unfold Hu;rw [List.length_append,List.flatMap_append,List.flatMap_cons,List.flatMap_nil,List.append_nil];exact .refl _
  ·repeat (refine qb (t:=false) rfl (fun h=>by cases h) (fun _=>?_);refine qa ?_;intros)
   refine qb (t:=true) rfl (fun _=>?_) (fun h=>by cases h);have hw1:IntKind.i64.wrap ((i:Int)+1)=((i+1:Nat):Int):=by rw [qg (by omega) (by omega)];omega
   have hq1:=Lb (l:=l) (j:=0) (n:=i) oM;have hq2:=Lb (l:=l) (j:=i+1) (n:=l.length-(i+1)) oM;rw [Nat.zero_mul,List.drop_zero] at hq1;rw [List.take_of_length_le (by rw [List.length_drop];omega)] at hq2;have hfs:=ZS (l.take i++l.drop (i+1));have hll:(l.take i++l.drop (i+1)).length=i+(l.length-(i+1)):=by rw [List.length_append,List.length_take,List.length_drop];omega
   rw [hll,List.flatMap_append] at hfs;refine qa ?_;intros;refine XA (l:=0) (h:=i) (o':=0) (n':=i) rfl rfl rfl oM oM oM oM ?_;refine qa ?_;intros;rw [hw1];refine XA (l:=i+1) (h:=l.length) (o':=(i+1)*10) (n':=l.length-(i+1)) rfl rfl rfl oM oM oM oM ?_;refine qa ?_;intros;refine qy (l':=(l.take i).flatMap yC) (m:=l.length-(i+1)) (q:=(l.drop (i+1)).flatMap yC) rfl rfl rfl hq1 ⟨rfl,rfl,_,rfl,hq2⟩ oM oM (by decide) rfl ?_;refine qa ?_;intros;refine qu (qf (k:=4) rfl (qw _)) (qf (k:=4) rfl (qw _)) ?_;refine qH 4 rfl qD qD ?_;refine qc ⟨_,rfl,rfl,_,rfl,?_⟩;show NilF _ (Hu (l.take i++l.drop (i+1)));unfold Hu;rw [hll,List.flatMap_append];exact .refl _
  ·repeat (refine qb (t:=false) rfl (fun h=>by cases h) (fun _=>?_);refine qa ?_;intros)
   have hj2:(IntKind.i64.wrap (IntKind.u8.wrap x.n)).tmod (l.length:Int)=(((x.n % 256).toNat % l.length:Nat):Int):=by
    rw [show IntKind.u8.wrap x.n=x.n % 256 from rfl,qg (by omega) (by omega)]
    conv=>lhs;rw [show x.n % 256=(((x.n % 256).toNat:Nat):Int) by omega]
    exact (Int.ofNat_tmod _ _).symm
   have hkl:(x.n % 256).toNat % l.length<l.length:=Nat.mod_lt _ oM;refine XB rfl rfl oM ?_;rw [hj2];generalize (x.n % 256).toNat % l.length=k at *;obtain⟨b2,hb2⟩:∃b,l[k]?=some b:=⟨_,zge hkl⟩;have hsb2:=kh hb2;have hgd2:l.getD k dB=b2:=by rw [List.getD_eq_getElem?_getD,hb2];rfl
   obtain⟨b3,hb3⟩:∃b,(l.set i b2)[k]?=some b:=⟨_,zge (by rw [List.length_set];exact hkl)⟩;have hfs:=ZS ((l.set i b2).set k b);rw [List.length_set,List.length_set] at hfs;have hfs2:=ZS (l.set i b2);rw [List.length_set] at hfs2;refine qa ?_;intros;refine vq (x:=.data (l.flatMap yC)) (l:=(yC b2).map .f) rfl rfl rfl rfl rfl hle rfl ?_;rw [Hd hbi];refine qa ?_;intros;refine vq (x:=.data ((l.set i b2).flatMap yC)) (l:=(yC b).map .f) rfl rfl rfl rfl rfl (by show _<=((l.set i b2).flatMap yC).length;omega) rfl ?_;rw [Hd hb3];refine qa ?_;intros;refine qu (qf (k:=4) rfl (qw _)) (qf (k:=2) rfl (qw _)) ?_;refine qH 2 rfl qD qD ?_;refine qc ⟨_,rfl,rfl,_,rfl,?_⟩;rw [hgd2];show NilF _ (Hu ((l.set i b2).set k b));unfold Hu;rw [List.length_set,List.length_set];exact .refl _
theorem Lr{b:Blk}{v:Bool}(hk:b.kind=5)(hv:DK 38 [xX b.f] fun d=>d=.bool v):DK 19 [vA b] fun d=>d=.bool (v&&yp { b with f:=[] }):=by
 obtain⟨kind,level,text,rows,f,w,h,gap,nf,ff,page⟩:=b;simp only at hk hv;subst hk;refine qI fun Z0 lo=>?_;refine qa ?_;intros
 repeat (first|(refine qb (t:=false) rfl (fun h=>by cases h) (fun _=>?_);refine qa ?_;intros)|(refine qb (t:=true) rfl (fun _=>?_) (fun h=>by cases h);refine qa ?_;intros))
 refine qj rfl rfl hv ?_;rintro _ rfl;cases v
 ·refine qa ?_;intros;exact qc ⟨_,rfl,rfl,rfl⟩
 ·refine qa ?_;intros;refine qj rfl rfl (Kg (b:=⟨5,level,text,rows,[],w,h,gap,nf,ff,page⟩) ⟨.inl rfl,.inl rfl,.inl rfl,.inl rfl,.inr ⟨rfl,2,rfl⟩,.inl rfl,.inl rfl,.inl rfl,.inl rfl,.inl rfl,trivial⟩) ?_;rintro _ rfl;refine qa ?_;intros;exact qc ⟨_,rfl,rfl,by rw [Bool.true_and]⟩
theorem Mc{b:Blk}(hk:b.kind<1\/7<b.kind):DK 19 [vA b] fun d=>d=.bool false:=by
 have k1:decide (b.kind=1)=false:=decide_eq_false oM;have k2:decide (b.kind=2)=false:=decide_eq_false oM;have k3:decide (b.kind=3)=false:=decide_eq_false oM;have k4:decide (b.kind=4)=false:=decide_eq_false oM;have k5:decide (b.kind=5)=false:=decide_eq_false oM;have k6:decide (b.kind=6)=false:=decide_eq_false oM;have k7:decide (b.kind=7)=false:=decide_eq_false oM;obtain⟨kind,level,text,rows,f,w,h,gap,nf,ff,page⟩:=b;simp only at *;refine qI fun Z0 lo=>?_;refine qa ?_;intros
 repeat (refine qb (t:=false) (congrArg (fun z=>some (DV.bool z)) aM) (fun h=>by cases h) (fun _=>?_);refine qa ?_;intros)
 exact qc ⟨_,rfl,rfl,rfl⟩
open Classical in
theorem Ms{p:Pic}(hF:Zr p)(hw:iV p):DK 39 [yz p] fun d=>d=.bool (decide (rO p)):=by
 refine qI fun Z0 lo=>?_;refine qa ?_;intros;refine qj rfl rfl (A5 hF hw) ?_;rintro _ ⟨r,hr,rfl⟩;obtain⟨r1,r2,r3⟩:=r;refine qa ?_;intros;refine qb (t:=(r3 !=0)) rfl (fun h1=>?_) (fun h1=>?_)
 ·have h1:r3≠0:=by simpa using h1
  refine qa ?_;intros;exact qc ⟨_,rfl,rfl,by rw [decide_eq_false fun hd:rO p=>h1 (congrArg (fun z:BQ=>z.2.2) (hr.uniq hd.1))]⟩
 ·have h1:r3=0:=by simpa using h1
  obtain⟨e,hv⟩:=hr.zero h1;rw [e] at hr;refine qa ?_;intros;refine qj rfl rfl (D3 hF hw) ?_;rintro _ ⟨q,hq,_,rfl⟩;have hz:=hq hv;obtain⟨q1,q2,q3⟩:=q;refine qa ?_;intros;refine qc ⟨_,rfl,rfl,congrArg (fun z=>DV.bool z) ?_⟩;by_cases h0:q3=0
  ·subst h0;have hd:rO p:=⟨hr,_,hz,rfl⟩;exact (decide_eq_true hd).symm
  ·rw [decide_eq_false fun⟨_,r',hr',h'⟩=>h0 (hr'.zero hz h')];simpa using h0
theorem Hs{f:List (Int × Int)}{e d:Int}{ok:Bool}(hm:f.length<=60->DK 101 [xX f,.int (0:Nat)] fun r=>r=.tup [.int e,.int d,.bool ok])(hbad:ok=false\/e≠f.length):DK 38 [xX f] fun r=>r=.bool false:=by
 have h73:DK 73 [xX f] fun r=>r=.int 0:=by
  refine qI fun Z0 lo=>?_;refine qa ?_;intros;refine qb (t:=decide ((f.length:Int)>60)) rfl (fun h=>?_) (fun h=>?_)
  ·refine qa ?_;intros;exact qc ⟨_,rfl,rfl,rfl⟩
  ·have h:=qQ h;refine qa ?_;intros;refine qj rfl rfl (hm oM) ?_;rintro _ rfl;cases ok with
   |false=>
    refine qa ?_;intros;refine qb (t:=true) rfl (fun _=>?_) (fun h=>by cases h);refine qa ?_;intros;exact qc ⟨_,rfl,rfl,rfl⟩
   |true=>
    have e1:(e !=(f.length:Int))=true:=by
     rcases hbad with h|h;· cases h
     ·simpa using h
    refine qa ?_;intros;simp only [e1];refine qa ?_;intros;refine qb (t:=true) rfl (fun _=>?_) (fun h=>by cases h);refine qa ?_;intros;exact qc ⟨_,rfl,rfl,rfl⟩
 refine qI fun Z0 lo=>?_;refine qa ?_;intros;refine qj rfl rfl h73 ?_;rintro _ rfl;refine qa ?_;intros;exact qc ⟨_,rfl,rfl,rfl⟩
theorem Lv:DK 38 [xX []] fun r=>r=.bool false:=by
 refine Hs (e:=0) (d:=0) (ok:=false) (fun _=>?_) (.inl rfl);refine qI fun Z0 lo=>?_;refine qa ?_;intros;refine qb (t:=true) rfl (fun _=>?_) (fun h=>by cases h);refine qa ?_;intros;exact qc ⟨_,rfl,rfl,rfl⟩
theorem He(g:Int):Zr ⟨0,0,g,[]⟩/\iV ⟨0,0,g,[]⟩:=⟨⟨Nat.zero_lt_succ _,fun f hf=>by cases hf⟩,fun f hf=>by cases hf⟩
theorem Lo{m:MB}(h:m.good):m.blk.rows.length<=3/\∀r∈m.blk.rows,r.length<=3:=by
 cases m with
 |tab rows=>
  obtain⟨_,h2,c,_,h4,h5⟩:=h;exact⟨h2,fun r hr=>by have:=(h5 r hr).1;omega⟩
 |text note s=>exact⟨Nat.zero_le _,fun r hr=>by cases hr⟩
 |head lv s=>exact⟨Nat.zero_le _,fun r hr=>by cases hr⟩
 |math t=>exact⟨Nat.zero_le _,fun r hr=>by cases hr⟩
 |map p=>exact⟨Nat.zero_le _,fun r hr=>by cases hr⟩
 |ink page=>exact⟨Nat.zero_le _,fun r hr=>by cases hr⟩
theorem Ma{m:MB}(h:m.good)(g:Int):∃p:Pic,Zr p/\iV p/\yz p=.agg [.f (FD.int m.blk.w),.f (FD.int m.blk.h),.f (FD.int g),.f (.sl 3 m.blk.nf m.blk.ff)]:=by
 cases m with
 |map p=>exact⟨{ p with gap:=g },h.1,h.2.1,rfl⟩
 |math t=>exact⟨⟨0,0,g,[]⟩,(He g).1,(He g).2,rfl⟩
 |tab rows=>exact⟨⟨0,0,g,[]⟩,(He g).1,(He g).2,rfl⟩
 |text note s=>exact⟨⟨0,0,g,[]⟩,(He g).1,(He g).2,rfl⟩
 |head lv s=>exact⟨⟨0,0,g,[]⟩,(He g).1,(He g).2,rfl⟩
 |ink page=>exact⟨⟨0,0,g,[]⟩,(He g).1,(He g).2,rfl⟩
theorem Lu{f:FuncId}{ds:List DV}{e:FD}(h:DK f ds fun d=>∃d',d=.one (.f d')/\NilF d' e):DK f ds fun d=>d=.one (.f e):=fun H Z args hw hz hg ha=>(h H Z args hw hz hg ha).mono fun v H' ⟨a1,a2,a3,d,hd,d',e1,hn⟩=>by
 subst e1;obtain⟨c,e2,hc⟩:=hd;exact⟨a1,a2,a3,.one (.f e),⟨c,e2,hn.ok hc⟩,rfl⟩
theorem Ii(l:List Blk)(x:Spo):(Hg l x).length<=l.length+1:=by
 unfold Hg;split
 ·simp
 ·split
  ·simp
  ·rw [List.length_append,List.length_take,List.length_drop];omega
  ·rw [List.length_set,List.length_set];omega
  ·rw [List.length_set];omega
theorem Ng{n:Int}(h:(Lit.int .i8 n).wf=true): -128<=n/\n<128:=by
 simp [Lit.wf,IntKind.min,IntKind.max,IntKind.signed,IntKind.bits] at h;omega
def Is:Ty:=.agg (.pair (.int .u8) (.pair (.int .u8) (.pair (.int .i8) (.pair .str .unit))))
abbrev Id:=Int × Int × Int × ByteArray × Unit
def Lc(a:Id):Spo:=⟨a.1.toNat,a.2.1.toNat,a.2.2.1,a.2.2.2.1⟩
theorem Ix{a:Id}(h:Ty.okD Is a):(Lc a).ok/\Mv (Lc a)=ES Is (show Is.den from a):=by
 obtain⟨a1,a2,a3,a4,u⟩:=a;obtain⟨h1,h2,h3,_⟩:=h;obtain⟨m1,e1,g1⟩:=Qe h1;obtain⟨m2,e2,g2⟩:=Qe h2;simp only at e1 e2;subst e1 e2;have h3:=Ng h3;exact⟨⟨g1,g2,h3.1,h3.2⟩,rfl⟩
theorem Mq{f:FuncId}{ds:List DV}{R R':DV->Prop}(h:DK f ds R)(hr:∀d,R d->R' d):DK f ds R':=fun H Z args h1 h2 h3 h4=>(h H Z args h1 h2 h3 h4).mono fun _ _ ⟨g1,g2,g3,d,g4,g5⟩=>⟨g1,g2,g3,d,g4,hr d g5⟩
theorem Mt:((List.range 256).all fun n=>match vo tabS tabE 100 182 [.one (.int .i64 ((n:Int)-128))] HS with
 |some (.one (.int .i64 c))=>decide (c=km ((n:Int)-128))
 |_=>false)=true:=by kernel_rfl
theorem Mr{op:Int}(h: -128<=op/\op<128):DK 182 [.int op] fun d=>d=.int (km op):=by
 obtain⟨n,hn⟩:∃n:Nat,op=(n:Int)-128:=⟨(op+128).toNat,oM⟩;have h1:=List.all_eq_true.1 Mt n (List.mem_range.2 oM);rw [hn];split at h1
 ·rename_i c hc;have:=qG h1;subst this;exact QQ (vs:=[.one (.int .i64 ((n:Int)-128))]) ⟨rfl,trivial⟩ rfl rfl hc
 ·cases h1
theorem Lw{op n k c m:Int}(ho:0<=op/\op<=13)(hc: -128<=c/\c<128):DK 139 [wd op n,.int k,wd c m] fun d=>∃v:Bool,d=.bool v:=by
 by_cases h:2<=op/\op<=5
 ·have hp:=Mr hc;have hq:=AV (op:=op) ho;have e:op=2\/op=3\/op=4\/op=5:=by omega
  rcases e with rfl|rfl|rfl|rfl
  all_goals
   refine qI fun Z0 lo=>?_;refine qa ?_;intros
   repeat (first|(refine qb (t:=false) rfl (fun h=>by cases h) (fun _=>?_);refine qa ?_;intros)|(refine qb (t:=true) rfl (fun _=>?_) (fun h=>by cases h);refine qa ?_;intros))
   refine qb (t:=decide (k=0)) rfl (fun hk=>?_) (fun hk=>?_)
   all_goals
    refine qa ?_;intros;refine qj rfl rfl hp ?_;rintro _ rfl;refine qa ?_;intros;refine qj rfl rfl hq ?_;rintro _ rfl;refine qa ?_;intros;exact qc ⟨_,rfl,rfl,_,rfl⟩
 ·exact Mq (UD oM) fun d hd=>⟨_,hd⟩
inductive CBZq (f:List (Int × Int)):Nat->Nat->Nat->Prop where
 |stop {j k at_:Nat}:j<k->f.length<=at_->CBZq f j k at_
 |bad {j k at_:Nat} {c m:Int}:j<k->f[at_]?=some (c,m)-> -128<=c/\c<128->DK 101 [xX f,.int at_] (fun r=>r=.tup [.int 0,.int 0,.bool false])->CBZq f j k at_
 |next {j k at_ e1:Nat} {c m d:Int}:j<k->f[at_]?=some (c,m)-> -128<=c/\c<128->DK 101 [xX f,.int at_] (fun r=>r=.tup [.int e1,.int d,.bool true])->e1<1000->CBZq f (j+1) k e1->CBZq f j k at_
theorem CBZq.inv{f:List (Int × Int)}{j k at_:Nat}(h:CBZq f j k at_):j<k/\(f.length<=at_\/∃c m:Int,f[at_]?=some (c,m)/\(-128<=c/\c<128)/\
 (DK 101 [xX f,.int at_] (fun r=>r=.tup [.int 0,.int 0,.bool false])\/∃(e1:Nat) (d:Int),DK 101 [xX f,.int at_] (fun r=>r=.tup [.int e1,.int d,.bool true])/\e1<1000/\CBZq f (j+1) k e1)):=by
 cases h with
 |stop h1 h2=>exact⟨h1,.inl h2⟩
 |bad h1 h2 h3 h4=>exact⟨h1,.inr ⟨_,_,h2,h3,.inl h4⟩⟩
 |next h1 h2 h3 h4 h5 h6=>exact⟨h1,.inr ⟨_,_,h2,h3,.inr ⟨_,_,h4,h5,h6⟩⟩⟩
theorem Hm{f:List (Int × Int)}{i k:Nat}{op n:Int}(hf:f.length<1000)(hi:f[i]?=some (op,n))(ho:0<=op/\op<=13)(hn:0<=n/\n<=1000000)(ha:yr op n=((k:Int),true))(hk:k<100)(hc:CBZq f 0 k (i+1)):
 DK 101 [xX f,.int i] fun r=>r=.tup [.int 0,.int 0,.bool false]:=by
 have hil:i<f.length:=(zgs hi).1;have hsi:=j3 hi;have har:=L5 ho hn;rw [ha] at har;refine qI fun Z0 lo=>?_;refine qa ?_;intros;refine qb (t:=false) (congrArg (fun z=>some (DV.bool z)) (decide_eq_false (show¬(i:Int)>=f.length by omega))) (fun h=>by cases h) (fun _=>?_);refine qa ?_;intros;refine qj rfl rfl har ?_;rintro _ rfl;refine qa ?_;intros;refine qb (t:=false) rfl (fun h=>by cases h) (fun _=>?_);refine qa ?_;intros;refine qm (fun m E S nk=>∃(j at_:Nat) (dd:Int),j+m=k/\CBZq f j k at_/\at_<1001/\E=[(0,xX f),(1,.int i),(9,.int at_),(10,.int dd),(31,.int k),(32,.int j)]/\S=[]/\nk=0)
  ⟨k,_,_,_,[],?wk,0,i+1,1,oM,hc,oM,rfl,rfl,rfl⟩ ?_
 case wk=>exact ql
 rintro m E S nk ⟨j,at_,dd,hj,hch,hat,rfl,rfl,rfl⟩;obtain⟨hjk,hch⟩:=hch.inv;refine qa ?_;intros;refine qb rfl (fun hj2=>?_) (fun hj2=>?_)
 ·rcases hch with h1|⟨c,mm,h2,h3,h4⟩
  ·have e39:decide ((at_:Int)>=f.length)=true:=decide_eq_true oM;refine qa ?_;intros;simp only [e39];refine qa ?_;intros;refine qb (t:=true) rfl (fun _=>?_) (fun h=>by cases h);refine qa ?_;intros;exact qc ⟨_,rfl,rfl,rfl⟩
  ·have hal:at_<f.length:=(zgs h2).1;have hsa:=j3 h2;have e39:decide ((at_:Int)>=f.length)=false:=decide_eq_false oM;refine qa ?_;intros;simp only [e39];refine qa ?_;intros;refine qj rfl rfl (Lw ho h3) ?_;rintro _ ⟨v,rfl⟩;cases v with
   |false=>
    refine qa ?_;intros;refine qb (t:=true) rfl (fun _=>?_) (fun h=>by cases h);refine qa ?_;intros;exact qc ⟨_,rfl,rfl,rfl⟩
   |true=>
    refine qa ?_;intros;refine qb (t:=false) rfl (fun h=>by cases h) (fun _=>?_);refine qa ?_;intros;rcases h4 with h4|⟨e1,d1,h4,h5,h6⟩
    ·refine qj rfl rfl h4 ?_;rintro _ rfl;refine qa ?_;intros;refine qb (t:=true) rfl (fun _=>?_) (fun h=>by cases h);refine qa ?_;intros;exact qc ⟨_,rfl,rfl,rfl⟩
    ·refine qj rfl rfl h4 ?_;rintro _ rfl;refine qa ?_;intros;refine qb (t:=false) rfl (fun h=>by cases h) (fun _=>?_);refine qa ?_;intros;refine⟨m-1,oM,_,_,_,[],?wk,j+1,e1,max dd (IntKind.i64.wrap (d1+1)),oM,h6,oM,rfl,rfl,rfl⟩
     case wk=>exact ql
 ·have hj2:=qQ hj2;omega
theorem Nj{op n:Int}(ho:op<0\/13<op):DK 88 [wd op n] fun d=>d=.tup [.int 0,.bool false]:=by
 have k0:decide (op=0)=false:=decide_eq_false oM;have k1:decide (op=1)=false:=decide_eq_false oM;have k2:decide (op=2)=false:=decide_eq_false oM;have k3:decide (op=3)=false:=decide_eq_false oM;have k4:decide (op=4)=false:=decide_eq_false oM;have k5:decide (op=5)=false:=decide_eq_false oM;have k6:decide (op=6)=false:=decide_eq_false oM;have k7:decide (op=7)=false:=decide_eq_false oM;have k8:decide (op=8)=false:=decide_eq_false oM;have k9:decide (op=9)=false:=decide_eq_false oM;have k10:decide (op=10)=false:=decide_eq_false oM;have k11:decide (op=11)=false:=decide_eq_false oM;have k12:decide (op=12)=false:=decide_eq_false oM;have k13:decide (op=13)=false:=decide_eq_false oM;refine qI fun Z0 lo=>?_;refine qa ?_;intros
 repeat (refine qb (t:=false) (congrArg (fun z=>some (DV.bool z)) aM) (fun h=>by cases h) (fun _=>?_);refine qa ?_;intros)
 exact qc ⟨_,rfl,rfl,rfl⟩
theorem Me{op:Int}:DK 88 [wd op 0] fun d=>d=.tup [.int (yr op 0).1,.bool (yr op 0).2]:=by
 by_cases ho:0<=op/\op<=13
 ·exact L5 ho (by decide)
 ·have e:yr op 0=(0,false):=by
   unfold yr;rw [if_neg (by omega),if_neg (by omega),if_neg (by omega),if_neg (by omega),if_neg (by omega),if_neg (by omega)]
  rw [e];exact Nj oM
theorem Hl{f:List (Int × Int)}{i:Nat}{op:Int}(hf:f.length<1000)(hi:f[i]?=some (op,0))(ha:(yr op 0).2=false):DK 101 [xX f,.int i] fun r=>r=.tup [.int 0,.int 0,.bool false]:=by
 have hil:i<f.length:=(zgs hi).1;have hsi:=j3 hi;have har:=Me (op:=op);rw [ha] at har;refine qI fun Z0 lo=>?_;refine qa ?_;intros;refine qb (t:=false) (congrArg (fun z=>some (DV.bool z)) (decide_eq_false (show¬(i:Int)>=f.length by omega))) (fun h=>by cases h) (fun _=>?_);refine qa ?_;intros;refine qj rfl rfl har ?_;rintro _ rfl;refine qa ?_;intros;refine qb (t:=true) rfl (fun _=>?_) (fun h=>by cases h);refine qa ?_;intros;exact qc ⟨_,rfl,rfl,rfl⟩
def rz(op:Int):Int:=if (yr op 0).2=true then (yr op 0).1 else -1
theorem Mu:((List.range 256).all fun n=>match vo tabS tabE 200 156 [.agg [.int .i64 ((n:Int)-128),.int .i64 0]] HS with
 |some (.one (.int .i64 c))=>decide (c=rz ((n:Int)-128))
 |_=>false)=true:=by kernel_rfl
theorem Nd{op:Int}(h: -128<=op/\op<128):DK 156 [wd op 0] fun d=>d=.int (rz op):=by
 obtain⟨n,hn⟩:∃n:Nat,op=(n:Int)-128:=⟨(op+128).toNat,oM⟩;have h1:=List.all_eq_true.1 Mu n (List.mem_range.2 oM);rw [hn];split at h1
 ·rename_i c hc;have:=qG h1;subst this;exact QQ (vs:=[.agg [.int .i64 ((n:Int)-128),.int .i64 0]]) ⟨rfl,trivial⟩ rfl rfl hc
 ·cases h1
theorem Nh(op:Int): -1<=rz op/\rz op<=2:=by
 unfold rz yr;by_cases h0:op=0
 ·rw [if_pos h0];decide
 ·rw [if_neg h0];by_cases h1:op=1
  ·rw [if_pos h1];decide
  ·rw [if_neg h1];by_cases h2:2<=op/\op<=8
   ·rw [if_pos h2];decide
   ·rw [if_neg h2];by_cases h3:9<=op/\op<=11
    ·rw [if_pos h3];decide
    ·rw [if_neg h3];by_cases h4:op=12
     ·rw [if_pos h4];decide
     ·rw [if_neg h4];by_cases h5:op=13
      ·rw [if_pos h5];decide
      ·rw [if_neg h5];decide
def Hh:Nat->Nat->List (Int × Int)->Int
 |0,i,_=>i
 |_+1,_,[]=> -1
 |o+1,i,p::r=>if rz p.1<0 then -1 else Hh (o+(rz p.1).toNat) (i+1) r
def Ib(f:List (Int × Int)):Prop:=∀p∈f,(-128<=p.1/\p.1<128)/\p.2=0
theorem Ne{f:List (Int × Int)}(hf:f.length<1000)(hz:Ib f):DK 112 [xX f,.int (0:Nat)] fun r=>r=.int (Hh 1 0 f):=by
 refine qI fun Z0 lo=>?_;refine qa ?_;intros;refine qm (fun m E S nk=>∃o at_:Nat,at_+m=f.length+1/\o<=1+2*at_/\at_<=f.length/\Hh 1 0 f=Hh o at_ (f.drop at_)/\E=[(0,xX f),(1,.int at_),(5,.int o)]/\S=[]/\nk=0)
  ⟨f.length+1,_,_,_,[],?wk,1,0,by omega,by omega,by omega,by rw [List.drop_zero],rfl,rfl,rfl⟩ ?_
 case wk=>exact ql
 rintro m E S nk ⟨o,at_,hm,ho,hal,he,rfl,rfl,rfl⟩;refine qa ?_;intros;refine qb rfl (fun h1=>?_) (fun h1=>?_)
 ·have h1:=qG h1;obtain⟨o,rfl⟩:∃q,o=q+1:=⟨o-1,oM⟩;have e10:decide ((at_:Int)<0)=false:=decide_eq_false oM;by_cases hl:at_<f.length
  ·obtain⟨p,hp⟩:∃p,f[at_]?=some p:=⟨_,zge hl⟩;obtain⟨c,n⟩:=p;obtain⟨hc,hn⟩:=hz _ (zmg hp);simp only at hc hn;subst hn;have hsa:=j3 hp;have hra:=Nd hc;have hb:=Nh c;rw [nI hp,Hh] at he;have e15:decide ((at_:Int)>=f.length)=false:=decide_eq_false oM;refine qa ?_;intros;simp only [e10];refine qa ?_;intros;simp only [e15];refine qa ?_;intros;refine qj rfl rfl hra ?_;rintro _ rfl;refine qa ?_;intros;refine qb (t:=decide (rz c<0)) rfl (fun h2=>?_) (fun h2=>?_)
   ·have h2:=qG h2;rw [if_pos h2] at he;refine qa ?_;intros;exact qc ⟨_,rfl,rfl,by rw [he]⟩
   ·have h2:=qQ h2;rw [if_neg h2] at he;refine qa ?_;intros;refine qj rfl rfl hra ?_;rintro _ rfl;refine qa ?_;intros;have hwl:IntKind.i64.wrap (((o+1:Nat):Int)+IntKind.i64.wrap (rz c-1))=((o+(rz c).toNat:Nat):Int):=by
     rw [qg (n:=rz c-1) (by omega) (by omega),qg (by omega) (by omega)];omega
    refine⟨m-1,oM,_,_,_,[],?wk,o+(rz c).toNat,at_+1,oM,oM,oM,he,rfl,rfl,rfl⟩
    case wk=>
     exact⟨by repeat (first|exact trivial|refine⟨by first|rfl|exact A9 oM oM|exact congrArg (fun z=>some (DV.int z)) hwl,rfl,?_⟩),trivial,rfl,rfl⟩
  ·have e15:decide ((at_:Int)>=f.length)=true:=decide_eq_true oM;have:at_=f.length:=by omega
   subst this;rw [List.drop_length,Hh] at he;refine qa ?_;intros;simp only [e10];refine qa ?_;intros;simp only [e15];refine qa ?_;intros;refine qb (t:=true) rfl (fun _=>?_) (fun h=>by cases h);refine qa ?_;intros;exact qc ⟨_,rfl,rfl,by rw [he]⟩
 ·have h1:=qQ h1;obtain rfl:o=0:=by omega
  rw [Hh] at he;refine qa ?_;intros;exact qc ⟨_,rfl,rfl,by rw [he]⟩
theorem Hq{f:List (Int × Int)}{e:Int}(hl:f.length<1000)(hen:f≠[]->DK 112 [xX f,.int (0:Nat)] fun r=>r=.int e)(hb:f≠[]->e≠f.length):DK 44 [xX f] fun r=>r=.bool false:=by
 have h78:DK 78 [xX f] fun r=>r=.bool false:=by
  refine qI fun Z0 lo=>?_;by_cases h0:f=[]
  ·subst h0;refine qa ?_;intros;refine qb (t:=true) rfl (fun _=>?_) (fun h=>by cases h);refine qa ?_;intros;exact qc ⟨_,rfl,rfl,rfl⟩
  ·have hp:=List.length_pos_iff.2 h0;have e7:((f.length:Int)==0)=false:=by rw [beq_eq_false_iff_ne];omega
   cases e11:decide ((f.length:Int)>200) with
   |true=>
    refine qa ?_;intros;simp only [e7];refine qa ?_;intros;simp only [e11];refine qa ?_;intros;refine qb (t:=true) rfl (fun _=>?_) (fun h=>by cases h);refine qa ?_;intros;exact qc ⟨_,rfl,rfl,rfl⟩
   |false=>
    have e17:(e !=(f.length:Int))=true:=by simpa using hb h0
    refine qa ?_;intros;simp only [e7];refine qa ?_;intros;simp only [e11];refine qa ?_;intros;refine qj rfl rfl (hen h0) ?_;rintro _ rfl;refine qa ?_;intros;simp only [e17];refine qa ?_;intros;refine qb (t:=true) rfl (fun _=>?_) (fun h=>by cases h);refine qa ?_;intros;exact qc ⟨_,rfl,rfl,rfl⟩
 refine qI fun Z0 lo=>?_;cases e5:decide ((f.length:Int)<=60) with
 |false=>
  refine qa ?_;intros;simp only [e5];refine qa ?_;intros;exact qc ⟨_,rfl,rfl,rfl⟩
 |true=>
  refine qa ?_;intros;simp only [e5];refine qa ?_;intros;refine qj rfl rfl h78 ?_;rintro _ rfl;refine qa ?_;intros;exact qc ⟨_,rfl,rfl,rfl⟩
theorem Ie(x:Int):(rz x<0/\(yr x 0).2=false)\/((0<=x/\x<=13)/\∃k:Nat,k<=2/\rz x=k/\yr x 0=((k:Int),true)/\(k=1->9<=x/\x<=11)):=by
 by_cases h0:x=0
 ·subst h0;exact .inr ⟨by decide,0,by decide,by decide,by decide,by decide⟩
 ·by_cases h1:x=1
  ·subst h1;exact .inr ⟨by decide,0,by decide,by decide,by decide,by decide⟩
  ·by_cases h2:2<=x/\x<=8
   ·have e:yr x 0=(2,true):=by unfold yr;rw [if_neg h0,if_neg h1,if_pos h2];rfl
    exact .inr ⟨by omega,2,by decide,by unfold rz;rw [e];rfl,e,fun h=>by omega⟩
   ·by_cases h3:9<=x/\x<=11
    ·have e:yr x 0=(1,true):=by unfold yr;rw [if_neg h0,if_neg h1,if_neg h2,if_pos h3];rfl
     exact .inr ⟨by omega,1,by decide,by unfold rz;rw [e];rfl,e,fun _=>h3⟩
    ·have e:(yr x 0).2=false:=by
      unfold yr;rw [if_neg h0,if_neg h1,if_neg h2,if_neg h3];by_cases h4:x=12
      ·rw [if_pos h4];rfl
      ·rw [if_neg h4];by_cases h5:x=13
       ·rw [if_pos h5];rfl
       ·rw [if_neg h5]
     exact .inl ⟨by unfold rz;rw [e];exact (by decide:(-1:Int)<0),e⟩
theorem Hc(o i:Nat)(x n:Int)(r:List (Int × Int)):Hh (o+1) i ((x,n)::r)=if rz x<0 then -1 else Hh (o+(rz x).toNat) (i+1) r:=rfl
theorem Hw(o i:Nat):Hh (o+1) i []= -1:=rfl
def Hj(f:List (Int × Int)):Prop:=∃v:Bool,(DK 38 [xX f] fun d=>d=.bool v)/\DK 44 [xX f] fun d=>d=.bool v
theorem Ht{t:Tr}(h:t.ok)(hd:t.dep<=8)(hl:t.fl.length<=60):Hj t.fl:=by
 have:=bY h oM hd;rw [decide_eq_true hl] at this;exact⟨true,D5 h hl hd,this⟩
theorem Il{t:Tr}(h:t.ok)(hd:t.dep<=8)(hl:t.fl.length<=60){r:List (Int × Int)}(hr:r≠[])(hr2:r.length<=100):Hj (t.fl++r):=by
 have hp:=List.length_pos_iff.2 hr;have hlen:(t.fl++r).length=t.fl.length+r.length:=List.length_append;refine⟨false,Hs (e:=(0+t.fl.length:Nat)) (d:=t.dep) (ok:=true) (fun hl=>r7 (by omega) t h (by omega) 0 r (by rw [List.drop_zero])) (.inr (by omega)),?_⟩;exact Hq (e:=(0+t.fl.length:Nat)) (by omega) (fun _=>GG (by omega) h (i:=0) (rest:=r) (by rw [List.drop_zero])) (fun _=>by omega)
theorem Hn{f:List (Int × Int)}(hl:f.length<=60)(hz:Ib f)(h1:DK 101 [xX f,.int (0:Nat)] fun r=>r=.tup [.int 0,.int 0,.bool false])(h2:Hh 1 0 f= -1):Hj f:=by
 refine⟨false,Hs (e:=0) (d:=0) (ok:=false) (fun _=>h1) (.inl rfl),Hq (e:= -1) oM (fun _=>?_) (fun _=>by omega)⟩;have:=Ne oM hz
 rwa [h2] at this
theorem Mi:Hj []:=⟨false,Lv,Hq (e:=0) (by decide) (fun h=>absurd rfl h) (fun h=>absurd rfl h)⟩
theorem Ih{x:Int}(h1:0<=x/\x<=13)(h2:yr x 0=(((0:Nat):Int),true)):(Tr.nd x 0 []).ok/\(Tr.nd x 0 []).dep<=8/\(Tr.nd x 0 []).fl=[(x,0)]:=by
 refine⟨?_,?_,?_⟩
 ·unfold Tr.ok yA;exact⟨h1,by decide,h2,by decide,trivial⟩
 ·unfold Tr.dep j6;decide
 ·unfold Tr.fl xp;rfl
theorem Mh{x:Int}(hz:Ib [(x,0)]):Hj [(x,0)]:=by
 rcases Ie x with⟨h1,h2⟩|⟨h1,k,h2,h3,h4,_⟩
 ·exact Hn (Nat.le_of_ble_eq_true rfl) hz (Hl (Nat.le_of_ble_eq_true rfl) rfl h2) (by rw [Hc,if_pos h1])
 ·cases k with
  |zero=>
   obtain⟨g1,g2,g3⟩:=Ih h1 h4;rw [<-g3];exact Ht g1 g2 (by rw [g3];exact Nat.le_of_ble_eq_true rfl)
  |succ k=>
   refine Hn (Nat.le_of_ble_eq_true rfl) hz (Hm (Nat.le_of_ble_eq_true rfl) rfl h1 (by decide) h4 oM (.stop oM (Nat.le_refl _))) ?_;rw [Hc,if_neg (by omega),h3,Int.toNat_natCast,Nat.zero_add,Hw]
theorem Mg{x y:Int}(hz:Ib [(x,0),(y,0)]):Hj [(x,0),(y,0)]:=by
 have hy:=(hz _ (List.mem_cons_of_mem _ (List.mem_cons_self ..))).1;rcases Ie x with⟨h1,h2⟩|⟨h1,k,h2,h3,h4,h5⟩
 ·exact Hn (Nat.le_of_ble_eq_true rfl) hz (Hl (Nat.le_of_ble_eq_true rfl) rfl h2) (by rw [Hc,if_pos h1])
 ·cases k with
  |zero=>
   obtain⟨g1,g2,g3⟩:=Ih h1 h4;have:=Il g1 g2 (by rw [g3];exact Nat.le_of_ble_eq_true rfl) (r:=[(y,0)]) (by simp) (Nat.le_of_ble_eq_true rfl)
   rwa [g3] at this
  |succ k=>
   have he:Hh 1 0 [(x,0),(y,0)]=Hh (k+1) 1 [(y,0)]:=by rw [Hc,if_neg (by omega),h3,Int.toNat_natCast,Nat.zero_add]
   have bad (hc:CBZq [(x,0),(y,0)] 0 (k+1) 1) (hend:Hh (k+1) 1 [(y,0)]= -1):Hj [(x,0),(y,0)]:=
    Hn (Nat.le_of_ble_eq_true rfl) hz (Hm (Nat.le_of_ble_eq_true rfl) rfl h1 (by decide) h4 (by omega) hc) (by rw [he,hend])
   rcases Ie y with⟨g1,g2⟩|⟨g1,j,g2,g3,g4,_⟩
   ·exact bad (.bad (c:=y) (m:=0) (by omega) rfl hy (Hl (Nat.le_of_ble_eq_true rfl) rfl g2)) (by rw [Hc,if_pos g1])
   ·cases j with
    |succ j=>
     refine bad (.bad (c:=y) (m:=0) oM rfl hy (Hm (Nat.le_of_ble_eq_true rfl) rfl g1 (by decide) g4 oM (.stop oM (Nat.le_refl _)))) ?_;rw [Hc,if_neg (by omega),g3,Int.toNat_natCast,<-Nat.add_assoc,Hw]
    |zero=>
     obtain⟨l1,l2,l3⟩:=Ih g1 g4;have hm:=r7 (f:=[(x,0),(y,0)]) (Nat.le_of_ble_eq_true rfl) _ l1 (by omega) 1 [] (by rw [l3];rfl);rw [l3] at hm;cases k with
     |zero=>
      have ho:=h5 rfl;have hok:(Tr.nd x 0 [Tr.nd y 0 []]).ok:=by
       unfold Tr.ok yA yA;refine⟨h1,by decide,h4,Nat.le_of_ble_eq_true rfl,?_,l1,trivial⟩;show vD x _ y=true;unfold vD;rw [if_neg (by omega),if_neg (by omega)]
      have hfl:(Tr.nd x 0 [Tr.nd y 0 []]).fl=[(x,0),(y,0)]:=by unfold Tr.fl xp xp;rw [l3];rfl
      have:=Ht hok (by unfold Tr.dep j6 j6 Tr.dep j6;decide) (by rw [hfl];exact Nat.le_of_ble_eq_true rfl)
      rwa [hfl] at this
     |succ k=>
      refine bad (.next (c:=y) (m:=0) oM rfl hy hm (Nat.le_of_ble_eq_true rfl) (.stop oM (Nat.le_refl _))) ?_;rw [Hc,if_neg (by omega),g3,Int.toNat_natCast,Nat.add_zero,Hw]
def Mj(f:List (Int × Int)):Prop:=(∃(t:Tr) (r:List (Int × Int)),t.ok/\t.dep<=8/\t.fl.length<=60/\f=t.fl++r/\r.length<=2)\/(Ib f/\f.length<=2)
theorem Mj.both{f:List (Int × Int)}(h:Mj f):Hj f:=by
 rcases h with⟨t,r,h1,h2,h3,rfl,h4⟩|⟨h1,h2⟩
 ·cases r with
  |nil=>rw [List.append_nil];exact Ht h1 h2 h3
  |cons a r=>exact Il h1 h2 h3 (by simp) (by omega)
 ·match f,h1,h2 with
  |[],_,_=>exact Mi
  |[(x,n)],h1,_=>
   obtain rfl:n=0:=(h1 _ (List.mem_cons_self ..)).2;exact Mh h1
  |[(x,n),(y,m)],h1,_=>
   obtain rfl:n=0:=(h1 _ (List.mem_cons_self ..)).2;obtain rfl:m=0:=(h1 _ (List.mem_cons_of_mem _ (List.mem_cons_self ..))).2;exact Mg h1
  |_::_::_::_,_,h2=>simp at h2
end Go.Ah
