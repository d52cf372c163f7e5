/- -/
import Derived.Test.YtandgamnamkkhaaGreatDoorAb31
set_option linter.unusedSimpArgs false
set_option maxHeartbeats 8000000
set_option linter.unusedVariables false
set_option maxRecDepth 8000
namespace Go.Ah
open Go.Ab Go.Proofs
theorem DG{L:List qd}{n:Nat}(hl:yy L)(hn:L.length<100)(hnl:n<=L.length):BS 196 [qx L,.int n] fun d S nk=>d=.one (.own 0 0 (x7 L n).length 2)/\S=[(0,.data ((x7 L n).flatMap qh))]/\nk=1:=by
 refine ZK (pC 196).2 rfl jm fun Z0 lo=>?_;refine qa ?_;intros;refine qm (fun m E S nk=>∃i:Nat,i+m=n/\E=[(0,qx L),(1,.int n),(5,.one (.own 0 0 (x7 L i).length 2)),(6,.int i)]/\S=[(0,.data ((x7 L i).flatMap qh))]/\nk=1)
  ⟨n,_,_,_,[],?wk,0,oM,rfl,rfl,rfl⟩ ?_
 case wk=>exact ql
 rintro m E S nk ⟨i,hi,rfl,rfl,rfl⟩;refine qa ?_;intros;refine qb rfl (fun ht=>?_) (fun ht=>?_)
 ·have ht:i<n:=by have:=qG ht;omega
  have ha:L[i]?=some (xW L i):=by rw [xW,zge (by omega)];rfl
  have hb:L[zL L i]?=some (xW L (zL L i)):=by rw [xW,zge (jz (by omega))];rfl
  have hsa:=hl _ (zmg ha);have hsb:=hl _ (zmg hb);have h1:=Qq hl i oM;have h2:=jD hsa hsb;have hfl:=qL (x7 L i);have hf2:=qL (xz (xW L i) (xW L (zL L i)));refine qa ?_;intros;refine qj rfl rfl (gS oM oM ha hb) ?_;rintro _ rfl;refine qa ?_;intros;refine qj rfl rfl (nL hsa hsb) ?_;rintro _ rfl;refine qy (m:=(xz (xW L i) (xW L (zL L i))).length) (q:=(xz (xW L i) (xW L (zL L i))).flatMap qh) rfl rfl rfl (qp _ hfl) ⟨rfl,rfl,rfl⟩ oM oM (by decide) rfl ?_;rw [<-List.flatMap_append,<-List.length_append,<-Zl];refine qa ?_;intros;refine⟨m-1,oM,_,_,_,[(0,3)],?wk1,i+1,oM,rfl,rfl,rfl⟩
  case wk1=>exact ql
 ·have ht:i=n:=by have:=qQ ht;omega
  subst ht;have hfl:=qL (x7 L i);refine qa ?_;intros;exact qc ⟨_,rfl,rfl,_,zj _,rfl,rfl,rfl⟩
theorem pA{a b p:qd}(ha:zm a=true)(hb:zm b=true)(h:p∈xz a b):zm p=true:=by
 obtain⟨k,hk⟩:=List.getElem?_of_mem h;have h1:=(zgs hk).1;rw [Jm] at h1;have hf:=kP a b;have h2:(k:Int)<=xg a b:=by omega
 rw [Yj a b h2] at hk;obtain rfl:=zsi hk;have h3:=bE a b h2;rw [xJ] at *;omega
theorem WC{L:List qd}(hL:∀p∈L,zm p=true){n:Nat}(hn:n<=L.length){p:qd}(h:p∈x7 L n):zm p=true:=by
 simp only [x7,List.mem_flatMap,List.mem_range] at h;obtain⟨i,hi,hp⟩:=h;exact pA (hL _ (kR oM)) (hL _ (kR (jz oM))) hp
theorem LQ{t:Int}{k:Nat}{p:qd}(ht:t=k)(hk:k<4)(hp:qB 1000 p):DK 197 [.int t,xI p] fun d=>d=.bool (yK t p):=by rw [ht];exact TW hk hp
theorem bX{f:Ft}(hv:xB f=true):DK 160 [bM f] fun d=>d=qx (qN f):=by
 obtain⟨⟨hn1,hn2⟩,hin,hk⟩:=yS hv;have hsm:yy f.pts:=fun p hp=>QM (hin p hp);refine qI fun Z0 lo=>?_;by_cases h1:f.kind=1
 ·have b1:(f.kind==1)=true:=by simpa using h1
  refine xn ?_;intros;refine qb rfl (fun _=>?_) (fun ht=>by cases ht);refine xn ?_;intros;refine qc ⟨_,rfl,rfl,?_⟩;rw [qN,if_pos h1];rfl
 ·have b1:(f.kind==1)=false:=by simpa using h1
  by_cases h2:f.kind=2
  ·have b2:(f.kind==2)=true:=by simpa using h2
   have hw:IntKind.i64.wrap ((f.pts.length:Int)-1)=((f.pts.length-1:Nat):Int):=by rw [qg (by omega) (by omega)];omega
   have hll:=Qq hsm (f.pts.length-1) oM;refine xn ?_;intros;refine qb rfl (fun ht=>by cases ht) (fun _=>?_);refine xn ?_;intros;refine qb rfl (fun _=>?_) (fun ht=>by cases ht);refine xn ?_;intros;rw [hw];refine qj rfl rfl (LV hsm oM oM) ?_;rintro _ rfl;refine qj rfl rfl (WG (fun p hp=>WC hin oM hp) oM) ?_;rintro _ rfl;refine xn ?_;intros;refine qc ⟨_,rfl,rfl,?_⟩;rw [qN,if_neg h1,if_pos h2];rfl
  ·have b2:(f.kind==2)=false:=by simpa using h2
   obtain⟨k,hk4,hft⟩:∃k:Nat,k<4/\f.tex=k:=by
    rw [zD,if_neg h1,if_neg h2] at hk;by_cases h3:f.kind=3
    ·rw [if_pos h3] at hk;simp at hk;exact⟨f.tex.toNat,oM,oM⟩
    ·rw [if_neg h3] at hk;cases hk
   have hll:=Qq hsm f.pts.length oM;refine xn ?_;intros;refine qb rfl (fun ht=>by cases ht) (fun _=>?_);refine xn ?_;intros;refine qb rfl (fun ht=>by cases ht) (fun _=>?_);refine xn ?_;intros;refine ZI rfl rfl (DG hsm oM oM) ?_;rintro _ _ _ ⟨rfl,rfl,rfl⟩;refine xT rfl ?_;refine qa ?_;intros;refine qm (fun m E S nk=>∃(y:Nat) (out:List qd),y+m=60/\out=x7 f.pts f.pts.length++(yc y).filter (fun p=>yK f.tex p&&wQ f.pts p)/\E=[(1,.one (.ptr 0 0)),(3,.one (.own 1 0 out.length 2)),(4,.int y)]/\S=[(0,.cells [.f (.c (.int .i64 f.kind)),.f (.c (.int .i64 f.tex)),.f (.sl 2 f.pts.length (f.pts.flatMap qh))]),(1,.data (out.flatMap qh))]/\nk=2)
    ⟨60,_,_,_,[],?wk2,0,x7 f.pts f.pts.length,rfl,by simp [yc],rfl,rfl,rfl⟩ ?_
   case wk2=>exact ql
   rintro m E S nk ⟨y,out,hy,ho,rfl,rfl,rfl⟩;refine qa ?_;intros;refine qb rfl (fun hy2=>?_) (fun hy2=>?_)
   ·have hy2:y<60:=by have:=qG hy2;omega
    refine qa ?_;intros;refine qm (fun m E S nk=>∃(x:Nat) (out:List qd),x+m=60/\out=x7 f.pts f.pts.length++(yc y++ji y x).filter (fun p=>yK f.tex p&&wQ f.pts p)/\E=[(1,.one (.ptr 0 0)),(3,.one (.own 1 0 out.length 2)),(4,.int y),(5,.int x)]/\S=[(0,.cells [.f (.c (.int .i64 f.kind)),.f (.c (.int .i64 f.tex)),.f (.sl 2 f.pts.length (f.pts.flatMap qh))]),(1,.data (out.flatMap qh))]/\nk=2)
     ⟨60,_,_,_,[],?wk3,0,out,rfl,by rw [ho];simp [ji],rfl,rfl,rfl⟩ ?_
    case wk3=>exact ql
    rintro m2 E S nk ⟨x,out2,hx,ho2,rfl,rfl,rfl⟩;refine qa ?_;intros;refine qb rfl (fun hx2=>?_) (fun hx2=>?_)
    ·have hx2:x<60:=by have:=qG hx2;omega
     have hxs:qB 1000 ((x:Int),(y:Int)):=by unfold qB;simp only;omega
     have hle:out2.length<=100000:=by
      have h1:((yc y++ji y x).filter (fun p=>yK f.tex p&&wQ f.pts p)).length<=(yc y++ji y x).length:=List.length_filter_le _ _;have h2:(yc y++ji y x).length=60*y+x:=by rw [List.length_append,Qr,WV]
      rw [ho2,List.length_append];omega
     have hfl:=qL out2;have hstep:x7 f.pts f.pts.length++(yc y++ji y (x+1)).filter (fun p=>yK f.tex p&&wQ f.pts p)=out2++(if (yK f.tex ((x:Int),(y:Int))&&wQ f.pts ((x:Int),(y:Int)))=true then [((x:Int),(y:Int))] else []):=by
      rw [XU,<-List.append_assoc,List.filter_append,<-List.append_assoc,<-ho2];congr 1;rw [List.filter_cons,List.filter_nil]
     refine qa ?_;intros;refine qj rfl rfl (LQ hft hk4 hxs) ?_;rintro _ rfl;cases hb:yK f.tex ((x:Int),(y:Int)) with
     |false=>
      rw [hb,Bool.false_and,if_neg (by decide),List.append_nil] at hstep;refine qa ?_;intros;refine qb rfl (fun ht=>by cases ht) (fun _=>?_);refine qa ?_;intros;refine⟨m2-1,oM,_,_,_,[],?wk4,x+1,out2,oM,hstep.symm,rfl,rfl,rfl⟩
      case wk4=>exact ql
     |true=>
      rw [hb,Bool.true_and] at hstep;refine qa ?_;intros;refine qj rfl rfl (AU (p:=((x:Int),(y:Int))) hsm hxs oM) ?_;rintro _ rfl;refine qa ?_;intros;refine qb rfl (fun hi2=>?_) (fun hi2=>?_)
      ·have hi2:wQ f.pts ((x:Int),(y:Int))=true:=by simpa using hi2
       rw [hi2,if_pos rfl] at hstep;refine qa ?_;intros;refine qy (m:=1) (q:=qh ((x:Int),(y:Int))) rfl rfl rfl (qp _ hfl) ⟨rfl,rfl,_,rfl,rfl⟩ oM oM (by decide) rfl ?_;rw [show out2.flatMap qh++qh ((x:Int),(y:Int))=(out2++[((x:Int),(y:Int))]).flatMap qh by simp,show out2.length+1=(out2++[((x:Int),(y:Int))]).length by simp];refine qa ?_;intros;refine⟨m2-1,oM,_,_,_,[(1,4)],?wk6,x+1,out2++[((x:Int),(y:Int))],oM,hstep.symm,rfl,rfl,rfl⟩
       case wk6=>exact ql
      ·have hi2:wQ f.pts ((x:Int),(y:Int))=false:=by simpa using hi2
       rw [hi2,if_neg (by decide),List.append_nil] at hstep;refine qa ?_;intros;refine⟨m2-1,oM,_,_,_,[],?wk7,x+1,out2,oM,hstep.symm,rfl,rfl,rfl⟩
       case wk7=>exact ql
    ·have hx2:x=60:=by have:=qQ hx2;omega
     subst hx2;refine qa ?_;intros;refine⟨m-1,by omega,_,_,_,[],?wk5,y+1,out2,by omega,by rw [QN];exact ho2,rfl,rfl,rfl⟩
     case wk5=>exact ql
   ·have hy2:y=60:=by have:=qQ hy2;omega
    subst hy2;have hfl:=qL out;have hout:out=Wu f.pts++zI f:=ho;have hin2:∀p∈out,zm p=true:=fun p hp=>by
     rw [hout,List.mem_append] at hp;rcases hp with hp|hp
     ·exact WC hin (Nat.le_refl _) hp
     ·exact X4.1 (List.mem_filter.1 hp).1
    have hol:out.length<1000000:=by
     have h1:((yc 60).filter (fun p=>yK f.tex p&&wQ f.pts p)).length<=(yc 60).length:=List.length_filter_le _ _;rw [Qr] at h1;rw [ho,List.length_append];omega
    refine qa ?_;intros;refine zW (E0:=[(54,.one (.own 1 0 out.length 2))]) (S0:=[(1,.data (out.flatMap qh))]) (qf rfl (qw _)) (qf rfl (qw _)) ?_;refine JB 1 rfl qD qD ?_;refine qj (ds:=[qx out]) rfl rfl (WG hin2 hol) ?_;rintro _ rfl;refine qa ?_;intros;refine qc ⟨_,rfl,rfl,?_⟩;rw [qN,if_neg h1,if_neg h2,<-hout];rfl
end Go.Ah
