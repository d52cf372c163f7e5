/- -/
import Derived.Test.YtandgamnamkkhaaGreatDoorAb27
set_option linter.unusedSimpArgs false
set_option maxHeartbeats 8000000
set_option linter.unusedVariables false
set_option maxRecDepth 8000
namespace Go.Ah
open Go.Ab Go.Proofs
theorem LY(a b:qd):yE Tryz.prog 7 ⟨.lf,7⟩ 220 [xI a,xI b] fun d=>d=.int (wS a b):=by
 refine zy (pC 220).2 rfl e9 fun Z0 lo=>?_;refine qa ?_;intros;refine qj rfl rfl (A3 a.2 b.2) ?_;rintro _ rfl;refine qa ?_;intros;refine qj rfl rfl (A3 a.1 b.1) ?_;rintro _ rfl;refine qa ?_;intros;refine XC (ds:=[.one (.f (.sl 1 2 [.c (.int .i64 (QA a.2 b.2)),.c (.int .i64 (QA a.1 b.1))]))]) rfl ⟨⟨_,rfl,_,_,rfl,rfl,rfl⟩,trivial⟩ (Fp (QA a.2 b.2) (QA a.1 b.1)) (by rintro _ rfl;rfl) ?_;rintro _ rfl;refine qa ?_;intros;refine qc ⟨_,rfl,rfl,?_⟩;rw [L6]
theorem UG:CmpAt 220:=GK (enters_of Tryz.func220 (by kernel_rfl) rfl) fun a b=>LY a b
abbrev BS(f:FuncId)(ds:List DV)(R:DV->Bx->Nat->Prop):Prop:=V8 Tryz.prog 7 (H00 1) f ds R
def Gt(w:Int):Int:=min (max w 0) 200
theorem LI {p:Par} {base rs:Nat} {Q:qo->Bx->Nat->Prop} {r:List SOper} {W:Wt} {A:List Nat} {E:qo} {S:Bx} {nk:Nat} {id:Nat} {dst:Option Nat} {aid:Option Nat} {ws:List Nat} {keep neg:Bool} {x:Opd} {e n:Nat} {l:List FD} (hx:ro E x=some (.one (.f (.sl e n l))))
 (h1:n=0->l=[]->DPW p base rs Q r W A (qX E dst (.bool !neg)) S nk) (h2:DPW p base rs Q r W A (qX E dst (.bool neg)) S nk):DPW p base rs Q (⟨id,dst,.p (.nileq neg x),none,aid,ws,keep⟩::r) W A E S nk:=.mk fun Z β H F c QP hS hE hC hA=>by
 obtain⟨cx,hcx,hr⟩:=xj hE hx;simp only [qv,qs,if_true];cases hr with
 |nil=>
  simp only [qn,hcx];exact (h1 rfl rfl).run Z β H _ c QP hS (hE.set dst (zT rfl)) hC hA
 |sl=>
  simp only [qn,hcx];exact h2.run Z β H _ c QP hS (hE.set dst (zT rfl)) hC hA
theorem DH{l:List qd}(hn:l.length<1000000000):BS 142 [qx l] fun d S nk=>∃k,(k=0\/k=1)/\d=.one (.own k 0 l.length 2)/\S=[(k,.data (l.flatMap qh))]/\nk=k+1:=by
 refine ZK (pC 142).2 rfl jm fun Z0 lo=>?_;refine qa ?_;intros;refine LI rfl (fun h0 _=>?_) ?_
 ·have:l=[]:=by simpa using h0
  subst this;refine qa ?_;intros;refine qb rfl (fun _=>?_) (fun h=>by cases h);refine qa ?_;intros;refine QX 2 2 rfl ?_;exact qc ⟨_,rfl,rfl,_,zj _,0,.inl rfl,rfl,rfl,rfl⟩
 ·refine qa ?_;intros;refine qb rfl (fun h=>by cases h) (fun _=>?_);refine qa ?_;intros;refine qy rfl rfl rfl rfl ⟨rfl,rfl,rfl⟩ oM oM (by decide) rfl ?_;refine qa ?_;intros;refine qc ⟨_,rfl,rfl,[(1,.data (l.flatMap qh))],qf (k:=1) rfl (qw _),1,.inr rfl,?_,rfl,rfl⟩;simp
def iF(x:Int):FD:=.c (.int .i64 x)
def cU(l:List Int):DV:=.one (.f (.sl 1 l.length (l.map iF)))
theorem cW{l:List Int}{i:Nat}{x:Int}(h:l[i]?=some x):qT (l.map iF) (i*1) 1=some [iF x]:=by
 have hi:i<l.length:=(zgs h).1;rw [zw (by simp;omega)];rw [Nat.mul_one,List.drop_eq_getElem_cons (by simpa using hi)];have:l[i]=x:=(zgs h).2;simp [this]
theorem LT{a:Int}:DK 239 [.int a] fun d=>d=.bool false:=by
 refine qI fun Z0 lo=>?_;refine qa ?_;intros;exact qc ⟨_,rfl,rfl,by simp⟩
theorem LU{a:Int}:DK 191 [.int a] fun d=>d=.bool false:=by
 refine qI fun Z0 lo=>?_;refine qa ?_;intros;exact qc ⟨_,rfl,rfl,by simp⟩
theorem T6{a b:Int}:DK 190 [.int a,.int b] fun d=>d=.bool (decide (a<b)):=by
 refine qI fun Z0 lo=>?_;refine qa ?_;intros;refine qj rfl rfl LT ?_;rintro _ rfl;refine qa ?_;intros;exact qc ⟨_,rfl,rfl,rfl⟩
def Eh(row:List Int):Prop:=∀(i j:Nat) (x y:Int),i<j->row[i]?=some x->row[j]?=some y->x<=y
theorem Eu{a b:Nat}(ha:a<1000000000)(hb:b<=1000000000):IntKind.i64.wrap ((IntKind.u64.wrap (IntKind.i64.wrap ((a:Int)+(b:Int)))).fdiv (2^min (Int.toNat 1) IntKind.u64.bits))=(((a+b)/2:Nat):Int):=by
 rw [qg (n:=(a:Int)+b) (by omega) (by omega)];have h1:IntKind.u64.wrap ((a:Int)+b)=(a:Int)+b:=by simp [IntKind.wrap,IntKind.bits,IntKind.signed];omega
 rw [h1];have h2:((2:Int)^min (Int.toNat 1) IntKind.u64.bits)=2:=rfl;rw [h2,Int.fdiv_eq_ediv_of_nonneg _ (by omega),qg (by omega) (by omega)];omega
theorem gT{row:List Int}{x:Int}(hs:Eh row)(hn:row.length<1000000000):DK 147 [cU row,.int x] fun d=>∃(i:Nat) (b:Bool),d=.tup [.int i,.bool b]/\i<=row.length/\(∀(k:Nat) (y:Int),k<i->row[k]?=some y->y<x)/\(∀(k:Nat) (y:Int),i<=k->row[k]?=some y->x<=y):=by
 refine qI fun Z0 lo=>?_;refine qa ?_;intros;refine qm (fun m E S nk=>∃i j:Nat,i<=j/\j<=row.length/\m=j-i/\(∀(k:Nat) (y:Int),k<i->row[k]?=some y->y<x)/\(∀(k:Nat) (y:Int),j<=k->row[k]?=some y->x<=y)/\E=[(0,cU row),(1,.int x),(6,.int row.length),(7,.int i),(8,.int j)]/\S=[]/\nk=0) ⟨row.length,_,_,_,[],?wk,0,row.length,oM,oM,oM,fun k y h=>oM,fun k y h1 h2=>by have:=(zgs h2).1;omega,rfl,rfl,rfl⟩ ?_
 case wk=>exact ql
 rintro m E S nk ⟨i,j,hij,hj,hm,hlo,hhi,rfl,rfl,rfl⟩;refine qa ?_;intros;refine qb rfl (fun ht=>?_) (fun ht=>?_)
 ·simp at ht;have hh:=Eu (a:=i) (b:=j) oM oM;obtain⟨y,hy⟩:∃y,row[(i+j)/2]?=some y:=⟨_,zge oM⟩;have e1:=cW hy;refine qa ?_;intros;rw [hh];refine qa ?_;intros;refine qj rfl rfl T6 ?_;rintro _ rfl;refine qa ?_;intros;refine qb rfl (fun hl=>?_) (fun hl=>?_)
  ·have hl':y<x:=by simpa using hl
   refine qa ?_;intros;refine⟨j-((i+j)/2+1),oM,_,_,_,[],?wk,(i+j)/2+1,j,oM,hj,rfl,fun k z hk hz=>?_,hhi,rfl,rfl,rfl⟩
   case wk=>exact ql
   rcases Nat.lt_or_ge k ((i+j)/2) with h|h
   ·have:=hs k ((i+j)/2) z y h hz hy;omega
   ·obtain rfl:k=(i+j)/2:=by omega
    rw [hy] at hz;obtain rfl:=zsi hz;exact hl'
  ·have hl':x<=y:=by simpa using hl
   refine qa ?_;intros;refine⟨(i+j)/2-i,oM,_,_,_,[],?wk,i,(i+j)/2,oM,oM,rfl,hlo,fun k z hk hz=>?_,rfl,rfl,rfl⟩
   case wk=>exact ql
   rcases Nat.lt_or_ge ((i+j)/2) k with h|h
   ·have:=hs ((i+j)/2) k y z h hy hz;omega
   ·obtain rfl:k=(i+j)/2:=by omega
    rw [hy] at hz;obtain rfl:=zsi hz;exact hl'
 ·simp at ht;obtain rfl:i=j:=by omega
  by_cases hi:i<row.length
  ·have g1:decide ((i:Int)<row.length)=true:=by simpa using hi
   obtain⟨y,hy⟩:∃y,row[i]?=some y:=⟨_,zge hi⟩;have e1:=cW hy;by_cases hyx:y=x
   ·have g2:(y==x)=true:=by simpa using hyx
    refine xn ?_;intros;exact qc ⟨_,rfl,rfl,i,_,rfl,hj,hlo,hhi⟩
   ·have g2:(y==x)=false:=by simpa using hyx
    refine xn ?_;intros;refine qj rfl rfl LU ?_;rintro _ rfl;refine xn ?_;intros;exact qc ⟨_,rfl,rfl,i,_,rfl,hj,hlo,hhi⟩
  ·have g1:decide ((i:Int)<row.length)=false:=by simpa using hi
   refine xn ?_;intros;exact qc ⟨_,rfl,rfl,i,_,rfl,hj,hlo,hhi⟩
theorem Ky{cells cs:List C}{i:Nat}(h:i+cs.length<=cells.length):wn cells i cs=cells.take i++cs++cells.drop (i+cs.length):=by
 have hs:cells=cells.take i++((cells.drop i).take cs.length++cells.drop (i+cs.length)):=by
  rw [<-List.drop_drop,List.take_append_drop,List.take_append_drop]
 have:=X7 (cells.take i) ((cells.drop i).take cs.length) cs (cells.drop (i+cs.length)) (by simp;omega);rw [<-hs,List.length_take,Nat.min_eq_left (by omega)] at this;rw [this,List.append_assoc]
theorem W0(z:List C)(n:Nat):(z7 z n).length=n:=by simp [z7]
theorem Fw{b o n cap e:Nat}{ex:Bool}{lo hi m:Nat}(h1:lo<=hi)(h2:hi<=m)(h3:m<=cap):qn .lf (.slice e (.c (.one (.slc b o n cap e ex))) (some (.c (.int lo))) (some (.c (.int hi))) (some (.c (.int m))))=some (.one (.slc b (o+lo*e) (hi-lo) (m-lo) e (ex||true))):=by
 simp [qn,yh,qF,Opd.ev,h1,h2,h3]
theorem Fx{b o n cap e:Nat}{ex:Bool}{lo hi:Nat}(h1:lo<=hi)(h2:hi<=cap):qn .lf (.slice e (.c (.one (.slc b o n cap e ex))) (some (.c (.int lo))) (some (.c (.int hi))) none)=some (.one (.slc b (o+lo*e) (hi-lo) (cap-lo) e ex)):=by
 simp [qn,yh,qF,Opd.ev,h1,h2]
theorem Fy{b o n cap e:Nat}{ex:Bool}{lo:Nat}(h1:lo<=n)(h2:n<=cap):qn .lf (.slice e (.c (.one (.slc b o n cap e ex))) (some (.c (.int lo))) none none)=some (.one (.slc b (o+lo*e) (n-lo) (cap-lo) e ex)):=by
 simp [qn,yh,qF,Opd.ev,h1,h2]
theorem Fz{b o n cap e:Nat}{ex:Bool}{hi:Nat}(h2:hi<=cap):qn .lf (.slice e (.c (.one (.slc b o n cap e ex))) none (some (.c (.int hi))) none)=some (.one (.slc b o hi cap e ex)):=by
 simp [qn,yh,qF,Opd.ev,h2]
theorem TN{H:Hp}{b n cap i j:Nat}{ex:Bool}{cells:List C}(hr:zM H b cells)(hnc:n<=cap)(hcap:cap<=cells.length)(hij:i<j)(hjn:j<=n)(hn:n<1000000000):
 qK Tryz.prog 7 148 [.one (.slc b 0 n cap 1 ex),.int i,.int j] H fun v H'=>v=.one (.slc b 0 (i+(n-j)) cap 1 ex)/\∃rest',zM H' b (cells.take i++(cells.drop j).take (n-j)++rest')/\(cells.take i++(cells.drop j).take (n-j)++rest').length=cells.length/\(∀b',b'≠b->H'.get b'=H.get b')/\H'.nx=H.nx+8:=by
 refine N4 (pC 148).2 (Nat.le_of_ble_eq_true rfl) fun hwf=>?_
 repeat (first|(refine vP rfl rfl (by first|exact fun _=>rfl|exact fun h=>(by simp only [if_pos h];rfl)|exact fun h=>(by simp only [if_pos h];assumption)) (by first|exact fun _=>rfl|exact fun h=>(by simp only [if_pos h];rfl)|exact fun h=>(by simp only [if_pos h];assumption)) ?_)|(refine Xe rfl ?_)|(refine Xh rfl rfl rfl ?_)|(refine Xg rfl rfl rfl ?_)|(refine Xf ?_)|(refine yu rfl rfl ?_)|(refine Yb rfl rfl (by assumption) ?_)|(refine Ya rfl rfl (by assumption) ?_)|(refine Xj rfl rfl (by assumption) ?_)|(refine Xi rfl rfl (by assumption) ?_)|(refine Z9 rfl rfl (by first|exact fun _=>rfl|exact fun _=>(by assumption)|exact fun h=>(by simp only [if_pos h];rfl)|exact fun h=>(by simp only [if_pos h];assumption)) ?_)|(refine Xk rfl rfl (by first|exact fun _=>rfl|exact fun h=>(by simp only [if_pos h];rfl)|exact fun h=>(by simp only [if_pos h];assumption)) (by assumption) ?_)|(refine yu rfl (by assumption) ?_)|(refine Y8 ?_)|(refine Y9 ?_)|(refine ZA wq ?_)|(refine Zz ?_)|(refine Xm ?_))
 refine yu rfl (Fw oM oM oM) ?_
 repeat (first|(refine vP rfl rfl (by first|exact fun _=>rfl|exact fun h=>(by simp only [if_pos h];rfl)|exact fun h=>(by simp only [if_pos h];assumption)) (by first|exact fun _=>rfl|exact fun h=>(by simp only [if_pos h];rfl)|exact fun h=>(by simp only [if_pos h];assumption)) ?_)|(refine Xe rfl ?_)|(refine Xh rfl rfl rfl ?_)|(refine Xg rfl rfl rfl ?_)|(refine Xf ?_)|(refine yu rfl rfl ?_)|(refine Yb rfl rfl (by assumption) ?_)|(refine Ya rfl rfl (by assumption) ?_)|(refine Xj rfl rfl (by assumption) ?_)|(refine Xi rfl rfl (by assumption) ?_)|(refine Z9 rfl rfl (by first|exact fun _=>rfl|exact fun _=>(by assumption)|exact fun h=>(by simp only [if_pos h];rfl)|exact fun h=>(by simp only [if_pos h];assumption)) ?_)|(refine Xk rfl rfl (by first|exact fun _=>rfl|exact fun h=>(by simp only [if_pos h];rfl)|exact fun h=>(by simp only [if_pos h];assumption)) (by assumption) ?_)|(refine yu rfl (by assumption) ?_)|(refine Y8 ?_)|(refine Y9 ?_)|(refine ZA wq ?_)|(refine Zz ?_)|(refine Xm ?_))
 refine Aj rfl rfl (fun h=>by simp at h;omega) (fun _=>?_)
 repeat (first|(refine vP rfl rfl (by first|exact fun _=>rfl|exact fun h=>(by simp only [if_pos h];rfl)|exact fun h=>(by simp only [if_pos h];assumption)) (by first|exact fun _=>rfl|exact fun h=>(by simp only [if_pos h];rfl)|exact fun h=>(by simp only [if_pos h];assumption)) ?_)|(refine Xe rfl ?_)|(refine Xh rfl rfl rfl ?_)|(refine Xg rfl rfl rfl ?_)|(refine Xf ?_)|(refine yu rfl rfl ?_)|(refine Yb rfl rfl (by assumption) ?_)|(refine Ya rfl rfl (by assumption) ?_)|(refine Xj rfl rfl (by assumption) ?_)|(refine Xi rfl rfl (by assumption) ?_)|(refine Z9 rfl rfl (by first|exact fun _=>rfl|exact fun _=>(by assumption)|exact fun h=>(by simp only [if_pos h];rfl)|exact fun h=>(by simp only [if_pos h];assumption)) ?_)|(refine Xk rfl rfl (by first|exact fun _=>rfl|exact fun h=>(by simp only [if_pos h];rfl)|exact fun h=>(by simp only [if_pos h];assumption)) (by assumption) ?_)|(refine yu rfl (by assumption) ?_)|(refine Y8 ?_)|(refine Y9 ?_)|(refine ZA wq ?_)|(refine Zz ?_)|(refine Xm ?_))
 refine tF wq ?_
 repeat (first|(refine vP rfl rfl (by first|exact fun _=>rfl|exact fun h=>(by simp only [if_pos h];rfl)|exact fun h=>(by simp only [if_pos h];assumption)) (by first|exact fun _=>rfl|exact fun h=>(by simp only [if_pos h];rfl)|exact fun h=>(by simp only [if_pos h];assumption)) ?_)|(refine Xe rfl ?_)|(refine Xh rfl rfl rfl ?_)|(refine Xg rfl rfl rfl ?_)|(refine Xf ?_)|(refine yu rfl rfl ?_)|(refine Yb rfl rfl (by assumption) ?_)|(refine Ya rfl rfl (by assumption) ?_)|(refine Xj rfl rfl (by assumption) ?_)|(refine Xi rfl rfl (by assumption) ?_)|(refine Z9 rfl rfl (by first|exact fun _=>rfl|exact fun _=>(by assumption)|exact fun h=>(by simp only [if_pos h];rfl)|exact fun h=>(by simp only [if_pos h];assumption)) ?_)|(refine Xk rfl rfl (by first|exact fun _=>rfl|exact fun h=>(by simp only [if_pos h];rfl)|exact fun h=>(by simp only [if_pos h];assumption)) (by assumption) ?_)|(refine yu rfl (by assumption) ?_))
 refine yu rfl (Fz oM) ?_
 repeat (first|(refine vP rfl rfl (by first|exact fun _=>rfl|exact fun h=>(by simp only [if_pos h];rfl)|exact fun h=>(by simp only [if_pos h];assumption)) (by first|exact fun _=>rfl|exact fun h=>(by simp only [if_pos h];rfl)|exact fun h=>(by simp only [if_pos h];assumption)) ?_)|(refine Xe rfl ?_)|(refine Xh rfl rfl rfl ?_)|(refine Xg rfl rfl rfl ?_)|(refine Xf ?_)|(refine yu rfl rfl ?_)|(refine Yb rfl rfl (by assumption) ?_)|(refine Ya rfl rfl (by assumption) ?_)|(refine Xj rfl rfl (by assumption) ?_)|(refine Xi rfl rfl (by assumption) ?_)|(refine Z9 rfl rfl (by first|exact fun _=>rfl|exact fun _=>(by assumption)|exact fun h=>(by simp only [if_pos h];rfl)|exact fun h=>(by simp only [if_pos h];assumption)) ?_)|(refine Xk rfl rfl (by first|exact fun _=>rfl|exact fun h=>(by simp only [if_pos h];rfl)|exact fun h=>(by simp only [if_pos h];assumption)) (by assumption) ?_)|(refine yu rfl (by assumption) ?_))
 refine yu rfl (Fy oM oM) ?_;have hnews:H.loads b (0+j*1) (n-j)=some ((cells.drop j).take (n-j)):=by
  have:=kD hr.2 (i:=j) (k:=n-j) oM;rw [Nat.mul_one];exact this
 have hlen:((cells.drop j).take (n-j)).length=n-j:=by simp;omega
 have hr8:zM (H.skip 8) b cells:=hr.same rfl;obtain⟨H1,s1,s2,s3,s4⟩:=hr8.stores (cs:=(cells.drop j).take (n-j)) (i:=i) oM;refine NW rfl (v:=.one (.slc b 0 (i+(n-j)) cap 1 ex)) (H':=H1) ?_ trivial ?_
 ·show qM .lf (H.skip 8) (.append 1 8 (.c (.one (.slc b 0 i cap 1 ex))) (.c (.one (.slc b (0+j*1) (n-j) (cap-j) 1 ex))))=_
  have e1:ze (H.skip 8) 1 (.one (.slc b (0+j*1) (n-j) (cap-j) 1 ex))=some (n-j,(cells.drop j).take (n-j)):=by
   simp only [ze,if_true,Nat.mul_one];have:(H.skip 8).loads b (0+j) (n-j)=some ((cells.drop j).take (n-j)):=by simpa using hnews
   rw [this];rfl
  simp only [qM,Opd.ev,e1,yk];rw [if_neg (by simp),if_pos (by omega),Nat.zero_add,Nat.mul_one,s1];rfl
 repeat (first|(refine vP rfl rfl (by first|exact fun _=>rfl|exact fun h=>(by simp only [if_pos h];rfl)|exact fun h=>(by simp only [if_pos h];assumption)) (by first|exact fun _=>rfl|exact fun h=>(by simp only [if_pos h];rfl)|exact fun h=>(by simp only [if_pos h];assumption)) ?_)|(refine Xe rfl ?_)|(refine Xh rfl rfl rfl ?_)|(refine Xg rfl rfl rfl ?_)|(refine Xf ?_)|(refine yu rfl rfl ?_)|(refine Yb rfl rfl (by assumption) ?_)|(refine Ya rfl rfl (by assumption) ?_)|(refine Xj rfl rfl (by assumption) ?_)|(refine Xi rfl rfl (by assumption) ?_)|(refine Z9 rfl rfl (by first|exact fun _=>rfl|exact fun _=>(by assumption)|exact fun h=>(by simp only [if_pos h];rfl)|exact fun h=>(by simp only [if_pos h];assumption)) ?_)|(refine Xk rfl rfl (by first|exact fun _=>rfl|exact fun h=>(by simp only [if_pos h];rfl)|exact fun h=>(by simp only [if_pos h];assumption)) (by assumption) ?_)|(refine yu rfl (by assumption) ?_)|(refine Y8 ?_)|(refine Y9 ?_)|(refine ZA wq ?_)|(refine Zz ?_)|(refine Xm ?_))
 refine yu rfl (Fx (lo:=i+(n-j)) (hi:=n) oM oM) ?_;obtain⟨H2,t1,t2,t3,t4⟩:=s2.stores (cs:=z7 [.int .i64 0] ((n-(i+(n-j)))*1)) (i:=i+(n-j)) (by rw [W0,Q9];omega);refine NW rfl (v:=V.undef) (H':=H2) ?_ trivial ?_
 ·show qM .lf H1 (.clear 1 [.int .i64 0] (.c (.one (.slc b (0+(i+(n-j))*1) (n-(i+(n-j))) (cap-(i+(n-j))) 1 ex))))=_
  simp only [qM,Opd.ev,if_true,Nat.zero_add,Nat.mul_one];simp only [Nat.mul_one] at t1;rw [t1];rfl
 repeat (first|(refine vP rfl rfl (by first|exact fun _=>rfl|exact fun h=>(by simp only [if_pos h];rfl)|exact fun h=>(by simp only [if_pos h];assumption)) (by first|exact fun _=>rfl|exact fun h=>(by simp only [if_pos h];rfl)|exact fun h=>(by simp only [if_pos h];assumption)) ?_)|(refine Xe rfl ?_)|(refine Xh rfl rfl rfl ?_)|(refine Xg rfl rfl rfl ?_)|(refine Xf ?_)|(refine yu rfl rfl ?_)|(refine Yb rfl rfl (by assumption) ?_)|(refine Ya rfl rfl (by assumption) ?_)|(refine Xj rfl rfl (by assumption) ?_)|(refine Xi rfl rfl (by assumption) ?_)|(refine Z9 rfl rfl (by first|exact fun _=>rfl|exact fun _=>(by assumption)|exact fun h=>(by simp only [if_pos h];rfl)|exact fun h=>(by simp only [if_pos h];assumption)) ?_)|(refine Xk rfl rfl (by first|exact fun _=>rfl|exact fun h=>(by simp only [if_pos h];rfl)|exact fun h=>(by simp only [if_pos h];assumption)) (by assumption) ?_)|(refine yu rfl (by assumption) ?_)|(refine Y8 ?_)|(refine Y9 ?_)|(refine ZA wq ?_)|(refine Zz ?_)|(refine Xm ?_))
 refine NY ⟨_,rfl,rfl,?_⟩;rw [Ky (cells:=cells) (by omega)] at t2;rw [Ky (by rw [W0];simp;omega)] at t2;have e2:(cells.take i++(cells.drop j).take (n-j)++cells.drop (i+((cells.drop j).take (n-j)).length)).take (i+(n-j))=cells.take i++(cells.drop j).take (n-j):=by
  rw [List.take_append_of_le_length (by simp;omega),List.take_of_length_le (by simp;omega)]
 rw [e2,List.append_assoc] at t2;refine⟨_,t2,?_,fun b' hb'=>by rw [t3 b' hb',s3 b' hb'];rfl,by rw [t4,s4];rfl⟩;have:=t2.2;simp [W0];omega
end Go.Ah

namespace Go.Ab
theorem SR.skip{p:Par}{Z:Nat->Prop}{β:qq}{H:Hp}{S:Bx}{nk:Nat}(hS:SR p Z β H S nk)(rs:Nat):SR p Z β (H.skip rs) S nk:=
 ⟨hS.wf.skip rs,by simp;have:=hS.lo;omega,fun b hb=>by simp;have:=hS.z b hb;omega,hS.zlo,hS.zz,hS.glob,hS.nk,fun k b N hk=>by simp;have:=hS.bd k b N hk;omega,fun k x hk=>by
  obtain⟨s,hs,hbx⟩:=hS.box k x hk;exact⟨s,hs,jI.mono (H:=H) (H':=H.skip rs) (xD.refl β) (by simp) (fun _ _=>rfl) hbx⟩,hS.inj,hS.blo,hS.anch,hS.ancn⟩
theorem bW{p:Par}{n:Nat}{Q:Exit->qo->Bx->Nat->Prop}{E:qo}{S:Bx}{nk:Nat}{s:SC}(k m:Nat){l:List FD}(hk:lk S k=some (.data l))(h:DPS p n s Q E (put k (.data (l.take m)) S) nk):DPS p n s Q E S nk:=.mk fun Z β H F hS hE=>by
 refine h.run Z β H F ?_ hE;refine⟨hS.wf,hS.lo,hS.z,hS.zlo,hS.zz,hS.glob,hS.nk,hS.bd,fun κ x hκ=>?_,fun κ κ' x x' b N N' hj hj'=>?_,hS.blo,hS.anch,hS.ancn⟩
 ·rw [ZE hk rfl] at hκ;split at hκ
  ·rename_i e;split at hκ
   ·rename_i e2;obtain rfl:=vg e e2;obtain rfl:=zsi hκ;obtain⟨s,hs,hbx⟩:=hS.box (k,0) _ (xL hk rfl);refine⟨s,hs,?_⟩;cases s with
    |nil=>
     have:l.length=0:=hbx;show (l.take m).length=0;rw [List.length_take,this];simp
    |blk b N=>
     obtain⟨h1,h2,h3,cs,rest,h4,h5,h6⟩:=hbx;refine⟨h1,h2,h3,cs.take m,cs.drop m++rest,?_,?_,qe.take h6 m⟩
     ·rw [<-List.append_assoc,List.take_append_drop];exact h4
     ·rw [<-List.append_assoc,List.take_append_drop];exact h5
   ·cases hκ
  ·exact hS.box κ x hκ
 ·have f:∀i z,lk (put k (.data (l.take m)) S) i=some z->∃z',lk S i=some z':=fun i z hz=>by
   rw [yY] at hz;split at hz
   ·cases hl:lk S i with
    |none=>rw [hl] at hz;cases hz
    |some q=>exact⟨q,rfl⟩
   ·exact⟨z,hz⟩
  obtain⟨z1,e1⟩:=f _ x hj;obtain⟨z2,e2⟩:=f _ x' hj';exact hS.inj κ κ' z1 z2 b N N' e1 e2
end Go.Ab
namespace Go.Ah
open Go.Ab Go.Proofs
theorem AF{k n i j nk:Nat}{l:List FD}{S:Bx}(hk:lk S k=some (.data l))(hl:l.length=n)(hij:i<j)(hjn:j<=n)(hn:n<1000000000):Zd 148 [.one (.own k 0 n 1),.int i,.int j] S nk fun d S' nk'=>d=.one (.own k 0 (i+(n-j)) 1)/\nk'=nk/\S'=put k (.data (l.take i++l.drop j)) S:=by
 intro Z0 lo anc β0 H1 Z β H args hS ha
 match args,ha with
 |[v1,v2,v3],⟨h1,h2,h3,_⟩=>
  obtain⟨c1,rfl,h1⟩:=h1;obtain⟨c2,rfl,h2⟩:=h2;obtain⟨c3,rfl,h3⟩:=h3;cases h2;cases h3;rcases h1 with⟨_,h1,_⟩|⟨b,N,cap,ex,hb,rfl,hcap,hN⟩
  ·omega
  ·obtain⟨s,hs,hbx⟩:=hS.box (k,0) _ (xL hk rfl);rw [hb] at hs;obtain rfl:=zsi hs;obtain⟨hz,hlo,hlt,cs,rest,hrow,hNl,hrel⟩:=hbx;have hrow:zM H b (cs++rest):=hrow;have hNl:(cs++rest).length=N:=hNl;have hcl:cs.length=n:=by rw [<-hl];exact (qe.len hrel).symm
   refine (TN hrow hcap oM hij hjn hn).mono ?_;rintro v H' ⟨rfl,rest',hrow',hlen',hoth,hnx⟩;have e1:(cs++rest).take i=cs.take i:=List.take_append_of_le_length oM;have e2:((cs++rest).drop j).take (n-j)=cs.drop j:=by
    rw [List.drop_append_of_le_length (by omega),List.take_append_of_le_length (by simp;omega),List.take_of_length_le (by simp;omega)]
   rw [e1,e2] at hrow' hlen';obtain⟨hS',hZ⟩:=(hS.skip 8).upd (x':=.data (l.take i++l.drop j)) (cs:=cs.take i++cs.drop j) (rest:=rest') hk rfl hb (qe.append (qe.take (qe.mono (fun _ _=>RF.mono (xd.of_get (H:=H) (H':=H.skip 8) (fun _ h=>h) fun _ _=>rfl)) hrel) i) (qe.drop (qe.mono (fun _ _=>RF.mono (xd.of_get (H:=H) (H':=H.skip 8) (fun _ h=>h) fun _ _=>rfl)) hrel) j)) (fun b' hb'=>by rw [hoth b' hb'];rfl) (by rw [hnx];rfl) rfl hrow' (by rw [hlen',hNl]);exact⟨.one (.own k 0 (i+(n-j)) 1),_,_,Z,β,hS',⟨_,rfl,.inr ⟨b,N,cap,ex,hb,rfl,oM,hN⟩⟩,hZ,fun _ _ h=>h,rfl,rfl,rfl⟩
end Go.Ah

namespace Go.Ah
open Go.Ab Go.Proofs
abbrev xk:=List (Int × List Int)
def qU(R:xk):List (Int × ME):=R.map fun e=>(e.1,.row (e.2.map iF))
def GT(es:List (Int × ME))(left:Int)(A B:List FD)(a b:Int):Bx:=[(0,.mt es),(1,.cells [.om 0]),(2,.cells [.f (.c (.int .i64 left))]),(3,.data A),(4,.data B),(5,.cells [.f (.c (.int .i64 a)),.f (.c (.int .i64 b))])]
def SS(R:xk)(left:Int)(A B:List FD)(a b:Int):Bx:=GT (qU R) left A B a b
def wu(low high x:Int):Bool:=decide (low<=x)&&decide (x<=high)
def yJ(R:xk)(y low high:Int):List qd:=(R.filter fun e=>decide (e.1=y)).flatMap fun e=>(e.2.filter (wu low high)).map fun x=>(x,y)
def lft(R:xk)(y low high:Int):xk:=R.map fun e=>(e.1,if e.1=y then e.2.filter (fun x=>!(wu low high x)) else e.2)
structure RowsOk (R:xk):Prop where
 nd:(R.map (·.1)).Nodup
 asc:∀e∈R,Eh e.2
 len:∀e∈R,e.2.length<1000000
theorem Jf(R:xk):jQ 0 (qU R)=true:=by
 unfold qU;induction R with
 |nil=>rfl
 |cons e R ih=>exact ih
theorem WT{R:xk}{i:Nat}{e:Int × List Int}(h:R[i]?=some e):(qU R)[i]?=some (e.1,.row (e.2.map iF)):=by simp [qU,h]
theorem WO{R:xk}{y low high:Int}(h:∀e∈R,e.1≠y):yJ R y low high=[]/\lft R y low high=R:=by
 constructor
 ·unfold yJ;rw [List.filter_eq_nil_iff.2 (fun e he=>by simpa using h e he)];rfl
 ·unfold lft
  conv=>rhs;rw [<-List.map_id R]
  exact List.map_congr_left fun e he=>by rw [if_neg (h e he)];rfl
theorem AS{x:Int}:DK 147 [.one (.f (.c .nils)),.int x] fun d=>∃b:Bool,d=.tup [.int 0,.bool b]:=fun H Z args hw hz hg ha=>by
 match args,ha with
 |[v1,v2],⟨h1,h2,_⟩=>
  obtain⟨c,rfl,h1⟩:=h1;cases h1;refine (gT (row:=[]) (x:=x) (fun i j x y _ h=>by simp at h) (by simp) H Z [.one .nils,v2] hw hz hg ⟨⟨_,rfl,RF.nil 1⟩,h2,trivial⟩).mono ?_;rintro v H' ⟨g1,g2,g3,d,g4,i,b,rfl,g5,_⟩;simp at g5;subst g5;exact⟨g1,g2,g3,_,g4,b,rfl⟩
theorem Yq{R:xk}(hnd:(R.map (·.1)).Nodup){i:Nat}{e:Int × List Int}(h:R[i]?=some e):∀(j:Nat) (e':Int × ME),j<i->(qU R)[j]?=some e'->e'.1≠e.1:=by
 intro j e' hj he' heq;have hjl:j<R.length:=by have:=(zgs he').1;simpa [qU] using this
 have he2:R[j]?=some R[j]:=zge hjl;have h3:=WT he2;rw [he'] at h3;obtain rfl:=zsi h3;have k1:(R.map (·.1))[j]?=some e.1:=by simp [he2];exact heq
 have k2:(R.map (·.1))[i]?=some e.1:=by simp [h]
 have:=(List.getElem?_inj (by simpa using hjl) hnd).1 (k1.trans k2.symm);omega
theorem wF(f:DC->DC)(R:xk):yW f (qU R)=qU R:=by
 unfold yW qU;rw [List.map_map];exact List.map_congr_left fun e _=>rfl
theorem Q7(n:Nat)(R:xk):Wy n (qU R)=true:=by
 unfold qU;induction R with
 |nil=>rfl
 |cons e R ih=>exact ih
theorem oB{ρ:List (Nat × Nat)}{n0:Nat}{S:Bx}{es es':List (Int × ME)}{left:Int}{A B:List FD}{a b:Int}(he:yW (Y4 ρ) es=es')(hs:Wy n0 es=true)(h0:lk S (rn ρ 0)=some (.mt es'))(h1:lk S (rn ρ 1)=some (.cells [.om (rn ρ 0)]))(h2:lk S (rn ρ 2)=some (.cells [.f (.c (.int .i64 left))]))(h3:lk S (rn ρ 3)=some (.data A))(h4:lk S (rn ρ 4)=some (.data B))(h5:lk S (rn ρ 5)=some (.cells [.f (.c (.int .i64 a)),.f (.c (.int .i64 b))]))(hn:6<=n0):WN ρ n0 S (GT es left A B a b):=by
 have hb:∀k,k<6->Nat.blt k n0=true:=fun k hk=>Nat.ble_eq_true_of_le oM;have hb0:=hb 0 oM;refine⟨?_,hs,hb 0 oM,h1,?_,hb 1 oM,h2,rfl,hb 2 oM,h3,rfl,hb 3 oM,h4,rfl,hb 4 oM,h5,rfl,hb 5 oM,trivial⟩
 ·rw [h0];simp only [Xc,he]
 ·simp only [Wz,qE,wX,hb0]
theorem oC{ρ:List (Nat × Nat)}{n0:Nat}{S:Bx}{R:xk}{left:Int}{A B:List FD}{a b:Int}(h0:lk S (rn ρ 0)=some (.mt (qU R)))(h1:lk S (rn ρ 1)=some (.cells [.om (rn ρ 0)]))(h2:lk S (rn ρ 2)=some (.cells [.f (.c (.int .i64 left))]))(h3:lk S (rn ρ 3)=some (.data A))(h4:lk S (rn ρ 4)=some (.data B))(h5:lk S (rn ρ 5)=some (.cells [.f (.c (.int .i64 a)),.f (.c (.int .i64 b))]))(hn:6<=n0):WN ρ n0 S (SS R left A B a b):=
 oB (wF _ R) (Q7 n0 R) h0 h1 h2 h3 h4 h5 hn
theorem a7(f:DC->DC)(R:xk)(i:Nat)(y:Int)(d:DC):yW f ((qU R).set i (y,.out d))=(qU R).set i (y,.out (f d)):=by
 have:=wF f R;unfold yW at this ⊢;rw [List.map_set,this];rfl
theorem VE{n:Nat}{d:DC}(hd:wX n d=true)(y:Int):∀(R:xk) (i:Nat),Wy n ((qU R).set i (y,.out d))=true
 |[],i=>rfl
 |e::R,0=>by
  show Wy n ((y,.out d)::qU R)=true
  simp only [Wy,hd,Q7]
 |e::R,i+1=>VE hd y R i
theorem Yd{d:DC}(hd:jB 0 d=true)(y:Int):∀(R:xk) (i:Nat),jQ 0 ((qU R).set i (y,.out d))=true
 |[],i=>rfl
 |e::R,0=>by
  show jQ 0 ((y,.out d)::qU R)=true
  simp only [jQ,hd,Jf]
 |e::R,i+1=>Yd hd y R i
theorem VK{l:List Int}{x:Int}(h:x∈l):∃k:Nat,l[k]?=some x:=List.getElem?_of_mem h
theorem Gg{xs:List Int}{i j:Nat}{low high:Int}(hij:i<=j)(hj:j<=xs.length)(h1:∀(k:Nat) (y:Int),k<i->xs[k]?=some y->y<low)(h2:∀(k:Nat) (y:Int),i<=k->xs[k]?=some y->low<=y)(h3:∀(k:Nat) (y:Int),i<=k->k<j->xs[k]?=some y->y<=high)(h4:∀(k:Nat) (y:Int),j<=k->xs[k]?=some y->high<y):
 xs.filter (wu low high)=(xs.drop i).take (j-i)/\xs.filter (fun x=>!(wu low high x))=xs.take i++xs.drop j:=by
 have hsp:xs=xs.take i++((xs.drop i).take (j-i)++xs.drop j):=by
  have:xs.drop j=(xs.drop i).drop (j-i):=by rw [List.drop_drop];congr 1;omega
  rw [this,List.take_append_drop,List.take_append_drop]
 have a1:∀x∈xs.take i,wu low high x=false:=fun x hx=>by
  obtain⟨k,hk⟩:=VK hx;rw [List.getElem?_take] at hk;split at hk
  ·have:=h1 k x aM hk;simp [wu];omega
  ·cases hk
 have a2:∀x∈(xs.drop i).take (j-i),wu low high x=true:=fun x hx=>by
  obtain⟨k,hk⟩:=VK hx;rw [List.getElem?_take] at hk;split at hk
  ·rw [List.getElem?_drop] at hk;have k1:=h2 (i+k) x oM hk;have k2:=h3 (i+k) x oM oM hk;simp [wu];omega
  ·cases hk
 have a3:∀x∈xs.drop j,wu low high x=false:=fun x hx=>by
  obtain⟨k,hk⟩:=VK hx;rw [List.getElem?_drop] at hk;have:=h4 (j+k) x oM hk;simp [wu];omega
 constructor
 ·conv=>lhs;rw [hsp]
  rw [List.filter_append,List.filter_append,List.filter_eq_nil_iff.2 (fun x hx=>by rw [a1 x hx];simp),List.filter_eq_self.2 a2,List.filter_eq_nil_iff.2 (fun x hx=>by rw [a3 x hx];simp)];simp
 ·conv=>lhs;rw [hsp]
  rw [List.filter_append,List.filter_append,List.filter_eq_self.2 (fun x hx=>by rw [a1 x hx];rfl),List.filter_eq_nil_iff.2 (fun x hx=>by rw [a2 x hx];simp),List.filter_eq_self.2 (fun x hx=>by rw [a3 x hx];rfl)];simp
theorem dU:∀{R:xk} {i:Nat} {y low high:Int} {xs:List Int},(R.map (·.1)).Nodup->R[i]?=some (y,xs)->yJ R y low high=(xs.filter (wu low high)).map (fun x=>(x,y))/\lft R y low high=R.set i (y,xs.filter (fun x=>!(wu low high x)))
 |[],i,y,low,high,xs,_,h=>by simp at h
 |e::R,0,y,low,high,xs,hnd,h=>by
  simp at h;subst h;simp only [List.map_cons,List.nodup_cons,List.mem_map,not_exists,not_and] at hnd;obtain⟨t1,t2⟩:=WO (R:=R) (y:=y) (low:=low) (high:=high) (fun e he h=>hnd.1 e he h);constructor
  ·unfold yJ at t1 ⊢;simp [t1]
  ·unfold lft at t2 ⊢;simp [t2]
 |e::R,i+1,y,low,high,xs,hnd,h=>by
  simp only [List.map_cons,List.nodup_cons,List.mem_map,not_exists,not_and] at hnd;have hi:R[i]?=some (y,xs):=by simpa using h
  obtain⟨t1,t2⟩:=dU (low:=low) (high:=high) hnd.2 hi;have hne:e.1≠y:=fun he=>hnd.1 (y,xs) (zmg hi) he.symm;constructor
  ·unfold yJ at t1 ⊢;rw [List.filter_cons,if_neg (by simpa using hne)];exact t1
  ·unfold lft at t2 ⊢;rw [List.map_cons,t2,if_neg hne];rfl
theorem Y3(R:xk)(i:Nat)(y:Int)(xs:List Int):qU (R.set i (y,xs))=(qU R).set i (y,.row (xs.map iF)):=by simp [qU,List.map_set]
theorem nC{R:xk}{left y low high:Int}{A B:List FD}{a b:Int}(hR:RowsOk R)(hl: -1000000000<left)(hl':left<1000000000):Zd 146 [.int y,.int low,.int high,.one (.ptr 1 0),.one (.ptr 2 0)] (SS R left A B a b) 6 fun d S nk=>d=.one (.own 7 0 (yJ R y low high).length 2)/\S=(7,.data ((yJ R y low high).flatMap qh))::SS (lft R y low high) (left-(yJ R y low high).length) A B a b/\nk=8:=by
 refine w9 Dd rfl fun Z β H lo=>?_;by_cases hy:∃(i:Nat) (xs:List Int),R[i]?=some (y,xs)
 ·obtain⟨i0,xs,hi0⟩:=hy;obtain⟨t1,t2⟩:=dU (low:=low) (high:=high) hR.nd hi0;have hasc:=hR.asc _ (zmg hi0);have hlen:=hR.len _ (zmg hi0);simp only at hasc hlen;have hs:=gT (row:=xs) (x:=low) hasc oM;obtain⟨N,hN⟩:∃N,(xs.map iF).length=N:=⟨_,rfl⟩;have hN':xs.length=N:=by rw [<-hN];simp
  rw [show cU xs=DV.one (.f (.sl 1 N (xs.map iF))) from by rw [cU,hN']] at hs;refine qa ?_;intros;refine gK rfl rfl rfl (WT hi0) (Yq hR.nd hi0) rfl (Jf R) rfl rfl ?_;rw [hN];refine qa ?_;intros;refine XC (ds:=[.one (.f (.sl 1 N (xs.map iF))),.int low]) rfl ⟨⟨_,rfl,_,_,rfl,qp _ (by rw [hN];omega),rfl⟩,⟨_,rfl,rfl,rfl⟩,trivial⟩ hs ?_ ?_
  ·rintro _ ⟨i,b,rfl,_⟩;rfl
  rintro _ ⟨i,bb,rfl,hi,hlo,hhi⟩;refine qa ?_;intros;refine QX 13 2 rfl ?_;rw [hN'] at hi;have hT:∀c:Nat,i+c<=N->((((xs.drop i).take c).map fun x=>(x,y)).flatMap qh).length=c*2:=fun c hc=>by rw [qL];simp;omega
  refine qm (fun m E S nk=>∃c:Nat,i+c<=N/\m=N-(i+c)/\(∀(k:Nat) (z:Int),i<=k->k<i+c->xs[k]?=some z->z<=high)/\E=[(0,.int y),(2,.int high),(3,.one (.ptr 1 0)),(4,.one (.ptr 2 0)),(9,.one (.own 6 0 N 1)),(10,.int i),(12,.int (i+c:Nat)),(13,.one (.own 7 0 c 2))]/\S=(7,.data ((((xs.drop i).take c).map fun x=>(x,y)).flatMap qh))::(6,.data (xs.map iF))::GT ((qU R).set i0 (y,.out (.own 6 0 N 1))) left A B a b/\nk=8) ⟨N-i,_,_,_,[],?wk,0,hi,rfl,fun k z h1 h2=>oM,rfl,rfl,rfl⟩ ?_
  case wk=>exact⟨xH,⟨rfl,rfl,rfl,rfl,rfl,rfl,oB (a7 _ R i0 y _) (VE rfl y R i0) rfl rfl rfl rfl rfl rfl oM⟩,rfl,rfl⟩
  rintro m E S nk ⟨c,hj,hm,hle,rfl,rfl,rfl⟩;have hTc:=hT c hj;have fin:(∀(k:Nat) (z:Int),i+c<=k->xs[k]?=some z->high<z)->DPS (parK Z lo 6 β H) C2.n (((SC.ops u4 0 true).seq (SC.cond (Opd.t 49) ((SC.ops u0 7 true).seq (SC.ops mZ 0 true)) SC.skip)).seq ((SC.ops mY 0 true).seq SC.ret)) (VF (parK Z lo 6 β H) C2.res fun d S nk=>d=DV.one (DC.own 7 0 (yJ R y low high).length 2)/\S=(7,Bk.data (List.flatMap qh (yJ R y low high)))::SS (lft R y low high) (left-↑(yJ R y low high).length) A B a b/\nk=8)
   [(0,.int y),(2,.int high),(3,.one (.ptr 1 0)),(4,.one (.ptr 2 0)),(9,.one (.own 6 0 N 1)),(10,.int i),(12,.int (i+c:Nat)),(13,.one (.own 7 0 c 2))] ((7,.data ((((xs.drop i).take c).map fun x=>(x,y)).flatMap qh))::(6,.data (xs.map iF))::GT ((qU R).set i0 (y,.out (.own 6 0 N 1))) left A B a b) 8:=by
   intro hgt;obtain⟨f1,f2⟩:=Gg (low:=low) (high:=high) (Nat.le_add_right i c) oM hlo hhi hle hgt;rw [Nat.add_sub_cancel_left] at f1;rw [f1] at t1;rw [f2] at t2;have htl:(yJ R y low high).length=c:=by rw [t1];simp;omega
   rw [t2,htl,t1];have hes:∀d:DC,((qU R).set i0 (y,.out d))[i0]?=some (y,.out d):=fun d=>by
    have:i0<(qU R).length:=by have:=(zgs hi0).1;simpa [qU] using this
    rw [List.getElem?_set_self this]
   have hfs:∀(d:DC) (j:Nat) (e':Int × ME),j<i0->((qU R).set i0 (y,.out d))[j]?=some e'->e'.1≠y:=fun d j e' hj he=>by
    rcases Q8 he with⟨h,_⟩|⟨_,h⟩
    ·omega
    ·exact Yq hR.nd hi0 j e' hj h
   by_cases hc:0<c
   ·have g2:decide (((i+c:Nat):Int)>(i:Nat))=true:=decide_eq_true oM;refine xn ?_;intros;refine qb rfl (fun _=>?_) (fun h=>by cases h);refine qa ?_;intros;refine TJ rfl rfl (AF rfl hN oM oM oM _ _ _ _ _) ?_;rintro d S' nk' ⟨rfl,rfl,rfl⟩;refine⟨⟨rfl,⟨_,rfl,rfl,rfl,rfl⟩,trivial⟩,?_⟩;refine nF rfl rfl rfl rfl (hes _) (hfs _) rfl ?_;rw [List.set_set];refine qa ?_;intros;have hq:((xs.map iF).take i++(xs.map iF).drop (i+c)).length=i+(N-(i+c)):=by simp;omega
    refine AK 0 6 i0 rfl rfl (by rw [hq];exact hes _) rfl (Yd rfl y R i0) rfl ?_;rw [List.set_set];refine qa ?_;intros;have hw1:IntKind.i64.wrap (left-IntKind.i64.wrap (((i+c:Nat):Int)-(i:Nat)))=left-c:=by
     rw [qg (n:=((i+c:Nat):Int)-(i:Nat)) (by omega) (by omega),qg (by omega) (by omega)];omega
    have hm1:qU (R.set i0 (y,xs.take i++xs.drop (i+c)))=(qU R).set i0 (y,.row ((xs.map iF).take i++(xs.map iF).drop (i+c))):=by rw [Y3];simp
    refine qc ⟨_,rfl,rfl,_,?_,rfl,rfl,rfl⟩;refine qf (k:=7) rfl (qf (k:=0) ?_ (qf (k:=1) rfl (qf (k:=2) ?_ (qf (k:=3) rfl (qf (k:=4) rfl (qf (k:=5) rfl (qw _)))))))
    ·rw [hm1];rfl
    ·rw [<-hw1];rfl
   ·obtain rfl:c=0:=by omega
    have g2:decide (((i+0:Nat):Int)>(i:Nat))=false:=decide_eq_false oM;refine xn ?_;intros;refine qb rfl (fun h=>by cases h) (fun _=>?_);refine qa ?_;intros;refine AK 0 6 i0 rfl rfl (by rw [hN];exact hes _) rfl (Yd rfl y R i0) rfl ?_;rw [List.set_set];refine qa ?_;intros;have hm1:qU (R.set i0 (y,xs.take i++xs.drop (i+0)))=(qU R).set i0 (y,.row (xs.map iF)):=by rw [Y3];simp
    refine qc ⟨_,rfl,rfl,_,?_,rfl,rfl,rfl⟩;refine qf (k:=7) rfl (qf (k:=0) ?_ (qf (k:=1) rfl (qf (k:=2) ?_ (qf (k:=3) rfl (qf (k:=4) rfl (qf (k:=5) rfl (qw _)))))))
    ·rw [hm1];rfl
    ·simp;rfl
  by_cases hjN:i+c<N
  ·have g1:decide (((i+c:Nat):Int)<N)=true:=decide_eq_true oM;obtain⟨x,hx⟩:∃x,xs[i+c]?=some x:=⟨_,zge oM⟩;have e1:qT (xs.map iF) (Int.toNat ((i+c:Nat):Int)) 1=some [iF x]:=by have:=cW hx;rw [Nat.mul_one] at this;exact this
   refine xn ?_;intros;refine qb rfl (fun hl2=>?_) (fun hl2=>?_)
   ·have hxh:x<=high:=by simpa using hl2
    refine qa ?_;intros;refine qy rfl rfl rfl (qp _ hTc) ⟨rfl,rfl,_,rfl,rfl⟩ oM oM (by decide) rfl ?_;refine qa ?_;intros;have hD:(((xs.drop i).take c).map fun x=>(x,y)).flatMap qh++[iF x,.c (.int .i64 y)]=(((xs.drop i).take (c+1)).map fun x=>(x,y)).flatMap qh:=by
     rw [List.take_add_one,List.getElem?_drop,hx];simp [qh,iF]
    refine⟨N-(i+(c+1)),oM,_,_,_,[(7,9)],?wk1,c+1,oM,rfl,fun k z h1 h2 hz=>?_,rfl,rfl,rfl⟩
    case wk1=>exact⟨xH,⟨congrArg (fun z=>some (Bk.data z)) hD,rfl,rfl,rfl,rfl,rfl,oB (a7 _ R i0 y _) (VE rfl y R i0) rfl rfl rfl rfl rfl rfl oM⟩,rfl,rfl⟩
    rcases Nat.lt_or_ge k (i+c) with h|h
    ·exact hle k z h1 h hz
    ·obtain rfl:k=i+c:=by omega
     rw [hx] at hz;obtain rfl:=zsi hz;exact hxh
   ·have hxh:high<x:=by simpa using hl2
    refine ya ?_;refine qu (E0:=[(0,.int y),(2,.int high),(3,.one (.ptr 1 0)),(4,.one (.ptr 2 0)),(9,.one (.own 6 0 N 1)),(10,.int i),(12,.int (i+c:Nat)),(13,.one (.own 7 0 c 2))]) (qf (k:=0) rfl (qf (k:=2) rfl (qf (k:=3) rfl (qf (k:=4) rfl (qf (k:=9) rfl (qf (k:=10) rfl (qf (k:=12) rfl (qf (k:=13) rfl (qw _))))))))) (zj _) (fin fun k z hk hz=>?_);rcases Nat.lt_or_ge (i+c) k with h|h
    ·have:=hasc (i+c) k x z h hx hz;omega
    ·obtain rfl:k=i+c:=by omega
     rw [hx] at hz;obtain rfl:=zsi hz;exact hxh
  ·have g1:decide (((i+c:Nat):Int)<N)=false:=decide_eq_false oM;refine xn ?_;intros;refine qb rfl (fun h=>by cases h) (fun _=>?_);refine ya ?_;refine qu (E0:=[(0,.int y),(2,.int high),(3,.one (.ptr 1 0)),(4,.one (.ptr 2 0)),(9,.one (.own 6 0 N 1)),(10,.int i),(12,.int (i+c:Nat)),(13,.one (.own 7 0 c 2))]) (qf (k:=0) rfl (qf (k:=2) rfl (qf (k:=3) rfl (qf (k:=4) rfl (qf (k:=9) rfl (qf (k:=10) rfl (qf (k:=12) rfl (qf (k:=13) rfl (qw _))))))))) (zj _) (fin fun k z hk hz=>?_);have:=(zgs hz).1;omega
 ·have hn:∀e∈R,e.1≠y:=fun e he h=>hy (by
   obtain⟨i,hi⟩:=List.getElem?_of_mem he;exact⟨i,e.2,by rw [hi,<-h]⟩)
  obtain⟨ht,hlf⟩:=WO (low:=low) (high:=high) hn;rw [ht,hlf];refine qa ?_;intros;refine bV rfl rfl rfl (fun e he=>?_) rfl ?_
  ·simp only [qU,List.mem_map] at he;obtain⟨e',he',rfl⟩:=he;exact hn e' he'
  refine qa ?_;intros;refine qj rfl rfl AS ?_;rintro _ ⟨bb,rfl⟩;refine qa ?_;intros;refine qm (fun m E S nk=>E=[(9,.one (.f (.c .nils))),(10,.int 0),(12,.int 0),(13,.one (.f (.c .nils)))]/\S=SS R left A B a b/\nk=6) ⟨0,_,_,_,[],?wk,rfl,rfl,rfl⟩ ?_
  case wk=>exact⟨xH,oC rfl rfl rfl rfl rfl rfl oM,rfl,rfl⟩
  rintro m E S nk ⟨rfl,rfl,rfl⟩;refine qa ?_;intros;refine qb rfl (fun h=>by cases h) (fun _=>?_);refine qa ?_;intros;refine qb rfl (fun h=>by cases h) (fun _=>?_);refine qa ?_;intros;refine QX 8 2 rfl ?_;refine wi [(7,6)] (n0:=8) (E0:=[(8,.one (.own 7 0 0 2))]) (S0:=(7,.data [])::SS R left A B a b) ?wk2 ?_
  case wk2=>exact⟨xH,⟨rfl,rfl,rfl,oC rfl rfl rfl rfl rfl rfl oM⟩,rfl,rfl⟩
  exact qc ⟨_,rfl,rfl,_,zj _,by simp,by simp,rfl⟩
theorem K6(p q:qd):0<=xg p q:=by simp only [xg];omega
theorem C1(p q:qd):xg p q=xg q p:=by simp only [xg];omega
theorem far_zero(p q:qd):xg p q=0↔p=q:=by
 obtain⟨p1,p2⟩:=p;obtain⟨q1,q2⟩:=q;simp only [xg,zpi];omega
theorem W3{a b:List qd}{z:Int}:z∈zS a b↔∃x∈a,∃y∈b,xg x y=z:=by simp [zS]
theorem X9{a b:List qd}(ha:a≠[])(hb:b≠[]):(∃x∈a,∃y∈b,xg x y=xC a b)/\∀x∈a,∀y∈b,xC a b<=xg x y:=by
 obtain⟨p,a',rfl⟩:=List.exists_cons_of_ne_nil ha;obtain⟨q,b',rfl⟩:=List.exists_cons_of_ne_nil hb;have hd:xC (p::a') (q::b')=(zS (p::a') (q::b')).foldl min (xg p q):=rfl;refine⟨?_,fun x hx y hy=>?_⟩
 ·rcases YP (zS (p::a') (q::b')) (xg p q) with h|h
  ·exact⟨p,by simp,q,by simp,by rw [hd,h]⟩
  ·exact W3.1 (hd▸h)
 ·rw [hd];exact (Jv _ _).2 _ (W3.2 ⟨x,hx,y,hy,rfl⟩)
theorem AO(a b:List qd):xC a b=xC b a:=by
 by_cases ha:a=[]
 ·subst ha;cases b<;>rfl
 ·by_cases hb:b=[]
  ·subst hb;cases a<;>rfl
  ·obtain⟨⟨x,hx,y,hy,h⟩,h1⟩:=X9 ha hb;obtain⟨⟨x',hx',y',hy',h'⟩,h2⟩:=X9 hb ha;have g1:=h1 y' hy' x' hx';have g2:=h2 y hy x hx;rw [C1] at g1 g2;omega
end Go.Ah

namespace Go.Ah
open Go.Ab
inductive Conn (gap:Int) (rest:List qd) (p:qd):qd->Prop
 |base:p∈rest->Conn gap rest p p
 |step {x y:qd}:Conn gap rest p x->y∈rest->xg x y<=gap->Conn gap rest p y
def minus(l c:List qd):List qd:=l.filter fun x=>!decide (x∈c)
theorem yX{l c:List qd}{x:qd}:x∈minus l c↔x∈l/\x∉c:=by simp [minus]
inductive ClS (gap:Int):List qd->List (List qd)->Prop
 |nil:ClS gap [] []
 |cons {p:qd} {r c:List qd} {cs:List (List qd)}:qS c->(∀x,x∈c↔Conn gap (p::r) p x)->ClS gap (minus (p::r) c) cs->ClS gap (p::r) (c::cs)
theorem ClS.uniq{gap:Int}{l:List qd}{a b:List (List qd)}(ha:ClS gap l a)(hb:ClS gap l b):a=b:=by
 induction ha generalizing b with
 |nil=>cases hb;rfl
 |cons h1 h2 h3 ih=>
  cases hb with
  |cons g1 g2 g3=>
   have e:=qS.ext h1 g1 fun p=>(h2 p).trans (g2 p).symm;subst e;rw [ih g3]
theorem Conn.mem{gap:Int}{rest:List qd}{p x:qd}(h:Conn gap rest p x):x∈rest:=by
 cases h with
 |base h=>exact h
 |step _ h _=>exact h
theorem Conn.start{gap:Int}{rest:List qd}{p x:qd}(h:Conn gap rest p x):p∈rest:=by
 induction h with
 |base h=>exact h
 |step _ _ _ ih=>exact ih
theorem WH{gap:Int}{rest one:List qd}{p:qd}(hp:p∈one)(hc:∀x∈one,Conn gap rest p x)(hcl:∀x∈one,∀y∈rest,xg x y<=gap->y∈one)(x:qd):x∈one↔Conn gap rest p x:=by
 constructor
 ·exact hc x
 ·intro h;induction h with
  |base _=>exact hp
  |step _ h2 h3 ih=>exact hcl _ ih _ h2 h3
theorem qS.filter{l:List qd}(h:qS l)(f:qd->Bool):qS (l.filter f):=List.Pairwise.filter f h
theorem qS.minus{l:List qd}(h:qS l)(c:List qd):qS (minus l c):=h.filter _
theorem qS.nodup{l:List qd}(h:qS l):l.Nodup:=by
 refine List.Pairwise.imp ?_ h;intro a b hab e;subst e;exact jY hab
theorem X0{p:qd}{r c:List qd}(hp:p∈c):(minus (p::r) c).length<=r.length:=by
 unfold minus;rw [List.filter_cons,if_neg (by simp [hp])];exact List.length_filter_le _ _
theorem wD:∀{a b:List qd},a.Nodup->(∀x∈a,x∈b)->a.length<=b.length
 |[],b,_,_=>Nat.zero_le _
 |x::a,b,hn,h=>by
  rw [List.nodup_cons] at hn;have hx:=h x (by simp);have:=wD (a:=a) (b:=b.erase x) hn.2 fun y hy=>by
   rw [List.mem_erase_of_ne (fun e=>hn.1 (by rw [<-e];exact hy))];exact h y (by simp [hy])
  rw [List.length_erase_of_mem hx] at this;have hpos:0<b.length:=List.length_pos_of_mem hx;simp only [List.length_cons];omega
theorem gP{one:List qd}(h:one≠[])(y:qd){gap:Int}:xC one [y]<=gap↔∃x∈one,xg x y<=gap:=by
 obtain⟨⟨x,hx,z,hz,he⟩,h2⟩:=X9 h (b:=[y]) (by simp);simp only [List.mem_singleton] at hz;subst hz;constructor
 ·intro hg;exact⟨x,hx,oM⟩
 ·rintro ⟨w,hw,hg⟩;have:=h2 w hw z (by simp);omega
end Go.Ah

namespace Go.Ah
open Go.Ab Go.Proofs
theorem pY:DK 145 [J5] fun d=>d=J5:=by
 refine zy GJ rfl jm fun Z0 lo=>?_;refine qa ?_;intros;refine qb rfl (fun _=>?_) (fun h=>by cases h);refine qa ?_;intros;exact qc ⟨_,rfl,rfl,rfl⟩
theorem YX{l:List qd}(h:qS l):qt l=l:=qS.ext (xv l) h fun p=>xi
theorem Kw{α:Type}:∀(cs l:List α) (i:Nat),(setLs l i cs).take i=l.take i
 |[],_,_=>rfl
 |c::cs,l,i=>by
  simp only [setLs];have h:=Kw cs (l.set i c) (i+1);have h2:=congrArg (List.take i) h;rw [List.take_take,List.take_take,Nat.min_eq_left (by omega)] at h2;rw [h2,List.take_set_of_le (Nat.le_refl i)]
theorem eA:∀(l:List qd) (i:Nat) (x:qd),setLs (l.flatMap qh) (i*2) (qh x)=(l.set i x).flatMap qh
 |[],i,x=>by simp [setLs,qh]
 |y::l,0,x=>by simp [setLs,qh]
 |y::l,i+1,x=>by
  have:=eA l i x;simp only [setLs,qh] at this;simp only [List.flatMap_cons,List.set_cons_succ,setLs,qh];rw [show (i+1)*2=i*2+1+1 by omega];simp only [List.cons_append,List.nil_append,List.set_cons_succ];rw [<-this]
theorem sT(l:List qd)(i:Nat)(x:qd):QC (.data (l.flatMap qh)) (i*2) [.f (.c (.int .i64 x.1)),.f (.c (.int .i64 x.2))]=.data ((l.set i x).flatMap qh):=congrArg Bk.data (eA l i x)
theorem Qc.step{l:List qd}(hs:Qc l){i j:Nat}{x y:qd}(hi:l[i]?=some x)(hj:l[j]?=some y)(hij:i<j)(hne:y≠x):qO x y=true:=JN (by rw [hs i j x y hi hj hij];decide) (fun e=>hne e)
theorem qS.snoc{c:List qd}(h:qS c){y x:qd}(hl:c.getLast?=some y)(hb:qO y x=true):qS (c++[x]):=by
 rw [qS,List.pairwise_append];refine⟨h,by simp,fun a ha b hb'=>?_⟩;simp only [List.mem_singleton] at hb';subst hb';obtain⟨i,hi⟩:=List.getElem?_of_mem ha;rw [List.getLast?_eq_getElem?] at hl;have h1:=(zgs hi).1;have h2:=(zgs hl).1;by_cases e:i=c.length-1
 ·subst e;rw [hi] at hl;rw [zsi hl];exact hb
 ·have:=List.pairwise_iff_getElem.1 h i (c.length-1) h1 h2 oM;rw [(zgs hi).2,(zgs hl).2] at this;exact vB this hb
theorem pP{l:List qd}(hs:Qc l)(hp:0<l.length)(hb:l.length<1000000):Zd 145 [.one (.own 0 0 l.length 2)] [(0,.data (l.flatMap qh))] 1 fun d S nk=>nk=1/\d=.one (.own 0 0 (qt l).length 2)/\∃rest,S=[(0,.data ((qt l).flatMap qh++rest))]:=by
 refine w9 GJ rfl fun Z β H lo=>?_;obtain⟨n,hn⟩:∃n,l.length=n:=⟨_,rfl⟩;have hflat:=qL l;rw [hn];refine qa ?_;intros;refine qb rfl (fun ht=>?_) (fun ht=>?_)
 ·simp at ht;obtain⟨x,rfl⟩:∃x,l=[x]:=by
   match l,hn,hp with
   |[x],_,_=>exact⟨x,rfl⟩
   |x::y::l,hn,_=>simp at hn;omega
  simp at hn;subst hn;have hso:qt [x]=[x]:=YX (by simp);rw [hso];refine qa ?_;intros;exact qc ⟨_,rfl,rfl,_,zj _,rfl,rfl,[],by simp⟩
 ·simp at ht;refine qa ?_;intros;refine qm (fun m E S nk=>∃k:Nat,1<=k/\k<=n/\m=n-k/\qS (l.take k)/\E=[(0,.one (.own 0 0 n 2)),(3,.int k)]/\S=[(0,.data (l.flatMap qh))]/\nk=1) ⟨n-1,_,_,_,[],?wk,1,oM,oM,rfl,?h1,rfl,rfl,rfl⟩ ?_
  case wk=>exact ql
  case h1=>
   cases l with
   |nil=>simp at hp
   |cons x l=>simp
  rintro m E S nk ⟨k,hk1,hkn,hm,hro,rfl,rfl,rfl⟩;refine qa ?_;intros;refine qb rfl (fun ht2=>?_) (fun ht2=>?_)
  ·simp at ht2;obtain⟨j,rfl⟩:∃j,k=j+1:=⟨k-1,oM⟩;obtain⟨x,hx⟩:∃x,l[j+1]?=some x:=⟨_,zge oM⟩;obtain⟨y,hy⟩:∃y,l[j]?=some y:=⟨_,zge oM⟩;have e1:qT (l.flatMap qh) (Int.toNat ((j+1:Nat):Int)*2) 2=some (qh x):=qY hx;have e2:qT (l.flatMap qh) (Int.toNat ((j:Nat):Int)*2) 2=some (qh y):=qY hy;refine qa ?_;intros;rw [show IntKind.i64.wrap (((j+1:Nat):Int)-1)=(j:Nat) by rw [qg (by omega) (by omega)];omega];refine qa ?_;intros;refine xT (ke (p:=x) (q:=y) rfl rfl) ?_;refine qa ?_;intros;refine qb rfl (fun he=>?_) (fun he=>?_)
   ·have hxy:x=y:=by simpa using he
    subst hxy;refine qa ?_;intros;refine XA (o':=(j+1)*2) (n':=n-(j+1)) rfl rfl rfl oM oM oM rfl ?_;refine qa ?_;intros;refine qm (fun m E S nk=>∃(w k2:Nat) (cur:List qd),1<=k2/\j+1+k2<=n/\m=n-(j+1+k2)/\j+1<=w/\w<=j+k2/\cur.length=n/\qS (cur.take w)/\(∀p,p∈cur.take w↔p∈l.take (j+1+k2))/\(∀i,j+k2<=i->cur[i]?=l[i]?)/\cur[w-1]?=l[j+k2]?/\E=[(0,.one (.own 0 0 n 2)),(3,.int w),(4,.one (.own 0 ((j+1)*2) (n-(j+1)) 2)),(5,.int k2)]/\S=[(0,.data (cur.flatMap qh))]/\nk=1) ⟨n-(j+1+1),_,_,_,[],?wk1,j+1,1,l,by omega,by omega,rfl,by omega,by omega,hn,hro,fun p=>?hm1,fun i _=>rfl,by rw [Nat.add_sub_cancel,hx,hy],rfl,rfl,rfl⟩ ?_
    case wk1=>exact ql
    case hm1=>
     rw [List.take_add_one (i:=j+1),hx,List.mem_append];simp only [Option.toList_some,List.mem_singleton];refine⟨.inl,fun h=>h.elim id fun e=>?_⟩;subst e;rw [List.take_add_one,hy];simp
    rintro m E S nk ⟨w,k2,cur,hk2,hkn2,hm2,hw1,hw2,hcl,hcr,hcm,hcu,hla,rfl,rfl,rfl⟩;have hcf:=qL cur;refine qa ?_;intros;refine qb rfl (fun ht3=>?_) (fun ht3=>?_)
    ·simp at ht3;obtain⟨i,rfl⟩:∃i,k2=i+1:=⟨k2-1,oM⟩;obtain⟨a,ha⟩:∃a,l[j+1+(i+1)]?=some a:=⟨_,zge oM⟩;obtain⟨b,hb2⟩:∃b,l[j+(i+1)]?=some b:=⟨_,zge oM⟩;have ha':cur[j+1+(i+1)]?=some a:=by rw [hcu _ (by omega)];exact ha
     have hb':cur[j+1+i]?=some b:=by rw [hcu _ (by omega),<-hb2];congr 1;omega
     have e3:qT (cur.flatMap qh) ((j+1)*2+Int.toNat ((i+1:Nat):Int)*2) 2=some (qh a):=by
      have:=qY ha'
      rwa [Nat.add_mul] at this
     have e4:qT (cur.flatMap qh) ((j+1)*2+Int.toNat ((i:Nat):Int)*2) 2=some (qh b):=by
      have:=qY hb'
      rwa [Nat.add_mul] at this
     refine qa ?_;intros;refine Vj rfl rfl oM oM ?_;refine qa ?_;intros;rw [show IntKind.i64.wrap (((i+1:Nat):Int)-1)=(i:Nat) by rw [qg (by omega) (by omega)];omega];refine Vj rfl rfl oM oM ?_;refine qa ?_;intros;refine xT (ke (neg:=true) (p:=a) (q:=b) rfl rfl) ?_;refine qa ?_;intros;refine qb rfl (fun hne=>?_) (fun heq=>?_)
     ·have hab:a≠b:=by simpa using hne
      have hba:qO b a=true:=hs.step hb2 ha oM hab;refine qa ?_;intros;refine Vj rfl rfl oM oM ?_;refine qa ?_;intros;refine vq rfl rfl rfl rfl rfl ?hle rfl ?_
      case hle=>show Int.toNat (w:Int)*2+2<=(cur.flatMap qh).length;rw [hcf];simp;omega
      rw [Int.toNat_natCast w,show QC (.data (cur.flatMap qh)) (w*2) (List.map DC.f (qh a))=.data ((cur.set w a).flatMap qh) from sT cur w a];refine qa ?_;intros;have htk:(cur.set w a).take (w+1)=cur.take w++[a]:=by
       rw [List.take_add_one,List.take_set_of_le (Nat.le_refl w),List.getElem?_set_self (by omega)];rfl
      refine⟨n-(j+1+(i+1+1)),by omega,_,_,_,[],?wk2,w+1,i+1+1,cur.set w a,by omega,by omega,rfl,by omega,by omega,by simpa using hcl,?hr,fun p=>?hm2,fun q hq=>?hu,?hl,rfl,rfl,rfl⟩
      case wk2=>exact ql
      case hr=>
       rw [htk];refine hcr.snoc (y:=b) ?_ hba;rw [List.getLast?_eq_getElem?,List.length_take,Nat.min_eq_left (by omega),List.getElem?_take,if_pos (by omega),hla];exact hb2
      case hm2=>
       rw [htk,List.mem_append,hcm,show j+1+(i+1+1)=j+1+(i+1)+1 by omega,List.take_add_one,ha,List.mem_append];simp
      case hu=>rw [List.getElem?_set_ne (by omega),hcu q (by omega)]
      case hl=>rw [Nat.add_sub_cancel,List.getElem?_set_self (by omega),<-ha];congr 1;omega
     ·have hab:a=b:=by simpa using heq
      subst hab;refine qa ?_;intros;refine⟨n-(j+1+(i+1+1)),oM,_,_,_,[],?wk3,w,i+1+1,cur,oM,oM,rfl,oM,oM,hcl,hcr,fun p=>?hm3,fun q hq=>hcu q oM,?hl3,rfl,rfl,rfl⟩
      case wk3=>exact ql
      case hm3=>
       rw [hcm,show j+1+(i+1+1)=j+1+(i+1)+1 by omega,List.take_add_one (i:=j+1+(i+1)),ha,List.mem_append];simp only [Option.toList_some,List.mem_singleton];refine⟨.inl,fun h=>h.elim id fun e=>?_⟩;subst e;refine zmg (i:=j+(i+1)) ?_;rw [List.getElem?_take,if_pos (by omega)];exact hb2
      case hl3=>rw [hla,hb2,<-ha];congr 1;omega
    ·simp at ht3;have hk:j+1+k2=n:=by omega
     have hso:qt l=cur.take w:=qS.ext (xv l) hcr fun p=>by
      rw [xi,hcm,hk,List.take_of_length_le (by omega)]
     refine qa ?_;intros;refine XA (o':=w*2) (n':=n-w) rfl rfl rfl oM oM oM rfl ?_;refine TL (zf:=[.c (.int .i64 0),.c (.int .i64 0)]) rfl rfl ?hle ⟨rfl,rfl,rfl,rfl,trivial⟩ rfl (by decide) oM rfl ?_
     case hle=>rw [hcf];omega
     refine qa ?_;intros;refine XA (o':=0) (n':=w) rfl rfl rfl oM oM oM rfl ?_;refine qa ?_;intros;have hwl:(qt l).length=w:=by rw [hso,List.length_take];omega
     rw [hwl];refine qc ⟨_,rfl,rfl,_,qf (k:=0) rfl (qw _),rfl,rfl,(setLs (cur.flatMap qh) (w*2) (yF [.c (.int .i64 0),.c (.int .i64 0)] (n-w))).drop (w*2),?_⟩;have h1:(qt l).flatMap qh=(setLs (cur.flatMap qh) (w*2) (yF [.c (.int .i64 0),.c (.int .i64 0)] (n-w))).take (w*2):=by
      rw [Kw,hso];have hsp:cur.flatMap qh=(cur.take w).flatMap qh++(cur.drop w).flatMap qh:=by rw [<-List.flatMap_append,List.take_append_drop]
      have hl2:((cur.take w).flatMap qh).length=w*2:=by rw [qL,List.length_take];omega
      rw [hsp,<-hl2,List.take_left]
     rw [h1,List.take_append_drop]
   ·have hxy:x≠y:=by simpa using he
    have hyx:qO y x=true:=hs.step hy hx oM hxy;refine qa ?_;intros;refine⟨n-(j+1+1),oM,_,_,_,[],?wk5,j+1+1,oM,oM,rfl,?hr5,rfl,rfl,rfl⟩
    case wk5=>exact ql
    case hr5=>
     rw [List.take_add_one,hx];refine hro.snoc (y:=y) ?_ hyx;rw [List.getLast?_eq_getElem?,List.length_take,Nat.min_eq_left (by omega),List.getElem?_take,if_pos (by omega),Nat.add_sub_cancel];exact hy
  ·simp at ht2;obtain rfl:k=n:=by omega
   rw [List.take_of_length_le (by omega)] at hro;rw [YX hro,hn];refine qa ?_;intros;exact qc ⟨_,rfl,rfl,_,zj _,rfl,rfl,[],by simp⟩
end Go.Ah
