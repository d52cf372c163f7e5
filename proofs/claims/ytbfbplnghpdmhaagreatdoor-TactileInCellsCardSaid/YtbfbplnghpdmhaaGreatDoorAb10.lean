/- Contracts of functions of the program over the abstract semantics. -/
import Derived.Test.YtbfbplnghpdmhaaGreatDoorAb9
import Derived.Test.YtbfbplnghpdmhaaGreatDoorRows
set_option linter.unusedSimpArgs false
set_option linter.unusedVariables false
namespace Go.Ag
open Go.Ab Go.Proofs
set_option maxRecDepth 100000
theorem cp4:qG Tryz.prog 1 4=some f4:=by kernel_rfl
theorem cp5:qG Tryz.prog 1 5=some f5:=by kernel_rfl
theorem cp6:qG Tryz.prog 1 6=some f6:=by kernel_rfl
theorem cp7:qG Tryz.prog 1 7=some f7:=by kernel_rfl
theorem cp8:qG Tryz.prog 1 8=some f8:=by kernel_rfl
theorem cp9:qG Tryz.prog 1 9=some f9:=by kernel_rfl
theorem qci:qG Tryz.prog 1 11=some To:=by kernel_rfl
theorem qch:qG Tryz.prog 1 12=some Rz:=by kernel_rfl
theorem qcg:qG Tryz.prog 1 14=some M7:=by kernel_rfl
theorem qcf:qG Tryz.prog 1 16=some My:=by kernel_rfl
theorem qce:qG Tryz.prog 1 17=some Mp:=by kernel_rfl
theorem qcd:qG Tryz.prog 1 18=some Mn:=by kernel_rfl
theorem qcc:qG Tryz.prog 1 19=some Mm:=by kernel_rfl
theorem qcb:qG Tryz.prog 1 20=some M6:=by kernel_rfl
theorem qca:qG Tryz.prog 1 21=some M5:=by kernel_rfl
theorem qb9:qG Tryz.prog 1 22=some M4:=by kernel_rfl
theorem qb8:qG Tryz.prog 1 23=some M3:=by kernel_rfl
theorem qb7:qG Tryz.prog 1 24=some M2:=by kernel_rfl
theorem qb6:qG Tryz.prog 1 25=some M1:=by kernel_rfl
theorem qb5:qG Tryz.prog 1 26=some M0:=by kernel_rfl
theorem qb4:qG Tryz.prog 1 27=some MZ:=by kernel_rfl
theorem qb3:qG Tryz.prog 1 28=some MY:=by kernel_rfl
theorem qb2:qG Tryz.prog 1 29=some MX:=by kernel_rfl
theorem qb1:qG Tryz.prog 1 30=some fG:=by kernel_rfl
theorem qb0:qG Tryz.prog 1 31=some Iv:=by kernel_rfl
theorem AA:qG Tryz.prog 1 32=some Iu:=by kernel_rfl
theorem qbZ:qG Tryz.prog 1 33=some Ic:=by kernel_rfl
theorem qbY:qG Tryz.prog 1 34=some Ib:=by kernel_rfl
theorem qbX:qG Tryz.prog 1 35=some Hu:=by kernel_rfl
theorem qbW:qG Tryz.prog 1 36=some Hk:=by kernel_rfl
theorem qbV:qG Tryz.prog 1 37=some D2:=by kernel_rfl
theorem qbU:qG Tryz.prog 1 40=some Hg:=by kernel_rfl
theorem qbT:qG Tryz.prog 1 41=some Hf:=by kernel_rfl
theorem qbS:qG Tryz.prog 1 42=some He:=by kernel_rfl
theorem qbR:qG Tryz.prog 1 43=some Hb:=by kernel_rfl
theorem qbQ:qG Tryz.prog 1 45=some Gt:=by kernel_rfl
theorem qbP:qG Tryz.prog 1 46=some MW:=by kernel_rfl
theorem qbO:qG Tryz.prog 1 47=some MV:=by kernel_rfl
theorem qbN:qG Tryz.prog 1 48=some MU:=by kernel_rfl
theorem IW:qG Tryz.prog 1 49=some MT:=by kernel_rfl
theorem qbM:qG Tryz.prog 1 50=some Vm:=by kernel_rfl
theorem qbL:qG Tryz.prog 1 51=some Fn:=by kernel_rfl
theorem qbK:qG Tryz.prog 1 52=some MQ:=by kernel_rfl
theorem qbJ:qG Tryz.prog 1 53=some Fh:=by kernel_rfl
theorem qbI:qG Tryz.prog 1 54=some MN:=by kernel_rfl
theorem qbH:qG Tryz.prog 1 55=some Ff:=by kernel_rfl
theorem qbG:qG Tryz.prog 1 56=some Fe:=by kernel_rfl
theorem qbF:qG Tryz.prog 1 57=some MM:=by kernel_rfl
theorem qbE:qG Tryz.prog 1 58=some Es:=by kernel_rfl
theorem qbD:qG Tryz.prog 1 59=some Er:=by kernel_rfl
theorem qbC:qG Tryz.prog 1 60=some Eq:=by kernel_rfl
theorem qbB:qG Tryz.prog 1 61=some Ej:=by kernel_rfl
theorem qbA:qG Tryz.prog 1 62=some Ea:=by kernel_rfl
theorem qbz:qG Tryz.prog 1 63=some Dz:=by kernel_rfl
theorem qby:qG Tryz.prog 1 64=some Dy:=by kernel_rfl
theorem qbx:qG Tryz.prog 1 65=some Dx:=by kernel_rfl
theorem qbw:qG Tryz.prog 1 66=some Dw:=by kernel_rfl
theorem qbv:qG Tryz.prog 1 67=some Dt:=by kernel_rfl
theorem qbu:qG Tryz.prog 1 68=some Ds:=by kernel_rfl
theorem qbt:qG Tryz.prog 1 69=some Dg:=by kernel_rfl
theorem IV:qG Tryz.prog 1 70=some Db:=by kernel_rfl
theorem qbs:qG Tryz.prog 1 71=some Ck:=by kernel_rfl
theorem qbr:qG Tryz.prog 1 73=some Cj:=by kernel_rfl
theorem qbq:qG Tryz.prog 1 76=some Ch:=by kernel_rfl
theorem qbp:qG Tryz.prog 1 77=some By:=by kernel_rfl
theorem qbo:qG Tryz.prog 1 78=some Bw:=by kernel_rfl
theorem qbn:qG Tryz.prog 1 79=some Bo:=by kernel_rfl
theorem qbm:qG Tryz.prog 1 80=some Bn:=by kernel_rfl
theorem qbl:qG Tryz.prog 1 81=some f81:=by kernel_rfl
theorem qbk:qG Tryz.prog 1 82=some Bm:=by kernel_rfl
theorem IU:qG Tryz.prog 1 83=some Bl:=by kernel_rfl
theorem qbj:qG Tryz.prog 1 84=some DU:=by kernel_rfl
theorem qbi:qG Tryz.prog 1 85=some Bc:=by kernel_rfl
theorem qbh:qG Tryz.prog 1 86=some MJ:=by kernel_rfl
theorem qbg:qG Tryz.prog 1 87=some Bb:=by kernel_rfl
theorem qbf:qG Tryz.prog 1 88=some Ba:=by kernel_rfl
theorem qbe:qG Tryz.prog 1 89=some MI:=by kernel_rfl
theorem qbd:qG Tryz.prog 1 90=some Az:=by kernel_rfl
theorem qbc:qG Tryz.prog 1 91=some MH:=by kernel_rfl
theorem qbb:qG Tryz.prog 1 93=some MG:=by kernel_rfl
theorem qba:qG Tryz.prog 1 94=some Ay:=by kernel_rfl
theorem qa9:qG Tryz.prog 1 95=some Ax:=by kernel_rfl
theorem qa8:qG Tryz.prog 1 96=some Aw:=by kernel_rfl
theorem qa7:qG Tryz.prog 1 97=some Av:=by kernel_rfl
theorem qa6:qG Tryz.prog 1 98=some Au:=by kernel_rfl
theorem qa5:qG Tryz.prog 1 99=some Ao:=by kernel_rfl
theorem N5:qG Tryz.prog 1 100=some HZ:=by kernel_rfl
theorem N4:qG Tryz.prog 1 101=some HY:=by kernel_rfl
theorem N3:qG Tryz.prog 1 102=some HX:=by kernel_rfl
theorem NZ:qG Tryz.prog 1 103=some HW:=by kernel_rfl
theorem NY:qG Tryz.prog 1 104=some HV:=by kernel_rfl
theorem NX:qG Tryz.prog 1 105=some HU:=by kernel_rfl
theorem NW:qG Tryz.prog 1 106=some HT:=by kernel_rfl
theorem AC:qG Tryz.prog 1 107=some HS:=by kernel_rfl
theorem NV:qG Tryz.prog 1 108=some HR:=by kernel_rfl
theorem NU:qG Tryz.prog 1 109=some HQ:=by kernel_rfl
theorem NT:qG Tryz.prog 1 110=some f110:=by kernel_rfl
theorem qpC:qG Tryz.prog 1 111=some HP:=by kernel_rfl
theorem NS:qG Tryz.prog 1 112=some HO:=by kernel_rfl
theorem NR:qG Tryz.prog 1 113=some HN:=by kernel_rfl
theorem NQ:qG Tryz.prog 1 114=some uP:=by kernel_rfl
theorem NP:qG Tryz.prog 1 116=some uO:=by kernel_rfl
theorem NO:qG Tryz.prog 1 117=some HM:=by kernel_rfl
theorem NN:qG Tryz.prog 1 118=some HL:=by kernel_rfl
theorem AB:qG Tryz.prog 1 119=some HK:=by kernel_rfl
theorem NM:qG Tryz.prog 1 120=some uN:=by kernel_rfl
theorem NL:qG Tryz.prog 1 121=some HJ:=by kernel_rfl
theorem NK:qG Tryz.prog 1 122=some uM:=by kernel_rfl
theorem NJ:qG Tryz.prog 1 123=some HI:=by kernel_rfl
theorem NI:qG Tryz.prog 1 124=some HH:=by kernel_rfl
theorem NH:qG Tryz.prog 1 125=some f125:=by kernel_rfl
theorem qpB:qG Tryz.prog 1 133=some HG:=by kernel_rfl
theorem qpA:qG Tryz.prog 1 134=some HF:=by kernel_rfl
theorem NG:qG Tryz.prog 1 136=some vS:=by kernel_rfl
theorem NF:qG Tryz.prog 1 137=some uL:=by kernel_rfl
theorem NE:qG Tryz.prog 1 138=some uK:=by kernel_rfl
theorem ND:qG Tryz.prog 1 139=some HE:=by kernel_rfl
end Go.Ag

namespace Go.Ab
structure Ext (H H':Hp):Prop where
 get:∀b bk,H.get b=some bk->H'.get b=some bk
 nx:H.nx<=H'.nx
theorem Ext.refl(H:Hp):Ext H H:=⟨fun _ _ h=>h,Nat.le_refl _⟩
theorem Ext.trans{H H' H'':Hp}(h:Ext H H')(k:Ext H' H''):Ext H H'':=⟨fun b bk hb=>k.get b bk (h.get b bk hb),Nat.le_trans h.nx k.nx⟩
theorem Ext.push{H H':Hp}(hw:WF H')(h:Ext H H')(bk:B):Ext H (H'.push bk):=
 ⟨fun b k hb=>by rw [Hp.get_push,if_neg (by have:=hw b k (h.get b k hb);omega)];exact h.get b k hb,by have:=h.nx;simp;omega⟩
theorem Ext.skip{H H':Hp}(h:Ext H H')(n:Nat):Ext H (H'.skip n):=⟨h.get,by have:=h.nx;simp;omega⟩
theorem Ext.cell{H H':Hp}(h:Ext H H'){b i:Nat}{c:C}(hc:H.cell b i=some c):H'.cell b i=some c:=by
 unfold Hp.cell at hc ⊢;cases hb:H.get b with
 |none=>simp [hb] at hc
 |some bk=>rw [h.get b bk hb];simpa [hb] using hc
theorem Ext.loads{H H':Hp}(h:Ext H H'):∀{n b o:Nat} {l:List C},H.loads b o n=some l->H'.loads b o n=some l
 |0,_,_,_,hl=>hl
 |n+1,b,o,l,hl=>by
  simp only [Hp.loads] at hl ⊢;cases hc:H.cell b o with
  |none=>simp [hc] at hl
  |some c=>
   simp only [hc] at hl;simp only [h.cell hc];cases hr:H.loads b (o+1) n with
   |none=>simp [hr] at hl
   |some r=>simp only [hr] at hl;simp only [h.loads hr];exact hl
theorem WF.push{H:Hp}(h:WF H)(bk:B):WF (H.push bk):=fun b k hb=>by
 rw [Hp.get_push] at hb;split at hb
 ·rename_i e;simp;omega
 ·have:=h b k hb;simp;omega
theorem WF.skip{H:Hp}(h:WF H)(n:Nat):WF (H.skip n):=fun b k hb=>by have:=h b k hb;simp;omega
theorem WF.fresh{H:Hp}(h:WF H){b:Nat}(hb:H.nx<=b):H.get b=none:=by
 cases hg:H.get b with
 |none=>rfl
 |some k=>have:=h b k hg;omega
theorem QN{H:Hp}{b:Nat}:∀{m o n:Nat} {l:List C},H.loads b o n=some l->m<=n->H.loads b (o+m) (n-m)=some (l.drop m)
 |0,o,n,l,h,_=>by simpa using h
 |m+1,o,0,l,h,hm=>by omega
 |m+1,o,n+1,l,h,hm=>by
  simp only [Hp.loads] at h;split at h
  ·cases h
  ·split at h
   ·cases h
   ·rename_i c _ l' hl';obtain rfl:=zsi h;have:=QN (m:=m) hl' (by omega);rw [show o+(m+1)=o+1+m by omega,show n+1-(m+1)=n-m by omega];simpa using this
theorem yo{H:Hp}{b:Nat}:∀{m o n:Nat} {l:List C},H.loads b o n=some l->m<=n->H.loads b o m=some (l.take m)
 |0,o,n,l,h,_=>by simp [Hp.loads]
 |m+1,o,0,l,h,hm=>by omega
 |m+1,o,n+1,l,h,hm=>by
  simp only [Hp.loads] at h ⊢;split at h
  ·cases h
  ·rename_i c hc;split at h
   ·cases h
   ·rename_i l' hl';obtain rfl:=zsi h;simp [yo (m:=m) hl' (by omega)]
theorem kZ{H:Hp}{b o n i k:Nat}{l:List C}(h:H.loads b o n=some l)(hk:i+k<=n):H.loads b (o+i) k=some ((l.drop i).take k):=
 yo (QN h (by omega)) (by omega)
theorem vt{H:Hp}{b o n i:Nat}{l:List C}(h:H.loads b o n=some l)(hi:i<n):H.cell b (o+i)=l[i]?:=by
 have:=kZ (i:=i) (k:=1) h (by omega);simp only [Hp.loads] at this;cases hc:H.cell b (o+i) with
 |none=>simp [hc] at this
 |some c=>
  simp only [hc,zoi] at this;have hl:i<l.length:=by rw [yV h];exact hi
  have h2:(List.take 1 (List.drop i l))[0]?=some l[i]:=by rw [List.drop_eq_getElem_cons hl];simp
  rw [<-this] at h2;simp at h2;rw [zge hl,h2]
theorem XL{H:Hp}{b:Nat}{cs:List C}{rw:Bool}(h:H.get b=some (.row cs.length cs .lf rw)):H.loads b 0 cs.length=some cs:=by
 have key:∀(m o:Nat),o+m=cs.length->H.loads b o m=some (cs.drop o):=by
  intro m;induction m with
  |zero=>intro o ho;simp only [Hp.loads];rw [List.drop_of_length_le (by omega)]
  |succ m ih=>
   intro o ho;have hlt:o<cs.length:=by omega
   have hc:H.cell b o=some cs[o]:=by
    simp only [Hp.cell,h,Option.bind_some,B.cell,hlt,if_true,T.get_lf,Option.getD_none,Nat.mod_eq_of_lt hlt];simp [List.getD_eq_getElem?_getD,hlt]
   simp only [Hp.loads,hc,ih (o+1) (by omega)];rw [List.drop_eq_getElem_cons hlt]
 simpa using key cs.length 0 (by omega)
def Sl(H:Hp)(esz n:Nat)(l:List C)(v:V):Prop:=l.length=n*esz/\((v=.one .nils/\n=0)\/∃b o cap ex,v=.one (.slc b o n cap esz ex)/\H.loads b o (n*esz)=some l)
theorem Sl.ext{H H':Hp}{esz n:Nat}{l:List C}{v:V}(h:Sl H esz n l v)(he:Ext H H'):Sl H' esz n l v:=by
 refine⟨h.1,?_⟩;rcases h.2 with h|⟨b,o,cap,ex,hv,hl⟩
 ·exact .inl h
 ·exact .inr ⟨b,o,cap,ex,hv,he.loads hl⟩
theorem Sl.len{H:Hp}{esz n:Nat}{l:List C}{v:V}(h:Sl H esz n l v):XY v=some (.one (.int .i64 n)):=by
 rcases h.2 with⟨rfl,rfl⟩|⟨b,o,cap,ex,rfl,_⟩<;>simp [XY]
theorem Sl.at{H:Hp}{esz n:Nat}{l:List C}{v:V}(h:Sl H esz n l v){k:Nat}(hk:k<n)(kd:IntKind):∃b o,XO esz v (.one (.int kd k))=some (.one (.ptr b o))/\H.loads b o esz=some ((l.drop (k*esz)).take esz):=by
 rcases h.2 with⟨_,rfl⟩|⟨b,o,cap,ex,rfl,hl⟩
 ·omega
 ·refine⟨b,o+k*esz,by simp [XO];omega,kZ hl ?_⟩;have:(k+1)*esz<=n*esz:=Nat.mul_le_mul_right _ hk;rw [Nat.add_mul] at this;omega
abbrev Pt:=Int × Int
def xW(p:Pt):List C:=[.int .i64 p.1,.int .i64 p.2]
def zn(l:List Pt):List C:=l.flatMap xW
def ptV(p:Pt):V:=.agg (xW p)
def v7(H:Hp)(l:List Pt)(v:V):Prop:=Sl H 2 l.length (zn l) v
theorem ptsC_len:∀l:List Pt,(zn l).length=l.length*2
 |[]=>rfl
 |p::l=>by simp only [zn,List.flatMap_cons,List.length_append,List.length_cons];rw [show (l.flatMap xW)=zn l from rfl,ptsC_len l];simp [xW];omega
theorem YQ:∀{l:List Pt} {i:Nat} {p:Pt},l[i]?=some p->((zn l).drop (i*2)).take 2=xW p
 |[],i,p,h=>by simp at h
 |q::l,0,p,h=>by simp at h;subst h;simp [zn,xW]
 |q::l,i+1,p,h=>by
  have:=YQ (l:=l) (i:=i) (p:=p) (by simpa using h);simp only [zn,List.flatMap_cons];rw [show (i+1)*2=(xW q).length+i*2 by simp [xW];omega,List.drop_append,List.drop_of_length_le (by simp [xW]),List.nil_append];rw [show (xW q).length+i*2-(xW q).length=i*2 by omega];exact this
theorem v7.at{H:Hp}{l:List Pt}{v:V}(h:v7 H l v){k:Nat}{p:Pt}(hk:l[k]?=some p)(kd:IntKind):∃b o,XO 2 v (.one (.int kd k))=some (.one (.ptr b o))/\H.loads b o 2=some (xW p):=by
 obtain⟨b,o,h1,h2⟩:=Sl.at h (zgs hk).1 kd;exact⟨b,o,h1,by rw [h2,YQ hk]⟩
theorem v7.len{H:Hp}{l:List Pt}{v:V}(h:v7 H l v):XY v=some (.one (.int .i64 l.length)):=Sl.len h
theorem v7.ext{H H':Hp}{l:List Pt}{v:V}(h:v7 H l v)(he:Ext H H'):v7 H' l v:=Sl.ext h he
@[simp] theorem Hp.loads_skip (H:Hp) (k:Nat):∀(n b o:Nat),(H.skip k).loads b o n=H.loads b o n
 |0,_,_=>rfl
 |n+1,b,o=>by
  simp only [Hp.loads];rw [Hp.loads_skip H k n b (o+1)];rfl
@[simp] theorem Hp.cell_skip (H:Hp) (k b i:Nat):(H.skip k).cell b i=H.cell b i:=rfl
def x6(H:Hp)(b:Nat)(l:List C):Prop:=(∃z m,H.get b=some (.row l.length z m true))/\H.loads b 0 l.length=some l
theorem Yx{H H':Hp}{b:Nat}(h:H'.get b=H.get b):∀(n o:Nat),H'.loads b o n=H.loads b o n
 |0,_=>rfl
 |n+1,o=>by
  have hc:H'.cell b o=H.cell b o:=by unfold Hp.cell;rw [h]
  simp only [Hp.loads,hc,Yx h n (o+1)]
theorem x6.same{H H':Hp}{b:Nat}{l:List C}(h:x6 H b l)(hg:H'.get b=H.get b):x6 H' b l:=⟨by rw [hg];exact h.1,by rw [Yx hg];exact h.2⟩
theorem x6.lt{H:Hp}{b:Nat}{l:List C}(h:x6 H b l)(hw:WF H):b<H.nx:=by obtain⟨⟨z,m,hg⟩,_⟩:=h;exact hw b _ hg
theorem x6.mut{H:Hp}{b:Nat}{l:List C}(h:x6 H b l):H.mutRow b=true:=by obtain⟨⟨z,m,hg⟩,_⟩:=h;simp [Hp.mutRow,hg]
theorem x6.new{H:Hp}(l:List C):x6 (H.push (.row l.length l .lf true)) H.nx l:=
 ⟨⟨l,.lf,by rw [Hp.get_push,if_pos rfl]⟩,XL (rw:=true) (by rw [Hp.get_push,if_pos rfl])⟩
theorem eT{H:Hp}{b:Nat}{N:Nat}{z:List C}{m:T C}{i:Nat}{c:C}(hg:H.get b=some (.row N z m true))(hi:i<N):∀{n o:Nat} {l:List C},H.loads b o n=some l->
 (H.add b (.row N z (m.set i (some c)) true)).loads b o n=some (if o<=i then l.set (i-o) c else l)
 |0,o,l,h=>by
  simp only [Hp.loads,zoi] at h ⊢;subst h;simp
 |n+1,o,l,h=>by
  simp only [Hp.loads] at h ⊢;split at h
  ·cases h
  ·rename_i c0 hc0;split at h
   ·cases h
   ·rename_i l' hl';obtain rfl:=zsi h;have hcell:(H.add b (.row N z (m.set i (some c)) true)).cell b o=some (if o=i then c else c0):=by
     simp only [Hp.cell,Hp.get_add_self,Option.bind_some,pJ hi];split
     ·rfl
     ·simpa [Hp.cell,hg] using hc0
    rw [hcell];simp only;rw [eT hg hi hl'];by_cases e1:o=i
    ·subst e1;rw [if_neg (by omega)];simp
    ·by_cases e2:o<=i
     ·rw [if_pos (by omega),if_neg e1,if_pos e2,show i-o=(i-(o+1))+1 by omega];simp
     ·rw [if_neg (by omega),if_neg e1,if_neg e2]
theorem x6.store{H:Hp}{b:Nat}{l:List C}(h:x6 H b l){i:Nat}(hi:i<l.length)(c:C):
 ∃H',H.store b i c=some H'/\x6 H' b (l.set i c)/\(∀b',b'≠b->H'.get b'=H.get b')/\H'.nx=H.nx:=by
 obtain⟨⟨z,m,hg⟩,hl⟩:=h;refine⟨_,by simp only [Hp.store,hg,hi,if_true];rfl,⟨⟨z,m.set i (some c),by simp⟩,?_⟩,fun b' hb'=>Hp.get_add_ne _ _ hb',rfl⟩;rw [List.length_set,eT hg hi hl];simp
def yH(l:List C)(i:Nat):List C->List C
 |[]=>l
 |c::cs=>yH (l.set i c) (i+1) cs
theorem wV:∀(cs l:List C) (i:Nat),(yH l i cs).length=l.length
 |[],_,_=>rfl
 |c::cs,l,i=>by rw [yH,wV];simp
theorem x6.stores:∀{cs:List C} {H:Hp} {b:Nat} {l:List C},x6 H b l->∀{i:Nat},i+cs.length<=l.length->
 ∃H',H.stores b i cs=some H'/\x6 H' b (yH l i cs)/\(∀b',b'≠b->H'.get b'=H.get b')/\H'.nx=H.nx
 |[],H,b,l,h,i,_=>⟨H,rfl,h,fun _ _=>rfl,rfl⟩
 |c::cs,H,b,l,h,i,hi=>by
  simp only [List.length_cons] at hi;obtain⟨H1,h1,h2,h3,h4⟩:=h.store (i:=i) (by omega) c;obtain⟨H2,g1,g2,g3,g4⟩:=x6.stores (cs:=cs) h2 (i:=i+1) (by simp;omega);exact⟨H2,by simp only [Hp.stores,h1,g1],g2,fun b' hb'=>(g3 b' hb').trans (h3 b' hb'),by rw [g4,h4]⟩
def fS(H:Hp)(lo esz n:Nat)(cs:List C)(v:V):Prop:=cs.length=n*esz/\((v=.one .nils/\n=0)\/∃b ex,v=.one (.slc b 0 n n esz ex)/\lo<=b/\x6 H b cs)
def WC:V->Option Nat
 |.one (.slc b _ _ _ _ _)=>some b
 |_=>none
theorem fS.same{H H':Hp}{lo esz n:Nat}{cs:List C}{v:V}(h:fS H lo esz n cs v)(hg:∀b,WC v=some b->H'.get b=H.get b):fS H' lo esz n cs v:=by
 refine⟨h.1,?_⟩;rcases h.2 with h'|⟨b,ex,rfl,hl,hr⟩
 ·exact .inl h'
 ·exact .inr ⟨b,ex,rfl,hl,hr.same (hg b rfl)⟩
theorem fS.append{H:Hp}{lo esz bytes n:Nat}{cs:List C}{v:V}(h:fS H lo esz n cs v)(hw:WF H)(hlo:lo<=H.nx){m:Nat}{news:List C}(hn:news.length=m*esz)(hm:0<m)(hb:(n+m)*bytes<=140737488355328)(h62:n+m<4611686018427387904):
 ∃v' H',zq H esz bytes v m news=some (v',H')/\fS H' lo esz (n+m) (cs++news) v'/\WC v'=some H.nx/\(∀b,b≠H.nx->WC v≠some b->H'.get b=H.get b)/\H'.nx=H.nx+1/\WF H':=by
 have hl:=h.1;rcases h.2 with⟨rfl,rfl⟩|⟨b,ex,rfl,hlb,hr⟩
 ·have:cs=[]:=List.eq_nil_of_length_eq_zero (by simpa using hl);subst this;rw [Nat.zero_add] at hb h62;refine⟨.one (.slc H.nx 0 m m esz false),H.push (.row news.length news .lf true),by simp only [zq];rw [if_neg (by omega),if_pos ⟨hb,h62⟩],⟨by simp [hn],.inr ⟨H.nx,false,by simp,hlo,?_⟩⟩,rfl,fun b hb _=>by rw [Hp.get_push,if_neg hb],rfl,hw.push _⟩;simpa using x6.new (H:=H) news
 ·have hbl:=hr.lt hw;have hlen:(cs++news).length=(n+m)*esz:=by simp [hl,hn,Nat.add_mul]
  have hld:H.loads b 0 (n*esz)=some cs:=by rw [<-hl];exact hr.2
  cases ex with
  |true=>
   refine⟨.one (.slc H.nx 0 (n+m) (n+m) esz false),H.push (.row (cs++news).length (cs++news) .lf true),by simp only [zq];rw [if_neg (by simp),if_neg (by omega),if_pos ⟨hb,h62⟩,hld];simp only [if_true],⟨hlen,.inr ⟨_,_,rfl,hlo,x6.new _⟩⟩,rfl,fun b' hb' _=>by rw [Hp.get_push,if_neg hb'],rfl,hw.push _⟩
  |false=>
   refine⟨.one (.slc H.nx 0 (n+m) (n+m) esz false),(H.push (.row (cs++news).length (cs++news) .lf true)).del b,by simp only [zq];rw [if_neg (by simp),if_neg (by omega),if_pos ⟨hb,h62⟩,hld];simp only [Bool.false_eq_true,if_false,hr.mut,if_true],⟨hlen,.inr ⟨H.nx,false,rfl,hlo,(x6.new _).same ?_⟩⟩,rfl,fun b' hb' ho=>?_,rfl,fun b' k hk=>?_⟩
   ·rw [Hp.get_del,if_neg (by omega)]
   ·rw [Hp.get_del,if_neg (fun e=>ho (by simp [WC,e])),Hp.get_push,if_neg hb']
   ·rw [Hp.get_del] at hk;split at hk
    ·cases hk
    ·exact hw.push _ b' k hk
namespace T
variable{α β:Type}
def bindT(f:α->Option β):T α->T β
 |lf=>lf
 |nd v l r=>nd (v.bind f) (bindT f l) (bindT f r)
theorem get_bindT(f:α->Option β):∀(t:T α) (n:Nat),(t.bindT f).get n=(t.get n).bind f
 |lf,_=>rfl
 |nd v l r,n=>by
  simp only [bindT,get_nd];split
  ·rfl
  ·split
   ·exact get_bindT f l _
   ·exact get_bindT f r _
def over:T α->T α->T α
 |lf,t=>t
 |nd v l r,lf=>nd v l r
 |nd v l r,nd v' l' r'=>nd (v.or v') (over l l') (over r r')
theorem get_over:∀(t t':T α) (n:Nat),(t.over t').get n=(t.get n).or (t'.get n)
 |lf,_,_=>by simp [over]
 |nd v l r,lf,n=>by simp [over]
 |nd v l r,nd v' l' r',n=>by
  simp only [over,get_nd];split
  ·rfl
  ·split
   ·exact get_over l l' _
   ·exact get_over r r' _
end T
def B.ro:B->Option B
 |.row n z m _=>some (.row n z m false)
 |.mp _=>none
 |.lp ..=>none
 |.st ..=>none
 |.it ..=>none
def Hp.ro(H:Hp):Hp:=⟨H.m.bindT B.ro,H.nx⟩
theorem Hp.get_ro(H:Hp)(b:Nat):H.ro.get b=(H.get b).bind B.ro:=T.get_bindT _ _ _
@[simp] theorem Hp.nx_ro (H:Hp):H.ro.nx=H.nx:=rfl
theorem B.ro_mut{x y:B}(h:x.ro=some y):y.mut=false:=by
 cases x with
 |row n z m rw=>simp only [B.ro,zoi] at h;subst h;rfl
 |mp es=>cases h
 |lp=>cases h
 |st=>cases h
 |it=>cases h
theorem B.ro_cell{x y:B}(h:x.ro=some y)(i:Nat):y.cell i=x.cell i:=by
 cases x with
 |row n z m rw=>simp only [B.ro,zoi] at h;subst h;rfl
 |mp es=>cases h
 |lp=>cases h
 |st=>cases h
 |it=>cases h
theorem Hp.cell_ro(H:Hp)(b i:Nat):H.ro.cell b i=H.cell b i:=by
 unfold Hp.cell;rw [Hp.get_ro];cases h:H.get b with
 |none=>rfl
 |some x=>
  cases x with
  |row n z m rw=>rfl
  |mp es=>rfl
  |lp=>rfl
  |st=>rfl
  |it=>rfl
theorem Hp.ro_mut{H:Hp}{b:Nat}{bk:B}(h:H.ro.get b=some bk):bk.mut=false:=by
 rw [Hp.get_ro,Option.bind_eq_some_iff] at h;obtain⟨x,_,hx⟩:=h;exact B.ro_mut hx
def Le(H H':Hp):Prop:=∀b i c,H.cell b i=some c->H'.cell b i=some c
theorem Ext.le{H H':Hp}(h:Ext H H'):Le H H':=fun _ _ _ hc=>h.cell hc
theorem Le.ro(H:Hp):Le H H.ro:=fun b i c h=>by rw [Hp.cell_ro];exact h
theorem Le.loads{H H':Hp}(h:Le H H'):∀{n b o:Nat} {l:List C},H.loads b o n=some l->H'.loads b o n=some l
 |0,_,_,_,hl=>hl
 |n+1,b,o,l,hl=>by
  simp only [Hp.loads] at hl ⊢;cases hc:H.cell b o with
  |none=>simp [hc] at hl
  |some c=>
   simp only [hc] at hl;simp only [h _ _ _ hc];cases hr:H.loads b (o+1) n with
   |none=>simp [hr] at hl
   |some r=>simp only [hr] at hl;simp only [h.loads hr];exact hl
theorem Sl.le{H H':Hp}{esz n:Nat}{l:List C}{v:V}(h:Sl H esz n l v)(he:Le H H'):Sl H' esz n l v:=by
 refine⟨h.1,?_⟩;rcases h.2 with h|⟨b,o,cap,ex,hv,hl⟩
 ·exact .inl h
 ·exact .inr ⟨b,o,cap,ex,hv,he.loads hl⟩
theorem v7.le{H H':Hp}{l:List Pt}{v:V}(h:v7 H l v)(he:Le H H'):v7 H' l v:=Sl.le h he
def C.closed:C->Bool
 |.bool _=>true
 |.int _ _=>true
 |.str _=>true
 |.nilp=>true
 |.nils=>true
 |.nilm=>true
 |.nilf=>true
 |.fn _ caps=>caps.isEmpty
 |_=>false
def V.closed1:V->Bool
 |.one c=>c.closed
 |.agg l=>l.all C.closed
 |.tup _=>false
def V.closed:V->Bool
 |.one c=>c.closed
 |.agg l=>l.all C.closed
 |.tup l=>l.all V.closed1
section
variable{μ μ':Nat->Pl}{K K':Nat->Prop}
theorem RC.closed{c:C}{x:Value}(hc:c.closed=true)(h:RC μ K c x):RC μ' K' c x:=by
 cases c with
 |ptr b o=>cases hc
 |slc b o len cap esz ex=>cases hc
 |map b=>cases hc
 |yld b=>cases hc
 |fn f caps=>
  simp only [C.closed,List.isEmpty_iff] at hc;subst hc;exact⟨fun p hp=>(by cases hp),h.2⟩
 |_=>exact h
theorem RCs.closed:∀{l:List C} {xs:List Value},l.all C.closed=true->qg (RC μ K) l xs->qg (RC μ' K') l xs
 |[],[],_,_=>trivial
 |_::_,_::_,hc,hh=>by
  simp only [List.all_cons,xD] at hc;exact⟨RC.closed hc.1 hh.1,RCs.closed hc.2 hh.2⟩
 |[],_::_,_,hh=>hh.elim
 |_::_,[],_,hh=>hh.elim
theorem yc.closed{v:V}{x:Value}(hc:v.closed1=true)(h:yc μ K v x):yc μ' K' v x:=by
 cases v with
 |one c=>exact RC.closed hc h
 |agg l=>obtain⟨xs,hx,ha⟩:=h;exact⟨xs,hx,RCs.closed hc ha⟩
 |tup l=>exact h.elim
theorem RV1s.closed:∀{l:List V} {xs:List Value},l.all V.closed1=true->qg (yc μ K) l xs->qg (yc μ' K') l xs
 |[],[],_,_=>trivial
 |_::_,_::_,hc,hh=>by
  simp only [List.all_cons,xD] at hc;exact⟨yc.closed hc.1 hh.1,RV1s.closed hc.2 hh.2⟩
 |[],_::_,_,hh=>hh.elim
 |_::_,[],_,hh=>hh.elim
theorem RV.closed{v:V}{x:Value}(hc:v.closed=true)(h:RV μ K v x):RV μ' K' v x:=by
 cases v with
 |one c=>exact RC.closed hc h
 |agg l=>obtain⟨xs,hx,ha⟩:=h;exact⟨xs,hx,RCs.closed hc ha⟩
 |tup l=>obtain⟨xs,hx,ha⟩:=h;exact⟨xs,hx,RV1s.closed hc ha⟩
theorem RVs.closed:∀{l:List V} {xs:List Value},l.all V.closed=true->qg (RV μ K) l xs->qg (RV μ' K') l xs
 |[],[],_,_=>trivial
 |_::_,_::_,hc,hh=>by
  simp only [List.all_cons,xD] at hc;exact⟨RV.closed hc.1 hh.1,RVs.closed hc.2 hh.2⟩
 |[],_::_,_,hh=>hh.elim
 |_::_,[],_,hh=>hh.elim
end
section
variable{P:Program}{G:Nat}
theorem Rel.toRo{μ:Nat->Pl}{K:Nat->Prop}{H:Hp}{w:World}(hR:Rel G μ K H w):Rel G μ K H.ro w:=by
 refine⟨fun b bk h=>?_,hR.lt,fun b bk h=>?_,fun b b' bk bk' h _ hm=>?_,hR.glob⟩
 ·rw [Hp.get_ro,Option.bind_eq_some_iff] at h;obtain⟨x,hx,_⟩:=h;exact hR.dom b x hx
 ·rw [Hp.get_ro,Option.bind_eq_some_iff] at h;obtain⟨x,hx,h⟩:=h;have hb:=hR.blk b x hx;cases x with
  |mp es=>cases h
  |lp=>cases h
  |st=>cases h
  |it=>cases h
  |row n z m rw=>
   simp only [B.ro,zoi] at h;subst h;obtain⟨cs,t,fz,h1,h2,h3,h4,h5⟩:=hb;exact⟨cs,t,fz,h1,h2,h3,fun h=>(by cases h),fun i c hc=>h5 i c hc⟩
 ·rw [Hp.ro_mut h] at hm;cases hm
theorem qH.pure{f:FuncId}{args:List V}{H:Hp}{R:V->Hp->Prop}(h:qH P G f args H.ro R)(hc:∀v H',R v H'->v.closed=true):qH P G f args H fun v H'=>(∃H1,R v H1)/\H'=H:=by
 intro μ K w xs hR ha;refine (h μ K w xs hR.toRo ha).mono ?_;rintro e w' ⟨x,rfl,v,H',μ',K',h1,h2,h3,h4⟩;have hkeep:∀i,i<w.heap.size->w'.heap[i]?=w.heap[i]?:=fun i hi=>h4.keep i hi fun b bk hb hm=>by rw [Hp.ro_mut hb] at hm;cases hm
 refine⟨x,rfl,v,H,μ,K,⟨⟨H',h1⟩,rfl⟩,h2.closed (hc v H' h1),⟨hR.dom,hR.lt,fun b bk hb=>?_,hR.inj,hR.glob⟩,?_⟩
 ·rw [hkeep _ (hR.blk_lt hb)];exact hR.blk b bk hb
 ·have r:=Fr.refl hR;exact⟨h4.same,h4.size,fun i hi _=>hkeep i hi,r.img,r.newmut,r.mu,r.kk,r.knew,r.nx,r.none,r.stay,r.ro⟩
theorem qH.sub {f:FuncId} {args:List V} {H1 H:Hp} {R:V->Hp->Prop} (h:qH P G f args H1 R) (hargs:args.all V.closed=true) (hG:G<=H1.nx) (hw:WF H1)
 (hsub:∀b bk,H1.get b=some bk->H.get b=some bk/\bk.mut=false/\∀i c,bk.cell i=some c->c.closed=true) (hc:∀v H',R v H'->v.closed=true):
 qH P G f args H fun v H'=>(∃H1,R v H1)/\H'=H:=by
 intro μ K w xs hR ha;have hR1:Rel G μ (fun b=>b<H1.nx/\K b) H1 w:=by
  refine⟨fun b bk hb=>⟨hw b bk hb,hR.dom b bk (hsub b bk hb).1⟩,fun b hb=>hb.1,fun b bk hb=>?_,fun b b' bk bk' hb _ hm=>?_,fun g hg=>⟨⟨Nat.lt_of_lt_of_le hg hG,(hR.glob g hg).1⟩,(hR.glob g hg).2⟩⟩
  ·obtain⟨g1,g2,g3⟩:=hsub b bk hb;have hb':=hR.blk b bk g1;cases bk with
   |mp es=>cases g2
   |lp=>cases g2
   |st=>cases g2
   |it=>cases g2
   |row n z m rw=>
    obtain⟨cs,t,fz,e1,e2,e3,e4,e5⟩:=hb';exact⟨cs,t,fz,e1,e2,e3,e4,fun i c hcc=>by
     obtain⟨x,hx,hr⟩:=e5 i c hcc;exact⟨x,hx,hr.closed (g3 i c hcc)⟩⟩
  ·rw [(hsub b bk hb).2.1] at hm;cases hm
 refine (h μ _ w xs hR1 (RVs.closed hargs ha)).mono ?_;rintro e w' ⟨x,rfl,v,H',μ',K',h1,h2,h3,h4⟩;have hkeep:∀i,i<w.heap.size->w'.heap[i]?=w.heap[i]?:=fun i hi=>h4.keep i hi fun b bk hb hm=>by rw [(hsub b bk hb).2.1] at hm;cases hm
 refine⟨x,rfl,v,H,μ,K,⟨⟨H',h1⟩,rfl⟩,h2.closed (hc v H' h1),⟨hR.dom,hR.lt,fun b bk hb=>?_,hR.inj,hR.glob⟩,?_⟩
 ·rw [hkeep _ (hR.blk_lt hb)];exact hR.blk b bk hb
 ·have r:=Fr.refl hR;exact⟨h4.same,h4.size,fun i hi _=>hkeep i hi,r.img,r.newmut,r.mu,r.kk,r.knew,r.nx,r.none,r.stay,r.ro⟩
def Hp.over(H H1:Hp):Hp:=⟨H.m.over H1.m,H1.nx⟩
theorem Hp.get_over(H H1:Hp)(b:Nat):(H.over H1).get b=(H.get b).or (H1.get b):=T.get_over _ _ _
theorem qH.grow{f:FuncId}{args:List V}{H:Hp}{R:V->Hp->Prop}(h:qH P G f args H.ro R):
 qH P G f args H fun v H'=>∃H1,R v H1/\H'=H.over H1/\H.nx<=H1.nx/\(∀b bk,H.get b=some bk->H'.get b=some bk)/\(∀b,H.nx<=b->H'.get b=H1.get b)/\Le H1 H':=by
 intro μ K w xs hR ha;refine (h μ K w xs hR.toRo ha).mono ?_;rintro e w' ⟨x,rfl,v,H1,μ',K',h1,h2,h3,h4⟩;have hkeep:∀i,i<w.heap.size->w'.heap[i]?=w.heap[i]?:=fun i hi=>h4.keep i hi fun b bk hb hm=>by rw [Hp.ro_mut hb] at hm;cases hm
 have hold:∀b bk,H.get b=some bk->(H.over H1).get b=some bk:=fun b bk hb=>by rw [Hp.get_over,hb];rfl
 have hno:∀b,H.nx<=b->H.get b=none:=fun b hb=>by
  cases hg:H.get b with
  |none=>rfl
  |some k=>have:=hR.lt' b k hg;omega
 have hnew:∀b,H.nx<=b->(H.over H1).get b=H1.get b:=fun b hb=>by rw [Hp.get_over,hno b hb];rfl
 have hcase:∀b bk,(H.over H1).get b=some bk->H.get b=some bk\/(H.get b=none/\H1.get b=some bk/\H.nx<=b/\(bk.mut=true\/(K' b/\w.heap.size<=(μ' b).blk))/\w.heap.size<=(μ' b).blk):=by
  intro b bk hb;rw [Hp.get_over] at hb;cases hg:H.get b with
  |some k=>rw [hg] at hb;exact .inl hb
  |none=>
   rw [hg] at hb;have hb:H1.get b=some bk:=hb;by_cases hlt:b<H.nx
   ·have:=h4.none b hlt (by rw [Hp.get_ro,hg];rfl);rw [this] at hb;cases hb
   ·have hm:=h4.newmut b bk (by simpa using hlt) hb;refine .inr ⟨rfl,hb,by omega,hm,?_⟩;rcases hm with hm|⟨_,hge⟩
    ·rcases h4.img b bk hb hm with⟨b0,k0,g0,m0,_⟩|hge
     ·rw [Hp.ro_mut g0] at m0;cases m0
     ·exact hge
    ·exact hge
 have hmu:∀b bk,H.get b=some bk->μ' b=μ b:=fun b bk hb=>h4.mu b (hR.dom b bk hb);refine⟨x,rfl,v,H.over H1,μ',K',⟨H1,h1,rfl,h4.nx,hold,hnew,fun b i c hc=>?_⟩,h2,⟨fun b bk hb=>?_,h3.lt,fun b bk hb=>?_,fun b b' bk bk' hb hb' hm he=>?_,h3.glob⟩,?_⟩
 ·unfold Hp.cell at hc ⊢;rw [Hp.get_over];cases hg:H.get b with
  |none=>exact hc
  |some k=>
   simp only [Option.some_or,Option.bind_some];cases hk:k.ro with
   |none=>
    have hrn:H.ro.get b=none:=by rw [Hp.get_ro,hg];exact hk
    rw [h4.none b (hR.lt' b k hg) hrn] at hc;cases hc
   |some k'=>
    have hrn:H.ro.get b=some k':=by rw [Hp.get_ro,hg];exact hk
    rw [h4.ro b k' hrn (B.ro_mut hk)] at hc;simpa [B.ro_cell hk] using hc
 ·rcases hcase b bk hb with ho|⟨_,hn,_⟩
  ·exact h4.kk b (hR.dom b bk ho)
  ·exact h3.dom b bk hn
 ·rcases hcase b bk hb with ho|⟨_,hn,_⟩
  ·rw [hmu b bk ho,hkeep _ (hR.blk_lt ho)];exact (hR.blk b bk ho).mono h4.kk h4.mu
  ·exact h3.blk b bk hn
 ·rcases hcase b bk hb with ho|⟨_,hn,hge,hm1,hsz⟩
  ·rcases hcase b' bk' hb' with ho'|⟨_,hn',_,_,hsz'⟩
   ·rw [hmu b bk ho,hmu b' bk' ho'] at he;exact hR.inj b b' bk bk' ho ho' hm he
   ·rw [hmu b bk ho] at he;have:=hR.blk_lt ho;omega
  ·rcases hcase b' bk' hb' with ho'|⟨_,hn',_⟩
   ·rw [hmu b' bk' ho'] at he;have:=hR.blk_lt ho';omega
   ·exact h3.inj b b' bk bk' hn hn' hm he
 ·refine⟨h4.same,h4.size,fun i hi _=>hkeep i hi,fun b bk hb hm=>?_,fun b bk hb hg=>?_,h4.mu,h4.kk,h4.knew,h4.nx,fun b hb hn=>?_,fun b bk bk' hb hb'=>?_,fun b bk hb _=>hold b bk hb⟩
  ·rcases hcase b bk hb with ho|⟨_,_,_,_,hsz⟩
   ·exact .inl ⟨b,bk,ho,hm,by rw [hmu b bk ho]⟩
   ·exact .inr hsz
  ·rcases hcase b bk hg with ho|⟨_,_,_,hm,_⟩
   ·have:=hR.lt' b bk ho;omega
   ·exact hm
  ·cases hg:(H.over H1).get b with
   |none=>rfl
   |some k=>
    rcases hcase b k hg with ho|⟨_,_,hge,_⟩
    ·rw [hn] at ho;cases ho
    ·omega
  ·rw [hold b bk hb] at hb';rw [zsi hb']
end
end Go.Ab

namespace Go.Ab
namespace T
variable{α:Type}
def list:T α->List (Nat × α)
 |lf=>[]
 |nd v l r=>(match v with|some x=>[(0,x)]|none=>[])++(l.list.map (fun p=>(2*p.1+1,p.2))++r.list.map (fun p=>(2*p.1+2,p.2)))
theorem mem_list:∀(t:T α) (n:Nat) (x:α),t.get n=some x->(n,x)∈t.list
 |lf,_,_,h=>by cases h
 |nd v l r,n,x,h=>by
  rw [get_nd] at h;simp only [list,List.mem_append,List.mem_map];split at h
  ·rename_i e;subst e;subst h;exact .inl (by simp)
  ·split at h
   ·exact .inr (.inl ⟨(n/2,x),mem_list l _ _ h,by simp;omega⟩)
   ·exact .inr (.inr ⟨(n/2-1,x),mem_list r _ _ h,by simp;omega⟩)
end T
theorem FX{P:Program}{G:Nat}{t:T SFn}(h:∀e∈t.list,qG P G e.1=some e.2/\qA P e.1=true):JR P G t.get:=fun f sf hf=>h (f,sf) (T.mem_list t f sf hf)
end Go.Ab

namespace Go.Ag
open Go.Ab Go.Proofs
set_option maxRecDepth 100000
theorem OP:UH.list=[(7,f7),(31,Iv),(63,Dz),(95,Ax),(47,MV),(79,Bo),(111,HP),(23,M3),(71,Ck),(103,HW),(55,Ff),(87,Bb),(119,HK),(11,To),(19,Mm),(35,Hu),(67,Dt),(99,Ao),(51,Fn),(83,Bl),(27,MZ),(43,Hb),(139,HE),(107,HS),(59,Er),(91,MH),(123,HI),(5,f5),(9,f9),(17,Mp),(33,Ic),(65,Dx),(97,Av),(49,MT),(81,f81),(113,HN),(25,M1),(41,Hf),(73,Cj),(137,uL),(105,HU),(57,MM),(89,MI),(121,HJ),(21,M5),(37,D2),(69,Dg),(133,HG),(101,HY),(53,Fh),(85,Bc),(117,HM),(29,MX),(45,Gt),(77,By),(109,HQ),(61,Ej),(93,MG),(125,f125),(4,f4),(8,f8),(16,My),(32,Iu),(64,Dy),(96,Aw),(48,MU),(80,Bn),(112,HO),(24,M2),(40,Hg),(136,vS),(104,HV),(56,Fe),(88,Ba),(120,uN),(12,Rz),(20,M6),(36,Hk),(68,Ds),(100,HZ),(52,MQ),(84,DU),(116,uO),(28,MY),(76,Ch),(108,HR),(60,Eq),(124,HH),(6,f6),(18,Mn),(34,Ib),(66,Dw),(98,Au),(50,Vm),(82,Bm),(114,uP),(26,M0),(42,He),(138,uK),(106,HT),(58,Es),(90,Az),(122,uM),(14,M7),(22,M4),(70,Db),(134,HF),(102,HX),(54,MN),(86,MJ),(118,HL),(30,fG),(46,MW),(78,Bw),(110,f110),(62,Ea),(94,Ay)]:=by kernel_rfl
theorem is4:qA Tryz.prog 4=true:=by kernel_rfl
theorem is5:qA Tryz.prog 5=true:=by kernel_rfl
theorem is6:qA Tryz.prog 6=true:=by kernel_rfl
theorem is7:qA Tryz.prog 7=true:=by kernel_rfl
theorem is8:qA Tryz.prog 8=true:=by kernel_rfl
theorem is9:qA Tryz.prog 9=true:=by kernel_rfl
theorem qrK:qA Tryz.prog 11=true:=by kernel_rfl
theorem qrJ:qA Tryz.prog 12=true:=by kernel_rfl
theorem qrI:qA Tryz.prog 14=true:=by kernel_rfl
theorem qrH:qA Tryz.prog 16=true:=by kernel_rfl
theorem qrG:qA Tryz.prog 17=true:=by kernel_rfl
theorem qrF:qA Tryz.prog 18=true:=by kernel_rfl
theorem qrE:qA Tryz.prog 19=true:=by kernel_rfl
theorem qrD:qA Tryz.prog 20=true:=by kernel_rfl
theorem qrC:qA Tryz.prog 21=true:=by kernel_rfl
theorem qrB:qA Tryz.prog 22=true:=by kernel_rfl
theorem qrA:qA Tryz.prog 23=true:=by kernel_rfl
theorem qrz:qA Tryz.prog 24=true:=by kernel_rfl
theorem qry:qA Tryz.prog 25=true:=by kernel_rfl
theorem qrx:qA Tryz.prog 26=true:=by kernel_rfl
theorem qrw:qA Tryz.prog 27=true:=by kernel_rfl
theorem qrv:qA Tryz.prog 28=true:=by kernel_rfl
theorem qru:qA Tryz.prog 29=true:=by kernel_rfl
theorem qrt:qA Tryz.prog 30=true:=by kernel_rfl
theorem ZI:qA Tryz.prog 31=true:=by kernel_rfl
theorem qrs:qA Tryz.prog 32=true:=by kernel_rfl
theorem ZH:qA Tryz.prog 33=true:=by kernel_rfl
theorem qrr:qA Tryz.prog 34=true:=by kernel_rfl
theorem qrq:qA Tryz.prog 35=true:=by kernel_rfl
theorem qrp:qA Tryz.prog 36=true:=by kernel_rfl
theorem qro:qA Tryz.prog 37=true:=by kernel_rfl
theorem qrn:qA Tryz.prog 40=true:=by kernel_rfl
theorem qrm:qA Tryz.prog 41=true:=by kernel_rfl
theorem qrl:qA Tryz.prog 42=true:=by kernel_rfl
theorem qrk:qA Tryz.prog 43=true:=by kernel_rfl
theorem qrj:qA Tryz.prog 45=true:=by kernel_rfl
theorem qri:qA Tryz.prog 46=true:=by kernel_rfl
theorem qrh:qA Tryz.prog 47=true:=by kernel_rfl
theorem qrg:qA Tryz.prog 48=true:=by kernel_rfl
theorem qrf:qA Tryz.prog 49=true:=by kernel_rfl
theorem qre:qA Tryz.prog 50=true:=by kernel_rfl
theorem qrd:qA Tryz.prog 51=true:=by kernel_rfl
theorem qrc:qA Tryz.prog 52=true:=by kernel_rfl
theorem qrb:qA Tryz.prog 53=true:=by kernel_rfl
theorem qra:qA Tryz.prog 54=true:=by kernel_rfl
theorem qq9:qA Tryz.prog 55=true:=by kernel_rfl
theorem qq8:qA Tryz.prog 56=true:=by kernel_rfl
theorem qq7:qA Tryz.prog 57=true:=by kernel_rfl
theorem qq6:qA Tryz.prog 58=true:=by kernel_rfl
theorem qq5:qA Tryz.prog 59=true:=by kernel_rfl
theorem qq4:qA Tryz.prog 60=true:=by kernel_rfl
theorem qq3:qA Tryz.prog 61=true:=by kernel_rfl
theorem qq2:qA Tryz.prog 62=true:=by kernel_rfl
theorem qq1:qA Tryz.prog 63=true:=by kernel_rfl
theorem qq0:qA Tryz.prog 64=true:=by kernel_rfl
theorem qqZ:qA Tryz.prog 65=true:=by kernel_rfl
theorem qqY:qA Tryz.prog 66=true:=by kernel_rfl
theorem qqX:qA Tryz.prog 67=true:=by kernel_rfl
theorem qqW:qA Tryz.prog 68=true:=by kernel_rfl
theorem qqV:qA Tryz.prog 69=true:=by kernel_rfl
theorem G2:qA Tryz.prog 70=true:=by kernel_rfl
theorem qqU:qA Tryz.prog 71=true:=by kernel_rfl
theorem qqT:qA Tryz.prog 73=true:=by kernel_rfl
theorem qqS:qA Tryz.prog 76=true:=by kernel_rfl
theorem qqR:qA Tryz.prog 77=true:=by kernel_rfl
theorem qqQ:qA Tryz.prog 78=true:=by kernel_rfl
theorem qqP:qA Tryz.prog 79=true:=by kernel_rfl
theorem qqO:qA Tryz.prog 80=true:=by kernel_rfl
theorem qqN:qA Tryz.prog 81=true:=by kernel_rfl
theorem qqM:qA Tryz.prog 82=true:=by kernel_rfl
theorem qqL:qA Tryz.prog 83=true:=by kernel_rfl
theorem G1:qA Tryz.prog 84=true:=by kernel_rfl
theorem qqK:qA Tryz.prog 85=true:=by kernel_rfl
theorem qqJ:qA Tryz.prog 86=true:=by kernel_rfl
theorem qqI:qA Tryz.prog 87=true:=by kernel_rfl
theorem qqH:qA Tryz.prog 88=true:=by kernel_rfl
theorem qqG:qA Tryz.prog 89=true:=by kernel_rfl
theorem qqF:qA Tryz.prog 90=true:=by kernel_rfl
theorem qqE:qA Tryz.prog 91=true:=by kernel_rfl
theorem qqD:qA Tryz.prog 93=true:=by kernel_rfl
theorem qqC:qA Tryz.prog 94=true:=by kernel_rfl
theorem qqB:qA Tryz.prog 95=true:=by kernel_rfl
theorem qqA:qA Tryz.prog 96=true:=by kernel_rfl
theorem qqz:qA Tryz.prog 97=true:=by kernel_rfl
theorem qqy:qA Tryz.prog 98=true:=by kernel_rfl
theorem qqx:qA Tryz.prog 99=true:=by kernel_rfl
theorem qda:qA Tryz.prog 100=true:=by kernel_rfl
theorem qc9:qA Tryz.prog 101=true:=by kernel_rfl
theorem qc8:qA Tryz.prog 102=true:=by kernel_rfl
theorem qc7:qA Tryz.prog 103=true:=by kernel_rfl
theorem qc6:qA Tryz.prog 104=true:=by kernel_rfl
theorem qc5:qA Tryz.prog 105=true:=by kernel_rfl
theorem qc4:qA Tryz.prog 106=true:=by kernel_rfl
theorem qc3:qA Tryz.prog 107=true:=by kernel_rfl
theorem qc2:qA Tryz.prog 108=true:=by kernel_rfl
theorem qc1:qA Tryz.prog 109=true:=by kernel_rfl
theorem qc0:qA Tryz.prog 110=true:=by kernel_rfl
theorem qcZ:qA Tryz.prog 111=true:=by kernel_rfl
theorem qcY:qA Tryz.prog 112=true:=by kernel_rfl
theorem qcX:qA Tryz.prog 113=true:=by kernel_rfl
theorem qcW:qA Tryz.prog 114=true:=by kernel_rfl
theorem qcV:qA Tryz.prog 116=true:=by kernel_rfl
theorem qcU:qA Tryz.prog 117=true:=by kernel_rfl
theorem qcT:qA Tryz.prog 118=true:=by kernel_rfl
theorem qcS:qA Tryz.prog 119=true:=by kernel_rfl
theorem qcR:qA Tryz.prog 120=true:=by kernel_rfl
theorem qcQ:qA Tryz.prog 121=true:=by kernel_rfl
theorem qcP:qA Tryz.prog 122=true:=by kernel_rfl
theorem qcO:qA Tryz.prog 123=true:=by kernel_rfl
theorem qcN:qA Tryz.prog 124=true:=by kernel_rfl
theorem qcM:qA Tryz.prog 125=true:=by kernel_rfl
theorem qcL:qA Tryz.prog 133=true:=by kernel_rfl
theorem qcK:qA Tryz.prog 134=true:=by kernel_rfl
theorem qcJ:qA Tryz.prog 136=true:=by kernel_rfl
theorem qcI:qA Tryz.prog 137=true:=by kernel_rfl
theorem qcH:qA Tryz.prog 138=true:=by kernel_rfl
theorem qcG:qA Tryz.prog 139=true:=by kernel_rfl
theorem qcz:JR Tryz.prog 1 UH.get:=by
 refine FX ?_;rw [OP];refine zfm ⟨⟨cp7,is7⟩,?_⟩;refine zfm ⟨⟨qb0,ZI⟩,?_⟩;refine zfm ⟨⟨qbz,qq1⟩,?_⟩;refine zfm ⟨⟨qa9,qqB⟩,?_⟩;refine zfm ⟨⟨qbO,qrh⟩,?_⟩;refine zfm ⟨⟨qbn,qqP⟩,?_⟩;refine zfm ⟨⟨qpC,qcZ⟩,?_⟩;refine zfm ⟨⟨qb8,qrA⟩,?_⟩;refine zfm ⟨⟨qbs,qqU⟩,?_⟩;refine zfm ⟨⟨NZ,qc7⟩,?_⟩;refine zfm ⟨⟨qbH,qq9⟩,?_⟩;refine zfm ⟨⟨qbg,qqI⟩,?_⟩;refine zfm ⟨⟨AB,qcS⟩,?_⟩;refine zfm ⟨⟨qci,qrK⟩,?_⟩;refine zfm ⟨⟨qcc,qrE⟩,?_⟩;refine zfm ⟨⟨qbX,qrq⟩,?_⟩;refine zfm ⟨⟨qbv,qqX⟩,?_⟩;refine zfm ⟨⟨qa5,qqx⟩,?_⟩;refine zfm ⟨⟨qbL,qrd⟩,?_⟩;refine zfm ⟨⟨IU,qqL⟩,?_⟩;refine zfm ⟨⟨qb4,qrw⟩,?_⟩;refine zfm ⟨⟨qbR,qrk⟩,?_⟩;refine zfm ⟨⟨ND,qcG⟩,?_⟩;refine zfm ⟨⟨AC,qc3⟩,?_⟩;refine zfm ⟨⟨qbD,qq5⟩,?_⟩;refine zfm ⟨⟨qbc,qqE⟩,?_⟩;refine zfm ⟨⟨NJ,qcO⟩,?_⟩;refine zfm ⟨⟨cp5,is5⟩,?_⟩;refine zfm ⟨⟨cp9,is9⟩,?_⟩;refine zfm ⟨⟨qce,qrG⟩,?_⟩;refine zfm ⟨⟨qbZ,ZH⟩,?_⟩;refine zfm ⟨⟨qbx,qqZ⟩,?_⟩;refine zfm ⟨⟨qa7,qqz⟩,?_⟩;refine zfm ⟨⟨IW,qrf⟩,?_⟩;refine zfm ⟨⟨qbl,qqN⟩,?_⟩;refine zfm ⟨⟨NR,qcX⟩,?_⟩;refine zfm ⟨⟨qb6,qry⟩,?_⟩;refine zfm ⟨⟨qbT,qrm⟩,?_⟩;refine zfm ⟨⟨qbr,qqT⟩,?_⟩;refine zfm ⟨⟨NF,qcI⟩,?_⟩;refine zfm ⟨⟨NX,qc5⟩,?_⟩;refine zfm ⟨⟨qbF,qq7⟩,?_⟩;refine zfm ⟨⟨qbe,qqG⟩,?_⟩;refine zfm ⟨⟨NL,qcQ⟩,?_⟩;refine zfm ⟨⟨qca,qrC⟩,?_⟩;refine zfm ⟨⟨qbV,qro⟩,?_⟩;refine zfm ⟨⟨qbt,qqV⟩,?_⟩;refine zfm ⟨⟨qpB,qcL⟩,?_⟩;refine zfm ⟨⟨N4,qc9⟩,?_⟩;refine zfm ⟨⟨qbJ,qrb⟩,?_⟩;refine zfm ⟨⟨qbi,qqK⟩,?_⟩;refine zfm ⟨⟨NO,qcU⟩,?_⟩;refine zfm ⟨⟨qb2,qru⟩,?_⟩;refine zfm ⟨⟨qbQ,qrj⟩,?_⟩;refine zfm ⟨⟨qbp,qqR⟩,?_⟩;refine zfm ⟨⟨NU,qc1⟩,?_⟩;refine zfm ⟨⟨qbB,qq3⟩,?_⟩;refine zfm ⟨⟨qbb,qqD⟩,?_⟩;refine zfm ⟨⟨NH,qcM⟩,?_⟩;refine zfm ⟨⟨cp4,is4⟩,?_⟩;refine zfm ⟨⟨cp8,is8⟩,?_⟩
 refine zfm ⟨⟨qcf,qrH⟩,?_⟩;refine zfm ⟨⟨AA,qrs⟩,?_⟩;refine zfm ⟨⟨qby,qq0⟩,?_⟩;refine zfm ⟨⟨qa8,qqA⟩,?_⟩;refine zfm ⟨⟨qbN,qrg⟩,?_⟩;refine zfm ⟨⟨qbm,qqO⟩,?_⟩;refine zfm ⟨⟨NS,qcY⟩,?_⟩;refine zfm ⟨⟨qb7,qrz⟩,?_⟩;refine zfm ⟨⟨qbU,qrn⟩,?_⟩;refine zfm ⟨⟨NG,qcJ⟩,?_⟩;refine zfm ⟨⟨NY,qc6⟩,?_⟩;refine zfm ⟨⟨qbG,qq8⟩,?_⟩;refine zfm ⟨⟨qbf,qqH⟩,?_⟩;refine zfm ⟨⟨NM,qcR⟩,?_⟩;refine zfm ⟨⟨qch,qrJ⟩,?_⟩;refine zfm ⟨⟨qcb,qrD⟩,?_⟩;refine zfm ⟨⟨qbW,qrp⟩,?_⟩;refine zfm ⟨⟨qbu,qqW⟩,?_⟩;refine zfm ⟨⟨N5,qda⟩,?_⟩;refine zfm ⟨⟨qbK,qrc⟩,?_⟩;refine zfm ⟨⟨qbj,G1⟩,?_⟩;refine zfm ⟨⟨NP,qcV⟩,?_⟩;refine zfm ⟨⟨qb3,qrv⟩,?_⟩;refine zfm ⟨⟨qbq,qqS⟩,?_⟩;refine zfm ⟨⟨NV,qc2⟩,?_⟩;refine zfm ⟨⟨qbC,qq4⟩,?_⟩;refine zfm ⟨⟨NI,qcN⟩,?_⟩;refine zfm ⟨⟨cp6,is6⟩,?_⟩;refine zfm ⟨⟨qcd,qrF⟩,?_⟩;refine zfm ⟨⟨qbY,qrr⟩,?_⟩;refine zfm ⟨⟨qbw,qqY⟩,?_⟩;refine zfm ⟨⟨qa6,qqy⟩,?_⟩;refine zfm ⟨⟨qbM,qre⟩,?_⟩;refine zfm ⟨⟨qbk,qqM⟩,?_⟩;refine zfm ⟨⟨NQ,qcW⟩,?_⟩;refine zfm ⟨⟨qb5,qrx⟩,?_⟩;refine zfm ⟨⟨qbS,qrl⟩,?_⟩;refine zfm ⟨⟨NE,qcH⟩,?_⟩;refine zfm ⟨⟨NW,qc4⟩,?_⟩;refine zfm ⟨⟨qbE,qq6⟩,?_⟩;refine zfm ⟨⟨qbd,qqF⟩,?_⟩;refine zfm ⟨⟨NK,qcP⟩,?_⟩;refine zfm ⟨⟨qcg,qrI⟩,?_⟩;refine zfm ⟨⟨qb9,qrB⟩,?_⟩;refine zfm ⟨⟨IV,G2⟩,?_⟩;refine zfm ⟨⟨qpA,qcK⟩,?_⟩;refine zfm ⟨⟨N3,qc8⟩,?_⟩;refine zfm ⟨⟨qbI,qra⟩,?_⟩;refine zfm ⟨⟨qbh,qqJ⟩,?_⟩;refine zfm ⟨⟨NN,qcT⟩,?_⟩;refine zfm ⟨⟨qb1,qrt⟩,?_⟩;refine zfm ⟨⟨qbP,qri⟩,?_⟩;refine zfm ⟨⟨qbo,qqQ⟩,?_⟩;refine zfm ⟨⟨NT,qc0⟩,?_⟩;refine zfm ⟨⟨qbA,qq2⟩,?_⟩;refine zfm ⟨⟨qba,qqC⟩,?_⟩;intro x hx;cases hx
end Go.Ag

namespace Go.Ab
abbrev z8:=List (Nat × V)
def kA:z8->Nat->Option V
 |[],_=>none
 |(k,v)::E,n=>match Nat.beq k n with
  |true=>some v
  |false=>kA E n
def Q4(E:z8)(F:T V):Prop:=∀n v,kA E n=some v->F.get n=some v
def xQ(E E':z8):Prop:=∀n v,kA E n=some v->kA E' n=some v
theorem xQ.nil(E:z8):xQ [] E:=fun _ _ h=>by cases h
theorem WL(k:Nat)(v:V)(E:z8)(n:Nat):kA ((k,v)::E) n=if k=n then some v else kA E n:=by
 simp only [kA];by_cases h:k=n
 ·subst h;simp
 ·rw [if_neg h];have:Nat.beq k n=false:=by cases hb:Nat.beq k n with
   |true=>exact absurd (Nat.eq_of_beq_eq_true hb) h
   |false=>rfl
  rw [this]
theorem xQ.cons{E E':z8}{k:Nat}{v:V}(h:kA E' k=some v)(hr:xQ E E'):xQ ((k,v)::E) E':=fun n x hx=>by
 rw [WL] at hx;split at hx
 ·rename_i e;subst e;rw [h];exact hx
 ·exact hr n x hx
theorem Q4.of{E E':z8}{F:T V}(h:Q4 E' F)(hs:xQ E E'):Q4 E F:=fun n v hv=>h n v (hs n v hv)
def yI(E:z8):Option Nat->V->z8
 |some d,v=>(d,v)::E
 |none,_=>E
theorem Q4.set{E:z8}{F:T V}(h:Q4 E F)(d:Option Nat)(v:V):Q4 (yI E d v) (xF F d v):=by
 cases d with
 |none=>exact h
 |some d=>
  intro n x hx;simp only [yI,WL] at hx;simp only [xF,T.get_set];split at hx
  ·rename_i e;subst e;rw [if_pos rfl];exact hx
  ·rename_i e;rw [if_neg (fun h=>e h.symm)];exact h n x hx
def res(E:z8):Opd->Opd
 |.t n=>match kA E n with
  |some v=>.c v
  |none=>.t n
 |.c v=>.c v
def jL(E:z8):Opd->Bool
 |.t n=>(kA E n).isSome
 |.c _=>true
theorem iP{E:z8}{F:T V}(h:Q4 E F){o:Opd}(ho:jL E o=true):(res E o).ev .lf=o.ev F:=by
 cases o with
 |c v=>rfl
 |t n=>
  simp only [jL,Option.isSome_iff_exists] at ho;obtain⟨v,hv⟩:=ho;simp [res,hv,Opd.ev,h n v hv]
def KH(f:Opd->Opd):List (Nat × Nat × Opd)->List (Nat × Nat × Opd)
 |[]=>[]
 |(a,b,x)::r=>(a,b,f x)::KH f r
def XJ:List (Nat × Nat × Opd)->List Opd
 |[]=>[]
 |(_,_,x)::r=>x::XJ r
def wJ(f:Opd->Opd):Option Opd->Option Opd
 |none=>none
 |some x=>some (f x)
def kF:Option Opd->List Opd
 |none=>[]
 |some x=>[x]
def PureOp.mp(f:Opd->Opd):PureOp->PureOp
 |.mv x=>.mv (f x)
 |.pick c a b=>.pick (f c) (f a) (f b)
 |.build z ps=>.build z (KH f ps)
 |.nilck x=>.nilck (f x)
 |.bin op x y=>.bin op (f x) (f y)
 |.beq n x y=>.beq n (f x) (f y)
 |.eqs n ks x y=>.eqs n ks (f x) (f y)
 |.neg x=>.neg (f x)
 |.not x=>.not (f x)
 |.conv k x=>.conv k (f x)
 |.mkfn g caps=>.mkfn g (caps.map f)
 |.slice e x lo hi mx=>.slice e (f x) (wJ f lo) (wJ f hi) (wJ f mx)
 |.faddr o x=>.faddr o (f x)
 |.field a o n x=>.field a o n (f x)
 |.iaddr e x i=>.iaddr e (f x) (f i)
 |.aaddr l e x i=>.aaddr l e (f x) (f i)
 |.aindex l e a x i=>.aindex l e a (f x) (f i)
 |.extract x i=>.extract (f x) i
 |.len x=>.len (f x)
 |.mm b x y=>.mm b (f x) (f y)
 |.nileq n x=>.nileq n (f x)
 |.cint n=>.cint n
 |.sindex x i=>.sindex (f x) (f i)
 |.slen x=>.slen (f x)
 |.sslice x lo hi=>.sslice (f x) (wJ f lo) (wJ f hi)
 |.cap x=>.cap (f x)
def PureOp.opds:PureOp->List Opd
 |.mv x=>[x]
 |.pick c a b=>[c,a,b]
 |.build _ ps=>XJ ps
 |.nilck x=>[x]
 |.bin _ x y=>[x,y]
 |.beq _ x y=>[x,y]
 |.eqs _ _ x y=>[x,y]
 |.neg x=>[x]
 |.not x=>[x]
 |.conv _ x=>[x]
 |.mkfn _ caps=>caps
 |.slice _ x lo hi mx=>x::(kF lo++(kF hi++kF mx))
 |.faddr _ x=>[x]
 |.field _ _ _ x=>[x]
 |.iaddr _ x i=>[x,i]
 |.aaddr _ _ x i=>[x,i]
 |.aindex _ _ _ x i=>[x,i]
 |.extract x _=>[x]
 |.len x=>[x]
 |.mm _ x y=>[x,y]
 |.nileq _ x=>[x]
 |.cint _=>[]
 |.sindex x i=>[x,i]
 |.slen x=>[x]
 |.sslice x lo hi=>x::(kF lo++kF hi)
 |.cap x=>[x]
section
variable{f:Opd->Opd}{F F':T V}
theorem dI:∀{ps:List (Nat × Nat × Opd)} {z:List C},(∀o∈XJ ps,(f o).ev F'=o.ev F)->yp F' z (KH f ps)=yp F z ps
 |[],_,_=>rfl
 |(a,b,x)::r,z,h=>by
  simp only [KH,yp,h x (by simp [XJ])];split
  ·rfl
  ·split
   ·exact dI fun o ho=>h o (by simp [XJ,ho])
   ·rfl
theorem sC:∀{l:List Opd},(∀o∈l,(f o).ev F'=o.ev F)->kI F' (l.map f)=kI F l
 |[],_=>rfl
 |x::l,h=>by
  simp only [List.map_cons,kI,h x (by simp),sC (l:=l) fun o ho=>h o (by simp [ho])]
theorem V8{d y:Nat}{x:Option Opd}(h:∀o∈kF x,(f o).ev F'=o.ev F):xt F' d y (wJ f x)=xt F d y x:=by
 cases x with
 |none=>rfl
 |some x=>simp only [wJ,xt,h x (by simp [kF])]
theorem BQ{v:V}{lo hi:Option Opd}(h:∀o∈kF lo++kF hi,(f o).ev F'=o.ev F):vF F' v (wJ f lo) (wJ f hi)=vF F v lo hi:=by
 unfold vF;have h1:∀k y,xt F' k y (wJ f lo)=xt F k y lo:=fun k y=>by
  cases lo with
  |none=>rfl
  |some x=>simp only [wJ,xt,h x (by simp [kF])]
 have h2:∀k y,xt F' k y (wJ f hi)=xt F k y hi:=fun k y=>by
  cases hi with
  |none=>rfl
  |some x=>simp only [wJ,xt,h x (by simp [kF])]
 simp only [h1,h2]
theorem F3{e:Nat}{v:V}{lo hi mx:Option Opd}(h:∀o∈kF lo++(kF hi++kF mx),(f o).ev F'=o.ev F):js F' e v (wJ f lo) (wJ f hi) (wJ f mx)=js F e v lo hi mx:=by
 have h1:∀d y,xt F' d y (wJ f lo)=xt F d y lo:=fun _ _=>V8 fun o ho=>h o (by simp [ho]);have h2:∀d y,xt F' d y (wJ f hi)=xt F d y hi:=fun _ _=>V8 fun o ho=>h o (by simp [ho]);have h3:∀d y,xt F' d y (wJ f mx)=xt F d y mx:=fun _ _=>V8 fun o ho=>h o (by simp [ho]);have h4:(wJ f mx).isSome=mx.isSome:=by cases mx<;>rfl
 simp only [js,h1,h2,h3,h4]
theorem pT{op:PureOp}(h:∀o∈op.opds,(f o).ev F'=o.ev F):qv F' (op.mp f)=qv F op:=by
 cases op with
 |build z ps=>simp only [PureOp.mp,qv,dI h]
 |mkfn g caps=>
  have h':∀o∈caps,(f o).ev F'=o.ev F:=h;simp only [PureOp.mp,qv,sC h']
 |sslice x lo hi=>
  simp only [PureOp.mp,qv];rw [h x (by simp [PureOp.opds]),BQ fun o ho=>h o (by simp only [PureOp.opds,List.mem_cons];exact .inr ho)]
 |slice e x lo hi mx=>
  simp only [PureOp.mp,qv];rw [h x (by simp [PureOp.opds]),F3 fun o ho=>h o (by simp only [PureOp.opds,List.mem_cons];exact .inr ho)]
 |_=>simp only [PureOp.opds,List.mem_cons,List.not_mem_nil,or_false,forall_eq_or_imp,forall_eq] at h<;>simp only [PureOp.mp,qv,h]
def LoadOp.mp(f:Opd->Opd):LoadOp->LoadOp
 |.load a n x=>.load a n (f x)
 |.lookup z ok m k=>.lookup z ok (f m) (f k)
 |.mlen m=>.mlen (f m)
def LoadOp.opds:LoadOp->List Opd
 |.load _ _ x=>[x]
 |.lookup _ _ m k=>[m,k]
 |.mlen m=>[m]
theorem dD{H:Hp}{op:LoadOp}(h:∀o∈op.opds,(f o).ev F'=o.ev F):xj F' H (op.mp f)=xj F H op:=by
 cases op<;>simp only [LoadOp.opds,List.mem_cons,List.not_mem_nil,or_false,forall_eq_or_imp,forall_eq] at h<;>simp only [LoadOp.mp,xj,h]
def AllocOp.mp(f:Opd->Opd):AllocOp->AllocOp
 |.alloc z=>.alloc z
 |.box x=>.box (f x)
 |.bslice e l z ps=>.bslice e l z (KH f ps)
 |.mkslice e b z l c=>.mkslice e b z (f l) (f c)
 |.mkmap=>.mkmap
 |.mkst=>.mkst
def AllocOp.opds:AllocOp->List Opd
 |.alloc _=>[]
 |.box x=>[x]
 |.bslice _ _ _ ps=>XJ ps
 |.mkslice _ _ _ l c=>[l,c]
 |.mkmap=>[]
 |.mkst=>[]
theorem n5{op:AllocOp}(h:∀o∈op.opds,(f o).ev F'=o.ev F):xA F' (op.mp f)=xA F op:=by
 cases op with
 |bslice e l z ps=>simp only [AllocOp.mp,xA,dI h]
 |_=>simp only [AllocOp.opds,List.mem_cons,List.not_mem_nil,or_false,forall_eq_or_imp,forall_eq] at h<;>simp only [AllocOp.mp,xA,h]
def EffOp.mp(f:Opd->Opd):EffOp->EffOp
 |.store n a x=>.store n (f a) (f x)
 |.append e b s x=>.append e b (f s) (f x)
 |.copy e d s=>.copy e (f d) (f s)
 |.mapupd m k x=>.mapupd (f m) (f k) (f x)
 |.clear e z x=>.clear e z (f x)
 |.appendz e b z s x=>.appendz e b z (f s) (f x)
 |.sbytes x=>.sbytes (f x)
 |.stupd m k x=>.stupd (f m) (f k) (f x)
 |.rng m=>.rng (f m)
 |.ent m=>.ent (f m)
 |.stlook z ok m k=>.stlook z ok (f m) (f k)
 |.stlen m=>.stlen (f m)
 |.stdel m k=>.stdel (f m) (f k)
def EffOp.opds:EffOp->List Opd
 |.store _ a x=>[a,x]
 |.append _ _ s x=>[s,x]
 |.copy _ d s=>[d,s]
 |.mapupd m k x=>[m,k,x]
 |.clear _ _ x=>[x]
 |.appendz _ _ _ s x=>[s,x]
 |.sbytes x=>[x]
 |.stupd m k x=>[m,k,x]
 |.rng m=>[m]
 |.ent m=>[m]
 |.stlook _ _ m k=>[m,k]
 |.stlen m=>[m]
 |.stdel m k=>[m,k]
theorem qaA{H:Hp}{op:EffOp}(h:∀o∈op.opds,(f o).ev F'=o.ev F):xr F' H (op.mp f)=xr F H op:=by
 cases op<;>simp only [EffOp.opds,List.mem_cons,List.not_mem_nil,or_false,forall_eq_or_imp,forall_eq] at h<;>simp only [EffOp.mp,xr,h]
end
theorem ZV{E:z8}{F:T V}(h:Q4 E F){l:List Opd}(hl:l.all (jL E)=true):∀o∈l,(res E o).ev .lf=o.ev F:=fun o ho=>iP h (List.all_eq_true.1 hl o ho)
def Zh(c0 c:zR):Prop:=∀x∈c,∃y∈c0,y.1=x.1/\∀H,y.2 H->x.2 H
theorem Zh.watch{c0 c:zR}(h:Zh c0 c){ws:List Nat}{H:Hp}(hw:zx ws c0 H):zx ws c H:=by
 cases ws with
 |nil=>trivial
 |cons k r=>
  intro j hj p hp;obtain⟨y,hy,e,hh⟩:=h (j,p) hp;obtain⟨y1,y2⟩:=y;simp only at e;subst e;exact hh H (hw _ hj y2 hy)
theorem Zh.cons{c0 c:zR}(h:Zh c0 c)(k:Nat){p0 p:Hp->Prop}(hp:∀H,p0 H->p H):Zh ((k,p0)::c0) ((k,p)::c):=fun x hx=>by
 rcases List.mem_cons.1 hx with rfl|hx
 ·exact⟨(k,p0),by simp,rfl,hp⟩
 ·obtain⟨y,hy,r⟩:=h x hx;exact⟨y,by simp [hy],r⟩
section
variable{P:Program}{G base:Nat}{Q:z8->Hp->Prop}{r:List SOper}{ctx:zR}{E:z8}{H:Hp}{id:Nat}{dst:Option Nat}{aid:Option Nat}{ws:List Nat}{keep:Bool}
def PW(P:Program)(G base:Nat)(Q:z8->Hp->Prop)(l:List SOper)(ctx:zR)(E:z8)(H:Hp):Prop:=
 ∀F c,Q4 E F->Zh ctx c->qF P G base (fun F' H'=>∃E',Q4 E' F'/\Q E' H') l c F H
theorem XI(h:Q E H):PW P G base Q [] ctx E H:=fun _ _ hs _=>⟨E,hs,h⟩
theorem kV{op:PureOp}{v:V}(hk:op.opds.all (jL E)=true)(hv:qv .lf (op.mp (res E))=some v)(h:PW P G base Q r ctx (yI E dst v) H):PW P G base Q (⟨id,dst,.p op,none,aid,ws,keep⟩::r) ctx E H:=by
 intro F c hs hc;rw [pT (ZV hs hk)] at hv;simp only [qF,qt,if_true,hv];exact h _ c (hs.set dst v) hc
theorem YO{n:Nat}{v:V}(hv:kA E n=some v)(h:PW P G base Q r ctx (yI E dst v) H):PW P G base Q (⟨id,dst,.p (.mv (.t n)),none,aid,ws,keep⟩::r) ctx E H:=
 kV (by simp [PureOp.opds,jL,hv]) (by simp [PureOp.mp,qv,res,hv,Opd.ev]) h
theorem YP{v:V}(h:PW P G base Q r ctx (yI E dst v) H):PW P G base Q (⟨id,dst,.p (.mv (.c v)),none,aid,ws,keep⟩::r) ctx E H:=
 kV rfl rfl h
theorem GJ{op:LoadOp}{v:V}(hk:op.opds.all (jL E)=true)(hv:xj .lf H (op.mp (res E))=some v)(h:PW P G base Q r ctx (yI E dst v) H):PW P G base Q (⟨id,dst,.l op,none,aid,ws,false⟩::r) ctx E H:=by
 intro F c hs hc;rw [dD (ZV hs hk)] at hv;simp only [qF,qt,if_true,hv,Bool.false_eq_true,if_false];exact h _ c (hs.set dst v) hc
theorem L4{op:LoadOp}{v:V}(hk:op.opds.all (jL E)=true)(hv:xj .lf H (op.mp (res E))=some v)(h:PW P G base Q r ((id,fun H'=>xj .lf H' (op.mp (res E))=some v)::ctx) (yI E dst v) H):PW P G base Q (⟨id,dst,.l op,none,aid,ws,true⟩::r) ctx E H:=by
 intro F c hs hc;have hv':=hv;rw [dD (ZV hs hk)] at hv';simp only [qF,qt,if_true,hv'];exact h _ _ (hs.set dst v) (hc.cons id fun H' hh=>by rw [dD (ZV hs hk)] at hh;exact hh)
theorem L5{n:Nat}{a:Opd}{b o:Nat}{c:C}(hk:jL E a=true)(ha:(res E a).ev .lf=.one (.ptr b o))(hc:H.cell b o=some c)(h:PW P G base Q r ctx (yI E dst (.one c)) H):PW P G base Q (⟨id,dst,.l (.load false n a),none,aid,ws,false⟩::r) ctx E H:=
 GJ (by simp [LoadOp.opds,hk]) (by simp [LoadOp.mp,xj,ha,hc]) h
theorem Ky{n:Nat}{a:Opd}{b o:Nat}{l:List C}(hk:jL E a=true)(ha:(res E a).ev .lf=.one (.ptr b o))(hc:H.loads b o n=some l)(h:PW P G base Q r ctx (yI E dst (.agg l)) H):PW P G base Q (⟨id,dst,.l (.load true n a),none,aid,ws,false⟩::r) ctx E H:=
 GJ (by simp [LoadOp.opds,hk]) (by simp [LoadOp.mp,xj,ha,hc]) h
theorem Xd{op:AllocOp}{bk:B}{g:Nat->V}(hk:op.opds.all (jL E)=true)(hv:xA .lf (op.mp (res E))=some (bk,g))(h:PW P G base Q r ctx (yI E dst (g H.nx)) (H.push bk)):PW P G base Q (⟨id,dst,.a op,none,none,ws,keep⟩::r) ctx E H:=by
 intro F c hs hc;rw [n5 (ZV hs hk)] at hv;simp only [qF,qt,if_true,hv];exact h _ c (hs.set dst _) hc
theorem U0{op:AllocOp}{bk:B}{g:Nat->V}{k:Nat}(hk:op.opds.all (jL E)=true)(hv:xA .lf (op.mp (res E))=some (bk,g))(h:PW P G base Q r ctx (yI E dst (g (base+k))) (H.add (base+k) bk)):PW P G base Q (⟨id,dst,.a op,none,some k,ws,keep⟩::r) ctx E H:=by
 intro F c hs hc;rw [n5 (ZV hs hk)] at hv;simp only [qF,qt,if_true,hv];exact h _ c (hs.set dst _) hc
theorem tF{op:EffOp}{v:V}{H':Hp}(hk:op.opds.all (jL E)=true)(hv:xr .lf H (op.mp (res E))=some (v,H'))(hw:zx ws ctx H')(h:PW P G base Q r ctx (yI E dst v) H'):PW P G base Q (⟨id,dst,.e op,none,aid,ws,keep⟩::r) ctx E H:=by
 intro F c hs hc;rw [qaA (ZV hs hk)] at hv;simp only [qF,qt,if_true,hv];exact⟨hc.watch hw,h _ c (hs.set dst _) hc⟩
theorem sH{F:T V}(hs:Q4 E F):∀{args:List Opd},args.all (jL E)=true->args.map (·.ev F)=args.map (fun a=>(res E a).ev .lf)
 |[],_=>rfl
 |a::l,h=>by
  simp only [List.all_cons,xD] at h;simp only [List.map_cons,iP hs h.1,sH hs h.2]
theorem qcD{f:FuncId}{args:List Opd}{vs:List V}(hk:args.all (jL E)=true)(hvs:args.map (fun a=>(res E a).ev .lf)=vs)(h:qH P G f vs H fun v H'=>zx ws ctx H'/\PW P G base Q r ctx (yI E dst v) H'):PW P G base Q (⟨id,dst,.cf f args,none,aid,ws,keep⟩::r) ctx E H:=by
 intro F c hs hc;subst hvs;simp only [qF,qt,if_true];rw [sH hs hk];exact h.mono fun v H' hh=>⟨hc.watch hh.1,hh.2 _ c (hs.set dst v) hc⟩
theorem pP{op:SOp}{g:Nat}{t want:Bool}(hg:kA E g=some (.one (.bool t)))(ht:t=want)(h:PW P G base Q (⟨id,dst,op,none,aid,ws,keep⟩::r) ctx E H):PW P G base Q (⟨id,dst,op,some (g,want),aid,ws,keep⟩::r) ctx E H:=by
 intro F c hs hc;have:=h F c hs hc;have hw:qt (some (g,want)) F=true:=by simp [qt,hs g _ hg,ht]
 rw [qF] at this ⊢;simp only [qt,if_true] at this;simp only [hw,if_true];exact this
theorem pQ{op:SOp}{g:Nat}{t want:Bool}(hg:kA E g=some (.one (.bool t)))(ht:t=!want)(h:PW P G base Q r ctx (yI E dst V.undef) H):PW P G base Q (⟨id,dst,op,some (g,want),aid,ws,keep⟩::r) ctx E H:=by
 intro F c hs hc;have hw:qt (some (g,want)) F=false:=by simp [qt,hs g _ hg,ht]
 rw [qF];simp only [hw,Bool.false_eq_true,if_false];exact h _ c (hs.set dst _) hc
theorem L3{op:PureOp}{v:V}{g:Nat}{t want:Bool}(hg:kA E g=some (.one (.bool t)))(hk:op.opds.all (jL E)=true)(hv:t=want->qv .lf (op.mp (res E))=some v)(h:PW P G base Q r ctx (yI E dst (if t=want then v else V.undef)) H):PW P G base Q (⟨id,dst,.p op,some (g,want),aid,ws,keep⟩::r) ctx E H:=by
 by_cases ht:t=want
 ·exact pP hg ht (kV hk (hv ht) (by rw [if_pos ht] at h;exact h))
 ·exact pQ hg (by cases t<;>cases want<;>simp_all) (by rw [if_neg ht] at h;exact h)
theorem qcC{op:LoadOp}{v:V}{g:Nat}{t want:Bool}(hg:kA E g=some (.one (.bool t)))(hk:op.opds.all (jL E)=true)(hv:t=want->xj .lf H (op.mp (res E))=some v)(h:PW P G base Q r ctx (yI E dst (if t=want then v else V.undef)) H):PW P G base Q (⟨id,dst,.l op,some (g,want),aid,ws,false⟩::r) ctx E H:=by
 by_cases ht:t=want
 ·exact pP hg ht (GJ hk (hv ht) (by rw [if_pos ht] at h;exact h))
 ·exact pQ hg (by cases t<;>cases want<;>simp_all) (by rw [if_neg ht] at h;exact h)
theorem CL{n:Nat}{a:Opd}{b o:Nat}{c:C}{g:Nat}{t want:Bool}(hg:kA E g=some (.one (.bool t)))(hk:jL E a=true)(ha:t=want->(res E a).ev .lf=.one (.ptr b o))(hc:H.cell b o=some c)(h:PW P G base Q r ctx (yI E dst (if t=want then .one c else V.undef)) H):PW P G base Q (⟨id,dst,.l (.load false n a),some (g,want),aid,ws,false⟩::r) ctx E H:=
 qcC hg (by simp [LoadOp.opds,hk]) (fun ht=>by simp [LoadOp.mp,xj,ha ht,hc]) h
theorem pR{c a b:Opd}{t x y:Bool}(hk:[c,a,b].all (jL E)=true)(hc:(res E c).ev .lf=.one (.bool t))(ha:t=true->(res E a).ev .lf=.one (.bool x))(hb:t=false->(res E b).ev .lf=.one (.bool y))(h:PW P G base Q r ctx (yI E dst (.one (.bool (if t=true then x else y)))) H):PW P G base Q (⟨id,dst,.p (.pick c a b),none,aid,ws,keep⟩::r) ctx E H:=by
 refine kV (v:=.one (.bool (if t=true then x else y))) hk ?_ h
 simp only [PureOp.mp,qv,hc];cases t with
 |true=>simp [ha rfl]
 |false=>simp [hb rfl]
end
def PS(P:Program)(G n:Nat)(s:SC)(Q:Exit->z8->Hp->Prop)(E:z8)(H:Hp):Prop:=∀F,Q4 E F->sN P G n s (fun e F' H'=>∃E',Q4 E' F'/\Q e E' H') F H
def LY(next:z8->Hp->Prop)(Q:Exit->z8->Hp->Prop):Exit->z8->Hp->Prop
 |.normal,E,H=>next E H
 |e,E,H=>Q e E H
def FB(id:Nat)(Q:Exit->z8->Hp->Prop):Exit->z8->Hp->Prop
 |.exit id',E,H=>if id'=id then Q .normal E H else Q (.exit id') E H
 |e,E,H=>Q e E H
section
variable{P:Program}{G n:Nat}{Q:Exit->z8->Hp->Prop}{E:z8}{H:Hp}
theorem CP{s:SC}{E':z8}(hs:xQ E' E)(h:PS P G n s Q E' H):PS P G n s Q E H:=fun F hF=>h F (hF.of hs)
theorem OZ(h:Q .normal E H):PS P G n .skip Q E H:=fun _ hF=>Vw ⟨E,hF,h⟩
theorem KA{id:Nat}(h:Q (.exit id) E H):PS P G n (.exit id) Q E H:=fun _ hF=>Vy ⟨E,hF,h⟩
theorem yN(h:Q .ret E H):PS P G n .ret Q E H:=fun _ hF=>cY ⟨E,hF,h⟩
theorem YR(hm:P.follows .mixedOrders=true){l:List SOper}{rs:Nat}(h:PW P G H.nx (Q .normal) l [] E (H.skip rs)):PS P G n (.ops l rs) Q E H:=fun F hF=>cZ hm (h F [] hF fun _ hx=>by cases hx)
theorem Xf(hm:P.follows .mixedOrders=true){l:List SOper}(h:PW P G H.nx (Q .normal) l [] E H):PS P G n (.ops l 0) Q E H:=YR hm h
theorem vY{a b:SC}(h:PS P G n a (LY (PS P G n b Q) Q) E H):PS P G n (.seq a b) Q E H:=fun F hF=>cX (yL (h F hF) fun e F' H' ⟨E',h1,h2⟩=>by
 cases e with
 |normal=>exact h2 F' h1
 |_=>exact⟨E',h1,h2⟩)
theorem O0{d:Opd}{a b:SC}{t:Bool}(hk:jL E d=true)(ht:(res E d).ev .lf=.one (.bool t))(h:PS P G n (if t then a else b) Q E H):PS P G n (.cond d a b) Q E H:=fun F hF=>Jd (t:=t) (by rw [<-iP hF hk];exact ht) (h F hF)
theorem kD{d:Opd}{a b:SC}{t:Bool}(hk:jL E d=true)(ht:(res E d).ev .lf=.one (.bool t))(h1:t=true->PS P G n a Q E H)(h2:t=false->PS P G n b Q E H):PS P G n (.cond d a b) Q E H:=O0 hk ht (by
 cases t with
 |true=>exact h1 rfl
 |false=>exact h2 rfl)
theorem GN{id:Nat}{a:SC}(h:PS P G n a (FB id Q) E H):PS P G n (.block id a) Q E H:=fun F hF=>Wj (yL (h F hF) fun e F' H' ⟨E',h1,h2⟩=>by
 cases e with
 |exit id'=>
  simp only [FB] at h2;simp only [Y5];split
  ·rename_i e;rw [if_pos e] at h2;exact⟨E',h1,h2⟩
  ·rename_i e;rw [if_neg e] at h2;exact⟨E',h1,h2⟩
 |_=>exact⟨E',h1,h2⟩)
theorem Kz{a:SC}(I:Nat->z8->Hp->Prop){m:Nat}(h0:∃E0,xQ E0 E/\I m E0 H)(round:∀m E H,WF H->I m E H->PS P G n a (LY (fun E' H'=>∃m',m'<m/\∃E0,xQ E0 E'/\I m' E0 H') Q) E H):PS P G n (.loop a) Q E H:=fun F hF=>by
 obtain⟨E0,hs,hI⟩:=h0;refine Vx (fun m F H=>∃E,Q4 E F/\I m E H) ⟨E0,hF.of hs,hI⟩ ?_;rintro m F H ⟨E,hF,hI⟩;refine UI fun hw=>yL (round m E H hw hI F hF) fun e F' H' ⟨E',h1,h2⟩=>?_;cases e with
 |normal=>
  obtain⟨m',hm',E0,hs,hI'⟩:=h2;exact⟨m',hm',E0,h1.of hs,hI'⟩
 |_=>exact⟨E',h1,h2⟩
def gG:List V->Nat->z8
 |[],_=>[]
 |v::l,i=>(i,v)::gG l (i+1)
theorem fQ:∀(args:List V) (i:Nat),Q4 (gG args i) (vA args i)
 |[],_=>fun _ _ h=>by cases h
 |v::l,i=>fun n x h=>by
  simp only [gG,WL] at h;simp only [vA,T.get_set];split at h
  ·rename_i e;subst e;rw [if_pos rfl];exact h
  ·rename_i e;rw [if_neg (fun h=>e h.symm)];exact fQ l (i+1) n x h
def iR(E:z8)(H:Hp):SRes->Option V
 |.t n=>kA E n
 |.cell agg k n=>match kA E n with
  |some v=>xj .lf H (.load agg k (.c v))
  |none=>none
def Kx(E:z8)(H:Hp):List SRes->Option (List V)
 |[]=>some []
 |r::l=>match iR E H r,Kx E H l with
  |some v,some vs=>if w9 v then some (v::vs) else none
  |_,_=>none
def Kw(E:z8)(H:Hp)(rs:List SRes):Option V:=
 match Kx E H rs with
 |some [v]=>some v
 |some vs=>some (.tup vs)
 |none=>none
theorem OW{F:T V}(hs:Q4 E F){r:SRes}{v:V}(h:iR E H r=some v):Kp F H r=some v:=by
 cases r with
 |t n=>simp only [iR] at h;simp [Kp,hs n v h]
 |cell agg k n=>
  simp only [iR] at h;split at h
  ·rename_i x hx;simp only [Kp,xj,Opd.ev,hs n x hx,Option.getD_some] at h ⊢;exact h
  ·cases h
theorem iQ{F:T V}(hs:Q4 E F):∀{l:List SRes} {vs:List V},Kx E H l=some vs->vG F H l=some vs
 |[],vs,h=>h
 |r::l,vs,h=>by
  simp only [Kx] at h;cases h1:iR E H r with
  |none=>simp [h1] at h
  |some v=>
   cases h2:Kx E H l with
   |none=>simp [h1,h2] at h
   |some vs'=>
    simp only [h1,h2] at h;simp only [vG,OW hs h1,iQ hs h2];exact h
theorem aV{F:T V}(hs:Q4 E F){rs:List SRes}{v:V}(h:Kw E H rs=some v):yb F H rs=some v:=by
 unfold Kw at h;unfold yb;cases h1:Kx E H rs with
 |none=>simp [h1] at h
 |some vs=>rw [iQ hs h1];rw [h1] at h;exact h
def qqt(rs:List SRes)(R:V->Hp->Prop):Exit->z8->Hp->Prop
 |.normal,E,H=>∃v,Kw E H rs=some v/\R v H
 |.ret,E,H=>∃v,Kw E H rs=some v/\R v H
 |_,_,_=>False
theorem kX{f:FuncId}{sf:SFn}(hf:qG P G f=some sf){args:List V}{R:V->Hp->Prop}(hn:args.length<=sf.n)(h:WF H->PS P G sf.n sf.code (qqt sf.res R) (gG args 0) H):qH P G f args H R:=by
 refine FM fun hw=>JA hf hn (yL (h hw _ (fQ args 0)) fun e F' H' ⟨E',h1,h2⟩=>?_);cases e with
 |normal=>obtain⟨v,hv,hR⟩:=h2;simp only [Xc,aV h1 hv];exact hR
 |ret=>obtain⟨v,hv,hR⟩:=h2;simp only [Xc,aV h1 hv];exact hR
 |_=>exact h2.elim
end
section
variable{P:Program}{G base:Nat}{Q:z8->Hp->Prop}{r:List SOper}{ctx:zR}{E:z8}{H H':Hp}{id:Nat}{dst:Option Nat}{aid:Option Nat}{ws:List Nat}{keep:Bool}
theorem UX{n:Nat}{a x:Opd}{b o:Nat}{l:List C}(hk:[a,x].all (jL E)=true)(ha:(res E a).ev .lf=.one (.ptr b o))(hx:(res E x).ev .lf=.agg l)(hn:l.length=n)(hs:H.stores b o l=some H')(hw:zx ws ctx H')(h:PW P G base Q r ctx (yI E dst V.undef) H'):PW P G base Q (⟨id,dst,.e (.store n a x),none,aid,ws,keep⟩::r) ctx E H:=
 tF hk (by simp [EffOp.mp,xr,ha,hx,jC,hn,hs]) hw h
theorem CN{esz bytes m:Nat}{s x:Opd}{sv xv v':V}{news:List C}(hk:[s,x].all (jL E)=true)(hs:(res E s).ev .lf=sv)(hx:(res E x).ev .lf=xv)(hc:zF H esz xv=some (m,news))(ha:zq H esz bytes sv m news=some (v',H'))(hw:zx ws ctx H')(h:PW P G base Q r ctx (yI E dst v') H'):PW P G base Q (⟨id,dst,.e (.append esz bytes s x),none,aid,ws,keep⟩::r) ctx E H:=
 tF hk (by simp [EffOp.mp,xr,hs,hx,hc,ha]) hw h
end
section
variable{P:Program}{G base:Nat}{Q:z8->Hp->Prop}{r:List SOper}{ctx:zR}{E:z8}{H H':Hp}{id:Nat}{dst:Option Nat}{aid:Option Nat}{ws:List Nat}{keep:Bool}
theorem CI{x y:Opd}{k:IntKind}{a b:Int}(hk:[x,y].all (jL E)=true)(hx:(res E x).ev .lf=.one (.int k a))(hy:(res E y).ev .lf=.one (.int k b))(h:PW P G base Q r ctx (yI E dst (.one (.int k (max a b)))) H):PW P G base Q (⟨id,dst,.p (.mm true x y),none,aid,ws,keep⟩::r) ctx E H:=by
 refine kV (v:=.one (.int k (max a b))) hk ?_ h;simp only [PureOp.mp,qv,hx,hy,if_true];congr 3;split<;>omega
theorem CH{x y:Opd}{k:IntKind}{a b:Int}(hk:[x,y].all (jL E)=true)(hx:(res E x).ev .lf=.one (.int k a))(hy:(res E y).ev .lf=.one (.int k b))(h:PW P G base Q r ctx (yI E dst (.one (.int k (min a b)))) H):PW P G base Q (⟨id,dst,.p (.mm false x y),none,aid,ws,keep⟩::r) ctx E H:=by
 refine kV (v:=.one (.int k (min a b))) hk ?_ h;simp only [PureOp.mp,qv,hx,hy,if_true];simp only [Bool.false_eq_true,if_false];congr 3;split<;>omega
end
section
variable{P:Program}{G base:Nat}{Q:z8->Hp->Prop}{r:List SOper}{ctx:zR}{E:z8}{H H':Hp}{id:Nat}{dst:Option Nat}{aid:Option Nat}{ws:List Nat}{keep:Bool}
theorem OC{esz:Nat}{z:List C}{x:Opd}{cs:List C}(hx:jC ((res E x).ev .lf)=some cs)(hn:cs.length=esz):xA .lf (AllocOp.mp (res E) (.bslice esz 1 z [(0,esz,x)]))=some (.row cs.length cs .lf true,fun b=>.one (.slc b 0 1 1 esz true)):=by
 simp only [AllocOp.mp,xA,KH,yp,hx,hn];have hp:(yO z (1*esz)).length=esz:=by simp [yO]
 rw [if_pos ⟨trivial,by rw [hp];omega⟩];simp only [List.take_zero,List.nil_append,Nat.zero_add];rw [List.drop_of_length_le (by rw [hp];omega),List.append_nil,hn]
theorem tG {esz:Nat} {z:List C} {x:Opd} {cs:List C} (hk:jL E x=true) (hx:jC ((res E x).ev .lf)=some cs) (hn:cs.length=esz)
 (h:PW P G base Q r ctx (yI E dst (.one (.slc H.nx 0 1 1 esz true))) (H.push (.row cs.length cs .lf true))):PW P G base Q (⟨id,dst,.a (.bslice esz 1 z [(0,esz,x)]),none,none,ws,keep⟩::r) ctx E H:=
 Xd (by simp [AllocOp.opds,XJ,hk]) (OC hx hn) h
theorem UZ {esz:Nat} {z:List C} {x:Opd} {cs:List C} {j:Nat} (hk:jL E x=true) (hx:jC ((res E x).ev .lf)=some cs) (hn:cs.length=esz)
 (h:PW P G base Q r ctx (yI E dst (.one (.slc (base+j) 0 1 1 esz true))) (H.add (base+j) (.row cs.length cs .lf true))):PW P G base Q (⟨id,dst,.a (.bslice esz 1 z [(0,esz,x)]),none,some j,ws,keep⟩::r) ctx E H:=
 U0 (by simp [AllocOp.opds,XJ,hk]) (OC hx hn) h
theorem pH{b n esz cap:Nat}{cs:List C}{ex:Bool}(h:H.loads b 0 (n*esz)=some cs):zF H esz (.one (.slc b 0 n cap esz ex))=some (n,cs):=by simp [zF,h]
end
theorem Wd{ws:List Nat}{ctx:zR}{H:Hp}(h:∀x∈ctx,x.2 H):zx ws ctx H:=by
 cases ws with
 |nil=>trivial
 |cons k r=>exact fun j _ p hp=>h (j,p) hp
section
variable{P:Program}{G base:Nat}{Q:z8->Hp->Prop}{r:List SOper}{ctx:zR}{E:z8}{H H':Hp}{id:Nat}{dst:Option Nat}{aid:Option Nat}{ws:List Nat}{keep:Bool}
theorem CM{l:List SOper}{c0:zR}(hc:Zh c0 ctx)(h:PW P G base Q l c0 E H):PW P G base Q l ctx E H:=fun F c hF hc'=>h F c hF fun x hx=>by
 obtain⟨y,hy,e,hh⟩:=hc' x hx;obtain⟨y0,hy0,e0,hh0⟩:=hc y hy;exact⟨y0,hy0,e0.trans e,fun H h=>hh H (hh0 H h)⟩
theorem CK{n:Nat}{a:Opd}{b o:Nat}{c:C}(hk:jL E a=true)(ha:(res E a).ev .lf=.one (.ptr b o))(hc:H.cell b o=some c)(h:PW P G base Q r ((id,fun H'=>H'.cell b o=some c)::ctx) (yI E dst (.one c)) H):PW P G base Q (⟨id,dst,.l (.load false n a),none,aid,ws,true⟩::r) ctx E H:=
 L4 (by simp [LoadOp.opds,hk]) (by simp [LoadOp.mp,xj,ha,hc]) (CM (Zh.cons (fun x hx=>⟨x,hx,rfl,fun _ h=>h⟩) id fun H' hh=>by simp [LoadOp.mp,xj,ha,hh]) h)
theorem CJ{n:Nat}{a:Opd}{b o:Nat}{l:List C}(hk:jL E a=true)(ha:(res E a).ev .lf=.one (.ptr b o))(hc:H.loads b o n=some l)(h:PW P G base Q r ((id,fun H'=>H'.loads b o n=some l)::ctx) (yI E dst (.agg l)) H):PW P G base Q (⟨id,dst,.l (.load true n a),none,aid,ws,true⟩::r) ctx E H:=
 L4 (by simp [LoadOp.opds,hk]) (by simp [LoadOp.mp,xj,ha,hc]) (CM (Zh.cons (fun x hx=>⟨x,hx,rfl,fun _ h=>h⟩) id fun H' hh=>by simp [LoadOp.mp,xj,ha,hh]) h)
theorem CF{x y:Opd}{k:IntKind}{a b:Int}(hk:[x,y].all (jL E)=true)(hx:(res E x).ev .lf=.one (.int k a))(hy:(res E y).ev .lf=.one (.int k b))(hb:b≠0)(h:PW P G base Q r ctx (yI E dst (.one (.int k (a.tmod b)))) H):PW P G base Q (⟨id,dst,.p (.bin .rem x y),none,aid,ws,keep⟩::r) ctx E H:=
 kV (v:=.one (.int k (a.tmod b))) hk (by simp [PureOp.mp,qv,hx,hy,jW,hb]) h
theorem CG{x y:Opd}{k:IntKind}{a b:Int}(hk:[x,y].all (jL E)=true)(hx:(res E x).ev .lf=.one (.int k a))(hy:(res E y).ev .lf=.one (.int k b))(hb:b≠0)(h:PW P G base Q r ctx (yI E dst (.one (.int k (k.wrap (a.tdiv b))))) H):PW P G base Q (⟨id,dst,.p (.bin .quo x y),none,aid,ws,keep⟩::r) ctx E H:=
 kV (v:=.one (.int k (k.wrap (a.tdiv b)))) hk (by simp [PureOp.mp,qv,hx,hy,jW,hb]) h
end
def Y7(H:Hp):zR->Prop
 |[]=>True
 |x::c=>x.2 H/\Y7 H c
theorem Y7.mem{H:Hp}:∀{c:zR},Y7 H c->∀x∈c,x.2 H
 |[],_,_,hx=>by cases hx
 |y::c,h,x,hx=>by
  rcases List.mem_cons.1 hx with rfl|hx
  ·exact h.1
  ·exact Y7.mem h.2 x hx
section
variable{P:Program}{G base:Nat}{Q:z8->Hp->Prop}{r:List SOper}{ctx:zR}{E:z8}{H H':Hp}{id:Nat}{dst:Option Nat}{aid:Option Nat}{ws:List Nat}{keep:Bool}
theorem kW{f:FuncId}{args:List Opd}{vs:List V}{v0:V}(hk:args.all (jL E)=true)(hvs:args.map (fun a=>(res E a).ev .lf)=vs)(hc:qH P G f vs H fun v H'=>v=v0/\H'=H)(hx:Y7 H ctx)(h:PW P G base Q r ctx (yI E dst v0) H):PW P G base Q (⟨id,dst,.cf f args,none,aid,ws,keep⟩::r) ctx E H:=
 qcD hk hvs (hc.mono fun v H' ⟨e1,e2⟩=>by subst e1;subst e2;exact⟨Wd hx.mem,h⟩)
end
section
variable{P:Program}{G base:Nat}{Q:z8->Hp->Prop}{r:List SOper}{ctx:zR}{E:z8}{H H':Hp}{id:Nat}{dst:Option Nat}{aid:Option Nat}{ws:List Nat}{keep:Bool}
theorem UY {esz bytes n m:Nat} {z:List C} {l c:Opd} {k k':IntKind} (hk:[l,c].all (jL E)=true) (hl:(res E l).ev .lf=.one (.int k n)) (hc:(res E c).ev .lf=.one (.int k' m)) (hnm:n<=m) (hb:bytes*m<=281474976710656) (hn:m<4611686018427387904)
 (h:PW P G base Q r ctx (yI E dst (.one (.slc H.nx 0 n m esz true))) (H.push (.row (m*esz) z .lf true))):PW P G base Q (⟨id,dst,.a (.mkslice esz bytes z l c),none,none,ws,keep⟩::r) ctx E H:=
 Xd (bk:=.row (m*esz) z .lf true) (g:=fun b=>.one (.slc b 0 n m esz true)) hk (by
  simp only [AllocOp.mp,xA,hl,hc];rw [if_pos ⟨by omega,by omega,by omega,by omega⟩];simp) h
end
inductive FD where
 |c (x:C)
 |sl (esz n:Nat) (l:List FD)
inductive DC where
 |f (d:FD)
 |g (b o:Nat)
 |ptr (k o:Nat)
 |own (k o n esz:Nat)
 |fptr (l:List FD)
 |fn (f:FuncId) (caps:List (Nat × Nat))
 |any
 |trow (k i o n:Nat)
 |tptr (k i o:Nat)
 |om (k:Nat)
 |yl (k:Nat)
 /-- a function whose variables are no more written -/
 |fz (f:FuncId) (ls:List (List FD))
inductive DV where
 |one (c:DC)
 |agg (l:List DC)
 |tup (l:List DV)
abbrev DV.int(n:Int):DV:=.one (.f (.c (.int .i64 n)))
abbrev DV.bool(b:Bool):DV:=.one (.f (.c (.bool b)))
abbrev DV.undef:DV:=.tup []
inductive ME where
 |row (r:List FD)
 |out (c:DC)
inductive Sh where
 |m (ks:Nat)
 |lp (st:LoopState) (j:Option Code) (f:FuncId) (n:Nat) (ts:List Nat) (ps:List Nat) (sg bd:Code)
 /-- a map with structures as keys,whole -/
 |st (es:List (V × V × Nat)) (clk:Nat)
 /-- an iteration over one;its one cell is the map -/
 |it (since:Nat) (seen:List Nat) (last:Nat)
 /-- a map with points as keys:these with their stamps;its cells are the values -/
 |sm (ks:List (Int × Int × Nat)) (clk:Nat)
inductive Bk where
 |cells (l:List DC)
 |data (l:List FD)
 |tree (rows:List (List FD))
 |mp (ks:Sh) (l:List DC)
 |mt (es:List (Int × ME))
inductive Slot where
 |nil
 |blk (b N:Nat)
inductive RF (Z:Nat->Prop) (H:Hp):FD->C->Prop where
 |c (x:C):x.closed=true->RF Z H (.c x) x
 |nil (esz:Nat):RF Z H (.sl esz 0 []) .nils
 |sl {esz n b o cap:Nat} {ex:Bool} {l:List FD} {cs:List C}:(0<n*esz->Z b)->l.length=n*esz->n<=cap->H.loads b o (n*esz)=some cs->(∀(i:Nat) d c,l[i]?=some d->cs[i]?=some c->RF Z H d c)->RF Z H (.sl esz n l) (.slc b o n cap esz ex)
abbrev zC:=Nat × Nat
abbrev qw:=zC->Option Slot
def jY(β:qw):List (Nat × Nat)->List (Nat × Nat)->Prop
 |[],[]=>True
 |(k,o)::r,(b,o')::r'=>o'=o/\(∃N,β (k,0)=some (.blk b N))/\jY β r r'
 |_,_=>False
def fT(Z:Nat->Prop)(H:Hp):List (List FD)->List (Nat × Nat)->Prop
 |[],[]=>True
 |l::ls,p::ps=>(Z p.1/\∃cs,H.loads p.1 p.2 l.length=some cs/\qg (RF Z H) l cs)/\fT Z H ls ps
 |_,_=>False
def RD(Z:Nat->Prop)(H:Hp)(β:qw):DC->C->Prop
 |.f d,c=>RF Z H d c
 |.g b o,c=>c=.ptr b o
 |.ptr k o,c=>∃b N,β (k,0)=some (.blk b N)/\c=.ptr b o
 |.own k o n esz,c=>(β (k,0)=some .nil/\n=0/\o=0/\c=.nils)\/∃b N cap ex,β (k,0)=some (.blk b N)/\c=.slc b o n cap esz ex/\n<=cap/\o+cap*esz<=N
 |.fptr l,c=>∃b o cs,c=.ptr b o/\Z b/\H.loads b o l.length=some cs/\qg (RF Z H) l cs
 |.fn f caps,c=>∃caps',c=.fn f caps'/\jY β caps caps'
 |.any,_=>True
 |.tptr k i o,c=>∃b N,β (k,i+1)=some (.blk b N)/\c=.ptr b o
 |.om k,c=>∃b N,β (k,0)=some (.blk b N)/\c=.map b
 |.yl k,c=>∃b N,β (k,0)=some (.blk b N)/\c=.yld b
 |.fz f ls,c=>∃caps,c=.fn f caps/\fT Z H ls caps
 |.trow k i o n,c=>(β (k,i+1)=some .nil/\n=0/\o=0/\c=.nils)\/∃b N cap ex,β (k,i+1)=some (.blk b N)/\c=.slc b o n cap 1 ex/\n<=cap/\o+cap*1<=N
end Go.Ab
