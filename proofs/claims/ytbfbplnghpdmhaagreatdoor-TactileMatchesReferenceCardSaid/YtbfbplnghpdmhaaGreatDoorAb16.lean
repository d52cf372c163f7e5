/- -/
import Derived.Test.YtbfbplnghpdmhaaGreatDoorAb15
import Derived.Shelf.SlSortCmp.WholeK
import Derived.Test.YtbfbplnghpdmhaaGreatDoorProg
set_option linter.unusedSimpArgs false
set_option maxHeartbeats 8000000
set_option linter.unusedVariables false
namespace Go.Proofs
open Go.Shelf
def Tryz.sortPt_ren:Go.Shelf.Ren:=⟨fun|6=>81|15=>111|14=>110|28=>133|29=>134|20=>125|21=>126|22=>127|23=>128|24=>129|25=>130|26=>131|27=>132|46=>140|47=>141|48=>142|49=>143|50=>144|57=>153|n=>n,fun|22=>46|24=>68|25=>126|3=>3|39=>116|0=>0|53=>168|55=>170|4=>4|46=>162|45=>161|50=>128|5=>5|9=>9|66=>175|70=>179|76=>186|77=>187|n=>n,fun|n=>n⟩
theorem Tryz.sortPt:Go.Proofs.SlLaysF0.n6 Tryz.prog Tryz.sortPt_ren:={
 mixed:=by kernel_rfl
 f6:=⟨Tryz.f81.name,by decide,Tryz.func81.trans (congrArg some (by kernel_rfl))⟩
 f14:=⟨Tryz.f110.name,by decide,Tryz.func110.trans (congrArg some (by kernel_rfl))⟩
 f15:=Tryz.func111.trans (congrArg some (by kernel_rfl))
 f20:=⟨Tryz.f125.name,by decide,Tryz.func125.trans (congrArg some (by kernel_rfl))⟩
 f21:=⟨Tryz.f126.name,by decide,Tryz.func126.trans (congrArg some (by kernel_rfl))⟩
 f22:=⟨Tryz.f127.name,by decide,Tryz.func127.trans (congrArg some (by kernel_rfl))⟩
 f23:=⟨Tryz.f128.name,by decide,Tryz.func128.trans (congrArg some (by kernel_rfl))⟩
 f24:=⟨Tryz.f129.name,by decide,Tryz.func129.trans (congrArg some (by kernel_rfl))⟩
 f25:=⟨Tryz.f130.name,by decide,Tryz.func130.trans (congrArg some (by kernel_rfl))⟩
 f26:=⟨Tryz.f131.name,by decide,Tryz.func131.trans (congrArg some (by kernel_rfl))⟩
 f27:=⟨Tryz.f132.name,by decide,Tryz.func132.trans (congrArg some (by kernel_rfl))⟩
 f28:=Tryz.func133.trans (congrArg some (by kernel_rfl))
 f29:=Tryz.func134.trans (congrArg some (by kernel_rfl))
 f46:=⟨Tryz.f140.name,by decide,Tryz.func140.trans (congrArg some (by kernel_rfl))⟩
 f47:=Tryz.func141.trans (congrArg some (by kernel_rfl))
 f48:=Tryz.func142.trans (congrArg some (by kernel_rfl))
 f49:=⟨Tryz.f143.name,by decide,Tryz.func143.trans (congrArg some (by kernel_rfl))⟩
 f50:=⟨Tryz.f144.name,by decide,Tryz.func144.trans (congrArg some (by kernel_rfl))⟩
 f57:=⟨Tryz.f153.name,by decide,Tryz.func153.trans (congrArg some (by kernel_rfl))⟩
 t0:=Tryz.underlying0
 a0:=Tryz.isAgg0
 z0:=Tryz.sizeOf0
 v0:=Tryz.zeroValue0
 t3:=Tryz.underlying3
 a3:=Tryz.isAgg3
 z3:=Tryz.sizeOf3
 v3:=Tryz.zeroValue3
 t4:=Tryz.underlying4
 a4:=Tryz.isAgg4
 z4:=Tryz.sizeOf4
 v4:=Tryz.zeroValue4
 t5:=Tryz.underlying5
 a5:=Tryz.isAgg5
 z5:=Tryz.sizeOf5
 v5:=Tryz.zeroValue5
 t9:=Tryz.underlying9
 a9:=Tryz.isAgg9
 z9:=Tryz.sizeOf9
 v9:=Tryz.zeroValue9
 t22:=Tryz.underlying46
 a22:=Tryz.isAgg46
 z22:=Tryz.sizeOf46
 v22:=Tryz.zeroValue46
 t25:=Tryz.underlying126
 a25:=Tryz.isAgg126
 z25:=Tryz.sizeOf126
 v25:=Tryz.zeroValue126
 t39:=Tryz.underlying116
 a39:=Tryz.isAgg116
 z39:=Tryz.sizeOf116
 v39:=Tryz.zeroValue116
 t45:=Tryz.underlying161
 a45:=Tryz.isAgg161
 z45:=Tryz.sizeOf161
 v45:=Tryz.zeroValue161
 t46:=Tryz.underlying162
 a46:=Tryz.isAgg162
 z46:=Tryz.sizeOf162
 v46:=Tryz.zeroValue162
 t50:=Tryz.underlying128
 a50:=Tryz.isAgg128
 z50:=Tryz.sizeOf128
 v50:=Tryz.zeroValue128
 t53:=Tryz.underlying168
 a53:=Tryz.isAgg168
 z53:=Tryz.sizeOf168
 v53:=Tryz.zeroValue168
 t55:=Tryz.underlying170
 a55:=Tryz.isAgg170
 z55:=Tryz.sizeOf170
 v55:=Tryz.zeroValue170
 t66:=Tryz.underlying175
 a66:=Tryz.isAgg175
 z66:=Tryz.sizeOf175
 v66:=Tryz.zeroValue175
 t70:=Tryz.underlying179
 a70:=Tryz.isAgg179
 z70:=Tryz.sizeOf179
 v70:=Tryz.zeroValue179
 t76:=Tryz.underlying186
 a76:=Tryz.isAgg186
 z76:=Tryz.sizeOf186
 v76:=Tryz.zeroValue186
 t77:=Tryz.underlying187
 a77:=Tryz.isAgg187
 z77:=Tryz.sizeOf187
 v77:=Tryz.zeroValue187 }
end Go.Proofs

namespace Go.Ab
open Go.Sort Go.Proofs
section
variable{P:Program}{G:Nat}{μ μ':Nat->Pl}{K K':Nat->Prop}{H H':Hp}{w w':World}
theorem Rel.congr(hR:Rel G μ K H w)(h:∀b bk,H.get b=some bk->w'.heap[(μ b).blk]?=w.heap[(μ b).blk]?):Rel G μ K H w':=
 ⟨hR.dom,hR.lt,fun b bk hb=>by rw [h b bk hb];exact hR.blk b bk hb,hR.inj,hR.glob⟩
theorem Fr.quiet(h:Fr μ K H w μ' K' H' w')(hno:∀b bk,H.get b=some bk->bk.mut=false):∃q os',w'=Go.Sort.grow (w.drewN q) os':=by
 refine⟨w'.drawn-w.drawn,w'.heap.extract w.heap.size w'.heap.size,?_⟩;have hheap:w'.heap=w.heap++w'.heap.extract w.heap.size w'.heap.size:=by
  apply Array.ext_getElem?;intro i;by_cases hi:i<w.heap.size
  ·rw [Array.getElem?_append_left hi];exact h.keep i hi fun b bk hb hm=>by rw [hno b bk hb] at hm;cases hm
  ·have:=h.size;rw [Array.getElem?_append_right (by omega)];by_cases hj:i<w'.heap.size
   ·rw [Array.getElem?_extract];simp;rw [show w.heap.size+(i-w.heap.size)=i by omega];by_cases h2:i-w.heap.size<w'.heap.size-w.heap.size
    ·simp [h2]
    ·omega
   ·rw [Array.getElem?_eq_none (by omega),Array.getElem?_eq_none (by simp;omega)]
 obtain⟨h1,h2,h3,h4⟩:=h.same;obtain⟨hp,tp,dr,o,ou⟩:=w;obtain⟨hp',tp',dr',o',ou'⟩:=w';simp only [Go.Sort.grow,World.drewN] at *;subst h1 h2 h3;rw [<-hheap,show dr+(dr'-dr)=dr' by omega]
theorem qJ.any{f:FuncId}{args:List V}{xs:List Value}{c:C}{x:Value}(h:qJ P G f args ⟨.lf,G⟩ fun v _=>v=.one c)(hx:∀μ K,qg (RV μ K) args xs)(hc:∀μ K y,RV μ K (.one c) y->y=x)(W:World):Calls P f xs.toArray W fun e w'=>e=.returned x/\∃q os',w'=Go.Sort.grow (W.drewN q) os':=by
 have hn:∀b bk,(⟨.lf,G⟩:Hp).get b=some bk->False:=fun b bk hb=>by simp [Hp.get] at hb
 have hR:Rel G (fun b=>⟨b,0,0⟩) (fun b=>b<G) ⟨.lf,G⟩ W:=⟨fun b bk hb=>(hn b bk hb).elim,fun _ h=>h,fun b bk hb=>(hn b bk hb).elim,fun b _ bk _ hb=>(hn b bk hb).elim,fun g hg=>⟨hg,rfl,rfl⟩⟩;refine (h _ _ W xs hR (hx _ _)).mono ?_;rintro e w' ⟨y,rfl,v,H',μ',K',rfl,hy,_,hF⟩;exact⟨by rw [hc _ _ y hy],hF.quiet fun b bk hb=>(hn b bk hb).elim⟩
theorem Rel.putRow(P:Program)(hR:Rel G μ K H w){b o nb:Nat}{z:List C}{mm:T C}(hb:H.get b=some (.row nb z mm true)){l:List C}(hst:H.stores b o l=some H')(hin:o+l.length<=nb){F:Array Value}(hF:qg (RC μ K) l F.toList)(m:Nat)(os:Array Obj):
 Rel G μ K H' (Go.Sort.grow (Go.Sort.putRow id (Go.Sort.ahead w m) (μ b).blk ((μ b).off+o) F) os)/\Fr μ K H w μ K H' (Go.Sort.grow (Go.Sort.putRow id (Go.Sort.ahead w m) (μ b).blk ((μ b).off+o) F) os):=by
 obtain⟨cs,t,fz,h1,h2,h3,h4,h5⟩:=hR.blk b _ hb;obtain rfl:=h4 rfl;obtain⟨w1,hrun,hR1,hF1⟩:=Rel.stores (P:=P) (i:=0) (o:=o) hR (by simpa using hst) hF;have hFl:F.toList.length=l.length:=hF.len.symm;obtain⟨w2,cs',q1,q2,q3,q4,q5,q6,q7,q8,q9,_⟩:=Y6 (P:=P) (g:=(μ b).blk) (t:=t) (xs:=F.toList) (w:=w) (cs:=cs) (q:=(μ b).off+o) (i:=0) h1 hF.oneC oM;have hww:w1=w2:=by
  have e:(storeCells ((μ b).addr o) F.toList 0).run P w=.ok () w2:=q1;rw [hrun] at e;cases e;rfl
 subst hww;have hcs:cs'=putCells id ((μ b).off+o) F cs:=by
  apply Array.ext_getElem?;intro j;rw [q4 j];unfold putCells;rw [Array.getElem?_mapIdx];have hs:F.size=F.toList.length:=by simp
  split
  ·rename_i hj;have hj':j<cs.size:=by omega
   rw [Array.getElem?_eq_getElem hj'];simp only [Option.map_some];rw [if_pos (by omega)];have hk:j-((μ b).off+o+0)<F.size:=by omega
   rw [zge (by simpa using hk)];simp only [Nat.add_zero] at hk ⊢;simp [getElem!_pos,hk]
  ·rename_i hj;cases hcj:cs[j]? with
   |none=>rfl
   |some y=>
    simp only [Option.map_some];rw [if_neg (by omega)]
 have key:∀i,i<w.heap.size->(Go.Sort.grow (Go.Sort.putRow id (Go.Sort.ahead w m) (μ b).blk ((μ b).off+o) F) os).heap[i]?=w1.heap[i]?:=fun i hi=>by
  have hsz:(Go.Sort.putRow id (Go.Sort.ahead w m) (μ b).blk ((μ b).off+o) F).heap.size=w.heap.size:=by simp [Go.Sort.ahead]
  unfold Go.Sort.grow;simp only;rw [Array.getElem?_append_left (by rw [hsz];exact hi)];unfold Go.Sort.putRow mapBlock;simp only [Go.Sort.ahead];rw [Array.getElem?_modify];by_cases e:(μ b).blk=i
  ·subst e;rw [if_pos rfl,h1,q2,hcs];rfl
  ·rw [if_neg e,q5 i (fun h=>e h.symm)]
 have hsize:(Go.Sort.grow (Go.Sort.putRow id (Go.Sort.ahead w m) (μ b).blk ((μ b).off+o) F) os).heap.size=w.heap.size+os.size:=by simp [Go.Sort.grow,Go.Sort.ahead]
 refine⟨hR1.congr fun b' bk' hb'=>key _ (by have:=hR1.blk_lt hb';omega),?_⟩;exact⟨⟨rfl,rfl,rfl,by simp [Go.Sort.grow,Go.Sort.ahead]⟩,by omega,fun i hi hn=>(key i hi).trans (hF1.keep i hi hn),hF1.img,hF1.newmut,hF1.mu,hF1.kk,hF1.knew,hF1.nx,hF1.none,hF1.stay,hF1.ro⟩
end
end Go.Ab

namespace Go.Ag
open Go.Ab Go.Proofs
def vT(a b:qc):Int:=if xp a b=true then -1 else if a=b then 0 else 1
theorem i5:∀b bk,(⟨.lf,1⟩:Hp).get b=some bk->bk.ro=some bk:=fun b bk h=>by simp [Hp.get] at h
open Go.Shelf Go.RowKit Go.Lib Go.Sort
def yp(p:qc):List Value:=[.int .i64 p.1,.int .i64 p.2]
theorem BH(x:qc):xp x x=false:=by simp [xp]
theorem BI(x y:qc):xp x y=true↔x.2<y.2\/(x.2=y.2/\x.1<y.1):=by
 unfold xp;by_cases h1:x.2<y.2
 ·simp [h1]
 ·by_cases h2:x.2=y.2
  ·simp [h2]
  ·simp [h1,h2]
theorem fP(x y:qc):ltOf vT x y=xp x y:=by
 unfold ltOf vT;cases h:xp x y with
 |true=>simp
 |false=>
  simp only [Bool.false_eq_true,if_false];split<;>simp
theorem swo:SWO (ltOf vT) where
 irrefl x:=by rw [fP,BH]
 trans x y z h1 h2:=by rw [fP,BI] at *;omega
 ntrans x y z h1 h2:=by
  rw [fP,<-Bool.not_eq_true,BI] at *;omega
theorem mN:∀(l:List qc) (j:Nat),j<l.length*2->(l.flatMap yp)[j]?=some (yp (l[j/2]!))[j % 2]!
 |[],j,h=>by simp at h
 |x::l,0,h=>rfl
 |x::l,1,h=>rfl
 |x::l,j+2,h=>by
  have:=mN l j (by simp at h;omega);rw [show (j+2)/2=j/2+1 by omega,show (j+2) % 2=j % 2 by omega];simpa [yp] using this
theorem p6(l:List qc):(flatK yp 2 l.toArray).toList=l.flatMap yp:=by
 apply List.ext_getElem?;intro j;by_cases hj:j<l.length*2
 ·rw [mN l j hj];have h1:j<(flatK yp 2 l.toArray).size:=by simpa using hj
  rw [zge (by simpa using h1)];have:=get_flatK yp 2 l.toArray j (by simpa using hj);rw [getElem!_pos _ j h1] at this;simp only [Array.getElem_toList];rw [this];simp
 ·rw [List.getElem?_eq_none (by simp;omega),List.getElem?_eq_none];have:∀m:List qc,(m.flatMap yp).length=m.length*2:=by
   intro m;induction m with
   |nil=>rfl
   |cons x m ih=>show (yp x++m.flatMap yp).length=_;rw [List.length_append,ih];simp [yp];omega
  rw [this];omega
theorem r8{μ:Nat->Pl}{K:Nat->Prop}:∀l:List qc,qg (RC μ K) (zD l) (l.flatMap yp)
 |[]=>trivial
 |x::l=>⟨rfl,rfl,r8 l⟩
def Xw(l:List qc):Prop:=∀(i j:Nat) (x y:qc),l[i]?=some x->l[j]?=some y->i<j->xp y x=false
theorem zM(l:List qc):(zD l).length=l.length*2:=by
 induction l with
 |nil=>rfl
 |cons x l ih=>show (x6 x++zD l).length=_;rw [List.length_append,ih];simp [x6];omega
theorem YK:∀(l:List qc) (j:Nat),j<l.length*2->∃n:Int,(zD l)[j]?=some (.int .i64 n)/\(l.flatMap yp)[j]?=some (.int .i64 n)
 |[],j,h=>by simp at h
 |x::l,0,h=>⟨x.1,rfl,rfl⟩
 |x::l,1,h=>⟨x.2,rfl,rfl⟩
 |x::l,j+2,h=>by
  obtain⟨n,h1,h2⟩:=YK l j (by simp at h;omega);exact⟨n,by simpa [zD,x6] using h1,by simpa [yp] using h2⟩
structure CmpAt (k:FuncId):Prop where
 eg:∀args w,(callFunc k args).run Tryz.prog w=.ok (.enter k args) w
 calls:∀(x y:qc) (W:World),Calls Tryz.prog k #[.agg (yp x).toArray,.agg (yp y).toArray] W fun e w'=>e=.returned (.int .i64 (vT x y))/\∃q os',w'=Go.Sort.grow (W.drewN q) os'
theorem NF{k:FuncId}(eg:∀args w,(callFunc k args).run Tryz.prog w=.ok (.enter k args) w)(h:∀a b:qc,yg Tryz.prog 1 ⟨.lf,1⟩ k [zd a,zd b] fun d=>d=.int (vT a b)):CmpAt k:=by
 refine⟨eg,fun x y W=>?_⟩;have h:qJ Tryz.prog 1 k [.agg (x6 x),.agg (x6 y)] ⟨.lf,1⟩ fun v _=>v=.one (.int .i64 (vT x y)):=by
  have:=h x y ⟨.lf,1⟩ (fun _=>False) [.agg (x6 x),.agg (x6 y)] (fun b bk h=>by simp [Hp.get] at h) (fun _ h=>h.elim) (fun b bk h=>by simp [Hp.get] at h) ⟨⟨_,rfl,.c _ rfl,.c _ rfl,trivial⟩,⟨_,rfl,.c _ rfl,.c _ rfl,trivial⟩,trivial⟩;refine this.mono ?_;rintro v H' ⟨_,_,_,d,hr,rfl⟩;obtain⟨c,rfl,hr⟩:=hr;cases hr;rfl
 exact qJ.any (xs:=[.agg (yp x).toArray,.agg (yp y).toArray]) h (fun μ K=>⟨⟨_,rfl,rfl,rfl,trivial⟩,⟨_,rfl,rfl,rfl,trivial⟩,trivial⟩) (fun μ K y hy=>hy) W
theorem N3{k:FuncId}(hk:CmpAt k){H:Hp}{l:List qc}{b o cap nb:Nat}{ex:Bool}{z:List C}{mm:T C}(hb:H.get b=some (.row nb z mm true))(hin:o+l.length*2<=nb)(hld:H.loads b o (l.length*2)=some (zD l))(hpos:0<l.length)(hsz:l.length<4611686018427387904)(hall:∃cells,xX H b cells):
 qJ Tryz.prog 1 81 [.one (.slc b o l.length cap 2 ex),.one (.fn k [])] H fun v H'=>v=.tup []/\∃l':List qc,l'.Perm l/\Xw l'/\H.stores b o (zD l')=some H':=by
 intro μ K w xs hR ha
 match xs,ha with
 |[x1,x2],⟨⟨hK,a,c,h1,h2,h3,h4,h5⟩,⟨_,h6⟩,_⟩=>
  subst h1 h6;rcases h5 with h5|⟨rfl,h5⟩
  ·omega
  ·obtain⟨cs,t,fz,e1,e2,e3,e4,e5⟩:=hR.blk b _ hb;obtain rfl:=e4 rfl;have hblk:(μ b).blk<w.heap.size:=hR.blk_lt hb;have hH:HoldsK yp 2 w (μ b).blk ((μ b).off+o) l.toArray:=by
    intro j hj;have hj':j<l.length*2:=by simpa using hj
    obtain⟨n,g1,g2⟩:=YK l j hj';have hcell:H.cell b (o+j)=some (.int .i64 n):=by rw [<-g1];exact vq hld hj'
    have hcell':(B.row nb z mm true).cell (o+j)=some (.int .i64 n):=by simpa [Hp.cell,hb] using hcell
    obtain⟨x,k1,k2⟩:=e5 _ _ hcell';have k2:x=.int .i64 n:=k2;subst k2;refine⟨?_,by simp [World.frozen?,e1]⟩;have hf:(flatK yp 2 l.toArray)[j]! =.int .i64 n:=by
     have h7:(flatK yp 2 l.toArray).toList[j]?=some (.int .i64 n):=by rw [p6];exact g2
     rw [getElem!_pos _ j hj];have:=zgs h7;obtain⟨_,this⟩:=this;simpa using this
    rw [hf];simp only [World.cell?,e1];simpa [Nat.add_assoc] using k1
   have hcon:=AnyQ.slices_SortFunc Tryz.sortPt 2 Tryz.isAgg68 Tryz.sizeOf68 yp (fun _=>rfl) (fun x v hv=>by simp [yp] at hv;rcases hv with rfl|rfl<;>rfl) vT swo k #[] (μ b).blk ((μ b).off+o) c l.toArray w hk.eg (fun _ _ _ _ x y=>hk.calls x y _) hH hblk (by simpa using hsz)
   have hcon':Calls Tryz.prog 81 #[.slice (some ((μ b).addr o)) l.length c,.func (.func k) #[] #[]] w _:=hcon;refine hcon'.mono ?_;rintro e w' ⟨rfl,d',m,os,hp,hs,rfl⟩;obtain⟨p1,p2,p3⟩:=hp;simp only [List.size_toArray] at p1;have hperm:d'.toList.Perm l:=by
    have e1:(d'.extract 0 l.toArray.size).toList=d'.toList:=by
     rw [show l.toArray.size=d'.size by simp [p1]];simp
    have e2:(l.toArray.extract 0 l.toArray.size).toList=l:=by simp
    rw [e1,e2] at p3;exact p3
   have hlen:d'.toList.length=l.length:=hperm.length_eq;obtain⟨cells,hrow⟩:=hall;have hcl:cells.length=nb:=by
    obtain⟨⟨z',m',hz⟩,_⟩:=hrow;rw [hb] at hz;exact (B.row.inj (zsi hz)).1.symm
   obtain⟨H',s1,s2,s3,s4⟩:=hrow.stores (cs:=zD d'.toList) (i:=o) (by rw [zM,hlen];omega);have hput:=Rel.putRow Tryz.prog hR hb s1 (by rw [zM,hlen];exact hin) (F:=flatK yp 2 d') (by
    have:(flatK yp 2 d').toList=d'.toList.flatMap yp:=by
     have:=p6 d'.toList;simpa using this
    rw [this];exact r8 _) m os
   refine⟨_,rfl,.tup [],H',μ,K,⟨rfl,d'.toList,hperm,?_,s1⟩,⟨[],rfl,trivial⟩,hput.1,hput.2⟩;intro i j x y hi hj hij;have hji:j<d'.size:=by simpa using (zgs hj).1
   have:=hs i j (Nat.zero_le _) hij (by simp [<-p1];exact hji);rw [fP] at this;have ex1:d'[i]! =x:=by
    rw [getElem!_pos _ i (by omega)];have:=(zgs hi).2;simpa using this
   have ey1:d'[j]! =y:=by
    rw [getElem!_pos _ j hji];have:=(zgs hj).2;simpa using this
   rw [ex1,ey1] at this;exact this
theorem D7{a b:qc}{GH:Hp}(hG:∀b bk,GH.get b=some bk->bk.ro=some bk):yg Tryz.prog 1 GH 82 [zd a,zd b] fun d=>d=.int (vT a b):=by
 refine qD qaW rfl hG fun Z0 lo=>?_;by_cases h1:a.2<b.2
 ·have g1:decide (a.2<b.2)=true:=by simpa using h1
  refine qU ?_;intros;refine qe rfl (fun ht=>?_) (fun ht=>by cases ht);refine qU ?_;intros;exact qf ⟨_,rfl,rfl,by simp [vT,xp,h1]⟩
 ·have g1:decide (a.2<b.2)=false:=by simpa using h1
  by_cases h2:a.2=b.2
  ·have g2:(a.2==b.2)=true:=by simpa using h2
   refine qU ?_;intros;refine qe rfl (fun ht=>?_) (fun ht=>?_)
   ·refine qU ?_;intros;have h3:a.1<b.1:=by simpa using ht
    exact qf ⟨_,rfl,rfl,by simp [vT,xp,h1,h2,h3]⟩
   ·have h3:¬a.1<b.1:=by simpa using ht
    refine qU ?_;intros;refine zJ (vd (p:=a) (q:=b) rfl rfl) ?_;refine qU ?_;intros;refine qe rfl (fun he=>?_) (fun he=>?_)
    ·have h4:a=b:=by simpa using he
     subst h4;refine qU ?_;intros;exact qf ⟨_,rfl,rfl,by simp [vT,xp]⟩
    ·have h4:¬a=b:=by simpa using he
     refine qU ?_;intros;exact qf ⟨_,rfl,rfl,by simp [vT,xp,h1,h2,h3,h4]⟩
  ·have g2:(a.2==b.2)=false:=by simpa using h2
   refine qU ?_;intros;refine qe rfl (fun ht=>by cases ht) (fun _=>?_);refine qU ?_;intros;refine zJ (vd (p:=a) (q:=b) rfl rfl) ?_;refine qU ?_;intros;have h4:¬a=b:=fun e=>h2 (by rw [e]);refine qe rfl (fun he=>absurd (by simpa using he) h4) (fun he=>?_);refine qU ?_;intros;exact qf ⟨_,rfl,rfl,by simp [vT,xp,h1,h2,h4]⟩
theorem qpc:CmpAt 82:=NF (enters_of Tryz.func82 (by kernel_rfl) rfl) fun _ _=>D7 i5
end Go.Ag

namespace Go.Ag
open Go.Ab Go.Proofs
theorem qo4{f:FuncId}{ds:List DV}{vs:List V}{c:C}{fuel:Nat}(hex:qg (fun d v=>bG d=some v) ds vs)(hcl:vs.all V.closed=true)(hc:c.closed=true)(h:uA TL.get fuel f vs (H00 5)=some (.one c)):DK f ds fun d=>d=.one (.f (.c c)):=by
 refine yg.of_pure hex hc fun H hH=>?_;have hg:∀b bk,(H00 5).get b=some bk->b=0/\bk=uH:=by
  intro b bk h;by_cases hb:b=0
  ·subst hb;exact⟨rfl,(zsi h).symm⟩
  ·simp [Hp.get,H00,T.get_nd,hb] at h
 refine (qJ.sub (H:=H) (G6 wi qcb h) hcl (by decide) (fun b bk h=>?_) (fun b bk h=>?_) (fun v _ h=>by rw [h];exact hc)).mono fun v H' ⟨⟨_,h⟩,e⟩=>⟨h,e⟩
 ·rw [(hg b bk h).1];decide
 ·obtain⟨rfl,rfl⟩:=hg b bk h;refine⟨hH 0 uH rfl,rfl,fun i c hc=>?_⟩;simp only [uH,B.cell] at hc;split at hc
  ·rename_i hi;simp only [T.get_lf,Option.getD_none,zoi] at hc;have:∀j,j<8->(List.getD [C.int IntKind.u8 1,.int .u8 3,.int .u8 9,.int .u8 25,.int .u8 17,.int .u8 11,.int .u8 27,.int .u8 19] j .nilp).closed=true:=by decide
   rw [<-hc];exact this _ (Nat.mod_lt _ (by decide))
  ·cases hc
theorem qaC:DK 111 [.one (.f (.c (.int .u64 0)))] fun d=>d=.one (.f (.c (.int .i64 0))):=qo4 (vs:=[.one (.int .u64 0)]) (fuel:=100) ⟨rfl,trivial⟩ rfl rfl (by kernel_rfl)
abbrev Kr:DV:=.one (.f (.sl 2 0 []))
abbrev lY(k:FuncId):DV:=.one (.f (.c (.fn k [])))
theorem LL{Z:Nat->Prop}{H:Hp}:∀{l:List qc} {cs:List C},qg (RF Z H) (l.flatMap qh) cs->cs=zD l
 |[],[],_=>rfl
 |[],_::_,h=>h.elim
 |x::l,cs,h=>by
  match cs,h with
  |c1::c2::cs,⟨h1,h2,h3⟩=>
   cases h1;cases h2;rw [LL (l:=l) h3];rfl
  |[_],h=>exact h.2.elim
  |[],h=>exact h.elim
theorem LM{Z:Nat->Prop}{H:Hp}:∀l:List qc,qg (RF Z H) (l.flatMap qh) (zD l)
 |[]=>trivial
 |x::l=>⟨.c _ rfl,.c _ rfl,LM l⟩
noncomputable abbrev parK (Z0:Nat->Prop) (lo anc:Nat) (β0:qw) (H1:Hp):Par:=⟨Tryz.prog,1,H00 1,Z0,lo,anc,β0,H1,none⟩
abbrev Z4(f:FuncId)(ds:List DV)(S:Bx)(nk:Nat)(R:DV->Bx->Nat->Prop):Prop:=∀Z0 lo anc β0 H1,DX (parK Z0 lo anc β0 H1) f ds S nk R
theorem va {f:FuncId} {sf:SFn} (hf:qG Tryz.prog 1 f=some sf) {ds:List DV} {S:Bx} {nk:Nat} {R:DV->Bx->Nat->Prop} (hn:Nat.ble ds.length sf.n=true)
 (h:∀Z β H lo,DPS (parK Z lo nk β H) sf.n sf.code (cI (parK Z lo nk β H) sf.res R) (Q6 ds 0) S nk):Z4 f ds S nk R:=fun Z0 lo anc β0 H1=>qo1 (p:=parK Z0 lo anc β0 H1) hf hn fun Z β H=>h Z β H lo
theorem mO{g:FuncId}(hg:CmpAt g){k nk:Nat}{l:List qc}{S:Bx}(hk:lk S k=some (.data (l.flatMap qh)))(hpos:0<l.length)(hsz:l.length<1000000000000):Z4 81 [.one (.own k 0 l.length 2),lY g] S nk fun d S' nk'=>d=.tup []/\nk'=nk/\∃l':List qc,l'.Perm l/\Xw l'/\S'=put k (.data (l'.flatMap qh)) S:=by
 intro Z0 lo anc β0 H1 Z β H args hS ha
 match args,ha with
 |[v1,v2],⟨h1,h2,_⟩=>
  obtain⟨c1,rfl,h1⟩:=h1;obtain⟨c2,rfl,h2⟩:=h2;cases h2;rcases h1 with⟨_,h1,_⟩|⟨b,N,cap,ex,hb,rfl,hcap,hN⟩
  ·omega
  ·obtain⟨s,hs,hbx⟩:=hS.box (k,0) _ (xV hk rfl);rw [hb] at hs;obtain rfl:=zsi hs;obtain⟨hz,hlo,hlt,cs,rest,hrow,hNl,hrel⟩:=hbx;have hrow:xX H b (cs++rest):=hrow;have hNl:(cs++rest).length=N:=hNl;obtain rfl:=LL hrel;obtain⟨⟨z,mm,hget⟩,hld⟩:=hrow;have hin:0+l.length*2<=(zD l++rest).length:=by rw [List.length_append,zM];omega
   have hld':H.loads b 0 (l.length*2)=some (zD l):=by
    have:=yw hld (m:=l.length*2) (by rw [List.length_append,zM];omega);rw [this,List.take_append_of_le_length (by rw [zM];omega),List.take_of_length_le (by rw [zM];omega)]
   refine (N3 hg hget hin hld' hpos oM ⟨_,⟨z,mm,hget⟩,hld⟩).mono ?_;rintro v H' ⟨rfl,l',hp,hso,hst⟩;have hl':l'.length=l.length:=hp.length_eq;obtain⟨H2,e1,e2,e3,e4⟩:=xX.stores (cs:=zD l') (i:=0) ⟨⟨z,mm,hget⟩,hld⟩ (by rw [List.length_append,zM,zM];omega);rw [hst] at e1;obtain rfl:=zsi e1;rw [Qk (zD l') (zD l) rest 0 (by rw [zM,zM];omega)] at e2;have hset:yO (zD l) 0 (zD l')=zD l':=by
    have:=vb [] (zD l) (zD l') [] (by rw [zM,zM,hl']);simpa using this
   rw [hset] at e2;obtain⟨hS',hZ⟩:=hS.upd (x':=.data (l'.flatMap qh)) (cs:=zD l') (rest:=rest) hk rfl hb (LM l') e3 e4 rfl e2 (by rw [<-hNl,List.length_append,List.length_append,zM,zM,hl']);exact⟨.tup [],_,_,Z,β,hS',⟨[],rfl,trivial⟩,hZ,fun _ _ h=>h,rfl,rfl,l',hp,hso,rfl⟩
theorem RI{p:Par}{n:Nat}{Q:Exit->qp->Bx->Nat->Prop}{E:qp}{S:Bx}{nk:Nat}{s:SC}(t:Nat){k esz:Nat}(ht:lk E t=some (.one (.own k 0 0 esz)))(h:DPS p n s Q ((t,.one (.f (.sl esz 0 [])))::E) S nk):DPS p n s Q E S nk:=.mk fun Z β H F hS hE=>by
 refine h.run Z β H F hS fun m d hd=>?_;rw [qT] at hd;split at hd
 ·rename_i e;subst e;obtain rfl:=zsi hd;obtain⟨v,hv,c,rfl,hr⟩:=hE _ _ ht;refine⟨_,hv,_,rfl,?_⟩;rcases hr with⟨_,_,_,rfl⟩|⟨b,N,cap,ex,_,rfl,_,_⟩
  ·exact RF.nil esz
  ·exact RF.sl (cs:=[]) (fun h=>by simp at h) (by simp) (Nat.zero_le _) (by simp [Hp.loads]) (fun i d c h=>by simp at h)
 ·exact hE m d hd
abbrev lZ:DV:=lY 82
theorem qaD:DK 125 [Kr,.int 0,.int 0,lZ] fun d=>d=.tup []:=by
 refine qD MT rfl qX fun Z0 lo=>?_;refine qb ?_;intros;refine ql (fun m E S nk=>E=[(2,.int 0),(8,.int 1)]/\S=[]/\nk=0) ⟨0,_,_,_,[],?wk,rfl,rfl,rfl⟩ ?_
 case wk=>exact qm
 rintro m E S nk ⟨rfl,rfl,rfl⟩;refine qb ?_;intros;refine qe rfl (fun ht=>by cases ht) (fun _=>?_);refine qb ?_;intros;exact⟨_,rfl,rfl,rfl⟩
theorem qay:DK 110 [Kr,.int 0,.int 0,.int 0,lZ] fun d=>d=.tup []:=by
 refine qD M5 rfl qX fun Z0 lo=>?_;refine qb ?_;intros;refine ql (fun m E S nk=>E=[(0,Kr),(1,.int 0),(2,.int 0),(3,.int 0),(4,lZ)]/\S=[]/\nk=0) ⟨0,_,_,_,[],?wk,rfl,rfl,rfl⟩ ?_
 case wk=>exact qm
 rintro m E S nk ⟨rfl,rfl,rfl⟩;refine qb ?_;intros;refine qe rfl (fun _=>?_) (fun ht=>by cases ht);refine qb ?_;intros;refine qk rfl rfl qaD ?_;rintro _ rfl;refine qb ?_;intros;exact qf ⟨_,rfl,rfl,rfl⟩
theorem RN:DK 81 [Kr,lZ] fun d=>d=.tup []:=by
 refine qD qaX rfl qX fun Z0 lo=>?_;refine qb ?_;intros;refine qk rfl rfl qaC ?_;rintro _ rfl;refine qb ?_;intros;refine qk rfl rfl qay ?_;rintro _ rfl;refine qb ?_;intros;exact⟨_,rfl,rfl,rfl⟩
theorem rD{k nk:Nat}{l:List qc}{S:Bx}(hk:lk S k=some (.data (l.flatMap qh)))(hpos:0<l.length)(hsz:l.length<1000000000000):Z4 81 [.one (.own k 0 l.length 2),lZ] S nk fun d S' nk'=>d=.tup []/\nk'=nk/\∃l':List qc,l'.Perm l/\Xw l'/\S'=put k (.data (l'.flatMap qh)) S:=mO qpc hk hpos hsz
theorem jL{a b:qc}:xp a b=true↔a.2<b.2\/(a.2=b.2/\a.1<b.1):=by
 unfold xp;by_cases h1:a.2<b.2
 ·simp [h1]
 ·by_cases h2:a.2=b.2
  ·simp [h1,h2]
  ·simp [h1,h2]
abbrev qK(l:List qc):Prop:=l.Pairwise fun a b=>xp a b=true
theorem wP{a b c:qc}(h1:xp a b=true)(h2:xp b c=true):xp a c=true:=by
 rw [jL] at *;omega
theorem jD{a:qc}:¬xp a a=true:=by rw [jL];omega
theorem Kb{a b:qc}(h:¬xp a b=true)(hne:a≠b):xp b a=true:=by
 rw [jL] at *;have:¬(a.1=b.1/\a.2=b.2):=fun h=>hne (Prod.ext h.1 h.2);omega
theorem qK.ext:∀{l m:List qc},qK l->qK m->(∀p,p∈l↔p∈m)->l=m
 |[],[],_,_,_=>rfl
 |[],b::m,_,_,h=>by have:=(h b).2 (by simp);simp at this
 |a::l,[],_,_,h=>by have:=(h a).1 (by simp);simp at this
 |a::l,b::m,hl,hm,h=>by
  rw [qK,List.pairwise_cons] at hl hm;have hab:a=b:=by
   rcases List.mem_cons.1 ((h a).1 (by simp)) with e|e
   ·exact e
   ·rcases List.mem_cons.1 ((h b).2 (by simp)) with e'|e'
    ·exact e'.symm
    ·exact absurd (wP (hl.1 b e') (hm.1 a e)) jD
  subst hab;congr 1;refine qK.ext hl.2 hm.2 fun p=>?_;constructor
  ·intro hp;rcases List.mem_cons.1 ((h p).1 (by simp [hp])) with e|e
   ·subst e;exact absurd (hl.1 p hp) jD
   ·exact e
  ·intro hp;rcases List.mem_cons.1 ((h p).2 (by simp [hp])) with e|e
   ·subst e;exact absurd (hm.1 p hp) jD
   ·exact e
theorem d7(x:qc)(out:List qc):∀n,n<=out.length->(∀j z,wF x out n<=j->j<n->out[j]?=some z->xp x z=true)/\(∀z,0<wF x out n->out[wF x out n-1]?=some z->¬xp x z=true)
 |0,_=>⟨fun j z h1 h2=>by omega,fun z h=>by simp [wF] at h⟩
 |n+1,hn=>by
  obtain⟨z,hz⟩:∃z,out[n]?=some z:=⟨_,zge oM⟩;have ih:=d7 x out n oM;have e:wF x out (n+1)=if xp x z=true then wF x out n else n+1:=by simp only [wF,hz]
  rw [e];by_cases hb:xp x z=true
  ·rw [if_pos hb];refine⟨fun j y h1 h2 hy=>?_,ih.2⟩;by_cases hj:j=n
   ·subst hj;rw [hz] at hy;obtain rfl:=zsi hy;exact hb
   ·exact ih.1 j y h1 oM hy
  ·rw [if_neg hb];refine⟨fun j y h1 h2=>oM,fun y _ hy=>?_⟩;rw [Nat.add_sub_cancel,hz] at hy;obtain rfl:=zsi hy;exact hb
theorem OY{x:qc}{out:List qc}(ho:qK out)(hx:x∉out):qK (QY x out):=by
 obtain⟨h1,h2⟩:=d7 x out out.length (Nat.le_refl _);have hp:=pJ x out out.length;generalize hP:wF x out out.length=P at h1 h2 hp;have hsplit:out=out.take P++out.drop P:=(List.take_append_drop P out).symm;have hlow:∀z∈out.take P,xp z x=true:=fun z hz=>by
  obtain⟨j,hj⟩:=List.getElem?_of_mem hz;rw [List.getElem?_take] at hj;split at hj
  ·rename_i hjP;have hP1:P-1<out.length:=by omega
   have hnb:=h2 out[P-1] oM (zge hP1);have hb:=Kb hnb (fun e=>hx (by rw [e];exact List.getElem_mem hP1));by_cases hj1:j=P-1
   ·subst hj1;rw [zge hP1] at hj;obtain rfl:=zsi hj;exact hb
   ·have hjl:j<out.length:=by omega
    rw [zge hjl] at hj;obtain rfl:=zsi hj;exact wP (List.pairwise_iff_getElem.1 ho j (P-1) hjl hP1 oM) hb
  ·cases hj
 have hhigh:∀z∈out.drop P,xp x z=true:=fun z hz=>by
  obtain⟨j,hj⟩:=List.getElem?_of_mem hz;rw [List.getElem?_drop] at hj;exact h1 (P+j) z oM (zgs hj).1 hj
 rw [hsplit,qK,List.pairwise_append] at ho;rw [QY,hP,qK,List.append_assoc,List.pairwise_append];refine⟨ho.1,?_,fun a ha b hb=>?_⟩
 ·simp only [List.singleton_append,List.pairwise_cons];exact⟨hhigh,ho.2.1⟩
 ·simp only [List.singleton_append,List.mem_cons] at hb;rcases hb with rfl|hb
  ·exact hlow a ha
  ·exact ho.2.2 a ha b hb
theorem GA{x p:qc}{out:List qc}:p∈QY x out↔p=x\/p∈out:=by
 simp only [QY,List.mem_append,List.mem_singleton];constructor
 ·rintro ((h|h)|h)
  ·exact .inr (List.mem_of_mem_take h)
  ·exact .inl h
  ·exact .inr (List.mem_of_mem_drop h)
 ·rintro (h|h)
  ·exact .inl (.inr h)
  ·rw [<-List.take_append_drop (wF x out out.length) out,List.mem_append] at h;exact h.elim (fun h=>.inl (.inl h)) .inr
theorem SE{x:qc}{out:List qc}(ho:qK out):qK (vU out x):=by
 unfold vU;split
 ·exact ho
 ·exact OY ho aM
theorem IN{x p:qc}{out:List qc}:p∈vU out x↔p=x\/p∈out:=by
 unfold vU;split
 ·rename_i h;exact⟨.inr,fun h'=>h'.elim (fun e=>e▸h) fun h=>h⟩
 ·exact GA
theorem Y8:∀(l out:List qc),qK out->qK (l.foldl vU out)/\∀p,p∈l.foldl vU out↔p∈out\/p∈l
 |[],out,h=>⟨h,by simp⟩
 |x::l,out,h=>by
  obtain⟨h1,h2⟩:=Y8 l (vU out x) (SE h);refine⟨h1,fun p=>?_⟩;rw [List.foldl_cons,h2,IN,List.mem_cons];constructor
  ·rintro ((h|h)|h)
   ·exact .inr (.inl h)
   ·exact .inl h
   ·exact .inr (.inr h)
  ·rintro (h|h|h)
   ·exact .inl (.inr h)
   ·exact .inl (.inl h)
   ·exact .inr h
theorem xi(l:List qc):qK (qt l):=(Y8 l [] List.Pairwise.nil).1
theorem qP{l:List qc}{p:qc}:p∈qt l↔p∈l:=by rw [qt,(Y8 l [] List.Pairwise.nil).2];simp
end Go.Ag

namespace Go.Ab
section
variable{p:Par}{n:Nat}{Q:Exit->qp->Bx->Nat->Prop}{E:qp}{S:Bx}{nk:Nat}
theorem VK{s:SC}(kb i esz:Nat){l:List DC}(hk:lk S kb=some (.cells l))(hi:l[i]?=some (.f (.c .nils)))(h:DPS p n s Q E ((nk,.data [])::put kb (.cells (l.set i (.own nk 0 0 esz))) S) (nk+1)):DPS p n s Q E S nk:=.mk fun Z β H F hS hE=>by
 have hT:=Zo hS;have hB:xP β (wB β nk .nil):=hS.ble .nil;have hkn:=hS.lt hk;have hkT:lk ((nk,.data [])::S) kb=some (.cells l):=by rw [qT,if_neg (by omega)];exact hk
 refine h.run Z _ H F ?_ (hE.mono (xo.refl Z H) hB);have hput:∀j,lk ((nk,.data [])::put kb (.cells (l.set i (.own nk 0 0 esz))) S) j=lk (put kb (.cells (l.set i (.own nk 0 0 esz))) ((nk,.data [])::S)) j:=fun j=>by
  simp only [put,jv (show nk≠kb by omega)]
 refine⟨hT.wf,hT.lo,hT.z,hT.zlo,hT.zz,hT.glob,hT.nk,hT.bd,fun κ y hκ=>?_,fun κ κ' y y' b N N' hj hj'=>?_,hT.blo,hT.anch,hT.ancn⟩
 ·rw [ya (hput κ.1),Zt hkT rfl] at hκ;split at hκ
  ·rename_i e;split at hκ
   ·rename_i e2;obtain rfl:=v8 e e2;obtain rfl:=zsi hκ;obtain⟨s,hs,hbx⟩:=hT.box (kb,0) _ (xV hkT rfl);refine⟨s,hs,?_⟩;cases s with
    |nil=>
     have:l=[]:=List.eq_nil_of_length_eq_zero hbx;subst this;cases hi
    |blk b N=>
     obtain⟨g1,g2,g3,cs,rest,g4,g5,g6⟩:=hbx;refine⟨g1,g2,g3,cs,rest,g4,g5,?_⟩;obtain⟨c,hc,hr⟩:=qg.at g6 i _ hi;cases hr;have hset:cs.set i .nils=cs:=by
      refine List.ext_getElem? fun j=>?_;rw [List.getElem?_set];split
      ·rename_i ej;subst ej;rw [hc];first|rfl|rw [if_pos (zgs hc).1]
      ·rfl
     show qg _ _ _
     rw [<-hset];exact qg.set g6 i (.inl ⟨xy _ _ _,rfl,rfl,rfl⟩)
   ·cases hκ
  ·exact hT.box κ y hκ
 ·rw [hput] at hj hj';rw [yF] at hj hj';have f:∀a z,(if a=kb then Option.map (fun _=>Bk.cells (l.set i (.own nk 0 0 esz))) (lk ((nk,.data [])::S) a) else lk ((nk,.data [])::S) a)=some z->∃z',lk ((nk,.data [])::S) a=some z':=fun a z hz=>by
   split at hz
   ·cases hl:lk ((nk,.data [])::S) a with
    |none=>rw [hl] at hz;cases hz
    |some q=>exact⟨q,rfl⟩
   ·exact⟨z,hz⟩
  obtain⟨z1,e1⟩:=f κ.1 y hj;obtain⟨z2,e2⟩:=f κ'.1 y' hj';exact hT.inj κ κ' z1 z2 b N N' e1 e2
end
end Go.Ab

namespace Go.Ag
open Go.Ab Go.Proofs
def ptV(p:qc):V:=.agg [.int .i64 p.1,.int .i64 p.2]
def Q9:Nat->List qc->List (V × V × Nat)
 |_,[]=>[]
 |i,p::l=>(ptV p,.one (.bool true),i)::Q9 (i+1) l
abbrev TO(l:List qc):List (V × V × Nat):=Q9 0 l
def j4(l:List qc):Bk:=.mp (.st (TO l) l.length) []
theorem gR(p:qc):∀(l:List qc) (i:Nat),Q9 i (l++[p])=Q9 i l++[(ptV p,.one (.bool true),i+l.length)]
 |[],i=>rfl
 |q::l,i=>by rw [List.cons_append,Q9,gR p l,Q9,List.cons_append,List.length_cons,show i+1+l.length=i+(l.length+1) by omega]
theorem Ki{e:V × V × Nat}:∀{l:List qc} {i:Nat},e∈Q9 i l↔∃(j:Nat) (p:qc),l[j]?=some p/\e=(ptV p,.one (.bool true),i+j)
 |[],i=>by simp [Q9]
 |q::l,i=>by
  rw [Q9,List.mem_cons,Ki];constructor
  ·rintro (rfl|⟨j,p,h1,rfl⟩)
   ·exact⟨0,q,rfl,rfl⟩
   ·exact⟨j+1,p,h1,by rw [show i+1+j=i+(j+1) by omega]⟩
  ·rintro ⟨j,p,h1,rfl⟩;cases j with
   |zero=>left;rw [<-zsi h1];rfl
   |succ j=>right;exact⟨j,p,h1,by rw [show i+1+j=i+(j+1) by omega]⟩
theorem OA(p q:qc):cK [.int .i64 p.1,.int .i64 p.2] (ptV q)=some (decide (p=q)):=by
 obtain⟨a,b⟩:=p;obtain⟨c,d⟩:=q;simp only [cK,ptV,and_self,if_true];congr 1;by_cases h1:a=c
 ·by_cases h2:b=d
  ·simp [h1,h2]
  ·simp [h1,h2]
 ·simp [h1]
theorem hO(p:qc):∀(l:List qc) (i j:Nat),(p∉l/\vi [.int .i64 p.1,.int .i64 p.2] (Q9 j l) i=some none)\/∃k,l[k]?=some p/\vi [.int .i64 p.1,.int .i64 p.2] (Q9 j l) i=some (some (i+k))
 |[],i,j=>.inl ⟨by simp,rfl⟩
 |q::l,i,j=>by
  rw [Q9,vi,OA];by_cases h:p=q
  ·subst h;right;exact⟨0,rfl,by simp⟩
  ·rw [decide_eq_false h];simp only;rcases hO p l (i+1) (j+1) with⟨h1,h2⟩|⟨k,h1,h2⟩
   ·exact .inl ⟨by simp [h,h1],h2⟩
   ·exact .inr ⟨k+1,h1,by rw [h2,show i+1+k=i+(k+1) by omega]⟩
theorem A3{e:List (V × V × Nat)}{k:Nat}{v:V}{x:V × V × Nat}(h:e[k]?=some x)(hv:x.2.1=v):Vn e k v=e:=by
 refine List.ext_getElem? fun j=>?_;rw [Vn,List.getElem?_modify];split
 ·rename_i hkj;subst hkj;rw [h];subst hv;rfl
 ·simp
theorem AX{p:qc}:∀{l:List qc} {i k:Nat},l[k]?=some p->(Q9 i l)[k]?=some (ptV p,.one (.bool true),i+k)
 |[],_,_,h=>by simp at h
 |q::l,i,0,h=>by rw [<-zsi h];rfl
 |q::l,i,k+1,h=>by
  have:=AX (l:=l) (i:=i+1) (k:=k) h;rw [Q9,List.getElem?_cons_succ,this,show i+1+k=i+(k+1) by omega]
def w8(l:List qc)(p:qc):List qc:=if p∈l then l else l++[p]
theorem o6(l:List qc)(p:qc):sO (TO l) l.length [.int .i64 p.1,.int .i64 p.2] (.bool true)=some (TO (w8 l p),(w8 l p).length):=by
 unfold sO;rw [show QX [.int .i64 p.1,.int .i64 p.2]=true from rfl];rcases hO p l 0 0 with⟨h1,h2⟩|⟨k,h1,h2⟩
 ·rw [h2,w8,if_neg h1];show _=some (Q9 0 (l++[p]),(l++[p]).length);rw [gR,Nat.zero_add,List.length_append];rfl
 ·rw [h2,w8,if_pos (zmg h1),Nat.zero_add];simp only;rw [A3 (AX h1) rfl]
theorem aH{l:List qc}{p:qc}(h:l.Nodup):(w8 l p).Nodup:=by
 unfold w8;split
 ·exact h
 ·rename_i hn;rw [List.nodup_append];exact⟨h,by simp,fun a ha b hb=>by
   rw [List.mem_singleton] at hb;subst hb;rintro rfl;exact hn ha⟩
theorem iM{l:List qc}{p q:qc}:q∈w8 l p↔q∈l\/q=p:=by
 unfold w8;split
 ·rename_i h;constructor
  ·exact .inl
  ·rintro (h1|rfl)
   ·exact h1
   ·exact h
 ·simp
theorem E5{st:Nat}{p:qc}:∀{l:List qc} {i:Nat},l[st]?=some p->(Q9 i l).find? (fun e=>e.2.2==i+st)=some (ptV p,.one (.bool true),i+st):=by
 induction st with
 |zero=>
  intro l i h;cases l with
  |nil=>cases h
  |cons q l=>
   rw [<-zsi h,Q9,List.find?_cons];simp
 |succ st ih=>
  intro l i h;cases l with
  |nil=>cases h
  |cons q l=>
   have:=ih (l:=l) (i:=i+1) h;rw [Q9,List.find?_cons];simp only [show (i==i+(st+1))=false by simp];rw [show i+1+st=i+(st+1) by omega] at this;exact this
structure Seen (l:List qc) (seen:List Nat) (out:List qc):Prop where
 nd:seen.Nodup
 lt:∀i∈seen,i<l.length
 out:out.map some=seen.map (l[·]?)
theorem Seen.nil(l:List qc):Seen l [] []:=⟨List.nodup_nil,fun i h=>(by cases h),rfl⟩
theorem Seen.step{l out:List qc}{seen:List Nat}{i:Nat}{p:qc}(h:Seen l seen out)(hi:l[i]?=some p)(hn:i∉seen):Seen l (seen++[i]) (out++[p]):=by
 refine⟨?_,fun j hj=>?_,?_⟩
 ·rw [List.nodup_append];exact⟨h.nd,by simp,fun a ha b hb=>by
   rw [List.mem_singleton] at hb;subst hb;rintro rfl;exact hn ha⟩
 ·rcases List.mem_append.1 hj with hj|hj
  ·exact h.lt j hj
  ·rw [List.mem_singleton] at hj;subst hj;exact (zgs hi).1
 ·rw [List.map_append,List.map_append,h.out];simp [hi]
theorem Seen.len{l out:List qc}{seen:List Nat}(h:Seen l seen out):out.length=seen.length:=by
 have:=congrArg List.length h.out;simpa using this
theorem i6:∀(n:Nat) (s:List Nat),s.Nodup->(∀i∈s,i<n)->s.length<=n
 |0,s,_,h=>by
  cases s with
  |nil=>simp
  |cons a s=>exact absurd (h a (by simp)) (by omega)
 |n+1,s,hn,h=>by
  have h1:=i6 n (s.filter (·≠n)) (hn.filter _) fun i hi=>by
   rw [List.mem_filter] at hi;have:=h i hi.1;have h2:i≠n:=by simpa using hi.2
   omega
  have h2:s.length<=(s.filter (·≠n)).length+1:=by
   clear h1 h;induction s with
   |nil=>simp
   |cons a s ih=>
    rw [List.nodup_cons] at hn;by_cases ha:a=n
    ·subst ha;have:s.filter (·≠a)=s:=List.filter_eq_self.2 fun x hx=>by
      have:x≠a:=fun e=>hn.1 (e▸hx);simpa using this
     rw [List.filter_cons_of_neg (by simp),this];simp
    ·rw [List.filter_cons_of_pos (by simpa using ha),List.length_cons,List.length_cons];have:=ih hn.2;omega
  omega
theorem Seen.le{l out:List qc}{seen:List Nat}(h:Seen l seen out):out.length<=l.length:=by
 rw [h.len];exact i6 _ _ h.nd h.lt
theorem Seen.mem{l out:List qc}{seen:List Nat}(h:Seen l seen out)(hall:∀i,i<l.length->i∈seen)(p:qc):p∈out↔p∈l:=by
 have h1:p∈out↔some p∈out.map some:=by simp
 rw [h1,h.out];constructor
 ·intro hp;obtain⟨i,_,hi⟩:=List.mem_map.1 hp;exact zmg hi
 ·intro hp;obtain⟨i,hi⟩:=List.getElem?_of_mem hp;exact List.mem_map.2 ⟨i,hall i (zgs hi).1,hi⟩
theorem Seen.nodup:∀{out:List qc} {l:List qc} {seen:List Nat},l.Nodup->Seen l seen out->out.Nodup:=by
 intro out l seen hl h;rw [List.nodup_iff_pairwise_ne,List.pairwise_iff_getElem];intro i j hi hj hij he;have hlen:=h.len;have hx:∀k (hk:k<out.length),l[seen[k]'oM]?=some out[k]:=fun k hk=>by
  have:=congrArg (fun z=>z[k]?) h.out;simp only [List.getElem?_map,zge hk,zge (show k<seen.length by omega),Option.map_some,zoi] at this;exact this.symm
 have h1:=hx i hi;have h2:=hx j hj;rw [he] at h1;have h4:seen[i]'oM=seen[j]'oM:=by
  have e1:=(zgs h1);have e2:=(zgs h2);obtain⟨l1,e1⟩:=e1;obtain⟨l2,e2⟩:=e2;exact (List.getElem_inj hl).1 (e1.trans e2.symm)
 have:=(List.getElem_inj h.nd).1 h4;omega
def kx(rec it:Bk)(l out:List qc):Bx:=[(0,j4 l),(1,.cells [.om 0]),(2,.cells [.own 6 0 out.length 2]),(6,.data (out.flatMap qh)),(4,rec),(5,it)]
theorem qb8 {p:Par} (hp:p.P=Tryz.prog) (hG:p.G=1) {q:qc} {l out:List qc} {it:Bk} (hn:out.length<1000000) {fid:FuncId} {sg bd:Code} (hsg:xS Tryz.prog 1 vS.n sg=some (.ops mE 0)) (hbd:xS Tryz.prog 1 vS.n bd=some mI)
 {base rs:Nat} {Q:qp->Bx->Nat->Prop} {r:List SOper} {A:List Nat} {E:qp} {S:Bx} {nk:Nat} {id:Nat} {dst:Option Nat} {aid:Option Nat} {ws:List Nat} {keep:Bool} {x y:Opd}
 (hnk:nk=8) (hS:yC (kx (.mp (.lp .ready none fid vS.n [2] [7] sg bd) [.ptr 2 0]) it l out) S)
 (hx:ro E x=some (.one (.yl 4))) (hvs:Zc E [y]=some [zd q]) (hT:YO E=true)
 (h:DPW p base 0 Q r [] A (xn E dst (.bool true)) [(0,j4 l),(1,.cells [.om 0]),(2,.cells [.own 10 0 (out++[q]).length 2]),(10,.data ((out++[q]).flatMap qh)),(4,.mp (.lp .ready none fid vS.n [2] [7] sg bd) [.ptr 2 0]),(5,it)] 11):
 DPW p base rs Q (⟨id,dst,.cv x [y],none,aid,ws,keep⟩::r) [] A E S nk:=by
 subst hnk;have h4:lk S 4=some (.mp (.lp .ready none fid vS.n [2] [7] sg bd) [.ptr 2 0]):=hS 4 _ rfl;refine MI (R:=fun d S' nk'=>d=.bool true/\yC [(0,j4 l),(1,.cells [.om 0]),(2,.cells [.own 10 0 (out++[q]).length 2]),(10,.data ((out++[q]).flatMap qh)),(4,.mp (.lp .ready none fid vS.n [2] [7] sg bd) [.ptr 2 0]),(5,it)] S'/\nk'=11) hx hvs h4 rfl rfl hT (by rw [hp,hG];exact hsg) (by rw [hp,hG];exact hbd) (fun ρ Z β H=>?_) (by rintro _ _ _ ⟨rfl,hs,rfl⟩;exact yJ (zH _) hs h);have mixp:(p.round ρ Z 8 β H).P.follows .mixedOrders=true:=by show p.P.follows _=_;rw [hp];exact wi
 refine qr (E0:=[(2,.one (.ptr 2 0)),(7,zd q)]) (S0:=kx (.mp (.lp .ready none fid vS.n [2] [7] sg bd) [.ptr 2 0]) it l out) (qd rfl (qd rfl (qu _))) hS ?_;have hfl:=xb out;refine jt mixp (fun base=>?_);refine qb ?_;intros;refine⟨rfl,_,_,_,_,_,_,_,_,_,rfl,rfl,?_⟩;refine Qo ?_;refine jt mixp (fun base=>?_);refine qb ?_;intros;refine qV (q:=qh q) rfl rfl rfl (qH _ hfl) ⟨rfl,rfl,_,rfl,rfl⟩ oM oM (by decide) rfl ?_;rw [show out.flatMap qh++qh q=(out++[q]).flatMap qh by simp,show out.length+1=(out++[q]).length by simp];refine qb ?_;intros;exact⟨_,_,_,_,_,_,_,_,_,rfl,rfl,qd rfl (qd rfl (qd rfl (qd rfl (qd rfl (qd rfl (qu _)))))),rfl⟩
theorem TC{l:List qc}(hl:l.Nodup)(hn:l.length<1000000){fid:FuncId}{sg bd:Code}(hsg:xS Tryz.prog 1 vS.n sg=some (.ops mE 0))(hbd:xS Tryz.prog 1 vS.n bd=some mI):
 Z4 118 [.one (.yl 4),.one (.ptr 1 0)] [(0,j4 l),(1,.cells [.om 0]),(2,.cells [.own 3 0 0 2]),(3,.data []),(4,.mp (.lp .ready none fid vS.n [2] [7] sg bd) [.ptr 2 0])] 5
 fun _ S' nk'=>∃out:List qc,out.Nodup/\(∀p,p∈out↔p∈l)/\out.length<=l.length/\yC [(0,j4 l),(1,.cells [.om 0]),(2,.cells [.own 6 0 out.length 2]),(6,.data (out.flatMap qh)),(4,.mp (.lp .ready none fid vS.n [2] [7] sg bd) [.ptr 2 0])] S'/\nk'=7:=by
 refine va MZ rfl fun Z β H lo=>?_;refine qb ?_;intros;refine qae rfl rfl ?_;refine qb ?_;intros;refine ql (fun m E S nk=>∃(seen:List Nat) (out:List qc) (last:Nat),seen.length+m=l.length/\Seen l seen out/\l.length<=last/\E=[(0,.one (.yl 4)),(5,.one (.ptr 5 0))]/\S=kx (.mp (.lp .ready none fid vS.n [2] [7] sg bd) [.ptr 2 0]) (.mp (.it l.length seen last) [.om 0]) l out/\nk=7)
  ⟨l.length,_,_,_,[(6,3)],?wk,[],[],l.length,by simp,Seen.nil l,Nat.le_refl _,rfl,rfl,rfl⟩ ?_
 case wk=>exact qm
 rintro m E S nk ⟨seen,out,last,hm,hsn,hla,rfl,rfl,rfl⟩;have hole:=hsn.le;refine qb ?_;intros;refine qo2 rfl rfl rfl (fun e he=>?_) hla rfl (fun hall=>?_) (fun e he hno=>?_)
 ·obtain⟨j,p,h1,rfl⟩:=Ki.1 he;have:=(zgs h1).1;simp only;omega
 ·refine qb ?_;intros;refine qe (t:=false) rfl (fun ht=>by cases ht) (fun _=>?_);refine qb ?_;intros;refine⟨_,rfl,rfl,_,zH _,out,hsn.nodup hl,hsn.mem fun i hi=>?_,hole,qd rfl (qd rfl (qd rfl (qd rfl (qd rfl (qu _))))),rfl⟩;obtain⟨p,hp⟩:∃p,l[i]?=some p:=⟨_,zge hi⟩;have:=hall _ (Ki.2 ⟨i,p,hp,rfl⟩);simpa using this
 ·obtain⟨i,p,hp,rfl⟩:=Ki.1 he;rw [Nat.zero_add] at hno ⊢;simp only at hno ⊢;have hfd:=E5 (i:=0) hp;rw [Nat.zero_add] at hfd;refine qb ?_;intros;refine qe (t:=true) rfl (fun _=>?_) (fun ht=>by cases ht);refine qb ?_;intros;refine qag rfl rfl rfl rfl hfd rfl rfl ?_;refine qb ?_;intros;have hle2:=(hsn.step hp hno).le;have hln2:=hsn.len;rw [List.length_append,List.length_singleton] at hle2;refine qb8 rfl rfl (q:=p) (l:=l) (out:=out) (it:=.mp (.it l.length (seen++[i]) l.length) [.om 0]) oM hsg hbd rfl (qd rfl (qd rfl (qd rfl (qd rfl (qd rfl (qd rfl (qu _))))))) rfl rfl rfl ?_;refine qb ?_;intros;refine qe (t:=false) rfl (fun ht=>by cases ht) (fun _=>?_);refine qb ?_;intros;refine⟨m-1,by omega,_,_,_,[(6,10)],?wk2,seen++[i],out++[p],l.length,by rw [List.length_append,List.length_singleton];omega,hsn.step hp hno,Nat.le_refl _,rfl,rfl,rfl⟩
  case wk2=>exact qm
theorem DX.sub{p:Par}{f:FuncId}{ds:List DV}{S S0:Bx}{nk:Nat}{R:DV->Bx->Nat->Prop}(h:DX p f ds S0 nk R)(hs:yC S0 S):DX p f ds S nk R:=fun Z β H args hS ha=>h Z β H args (hS.keepS hs) ha
theorem qb9{l:List qc}(hl:l.Nodup)(hn:l.length<1000000):Z4 136 [.one (.f (.c .nils)),.one (.fn 118 [(1,0)])] [(0,j4 l),(1,.cells [.om 0])] 2
 fun d S' nk'=>∃out:List qc,out.Nodup/\(∀p,p∈out↔p∈l)/\d=.one (.own 6 0 out.length 2)/\out.length<=l.length/\yC [(6,.data (out.flatMap qh))] S'/\nk'=7:=by
 refine va MS rfl fun Z β H lo=>?_;refine qb ?_;intros;refine VK 2 0 2 rfl rfl ?_;refine ML rfl [2] rfl (by show qB Tryz.prog 118=true;kernel_rfl) rfl rfl (fun fid sg bd hsg hbd=>?_);refine DX.sub (S0:=[(0,j4 l),(1,.cells [.om 0]),(2,.cells [.own 3 0 0 2]),(3,.data []),(4,.mp (.lp .ready none fid vS.n [2] [7] sg bd) [.ptr 2 0])]) ((TC hl hn hsg hbd _ _ _ _ _).mono ?_) (qd rfl (qd rfl (qd rfl (qd rfl (qd rfl (qu _))))));rintro _ S' nk' ⟨out,h1,h2,h3,h4,rfl⟩;refine⟨_,_,_,_,_,_,_,_,_,h4 4 _ rfl,by simp,?_⟩;have h5:yC [(2,.cells [.own 6 0 out.length 2]),(6,.data (out.flatMap qh))] (zE 4 S'):=qd (((yT _ _ _).trans (if_neg (by decide))).trans (h4 2 _ rfl)) (qd (((yT _ _ _).trans (if_neg (by decide))).trans (h4 6 _ rfl)) (qu _));refine qr (E0:=[(2,.one (.ptr 2 0))]) (qd rfl (qu _)) h5 ?_;refine qb ?_;intros;exact qf ⟨_,rfl,rfl,_,zH _,out,h1,h2,rfl,h3,qd rfl (qu _),rfl⟩
theorem TE{l:List qc}(hl:l.Nodup)(hn:l.length<1000000):Z4 117 [.one (.fn 118 [(1,0)])] [(0,j4 l),(1,.cells [.om 0])] 2
 fun d S' nk'=>∃out:List qc,out.Nodup/\(∀p,p∈out↔p∈l)/\d=.one (.own 6 0 out.length 2)/\out.length<=l.length/\yC [(6,.data (out.flatMap qh))] S'/\nk'=7:=by
 refine va M0 rfl fun Z β H lo=>?_;refine qb ?_;intros;refine vA rfl rfl rfl (qb9 hl hn _ _ _ _ _) ?_;rintro _ S' _ ⟨out,h1,h2,rfl,h3,h4,rfl⟩;refine yJ (zH _) h4 ?_;refine qb ?_;intros;exact qf ⟨_,rfl,rfl,_,zH _,out,h1,h2,rfl,h3,zH _,rfl⟩
theorem NR(l:List qc):Z4 95 [.one (.om 0)] [(0,j4 l)] 1 fun d S' nk'=>d=.one (.fn 118 [(1,0)])/\yC [(0,j4 l),(1,.cells [.om 0])] S'/\nk'=2:=by
 refine va qaL rfl fun Z β H lo=>?_;refine qb ?_;intros;exact qf ⟨_,rfl,rfl,_,zH _,rfl,qd rfl (qd rfl (qu _)),rfl⟩
theorem MM(a:Int):yg Tryz.prog 1 ⟨.lf,1⟩ 119 [.int a] fun d=>d=.bool false:=by
 refine qD uQ rfl i5 fun Z0 lo=>?_;refine qb ?_;intros;refine qf ⟨_,rfl,rfl,?_⟩;simp
def Za(a b:Int):Int:=if a<b then -1 else if b<a then 1 else 0
theorem D8(a b:Int):yg Tryz.prog 1 ⟨.lf,1⟩ 98 [.int a,.int b] fun d=>d=.int (Za a b):=by
 refine qD qaI rfl i5 fun Z0 lo=>?_;refine qb ?_;intros;refine qk rfl rfl (MM a) ?_;rintro _ rfl;refine qb ?_;intros;refine qk rfl rfl (MM b) ?_;rintro _ rfl;refine qb ?_;intros;refine qe rfl (fun ht=>by cases ht) (fun _=>?_);refine qb ?_;intros;refine qe rfl (fun ht=>by cases ht) (fun _=>?_);refine qb ?_;intros;refine qe rfl (fun ht=>?_) (fun ht=>?_)
 ·have h:a<b:=by simpa using ht
  refine qb ?_;intros;exact qf ⟨_,rfl,rfl,by rw [Za,if_pos h]⟩
 ·have h:¬a<b:=by simpa using ht
  refine qb ?_;intros;refine qe rfl (fun ht=>?_) (fun ht=>?_)
  ·have h2:b<a:=by simpa using ht
   refine qb ?_;intros;exact qf ⟨_,rfl,rfl,by rw [Za,if_neg h,if_pos h2]⟩
  ·have h2:¬b<a:=by simpa using ht
   refine qb ?_;intros;exact qf ⟨_,rfl,rfl,by rw [Za,if_neg h,if_neg h2]⟩
theorem qto(a b:Int):yg Tryz.prog 1 ⟨.lf,1⟩ 97 [.one (.f (.sl 1 2 [.c (.int .i64 a),.c (.int .i64 b)]))] fun d=>d=.int (if a=0 then b else a):=by
 refine qD qaJ rfl i5 fun Z0 lo=>?_;refine qb ?_;intros;refine ql (fun k E S nk=>∃i:Nat,i+k=2/\(i=1->a=0)/\(i=2->a=0/\b=0)/\E=[(3,.int 0),(6,.one (.f (.sl 1 2 [.c (.int .i64 a),.c (.int .i64 b)]))),(7,.int 2),(8,.int i)]/\S=[]/\nk=0) ⟨2,_,_,_,[],?wk,0,rfl,by simp,by simp,rfl,rfl,rfl⟩ ?_
 case wk=>exact qm
 rintro k E S nk ⟨i,hi,h1,h2,rfl,rfl,rfl⟩;have e0:xN [FD.c (.int .i64 a),FD.c (.int .i64 b)] (0*1) 1=some [.c (.int .i64 a)]:=rfl;have e1:xN [FD.c (.int .i64 a),FD.c (.int .i64 b)] (1*1) 1=some [.c (.int .i64 b)]:=rfl
 match i,hi with
 |0,_=>
  refine qb ?_;intros;refine qe rfl (fun _=>?_) (fun ht=>by cases ht);refine qb ?_;intros;refine qe rfl (fun ht=>?_) (fun ht=>?_)
  ·have h:¬a=0:=by simpa using ht
   refine qb ?_;intros;exact qf ⟨_,rfl,rfl,by rw [if_neg h]⟩
  ·have h:a=0:=by simpa using ht
   refine qb ?_;intros;refine⟨k-1,by omega,_,_,_,[],?wk1,1,by omega,fun _=>h,by simp,rfl,rfl,rfl⟩
   case wk1=>exact qm
 |1,_=>
  have h:=h1 rfl;refine qb ?_;intros;refine qe rfl (fun _=>?_) (fun ht=>by cases ht);refine qb ?_;intros;refine qe rfl (fun ht=>?_) (fun ht=>?_)
  ·refine qb ?_;intros;exact qf ⟨_,rfl,rfl,by rw [if_pos h]⟩
  ·have h':b=0:=by simpa using ht
   refine qb ?_;intros;refine⟨k-1,by omega,_,_,_,[],?wk2,2,by omega,by simp,fun _=>⟨h,h'⟩,rfl,rfl,rfl⟩
   case wk2=>exact qm
 |2,_=>
  obtain⟨h,h'⟩:=h2 rfl;refine qb ?_;intros;refine qe rfl (fun ht=>by cases ht) (fun _=>?_);refine qb ?_;intros;exact qf ⟨_,rfl,rfl,by rw [if_pos h,h']⟩
 |i+3,h=>omega
theorem RZ(a b:qc):(if Za a.2 b.2=0 then Za a.1 b.1 else Za a.2 b.2)=vT a b:=by
 obtain⟨a1,a2⟩:=a;obtain⟨b1,b2⟩:=b;unfold Za vT xp;rcases Int.lt_trichotomy a2 b2 with h|h|h
 ·have h1:¬b2<a2:=by omega
  simp [h]
 ·subst h;rcases Int.lt_trichotomy a1 b1 with h|h|h
  ·simp [h]
  ·subst h;simp
  ·have h1:¬a1<b1:=by omega
   have h2:¬a1=b1:=by omega
   simp [h,h1,h2]
 ·have h1:¬a2<b2:=by omega
  have h2:¬a2=b2:=by omega
  simp [h,h1,h2]
theorem RW(a b:qc):yg Tryz.prog 1 ⟨.lf,1⟩ 96 [zd a,zd b] fun d=>d=.int (vT a b):=by
 refine qD qaK rfl i5 fun Z0 lo=>?_;refine qb ?_;intros;refine qk rfl rfl (D8 a.2 b.2) ?_;rintro _ rfl;refine qb ?_;intros;refine qk rfl rfl (D8 a.1 b.1) ?_;rintro _ rfl;refine qb ?_;intros;refine YV (ds:=[.one (.f (.sl 1 2 [.c (.int .i64 (Za a.2 b.2)),.c (.int .i64 (Za a.1 b.1))]))]) rfl ⟨⟨_,rfl,_,_,rfl,rfl,rfl⟩,trivial⟩ (qto (Za a.2 b.2) (Za a.1 b.1)) (by rintro _ rfl;rfl) ?_;rintro _ rfl;refine qb ?_;intros;refine qf ⟨_,rfl,rfl,?_⟩;rw [RZ]
theorem qpb:CmpAt 96:=NF (enters_of Tryz.func96 (by kernel_rfl) rfl) fun a b=>RW a b
abbrev fI(f:FuncId)(ds:List DV)(R:DV->Bx->Nat->Prop):Prop:=dF Tryz.prog 1 (H00 1) f ds R
def jR(b:Bool):FD:=.c (.bool b)
abbrev qI:=List (List Bool)
def xj(d:qI):List (List FD):=d.map (·.map jR)
def yx(w h:Int)(d:qI):DV:=.agg [.f (.c (.int .i64 w)),.f (.c (.int .i64 h)),.f (.sl 1 d.length ((xj d).map yh))]
def jI(w:Int):Int:=min (max w 0) 200
def blankD(w h:Nat):qI:=List.replicate h (List.replicate w false)
theorem yX(d:qI):(xj d).length=d.length:=by simp [xj]
theorem yA{d:qI}{y:Nat}{r:List Bool}(h:d[y]?=some r):(xj d)[y]?=some (r.map jR):=by simp [xj,h]
theorem Wi(d:qI)(y:Nat)(r:List Bool):(xj d).set y (r.map jR)=xj (d.set y r):=by simp [xj,List.map_set]
theorem R6(r:List Bool)(x:Nat)(b:Bool):(r.map jR).set x (jR b)=(r.set x b).map jR:=by simp [List.map_set]
theorem ZV{r:List Bool}{x:Nat}{b:Bool}(h:r[x]?=some b):(r.map jR)[x]?=some (jR b):=by simp [h]
theorem Y9(w:Int):∃n:Nat,jI w=n/\n<=200:=⟨(jI w).toNat,by unfold jI;omega,by unfold jI;omega⟩
theorem aF(n:Nat):yY [.c (.bool false)] n=(List.replicate n false).map jR:=by rw [Wn];simp [jR]
theorem P8 {p:Par} {base rs:Nat} {Q:qp->Bx->Nat->Prop} {r:List SOper} {W:Wt} {A:List Nat} {E:qp} {S:Bx} {nk:Nat} {id:Nat} {dst:Option Nat} {aid:Option Nat} {ws:List Nat} {keep neg:Bool} {x:Opd} {e n:Nat} {l:List FD} (hx:ro E x=some (.one (.f (.sl e n l))))
 (h1:n=0->l=[]->DPW p base rs Q r W A (xn E dst (.bool !neg)) S nk) (h2:DPW p base rs Q r W A (xn E dst (.bool neg)) S nk):DPW p base rs Q (⟨id,dst,.p (.nileq neg x),none,aid,ws,keep⟩::r) W A E S nk:=.mk fun Z β H F c hS hE hC hA=>by
 obtain⟨cx,hcx,hr⟩:=xg hE hx;simp only [qE,qv,if_true];cases hr with
 |nil=>
  simp only [qy,hcx];exact (h1 rfl rfl).run Z β H _ c hS (hE.set dst (kh rfl)) hC hA
 |sl=>
  simp only [qy,hcx];exact h2.run Z β H _ c hS (hE.set dst (kh rfl)) hC hA
theorem HH{l:List qc}(hn:l.length<1000000000):fI 80 [qz l] fun d S nk=>∃k,(k=0\/k=1)/\d=.one (.own k 0 l.length 2)/\S=[(k,.data (l.flatMap qh))]/\nk=k+1:=by
 refine QF qaY rfl qX fun Z0 lo=>?_;refine qb ?_;intros;refine P8 rfl (fun h0 _=>?_) ?_
 ·have:l=[]:=by simpa using h0
  subst this;refine qb ?_;intros;refine qe rfl (fun _=>?_) (fun h=>by cases h);refine qb ?_;intros;refine vB 2 2 rfl ?_;exact qf ⟨_,rfl,rfl,_,zH _,0,.inl rfl,rfl,rfl,rfl⟩
 ·refine qb ?_;intros;refine qe rfl (fun h=>by cases h) (fun _=>?_);refine qb ?_;intros;refine qV rfl rfl rfl rfl ⟨rfl,rfl,rfl⟩ oM oM (by decide) rfl ?_;refine qb ?_;intros;refine qf ⟨_,rfl,rfl,[(1,.data (l.flatMap qh))],qd (k:=1) rfl (qu _),1,.inr rfl,?_,rfl,rfl⟩;simp
def iF(x:Int):FD:=.c (.int .i64 x)
def fQ(l:List Int):DV:=.one (.f (.sl 1 l.length (l.map iF)))
theorem fS{l:List Int}{i:Nat}{x:Int}(h:l[i]?=some x):xN (l.map iF) (i*1) 1=some [iF x]:=by
 have hi:i<l.length:=(zgs h).1;rw [yE (by simp;omega)];rw [Nat.mul_one,List.drop_eq_getElem_cons (by simpa using hi)];have:l[i]=x:=(zgs h).2;simp [this]
theorem RQ{a:Int}:DK 119 [.int a] fun d=>d=.bool false:=by
 refine qD uQ rfl qX fun Z0 lo=>?_;refine qb ?_;intros;exact qf ⟨_,rfl,rfl,by simp⟩
theorem RR{a:Int}:DK 113 [.int a] fun d=>d=.bool false:=by
 refine qD M3 rfl qX fun Z0 lo=>?_;refine qb ?_;intros;exact qf ⟨_,rfl,rfl,by simp⟩
theorem qaB{a b:Int}:DK 112 [.int a,.int b] fun d=>d=.bool (decide (a<b)):=by
 refine qD M4 rfl qX fun Z0 lo=>?_;refine qb ?_;intros;refine qk rfl rfl RQ ?_;rintro _ rfl;refine qb ?_;intros;exact qf ⟨_,rfl,rfl,rfl⟩
def Asc(row:List Int):Prop:=∀(i j:Nat) (x y:Int),i<j->row[i]?=some x->row[j]?=some y->x<=y
theorem qrp{a b:Nat}(ha:a<1000000000)(hb:b<=1000000000):IntKind.i64.wrap ((IntKind.u64.wrap (IntKind.i64.wrap ((a:Int)+(b:Int)))).fdiv (2^min (Int.toNat 1) IntKind.u64.bits))=(((a+b)/2:Nat):Int):=by
 rw [qq (n:=(a:Int)+b) (by omega) (by omega)];have h1:IntKind.u64.wrap ((a:Int)+b)=(a:Int)+b:=by simp [IntKind.wrap,IntKind.bits,IntKind.signed];omega
 rw [h1];have h2:((2:Int)^min (Int.toNat 1) IntKind.u64.bits)=2:=rfl;rw [h2,Int.fdiv_eq_ediv_of_nonneg _ (by omega),qq (by omega) (by omega)];omega
theorem m8{row:List Int}{x:Int}(hs:Asc row)(hn:row.length<1000000000):DK 85 [fQ row,.int x] fun d=>∃(i:Nat) (b:Bool),d=.tup [.int i,.bool b]/\i<=row.length/\(∀(k:Nat) (y:Int),k<i->row[k]?=some y->y<x)/\(∀(k:Nat) (y:Int),i<=k->row[k]?=some y->x<=y):=by
 refine qD qaU rfl qX fun Z0 lo=>?_;refine qb ?_;intros;refine ql (fun m E S nk=>∃i j:Nat,i<=j/\j<=row.length/\m=j-i/\(∀(k:Nat) (y:Int),k<i->row[k]?=some y->y<x)/\(∀(k:Nat) (y:Int),j<=k->row[k]?=some y->x<=y)/\E=[(0,fQ row),(1,.int x),(6,.int row.length),(7,.int i),(8,.int j)]/\S=[]/\nk=0) ⟨row.length,_,_,_,[],?wk,0,row.length,oM,oM,oM,fun k y h=>oM,fun k y h1 h2=>by have:=(zgs h2).1;omega,rfl,rfl,rfl⟩ ?_
 case wk=>exact qm
 rintro m E S nk ⟨i,j,hij,hj,hm,hlo,hhi,rfl,rfl,rfl⟩;refine qb ?_;intros;refine qe rfl (fun ht=>?_) (fun ht=>?_)
 ·simp at ht;have hh:=qrp (a:=i) (b:=j) oM oM;obtain⟨y,hy⟩:∃y,row[(i+j)/2]?=some y:=⟨_,zge oM⟩;have e1:=fS hy;refine qb ?_;intros;rw [hh];refine qb ?_;intros;refine qk rfl rfl qaB ?_;rintro _ rfl;refine qb ?_;intros;refine qe rfl (fun hl=>?_) (fun hl=>?_)
  ·have hl':y<x:=by simpa using hl
   refine qb ?_;intros;refine⟨j-((i+j)/2+1),oM,_,_,_,[],?wk,(i+j)/2+1,j,oM,hj,rfl,fun k z hk hz=>?_,hhi,rfl,rfl,rfl⟩
   case wk=>exact qm
   rcases Nat.lt_or_ge k ((i+j)/2) with h|h
   ·have:=hs k ((i+j)/2) z y h hz hy;omega
   ·obtain rfl:k=(i+j)/2:=by omega
    rw [hy] at hz;obtain rfl:=zsi hz;exact hl'
  ·have hl':x<=y:=by simpa using hl
   refine qb ?_;intros;refine⟨(i+j)/2-i,oM,_,_,_,[],?wk,i,(i+j)/2,oM,oM,rfl,hlo,fun k z hk hz=>?_,rfl,rfl,rfl⟩
   case wk=>exact qm
   rcases Nat.lt_or_ge ((i+j)/2) k with h|h
   ·have:=hs ((i+j)/2) k y z h hy hz;omega
   ·obtain rfl:k=(i+j)/2:=by omega
    rw [hy] at hz;obtain rfl:=zsi hz;exact hl'
 ·simp at ht;obtain rfl:i=j:=by omega
  by_cases hi:i<row.length
  ·have g1:decide ((i:Int)<row.length)=true:=by simpa using hi
   obtain⟨y,hy⟩:∃y,row[i]?=some y:=⟨_,zge hi⟩;have e1:=fS hy;by_cases hyx:y=x
   ·have g2:(y==x)=true:=by simpa using hyx
    refine qU ?_;intros;exact qf ⟨_,rfl,rfl,i,_,rfl,hj,hlo,hhi⟩
   ·have g2:(y==x)=false:=by simpa using hyx
    refine qU ?_;intros;refine qk rfl rfl RR ?_;rintro _ rfl;refine qU ?_;intros;exact qf ⟨_,rfl,rfl,i,_,rfl,hj,hlo,hhi⟩
  ·have g1:decide ((i:Int)<row.length)=false:=by simpa using hi
   refine qU ?_;intros;exact qf ⟨_,rfl,rfl,i,_,rfl,hj,hlo,hhi⟩
theorem aB{cells cs:List C}{i:Nat}(h:i+cs.length<=cells.length):yO cells i cs=cells.take i++cs++cells.drop (i+cs.length):=by
 have hs:cells=cells.take i++((cells.drop i).take cs.length++cells.drop (i+cs.length)):=by
  rw [<-List.drop_drop,List.take_append_drop,List.take_append_drop]
 have:=vb (cells.take i) ((cells.drop i).take cs.length) cs (cells.drop (i+cs.length)) (by simp;omega);rw [<-hs,List.length_take,Nat.min_eq_left (by omega)] at this;rw [this,List.append_assoc]
theorem Vz(z:List C)(n:Nat):(yS z n).length=n:=by simp [yS]
theorem qtr{b o n cap e:Nat}{ex:Bool}{lo hi m:Nat}(h1:lo<=hi)(h2:hi<=m)(h3:m<=cap):qy .lf (.slice e (.c (.one (.slc b o n cap e ex))) (some (.c (.int lo))) (some (.c (.int hi))) (some (.c (.int m))))=some (.one (.slc b (o+lo*e) (hi-lo) (m-lo) e (ex||true))):=by
 simp [qy,jx,xu,Opd.ev,h1,h2,h3]
theorem qts{b o n cap e:Nat}{ex:Bool}{lo hi:Nat}(h1:lo<=hi)(h2:hi<=cap):qy .lf (.slice e (.c (.one (.slc b o n cap e ex))) (some (.c (.int lo))) (some (.c (.int hi))) none)=some (.one (.slc b (o+lo*e) (hi-lo) (cap-lo) e ex)):=by
 simp [qy,jx,xu,Opd.ev,h1,h2]
theorem qtt{b o n cap e:Nat}{ex:Bool}{lo:Nat}(h1:lo<=n)(h2:n<=cap):qy .lf (.slice e (.c (.one (.slc b o n cap e ex))) (some (.c (.int lo))) none none)=some (.one (.slc b (o+lo*e) (n-lo) (cap-lo) e ex)):=by
 simp [qy,jx,xu,Opd.ev,h1,h2]
theorem qtu{b o n cap e:Nat}{ex:Bool}{hi:Nat}(h2:hi<=cap):qy .lf (.slice e (.c (.one (.slc b o n cap e ex))) none (some (.c (.int hi))) none)=some (.one (.slc b o hi cap e ex)):=by
 simp [qy,jx,xu,Opd.ev,h2]
theorem qan{H:Hp}{b n cap i j:Nat}{ex:Bool}{cells:List C}(hr:xX H b cells)(hnc:n<=cap)(hcap:cap<=cells.length)(hij:i<j)(hjn:j<=n)(hn:n<1000000000):
 qJ Tryz.prog 1 86 [.one (.slc b 0 n cap 1 ex),.int i,.int j] H fun v H'=>v=.one (.slc b 0 (i+(n-j)) cap 1 ex)/\∃rest',xX H' b (cells.take i++(cells.drop j).take (n-j)++rest')/\(cells.take i++(cells.drop j).take (n-j)++rest').length=cells.length/\(∀b',b'≠b->H'.get b'=H.get b')/\H'.nx=H.nx+8:=by
 refine v7 qaT (by simp [LV]) fun hwf=>?_;refine zP ?_;refine vQ rfl (qtr oM oM oM) ?_;refine zP ?_;refine QQ rfl rfl (fun h=>by simp at h;omega) (fun _=>?_);refine zP ?_;refine Wo wi ?_;refine goP ?_;refine vQ rfl (qtu oM) ?_;refine goP ?_;refine vQ rfl (qtt oM oM) ?_;have hnews:H.loads b (0+j*1) (n-j)=some ((cells.drop j).take (n-j)):=by
  have:=kY hr.2 (i:=j) (k:=n-j) oM;rw [Nat.mul_one];exact this
 have hlen:((cells.drop j).take (n-j)).length=n-j:=by simp;omega
 have hr8:xX (H.skip 8) b cells:=hr.same rfl;obtain⟨H1,s1,s2,s3,s4⟩:=hr8.stores (cs:=(cells.drop j).take (n-j)) (i:=i) oM;refine sW rfl (v:=.one (.slc b 0 (i+(n-j)) cap 1 ex)) (H':=H1) ?_ trivial ?_
 ·show xq .lf (H.skip 8) (.append 1 8 (.c (.one (.slc b 0 i cap 1 ex))) (.c (.one (.slc b (0+j*1) (n-j) (cap-j) 1 ex))))=_
  have e1:zG (H.skip 8) 1 (.one (.slc b (0+j*1) (n-j) (cap-j) 1 ex))=some (n-j,(cells.drop j).take (n-j)):=by
   simp only [zG,if_true,Nat.mul_one];have:(H.skip 8).loads b (0+j) (n-j)=some ((cells.drop j).take (n-j)):=by simpa using hnews
   rw [this];rfl
  simp only [xq,Opd.ev,e1,zq];rw [if_neg (by simp),if_pos (by omega),Nat.zero_add,Nat.mul_one,s1];rfl
 refine zP ?_;refine vQ rfl (qts (lo:=i+(n-j)) (hi:=n) oM oM) ?_;obtain⟨H2,t1,t2,t3,t4⟩:=s2.stores (cs:=yS [.int .i64 0] ((n-(i+(n-j)))*1)) (i:=i+(n-j)) (by rw [Vz,wZ];omega);refine sW rfl (v:=V.undef) (H':=H2) ?_ trivial ?_
 ·show xq .lf H1 (.clear 1 [.int .i64 0] (.c (.one (.slc b (0+(i+(n-j))*1) (n-(i+(n-j))) (cap-(i+(n-j))) 1 ex))))=_
  simp only [xq,Opd.ev,if_true,Nat.zero_add,Nat.mul_one];simp only [Nat.mul_one] at t1;rw [t1];rfl
 refine zP ?_;refine jF ⟨_,rfl,rfl,?_⟩;rw [aB (cells:=cells) (by omega)] at t2;rw [aB (by rw [Vz];simp;omega)] at t2;have e2:(cells.take i++(cells.drop j).take (n-j)++cells.drop (i+((cells.drop j).take (n-j)).length)).take (i+(n-j))=cells.take i++(cells.drop j).take (n-j):=by
  rw [List.take_append_of_le_length (by simp;omega),List.take_of_length_le (by simp;omega)]
 rw [e2,List.append_assoc] at t2;refine⟨_,t2,?_,fun b' hb'=>by rw [t3 b' hb',s3 b' hb'];rfl,by rw [t4,s4];rfl⟩;have:=t2.2;simp [Vz];omega
end Go.Ag

namespace Go.Ab
theorem SR.skip{p:Par}{Z:Nat->Prop}{β:qw}{H:Hp}{S:Bx}{nk:Nat}(hS:SR p Z β H S nk)(rs:Nat):SR p Z β (H.skip rs) S nk:=
 ⟨hS.wf.skip rs,by simp;have:=hS.lo;omega,fun b hb=>by simp;have:=hS.z b hb;omega,hS.zlo,hS.zz,hS.glob,hS.nk,fun k b N hk=>by simp;have:=hS.bd k b N hk;omega,fun k x hk=>by
  obtain⟨s,hs,hbx⟩:=hS.box k x hk;exact⟨s,hs,jd.mono (H:=H) (H':=H.skip rs) (xP.refl β) (by simp) (fun _ _=>rfl) hbx⟩,hS.inj,hS.blo,hS.anch,hS.ancn⟩
theorem DP{p:Par}{n:Nat}{Q:Exit->qp->Bx->Nat->Prop}{E:qp}{S:Bx}{nk:Nat}{s:SC}(k m:Nat){l:List FD}(hk:lk S k=some (.data l))(h:DPS p n s Q E (put k (.data (l.take m)) S) nk):DPS p n s Q E S nk:=.mk fun Z β H F hS hE=>by
 refine h.run Z β H F ?_ hE;refine⟨hS.wf,hS.lo,hS.z,hS.zlo,hS.zz,hS.glob,hS.nk,hS.bd,fun κ x hκ=>?_,fun κ κ' x x' b N N' hj hj'=>?_,hS.blo,hS.anch,hS.ancn⟩
 ·rw [Zt hk rfl] at hκ;split at hκ
  ·rename_i e;split at hκ
   ·rename_i e2;obtain rfl:=v8 e e2;obtain rfl:=zsi hκ;obtain⟨s,hs,hbx⟩:=hS.box (k,0) _ (xV hk rfl);refine⟨s,hs,?_⟩;cases s with
    |nil=>
     have:l.length=0:=hbx;show (l.take m).length=0;rw [List.length_take,this];simp
    |blk b N=>
     obtain⟨h1,h2,h3,cs,rest,h4,h5,h6⟩:=hbx;refine⟨h1,h2,h3,cs.take m,cs.drop m++rest,?_,?_,qg.take h6 m⟩
     ·rw [<-List.append_assoc,List.take_append_drop];exact h4
     ·rw [<-List.append_assoc,List.take_append_drop];exact h5
   ·cases hκ
  ·exact hS.box κ x hκ
 ·have f:∀i z,lk (put k (.data (l.take m)) S) i=some z->∃z',lk S i=some z':=fun i z hz=>by
   rw [yF] at hz;split at hz
   ·cases hl:lk S i with
    |none=>rw [hl] at hz;cases hz
    |some q=>exact⟨q,rfl⟩
   ·exact⟨z,hz⟩
  obtain⟨z1,e1⟩:=f _ x hj;obtain⟨z2,e2⟩:=f _ x' hj';exact hS.inj κ κ' z1 z2 b N N' e1 e2
end Go.Ab
namespace Go.Ag
open Go.Ab Go.Proofs
theorem DI{k n i j nk:Nat}{l:List FD}{S:Bx}(hk:lk S k=some (.data l))(hl:l.length=n)(hij:i<j)(hjn:j<=n)(hn:n<1000000000):Z4 86 [.one (.own k 0 n 1),.int i,.int j] S nk fun d S' nk'=>d=.one (.own k 0 (i+(n-j)) 1)/\nk'=nk/\S'=put k (.data (l.take i++l.drop j)) S:=by
 intro Z0 lo anc β0 H1 Z β H args hS ha
 match args,ha with
 |[v1,v2,v3],⟨h1,h2,h3,_⟩=>
  obtain⟨c1,rfl,h1⟩:=h1;obtain⟨c2,rfl,h2⟩:=h2;obtain⟨c3,rfl,h3⟩:=h3;cases h2;cases h3;rcases h1 with⟨_,h1,_⟩|⟨b,N,cap,ex,hb,rfl,hcap,hN⟩
  ·omega
  ·obtain⟨s,hs,hbx⟩:=hS.box (k,0) _ (xV hk rfl);rw [hb] at hs;obtain rfl:=zsi hs;obtain⟨hz,hlo,hlt,cs,rest,hrow,hNl,hrel⟩:=hbx;have hrow:xX H b (cs++rest):=hrow;have hNl:(cs++rest).length=N:=hNl;have hcl:cs.length=n:=by rw [<-hl];exact (qg.len hrel).symm
   refine (qan hrow hcap oM hij hjn hn).mono ?_;rintro v H' ⟨rfl,rest',hrow',hlen',hoth,hnx⟩;have e1:(cs++rest).take i=cs.take i:=List.take_append_of_le_length oM;have e2:((cs++rest).drop j).take (n-j)=cs.drop j:=by
    rw [List.drop_append_of_le_length (by omega),List.take_append_of_le_length (by simp;omega),List.take_of_length_le (by simp;omega)]
   rw [e1,e2] at hrow' hlen';obtain⟨hS',hZ⟩:=(hS.skip 8).upd (x':=.data (l.take i++l.drop j)) (cs:=cs.take i++cs.drop j) (rest:=rest') hk rfl hb (qg.append (qg.take (qg.mono (fun _ _=>RF.mono (xo.of_get (H:=H) (H':=H.skip 8) (fun _ h=>h) fun _ _=>rfl)) hrel) i) (qg.drop (qg.mono (fun _ _=>RF.mono (xo.of_get (H:=H) (H':=H.skip 8) (fun _ h=>h) fun _ _=>rfl)) hrel) j)) (fun b' hb'=>by rw [hoth b' hb'];rfl) (by rw [hnx];rfl) rfl hrow' (by rw [hlen',hNl]);exact⟨.one (.own k 0 (i+(n-j)) 1),_,_,Z,β,hS',⟨_,rfl,.inr ⟨b,N,cap,ex,hb,rfl,oM,hN⟩⟩,hZ,fun _ _ h=>h,rfl,rfl,rfl⟩
end Go.Ag

namespace Go.Ag
open Go.Ab Go.Proofs
abbrev xT:=List (Int × List Int)
def xE(R:xT):List (Int × ME):=R.map fun e=>(e.1,.row (e.2.map iF))
def NN(es:List (Int × ME))(left:Int)(A B:List FD)(a b:Int):Bx:=[(0,.mt es),(1,.cells [.om 0]),(2,.cells [.f (.c (.int .i64 left))]),(3,.data A),(4,.data B),(5,.cells [.f (.c (.int .i64 a)),.f (.c (.int .i64 b))])]
def SS(R:xT)(left:Int)(A B:List FD)(a b:Int):Bx:=NN (xE R) left A B a b
def k7(low high x:Int):Bool:=decide (low<=x)&&decide (x<=high)
def jZ(R:xT)(y low high:Int):List qc:=(R.filter fun e=>decide (e.1=y)).flatMap fun e=>(e.2.filter (k7 low high)).map fun x=>(x,y)
def lft(R:xT)(y low high:Int):xT:=R.map fun e=>(e.1,if e.1=y then e.2.filter (fun x=>!(k7 low high x)) else e.2)
structure RowsOk (R:xT):Prop where
 nd:(R.map (·.1)).Nodup
 asc:∀e∈R,Asc e.2
 len:∀e∈R,e.2.length<1000000
theorem Wx(R:xT):ka 0 (xE R)=true:=by
 unfold xE;induction R with
 |nil=>rfl
 |cons e R ih=>exact ih
theorem Vq{R:xT}{i:Nat}{e:Int × List Int}(h:R[i]?=some e):(xE R)[i]?=some (e.1,.row (e.2.map iF)):=by simp [xE,h]
theorem Vj{R:xT}{y low high:Int}(h:∀e∈R,e.1≠y):jZ R y low high=[]/\lft R y low high=R:=by
 constructor
 ·unfold jZ;rw [List.filter_eq_nil_iff.2 (fun e he=>by simpa using h e he)];rfl
 ·unfold lft
  conv=>rhs;rw [<-List.map_id R]
  exact List.map_congr_left fun e he=>by rw [if_neg (h e he)];rfl
theorem DW{x:Int}:DK 85 [.one (.f (.c .nils)),.int x] fun d=>∃b:Bool,d=.tup [.int 0,.bool b]:=fun H Z args hw hz hg ha=>by
 match args,ha with
 |[v1,v2],⟨h1,h2,_⟩=>
  obtain⟨c,rfl,h1⟩:=h1;cases h1;refine (m8 (row:=[]) (x:=x) (fun i j x y _ h=>by simp at h) (by simp) H Z [.one .nils,v2] hw hz hg ⟨⟨_,rfl,RF.nil 1⟩,h2,trivial⟩).mono ?_;rintro v H' ⟨g1,g2,g3,d,g4,i,b,rfl,g5,_⟩;simp at g5;subst g5;exact⟨g1,g2,g3,_,g4,b,rfl⟩
theorem Ju{R:xT}(hnd:(R.map (·.1)).Nodup){i:Nat}{e:Int × List Int}(h:R[i]?=some e):∀(j:Nat) (e':Int × ME),j<i->(xE R)[j]?=some e'->e'.1≠e.1:=by
 intro j e' hj he' heq;have hjl:j<R.length:=by have:=(zgs he').1;simpa [xE] using this
 have he2:R[j]?=some R[j]:=zge hjl;have h3:=Vq he2;rw [he'] at h3;obtain rfl:=zsi h3;have k1:(R.map (·.1))[j]?=some e.1:=by simp [he2];exact heq
 have k2:(R.map (·.1))[i]?=some e.1:=by simp [h]
 have:=(List.getElem?_inj (by simpa using hjl) hnd).1 (k1.trans k2.symm);omega
theorem vp(f:DC->DC)(R:xT):wh f (xE R)=xE R:=by
 unfold wh xE;rw [List.map_map];exact List.map_congr_left fun e _=>rfl
theorem ZB(n:Nat)(R:xT):KU n (xE R)=true:=by
 unfold xE;induction R with
 |nil=>rfl
 |cons e R ih=>exact ih
theorem sI{ρ:List (Nat × Nat)}{n0:Nat}{S:Bx}{es es':List (Int × ME)}{left:Int}{A B:List FD}{a b:Int}(he:wh (Wj ρ) es=es')(hs:KU n0 es=true)(h0:lk S (rn ρ 0)=some (.mt es'))(h1:lk S (rn ρ 1)=some (.cells [.om (rn ρ 0)]))(h2:lk S (rn ρ 2)=some (.cells [.f (.c (.int .i64 left))]))(h3:lk S (rn ρ 3)=some (.data A))(h4:lk S (rn ρ 4)=some (.data B))(h5:lk S (rn ρ 5)=some (.cells [.f (.c (.int .i64 a)),.f (.c (.int .i64 b))]))(hn:6<=n0):Vh ρ n0 S (NN es left A B a b):=by
 have hb:∀k,k<6->Nat.blt k n0=true:=fun k hk=>Nat.ble_eq_true_of_le oM;have hb0:=hb 0 oM;refine⟨?_,hs,hb 0 oM,h1,?_,hb 1 oM,h2,rfl,hb 2 oM,h3,rfl,hb 3 oM,h4,rfl,hb 4 oM,h5,rfl,hb 5 oM,trivial⟩
 ·rw [h0];simp only [XO,he]
 ·simp only [Wa,qW,vL,hb0]
theorem sJ{ρ:List (Nat × Nat)}{n0:Nat}{S:Bx}{R:xT}{left:Int}{A B:List FD}{a b:Int}(h0:lk S (rn ρ 0)=some (.mt (xE R)))(h1:lk S (rn ρ 1)=some (.cells [.om (rn ρ 0)]))(h2:lk S (rn ρ 2)=some (.cells [.f (.c (.int .i64 left))]))(h3:lk S (rn ρ 3)=some (.data A))(h4:lk S (rn ρ 4)=some (.data B))(h5:lk S (rn ρ 5)=some (.cells [.f (.c (.int .i64 a)),.f (.c (.int .i64 b))]))(hn:6<=n0):Vh ρ n0 S (SS R left A B a b):=
 sI (vp _ R) (ZB n0 R) h0 h1 h2 h3 h4 h5 hn
theorem eF(f:DC->DC)(R:xT)(i:Nat)(y:Int)(d:DC):wh f ((xE R).set i (y,.out d))=(xE R).set i (y,.out (f d)):=by
 have:=vp f R;unfold wh at this ⊢;rw [List.map_set,this];rfl
theorem cH{n:Nat}{d:DC}(hd:vL n d=true)(y:Int):∀(R:xT) (i:Nat),KU n ((xE R).set i (y,.out d))=true
 |[],i=>rfl
 |e::R,0=>by
  show KU n ((y,.out d)::xE R)=true
  simp only [KU,hd,ZB]
 |e::R,i+1=>cH hd y R i
theorem Jl{d:DC}(hd:wH 0 d=true)(y:Int):∀(R:xT) (i:Nat),ka 0 ((xE R).set i (y,.out d))=true
 |[],i=>rfl
 |e::R,0=>by
  show ka 0 ((y,.out d)::xE R)=true
  simp only [ka,hd,Wx]
 |e::R,i+1=>Jl hd y R i
theorem cR{l:List Int}{x:Int}(h:x∈l):∃k:Nat,l[k]?=some x:=List.getElem?_of_mem h
theorem seg{xs:List Int}{i j:Nat}{low high:Int}(hij:i<=j)(hj:j<=xs.length)(h1:∀(k:Nat) (y:Int),k<i->xs[k]?=some y->y<low)(h2:∀(k:Nat) (y:Int),i<=k->xs[k]?=some y->low<=y)(h3:∀(k:Nat) (y:Int),i<=k->k<j->xs[k]?=some y->y<=high)(h4:∀(k:Nat) (y:Int),j<=k->xs[k]?=some y->high<y):
 xs.filter (k7 low high)=(xs.drop i).take (j-i)/\xs.filter (fun x=>!(k7 low high x))=xs.take i++xs.drop j:=by
 have hsp:xs=xs.take i++((xs.drop i).take (j-i)++xs.drop j):=by
  have:xs.drop j=(xs.drop i).drop (j-i):=by rw [List.drop_drop];congr 1;omega
  rw [this,List.take_append_drop,List.take_append_drop]
 have a1:∀x∈xs.take i,k7 low high x=false:=fun x hx=>by
  obtain⟨k,hk⟩:=cR hx;rw [List.getElem?_take] at hk;split at hk
  ·have:=h1 k x aM hk;simp [k7];omega
  ·cases hk
 have a2:∀x∈(xs.drop i).take (j-i),k7 low high x=true:=fun x hx=>by
  obtain⟨k,hk⟩:=cR hx;rw [List.getElem?_take] at hk;split at hk
  ·rw [List.getElem?_drop] at hk;have k1:=h2 (i+k) x oM hk;have k2:=h3 (i+k) x oM oM hk;simp [k7];omega
  ·cases hk
 have a3:∀x∈xs.drop j,k7 low high x=false:=fun x hx=>by
  obtain⟨k,hk⟩:=cR hx;rw [List.getElem?_drop] at hk;have:=h4 (j+k) x oM hk;simp [k7];omega
 constructor
 ·conv=>lhs;rw [hsp]
  rw [List.filter_append,List.filter_append,List.filter_eq_nil_iff.2 (fun x hx=>by rw [a1 x hx];simp),List.filter_eq_self.2 a2,List.filter_eq_nil_iff.2 (fun x hx=>by rw [a3 x hx];simp)];simp
 ·conv=>lhs;rw [hsp]
  rw [List.filter_append,List.filter_append,List.filter_eq_self.2 (fun x hx=>by rw [a1 x hx];rfl),List.filter_eq_nil_iff.2 (fun x hx=>by rw [a2 x hx];simp),List.filter_eq_self.2 (fun x hx=>by rw [a3 x hx];rfl)];simp
theorem gP:∀{R:xT} {i:Nat} {y low high:Int} {xs:List Int},(R.map (·.1)).Nodup->R[i]?=some (y,xs)->jZ R y low high=(xs.filter (k7 low high)).map (fun x=>(x,y))/\lft R y low high=R.set i (y,xs.filter (fun x=>!(k7 low high x)))
 |[],i,y,low,high,xs,_,h=>by simp at h
 |e::R,0,y,low,high,xs,hnd,h=>by
  simp at h;subst h;simp only [List.map_cons,List.nodup_cons,List.mem_map,not_exists,not_and] at hnd;obtain⟨t1,t2⟩:=Vj (R:=R) (y:=y) (low:=low) (high:=high) (fun e he h=>hnd.1 e he h);constructor
  ·unfold jZ at t1 ⊢;simp [t1]
  ·unfold lft at t2 ⊢;simp [t2]
 |e::R,i+1,y,low,high,xs,hnd,h=>by
  simp only [List.map_cons,List.nodup_cons,List.mem_map,not_exists,not_and] at hnd;have hi:R[i]?=some (y,xs):=by simpa using h
  obtain⟨t1,t2⟩:=gP (low:=low) (high:=high) hnd.2 hi;have hne:e.1≠y:=fun he=>hnd.1 (y,xs) (zmg hi) he.symm;constructor
  ·unfold jZ at t1 ⊢;rw [List.filter_cons,if_neg (by simpa using hne)];exact t1
  ·unfold lft at t2 ⊢;rw [List.map_cons,t2,if_neg hne];rfl
theorem Wh(R:xT)(i:Nat)(y:Int)(xs:List Int):xE (R.set i (y,xs))=(xE R).set i (y,.row (xs.map iF)):=by simp [xE,List.map_set]
theorem rC{R:xT}{left y low high:Int}{A B:List FD}{a b:Int}(hR:RowsOk R)(hl: -1000000000<left)(hl':left<1000000000):Z4 84 [.int y,.int low,.int high,.one (.ptr 1 0),.one (.ptr 2 0)] (SS R left A B a b) 6 fun d S nk=>d=.one (.own 7 0 (jZ R y low high).length 2)/\S=(7,.data ((jZ R y low high).flatMap qh))::SS (lft R y low high) (left-(jZ R y low high).length) A B a b/\nk=8:=by
 refine va qaV rfl fun Z β H lo=>?_;by_cases hy:∃(i:Nat) (xs:List Int),R[i]?=some (y,xs)
 ·obtain⟨i0,xs,hi0⟩:=hy;obtain⟨t1,t2⟩:=gP (low:=low) (high:=high) hR.nd hi0;have hasc:=hR.asc _ (zmg hi0);have hlen:=hR.len _ (zmg hi0);simp only at hasc hlen;have hs:=m8 (row:=xs) (x:=low) hasc oM;obtain⟨N,hN⟩:∃N,(xs.map iF).length=N:=⟨_,rfl⟩;have hN':xs.length=N:=by rw [<-hN];simp
  rw [show fQ xs=DV.one (.f (.sl 1 N (xs.map iF))) from by rw [fQ,hN']] at hs;refine qb ?_;intros;refine mQ rfl rfl rfl (Vq hi0) (Ju hR.nd hi0) rfl (Wx R) rfl rfl ?_;rw [hN];refine qb ?_;intros;refine YV (ds:=[.one (.f (.sl 1 N (xs.map iF))),.int low]) rfl ⟨⟨_,rfl,_,_,rfl,qH _ (by rw [hN];omega),rfl⟩,⟨_,rfl,rfl,rfl⟩,trivial⟩ hs ?_ ?_
  ·rintro _ ⟨i,b,rfl,_⟩;rfl
  rintro _ ⟨i,bb,rfl,hi,hlo,hhi⟩;refine qb ?_;intros;refine vB 13 2 rfl ?_;rw [hN'] at hi;have hT:∀c:Nat,i+c<=N->((((xs.drop i).take c).map fun x=>(x,y)).flatMap qh).length=c*2:=fun c hc=>by rw [xb];simp;omega
  refine ql (fun m E S nk=>∃c:Nat,i+c<=N/\m=N-(i+c)/\(∀(k:Nat) (z:Int),i<=k->k<i+c->xs[k]?=some z->z<=high)/\E=[(0,.int y),(2,.int high),(3,.one (.ptr 1 0)),(4,.one (.ptr 2 0)),(9,.one (.own 6 0 N 1)),(10,.int i),(12,.int (i+c:Nat)),(13,.one (.own 7 0 c 2))]/\S=(7,.data ((((xs.drop i).take c).map fun x=>(x,y)).flatMap qh))::(6,.data (xs.map iF))::NN ((xE R).set i0 (y,.out (.own 6 0 N 1))) left A B a b/\nk=8) ⟨N-i,_,_,_,[],?wk,0,hi,rfl,fun k z h1 h2=>oM,rfl,rfl,rfl⟩ ?_
  case wk=>exact⟨za,⟨rfl,rfl,rfl,rfl,rfl,rfl,sI (eF _ R i0 y _) (cH rfl y R i0) rfl rfl rfl rfl rfl rfl oM⟩,rfl,rfl⟩
  rintro m E S nk ⟨c,hj,hm,hle,rfl,rfl,rfl⟩;have hTc:=hT c hj;have fin:(∀(k:Nat) (z:Int),i+c<=k->xs[k]?=some z->high<z)->DPS (parK Z lo 6 β H) C2.n (((SC.ops LX 0).seq (SC.cond (Opd.t 49) ((SC.ops LW 7).seq (SC.ops C1 0)) SC.skip)).seq ((SC.ops C0 0).seq SC.ret)) (cI (parK Z lo 6 β H) C2.res fun d S nk=>d=DV.one (DC.own 7 0 (jZ R y low high).length 2)/\S=(7,Bk.data (List.flatMap qh (jZ R y low high)))::SS (lft R y low high) (left-↑(jZ R y low high).length) A B a b/\nk=8)
   [(0,.int y),(2,.int high),(3,.one (.ptr 1 0)),(4,.one (.ptr 2 0)),(9,.one (.own 6 0 N 1)),(10,.int i),(12,.int (i+c:Nat)),(13,.one (.own 7 0 c 2))] ((7,.data ((((xs.drop i).take c).map fun x=>(x,y)).flatMap qh))::(6,.data (xs.map iF))::NN ((xE R).set i0 (y,.out (.own 6 0 N 1))) left A B a b) 8:=by
   intro hgt;obtain⟨f1,f2⟩:=seg (low:=low) (high:=high) (Nat.le_add_right i c) oM hlo hhi hle hgt;rw [Nat.add_sub_cancel_left] at f1;rw [f1] at t1;rw [f2] at t2;have htl:(jZ R y low high).length=c:=by rw [t1];simp;omega
   rw [t2,htl,t1];have hes:∀d:DC,((xE R).set i0 (y,.out d))[i0]?=some (y,.out d):=fun d=>by
    have:i0<(xE R).length:=by have:=(zgs hi0).1;simpa [xE] using this
    rw [List.getElem?_set_self this]
   have hfs:∀(d:DC) (j:Nat) (e':Int × ME),j<i0->((xE R).set i0 (y,.out d))[j]?=some e'->e'.1≠y:=fun d j e' hj he=>by
    rcases ZC he with⟨h,_⟩|⟨_,h⟩
    ·omega
    ·exact Ju hR.nd hi0 j e' hj h
   by_cases hc:0<c
   ·have g2:decide (((i+c:Nat):Int)>(i:Nat))=true:=decide_eq_true oM;refine qU ?_;intros;refine qe rfl (fun _=>?_) (fun h=>by cases h);refine qb ?_;intros;refine qah rfl rfl (DI rfl hN oM oM oM _ _ _ _ _) ?_;rintro d S' nk' ⟨rfl,rfl,rfl⟩;refine⟨⟨rfl,⟨_,rfl,rfl,rfl,rfl⟩,trivial⟩,?_⟩;refine rE rfl rfl rfl rfl (hes _) (hfs _) rfl ?_;rw [List.set_set];refine qb ?_;intros;have hq:((xs.map iF).take i++(xs.map iF).drop (i+c)).length=i+(N-(i+c)):=by simp;omega
    refine DQ 0 6 i0 rfl rfl (by rw [hq];exact hes _) rfl (Jl rfl y R i0) rfl ?_;rw [List.set_set];refine qb ?_;intros;have hw1:IntKind.i64.wrap (left-IntKind.i64.wrap (((i+c:Nat):Int)-(i:Nat)))=left-c:=by
     rw [qq (n:=((i+c:Nat):Int)-(i:Nat)) (by omega) (by omega),qq (by omega) (by omega)];omega
    have hm1:xE (R.set i0 (y,xs.take i++xs.drop (i+c)))=(xE R).set i0 (y,.row ((xs.map iF).take i++(xs.map iF).drop (i+c))):=by rw [Wh];simp
    refine qf ⟨_,rfl,rfl,_,?_,rfl,rfl,rfl⟩;refine qd (k:=7) rfl (qd (k:=0) ?_ (qd (k:=1) rfl (qd (k:=2) ?_ (qd (k:=3) rfl (qd (k:=4) rfl (qd (k:=5) rfl (qu _)))))))
    ·rw [hm1];rfl
    ·rw [<-hw1];rfl
   ·obtain rfl:c=0:=by omega
    have g2:decide (((i+0:Nat):Int)>(i:Nat))=false:=decide_eq_false oM;refine qU ?_;intros;refine qe rfl (fun h=>by cases h) (fun _=>?_);refine qb ?_;intros;refine DQ 0 6 i0 rfl rfl (by rw [hN];exact hes _) rfl (Jl rfl y R i0) rfl ?_;rw [List.set_set];refine qb ?_;intros;have hm1:xE (R.set i0 (y,xs.take i++xs.drop (i+0)))=(xE R).set i0 (y,.row (xs.map iF)):=by rw [Wh];simp
    refine qf ⟨_,rfl,rfl,_,?_,rfl,rfl,rfl⟩;refine qd (k:=7) rfl (qd (k:=0) ?_ (qd (k:=1) rfl (qd (k:=2) ?_ (qd (k:=3) rfl (qd (k:=4) rfl (qd (k:=5) rfl (qu _)))))))
    ·rw [hm1];rfl
    ·simp;rfl
  by_cases hjN:i+c<N
  ·have g1:decide (((i+c:Nat):Int)<N)=true:=decide_eq_true oM;obtain⟨x,hx⟩:∃x,xs[i+c]?=some x:=⟨_,zge oM⟩;have e1:xN (xs.map iF) (Int.toNat ((i+c:Nat):Int)) 1=some [iF x]:=by have:=fS hx;rw [Nat.mul_one] at this;exact this
   refine qU ?_;intros;refine qe rfl (fun hl2=>?_) (fun hl2=>?_)
   ·have hxh:x<=high:=by simpa using hl2
    refine qb ?_;intros;refine qV rfl rfl rfl (qH _ hTc) ⟨rfl,rfl,_,rfl,rfl⟩ oM oM (by decide) rfl ?_;refine qb ?_;intros;have hD:(((xs.drop i).take c).map fun x=>(x,y)).flatMap qh++[iF x,.c (.int .i64 y)]=(((xs.drop i).take (c+1)).map fun x=>(x,y)).flatMap qh:=by
     rw [List.take_add_one,List.getElem?_drop,hx];simp [qh,iF]
    refine⟨N-(i+(c+1)),oM,_,_,_,[(7,9)],?wk1,c+1,oM,rfl,fun k z h1 h2 hz=>?_,rfl,rfl,rfl⟩
    case wk1=>exact⟨za,⟨congrArg (fun z=>some (Bk.data z)) hD,rfl,rfl,rfl,rfl,rfl,sI (eF _ R i0 y _) (cH rfl y R i0) rfl rfl rfl rfl rfl rfl oM⟩,rfl,rfl⟩
    rcases Nat.lt_or_ge k (i+c) with h|h
    ·exact hle k z h1 h hz
    ·obtain rfl:k=i+c:=by omega
     rw [hx] at hz;obtain rfl:=zsi hz;exact hxh
   ·have hxh:high<x:=by simpa using hl2
    refine ja ?_;refine qr (E0:=[(0,.int y),(2,.int high),(3,.one (.ptr 1 0)),(4,.one (.ptr 2 0)),(9,.one (.own 6 0 N 1)),(10,.int i),(12,.int (i+c:Nat)),(13,.one (.own 7 0 c 2))]) (qd (k:=0) rfl (qd (k:=2) rfl (qd (k:=3) rfl (qd (k:=4) rfl (qd (k:=9) rfl (qd (k:=10) rfl (qd (k:=12) rfl (qd (k:=13) rfl (qu _))))))))) (zH _) (fin fun k z hk hz=>?_);rcases Nat.lt_or_ge (i+c) k with h|h
    ·have:=hasc (i+c) k x z h hx hz;omega
    ·obtain rfl:k=i+c:=by omega
     rw [hx] at hz;obtain rfl:=zsi hz;exact hxh
  ·have g1:decide (((i+c:Nat):Int)<N)=false:=decide_eq_false oM;refine qU ?_;intros;refine qe rfl (fun h=>by cases h) (fun _=>?_);refine ja ?_;refine qr (E0:=[(0,.int y),(2,.int high),(3,.one (.ptr 1 0)),(4,.one (.ptr 2 0)),(9,.one (.own 6 0 N 1)),(10,.int i),(12,.int (i+c:Nat)),(13,.one (.own 7 0 c 2))]) (qd (k:=0) rfl (qd (k:=2) rfl (qd (k:=3) rfl (qd (k:=4) rfl (qd (k:=9) rfl (qd (k:=10) rfl (qd (k:=12) rfl (qd (k:=13) rfl (qu _))))))))) (zH _) (fin fun k z hk hz=>?_);have:=(zgs hz).1;omega
 ·have hn:∀e∈R,e.1≠y:=fun e he h=>hy (by
   obtain⟨i,hi⟩:=List.getElem?_of_mem he;exact⟨i,e.2,by rw [hi,<-h]⟩)
  obtain⟨ht,hlf⟩:=Vj (low:=low) (high:=high) hn;rw [ht,hlf];refine qb ?_;intros;refine eW rfl rfl rfl (fun e he=>?_) rfl ?_
  ·simp only [xE,List.mem_map] at he;obtain⟨e',he',rfl⟩:=he;exact hn e' he'
  refine qb ?_;intros;refine qk rfl rfl DW ?_;rintro _ ⟨bb,rfl⟩;refine qb ?_;intros;refine ql (fun m E S nk=>E=[(9,.one (.f (.c .nils))),(10,.int 0),(12,.int 0),(13,.one (.f (.c .nils)))]/\S=SS R left A B a b/\nk=6) ⟨0,_,_,_,[],?wk,rfl,rfl,rfl⟩ ?_
  case wk=>exact⟨za,sJ rfl rfl rfl rfl rfl rfl oM,rfl,rfl⟩
  rintro m E S nk ⟨rfl,rfl,rfl⟩;refine qb ?_;intros;refine qe rfl (fun h=>by cases h) (fun _=>?_);refine qb ?_;intros;refine qe rfl (fun h=>by cases h) (fun _=>?_);refine qb ?_;intros;refine vB 8 2 rfl ?_;refine Jv [(7,6)] (n0:=8) (E0:=[(8,.one (.own 7 0 0 2))]) (S0:=(7,.data [])::SS R left A B a b) ?wk2 ?_
  case wk2=>exact⟨za,⟨rfl,rfl,rfl,sJ rfl rfl rfl rfl rfl rfl oM⟩,rfl,rfl⟩
  exact qf ⟨_,rfl,rfl,_,zH _,by simp,by simp,rfl⟩
theorem bD(p q:qc):0<=xz p q:=by simp only [xz];omega
theorem VI(p q:qc):xz p q=xz q p:=by simp only [xz];omega
theorem GJ(p q:qc):xz p q=0↔p=q:=by
 obtain⟨p1,p2⟩:=p;obtain⟨q1,q2⟩:=q;simp only [xz,zpi];omega
theorem VC{a b:List qc}{z:Int}:z∈yU a b↔∃x∈a,∃y∈b,xz x y=z:=by simp [yU]
theorem Yo{a b:List qc}(ha:a≠[])(hb:b≠[]):(∃x∈a,∃y∈b,xz x y=xZ a b)/\∀x∈a,∀y∈b,xZ a b<=xz x y:=by
 obtain⟨p,a',rfl⟩:=List.exists_cons_of_ne_nil ha;obtain⟨q,b',rfl⟩:=List.exists_cons_of_ne_nil hb;have hd:xZ (p::a') (q::b')=(yU (p::a') (q::b')).foldl min (xz p q):=rfl;refine⟨?_,fun x hx y hy=>?_⟩
 ·rcases JS (yU (p::a') (q::b')) (xz p q) with h|h
  ·exact⟨p,by simp,q,by simp,by rw [hd,h]⟩
  ·exact VC.1 (hd▸h)
 ·rw [hd];exact (WK _ _).2 _ (VC.2 ⟨x,hx,y,hy,rfl⟩)
theorem Yp(a b:List qc):xZ a b=xZ b a:=by
 by_cases ha:a=[]
 ·subst ha;cases b<;>rfl
 ·by_cases hb:b=[]
  ·subst hb;cases a<;>rfl
  ·obtain⟨⟨x,hx,y,hy,h⟩,h1⟩:=Yo ha hb;obtain⟨⟨x',hx',y',hy',h'⟩,h2⟩:=Yo hb ha;have g1:=h1 y' hy' x' hx';have g2:=h2 y hy x hx;rw [VI] at g1 g2;omega
end Go.Ag

namespace Go.Ag
open Go.Ab
inductive Conn (gap:Int) (rest:List qc) (p:qc):qc->Prop
 |base:p∈rest->Conn gap rest p p
 |step {x y:qc}:Conn gap rest p x->y∈rest->xz x y<=gap->Conn gap rest p y
def minus(l c:List qc):List qc:=l.filter fun x=>!decide (x∈c)
theorem yo{l c:List qc}{x:qc}:x∈minus l c↔x∈l/\x∉c:=by simp [minus]
inductive ClS (gap:Int):List qc->List (List qc)->Prop
 |nil:ClS gap [] []
 |cons {p:qc} {r c:List qc} {cs:List (List qc)}:qK c->(∀x,x∈c↔Conn gap (p::r) p x)->ClS gap (minus (p::r) c) cs->ClS gap (p::r) (c::cs)
theorem ClS.uniq{gap:Int}{l:List qc}{a b:List (List qc)}(ha:ClS gap l a)(hb:ClS gap l b):a=b:=by
 induction ha generalizing b with
 |nil=>cases hb;rfl
 |cons h1 h2 h3 ih=>
  cases hb with
  |cons g1 g2 g3=>
   have e:=qK.ext h1 g1 fun p=>(h2 p).trans (g2 p).symm;subst e;rw [ih g3]
theorem Conn.mem{gap:Int}{rest:List qc}{p x:qc}(h:Conn gap rest p x):x∈rest:=by
 cases h with
 |base h=>exact h
 |step _ h _=>exact h
theorem Vd{gap:Int}{rest one:List qc}{p:qc}(hp:p∈one)(hc:∀x∈one,Conn gap rest p x)(hcl:∀x∈one,∀y∈rest,xz x y<=gap->y∈one)(x:qc):x∈one↔Conn gap rest p x:=by
 constructor
 ·exact hc x
 ·intro h;induction h with
  |base _=>exact hp
  |step _ h2 h3 ih=>exact hcl _ ih _ h2 h3
theorem qK.filter{l:List qc}(h:qK l)(f:qc->Bool):qK (l.filter f):=List.Pairwise.filter f h
theorem qK.minus{l:List qc}(h:qK l)(c:List qc):qK (minus l c):=h.filter _
theorem qK.nodup{l:List qc}(h:qK l):l.Nodup:=by
 refine List.Pairwise.imp ?_ h;intro a b hab e;subst e;exact jD hab
theorem Yg{p:qc}{r c:List qc}(hp:p∈c):(minus (p::r) c).length<=r.length:=by
 unfold minus;rw [List.filter_cons,if_neg (by simp [hp])];exact List.length_filter_le _ _
theorem wC:∀{a b:List qc},a.Nodup->(∀x∈a,x∈b)->a.length<=b.length
 |[],b,_,_=>Nat.zero_le _
 |x::a,b,hn,h=>by
  rw [List.nodup_cons] at hn;have hx:=h x (by simp);have:=wC (a:=a) (b:=b.erase x) hn.2 fun y hy=>by
   rw [List.mem_erase_of_ne (fun e=>hn.1 (by rw [<-e];exact hy))];exact h y (by simp [hy])
  rw [List.length_erase_of_mem hx] at this;have hpos:0<b.length:=List.length_pos_of_mem hx;simp only [List.length_cons];omega
theorem mZ{one:List qc}(h:one≠[])(y:qc){gap:Int}:xZ one [y]<=gap↔∃x∈one,xz x y<=gap:=by
 obtain⟨⟨x,hx,z,hz,he⟩,h2⟩:=Yo h (b:=[y]) (by simp);simp only [List.mem_singleton] at hz;subst hz;constructor
 ·intro hg;exact⟨x,hx,oM⟩
 ·rintro ⟨w,hw,hg⟩;have:=h2 w hw z (by simp);omega
end Go.Ag

namespace Go.Ag
open Go.Ab Go.Proofs
theorem uL:DK 83 [Kr] fun d=>d=Kr:=by
 refine qD HU rfl qX fun Z0 lo=>?_;refine qb ?_;intros;refine qe rfl (fun _=>?_) (fun h=>by cases h);refine qb ?_;intros;exact qf ⟨_,rfl,rfl,rfl⟩
theorem J9{l:List qc}(h:qK l):qt l=l:=qK.ext (xi l) h fun p=>qP
theorem V9{α:Type}:∀(cs l:List α) (i:Nat),(setLs l i cs).take i=l.take i
 |[],_,_=>rfl
 |c::cs,l,i=>by
  simp only [setLs];have h:=V9 cs (l.set i c) (i+1);have h2:=congrArg (List.take i) h;rw [List.take_take,List.take_take,Nat.min_eq_left (by omega)] at h2;rw [h2,List.take_set_of_le (Nat.le_refl i)]
theorem hX:∀(l:List qc) (i:Nat) (x:qc),setLs (l.flatMap qh) (i*2) (qh x)=(l.set i x).flatMap qh
 |[],i,x=>by simp [setLs,qh]
 |y::l,0,x=>by simp [setLs,qh]
 |y::l,i+1,x=>by
  have:=hX l i x;simp only [setLs,qh] at this;simp only [List.flatMap_cons,List.set_cons_succ,setLs,qh];rw [show (i+1)*2=i*2+1+1 by omega];simp only [List.cons_append,List.nil_append,List.set_cons_succ];rw [<-this]
theorem BE(l:List qc)(i:Nat)(x:qc):Zb (.data (l.flatMap qh)) (i*2) [.f (.c (.int .i64 x.1)),.f (.c (.int .i64 x.2))]=.data ((l.set i x).flatMap qh):=congrArg Bk.data (hX l i x)
theorem Xw.step{l:List qc}(hs:Xw l){i j:Nat}{x y:qc}(hi:l[i]?=some x)(hj:l[j]?=some y)(hij:i<j)(hne:y≠x):xp x y=true:=Kb (by rw [hs i j x y hi hj hij];decide) (fun e=>hne e)
theorem qK.snoc{c:List qc}(h:qK c){y x:qc}(hl:c.getLast?=some y)(hb:xp y x=true):qK (c++[x]):=by
 rw [qK,List.pairwise_append];refine⟨h,by simp,fun a ha b hb'=>?_⟩;simp only [List.mem_singleton] at hb';subst hb';obtain⟨i,hi⟩:=List.getElem?_of_mem ha;rw [List.getLast?_eq_getElem?] at hl;have h1:=(zgs hi).1;have h2:=(zgs hl).1;by_cases e:i=c.length-1
 ·subst e;rw [hi] at hl;rw [zsi hl];exact hb
 ·have:=List.pairwise_iff_getElem.1 h i (c.length-1) h1 h2 oM;rw [(zgs hi).2,(zgs hl).2] at this;exact wP this hb
theorem uC{l:List qc}(hs:Xw l)(hp:0<l.length)(hb:l.length<1000000):Z4 83 [.one (.own 0 0 l.length 2)] [(0,.data (l.flatMap qh))] 1 fun d S nk=>nk=1/\d=.one (.own 0 0 (qt l).length 2)/\∃rest,S=[(0,.data ((qt l).flatMap qh++rest))]:=by
 refine va HU rfl fun Z β H lo=>?_;obtain⟨n,hn⟩:∃n,l.length=n:=⟨_,rfl⟩;have hflat:=xb l;rw [hn];refine qb ?_;intros;refine qe rfl (fun ht=>?_) (fun ht=>?_)
 ·simp at ht;obtain⟨x,rfl⟩:∃x,l=[x]:=by
   match l,hn,hp with
   |[x],_,_=>exact⟨x,rfl⟩
   |x::y::l,hn,_=>simp at hn;omega
  simp at hn;subst hn;have hso:qt [x]=[x]:=J9 (by simp);rw [hso];refine qb ?_;intros;exact qf ⟨_,rfl,rfl,_,zH _,rfl,rfl,[],by simp⟩
 ·simp at ht;refine qb ?_;intros;refine ql (fun m E S nk=>∃k:Nat,1<=k/\k<=n/\m=n-k/\qK (l.take k)/\E=[(0,.one (.own 0 0 n 2)),(3,.int k)]/\S=[(0,.data (l.flatMap qh))]/\nk=1) ⟨n-1,_,_,_,[],?wk,1,oM,oM,rfl,?h1,rfl,rfl,rfl⟩ ?_
  case wk=>exact qm
  case h1=>
   cases l with
   |nil=>simp at hp
   |cons x l=>simp
  rintro m E S nk ⟨k,hk1,hkn,hm,hro,rfl,rfl,rfl⟩;refine qb ?_;intros;refine qe rfl (fun ht2=>?_) (fun ht2=>?_)
  ·simp at ht2;obtain⟨j,rfl⟩:∃j,k=j+1:=⟨k-1,oM⟩;obtain⟨x,hx⟩:∃x,l[j+1]?=some x:=⟨_,zge oM⟩;obtain⟨y,hy⟩:∃y,l[j]?=some y:=⟨_,zge oM⟩;have e1:xN (l.flatMap qh) (Int.toNat ((j+1:Nat):Int)*2) 2=some (qh x):=xd hx;have e2:xN (l.flatMap qh) (Int.toNat ((j:Nat):Int)*2) 2=some (qh y):=xd hy;refine qb ?_;intros;rw [show IntKind.i64.wrap (((j+1:Nat):Int)-1)=(j:Nat) by rw [qq (by omega) (by omega)];omega];refine qb ?_;intros;refine zJ (vd (p:=x) (q:=y) rfl rfl) ?_;refine qb ?_;intros;refine qe rfl (fun he=>?_) (fun he=>?_)
   ·have hxy:x=y:=by simpa using he
    subst hxy;refine qb ?_;intros;refine YT (o':=(j+1)*2) (n':=n-(j+1)) rfl rfl rfl oM oM oM rfl ?_;refine qb ?_;intros;refine ql (fun m E S nk=>∃(w k2:Nat) (cur:List qc),1<=k2/\j+1+k2<=n/\m=n-(j+1+k2)/\j+1<=w/\w<=j+k2/\cur.length=n/\qK (cur.take w)/\(∀p,p∈cur.take w↔p∈l.take (j+1+k2))/\(∀i,j+k2<=i->cur[i]?=l[i]?)/\cur[w-1]?=l[j+k2]?/\E=[(0,.one (.own 0 0 n 2)),(3,.int w),(4,.one (.own 0 ((j+1)*2) (n-(j+1)) 2)),(5,.int k2)]/\S=[(0,.data (cur.flatMap qh))]/\nk=1) ⟨n-(j+1+1),_,_,_,[],?wk1,j+1,1,l,by omega,by omega,rfl,by omega,by omega,hn,hro,fun p=>?hm1,fun i _=>rfl,by rw [Nat.add_sub_cancel,hx,hy],rfl,rfl,rfl⟩ ?_
    case wk1=>exact qm
    case hm1=>
     rw [List.take_add_one (i:=j+1),hx,List.mem_append];simp only [Option.toList_some,List.mem_singleton];refine⟨.inl,fun h=>h.elim id fun e=>?_⟩;subst e;rw [List.take_add_one,hy];simp
    rintro m E S nk ⟨w,k2,cur,hk2,hkn2,hm2,hw1,hw2,hcl,hcr,hcm,hcu,hla,rfl,rfl,rfl⟩;have hcf:=xb cur;refine qb ?_;intros;refine qe rfl (fun ht3=>?_) (fun ht3=>?_)
    ·simp at ht3;obtain⟨i,rfl⟩:∃i,k2=i+1:=⟨k2-1,oM⟩;obtain⟨a,ha⟩:∃a,l[j+1+(i+1)]?=some a:=⟨_,zge oM⟩;obtain⟨b,hb2⟩:∃b,l[j+(i+1)]?=some b:=⟨_,zge oM⟩;have ha':cur[j+1+(i+1)]?=some a:=by rw [hcu _ (by omega)];exact ha
     have hb':cur[j+1+i]?=some b:=by rw [hcu _ (by omega),<-hb2];congr 1;omega
     have e3:xN (cur.flatMap qh) ((j+1)*2+Int.toNat ((i+1:Nat):Int)*2) 2=some (qh a):=by
      have:=xd ha'
      rwa [Nat.add_mul] at this
     have e4:xN (cur.flatMap qh) ((j+1)*2+Int.toNat ((i:Nat):Int)*2) 2=some (qh b):=by
      have:=xd hb'
      rwa [Nat.add_mul] at this
     refine qb ?_;intros;refine bN rfl rfl oM oM ?_;refine qb ?_;intros;rw [show IntKind.i64.wrap (((i+1:Nat):Int)-1)=(i:Nat) by rw [qq (by omega) (by omega)];omega];refine bN rfl rfl oM oM ?_;refine qb ?_;intros;refine zJ (vd (neg:=true) (p:=a) (q:=b) rfl rfl) ?_;refine qb ?_;intros;refine qe rfl (fun hne=>?_) (fun heq=>?_)
     ·have hab:a≠b:=by simpa using hne
      have hba:xp b a=true:=hs.step hb2 ha oM hab;refine qb ?_;intros;refine bN rfl rfl oM oM ?_;refine qb ?_;intros;refine Qg rfl rfl rfl rfl rfl ?hle rfl ?_
      case hle=>show Int.toNat (w:Int)*2+2<=(cur.flatMap qh).length;rw [hcf];simp;omega
      rw [Int.toNat_natCast w,show Zb (.data (cur.flatMap qh)) (w*2) (List.map DC.f (qh a))=.data ((cur.set w a).flatMap qh) from BE cur w a];refine qb ?_;intros;have htk:(cur.set w a).take (w+1)=cur.take w++[a]:=by
       rw [List.take_add_one,List.take_set_of_le (Nat.le_refl w),List.getElem?_set_self (by omega)];rfl
      refine⟨n-(j+1+(i+1+1)),by omega,_,_,_,[],?wk2,w+1,i+1+1,cur.set w a,by omega,by omega,rfl,by omega,by omega,by simpa using hcl,?hr,fun p=>?hm2,fun q hq=>?hu,?hl,rfl,rfl,rfl⟩
      case wk2=>exact qm
      case hr=>
       rw [htk];refine hcr.snoc (y:=b) ?_ hba;rw [List.getLast?_eq_getElem?,List.length_take,Nat.min_eq_left (by omega),List.getElem?_take,if_pos (by omega),hla];exact hb2
      case hm2=>
       rw [htk,List.mem_append,hcm,show j+1+(i+1+1)=j+1+(i+1)+1 by omega,List.take_add_one,ha,List.mem_append];simp
      case hu=>rw [List.getElem?_set_ne (by omega),hcu q (by omega)]
      case hl=>rw [Nat.add_sub_cancel,List.getElem?_set_self (by omega),<-ha];congr 1;omega
     ·have hab:a=b:=by simpa using heq
      subst hab;refine qb ?_;intros;refine⟨n-(j+1+(i+1+1)),oM,_,_,_,[],?wk3,w,i+1+1,cur,oM,oM,rfl,oM,oM,hcl,hcr,fun p=>?hm3,fun q hq=>hcu q oM,?hl3,rfl,rfl,rfl⟩
      case wk3=>exact qm
      case hm3=>
       rw [hcm,show j+1+(i+1+1)=j+1+(i+1)+1 by omega,List.take_add_one (i:=j+1+(i+1)),ha,List.mem_append];simp only [Option.toList_some,List.mem_singleton];refine⟨.inl,fun h=>h.elim id fun e=>?_⟩;subst e;refine zmg (i:=j+(i+1)) ?_;rw [List.getElem?_take,if_pos (by omega)];exact hb2
      case hl3=>rw [hla,hb2,<-ha];congr 1;omega
    ·simp at ht3;have hk:j+1+k2=n:=by omega
     have hso:qt l=cur.take w:=qK.ext (xi l) hcr fun p=>by
      rw [qP,hcm,hk,List.take_of_length_le (by omega)]
     refine qb ?_;intros;refine YT (o':=w*2) (n':=n-w) rfl rfl rfl oM oM oM rfl ?_;refine qak (zf:=[.c (.int .i64 0),.c (.int .i64 0)]) rfl rfl ?hle ⟨rfl,rfl,rfl,rfl,trivial⟩ rfl (by decide) oM rfl ?_
     case hle=>rw [hcf];omega
     refine qb ?_;intros;refine YT (o':=0) (n':=w) rfl rfl rfl oM oM oM rfl ?_;refine qb ?_;intros;have hwl:(qt l).length=w:=by rw [hso,List.length_take];omega
     rw [hwl];refine qf ⟨_,rfl,rfl,_,qd (k:=0) rfl (qu _),rfl,rfl,(setLs (cur.flatMap qh) (w*2) (yY [.c (.int .i64 0),.c (.int .i64 0)] (n-w))).drop (w*2),?_⟩;have h1:(qt l).flatMap qh=(setLs (cur.flatMap qh) (w*2) (yY [.c (.int .i64 0),.c (.int .i64 0)] (n-w))).take (w*2):=by
      rw [V9,hso];have hsp:cur.flatMap qh=(cur.take w).flatMap qh++(cur.drop w).flatMap qh:=by rw [<-List.flatMap_append,List.take_append_drop]
      have hl2:((cur.take w).flatMap qh).length=w*2:=by rw [xb,List.length_take];omega
      rw [hsp,<-hl2,List.take_left]
     rw [h1,List.take_append_drop]
   ·have hxy:x≠y:=by simpa using he
    have hyx:xp y x=true:=hs.step hy hx oM hxy;refine qb ?_;intros;refine⟨n-(j+1+1),oM,_,_,_,[],?wk5,j+1+1,oM,oM,rfl,?hr5,rfl,rfl,rfl⟩
    case wk5=>exact qm
    case hr5=>
     rw [List.take_add_one,hx];refine hro.snoc (y:=y) ?_ hyx;rw [List.getLast?_eq_getElem?,List.length_take,Nat.min_eq_left (by omega),List.getElem?_take,if_pos (by omega),Nat.add_sub_cancel];exact hy
  ·simp at ht2;obtain rfl:k=n:=by omega
   rw [List.take_of_length_le (by omega)] at hro;rw [J9 hro,hn];refine qb ?_;intros;exact qf ⟨_,rfl,rfl,_,zH _,rfl,rfl,[],by simp⟩
end Go.Ag

namespace Go.Ag
open Go.Ab
def n3(R:xT)(p:qc):Prop:=∃e∈R,e.1=p.2/\p.1∈e.2
structure RowsS (R:xT):Prop where
 nd:(R.map (·.1)).Nodup
 str:∀e∈R,e.2.Pairwise (·<·)
 len:∀e∈R,e.2.length<1000000
theorem RowsS.ok{R:xT}(h:RowsS R):RowsOk R:=⟨h.nd,fun e he i j x y hij hi hj=>by
 obtain⟨hi',hi2⟩:=zgs hi;obtain⟨hj',hj2⟩:=zgs hj;have:=List.pairwise_iff_getElem.1 (h.str e he) i j hi' hj' hij;omega,h.len⟩
theorem RowsS.nil:RowsS []:=⟨by simp,by simp,by simp⟩
theorem RowsS.lft{R:xT}(h:RowsS R)(y low high:Int):RowsS (lft R y low high):=by
 refine⟨?_,fun e he=>?_,fun e he=>?_⟩
 ·have:(Ag.lft R y low high).map (·.1)=R.map (·.1):=by unfold Ag.lft;rw [List.map_map];rfl
  rw [this];exact h.nd
 ·simp only [Ag.lft,List.mem_map] at he;obtain⟨e',he',rfl⟩:=he;simp only;split
  ·exact (h.str e' he').filter _
  ·exact h.str e' he'
 ·simp only [Ag.lft,List.mem_map] at he;obtain⟨e',he',rfl⟩:=he;have:=h.len e' he';simp only;split
  ·exact Nat.lt_of_le_of_lt (List.length_filter_le _ _) this
  ·exact this
def Kz(y low high:Int)(p:qc):Prop:=p.2=y/\low<=p.1/\p.1<=high
theorem NV{R:xT}{y low high:Int}{p:qc}:p∈jZ R y low high↔n3 R p/\Kz y low high p:=by
 simp only [jZ,List.mem_flatMap,List.mem_filter,List.mem_map,xQ,n3,Kz,k7,xr];constructor
 ·rintro ⟨e,⟨he,hy⟩,x,⟨hx,h1,h2⟩,rfl⟩;exact⟨⟨e,he,hy,hx⟩,rfl,h1,h2⟩
 ·rintro ⟨⟨e,he,h1,h2⟩,h3,h4,h5⟩;exact⟨e,⟨he,by rw [h1,h3]⟩,p.1,⟨h2,h4,h5⟩,by rw [<-h3]⟩
theorem UG{R:xT}{y low high:Int}{p:qc}(h:(R.map (·.1)).Nodup):n3 (lft R y low high) p↔n3 R p/\¬Kz y low high p:=by
 simp only [lft,n3,List.mem_map,Kz];constructor
 ·rintro ⟨e,⟨e',he',rfl⟩,h1,h2⟩;simp only at h1 h2;split at h2
  ·rename_i hy;simp only [List.mem_filter,k7,Bool.not_eq_true',Bool.and_eq_false_iff,decide_eq_false_iff_not] at h2;refine⟨⟨e',he',h1,h2.1⟩,?_⟩;rintro ⟨_,h3,h4⟩;rcases h2.2 with h|h
   ·exact h h3
   ·exact h h4
  ·rename_i hy;refine⟨⟨e',he',h1,h2⟩,?_⟩;rintro ⟨h3,_⟩;exact hy (by rw [h1,h3])
 ·rintro ⟨⟨e,he,h1,h2⟩,h3⟩;refine⟨_,⟨e,he,rfl⟩,h1,?_⟩;simp only;split
  ·rename_i hy;simp only [List.mem_filter,k7,Bool.not_eq_true',Bool.and_eq_false_iff,decide_eq_false_iff_not];refine⟨h2,?_⟩;by_cases h4:low<=p.1
   ·right;intro h5;exact h3 ⟨by rw [<-h1,hy],h4,h5⟩
   ·left;exact h4
  ·exact h2
theorem dR{R:xT}(h:RowsS R)(y low high:Int):(jZ R y low high).Nodup:=by
 by_cases hy:∃(i:Nat) (xs:List Int),R[i]?=some (y,xs)
 ·obtain⟨i,xs,hi⟩:=hy;obtain⟨t1,_⟩:=gP (low:=low) (high:=high) h.nd hi;rw [t1];have hs:=h.str _ (zmg hi);have:(xs.filter (k7 low high)).Pairwise (·<·):=hs.filter _;have h2:(xs.filter (k7 low high)).Nodup:=List.Pairwise.imp (fun {a b} hab=>Int.ne_of_lt hab) this;rw [List.Nodup,List.pairwise_map];exact List.Pairwise.imp (fun {a b} hab e=>hab (by injection e)) h2
 ·have hn:∀e∈R,e.1≠y:=fun e he h=>hy (by
   obtain⟨i,hi⟩:=List.getElem?_of_mem he;exact⟨i,e.2,by rw [hi,<-h]⟩)
  rw [(Vj (low:=low) (high:=high) hn).1];exact List.nodup_nil
def vI(R:xT)(rest:List qc):Prop:=RowsS R/\∀p,n3 R p↔p∈rest
theorem lB{rest t:List qc}(hr:rest.Nodup)(ht:t.Nodup)(hs:∀x∈t,x∈rest):(minus rest t).length+t.length=rest.length:=by
 have h1:(minus rest t++t).Perm rest:=by
  refine (List.perm_ext_iff_of_nodup ?_ hr).2 fun x=>?_
  ·rw [List.nodup_append];refine⟨List.Pairwise.filter _ hr,ht,fun a ha b hb e=>?_⟩;subst e;exact (yo.1 ha).2 hb
  ·rw [List.mem_append,yo];constructor
   ·rintro (h|h)
    ·exact h.1
    ·exact hs x h
   ·intro h;by_cases hx:x∈t
    ·exact .inr hx
    ·exact .inl ⟨h,hx⟩
 have:=h1.length_eq;simpa using this
theorem vI.take{R:xT}{rest:List qc}(h:vI R rest)(hr:rest.Nodup)(y low high:Int):vI (lft R y low high) (minus rest (jZ R y low high))/\(jZ R y low high).Nodup/\(∀x,x∈jZ R y low high↔x∈rest/\Kz y low high x)/\(minus rest (jZ R y low high)).length+(jZ R y low high).length=rest.length:=by
 have hm:∀x,x∈jZ R y low high↔x∈rest/\Kz y low high x:=fun x=>by rw [NV,h.2]
 refine⟨⟨h.1.lft y low high,fun p=>?_⟩,dR h.1 y low high,hm,lB hr (dR h.1 y low high) fun x hx=>((hm x).1 hx).1⟩;rw [UG h.1.nd,yo,hm,h.2];constructor
 ·rintro ⟨a,b⟩;exact⟨a,fun c=>b c.2⟩
 ·rintro ⟨a,b⟩;exact⟨a,fun c=>b ⟨a,c⟩⟩
theorem only{t:List qc}{p:qc}(hn:t.Nodup)(h:∀x∈t,x=p):t=[]\/t=[p]:=by
 match t,hn,h with
 |[],_,_=>exact .inl rfl
 |[x],_,h=>right;rw [h x (by simp)]
 |x::y::t,hn,h=>
  rw [List.nodup_cons] at hn;have h1:=h x (by simp);have h2:=h y (by simp);exact absurd (by rw [h1,h2];simp) hn.1
theorem vI.set{R:xT}{rest:List qc}(h:vI R rest){i:Nat}{x y:Int}{xs:List Int}(hi:R[i]?=some (y,xs))(hlt:∀z∈xs,z<x)(hl:xs.length+1<1000000):vI (R.set i (y,xs++[x])) (rest++[(x,y)]):=by
 have hil:i<R.length:=(zgs hi).1;have hmem:(y,xs)∈R:=zmg hi;refine⟨⟨?_,fun e he=>?_,fun e he=>?_⟩,fun p=>?_⟩
 ·have:(R.set i (y,xs++[x])).map (·.1)=R.map (·.1):=by
   rw [List.map_set];apply List.ext_getElem?;intro j;rw [List.getElem?_set];split
   ·rename_i e;subst e;have:=(zgs hi).2;simp [hil,this]
   ·rfl
  rw [this];exact h.1.nd
 ·rcases List.mem_or_eq_of_mem_set he with h'|h'
  ·exact h.1.str e h'
  ·subst h';simp only;rw [List.pairwise_append];exact⟨h.1.str _ hmem,by simp,fun a ha b hb=>by simp at hb;subst hb;exact hlt a ha⟩
 ·rcases List.mem_or_eq_of_mem_set he with h'|h'
  ·exact h.1.len e h'
  ·subst h';simpa using hl
 ·have hset:∀e,e∈R.set i (y,xs++[x])↔e=(y,xs++[x])\/(e∈R/\e.1≠y):=by
   intro e;constructor
   ·intro he;obtain⟨j,hj⟩:=List.getElem?_of_mem he;rw [List.getElem?_set] at hj;split at hj
    ·left;exact (zsi (by simpa [hil] using hj)).symm
    ·rename_i hne;right;refine⟨zmg hj,fun hy=>hne ?_⟩;have hjl:j<R.length:=(zgs hj).1;have k1:(R.map (·.1))[j]?=some y:=by simp [hj,hy]
     have k2:(R.map (·.1))[i]?=some y:=by simp [hi]
     exact (List.getElem?_inj (by simpa using hil) h.1.nd).1 (k2.trans k1.symm)
   ·rintro (rfl|⟨he,hne⟩)
    ·exact List.mem_iff_getElem?.2 ⟨i,by rw [List.getElem?_set_self hil]⟩
    ·obtain⟨j,hj⟩:=List.getElem?_of_mem he;refine List.mem_iff_getElem?.2 ⟨j,?_⟩;rw [List.getElem?_set_ne (fun e=>hne ?_)]
     ·exact hj
     ·subst e;rw [hi] at hj;rw [<-zsi hj]
  rw [List.mem_append,List.mem_singleton,<-h.2];constructor
  ·rintro ⟨e,he,h1,h2⟩;rcases (hset e).1 he with rfl|⟨he',hne⟩
   ·simp only at h1 h2;rcases List.mem_append.1 h2 with h3|h3
    ·exact .inl ⟨_,hmem,h1,h3⟩
    ·right;simp at h3;exact Prod.ext h3 h1.symm
   ·exact .inl ⟨e,he',h1,h2⟩
  ·rintro (⟨e,he,h1,h2⟩|rfl)
   ·by_cases hy:e.1=y
    ·have:e=(y,xs):=by
      obtain⟨j,hj⟩:=List.getElem?_of_mem he;have hjl:j<R.length:=(zgs hj).1;have k1:(R.map (·.1))[j]?=some y:=by simp [hj,hy]
      have k2:(R.map (·.1))[i]?=some y:=by simp [hi]
      have:=(List.getElem?_inj (by simpa using hil) h.1.nd).1 (k2.trans k1.symm);subst this;rw [hi] at hj;exact (zsi hj).symm
     subst this;exact⟨_,(hset _).2 (.inl rfl),h1,List.mem_append_left _ h2⟩
    ·exact⟨e,(hset e).2 (.inr ⟨he,hy⟩),h1,h2⟩
   ·exact⟨_,(hset _).2 (.inl rfl),rfl,by simp⟩
theorem vI.push{R:xT}{rest:List qc}(h:vI R rest){x y:Int}(hn:∀e∈R,e.1≠y):vI (R++[(y,[x])]) (rest++[(x,y)]):=by
 refine⟨⟨?_,fun e he=>?_,fun e he=>?_⟩,fun p=>?_⟩
 ·rw [List.map_append,List.nodup_append];refine⟨h.1.nd,by simp,fun a ha b hb e=>?_⟩;simp at hb;subst hb;subst e;obtain⟨e',he',h'⟩:=List.mem_map.1 ha;exact hn e' he' h'
 ·rcases List.mem_append.1 he with h'|h'
  ·exact h.1.str e h'
  ·simp at h';subst h';simp
 ·rcases List.mem_append.1 he with h'|h'
  ·exact h.1.len e h'
  ·simp at h';subst h';simp
 ·rw [List.mem_append,List.mem_singleton,<-h.2];constructor
  ·rintro ⟨e,he,h1,h2⟩;rcases List.mem_append.1 he with h'|h'
   ·exact .inl ⟨e,h',h1,h2⟩
   ·simp at h';subst h';simp at h1 h2;exact .inr (Prod.ext h2 h1.symm)
  ·rintro (⟨e,he,h1,h2⟩|rfl)
   ·exact⟨e,List.mem_append_left _ he,h1,h2⟩
   ·exact⟨(y,[x]),List.mem_append_right _ (by simp),rfl,by simp⟩
end Go.Ag

namespace Go.Ag
open Go.Ab Go.Proofs
def jT(o d:Int):Int:=if o<0\/d<o then d else o
theorem sB:∀(L:List Int) (o:Int),0<=o->(∀d∈L,0<=d)->L.foldl jT o=L.foldl min o
 |[],_,_,_=>rfl
 |d::L,o,ho,hL=>by
  have hd:=hL d (by simp);simp only [List.foldl_cons];have e:jT o d=min o d:=by unfold jT;split<;>omega
  rw [e];exact sB L (min o d) (by omega) fun x hx=>hL x (by simp [hx])
theorem IO(a b:List qc):(yU a b).foldl jT (-1)=xZ a b:=by
 by_cases ha:a=[]
 ·subst ha;simp [yU,xZ]
 ·by_cases hb:b=[]
  ·subst hb;obtain⟨p,a',rfl⟩:=List.exists_cons_of_ne_nil ha;have:∀l:List qc,yU l []=[]:=fun l=>by simp [yU]
   rw [this];rfl
  ·obtain⟨p,a',rfl⟩:=List.exists_cons_of_ne_nil ha;obtain⟨q,b',rfl⟩:=List.exists_cons_of_ne_nil hb;have hd:xZ (p::a') (q::b')=(yU (p::a') (q::b')).foldl min (xz p q):=rfl;have hnn:∀d∈yU (p::a') (q::b'),0<=d:=fun d hd=>by
    obtain⟨x,_,y,_,rfl⟩:=VC.1 hd;exact bD x y
   have hf:∃L,yU (p::a') (q::b')=xz p q::L:=⟨_,by simp [yU];rfl⟩;obtain⟨L,hL⟩:=hf;rw [hd];rw [hL] at hnn ⊢;simp only [List.foldl_cons];rw [show jT (-1) (xz p q)=xz p q by simp [jT],show min (xz p q) (xz p q)=xz p q by omega];exact sB L _ (bD p q) fun x hx=>hnn x (by simp [hx])
theorem kA{a b:List qc}(ha:Qc a)(hb:Qc b)(hn:a.length<1000000)(hm:b.length<1000000):DK 56 [qz a,qz b] fun d=>d=.int (xZ a b):=by
 refine qD qbl rfl qX fun Z0 lo=>?_;refine qb ?_;intros;refine ql (fun m E S nk=>∃k:Nat,k+m=a.length/\E=[(0,qz a),(1,qz b),(5,.int ((yU (a.take k) b).foldl jT (-1))),(6,.int k)]/\S=[]/\nk=0) ⟨a.length,_,_,_,[],?wk,0,oM,rfl,rfl,rfl⟩ ?_
 case wk=>exact qm
 rintro m E S nk ⟨k,hk,rfl,rfl,rfl⟩;refine qb ?_;intros;refine qe rfl (fun ht=>?_) (fun ht=>?_)
 ·simp at ht;obtain⟨p,hp⟩:∃q,a[k]?=some q:=⟨_,zge oM⟩;have e3:=xd hp;have hps:=ha p (zmg hp);refine qb ?_;intros;refine ql (fun m E S nk=>∃j:Nat,j+m=b.length/\E=[(0,qz a),(1,qz b),(5,.int (((b.take j).map (xz p)).foldl jT ((yU (a.take k) b).foldl jT (-1)))),(6,.int k),(7,.int j)]/\S=[]/\nk=0) ⟨b.length,_,_,_,[],?wk2,0,oM,rfl,rfl,rfl⟩ ?_
  case wk2=>exact qm
  rintro m2 E S nk ⟨j,hj,rfl,rfl,rfl⟩;refine qb ?_;intros;refine qe rfl (fun ht2=>?_) (fun ht2=>?_)
  ·simp at ht2;obtain⟨q,hq⟩:∃q,b[j]?=some q:=⟨_,zge oM⟩;have e4:=xd hq;have hqs:=hb q (zmg hq);have hD:((b.take (j+1)).map (xz p)).foldl jT ((yU (a.take k) b).foldl jT (-1))=jT (((b.take j).map (xz p)).foldl jT ((yU (a.take k) b).foldl jT (-1))) (xz p q):=by
    rw [List.take_add_one,hq];simp
   refine qb ?_;intros;refine qk rfl rfl (qo7 (p:=p) (q:=q) hps hqs) ?_;rintro _ rfl;generalize ((b.take j).map (xz p)).foldl jT ((yU (a.take k) b).foldl jT (-1))=o at *;refine qb ?_;intros;refine qe rfl (fun ht3=>?_) (fun ht3=>?_)
   ·have hc:jT o (xz p q)=xz p q:=by unfold jT;simp at ht3;rw [if_pos (by omega)]
    rw [hc] at hD;refine qb ?_;intros;refine⟨m2-1,oM,_,_,_,[],?wk3,j+1,oM,rfl,rfl,rfl⟩
    case wk3=>rw [hD];exact qm
   ·have hc:jT o (xz p q)=o:=by unfold jT;simp at ht3;rw [if_neg (by omega)]
    rw [hc] at hD;refine qb ?_;intros;refine⟨m2-1,oM,_,_,_,[],?wk3,j+1,oM,rfl,rfl,rfl⟩
    case wk3=>rw [hD];exact qm
  ·simp at ht2;obtain rfl:j=b.length:=by omega
   refine qb ?_;intros;have hD:((b.take b.length).map (xz p)).foldl jT ((yU (a.take k) b).foldl jT (-1))=(yU (a.take (k+1)) b).foldl jT (-1):=by
    rw [List.take_add_one,hp,List.take_length];simp [yU]
   rw [hD];refine⟨m-1,oM,_,_,_,[],?wk3,k+1,oM,rfl,rfl,rfl⟩
   case wk3=>exact qm
 ·simp at ht;obtain rfl:k=a.length:=by omega
  refine qb ?_;intros;refine qf ⟨_,rfl,rfl,?_⟩;rw [List.take_length,IO]
end Go.Ag
