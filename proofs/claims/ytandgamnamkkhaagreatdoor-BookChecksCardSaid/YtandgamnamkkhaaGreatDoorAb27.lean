/- -/
import Derived.Test.YtandgamnamkkhaaGreatDoorAb26
import Derived.Shelf.SlSortCmp.WholeK
set_option linter.unusedSimpArgs false
set_option maxHeartbeats 8000000
set_option linter.unusedVariables false
set_option maxRecDepth 8000
namespace Go.Proofs
open Go.Shelf
def Tryz.sortPt_ren:Go.Shelf.Ren:=⟨fun|6=>143|15=>189|14=>188|28=>238|29=>167|20=>230|21=>231|22=>232|23=>233|24=>234|25=>235|26=>236|27=>237|46=>249|47=>250|48=>251|49=>252|50=>253|57=>266|n=>n,fun|22=>69|24=>73|25=>208|3=>3|39=>167|0=>0|53=>228|55=>180|4=>4|46=>272|45=>271|50=>139|5=>5|9=>9|66=>286|70=>290|76=>300|77=>301|n=>n,fun|n=>n⟩
theorem Tryz.sortPt:Go.Proofs.SlLaysF0.n6 Tryz.prog Tryz.sortPt_ren:={
 mixed:=by kernel_rfl
 f6:=⟨Tryz.f143.name,by decide,Tryz.func143.trans (congrArg some (by kernel_rfl))⟩
 f14:=⟨Tryz.f188.name,by decide,Tryz.func188.trans (congrArg some (by kernel_rfl))⟩
 f15:=Tryz.func189.trans (congrArg some (by kernel_rfl))
 f20:=⟨Tryz.f230.name,by decide,Tryz.func230.trans (congrArg some (by kernel_rfl))⟩
 f21:=⟨Tryz.f231.name,by decide,Tryz.func231.trans (congrArg some (by kernel_rfl))⟩
 f22:=⟨Tryz.f232.name,by decide,Tryz.func232.trans (congrArg some (by kernel_rfl))⟩
 f23:=⟨Tryz.f233.name,by decide,Tryz.func233.trans (congrArg some (by kernel_rfl))⟩
 f24:=⟨Tryz.f234.name,by decide,Tryz.func234.trans (congrArg some (by kernel_rfl))⟩
 f25:=⟨Tryz.f235.name,by decide,Tryz.func235.trans (congrArg some (by kernel_rfl))⟩
 f26:=⟨Tryz.f236.name,by decide,Tryz.func236.trans (congrArg some (by kernel_rfl))⟩
 f27:=⟨Tryz.f237.name,by decide,Tryz.func237.trans (congrArg some (by kernel_rfl))⟩
 f28:=Tryz.func238.trans (congrArg some (by kernel_rfl))
 f29:=Tryz.func167.trans (congrArg some (by kernel_rfl))
 f46:=⟨Tryz.f249.name,by decide,Tryz.func249.trans (congrArg some (by kernel_rfl))⟩
 f47:=Tryz.func250.trans (congrArg some (by kernel_rfl))
 f48:=Tryz.func251.trans (congrArg some (by kernel_rfl))
 f49:=⟨Tryz.f252.name,by decide,Tryz.func252.trans (congrArg some (by kernel_rfl))⟩
 f50:=⟨Tryz.f253.name,by decide,Tryz.func253.trans (congrArg some (by kernel_rfl))⟩
 f57:=⟨Tryz.f266.name,by decide,Tryz.func266.trans (congrArg some (by kernel_rfl))⟩
 t0:=Tryz.underlying0
 a0:=Tryz.isAgg0
 z0:=Tryz.sizeOf0
 v0:=Tryz.zeroValue0
 t3:=Tryz.underlying3
 a3:=Tryz.isAgg3
 z3:=Tryz.sizeOf3
 v3:=Tryz.zeroValue3
 t4:=Tryz.underlying4
 a4:=Tryz.isAgg4
 z4:=Tryz.sizeOf4
 v4:=Tryz.zeroValue4
 t5:=Tryz.underlying5
 a5:=Tryz.isAgg5
 z5:=Tryz.sizeOf5
 v5:=Tryz.zeroValue5
 t9:=Tryz.underlying9
 a9:=Tryz.isAgg9
 z9:=Tryz.sizeOf9
 v9:=Tryz.zeroValue9
 t22:=Tryz.underlying69
 a22:=Tryz.isAgg69
 z22:=Tryz.sizeOf69
 v22:=Tryz.zeroValue69
 t25:=Tryz.underlying208
 a25:=Tryz.isAgg208
 z25:=Tryz.sizeOf208
 v25:=Tryz.zeroValue208
 t39:=Tryz.underlying167
 a39:=Tryz.isAgg167
 z39:=Tryz.sizeOf167
 v39:=Tryz.zeroValue167
 t45:=Tryz.underlying271
 a45:=Tryz.isAgg271
 z45:=Tryz.sizeOf271
 v45:=Tryz.zeroValue271
 t46:=Tryz.underlying272
 a46:=Tryz.isAgg272
 z46:=Tryz.sizeOf272
 v46:=Tryz.zeroValue272
 t50:=Tryz.underlying139
 a50:=Tryz.isAgg139
 z50:=Tryz.sizeOf139
 v50:=Tryz.zeroValue139
 t53:=Tryz.underlying228
 a53:=Tryz.isAgg228
 z53:=Tryz.sizeOf228
 v53:=Tryz.zeroValue228
 t55:=Tryz.underlying180
 a55:=Tryz.isAgg180
 z55:=Tryz.sizeOf180
 v55:=Tryz.zeroValue180
 t66:=Tryz.underlying286
 a66:=Tryz.isAgg286
 z66:=Tryz.sizeOf286
 v66:=Tryz.zeroValue286
 t70:=Tryz.underlying290
 a70:=Tryz.isAgg290
 z70:=Tryz.sizeOf290
 v70:=Tryz.zeroValue290
 t76:=Tryz.underlying300
 a76:=Tryz.isAgg300
 z76:=Tryz.sizeOf300
 v76:=Tryz.zeroValue300
 t77:=Tryz.underlying301
 a77:=Tryz.isAgg301
 z77:=Tryz.sizeOf301
 v77:=Tryz.zeroValue301 }
end Go.Proofs

namespace Go.Ab
open Go.Sort Go.Proofs
section
variable{P:Program}{G:Nat}{μ μ':Nat->Pl}{K K':Nat->Prop}{H H':Hp}{w w':World}
theorem Rel.congr(hR:Rel G μ K H w)(h:∀b bk,H.get b=some bk->w'.heap[(μ b).blk]?=w.heap[(μ b).blk]?):Rel G μ K H w':=
 ⟨hR.dom,hR.lt,fun b bk hb=>by rw [h b bk hb];exact hR.blk b bk hb,hR.inj,hR.glob⟩
theorem Fr.quiet(h:Fr μ K H w μ' K' H' w')(hno:∀b bk,H.get b=some bk->bk.mut=false):∃q os',w'=Go.Sort.grow (w.drewN q) os':=by
 refine⟨w'.drawn-w.drawn,w'.heap.extract w.heap.size w'.heap.size,?_⟩;have hheap:w'.heap=w.heap++w'.heap.extract w.heap.size w'.heap.size:=by
  apply Array.ext_getElem?;intro i;by_cases hi:i<w.heap.size
  ·rw [Array.getElem?_append_left hi];exact h.keep i hi fun b bk hb hm=>by rw [hno b bk hb] at hm;cases hm
  ·have:=h.size;rw [Array.getElem?_append_right (by omega)];by_cases hj:i<w'.heap.size
   ·rw [Array.getElem?_extract];simp;rw [show w.heap.size+(i-w.heap.size)=i by omega];by_cases h2:i-w.heap.size<w'.heap.size-w.heap.size
    ·simp [h2]
    ·omega
   ·rw [Array.getElem?_eq_none (by omega),Array.getElem?_eq_none (by simp;omega)]
 obtain⟨h1,h2,h3,h4⟩:=h.same;obtain⟨hp,tp,dr,o,ou⟩:=w;obtain⟨hp',tp',dr',o',ou'⟩:=w';simp only [Go.Sort.grow,World.drewN] at *;subst h1 h2 h3;rw [<-hheap,show dr+(dr'-dr)=dr' by omega]
theorem qK.any{f:FuncId}{args:List V}{xs:List Value}{c:C}{x:Value}(h:qK P G f args ⟨.lf,G⟩ fun v _=>v=.one c)(hx:∀μ K,qe (RV μ K) args xs)(hc:∀μ K y,RV μ K (.one c) y->y=x)(W:World):Calls P f xs.toArray W fun e w'=>e=.returned x/\∃q os',w'=Go.Sort.grow (W.drewN q) os':=by
 have hn:∀b bk,(⟨.lf,G⟩:Hp).get b=some bk->False:=fun b bk hb=>by simp [Hp.get] at hb
 have hR:Rel G (fun b=>⟨b,0,0⟩) (fun b=>b<G) ⟨.lf,G⟩ W:=⟨fun b bk hb=>(hn b bk hb).elim,fun _ h=>h,fun b bk hb=>(hn b bk hb).elim,fun b _ bk _ hb=>(hn b bk hb).elim,fun g hg=>⟨hg,rfl,rfl⟩⟩;refine (h _ _ W xs hR (hx _ _)).mono ?_;rintro e w' ⟨y,rfl,v,H',μ',K',rfl,hy,_,hF⟩;exact⟨by rw [hc _ _ y hy],hF.quiet fun b bk hb=>(hn b bk hb).elim⟩
theorem Rel.putRow(P:Program)(hR:Rel G μ K H w){b o nb:Nat}{z:List C}{mm:T C}(hb:H.get b=some (.row nb z mm true)){l:List C}(hst:H.stores b o l=some H')(hin:o+l.length<=nb){F:Array Value}(hF:qe (RC μ K) l F.toList)(m:Nat)(os:Array Obj):
 Rel G μ K H' (Go.Sort.grow (Go.Sort.putRow id (Go.Sort.ahead w m) (μ b).blk ((μ b).off+o) F) os)/\Fr μ K H w μ K H' (Go.Sort.grow (Go.Sort.putRow id (Go.Sort.ahead w m) (μ b).blk ((μ b).off+o) F) os):=by
 obtain⟨cs,t,fz,h1,h2,h3,h4,h5⟩:=hR.blk b _ hb;obtain rfl:=h4 rfl;obtain⟨w1,hrun,hR1,hF1⟩:=Rel.stores (P:=P) (i:=0) (o:=o) hR (by simpa using hst) hF;have hFl:F.toList.length=l.length:=hF.len.symm;obtain⟨w2,cs',q1,q2,q3,q4,q5,q6,q7,q8,q9,_⟩:=QH (P:=P) (g:=(μ b).blk) (t:=t) (xs:=F.toList) (w:=w) (cs:=cs) (q:=(μ b).off+o) (i:=0) h1 hF.oneC oM;have hww:w1=w2:=by
  have e:(storeCells ((μ b).addr o) F.toList 0).run P w=.ok () w2:=q1;rw [hrun] at e;cases e;rfl
 subst hww;have hcs:cs'=putCells id ((μ b).off+o) F cs:=by
  apply Array.ext_getElem?;intro j;rw [q4 j];unfold putCells;rw [Array.getElem?_mapIdx];have hs:F.size=F.toList.length:=by simp
  split
  ·rename_i hj;have hj':j<cs.size:=by omega
   rw [Array.getElem?_eq_getElem hj'];simp only [Option.map_some];rw [if_pos (by omega)];have hk:j-((μ b).off+o+0)<F.size:=by omega
   rw [zge (by simpa using hk)];simp only [Nat.add_zero] at hk ⊢;simp [getElem!_pos,hk]
  ·rename_i hj;cases hcj:cs[j]? with
   |none=>rfl
   |some y=>
    simp only [Option.map_some];rw [if_neg (by omega)]
 have key:∀i,i<w.heap.size->(Go.Sort.grow (Go.Sort.putRow id (Go.Sort.ahead w m) (μ b).blk ((μ b).off+o) F) os).heap[i]?=w1.heap[i]?:=fun i hi=>by
  have hsz:(Go.Sort.putRow id (Go.Sort.ahead w m) (μ b).blk ((μ b).off+o) F).heap.size=w.heap.size:=by simp [Go.Sort.ahead]
  unfold Go.Sort.grow;simp only;rw [Array.getElem?_append_left (by rw [hsz];exact hi)];unfold Go.Sort.putRow mapBlock;simp only [Go.Sort.ahead];rw [Array.getElem?_modify];by_cases e:(μ b).blk=i
  ·subst e;rw [if_pos rfl,h1,q2,hcs];rfl
  ·rw [if_neg e,q5 i (fun h=>e h.symm)]
 have hsize:(Go.Sort.grow (Go.Sort.putRow id (Go.Sort.ahead w m) (μ b).blk ((μ b).off+o) F) os).heap.size=w.heap.size+os.size:=by simp [Go.Sort.grow,Go.Sort.ahead]
 refine⟨hR1.congr fun b' bk' hb'=>key _ (by have:=hR1.blk_lt hb';omega),?_⟩;exact⟨⟨rfl,rfl,rfl,by simp [Go.Sort.grow,Go.Sort.ahead]⟩,by omega,fun i hi hn=>(key i hi).trans (hF1.keep i hi hn),hF1.img,hF1.newmut,hF1.mu,hF1.kk,hF1.knew,hF1.nx,hF1.none,hF1.stay,hF1.ro⟩
end
end Go.Ab

namespace Go.Ah
open Go.Ab Go.Proofs
def wS(a b:qd):Int:=if qO a b=true then -1 else if a=b then 0 else 1
theorem e9:∀b bk,(⟨.lf,7⟩:Hp).get b=some bk->bk.ro=some bk:=fun b bk h=>by simp [Hp.get] at h
open Go.Shelf Go.RowKit Go.Lib Go.Sort
def zt(p:qd):List Value:=[.int .i64 p.1,.int .i64 p.2]
theorem sW(x:qd):qO x x=false:=by simp [qO]
theorem sX(x y:qd):qO x y=true↔x.2<y.2\/(x.2=y.2/\x.1<y.1):=by
 unfold qO;by_cases h1:x.2<y.2
 ·simp [h1]
 ·by_cases h2:x.2=y.2
  ·simp [h2]
  ·simp [h1,h2]
theorem cT(x y:qd):ltOf wS x y=qO x y:=by
 unfold ltOf wS;cases h:qO x y with
 |true=>simp
 |false=>
  simp only [Bool.false_eq_true,if_false];split<;>simp
theorem Gf:SWO (ltOf wS) where
 irrefl x:=by rw [cT,sW]
 trans x y z h1 h2:=by rw [cT,sX] at *;omega
 ntrans x y z h1 h2:=by
  rw [cT,<-Bool.not_eq_true,sX] at *;omega
theorem gH:∀(l:List qd) (j:Nat),j<l.length*2->(l.flatMap zt)[j]?=some (zt (l[j/2]!))[j % 2]!
 |[],j,h=>by simp at h
 |x::l,0,h=>rfl
 |x::l,1,h=>rfl
 |x::l,j+2,h=>by
  have:=gH l j (by simp at h;omega);rw [show (j+2)/2=j/2+1 by omega,show (j+2) % 2=j % 2 by omega];simpa [zt] using this
theorem mQ(l:List qd):(flatK zt 2 l.toArray).toList=l.flatMap zt:=by
 apply List.ext_getElem?;intro j;by_cases hj:j<l.length*2
 ·rw [gH l j hj];have h1:j<(flatK zt 2 l.toArray).size:=by simpa using hj
  rw [zge (by simpa using h1)];have:=get_flatK zt 2 l.toArray j (by simpa using hj);rw [getElem!_pos _ j h1] at this;simp only [Array.getElem_toList];rw [this];simp
 ·rw [List.getElem?_eq_none (by simp;omega),List.getElem?_eq_none];have:∀m:List qd,(m.flatMap zt).length=m.length*2:=by
   intro m;induction m with
   |nil=>rfl
   |cons x m ih=>show (zt x++m.flatMap zt).length=_;rw [List.length_append,ih];simp [zt];omega
  rw [this];omega
theorem nY{μ:Nat->Pl}{K:Nat->Prop}:∀l:List qd,qe (RC μ K) (z6 l) (l.flatMap zt)
 |[]=>trivial
 |x::l=>⟨rfl,rfl,nY l⟩
def Qc(l:List qd):Prop:=∀(i j:Nat) (x y:qd),l[i]?=some x->l[j]?=some y->i<j->qO y x=false
theorem zk(l:List qd):(z6 l).length=l.length*2:=by
 induction l with
 |nil=>rfl
 |cons x l ih=>show (vI x++z6 l).length=_;rw [List.length_append,ih];simp [vI];omega
theorem J1:∀(l:List qd) (j:Nat),j<l.length*2->∃n:Int,(z6 l)[j]?=some (.int .i64 n)/\(l.flatMap zt)[j]?=some (.int .i64 n)
 |[],j,h=>by simp at h
 |x::l,0,h=>⟨x.1,rfl,rfl⟩
 |x::l,1,h=>⟨x.2,rfl,rfl⟩
 |x::l,j+2,h=>by
  obtain⟨n,h1,h2⟩:=J1 l j (by simp at h;omega);exact⟨n,by simpa [z6,vI] using h1,by simpa [zt] using h2⟩
structure CmpAt (k:FuncId):Prop where
 eg:∀args w,(callFunc k args).run Tryz.prog w=.ok (.enter k args) w
 calls:∀(x y:qd) (W:World),Calls Tryz.prog k #[.agg (zt x).toArray,.agg (zt y).toArray] W fun e w'=>e=.returned (.int .i64 (wS x y))/\∃q os',w'=Go.Sort.grow (W.drewN q) os'
theorem GK{k:FuncId}(eg:∀args w,(callFunc k args).run Tryz.prog w=.ok (.enter k args) w)(h:∀a b:qd,yE Tryz.prog 7 ⟨.lf,7⟩ k [xI a,xI b] fun d=>d=.int (wS a b)):CmpAt k:=by
 refine⟨eg,fun x y W=>?_⟩;have h:qK Tryz.prog 7 k [.agg (vI x),.agg (vI y)] ⟨.lf,7⟩ fun v _=>v=.one (.int .i64 (wS x y)):=by
  have:=h x y ⟨.lf,7⟩ (fun _=>False) [.agg (vI x),.agg (vI y)] (fun b bk h=>by simp [Hp.get] at h) (fun _ h=>h.elim) (fun b bk h=>by simp [Hp.get] at h) ⟨⟨_,rfl,.c _ rfl,.c _ rfl,trivial⟩,⟨_,rfl,.c _ rfl,.c _ rfl,trivial⟩,trivial⟩;refine this.mono ?_;rintro v H' ⟨_,_,_,d,hr,rfl⟩;obtain⟨c,rfl,hr⟩:=hr;cases hr;rfl
 exact qK.any (xs:=[.agg (zt x).toArray,.agg (zt y).toArray]) h (fun μ K=>⟨⟨_,rfl,rfl,rfl,trivial⟩,⟨_,rfl,rfl,rfl,trivial⟩,trivial⟩) (fun μ K y hy=>hy) W
theorem G9{k:FuncId}(hk:CmpAt k){H:Hp}{l:List qd}{b o cap nb:Nat}{ex:Bool}{z:List C}{mm:T C}(hb:H.get b=some (.row nb z mm true))(hin:o+l.length*2<=nb)(hld:H.loads b o (l.length*2)=some (z6 l))(hpos:0<l.length)(hsz:l.length<4611686018427387904)(hall:∃cells,zM H b cells):
 qK Tryz.prog 7 143 [.one (.slc b o l.length cap 2 ex),.one (.fn k [])] H fun v H'=>v=.tup []/\∃l':List qd,l'.Perm l/\Qc l'/\H.stores b o (z6 l')=some H':=by
 intro μ K w xs hR ha
 match xs,ha with
 |[x1,x2],⟨⟨hK,a,c,h1,h2,h3,h4,h5⟩,⟨_,h6⟩,_⟩=>
  subst h1 h6;rcases h5 with h5|⟨rfl,h5⟩
  ·omega
  ·obtain⟨cs,t,fz,e1,e2,e3,e4,e5⟩:=hR.blk b _ hb;obtain rfl:=e4 rfl;have hblk:(μ b).blk<w.heap.size:=hR.blk_lt hb;have hH:HoldsK zt 2 w (μ b).blk ((μ b).off+o) l.toArray:=by
    intro j hj;have hj':j<l.length*2:=by simpa using hj
    obtain⟨n,g1,g2⟩:=J1 l j hj';have hcell:H.cell b (o+j)=some (.int .i64 n):=by rw [<-g1];exact ve hld hj'
    have hcell':(B.row nb z mm true).cell (o+j)=some (.int .i64 n):=by simpa [Hp.cell,hb] using hcell
    obtain⟨x,k1,k2⟩:=e5 _ _ hcell';have k2:x=.int .i64 n:=k2;subst k2;refine⟨?_,by simp [World.frozen?,e1]⟩;have hf:(flatK zt 2 l.toArray)[j]! =.int .i64 n:=by
     have h7:(flatK zt 2 l.toArray).toList[j]?=some (.int .i64 n):=by rw [mQ];exact g2
     rw [getElem!_pos _ j hj];have:=zgs h7;obtain⟨_,this⟩:=this;simpa using this
    rw [hf];simp only [World.cell?,e1];simpa [Nat.add_assoc] using k1
   have hcon:=AnyQ.slices_SortFunc Tryz.sortPt 2 Tryz.isAgg73 Tryz.sizeOf73 zt (fun _=>rfl) (fun x v hv=>by simp [zt] at hv;rcases hv with rfl|rfl<;>rfl) wS Gf k #[] (μ b).blk ((μ b).off+o) c l.toArray w hk.eg (fun _ _ _ _ x y=>hk.calls x y _) hH hblk (by simpa using hsz)
   have hcon':Calls Tryz.prog 143 #[.slice (some ((μ b).addr o)) l.length c,.func (.func k) #[] #[]] w _:=hcon;refine hcon'.mono ?_;rintro e w' ⟨rfl,d',m,os,hp,hs,rfl⟩;obtain⟨p1,p2,p3⟩:=hp;simp only [List.size_toArray] at p1;have hperm:d'.toList.Perm l:=by
    have e1:(d'.extract 0 l.toArray.size).toList=d'.toList:=by
     rw [show l.toArray.size=d'.size by simp [p1]];simp
    have e2:(l.toArray.extract 0 l.toArray.size).toList=l:=by simp
    rw [e1,e2] at p3;exact p3
   have hlen:d'.toList.length=l.length:=hperm.length_eq;obtain⟨cells,hrow⟩:=hall;have hcl:cells.length=nb:=by
    obtain⟨⟨z',m',hz⟩,_⟩:=hrow;rw [hb] at hz;exact (B.row.inj (zsi hz)).1.symm
   obtain⟨H',s1,s2,s3,s4⟩:=hrow.stores (cs:=z6 d'.toList) (i:=o) (by rw [zk,hlen];omega);have hput:=Rel.putRow Tryz.prog hR hb s1 (by rw [zk,hlen];exact hin) (F:=flatK zt 2 d') (by
    have:(flatK zt 2 d').toList=d'.toList.flatMap zt:=by
     have:=mQ d'.toList;simpa using this
    rw [this];exact nY _) m os
   refine⟨_,rfl,.tup [],H',μ,K,⟨rfl,d'.toList,hperm,?_,s1⟩,⟨[],rfl,trivial⟩,hput.1,hput.2⟩;intro i j x y hi hj hij;have hji:j<d'.size:=by simpa using (zgs hj).1
   have:=hs i j (Nat.zero_le _) hij (by simp [<-p1];exact hji);rw [cT] at this;have ex1:d'[i]! =x:=by
    rw [getElem!_pos _ i (by omega)];have:=(zgs hi).2;simpa using this
   have ey1:d'[j]! =y:=by
    rw [getElem!_pos _ j hji];have:=(zgs hj).2;simpa using this
   rw [ex1,ey1] at this;exact this
theorem A2{a b:qd}{GH:Hp}(hG:∀b bk,GH.get b=some bk->bk.ro=some bk):yE Tryz.prog 7 GH 144 [xI a,xI b] fun d=>d=.int (wS a b):=by
 refine zy De rfl hG fun Z0 lo=>?_;by_cases h1:a.2<b.2
 ·have g1:decide (a.2<b.2)=true:=by simpa using h1
  refine xn ?_;intros;refine qb rfl (fun ht=>?_) (fun ht=>by cases ht);refine xn ?_;intros;exact qc ⟨_,rfl,rfl,by simp [wS,qO,h1]⟩
 ·have g1:decide (a.2<b.2)=false:=by simpa using h1
  by_cases h2:a.2=b.2
  ·have g2:(a.2==b.2)=true:=by simpa using h2
   refine xn ?_;intros;refine qb rfl (fun ht=>?_) (fun ht=>?_)
   ·refine xn ?_;intros;have h3:a.1<b.1:=by simpa using ht
    exact qc ⟨_,rfl,rfl,by simp [wS,qO,h1,h2,h3]⟩
   ·have h3:¬a.1<b.1:=by simpa using ht
    refine xn ?_;intros;refine xT (ke (p:=a) (q:=b) rfl rfl) ?_;refine xn ?_;intros;refine qb rfl (fun he=>?_) (fun he=>?_)
    ·have h4:a=b:=by simpa using he
     subst h4;refine xn ?_;intros;exact qc ⟨_,rfl,rfl,by simp [wS,qO]⟩
    ·have h4:¬a=b:=by simpa using he
     refine xn ?_;intros;exact qc ⟨_,rfl,rfl,by simp [wS,qO,h1,h2,h3,h4]⟩
  ·have g2:(a.2==b.2)=false:=by simpa using h2
   refine xn ?_;intros;refine qb rfl (fun ht=>by cases ht) (fun _=>?_);refine xn ?_;intros;refine xT (ke (p:=a) (q:=b) rfl rfl) ?_;refine xn ?_;intros;have h4:¬a=b:=fun e=>h2 (by rw [e]);refine qb rfl (fun he=>absurd (by simpa using he) h4) (fun he=>?_);refine xn ?_;intros;exact qc ⟨_,rfl,rfl,by simp [wS,qO,h1,h2,h4]⟩
theorem UH:CmpAt 144:=GK (enters_of Tryz.func144 (by kernel_rfl) rfl) fun _ _=>A2 e9
end Go.Ah

namespace Go.Ah
open Go.Ab Go.Proofs
theorem T7:DK 189 [.one (.f (.c (.int .u64 0)))] fun d=>d=.one (.f (.c (.int .i64 0))):=QQ (vs:=[.one (.int .u64 0)]) (fuel:=100) ⟨rfl,trivial⟩ rfl rfl (by kernel_rfl)
abbrev J5:DV:=.one (.f (.sl 2 0 []))
abbrev f4(k:FuncId):DV:=.one (.f (.c (.fn k [])))
theorem FU{Z:Nat->Prop}{H:Hp}:∀{l:List qd} {cs:List C},qe (RF Z H) (l.flatMap qh) cs->cs=z6 l
 |[],[],_=>rfl
 |[],_::_,h=>h.elim
 |x::l,cs,h=>by
  match cs,h with
  |c1::c2::cs,⟨h1,h2,h3⟩=>
   cases h1;cases h2;rw [FU (l:=l) h3];rfl
  |[_],h=>exact h.2.elim
  |[],h=>exact h.elim
theorem FV{Z:Nat->Prop}{H:Hp}:∀l:List qd,qe (RF Z H) (l.flatMap qh) (z6 l)
 |[]=>trivial
 |x::l=>⟨.c _ rfl,.c _ rfl,FV l⟩
noncomputable abbrev parK (Z0:Nat->Prop) (lo anc:Nat) (β0:qq) (H1:Hp):Par:=⟨Tryz.prog,7,H00 1,Z0,lo,anc,β0,H1,none⟩
abbrev Zd(f:FuncId)(ds:List DV)(S:Bx)(nk:Nat)(R:DV->Bx->Nat->Prop):Prop:=∀Z0 lo anc β0 H1,DX (parK Z0 lo anc β0 H1) f ds S nk R
theorem w9 {f:FuncId} {sf:SFn} (hf:zK Tryz.prog 7 f=some sf) {ds:List DV} {S:Bx} {nk:Nat} {R:DV->Bx->Nat->Prop} (hn:Nat.ble ds.length sf.n=true)
 (h:∀Z β H lo,DPS (parK Z lo nk β H) sf.n sf.code (VF (parK Z lo nk β H) sf.res R) (kp ds 0) S nk):Zd f ds S nk R:=fun Z0 lo anc β0 H1=>Ck (p:=parK Z0 lo anc β0 H1) hf hn fun Z β H=>h Z β H lo
theorem gI{g:FuncId}(hg:CmpAt g){k nk:Nat}{l:List qd}{S:Bx}(hk:lk S k=some (.data (l.flatMap qh)))(hpos:0<l.length)(hsz:l.length<1000000000000):Zd 143 [.one (.own k 0 l.length 2),f4 g] S nk fun d S' nk'=>d=.tup []/\nk'=nk/\∃l':List qd,l'.Perm l/\Qc l'/\S'=put k (.data (l'.flatMap qh)) S:=by
 intro Z0 lo anc β0 H1 Z β H args hS ha
 match args,ha with
 |[v1,v2],⟨h1,h2,_⟩=>
  obtain⟨c1,rfl,h1⟩:=h1;obtain⟨c2,rfl,h2⟩:=h2;cases h2;rcases h1 with⟨_,h1,_⟩|⟨b,N,cap,ex,hb,rfl,hcap,hN⟩
  ·omega
  ·obtain⟨s,hs,hbx⟩:=hS.box (k,0) _ (xL hk rfl);rw [hb] at hs;obtain rfl:=zsi hs;obtain⟨hz,hlo,hlt,cs,rest,hrow,hNl,hrel⟩:=hbx;have hrow:zM H b (cs++rest):=hrow;have hNl:(cs++rest).length=N:=hNl;obtain rfl:=FU hrel;obtain⟨⟨z,mm,hget⟩,hld⟩:=hrow;have hin:0+l.length*2<=(z6 l++rest).length:=by rw [List.length_append,zk];omega
   have hld':H.loads b 0 (l.length*2)=some (z6 l):=by
    have:=jR hld (m:=l.length*2) (by rw [List.length_append,zk];omega);rw [this,List.take_append_of_le_length (by rw [zk];omega),List.take_of_length_le (by rw [zk];omega)]
   refine (G9 hg hget hin hld' hpos oM ⟨_,⟨z,mm,hget⟩,hld⟩).mono ?_;rintro v H' ⟨rfl,l',hp,hso,hst⟩;have hl':l'.length=l.length:=hp.length_eq;obtain⟨H2,e1,e2,e3,e4⟩:=zM.stores (cs:=z6 l') (i:=0) ⟨⟨z,mm,hget⟩,hld⟩ (by rw [List.length_append,zk,zk];omega);rw [hst] at e1;obtain rfl:=zsi e1;rw [Z4 (z6 l') (z6 l) rest 0 (by rw [zk,zk];omega)] at e2;have hset:wn (z6 l) 0 (z6 l')=z6 l':=by
    have:=X7 [] (z6 l) (z6 l') [] (by rw [zk,zk,hl']);simpa using this
   rw [hset] at e2;obtain⟨hS',hZ⟩:=hS.upd (x':=.data (l'.flatMap qh)) (cs:=z6 l') (rest:=rest) hk rfl hb (FV l') e3 e4 rfl e2 (by rw [<-hNl,List.length_append,List.length_append,zk,zk,hl']);exact⟨.tup [],_,_,Z,β,hS',⟨[],rfl,trivial⟩,hZ,fun _ _ h=>h,rfl,rfl,l',hp,hso,rfl⟩
theorem LM{p:Par}{n:Nat}{Q:Exit->qo->Bx->Nat->Prop}{E:qo}{S:Bx}{nk:Nat}{s:SC}(t:Nat){k esz:Nat}(ht:lk E t=some (.one (.own k 0 0 esz)))(h:DPS p n s Q ((t,.one (.f (.sl esz 0 [])))::E) S nk):DPS p n s Q E S nk:=.mk fun Z β H F hS hE=>by
 refine h.run Z β H F hS fun m d hd=>?_;rw [qR] at hd;split at hd
 ·rename_i e;subst e;obtain rfl:=zsi hd;obtain⟨v,hv,c,rfl,hr⟩:=hE _ _ ht;refine⟨_,hv,_,rfl,?_⟩;rcases hr with⟨_,_,_,rfl⟩|⟨b,N,cap,ex,_,rfl,_,_⟩
  ·exact RF.nil esz
  ·exact RF.sl (cs:=[]) (fun h=>by simp at h) (by simp) (Nat.zero_le _) (by simp [Hp.loads]) (fun i d c h=>by simp at h)
 ·exact hE m d hd
abbrev K4:DV:=f4 144
theorem T8:DK 230 [J5,.int 0,.int 0,K4] fun d=>d=.tup []:=by
 refine qI fun Z0 lo=>?_;refine qa ?_;intros;refine qm (fun m E S nk=>E=[(2,.int 0),(8,.int 1)]/\S=[]/\nk=0) ⟨0,_,_,_,[],?wk,rfl,rfl,rfl⟩ ?_
 case wk=>exact ql
 rintro m E S nk ⟨rfl,rfl,rfl⟩;refine qa ?_;intros;refine qb rfl (fun ht=>by cases ht) (fun _=>?_);refine qa ?_;intros;exact⟨_,rfl,rfl,rfl⟩
theorem T2:DK 188 [J5,.int 0,.int 0,.int 0,K4] fun d=>d=.tup []:=by
 refine qI fun Z0 lo=>?_;refine qa ?_;intros;refine qm (fun m E S nk=>E=[(0,J5),(1,.int 0),(2,.int 0),(3,.int 0),(4,K4)]/\S=[]/\nk=0) ⟨0,_,_,_,[],?wk,rfl,rfl,rfl⟩ ?_
 case wk=>exact ql
 rintro m E S nk ⟨rfl,rfl,rfl⟩;refine qa ?_;intros;refine qb rfl (fun _=>?_) (fun ht=>by cases ht);refine qa ?_;intros;refine qj rfl rfl T8 ?_;rintro _ rfl;refine qa ?_;intros;exact qc ⟨_,rfl,rfl,rfl⟩
theorem LO:DK 143 [J5,K4] fun d=>d=.tup []:=by
 refine qI fun Z0 lo=>?_;refine qa ?_;intros;refine qj rfl rfl T7 ?_;rintro _ rfl;refine qa ?_;intros;refine qj rfl rfl T2 ?_;rintro _ rfl;refine qa ?_;intros;exact⟨_,rfl,rfl,rfl⟩
theorem nD{k nk:Nat}{l:List qd}{S:Bx}(hk:lk S k=some (.data (l.flatMap qh)))(hpos:0<l.length)(hsz:l.length<1000000000000):Zd 143 [.one (.own k 0 l.length 2),K4] S nk fun d S' nk'=>d=.tup []/\nk'=nk/\∃l':List qd,l'.Perm l/\Qc l'/\S'=put k (.data (l'.flatMap qh)) S:=gI UH hk hpos hsz
theorem wK{a b:qd}:qO a b=true↔a.2<b.2\/(a.2=b.2/\a.1<b.1):=by
 unfold qO;by_cases h1:a.2<b.2
 ·simp [h1]
 ·by_cases h2:a.2=b.2
  ·simp [h1,h2]
  ·simp [h1,h2]
abbrev qS(l:List qd):Prop:=l.Pairwise fun a b=>qO a b=true
theorem vB{a b c:qd}(h1:qO a b=true)(h2:qO b c=true):qO a c=true:=by
 rw [wK] at *;omega
theorem jY{a:qd}:¬qO a a=true:=by rw [wK];omega
theorem JN{a b:qd}(h:¬qO a b=true)(hne:a≠b):qO b a=true:=by
 rw [wK] at *;have:¬(a.1=b.1/\a.2=b.2):=fun h=>hne (Prod.ext h.1 h.2);omega
theorem qS.ext:∀{l m:List qd},qS l->qS m->(∀p,p∈l↔p∈m)->l=m
 |[],[],_,_,_=>rfl
 |[],b::m,_,_,h=>by have:=(h b).2 (by simp);simp at this
 |a::l,[],_,_,h=>by have:=(h a).1 (by simp);simp at this
 |a::l,b::m,hl,hm,h=>by
  rw [qS,List.pairwise_cons] at hl hm;have hab:a=b:=by
   rcases List.mem_cons.1 ((h a).1 (by simp)) with e|e
   ·exact e
   ·rcases List.mem_cons.1 ((h b).2 (by simp)) with e'|e'
    ·exact e'.symm
    ·exact absurd (vB (hl.1 b e') (hm.1 a e)) jY
  subst hab;congr 1;refine qS.ext hl.2 hm.2 fun p=>?_;constructor
  ·intro hp;rcases List.mem_cons.1 ((h p).1 (by simp [hp])) with e|e
   ·subst e;exact absurd (hl.1 p hp) jY
   ·exact e
  ·intro hp;rcases List.mem_cons.1 ((h p).2 (by simp [hp])) with e|e
   ·subst e;exact absurd (hm.1 p hp) jY
   ·exact e
theorem aU(x:qd)(out:List qd):∀n,n<=out.length->(∀j z,jy x out n<=j->j<n->out[j]?=some z->qO x z=true)/\(∀z,0<jy x out n->out[jy x out n-1]?=some z->¬qO x z=true)
 |0,_=>⟨fun j z h1 h2=>by omega,fun z h=>by simp [jy] at h⟩
 |n+1,hn=>by
  obtain⟨z,hz⟩:∃z,out[n]?=some z:=⟨_,zge oM⟩;have ih:=aU x out n oM;have e:jy x out (n+1)=if qO x z=true then jy x out n else n+1:=by simp only [jy,hz]
  rw [e];by_cases hb:qO x z=true
  ·rw [if_pos hb];refine⟨fun j y h1 h2 hy=>?_,ih.2⟩;by_cases hj:j=n
   ·subst hj;rw [hz] at hy;obtain rfl:=zsi hy;exact hb
   ·exact ih.1 j y h1 oM hy
  ·rw [if_neg hb];refine⟨fun j y h1 h2=>oM,fun y _ hy=>?_⟩;rw [Nat.add_sub_cancel,hz] at hy;obtain rfl:=zsi hy;exact hb
theorem HX{x:qd}{out:List qd}(ho:qS out)(hx:x∉out):qS (vi x out):=by
 obtain⟨h1,h2⟩:=aU x out out.length (Nat.le_refl _);have hp:=lW x out out.length;generalize hP:jy x out out.length=P at h1 h2 hp;have hsplit:out=out.take P++out.drop P:=(List.take_append_drop P out).symm;have hlow:∀z∈out.take P,qO z x=true:=fun z hz=>by
  obtain⟨j,hj⟩:=List.getElem?_of_mem hz;rw [List.getElem?_take] at hj;split at hj
  ·rename_i hjP;have hP1:P-1<out.length:=by omega
   have hnb:=h2 out[P-1] oM (zge hP1);have hb:=JN hnb (fun e=>hx (by rw [e];exact List.getElem_mem hP1));by_cases hj1:j=P-1
   ·subst hj1;rw [zge hP1] at hj;obtain rfl:=zsi hj;exact hb
   ·have hjl:j<out.length:=by omega
    rw [zge hjl] at hj;obtain rfl:=zsi hj;exact vB (List.pairwise_iff_getElem.1 ho j (P-1) hjl hP1 oM) hb
  ·cases hj
 have hhigh:∀z∈out.drop P,qO x z=true:=fun z hz=>by
  obtain⟨j,hj⟩:=List.getElem?_of_mem hz;rw [List.getElem?_drop] at hj;exact h1 (P+j) z oM (zgs hj).1 hj
 rw [hsplit,qS,List.pairwise_append] at ho;rw [vi,hP,qS,List.append_assoc,List.pairwise_append];refine⟨ho.1,?_,fun a ha b hb=>?_⟩
 ·simp only [List.singleton_append,List.pairwise_cons];exact⟨hhigh,ho.2.1⟩
 ·simp only [List.singleton_append,List.mem_cons] at hb;rcases hb with rfl|hb
  ·exact hlow a ha
  ·exact ho.2.2 a ha b hb
theorem CU{x p:qd}{out:List qd}:p∈vi x out↔p=x\/p∈out:=by
 simp only [vi,List.mem_append,List.mem_singleton];constructor
 ·rintro ((h|h)|h)
  ·exact .inr (List.mem_of_mem_take h)
  ·exact .inl h
  ·exact .inr (List.mem_of_mem_drop h)
 ·rintro (h|h)
  ·exact .inl (.inr h)
  ·rw [<-List.take_append_drop (jy x out out.length) out,List.mem_append] at h;exact h.elim (fun h=>.inl (.inl h)) .inr
theorem MJ{x:qd}{out:List qd}(ho:qS out):qS (wT out x):=by
 unfold wT;split
 ·exact ho
 ·exact HX ho aM
theorem EX{x p:qd}{out:List qd}:p∈wT out x↔p=x\/p∈out:=by
 unfold wT;split
 ·rename_i h;exact⟨.inr,fun h'=>h'.elim (fun e=>e▸h) fun h=>h⟩
 ·exact CU
theorem ZZ:∀(l out:List qd),qS out->qS (l.foldl wT out)/\∀p,p∈l.foldl wT out↔p∈out\/p∈l
 |[],out,h=>⟨h,by simp⟩
 |x::l,out,h=>by
  obtain⟨h1,h2⟩:=ZZ l (wT out x) (MJ h);refine⟨h1,fun p=>?_⟩;rw [List.foldl_cons,h2,EX,List.mem_cons];constructor
  ·rintro ((h|h)|h)
   ·exact .inr (.inl h)
   ·exact .inl h
   ·exact .inr (.inr h)
  ·rintro (h|h|h)
   ·exact .inl (.inr h)
   ·exact .inl (.inl h)
   ·exact .inr h
theorem xv(l:List qd):qS (qt l):=(ZZ l [] List.Pairwise.nil).1
theorem xi{l:List qd}{p:qd}:p∈qt l↔p∈l:=by rw [qt,(ZZ l [] List.Pairwise.nil).2];simp
end Go.Ah

namespace Go.Ab
section
variable{p:Par}{n:Nat}{Q:Exit->qo->Bx->Nat->Prop}{E:qo}{S:Bx}{nk:Nat}
theorem Ke{s:SC}(kb i esz:Nat){l:List DC}(hk:lk S kb=some (.cells l))(hi:l[i]?=some (.f (.c .nils)))(h:DPS p n s Q E ((nk,.data [])::put kb (.cells (l.set i (.own nk 0 0 esz))) S) (nk+1)):DPS p n s Q E S nk:=.mk fun Z β H F hS hE=>by
 have hT:=QU hS;have hB:xD β (ju β nk .nil):=hS.ble .nil;have hkn:=hS.lt hk;have hkT:lk ((nk,.data [])::S) kb=some (.cells l):=by rw [qR,if_neg (by omega)];exact hk
 refine h.run Z _ H F ?_ (hE.mono (xd.refl Z H) hB);have hput:∀j,lk ((nk,.data [])::put kb (.cells (l.set i (.own nk 0 0 esz))) S) j=lk (put kb (.cells (l.set i (.own nk 0 0 esz))) ((nk,.data [])::S)) j:=fun j=>by
  simp only [put,jg (show nk≠kb by omega)]
 refine⟨hT.wf,hT.lo,hT.z,hT.zlo,hT.zz,hT.glob,hT.nk,hT.bd,fun κ y hκ=>?_,fun κ κ' y y' b N N' hj hj'=>?_,hT.blo,hT.anch,hT.ancn⟩
 ·rw [y4 (hput κ.1),ZE hkT rfl] at hκ;split at hκ
  ·rename_i e;split at hκ
   ·rename_i e2;obtain rfl:=vg e e2;obtain rfl:=zsi hκ;obtain⟨s,hs,hbx⟩:=hT.box (kb,0) _ (xL hkT rfl);refine⟨s,hs,?_⟩;cases s with
    |nil=>
     have:l=[]:=List.eq_nil_of_length_eq_zero hbx;subst this;cases hi
    |blk b N=>
     obtain⟨g1,g2,g3,cs,rest,g4,g5,g6⟩:=hbx;refine⟨g1,g2,g3,cs,rest,g4,g5,?_⟩;obtain⟨c,hc,hr⟩:=qe.at g6 i _ hi;cases hr;have hset:cs.set i .nils=cs:=by
      refine List.ext_getElem? fun j=>?_;rw [List.getElem?_set];split
      ·rename_i ej;subst ej;rw [hc];first|rfl|rw [if_pos (zgs hc).1]
      ·rfl
     show qe _ _ _
     rw [<-hset];exact qe.set g6 i (.inl ⟨qW _ _ _,rfl,rfl,rfl⟩)
   ·cases hκ
  ·exact hT.box κ y hκ
 ·rw [hput] at hj hj';rw [yY] at hj hj';have f:∀a z,(if a=kb then Option.map (fun _=>Bk.cells (l.set i (.own nk 0 0 esz))) (lk ((nk,.data [])::S) a) else lk ((nk,.data [])::S) a)=some z->∃z',lk ((nk,.data [])::S) a=some z':=fun a z hz=>by
   split at hz
   ·cases hl:lk ((nk,.data [])::S) a with
    |none=>rw [hl] at hz;cases hz
    |some q=>exact⟨q,rfl⟩
   ·exact⟨z,hz⟩
  obtain⟨z1,e1⟩:=f κ.1 y hj;obtain⟨z2,e2⟩:=f κ'.1 y' hj';exact hT.inj κ κ' z1 z2 b N N' e1 e2
end
end Go.Ab

namespace Go.Ah
open Go.Ab Go.Proofs
def aT(p:qd):V:=.agg [.int .i64 p.1,.int .i64 p.2]
def vF:Nat->List qd->List (V × V × Nat)
 |_,[]=>[]
 |i,p::l=>(aT p,.one (.bool true),i)::vF (i+1) l
abbrev NG(l:List qd):List (V × V × Nat):=vF 0 l
def yM(l:List qd):Bk:=.mp (.st (NG l) l.length) []
theorem d2(p:qd):∀(l:List qd) (i:Nat),vF i (l++[p])=vF i l++[(aT p,.one (.bool true),i+l.length)]
 |[],i=>rfl
 |q::l,i=>by rw [List.cons_append,vF,d2 p l,vF,List.cons_append,List.length_cons,show i+1+l.length=i+(l.length+1) by omega]
theorem JT{e:V × V × Nat}:∀{l:List qd} {i:Nat},e∈vF i l↔∃(j:Nat) (p:qd),l[j]?=some p/\e=(aT p,.one (.bool true),i+j)
 |[],i=>by simp [vF]
 |q::l,i=>by
  rw [vF,List.mem_cons,JT];constructor
  ·rintro (rfl|⟨j,p,h1,rfl⟩)
   ·exact⟨0,q,rfl,rfl⟩
   ·exact⟨j+1,p,h1,by rw [show i+1+j=i+(j+1) by omega]⟩
  ·rintro ⟨j,p,h1,rfl⟩;cases j with
   |zero=>left;rw [<-zsi h1];rfl
   |succ j=>right;exact⟨j,p,h1,by rw [show i+1+j=i+(j+1) by omega]⟩
theorem HE(p q:qd):eO [.int .i64 p.1,.int .i64 p.2] (aT q)=some (decide (p=q)):=by
 obtain⟨a,b⟩:=p;obtain⟨c,d⟩:=q;simp only [eO,aT,and_self,if_true];congr 1;by_cases h1:a=c
 ·by_cases h2:b=d
  ·simp [h1,h2]
  ·simp [h1,h2]
 ·simp [h1]
theorem d8(p:qd):∀(l:List qd) (i j:Nat),(p∉l/\va [.int .i64 p.1,.int .i64 p.2] (vF j l) i=some none)\/∃k,l[k]?=some p/\va [.int .i64 p.1,.int .i64 p.2] (vF j l) i=some (some (i+k))
 |[],i,j=>.inl ⟨by simp,rfl⟩
 |q::l,i,j=>by
  rw [vF,va,HE];by_cases h:p=q
  ·subst h;right;exact⟨0,rfl,by simp⟩
  ·rw [decide_eq_false h];simp only;rcases d8 p l (i+1) (j+1) with⟨h1,h2⟩|⟨k,h1,h2⟩
   ·exact .inl ⟨by simp [h,h1],h2⟩
   ·exact .inr ⟨k+1,h1,by rw [h2,show i+1+k=i+(k+1) by omega]⟩
theorem sM{e:List (V × V × Nat)}{k:Nat}{v:V}{x:V × V × Nat}(h:e[k]?=some x)(hv:x.2.1=v):WQ e k v=e:=by
 refine List.ext_getElem? fun j=>?_;rw [WQ,List.getElem?_modify];split
 ·rename_i hkj;subst hkj;rw [h];subst hv;rfl
 ·simp
theorem sG{p:qd}:∀{l:List qd} {i k:Nat},l[k]?=some p->(vF i l)[k]?=some (aT p,.one (.bool true),i+k)
 |[],_,_,h=>by simp at h
 |q::l,i,0,h=>by rw [<-zsi h];rfl
 |q::l,i,k+1,h=>by
  have:=sG (l:=l) (i:=i+1) (k:=k) h;rw [vF,List.getElem?_cons_succ,this,show i+1+k=i+(k+1) by omega]
def jO(l:List qd)(p:qd):List qd:=if p∈l then l else l++[p]
theorem lL(l:List qd)(p:qd):oK (NG l) l.length [.int .i64 p.1,.int .i64 p.2] (.bool true)=some (NG (jO l p),(jO l p).length):=by
 unfold oK;rw [show Yn [.int .i64 p.1,.int .i64 p.2]=true from rfl];rcases d8 p l 0 0 with⟨h1,h2⟩|⟨k,h1,h2⟩
 ·rw [h2,jO,if_neg h1];show _=some (vF 0 (l++[p]),(l++[p]).length);rw [d2,Nat.zero_add,List.length_append];rfl
 ·rw [h2,jO,if_pos (zmg h1),Nat.zero_add];simp only;rw [sM (sG h1) rfl]
theorem KD{l:List qd}{p:qd}(h:l.Nodup):(jO l p).Nodup:=by
 unfold jO;split
 ·exact h
 ·rename_i hn;rw [List.nodup_append];exact⟨h,by simp,fun a ha b hb=>by
   rw [List.mem_singleton] at hb;subst hb;rintro rfl;exact hn ha⟩
theorem eL{l:List qd}{p q:qd}:q∈jO l p↔q∈l\/q=p:=by
 unfold jO;split
 ·rename_i h;constructor
  ·exact .inl
  ·rintro (h1|rfl)
   ·exact h1
   ·exact h
 ·simp
theorem B0{st:Nat}{p:qd}:∀{l:List qd} {i:Nat},l[st]?=some p->(vF i l).find? (fun e=>e.2.2==i+st)=some (aT p,.one (.bool true),i+st):=by
 induction st with
 |zero=>
  intro l i h;cases l with
  |nil=>cases h
  |cons q l=>
   rw [<-zsi h,vF,List.find?_cons];simp
 |succ st ih=>
  intro l i h;cases l with
  |nil=>cases h
  |cons q l=>
   have:=ih (l:=l) (i:=i+1) h;rw [vF,List.find?_cons];simp only [show (i==i+(st+1))=false by simp];rw [show i+1+st=i+(st+1) by omega] at this;exact this
structure Seen (l:List qd) (seen:List Nat) (out:List qd):Prop where
 nd:seen.Nodup
 lt:∀i∈seen,i<l.length
 out:out.map some=seen.map (l[·]?)
theorem Seen.nil(l:List qd):Seen l [] []:=⟨List.nodup_nil,fun i h=>(by cases h),rfl⟩
theorem Seen.step{l out:List qd}{seen:List Nat}{i:Nat}{p:qd}(h:Seen l seen out)(hi:l[i]?=some p)(hn:i∉seen):Seen l (seen++[i]) (out++[p]):=by
 refine⟨?_,fun j hj=>?_,?_⟩
 ·rw [List.nodup_append];exact⟨h.nd,by simp,fun a ha b hb=>by
   rw [List.mem_singleton] at hb;subst hb;rintro rfl;exact hn ha⟩
 ·rcases List.mem_append.1 hj with hj|hj
  ·exact h.lt j hj
  ·rw [List.mem_singleton] at hj;subst hj;exact (zgs hi).1
 ·rw [List.map_append,List.map_append,h.out];simp [hi]
theorem Seen.len{l out:List qd}{seen:List Nat}(h:Seen l seen out):out.length=seen.length:=by
 have:=congrArg List.length h.out;simpa using this
theorem fC:∀(n:Nat) (s:List Nat),s.Nodup->(∀i∈s,i<n)->s.length<=n
 |0,s,_,h=>by
  cases s with
  |nil=>simp
  |cons a s=>exact absurd (h a (by simp)) (by omega)
 |n+1,s,hn,h=>by
  have h1:=fC n (s.filter (·≠n)) (hn.filter _) fun i hi=>by
   rw [List.mem_filter] at hi;have:=h i hi.1;have h2:i≠n:=by simpa using hi.2
   omega
  have h2:s.length<=(s.filter (·≠n)).length+1:=by
   clear h1 h;induction s with
   |nil=>simp
   |cons a s ih=>
    rw [List.nodup_cons] at hn;by_cases ha:a=n
    ·subst ha;have:s.filter (·≠a)=s:=List.filter_eq_self.2 fun x hx=>by
      have:x≠a:=fun e=>hn.1 (e▸hx);simpa using this
     rw [List.filter_cons_of_neg (by simp),this];simp
    ·rw [List.filter_cons_of_pos (by simpa using ha),List.length_cons,List.length_cons];have:=ih hn.2;omega
  omega
theorem Seen.le{l out:List qd}{seen:List Nat}(h:Seen l seen out):out.length<=l.length:=by
 rw [h.len];exact fC _ _ h.nd h.lt
theorem Seen.mem{l out:List qd}{seen:List Nat}(h:Seen l seen out)(hall:∀i,i<l.length->i∈seen)(p:qd):p∈out↔p∈l:=by
 have h1:p∈out↔some p∈out.map some:=by simp
 rw [h1,h.out];constructor
 ·intro hp;obtain⟨i,_,hi⟩:=List.mem_map.1 hp;exact zmg hi
 ·intro hp;obtain⟨i,hi⟩:=List.getElem?_of_mem hp;exact List.mem_map.2 ⟨i,hall i (zgs hi).1,hi⟩
theorem Seen.nodup:∀{out:List qd} {l:List qd} {seen:List Nat},l.Nodup->Seen l seen out->out.Nodup:=by
 intro out l seen hl h;rw [List.nodup_iff_pairwise_ne,List.pairwise_iff_getElem];intro i j hi hj hij he;have hlen:=h.len;have hx:∀k (hk:k<out.length),l[seen[k]'oM]?=some out[k]:=fun k hk=>by
  have:=congrArg (fun z=>z[k]?) h.out;simp only [List.getElem?_map,zge hk,zge (show k<seen.length by omega),Option.map_some,zoi] at this;exact this.symm
 have h1:=hx i hi;have h2:=hx j hj;rw [he] at h1;have h4:seen[i]'oM=seen[j]'oM:=by
  have e1:=(zgs h1);have e2:=(zgs h2);obtain⟨l1,e1⟩:=e1;obtain⟨l2,e2⟩:=e2;exact (List.getElem_inj hl).1 (e1.trans e2.symm)
 have:=(List.getElem_inj h.nd).1 h4;omega
def kx(rec it:Bk)(l out:List qd):Bx:=[(0,yM l),(1,.cells [.om 0]),(2,.cells [.own 6 0 out.length 2]),(6,.data (out.flatMap qh)),(4,rec),(5,it)]
theorem U5 {p:Par} (hp:p.P=Tryz.prog) (hG:p.G=7) {q:qd} {l out:List qd} {it:Bk} (hn:out.length<1000000) {fid:FuncId} {sg bd:Code} (hsg:xe Tryz.prog 7 vn.n sg=some (.ops f9 0 true)) (hbd:xe Tryz.prog 7 vn.n bd=some gA)
 {base rs:Nat} {Q:qo->Bx->Nat->Prop} {r:List SOper} {A:List Nat} {E:qo} {S:Bx} {nk:Nat} {id:Nat} {dst:Option Nat} {aid:Option Nat} {ws:List Nat} {keep:Bool} {x y:Opd}
 (hnk:nk=8) (hS:zV (kx (.mp (.lp .ready none fid vn.n [2] [7] sg bd) [.ptr 2 0]) it l out) S)
 (hx:ro E x=some (.one (.yl 4))) (hvs:Xb E [y]=some [xI q]) (hT:ZB E=true)
 (h:DPW p base 0 Q r [] A (qX E dst (.bool true)) [(0,yM l),(1,.cells [.om 0]),(2,.cells [.own 10 0 (out++[q]).length 2]),(10,.data ((out++[q]).flatMap qh)),(4,.mp (.lp .ready none fid vn.n [2] [7] sg bd) [.ptr 2 0]),(5,it)] 11):
 DPW p base rs Q (⟨id,dst,.cv x [y],none,aid,ws,keep⟩::r) [] A E S nk:=by
 subst hnk;have h4:lk S 4=some (.mp (.lp .ready none fid vn.n [2] [7] sg bd) [.ptr 2 0]):=hS 4 _ rfl;refine GA (R:=fun d S' nk'=>d=.bool true/\zV [(0,yM l),(1,.cells [.om 0]),(2,.cells [.own 10 0 (out++[q]).length 2]),(10,.data ((out++[q]).flatMap qh)),(4,.mp (.lp .ready none fid vn.n [2] [7] sg bd) [.ptr 2 0]),(5,it)] S'/\nk'=11) hx hvs h4 rfl rfl hT (by rw [hp,hG];exact hsg) (by rw [hp,hG];exact hbd) (fun ρ Z β H=>?_) (by rintro _ _ _ ⟨rfl,hs,rfl⟩;exact zW (zj _) hs h);have mixp:(p.round ρ Z 8 β H).P.follows .mixedOrders=true:=by show p.P.follows _=_;rw [hp];exact wq
 refine qu (E0:=[(2,.one (.ptr 2 0)),(7,xI q)]) (S0:=kx (.mp (.lp .ready none fid vn.n [2] [7] sg bd) [.ptr 2 0]) it l out) (qf rfl (qf rfl (qw _))) hS ?_;have hfl:=qL out;refine yq mixp (fun base=>?_);refine qa ?_;intros;refine⟨rfl,_,_,_,_,_,_,_,_,_,rfl,rfl,?_⟩;refine XD ?_;refine yq mixp (fun base=>?_);refine qa ?_;intros;refine qy (q:=qh q) rfl rfl rfl (qp _ hfl) ⟨rfl,rfl,_,rfl,rfl⟩ oM oM (by decide) rfl ?_;rw [show out.flatMap qh++qh q=(out++[q]).flatMap qh by simp,show out.length+1=(out++[q]).length by simp];refine qa ?_;intros;exact⟨_,_,_,_,_,_,_,_,_,rfl,rfl,qf rfl (qf rfl (qf rfl (qf rfl (qf rfl (qf rfl (qw _)))))),rfl⟩
theorem M1{l:List qd}(hl:l.Nodup)(hn:l.length<1000000){fid:FuncId}{sg bd:Code}(hsg:xe Tryz.prog 7 vn.n sg=some (.ops f9 0 true))(hbd:xe Tryz.prog 7 vn.n bd=some gA):
 Zd 247 [.one (.yl 4),.one (.ptr 1 0)] [(0,yM l),(1,.cells [.om 0]),(2,.cells [.own 3 0 0 2]),(3,.data []),(4,.mp (.lp .ready none fid vn.n [2] [7] sg bd) [.ptr 2 0])] 5
 fun _ S' nk'=>∃out:List qd,out.Nodup/\(∀p,p∈out↔p∈l)/\out.length<=l.length/\zV [(0,yM l),(1,.cells [.om 0]),(2,.cells [.own 6 0 out.length 2]),(6,.data (out.flatMap qh)),(4,.mp (.lp .ready none fid vn.n [2] [7] sg bd) [.ptr 2 0])] S'/\nk'=7:=by
 refine w9 (pC 247).2 rfl fun Z β H lo=>?_;refine qa ?_;intros;refine TG rfl rfl ?_;refine qa ?_;intros;refine qm (fun m E S nk=>∃(seen:List Nat) (out:List qd) (last:Nat),seen.length+m=l.length/\Seen l seen out/\l.length<=last/\E=[(0,.one (.yl 4)),(5,.one (.ptr 5 0))]/\S=kx (.mp (.lp .ready none fid vn.n [2] [7] sg bd) [.ptr 2 0]) (.mp (.it l.length seen last) [.om 0]) l out/\nk=7)
  ⟨l.length,_,_,_,[(6,3)],?wk,[],[],l.length,by simp,Seen.nil l,Nat.le_refl _,rfl,rfl,rfl⟩ ?_
 case wk=>exact ql
 rintro m E S nk ⟨seen,out,last,hm,hsn,hla,rfl,rfl,rfl⟩;have hole:=hsn.le;refine qa ?_;intros;refine Cl rfl rfl rfl (fun e he=>?_) hla rfl (fun hall=>?_) (fun e he hno=>?_)
 ·obtain⟨j,p,h1,rfl⟩:=JT.1 he;have:=(zgs h1).1;simp only;omega
 ·refine qa ?_;intros;refine qb (t:=false) rfl (fun ht=>by cases ht) (fun _=>?_);refine qa ?_;intros;refine⟨_,rfl,rfl,_,zj _,out,hsn.nodup hl,hsn.mem fun i hi=>?_,hole,qf rfl (qf rfl (qf rfl (qf rfl (qf rfl (qw _))))),rfl⟩;obtain⟨p,hp⟩:∃p,l[i]?=some p:=⟨_,zge hi⟩;have:=hall _ (JT.2 ⟨i,p,hp,rfl⟩);simpa using this
 ·obtain⟨i,p,hp,rfl⟩:=JT.1 he;rw [Nat.zero_add] at hno ⊢;simp only at hno ⊢;have hfd:=B0 (i:=0) hp;rw [Nat.zero_add] at hfd;refine qa ?_;intros;refine qb (t:=true) rfl (fun _=>?_) (fun ht=>by cases ht);refine qa ?_;intros;refine TI rfl rfl rfl rfl hfd rfl rfl ?_;refine qa ?_;intros;have hle2:=(hsn.step hp hno).le;have hln2:=hsn.len;rw [List.length_append,List.length_singleton] at hle2;refine U5 rfl rfl (q:=p) (l:=l) (out:=out) (it:=.mp (.it l.length (seen++[i]) l.length) [.om 0]) oM hsg hbd rfl (qf rfl (qf rfl (qf rfl (qf rfl (qf rfl (qf rfl (qw _))))))) rfl rfl rfl ?_;refine qa ?_;intros;refine qb (t:=false) rfl (fun ht=>by cases ht) (fun _=>?_);refine qa ?_;intros;refine⟨m-1,by omega,_,_,_,[(6,10)],?wk2,seen++[i],out++[p],l.length,by rw [List.length_append,List.length_singleton];omega,hsn.step hp hno,Nat.le_refl _,rfl,rfl,rfl⟩
  case wk2=>exact ql
theorem DX.sub{p:Par}{f:FuncId}{ds:List DV}{S S0:Bx}{nk:Nat}{R:DV->Bx->Nat->Prop}(h:DX p f ds S0 nk R)(hs:zV S0 S):DX p f ds S nk R:=fun Z β H args hS ha=>h Z β H args (hS.keepS hs) ha
theorem U6{l:List qd}(hl:l.Nodup)(hn:l.length<1000000):Zd 264 [.one (.f (.c .nils)),.one (.fn 247 [(1,0)])] [(0,yM l),(1,.cells [.om 0])] 2
 fun d S' nk'=>∃out:List qd,out.Nodup/\(∀p,p∈out↔p∈l)/\d=.one (.own 6 0 out.length 2)/\out.length<=l.length/\zV [(6,.data (out.flatMap qh))] S'/\nk'=7:=by
 refine w9 Cx rfl fun Z β H lo=>?_;refine qa ?_;intros;refine Ke 2 0 2 rfl rfl ?_;refine GC rfl [2] rfl (by show zR Tryz.prog 247=true;kernel_rfl) rfl rfl (fun fid sg bd hsg hbd=>?_);refine DX.sub (S0:=[(0,yM l),(1,.cells [.om 0]),(2,.cells [.own 3 0 0 2]),(3,.data []),(4,.mp (.lp .ready none fid vn.n [2] [7] sg bd) [.ptr 2 0])]) ((M1 hl hn hsg hbd _ _ _ _ _).mono ?_) (qf rfl (qf rfl (qf rfl (qf rfl (qf rfl (qw _))))));rintro _ S' nk' ⟨out,h1,h2,h3,h4,rfl⟩;refine⟨_,_,_,_,_,_,_,_,_,h4 4 _ rfl,by simp,?_⟩;have h5:zV [(2,.cells [.own 6 0 out.length 2]),(6,.data (out.flatMap qh))] (jn 4 S'):=qf (((yZ _ _ _).trans (if_neg (by decide))).trans (h4 2 _ rfl)) (qf (((yZ _ _ _).trans (if_neg (by decide))).trans (h4 6 _ rfl)) (qw _));refine qu (E0:=[(2,.one (.ptr 2 0))]) (qf rfl (qw _)) h5 ?_;refine qa ?_;intros;exact qc ⟨_,rfl,rfl,_,zj _,out,h1,h2,rfl,h3,qf rfl (qw _),rfl⟩
theorem M2{l:List qd}(hl:l.Nodup)(hn:l.length<1000000):Zd 246 [.one (.fn 247 [(1,0)])] [(0,yM l),(1,.cells [.om 0])] 2
 fun d S' nk'=>∃out:List qd,out.Nodup/\(∀p,p∈out↔p∈l)/\d=.one (.own 6 0 out.length 2)/\out.length<=l.length/\zV [(6,.data (out.flatMap qh))] S'/\nk'=7:=by
 refine w9 (pC 246).2 rfl fun Z β H lo=>?_;refine qa ?_;intros;refine ko rfl rfl rfl (U6 hl hn _ _ _ _ _) ?_;rintro _ S' _ ⟨out,h1,h2,rfl,h3,h4,rfl⟩;refine zW (zj _) h4 ?_;refine qa ?_;intros;exact qc ⟨_,rfl,rfl,_,zj _,out,h1,h2,rfl,h3,zj _,rfl⟩
theorem GY(l:List qd):Zd 219 [.one (.om 0)] [(0,yM l)] 1 fun d S' nk'=>d=.one (.fn 247 [(1,0)])/\zV [(0,yM l),(1,.cells [.om 0])] S'/\nk'=2:=by
 refine w9 (pC 219).2 rfl fun Z β H lo=>?_;refine qa ?_;intros;exact qc ⟨_,rfl,rfl,_,zj _,rfl,qf rfl (qf rfl (qw _)),rfl⟩
theorem GF(a:Int):yE Tryz.prog 7 ⟨.lf,7⟩ 239 [.int a] fun d=>d=.bool false:=by
 refine zy (pC 239).2 rfl e9 fun Z0 lo=>?_;refine qa ?_;intros;refine qc ⟨_,rfl,rfl,?_⟩;simp
def QA(a b:Int):Int:=if a<b then -1 else if b<a then 1 else 0
theorem A3(a b:Int):yE Tryz.prog 7 ⟨.lf,7⟩ 222 [.int a,.int b] fun d=>d=.int (QA a b):=by
 refine zy (pC 222).2 rfl e9 fun Z0 lo=>?_;refine qa ?_;intros;refine qj rfl rfl (GF a) ?_;rintro _ rfl;refine qa ?_;intros;refine qj rfl rfl (GF b) ?_;rintro _ rfl;refine qa ?_;intros;refine qb rfl (fun ht=>by cases ht) (fun _=>?_);refine qa ?_;intros;refine qb rfl (fun ht=>by cases ht) (fun _=>?_);refine qa ?_;intros;refine qb rfl (fun ht=>?_) (fun ht=>?_)
 ·have h:a<b:=by simpa using ht
  refine qa ?_;intros;exact qc ⟨_,rfl,rfl,by rw [QA,if_pos h]⟩
 ·have h:¬a<b:=by simpa using ht
  refine qa ?_;intros;refine qb rfl (fun ht=>?_) (fun ht=>?_)
  ·have h2:b<a:=by simpa using ht
   refine qa ?_;intros;exact qc ⟨_,rfl,rfl,by rw [QA,if_neg h,if_pos h2]⟩
  ·have h2:¬b<a:=by simpa using ht
   refine qa ?_;intros;exact qc ⟨_,rfl,rfl,by rw [QA,if_neg h,if_neg h2]⟩
theorem Fp(a b:Int):yE Tryz.prog 7 ⟨.lf,7⟩ 221 [.one (.f (.sl 1 2 [.c (.int .i64 a),.c (.int .i64 b)]))] fun d=>d=.int (if a=0 then b else a):=by
 refine zy (pC 221).2 rfl e9 fun Z0 lo=>?_;refine qa ?_;intros;refine qm (fun k E S nk=>∃i:Nat,i+k=2/\(i=1->a=0)/\(i=2->a=0/\b=0)/\E=[(3,.int 0),(6,.one (.f (.sl 1 2 [.c (.int .i64 a),.c (.int .i64 b)]))),(7,.int 2),(8,.int i)]/\S=[]/\nk=0) ⟨2,_,_,_,[],?wk,0,rfl,by simp,by simp,rfl,rfl,rfl⟩ ?_
 case wk=>exact ql
 rintro k E S nk ⟨i,hi,h1,h2,rfl,rfl,rfl⟩;have e0:qT [FD.c (.int .i64 a),FD.c (.int .i64 b)] (0*1) 1=some [.c (.int .i64 a)]:=rfl;have e1:qT [FD.c (.int .i64 a),FD.c (.int .i64 b)] (1*1) 1=some [.c (.int .i64 b)]:=rfl
 match i,hi with
 |0,_=>
  refine qa ?_;intros;refine qb rfl (fun _=>?_) (fun ht=>by cases ht);refine qa ?_;intros;refine qb rfl (fun ht=>?_) (fun ht=>?_)
  ·have h:¬a=0:=by simpa using ht
   refine qa ?_;intros;exact qc ⟨_,rfl,rfl,by rw [if_neg h]⟩
  ·have h:a=0:=by simpa using ht
   refine qa ?_;intros;refine⟨k-1,by omega,_,_,_,[],?wk1,1,by omega,fun _=>h,by simp,rfl,rfl,rfl⟩
   case wk1=>exact ql
 |1,_=>
  have h:=h1 rfl;refine qa ?_;intros;refine qb rfl (fun _=>?_) (fun ht=>by cases ht);refine qa ?_;intros;refine qb rfl (fun ht=>?_) (fun ht=>?_)
  ·refine qa ?_;intros;exact qc ⟨_,rfl,rfl,by rw [if_pos h]⟩
  ·have h':b=0:=by simpa using ht
   refine qa ?_;intros;refine⟨k-1,by omega,_,_,_,[],?wk2,2,by omega,by simp,fun _=>⟨h,h'⟩,rfl,rfl,rfl⟩
   case wk2=>exact ql
 |2,_=>
  obtain⟨h,h'⟩:=h2 rfl;refine qa ?_;intros;refine qb rfl (fun ht=>by cases ht) (fun _=>?_);refine qa ?_;intros;exact qc ⟨_,rfl,rfl,by rw [if_pos h,h']⟩
 |i+3,h=>omega
theorem L6(a b:qd):(if QA a.2 b.2=0 then QA a.1 b.1 else QA a.2 b.2)=wS a b:=by
 obtain⟨a1,a2⟩:=a;obtain⟨b1,b2⟩:=b;unfold QA wS qO;rcases Int.lt_trichotomy a2 b2 with h|h|h
 ·have h1:¬b2<a2:=by omega
  simp [h]
 ·subst h;rcases Int.lt_trichotomy a1 b1 with h|h|h
  ·simp [h]
  ·subst h;simp
  ·have h1:¬a1<b1:=by omega
   have h2:¬a1=b1:=by omega
   simp [h,h1,h2]
 ·have h1:¬a2<b2:=by omega
  have h2:¬a2=b2:=by omega
  simp [h,h1,h2]
end Go.Ah
