/- -/
import Derived.Test.YtdlelodnhjacgaaGreatDoorAb17
import Derived.Shelf.LaysM
import Derived.Shelf.Strconv.Itoa3
import Derived.Test.YtdlelodnhjacgaaGreatDoorProg
import Derived.KernelRfl
set_option linter.unusedSimpArgs false
set_option linter.unusedVariables false
set_option maxRecDepth 8000
set_option maxHeartbeats 16000000
namespace Go.Proofs
open Go.Shelf
def Tryz.laysM171_ren:Go.Shelf.Ren:=⟨fun|171=>208|243=>210|246=>211|283=>212|284=>213|285=>214|286=>215|129=>217|317=>216|318=>218|319=>219|320=>220|337=>221|338=>222|n=>n,fun|3=>3|9=>9|2=>2|4=>4|171=>329|0=>0|53=>330|37=>119|5=>5|173=>333|212=>336|51=>337|20=>20|213=>338|46=>339|232=>342|233=>343|n=>n,fun|17=>3|18=>4|19=>5|n=>n⟩
theorem Tryz.laysM171:Go.Proofs.LaysM.n171 Tryz.prog Tryz.laysM171_ren:={
 mixed:=by kernel_rfl
 f129:=Tryz.func217.trans (congrArg some (by kernel_rfl))
 f171:=Tryz.func208.trans (congrArg some (by kernel_rfl))
 f243:=Tryz.func210.trans (congrArg some (by kernel_rfl))
 f246:=Tryz.func211.trans (congrArg some (by kernel_rfl))
 f283:=Tryz.func212.trans (congrArg some (by kernel_rfl))
 f284:=Tryz.func213.trans (congrArg some (by kernel_rfl))
 f285:=Tryz.func214.trans (congrArg some (by kernel_rfl))
 f286:=Tryz.func215.trans (congrArg some (by kernel_rfl))
 f317:=Tryz.func216.trans (congrArg some (by kernel_rfl))
 f318:=Tryz.func218.trans (congrArg some (by kernel_rfl))
 f319:=Tryz.func219.trans (congrArg some (by kernel_rfl))
 f320:=Tryz.func220.trans (congrArg some (by kernel_rfl))
 f337:=Tryz.func221.trans (congrArg some (by kernel_rfl))
 f338:=Tryz.func222.trans (congrArg some (by kernel_rfl))
 t0:=Tryz.underlying0
 a0:=Tryz.isAgg0
 z0:=Tryz.sizeOf0
 v0:=Tryz.zeroValue0
 t2:=Tryz.underlying2
 a2:=Tryz.isAgg2
 z2:=Tryz.sizeOf2
 v2:=Tryz.zeroValue2
 t3:=Tryz.underlying3
 a3:=Tryz.isAgg3
 z3:=Tryz.sizeOf3
 v3:=Tryz.zeroValue3
 t4:=Tryz.underlying4
 a4:=Tryz.isAgg4
 z4:=Tryz.sizeOf4
 v4:=Tryz.zeroValue4
 t5:=Tryz.underlying5
 a5:=Tryz.isAgg5
 z5:=Tryz.sizeOf5
 v5:=Tryz.zeroValue5
 t9:=Tryz.underlying9
 a9:=Tryz.isAgg9
 z9:=Tryz.sizeOf9
 v9:=Tryz.zeroValue9
 t20:=Tryz.underlying20
 a20:=Tryz.isAgg20
 z20:=Tryz.sizeOf20
 v20:=Tryz.zeroValue20
 t37:=Tryz.underlying119
 a37:=Tryz.isAgg119
 z37:=Tryz.sizeOf119
 v37:=Tryz.zeroValue119
 t46:=Tryz.underlying339
 a46:=Tryz.isAgg339
 z46:=Tryz.sizeOf339
 v46:=Tryz.zeroValue339
 t51:=Tryz.underlying337
 a51:=Tryz.isAgg337
 z51:=Tryz.sizeOf337
 v51:=Tryz.zeroValue337
 t53:=Tryz.underlying330
 a53:=Tryz.isAgg330
 z53:=Tryz.sizeOf330
 v53:=Tryz.zeroValue330
 t171:=Tryz.underlying329
 a171:=Tryz.isAgg329
 z171:=Tryz.sizeOf329
 v171:=Tryz.zeroValue329
 t173:=Tryz.underlying333
 a173:=Tryz.isAgg333
 z173:=Tryz.sizeOf333
 v173:=Tryz.zeroValue333
 t212:=Tryz.underlying336
 a212:=Tryz.isAgg336
 z212:=Tryz.sizeOf336
 v212:=Tryz.zeroValue336
 t213:=Tryz.underlying338
 a213:=Tryz.isAgg338
 z213:=Tryz.sizeOf338
 t232:=Tryz.underlying342
 a232:=Tryz.isAgg342
 z232:=Tryz.sizeOf342
 v232:=Tryz.zeroValue342
 t233:=Tryz.underlying343
 a233:=Tryz.isAgg343
 z233:=Tryz.sizeOf343
 v233:=Tryz.zeroValue343
 g17:=by kernel_rfl
 g18:=by kernel_rfl
 g19:=by kernel_rfl
 i0:=by kernel_rfl
 i2:=by kernel_rfl
 i3:=by kernel_rfl
 i4:=by kernel_rfl
 i5:=by kernel_rfl
 i9:=by kernel_rfl
 i20:=by kernel_rfl
 i37:=by kernel_rfl
 i46:=by kernel_rfl
 i51:=by kernel_rfl
 i53:=by kernel_rfl
 i171:=by kernel_rfl
 i173:=by kernel_rfl
 i212:=by kernel_rfl
 i232:=by kernel_rfl
 i233:=by kernel_rfl
 m17:=by kernel_rfl
 m18:=by kernel_rfl
 m19:=by kernel_rfl }
open Go.RowKit Go.Sort Go.Lib in
theorem Tryz.strconv_Itoa(n:Int)(h0: -9223372036854775808<=n)(h1:n<=9223372036854775807)(w:World)(htab:Lib.TabIs Tryz.prog w "internal/strconv.uint64pow10" .u64 Lib.pow10Tab):
 Calls Tryz.prog 208 #[.int .i64 n] w fun e w'=>e=.returned (.string ⟨(Lib.itoa n).toArray⟩)/\∃k os,w'=grow (w.drewN k) os:=Any.strconv_Itoa Tryz.laysM171 n h0 h1 w htab
end Go.Proofs
namespace Go.Ab
open Go.Proofs
section
variable{P:Program}{G:Nat}{μ:Nat->Pl}{K:Nat->Prop}{H:Hp}{w:World}
theorem uW{q:Nat}{os:Array Obj}{i:Nat}(h:i<w.heap.size):(Go.Sort.grow (w.drewN q) os).heap[i]?=w.heap[i]?:=by
 show (w.heap++os)[i]?=_
 rw [Ck h]
theorem Rel.more(hR:Rel G μ K H w)(q:Nat)(os:Array Obj):Rel G μ K H (Go.Sort.grow (w.drewN q) os):=
 ⟨hR.dom,hR.lt,fun b bk hb=>by rw [uW (hR.blk_lt hb)];exact hR.blk b bk hb,hR.inj,hR.glob⟩
theorem Fr.more(hR:Rel G μ K H w)(q:Nat)(os:Array Obj):Fr μ K H w μ K H (Go.Sort.grow (w.drewN q) os):=
 ⟨⟨rfl,rfl,rfl,Nat.le_add_right _ _⟩,by show w.heap.size<=(w.heap++os).size;rw [Array.size_append];omega,fun i hi _=>uW hi,fun b bk h hm=>.inl ⟨b,bk,h,hm,rfl⟩,fun b bk hb h=>absurd (hR.lt b (hR.dom b bk h)) (by omega),fun _ _=>rfl,fun _ h=>h,fun _ _ h=>h,qz _,fun _ _ h=>h,fun _ _ _ h h'=>by rw [h] at h';rw [zsi h'],fun _ _ h _=>h⟩
theorem xc.quiet{f:FuncId}{args:List V}{c:C}{x:Value}(hc:∀μ K,RV μ K (.one c) x)(h:∀μ K w xs,Rel G μ K H w->qe (RV μ K) args xs->Calls P f xs.toArray w fun e w'=>e=.returned x/\∃q os,w'=Go.Sort.grow (w.drewN q) os):xc P G f args H fun v H'=>v=.one c/\H'=H:=fun μ K w xs hR ha=>
 (h μ K w xs hR ha).mono fun e w' ⟨he,q,os,hw⟩=>⟨x,he,.one c,H,μ,K,⟨rfl,rfl⟩,hc μ K,by rw [hw];exact hR.more q os,by rw [hw];exact Fr.more hR q os⟩
end
end Go.Ab
namespace Go.Ai
open Go.Ab Go.Proofs
theorem NM:Tryz.prog.globalNamed "internal/strconv.uint64pow10"=some 3:=by kernel_rfl
theorem S4:powG=.row 20 (Go.Lib.pow10Tab.map fun z=>C.int .u64 z) .lf false:=by kernel_rfl
theorem Lr{μ:Nat->Pl}{K:Nat->Prop}{H:Hp}{w:World}(hH:∀b bk,(H00 1).get b=some bk->H.get b=some bk)(hR:Rel GN μ K H w):Go.Lib.TabIs Tryz.prog w "internal/strconv.uint64pow10" .u64 Go.Lib.pow10Tab:=by
 obtain⟨_,h1,h2,h3⟩:=hR.glob 3 qr;have h4:=h3 20 qr;have hb:=hR.blk 3 powG (hH 3 powG (by rw [H00get];rfl));rw [S4,h1] at hb;obtain⟨cs,t,fz,e1,e2,e3,e4,e5⟩:=hb;unfold Go.Lib.TabIs World.var?;rw [NM];simp only [JN,e1];congr 1;have hl:Go.Lib.pow10Tab.length=20:=Go.Lib.pow10Tab_length;refine Array.ext_getElem? fun i=>?_;by_cases hi:i<20
 ·have hz:Go.Lib.pow10Tab[i]?=some (Go.Lib.pow10Tab[i]'oM):=zge oM;obtain⟨x,hx,hr⟩:=e5 i (.int .u64 (Go.Lib.pow10Tab[i]'oM)) (by
   simp only [B.cell,if_pos hi,T.get_lf,bE,xX,hl,kJ hi];rw [qT,jH,hz];rfl)
  rw [h2,ym] at hx;rw [hx];have hr:x=.int .u64 (Go.Lib.pow10Tab[i]'oM):=hr;rw [hr,List.getElem?_toArray,jH,hz];rfl
 ·rw [LP (by omega),LP (by simp [hl];omega)]
def uT(n:Nat):ByteArray:=⟨(Go.Lib.decDigits n).toArray⟩
theorem PY{n:Nat}(hn:n<9223372036854775808):DK 208 [.int n] fun d=>d=.one (.f (.c (.str (uT n)))):=by
 refine yR.of_pure (vs:=[.one (.int .i64 n)]) ⟨O,trivial⟩ O fun H hH=>?_;refine xc.quiet (x:=.string (uT n)) (fun μ K=>O) fun μ K w xs hR ha=>?_;have hxs:xs=[.int .i64 (n:Int)]:=by
  cases xs with
  |nil=>cases ha
  |cons y ys=>
   obtain⟨h1,h2⟩:=ha;cases ys with
   |nil=>have h1:y=.int .i64 (n:Int):=h1;rw [h1]
   |cons _ _=>cases h2
 subst hxs;have:=Tryz.strconv_Itoa (n:Int) oM oM w (Lr hH hR);rw [show Go.Lib.itoa (n:Int)=Go.Lib.decDigits n by unfold Go.Lib.itoa;rw [if_neg (by omega),jW]] at this;exact this
def kM(n:Nat):List Nat:=if h:n<10 then [n] else kM (n/10)++[n % 10]
termination_by n
decreasing_by omega
theorem iP{n:Nat}(h:n<10):kM n=[n]:=by rw [kM,dif_pos h]
theorem W8{n:Nat}(h:¬n<10):kM n=kM (n/10)++[n % 10]:=by rw [kM,dif_neg h]
theorem FS(n:Nat):Go.Lib.decDigits n=(kM n).map fun d=>UInt8.ofNat (48+d):=by
 induction n using Nat.strongRecOn with
 |_ n ih=>
  by_cases h:n<10
  ·rw [Go.Lib.decDigits,dif_pos h,iP h];rfl
  ·rw [Go.Lib.decDigits,dif_neg h,W8 h,ih (n/10) (by omega),JM];rfl
theorem VF(n:Nat):∀d∈kM n,d<10:=by
 induction n using Nat.strongRecOn with
 |_ n ih=>
  intro d hd;by_cases h:n<10
  ·rw [iP h,xM] at hd;omega
  ·rw [W8 h] at hd;rcases xu.1 hd with hd|hd
   ·exact ih (n/10) oM d hd
   ·rw [xM] at hd;omega
theorem Gy(n:Nat):(kM n).foldl (fun v d=>10*v+d) 0=n:=by
 induction n using Nat.strongRecOn with
 |_ n ih=>
  by_cases h:n<10
  ·rw [iP h];simp
  ·rw [W8 h,eN,ih (n/10) (by omega)];simp only [YN,List.foldl_nil];omega
theorem IM{a:Nat}(h:a<10):kM a=[a]:=iP h
theorem r6{n:Nat}(h0:10<=n)(h:n<100):kM n=[n/10,n % 10]:=by rw [W8 (by omega),iP (by omega)];rfl
theorem r5{n:Nat}(h0:100<=n)(h:n<1000):kM n=[n/100,n/10 % 10,n % 10]:=by
 rw [W8 (by omega),r6 (by omega) (by omega),show n/10/10=n/100 by omega];rfl
theorem r4{n:Nat}(h0:1000<=n)(h:n<10000):kM n=[n/1000,n/100 % 10,n/10 % 10,n % 10]:=by
 rw [W8 (by omega),r5 (by omega) (by omega),show n/10/100=n/1000 by omega,show n/10/10=n/100 by omega];rfl
theorem IL{n:Nat}(h0:10000<=n)(h:n<100000):kM n=[n/10000,n/1000 % 10,n/100 % 10,n/10 % 10,n % 10]:=by
 rw [W8 (by omega),r4 (by omega) (by omega),show n/10/1000=n/10000 by omega,show n/10/100=n/1000 by omega,show n/10/10=n/100 by omega];rfl
theorem Fg(n:Nat):ze n=yb n (yb n (yb n (yb n (yb n [60] 0) 1) 2) 3) 4:=rfl
theorem JW(n:Nat)(l:List Int):yb n l 0=(if 10000<=n\/0=4 then l++[yO (n/10000 % 10)] else l)/\yb n l 1=(if 1000<=n\/1=4 then l++[yO (n/1000 % 10)] else l)/\yb n l 2=(if 100<=n\/2=4 then l++[yO (n/100 % 10)] else l)/\yb n l 3=(if 10<=n\/3=4 then l++[yO (n/10 % 10)] else l)/\yb n l 4=l++[yO (n/1 % 10)]:=⟨rfl,rfl,rfl,rfl,by unfold yb;rw [if_pos (.inr rfl)];rfl⟩
theorem Xw{n:Nat}(hn:n<=99999):ze n=60::(kM n).map yO:=by
 rw [Fg,(JW n _).2.2.2.2,(JW n _).2.2.2.1,(JW n _).2.2.1,(JW n _).2.1,(JW n _).1];rcases (by omega:n<10\/(10<=n/\n<100)\/(100<=n/\n<1000)\/(1000<=n/\n<10000)\/(10000<=n/\n<100000)) with h|⟨h0,h⟩|⟨h0,h⟩|⟨h0,h⟩|⟨h0,h⟩
 ·rw [if_neg (show¬(10000<=n\/0=4) by omega),if_neg (show¬(1000<=n\/1=4) by omega),if_neg (show¬(100<=n\/2=4) by omega),if_neg (show¬(10<=n\/3=4) by omega),IM h,Nat.div_one,kJ h];rfl
 ·rw [if_neg (show¬(10000<=n\/0=4) by omega),if_neg (show¬(1000<=n\/1=4) by omega),if_neg (show¬(100<=n\/2=4) by omega),if_pos (show 10<=n\/3=4 by omega),r6 h0 h,Nat.div_one,kJ (show n/10<10 by omega)];rfl
 ·rw [if_neg (show¬(10000<=n\/0=4) by omega),if_neg (show¬(1000<=n\/1=4) by omega),if_pos (show 100<=n\/2=4 by omega),if_pos (show 10<=n\/3=4 by omega),r5 h0 h,Nat.div_one,kJ (show n/100<10 by omega)];rfl
 ·rw [if_neg (show¬(10000<=n\/0=4) by omega),if_pos (show 1000<=n\/1=4 by omega),if_pos (show 100<=n\/2=4 by omega),if_pos (show 10<=n\/3=4 by omega),r4 h0 h,Nat.div_one,kJ (show n/1000<10 by omega)];rfl
 ·rw [if_pos (show 10000<=n\/0=4 by omega),if_pos (show 1000<=n\/1=4 by omega),if_pos (show 100<=n\/2=4 by omega),if_pos (show 10<=n\/3=4 by omega),IL h0 h,Nat.div_one,kJ (show n/10000<10 by omega)];rfl
theorem m7{n:Nat}(hn:n<=99999):1<=(kM n).length/\(kM n).length<=5:=by
 rcases (by omega:n<10\/(10<=n/\n<100)\/(100<=n/\n<1000)\/(1000<=n/\n<10000)\/(10000<=n/\n<100000)) with h|⟨h0,h⟩|⟨h0,h⟩|⟨h0,h⟩|⟨h0,h⟩
 ·rw [IM h];simp
 ·rw [r6 h0 h];simp
 ·rw [r5 h0 h];simp
 ·rw [r4 h0 h];simp
 ·rw [IL h0 h];simp
theorem UF{n:Nat}(hn:n<=99999)(h2:2<=(kM n).length):(kM n).getD 0 0≠0:=by
 rcases (by omega:n<10\/(10<=n/\n<100)\/(100<=n/\n<1000)\/(1000<=n/\n<10000)\/(10000<=n/\n<100000)) with h|⟨h0,h⟩|⟨h0,h⟩|⟨h0,h⟩|⟨h0,h⟩
 ·rw [IM h] at h2;simp at h2
 ·rw [r6 h0 h];show n/10≠0;omega
 ·rw [r5 h0 h];show n/100≠0;omega
 ·rw [r4 h0 h];show n/1000≠0;omega
 ·rw [IL h0 h];show n/10000≠0;omega
end Go.Ai
namespace Go.Ab
section
variable{p:Par}{base rs:Nat}{Q:qk->Bx->Nat->Prop}{r:List SOper}{W:Wt}{A:List Nat}{E:qk}{S:Bx}{nk:Nat}{id:Nat}{dst:Option Nat}{aid:Option Nat}{ws:List Nat}{keep:Bool}
def dY(s:ByteArray):List FD:=s.data.toList.map fun b=>.c (.int .u8 b.toNat)
theorem Bb(s:ByteArray):(dY s).length=s.size:=by unfold dY;rw [xX,Array.length_toList];rfl
theorem fU{H:Hp}{b:Nat}:∀{l:List C} {o:Nat},(∀i c,l[i]?=some c->H.cell b (o+i)=some c)->H.loads b o l.length=some l
 |[],o,_=>by simp [Hp.loads]
 |c::l,o,h=>by
  have h0:=h 0 c rfl;have ih:=fU (H:=H) (b:=b) (l:=l) (o:=o+1) fun i c hi=>by have:=h (i+1) c hi;rwa [show o+(i+1)=o+1+i by omega] at this
  rw [nS] at h0;simp [Hp.loads,h0,ih]
theorem Dn{x:Opd}{s:ByteArray}(hx:ro E x=some (.one (.f (.c (.str s)))))(h:DPW p base rs Q r W A (qI E dst (.one (.f (.sl 1 s.size (dY s))))) S nk):DPW p base rs Q (⟨id,dst,.e (.sbytes x),none,aid,ws,keep⟩::r) W A E S nk:=.mk fun Z β H F c QP hS hE hC hA=>by
 have hv:=xj hE hx;simp only [qC,qH,if_true,xe,hv];have hl:(s.data.toList.map fun b=>C.int .u8 b.toNat).length=s.size:=by rw [xX,Array.length_toList];rfl
 generalize hcs:(s.data.toList.map fun b=>C.int .u8 b.toNat)=cs at *;have hg:∀b,Z b->(H.push (.row s.size cs .lf false)).get b=H.get b:=fun b hb=>by
  rw [Hp.get_push,if_neg (by have:=hS.z b hb;omega)]
 have hz:∀b,(Z b\/(H.nx<=b/\b<(H.push (.row s.size cs .lf false)).nx))↔Z b\/(H.nx<=b/\(Z b\/(H.nx<=b/\b<(H.push (.row s.size cs .lf false)).nx))):=fun b=>⟨fun h=>h.elim .inl fun h=>.inr ⟨h.1,.inr h⟩,fun h=>h.elim .inl fun h=>h.2⟩;have hnx:H.nx<=(H.push (.row s.size cs .lf false)).nx:=sM;have hg':∀b,b<H.nx->(H.push (.row s.size cs .lf false)).get b=H.get b:=fun b hb=>by rw [Hp.get_push,if_neg (by omega)]
 obtain⟨hS',hZ⟩:=hS.grow (Z':=fun b=>Z b\/(H.nx<=b/\b<(H.push (.row s.size cs .lf false)).nx)) hz (fun b hb=>hb.elim (fun h=>Qg (hS.z b h) hnx) fun h=>h.2) (hS.wf.push _) hnx hg';have hC':=hC.same hZ (xL.refl β) hg' hS.wf;have hcell:∀i x,cs[i]?=some x->(H.push (.row s.size cs .lf false)).cell H.nx (0+i)=some x:=fun i x hi=>by
  have hlt:=(zgs hi).1;simp only [Hp.cell,Hp.get_push,if_true,JN,B.cell,ym,if_pos (show i<s.size by omega),T.get_lf,bE,kJ hlt];rw [qT,hi];rfl
 have hload:=fU (H:=H.push (.row s.size cs .lf false)) (b:=H.nx) (l:=cs) (o:=0) hcell;have hrf:xi (fun b=>Z b\/(H.nx<=b/\b<(H.push (.row s.size cs .lf false)).nx)) (H.push (.row s.size cs .lf false)) β (.one (.f (.sl 1 s.size (dY s)))) (.one (.slc H.nx 0 s.size s.size 1 false)):=by
  refine⟨_,O,RF.sl (cs:=cs) (fun _=>.inr ⟨qz _,by simp⟩) (by rw [Bb,X2]) (qz _) (by rw [X2];have h5:=hload;rw [hl] at h5;exact h5) fun i d x hd hx=>?_⟩;rw [<-hcs,jH] at hx;unfold dY at hd;rw [jH] at hd;cases hb:s.data.toList[i]? with
  |none=>rw [hb] at hd;cases hd
  |some b=>
   rw [hb] at hd hx;obtain rfl:=zsi hd;obtain rfl:=zsi hx;exact .c _ O
 exact⟨hC'.watch ws,h.run _ β _ _ c QP hS' ((hE.mono hZ (xL.refl _)).set dst hrf) hC' (hA.grow hz hnx hg')⟩
theorem S8(z:List C)(n:Nat):(jy z n).length=n:=by simp [jy]
theorem S7{z:List C}{n:Nat}{c:C}(h:c∈jy z n):c∈z\/c=.nilp:=by
 obtain⟨i,_,rfl⟩:=j6.1 h;rw [qT];cases hz:z[i % z.length]? with
 |none=>exact .inr O
 |some x=>exact .inl (zmg hz)
theorem CO{Z:Nat->Prop}{H:Hp}:∀{l:List C},(∀c∈l,c.closed=true)->qe (RF Z H) (l.map FD.c) l
 |[],_=>trivial
 |c::l,h=>⟨.c c (h c QC),CO fun x hx=>h x (Q7 _ hx)⟩
theorem Oa {esz bytes:Nat} {s y:Opd} {k n m:Nat} {kd:IntKind} {z:List C} {l l':List FD} (hs:ro E s=some (.one (.own k 0 n esz))) (hy:ro E y=some (.one (.f (.c (.int kd (m:Nat)))))) (hk:lk S k=some (.data l)) (hl':xd l 0 (n*esz)=some l') (hzc:∀c∈z,c.closed=true) (hzl:z.length=esz) (hbb:(n+m)*bytes<=140737488355328) (h62:n+m<4611686018427387904) (he:0<esz) (hw:X4 S k W=true)
 (h:DPW p base rs Q r W A (qI E dst (.one (.own nk 0 (n+m) esz))) ((nk,.data (l'++(jy z (m*esz)).map FD.c))::xP k S) (nk+1)):DPW p base rs Q (⟨id,dst,.e (.appendz esz bytes z s y),none,aid,ws,keep⟩::r) W A E S nk:=.mk fun Z β H F c QP hS hE hC hA=>by
 have hn1:=xj hE hy;obtain⟨news,hnw⟩:∃news,news=jy z (m*esz):=⟨_,rfl⟩;obtain⟨q,hq⟩:∃q,q=(jy z (m*esz)).map FD.c:=⟨_,rfl⟩;have hn3:news.length=m*esz:=by rw [hnw];exact S8 _ _
 have hn2:qe (RF Z H) q news:=by
  rw [hq,hnw];refine CO fun c hc=>?_;rcases S7 hc with h|h
  ·exact hzc c h
  ·rw [h];rfl
 rw [<-hq] at h;obtain⟨cs,hcs,hr⟩:=xz hE hs;obtain⟨hle,hl'e⟩:=zT hl';rw [ym] at hle;rw [Kz] at hl'e;obtain⟨sk,hsk,hbx⟩:=hS.box (k,0) _ (zN hk rfl);simp only [qC,qH,if_true,xe,hn1,hcs];have hm1:m*bytes<=140737488355328:=aZ (X1 _ (Nat.le_add_left m n)) hbb;rw [if_pos ⟨eO m,by rw [jW];exact hm1,by rw [jW];omega⟩,jW,<-hnw];have hfin:∀(H':Hp) (b:Nat) (ys rest:List C) (cap:Nat) (ex:Bool),qe (RF Z H) (l'++q) ys->((∃N,β (k,0)=some (.blk b N))\/(b=H.nx))->b<H'.nx->H.nx<=H'.nx->WF H'->(∀b',b'≠b->(∀N,β (k,0)≠some (.blk b' N))->H'.get b'=H.get b')->yM H' b (ys++rest)->n+m<=cap->cap*esz<=(ys++rest).length->
  yi ws c H'/\qC p.P p.G base QP (fun F' H'=>∃E' S' nk' Z' β',SR p Z' β' H' S' nk'/\ER Z' β' H' E' F'/\Q E' S' nk') r c (xg F dst (.one (.slc b 0 (n+m) cap esz ex))) H':=by
  intro H' b ys rest cap ex hys hb hbl hnx hwf hg hrow hcap hcl;have hb':(∃N,β (k,0)=some (.blk b N))\/H.nx<=b:=hb.imp (fun h=>h) fun e=>by omega
  obtain⟨hS',hZ,hB⟩:=hS.replace (x':=.data (l'++q)) hk rfl hys (hb.imp (fun h=>h) fun e=>by subst e;exact⟨fun hz=>absurd (hS.z _ hz) oM,fun k N hk=>absurd (hS.bd k _ N hk) oM,hS.lo⟩) hbl hnx hwf hg rfl hrow;have hC':=hC.repl hS hk hZ hB hg hb' hw;exact⟨hC'.watch ws,h.run Z _ H' _ c QP hS' ((hE.mono hZ hB).set dst ⟨_,O,.inr ⟨b,_,cap,ex,xk _ _ _,O,hcap,oM⟩⟩) hC' (hA.repl hnx hg hb')⟩
 rcases hr with⟨hnil,rfl,_,rfl⟩|⟨b,N,cap,ex,hb,rfl,hcap,hcN⟩
 ·have hl0:l'=[]:=by rw [hl'e];simp
  subst hl0;simp only [yx];rw [ym] at hbb h62;by_cases hm:m=0
  ·subst hm;rw [if_pos rfl];have hq0:q=[]:=vw (by rw [hn2.len,hn3];simp);subst hq0;refine⟨hC.watch ws,?_⟩;have hB:=hS.ble .nil;have hkn:=hS.lt hk;have hZ:=xb.refl Z H;have hS':SR p Z (wm β nk .nil) H ((nk,.data [])::xP k S) (nk+1):=by
    exact (V1 hS).keepS fun j y hj=>by
     rw [qw] at hj ⊢;split at hj
     ·rename_i e;rw [if_pos e];exact hj
     ·rename_i e;rw [if_neg e];rw [yB] at hj;split at hj
      ·cases hj
      ·exact hj
   refine h.run Z _ H _ c QP hS' ((hE.mono hZ hB).set dst ⟨_,O,.inl ⟨xk _ _ _,O,O,O⟩⟩) (hC.step hZ hB fun _ _ _ _ _ _ _ _ _ _ _ _ _ h=>h) ⟨hA.1,fun j hj hjA=>?_⟩;obtain⟨h1,h2,h3,h4⟩:=hA.2 j hj hjA;refine⟨h1,h2,h3,fun i M=>?_⟩;by_cases e:i=(nk,0)
   ·subst e;rw [xk];intro h;cases h
   ·rw [z8 _ _ e];exact h4 i M
  ·rw [if_neg hm,if_pos ⟨hbb,h62⟩];have:=hfin (H.push (.row news.length news .lf true)) H.nx news [] m false (by simpa using hn2) (.inr rfl) (by simp) (by simp) (hS.wf.push _) (fun b' hb' _=>by rw [Hp.get_push,if_neg hb']) (by rw [yI];exact yM.new news) (by omega) (by simp [hn3]);rw [ym] at this;exact this
 ·rw [hb] at hsk;obtain rfl:=zsi hsk;obtain⟨hz,hlo,hlt,cells,rest,hrow,hN,hrel⟩:=hbx;have hN:(cells++rest).length=_:=hN;have hlen:l.length=cells.length:=Bk.rel_len hrel;have hoN:n*esz<=N:=by
   have:n*esz<=cap*esz:=X1 _ hcap;omega
  have hpre:qe (RF Z H) l' (cells.take (n*esz)):=by rw [hl'e];exact qe.take hrel _
  simp only [yx];rw [if_neg (by simp)];by_cases hfit:n+m<=cap
  ·rw [if_pos hfit,ym];have hcm:(n+m)*esz<=cap*esz:=X1 _ hfit;rw [wW] at hcm;have hsplit:cells++rest=cells.take (n*esz)++((cells++rest).drop (n*esz)).take (m*esz)++(cells++rest).drop (n*esz+m*esz):=by
    rw [j5,<-DR,ZV,<-Kt (l₁:=cells) (l₂:=rest) (by omega),ZV]
   obtain⟨H',e1,e2,e3,e4⟩:=hrow.stores (cs:=news) (i:=n*esz) (by rw [hN,hn3];omega);rw [e1];have hset:wn (cells++rest) (n*esz) news=(cells.take (n*esz)++news)++(cells++rest).drop (n*esz+m*esz):=by
    conv=>lhs;rw [hsplit,j5]
    have:=Jh (cells.take (n*esz)) (((cells++rest).drop (n*esz)).take (m*esz)) news ((cells++rest).drop (n*esz+m*esz)) (by rw [hn3,xS,zS,hN];omega);rw [xS,L7 (by omega)] at this;rw [this,j5]
   rw [hset] at e2;refine hfin H' b (cells.take (n*esz)++news) _ cap ex (hpre.append hn2) (.inl ⟨N,hb⟩) oM oM (fun b' bk hb'=>?_) (fun b' hb' _=>e3 b' hb') e2 hfit ?_
   ·rw [e4];by_cases e:b'=b
    ·omega
    ·rw [e3 b' e] at hb';exact hS.wf b' bk hb'
   ·have h1:=congrArg List.length hset;rw [ka] at h1;omega
  ·rw [if_neg hfit,if_pos ⟨hbb,h62⟩];have hld:H.loads b 0 (n*esz)=some (cells.take (n*esz)):=by
    have:=y6 hrow.2 (m:=n*esz) oM;rw [this,Kt (by omega)]
   rw [hld];have hlen2:(cells.take (n*esz)++news).length=(n+m)*esz:=by
    rw [qE,xS,hn3,wW];omega
   have hrow':=yM.new (H:=H) (cells.take (n*esz)++news);cases ex with
   |true=>
    simp only [if_true];exact hfin _ H.nx (cells.take (n*esz)++news) [] (n+m) false (hpre.append hn2) (.inr O) (by simp) (by simp) (hS.wf.push _) (fun b' hb' _=>by rw [Hp.get_push,if_neg hb']) (by rw [yI];exact hrow') (qz _) (by rw [yI,hlen2];exact qz _)
   |false=>
    simp only [yz,if_false,hrow.mut,if_true];refine hfin _ H.nx (cells.take (n*esz)++news) [] (n+m) false (hpre.append hn2) (.inr O) (by simp) (by simp) (fun b' bk hb'=>?_) (fun b' hb' hne=>?_) (by rw [yI];exact hrow'.same (by rw [Hp.get_del,if_neg (by omega)])) (qz _) (by rw [yI,hlen2];exact qz _)
    ·rw [Hp.get_del] at hb';split at hb'
     ·cases hb'
     ·exact hS.wf.push _ b' bk hb'
    ·rw [Hp.get_del,if_neg (fun (e:b'=b)=>hne N (by rw [e];exact hb)),Hp.get_push,if_neg hb']
end
end Go.Ab
namespace Go.Ai
open Go.Ab Go.Proofs
theorem GF(n:Nat):dY (uT n)=((kM n).map fun d=>((48+d:Nat):Int)).flatMap qU:=by
 unfold dY uT;show ((Go.Lib.decDigits n).toArray.toList.map _)=_;rw [FS];have key:∀l:List Nat,(∀d∈l,d<10)->((l.map fun d=>UInt8.ofNat (48+d)).map fun b=>FD.c (.int .u8 b.toNat))=(l.map fun d=>((48+d:Nat):Int)).flatMap qU:=by
  intro l hl;induction l with
  |nil=>rfl
  |cons d l ih=>
   rw [jr,jr,jr,wB,ih fun x hx=>hl x (Q7 _ hx)];have:=hl d QC;have e:(UInt8.ofNat (48+d)).toNat=48+d:=by rw [UInt8.toNat_ofNat'];omega
   rw [e];rfl
 exact key _ (VF n)
theorem uS(n:Nat):(uT n).size=((kM n).map fun d=>((48+d:Nat):Int)).length:=by
 show (Go.Lib.decDigits n).toArray.size=_
 rw [FS];simp
theorem Wz{α:Type}[Inhabited α]{l:List α}{i:Nat}(h:i<l.length):l.take (i+1)=l.take i++[l.getD i default]:=by
 rw [Q5,zge h,qT,zge h];rfl
theorem TI{d:Nat}(h:d<10):d=0\/d=1\/d=2\/d=3\/d=4\/d=5\/d=6\/d=7\/d=8\/d=9:=by omega
theorem U2{n:Nat}(hn:n<=99999):DK 206 [.int n] fun d=>d=.tup [qq (ze n),.int 0]:=by
 have hl:=m7 hn;have hlt:=VF n;have hby:=GF n;have hsz:=uS n;rw [Xw hn];refine xr ?_;intros;refine qS O O (PY (n:=n) oM) ?_;intros;refine Dn O ?_;rw [hby,hsz];generalize kM n=l at *;obtain⟨s,hs⟩:∃s:List Int,s=l.map fun d=>((48+d:Nat):Int):=⟨_,rfl⟩;rw [<-hs];have hsl:s.length=l.length:=by rw [hs,xX]
 have hsg:∀j,j<l.length->s.getD j default=((48+l.getD j default:Nat):Int):=fun j hj=>by
  rw [hs,qT,jH,zge hj,qT,zge hj];rfl
 refine qc ?_;intros;refine qN (fun m E S nk=>∃(j:Nat) (o:List Int),j+m=s.length/\o=60::(l.take j).map yO/\o.length=j+1/\E=[(4,.one (.own 0 0 o.length 1)),(16,qq s),(17,.int s.length),(18,.int j)]/\S=[(0,.data (o.flatMap qU))]/\nk=1) (s.length) ⟨0,[60],oM,O,O,O,O,O⟩ ?_;rintro m E S nk ⟨j,o,hm,ho,hol,rfl,rfl,rfl⟩;refine qc ?_;intros;refine qh O (fun g=>?_) (fun g=>?_)
 ·have hd:=hsg j oM;have hd10:=hlt _ (qn (l:=l) (i:=j) oM);have hts:=Wz (l:=l) (i:=j) oM;rcases TI hd10 with h|h|h|h|h|h|h|h|h|h
  all_goals
   rw [h] at hd hts;refine qc ?_;intros;rw [hd];refine qc ?_;intros;exact qG ⟨j+1,o++[_],by omega,by rw [ho,hts,JM];rfl,by simp;omega,rfl,rfl,rfl⟩
 ·have hj:j=l.length:=oM;rw [hj,vE] at ho;refine qc ?_;intros;exact yV 2 3 O O O ⟨_,O,O,by rw [ho]⟩
end Go.Ai
