/- -/
import Derived.Test.YtdlelodnhjacgaaGreatDoorAb32
import Derived.Test.YtdlelodnhjacgaaGreatDoorAb41
import Derived.Test.YtdlelodnhjacgaaGreatDoorAb42
set_option linter.unusedSimpArgs false
set_option linter.unusedVariables false
set_option maxRecDepth 8000
set_option maxHeartbeats 32000000
namespace Go.Ai
open Go.Ab Go.Proofs
abbrev HG(a b:Int):DV:=.agg [.f (FD.int a),.f (FD.int b)]
abbrev Cw(r:RuL):DV:=.agg [.f (.c (.str r.pr)),.f (.sl 1 r.cells.length (r.cells.flatMap qU)),.f (.c (.int .u8 r.left)),.f (.c (.int .u8 r.right)),.f (.c (.int .i64 r.frm)),.f (.c (.int .i64 r.to_))]
theorem iU{s:ByteArray}{c:List Int}{a b:Int}:DK 59 [xI s,qq c,HG a b] fun d=>d=Cw (yS s c a b):=by
 refine xr ?_;intros;exact qb ⟨_,O,O,O⟩
theorem zX{s:ByteArray}{c a b:Int}:DK 59 [xI s,.one (.f (.sl 1 1 [.c (.int .u8 c)])),HG a b] fun d=>d=Cw (yS s [c] a b):=iU (c:=[c])
theorem jM{s:ByteArray}{c e a b:Int}:DK 59 [xI s,.one (.f (.sl 1 2 [.c (.int .u8 c),.c (.int .u8 e)])),HG a b] fun d=>d=Cw (yS s [c,e] a b):=iU (c:=[c,e])
theorem kZ:jg 57 [] fun d S nk=>d=.one (.own 5 0 4 6)/\S=[(5,.data (Jy.flatMap D9))]/\nk=6:=by
 refine wv fun Z0 lo=>?_;refine qc ?_;intros;refine qY 1 O qo qo ?_;refine qS O O zX ?_;intros;refine qY 2 O qo qo ?_;refine qS O O zX ?_;intros;refine qY 3 O qo qo ?_;refine qS O O zX ?_;intros;refine qY 4 O qo qo ?_;refine qS O O zX ?_;intros;exact qb ⟨_,O,O,_,qg (k:=5) O (qv _),O,O,O⟩
theorem JE{c k a b:Int}(h:k=1\/k=2\/k=3):DK 58 [.one (.f (.c (.int .u8 c))),.int k,HG a b] fun d=>d=Cw ⟨⟨#[]⟩,[c],63,2^k.toNat,a,b⟩:=by
 rcases h with rfl|rfl|rfl<;>
 ·refine xr ?_;intros;refine qY 2 O qo qo ?_;refine qf O O zX ?_;rintro _ rfl;exact jJ
theorem Hw:DK 33 [.one (.f (.c (.int .u8 0)))] fun d=>d=Zv (Xc 0):=by
 refine xr ?_;intros;refine zw O O kZ ?_;rintro _ _ _ ⟨rfl,rfl,rfl⟩;refine qc ?_;intros;refine qx (qg (k:=2) O (qv _)) (qg (k:=0) O (qg (k:=6) O (qv _))) ?_;refine qF 6 O qo qo ?_;exact qb ⟨_,O,O,O⟩
theorem Ht:DK 33 [.one (.f (.c (.int .u8 3)))] fun d=>d=Zv (Xc 1):=by
 refine xr ?_;intros;refine zw O O kZ ?_;rintro _ _ _ ⟨rfl,rfl,rfl⟩;refine qc ?_;intros;refine qY 11 O qo qo ?_;refine qS O O (by first|exact zX|exact jM) ?_;intros;refine qY 12 O qo qo ?_;refine qS O O (by first|exact zX|exact jM) ?_;intros;refine qY 13 O qo qo ?_;refine qS O O (by first|exact zX|exact jM) ?_;intros;refine zn (f:=D9) (l:=Jy) [yS ⟨#[97,98]⟩ [7] 0 0,yS ⟨#[97,98,99]⟩ [15] 0 0,yS ⟨#[99,97]⟩ [4,4] 0 0] rfl rfl rfl ⟨rfl,rfl,_,rfl,rfl⟩ rfl rfl qr qr qr (fun _=>rfl) rfl ?_;refine qc ?_;intros;refine qx (qg (k:=2) O (qv _)) (qg (k:=0) O (qg (k:=15) O (qv _))) ?_;refine qF 15 O qo qo ?_;exact qb ⟨_,O,O,O⟩
theorem Hu:DK 33 [.one (.f (.c (.int .u8 2)))] fun d=>d=Zv (Xc 2):=by
 refine xr ?_;intros;refine zw O O kZ ?_;rintro _ _ _ ⟨rfl,rfl,rfl⟩;refine qc ?_;intros;refine qS O O (JE qr) ?_;intros;refine qY 11 O qo qo ?_;refine qS O O (by first|exact zX|exact jM) ?_;intros;refine qY 12 O qo qo ?_;refine qS O O (by first|exact zX|exact jM) ?_;intros;refine zn (f:=D9) (l:=Jy) [lS 32 4,yS ⟨#[65]⟩ [1] 1 0,yS ⟨#[66]⟩ [3] 1 0] rfl rfl rfl ⟨rfl,rfl,_,rfl,rfl⟩ rfl rfl qr qr qr (fun _=>rfl) rfl ?_;refine qc ?_;intros;refine qx (qg (k:=2) O (qv _)) (qg (k:=0) O (qg (k:=14) O (qv _))) ?_;refine qF 14 O qo qo ?_;exact qb ⟨_,O,O,O⟩
theorem Hs:DK 33 [.one (.f (.c (.int .u8 6)))] fun d=>d=Zv (Xc 3):=by
 refine xr ?_;intros;refine zw O O kZ ?_;rintro _ _ _ ⟨rfl,rfl,rfl⟩;refine qc ?_;intros;refine qS O O (JE qr) ?_;intros;refine qY 11 O qo qo ?_;refine qS O O (by first|exact zX|exact jM) ?_;intros;refine qY 12 O qo qo ?_;refine qS O O (by first|exact zX|exact jM) ?_;intros;refine zn (f:=D9) (l:=Jy) [lS 40 2,yS ⟨#[225]⟩ [1] 1 0,yS ⟨#[226]⟩ [3] 1 0] rfl rfl rfl ⟨rfl,rfl,_,rfl,rfl⟩ rfl rfl qr qr qr (fun _=>rfl) rfl ?_;refine qc ?_;intros;refine qx (qg (k:=2) O (qv _)) (qg (k:=0) O (qg (k:=14) O (qv _))) ?_;refine qF 14 O qo qo ?_;exact qb ⟨_,O,O,O⟩
theorem Hv:DK 33 [.one (.f (.c (.int .u8 1)))] fun d=>d=Zv (Xc 4):=by
 refine xr ?_;intros;refine zw O O kZ ?_;rintro _ _ _ ⟨rfl,rfl,rfl⟩;refine qc ?_;intros;refine qS O O (JE qr) ?_;intros;refine qY 11 O qo qo ?_;refine qS O O (by first|exact zX|exact jM) ?_;intros;refine qY 12 O qo qo ?_;refine qS O O (by first|exact zX|exact jM) ?_;intros;refine qY 13 O qo qo ?_;refine qS O O (by first|exact zX|exact jM) ?_;intros;refine zn (f:=D9) (l:=Jy) [lS 60 8,yS ⟨#[49]⟩ [1] 1 1,yS ⟨#[50]⟩ [3] 1 1,yS ⟨#[32]⟩ [0] 1 0] rfl rfl rfl ⟨rfl,rfl,_,rfl,rfl⟩ rfl rfl qr qr qr (fun _=>rfl) rfl ?_;refine qc ?_;intros;refine qx (qg (k:=2) O (qv _)) (qg (k:=0) O (qg (k:=15) O (qv _))) ?_;refine qF 15 O qo qo ?_;exact qb ⟨_,O,O,O⟩
theorem At{m:Nat}(hm:m<5):DK 33 [.one (.f (.c (.int .u8 (([0,3,2,6,1]:List Int).getD m 0))))] fun d=>d=Zv (Xc m):=by
 rcases (by omega:m=0\/m=1\/m=2\/m=3\/m=4) with rfl|rfl|rfl|rfl|rfl
 ·exact Hw
 ·exact Ht
 ·exact Hu
 ·exact Hs
 ·exact Hv
theorem iS{n:Nat}(hn:n<256):DK 18 [.one (.f (.c (.int .u8 n)))] fun d=>d=.tup [Zv (Xc (n % 5)),xI (XX (n % 5))]:=by
 refine xr ?_;intros;rw [show (IntKind.i64.wrap (n:Int)).tmod 5=((n % 5:Nat):Int) by rw [qm (by omega) (by omega),nK (by omega)];omega];have hm:n % 5<5:=kp _ oM;have hb:=At hm;generalize n % 5=m at *;rcases (by omega:m=0\/m=1\/m=2\/m=3\/m=4) with rfl|rfl|rfl|rfl|rfl<;>
 ·refine Ob vB (fun base=>?_) (fun base=>?_)<;>
  ·refine qc ?_;intros;refine qf O O hb ?_;rintro _ rfl;exact jJ
structure RawE where
 b:List RawB
 t:Nat
 w0:Nat
 w1:Nat
 w2:Nat
structure RawE.ok (x:RawE):Prop where
 b:∀y∈x.b,y.ok
 l:x.b.length<9223372036854775808
 t:x.t<256
 w0:x.w0<256
 w1:x.w1<256
 w2:x.w2<256
abbrev rU(x:RawE):DV:=.agg [.f (.sl 10 x.b.length (x.b.flatMap QL)),.f (.c (.int .u8 x.t)),.f (.c (.int .u8 x.w0)),.f (.c (.int .u8 x.w1)),.f (.c (.int .u8 x.w2))]
theorem Li{n k:Nat}(hn:n<256)(hk:0<k):(IntKind.i64.wrap (n:Int)).tmod (k:Int)=((n % k:Nat):Int):=by
 rw [qm (by omega) (by omega),nK (by omega)];rfl
theorem PZ{x:RawE}(hx:x.ok):DK 7 [rU x] fun d=>d=kE (Xc (x.t % 5)) (24+x.w0 % 8) (4+x.w1 % 9) (1+x.w2 % 4):=by
 have e0:(IntKind.i64.wrap (x.w0:Int)).tmod 8=((x.w0 % 8:Nat):Int):=Li (k:=8) hx.w0 oM;have e1:(IntKind.i64.wrap (x.w1:Int)).tmod 9=((x.w1 % 9:Nat):Int):=Li (k:=9) hx.w1 oM;have e2:(IntKind.i64.wrap (x.w2:Int)).tmod 4=((x.w2 % 4:Nat):Int):=Li (k:=4) hx.w2 oM;refine xr ?_;intros;refine qS O O (iS hx.t) ?_;intros;refine qb ⟨_,O,O,?_⟩;rw [show (24+x.w0 % 8:Nat)=24+(x.w0 % 8) from rfl];show DV.agg [.f (FD.int (Xc (x.t % 5)).modes),.f (.c (.int .u8 (Xc (x.t % 5)).acc)),.f (Z3 (Xc (x.t % 5))),.f (FD.int (24+(IntKind.i64.wrap (x.w0:Int)).tmod 8)),.f (FD.int (4+(IntKind.i64.wrap (x.w1:Int)).tmod 9)),.f (FD.int (1+(IntKind.i64.wrap (x.w2:Int)).tmod 4))]=_;rw [e0,e1,e2];rfl
theorem Am{x:RawE}(hx:x.ok):DK 6 [rU x] fun d=>∃ms:List MB,MOk ms/\ms.length<=5/\d=Zy ms:=by
 refine xr ?_;intros;refine qS O O (iS hx.t) ?_;intros;refine qf O O (Hd (N:=5) (Bs (k:=x.t % 5) (kp _ oM)) hx.b hx.l oM) ?_;rintro _ ⟨ms,hms,hl,rfl⟩;refine qc ?_;intros;exact qb ⟨_,O,O,ms,hms,hl,O⟩
theorem S9{v:VolL}{w h ink:Nat}(hv:VolOk w h v)(hw:24<=w/\w<=60)(hh:4<=h/\h<=40)(hi:ink<=9999):lF v w h ink:=fun {i} hil=>(U0 hv hw hh hi hil).mono fun d ⟨p,e,hp,h1,h2⟩=>⟨p,e,hp,h1,fun h=>h2 oM⟩
theorem Ov{x:RawE}{ms:List MB}(hms:MOk ms)(hl:ms.length<=5):DK 5 [Zy ms,kE (Xc (x.t % 5)) (24+x.w0 % 8) (4+x.w1 % 9) (1+x.w2 % 4)] fun d=>∃(vs:List VolL) (w' h' b' a e:Int),d=.agg [.f (FD.int w'),.f (FD.int h'),.f (FD.int b'),.f (.sl 5 vs.length (vs.flatMap bF)),.f (FD.int a),.f (FD.int e)]/\vs.length<=10/\(∀v∈vs,VolOk (24+x.w0 % 8) (4+x.w1 % 9) v)/\(e=0->w'=((24+x.w0 % 8:Nat):Int)/\h'=((4+x.w1 % 9:Nat):Int)/\b'=((1+x.w2 % 4:Nat):Int)):=
 Hj oM hl fun h01 h1=>UQ (Ut (k:=x.t % 5) (kp _ oM)) oM oM oM hms hl h01 h1
theorem XH{w h:Nat}(hR:pW)(hw:24<=w/\w<=60)(hh:4<=h/\h<=40){l:List LfL}(hl:LvOk w h l){js:List Nat}(hj:∀j∈js,j<l.length)(hjl:js.length<=5001){r:Nat}{e:Int}(hc:XJ (nl (js.map (·+1)))=(r,e)){E:List Pq}{n:Nat}(hE:E=js.map (gL w h l))(hn:n=E.length):DK 9 [.one (.f (.sl 4 n (E.flatMap we)))] fun d=>d=.tup [.int r,.int e]:=by
 have:=Af hR hw hh hl hj hjl;rw [hc] at this;rw [hn,hE];exact this
theorem Ns{w h:Nat}{l:List LfL}{q:List Pq}(hq:q=Xu w h l){i k:Nat}(hi:i<l.length)(hk:k<l.length):(q.set i (q.getD k default)).set k (q.getD i default)=(bP l.length i k).map (gL w h l):=by
 rw [hq,oG hi,oG hk,fN,bP,eQ,eQ]
theorem N5{w h:Nat}{l:List LfL}{q:List Pq}(hq:q=Xu w h l){i:Nat}:q.take i++(q.take q.length).drop (i+1)=(bL l.length i).map (gL w h l):=by
 rw [hq,vE,fN,bL,JM,List.map_take,List.map_drop]
abbrev Ul(a b c:Nat):DV:=.agg [.f (.c (.int .u8 a)),.f (.c (.int .u8 b)),.f (.c (.int .u8 c))]
theorem PU(hR:pW){x:RawE}(hx:x.ok){a b c:Nat}(ha:a<256)(hb:b<256)(hc:c<256):DK 3 [rU x,Ul a b c] fun d=>d=.bool true:=by
 have hw:24<=24+x.w0 % 8/\24+x.w0 % 8<=60:=oM;have hh:4<=4+x.w1 % 9/\4+x.w1 % 9<=40:=oM;have hlay:=fun ms hms hl=>Ov (x:=x) (ms:=ms) hms hl;have hgiv:=PZ hx;have ea:IntKind.i64.wrap (a:Int)=((a:Nat):Int):=qm oM oM;have eb:IntKind.i64.wrap (b:Int)=((b:Nat):Int):=qm oM oM;have ec:IntKind.i64.wrap (c:Int)=((c:Nat):Int):=qm oM oM;generalize 24+x.w0 % 8=w at *;generalize 4+x.w1 % 9=h at *;generalize 1+x.w2 % 4=bd at *;refine xr ?_;intros;refine qS O O (PW hR) ?_;intros;refine qf O O (Am hx) ?_;rintro _ ⟨ms,hms,hml,rfl⟩;refine qc ?_;intros;refine qS O O hgiv ?_;intros;refine qf O O (hlay ms hms hml) ?_;rintro _ ⟨vs,w',h',b',at',e,rfl,hvl,hvo,he⟩;refine qc ?_;intros;by_cases h0:e=0/\vs.length≠0
 ·obtain⟨rfl,hv0⟩:=h0;obtain⟨rfl,rfl,rfl⟩:=he rfl;refine qc ?_;intros;refine qf O O (P7 hw hh hvl hvo (fun v hv {ink} hi=>S9 (hvo v hv) hw hh hi)) ?_;rintro _ ⟨P,rfl,hP,hPo⟩;have hT:Int.toNat (P.length:Int)=P.length:=jW _;refine qc ?_;intros;rw [ea];refine qc ?_;intros;rw [hT];obtain⟨j,hj⟩:∃j,j=a % P.length:=⟨_,rfl⟩;have hjl:j<P.length:=by rw [hj];exact kp _ (by omega)
  rw [<-hj];obtain⟨l,hlo,hq⟩:=hPo _ (qn (l:=P) (i:=j) hjl);have hll:=hlo.len;have hql:(P.getD j default).length=l.length:=by rw [hq,S5]
  refine qc ?_;intros;refine qh O (fun g2=>?_) (fun g2=>?_)
  ·exact jJ
  ·have hT2:Int.toNat ((P.getD j default).length:Int)=l.length:=by rw [jW,hql]
   refine qc ?_;intros;rw [eb];refine qc ?_;intros;rw [hT2];obtain⟨i,hi⟩:∃i,i=b % l.length:=⟨_,rfl⟩;have hil:i<l.length:=by rw [hi];exact kp _ (by omega)
   rw [<-hi];refine qc ?_;intros;rw [ec];refine qc ?_;intros;rw [hT2];obtain⟨k,hk⟩:∃k,k=c % l.length:=⟨_,rfl⟩;have hkl:k<l.length:=by rw [hk];exact kp _ (by omega)
   rw [<-hk];generalize P.getD j default=q at *;refine qc ?_;intros;have hEx:=Ns hq hil hkl;have hfl:(((q.set i (q.getD k default)).set k (q.getD i default)).flatMap we).length=q.length*4:=by rw [qO (f:=we) (e:=4) (fun _=>rfl),jG,jG]
   have hEl:q.length=((q.set i (q.getD k default)).set k (q.getD i default)).length:=by rw [jG,jG]
   have hl1:(q.set i (q.getD k default)).length=q.length:=jG;refine QU (f:=we) (e:=4) (i:=i) (c:=0) (l:=q) (n:=4) (q:=we (q.getD k default)) (q.getD k default) O oM O O O O oM (fun _=>O) qr O O ?_;refine qc ?_;intros;refine QU (f:=we) (e:=4) (i:=k) (c:=0) (l:=q.set i (q.getD k default)) (n:=4) (q:=we (q.getD i default)) (q.getD i default) O oM O O O O oM (fun _=>O) qr O O ?_;generalize hEE:(q.set i (q.getD k default)).set k (q.getD i default)=EE at *;refine qc ?_;intros;refine qY 4 O qo qo ?_;by_cases hik:i=k
   ·subst hik;refine qS O O (XH hR hw hh hlo (AM hil hil) (by rw [wM];omega) (Gf (by omega) hil) hEx hEl) ?_;intros;refine Zc (f:=we) (l:=q) (b:=i) O O oM O (fun _=>by rfl) ?_;refine qc ?_;intros;rw [show ((i:Int)+1)=((i+1:Nat):Int) by omega];refine Zd (f:=we) (l:=q) (a:=i+1) (b:=q.length) O O O oM oM O (fun _=>by rfl) ?_;have hMi:=N5 hq (i:=i);have hfl2:((q.take i++(q.take q.length).drop (i+1)).flatMap we).length=(q.take i++(q.take q.length).drop (i+1)).length*4:=qO (f:=we) (e:=4) (fun _=>rfl) _;refine qc ?_;intros;refine qY 7 O qo qo ?_;by_cases hlast:i+1=l.length
    ·refine qf O O (XH hR hw hh hlo Vd (by rw [jN hil];omega) (EN (by omega) (by omega) hlast) hMi O) ?_;rintro _ rfl;exact jJ
    ·refine qf O O (XH hR hw hh hlo Vd (by rw [jN hil];omega) (N4 (by omega) (by omega)) hMi O) ?_;rintro _ rfl;exact jJ
   ·refine qS O O (XH hR hw hh hlo (AM hil hkl) (by rw [wM];omega) (Gg (by omega) hil hkl hik) hEx hEl) ?_;intros;refine Zc (f:=we) (l:=q) (b:=i) O O oM O (fun _=>by rfl) ?_;refine qc ?_;intros;rw [show ((i:Int)+1)=((i+1:Nat):Int) by omega];refine Zd (f:=we) (l:=q) (a:=i+1) (b:=q.length) O O O oM oM O (fun _=>by rfl) ?_;have hMi:=N5 hq (i:=i);have hfl2:((q.take i++(q.take q.length).drop (i+1)).flatMap we).length=(q.take i++(q.take q.length).drop (i+1)).length*4:=qO (f:=we) (e:=4) (fun _=>rfl) _;refine qc ?_;intros;refine qY 7 O qo qo ?_;by_cases hlast:i+1=l.length
    ·refine qf O O (XH hR hw hh hlo Vd (by rw [jN hil];omega) (EN (by omega) (by omega) hlast) hMi O) ?_;rintro _ rfl;exact jJ
    ·refine qf O O (XH hR hw hh hlo Vd (by rw [jN hil];omega) (N4 (by omega) (by omega)) hMi O) ?_;rintro _ rfl;exact jJ
 ·by_cases e0:e=0
  ·have hv0:vs.length=0:=oM;subst e0;exact jJ
  ·refine yf O (fun g0=>?_) (fun g0=>?_)
   ·exact jJ
   ·exact absurd g0 e0
end Go.Ai
