/- -/
import Derived.Test.YtandgamnamkkhaaGreatDoorAb2
import Derived.Laws.Tables
import Derived.Laws.StructEq
set_option linter.unusedSimpArgs false
set_option linter.unusedVariables false
set_option maxRecDepth 8000
namespace Go.Ab
def Xw(P:Program)(t:TypeId):Option Bool:=
 match P.underlying t with
 |some (.struct _)=>some true
 |some (.array _ _)=>some true
 |some _=>some false
 |none=>none
def wC(P:Program)(t:TypeId):Option (List C):=
 match P.info? t with
 |some i=>match i.zero with
  |some z=>cL z.cells.toList
  |none=>none
 |none=>none
def zh(P:Program)(t:TypeId):Option Nat:=(P.info? t).map (·.size)
def Qo(G n:Nat)(place:Nat->Option (Nat × Nat)):List (Nat × Operand)->Option (List (Nat × Nat × Opd))
 |[]=>some []
 |(i,x)::r=>
  match place i,cO G n x,Qo G n place r with
  |some (off,size),some d,some l=>some ((off,size,d)::l)
  |_,_,_=>none
def Zq(P:Program)(t:TypeId):Option (Nat->Option (Nat × Nat)):=
 match P.underlying t with
 |some (.array _ e)=>(zh P e).map fun s=>fun i=>some (i*s,s)
 |some (.struct fields)=>(fields.toList.mapM (fun f=>(P.info? f.type).map fun i=>(f.offset,i.size))).map fun pl=>(pl.toArray[·]?)
 |_=>none
def vp(P:Program):List Field->Option (List (Nat × Bool))
 |[]=>some []
 |f::r=>
  if f.name≠"_" then
   match P.underlying f.type,vp P r with
   |some (.int _),some l=>some ((f.offset,false)::l)
   |some .bool,some l=>some ((f.offset,true)::l)
   |_,_=>none
  else vp P r
def jo(G n:Nat):Option Operand->Option (Option Opd)
 |none=>some none
 |some x=>(cO G n x).map some
def p8(P:Program)(G n:Nat)(op:BinOp)(t:TypeId)(x y:Operand):Option PureOp:=
 match cO G n x,cO G n y with
 |some a,some b=>
  match P.underlying t with
  |some (.int _)=>some (.bin op a b)
  |some .bool=>match op with
   |.eql=>some (.beq false a b)
   |.neq=>some (.beq true a b)
   |_=>none
  |some (.struct fs)=>
   if P.stoodInHeld t||P.eqGuardType P.depth t then none else
   match vp P fs.toList with
   |none=>none
   |some ks=>match op with
    |.eql=>some (.eqs false ks a b)
    |.neq=>some (.eqs true ks a b)
    |_=>none
  |some (.slice _)=>match y,op with
   |.const (.slice none _ _),.eql=>some (.nileq false a)
   |.const (.slice none _ _),.neq=>some (.nileq true a)
   |_,_=>none
  |_=>none
 |_,_=>none
def Wo(P:Program)(G n:Nat)(o:Oper):Option PureOp:=
 match o.op with
 |.move x=>(cO G n x).map .mv
 |.assign x=>(cO G n x).map .mv
 |.pick c a b=>match cO G n c,cO G n a,cO G n b with
  |some c,some a,some b=>some (.pick c a b)
  |_,_,_=>none
 |.build t parts=>match wC P t,Zq P t with
  |some z,some pl=>(Qo G n pl parts.toList).map (.build z)
  |_,_=>none
 |.nilCheck x=>(cO G n x).map .nilck
 |.binOp op t x y _=>p8 P G n op t x y
 |.unOp .neg _ x=>(cO G n x).map .neg
 |.unOp .not _ x=>(cO G n x).map .not
 |.convert src dst x=>match P.underlying src,P.underlying dst,cO G n x with
  |some (.int _),some (.int k),some d=>some (.conv k d)
  |_,_,_=>none
 |.makeFunc (.func f) first caps=>if first.size=0 then (YQ G n caps.toList).map (.mkfn f) else none
 |.slice t x lo hi mx=>match P.underlying t,cO G n x,jo G n lo,jo G n hi,jo G n mx with
  |some (.slice e),some d,some lo,some hi,some mx=>match zh P e with
   |some s=>if mx.isSome&&hi.isNone then none else some (.slice s d lo hi mx)
   |none=>none
  |some .string,some d,some lo,some hi,some none=>some (.sslice d lo hi)
  |_,_,_,_,_=>none
 |.fieldAddr s x f=>match P.underlying s,cO G n x with
  |some (.struct fs),some d=>match fs[f]? with
   |some fd=>match zh P fd.type with
    |some (_+1)=>some (.faddr fd.offset d)
    |_=>none
   |none=>none
  |_,_=>none
 |.field s x f=>match P.underlying s,cO G n x with
  |some (.struct fs),some d=>match fs[f]? with
   |some fd=>match zh P fd.type,Xw P fd.type with
    |some k,some g=>some (.field g fd.offset k d)
    |_,_=>none
   |none=>none
  |_,_=>none
 |.indexAddr t x i=>match P.underlying t,cO G n x,cO G n i with
  |some (.slice e),some d,some j=>(zh P e).map fun s=>.iaddr s d j
  |some (.array len e),some d,some j=>(zh P e).map fun s=>.aaddr len s d j
  |_,_,_=>none
 |.index t x i=>match P.underlying t,cO G n x,cO G n i with
  |some (.array len e),some d,some j=>match zh P e,Xw P e with
   |some s,some g=>some (.aindex len s g d j)
   |_,_=>none
  |some .string,some d,some j=>some (.sindex d j)
  |_,_,_=>none
 |.extract x i=>(cO G n x).map fun d=>.extract d i
 |.call { callee:=.builtin .len,args:=args,argTypes:=ts }=>
  match args.toList,ts[0]? with
  |[x],some t=>match P.underlying t with
   |some (.slice _)=>(cO G n x).map .len
   |some (.array k _)=>some (.cint k)
   |some .string=>(cO G n x).map .slen
   |_=>none
  |_,_=>none
 |.call { callee:=.builtin .cap,args:=args,argTypes:=ts }=>
  match args.toList,ts[0]? with
  |[x],some t=>match P.underlying t with
   |some (.slice _)=>(cO G n x).map .cap
   |_=>none
  |_,_=>none
 |.call { callee:=.builtin .max,args:=args,argTypes:=_ }=>
  match args.toList with
  |[x,y]=>match cO G n x,cO G n y with
   |some a,some b=>some (.mm true a b)
   |_,_=>none
  |_=>none
 |.call { callee:=.builtin .min,args:=args,argTypes:=_ }=>
  match args.toList with
  |[x,y]=>match cO G n x,cO G n y with
   |some a,some b=>some (.mm false a b)
   |_,_=>none
  |_=>none
 |_=>none
def Wa(P:Program)(f:FuncId)(nm:String):Bool:=
 match P.funcs[f]? with
 |some fn=>fn.name==nm&&fn.body.isNone&&fn.origin==""
 |none=>false
def Wn(P:Program)(G n:Nat)(o:Oper):Option PureOp:=
 match o.op with
 |.binOp op t x y _=>match P.underlying t,cO G n x,cO G n y with
  |some .string,some a,some b=>match op with
   |.add=>some (.scat a b)
   |.eql=>some (.seq false a b)
   |.neq=>some (.seq true a b)
   |_=>none
  |some (.interface _),some a,some _=>match y,op with
   |.const .nilIface,.eql=>some (.ifeq false a)
   |.const .nilIface,.neq=>some (.ifeq true a)
   |_,_=>none
  |some (.pointer e),some a,some b=>match op,zh P e with
   |.eql,some (_+1)=>some (.peq false a b)
   |.neq,some (_+1)=>some (.peq true a b)
   |_,_=>none
  |_,_,_=>none
 |.makeInterface t x=>match P.underlying t,cO G n x with
  |some (.interface _),_=>none
  |some _,some a=>some (.mkif a)
  |_,_=>none
 |.makeFunc (.func f) first caps=>match first.toList,caps.isEmpty with
  |[x],true=>(cO G n x).map (.bm f)
  |_,_=>none
 |.call { callee:=.builtin .unsafeSliceData,args:=args,argTypes:=_ }=>match args.toList with
  |[x]=>(cO G n x).map .sdata
  |_=>none
 |.call { callee:=.value (.func f),args:=args,argTypes:=_ }=>match args.toList with
  |[x]=>if Wa P f "internal/abi.NoEscape" then (cO G n x).map .mv else none
  |[x,y]=>match cO G n x,cO G n y with
   |some a,some b=>if Wa P f "internal/bytealg.IndexByteString" then some (.idxb a b) else if Wa P f "internal/bytealg.CountString" then some (.cnt a b) else none
   |_,_=>none
  |_=>none
 |_=>none
def ZN(P:Program)(G n:Nat)(o:Oper):Option PureOp:=
 match Wo P G n o with
 |some p=>some p
 |none=>Wn P G n o
section
variable{P:Program}{G n:Nat}{μ:Nat->Pl}{K:Nat->Prop}{H:Hp}{w:World}{F:T V}{a:Act}
theorem jJ(s:Sem Value){x:Value}{w':World}(h:s.run P w=.ok x w'):(do let r<-s;pure (Next.value r):Sem Next).run P w=.ok (.value x) w':=by
 simp [h]
theorem xN{t:TypeId}{s:Nat}(h:zh P t=some s)(w:World):(sizeOf t).run P w=.ok s w:=by
 unfold zh at h;cases hi:P.info? t with
 |none=>simp [hi] at h
 |some i=>simp [hi] at h;simp [sizeOf,typeInfo,hi,h]
theorem wI{t:TypeId}{g:Bool}(h:Xw P t=some g)(w:World):(isAgg t).run P w=.ok g w:=by
 unfold Xw at h;cases hu:P.underlying t with
 |none=>simp [hu] at h
 |some d=>cases d<;>simp [hu] at h<;>subst h<;>simp [isAgg,run_underlying hu]
theorem JJ{v:V}{x:Value}{l:List C}(h:RV μ K v x)(hl:kf v=some l):qe (RC μ K) l x.cells.toList:=by
 cases v with
 |one c=>simp [kf] at hl;subst hl;exact x8.cells (v:=.one c) h
 |agg m=>simp [kf] at hl;subst hl;exact x8.cells (v:=.agg m) h
 |tup m=>simp [kf] at hl
theorem bN:∀(vs:List Value) (k off:Nat) (cs:Array Value),off+k+vs.length<=cs.size->
 ((vs.zipIdx k).foldl (fun cs (c,j)=>cs.setIfInBounds (off+j) c) cs).toList=cs.toList.take (off+k)++vs++cs.toList.drop (off+k+vs.length)
 |[],k,off,cs,_=>by simp
 |v::vs,k,off,cs,h=>by
  simp only [List.length_cons] at h;rw [List.zipIdx_cons,List.foldl_cons,bN vs (k+1) off _ (by simp;omega)];simp only [Array.toList_setIfInBounds];rw [show off+(k+1)=(off+k)+1 by omega];apply List.ext_getElem?;intro i;simp only [List.getElem?_append,List.length_append,List.length_take,List.length_set,Array.length_toList,List.getElem?_take,List.getElem?_drop,List.getElem?_set,List.length_cons];have e1:min (off+k+1) cs.size=off+k+1:=by omega
  have e2:min (off+k) cs.size=off+k:=by omega
  rw [e1,e2];by_cases h1:i<off+k
  ·rw [if_pos (by omega),if_pos (by omega),if_pos (by omega),if_neg (by omega),if_pos (by omega),if_pos h1,if_pos h1]
  ·by_cases h2:i=off+k
   ·subst h2;rw [if_pos (by omega),if_pos (by omega),if_pos (by omega),if_pos rfl,if_pos (by omega),if_pos (by omega),if_neg (by omega)];simp
   ·by_cases h3:i<off+k+1+vs.length
    ·rw [if_pos (by omega),if_neg (by omega),if_pos (by omega),if_neg (by omega),show i-(off+k)=(i-(off+k+1))+1 by omega];simp
    ·rw [if_neg (by omega),if_neg (by omega),if_neg (by omega)];congr 1;omega
theorem VT(hR:Rel G μ K H w)(hF:xy μ K n F a.tmps){place:Nat->Option (Nat × Nat)}:∀{parts:List (Nat × Operand)} {ps:List (Nat × Nat × Opd)} {z z':List C} {zc:Array Value},
 Qo G n place parts=some ps->zI F z ps=some z'->qe (RC μ K) z zc.toList->
 ∃cs:Array Value,Instr.fill place zc (parts.map fun p=>(p.1,a.eval p.2))=some cs/\qe (RC μ K) z' cs.toList
 |[],ps,z,z',zc,hp,hf,hz=>by
  simp [Qo] at hp;subst hp;simp [zI] at hf;subst hf;exact⟨zc,by simp [Instr.fill],hz⟩
 |(i,x)::r,ps,z,z',zc,hp,hf,hz=>by
  simp only [Qo] at hp;cases h1:place i with
  |none=>simp [h1] at hp
  |some os=>
   obtain⟨off,size⟩:=os;cases h2:cO G n x with
   |none=>simp [h1,h2] at hp
   |some d=>
    cases h3:Qo G n place r with
    |none=>simp [h1,h2,h3] at hp
    |some l=>
     simp only [h1,h2,h3,zoi] at hp;subst hp;simp only [zI] at hf;cases h4:kf (d.ev F) with
     |none=>simp [h4] at hf
     |some cs=>
      simp only [h4] at hf;split at hf
      ·rename_i hc;have hx:=JJ (qr hR hF h2) h4;have hlx:(a.eval x).cells.size=size:=by have:=hx.len;simp at this;omega
       have hlz:=hz.len;simp at hlz;have key:=bN (a.eval x).cells.toList 0 off zc (by simp;omega);obtain⟨cs',hfill,hall⟩:=VT hR hF (zc:=(a.eval x).cells.zipIdx.foldl (fun cs (c,j)=>cs.setIfInBounds (off+j) c) zc) h3 hf (by
        rw [<-Array.foldl_toList];rw [Array.toList_zipIdx];rw [key];have e:off+0+(a.eval x).cells.toList.length=off+size:=by simp;omega
        rw [e,Nat.add_zero];exact ((hz.take off).append hx).append (hz.drop (off+size)))
       refine⟨cs',?_,hall⟩;simp only [List.map_cons,Instr.fill,h1];rw [if_neg (by simp;omega)];exact hfill
      ·cases hf
theorem jL{t:TypeId}{z:List C}(h:wC P t=some z):∃i v,P.info? t=some i/\i.zero=some v/\qe (RC μ K) z v.cells.toList:=by
 unfold wC at h;cases hi:P.info? t with
 |none=>simp [hi] at h
 |some i=>
  cases hz:i.zero with
  |none=>simp [hi,hz] at h
  |some v=>simp only [hi,hz] at h;exact⟨i,v,rfl,hz,rD h⟩
theorem EJ (hR:Rel G μ K H w) (hF:xy μ K n F a.tmps) {t:TypeId} {parts:Array (Nat × Operand)} {z z':List C} {pl:Nat->Option (Nat × Nat)} {ps:List (Nat × Nat × Opd)}
 (hz:wC P t=some z) (hb:Zq P t=some pl) (hp:Qo G n pl parts.toList=some ps) (hf:zI F z ps=some z'):
 ∃cs:Array Value,(Instr.build t (parts.map fun (i,x)=>(i,a.eval x))).run P w=.ok (.agg cs) w/\qe (RC μ K) z' cs.toList:=by
 obtain⟨i,v,hi,hv,hall⟩:=jL (μ:=μ) (K:=K) hz;obtain⟨cs,hfill,hall'⟩:=VT hR hF hp hf hall;refine⟨cs,run_build w t _ cs ?_,hall'⟩;have hl:(parts.map fun (i,x)=>(i,a.eval x)).toList=parts.toList.map fun p=>(p.1,a.eval p.2):=by simp
 rw [hl];unfold Program.built;unfold Zq at hb;cases hu:P.underlying t with
 |none=>simp [hu] at hb
 |some d=>
  cases d<;>try (simp [hu] at hb;done)
  case array k e=>
   simp only [hu,zh,Option.map_map,zom] at hb;obtain⟨ie,hie,rfl⟩:=hb;simp only [hi,hv,hie];exact hfill
  case struct fields=>
   simp only [hu,zom] at hb;obtain⟨places,hpl,rfl⟩:=hb;simp only [hi,hv,hpl];exact hfill
theorem lZ{t:TypeId}{g:Bool}{s off:Nat}{l:List C}{xs:List Value}{v:V}(hg:Xw P t=some g)(hs:zh P t=some s)(hl:qe (RC μ K) l xs)(h:YF g off s l=some v):
 ∃x,(part t xs.toArray off).run P w=.ok x w/\RV μ K v x:=by
 unfold YF at h;cases g with
 |true=>
  simp only [if_true] at h;split at h
  ·obtain rfl:=zsi h;refine⟨.agg (xs.toArray.extract off (off+s)),by simp [part,wI hg,xN hs],(xs.drop off).take s,?_,(hl.drop off).take s⟩;congr 1;apply Array.ext';simp [List.extract_eq_take_drop]
  ·cases h
 |false=>
  simp only [Bool.false_eq_true,if_false,zom] at h;obtain⟨c,hc,rfl⟩:=h;obtain⟨x,hx,hr⟩:=hl.at off c hc;exact⟨x,by simp [part,wI hg,hx],hr⟩
end
section
variable{P:Program}{G n:Nat}{μ:Nat->Pl}{K:Nat->Prop}{H:Hp}{w:World}{F:T V}{a:Act}
theorem UM{op:BinOp}{t:TypeId}{k k':IntKind}{x y:Int}{c:C}(h:yN op k x k' y=some c):
 ∃v,(binOp op t (.int k x) (.int k' y)).run P w=.ok v w/\RC μ K c v:=by
 cases op
 case shl=>
  simp only [yN] at h;split at h
  ·cases h
  ·rename_i hy;obtain rfl:=zsi h;exact⟨_,by show (Op.shift .shl k x k' y).run P w=_;simp [Op.shift,hy],rfl⟩
 case shr=>
  simp only [yN] at h;split at h
  ·cases h
  ·rename_i hy;obtain rfl:=zsi h;exact⟨_,by show (Op.shift .shr k x k' y).run P w=_;simp [Op.shift,hy],rfl⟩
 all_goals
  simp only [yN] at h;split at h
  ·cases h
  ·rename_i hk;obtain rfl:k=k':=by simpa using hk
   first
    |(
     obtain rfl:=zsi h;exact⟨_,by simp only [binOp];simp [Op.intArith,Op.intBits,Op.intCmp],rfl⟩)
    |(
     split at h
     ·cases h
     ·rename_i hy;obtain rfl:=zsi h;exact⟨_,by simp only [binOp];simp [Op.intDiv,hy],rfl⟩)
theorem CV{op:BinOp}{t:TypeId}{x y:Operand}{k k':IntKind}{p q:Int}:(eqGuard op t x y (.int k p) (.int k' q)).run P w=.ok () w:=by
 cases op<;>simp [eqGuard]
theorem bH{op:BinOp}{t:TypeId}{x y:Operand}{p q:Bool}:(eqGuard op t x y (.bool p) (.bool q)).run P w=.ok () w:=by
 cases op<;>simp [eqGuard]
theorem bG{op:BinOp}{t:TypeId}{x y:Operand}{p:Option Addr}{q:Option Addr}{l c m d:Nat}:(eqGuard op t x y (.slice p l c) (.slice q m d)).run P w=.ok () w:=by
 cases op<;>simp [eqGuard]
theorem Va(d:Nat){xs ys:List C}{vx vy:List Value}(hx:qe (RC μ K) xs vx)(hy:qe (RC μ K) ys vy):∀{fs:List Field} {ks:List (Nat × Bool)} {r:Bool},vp P fs=some ks->JQ xs ys ks=some r->
 (Op.eqFields (d+1) vx.toArray vy.toArray fs).run P w=.ok r w
 |[],ks,r,h,he=>by
  simp [vp] at h;subst h;simp [JQ] at he;subst he;simp [Op.eqFields]
 |f::fs,ks,r,h,he=>by
  simp only [vp] at h;simp only [Op.eqFields];by_cases hn:f.name≠"_"
  ·simp only [if_pos hn] at h ⊢;have step:∀l tg,vp P fs=some l->ks=(f.offset,tg)::l->((∃k,P.underlying f.type=some (.int k))/\tg=false\/P.underlying f.type=some .bool/\tg=true)->(do
    let a<-part f.type vx.toArray f.offset;let b<-part f.type vy.toArray f.offset;let r<-Op.equalIn (d+1) f.type a b
    if (!r)=true then pure false else Op.eqFields (d+1) vx.toArray vy.toArray fs:Sem Bool).run P w=.ok r w:=by
    intro l tg hl hk hu;subst hk;simp only [JQ] at he;cases ex:xs[f.offset]? with
    |none=>simp [ex] at he
    |some cx=>
     cases ey:ys[f.offset]? with
     |none=>simp [ex,ey] at he
     |some cy=>
      simp only [ex,ey] at he;obtain⟨x,hx',hrx⟩:=hx.at _ _ ex;obtain⟨y,hy',hry⟩:=hy.at _ _ ey;have hpart:∀(l:List Value) (u:Value),l[f.offset]?=some u->(part f.type l.toArray f.offset).run P w=.ok u w:=by
       intro l u hu';rcases hu with⟨⟨k,hu⟩,_⟩|⟨hu,_⟩<;>simp [part,isAgg,run_underlying hu,hu']
      cases hq:n4 tg cx cy with
      |none=>simp [hq] at he
      |some b=>
       have heq:(Op.equalIn (d+1) f.type x y).run P w=.ok b w:=by
        rcases hu with⟨⟨k,hu⟩,rfl⟩|⟨hu,rfl⟩
        ·cases cx<;>cases cy<;>simp only [n4] at hq<;>try (cases hq;done)
         split at hq
         ·rename_i hkk;obtain rfl:=zsi hq;simp only [RC] at hrx hry;subst hrx hry hkk;exact run_equalIn_int w d _ _ _ _ _ hu
         ·cases hq
        ·cases cx<;>cases cy<;>simp only [n4] at hq<;>try (cases hq;done)
         obtain rfl:=zsi hq;simp only [RC] at hrx hry;subst hrx hry;exact run_equalIn_bool' w d _ _ _ hu
       cases b with
       |true=>simp only [hq] at he;simp [hpart _ _ hx',hpart _ _ hy',heq,Va d hx hy hl he]
       |false=>simp only [hq,zoi] at he;subst he;simp [hpart _ _ hx',hpart _ _ hy',heq]
   cases hu:P.underlying f.type with
   |none=>simp [hu] at h
   |some t=>
    cases hl:vp P fs with
    |none=>cases t<;>simp [hu,hl] at h
    |some l=>
     cases t<;>simp [hu,hl] at h
     ·exact step l true hl h.symm (.inr ⟨hu,rfl⟩)
     ·exact step l false hl h.symm (.inl ⟨⟨_,hu⟩,rfl⟩)
  ·simp only [if_neg hn] at h ⊢;exact Va d hx hy h he
end
section
variable{P:Program}{G n:Nat}{μ:Nat->Pl}{K:Nat->Prop}{H:Hp}{w:World}{F:T V}{a:Act}
theorem RC.slc_at{b o len cap e:Nat}{ex:Bool}{x:Value}(h:RC μ K (.slc b o len cap e ex) x)(hl:0<len):
 ∃c,x=.slice (some ((μ b).addr o)) len c/\len<=c/\K b/\(μ b).off+o+c*e<=(μ b).size/\cap<=c/\len<=cap/\(ex=true->c=cap):=by
 obtain⟨hb,ad,c,rfl,h1,h2,h3,h4⟩:=h;rcases h4 with h4|⟨rfl,h5⟩
 ·omega
 ·exact⟨c,rfl,by omega,hb,h5,h2,h1,h3⟩
theorem nP(hR:Rel G μ K H w)(hF:xy μ K n F a.tmps):∀{xs:List Operand} {ds:List Opd} {l:List (Nat × Nat)},YQ G n xs=some ds->wj F ds=some l->
 (∀p∈l,K p.1)/\xs.map a.eval=l.map fun p=>Value.pointer (some ((μ p.1).addr p.2))
 |[],ds,l,h,hl=>by
  simp [YQ] at h;subst h;simp [wj] at hl;subst hl;simp
 |x::xs,ds,l,h,hl=>by
  simp only [YQ] at h;cases hx:cO G n x with
  |none=>simp [hx] at h
  |some d=>
   cases hr:YQ G n xs with
   |none=>simp [hx,hr] at h
   |some ds'=>
    simp only [hx,hr,zoi] at h;subst h;simp only [wj] at hl;have hv:=qr hR hF hx;cases hc:wj F ds' with
    |none=>simp only [hc] at hl;split at hl<;>simp_all
    |some l'=>
     cases he:d.ev F with
     |one c=>
      cases c<;>simp only [he,hc] at hl<;>try (cases hl;done)
      rename_i b o;obtain rfl:=zsi hl;rw [he] at hv;obtain⟨hk,hv⟩:K b/\a.eval x=.pointer (some ((μ b).addr o)):=hv;obtain⟨h1,h2⟩:=nP hR hF hr hc;refine⟨fun p hp=>?_,by simp [hv,h2]⟩;rcases List.mem_cons.1 hp with rfl|hp
      ·exact hk
      ·exact h1 p hp
     |agg l=>simp [he,hc] at hl
     |tup l=>simp [he,hc] at hl
theorem jT(hR:Rel G μ K H w)(hF:xy μ K n F a.tmps){x:Operand}{d:Opd}{y r dd:Nat}{code:BoundsCode}(hx:cO G n x=some d)(h:qF F dd y (some d)=some r){y':Nat}(hy:y<=y'):
 (Instr.sliceBound (a.eval x) y' code).run P w=.ok r w/\r<=y:=by
 have hv:=qr hR hF hx;simp only [qF] at h;split at h
 ·rename_i k i he;rw [he] at hv;have hv':a.eval x=.int k i:=hv;split at h
  ·rename_i hi;obtain rfl:=zsi h;refine⟨?_,by omega⟩;simp only [Instr.sliceBound,hv',asIntOf,Sem.run_bind,Sem.run_pure,Result.andThen_ok];rw [if_pos (by omega)];rfl
  ·cases h
 ·cases h
theorem sK (hR:Rel G μ K H w) (hF:xy μ K n F a.tmps) {t:TypeId} {x:Operand} {lo hi mx:Option Operand} {d:Opd} {dlo dhi:Option Opd} {v:V}
 (ht:P.underlying t=some .string) (hx:cO G n x=some d) (hlo:jo G n lo=some dlo) (hhi:jo G n hi=some dhi) (hmx:jo G n mx=some none) (h:jH F (d.ev F) dlo dhi=some v):
 ∃r,(Instr.sliceAt t (a.eval x) (lo.map a.eval) (hi.map a.eval) (mx.map a.eval)).run P w=.ok r w/\RV μ K v r:=by
 have hv:=qr hR hF hx;have hm:mx=none:=by
  cases mx with
  |none=>rfl
  |some y=>simp [jo] at hmx
 subst hm;unfold jH at h;split at h
 ·rename_i s he;rw [he] at hv;have hv':a.eval x=.string s:=hv;split at h
  ·cases h
  ·rename_i hh b2;split at h
   ·cases h
   ·rename_i l b3;obtain rfl:=zsi h;have hlow:(lo.map a.eval=none/\l=0)\/∃v,lo.map a.eval=some v/\(Instr.sliceBound v hh .sliceB).run P w=.ok l w:=by
     cases lo with
     |none=>
      simp only [jo,zoi] at hlo;subst hlo;simp [qF] at b3;subst b3;exact .inl ⟨rfl,rfl⟩
     |some xl=>
      simp only [jo,zom] at hlo;obtain⟨dl,hl,rfl⟩:=hlo;exact .inr ⟨_,rfl,(jT (P:=P) (code:=.sliceB) hR hF hl b3 (Nat.le_refl _)).1⟩
    have hhigh:(hi.map a.eval=none/\hh=s.size)\/∃v,hi.map a.eval=some v/\(Instr.sliceBound v s.size .sliceAlen).run P w=.ok hh w:=by
     cases hi with
     |none=>
      simp only [jo,zoi] at hhi;subst hhi;simp [qF] at b2;subst b2;exact .inl ⟨rfl,rfl⟩
     |some xl=>
      simp only [jo,zom] at hhi;obtain⟨dl,hl,rfl⟩:=hhi;exact .inr ⟨_,rfl,(jT (P:=P) (code:=.sliceAlen) hR hF hl b2 (Nat.le_refl _)).1⟩
    refine⟨.string (s.extract l hh),?_,rfl⟩;rcases hhigh with⟨e1,rfl⟩|⟨v1,e1,hb1⟩<;>rcases hlow with⟨e0,rfl⟩|⟨v0,e0,hb0⟩<;>
     simp [Instr.sliceAt,Instr.slice,Instr.sliceBounds,run_underlying ht,hv',e0,e1, *]
 ·cases h
theorem B2 (hR:Rel G μ K H w) (hF:xy μ K n F a.tmps) {t e:TypeId} {s:Nat} {x:Operand} {lo hi mx:Option Operand} {d:Opd} {dlo dhi dmx:Option Opd} {v:V}
 (ht:P.underlying t=some (.slice e)) (hs:zh P e=some s) (hx:cO G n x=some d) (hlo:jo G n lo=some dlo) (hhi:jo G n hi=some dhi) (hmx:jo G n mx=some dmx)
 (hm:(dmx.isSome&&dhi.isNone)=false) (h:yh F s (d.ev F) dlo dhi dmx=some v):
 ∃r,(Instr.sliceAt t (a.eval x) (lo.map a.eval) (hi.map a.eval) (mx.map a.eval)).run P w=.ok r w/\RV μ K v r:=by
 have hv:=qr hR hF hx;have bounds:∀(len cap c m hh l:Nat),len<=cap->cap<=c->qF F cap cap dmx=some m->qF F len m dhi=some hh->qF F 0 hh dlo=some l->
  ∃m',(Instr.sliceBounds true len c (lo.map a.eval) (hi.map a.eval) (mx.map a.eval)).run P w=.ok (l,hh,m') w/\l<=hh/\hh<=m/\m<=m'/\m'<=c/\(dmx.isSome=true->m'=m)/\(dmx=none->m'=c/\m=cap):=by
  intro len cap c m hh l h1 h2 b1 b2 b3;have hlow:l<=hh/\((lo.map a.eval=none/\l=0)\/∃v,lo.map a.eval=some v/\∀code,(Instr.sliceBound v hh code).run P w=.ok l w):=by
   cases lo with
   |none=>
    simp only [jo,zoi] at hlo;subst hlo;simp [qF] at b3;subst b3;exact⟨by omega,.inl ⟨rfl,rfl⟩⟩
   |some xl=>
    simp only [jo,zom] at hlo;obtain⟨dl,hl,rfl⟩:=hlo;exact⟨(jT (P:=P) (code:=.sliceB) hR hF hl b3 (Nat.le_refl _)).2,.inr ⟨_,rfl,fun code=>(jT (P:=P) (code:=code) hR hF hl b3 (Nat.le_refl _)).1⟩⟩
  cases mx with
  |none=>
   simp only [jo,zoi] at hmx;subst hmx;simp [qF] at b1;subst b1;cases hi with
   |none=>
    simp only [jo,zoi] at hhi;subst hhi;simp [qF,h1] at b2;subst b2;refine⟨c,?_,hlow.1,h1,h2,Nat.le_refl _,by simp,fun _=>⟨rfl,rfl⟩⟩;rcases hlow.2 with⟨e0,rfl⟩|⟨v0,e0,hb0⟩<;>simp only [e0,Instr.sliceBounds,Option.map_none,Sem.run_bind,Sem.run_pure,Result.andThen_ok,Option.isSome_none,Bool.false_eq_true,if_false]<;>simp [hb0]
   |some xh=>
    simp only [jo,zom] at hhi;obtain⟨dh,hh',rfl⟩:=hhi;obtain⟨hb,hle⟩:=jT (P:=P) (code:=.sliceAcap) hR hF hh' b2 h2;refine⟨c,?_,hlow.1,hle,h2,Nat.le_refl _,by simp,fun _=>⟨rfl,rfl⟩⟩;rcases hlow.2 with⟨e0,rfl⟩|⟨v0,e0,hb0⟩<;>simp only [e0,Instr.sliceBounds,Option.map_none,Option.map_some,Sem.run_bind,Sem.run_pure,Result.andThen_ok,Option.isSome_none,Bool.false_eq_true,if_false,if_true,hb]<;>simp [hb0]
  |some xm=>
   simp only [jo,zom] at hmx;obtain⟨dm,hm',rfl⟩:=hmx;obtain⟨hb1,hle1⟩:=jT (P:=P) (code:=.slice3Acap) hR hF hm' b1 h2;cases hi with
   |none=>simp only [jo,zoi] at hhi;subst hhi;simp at hm
   |some xh=>
    simp only [jo,zom] at hhi;obtain⟨dh,hh',rfl⟩:=hhi;obtain⟨hb,hle⟩:=jT (P:=P) (code:=.slice3B) hR hF hh' b2 (Nat.le_refl _);refine⟨m,?_,hlow.1,hle,Nat.le_refl _,by omega,fun _=>rfl,by simp⟩;rcases hlow.2 with⟨e0,rfl⟩|⟨v0,e0,hb0⟩<;>simp only [e0,Instr.sliceBounds,Option.map_some,Sem.run_bind,Sem.run_pure,Result.andThen_ok,Option.isSome_some,if_true,hb1,hb]<;>simp [hb0]
 have hat:∀z,(Instr.sliceAt t z (lo.map a.eval) (hi.map a.eval) (mx.map a.eval)).run P w=(Instr.slice t z (lo.map a.eval) (hi.map a.eval) (mx.map a.eval)).run P w:=by
  intro z;simp [Instr.sliceAt,run_underlying ht]
 rw [hat];unfold yh at h;split at h
 ·rename_i b o len cap e' ex he;rw [he] at hv;split at h
  ·cases h
  ·rename_i hes;obtain rfl:e'=s:=by simpa using hes
   split at h
   ·cases h
   ·rename_i m b1;split at h
    ·cases h
    ·rename_i hh b2;split at h
     ·cases h
     ·rename_i l b3;obtain rfl:=zsi h;obtain⟨hb,ad,c,hxe,h1,h2,h3,h4⟩:RC μ K (.slc b o len cap e' ex) (a.eval x):=hv;obtain⟨m',hrun,g1,g2,g3,g4,g5,g6⟩:=bounds len cap c m hh l h1 h2 b1 b2 b3;refine⟨.slice (if m'=l then some ad else some (ad.add (l*e'))) (hh-l) (m'-l),?_,?_⟩
      ·simp only [Instr.slice,hxe,Sem.run_bind,run_underlying ht,Result.andThen_ok,hrun,xN hs,Option.map_some,Sem.run_pure]
      ·refine⟨hb,if m'=l then ad else ad.add (l*e'),m'-l,by split<;>rfl,by omega,by omega,fun hex=>?_,?_⟩
       ·rw [Bool.or_eq_true] at hex;rcases hex with hex|hex
        ·cases hd:dmx with
         |none=>have:=g6 hd;have:=h3 hex;omega
         |some q=>have:=g5 (by simp [hd]);omega
        ·have:=g5 hex;omega
       ·by_cases hml:m'=l
        ·left;omega
        ·right;rw [if_neg hml];rcases h4 with h4|⟨rfl,h5⟩
         ·omega
         ·refine⟨zp _ _ _,?_⟩;have:(m'-l)*e'+l*e'=m'*e':=by rw [<-Nat.add_mul];congr 1;omega
          have:m'*e'<=c*e':=Nat.mul_le_mul_right _ g4;omega
 ·rename_i he;rw [he] at hv;have hxe:a.eval x=.slice none 0 0:=hv;split at h
  ·rename_i b1 b2 b3;obtain rfl:=zsi h;have z1:∀(q:Option Opd) (r:Nat),qF F 0 0 q=some r->r=0:=by
    intro q r hq;cases q with
    |none=>simp [qF] at hq;omega
    |some q=>
     simp only [qF] at hq;split at hq
     ·split at hq
      ·have:=zsi hq;omega
      ·cases hq
     ·cases hq
   rename_i r1 r2 r3 _;have e1:=z1 _ _ b1;have e2:=z1 _ _ b2;have e3:=z1 _ _ b3;subst e1 e2 e3;obtain⟨m',hrun,g1,g2,g3,g4,g5,g6⟩:=bounds 0 0 0 0 0 0 (Nat.le_refl _) (Nat.le_refl _) b1 b2 b3;obtain rfl:m'=0:=by omega
   exact⟨.slice none 0 0,by simp only [Instr.slice,hxe,Sem.run_bind,run_underlying ht,Result.andThen_ok,hrun,xN hs,Option.map_none,Sem.run_pure];simp,rfl⟩
  ·cases h
 ·cases h
end
section
variable{P:Program}{G n:Nat}{μ:Nat->Pl}{K:Nat->Prop}{H:Hp}{w:World}{F:T V}{a:Act}
theorem WA(d:Nat){t e:TypeId}(h:P.underlying t=some (.slice e))(p:Option Addr)(m c l k:Nat):(Op.equalIn (d+1) t (.slice p m c) (.slice none l k)).run P w=.ok p.isNone w:=by
 cases p<;>simp [Op.equalIn,run_underlying h]
theorem ED(hR:Rel G μ K H w)(hF:xy μ K n F a.tmps){op:BinOp}{t:TypeId}{x y:Operand}{p:PureOp}{v:V}(hc:p8 P G n op t x y=some p)(h:qn F p=some v):
 ∃r,(do eqGuard op t x y (a.eval x) (a.eval y);binOp op t (a.eval x) (a.eval y):Sem Value).run P w=.ok r w/\RV μ K v r:=by
 unfold p8 at hc;cases hx:cO G n x with
 |none=>simp [hx] at hc
 |some dx=>
  cases hy:cO G n y with
  |none=>simp [hx,hy] at hc
  |some dy=>
   simp only [hx,hy] at hc;have vx:=qr hR hF hx;have vy:=qr hR hF hy;cases hu:P.underlying t with
   |none=>simp [hu] at hc
   |some d=>
    cases d<;>simp only [hu] at hc<;>try (cases hc;done)
    case int k0=>
     obtain rfl:=zsi hc;simp only [qn] at h;split at h
     ·rename_i k p k' q ex ey;rw [ex] at vx;rw [ey] at vy;simp only [zom] at h;obtain⟨c,hb,rfl⟩:=h;have e1:a.eval x=.int k p:=vx;have e2:a.eval y=.int k' q:=vy;obtain⟨r,hr,hrc⟩:=UM (P:=P) (μ:=μ) (K:=K) (w:=w) (t:=t) hb;exact⟨r,by simp [e1,e2,CV,hr],hrc⟩
     ·cases h
    case bool=>
     have key:∀neg,(op=.eql/\neg=false\/op=.neq/\neg=true)->qn F (.beq neg dx dy)=some v->∃r,(do eqGuard op t x y (a.eval x) (a.eval y);binOp op t (a.eval x) (a.eval y):Sem Value).run P w=.ok r w/\RV μ K v r:=by
      intro neg hop h;simp only [qn] at h;split at h
      ·rename_i p q ex ey;rw [ex] at vx;rw [ey] at vy;obtain rfl:=zsi h;have e1:a.eval x=.bool p:=vx;have e2:a.eval y=.bool q:=vy;rcases hop with⟨rfl,rfl⟩|⟨rfl,rfl⟩
       ·refine⟨.bool (p==q),?_,rfl⟩;simp only [e1,e2,Sem.run_bind,bH,Result.andThen_ok,binOp,Op.equal,Op.maxDepth];simp [run_equalIn_bool' w 9999 t p q hu]
       ·refine⟨.bool (!(p==q)),?_,rfl⟩;simp only [e1,e2,Sem.run_bind,bH,Result.andThen_ok,binOp,Op.equal,Op.maxDepth];simp [run_equalIn_bool' w 9999 t p q hu]
      ·cases h
     split at hc
     ·obtain rfl:=zsi hc;exact key false (.inl ⟨rfl,rfl⟩) h
     ·obtain rfl:=zsi hc;exact key true (.inr ⟨rfl,rfl⟩) h
     ·cases hc
    case struct fs=>
     split at hc
     ·cases hc
     ·rename_i hst;simp only [Bool.or_eq_true,not_or,Bool.not_eq_true] at hst;split at hc
      ·cases hc
      ·rename_i ks hks;have hfo:P.fieldsOf t=fs:=by simp [Program.fieldsOf,hu]
       have key:∀neg,(op=.eql/\neg=false\/op=.neq/\neg=true)->qn F (.eqs neg ks dx dy)=some v->∃r,(do eqGuard op t x y (a.eval x) (a.eval y);binOp op t (a.eval x) (a.eval y):Sem Value).run P w=.ok r w/\RV μ K v r:=by
        intro neg hop h;simp only [qn] at h;split at h
        ·rename_i xs ys ex ey;rw [ex] at vx;rw [ey] at vy;obtain⟨cx,e1,hx'⟩:∃zs:List Value,a.eval x=.agg zs.toArray/\qe (RC μ K) xs zs:=vx;obtain⟨cy,e2,hy'⟩:∃zs:List Value,a.eval y=.agg zs.toArray/\qe (RC μ K) ys zs:=vy;split at h
         ·rename_i r hr;obtain rfl:=zsi h;have heq:(Op.equalIn 10000 t (.agg cx.toArray) (.agg cy.toArray)).run P w=.ok r w:=by
           rw [run_equalIn_struct w 9999 t _ _ (by rw [hfo];exact hu) hst.1,hfo];exact Va 9998 hx' hy' hks hr
          rcases hop with⟨rfl,rfl⟩|⟨rfl,rfl⟩
          ·exact⟨.bool r,by simp [e1,e2,run_eqGuard_agg w _ t x y _ _ hst.2,run_eql_struct,heq],rfl⟩
          ·exact⟨.bool (!r),by simp [e1,e2,run_eqGuard_agg w _ t x y _ _ hst.2,run_neq_struct,heq],rfl⟩
         ·cases h
        ·cases h
       split at hc
       ·obtain rfl:=zsi hc;exact key false (.inl ⟨rfl,rfl⟩) h
       ·obtain rfl:=zsi hc;exact key true (.inr ⟨rfl,rfl⟩) h
       ·cases hc
    case slice e=>
     have key:∀neg,(op=.eql/\neg=false\/op=.neq/\neg=true)->∀l c,y=.const (.slice none l c)->qn F (.nileq neg dx)=some v->∃r,(do eqGuard op t x y (a.eval x) (a.eval y);binOp op t (a.eval x) (a.eval y):Sem Value).run P w=.ok r w/\RV μ K v r:=by
      intro neg hop l c hyc h;have e2:a.eval y=.slice none l c:=by rw [hyc];rfl
      simp only [qn] at h;have isSlice:∃p m d,a.eval x=.slice p m d/\v=.one (.bool (if neg then p.isSome else p.isNone)):=by
       split at h
       all_goals first
        |(rename_i ex;rw [ex] at vx;obtain rfl:=zsi h;first
         |(obtain⟨_,ad,c',e1,_⟩:=vx;exact⟨_,_,_,e1,by cases neg<;>rfl⟩)
         |exact⟨_,_,_,vx,by cases neg<;>rfl⟩
         )
        |cases h
      obtain⟨p,m,d,e1,rfl⟩:=isSlice;rcases hop with⟨rfl,rfl⟩|⟨rfl,rfl⟩
      ·refine⟨.bool p.isNone,?_,rfl⟩;simp only [e1,e2,Sem.run_bind,bG,Result.andThen_ok,binOp,Op.equal,Op.maxDepth];simp [WA 9999 hu]
      ·refine⟨.bool p.isSome,?_,rfl⟩;simp only [e1,e2,Sem.run_bind,bG,Result.andThen_ok,binOp,Op.equal,Op.maxDepth];cases p<;>simp [WA 9999 hu]
     split at hc
     ·obtain rfl:=zsi hc;exact key false (.inl ⟨rfl,rfl⟩) _ _ rfl h
     ·obtain rfl:=zsi hc;exact key true (.inr ⟨rfl,rfl⟩) _ _ rfl h
     ·cases hc
end
section
variable{P:Program}{G n:Nat}{μ:Nat->Pl}{K:Nat->Prop}{H:Hp}{w:World}{F:T V}{a:Act}
theorem CB(hR:Rel G μ K H w)(hF:xy μ K n F a.tmps){o:Oper}{p:PureOp}{v:V}(hc:Wo P G n o=some p)(h:qn F p=some v):
 ∃x,(execOp a.eval o).run P w=.ok (.value x) w/\RV μ K v x:=by
 unfold Wo at hc;split at hc
 case _ x ho=>
  simp only [zom] at hc;obtain⟨d,hd,rfl⟩:=hc;simp only [qn,zoi] at h;subst h;exact⟨_,by simp [execOp,ho],qr hR hF hd⟩
 case _ x ho=>
  simp only [zom] at hc;obtain⟨d,hd,rfl⟩:=hc;simp only [qn,zoi] at h;subst h;exact⟨_,by simp [execOp,ho],qr hR hF hd⟩
 case _ c x y ho=>
  split at hc
  ·rename_i dc dx dy h1 h2 h3;obtain rfl:=zsi hc;simp only [qn] at h;split at h
   ·rename_i t ht;obtain rfl:=zsi h;have hc:=qr hR hF h1;rw [ht] at hc;have hc':a.eval c=.bool t:=hc;refine⟨_,by simp [execOp,ho,hc',asBool];rfl,?_⟩;cases t
    ·exact qr hR hF h3
    ·exact qr hR hF h2
   ·cases h
  ·cases hc
 case _ t parts ho=>
  split at hc
  ·rename_i z pl hz hpl;simp only [zom] at hc;obtain⟨ps,hps,rfl⟩:=hc;simp only [qn,zom] at h;obtain⟨z',hf,rfl⟩:=h;obtain⟨cs,hrun,hall⟩:=EJ (P:=P) hR hF hz hpl hps hf;exact⟨.agg cs,by simp only [execOp,ho];exact jJ _ hrun,cs.toList,by simp,hall⟩
  ·cases hc
 case _ x ho=>
  simp only [zom] at hc;obtain⟨d,hd,rfl⟩:=hc;have hv:=qr hR hF hd;simp only [qn] at h;split at h
  ·rename_i b o' he;obtain rfl:=zsi h;rw [he] at hv;obtain⟨hk,hv'⟩:K b/\a.eval x=.pointer (some ((μ b).addr o')):=hv;exact⟨_,by simp [execOp,ho,hv'],hk,rfl⟩
  ·rename_i f cs he;obtain rfl:=zsi h;rw [he] at hv;have hv':=hv;obtain⟨hk,hv'⟩:(∀p∈cs,K p.1)/\a.eval x=.func (.func f) #[] (cs.map fun p=>Value.pointer (some ((μ p.1).addr p.2))).toArray:=hv;exact⟨_,by simp [execOp,ho,hv'],hk,rfl⟩
  ·cases h
 case _ op t x y yt ho=>
  obtain⟨r,hr,hrv⟩:=ED hR hF hc h;exact⟨r,by simp only [execOp,ho];exact jJ _ hr,hrv⟩
 case _ t x ho=>
  simp only [zom] at hc;obtain⟨d,hd,rfl⟩:=hc;have hv:=qr hR hF hd;simp only [qn] at h;split at h
  ·rename_i k m he;obtain rfl:=zsi h;rw [he] at hv;have hv':a.eval x=.int k m:=hv;exact⟨_,by simp [execOp,ho,hv',Op.unary,Op.intArith],rfl⟩
  ·cases h
 case _ t x ho=>
  simp only [zom] at hc;obtain⟨d,hd,rfl⟩:=hc;have hv:=qr hR hF hd;simp only [qn] at h;split at h
  ·rename_i b he;obtain rfl:=zsi h;rw [he] at hv;have hv':a.eval x=.bool b:=hv;exact⟨_,by simp [execOp,ho,hv',Op.unary],rfl⟩
  ·cases h
 case _ src dst x ho=>
  split at hc
  ·rename_i k0 k d hs hd hx;obtain rfl:=zsi hc;have hv:=qr hR hF hx;simp only [qn] at h;split at h
   ·rename_i k' m he;obtain rfl:=zsi h;rw [he] at hv;have hv':a.eval x=.int k' m:=hv;exact⟨_,by simp [execOp,ho,hv',convert,run_underlying hs,run_underlying hd,Conv.intToInt],rfl⟩
   ·cases h
  ·cases hc
 case _ f first caps ho=>
  split at hc
  case isFalse=>cases hc
  rename_i hfst;obtain rfl:=Array.eq_empty_of_size_eq_zero hfst;simp only [zom] at hc;obtain⟨ds,hds,rfl⟩:=hc;simp only [qn,zom] at h;obtain⟨l,hl,rfl⟩:=h;obtain⟨h1,h2⟩:=nP hR hF hds hl;refine⟨.func (.func f) #[] (caps.map a.eval),by simp [execOp,ho,Instr.makeFunc],h1,?_⟩;congr 1;apply Array.ext';simpa using h2
 case _ t x lo hi mx ho=>
  split at hc
  ·rename_i e d dlo dhi dmx hu hx hlo hhi hmx;split at hc
   ·rename_i s hs;split at hc
    ·cases hc
    ·rename_i hm;obtain rfl:=zsi hc;obtain⟨r,hr,hrv⟩:=B2 (P:=P) hR hF hu hs hx hlo hhi hmx (by cases dmx<;>cases dhi<;>simp_all) h;exact⟨r,by simp only [execOp,ho];exact jJ _ hr,hrv⟩
   ·cases hc
  ·rename_i d lo' hi' hu hx hlo hhi hmx;obtain rfl:=zsi hc;obtain⟨r,hr,hrv⟩:=sK (P:=P) hR hF hu hx hlo hhi hmx h;exact⟨r,by simp only [execOp,ho];exact jJ _ hr,hrv⟩
  ·cases hc
 case _ s x f ho=>
  split at hc
  ·rename_i fs d hu hx;split at hc
   ·rename_i fd hfd;split at hc
    ·rename_i k hk;obtain rfl:=zsi hc;have hv:=qr hR hF hx;simp only [qn] at h;split at h
     ·rename_i b o' he;obtain rfl:=zsi h;rw [he] at hv;obtain⟨hkb,hv'⟩:K b/\a.eval x=.pointer (some ((μ b).addr o')):=hv;exact⟨_,by simp [execOp,ho,hv',Instr.fieldAt,run_underlying hu,hfd,Instr.sureAddr,fieldPlace,xN hk,zp],hkb,rfl⟩
     ·cases h
    ·cases hc
   ·cases hc
  ·cases hc
 case _ s x f ho=>
  split at hc
  ·rename_i fs d hu hx;split at hc
   ·rename_i fd hfd;split at hc
    ·rename_i k g hk hg;obtain rfl:=zsi hc;have hv:=qr hR hF hx;simp only [qn] at h;split at h
     ·rename_i l he;rw [he] at hv;obtain⟨xs,hv',hall⟩:∃xs:List Value,a.eval x=.agg xs.toArray/\qe (RC μ K) l xs:=hv;obtain⟨r,hr,hrv⟩:=lZ (w:=w) hg hk hall h;exact⟨r,by simp [execOp,ho,hv',Instr.field,run_underlying hu,hfd,asAgg,hr],hrv⟩
     ·cases h
    ·cases hc
   ·cases hc
  ·cases hc
 case _ t x i ho=>
  split at hc
  ·rename_i e d j hu hx hi;simp only [zom] at hc;obtain⟨s,hs,rfl⟩:=hc;have hv:=qr hR hF hx;have hvi:=qr hR hF hi;simp only [qn,Jr] at h;split at h
   ·rename_i b o' len cap e' ex k m he hi';split at h
    ·rename_i hb;obtain rfl:=zsi h;rw [he] at hv;rw [hi'] at hvi;have hvi':a.eval i=.int k m:=hvi;obtain⟨c,hv',_,hk,_⟩:=RC.slc_at hv (by omega);exact⟨_,by simp [execOp,ho,hv',hvi',Instr.indexAt,asIntOf,run_underlying hu,hb.2.1,hb.2.2,xN hs,zp],hk,rfl⟩
    ·cases h
   ·cases h
  ·rename_i len e d j hu hx hi;simp only [zom] at hc;obtain⟨s,hs,rfl⟩:=hc;have hv:=qr hR hF hx;have hvi:=qr hR hF hi;simp only [qn] at h;split at h
   ·rename_i b o' k m he hi';split at h
    ·rename_i hb;obtain rfl:=zsi h;rw [he] at hv;rw [hi'] at hvi;have hvi':a.eval i=.int k m:=hvi;obtain⟨hk,hv'⟩:K b/\a.eval x=.pointer (some ((μ b).addr o')):=hv;exact⟨_,by simp [execOp,ho,hv',hvi',Instr.indexAt,asIntOf,run_underlying hu,Instr.sureAddr,hb.1,hb.2,xN hs,zp],hk,rfl⟩
    ·cases h
   ·cases h
  ·cases hc
 case _ t x i ho=>
  split at hc
  ·rename_i len e d j hu hx hi;split at hc
   ·rename_i s g hs hg;obtain rfl:=zsi hc;have hv:=qr hR hF hx;have hvi:=qr hR hF hi;simp only [qn] at h;split at h
    ·rename_i l k m he hi';split at h
     ·rename_i hb;rw [he] at hv;rw [hi'] at hvi;have hvi':a.eval i=.int k m:=hvi;obtain⟨xs,hv',hall⟩:∃xs:List Value,a.eval x=.agg xs.toArray/\qe (RC μ K) l xs:=hv;obtain⟨r,hr,hrv⟩:=lZ (w:=w) hg hs hall h;exact⟨r,by simp [execOp,ho,hv',hvi',Instr.index,asIntOf,run_underlying hu,hb.1,hb.2,xN hs,hr],hrv⟩
     ·cases h
    ·cases h
   ·cases hc
  ·rename_i d j hu hx hi;obtain rfl:=zsi hc;have hv:=qr hR hF hx;have hvi:=qr hR hF hi;simp only [qn] at h;split at h
   ·rename_i s k m he hi';split at h
    ·rename_i hm;split at h
     ·rename_i b hb;obtain rfl:=zsi h;rw [he] at hv;rw [hi'] at hvi;have hvi':a.eval i=.int k m:=hvi;have hv':a.eval x=.string s:=hv;exact⟨.int .u8 b.toNat,by simp [execOp,ho,hv',hvi',Instr.index,asIntOf,run_underlying hu,hm,hb],rfl⟩
     ·cases h
    ·cases h
   ·cases h
  ·cases hc
 case _ x i ho=>
  simp only [zom] at hc;obtain⟨d,hd,rfl⟩:=hc;have hv:=qr hR hF hd;simp only [qn] at h;split at h
  ·rename_i l he;rw [he] at hv;obtain⟨xs,hv',hall⟩:∃xs:List Value,a.eval x=.tuple xs.toArray/\qe (x8 μ K) l xs:=hv;obtain⟨r,hr,hrv⟩:=hall.at i v h;exact⟨r,by simp [execOp,ho,hv',Instr.extract,hr],RV.of1 hrv⟩
  ·cases h
 case _ args ts ho=>
  split at hc
  ·rename_i x t hargs hts;have hargs':args=#[x]:=by cases args;simp_all
   subst hargs';have hts':ts[0]?=some t:=hts;split at hc
   ·rename_i e hu;simp only [zom] at hc;obtain⟨d,hd,rfl⟩:=hc;have hv:=qr hR hF hd;simp only [qn,Yk] at h;split at h
    ·rename_i b o' len cap e' ex he;obtain rfl:=zsi h;rw [he] at hv;obtain⟨_,ad,c,hv',_⟩:RC μ K (.slc b o' len cap e' ex) (a.eval x):=hv;exact⟨.int .i64 len,by simp [execOp,ho,resolve,invoke,builtin,Builtin.len_,hts',hv',run_underlying hu,goInt],rfl⟩
    ·rename_i he;obtain rfl:=zsi h;rw [he] at hv;have hv':a.eval x=.slice none 0 0:=hv;exact⟨.int .i64 0,by simp [execOp,ho,resolve,invoke,builtin,Builtin.len_,hts',hv',run_underlying hu,goInt],rfl⟩
    ·cases h
   ·rename_i k e hu;obtain rfl:=zsi hc;simp only [qn,zoi] at h;subst h;exact⟨.int .i64 k,by simp [execOp,ho,resolve,invoke,builtin,Builtin.len_,hts',run_underlying hu,goInt],rfl⟩
   ·rename_i hu;simp only [zom] at hc;obtain⟨d,hd,rfl⟩:=hc;have hv:=qr hR hF hd;simp only [qn] at h;split at h
    ·rename_i s he;obtain rfl:=zsi h;rw [he] at hv;have hv':a.eval x=.string s:=hv;exact⟨.int .i64 s.size,by simp [execOp,ho,resolve,invoke,builtin,Builtin.len_,hts',hv',run_underlying hu,goInt],rfl⟩
    ·cases h
   ·cases hc
  ·cases hc
 case _ args ts ho=>
  split at hc
  ·rename_i x t hargs hts;have hargs':args=#[x]:=by cases args;simp_all
   subst hargs';have hts':ts[0]?=some t:=hts;split at hc
   ·rename_i e hu;simp only [zom] at hc;obtain⟨d,hd,rfl⟩:=hc;have hv:=qr hR hF hd;simp only [qn] at h;split at h
    ·rename_i b o' len cap e' he;obtain rfl:=zsi h;rw [he] at hv;obtain⟨_,ad,c,hv',_,_,hex,_⟩:RC μ K (.slc b o' len cap e' true) (a.eval x):=hv;obtain rfl:=hex rfl;exact⟨.int .i64 c,by simp [execOp,ho,resolve,invoke,builtin,Builtin.cap_,hts',hv',run_underlying hu,goInt],rfl⟩
    ·rename_i he;obtain rfl:=zsi h;rw [he] at hv;have hv':a.eval x=.slice none 0 0:=hv;exact⟨.int .i64 0,by simp [execOp,ho,resolve,invoke,builtin,Builtin.cap_,hts',hv',run_underlying hu,goInt],rfl⟩
    ·cases h
   ·cases hc
  ·cases hc
 case _ args ts ho=>
  split at hc
  ·rename_i x y hargs;have hargs':args=#[x,y]:=by cases args;simp_all
   subst hargs';split at hc
   ·rename_i dx dy hx hy;obtain rfl:=zsi hc;have vx:=qr hR hF hx;have vy:=qr hR hF hy;simp only [qn] at h;split at h
    ·rename_i k p k' q ex ey;split at h
     ·rename_i hk;subst hk;obtain rfl:=zsi h;rw [ex] at vx;rw [ey] at vy;have e1:a.eval x=.int k p:=vx;have e2:a.eval y=.int k q:=vy;exact⟨.int k (if p<q then q else p),by simp [execOp,ho,resolve,invoke,builtin,Builtin.max_,Builtin.max2,e1,e2],by simp [RV,x8,RC]⟩
     ·cases h
    ·cases h
   ·cases hc
  ·cases hc
 case _ args ts ho=>
  split at hc
  ·rename_i x y hargs;have hargs':args=#[x,y]:=by cases args;simp_all
   subst hargs';split at hc
   ·rename_i dx dy hx hy;obtain rfl:=zsi hc;have vx:=qr hR hF hx;have vy:=qr hR hF hy;simp only [qn] at h;split at h
    ·rename_i k p k' q ex ey;split at h
     ·rename_i hk;subst hk;obtain rfl:=zsi h;rw [ex] at vx;rw [ey] at vy;have e1:a.eval x=.int k p:=vx;have e2:a.eval y=.int k q:=vy;exact⟨.int k (if q<p then q else p),by simp [execOp,ho,resolve,invoke,builtin,Builtin.min_,Builtin.min2,e1,e2],by simp [RV,x8,RC]⟩
     ·cases h
    ·cases h
   ·cases hc
  ·cases hc
 case _=>cases hc
end
inductive LoadOp where
 |load (agg:Bool) (n:Nat) (a:Opd)
 |lookup (z:V) (ok:Bool) (m k:Opd)
 |mlen (m:Opd)
 /-- a string out of bytes;a pointer by way of unsafe.Pointer;a part of an array;a map with strings as keys asked -/
 |bstr (x:Opd)
 |pcv (t:TypeId) (n:Nat) (x:Opd)
 |aslice (len esz:Nat) (x:Opd) (lo hi:Option Opd)
 |slookup (z:V) (ok:Bool) (m k:Opd)
def X2:V->V->Option Bool
 |.one (.int k a),.one (.int k' b)=>if k=k' then some (a==b) else none
 |_,_=>none
def vd(key:V):List (V × V)->Nat->Option (Option (Nat × V))
 |[],_=>some none
 |e::es,i=>
  match X2 key e.1 with
  |some true=>some (some (i,e.2))
  |some false=>vd key es (i+1)
  |none=>none
def yG(ok:Bool)(v:V)(there:Bool):V:=if ok then .tup [v,.one (.bool there)] else v
def jl:V->Bool
 |.one (.int _ _)=>true
 |_=>false
def kg:List C->Option (List UInt8)
 |[]=>some []
 |.int .u8 n::l=>(kg l).map (UInt8.ofNat n.toNat::·)
 |_=>none
def Zw(s:List UInt8):List (V × V)->Nat->Option (Option (Nat × V))
 |[],_=>some none
 |e::es,i=>match e.1 with
  |.one (.str q)=>if s==q.data.toList then some (some (i,e.2)) else Zw s es (i+1)
  |_=>none
def qA(F:T V)(H:Hp):LoadOp->Option V
 |.load agg n a=>match a.ev F with
  |.one (.ptr b o)=>if agg then (H.loads b o n).map .agg else (H.cell b o).map .one
  |_=>none
 |.lookup z ok m k=>
  if jl (k.ev F) then
   match m.ev F with
   |.one .nilm=>some (yG ok z false)
   |.one (.map b)=>match H.get b with
    |some (.mp es)=>match vd (k.ev F) es 0 with
     |some none=>some (yG ok z false)
     |some (some (_,v))=>some (yG ok v true)
     |none=>none
    |_=>none
   |_=>none
  else none
 |.mlen m=>match m.ev F with
  |.one .nilm=>some (.one (.int .i64 0))
  |.one (.map b)=>match H.get b with
   |some (.mp es)=>some (.one (.int .i64 es.length))
   |_=>none
  |_=>none
 |.bstr x=>match x.ev F with
  |.one .nils=>some (.one (.str ByteArray.empty))
  |.one (.slc b o len _ e _)=>if e=1 then match H.loads b o len with
   |some cs=>(kg cs).map fun l=>.one (.str ⟨l.toArray⟩)
   |none=>none
   else none
  |_=>none
 |.pcv t n x=>match x.ev F with
  |.one .nilp=>some (.one .nilp)
  |.one (.ptr b o)=>match H.get b with
   |some (.tr t' l)=>if t'=t/\o=0/\0<n/\n<=l.length then some (.one (.ptr b 0)) else none
   |_=>none
  |_=>none
 |.aslice len esz x lo hi=>match x.ev F with
  |.one (.ptr b o)=>match H.get b with
   |some (.row n _ _ _)=>if o+len*esz<=n then match qF F len len hi with
    |none=>none
    |some h=>match qF F 0 h lo with
     |none=>none
     |some l=>some (.one (.slc b (o+l*esz) (h-l) (len-l) esz true))
    else none
   |_=>none
  |_=>none
 |.slookup z ok m k=>match k.ev F,m.ev F with
  |.one (.str _),.one .nilm=>some (yG ok z false)
  |.one (.str s),.one (.map b)=>match H.get b with
   |some (.mp es)=>match Zw s.data.toList es 0 with
    |some none=>some (yG ok z false)
    |some (some (_,v))=>some (yG ok v true)
    |none=>none
   |_=>none
  |_,_=>none
inductive AllocOp where
 |alloc (z:List C)
 |box (x:Opd)
 |bslice (esz len:Nat) (z:List C) (ps:List (Nat × Nat × Opd))
 |mkslice (esz bytes:Nat) (z:List C) (l c:Opd)
 |mkmap
 |mkst
 /-- a variable whose type is kept in mind -/
 |alloct (t:TypeId) (z:List C)
def z7(z:List C)(n:Nat):List C:=(List.range n).map fun i=>z.getD (i % z.length) .nilp
def xw(F:T V):AllocOp->Option (B × (Nat->V))
 |.alloc z=>some (.row z.length z .lf true,fun b=>.one (.ptr b 0))
 |.box x=>match kf (x.ev F) with
  |some cs=>some (.row cs.length cs .lf true,fun b=>.one (.ptr b 0))
  |none=>none
 |.bslice esz len z ps=>match zI F (z7 z (len*esz)) ps with
  |some cs=>some (.row cs.length cs .lf true,fun b=>.one (.slc b 0 len len esz true))
  |none=>none
 |.mkslice esz bytes z l c=>match l.ev F,c.ev F with
  |.one (.int _ l),.one (.int _ c)=>
   if 0<=l/\l<=c/\bytes*c<=281474976710656/\c<4611686018427387904 then
    some (.row (c.toNat*esz) z .lf true,fun b=>.one (.slc b 0 l.toNat c.toNat esz true))
   else none
  |_,_=>none
 |.mkmap=>some (.mp [],fun b=>.one (.map b))
 |.mkst=>some (.st [] 0,fun b=>.one (.map b))
 |.alloct t z=>some (.tr t z,fun b=>.one (.ptr b 0))
end Go.Ab
