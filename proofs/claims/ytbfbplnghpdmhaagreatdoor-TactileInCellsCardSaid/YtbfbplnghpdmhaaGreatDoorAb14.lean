/- Contracts of functions of the program over the abstract semantics. -/
import Derived.Test.YtbfbplnghpdmhaaGreatDoorAb13
import Derived.Below
import Derived.ChangeSame
import Derived.RowKit
import Derived.Carry
set_option linter.unusedSimpArgs false
set_option maxHeartbeats 8000000
set_option linter.unusedVariables false
namespace Go.Ab
section
variable{X:Type}{enc:TypeId × Value->X}{P:Program}{G:Nat}{w:World}{base:Nat}{held:Bool}
def JO(T:Ty)(l:List C):V:=
 match T with
 |.agg _=>.agg l
 |_=>match l with
  |[c]=>.one c
  |_=>.undef
theorem qcp {n:Nat} {t:TypeId} {T:Ty} (hd:QU P n t=some T) {v:Value} {d:DataW X} {ps:List MemPlace} {r:Reach} {b0:Nat} (ht:DataW.Trod enc P w base (fun _=>true) held t v d ps) (hv:Value.okWide P w r b0 t v)
 {μ:Nat->Pl} {K:Nat->Prop} {H:Hp} (hR:Rel G μ K H w) (hN:vJ H):∃l H' μ' K',jm T [d] H=some (l,H')/\Rel G μ' K' H' w/\RV μ' K' (JO T l) v/\Gr μ K H μ' K' H':=by
 obtain⟨fuel,hf⟩:=ht;obtain⟨hok,hsz⟩:=WN (enc:=enc) (G:=G) (w:=w) (base:=base) (held:=held) n t T hd;obtain⟨hlen,l,H',μ',K',e1,R1,a1,g1⟩:=hok hf hR hN;refine⟨l,H',μ',K',e1,R1,?_,g1⟩;have hone:(∀cs,v≠.agg cs)->T.sz=1->(∀r,T≠.agg r)->RV μ' K' (JO T l) v:=by
  intro hna h1 hT;have hc:v.cells=#[v]:=by
   cases v<;>first|rfl|exact absurd rfl (hna _)
  rw [hc] at a1;have hl:l.length=1:=by rw [a1.len];rfl
  match l,hl with
  |[c],_=>
   have:JO T [c]=.one c:=by
    cases T<;>first|rfl|exact absurd rfl (hT _)
   rw [this];exact a1.1
 cases n with
 |zero=>cases hd
 |succ n=>
  simp only [QU,chk] at hd;split at hd
  ·rename_i T0 hT0;split at hd
   ·obtain rfl:=zsi hd;have hagg:∀r,T0=.agg r->(∃cs,v=.agg cs)->RV μ' K' (JO T0 l) v:=by
     rintro r rfl ⟨cs,rfl⟩;exact⟨cs.toList,by simp,a1⟩
    split at hT0
    ·rename_i hu;obtain rfl:=zsi hT0;refine hone (fun cs e=>?_) rfl (fun r=>by simp);subst e;simp [Value.okWide,hu,Cell.okWide,Cell.ok] at hv
    ·rename_i k hu;obtain rfl:=zsi hT0;refine hone (fun cs e=>?_) rfl (fun r=>by simp);subst e;simp [Value.okWide,hu,Cell.okWide,Cell.ok] at hv
    ·rename_i hu;obtain rfl:=zsi hT0;refine hone (fun cs e=>?_) rfl (fun r=>by simp);subst e;simp [Value.okWide,hu,Cell.okWide,Cell.ok] at hv
    ·rename_i e hu;split at hT0
     ·split at hT0
      ·obtain rfl:=zsi hT0;refine hone (fun cs e=>?_) rfl (fun r=>by simp);subst e;simp [Value.okWide,hu,Cell.okWide,Cell.ok] at hv
      ·cases hT0
     ·cases hT0
    ·rename_i fs hu;split at hT0
     ·obtain rfl:=zsi hT0;simp only [Value.okWide,hu] at hv;obtain⟨cs,h1,_⟩:=hv;exact hagg _ rfl ⟨cs,h1⟩
     ·cases hT0
    ·rename_i k e hu;split at hT0
     ·obtain rfl:=zsi hT0;simp only [Value.okWide,hu] at hv;obtain⟨cs,h1,_⟩:=hv;exact hagg _ rfl ⟨cs,h1⟩
     ·cases hT0
    ·cases hT0
   ·cases hd
  ·cases hd
def JD(P:Program)(n:Nat):List TypeId->Option (List Ty)
 |[]=>some []
 |t::ts=>match QU P n t with
  |some a=>match JD P n ts with
   |some l=>some (a::l)
   |none=>none
  |none=>none
def vw:List Ty->List (DataW X)->Hp->Option (List V × Hp)
 |[],[],H=>some ([],H)
 |t::ts,d::ds,H=>match jm t [d] H with
  |some (l,H1)=>match vw ts ds H1 with
   |some (vs,H2)=>some (JO t l::vs,H2)
   |none=>none
  |none=>none
 |_,_,_=>none
theorem sG{n:Nat}{r:Reach}{b0:Nat}:∀{ts:List TypeId} {Ts:List Ty} {vs:List Value} {ds:List (DataW X)} {ps:List MemPlace} {μ:Nat->Pl} {K:Nat->Prop} {H:Hp},JD P n ts=some Ts->
 DataW.TrodAll enc P w base (fun _=>true) held ts vs ds ps->(∀(j:Nat) t v,ts[j]?=some t->vs[j]?=some v->Value.okWide P w r b0 t v)->Rel G μ K H w->vJ H->
 ∃avs H' μ' K',vw Ts ds H=some (avs,H')/\Rel G μ' K' H' w/\qg (RV μ' K') avs vs/\Gr μ K H μ' K' H'
 |[],Ts,[],[],ps,μ,K,H,hd,_,_,hR,hN=>by
  simp only [JD,zoi] at hd;subst hd;exact⟨[],H,μ,K,rfl,hR,trivial,Gr.refl _ _ _⟩
 |t::ts,Ts,v::vs,d::ds,ps,μ,K,H,hd,ht,hv,hR,hN=>by
  simp only [JD] at hd;cases h1:QU P n t with
  |none=>simp [h1] at hd
  |some a=>
   simp only [h1] at hd;cases h2:JD P n ts with
   |none=>simp [h2] at hd
   |some l=>
    simp only [h2,zoi] at hd;subst hd;obtain⟨p,q,g1,g2,_⟩:=ht;obtain⟨l1,H1,μ1,K1,e1,R1,a1,gr1⟩:=qcp h1 g1 (hv 0 t v rfl rfl) hR hN;obtain⟨avs,H2,μ2,K2,e2,R2,a2,gr2⟩:=sG h2 g2 (fun j t v hj hj'=>hv (j+1) t v (by simpa using hj) (by simpa using hj')) R1 (gr1.noMut hN);exact⟨JO a l1::avs,H2,μ2,K2,by simp [vw,e1,e2],R2,⟨a1.mono gr2.kk gr2.mu,a2⟩,gr1.trans gr2⟩
 |[],_,_::_,_,_,_,_,_,_,ht,_,_,_=>by cases ht
 |[],_,[],_::_,_,_,_,_,_,ht,_,_,_=>by cases ht
 |_::_,_,[],_,_,_,_,_,_,ht,_,_,_=>by cases ht
 |_::_,_,_::_,[],_,_,_,_,_,ht,_,_,_=>by cases ht
def wM(P:Program)(n G:Nat):List (String × DataW Unit)->Hp->Hp
 |[],H=>H
 |(s,d)::r,H=>match P.globalNamed s with
  |none=>wM P n G r H
  |some g=>match (P.globals[g]?).map (·.type) with
   |none=>wM P n G r H
   |some t=>match QU P n t with
    |none=>wM P n G r H
    |some T=>match jm T [d] H with
     |none=>wM P n G r H
     |some (l,H')=>if g<G then wM P n G r (H'.add g (.row l.length l .lf false)) else wM P n G r H
def sX(w:World)(g:Nat):Nat:=
 match w.heap[g]? with
 |some (.cells cs _ _)=>cs.size
 |_=>0
theorem KK{n:Nat}:∀{laid:List (String × DataW Unit)} {ps:List MemPlace} {μ:Nat->Pl} {K:Nat->Prop} {H:Hp},DataW.LaidVars P w laid ps->Rel G μ K H w->vJ H->(∀g,g<G->μ g=⟨g,0,sX w g⟩)->
 ∃μ' K',Rel G μ' K' (wM P n G laid H) w/\vJ (wM P n G laid H)
 |[],_,μ,K,H,_,hR,hN,_=>⟨μ,K,hR,hN⟩
 |(s,d)::r,ps,μ,K,H,hl,hR,hN,hg=>by
  obtain⟨g,t,cs,fuel,p,q,h1,h2,h3,h4,h5,_⟩:=hl;simp only [wM,h1,h2];cases hd:QU P n t with
  |none=>exact KK h5 hR hN hg
  |some T=>
   obtain⟨hok,hsz⟩:=WN (enc:=fun _=>()) (G:=G) (w:=w) (base:=0) (held:=false) n t T hd;obtain⟨hlen,l,H',μ',K',e1,R1,a1,g1⟩:=hok h4 hR hN;simp only [e1];split
   ·rename_i hgG;have hN1:=g1.noMut hN;have hKg:=(R1.glob g hgG).1;have hmu:∀g,g<G->μ' g=⟨g,0,sX w g⟩:=fun g hg'=>by rw [g1.mu g (hR.glob g hg').1];exact hg g hg'
    have hN2:vJ (H'.add g (.row l.length l .lf false)):=fun b bk hb=>by
     rw [Hp.get_add] at hb;split at hb
     ·obtain rfl:=zsi hb;rfl
     ·exact hN1 b bk hb
    refine KK h5 (μ:=μ') (K:=K') ⟨fun b bk hb=>?_,R1.lt,fun b bk hb=>?_,fun b b' bk bk' hb _ hm=>?_,R1.glob⟩ hN2 hmu
    ·rw [Hp.get_add] at hb;split at hb
     ·rename_i e;rw [e];exact hKg
     ·exact R1.dom b bk hb
    ·rw [Hp.get_add] at hb;split at hb
     ·rename_i e;subst e;obtain rfl:=zsi hb;rw [hmu _ hgG];unfold World.var? at h3;rw [h1] at h3;simp only [Option.bind_some] at h3;split at h3
      ·rename_i c ty fz hc;obtain rfl:=zsi h3;refine⟨c,ty,fz,hc,by simp [sX,hc],by simp [a1.len],fun h=>(by cases h),fun i x hx=>?_⟩;simp only [B.cell] at hx;split at hx
       ·rename_i hi;simp only [Ab.T.get_lf,Option.getD_none,Nat.mod_eq_of_lt hi,List.getD_eq_getElem?_getD,zge hi,Option.getD_some,zoi] at hx;obtain⟨y,hy,hr⟩:=a1.at i x (by rw [zge hi,hx]);exact⟨y,by simpa using hy,hr⟩
       ·cases hx
      ·cases h3
     ·exact R1.blk b bk hb
    ·rw [hN2 b bk hb] at hm;cases hm
   ·exact KK h5 hR hN hg
theorem BK(w:World):Rel G (fun g=>⟨g,0,sX w g⟩) (fun b=>b<G) ⟨.lf,G⟩ w:=
 ⟨fun _ _ h=>(by cases h),fun _ h=>h,fun _ _ h=>(by cases h),fun _ _ _ _ h=>(by cases h),fun _ hg=>⟨hg,rfl,rfl⟩⟩
end
def Ty.den:Ty->Type
 |.bool=>Bool
 |.int _=>Int
 |.str=>ByteArray
 |.slice e=>List e.den
 |.unit=>Unit
 |.pair a b=>a.den × b.den
 |.agg r=>r.den
def RL{α:Type}(f:α->List C->Prop):List α->List C->Prop
 |[],cs=>cs=[]
 |x::xs,cs=>∃a b,cs=a++b/\f x a/\RL f xs b
def Ty.R(H:Hp):(t:Ty)->t.den->List C->Prop
 |.bool,x,l=>l=[.bool x]
 |.int k,x,l=>l=[.int k x]/\(Lit.int k x).wf=true
 |.str,x,l=>l=[.str x]
 |.slice e,x,l=>(l=[.nils]/\List.length x=0)\/∃b cs,l=[.slc b 0 (List.length x) (List.length x) e.sz false]/\List.length x<=9223372036854775807/\H.loads b 0 (List.length x*e.sz)=some cs/\RL (Ty.R H e) x cs
 |.unit,_,l=>l=[]
 |.pair a b,x,l=>∃l1 l2,l=l1++l2/\Ty.R H a (Prod.fst x) l1/\Ty.R H b (Prod.snd x) l2
 |.agg r,x,l=>Ty.R H r x l
theorem RL.mono{α:Type}{f g:α->List C->Prop}(h:∀x l,f x l->g x l):∀{xs:List α} {cs:List C},RL f xs cs->RL g xs cs
 |[],_,hh=>hh
 |_::_,_,⟨a,b,e,h1,h2⟩=>⟨a,b,e,h _ _ h1,RL.mono h h2⟩
theorem RL.len{α:Type}{f:α->List C->Prop}{c:Nat}(h:∀x l,f x l->l.length=c):∀{xs:List α} {cs:List C},RL f xs cs->cs.length=xs.length*c
 |[],_,hh=>by cases hh;simp
 |_::xs,_,⟨a,b,e,h1,h2⟩=>by
  subst e;rw [List.length_append,h _ _ h1,RL.len h h2,List.length_cons,Nat.add_mul];omega
theorem Ty.R_le{H H':Hp}(h:Le H H'):∀(t:Ty) (x:t.den) (l:List C),t.R H x l->t.R H' x l
 |.bool,_,_,hh=>hh
 |.int _,_,_,hh=>hh
 |.str,_,_,hh=>hh
 |.slice e,x,l,hh=>by
  rcases hh with hh|⟨b,cs,h1,h0,h2,h3⟩
  ·exact .inl hh
  ·exact .inr ⟨b,cs,h1,h0,h.loads h2,h3.mono (Ty.R_le h e)⟩
 |.unit,_,_,hh=>hh
 |.pair a b,x,l,⟨l1,l2,e,h1,h2⟩=>⟨l1,l2,e,Ty.R_le h a _ _ h1,Ty.R_le h b _ _ h2⟩
 |.agg r,x,l,hh=>Ty.R_le h r x l hh
theorem Ty.R_len{H:Hp}:∀(t:Ty) (x:t.den) (l:List C),t.R H x l->l.length=t.sz
 |.bool,_,_,hh=>by cases hh;rfl
 |.int _,_,_,hh=>by cases hh.1;rfl
 |.str,_,_,hh=>by cases hh;rfl
 |.slice e,x,l,hh=>by
  rcases hh with hh|⟨b,cs,h1,_⟩
  ·rw [hh.1];rfl
  ·rw [h1];rfl
 |.unit,_,_,hh=>by cases hh;rfl
 |.pair a b,x,l,⟨l1,l2,e,h1,h2⟩=>by subst e;rw [List.length_append,Ty.R_len a _ _ h1,Ty.R_len b _ _ h2];rfl
 |.agg r,x,l,hh=>Ty.R_len r x l hh
section
variable{X:Type}
theorem lU{e:Ty}(he:∀{ds:List (DataW X)} {H H':Hp} {l:List C},WF H->jm e ds H=some (l,H')->WF H'/\Ext H H'/\∃x:e.den,e.R H' x l):∀{es:List (DataW X)} {H H':Hp} {cs:List C},WF H->Yz (fun d H=>jm e [d] H) es H=some (cs,H')->
 WF H'/\Ext H H'/\∃xs:List e.den,xs.length=es.length/\RL (e.R H') xs cs
 |[],H,H',cs,hw,h=>by
  simp only [Yz,zoi,zpi] at h;obtain⟨rfl,rfl⟩:=h;exact⟨hw,Ext.refl _,[],rfl,rfl⟩
 |d::es,H,H',cs,hw,h=>by
  simp only [Yz] at h;cases h1:jm e [d] H with
  |none=>simp [h1] at h
  |some x=>
   obtain⟨l,H1⟩:=x;simp only [h1] at h;cases h2:Yz (fun d H=>jm e [d] H) es H1 with
   |none=>simp [h2] at h
   |some y=>
    obtain⟨l',H2⟩:=y;simp only [h2,zoi,zpi] at h;obtain⟨rfl,rfl⟩:=h;obtain⟨w1,e1,x1,r1⟩:=he hw h1;obtain⟨w2,e2,xs,hl,r2⟩:=lU he w1 h2;exact⟨w2,e1.trans e2,x1::xs,by simp [hl],l,l',rfl,Ty.R_le e2.le _ _ _ r1,r2⟩
theorem YX:∀(t:Ty) {ds:List (DataW X)} {H H':Hp} {l:List C},WF H->jm t ds H=some (l,H')->WF H'/\Ext H H'/\∃x:t.den,t.R H' x l
 |.bool,ds,H,H',l,hw,h=>by
  unfold jm at h;split at h<;>first|(cases h;done)|skip
  all_goals simp_all
  obtain⟨rfl,rfl⟩:=h;exact⟨Ext.refl _,_,rfl⟩
 |.int k,ds,H,H',l,hw,h=>by
  unfold jm at h;split at h<;>first|(cases h;done)|skip
  all_goals simp_all
  rename_i e0;subst e0;obtain⟨hwf,rfl,rfl⟩:=h;exact⟨Ext.refl _,_,rfl,hwf.2⟩
 |.str,ds,H,H',l,hw,h=>by
  unfold jm at h;split at h<;>first|(cases h;done)|skip
  all_goals simp_all
  obtain⟨rfl,rfl⟩:=h;exact⟨Ext.refl _,_,rfl⟩
 |.slice e,ds,H,H',l,hw,h=>by
  have he:∀{ds:List (DataW X)} {H H':Hp} {l:List C},WF H->jm e ds H=some (l,H')->WF H'/\Ext H H'/\∃x:e.den,e.R H' x l:=fun hw h=>YX e hw h;unfold jm at h;split at h<;>first|(cases h;done)|skip
  all_goals first|(rename_i e0;obtain rfl:=Ty.slice.inj e0)|(simp at *;done)
  ·obtain⟨rfl,rfl⟩:=Prod.mk.inj (zsi h);exact⟨hw,Ext.refl _,([]:List e.den),.inl ⟨rfl,rfl⟩⟩
  ·rename_i es sp;split at h
   case isFalse=>cases h
   case isTrue hbd=>
   split at h
   case h_2=>cases h
   case h_1 cs H1 h1=>
    simp only [zoi] at h;obtain⟨w1,e1,xs,hl,r1⟩:=lU he hw h1;have hcl:cs.length=xs.length*e.sz:=RL.len (Ty.R_len e) r1;cases hcs:cs with
    |nil=>
     rw [hcs] at h r1;obtain⟨rfl,rfl⟩:=Prod.mk.inj h;exact⟨w1.skip 1,e1.skip 1,([]:List e.den),.inr ⟨_,[],rfl,Nat.zero_le _,by simp [Hp.loads],rfl⟩⟩
    |cons c cr=>
     have e2:tS e.sz es.length cs H1=([.slc H1.nx 0 es.length es.length e.sz false],H1.push (.row cs.length cs .lf false)):=by rw [hcs];rfl
     rw [e2] at h;obtain⟨rfl,rfl⟩:=Prod.mk.inj h;refine⟨w1.push _,Ext.push w1 e1 _,xs,.inr ⟨H1.nx,cs,by rw [hl],by rw [hl];exact hbd,?_,r1.mono (Ty.R_le (Ext.push w1 (Ext.refl _) _).le e)⟩⟩;rw [<-hcl];exact XL (rw:=false) (by rw [Hp.get_push,if_pos rfl])
 |.unit,ds,H,H',l,hw,h=>by
  unfold jm at h;split at h<;>first|(cases h;done)|skip
  all_goals simp_all
  obtain⟨rfl,rfl⟩:=h;exact⟨Ext.refl _,(),rfl⟩
 |.pair a b,ds,H,H',l,hw,h=>by
  cases ds with
  |nil=>simp [jm] at h
  |cons d ds=>
   simp only [jm] at h;cases h1:jm a [d] H with
   |none=>simp [h1] at h
   |some x=>
    obtain⟨l1,H1⟩:=x;simp only [h1] at h;cases h2:jm b ds H1 with
    |none=>simp [h2] at h
    |some y=>
     obtain⟨l',H2⟩:=y;simp only [h2,zoi,zpi] at h;obtain⟨rfl,rfl⟩:=h;obtain⟨w1,e1,x1,r1⟩:=YX a hw h1;obtain⟨w2,e2,x2,r2⟩:=YX b w1 h2;exact⟨w2,e1.trans e2,(x1,x2),l1,l',rfl,Ty.R_le e2.le _ _ _ r1,r2⟩
 |.agg r,ds,H,H',l,hw,h=>by
  unfold jm at h;split at h<;>first|(cases h;done)|skip
  all_goals first|(rename_i e0;obtain rfl:=Ty.agg.inj e0)|(simp at *;done)
  exact YX r hw h
end
open Go.RowKit Go.WideShapes Go.ChangeShapes
section
variable{X:Type}{enc:TypeId × Value->X}{P:Program}{G:Nat}
def W7:List Ty->Type
 |[]=>Unit
 |t::ts=>t.den × W7 ts
def RA(H:Hp):(ts:List Ty)->W7 ts->List V->Prop
 |[],_,vs=>vs=[]
 |t::ts,x,vs=>∃l vs',vs=JO t l::vs'/\t.R H (Prod.fst x) l/\RA H ts (Prod.snd x) vs'
theorem Vl:∀{ts:List Ty} {ds:List (DataW X)} {H H':Hp} {vs:List V},WF H->vw ts ds H=some (vs,H')->WF H'/\Ext H H'/\∃x:W7 ts,RA H' ts x vs
 |[],[],H,H',vs,hw,h=>by
  simp only [vw,zoi,zpi] at h;obtain⟨rfl,rfl⟩:=h;exact⟨hw,Ext.refl _,(),rfl⟩
 |t::ts,d::ds,H,H',vs,hw,h=>by
  simp only [vw] at h;split at h
  case h_2=>cases h
  case h_1 l H1 h1=>
   split at h
   case h_2=>cases h
   case h_1 vs' H2 h2=>
    obtain⟨rfl,rfl⟩:=Prod.mk.inj (zsi h);obtain⟨w1,e1,x1,r1⟩:=YX t hw h1;obtain⟨w2,e2,x2,r2⟩:=Vl w1 h2;exact⟨w2,e1.trans e2,(x1,x2),l,vs',rfl,Ty.R_le e2.le _ _ _ r1,r2⟩
 |[],_::_,_,_,_,_,h=>by simp [vw] at h
 |_::_,[],_,_,_,_,h=>by simp [vw] at h
theorem JY{W W':World}(hl:laidOutB P=true)(hb:Below W.heap.size W W'){sp:Nat->Bool}:∀{ts:List TypeId} {vs:List Value} {ds:List (DataW X)} {ps:List MemPlace},(ts.all fun t=>P.readableRec t&&decide (t<P.types.size))=true->
 DataW.TrodAll enc P W 0 (fun _=>true) true ts vs ds ps->(∀p∈ps,p.block<W.heap.size/\sp p.block=true)->DataW.TrodAll enc P W' 0 sp true ts vs ds ps
 |[],[],[],_,_,h,_=>h
 |t::ts,v::vs,d::ds,ps,hr,h,hp=>by
  obtain⟨p,q,h1,h2,rfl⟩:=h;simp only [List.all_cons,xD,xV] at hr;refine⟨p,q,WideElems.Trod_stays hl hr.1.1 hr.1.2 h1 (fun x hx=>hb.same (hp x (by simp [hx])).1) (fun x hx=>(hp x (by simp [hx])).2),JY hl hb (by simpa using hr.2) h2 (fun x hx=>hp x (by simp [hx])),rfl⟩
 |[],_::_,_,_,_,h,_=>by cases h
 |[],[],_::_,_,_,h,_=>by cases h
 |_::_,[],_,_,_,h,_=>by cases h
 |_::_,_::_,[],_,_,h,_=>by cases h
theorem lV {f:FuncId} {fn:Func} {s:ChangeSpec} {laid:List (String × DataW Unit)} {n:Nat} {Ts:List Ty} {H0:Hp} {tb:TypeId} {r:Reach}
 (hl:laidOutB P=true) (hrd:(fn.params.toList.all fun t=>P.readableRec t&&decide (t<P.types.size))=true) (hds:JD P n fn.params.toList=some Ts) (hvars:s.vars=[]) (hres:fn.resultTypes=#[tb]) (htb:P.underlying tb=some .bool)
 (hspec:∀ds:List (DataW X),ds.length=fn.params.toList.length->s.fn X ds={ results:=[.lit (.bool true)],args:=ds })
 (hH0:wM P n G laid ⟨.lf,G⟩=H0)
 (W:World) (base:Nat) (args:Array Value) (ds gs:List (DataW X)) (xq:List MemPlace)
 (hlaw:∀(H:Hp) (x:W7 Ts) (vs:List V),WF H->Ext H0 H->vJ H->RA H Ts x vs->vw Ts ds H0=some (vs,H)->qH P G f vs H fun v _=>v=.bool true)
 (hval:∀(j:Nat) t v,fn.params[j]?=some t->args[j]?=some v->Value.okWide P W r base t v)
 (hW:DataW.Whole enc P fn.params.toList s.vars false W args.toList ds gs xq) (hL:laidMet P laid W):
 Calls P f args W fun e W'=>∃v,e=.returned v/\s.post enc P fn false true false false W args v W':=by
 have hW0:=hW;obtain⟨p,q,hA,hV,rfl,hfz,hnd⟩:=hW;rw [hvars] at hV;obtain⟨rfl,rfl⟩:=trodVars_none hV;obtain⟨ps,hlv,_⟩:=hL;obtain⟨μ1,K1,R1,N1⟩:=KK (n:=n) hlv (BK (G:=G) W) (fun _ _ h=>by cases h) (fun _ _=>rfl);rw [hH0] at R1 N1;obtain⟨avs,H,μ2,K2,e2,R2,a2,g2⟩:=sG hds hA (fun j t v hj hj'=>hval j t v (by simpa using hj) (by simpa using hj')) R1 N1;obtain⟨w2,x2,x,rx⟩:=Vl R1.lt' e2;have N2:=g2.noMut N1;have hlen:ds.length=fn.params.toList.length:=by
  have:∀{ts:List TypeId} {vs:List Value} {ds:List (DataW X)} {ps:List MemPlace},DataW.TrodAll enc P W 0 (fun _=>true) true ts vs ds ps->ds.length=ts.length:=by
   intro ts;induction ts with
   |nil=>intro vs ds ps h;cases vs<;>cases ds<;>simp_all [DataW.TrodAll]
   |cons t ts ih=>
    intro vs ds ps h;cases vs with
    |nil=>cases h
    |cons v vs=>
     cases ds with
     |nil=>cases h
     |cons d ds=>obtain⟨_,_,_,h2,_⟩:=h;simp [ih h2]
  exact this hA
 have key:=hlaw H x avs w2 x2 N2 rx e2 μ2 K2 W args.toList R2 a2;rw [Array.toArray_toList] at key;refine key.mono ?_;rintro e W' ⟨y,rfl,v,H',μ',K',rfl,h2,h3,h4⟩;obtain rfl:y=.bool true:=h2;have hb:Below W.heap.size W W':=⟨h4.same.1,h4.same.2.1,h4.same.2.2.1,h4.size,fun k hk=>h4.keep k hk fun b bk hb hm=>by rw [N2 b bk hb] at hm;cases hm⟩;have hlt:∀x∈p,x.block<W.heap.size:=fun x hx=>hW0.lt x (by simp [hx]);have hsp:=hspec ds hlen;refine⟨_,rfl,ds,[],p++[],[],p,[],hW0,?_,?_,?_,World.keptBut_mono (fun z hz=>⟨hz,.inr (.inl (by simpa using hz))⟩) (hb.frame (·∈p++[])),fun h=>(by cases h)⟩
 ·rw [List.append_nil,hsp,hres];exact⟨[],[],shut_bool htb true,rfl,rfl⟩
 ·rw [List.append_nil,hsp];exact JY hl hb hrd hA fun z hz=>⟨hlt z hz,by simpa using hlt z hz⟩
 ·rw [List.append_nil,hsp,hvars];rfl
end
end Go.Ab

namespace Go.Ab
def Ty.fd:(t:Ty)->t.den->List FD
 |.bool,x=>[.c (.bool x)]
 |.int k,x=>[.c (.int k x)]
 |.str,x=>[.c (.str x)]
 |.slice e,x=>[.sl e.sz (List.length x) (List.flatMap (Ty.fd e) x)]
 |.unit,_=>[]
 |.pair a b,x=>Ty.fd a (Prod.fst x)++Ty.fd b (Prod.snd x)
 |.agg r,x=>Ty.fd r x
def Ty.okD:(t:Ty)->t.den->Prop
 |.bool,_=>True
 |.int k,x=>(Lit.int k x).wf=true
 |.str,_=>True
 |.slice e,x=>(∀y,List.Mem y x->Ty.okD e y)/\List.length x<=9223372036854775807
 |.unit,_=>True
 |.pair a b,x=>Ty.okD a (Prod.fst x)/\Ty.okD b (Prod.snd x)
 |.agg r,x=>Ty.okD r x
theorem RL.fd{e:Ty}{H:Hp}{R:FD->C->Prop}(h:∀x l,e.R H x l->qg R (e.fd x) l/\e.okD x):∀{xs:List e.den} {cs:List C},RL (e.R H) xs cs->qg R (xs.flatMap e.fd) cs/\∀y,List.Mem y xs->e.okD y
 |[],_,hh=>by obtain rfl:_=[]:=hh;exact⟨trivial,fun y hy=>by cases hy⟩
 |x::xs,_,⟨a,b,e',h1,h2⟩=>by
  subst e';obtain⟨g1,g2⟩:=h x a h1;obtain⟨g3,g4⟩:=RL.fd h h2;rw [List.flatMap_cons];refine⟨g1.append g3,fun y hy=>?_⟩;rcases List.mem_cons.1 hy with rfl|hy
  ·exact g2
  ·exact g4 y hy
theorem Ty.R_fd{H:Hp}(hw:WF H):∀(t:Ty) (x:t.den) (l:List C),t.R H x l->qg (RF (fun b=>b<H.nx) H) (t.fd x) l/\t.okD x
 |.bool,_,_,hh=>by obtain rfl:_=[_]:=hh;exact⟨⟨.c _ rfl,trivial⟩,trivial⟩
 |.int _,_,_,hh=>by obtain⟨rfl,h2⟩:=hh;exact⟨⟨.c _ rfl,trivial⟩,h2⟩
 |.str,_,_,hh=>by obtain rfl:_=[_]:=hh;exact⟨⟨.c _ rfl,trivial⟩,trivial⟩
 |.slice e,x,l,hh=>by
  rcases hh with⟨rfl,h2⟩|⟨b,cs,rfl,h0,h2,h3⟩
  ·obtain rfl:x=[]:=List.eq_nil_of_length_eq_zero h2;exact⟨⟨.nil _,trivial⟩,(fun y hy=>by cases hy),Nat.zero_le _⟩
  ·obtain⟨g1,g2⟩:=RL.fd (Ty.R_fd hw e) h3;refine⟨⟨.sl (fun h0=>?_) ?_ (Nat.le_refl _) h2 fun i d c hd hc=>?_,trivial⟩,g2,h0⟩
   ·cases hg:H.get b with
    |none=>
     have:=vt (i:=0) h2 h0;have hl:=yV h2;rw [zge (by omega)] at this;simp [Hp.cell,hg] at this
    |some bk=>exact hw b bk hg
   ·rw [g1.len,yV h2]
   ·obtain⟨c',hc',hr⟩:=g1.at i d hd;rw [hc] at hc';obtain rfl:=zsi hc';exact hr
 |.unit,_,_,hh=>by obtain rfl:_=[]:=hh;exact⟨trivial,trivial⟩
 |.pair a b,x,l,⟨l1,l2,e,h1,h2⟩=>by
  subst e;obtain⟨g1,g2⟩:=Ty.R_fd hw a _ _ h1;obtain⟨g3,g4⟩:=Ty.R_fd hw b _ _ h2;exact⟨g1.append g3,g2,g4⟩
 |.agg r,x,l,hh=>Ty.R_fd hw r x l hh
def Ty.isAgg:Ty->Bool
 |.agg _=>true
 |_=>false
def qcq:Bool->List FD->DV
 |true,l=>.agg (l.map .f)
 |false,[d]=>.one (.f d)
 |false,_=>.undef
def AO(t:Ty)(x:t.den):DV:=qcq t.isAgg (t.fd x)
def OE:Bool->List C->V
 |true,l=>.agg l
 |false,[c]=>.one c
 |false,_=>.undef
theorem S9(t:Ty)(l:List C):JO t l=OE t.isAgg l:=by
 cases t<;>cases l with
 |nil=>rfl
 |cons c l=>cases l<;>rfl
def DA:(ts:List Ty)->W7 ts->List DV
 |[],_=>[]
 |t::ts,x=>AO t (Prod.fst x)::DA ts (Prod.snd x)
def U6:(ts:List Ty)->W7 ts->Prop
 |[],_=>True
 |t::ts,x=>t.okD (Prod.fst x)/\U6 ts (Prod.snd x)
theorem I9{Z:Nat->Prop}{H:Hp}:∀(g:Bool) {l:List FD} {cs:List C},qg (RF Z H) l cs->xC Z H wG (qcq g l) (OE g cs)
 |true,l,cs,h=>⟨cs,rfl,vE h⟩
 |false,[],[],_=>yY
 |false,[d],[c],h=>⟨c,rfl,h.1⟩
 |false,_::_::_,_::_::_,_=>yY
 |false,[],_::_,h=>h.elim
 |false,_::_,[],h=>h.elim
 |false,[_],_::_::_,h=>h.2.elim
 |false,_::_::_,[_],h=>h.2.elim
theorem S8{H:Hp}(hw:WF H){t:Ty}{x:t.den}{l:List C}(h:t.R H x l):xC (fun b=>b<H.nx) H wG (AO t x) (JO t l):=by
 rw [S9];exact I9 _ (Ty.R_fd hw t x l h).1
theorem nY{H:Hp}(hw:WF H):∀{ts:List Ty} {x:W7 ts} {vs:List V},RA H ts x vs->qg (xC (fun b=>b<H.nx) H wG) (DA ts x) vs/\U6 ts x
 |[],_,_,hh=>by obtain rfl:_=[]:=hh;exact⟨trivial,trivial⟩
 |t::_,_,_,⟨l,vs',e,h1,h2⟩=>by
  subst e;obtain⟨g1,g2⟩:=nY hw h2;exact⟨⟨S8 hw h1,g1⟩,(Ty.R_fd hw t _ _ h1).2,g2⟩
theorem deep_law{P:Program}{G:Nat}{GH:Hp}{f:FuncId}{ts:List Ty}{H:Hp}{x:W7 ts}{vs:List V}(h:U6 ts x->yd P G GH f (DA ts x) fun d=>d=.bool true)(hw:WF H)(hG:∀b bk,GH.get b=some bk->H.get b=some bk)(hr:RA H ts x vs):qH P G f vs H fun v _=>v=.bool true:=by
 obtain⟨h1,h2⟩:=nY hw hr;refine (h h2 H _ vs hw (fun b hb=>hb) (fun b bk hb=>⟨hw b bk (hG b bk hb),hG b bk hb⟩) h1).mono ?_;rintro v H' ⟨_,_,_,d,hd,rfl⟩;obtain⟨c,rfl,hc⟩:=hd;cases hc;rfl
section
variable{G:Nat}{μ μ0:Nat->Pl}{K K0:Nat->Prop}{Ĥ:Hp}{w:World}{Z:Nat->Prop}
end
section
variable{P:Program}{G:Nat}{GH:Hp}{tb:Nat->Option SFn}
end
def sD(E:qq)(d:Nat):Option Opd->Option Nat
 |none=>some d
 |some x=>match ro E x with
  |some (.one (.f (.c (.int _ (.ofNat i)))))=>some i
  |_=>none
section
variable{p:Par}{base rs:Nat}{Q:qq->Bx->Nat->Prop}{r:List SOper}{W:Wt}{A:List Nat}{E:qq}{S:Bx}{nk:Nat}{id:Nat}{dst:Option Nat}{aid:Option Nat}{ws:List Nat}{keep:Bool}
theorem XV{Z:Nat->Prop}{β:qw}{H:Hp}{F:T V}(hE:ER Z β H E F){d i y:Nat}{x:Option Opd}(h:sD E d x=some i)(hy:i<=y):xt F d y x=some i:=by
 cases x with
 |none=>obtain rfl:=zsi h;simp only [xt,if_pos hy]
 |some x=>
  simp only [sD] at h;split at h
  ·rename_i hx;obtain rfl:=zsi h;simp only [xt,zT hE hx];rw [if_pos ⟨Int.natCast_nonneg _,Int.ofNat_le.2 hy⟩];rfl
  ·cases h
theorem YZ{esz:Nat}{x:Opd}{lo hi:Option Opd}{k o n l h o' n':Nat}(hx:ro E x=some (.one (.own k o n esz)))(hlo:sD E 0 lo=some l)(hhi:sD E n hi=some h)(h1:l<=h)(h2:h<=n)(ho:o+l*esz=o')(hn:h-l=n')(hd:DPW p base rs Q r W A (xk E dst (.one (.own k o' n' esz))) S nk):DPW p base rs Q (⟨id,dst,.p (.slice esz x lo hi none),none,aid,ws,keep⟩::r) W A E S nk:=by
 subst ho;subst hn;refine QT (fun {Z β H F} hE=>?_) hd;obtain⟨c,hc,hr⟩:=xf hE hx;rcases hr with⟨g1,rfl,rfl,rfl⟩|⟨b,N,cap,ex,g1,rfl,g2,g3⟩
 ·have e1:h=0:=by omega
  have e2:l=0:=by omega
  subst e1;subst e2;refine⟨.one .nils,?_,_,rfl,.inl ⟨g1,rfl,by simp,rfl⟩⟩;simp only [qv,hc,js,XV hE hlo (Nat.le_refl 0),XV hE hhi (Nat.le_refl 0)];rfl
 ·refine⟨.one (.slc b (o+l*esz) (h-l) (cap-l) esz ex),?_,_,rfl,.inr ⟨b,N,cap-l,ex,g1,rfl,oM,?_⟩⟩
  ·have hm:xt F cap cap none=some cap:=by simp [xt]
   simp only [qv,hc,js];rw [if_neg (by simp),hm];simp only [XV hE hhi (show h<=cap by omega),XV hE hlo h1];simp
  ·have:(cap-l)*esz+l*esz=cap*esz:=by rw [<-Nat.add_mul];congr 1;omega
   omega
theorem EB{esz:Nat}{x:Opd}{lo hi:Option Opd}{n l h n':Nat}{m q:List FD}(hx:ro E x=some (.one (.f (.sl esz n m))))(hlo:sD E 0 lo=some l)(hhi:sD E n hi=some h)(h1:l<=h)(h2:h<=n)(hn:h-l=n')(hq:xK m (l*esz) (n'*esz)=some q)(hd:DPW p base rs Q r W A (xk E dst (.one (.f (.sl esz n' q)))) S nk):DPW p base rs Q (⟨id,dst,.p (.slice esz x lo hi none),none,aid,ws,keep⟩::r) W A E S nk:=by
 subst hn;refine QT (fun {Z β H F} hE=>?_) hd;obtain⟨c,hc,hr⟩:=xf hE hx;obtain⟨hle,hqe⟩:=zV hq;cases hr with
 |nil=>
  have e1:h=0:=by omega
  have e2:l=0:=by omega
  subst e1;subst e2;obtain rfl:q=[]:=by rw [hqe];simp
  refine⟨.one .nils,?_,_,rfl,.nil esz⟩;simp only [qv,hc,js,XV hE hlo (Nat.le_refl 0),XV hE hhi (Nat.le_refl 0)];rfl
 |sl hz hl hcap hld hel=>
  rename_i b o cap ex cs;have hlen:m.length=cs.length:=by rw [hl,yV hld]
  refine⟨.one (.slc b (o+l*esz) (h-l) (cap-l) esz ex),?_,_,rfl,.sl (cs:=(cs.drop (l*esz)).take ((h-l)*esz)) (fun h0=>hz ?_) ?_ oM (kZ hld oM) fun i d c hd hc=>?_⟩
  ·have hm:xt F cap cap none=some cap:=by simp [xt]
   simp only [qv,hc,js];rw [if_neg (by simp),hm];simp only [XV hE hhi (show h<=cap by omega),XV hE hlo h1];simp
  ·have:(h-l)*esz<=n*esz:=Nat.mul_le_mul_right _ oM;omega
  ·rw [hqe,List.length_take,List.length_drop];omega
  ·rw [hqe] at hd;have ha:=((qg.mk hlen hel).drop (l*esz)).take ((h-l)*esz);obtain⟨c',hc',hr'⟩:=ha.at i d hd;rw [hc] at hc';obtain rfl:=zsi hc';exact hr'
end
def jE(β:qw)(k:Nat)(σ:Nat->Option Slot):qw:=fun κ=>if κ.1=k then σ κ.2 else β κ
theorem zj(β:qw)(k i:Nat)(σ:Nat->Option Slot):jE β k σ (k,i)=σ i:=by simp [jE]
theorem vq(β:qw){k:Nat}{κ:zC}(σ:Nat->Option Slot)(h:κ.1≠k):jE β k σ κ=β κ:=by simp [jE,h]
def iL(k j:Nat):DC->DC
 |.ptr a o=>match Nat.beq a k with
  |true=>.ptr j o
  |false=>.ptr a o
 |.own a o n e=>match Nat.beq a k with
  |true=>.own j o n e
  |false=>.own a o n e
 |d=>d
def rtV(k j:Nat):DV->DV
 |.one d=>.one (iL k j d)
 |.agg l=>.agg (l.map (iL k j))
 |.tup l=>.tup l
def Ws(k j:Nat):Bk->Bk
 |.cells l=>.cells (l.map (iL k j))
 |.data l=>.data l
 |.tree l=>.tree l
 |.mp ks l=>.mp ks l
 |.mt es=>.mt es
section
variable{p:Par}{Z:Nat->Prop}{β:qw}{H H':Hp}{S S0:Bx}{nk:Nat}
theorem SR.bleT(h:SR p Z β H S nk)(σ:Nat->Option Slot):xO β (jE β nk σ):=fun κ t hk=>by
 have:=h.lt1 hk;rw [vq _ _ (by omega)];exact hk
theorem SR.tree (h:SR p Z β H S nk) (hS0:∀k x,lk S0 k=some x->∃y,lk S k=some y) (hS1:∀κ x,qP S0 κ=some x->∃s,β κ=some s/\y8 p Z H β x s) {rows:List (List FD)} {σ:Nat->Option Slot} (hnx:H.nx<=H'.nx) (hw:WF H')
 (hg:∀b,(Z b\/∃κ x N,qP S0 κ=some x/\β κ=some (.blk b N))->H'.get b=H.get b)
 (hlt:∀i b N,σ i=some (.blk b N)->b<H'.nx)
 (hlo:∀i b N,σ i=some (.blk b N)->p.lo<=b)
 (hinj:∀i j b N N',σ i=some (.blk b N)->σ j=some (.blk b N')->i=j)
 (hdis:∀i b N (κ:zC) x M,σ i=some (.blk b N)->lk S0 κ.1=some x->β κ≠some (.blk b M))
 (hbox0:∃s,σ 0=some s/\y8 p Z H' (jE β nk σ) (.cells (zh nk 0 rows)) s)
 (hbox:∀i r,rows[i]?=some r->∃s,σ (i+1)=some s/\y8 p Z H' (jE β nk σ) (.data r) s):
 SR p Z (jE β nk σ) H' ((nk,.tree rows)::S0) (nk+1)/\xo Z H Z H'/\xO β (jE β nk σ):=by
 have hB:=h.bleT σ;have hzg:∀b',Z b'->H'.get b'=H.get b':=fun b' hb'=>hg b' (.inl hb');have hZ:xo Z H Z H':=xo.of_get (fun _ h=>h) hzg;refine⟨⟨hw,Nat.le_trans h.lo hnx,fun b' hb'=>Nat.lt_of_lt_of_le (h.z b' hb') hnx,h.zlo,h.zz,fun b' bk hb'=>?_,fun κ hκ=>?_,fun κ b' N hκ=>?_,fun κ y hκ=>?_,fun κ κ' y y' b' N N' hj hj' hs hs'=>?_,fun κ b' N hκ=>?_,fun κ hκ h0=>by rw [vq _ _ (by have:=h.ancn;omega)];exact h.anch κ hκ h0,Nat.le_succ_of_le h.ancn⟩,hZ,hB⟩
 ·obtain⟨h1,h2⟩:=h.glob b' bk hb';exact⟨h1,by rw [hzg b' h1];exact h2⟩
 ·rw [vq _ _ (by omega)];exact h.nk κ (by omega)
 ·by_cases e:κ.1=nk
  ·simp only [jE,if_pos e] at hκ;exact hlt _ _ _ hκ
  ·rw [vq _ _ e] at hκ;exact Nat.lt_of_lt_of_le (h.bd κ b' N hκ) hnx
 ·obtain⟨j,i⟩:=κ;by_cases e:j=nk
  ·subst e;have hl:lk ((j,.tree rows)::S0) j=some (.tree rows):=by rw [qQ,if_pos rfl]
   cases i with
   |zero=>
    simp only [qP,hl] at hκ;obtain rfl:=zsi hκ;obtain⟨s,h1,h2⟩:=hbox0;exact⟨s,by rw [zj];exact h1,h2⟩
   |succ i=>
    simp only [qP,hl] at hκ;cases hr:rows[i]? with
    |none=>rw [hr] at hκ;cases hκ
    |some r=>
     rw [hr] at hκ;obtain rfl:=zsi hκ;obtain⟨s,h1,h2⟩:=hbox i r hr;exact⟨s,by rw [zj];exact h1,h2⟩
  ·have hκ':qP S0 (j,i)=some y:=by
    rw [<-hκ];exact z6 (by rw [qQ,if_neg (fun h=>e h.symm)])
   obtain⟨s,hs,hbx⟩:=hS1 (j,i) y hκ';refine⟨s,hB _ s hs,hbx.mono hB hnx fun b' hb'=>?_⟩;rcases hb' with hb'|⟨N,rfl⟩
   ·exact hzg b' hb'
   ·exact hg b' (.inr ⟨(j,i),y,N,hκ',hs⟩)
 ·obtain⟨j,i⟩:=κ;obtain⟨j',i'⟩:=κ';simp only at hj hj';by_cases e1:j=nk
  ·subst e1;rw [zj] at hs;by_cases e2:j'=j
   ·subst e2;rw [zj] at hs';rw [hinj i i' b' N N' hs hs']
   ·rw [vq _ _ e2] at hs';rw [qQ,if_neg (fun h=>e2 h.symm)] at hj';exact absurd hs' (hdis i b' N (j',i') y' N' hs hj')
  ·rw [vq _ _ e1] at hs;rw [qQ,if_neg (fun h=>e1 h.symm)] at hj;by_cases e2:j'=nk
   ·subst e2;rw [zj] at hs';exact absurd hs (hdis i' b' N' (j,i) y N hs' hj)
   ·rw [vq _ _ e2] at hs';rw [qQ,if_neg (fun h=>e2 h.symm)] at hj';obtain⟨z1,g1⟩:=hS0 j y hj;obtain⟨z2,g2⟩:=hS0 j' y' hj';exact h.inj _ _ z1 z2 b' N N' g1 g2 hs hs'
 ·by_cases e:κ.1=nk
  ·simp only [jE,if_pos e] at hκ;exact hlo _ _ _ hκ
  ·rw [vq _ _ e] at hκ;exact h.blo κ b' N hκ
theorem B6{k:Nat}{σ:Nat->Option Slot}(h:SR p Z β H S nk)(h0:σ 0=β (k,0))(hZ:xo Z H Z H'){d:DC}{c:C}(hr:RD Z H β d c):RD Z H' (jE β nk σ) (iL k nk d) c:=by
 have hB:=h.bleT σ;cases d with
 |ptr a o=>
  simp only [iL];by_cases e:a=k
  ·subst e;rw [jU];obtain⟨b,N,h1,h2⟩:=hr;exact⟨b,N,by rw [zj,h0];exact h1,h2⟩
  ·rw [jr e];exact hr.mono hZ hB
 |own a o n e'=>
  simp only [iL];by_cases e:a=k
  ·subst e;rw [jU];rcases hr with⟨h1,h2⟩|⟨b,N,cap,ex,h1,h2⟩
   ·exact .inl ⟨by rw [zj,h0];exact h1,h2⟩
   ·exact .inr ⟨b,N,cap,ex,by rw [zj,h0];exact h1,h2⟩
  ·rw [jr e];exact hr.mono hZ hB
 |f d=>exact RD.mono (d:=.f d) hZ hB hr
 |g b o=>exact hr
 |fptr l=>exact RD.mono (d:=.fptr l) hZ hB hr
 |fn f l=>exact RD.mono (d:=.fn f l) hZ hB hr
 |any=>trivial
 |om a=>exact RD.mono (d:=.om a) hZ (h.bleT σ) hr
 |yl a=>exact RD.mono (d:=.yl a) hZ (h.bleT σ) hr
 |fz f ls=>exact RD.mono (d:=.fz f ls) hZ hB hr
 |trow a i o n=>exact RD.mono (d:=.trow a i o n) hZ hB hr
 |tptr a i o=>exact RD.mono (d:=.tptr a i o) hZ hB hr
theorem iK{k:Nat}{σ:Nat->Option Slot}(h:SR p Z β H S nk)(h0:σ 0=β (k,0))(hZ:xo Z H Z H'):∀{l:List DC} {cs:List C},qg (RD Z H β) l cs->qg (RD Z H' (jE β nk σ)) (l.map (iL k nk)) cs
 |[],[],_=>trivial
 |_::_,_::_,hr=>⟨B6 h h0 hZ hr.1,iK h h0 hZ hr.2⟩
 |[],_::_,hr=>hr.elim
 |_::_,[],hr=>hr.elim
theorem UU{k:Nat}{σ:Nat->Option Slot}{E:qq}{F:T V}(h:SR p Z β H S nk)(h0:σ 0=β (k,0))(hZ:xo Z H Z H')(hE:ER Z β H E F):ER Z (jE β nk σ) H' (yr (rtV k nk) E) F:=fun n d hd=>by
 rw [wK] at hd;cases hl:lk E n with
 |none=>rw [hl] at hd;cases hd
 |some y=>
  rw [hl] at hd;obtain rfl:=zsi hd;obtain⟨v,hv,hr⟩:=hE n y hl;refine⟨v,hv,?_⟩;cases y with
  |one d=>obtain⟨c,rfl,hr⟩:=hr;exact⟨c,rfl,B6 h h0 hZ hr⟩
  |agg m=>obtain⟨c,rfl,hr⟩:=hr;exact⟨c,rfl,iK h h0 hZ hr⟩
  |tup m=>exact xC.mono (d:=.tup m) hZ (h.bleT σ) hr
theorem Aa{k j:Nat}{S:Bx}{κ:zC}{y:Bk}(hy:qP (yr (Ws k j) S) κ=some y):∃x,qP S κ=some x/\(y=Ws k j x\/y=x):=by
 obtain⟨z,hz⟩:=yy hy;rw [wK] at hz;cases hl:lk S κ.1 with
 |none=>rw [hl] at hz;cases hz
 |some x=>
  have hlk:lk (yr (Ws k j) S) κ.1=some (Ws k j x):=by rw [wK,hl];rfl
  obtain⟨a,i⟩:=κ;simp only at hl hlk;cases i with
  |zero=>
   simp only [qP,hl];simp only [qP,hlk] at hy;cases x with
   |cells m=>exact⟨_,rfl,.inl (zsi hy).symm⟩
   |data m=>exact⟨_,rfl,.inl (zsi hy).symm⟩
   |tree rows=>exact⟨_,rfl,.inr (zsi hy).symm⟩
   |mp ks l=>exact⟨_,rfl,.inr (zsi hy).symm⟩
   |mt es=>exact⟨_,rfl,.inr (zsi hy).symm⟩
  |succ i=>
   simp only [qP,hl];simp only [qP,hlk] at hy;cases x with
   |cells m=>cases hy
   |data m=>cases hy
   |tree rows=>
    cases hr:rows[i]? with
    |none=>simp only [Ws,hr] at hy;cases hy
    |some r=>simp only [Ws,hr] at hy;exact⟨.data r,by simp only [hr];rfl,.inr (zsi hy).symm⟩
   |mp ks l=>cases hy
   |mt es=>exact⟨_,hy,.inr rfl⟩
theorem SR.rtS{k:Nat}{σ:Nat->Option Slot}{rows:List (List FD)}(h:SR p Z β H S nk)(h0:σ 0=β (k,0))(hZ:xo Z H Z H')(hS0:∀κ x,qP S0 κ=some x->qP S κ=some x)(hne:∀κ x,qP S0 κ=some x->κ.1≠nk)(hT:SR p Z (jE β nk σ) H' ((nk,.tree rows)::S0) (nk+1))(hg:∀b,(∃κ x N,qP S0 κ=some x/\β κ=some (.blk b N))->H'.get b=H.get b)(hnx:H.nx<=H'.nx):SR p Z (jE β nk σ) H' ((nk,.tree rows)::yr (Ws k nk) S0) (nk+1):=by
 refine⟨hT.wf,hT.lo,hT.z,hT.zlo,hT.zz,hT.glob,hT.nk,hT.bd,fun κ y hκ=>?_,fun κ κ' y y' b N N' hj hj' hs hs'=>?_,hT.blo,hT.anch,hT.ancn⟩
 ·by_cases e:κ.1=nk
  ·refine hT.box κ y ?_;rw [<-hκ];exact z6 (by rw [qQ,qQ,if_pos e.symm,if_pos e.symm])
  ·have hκ':qP (yr (Ws k nk) S0) κ=some y:=by
    rw [<-hκ];exact z6 (by rw [qQ,if_neg (fun h=>e h.symm)])
   obtain⟨x,hx,hyx⟩:=Aa hκ';have hxT:qP ((nk,.tree rows)::S0) κ=some x:=by
    rw [<-hx];exact z6 (by rw [qQ,if_neg (fun h=>e h.symm)])
   obtain⟨s,hs,hbx⟩:=hT.box κ x hxT;rcases hyx with rfl|rfl
   ·refine⟨s,hs,?_⟩;cases s with
    |nil=>cases x<;>simpa [y8,Ws,Bk.len] using hbx
    |blk b N=>
     cases x with
     |cells m=>
      obtain⟨s0,hs0,hb0⟩:=h.box κ _ (hS0 κ _ hx);have:=h.bleT σ κ s0 hs0;rw [hs] at this;obtain rfl:=zsi this;obtain⟨g1,g2,g3,cs,rest,g4,g5,g6⟩:=hb0;exact⟨g1,g2,oM,cs,rest,g4.same (hg b ⟨κ,_,N,hx,hs0⟩),g5,iK h h0 hZ g6⟩
     |data m=>exact hbx
     |tree m=>exact hbx
     |mp ks l=>exact hbx
     |mt es=>exact hbx
   ·exact⟨s,hs,hbx⟩
 ·have f:∀a w,lk ((nk,.tree rows)::yr (Ws k nk) S0) a=some w->∃w',lk ((nk,.tree rows)::S0) a=some w':=fun a w hw=>by
   rw [qQ] at hw ⊢;split at hw
   ·rename_i e;exact⟨_,by rw [if_pos e]⟩
   ·rename_i e;rw [wK] at hw;cases hl:lk S0 a with
    |none=>rw [hl] at hw;cases hw
    |some q=>exact⟨q,by rw [if_neg e]⟩
  obtain⟨z1,e1⟩:=f _ y hj;obtain⟨z2,e2⟩:=f _ y' hj';exact hT.inj κ κ' z1 z2 b N N' e1 e2 hs hs'
end
theorem eD(k:Nat):∀(i:Nat) (rows:List (List FD)) (j:Nat) (r r':List FD),rows[j]?=some r->r'.length=r.length->zh k i (rows.set j r')=zh k i rows
 |_,[],_,_,_,h,_=>by simp at h
 |i,q::rs,0,r,r',h,hl=>by simp at h;subst h;simp [zh,hl]
 |i,q::rs,j+1,r,r',h,hl=>by
  simp only [List.set_cons_succ,zh];rw [eD k (i+1) rs j r r' (by simpa using h) hl]
theorem Wu{Z:Nat->Prop}{H H':Hp}{β β':qw}{k k':Nat}{rows rows':List (List FD)}{cs cs':List C}(hl:rows'.length=cs'.length)(h:∀i r c,rows'[i]?=some r->cs'[i]?=some c->RD Z H' β' (.trow k' i 0 r.length) c):qg (RD Z H' β') (zh k' 0 rows') cs':=by
 refine qg.mk (by rw [kO];exact hl) fun i d c hd hc=>?_;rw [Q9] at hd;cases hr:rows'[i]? with
 |none=>rw [hr] at hd;cases hd
 |some r=>
  rw [hr] at hd;simp only [Option.map_some,zoi,Nat.zero_add] at hd;subst hd;exact h i r c hr hc
section
variable{p:Par}{base rs:Nat}{Q:qq->Bx->Nat->Prop}{r:List SOper}{W:Wt}{A:List Nat}{E:qq}{S:Bx}{nk:Nat}{id:Nat}{dst:Option Nat}{aid:Option Nat}{ws:List Nat}{keep:Bool}
theorem AR.tree{Z:Nat->Prop}{β:qw}{H H':Hp}{σ:Nat->Option Slot}(hA:AR p base rs A Z β H)(hnx:H.nx<=H'.nx)(hg:∀j,j<rs->j∉A->H'.get (base+j)=H.get (base+j))(hb:∀j,j<rs->j∉A->∀i N,σ i≠some (.blk (base+j) N)):AR p base rs A Z (jE β nk σ) H':=by
 refine⟨hA.1,fun j hj hjA=>?_⟩;obtain⟨h1,h2,h3,h4⟩:=hA.2 j hj hjA;refine⟨by omega,by rw [hg j hj hjA];exact h2,h3,fun κ M=>?_⟩;by_cases e:κ.1=nk
 ·simp only [jE,if_pos e];exact hb j hj hjA _ M
 ·rw [vq _ _ e];exact h4 κ M
theorem GW{Z:Nat->Prop}{β:qw}{H H':Hp}{n b:Nat}(hS:SR p Z β H S nk)(hz:¬Z b)(hβ:∀κ N,β κ≠some (.blk b N))(hlo:p.lo<=b)(hb:b<H'.nx)(hnx:H.nx<=H'.nx)(hw:WF H')(hg:∀b',b'≠b->H'.get b'=H.get b')(hr:H'.get b=some (.row (n*1) [.nils] .lf true)):
 ∃σ,SR p Z (jE β nk σ) H' ((nk,.tree (List.replicate n []))::S) (nk+1)/\xo Z H Z H'/\xO β (jE β nk σ)/\σ 0=some (.blk b n)/\∀i c N,σ i=some (.blk c N)->c=b:=by
 have hs0:∀i c N,(fun i=>match i with|0=>some (Slot.blk b n)|i+1=>if i<n then some Slot.nil else none) i=some (Slot.blk c N)->c=b/\i=0:=fun i c N h=>by
  cases i with
  |zero=>exact⟨(Slot.blk.inj (zsi h)).1.symm,rfl⟩
  |succ i=>
   simp only at h;split at h<;>cases h
 refine⟨fun i=>match i with|0=>some (.blk b n)|i+1=>if i<n then some .nil else none,?_⟩
 obtain⟨g1,g2,g3⟩:=hS.tree (S0:=S) (H':=H') (rows:=List.replicate n []) (σ:=fun i=>match i with|0=>some (.blk b n)|i+1=>if i<n then some .nil else none) (fun k x h=>⟨x,h⟩) hS.box hnx hw
  (fun c hc=>hg c fun e=>by
   rcases hc with hc|⟨κ,x,N,_,hc⟩
   ·exact hz (e▸hc)
   ·exact hβ κ N (e▸hc))
  (fun i c N h=>by rw [(hs0 i c N h).1];exact hb)
  (fun i c N h=>by rw [(hs0 i c N h).1];exact hlo)
  (fun i j c N N' h h'=>by rw [(hs0 i c N h).2,(hs0 j c N' h').2])
  (fun i c N κ x M h _=>by rw [(hs0 i c N h).1];exact hβ κ M)
  ⟨_,rfl,hz,hlo,hb,List.replicate n .nils,[],by
   rw [List.append_nil];have:=pK (z:=[.nils]) (M:=n*1) (by simp) b H' hr;have e:(List.range (n*1)).map (fun i=>[C.nils].getD (i % [C.nils].length) .nilp)=List.replicate n C.nils:=by
    refine List.ext_getElem? fun i=>?_;rw [List.getElem?_map];by_cases hi:i<n
    ·rw [List.getElem?_range (by omega),List.getElem?_replicate,if_pos hi];simp [Nat.mod_one]
    ·rw [List.getElem?_eq_none (by simp;omega),List.getElem?_replicate,if_neg hi];rfl
   rw [e] at this;exact this,(by simp [Yi,Bk.shape]),by
   refine Wu (k:=0) (rows:=[]) (cs:=[]) (H:=H) (β:=β) (by simp) fun i r c h1 h2=>?_;rw [List.getElem?_replicate] at h1 h2;split at h1
   ·rename_i hi;rw [if_pos hi] at h2;obtain rfl:=zsi h1;obtain rfl:=zsi h2;exact .inl ⟨by rw [zj];simp only [if_pos hi],rfl,rfl,rfl⟩
   ·cases h1⟩
  (fun i r h=>by
   rw [List.getElem?_replicate] at h;split at h
   ·rename_i hi;obtain rfl:=zsi h;exact⟨.nil,by simp only [if_pos hi],rfl⟩
   ·cases h)
 exact⟨g1,g2,g3,rfl,fun i c N h=>(hs0 i c N h).1⟩
theorem C1{bytes n:Nat}{lo co:Opd}{k k':IntKind}(hl:ro E lo=some (.one (.f (.c (.int k (n:Nat))))))(hc:ro E co=some (.one (.f (.c (.int k' (n:Nat))))))(hb:bytes*n<=281474976710656)(hm:n<4611686018427387904){Z:Nat->Prop}{β:qw}{H:Hp}{F:T V}(hE:ER Z β H E F):xA F (.mkslice 1 bytes [.nils] lo co)=some (.row (n*1) [.nils] .lf true,fun b=>.one (.slc b 0 n n 1 true)):=by
 simp only [xA,zT hE hl,zT hE hc];rw [if_pos ⟨by omega,by omega,by omega,by omega⟩];simp
theorem qaD {bytes n:Nat} {lo co:Opd} {k k':IntKind} (hl:ro E lo=some (.one (.f (.c (.int k (n:Nat)))))) (hc:ro E co=some (.one (.f (.c (.int k' (n:Nat)))))) (hb:bytes*n<=281474976710656) (hm:n<4611686018427387904)
 (h:DPW p base rs Q r W A (xk E dst (.one (.own nk 0 n 1))) ((nk,.tree (List.replicate n []))::S) (nk+1)):DPW p base rs Q (⟨id,dst,.a (.mkslice 1 bytes [.nils] lo co),none,none,ws,keep⟩::r) W A E S nk:=.mk fun Z β H F c hS hE hC hA=>by
 simp only [qF,qt,if_true,C1 hl hc hb hm hE];have hfr:H.get H.nx=none:=hS.wf.fresh (Nat.le_refl _);have hg:∀b',b'≠H.nx->(H.push (.row (n*1) [.nils] .lf true)).get b'=H.get b':=fun b' hb'=>by rw [Hp.get_push,if_neg hb']
 obtain⟨σ,hS',hZ,hB,s0,s1⟩:=GW (n:=n) (b:=H.nx) (H':=H.push (.row (n*1) [.nils] .lf true)) hS (fun hz=>absurd (hS.z _ hz) (by omega)) (fun k N hk=>absurd (hS.bd k _ N hk) (by omega)) hS.lo (by simp) (by simp) (hS.wf.push _) hg (by rw [Hp.get_push,if_pos rfl]);refine h.run Z _ _ _ c hS' ((hE.mono hZ hB).set dst ⟨_,rfl,.inr ⟨H.nx,n,n,true,by rw [zj];exact s0,rfl,Nat.le_refl _,by omega⟩⟩) (hC.new hZ hB hg hfr) (hA.tree (by simp) (fun j hj hjA=>hg _ ?_) fun j hj hjA i N e=>?_)
 ·have:=(hA.2 j hj hjA).1;omega
 ·have:=s1 i _ N e;have:=(hA.2 j hj hjA).1;omega
theorem SR.updT{Z:Nat->Prop}{β:qw}{H H':Hp}(h:SR p Z β H S nk){k i b N:Nat}{rows:List (List FD)}{q q':List FD}{cs rest:List C}(hk:lk S k=some (.tree rows))(hi:rows[i]?=some q)(hs:β (k,i+1)=some (.blk b N))(hl:q'.length=q.length)(hx:qg (RF Z H) q' cs)(hg:∀b',b'≠b->H'.get b'=H.get b')(hnx:H'.nx=H.nx)(hr:x6 H' b (cs++rest))(hN:(cs++rest).length=N):
 SR p Z β H' (put k (.tree (rows.set i q')) S) nk/\xo Z H Z H':=by
 have hk2:=Qu hk hi;obtain⟨s,hs',hbx⟩:=h.box (k,i+1) _ hk2;rw [hs] at hs';obtain rfl:=zsi hs';obtain⟨hz,hlo,hlt,_⟩:=hbx;have hzg:∀b',Z b'->H'.get b'=H.get b':=fun b' hb'=>hg b' fun e=>hz (e▸hb');have hZ:xo Z H Z H':=xo.of_get (fun _ h=>h) hzg;have hil:i<rows.length:=(zgs hi).1;have hoth:∀(κ:zC) y,κ≠(k,i+1)->qP S κ=some y->∃s,β κ=some s/\y8 p Z H' β y s:=fun κ y hne hy=>by
  obtain⟨s,hsj,hbj⟩:=h.box κ y hy;obtain⟨z,hz⟩:=yy hy;refine⟨s,hsj,hbj.mono (xO.refl _) oM fun b' hb'=>?_⟩;rcases hb' with hb'|⟨M,rfl⟩
  ·exact hzg b' hb'
  ·exact hg b' fun e'=>hne (h.inj κ (k,i+1) z _ b M N hz hk (e'▸hsj) hs)
 refine⟨⟨fun b' bk hb'=>?_,by rw [hnx];exact h.lo,fun b' hb'=>by rw [hnx];exact h.z b' hb',h.zlo,h.zz,fun b' bk hb'=>?_,h.nk,fun k b' N hk=>by rw [hnx];exact h.bd k b' N hk,fun κ y hκ=>?_,fun j j' y y' b' M M' hj hj' hsj hsj'=>?_,h.blo,h.anch,h.ancn⟩,hZ⟩
 ·rw [hnx];by_cases e:b'=b
  ·omega
  ·rw [hg b' e] at hb';exact h.wf b' bk hb'
 ·obtain⟨h1,h2⟩:=h.glob b' bk hb';exact⟨h1,by rw [hzg b' h1];exact h2⟩
 ·obtain⟨j,t⟩:=κ;by_cases e:j=k
  ·subst e;have hl':lk (put j (.tree (rows.set i q')) S) j=some (.tree (rows.set i q')):=by rw [yx,if_pos rfl,hk];rfl
   cases t with
   |zero=>
    simp only [qP,hl',eD j 0 rows i q q' hi hl] at hκ;exact hoth (j,0) y (by simp) (by simp only [qP,hk];exact hκ)
   |succ t=>
    simp only [qP,hl',List.getElem?_set] at hκ;by_cases et:i=t
    ·subst et;rw [if_pos rfl,if_pos hil] at hκ;obtain rfl:=zsi hκ;exact⟨_,hs,hz,hlo,oM,cs,rest,hr,hN,qg.mono (fun _ _=>RF.mono hZ) hx⟩
    ·rw [if_neg et] at hκ;exact hoth (j,t+1) y (fun h=>et (by simp at h;omega)) (by simp only [qP,hk];exact hκ)
  ·have:qP S (j,t)=some y:=by rw [<-hκ];exact (z6 (by rw [yx,if_neg e])).symm
   exact hoth (j,t) y (fun h=>e (Prod.mk.inj h).1) this
 ·rw [yx] at hj hj';have f:∀a z,(if a=k then Option.map (fun _=>Bk.tree (rows.set i q')) (lk S a) else lk S a)=some z->∃z',lk S a=some z':=fun a z hz=>by
   split at hz
   ·cases hl:lk S a with
    |none=>rw [hl] at hz;cases hz
    |some q=>exact⟨q,rfl⟩
   ·exact⟨z,hz⟩
  obtain⟨z1,e1⟩:=f j.1 y hj;obtain⟨z2,e2⟩:=f j'.1 y' hj';exact h.inj j j' z1 z2 b' M M' e1 e2 hsj hsj'
theorem ZN {a v:Opd} {k i o:Nat} {rows:List (List FD)} {q:List FD} {x:FD} (ha:ro E a=some (.one (.tptr k i o))) (hv:ro E v=some (.one (.f x))) (hk:lk S k=some (.tree rows)) (hi:rows[i]?=some q) (ho:o<q.length) (hw:jD S k W=true)
 (h:DPW p base rs Q r W A (xk E dst .undef) (put k (.tree (rows.set i (q.set o x))) S) nk):DPW p base rs Q (⟨id,dst,.e (.store 1 a v),none,aid,ws,keep⟩::r) W A E S nk:=.mk fun Z β H F c hS hE hC hA=>by
 obtain⟨ca,hca,b,N,hb,rfl⟩:=xf hE ha;obtain⟨cv,hcv,hrv⟩:=xf hE hv;obtain⟨s,hs,hbx⟩:=hS.box (k,i+1) _ (Qu hk hi);rw [hb] at hs;obtain rfl:=zsi hs;obtain⟨hz,hlo,hlt,cs,rest,hrow,hN,hrel⟩:=hbx;have hN:(cs++rest).length=_:=hN;have hlen:q.length=cs.length:=qg.len hrel;obtain⟨H',e1,e2,e3,e4⟩:=hrow.stores (cs:=[cv]) (i:=o) (by simp;omega);rw [Qe [cv] cs rest o (by simp;omega)] at e2;obtain⟨hS',hZ⟩:=hS.updT (q':=q.set o x) (cs:=yH cs o [cv]) (rest:=rest) hk hi hb (by simp) (qg.set hrel o hrv) e3 e4 e2 (by rw [List.length_append,wV,<-List.length_append];exact hN);simp only [qF,qt,if_true,xr,hca,hcv,jC];rw [if_pos (by simp),e1];have hC':=hC.upd (k:=(k,i+1)) hS hk hZ e3 hb hw;exact⟨hC'.watch ws,h.run Z β H' _ c hS' ((hE.mono hZ (xO.refl _)).set dst yY) hC' (hA.upd e4 e3 hb)⟩
theorem qaH {x y:Opd} {k i n:Nat} {rows:List (List FD)} {q l:List FD} {d:DV} (hx:ro E x=some (.one (.trow k i 0 n))) (hy:ro E y=some d) (hk:lk S k=some (.tree rows)) (hi:rows[i]?=some q) (hq:q.length=n) (hd:AT S 1 d n l) (hw:jD S k W=true)
 (h:DPW p base rs Q r W A (xk E dst (.int n)) (put k (.tree (rows.set i l)) S) nk):DPW p base rs Q (⟨id,dst,.e (.copy 1 x y),none,aid,ws,keep⟩::r) W A E S nk:=.mk fun Z β H F c hS hE hC hA=>by
 obtain⟨news,hn1,hn2,hn3⟩:=rX hS hE hy hd;rw [Nat.mul_one] at hn3;have hil:i<rows.length:=(zgs hi).1;obtain⟨cx,hcx,hrx⟩:=xf hE hx;simp only [qF,qt,if_true,xr,hcx,hn1];rcases hrx with⟨g1,rfl,_,rfl⟩|⟨b,N,cap,ex,hb,rfl,hcap,hcN⟩
 ·have e1:q=[]:=List.eq_nil_of_length_eq_zero hq;have e2:l=[]:=List.eq_nil_of_length_eq_zero (by rw [hn2.len,hn3]);subst e1;subst e2;have hset:rows.set i []=rows:=by
   refine List.ext_getElem? fun j=>?_;rw [List.getElem?_set];split
   ·rename_i e;subst e;rw [hi]
   ·rfl
  rw [hset] at h;have hSp:SR p Z β H (put k (.tree rows) S) nk:=hS.keepS fun j z hj=>by
   rw [yx] at hj;split at hj
   ·rename_i e;subst e;rw [hk] at hj ⊢;exact hj
   ·exact hj
  exact⟨hC.watch ws,h.run Z β H _ c hSp (hE.set dst ⟨_,rfl,.c _ rfl⟩) hC hA⟩
 ·obtain⟨s,hs,hbx⟩:=hS.box (k,i+1) _ (Qu hk hi);rw [hb] at hs;obtain rfl:=zsi hs;obtain⟨hz,hlo,hlt,cs,rest,hrow,hN,hrel⟩:=hbx;have hN:(cs++rest).length=_:=hN;have hlen:q.length=cs.length:=qg.len hrel;have htk:news.take (min n n*1)=news:=List.take_of_length_le oM;obtain⟨H',e1,e2,e3,e4⟩:=hrow.stores (cs:=news) (i:=0) (by simp;omega);rw [Qe news cs rest 0 (by omega)] at e2;have hset:yH cs 0 news=news:=by
   have:=vd [] cs news [] oM;simpa using this
  rw [hset] at e2;obtain⟨hS',hZ⟩:=hS.updT (q':=l) (cs:=news) (rest:=rest) hk hi hb (by rw [hn2.len];omega) hn2 e3 e4 e2 (by rw [<-hN];simp;omega);simp only [if_true,htk,e1];have hC':=hC.upd (k:=(k,i+1)) hS hk hZ e3 hb hw;have hmin:((min n n:Nat):Int)=(n:Int):=by rw [Nat.min_self]
  simp only [Option.map_some,hmin];exact⟨hC'.watch ws,h.run Z β H' _ c hS' ((hE.mono hZ (xO.refl _)).set dst ⟨_,rfl,.c _ rfl⟩) hC' (hA.upd e4 e3 hb)⟩
theorem H8 {a v:Opd} {k k' o n:Nat} {rows:List (List FD)} {q:List FD} (ha:ro E a=some (.one (.ptr k o))) (hv:ro E v=some (.one (.own k' 0 n 1))) (hk:lk S k=some (.tree rows)) (hk':lk S k'=some (.data q)) (hn:q.length=n) (ho:o<rows.length) (hw:jD S k W=true)
 (h:DPW p base rs Q r W A (xk (yr (rtV k nk) E) dst .undef) ((nk,.tree (rows.set o q))::yr (Ws k nk) (zB k' (zB k S))) (nk+1)):DPW p base rs Q (⟨id,dst,.e (.store 1 a v),none,aid,ws,keep⟩::r) W A E S nk:=.mk fun Z β H F c hS hE hC hA=>by
 obtain⟨ca,hca,b,N,hb,rfl⟩:=xf hE ha;obtain⟨cv,hcv,hrv⟩:=xf hE hv;have hk0:qP S (k,0)=some (.cells (zh k 0 rows)):=by simp only [qP,hk]
 have hkk:k'≠k:=fun e=>by subst e;rw [hk] at hk';cases hk'
 obtain⟨s,hs,hbx⟩:=hS.box (k,0) _ hk0;rw [hb] at hs;obtain rfl:=zsi hs;obtain⟨hz,hlo,hlt,cs,rest,hrow,hN,hrel⟩:=hbx;have hN:(cs++rest).length=_:=hN;have hlen:(zh k 0 rows).length=cs.length:=qg.len hrel;rw [kO] at hlen;obtain⟨H',e1,e2,e3,e4⟩:=hrow.stores (cs:=[cv]) (i:=o) (by simp;omega);rw [Qe [cv] cs rest o (by simp;omega)] at e2;have hwf:WF H':=fun b' bk hb'=>by
  rw [e4];by_cases e:b'=b
  ·omega
  ·rw [e3 b' e] at hb';exact hS.wf b' bk hb'
 let κ:Nat->Option zC:=fun i=>match i with
  |0=>some (k,0)
  |i+1=>if i=o then some (k',0) else if i<rows.length then some (k,i+1) else none
 let σ:Nat->Option Slot:=fun i=>(κ i).bind β;have hσ:∀i s,σ i=some s->∃a,κ i=some a/\β a=some s:=fun i s h=>by
  simp only [σ,Option.bind_eq_some_iff] at h;exact h
 have hκlive:∀i a,κ i=some a->(a.1=k\/a.1=k')/\∃x,lk S a.1=some x:=fun i a h=>by
  cases i with
  |zero=>obtain rfl:=zsi h;exact⟨.inl rfl,_,hk⟩
  |succ i=>
   simp only [κ] at h;split at h
   ·obtain rfl:=zsi h;exact⟨.inr rfl,_,hk'⟩
   ·split at h
    ·obtain rfl:=zsi h;exact⟨.inl rfl,_,hk⟩
    ·cases h
 have hκinj:∀i j a,κ i=some a->κ j=some a->i=j:=fun i j a h1 h2=>by
  cases i with
  |zero=>
   obtain rfl:=zsi h1;cases j with
   |zero=>rfl
   |succ j=>
    simp only [κ] at h2;split at h2
    ·have:=zsi h2;simp at this;exact absurd this hkk
    ·split at h2
     ·have:=zsi h2;simp at this
     ·cases h2
  |succ i=>
   cases j with
   |zero=>
    obtain rfl:=zsi h2;simp only [κ] at h1;split at h1
    ·have:=zsi h1;simp at this;exact absurd this hkk
    ·split at h1
     ·have:=zsi h1;simp at this
     ·cases h1
   |succ j=>
    simp only [κ] at h1 h2;split at h1
    ·rename_i ei;obtain rfl:=zsi h1;split at h2
     ·omega
     ·split at h2
      ·have:=zsi h2;simp at this
      ·cases h2
    ·split at h1
     ·obtain rfl:=zsi h1;split at h2
      ·have:=zsi h2;simp at this
      ·split at h2
       ·have:=zsi h2;simp at this;omega
       ·cases h2
     ·cases h1
 have hσ0:σ 0=β (k,0):=by simp [σ,κ]
 have hera:∀j x,lk (zB k' (zB k S)) j=some x->lk S j=some x/\j≠k/\j≠k':=fun j x hj=>by
  rw [yP,yP] at hj;split at hj
  ·cases hj
  ·split at hj
   ·cases hj
   ·exact⟨hj,by assumption,by assumption⟩
 have hera2:∀a x,qP (zB k' (zB k S)) a=some x->qP S a=some x/\a.1≠k/\a.1≠k':=fun a x ha=>by
  rw [Qv,Qv] at ha;split at ha
  ·cases ha
  ·split at ha
   ·cases ha
   ·exact⟨ha,by assumption,by assumption⟩
 have hgL:∀b',(Z b'\/∃a x N,qP (zB k' (zB k S)) a=some x/\β a=some (.blk b' N))->H'.get b'=H.get b':=fun b' hb'=>e3 b' fun e=>by
  rcases hb' with hb'|⟨a,x,M,ha,hb'⟩
  ·exact hz (e▸hb')
  ·obtain⟨h1,h2,_⟩:=hera2 a x ha;obtain⟨y,hy⟩:=yy h1;exact h2 (by rw [hS.inj a (k,0) y _ b M N hy hk (e▸hb') hb])
 have hBe:=hS.bleT σ;have hZe:xo Z H Z H':=xo.of_get (fun _ h=>h) fun b' hb'=>hgL b' (.inl hb');obtain⟨hT,hZ,hB⟩:=hS.tree (S0:=zB k' (zB k S)) (H':=H') (rows:=rows.set o q) (σ:=σ) (fun j x hj=>⟨x,(hera j x hj).1⟩) (fun a x ha=>hS.box a x (hera2 a x ha).1) oM hwf hgL
  (fun i c M h=>by obtain⟨a,_,h2⟩:=hσ i _ h;rw [e4];exact hS.bd a c M h2)
  (fun i c M h=>by obtain⟨a,_,h2⟩:=hσ i _ h;exact hS.blo a c M h2)
  (fun i j c M M' h1 h2=>by
   obtain⟨a1,g1,g2⟩:=hσ i _ h1;obtain⟨a2,g3,g4⟩:=hσ j _ h2;obtain⟨_,x1,l1⟩:=hκlive i a1 g1;obtain⟨_,x2,l2⟩:=hκlive j a2 g3;have:=hS.inj a1 a2 x1 x2 c M M' l1 l2 g2 g4;subst this;exact hκinj i j a1 g1 g3)
  (fun i c M a x M' h1 ha hb'=>by
   obtain⟨a1,g1,g2⟩:=hσ i _ h1;obtain⟨w,x1,l1⟩:=hκlive i a1 g1;obtain⟨l2,n1,n2⟩:=hera a.1 x ha;have:=hS.inj a1 a x1 x c M M' l1 l2 g2 hb';subst this;exact w.elim n1 n2)
  ⟨_,hσ0.trans hb,hz,hlo,by omega,yH cs o [cv],rest,e2,by rw [List.length_append,wV,<-List.length_append];exact hN,by
   refine Wu (k:=0) (rows:=[]) (cs:=[]) (H:=H) (β:=β) (by rw [wV];simp;omega) fun i t d h1 h2=>?_;simp only [yH,List.getElem?_set] at h1 h2;by_cases ei:o=i
   ·subst ei;rw [if_pos rfl,if_pos (by omega)] at h1 h2;obtain rfl:=zsi h1;obtain rfl:=zsi h2;have hs1:σ (o+1)=β (k',0):=by simp [σ,κ]
    rw [hn];rcases hrv with⟨w1,w2⟩|⟨b1,N1,cap,ex,w1,w2⟩
    ·exact .inl ⟨by rw [zj,hs1];exact w1,w2⟩
    ·exact .inr ⟨b1,N1,cap,ex,by rw [zj,hs1];exact w1,w2⟩
   ·rw [if_neg ei] at h1 h2;have hil:i<rows.length:=(zgs h1).1;have ei':¬i=o:=fun h=>ei h.symm;have hs1:σ (i+1)=β (k,i+1):=by simp only [σ,κ,if_neg ei',if_pos hil,Option.bind_some]
    obtain⟨c',hc',hr'⟩:=hrel.at i (.trow k i 0 t.length) (by rw [Q9,h1];simp);rw [h2] at hc';obtain rfl:=zsi hc';rcases hr' with⟨w1,w2⟩|⟨b1,N1,cap,ex,w1,w2⟩
    ·exact .inl ⟨by rw [zj,hs1];exact w1,w2⟩
    ·exact .inr ⟨b1,N1,cap,ex,by rw [zj,hs1];exact w1,w2⟩⟩
  (fun i t h1=>by
   have fin:∀a x,qP S a=some x->a≠(k,0)->(∃y,lk S a.1=some y)->∃s,β a=some s/\y8 p Z H' (jE β nk σ) x s:=fun a x ha hne ⟨y,hy⟩=>by
    obtain⟨s,hs,hbx⟩:=hS.box a x ha;refine⟨s,hs,hbx.mono hBe oM fun b' hb'=>?_⟩;rcases hb' with hb'|⟨M,rfl⟩
    ·exact hgL b' (.inl hb')
    ·exact e3 b' fun e=>hne (hS.inj a (k,0) y _ b M N hy hk (e▸hs) hb)
   simp only [List.getElem?_set] at h1;by_cases ei:o=i
   ·subst ei;rw [if_pos rfl,if_pos ho] at h1;obtain rfl:=zsi h1;have hs1:σ (o+1)=β (k',0):=by simp [σ,κ]
    rw [hs1];exact fin (k',0) _ (xX hk' rfl) (fun h=>hkk (Prod.mk.inj h).1) ⟨_,hk'⟩
   ·rw [if_neg ei] at h1;have hil:i<rows.length:=(zgs h1).1;have ei':¬i=o:=fun h=>ei h.symm;have hs1:σ (i+1)=β (k,i+1):=by simp only [σ,κ,if_neg ei',if_pos hil,Option.bind_some]
    rw [hs1];exact fin (k,i+1) _ (Qu hk h1) (by simp) ⟨_,hk⟩)
 have hT':=hS.rtS (k:=k) hσ0 hZ (fun a x ha=>(hera2 a x ha).1) (fun a x ha e=>by
  obtain⟨y,hy⟩:=yy (hera2 a x ha).1;have:=hS.lt hy;omega) hT (fun b' ⟨a,x,M,h1,h2⟩=>hgL b' (.inr ⟨a,x,M,h1,h2⟩)) oM
 simp only [qF,qt,if_true,xr,hca,hcv,jC];rw [if_pos (by simp),e1];have hC':=(hC.upd (k:=(k,0)) hS hk hZ e3 hb hw).step (xo.refl Z H') hB fun _ _ _ _ _ _ _ _ _ _ _ _ _ h=>h;refine⟨hC'.watch ws,h.run Z _ H' _ c hT' ((UU hS hσ0 hZ hE).set dst yY) hC' (hA.tree (by omega) (fun j hj hjA=>e3 _ fun e=>(hA.2 j hj hjA).2.2.2 (k,0) N (by rw [e];exact hb)) fun j hj hjA i M hM=>?_)⟩;obtain⟨a,_,g2⟩:=hσ i _ hM;exact (hA.2 j hj hjA).2.2.2 a M g2
end
section
variable{p:Par}{base rs:Nat}{Q:qq->Bx->Nat->Prop}{r:List SOper}{W:Wt}{A:List Nat}{E:qq}{S:Bx}{nk:Nat}{id:Nat}{dst:Option Nat}{aid:Option Nat}{ws:List Nat}{keep:Bool}
theorem CR.repl0{Z:Nat->Prop}{β β':qw}{H H':Hp}{b k:Nat}{c:zR}{x:Bk}(hS:SR p Z β H S nk)(hk:lk S k=some x)(hC:CR W Z β H c)(hZ:xo Z H Z H')(hB:xO β β')(hg:∀b',b'≠b->(∀N,β (k,0)≠some (.blk b' N))->H'.get b'=H.get b')(hb:(∃N,β (k,0)=some (.blk b N))\/H.nx<=b)(hw:jD S k W=true):CR W Z β' H' c:=hC.step hZ hB fun y hy j o n e b' N' i q hj _ _ hq=>by
 obtain⟨⟨z,hz⟩,hne⟩:=Q6 hw y hy j o n e;have h2:∀N,β (k,0)≠some (.blk b' N):=fun N e'=>hne (by rw [hS.inj j (k,0) z x b' N' N hz hk hj e']);have h1:b'≠b:=fun e'=>by
  rcases hb with⟨M,hM⟩|hb
  ·exact h2 M (e'▸hM)
  ·have:=hS.bd j b' N' hj;omega
 unfold Hp.cell at hq ⊢;rw [hg b' h1 h2];exact hq
theorem R9 {bytes:Nat} {s v:Opd} {k kv k' n m:Nat} {rows:List (List FD)} {q:List FD} (hs:ro E s=some (.one (.own k 0 n 1))) (hv:ro E v=some (.one (.own kv 0 1 1))) (hk:lk S k=some (.tree rows)) (hn:rows.length=n) (hkv:lk S kv=some (.cells [.own k' 0 m 1])) (hk':lk S k'=some (.data q)) (hq:q.length=m) (hbb:(n+1)*bytes<=140737488355328) (h62:n+1<4611686018427387904) (hw:jD S k W=true)
 (h:DPW p base rs Q r W A (xk E dst (.one (.own nk 0 (n+1) 1))) ((nk,.tree (rows++[q]))::zB k' (zB kv (zB k S))) (nk+1)):DPW p base rs Q (⟨id,dst,.e (.append 1 bytes s v),none,aid,ws,keep⟩::r) W A E S nk:=.mk fun Z β H F c hS hE hC hA=>by
 obtain⟨cs',hcs',hrs⟩:=xf hE hs;obtain⟨cv',hcv',hrv⟩:=xf hE hv;have hk0:qP S (k,0)=some (.cells (zh k 0 rows)):=by simp only [qP,hk]
 have hkk:k'≠k:=fun e=>by subst e;rw [hk] at hk';cases hk'
 obtain⟨cv,hsrc,hcv⟩:∃cv,zF H 1 (v.ev F)=some (1,[cv])/\RD Z H β (.own k' 0 m 1) cv:=by
  rcases hrv with⟨_,h0,_⟩|⟨b,N,cap,ex,hb,rfl,_,_⟩
  ·cases h0
  ·obtain⟨s,hs,hbx⟩:=hS.box (kv,0) _ (xX hkv rfl);rw [hb] at hs;obtain rfl:=zsi hs;obtain⟨_,_,_,cs,rest,hrow,hN,hrel⟩:=hbx;have hN:(cs++rest).length=_:=hN
   match cs,hrel with
   |[cv],hrel=>
    refine⟨cv,?_,hrel.1⟩;have:=yo hrow.2 (m:=1) (by simp);rw [hcv'];simp only [zF,if_true,Nat.mul_one,this];rfl
 obtain⟨sk,hsk,hbx⟩:=hS.box (k,0) _ hk0;simp only [qF,qt,if_true,xr,hsrc,hcs'];let κ:Nat->Option zC:=fun i=>if i<n then some (k,i+1) else if i=n then some (k',0) else none
 have hκlive:∀i a,κ i=some a->(a.1=k\/a.1=k')/\a≠(k,0)/\∃x,lk S a.1=some x:=fun i a h=>by
  simp only [κ] at h;split at h
  ·obtain rfl:=zsi h;exact⟨.inl rfl,by simp,_,hk⟩
  ·split at h
   ·obtain rfl:=zsi h;exact⟨.inr rfl,fun h=>hkk (Prod.mk.inj h).1,_,hk'⟩
   ·cases h
 have hκinj:∀i j a,κ i=some a->κ j=some a->i=j:=fun i j a h1 h2=>by
  simp only [κ] at h1 h2;split at h1
  ·obtain rfl:=zsi h1;split at h2
   ·have:=zsi h2;simp at this;omega
   ·split at h2
    ·have:=zsi h2;simp at this
    ·cases h2
  ·split at h1
   ·obtain rfl:=zsi h1;split at h2
    ·have:=zsi h2;simp at this
    ·split at h2
     ·omega
     ·cases h2
   ·cases h1
 have hera:∀j x,lk (zB k' (zB kv (zB k S))) j=some x->lk S j=some x/\j≠k/\j≠k':=fun j x hj=>by
  rw [yP,yP,yP] at hj;split at hj
  ·cases hj
  ·split at hj
   ·cases hj
   ·split at hj
    ·cases hj
    ·exact⟨hj,by assumption,by assumption⟩
 have hera2:∀a x,qP (zB k' (zB kv (zB k S))) a=some x->qP S a=some x/\a.1≠k/\a.1≠k':=fun a x ha=>by
  rw [Qv,Qv,Qv] at ha;split at ha
  ·cases ha
  ·split at ha
   ·cases ha
   ·split at ha
    ·cases ha
    ·exact⟨ha,by assumption,by assumption⟩
 have hzk:∀b' N,Z b'->β (k,0)≠some (.blk b' N):=fun b' N hz e=>by
  rw [hsk] at e;obtain rfl:=zsi e;exact hbx.1 hz
 have hfin:∀(H':Hp) (b:Nat) (olds rest:List C) (cap:Nat) (ex:Bool),(qg (RD Z H β) (zh k 0 rows) olds)->((∃N,β (k,0)=some (.blk b N))\/(b=H.nx))->b<H'.nx->H.nx<=H'.nx->WF H'->(∀b',b'≠b->(∀N,β (k,0)≠some (.blk b' N))->H'.get b'=H.get b')->x6 H' b ((olds++[cv])++rest)->n+1<=cap->cap*1<=((olds++[cv])++rest).length->
  zx ws c H'/\qF p.P p.G base (fun F' H'=>∃E' S' nk' Z' β',SR p Z' β' H' S' nk'/\ER Z' β' H' E' F'/\Q E' S' nk') r c (xF F dst (.one (.slc b 0 (n+1) cap 1 ex))) H':=by
  intro H' b olds rest cap ex hol hb hbl hnx hwf hg hrow hcap hcl;have hb':(∃N,β (k,0)=some (.blk b N))\/H.nx<=b:=hb.imp (fun h=>h) fun e=>by omega
  have hlen:=hol.len;rw [kO] at hlen;let σ:Nat->Option Slot:=fun i=>match i with
   |0=>some (.blk b ((olds++[cv])++rest).length)
   |i+1=>(κ i).bind β
  have hσ:∀i s,σ (i+1)=some s->∃a,κ i=some a/\β a=some s:=fun i s h=>by
   simp only [σ,Option.bind_eq_some_iff] at h;exact h
  have hrowne:∀i c' M,σ (i+1)=some (.blk c' M)->c'≠b/\c'<H.nx/\∀N,β (k,0)≠some (.blk c' N):=fun i c' M h=>by
   obtain⟨a,g1,g2⟩:=hσ i _ h;obtain⟨_,n1,x,l1⟩:=hκlive i a g1;have hb0:∀N,β (k,0)≠some (.blk c' N):=fun N e=>n1 (hS.inj a (k,0) x _ c' M N l1 hk g2 e);have:=hS.bd a c' M g2;refine⟨fun e=>?_,this,hb0⟩;rcases hb with⟨N,hN⟩|hN
   ·exact hb0 N (e▸hN)
   ·omega
  have hzb:¬Z b:=by
   rcases hb with⟨N,hN⟩|hN
   ·exact fun hz=>hzk b N hz hN
   ·exact fun hz=>absurd (hS.z _ hz) oM
  have hlob:p.lo<=b:=by
   rcases hb with⟨N,hN⟩|hN
   ·exact hS.lo2 hk0 hN
   ·have:=hS.lo;omega
  have hgL:∀b',(Z b'\/∃a x N,qP (zB k' (zB kv (zB k S))) a=some x/\β a=some (.blk b' N))->H'.get b'=H.get b':=fun b' hb1=>by
   rcases hb1 with hb1|⟨a,x,M,ha,hb1⟩
   ·exact hg b' (fun e=>hzb (e▸hb1)) fun N=>hzk b' N hb1
   ·obtain⟨h1,h2,_⟩:=hera2 a x ha;obtain⟨y,hy⟩:=yy h1;have h3:∀N,β (k,0)≠some (.blk b' N):=fun N e=>h2 (by rw [hS.inj a (k,0) y _ b' M N hy hk hb1 e]);refine hg b' (fun e=>?_) h3;rcases hb with⟨N,hN⟩|hN
    ·exact h3 N (e▸hN)
    ·have:=hS.bd a b' M hb1;omega
  have hBe:=hS.bleT σ;obtain⟨hT,hZ,hB⟩:=hS.tree (S0:=zB k' (zB kv (zB k S))) (H':=H') (rows:=rows++[q]) (σ:=σ) (fun j x hj=>⟨x,(hera j x hj).1⟩) (fun a x ha=>hS.box a x (hera2 a x ha).1) hnx hwf hgL
   (fun i c' M h=>by
    cases i with
    |zero=>obtain⟨rfl,_⟩:=Slot.blk.inj (zsi h);exact hbl
    |succ i=>have:=(hrowne i c' M h).2.1;omega)
   (fun i c' M h=>by
    cases i with
    |zero=>obtain⟨rfl,_⟩:=Slot.blk.inj (zsi h);exact hlob
    |succ i=>obtain⟨a,_,h2⟩:=hσ i _ h;exact hS.blo a c' M h2)
   (fun i j c' M M' h1 h2=>by
    cases i with
    |zero=>
     obtain⟨rfl,_⟩:=Slot.blk.inj (zsi h1);cases j with
     |zero=>rfl
     |succ j=>exact absurd rfl (hrowne j _ _ h2).1
    |succ i=>
     cases j with
     |zero=>obtain⟨rfl,_⟩:=Slot.blk.inj (zsi h2);exact absurd rfl (hrowne i _ _ h1).1
     |succ j=>
      obtain⟨a1,g1,g2⟩:=hσ i _ h1;obtain⟨a2,g3,g4⟩:=hσ j _ h2;obtain⟨_,_,x1,l1⟩:=hκlive i a1 g1;obtain⟨_,_,x2,l2⟩:=hκlive j a2 g3;have:=hS.inj a1 a2 x1 x2 c' M M' l1 l2 g2 g4;subst this;rw [hκinj i j a1 g1 g3])
   (fun i c' M a x M' h1 ha hb1=>by
    obtain⟨l2,n1,n2⟩:=hera a.1 x ha;cases i with
    |zero=>
     obtain⟨rfl,_⟩:=Slot.blk.inj (zsi h1);rcases hb with⟨N,hN⟩|hN
     ·exact n1 (by rw [hS.inj a (k,0) x _ _ M' N l2 hk hb1 hN])
     ·have:=hS.bd a _ M' hb1;omega
    |succ i=>
     obtain⟨a1,g1,g2⟩:=hσ i _ h1;obtain⟨w,_,x1,l1⟩:=hκlive i a1 g1;have:=hS.inj a1 a x1 x c' M M' l1 l2 g2 hb1;subst this;exact w.elim n1 n2)
   ⟨_,rfl,hzb,hlob,hbl,olds++[cv],rest,hrow,rfl,by
    refine Wu (k:=0) (rows:=[]) (cs:=[]) (H:=H) (β:=β) (by simp;omega) fun i t d h1 h2=>?_;by_cases ei:i<n
    ·rw [List.getElem?_append_left (by omega)] at h1 h2;have hs1:σ (i+1)=β (k,i+1):=by simp only [σ,κ,if_pos ei,Option.bind_some]
     obtain⟨c',hc',hr'⟩:=hol.at i (.trow k i 0 t.length) (by rw [Q9,h1];simp);rw [h2] at hc';obtain rfl:=zsi hc';rcases hr' with⟨w1,w2⟩|⟨b1,N1,cap,ex,w1,w2⟩
     ·exact .inl ⟨by rw [zj,hs1];exact w1,w2⟩
     ·exact .inr ⟨b1,N1,cap,ex,by rw [zj,hs1];exact w1,w2⟩
    ·have hi:i=n:=by
      have:=(zgs h1).1;simp at this;omega
     subst hi;rw [List.getElem?_append_right (by omega),hn] at h1;rw [List.getElem?_append_right (by omega),<-hlen,hn] at h2;simp at h1 h2;subst h1;subst h2;have hs1:σ (i+1)=β (k',0):=by simp [σ,κ]
     rw [hq];rcases hcv with⟨w1,w2⟩|⟨b1,N1,cap,ex,w1,w2⟩
     ·exact .inl ⟨by rw [zj,hs1];exact w1,w2⟩
     ·exact .inr ⟨b1,N1,cap,ex,by rw [zj,hs1];exact w1,w2⟩⟩
   (fun i t h1=>by
    have fin:∀a x,κ i=some a->qP S a=some x->∃s,σ (i+1)=some s/\y8 p Z H' (jE β nk σ) x s:=fun a x hκ ha=>by
     obtain⟨s,hs,hbx⟩:=hS.box a x ha;have hσi:σ (i+1)=some s:=by simp only [σ,hκ,Option.bind_some,hs]
     refine⟨s,hσi,hbx.mono hBe hnx fun b' hb'=>?_⟩;rcases hb' with hb'|⟨M,rfl⟩
     ·exact hgL b' (.inl hb')
     ·obtain⟨w1,_,w3⟩:=hrowne i b' M hσi;exact hg b' w1 w3
    by_cases ei:i<n
    ·rw [List.getElem?_append_left (by omega)] at h1;exact fin (k,i+1) _ (by simp only [κ,if_pos ei]) (Qu hk h1)
    ·have hi:i=n:=by
      have:=(zgs h1).1;simp at this;omega
     subst hi;rw [List.getElem?_append_right (by omega),hn] at h1;simp at h1;subst h1;exact fin (k',0) _ (by simp [κ]) (xX hk' rfl))
  have hC':=hC.repl0 hS hk hZ hB hg hb' hw;refine⟨hC'.watch ws,h.run Z _ H' _ c hT ((hE.mono hZ hB).set dst ⟨_,rfl,.inr ⟨b,_,cap,ex,by rw [zj],rfl,hcap,by omega⟩⟩) hC' (hA.tree hnx (fun j hj hjA=>?_) fun j hj hjA i M hM=>?_)⟩
  ·obtain⟨h1,h2,h3,h4⟩:=hA.2 j hj hjA;refine hg _ (fun e=>?_) fun N=>h4 (k,0) N;rcases hb with⟨N,hN⟩|hN
   ·exact h4 (k,0) N (by rw [e];exact hN)
   ·omega
  ·obtain⟨h1,h2,h3,h4⟩:=hA.2 j hj hjA;cases i with
   |zero=>
    obtain⟨e,_⟩:=Slot.blk.inj (zsi hM);rcases hb with⟨N,hN⟩|hN
    ·exact h4 (k,0) N (by rw [<-e];exact hN)
    ·omega
   |succ i=>
    obtain⟨a,_,g2⟩:=hσ i _ hM;exact h4 a M g2
 rcases hrs with⟨hnil,h0,_,rfl⟩|⟨b,N,cap,ex,hb,rfl,hcap,hcN⟩
 ·have hr0:rows=[]:=List.eq_nil_of_length_eq_zero oM;subst hr0;obtain rfl:n=0:=h0;simp only [zq];rw [if_neg (by decide),if_pos ⟨by omega,by omega⟩];exact hfin (H.push (.row 1 [cv] .lf true)) H.nx [] [] 1 false trivial (.inr rfl) (by simp) (by simp) (hS.wf.push _) (fun b' hb' _=>by rw [Hp.get_push,if_neg hb']) (by simpa using x6.new (H:=H) [cv]) (by omega) (by simp)
 ·rw [hb] at hsk;obtain rfl:=zsi hsk;obtain⟨hz,hlo,hlt,cells,rest,hrow,hN,hrel⟩:=hbx;have hN:(cells++rest).length=_:=hN;have hlen:(zh k 0 rows).length=cells.length:=qg.len hrel;rw [kO] at hlen;simp only [zq];rw [if_neg (by simp)];by_cases hfit:n+1<=cap
  ·rw [if_pos hfit,Nat.zero_add,Nat.mul_one];obtain⟨rest',x,hrest⟩:∃rest' x,rest=x::rest':=by
    cases rest with
    |nil=>simp at hN;omega
    |cons x rest'=>exact⟨rest',x,rfl⟩
   subst hrest;obtain⟨H',e1,e2,e3,e4⟩:=hrow.stores (cs:=[cv]) (i:=n) (by simp;omega);rw [e1];have hset:yH (cells++x::rest') n [cv]=(cells++[cv])++rest':=by
    have:=vd cells [x] [cv] rest' rfl;rw [<-hlen,hn] at this;simpa using this
   rw [hset] at e2;refine hfin H' b cells rest' cap ex hrel (.inl ⟨N,hb⟩) oM oM (fun b' bk hb'=>?_) (fun b' hb' _=>e3 b' hb') e2 hfit ?_
   ·rw [e4];by_cases e:b'=b
    ·omega
    ·rw [e3 b' e] at hb';exact hS.wf b' bk hb'
   ·simp at hN ⊢;omega
  ·rw [if_neg hfit,if_pos ⟨hbb,h62⟩];have hld:H.loads b 0 (n*1)=some cells:=by
    have:=yo hrow.2 (m:=n*1) (by simp;omega);rw [this,List.take_append_of_le_length (by omega),List.take_of_length_le (by omega)]
   rw [hld];have hrow':=x6.new (H:=H) (cells++[cv]);cases ex with
   |true=>
    simp only [if_true];exact hfin _ H.nx cells [] (n+1) false hrel (.inr rfl) (by simp) (by simp) (hS.wf.push _) (fun b' hb' _=>by rw [Hp.get_push,if_neg hb']) (by rw [List.append_nil];exact hrow') (Nat.le_refl _) (by simp;omega)
   |false=>
    simp only [Bool.false_eq_true,if_false,hrow.mut,if_true];refine hfin _ H.nx cells [] (n+1) false hrel (.inr rfl) (by simp) (by simp) (fun b' bk hb'=>?_) (fun b' hb' hne=>?_) (by rw [List.append_nil];exact hrow'.same (by rw [Hp.get_del,if_neg (by omega)])) (Nat.le_refl _) (by simp;omega)
    ·rw [Hp.get_del] at hb';split at hb'
     ·cases hb'
     ·exact hS.wf.push _ b' bk hb'
    ·rw [Hp.get_del,if_neg (fun (e:b'=b)=>hne N (by rw [e];exact hb)),Hp.get_push,if_neg hb']
end
section
variable{p:Par}{n:Nat}{Q:Exit->qq->Bx->Nat->Prop}{E:qq}{S:Bx}{nk:Nat}
theorem FT{Z:Nat->Prop}{β:qw}{H:Hp}(hS:SR p Z β H S nk):∃σ,SR p Z (jE β nk σ) H ((nk,.tree [])::S) (nk+1)/\xO β (jE β nk σ)/\σ 0=some .nil:=by
 have hno:∀i c N,(fun i=>match i with|0=>some Slot.nil|_+1=>none) i=some (Slot.blk c N)->False:=fun i c N h=>by
  cases i<;>cases h
 obtain⟨g1,g2,g3⟩:=hS.tree (S0:=S) (H':=H) (rows:=[]) (σ:=fun i=>match i with|0=>some .nil|_+1=>none) (fun k x h=>⟨x,h⟩) hS.box (Nat.le_refl _) hS.wf (fun _ _=>rfl) (fun i c N h=>(hno i c N h).elim) (fun i c N h=>(hno i c N h).elim) (fun i j c N N' h=>(hno i c N h).elim) (fun i c N κ x M h=>(hno i c N h).elim) ⟨_,rfl,rfl⟩ (fun i r h=>by simp at h)
 exact⟨_,g1,g3,rfl⟩
theorem IE{s:SC}(kb i:Nat){l:List DC}(hk:lk S kb=some (.cells l))(hi:l[i]?=some (.f (.c .nils)))(h:DPS p n s Q E ((nk,.tree [])::put kb (.cells (l.set i (.own nk 0 0 1))) S) (nk+1)):DPS p n s Q E S nk:=.mk fun Z β H F hS hE=>by
 obtain⟨σ,hT,hB,h0⟩:=FT hS;have hkn:=hS.lt hk;have hkT:lk ((nk,.tree [])::S) kb=some (.cells l):=by rw [qQ,if_neg (by omega)];exact hk
 refine h.run Z _ H F ?_ (hE.mono (xo.refl Z H) hB);have hput:∀j,lk ((nk,.tree [])::put kb (.cells (l.set i (.own nk 0 0 1))) S) j=lk (put kb (.cells (l.set i (.own nk 0 0 1))) ((nk,.tree [])::S)) j:=fun j=>by
  simp only [put,jr (show nk≠kb by omega)]
 refine⟨hT.wf,hT.lo,hT.z,hT.zlo,hT.zz,hT.glob,hT.nk,hT.bd,fun κ y hκ=>?_,fun κ κ' y y' b N N' hj hj'=>?_,hT.blo,hT.anch,hT.ancn⟩
 ·rw [z6 (hput κ.1),Zl hkT rfl] at hκ;split at hκ
  ·rename_i e;split at hκ
   ·rename_i e2;obtain rfl:=vZ e e2;obtain rfl:=zsi hκ;obtain⟨s,hs,hbx⟩:=hT.box (kb,0) _ (xX hkT rfl);refine⟨s,hs,?_⟩;cases s with
    |nil=>
     have:l=[]:=List.eq_nil_of_length_eq_zero hbx;subst this;cases hi
    |blk b N=>
     obtain⟨g1,g2,g3,cs,rest,g4,g5,g6⟩:=hbx;refine⟨g1,g2,g3,cs,rest,g4,g5,?_⟩;obtain⟨c,hc,hr⟩:=qg.at g6 i _ hi;cases hr;have hset:cs.set i .nils=cs:=by
      refine List.ext_getElem? fun j=>?_;rw [List.getElem?_set];split
      ·rename_i ej;subst ej;rw [hc];first|rfl|rw [if_pos (zgs hc).1]
      ·rfl
     show qg _ _ _
     rw [<-hset];exact qg.set g6 i (.inl ⟨by rw [zj];exact h0,rfl,rfl,rfl⟩)
   ·cases hκ
  ·exact hT.box κ y hκ
 ·rw [hput] at hj hj';rw [yx] at hj hj';have f:∀a z,(if a=kb then Option.map (fun _=>Bk.cells (l.set i (.own nk 0 0 1))) (lk ((nk,.tree [])::S) a) else lk ((nk,.tree [])::S) a)=some z->∃z',lk ((nk,.tree [])::S) a=some z':=fun a z hz=>by
   split at hz
   ·cases hl:lk ((nk,.tree [])::S) a with
    |none=>rw [hl] at hz;cases hz
    |some q=>exact⟨q,rfl⟩
   ·exact⟨z,hz⟩
  obtain⟨z1,e1⟩:=f κ.1 y hj;obtain⟨z2,e2⟩:=f κ'.1 y' hj';exact hT.inj κ κ' z1 z2 b N N' e1 e2
end
def dS(P:Program)(G:Nat)(GH:Hp)(f:FuncId)(ds:List DV)(R:DV->Bx->Nat->Prop):Prop:=∀(H:Hp) (Z:Nat->Prop) (args:List V),WF H->(∀b,Z b->b<H.nx)->(∀b bk,GH.get b=some bk->Z b/\H.get b=some bk)->qg (xC Z H wG) ds args->
 qH P G f args H fun v H'=>H.nx<=H'.nx/\(∀b,b<H.nx->H'.get b=H.get b)/\∃d S' nk' Z' β',SR (Par.base P G GH Z H.nx) Z' β' H' S' nk'/\xC Z' H' β' d v/\R d S' nk'
section
variable{p:Par}{E:qq}{S:Bx}{nk:Nat}
theorem U5{Z:Nat->Prop}{β:qw}{H:Hp}{d:DV}{v:V}(hr:xC Z H β d v)(hd:WO d=true):w9 v=true/\zw Z H β d v:=by
 cases d with
 |one d=>obtain⟨c,rfl,hr⟩:=hr;exact⟨rfl,c,rfl,hr⟩
 |agg l=>obtain⟨c,rfl,hr⟩:=hr;exact⟨rfl,c,rfl,hr⟩
 |tup l=>cases hd
theorem WA{Z:Nat->Prop}{β:qw}{H:Hp}{F:T V}(hS:SR p Z β H S nk)(hE:ER Z β H E F):∀{l:List SRes} {ds:List DV},Z9 p E S l=some ds->qV WO ds=true->∃vs,vG F H l=some vs/\qg (zw Z H β) ds vs
 |[],ds,h,_=>by obtain rfl:=zsi h;exact⟨[],rfl,trivial⟩
 |r::l,ds,h,hf=>by
  simp only [Z9] at h;split at h
  ·rename_i d q h1 h2;obtain rfl:=zsi h;have f1:=ye hf d (by simp);have f2:qV WO q=true:=by simp only [qV,f1] at hf;exact hf
   obtain⟨v,e1,e2⟩:=pM hS hE h1;obtain⟨vs,e3,e4⟩:=WA hS hE h2 f2;obtain⟨o1,o2⟩:=U5 e2 f1;exact⟨v::vs,by simp only [vG,e1,e3,o1,if_true],o2,e4⟩
  ·cases h
def KD:DV->Bool
 |.tup l=>qV WO l
 |_=>true
theorem Jn{Z:Nat->Prop}{β:qw}{H:Hp}{F:T V}(hS:SR p Z β H S nk)(hE:ER Z β H E F){rs:List SRes}{d:DV}(h:j7 p E S rs=some d)(hf:KD d=true):∃v,yb F H rs=some v/\xC Z H β d v:=by
 unfold j7 at h;have one:∀d',Z9 p E S rs=some [d']->WO d'=true->∃v,yb F H rs=some v/\xC Z H β d' v:=fun d' hd' hf'=>by
  obtain⟨vs,h1,h2⟩:=WA hS hE hd' (by simp [qV,hf'])
  match vs,h1,h2 with
  |[v],h1,h2=>exact⟨v,by simp only [yb,h1],xC.of1 h2.1⟩
 split at h
 ·rename_i c hd';obtain rfl:=zsi h;exact one _ hd' rfl
 ·rename_i l hd';obtain rfl:=zsi h;exact one _ hd' rfl
 ·cases h
 ·rename_i ds hn1 hn2 hn3 hds;obtain rfl:=zsi h;obtain⟨vs,h1,h2⟩:=WA hS hE hds hf;refine⟨.tup vs,?_,vs,rfl,h2⟩;have hl:=h2.len;unfold yb;rw [h1]
  match vs,hl with
  |[],_=>rfl
  |[v],hl=>
   match ds,hl with
   |[.one d],_=>exact (hn1 d rfl).elim
   |[.agg d],_=>exact (hn2 d rfl).elim
   |[.tup d],_=>exact (hn3 d rfl).elim
  |_::_::_,_=>rfl
 ·cases h
end
def c6(p:Par)(rs:List SRes)(R:DV->Bx->Nat->Prop):Exit->qq->Bx->Nat->Prop
 |.normal,E,S,nk=>∃d,j7 p E S rs=some d/\KD d=true/\∃S0,yu S0 S/\R d S0 nk
 |.ret,E,S,nk=>∃d,j7 p E S rs=some d/\KD d=true/\∃S0,yu S0 S/\R d S0 nk
 |_,_,_,_=>False
theorem Xp{P:Program}{G:Nat}{GH:Hp}{f:FuncId}{sf:SFn}(hf:qG P G f=some sf){ds:List DV}{R:DV->Bx->Nat->Prop}(hn:Nat.ble ds.length sf.n=true)(hG:∀b bk,GH.get b=some bk->bk.ro=some bk)(h:∀Z0 lo,DPS (Par.base P G GH Z0 lo) sf.n sf.code (c6 (Par.base P G GH Z0 lo) sf.res R) (QY ds 0) [] 0):dS P G GH f ds R:=by
 intro H Z args hw hz hg ha;have hro:qH P G f args H.ro fun v H1=>∃d S' nk' Z' β',SR (Par.base P G GH Z H.nx) Z' β' H1 S' nk'/\xC Z' H1 β' d v/\R d S' nk':=by
  have hwr:WF H.ro:=fun b bk hb=>by
   rw [Hp.get_ro,Option.bind_eq_some_iff] at hb;obtain⟨x,hx,_⟩:=hb;exact hw b x hx
  refine (JA hf (by rw [<-ha.len];exact Nat.le_of_ble_eq_true hn) ?_);have hS:SR (Par.base P G GH Z H.nx) Z wG H.ro [] 0:=⟨hwr,Nat.le_refl _,hz,fun b hb=>.inl hb,fun b hb=>hb,fun b bk hb=>(by rcases hb with hb|⟨_,hb⟩;exact⟨(hg b bk hb).1,by rw [Hp.get_ro,(hg b bk hb).2];exact hG b bk hb⟩;cases hb),fun _ _=>rfl,fun _ _ _ hk=>(by cases hk),fun κ x hk=>(by obtain⟨y,hy⟩:=yy hk;cases hy),fun _ _ _ _ _ _ _ hk=>(by cases hk),fun _ _ _ hk=>(by cases hk),fun _ _ _=>rfl,Nat.le_refl _⟩
  have hE:ER Z wG H.ro (QY ds 0) (vA args 0):=ZT 0 (ha.mono fun _ _ hr=>xC.mono (xo.of_le (fun _ h=>h) (Le.ro H)) (xO.refl wG) hr);refine yL ((h Z H.nx).run Z wG H.ro _ hS hE) fun e F' H' ⟨E',S',nk',Z',β',h1,h2,h3⟩=>?_;have fin:(∃d,j7 (Par.base P G GH Z H.nx) E' S' sf.res=some d/\KD d=true/\∃S0,yu S0 S'/\R d S0 nk')->∃v,yb F' H' sf.res=some v/\∃d S' nk' Z' β',SR (Par.base P G GH Z H.nx) Z' β' H' S' nk'/\xC Z' H' β' d v/\R d S' nk':=fun⟨d,hd,hfr,S0,hsub,hR⟩=>by
   obtain⟨v,hv,hr⟩:=Jn h1 h2 hd hfr;exact⟨v,hv,d,S0,nk',Z',β',h1.keepS hsub,hr,hR⟩
  cases e with
  |normal=>obtain⟨v,hv,hr⟩:=fin h3;simp only [Xc,hv];exact hr
  |ret=>obtain⟨v,hv,hr⟩:=fin h3;simp only [Xc,hv];exact hr
  |_=>exact h3.elim
 refine (qH.none (qH.wf (qH.grow hro))).mono ?_;rintro v H' ⟨⟨⟨H1,⟨d,S',nk',Z',β',hS1,hr,hR⟩,e1,e2,e3,e4,e5⟩,hw'⟩,hno⟩;have hnx:H'.nx=H1.nx:=by rw [e1];rfl
 have hold:∀b,b<H.nx->H'.get b=H.get b:=fun b hb=>by
  cases hgb:H.get b with
  |none=>exact hno b hb hgb
  |some bk=>exact e3 b bk hgb
 have hZ:xo Z' H1 Z' H':=xo.of_le (fun _ h=>h) e5;refine⟨by omega,hold,d,S',nk',Z',β',⟨hw',by simp only;omega,fun b hb=>by rw [hnx];exact hS1.z b hb,hS1.zlo,hS1.zz,fun b bk hb=>⟨(hS1.glob b bk hb).1,?_⟩,hS1.nk,fun κ b N hκ=>by rw [hnx];exact hS1.bd κ b N hκ,fun κ x hκ=>?_,hS1.inj,hS1.blo,hS1.anch,hS1.ancn⟩,hr.mono hZ (xO.refl β'),hR⟩
 ·rcases hb with hb|⟨_,hb⟩
  ·rw [hold b (hz b (hg b bk hb).1)];exact (hg b bk hb).2
  ·cases hb
 ·obtain⟨s,hs,hbx⟩:=hS1.box κ x hκ;refine⟨s,hs,?_⟩;cases s with
  |nil=>exact hbx
  |blk b N=>
   obtain⟨h1,h2,h3,cs,rest,h4,h5,h6⟩:=hbx;exact⟨h1,h2,oM,cs,rest,h4.same (e4 b h2),h5,Bk.rel_mono hZ (xO.refl _) h6⟩
end Go.Ab
