/- -/
import Derived.Test.YtbfbplnghpdmhaaGreatDoorAb10
import Derived.Below
import Derived.ChangeSame
import Derived.RowKit
import Derived.Carry
set_option linter.unusedSimpArgs false
set_option linter.unusedVariables false
namespace Go.Ab
section
variable{X:Type}{enc:TypeId × Value->X}{P:Program}{G:Nat}{w:World}{base:Nat}{held:Bool}
def JF(T:Ty)(l:List C):V:=
 match T with
 |.agg _=>.agg l
 |_=>match l with
  |[c]=>.one c
  |_=>.undef
theorem qb1 {n:Nat} {t:TypeId} {T:Ty} (hd:Q2 P n t=some T) {v:Value} {d:DataW X} {ps:List MemPlace} {r:Reach} {b0:Nat} (ht:DataW.Trod enc P w base (fun _=>true) held t v d ps) (hv:Value.okWide P w r b0 t v)
 {μ:Nat->Pl} {K:Nat->Prop} {H:Hp} (hR:Rel G μ K H w) (hN:vG H):∃l H' μ' K',jp T [d] H=some (l,H')/\Rel G μ' K' H' w/\RV μ' K' (JF T l) v/\Gr μ K H μ' K' H':=by
 obtain⟨fuel,hf⟩:=ht;obtain⟨hok,hsz⟩:=WD (enc:=enc) (G:=G) (w:=w) (base:=base) (held:=held) n t T hd;obtain⟨hlen,l,H',μ',K',e1,R1,a1,g1⟩:=hok hf hR hN;refine⟨l,H',μ',K',e1,R1,?_,g1⟩;have hone:(∀cs,v≠.agg cs)->T.sz=1->(∀r,T≠.agg r)->RV μ' K' (JF T l) v:=by
  intro hna h1 hT;have hc:v.cells=#[v]:=by
   cases v<;>first|rfl|exact absurd rfl (hna _)
  rw [hc] at a1;have hl:l.length=1:=by rw [a1.len];rfl
  match l,hl with
  |[c],_=>
   have:JF T [c]=.one c:=by
    cases T<;>first|rfl|exact absurd rfl (hT _)
   rw [this];exact a1.1
 cases n with
 |zero=>cases hd
 |succ n=>
  simp only [Q2,chk] at hd;split at hd
  ·rename_i T0 hT0;split at hd
   ·obtain rfl:=zsi hd;have hagg:∀r,T0=.agg r->(∃cs,v=.agg cs)->RV μ' K' (JF T0 l) v:=by
     rintro r rfl ⟨cs,rfl⟩;exact⟨cs.toList,by simp,a1⟩
    split at hT0
    ·rename_i hu;obtain rfl:=zsi hT0;refine hone (fun cs e=>?_) rfl (fun r=>by simp);subst e;simp [Value.okWide,hu,Cell.okWide,Cell.ok] at hv
    ·rename_i k hu;obtain rfl:=zsi hT0;refine hone (fun cs e=>?_) rfl (fun r=>by simp);subst e;simp [Value.okWide,hu,Cell.okWide,Cell.ok] at hv
    ·rename_i hu;obtain rfl:=zsi hT0;refine hone (fun cs e=>?_) rfl (fun r=>by simp);subst e;simp [Value.okWide,hu,Cell.okWide,Cell.ok] at hv
    ·rename_i e hu;split at hT0
     ·split at hT0
      ·obtain rfl:=zsi hT0;refine hone (fun cs e=>?_) rfl (fun r=>by simp);subst e;simp [Value.okWide,hu,Cell.okWide,Cell.ok] at hv
      ·cases hT0
     ·cases hT0
    ·rename_i fs hu;split at hT0
     ·obtain rfl:=zsi hT0;simp only [Value.okWide,hu] at hv;obtain⟨cs,h1,_⟩:=hv;exact hagg _ rfl ⟨cs,h1⟩
     ·cases hT0
    ·rename_i k e hu;split at hT0
     ·obtain rfl:=zsi hT0;simp only [Value.okWide,hu] at hv;obtain⟨cs,h1,_⟩:=hv;exact hagg _ rfl ⟨cs,h1⟩
     ·cases hT0
    ·cases hT0
   ·cases hd
  ·cases hd
def Jw(P:Program)(n:Nat):List TypeId->Option (List Ty)
 |[]=>some []
 |t::ts=>match Q2 P n t with
  |some a=>match Jw P n ts with
   |some l=>some (a::l)
   |none=>none
  |none=>none
def vt:List Ty->List (DataW X)->Hp->Option (List V × Hp)
 |[],[],H=>some ([],H)
 |t::ts,d::ds,H=>match jp t [d] H with
  |some (l,H1)=>match vt ts ds H1 with
   |some (vs,H2)=>some (JF t l::vs,H2)
   |none=>none
  |none=>none
 |_,_,_=>none
theorem r5{n:Nat}{r:Reach}{b0:Nat}:∀{ts:List TypeId} {Ts:List Ty} {vs:List Value} {ds:List (DataW X)} {ps:List MemPlace} {μ:Nat->Pl} {K:Nat->Prop} {H:Hp},Jw P n ts=some Ts->
 DataW.TrodAll enc P w base (fun _=>true) held ts vs ds ps->(∀(j:Nat) t v,ts[j]?=some t->vs[j]?=some v->Value.okWide P w r b0 t v)->Rel G μ K H w->vG H->
 ∃avs H' μ' K',vt Ts ds H=some (avs,H')/\Rel G μ' K' H' w/\qg (RV μ' K') avs vs/\Gr μ K H μ' K' H'
 |[],Ts,[],[],ps,μ,K,H,hd,_,_,hR,hN=>by
  simp only [Jw,zoi] at hd;subst hd;exact⟨[],H,μ,K,rfl,hR,trivial,Gr.refl _ _ _⟩
 |t::ts,Ts,v::vs,d::ds,ps,μ,K,H,hd,ht,hv,hR,hN=>by
  simp only [Jw] at hd;cases h1:Q2 P n t with
  |none=>simp [h1] at hd
  |some a=>
   simp only [h1] at hd;cases h2:Jw P n ts with
   |none=>simp [h2] at hd
   |some l=>
    simp only [h2,zoi] at hd;subst hd;obtain⟨p,q,g1,g2,_⟩:=ht;obtain⟨l1,H1,μ1,K1,e1,R1,a1,gr1⟩:=qb1 h1 g1 (hv 0 t v rfl rfl) hR hN;obtain⟨avs,H2,μ2,K2,e2,R2,a2,gr2⟩:=r5 h2 g2 (fun j t v hj hj'=>hv (j+1) t v (by simpa using hj) (by simpa using hj')) R1 (gr1.noMut hN);exact⟨JF a l1::avs,H2,μ2,K2,by simp [vt,e1,e2],R2,⟨a1.mono gr2.kk gr2.mu,a2⟩,gr1.trans gr2⟩
 |[],_,_::_,_,_,_,_,_,_,ht,_,_,_=>by cases ht
 |[],_,[],_::_,_,_,_,_,_,ht,_,_,_=>by cases ht
 |_::_,_,[],_,_,_,_,_,_,ht,_,_,_=>by cases ht
 |_::_,_,_::_,[],_,_,_,_,_,ht,_,_,_=>by cases ht
def wO(P:Program)(n G:Nat):List (String × DataW Unit)->Hp->Hp
 |[],H=>H
 |(s,d)::r,H=>match P.globalNamed s with
  |none=>wO P n G r H
  |some g=>match (P.globals[g]?).map (·.type) with
   |none=>wO P n G r H
   |some t=>match Q2 P n t with
    |none=>wO P n G r H
    |some T=>match jp T [d] H with
     |none=>wO P n G r H
     |some (l,H')=>if g<G then wO P n G r (H'.add g (.row l.length l .lf false)) else wO P n G r H
def sN(w:World)(g:Nat):Nat:=
 match w.heap[g]? with
 |some (.cells cs _ _)=>cs.size
 |_=>0
theorem Kx{n:Nat}:∀{laid:List (String × DataW Unit)} {ps:List MemPlace} {μ:Nat->Pl} {K:Nat->Prop} {H:Hp},DataW.LaidVars P w laid ps->Rel G μ K H w->vG H->(∀g,g<G->μ g=⟨g,0,sN w g⟩)->
 ∃μ' K',Rel G μ' K' (wO P n G laid H) w/\vG (wO P n G laid H)
 |[],_,μ,K,H,_,hR,hN,_=>⟨μ,K,hR,hN⟩
 |(s,d)::r,ps,μ,K,H,hl,hR,hN,hg=>by
  obtain⟨g,t,cs,fuel,p,q,h1,h2,h3,h4,h5,_⟩:=hl;simp only [wO,h1,h2];cases hd:Q2 P n t with
  |none=>exact Kx h5 hR hN hg
  |some T=>
   obtain⟨hok,hsz⟩:=WD (enc:=fun _=>()) (G:=G) (w:=w) (base:=0) (held:=false) n t T hd;obtain⟨hlen,l,H',μ',K',e1,R1,a1,g1⟩:=hok h4 hR hN;simp only [e1];split
   ·rename_i hgG;have hN1:=g1.noMut hN;have hKg:=(R1.glob g hgG).1;have hmu:∀g,g<G->μ' g=⟨g,0,sN w g⟩:=fun g hg'=>by rw [g1.mu g (hR.glob g hg').1];exact hg g hg'
    have hN2:vG (H'.add g (.row l.length l .lf false)):=fun b bk hb=>by
     rw [Hp.get_add] at hb;split at hb
     ·obtain rfl:=zsi hb;rfl
     ·exact hN1 b bk hb
    refine Kx h5 (μ:=μ') (K:=K') ⟨fun b bk hb=>?_,R1.lt,fun b bk hb=>?_,fun b b' bk bk' hb _ hm=>?_,R1.glob⟩ hN2 hmu
    ·rw [Hp.get_add] at hb;split at hb
     ·rename_i e;rw [e];exact hKg
     ·exact R1.dom b bk hb
    ·rw [Hp.get_add] at hb;split at hb
     ·rename_i e;subst e;obtain rfl:=zsi hb;rw [hmu _ hgG];unfold World.var? at h3;rw [h1] at h3;simp only [Option.bind_some] at h3;split at h3
      ·rename_i c ty fz hc;obtain rfl:=zsi h3;refine⟨c,ty,fz,hc,by simp [sN,hc],by simp [a1.len],fun h=>(by cases h),fun i x hx=>?_⟩;simp only [B.cell] at hx;split at hx
       ·rename_i hi;simp only [Ab.T.get_lf,Option.getD_none,Nat.mod_eq_of_lt hi,List.getD_eq_getElem?_getD,zge hi,Option.getD_some,zoi] at hx;obtain⟨y,hy,hr⟩:=a1.at i x (by rw [zge hi,hx]);exact⟨y,by simpa using hy,hr⟩
       ·cases hx
      ·cases h3
     ·exact R1.blk b bk hb
    ·rw [hN2 b bk hb] at hm;cases hm
   ·exact Kx h5 hR hN hg
theorem AW(w:World):Rel G (fun g=>⟨g,0,sN w g⟩) (fun b=>b<G) ⟨.lf,G⟩ w:=
 ⟨fun _ _ h=>(by cases h),fun _ h=>h,fun _ _ h=>(by cases h),fun _ _ _ _ h=>(by cases h),fun _ hg=>⟨hg,rfl,rfl⟩⟩
end
def Ty.den:Ty->Type
 |.bool=>Bool
 |.int _=>Int
 |.str=>ByteArray
 |.slice e=>List e.den
 |.unit=>Unit
 |.pair a b=>a.den × b.den
 |.agg r=>r.den
def RL{α:Type}(f:α->List C->Prop):List α->List C->Prop
 |[],cs=>cs=[]
 |x::xs,cs=>∃a b,cs=a++b/\f x a/\RL f xs b
def Ty.R(H:Hp):(t:Ty)->t.den->List C->Prop
 |.bool,x,l=>l=[.bool x]
 |.int k,x,l=>l=[.int k x]/\(Lit.int k x).wf=true
 |.str,x,l=>l=[.str x]
 |.slice e,x,l=>(l=[.nils]/\List.length x=0)\/∃b cs,l=[.slc b 0 (List.length x) (List.length x) e.sz false]/\List.length x<=9223372036854775807/\H.loads b 0 (List.length x*e.sz)=some cs/\RL (Ty.R H e) x cs
 |.unit,_,l=>l=[]
 |.pair a b,x,l=>∃l1 l2,l=l1++l2/\Ty.R H a (Prod.fst x) l1/\Ty.R H b (Prod.snd x) l2
 |.agg r,x,l=>Ty.R H r x l
theorem RL.mono{α:Type}{f g:α->List C->Prop}(h:∀x l,f x l->g x l):∀{xs:List α} {cs:List C},RL f xs cs->RL g xs cs
 |[],_,hh=>hh
 |_::_,_,⟨a,b,e,h1,h2⟩=>⟨a,b,e,h _ _ h1,RL.mono h h2⟩
theorem RL.len{α:Type}{f:α->List C->Prop}{c:Nat}(h:∀x l,f x l->l.length=c):∀{xs:List α} {cs:List C},RL f xs cs->cs.length=xs.length*c
 |[],_,hh=>by cases hh;simp
 |_::xs,_,⟨a,b,e,h1,h2⟩=>by
  subst e;rw [List.length_append,h _ _ h1,RL.len h h2,List.length_cons,Nat.add_mul];omega
theorem Ty.R_le{H H':Hp}(h:Le H H'):∀(t:Ty) (x:t.den) (l:List C),t.R H x l->t.R H' x l
 |.bool,_,_,hh=>hh
 |.int _,_,_,hh=>hh
 |.str,_,_,hh=>hh
 |.slice e,x,l,hh=>by
  rcases hh with hh|⟨b,cs,h1,h0,h2,h3⟩
  ·exact .inl hh
  ·exact .inr ⟨b,cs,h1,h0,h.loads h2,h3.mono (Ty.R_le h e)⟩
 |.unit,_,_,hh=>hh
 |.pair a b,x,l,⟨l1,l2,e,h1,h2⟩=>⟨l1,l2,e,Ty.R_le h a _ _ h1,Ty.R_le h b _ _ h2⟩
 |.agg r,x,l,hh=>Ty.R_le h r x l hh
theorem Ty.R_len{H:Hp}:∀(t:Ty) (x:t.den) (l:List C),t.R H x l->l.length=t.sz
 |.bool,_,_,hh=>by cases hh;rfl
 |.int _,_,_,hh=>by cases hh.1;rfl
 |.str,_,_,hh=>by cases hh;rfl
 |.slice e,x,l,hh=>by
  rcases hh with hh|⟨b,cs,h1,_⟩
  ·rw [hh.1];rfl
  ·rw [h1];rfl
 |.unit,_,_,hh=>by cases hh;rfl
 |.pair a b,x,l,⟨l1,l2,e,h1,h2⟩=>by subst e;rw [List.length_append,Ty.R_len a _ _ h1,Ty.R_len b _ _ h2];rfl
 |.agg r,x,l,hh=>Ty.R_len r x l hh
section
variable{X:Type}
theorem lN{e:Ty}(he:∀{ds:List (DataW X)} {H H':Hp} {l:List C},WF H->jp e ds H=some (l,H')->WF H'/\Ext H H'/\∃x:e.den,e.R H' x l):∀{es:List (DataW X)} {H H':Hp} {cs:List C},WF H->Yy (fun d H=>jp e [d] H) es H=some (cs,H')->
 WF H'/\Ext H H'/\∃xs:List e.den,xs.length=es.length/\RL (e.R H') xs cs
 |[],H,H',cs,hw,h=>by
  simp only [Yy,zoi,zpi] at h;obtain⟨rfl,rfl⟩:=h;exact⟨hw,Ext.refl _,[],rfl,rfl⟩
 |d::es,H,H',cs,hw,h=>by
  simp only [Yy] at h;cases h1:jp e [d] H with
  |none=>simp [h1] at h
  |some x=>
   obtain⟨l,H1⟩:=x;simp only [h1] at h;cases h2:Yy (fun d H=>jp e [d] H) es H1 with
   |none=>simp [h2] at h
   |some y=>
    obtain⟨l',H2⟩:=y;simp only [h2,zoi,zpi] at h;obtain⟨rfl,rfl⟩:=h;obtain⟨w1,e1,x1,r1⟩:=he hw h1;obtain⟨w2,e2,xs,hl,r2⟩:=lN he w1 h2;exact⟨w2,e1.trans e2,x1::xs,by simp [hl],l,l',rfl,Ty.R_le e2.le _ _ _ r1,r2⟩
theorem YR:∀(t:Ty) {ds:List (DataW X)} {H H':Hp} {l:List C},WF H->jp t ds H=some (l,H')->WF H'/\Ext H H'/\∃x:t.den,t.R H' x l
 |.bool,ds,H,H',l,hw,h=>by
  unfold jp at h;split at h<;>first|(cases h;done)|skip
  all_goals simp_all
  obtain⟨rfl,rfl⟩:=h;exact⟨Ext.refl _,_,rfl⟩
 |.int k,ds,H,H',l,hw,h=>by
  unfold jp at h;split at h<;>first|(cases h;done)|skip
  all_goals simp_all
  rename_i e0;subst e0;obtain⟨hwf,rfl,rfl⟩:=h;exact⟨Ext.refl _,_,rfl,hwf.2⟩
 |.str,ds,H,H',l,hw,h=>by
  unfold jp at h;split at h<;>first|(cases h;done)|skip
  all_goals simp_all
  obtain⟨rfl,rfl⟩:=h;exact⟨Ext.refl _,_,rfl⟩
 |.slice e,ds,H,H',l,hw,h=>by
  have he:∀{ds:List (DataW X)} {H H':Hp} {l:List C},WF H->jp e ds H=some (l,H')->WF H'/\Ext H H'/\∃x:e.den,e.R H' x l:=fun hw h=>YR e hw h;unfold jp at h;split at h<;>first|(cases h;done)|skip
  all_goals first|(rename_i e0;obtain rfl:=Ty.slice.inj e0)|(simp at *;done)
  ·obtain⟨rfl,rfl⟩:=Prod.mk.inj (zsi h);exact⟨hw,Ext.refl _,([]:List e.den),.inl ⟨rfl,rfl⟩⟩
  ·rename_i es sp;split at h
   case isFalse=>cases h
   case isTrue hbd=>
   split at h
   case h_2=>cases h
   case h_1 cs H1 h1=>
    simp only [zoi] at h;obtain⟨w1,e1,xs,hl,r1⟩:=lN he hw h1;have hcl:cs.length=xs.length*e.sz:=RL.len (Ty.R_len e) r1;cases hcs:cs with
    |nil=>
     rw [hcs] at h r1;obtain⟨rfl,rfl⟩:=Prod.mk.inj h;exact⟨w1.skip 1,e1.skip 1,([]:List e.den),.inr ⟨_,[],rfl,Nat.zero_le _,by simp [Hp.loads],rfl⟩⟩
    |cons c cr=>
     have e2:tD e.sz es.length cs H1=([.slc H1.nx 0 es.length es.length e.sz false],H1.push (.row cs.length cs .lf false)):=by rw [hcs];rfl
     rw [e2] at h;obtain⟨rfl,rfl⟩:=Prod.mk.inj h;refine⟨w1.push _,Ext.push w1 e1 _,xs,.inr ⟨H1.nx,cs,by rw [hl],by rw [hl];exact hbd,?_,r1.mono (Ty.R_le (Ext.push w1 (Ext.refl _) _).le e)⟩⟩;rw [<-hcl];exact XU (rw:=false) (by rw [Hp.get_push,if_pos rfl])
 |.unit,ds,H,H',l,hw,h=>by
  unfold jp at h;split at h<;>first|(cases h;done)|skip
  all_goals simp_all
  obtain⟨rfl,rfl⟩:=h;exact⟨Ext.refl _,(),rfl⟩
 |.pair a b,ds,H,H',l,hw,h=>by
  cases ds with
  |nil=>simp [jp] at h
  |cons d ds=>
   simp only [jp] at h;cases h1:jp a [d] H with
   |none=>simp [h1] at h
   |some x=>
    obtain⟨l1,H1⟩:=x;simp only [h1] at h;cases h2:jp b ds H1 with
    |none=>simp [h2] at h
    |some y=>
     obtain⟨l',H2⟩:=y;simp only [h2,zoi,zpi] at h;obtain⟨rfl,rfl⟩:=h;obtain⟨w1,e1,x1,r1⟩:=YR a hw h1;obtain⟨w2,e2,x2,r2⟩:=YR b w1 h2;exact⟨w2,e1.trans e2,(x1,x2),l1,l',rfl,Ty.R_le e2.le _ _ _ r1,r2⟩
 |.agg r,ds,H,H',l,hw,h=>by
  unfold jp at h;split at h<;>first|(cases h;done)|skip
  all_goals first|(rename_i e0;obtain rfl:=Ty.agg.inj e0)|(simp at *;done)
  exact YR r hw h
end
open Go.RowKit Go.WideShapes Go.ChangeShapes
section
variable{X:Type}{enc:TypeId × Value->X}{P:Program}{G:Nat}
def WZ:List Ty->Type
 |[]=>Unit
 |t::ts=>t.den × WZ ts
def RA(H:Hp):(ts:List Ty)->WZ ts->List V->Prop
 |[],_,vs=>vs=[]
 |t::ts,x,vs=>∃l vs',vs=JF t l::vs'/\t.R H (Prod.fst x) l/\RA H ts (Prod.snd x) vs'
theorem K8:∀{ts:List Ty} {ds:List (DataW X)} {H H':Hp} {vs:List V},WF H->vt ts ds H=some (vs,H')->WF H'/\Ext H H'/\∃x:WZ ts,RA H' ts x vs
 |[],[],H,H',vs,hw,h=>by
  simp only [vt,zoi,zpi] at h;obtain⟨rfl,rfl⟩:=h;exact⟨hw,Ext.refl _,(),rfl⟩
 |t::ts,d::ds,H,H',vs,hw,h=>by
  simp only [vt] at h;split at h
  case h_2=>cases h
  case h_1 l H1 h1=>
   split at h
   case h_2=>cases h
   case h_1 vs' H2 h2=>
    obtain⟨rfl,rfl⟩:=Prod.mk.inj (zsi h);obtain⟨w1,e1,x1,r1⟩:=YR t hw h1;obtain⟨w2,e2,x2,r2⟩:=K8 w1 h2;exact⟨w2,e1.trans e2,(x1,x2),l,vs',rfl,Ty.R_le e2.le _ _ _ r1,r2⟩
 |[],_::_,_,_,_,_,h=>by simp [vt] at h
 |_::_,[],_,_,_,_,h=>by simp [vt] at h
theorem JM{W W':World}(hl:laidOutB P=true)(hb:Below W.heap.size W W'){sp:Nat->Bool}:∀{ts:List TypeId} {vs:List Value} {ds:List (DataW X)} {ps:List MemPlace},(ts.all fun t=>P.readableRec t&&decide (t<P.types.size))=true->
 DataW.TrodAll enc P W 0 (fun _=>true) true ts vs ds ps->(∀p∈ps,p.block<W.heap.size/\sp p.block=true)->DataW.TrodAll enc P W' 0 sp true ts vs ds ps
 |[],[],[],_,_,h,_=>h
 |t::ts,v::vs,d::ds,ps,hr,h,hp=>by
  obtain⟨p,q,h1,h2,rfl⟩:=h;simp only [List.all_cons,xr,xQ] at hr;refine⟨p,q,WideElems.Trod_stays hl hr.1.1 hr.1.2 h1 (fun x hx=>hb.same (hp x (by simp [hx])).1) (fun x hx=>(hp x (by simp [hx])).2),JM hl hb (by simpa using hr.2) h2 (fun x hx=>hp x (by simp [hx])),rfl⟩
 |[],_::_,_,_,_,h,_=>by cases h
 |[],[],_::_,_,_,h,_=>by cases h
 |_::_,[],_,_,_,h,_=>by cases h
 |_::_,_::_,[],_,_,h,_=>by cases h
theorem lO {f:FuncId} {fn:Func} {s:ChangeSpec} {laid:List (String × DataW Unit)} {n:Nat} {Ts:List Ty} {H0:Hp} {tb:TypeId} {r:Reach}
 (hl:laidOutB P=true) (hrd:(fn.params.toList.all fun t=>P.readableRec t&&decide (t<P.types.size))=true) (hds:Jw P n fn.params.toList=some Ts) (hvars:s.vars=[]) (hres:fn.resultTypes=#[tb]) (htb:P.underlying tb=some .bool)
 (hspec:∀ds:List (DataW X),ds.length=fn.params.toList.length->s.fn X ds={ results:=[.lit (.bool true)],args:=ds })
 (hH0:wO P n G laid ⟨.lf,G⟩=H0)
 (W:World) (base:Nat) (args:Array Value) (ds gs:List (DataW X)) (xp:List MemPlace)
 (hlaw:∀(H:Hp) (x:WZ Ts) (vs:List V),WF H->Ext H0 H->vG H->RA H Ts x vs->vt Ts ds H0=some (vs,H)->qJ P G f vs H fun v _=>v=.bool true)
 (hval:∀(j:Nat) t v,fn.params[j]?=some t->args[j]?=some v->Value.okWide P W r base t v)
 (hW:DataW.Whole enc P fn.params.toList s.vars false W args.toList ds gs xp) (hL:laidMet P laid W):
 Calls P f args W fun e W'=>∃v,e=.returned v/\s.post enc P fn false true false false W args v W':=by
 have hW0:=hW;obtain⟨p,q,hA,hV,rfl,hfz,hnd⟩:=hW;rw [hvars] at hV;obtain⟨rfl,rfl⟩:=trodVars_none hV;obtain⟨ps,hlv,_⟩:=hL;obtain⟨μ1,K1,R1,N1⟩:=Kx (n:=n) hlv (AW (G:=G) W) (fun _ _ h=>by cases h) (fun _ _=>rfl);rw [hH0] at R1 N1;obtain⟨avs,H,μ2,K2,e2,R2,a2,g2⟩:=r5 hds hA (fun j t v hj hj'=>hval j t v (by simpa using hj) (by simpa using hj')) R1 N1;obtain⟨w2,x2,x,rx⟩:=K8 R1.lt' e2;have N2:=g2.noMut N1;have hlen:ds.length=fn.params.toList.length:=by
  have:∀{ts:List TypeId} {vs:List Value} {ds:List (DataW X)} {ps:List MemPlace},DataW.TrodAll enc P W 0 (fun _=>true) true ts vs ds ps->ds.length=ts.length:=by
   intro ts;induction ts with
   |nil=>intro vs ds ps h;cases vs<;>cases ds<;>simp_all [DataW.TrodAll]
   |cons t ts ih=>
    intro vs ds ps h;cases vs with
    |nil=>cases h
    |cons v vs=>
     cases ds with
     |nil=>cases h
     |cons d ds=>obtain⟨_,_,_,h2,_⟩:=h;simp [ih h2]
  exact this hA
 have key:=hlaw H x avs w2 x2 N2 rx e2 μ2 K2 W args.toList R2 a2;rw [Array.toArray_toList] at key;refine key.mono ?_;rintro e W' ⟨y,rfl,v,H',μ',K',rfl,h2,h3,h4⟩;obtain rfl:y=.bool true:=h2;have hb:Below W.heap.size W W':=⟨h4.same.1,h4.same.2.1,h4.same.2.2.1,h4.size,fun k hk=>h4.keep k hk fun b bk hb hm=>by rw [N2 b bk hb] at hm;cases hm⟩;have hlt:∀x∈p,x.block<W.heap.size:=fun x hx=>hW0.lt x (by simp [hx]);have hsp:=hspec ds hlen;refine⟨_,rfl,ds,[],p++[],[],p,[],hW0,?_,?_,?_,World.keptBut_mono (fun z hz=>⟨hz,.inr (.inl (by simpa using hz))⟩) (hb.frame (·∈p++[])),fun h=>(by cases h)⟩
 ·rw [List.append_nil,hsp,hres];exact⟨[],[],shut_bool htb true,rfl,rfl⟩
 ·rw [List.append_nil,hsp];exact JM hl hb hrd hA fun z hz=>⟨hlt z hz,by simpa using hlt z hz⟩
 ·rw [List.append_nil,hsp,hvars];rfl
end
end Go.Ab

namespace Go.Ab
def Ty.fd:(t:Ty)->t.den->List FD
 |.bool,x=>[.c (.bool x)]
 |.int k,x=>[.c (.int k x)]
 |.str,x=>[.c (.str x)]
 |.slice e,x=>[.sl e.sz (List.length x) (List.flatMap (Ty.fd e) x)]
 |.unit,_=>[]
 |.pair a b,x=>Ty.fd a (Prod.fst x)++Ty.fd b (Prod.snd x)
 |.agg r,x=>Ty.fd r x
def Ty.okD:(t:Ty)->t.den->Prop
 |.bool,_=>True
 |.int k,x=>(Lit.int k x).wf=true
 |.str,_=>True
 |.slice e,x=>(∀y,List.Mem y x->Ty.okD e y)/\List.length x<=9223372036854775807
 |.unit,_=>True
 |.pair a b,x=>Ty.okD a (Prod.fst x)/\Ty.okD b (Prod.snd x)
 |.agg r,x=>Ty.okD r x
theorem RL.fd{e:Ty}{H:Hp}{R:FD->C->Prop}(h:∀x l,e.R H x l->qg R (e.fd x) l/\e.okD x):∀{xs:List e.den} {cs:List C},RL (e.R H) xs cs->qg R (xs.flatMap e.fd) cs/\∀y,List.Mem y xs->e.okD y
 |[],_,hh=>by obtain rfl:_=[]:=hh;exact⟨trivial,fun y hy=>by cases hy⟩
 |x::xs,_,⟨a,b,e',h1,h2⟩=>by
  subst e';obtain⟨g1,g2⟩:=h x a h1;obtain⟨g3,g4⟩:=RL.fd h h2;rw [List.flatMap_cons];refine⟨g1.append g3,fun y hy=>?_⟩;rcases List.mem_cons.1 hy with rfl|hy
  ·exact g2
  ·exact g4 y hy
theorem Ty.R_fd{H:Hp}(hw:WF H):∀(t:Ty) (x:t.den) (l:List C),t.R H x l->qg (RF (fun b=>b<H.nx) H) (t.fd x) l/\t.okD x
 |.bool,_,_,hh=>by obtain rfl:_=[_]:=hh;exact⟨⟨.c _ rfl,trivial⟩,trivial⟩
 |.int _,_,_,hh=>by obtain⟨rfl,h2⟩:=hh;exact⟨⟨.c _ rfl,trivial⟩,h2⟩
 |.str,_,_,hh=>by obtain rfl:_=[_]:=hh;exact⟨⟨.c _ rfl,trivial⟩,trivial⟩
 |.slice e,x,l,hh=>by
  rcases hh with⟨rfl,h2⟩|⟨b,cs,rfl,h0,h2,h3⟩
  ·obtain rfl:x=[]:=List.eq_nil_of_length_eq_zero h2;exact⟨⟨.nil _,trivial⟩,(fun y hy=>by cases hy),Nat.zero_le _⟩
  ·obtain⟨g1,g2⟩:=RL.fd (Ty.R_fd hw e) h3;refine⟨⟨.sl (fun h0=>?_) ?_ (Nat.le_refl _) h2 fun i d c hd hc=>?_,trivial⟩,g2,h0⟩
   ·cases hg:H.get b with
    |none=>
     have:=vq (i:=0) h2 h0;have hl:=jn h2;rw [zge (by omega)] at this;simp [Hp.cell,hg] at this
    |some bk=>exact hw b bk hg
   ·rw [g1.len,jn h2]
   ·obtain⟨c',hc',hr⟩:=g1.at i d hd;rw [hc] at hc';obtain rfl:=zsi hc';exact hr
 |.unit,_,_,hh=>by obtain rfl:_=[]:=hh;exact⟨trivial,trivial⟩
 |.pair a b,x,l,⟨l1,l2,e,h1,h2⟩=>by
  subst e;obtain⟨g1,g2⟩:=Ty.R_fd hw a _ _ h1;obtain⟨g3,g4⟩:=Ty.R_fd hw b _ _ h2;exact⟨g1.append g3,g2,g4⟩
 |.agg r,x,l,hh=>Ty.R_fd hw r x l hh
def Ty.isAgg:Ty->Bool
 |.agg _=>true
 |_=>false
def qb2:Bool->List FD->DV
 |true,l=>.agg (l.map .f)
 |false,[d]=>.one (.f d)
 |false,_=>.undef
def dB(t:Ty)(x:t.den):DV:=qb2 t.isAgg (t.fd x)
def NM:Bool->List C->V
 |true,l=>.agg l
 |false,[c]=>.one c
 |false,_=>.undef
theorem SA(t:Ty)(l:List C):JF t l=NM t.isAgg l:=by
 cases t<;>cases l with
 |nil=>rfl
 |cons c l=>cases l<;>rfl
def DA:(ts:List Ty)->WZ ts->List DV
 |[],_=>[]
 |t::ts,x=>dB t (Prod.fst x)::DA ts (Prod.snd x)
def UC:(ts:List Ty)->WZ ts->Prop
 |[],_=>True
 |t::ts,x=>t.okD (Prod.fst x)/\UC ts (Prod.snd x)
theorem IG{Z:Nat->Prop}{H:Hp}:∀(g:Bool) {l:List FD} {cs:List C},qg (RF Z H) l cs->xG Z H wU (qb2 g l) (NM g cs)
 |true,l,cs,h=>⟨cs,rfl,vC h⟩
 |false,[],[],_=>y6
 |false,[d],[c],h=>⟨c,rfl,h.1⟩
 |false,_::_::_,_::_::_,_=>y6
 |false,[],_::_,h=>h.elim
 |false,_::_,[],h=>h.elim
 |false,[_],_::_::_,h=>h.2.elim
 |false,_::_::_,[_],h=>h.2.elim
theorem R9{H:Hp}(hw:WF H){t:Ty}{x:t.den}{l:List C}(h:t.R H x l):xG (fun b=>b<H.nx) H wU (dB t x) (JF t l):=by
 rw [SA];exact IG _ (Ty.R_fd hw t x l h).1
theorem nS{H:Hp}(hw:WF H):∀{ts:List Ty} {x:WZ ts} {vs:List V},RA H ts x vs->qg (xG (fun b=>b<H.nx) H wU) (DA ts x) vs/\UC ts x
 |[],_,_,hh=>by obtain rfl:_=[]:=hh;exact⟨trivial,trivial⟩
 |t::_,_,_,⟨l,vs',e,h1,h2⟩=>by
  subst e;obtain⟨g1,g2⟩:=nS hw h2;exact⟨⟨R9 hw h1,g1⟩,(Ty.R_fd hw t _ _ h1).2,g2⟩
theorem deep_law{P:Program}{G:Nat}{GH:Hp}{f:FuncId}{ts:List Ty}{H:Hp}{x:WZ ts}{vs:List V}(h:UC ts x->yg P G GH f (DA ts x) fun d=>d=.bool true)(hw:WF H)(hG:∀b bk,GH.get b=some bk->H.get b=some bk)(hr:RA H ts x vs):qJ P G f vs H fun v _=>v=.bool true:=by
 obtain⟨h1,h2⟩:=nS hw hr;refine (h h2 H _ vs hw (fun b hb=>hb) (fun b bk hb=>⟨hw b bk (hG b bk hb),hG b bk hb⟩) h1).mono ?_;rintro v H' ⟨_,_,_,d,hd,rfl⟩;obtain⟨c,rfl,hc⟩:=hd;cases hc;rfl
end Go.Ab
