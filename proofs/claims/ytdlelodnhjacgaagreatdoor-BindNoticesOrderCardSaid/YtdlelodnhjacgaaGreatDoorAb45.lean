/- -/
import Derived.Test.YtdlelodnhjacgaaGreatDoorAb40
import Derived.Test.YtdlelodnhjacgaaGreatDoorAb43
import Derived.Test.YtdlelodnhjacgaaGreatDoorAb44
import Derived.Below
import Derived.ChangeSame
import Derived.RowKit
import Derived.Carry
set_option linter.unusedSimpArgs false
set_option linter.unusedVariables false
set_option maxRecDepth 8000
namespace Go.Ab
section
variable{X:Type}{enc:TypeId × Value->X}{P:Program}{G:Nat}{w:World}{base:Nat}{held:Bool}
def Kn(T:Ty)(l:List C):V:=
 match T with
 |.agg _=>.agg l
 |_=>match l with
  |[c]=>.one c
  |_=>.undef
theorem Pr {n:Nat} {t:TypeId} {T:Ty} (hd:desc P n t=some T) {v:Value} {d:DataW X} {ps:List MemPlace} {r:Reach} {b0:Nat} (ht:DataW.Trod enc P w base (fun _=>true) held t v d ps) (hv:Value.okWide P w r b0 t v)
 {μ:Nat->Pl} {K:Nat->Prop} {H:Hp} (hR:Rel G μ K H w) (hN:vu H):∃l H' μ' K',jc T [d] H=some (l,H')/\Rel G μ' K' H' w/\RV μ' K' (Kn T l) v/\Gr μ K H μ' K' H':=by
 obtain⟨fuel,hf⟩:=ht;obtain⟨hok,hsz⟩:=J0 (enc:=enc) (G:=G) (w:=w) (base:=base) (held:=held) n t T hd;obtain⟨hlen,l,H',μ',K',e1,R1,a1,g1⟩:=hok hf hR hN;refine⟨l,H',μ',K',e1,R1,?_,g1⟩;have hone:(∀cs,v≠.agg cs)->T.sz=1->(∀r,T≠.agg r)->RV μ' K' (Kn T l) v:=by
  intro hna h1 hT;have hc:v.cells=#[v]:=by
   cases v<;>first|rfl|exact absurd O (hna _)
  rw [hc] at a1;have hl:l.length=1:=by rw [a1.len];rfl
  match l,hl with
  |[c],_=>
   have:Kn T [c]=.one c:=by
    cases T<;>first|rfl|exact absurd O (hT _)
   rw [this];exact a1.1
 cases n with
 |zero=>cases hd
 |succ n=>
  simp only [desc,RH] at hd;split at hd
  ·rename_i T0 hT0;split at hd
   ·obtain rfl:=zsi hd;have hagg:∀r,T0=.agg r->(∃cs,v=.agg cs)->RV μ' K' (Kn T0 l) v:=by
     rintro r rfl ⟨cs,rfl⟩;exact⟨cs.toList,by simp,a1⟩
    split at hT0
    ·rename_i hu;obtain rfl:=zsi hT0;refine hone (fun cs e=>?_) O (fun r=>by simp);subst e;simp [Value.okWide,hu,Cell.okWide,Cell.ok] at hv
    ·rename_i k hu;obtain rfl:=zsi hT0;refine hone (fun cs e=>?_) O (fun r=>by simp);subst e;simp [Value.okWide,hu,Cell.okWide,Cell.ok] at hv
    ·rename_i hu;obtain rfl:=zsi hT0;refine hone (fun cs e=>?_) O (fun r=>by simp);subst e;simp [Value.okWide,hu,Cell.okWide,Cell.ok] at hv
    ·rename_i e hu;split at hT0
     ·split at hT0
      ·obtain rfl:=zsi hT0;refine hone (fun cs e=>?_) O (fun r=>by simp);subst e;simp [Value.okWide,hu,Cell.okWide,Cell.ok] at hv
      ·cases hT0
     ·cases hT0
    ·rename_i fs hu;split at hT0
     ·obtain rfl:=zsi hT0;simp only [Value.okWide,hu] at hv;obtain⟨cs,h1,_⟩:=hv;exact hagg _ O ⟨cs,h1⟩
     ·cases hT0
    ·rename_i k e hu;split at hT0
     ·obtain rfl:=zsi hT0;simp only [Value.okWide,hu] at hv;obtain⟨cs,h1,_⟩:=hv;exact hagg _ O ⟨cs,h1⟩
     ·cases hT0
    ·cases hT0
   ·cases hd
  ·cases hd
def W9(P:Program)(n:Nat):List TypeId->Option (List Ty)
 |[]=>some []
 |t::ts=>match desc P n t with
  |some a=>match W9 P n ts with
   |some l=>some (a::l)
   |none=>none
  |none=>none
def vo:List Ty->List (DataW X)->Hp->Option (List V × Hp)
 |[],[],H=>some ([],H)
 |t::ts,d::ds,H=>match jc t [d] H with
  |some (l,H1)=>match vo ts ds H1 with
   |some (vs,H2)=>some (Kn t l::vs,H2)
   |none=>none
  |none=>none
 |_,_,_=>none
theorem GK{n:Nat}{r:Reach}{b0:Nat}:∀{ts:List TypeId} {Ts:List Ty} {vs:List Value} {ds:List (DataW X)} {ps:List MemPlace} {μ:Nat->Pl} {K:Nat->Prop} {H:Hp},W9 P n ts=some Ts->
 DataW.TrodAll enc P w base (fun _=>true) held ts vs ds ps->(∀(j:Nat) t v,ts[j]?=some t->vs[j]?=some v->Value.okWide P w r b0 t v)->Rel G μ K H w->vu H->
 ∃avs H' μ' K',vo Ts ds H=some (avs,H')/\Rel G μ' K' H' w/\qe (RV μ' K') avs vs/\Gr μ K H μ' K' H'
 |[],Ts,[],[],ps,μ,K,H,hd,_,_,hR,hN=>by
  simp only [W9,zoi] at hd;subst hd;exact⟨[],H,μ,K,O,hR,trivial,Gr.refl _ _ _⟩
 |t::ts,Ts,v::vs,d::ds,ps,μ,K,H,hd,ht,hv,hR,hN=>by
  simp only [W9] at hd;cases h1:desc P n t with
  |none=>simp [h1] at hd
  |some a=>
   simp only [h1] at hd;cases h2:W9 P n ts with
   |none=>simp [h2] at hd
   |some l=>
    simp only [h2,zoi] at hd;subst hd;obtain⟨p,q,g1,g2,_⟩:=ht;obtain⟨l1,H1,μ1,K1,e1,R1,a1,gr1⟩:=Pr h1 g1 (hv 0 t v rfl rfl) hR hN;obtain⟨avs,H2,μ2,K2,e2,R2,a2,gr2⟩:=GK h2 g2 (fun j t v hj hj'=>hv (j+1) t v (by simpa using hj) (by simpa using hj')) R1 (gr1.noMut hN);exact⟨Kn a l1::avs,H2,μ2,K2,by simp [vo,e1,e2],R2,⟨a1.mono gr2.kk gr2.mu,a2⟩,gr1.trans gr2⟩
 |[],_,_::_,_,_,_,_,_,_,ht,_,_,_=>by cases ht
 |[],_,[],_::_,_,_,_,_,_,ht,_,_,_=>by cases ht
 |_::_,_,[],_,_,_,_,_,_,ht,_,_,_=>by cases ht
 |_::_,_,_::_,[],_,_,_,_,_,ht,_,_,_=>by cases ht
def j4(P:Program)(n G:Nat):List (String × DataW Unit)->Hp->Hp
 |[],H=>H
 |(s,d)::r,H=>match P.globalNamed s with
  |none=>j4 P n G r H
  |some g=>match (P.globals[g]?).map (·.type) with
   |none=>j4 P n G r H
   |some t=>match desc P n t with
    |none=>j4 P n G r H
    |some T=>match jc T [d] H with
     |none=>j4 P n G r H
     |some (l,H')=>if g<G then j4 P n G r (H'.add g (.row l.length l .lf false)) else j4 P n G r H
def cA(w:World)(g:Nat):Nat:=
 match w.heap[g]? with
 |some (.cells cs _ _)=>cs.size
 |_=>0
theorem aC{n:Nat}:∀{laid:List (String × DataW Unit)} {ps:List MemPlace} {μ:Nat->Pl} {K:Nat->Prop} {H:Hp},DataW.LaidVars P w laid ps->Rel G μ K H w->vu H->(∀g,g<G->μ g=⟨g,0,cA w g⟩)->
 ∃μ' K',Rel G μ' K' (j4 P n G laid H) w/\vu (j4 P n G laid H)
 |[],_,μ,K,H,_,hR,hN,_=>⟨μ,K,hR,hN⟩
 |(s,d)::r,ps,μ,K,H,hl,hR,hN,hg=>by
  obtain⟨g,t,cs,fuel,p,q,h1,h2,h3,h4,h5,_⟩:=hl;simp only [j4,h1,h2];cases hd:desc P n t with
  |none=>exact aC h5 hR hN hg
  |some T=>
   obtain⟨hok,hsz⟩:=J0 (enc:=fun _=>()) (G:=G) (w:=w) (base:=0) (held:=false) n t T hd;obtain⟨hlen,l,H',μ',K',e1,R1,a1,g1⟩:=hok h4 hR hN;simp only [e1];split
   ·rename_i hgG;have hN1:=g1.noMut hN;have hKg:=(R1.glob g hgG).1;have hmu:∀g,g<G->μ' g=⟨g,0,cA w g⟩:=fun g hg'=>by rw [g1.mu g (hR.glob g hg').1];exact hg g hg'
    have hN2:vu (H'.add g (.row l.length l .lf false)):=fun b bk hb=>by
     rw [Hp.get_add] at hb;split at hb
     ·obtain rfl:=zsi hb;rfl
     ·exact hN1 b bk hb
    refine aC h5 (μ:=μ') (K:=K') ⟨fun b bk hb=>?_,R1.lt,fun b bk hb=>?_,fun b b' bk bk' hb _ hm=>?_,R1.glob⟩ hN2 hmu
    ·rw [Hp.get_add] at hb;split at hb
     ·rename_i e;rw [e];exact hKg
     ·exact R1.dom b bk hb
    ·rw [Hp.get_add] at hb;split at hb
     ·rename_i e;subst e;obtain rfl:=zsi hb;rw [hmu _ hgG];unfold World.var? at h3;rw [h1] at h3;simp only [JN] at h3;split at h3
      ·rename_i c ty fz hc;obtain rfl:=zsi h3;refine⟨c,ty,fz,hc,by simp [cA,hc],by simp [a1.len],fun h=>(by cases h),fun i x hx=>?_⟩;simp only [B.cell] at hx;split at hx
       ·rename_i hi;simp only [Ab.T.get_lf,bE,kJ hi,qT,zge hi,QB,zoi] at hx;obtain⟨y,hy,hr⟩:=a1.at i x (by rw [zge hi,hx]);exact⟨y,by simpa using hy,hr⟩
       ·cases hx
      ·cases h3
     ·exact R1.blk b bk hb
    ·rw [hN2 b bk hb] at hm;cases hm
   ·exact aC h5 hR hN hg
theorem EQ{n g k:Nat}{s:String}{d:DataW Unit}{t:TypeId}{T:Ty}(h1:P.globalNamed s=some g)(h2:(P.globals[g]?).map (·.type)=some t)(hd:desc P n t=some T)(hk:T.sz=k):∀{laid:List (String × DataW Unit)} {ps:List MemPlace},DataW.LaidVars P w laid ps->(s,d)∈laid->cA w g=k
 |[],_,_,h=>by cases h
 |(s',d')::r,ps,hl,h=>by
  obtain⟨g',t',cs,fuel,p,q,e1,e2,e3,e4,e5,_⟩:=hl;rcases zd.1 h with h|h
  ·obtain⟨rfl,rfl⟩:=Prod.mk.inj h;rw [h1] at e1;obtain rfl:=zsi e1;rw [h2] at e2;obtain rfl:=zsi e2;obtain⟨hok,hsz⟩:=J0 (enc:=fun _=>()) (G:=0) (w:=w) (base:=0) (held:=false) n t T hd;have hR:Rel 0 (fun g=>⟨g,0,0⟩) (fun _=>False) ⟨.lf,0⟩ w:=⟨fun b bk hb=>by simp [Hp.get] at hb,fun _ hb=>hb.elim,fun b bk hb=>by simp [Hp.get] at hb,fun b _ bk _ hb=>by simp [Hp.get] at hb,fun g hg=>absurd hg (by omega)⟩;obtain⟨hlen,_⟩:=hok e4 hR (fun b bk hb=>by simp [Hp.get] at hb);unfold World.var? at e3;rw [h1] at e3;simp only [JN] at e3;split at e3
   ·rename_i c ty fz hc;obtain rfl:=zsi e3;simp only [cA,hc];rw [<-hk,<-hlen];simp
   ·cases e3
  ·exact EQ h1 h2 hd hk e5 h
theorem MU(w:World)(hs:∀g n,g<G->uV g=some n->cA w g=n):Rel G (fun g=>⟨g,0,cA w g⟩) (fun b=>b<G) ⟨.lf,G⟩ w:=
 ⟨fun _ _ h=>(by cases h),fun _ h=>h,fun _ _ h=>(by cases h),fun _ _ _ _ h=>(by cases h),fun g hg=>⟨hg,rfl,rfl,fun n h=>hs g n hg h⟩⟩
end
def Ty.den:Ty->Type
 |.bool=>Bool
 |.int _=>Int
 |.str=>ByteArray
 |.slice e=>List e.den
 |.unit=>Unit
 |.pair a b=>a.den × b.den
 |.agg r=>r.den
def RL{α:Type}(f:α->List C->Prop):List α->List C->Prop
 |[],cs=>cs=[]
 |x::xs,cs=>∃a b,cs=a++b/\f x a/\RL f xs b
def Ty.R(H:Hp):(t:Ty)->t.den->List C->Prop
 |.bool,x,l=>l=[.bool x]
 |.int k,x,l=>l=[.int k x]/\(Lit.int k x).wf=true
 |.str,x,l=>l=[.str x]
 |.slice e,x,l=>(l=[.nils]/\List.length x=0)\/∃b cs,l=[.slc b 0 (List.length x) (List.length x) e.sz false]/\List.length x<=9223372036854775807/\H.loads b 0 (List.length x*e.sz)=some cs/\RL (Ty.R H e) x cs
 |.unit,_,l=>l=[]
 |.pair a b,x,l=>∃l1 l2,l=l1++l2/\Ty.R H a (Prod.fst x) l1/\Ty.R H b (Prod.snd x) l2
 |.agg r,x,l=>Ty.R H r x l
theorem RL.mono{α:Type}{f g:α->List C->Prop}(h:∀x l,f x l->g x l):∀{xs:List α} {cs:List C},RL f xs cs->RL g xs cs
 |[],_,hh=>hh
 |_::_,_,⟨a,b,e,h1,h2⟩=>⟨a,b,e,h _ _ h1,RL.mono h h2⟩
theorem RL.len{α:Type}{f:α->List C->Prop}{c:Nat}(h:∀x l,f x l->l.length=c):∀{xs:List α} {cs:List C},RL f xs cs->cs.length=xs.length*c
 |[],_,hh=>by cases hh;simp
 |_::xs,_,⟨a,b,e,h1,h2⟩=>by
  subst e;rw [qE,h _ _ h1,RL.len h h2,xA,wW];omega
theorem Ty.R_le{H H':Hp}(h:Le H H'):∀(t:Ty) (x:t.den) (l:List C),t.R H x l->t.R H' x l
 |.bool,_,_,hh=>hh
 |.int _,_,_,hh=>hh
 |.str,_,_,hh=>hh
 |.slice e,x,l,hh=>by
  rcases hh with hh|⟨b,cs,h1,h0,h2,h3⟩
  ·exact .inl hh
  ·exact .inr ⟨b,cs,h1,h0,h.loads h2,h3.mono (Ty.R_le h e)⟩
 |.unit,_,_,hh=>hh
 |.pair a b,x,l,⟨l1,l2,e,h1,h2⟩=>⟨l1,l2,e,Ty.R_le h a _ _ h1,Ty.R_le h b _ _ h2⟩
 |.agg r,x,l,hh=>Ty.R_le h r x l hh
theorem Ty.R_len{H:Hp}:∀(t:Ty) (x:t.den) (l:List C),t.R H x l->l.length=t.sz
 |.bool,_,_,hh=>by cases hh;rfl
 |.int _,_,_,hh=>by cases hh.1;rfl
 |.str,_,_,hh=>by cases hh;rfl
 |.slice e,x,l,hh=>by
  rcases hh with hh|⟨b,cs,h1,_⟩
  ·rw [hh.1];rfl
  ·rw [h1];rfl
 |.unit,_,_,hh=>by cases hh;rfl
 |.pair a b,x,l,⟨l1,l2,e,h1,h2⟩=>by subst e;rw [qE,Ty.R_len a _ _ h1,Ty.R_len b _ _ h2];rfl
 |.agg r,x,l,hh=>Ty.R_len r x l hh
section
variable{X:Type}
theorem uN{e:Ty}(he:∀{ds:List (DataW X)} {H H':Hp} {l:List C},WF H->jc e ds H=some (l,H')->WF H'/\Ext H H'/\∃x:e.den,e.R H' x l):∀{es:List (DataW X)} {H H':Hp} {cs:List C},WF H->Jz (fun d H=>jc e [d] H) es H=some (cs,H')->
 WF H'/\Ext H H'/\∃xs:List e.den,xs.length=es.length/\RL (e.R H') xs cs
 |[],H,H',cs,hw,h=>by
  simp only [Jz,zoi,zpi] at h;obtain⟨rfl,rfl⟩:=h;exact⟨hw,Ext.refl _,[],O,O⟩
 |d::es,H,H',cs,hw,h=>by
  simp only [Jz] at h;cases h1:jc e [d] H with
  |none=>simp [h1] at h
  |some x=>
   obtain⟨l,H1⟩:=x;simp only [h1] at h;cases h2:Jz (fun d H=>jc e [d] H) es H1 with
   |none=>simp [h2] at h
   |some y=>
    obtain⟨l',H2⟩:=y;simp only [h2,zoi,zpi] at h;obtain⟨rfl,rfl⟩:=h;obtain⟨w1,e1,x1,r1⟩:=he hw h1;obtain⟨w2,e2,xs,hl,r2⟩:=uN he w1 h2;exact⟨w2,e1.trans e2,x1::xs,by simp [hl],l,l',rfl,Ty.R_le e2.le _ _ _ r1,r2⟩
theorem J1:∀(t:Ty) {ds:List (DataW X)} {H H':Hp} {l:List C},WF H->jc t ds H=some (l,H')->WF H'/\Ext H H'/\∃x:t.den,t.R H' x l
 |.bool,ds,H,H',l,hw,h=>by
  unfold jc at h;split at h<;>first|(cases h;done)|skip
  all_goals simp_all
  obtain⟨rfl,rfl⟩:=h;exact⟨Ext.refl _,_,O⟩
 |.int k,ds,H,H',l,hw,h=>by
  unfold jc at h;split at h<;>first|(cases h;done)|skip
  all_goals simp_all
  rename_i e0;subst e0;obtain⟨hwf,rfl,rfl⟩:=h;exact⟨Ext.refl _,_,O,hwf.2⟩
 |.str,ds,H,H',l,hw,h=>by
  unfold jc at h;split at h<;>first|(cases h;done)|skip
  all_goals simp_all
  obtain⟨rfl,rfl⟩:=h;exact⟨Ext.refl _,_,O⟩
 |.slice e,ds,H,H',l,hw,h=>by
  have he:∀{ds:List (DataW X)} {H H':Hp} {l:List C},WF H->jc e ds H=some (l,H')->WF H'/\Ext H H'/\∃x:e.den,e.R H' x l:=fun hw h=>J1 e hw h;unfold jc at h;split at h<;>first|(cases h;done)|skip
  all_goals first|(rename_i e0;obtain rfl:=Ty.slice.inj e0)|(simp at *;done)
  ·obtain⟨rfl,rfl⟩:=Prod.mk.inj (zsi h);exact⟨hw,Ext.refl _,([]:List e.den),.inl ⟨O,O⟩⟩
  ·rename_i es sp;split at h
   case isFalse=>cases h
   case isTrue hbd=>
   split at h
   case h_2=>cases h
   case h_1 cs H1 h1=>
    simp only [zoi] at h;obtain⟨w1,e1,xs,hl,r1⟩:=uN he hw h1;have hcl:cs.length=xs.length*e.sz:=RL.len (Ty.R_len e) r1;cases hcs:cs with
    |nil=>
     rw [hcs] at h r1;obtain⟨rfl,rfl⟩:=Prod.mk.inj h;exact⟨w1.skip 1,e1.skip 1,([]:List e.den),.inr ⟨_,[],O,Xa _,by simp [Hp.loads],rfl⟩⟩
    |cons c cr=>
     have e2:HO e.sz es.length cs H1=([.slc H1.nx 0 es.length es.length e.sz false],H1.push (.row cs.length cs .lf false)):=by rw [hcs];rfl
     rw [e2] at h;obtain⟨rfl,rfl⟩:=Prod.mk.inj h;refine⟨w1.push _,Ext.push w1 e1 _,xs,.inr ⟨H1.nx,cs,by rw [hl],by rw [hl];exact hbd,?_,r1.mono (Ty.R_le (Ext.push w1 (Ext.refl _) _).le e)⟩⟩;rw [<-hcl];exact Vg (rw:=false) (by rw [Hp.get_push,if_pos rfl])
 |.unit,ds,H,H',l,hw,h=>by
  unfold jc at h;split at h<;>first|(cases h;done)|skip
  all_goals simp_all
  obtain⟨rfl,rfl⟩:=h;exact⟨Ext.refl _,(),O⟩
 |.pair a b,ds,H,H',l,hw,h=>by
  cases ds with
  |nil=>simp [jc] at h
  |cons d ds=>
   simp only [jc] at h;cases h1:jc a [d] H with
   |none=>simp [h1] at h
   |some x=>
    obtain⟨l1,H1⟩:=x;simp only [h1] at h;cases h2:jc b ds H1 with
    |none=>simp [h2] at h
    |some y=>
     obtain⟨l',H2⟩:=y;simp only [h2,zoi,zpi] at h;obtain⟨rfl,rfl⟩:=h;obtain⟨w1,e1,x1,r1⟩:=J1 a hw h1;obtain⟨w2,e2,x2,r2⟩:=J1 b w1 h2;exact⟨w2,e1.trans e2,(x1,x2),l1,l',O,Ty.R_le e2.le _ _ _ r1,r2⟩
 |.agg r,ds,H,H',l,hw,h=>by
  unfold jc at h;split at h<;>first|(cases h;done)|skip
  all_goals first|(rename_i e0;obtain rfl:=Ty.agg.inj e0)|(simp at *;done)
  exact J1 r hw h
end
open Go.RowKit Go.WideShapes Go.ChangeShapes
section
variable{X:Type}{enc:TypeId × Value->X}{P:Program}{G:Nat}
def VG:List Ty->Type
 |[]=>Unit
 |t::ts=>t.den × VG ts
def RA(H:Hp):(ts:List Ty)->VG ts->List V->Prop
 |[],_,vs=>vs=[]
 |t::ts,x,vs=>∃l vs',vs=Kn t l::vs'/\t.R H (Prod.fst x) l/\RA H ts (Prod.snd x) vs'
theorem bN:∀{ts:List Ty} {ds:List (DataW X)} {H H':Hp} {vs:List V},WF H->vo ts ds H=some (vs,H')->WF H'/\Ext H H'/\∃x:VG ts,RA H' ts x vs
 |[],[],H,H',vs,hw,h=>by
  simp only [vo,zoi,zpi] at h;obtain⟨rfl,rfl⟩:=h;exact⟨hw,Ext.refl _,(),O⟩
 |t::ts,d::ds,H,H',vs,hw,h=>by
  simp only [vo] at h;split at h
  case h_2=>cases h
  case h_1 l H1 h1=>
   split at h
   case h_2=>cases h
   case h_1 vs' H2 h2=>
    obtain⟨rfl,rfl⟩:=Prod.mk.inj (zsi h);obtain⟨w1,e1,x1,r1⟩:=J1 t hw h1;obtain⟨w2,e2,x2,r2⟩:=bN w1 h2;exact⟨w2,e1.trans e2,(x1,x2),l,vs',O,Ty.R_le e2.le _ _ _ r1,r2⟩
 |[],_::_,_,_,_,_,h=>by simp [vo] at h
 |_::_,[],_,_,_,_,h=>by simp [vo] at h
theorem KA{W W':World}(hl:laidOutB P=true)(hb:Below W.heap.size W W'){sp:Nat->Bool}:∀{ts:List TypeId} {vs:List Value} {ds:List (DataW X)} {ps:List MemPlace},(ts.all fun t=>P.readableRec t&&decide (t<P.types.size))=true->
 DataW.TrodAll enc P W 0 (fun _=>true) true ts vs ds ps->(∀p∈ps,p.block<W.heap.size/\sp p.block=true)->DataW.TrodAll enc P W' 0 sp true ts vs ds ps
 |[],[],[],_,_,h,_=>h
 |t::ts,v::vs,d::ds,ps,hr,h,hp=>by
  obtain⟨p,q,h1,h2,rfl⟩:=h;simp only [List.all_cons,x8,yA] at hr;refine⟨p,q,WideElems.Trod_stays hl hr.1.1 hr.1.2 h1 (fun x hx=>hb.same (hp x (by simp [hx])).1) (fun x hx=>(hp x (by simp [hx])).2),KA hl hb (by simpa using hr.2) h2 (fun x hx=>hp x (by simp [hx])),O⟩
 |[],_::_,_,_,_,h,_=>by cases h
 |[],[],_::_,_,_,h,_=>by cases h
 |_::_,[],_,_,_,h,_=>by cases h
 |_::_,_::_,[],_,_,h,_=>by cases h
theorem uO {f:FuncId} {fn:Func} {s:ChangeSpec} {laid:List (String × DataW Unit)} {n:Nat} {Ts:List Ty} {H0:Hp} {tb:TypeId} {r:Reach}
 (hl:laidOutB P=true) (hrd:(fn.params.toList.all fun t=>P.readableRec t&&decide (t<P.types.size))=true) (hds:W9 P n fn.params.toList=some Ts) (hvars:s.vars=[]) (hres:fn.resultTypes=#[tb]) (htb:P.underlying tb=some .bool)
 (hspec:∀ds:List (DataW X),ds.length=fn.params.toList.length->s.fn X ds={ results:=[.lit (.bool true)],args:=ds })
 (hH0:j4 P n G laid ⟨.lf,G⟩=H0)
 (W:World) (base:Nat) (args:Array Value) (ds gs:List (DataW X)) (before:List MemPlace)
 (hlaw:∀(H:Hp) (x:VG Ts) (vs:List V),WF H->Ext H0 H->vu H->RA H Ts x vs->vo Ts ds H0=some (vs,H)->xc P G f vs H fun v _=>v=.bool true)
 (hval:∀(j:Nat) t v,fn.params[j]?=some t->args[j]?=some v->Value.okWide P W r base t v)
 (hW:DataW.Whole enc P fn.params.toList s.vars false W args.toList ds gs before) (hL:laidMet P laid W) (hgs:∀g k,g<G->uV g=some k->∃s d t T,(s,d)∈laid/\P.globalNamed s=some g/\(P.globals[g]?).map (·.type)=some t/\desc P n t=some T/\T.sz=k):
 Calls P f args W fun e W'=>∃v,e=.returned v/\s.post enc P fn false true false false W args v W':=by
 have hW0:=hW;obtain⟨p,q,hA,hV,rfl,hfz,hnd⟩:=hW;rw [hvars] at hV;obtain⟨rfl,rfl⟩:=trodVars_none hV;obtain⟨ps,hlv,_⟩:=hL;obtain⟨μ1,K1,R1,N1⟩:=aC (n:=n) hlv (MU (G:=G) W fun g k hg hk=>by obtain⟨s,d,t,T,a1,a2,a3,a4,a5⟩:=hgs g k hg hk;exact EQ a2 a3 a4 a5 hlv a1) (fun _ _ h=>by cases h) (fun _ _=>rfl);rw [hH0] at R1 N1;obtain⟨avs,H,μ2,K2,e2,R2,a2,g2⟩:=GK hds hA (fun j t v hj hj'=>hval j t v (by simpa using hj) (by simpa using hj')) R1 N1;obtain⟨w2,x2,x,rx⟩:=bN R1.lt' e2;have N2:=g2.noMut N1;have hlen:ds.length=fn.params.toList.length:=by
  have:∀{ts:List TypeId} {vs:List Value} {ds:List (DataW X)} {ps:List MemPlace},DataW.TrodAll enc P W 0 (fun _=>true) true ts vs ds ps->ds.length=ts.length:=by
   intro ts;induction ts with
   |nil=>intro vs ds ps h;cases vs<;>cases ds<;>simp_all [DataW.TrodAll]
   |cons t ts ih=>
    intro vs ds ps h;cases vs with
    |nil=>cases h
    |cons v vs=>
     cases ds with
     |nil=>cases h
     |cons d ds=>obtain⟨_,_,_,h2,_⟩:=h;simp [ih h2]
  exact this hA
 have key:=hlaw H x avs w2 x2 N2 rx e2 μ2 K2 W args.toList R2 a2;rw [Array.toArray_toList] at key;refine key.mono ?_;rintro e W' ⟨y,rfl,v,H',μ',K',rfl,h2,h3,h4⟩;obtain rfl:y=.bool true:=h2;have hb:Below W.heap.size W W':=⟨h4.same.1,h4.same.2.1,h4.same.2.2.1,h4.size,fun k hk=>h4.keep k hk fun b bk hb hm=>by rw [N2 b bk hb] at hm;cases hm⟩;have hlt:∀x∈p,x.block<W.heap.size:=fun x hx=>hW0.lt x (by simp [hx]);have hsp:=hspec ds hlen;refine⟨_,O,ds,[],p++[],[],p,[],hW0,?_,?_,?_,World.keptBut_mono (fun z hz=>⟨hz,.inr (.inl (by simpa using hz))⟩) (hb.frame (·∈p++[])),fun h=>(by cases h)⟩
 ·rw [yI,hsp,hres];exact⟨[],[],shut_bool htb true,O,O⟩
 ·rw [yI,hsp];exact KA hl hb hrd hA fun z hz=>⟨hlt z hz,by simpa using hlt z hz⟩
 ·rw [yI,hsp,hvars];rfl
end
end Go.Ab
namespace Go.Ab
def Ty.fd:(t:Ty)->t.den->List FD
 |.bool,x=>[.c (.bool x)]
 |.int k,x=>[.c (.int k x)]
 |.str,x=>[.c (.str x)]
 |.slice e,x=>[.sl e.sz (List.length x) (List.flatMap (Ty.fd e) x)]
 |.unit,_=>[]
 |.pair a b,x=>Ty.fd a (Prod.fst x)++Ty.fd b (Prod.snd x)
 |.agg r,x=>Ty.fd r x
def Ty.okD:(t:Ty)->t.den->Prop
 |.bool,_=>True
 |.int k,x=>(Lit.int k x).wf=true
 |.str,_=>True
 |.slice e,x=>(∀y,List.Mem y x->Ty.okD e y)/\List.length x<=9223372036854775807
 |.unit,_=>True
 |.pair a b,x=>Ty.okD a (Prod.fst x)/\Ty.okD b (Prod.snd x)
 |.agg r,x=>Ty.okD r x
theorem RL.fd{e:Ty}{H:Hp}{R:FD->C->Prop}(h:∀x l,e.R H x l->qe R (e.fd x) l/\e.okD x):∀{xs:List e.den} {cs:List C},RL (e.R H) xs cs->qe R (xs.flatMap e.fd) cs/\∀y,List.Mem y xs->e.okD y
 |[],_,hh=>by obtain rfl:_=[]:=hh;exact⟨trivial,fun y hy=>by cases hy⟩
 |x::xs,_,⟨a,b,e',h1,h2⟩=>by
  subst e';obtain⟨g1,g2⟩:=h x a h1;obtain⟨g3,g4⟩:=RL.fd h h2;rw [wB];refine⟨g1.append g3,fun y hy=>?_⟩;rcases zd.1 hy with rfl|hy
  ·exact g2
  ·exact g4 y hy
theorem Ty.R_fd{H:Hp}(hw:WF H):∀(t:Ty) (x:t.den) (l:List C),t.R H x l->qe (RF (fun b=>b<H.nx) H) (t.fd x) l/\t.okD x
 |.bool,_,_,hh=>by obtain rfl:_=[_]:=hh;exact⟨⟨.c _ O,trivial⟩,trivial⟩
 |.int _,_,_,hh=>by obtain⟨rfl,h2⟩:=hh;exact⟨⟨.c _ O,trivial⟩,h2⟩
 |.str,_,_,hh=>by obtain rfl:_=[_]:=hh;exact⟨⟨.c _ O,trivial⟩,trivial⟩
 |.slice e,x,l,hh=>by
  rcases hh with⟨rfl,h2⟩|⟨b,cs,rfl,h0,h2,h3⟩
  ·obtain rfl:x=[]:=vw h2;exact⟨⟨.nil _,trivial⟩,(fun y hy=>by cases hy),Xa _⟩
  ·obtain⟨g1,g2⟩:=RL.fd (Ty.R_fd hw e) h3;refine⟨⟨.sl (fun h0=>?_) ?_ (qz _) h2 fun i d c hd hc=>?_,trivial⟩,g2,h0⟩
   ·cases hg:H.get b with
    |none=>
     have:=fV (i:=0) h2 h0;have hl:=zW h2;rw [zge (by omega)] at this;simp [Hp.cell,hg] at this
    |some bk=>exact hw b bk hg
   ·rw [g1.len,zW h2]
   ·obtain⟨c',hc',hr⟩:=g1.at i d hd;rw [hc] at hc';obtain rfl:=zsi hc';exact hr
 |.unit,_,_,hh=>by obtain rfl:_=[]:=hh;exact⟨trivial,trivial⟩
 |.pair a b,x,l,⟨l1,l2,e,h1,h2⟩=>by
  subst e;obtain⟨g1,g2⟩:=Ty.R_fd hw a _ _ h1;obtain⟨g3,g4⟩:=Ty.R_fd hw b _ _ h2;exact⟨g1.append g3,g2,g4⟩
 |.agg r,x,l,hh=>Ty.R_fd hw r x l hh
def Ty.isAgg:Ty->Bool
 |.agg _=>true
 |_=>false
def Ps:Bool->List FD->DV
 |true,l=>.agg (l.map .f)
 |false,[d]=>.one (.f d)
 |false,_=>.undef
def Bo(t:Ty)(x:t.den):DV:=Ps t.isAgg (t.fd x)
def Dw:Bool->List C->V
 |true,l=>.agg l
 |false,[c]=>.one c
 |false,_=>.undef
theorem Ig(t:Ty)(l:List C):Kn t l=Dw t.isAgg l:=by
 cases t<;>cases l with
 |nil=>rfl
 |cons c l=>cases l<;>rfl
def DA:(ts:List Ty)->VG ts->List DV
 |[],_=>[]
 |t::ts,x=>Bo t (Prod.fst x)::DA ts (Prod.snd x)
def Di:(ts:List Ty)->VG ts->Prop
 |[],_=>True
 |t::ts,x=>t.okD (Prod.fst x)/\Di ts (Prod.snd x)
theorem Bn{Z:Nat->Prop}{H:Hp}:∀(g:Bool) {l:List FD} {cs:List C},qe (RF Z H) l cs->xi Z H kx (Ps g l) (Dw g cs)
 |true,l,cs,h=>⟨cs,rfl,vt h⟩
 |false,[],[],_=>kP
 |false,[d],[c],h=>⟨c,rfl,h.1⟩
 |false,_::_::_,_::_::_,_=>kP
 |false,[],_::_,h=>h.elim
 |false,_::_,[],h=>h.elim
 |false,[_],_::_::_,h=>h.2.elim
 |false,_::_::_,[_],h=>h.2.elim
theorem If{H:Hp}(hw:WF H){t:Ty}{x:t.den}{l:List C}(h:t.R H x l):xi (fun b=>b<H.nx) H kx (Bo t x) (Kn t l):=by
 rw [Ig];exact Bn _ (Ty.R_fd hw t x l h).1
theorem CJ{H:Hp}(hw:WF H):∀{ts:List Ty} {x:VG ts} {vs:List V},RA H ts x vs->qe (xi (fun b=>b<H.nx) H kx) (DA ts x) vs/\Di ts x
 |[],_,_,hh=>by obtain rfl:_=[]:=hh;exact⟨trivial,trivial⟩
 |t::_,_,_,⟨l,vs',e,h1,h2⟩=>by
  subst e;obtain⟨g1,g2⟩:=CJ hw h2;exact⟨⟨If hw h1,g1⟩,(Ty.R_fd hw t _ _ h1).2,g2⟩
theorem deep_law{P:Program}{G:Nat}{GH:Hp}{f:FuncId}{ts:List Ty}{H:Hp}{x:VG ts}{vs:List V}(h:Di ts x->yR P G GH f (DA ts x) fun d=>d=.bool true)(hw:WF H)(hG:∀b bk,GH.get b=some bk->H.get b=some bk)(hr:RA H ts x vs):xc P G f vs H fun v _=>v=.bool true:=by
 obtain⟨h1,h2⟩:=CJ hw hr;refine (h h2 H _ vs hw (fun b hb=>hb) (fun b bk hb=>⟨hw b bk (hG b bk hb),hG b bk hb⟩) h1).mono ?_;rintro v H' ⟨_,_,_,d,hd,rfl⟩;obtain⟨c,rfl,hc⟩:=hd;cases hc;rfl
end Go.Ab
namespace Go.Ai
open Go.Ab Go.Proofs
theorem wy{n:Int}(h:(Lit.int .u8 n).wf=true):∃m:Nat,n=m/\m<256:=by
 simp [Lit.wf,IntKind.min,IntKind.max,IntKind.signed,IntKind.bits] at h;exact⟨n.toNat,oM,oM⟩
theorem QD{n:Int}(h:(Lit.int .u8 n).wf=true):Yj n:=by
 obtain⟨m,rfl,hm⟩:=wy h;unfold Yj;omega
def HH:Ty:=.agg (.pair (.int .u8) (.pair (.int .u8) .unit))
def Tg:Ty:=.agg (.pair (.int .u8) (.pair (.int .u8) (.pair (.int .u8) (.pair (.int .u8) (.pair (.int .u8) (.pair (.int .u8) .unit))))))
def Rr:Ty:=.agg (.pair (.int .u8) (.pair (.int .u8) (.pair (.slice HH) .unit)))
def Rp:Ty:=.agg (.pair (.int .u8) (.pair (.int .u8) (.pair (.int .u8) (.pair (.slice Tg) .unit))))
def WL:Ty:=.agg (.pair (.int .u8) (.pair (.int .u8) (.pair (.slice (.int .u8)) (.pair Rr (.pair Rp .unit)))))
def M8(y:Int × Int × Int × Int × Int × Int × Unit):Rw:=⟨y.1,y.2.1,y.2.2.1,y.2.2.2.1,y.2.2.2.2.1,y.2.2.2.2.2.1⟩
def Rq(a:Int × Int × Int × List (Int × Int × Int × Int × Int × Int × Unit) × Unit):Raw:=⟨a.1,a.2.1,a.2.2.1,a.2.2.2.1.map M8⟩
def Rs(a:Int × Int × List (Int × Int × Unit) × Unit):RawF:=⟨a.1.toNat,a.2.1.toNat,a.2.2.1.map fun p=>(p.1.toNat,p.2.1.toNat)⟩
abbrev Wp:=Int × Int × List Int × (Int × Int × List (Int × Int × Unit) × Unit) × (Int × Int × Int × List (Int × Int × Int × Int × Int × Int × Unit) × Unit) × Unit
def WM(a:Wp):RawB:=⟨a.1.toNat,a.2.1.toNat,a.2.2.1.map Int.toNat,Rs a.2.2.2.1,Rq a.2.2.2.2.1⟩
theorem MI:∀l:List Int,(∀y,List.Mem y l->(Lit.int .u8 y).wf=true)->Jr (l.map Int.toNat)=List.flatMap (Ty.fd (.int .u8)) l
 |[],_=>rfl
 |y::l,h=>by
  obtain⟨m,rfl,_⟩:=wy (h y (.head _));have ih:=MI l fun z hz=>h z (.tail _ hz);show FD.c (.int .u8 (((m:Int).toNat:Nat):Int))::Jr (l.map Int.toNat)=_;rw [ih];rfl
theorem RJ:∀l:List (Int × Int × Unit),(∀y,List.Mem y l->Ty.okD HH y)->(l.map fun p=>(p.1.toNat,p.2.1.toNat)).flatMap CE=List.flatMap (Ty.fd HH) l
 |[],_=>rfl
 |(y1,y2,u)::l,h=>by
  obtain⟨h1,h2,_⟩:=h _ (.head _);obtain⟨m1,e1,_⟩:=wy h1;obtain⟨m2,e2,_⟩:=wy h2;simp only at e1 e2;subst e1 e2;have ih:=RJ l fun z hz=>h z (.tail _ hz);rw [jr,wB,ih];rfl
theorem M9:∀l:List (Int × Int × Int × Int × Int × Int × Unit),(l.map M8).flatMap Xd=List.flatMap (Ty.fd Tg) l
 |[]=>rfl
 |y::l=>by rw [jr,wB,M9 l];rfl
theorem SQ{a:Wp}(h:Ty.okD WL a):(WM a).ok:=by
 obtain⟨h1,h2,⟨h3,h3l⟩,⟨f1,f2,⟨f3,f3l⟩,_⟩,⟨p1,p2,p3,⟨p4,p4l⟩,_⟩,_⟩:=h;have nat {n:Int} (h:(Lit.int .u8 n).wf=true):n.toNat<256:=by obtain⟨m,rfl,hm⟩:=wy h;omega
 refine⟨nat h1,nat h2,fun v hv=>?_,?_,⟨nat f1,nat f2,fun q hq=>?_,?_⟩,⟨⟨QD p1,QD p2,QD p3⟩,fun r hr=>?_⟩,?_⟩
 ·obtain⟨y,hy,rfl⟩:=j6.1 hv;exact nat (h3 y hy)
 ·show (List.map Int.toNat a.2.2.1).length<_
  rw [xX];exact Nat.lt_succ_of_le h3l
 ·obtain⟨y,hy,rfl⟩:=j6.1 hq;obtain⟨g1,g2,_⟩:=f3 y hy;exact⟨nat g1,nat g2⟩
 ·show (List.map _ a.2.2.2.1.2.2.1).length<_
  rw [xX];exact Nat.lt_succ_of_le f3l
 ·obtain⟨y,hy,rfl⟩:=j6.1 hr;obtain⟨g1,g2,g3,g4,g5,g6,_⟩:=p4 y hy;exact⟨⟨QD g1,QD g2,QD g3⟩,QD g4,QD g5,QD g6⟩
 ·show (List.map M8 a.2.2.2.2.1.2.2.2.1).length<_
  rw [xX];exact Nat.lt_succ_of_le p4l
theorem SS{a:Wp}(h:Ty.okD WL a):QL (WM a)=Ty.fd WL (show WL.den from a):=by
 obtain⟨a1,a2,t,⟨k,n,l,u1⟩,⟨w,hh,g,fs,u2⟩,u3⟩:=a;obtain⟨h1,h2,⟨h3,h3l⟩,⟨f1,f2,⟨f3,f3l⟩,_⟩,_,_⟩:=h;obtain⟨m1,e1,_⟩:=wy h1;obtain⟨m2,e2,_⟩:=wy h2;obtain⟨m3,e3,_⟩:=wy f1;obtain⟨m4,e4,_⟩:=wy f2;simp only at e1 e2 e3 e4;subst e1 e2 e3 e4;have q1:=MI t h3;have q2:=RJ l f3;have q3:=M9 fs;show [FD.c (.int .u8 _),.c (.int .u8 _),.sl 1 (t.map Int.toNat).length (Jr (t.map Int.toNat)),.c (.int .u8 _),.c (.int .u8 _),.sl 2 (l.map fun p=>(p.1.toNat,p.2.1.toNat)).length ((l.map fun p=>(p.1.toNat,p.2.1.toNat)).flatMap CE),.c (.int .u8 w),.c (.int .u8 hh),.c (.int .u8 g),.sl 6 (fs.map M8).length ((fs.map M8).flatMap Xd)]=_;rw [q1,q2,q3,xX,xX,xX];rfl
theorem tT:∀l:List Wp,(∀y,List.Mem y l->Ty.okD WL y)->(l.map WM).flatMap QL=List.flatMap (Ty.fd WL) l
 |[],_=>rfl
 |y::l,h=>by
  have ih:=tT l fun z hz=>h z (.tail _ hz);rw [jr,wB,ih,SS (h y (.head _))];rfl
def b3T:Ty:=.agg (.pair (.int .u8) (.pair (.int .u8) (.pair (.int .u8) .unit)))
def rawET:Ty:=.agg (.pair (.slice WL) (.pair (.int .u8) (.pair b3T .unit)))
theorem notices_law{x:List Wp × Int × (Int × Int × Int × Unit) × Unit}{w:Int × Int × Int × Unit}(h:Di [rawET,b3T] (x,w,())):DK 3 (DA [rawET,b3T] (x,w,())) fun d=>d=.bool true:=by
 obtain⟨l,t,⟨v0,v1,v2,u0⟩,u1⟩:=x;obtain⟨a,b,c,u2⟩:=w;obtain⟨⟨⟨h1,h1l⟩,h2,⟨h3,h4,h5,_⟩,_⟩,⟨g1,g2,g3,_⟩,_⟩:=h;obtain⟨t,e,ht⟩:=wy h2;simp only at e;subst e;obtain⟨v0,e,hv0⟩:=wy h3;simp only at e;subst e;obtain⟨v1,e,hv1⟩:=wy h4;simp only at e;subst e;obtain⟨v2,e,hv2⟩:=wy h5;simp only at e;subst e;obtain⟨a,e,ha⟩:=wy g1;simp only at e;subst e;obtain⟨b,e,hb⟩:=wy g2;simp only at e;subst e;obtain⟨c,e,hc⟩:=wy g3;simp only at e;subst e;have:=PU (fun h1 h2 h3 h4 h5 h6=>U3 h1 h2 h3 h4 h5 h6) (x:=⟨l.map WM,t,v0,v1,v2⟩) ⟨fun x hx=>by obtain⟨y,hy,rfl⟩:=j6.1 hx;exact SQ (h1 y hy),by rw [xX];exact Nat.lt_succ_of_le h1l,ht,hv0,hv1,hv2⟩ ha hb hc;rw [show rU ⟨l.map WM,t,v0,v1,v2⟩=Bo rawET (show rawET.den from (l,(t:Int),((v0:Int),(v1:Int),(v2:Int),()),())) by
  show DV.agg [.f (.sl 10 (l.map WM).length ((l.map WM).flatMap QL)),_,_,_,_]=_
  rw [tT l h1,xX];rfl] at this
 exact this
end Go.Ai
