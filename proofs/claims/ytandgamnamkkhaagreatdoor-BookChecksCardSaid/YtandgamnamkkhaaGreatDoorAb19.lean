/- -/
import Derived.Test.YtandgamnamkkhaaGreatDoorAb18
import Derived.Below
import Derived.ChangeSame
import Derived.RowKit
import Derived.Carry
set_option linter.unusedSimpArgs false
set_option linter.unusedVariables false
set_option maxRecDepth 8000
namespace Go.Ab
section
variable{X:Type}{enc:TypeId × Value->X}{P:Program}{G:Nat}{w:World}{base:Nat}{held:Bool}
def YE(T:Ty)(l:List C):V:=
 match T with
 |.agg _=>.agg l
 |_=>match l with
  |[c]=>.one c
  |_=>.undef
theorem UQ {n:Nat} {t:TypeId} {T:Ty} (hd:desc P n t=some T) {v:Value} {d:DataW X} {ps:List MemPlace} {r:Reach} {b0:Nat} (ht:DataW.Trod enc P w base (fun _=>true) held t v d ps) (hv:Value.okWide P w r b0 t v)
 {μ:Nat->Pl} {K:Nat->Prop} {H:Hp} (hR:Rel G μ K H w) (hN:wM H):∃l H' μ' K',yf T [d] H=some (l,H')/\Rel G μ' K' H' w/\RV μ' K' (YE T l) v/\Gr μ K H μ' K' H':=by
 obtain⟨fuel,hf⟩:=ht;obtain⟨hok,hsz⟩:=Jn (enc:=enc) (G:=G) (w:=w) (base:=base) (held:=held) n t T hd;obtain⟨hlen,l,H',μ',K',e1,R1,a1,g1⟩:=hok hf hR hN;refine⟨l,H',μ',K',e1,R1,?_,g1⟩;have hone:(∀cs,v≠.agg cs)->T.sz=1->(∀r,T≠.agg r)->RV μ' K' (YE T l) v:=by
  intro hna h1 hT;have hc:v.cells=#[v]:=by
   cases v<;>first|rfl|exact absurd rfl (hna _)
  rw [hc] at a1;have hl:l.length=1:=by rw [a1.len];rfl
  match l,hl with
  |[c],_=>
   have:YE T [c]=.one c:=by
    cases T<;>first|rfl|exact absurd rfl (hT _)
   rw [this];exact a1.1
 cases n with
 |zero=>cases hd
 |succ n=>
  simp only [desc,XF] at hd;split at hd
  ·rename_i T0 hT0;split at hd
   ·obtain rfl:=zsi hd;have hagg:∀r,T0=.agg r->(∃cs,v=.agg cs)->RV μ' K' (YE T0 l) v:=by
     rintro r rfl ⟨cs,rfl⟩;exact⟨cs.toList,by simp,a1⟩
    split at hT0
    ·rename_i hu;obtain rfl:=zsi hT0;refine hone (fun cs e=>?_) rfl (fun r=>by simp);subst e;simp [Value.okWide,hu,Cell.okWide,Cell.ok] at hv
    ·rename_i k hu;obtain rfl:=zsi hT0;refine hone (fun cs e=>?_) rfl (fun r=>by simp);subst e;simp [Value.okWide,hu,Cell.okWide,Cell.ok] at hv
    ·rename_i hu;obtain rfl:=zsi hT0;refine hone (fun cs e=>?_) rfl (fun r=>by simp);subst e;simp [Value.okWide,hu,Cell.okWide,Cell.ok] at hv
    ·rename_i e hu;split at hT0
     ·split at hT0
      ·obtain rfl:=zsi hT0;refine hone (fun cs e=>?_) rfl (fun r=>by simp);subst e;simp [Value.okWide,hu,Cell.okWide,Cell.ok] at hv
      ·cases hT0
     ·cases hT0
    ·rename_i fs hu;split at hT0
     ·obtain rfl:=zsi hT0;simp only [Value.okWide,hu] at hv;obtain⟨cs,h1,_⟩:=hv;exact hagg _ rfl ⟨cs,h1⟩
     ·cases hT0
    ·rename_i k e hu;split at hT0
     ·obtain rfl:=zsi hT0;simp only [Value.okWide,hu] at hv;obtain⟨cs,h1,_⟩:=hv;exact hagg _ rfl ⟨cs,h1⟩
     ·cases hT0
    ·cases hT0
   ·cases hd
  ·cases hd
def Yu(P:Program)(n:Nat):List TypeId->Option (List Ty)
 |[]=>some []
 |t::ts=>match desc P n t with
  |some a=>match Yu P n ts with
   |some l=>some (a::l)
   |none=>none
  |none=>none
def wH:List Ty->List (DataW X)->Hp->Option (List V × Hp)
 |[],[],H=>some ([],H)
 |t::ts,d::ds,H=>match yf t [d] H with
  |some (l,H1)=>match wH ts ds H1 with
   |some (vs,H2)=>some (YE t l::vs,H2)
   |none=>none
  |none=>none
 |_,_,_=>none
theorem nV{n:Nat}{r:Reach}{b0:Nat}:∀{ts:List TypeId} {Ts:List Ty} {vs:List Value} {ds:List (DataW X)} {ps:List MemPlace} {μ:Nat->Pl} {K:Nat->Prop} {H:Hp},Yu P n ts=some Ts->
 DataW.TrodAll enc P w base (fun _=>true) held ts vs ds ps->(∀(j:Nat) t v,ts[j]?=some t->vs[j]?=some v->Value.okWide P w r b0 t v)->Rel G μ K H w->wM H->
 ∃avs H' μ' K',wH Ts ds H=some (avs,H')/\Rel G μ' K' H' w/\qe (RV μ' K') avs vs/\Gr μ K H μ' K' H'
 |[],Ts,[],[],ps,μ,K,H,hd,_,_,hR,hN=>by
  simp only [Yu,zoi] at hd;subst hd;exact⟨[],H,μ,K,rfl,hR,trivial,Gr.refl _ _ _⟩
 |t::ts,Ts,v::vs,d::ds,ps,μ,K,H,hd,ht,hv,hR,hN=>by
  simp only [Yu] at hd;cases h1:desc P n t with
  |none=>simp [h1] at hd
  |some a=>
   simp only [h1] at hd;cases h2:Yu P n ts with
   |none=>simp [h2] at hd
   |some l=>
    simp only [h2,zoi] at hd;subst hd;obtain⟨p,q,g1,g2,_⟩:=ht;obtain⟨l1,H1,μ1,K1,e1,R1,a1,gr1⟩:=UQ h1 g1 (hv 0 t v rfl rfl) hR hN;obtain⟨avs,H2,μ2,K2,e2,R2,a2,gr2⟩:=nV h2 g2 (fun j t v hj hj'=>hv (j+1) t v (by simpa using hj) (by simpa using hj')) R1 (gr1.noMut hN);exact⟨YE a l1::avs,H2,μ2,K2,by simp [wH,e1,e2],R2,⟨a1.mono gr2.kk gr2.mu,a2⟩,gr1.trans gr2⟩
 |[],_,_::_,_,_,_,_,_,_,ht,_,_,_=>by cases ht
 |[],_,[],_::_,_,_,_,_,_,ht,_,_,_=>by cases ht
 |_::_,_,[],_,_,_,_,_,_,ht,_,_,_=>by cases ht
 |_::_,_,_::_,[],_,_,_,_,_,ht,_,_,_=>by cases ht
def yP(P:Program)(n G:Nat):List (String × DataW Unit)->Hp->Hp
 |[],H=>H
 |(s,d)::r,H=>match P.globalNamed s with
  |none=>yP P n G r H
  |some g=>match (P.globals[g]?).map (·.type) with
   |none=>yP P n G r H
   |some t=>match desc P n t with
    |none=>yP P n G r H
    |some T=>match yf T [d] H with
     |none=>yP P n G r H
     |some (l,H')=>if g<G then yP P n G r (H'.add g (.row l.length l .lf false)) else yP P n G r H
def oJ(w:World)(g:Nat):Nat:=
 match w.heap[g]? with
 |some (.cells cs _ _)=>cs.size
 |_=>0
theorem J8{n:Nat}:∀{laid:List (String × DataW Unit)} {ps:List MemPlace} {μ:Nat->Pl} {K:Nat->Prop} {H:Hp},DataW.LaidVars P w laid ps->Rel G μ K H w->wM H->(∀g,g<G->μ g=⟨g,0,oJ w g⟩)->
 ∃μ' K',Rel G μ' K' (yP P n G laid H) w/\wM (yP P n G laid H)
 |[],_,μ,K,H,_,hR,hN,_=>⟨μ,K,hR,hN⟩
 |(s,d)::r,ps,μ,K,H,hl,hR,hN,hg=>by
  obtain⟨g,t,cs,fuel,p,q,h1,h2,h3,h4,h5,_⟩:=hl;simp only [yP,h1,h2];cases hd:desc P n t with
  |none=>exact J8 h5 hR hN hg
  |some T=>
   obtain⟨hok,hsz⟩:=Jn (enc:=fun _=>()) (G:=G) (w:=w) (base:=0) (held:=false) n t T hd;obtain⟨hlen,l,H',μ',K',e1,R1,a1,g1⟩:=hok h4 hR hN;simp only [e1];split
   ·rename_i hgG;have hN1:=g1.noMut hN;have hKg:=(R1.glob g hgG).1;have hmu:∀g,g<G->μ' g=⟨g,0,oJ w g⟩:=fun g hg'=>by rw [g1.mu g (hR.glob g hg').1];exact hg g hg'
    have hN2:wM (H'.add g (.row l.length l .lf false)):=fun b bk hb=>by
     rw [Hp.get_add] at hb;split at hb
     ·obtain rfl:=zsi hb;rfl
     ·exact hN1 b bk hb
    refine J8 h5 (μ:=μ') (K:=K') ⟨fun b bk hb=>?_,R1.lt,fun b bk hb=>?_,fun b b' bk bk' hb _ hm=>?_,R1.glob⟩ hN2 hmu
    ·rw [Hp.get_add] at hb;split at hb
     ·rename_i e;rw [e];exact hKg
     ·exact R1.dom b bk hb
    ·rw [Hp.get_add] at hb;split at hb
     ·rename_i e;subst e;obtain rfl:=zsi hb;rw [hmu _ hgG];unfold World.var? at h3;rw [h1] at h3;simp only [Option.bind_some] at h3;split at h3
      ·rename_i c ty fz hc;obtain rfl:=zsi h3;refine⟨c,ty,fz,hc,by simp [oJ,hc],by simp [a1.len],fun h=>(by cases h),fun i x hx=>?_⟩;simp only [B.cell] at hx;split at hx
       ·rename_i hi;simp only [Ab.T.get_lf,Option.getD_none,Nat.mod_eq_of_lt hi,List.getD_eq_getElem?_getD,zge hi,Option.getD_some,zoi] at hx;obtain⟨y,hy,hr⟩:=a1.at i x (by rw [zge hi,hx]);exact⟨y,by simpa using hy,hr⟩
       ·cases hx
      ·cases h3
     ·exact R1.blk b bk hb
    ·rw [hN2 b bk hb] at hm;cases hm
   ·exact J8 h5 hR hN hg
theorem sF(w:World):Rel G (fun g=>⟨g,0,oJ w g⟩) (fun b=>b<G) ⟨.lf,G⟩ w:=
 ⟨fun _ _ h=>(by cases h),fun _ h=>h,fun _ _ h=>(by cases h),fun _ _ _ _ h=>(by cases h),fun _ hg=>⟨hg,rfl,rfl⟩⟩
end
def Ty.den:Ty->Type
 |.bool=>Bool
 |.int _=>Int
 |.str=>ByteArray
 |.slice e=>List e.den
 |.unit=>Unit
 |.pair a b=>a.den × b.den
 |.agg r=>r.den
def RL{α:Type}(f:α->List C->Prop):List α->List C->Prop
 |[],cs=>cs=[]
 |x::xs,cs=>∃a b,cs=a++b/\f x a/\RL f xs b
def Ty.R(H:Hp):(t:Ty)->t.den->List C->Prop
 |.bool,x,l=>l=[.bool x]
 |.int k,x,l=>l=[.int k x]/\(Lit.int k x).wf=true
 |.str,x,l=>l=[.str x]
 |.slice e,x,l=>(l=[.nils]/\List.length x=0)\/∃b cs,l=[.slc b 0 (List.length x) (List.length x) e.sz false]/\List.length x<=9223372036854775807/\H.loads b 0 (List.length x*e.sz)=some cs/\RL (Ty.R H e) x cs
 |.unit,_,l=>l=[]
 |.pair a b,x,l=>∃l1 l2,l=l1++l2/\Ty.R H a (Prod.fst x) l1/\Ty.R H b (Prod.snd x) l2
 |.agg r,x,l=>Ty.R H r x l
theorem RL.mono{α:Type}{f g:α->List C->Prop}(h:∀x l,f x l->g x l):∀{xs:List α} {cs:List C},RL f xs cs->RL g xs cs
 |[],_,hh=>hh
 |_::_,_,⟨a,b,e,h1,h2⟩=>⟨a,b,e,h _ _ h1,RL.mono h h2⟩
theorem RL.len{α:Type}{f:α->List C->Prop}{c:Nat}(h:∀x l,f x l->l.length=c):∀{xs:List α} {cs:List C},RL f xs cs->cs.length=xs.length*c
 |[],_,hh=>by cases hh;simp
 |_::xs,_,⟨a,b,e,h1,h2⟩=>by
  subst e;rw [List.length_append,h _ _ h1,RL.len h h2,List.length_cons,Nat.add_mul];omega
theorem Ty.R_le{H H':Hp}(h:Le H H'):∀(t:Ty) (x:t.den) (l:List C),t.R H x l->t.R H' x l
 |.bool,_,_,hh=>hh
 |.int _,_,_,hh=>hh
 |.str,_,_,hh=>hh
 |.slice e,x,l,hh=>by
  rcases hh with hh|⟨b,cs,h1,h0,h2,h3⟩
  ·exact .inl hh
  ·exact .inr ⟨b,cs,h1,h0,h.loads h2,h3.mono (Ty.R_le h e)⟩
 |.unit,_,_,hh=>hh
 |.pair a b,x,l,⟨l1,l2,e,h1,h2⟩=>⟨l1,l2,e,Ty.R_le h a _ _ h1,Ty.R_le h b _ _ h2⟩
 |.agg r,x,l,hh=>Ty.R_le h r x l hh
theorem Ty.R_len{H:Hp}:∀(t:Ty) (x:t.den) (l:List C),t.R H x l->l.length=t.sz
 |.bool,_,_,hh=>by cases hh;rfl
 |.int _,_,_,hh=>by cases hh.1;rfl
 |.str,_,_,hh=>by cases hh;rfl
 |.slice e,x,l,hh=>by
  rcases hh with hh|⟨b,cs,h1,_⟩
  ·rw [hh.1];rfl
  ·rw [h1];rfl
 |.unit,_,_,hh=>by cases hh;rfl
 |.pair a b,x,l,⟨l1,l2,e,h1,h2⟩=>by subst e;rw [List.length_append,Ty.R_len a _ _ h1,Ty.R_len b _ _ h2];rfl
 |.agg r,x,l,hh=>Ty.R_len r x l hh
section
variable{X:Type}
theorem fS{e:Ty}(he:∀{ds:List (DataW X)} {H H':Hp} {l:List C},WF H->yf e ds H=some (l,H')->WF H'/\Ext H H'/\∃x:e.den,e.R H' x l):∀{es:List (DataW X)} {H H':Hp} {cs:List C},WF H->Zm (fun d H=>yf e [d] H) es H=some (cs,H')->
 WF H'/\Ext H H'/\∃xs:List e.den,xs.length=es.length/\RL (e.R H') xs cs
 |[],H,H',cs,hw,h=>by
  simp only [Zm,zoi,zpi] at h;obtain⟨rfl,rfl⟩:=h;exact⟨hw,Ext.refl _,[],rfl,rfl⟩
 |d::es,H,H',cs,hw,h=>by
  simp only [Zm] at h;cases h1:yf e [d] H with
  |none=>simp [h1] at h
  |some x=>
   obtain⟨l,H1⟩:=x;simp only [h1] at h;cases h2:Zm (fun d H=>yf e [d] H) es H1 with
   |none=>simp [h2] at h
   |some y=>
    obtain⟨l',H2⟩:=y;simp only [h2,zoi,zpi] at h;obtain⟨rfl,rfl⟩:=h;obtain⟨w1,e1,x1,r1⟩:=he hw h1;obtain⟨w2,e2,xs,hl,r2⟩:=fS he w1 h2;exact⟨w2,e1.trans e2,x1::xs,by simp [hl],l,l',rfl,Ty.R_le e2.le _ _ _ r1,r2⟩
theorem ZF:∀(t:Ty) {ds:List (DataW X)} {H H':Hp} {l:List C},WF H->yf t ds H=some (l,H')->WF H'/\Ext H H'/\∃x:t.den,t.R H' x l
 |.bool,ds,H,H',l,hw,h=>by
  unfold yf at h;split at h<;>first|(cases h;done)|skip
  all_goals simp_all
  obtain⟨rfl,rfl⟩:=h;exact⟨Ext.refl _,_,rfl⟩
 |.int k,ds,H,H',l,hw,h=>by
  unfold yf at h;split at h<;>first|(cases h;done)|skip
  all_goals simp_all
  rename_i e0;subst e0;obtain⟨hwf,rfl,rfl⟩:=h;exact⟨Ext.refl _,_,rfl,hwf.2⟩
 |.str,ds,H,H',l,hw,h=>by
  unfold yf at h;split at h<;>first|(cases h;done)|skip
  all_goals simp_all
  obtain⟨rfl,rfl⟩:=h;exact⟨Ext.refl _,_,rfl⟩
 |.slice e,ds,H,H',l,hw,h=>by
  have he:∀{ds:List (DataW X)} {H H':Hp} {l:List C},WF H->yf e ds H=some (l,H')->WF H'/\Ext H H'/\∃x:e.den,e.R H' x l:=fun hw h=>ZF e hw h;unfold yf at h;split at h<;>first|(cases h;done)|skip
  all_goals first|(rename_i e0;obtain rfl:=Ty.slice.inj e0)|(simp at *;done)
  ·obtain⟨rfl,rfl⟩:=Prod.mk.inj (zsi h);exact⟨hw,Ext.refl _,([]:List e.den),.inl ⟨rfl,rfl⟩⟩
  ·rename_i es sp;split at h
   case isFalse=>cases h
   case isTrue hbd=>
   split at h
   case h_2=>cases h
   case h_1 cs H1 h1=>
    simp only [zoi] at h;obtain⟨w1,e1,xs,hl,r1⟩:=fS he hw h1;have hcl:cs.length=xs.length*e.sz:=RL.len (Ty.R_len e) r1;cases hcs:cs with
    |nil=>
     rw [hcs] at h r1;obtain⟨rfl,rfl⟩:=Prod.mk.inj h;exact⟨w1.skip 1,e1.skip 1,([]:List e.den),.inr ⟨_,[],rfl,Nat.zero_le _,by simp [Hp.loads],rfl⟩⟩
    |cons c cr=>
     have e2:o6 e.sz es.length cs H1=([.slc H1.nx 0 es.length es.length e.sz false],H1.push (.row cs.length cs .lf false)):=by rw [hcs];rfl
     rw [e2] at h;obtain⟨rfl,rfl⟩:=Prod.mk.inj h;refine⟨w1.push _,Ext.push w1 e1 _,xs,.inr ⟨H1.nx,cs,by rw [hl],by rw [hl];exact hbd,?_,r1.mono (Ty.R_le (Ext.push w1 (Ext.refl _) _).le e)⟩⟩;rw [<-hcl];exact Jk (rw:=false) (by rw [Hp.get_push,if_pos rfl])
 |.unit,ds,H,H',l,hw,h=>by
  unfold yf at h;split at h<;>first|(cases h;done)|skip
  all_goals simp_all
  obtain⟨rfl,rfl⟩:=h;exact⟨Ext.refl _,(),rfl⟩
 |.pair a b,ds,H,H',l,hw,h=>by
  cases ds with
  |nil=>simp [yf] at h
  |cons d ds=>
   simp only [yf] at h;cases h1:yf a [d] H with
   |none=>simp [h1] at h
   |some x=>
    obtain⟨l1,H1⟩:=x;simp only [h1] at h;cases h2:yf b ds H1 with
    |none=>simp [h2] at h
    |some y=>
     obtain⟨l',H2⟩:=y;simp only [h2,zoi,zpi] at h;obtain⟨rfl,rfl⟩:=h;obtain⟨w1,e1,x1,r1⟩:=ZF a hw h1;obtain⟨w2,e2,x2,r2⟩:=ZF b w1 h2;exact⟨w2,e1.trans e2,(x1,x2),l1,l',rfl,Ty.R_le e2.le _ _ _ r1,r2⟩
 |.agg r,ds,H,H',l,hw,h=>by
  unfold yf at h;split at h<;>first|(cases h;done)|skip
  all_goals first|(rename_i e0;obtain rfl:=Ty.agg.inj e0)|(simp at *;done)
  exact ZF r hw h
end
open Go.RowKit Go.WideShapes Go.ChangeShapes
section
variable{X:Type}{enc:TypeId × Value->X}{P:Program}{G:Nat}
def JD:List Ty->Type
 |[]=>Unit
 |t::ts=>t.den × JD ts
def RA(H:Hp):(ts:List Ty)->JD ts->List V->Prop
 |[],_,vs=>vs=[]
 |t::ts,x,vs=>∃l vs',vs=YE t l::vs'/\t.R H (Prod.fst x) l/\RA H ts (Prod.snd x) vs'
theorem WD:∀{ts:List Ty} {ds:List (DataW X)} {H H':Hp} {vs:List V},WF H->wH ts ds H=some (vs,H')->WF H'/\Ext H H'/\∃x:JD ts,RA H' ts x vs
 |[],[],H,H',vs,hw,h=>by
  simp only [wH,zoi,zpi] at h;obtain⟨rfl,rfl⟩:=h;exact⟨hw,Ext.refl _,(),rfl⟩
 |t::ts,d::ds,H,H',vs,hw,h=>by
  simp only [wH] at h;split at h
  case h_2=>cases h
  case h_1 l H1 h1=>
   split at h
   case h_2=>cases h
   case h_1 vs' H2 h2=>
    obtain⟨rfl,rfl⟩:=Prod.mk.inj (zsi h);obtain⟨w1,e1,x1,r1⟩:=ZF t hw h1;obtain⟨w2,e2,x2,r2⟩:=WD w1 h2;exact⟨w2,e1.trans e2,(x1,x2),l,vs',rfl,Ty.R_le e2.le _ _ _ r1,r2⟩
 |[],_::_,_,_,_,_,h=>by simp [wH] at h
 |_::_,[],_,_,_,_,h=>by simp [wH] at h
theorem YK{W W':World}(hl:laidOutB P=true)(hb:Below W.heap.size W W'){sp:Nat->Bool}:∀{ts:List TypeId} {vs:List Value} {ds:List (DataW X)} {ps:List MemPlace},(ts.all fun t=>P.readableRec t&&decide (t<P.types.size))=true->
 DataW.TrodAll enc P W 0 (fun _=>true) true ts vs ds ps->(∀p∈ps,p.block<W.heap.size/\sp p.block=true)->DataW.TrodAll enc P W' 0 sp true ts vs ds ps
 |[],[],[],_,_,h,_=>h
 |t::ts,v::vs,d::ds,ps,hr,h,hp=>by
  obtain⟨p,q,h1,h2,rfl⟩:=h;simp only [List.all_cons,xt,xF] at hr;refine⟨p,q,WideElems.Trod_stays hl hr.1.1 hr.1.2 h1 (fun x hx=>hb.same (hp x (by simp [hx])).1) (fun x hx=>(hp x (by simp [hx])).2),YK hl hb (by simpa using hr.2) h2 (fun x hx=>hp x (by simp [hx])),rfl⟩
 |[],_::_,_,_,_,h,_=>by cases h
 |[],[],_::_,_,_,h,_=>by cases h
 |_::_,[],_,_,_,h,_=>by cases h
 |_::_,_::_,[],_,_,h,_=>by cases h
theorem fT {f:FuncId} {fn:Func} {s:ChangeSpec} {laid:List (String × DataW Unit)} {n:Nat} {Ts:List Ty} {H0:Hp} {tb:TypeId} {r:Reach}
 (hl:laidOutB P=true) (hrd:(fn.params.toList.all fun t=>P.readableRec t&&decide (t<P.types.size))=true) (hds:Yu P n fn.params.toList=some Ts) (hvars:s.vars=[]) (hres:fn.resultTypes=#[tb]) (htb:P.underlying tb=some .bool)
 (hspec:∀ds:List (DataW X),ds.length=fn.params.toList.length->s.fn X ds={ results:=[.lit (.bool true)],args:=ds })
 (hH0:yP P n G laid ⟨.lf,G⟩=H0)
 (W:World) (base:Nat) (args:Array Value) (ds gs:List (DataW X)) (qO:List MemPlace)
 (hlaw:∀(H:Hp) (x:JD Ts) (vs:List V),WF H->Ext H0 H->wM H->RA H Ts x vs->wH Ts ds H0=some (vs,H)->qK P G f vs H fun v _=>v=.bool true)
 (hval:∀(j:Nat) t v,fn.params[j]?=some t->args[j]?=some v->Value.okWide P W r base t v)
 (hW:DataW.Whole enc P fn.params.toList s.vars false W args.toList ds gs qO) (hL:laidMet P laid W):
 Calls P f args W fun e W'=>∃v,e=.returned v/\s.post enc P fn false true false false W args v W':=by
 have hW0:=hW;obtain⟨p,q,hA,hV,rfl,hfz,hnd⟩:=hW;rw [hvars] at hV;obtain⟨rfl,rfl⟩:=trodVars_none hV;obtain⟨ps,hlv,_⟩:=hL;obtain⟨μ1,K1,R1,N1⟩:=J8 (n:=n) hlv (sF (G:=G) W) (fun _ _ h=>by cases h) (fun _ _=>rfl);rw [hH0] at R1 N1;obtain⟨avs,H,μ2,K2,e2,R2,a2,g2⟩:=nV hds hA (fun j t v hj hj'=>hval j t v (by simpa using hj) (by simpa using hj')) R1 N1;obtain⟨w2,x2,x,rx⟩:=WD R1.lt' e2;have N2:=g2.noMut N1;have hlen:ds.length=fn.params.toList.length:=by
  have:∀{ts:List TypeId} {vs:List Value} {ds:List (DataW X)} {ps:List MemPlace},DataW.TrodAll enc P W 0 (fun _=>true) true ts vs ds ps->ds.length=ts.length:=by
   intro ts;induction ts with
   |nil=>intro vs ds ps h;cases vs<;>cases ds<;>simp_all [DataW.TrodAll]
   |cons t ts ih=>
    intro vs ds ps h;cases vs with
    |nil=>cases h
    |cons v vs=>
     cases ds with
     |nil=>cases h
     |cons d ds=>obtain⟨_,_,_,h2,_⟩:=h;simp [ih h2]
  exact this hA
 have key:=hlaw H x avs w2 x2 N2 rx e2 μ2 K2 W args.toList R2 a2;rw [Array.toArray_toList] at key;refine key.mono ?_;rintro e W' ⟨y,rfl,v,H',μ',K',rfl,h2,h3,h4⟩;obtain rfl:y=.bool true:=h2;have hb:Below W.heap.size W W':=⟨h4.same.1,h4.same.2.1,h4.same.2.2.1,h4.size,fun k hk=>h4.keep k hk fun b bk hb hm=>by rw [N2 b bk hb] at hm;cases hm⟩;have hlt:∀x∈p,x.block<W.heap.size:=fun x hx=>hW0.lt x (by simp [hx]);have hsp:=hspec ds hlen;refine⟨_,rfl,ds,[],p++[],[],p,[],hW0,?_,?_,?_,World.keptBut_mono (fun z hz=>⟨hz,.inr (.inl (by simpa using hz))⟩) (hb.frame (·∈p++[])),fun h=>(by cases h)⟩
 ·rw [List.append_nil,hsp,hres];exact⟨[],[],shut_bool htb true,rfl,rfl⟩
 ·rw [List.append_nil,hsp];exact YK hl hb hrd hA fun z hz=>⟨hlt z hz,by simpa using hlt z hz⟩
 ·rw [List.append_nil,hsp,hvars];rfl
end
end Go.Ab

namespace Go.Ab
def Ty.fd:(t:Ty)->t.den->List FD
 |.bool,x=>[.c (.bool x)]
 |.int k,x=>[.c (.int k x)]
 |.str,x=>[.c (.str x)]
 |.slice e,x=>[.sl e.sz (List.length x) (List.flatMap (Ty.fd e) x)]
 |.unit,_=>[]
 |.pair a b,x=>Ty.fd a (Prod.fst x)++Ty.fd b (Prod.snd x)
 |.agg r,x=>Ty.fd r x
def Ty.okD:(t:Ty)->t.den->Prop
 |.bool,_=>True
 |.int k,x=>(Lit.int k x).wf=true
 |.str,_=>True
 |.slice e,x=>(∀y,List.Mem y x->Ty.okD e y)/\List.length x<=9223372036854775807
 |.unit,_=>True
 |.pair a b,x=>Ty.okD a (Prod.fst x)/\Ty.okD b (Prod.snd x)
 |.agg r,x=>Ty.okD r x
theorem RL.fd{e:Ty}{H:Hp}{R:FD->C->Prop}(h:∀x l,e.R H x l->qe R (e.fd x) l/\e.okD x):∀{xs:List e.den} {cs:List C},RL (e.R H) xs cs->qe R (xs.flatMap e.fd) cs/\∀y,List.Mem y xs->e.okD y
 |[],_,hh=>by obtain rfl:_=[]:=hh;exact⟨trivial,fun y hy=>by cases hy⟩
 |x::xs,_,⟨a,b,e',h1,h2⟩=>by
  subst e';obtain⟨g1,g2⟩:=h x a h1;obtain⟨g3,g4⟩:=RL.fd h h2;rw [List.flatMap_cons];refine⟨g1.append g3,fun y hy=>?_⟩;rcases List.mem_cons.1 hy with rfl|hy
  ·exact g2
  ·exact g4 y hy
theorem Ty.R_fd{H:Hp}(hw:WF H):∀(t:Ty) (x:t.den) (l:List C),t.R H x l->qe (RF (fun b=>b<H.nx) H) (t.fd x) l/\t.okD x
 |.bool,_,_,hh=>by obtain rfl:_=[_]:=hh;exact⟨⟨.c _ rfl,trivial⟩,trivial⟩
 |.int _,_,_,hh=>by obtain⟨rfl,h2⟩:=hh;exact⟨⟨.c _ rfl,trivial⟩,h2⟩
 |.str,_,_,hh=>by obtain rfl:_=[_]:=hh;exact⟨⟨.c _ rfl,trivial⟩,trivial⟩
 |.slice e,x,l,hh=>by
  rcases hh with⟨rfl,h2⟩|⟨b,cs,rfl,h0,h2,h3⟩
  ·obtain rfl:x=[]:=List.eq_nil_of_length_eq_zero h2;exact⟨⟨.nil _,trivial⟩,(fun y hy=>by cases hy),Nat.zero_le _⟩
  ·obtain⟨g1,g2⟩:=RL.fd (Ty.R_fd hw e) h3;refine⟨⟨.sl (fun h0=>?_) ?_ (Nat.le_refl _) h2 fun i d c hd hc=>?_,trivial⟩,g2,h0⟩
   ·cases hg:H.get b with
    |none=>
     have:=ve (i:=0) h2 h0;have hl:=zq h2;rw [zge (by omega)] at this;simp [Hp.cell,hg] at this
    |some bk=>exact hw b bk hg
   ·rw [g1.len,zq h2]
   ·obtain⟨c',hc',hr⟩:=g1.at i d hd;rw [hc] at hc';obtain rfl:=zsi hc';exact hr
 |.unit,_,_,hh=>by obtain rfl:_=[]:=hh;exact⟨trivial,trivial⟩
 |.pair a b,x,l,⟨l1,l2,e,h1,h2⟩=>by
  subst e;obtain⟨g1,g2⟩:=Ty.R_fd hw a _ _ h1;obtain⟨g3,g4⟩:=Ty.R_fd hw b _ _ h2;exact⟨g1.append g3,g2,g4⟩
 |.agg r,x,l,hh=>Ty.R_fd hw r x l hh
def Ty.isAgg:Ty->Bool
 |.agg _=>true
 |_=>false
def UR:Bool->List FD->DV
 |true,l=>.agg (l.map .f)
 |false,[d]=>.one (.f d)
 |false,_=>.undef
def ES(t:Ty)(x:t.den):DV:=UR t.isAgg (t.fd x)
def GR:Bool->List C->V
 |true,l=>.agg l
 |false,[c]=>.one c
 |false,_=>.undef
theorem MD(t:Ty)(l:List C):YE t l=GR t.isAgg l:=by
 cases t<;>cases l with
 |nil=>rfl
 |cons c l=>cases l<;>rfl
def DA:(ts:List Ty)->JD ts->List DV
 |[],_=>[]
 |t::ts,x=>ES t (Prod.fst x)::DA ts (Prod.snd x)
def FX:(ts:List Ty)->JD ts->Prop
 |[],_=>True
 |t::ts,x=>t.okD (Prod.fst x)/\FX ts (Prod.snd x)
theorem EQ{Z:Nat->Prop}{H:Hp}:∀(g:Bool) {l:List FD} {cs:List C},qe (RF Z H) l cs->xc Z H jA (UR g l) (GR g cs)
 |true,l,cs,h=>⟨cs,rfl,wL h⟩
 |false,[],[],_=>jM
 |false,[d],[c],h=>⟨c,rfl,h.1⟩
 |false,_::_::_,_::_::_,_=>jM
 |false,[],_::_,h=>h.elim
 |false,_::_,[],h=>h.elim
 |false,[_],_::_::_,h=>h.2.elim
 |false,_::_::_,[_],h=>h.2.elim
theorem MC{H:Hp}(hw:WF H){t:Ty}{x:t.den}{l:List C}(h:t.R H x l):xc (fun b=>b<H.nx) H jA (ES t x) (YE t l):=by
 rw [MD];exact EQ _ (Ty.R_fd hw t x l h).1
theorem iM{H:Hp}(hw:WF H):∀{ts:List Ty} {x:JD ts} {vs:List V},RA H ts x vs->qe (xc (fun b=>b<H.nx) H jA) (DA ts x) vs/\FX ts x
 |[],_,_,hh=>by obtain rfl:_=[]:=hh;exact⟨trivial,trivial⟩
 |t::_,_,_,⟨l,vs',e,h1,h2⟩=>by
  subst e;obtain⟨g1,g2⟩:=iM hw h2;exact⟨⟨MC hw h1,g1⟩,(Ty.R_fd hw t _ _ h1).2,g2⟩
theorem deep_law{P:Program}{G:Nat}{GH:Hp}{f:FuncId}{ts:List Ty}{H:Hp}{x:JD ts}{vs:List V}(h:FX ts x->yE P G GH f (DA ts x) fun d=>d=.bool true)(hw:WF H)(hG:∀b bk,GH.get b=some bk->H.get b=some bk)(hr:RA H ts x vs):qK P G f vs H fun v _=>v=.bool true:=by
 obtain⟨h1,h2⟩:=iM hw hr;refine (h h2 H _ vs hw (fun b hb=>hb) (fun b bk hb=>⟨hw b bk (hG b bk hb),hG b bk hb⟩) h1).mono ?_;rintro v H' ⟨_,_,_,d,hd,rfl⟩;obtain⟨c,rfl,hc⟩:=hd;cases hc;rfl
end Go.Ab

namespace Go.Ah
open Go.Ab
abbrev oX(i d:Nat)(p:SOp):SOper:=⟨i,some d,p,none,none,[],false⟩
abbrev pX(i d:Nat)(p:PureOp):SOper:=⟨i,some d,.p p,none,none,[],false⟩
abbrev mX(i d s:Nat):SOper:=⟨i,some d,.p (.mv (.t s)),none,none,[],false⟩
abbrev lX(i d s:Nat):SOper:=⟨i,some d,.l (.load false 1 (.t s)),none,none,[],false⟩
abbrev iX(i d e x y:Nat):SOper:=⟨i,some d,.p (.iaddr e (.t x) (.t y)),none,none,[],false⟩
abbrev aX(i d k x:Nat):SOper:=⟨i,some d,.p (.faddr k (.t x)),none,none,[],false⟩
abbrev gX(i d s g:Nat)(b:Bool):SOper:=⟨i,some d,.p (.mv (.t s)),some (g,b),none,[],false⟩
abbrev L:=List SOper
abbrev qk(a b c:Nat):SOper:=⟨a,some b,.p (.mv (.t c)),none,none,[],false⟩
abbrev xu(a b c:Nat):SOper:=⟨a,some b,.l (.load false 1 (.t c)),none,none,[],false⟩
abbrev xM(a b c d:Nat):SOper:=⟨a,some b,.p (.faddr c (.t d)),none,none,[],false⟩
abbrev yw(a b c d:Nat):SOper:=⟨a,some b,.l (.load true c (.t d)),none,none,[],false⟩
abbrev kF(a b c:Nat):SOper:=⟨a,some b,.p (.bin .add (.t c) (.c (.one (.int .i64 1)))),none,none,[],false⟩
abbrev j9(a b c d e:Nat):SOper:=⟨a,some b,.p (.iaddr c (.t d) (.t e)),none,none,[],false⟩
abbrev j8(a b c d:Nat):SOper:=⟨a,some b,.p (.mv (.t c)),(some (d,true)),none,[],false⟩
abbrev wO(a b c d:Nat):SOper:=⟨a,none,.e (.store b (.t c) (.t d)),none,none,[],false⟩
abbrev kT(a b:Nat)(c:Int):SOper:=⟨a,some b,.p (.mv (.c (.one (.int .i64 c)))),none,none,[],false⟩
abbrev Q3(a b c d:Nat):SOper:=⟨a,some b,.p (.pick (.t c) (.t d) (.c (.one (.bool false)))),none,none,[],false⟩
abbrev Ql(a b c d:Nat):SOper:=⟨a,some b,.l (.load false 1 (.t c)),(some (d,true)),none,[],false⟩
abbrev j7(a b c:Nat):SOper:=⟨a,some b,.p (.len (.t c)),none,none,[],false⟩
abbrev Qk(a b c d:Nat):SOper:=⟨a,some b,.p (.bin .lss (.t c) (.t d)),none,none,[],false⟩
abbrev Q2(a b c d e:Nat):SOper:=⟨a,some b,.p (.faddr c (.t d)),(some (e,true)),none,[],false⟩
abbrev Q1(a b c d:Nat):SOper:=⟨a,some b,.cf c [(.t d)],none,none,[],false⟩
abbrev YS(a b c d e f:Nat):SOper:=⟨a,some b,.e (.append c d (.t e) (.t f)),none,none,[],false⟩
abbrev dN(a b c:Nat):SOper:=⟨a,some b,.a (.bslice 2 1 [(.int .i64 0),(.int .i64 0)] [(0,2,(.t c))]),none,none,[],false⟩
abbrev aB(a b:Nat)(c:Int):SOper:=⟨a,none,.e (.store 1 (.t b) (.c (.one (.int .i64 c)))),none,none,[],false⟩
abbrev YI(a b c:Nat):SOper:=⟨a,some b,.a (.box (.t c)),none,none,[],false⟩
abbrev Ww(a b:Nat):SOper:=⟨a,some b,.p (.mv (.c (.one .nils))),none,none,[],false⟩
abbrev dM(a b c:Nat):SOper:=⟨a,some b,.p (.bin .sub (.t c) (.c (.one (.int .i64 1)))),none,none,[],false⟩
abbrev dK(a b:Nat):SOper:=⟨a,some b,.a (.alloc [(.int .i64 0),(.int .i64 0)]),none,none,[],false⟩
abbrev lE(a b c:Nat):SOper:=⟨a,some b,.p (.bin .gtr (.t c) (.c (.one (.int .i64 0)))),none,none,[],false⟩
abbrev rV(a b c d:Nat):SOper:=⟨a,some b,.p (.bin .sub (.t c) (.c (.one (.int .i64 1)))),(some (d,true)),none,[],false⟩
abbrev FH(a b c d:Nat):SOper:=⟨a,some b,.p (.build [(.int .i64 0),(.int .i64 0)] [(0,1,(.t c)),(1,1,(.t d))]),none,none,[],false⟩
abbrev dJ(a b c d:Nat):SOper:=⟨a,some b,.p (.bin .sub (.t c) (.t d)),none,none,[],false⟩
abbrev lD(a b:Nat):SOper:=⟨a,some b,.p (.mv (.c (.one (.bool false)))),none,none,[],false⟩
abbrev rU(a b c:Nat):SOper:=⟨a,some b,.p (.bin .rem (.t c) (.c (.one (.int .u8 4)))),none,none,[],false⟩
abbrev dI(a b c:Nat):SOper:=⟨a,some b,.p (.conv .i64 (.t c)),none,none,[],false⟩
abbrev MZ(a b:Nat)(c:Int)(d:Nat):SOper:=⟨a,some b,.p (.build [(.int .i64 0),(.int .i64 0)] [(0,1,(.c (.one (.int .i64 c)))),(1,1,(.t d))]),none,none,[],false⟩
abbrev rT(a b c d e f:Nat):SOper:=⟨a,some b,.p (.iaddr c (.t d) (.t e)),(some (f,true)),none,[],false⟩
abbrev FG(a b c d:Nat):SOper:=⟨a,some b,.p (.eqs false [(0,false),(1,false)] (.t c) (.t d)),none,none,[],false⟩
abbrev Dy(a:L)(b c d:Nat)(e:L)(f g:Nat)(h i j:L):SC:=(.seq (.seq (.ops a 0 true) (.cond (.t b) .skip (.exit c))) (.seq (.block d (.seq (.ops e f true) (.cond (.t g) (.seq (.ops h 0 true) (.ops i 0 true)) .skip))) (.ops j 0 true)))
abbrev lC(a b c d e:Nat):SOper:=⟨a,some b,.cf c [(.t d),(.t e)],none,none,[],false⟩
abbrev FF(a b:Nat)(c:Int):SOper:=⟨a,some b,.p (.aaddr 2 1 (.t 8) (.c (.one (.int .i64 c)))),none,none,[],false⟩
abbrev MY(a:L)(b c d:Nat)(e:L)(f:Nat)(g:L):SC:=(.seq (.seq (.ops a 0 true) (.cond (.t b) .skip (.exit c))) (.seq (.block d (.ops e f true)) (.ops g 0 true)))
abbrev FE(a b c:Nat)(d:Int):SOper:=⟨a,some b,.p (.bin .eql (.t c) (.c (.one (.int .i64 d)))),none,none,[],false⟩
abbrev FC(a b c:Nat)(d:Int):SOper:=⟨a,some b,.p (.bin .eql (.t c) (.c (.one (.int .u8 d)))),none,none,[],false⟩
abbrev FB(a b c d e:Nat):SOper:=⟨a,some b,.p (.slice c (.t d) (some (.t e)) none none),none,none,[],false⟩
abbrev rS(a b c d:Nat):SOper:=⟨a,some b,.p (.bin .leq (.t c) (.t d)),none,none,[],false⟩
abbrev FA(a b c d e:Nat):SOper:=⟨a,some b,.p (.bin .leq (.t c) (.t d)),(some (e,true)),none,[],false⟩
abbrev rR(a b c:Nat):SOper:=⟨a,some b,.l (.load false 1 (.t c)),none,none,[],true⟩
abbrev E9(a b c d:Nat):SOper:=⟨a,some b,.p (.slen (.t c)),(some (d,true)),none,[],false⟩
abbrev E8(a b c d:Nat):SOper:=⟨a,some b,.p (.mv (.t c)),(some (d,false)),none,[],false⟩
abbrev E7(a b c d:Nat):SOper:=⟨a,some b,.p (.bin .mul (.t c) (.t d)),none,none,[],false⟩
abbrev Dx(a b c:L)(d:SC)(e:L):SC:=(.seq (.ops a 0 true) (.seq (.ops b 0 true) (.seq (.seq (.ops c 0 true) (.block 0 (.loop d))) (.seq (.ops e 0 true) .ret))))
abbrev E6(a b:Nat):SOper:=⟨a,some b,.a (.alloc [(.int .i64 0)]),none,none,[],false⟩
abbrev MX(a b:Nat)(c:Int)(d:Nat):SOper:=⟨a,some b,.p (.bin .add (.c (.one (.int .i64 c))) (.t d)),none,none,[],false⟩
abbrev MW(a b c:Nat):SOper:=⟨a,some b,.p (.iaddr 2 (.t c) (.c (.one (.int .i64 0)))),none,none,[],false⟩
abbrev MV(a b c d e:Nat):SOper:=⟨a,some b,.p (.bin .lss (.t c) (.t d)),(some (e,true)),none,[],false⟩
abbrev MU(a b c d:Nat):SOper:=⟨a,some b,.l (.load false 1 (.t c)),(some (d,false)),none,[],false⟩
abbrev MT(a b c d:Nat):SOper:=⟨a,some b,.l (.load true 2 (.t c)),(some (d,true)),none,[],false⟩
abbrev E5(a b c:Nat):SOper:=⟨a,some b,.p (.slen (.t c)),none,none,[],false⟩
abbrev MS(a b c d e:Nat):SOper:=⟨a,some b,.p (.faddr c (.t d)),(some (e,false)),none,[],false⟩
abbrev MR(a b:Nat):SOper:=⟨a,some b,.p (.mv (.c (.one (.bool true)))),none,none,[],false⟩
abbrev Dw(a b c d e:Nat):SOper:=⟨a,some b,.p (.pick (.t c) (.t d) (.c (.one (.bool false)))),(some (e,false)),none,[],false⟩
abbrev MQ(a b c d:Nat):SOper:=⟨a,some b,.p (.bin .add (.t c) (.t d)),none,none,[],false⟩
abbrev MP(a b c d:Nat):SOper:=⟨a,some b,.p (.mm false (.t c) (.t d)),none,none,[],false⟩
abbrev MO(a b c d:Nat):SOper:=⟨a,some b,.p (.mm true (.t c) (.t d)),none,none,[],false⟩
abbrev Dv(a:Nat):SOper:=⟨0,some a,.a (.bslice 2 0 [(.int .i64 0),(.int .i64 0)] []),none,none,[],false⟩
abbrev Du(a b c d:Nat):SOper:=⟨a,some b,.p (.pick (.t c) (.c (.one (.bool true))) (.t d)),none,none,[],false⟩
abbrev Dt(a b:Nat):SOper:=⟨a,some b,.a (.alloc [(.int .i64 0),(.int .i64 0)]),none,(some a),[],false⟩
abbrev Ds(a b:Nat):SOper:=⟨2,none,.e (.stupd (.t a) (.t b) (.c (.one (.bool true)))),none,none,[],false⟩
abbrev Dr(a b c:Nat)(d:Int):SOper:=⟨a,some b,.p (.bin .quo (.t c) (.c (.one (.int .u8 d)))),none,none,[],false⟩
abbrev Dq(a b c d:Nat):SOper:=⟨a,some b,.l (.lookup (.one .nils) false (.t c) (.t d)),none,none,[],false⟩
abbrev Dp(a b c:Nat):SOper:=⟨2,some a,.p (.slice 2 (.t b) none (some (.t c)) none),none,none,[],false⟩
abbrev MN(a b c:Nat):SOper:=⟨a,some b,.p (.not (.t c)),none,none,[],false⟩
abbrev Do(a b:Nat):SOper:=⟨1,some a,.cf 143 [(.t b),(.c (.one (.fn 144 [])))],none,none,[],false⟩
abbrev Dn(a b c:Nat):SOper:=⟨a,some b,.l (.load true 2 (.t c)),(some (10,false)),none,[],false⟩
def Fe:L:=[lD 0 6]
def Fd:L:=[⟨0,some 14,.cf 8 [],none,none,[],false⟩,qk 1 7 14]
def Fc:L:=[qk 0 15 0,Q1 1 16 9 15,qk 2 17 1,Q1 3 18 9 17,qk 4 8 16,qk 5 9 18]
def Fb:L:=[qk 0 19 9,j7 1 20 19,lE 2 21 20]
def Fa:L:=[qk 0 22 9,qk 1 23 2,dI 2 24 23,qk 3 25 9,j7 4 26 25,⟨5,some 27,.p (.bin .rem (.t 24) (.t 26)),none,none,[],false⟩,FB 6 28 10 22 27,qk 7 9 28]
def OP:L:=[kT 0 10 0,MR 1 11]
def OO:L:=[⟨0,some 29,.a (.bslice 10 0 [(.int .i64 0),(.int .i64 0),(.str ⟨#[]⟩),.nils,.nils,(.int .i64 0),(.int .i64 0),(.int .i64 0),.nils,(.int .i64 0)] []),none,none,[],false⟩,qk 1 30 8,YS 2 31 10 136 29 30,qk 3 32 9,YS 4 33 10 136 31 32,qk 5 12 33]
def ON:L:=[kT 0 13 0]
def Ez:L:=[qk 0 34 13,qk 1 35 12,j7 2 36 35,Qk 3 37 34 36]
def Ey:L:=[qk 0 40 12,qk 1 41 13,j9 2 42 10 40 41,xM 3 43 0 42,xu 4 44 43,FE 5 45 44 7]
def Bb:L:=[qk 0 46 11,qk 1 47 46,j8 2 48 12 47,j8 3 49 13 47,rT 4 50 10 48 49 47,Q2 5 51 9 50 47,Ql 6 52 51 47,j8 7 53 10 47,⟨8,some 54,.p (.bin .gtr (.t 52) (.t 53)),(some (47,true)),none,[],false⟩,Q3 9 55 47 54,qk 10 11 55]
def Ba:L:=[qk 0 56 10,qk 1 57 12,qk 2 58 13,j9 3 59 10 57 58,xM 4 60 9 59,xu 5 61 60,MO 6 62 56 61,qk 7 10 62]
def Az:L:=[qk 0 38 13,kF 1 39 38,qk 2 13 39]
def OQ:SC:=Dy Ez 37 0 1 Ey 0 45 Bb Ba Az
def F8:L:=[qk 0 63 9,j7 1 64 63,lE 2 65 64,qk 3 66 65,j8 4 67 9 66,⟨5,some 68,.p (.iaddr 10 (.t 67) (.c (.one (.int .i64 0)))),(some (66,true)),none,[],false⟩,Q2 6 69 0 68 66,Ql 7 70 69 66,⟨8,some 71,.p (.bin .eql (.t 70) (.c (.one (.int .i64 4)))),(some (66,true)),none,[],false⟩,Q3 9 72 66 71,qk 10 73 72,j8 11 74 8 73,⟨12,some 75,.p (.len (.t 74)),(some (73,true)),none,[],false⟩,⟨13,some 76,.p (.bin .eql (.t 75) (.c (.one (.int .i64 0)))),(some (73,true)),none,[],false⟩,j8 14 77 76 73,E8 15 78 8 77,E8 16 79 8 77,⟨17,some 80,.p (.len (.t 79)),(some (77,false)),none,[],false⟩,⟨18,some 81,.p (.bin .sub (.t 80) (.c (.one (.int .i64 1)))),(some (77,false)),none,[],false⟩,⟨19,some 82,.p (.iaddr 10 (.t 78) (.t 81)),(some (77,false)),none,[],false⟩,MS 20 83 0 82 77,MU 21 84 83 77,⟨22,some 85,.p (.bin .neq (.t 84) (.c (.one (.int .i64 1)))),(some (77,false)),none,[],false⟩,E8 23 86 85 77,j8 24 87 8 86,j8 25 88 8 86,⟨26,some 89,.p (.len (.t 88)),(some (86,true)),none,[],false⟩,rV 27 90 89 86,rT 28 91 10 87 90 86,Q2 29 92 0 91 86,Ql 30 93 92 86,⟨31,some 94,.p (.bin .neq (.t 93) (.c (.one (.int .i64 4)))),(some (86,true)),none,[],false⟩,Dw 32 95 86 94 77,⟨33,some 96,.p (.pick (.t 77) (.c (.one (.bool true))) (.t 95)),(some (73,true)),none,[],false⟩,Q3 34 97 73 96]
def F7:L:=[lD 0 11]
def F6:L:=[qk 0 98 12,Q1 1 99 10 98,qk 2 100 11,⟨3,some 101,.p (.beq false (.t 99) (.t 100)),none,none,[],false⟩,qk 4 102 101,j8 5 103 7 102,Q3 6 104 102 103,qk 7 6 104]
def Gm:SC:=(.seq (.ops Fe 0 true) (.seq (.ops Fd 0 true) (.seq (.ops Fc 0 true) (.seq (.seq (.ops Fb 0 true) (.cond (.t 21) (.ops Fa 0 true) .skip)) (.seq (.ops OP 0 true) (.seq (.ops OO 0 true) (.seq (.seq (.ops ON 0 true) (.block 0 (.loop OQ))) (.seq (.seq (.ops F8 0 true) (.cond (.t 97) (.ops F7 0 true) .skip)) (.seq (.ops F6 0 true) .ret)))))))))
def f6:SFn:=⟨105,Gm,[.t 6]⟩

def Bw:L:=[⟨0,some 6,.p (.mv (.c (.one (.str ⟨#[]⟩)))),none,none,[],false⟩]
def Bv:L:=[⟨0,some 7,.p (.mv (.c (.one (.str ⟨#[]⟩)))),none,none,[],false⟩]
def Bu:L:=[kT 0 8 0]
def Bt:L:=[qk 0 10 8,qk 1 11 0,j7 2 12 11,Qk 3 13 10 12,qk 4 14 13,j8 5 15 7 14,E9 6 16 15 14,j8 7 17 1 14,MV 8 18 16 17 14,Q3 9 19 14 18]
def Bs:L:=[qk 0 22 0,qk 1 23 8,j9 2 24 1 22 23,xu 3 25 24,dI 4 26 25,qk 5 27 2,E5 6 28 27,kF 7 29 28,⟨8,some 30,.p (.bin .rem (.t 26) (.t 29)),none,none,[],false⟩,qk 9 9 30]
def Br:L:=[qk 0 31 9,lE 1 32 31]
def Bq:L:=[qk 0 33 7,qk 1 34 2,qk 2 35 9,dM 3 36 35,qk 4 37 9,⟨5,some 38,.p (.sslice (.t 34) (some (.t 36)) (some (.t 37))),none,none,[],false⟩,⟨6,some 39,.p (.scat (.t 33) (.t 38)),none,none,[],false⟩,qk 7 7 39]
def Bp:L:=[qk 0 40 7,E5 1 41 40,lE 2 42 41,qk 3 43 42,j8 4 44 7 43,E9 5 45 44 43,j8 6 46 1 43,rV 7 47 46 43,MV 8 48 45 47 43,Q3 9 49 43 48,qk 10 50 49,j8 11 51 7 50,j8 12 52 7 50,E9 13 53 52 50,rV 14 54 53 50,⟨15,some 55,.p (.sindex (.t 51) (.t 54)),(some (50,true)),none,[],false⟩,⟨16,some 56,.p (.bin .neq (.t 55) (.c (.one (.int .u8 32)))),(some (50,true)),none,[],false⟩,Q3 17 57 50 56]
def Bo:L:=[qk 0 58 7,⟨1,some 59,.p (.scat (.t 58) (.c (.one (.str ⟨#[32]⟩)))),none,none,[],false⟩,qk 2 7 59]
def Bn:L:=[qk 0 20 8,kF 1 21 20,qk 2 8 21]
def By:SC:=(.seq (.seq (.ops Bt 0 true) (.cond (.t 19) .skip (.exit 0))) (.seq (.block 1 (.seq (.ops Bs 0 true) (.seq (.ops Br 0 true) (.cond (.t 32) (.ops Bq 0 true) (.seq (.ops Bp 0 true) (.cond (.t 57) (.ops Bo 0 true) .skip)))))) (.ops Bn 0 true)))
def uX:L:=[qk 0 60 7,E5 1 61 60,lE 2 62 61,qk 3 63 62,j8 4 64 7 63,j8 5 65 7 63,E9 6 66 65 63,rV 7 67 66 63,⟨8,some 68,.p (.sindex (.t 64) (.t 67)),(some (63,true)),none,[],false⟩,⟨9,some 69,.p (.bin .eql (.t 68) (.c (.one (.int .u8 32)))),(some (63,true)),none,[],false⟩,Q3 10 70 63 69]
def uW:L:=[qk 0 71 7,qk 1 72 7,E5 2 73 72,dM 3 74 73,⟨4,some 75,.p (.sslice (.t 71) none (some (.t 74))),none,none,[],false⟩,qk 5 7 75]
def uV:L:=[qk 0 76 7,⟨1,some 77,.p (.seq false (.t 76) (.c (.one (.str ⟨#[]⟩)))),none,none,[],false⟩]
def uU:L:=[qk 0 78 2,⟨1,some 79,.p (.sslice (.t 78) none (some (.c (.one (.int .i64 1))))),none,none,[],false⟩,qk 2 6 79]
def uT:L:=[qk 0 80 7,qk 1 6 80]
def Fg:SC:=(.seq (.ops Bw 0 true) (.seq (.ops Bv 0 true) (.seq (.seq (.ops Bu 0 true) (.block 0 (.loop By))) (.seq (.seq (.ops uX 0 true) (.cond (.t 70) (.ops uW 0 true) .skip)) (.seq (.seq (.ops uV 0 true) (.cond (.t 77) (.seq (.ops uU 0 true) .ret) .skip)) (.seq (.ops uT 0 true) .ret))))))
def O3:SFn:=⟨81,Fg,[.t 6]⟩

def Bm:L:=[YI 0 1 0,Ww 1 2]
def Bl:L:=[⟨0,some 10,.p (.build [(.int .i64 0),(.int .i64 0)] [(0,1,(.c (.one (.int .i64 6))))]),none,none,[],false⟩,dN 1 11 10,qk 2 3 11,kT 3 4 2]
def Bj:L:=[xM 0 12 0 1,xu 1 13 12,rU 2 14 13]
def Bi:L:=[FC 0 16 14 0,qk 1 15 16]
def Bh:L:=[xM 0 17 1 1,xu 1 18 17,rU 2 19 18,dI 3 20 19,MX 4 21 3 20,qk 5 4 21]
def Bg:L:=[qk 0 22 4,dM 1 23 22,MZ 2 24 12 23,dN 3 25 24,qk 4 3 25]
def Bf:L:=[FC 0 27 14 1,qk 1 26 27]
def Be:L:=[xM 0 28 1 1,xu 1 29 28,rU 2 30 29,dI 3 31 30,MX 4 32 1 31,xM 5 33 1 1,xu 6 34 33,Dr 7 35 34 4,rU 8 36 35,dI 9 37 36,MX 10 38 1 37,qk 11 5 32,qk 12 6 38]
def Bd:L:=[qk 0 39 5,qk 1 40 6,E7 2 41 39 40,qk 3 4 41]
def Bc:L:=[qk 0 42 5,⟨1,some 43,.p (.bin .mul (.c (.one (.int .i64 8))) (.t 42)),none,none,[],false⟩,qk 2 44 6,MQ 3 45 43 44,MZ 4 46 13 45,dN 5 47 46,qk 6 3 47]
def O2:L:=[FC 0 49 14 3,qk 1 48 49]
def O1:L:=[xM 0 50 1 1,xu 1 51 50,xM 2 52 1 1,xu 3 53 52,Dr 4 54 53 8,lC 5 55 98 51 54,qk 6 2 55]
def O0:L:=[kT 0 7 0]
def OZ:L:=[qk 0 56 7,qk 1 57 4,Qk 2 58 56 57]
def OY:L:=[⟨0,some 61,.p (.build [(.int .u8 0),(.int .u8 0)] []),none,none,[],false⟩,⟨1,some 8,.a (.alloc [(.int .u8 0),(.int .u8 0)]),none,none,[],false⟩,wO 2 2 8 61]
def OX:L:=[qk 0 62 7,xM 1 63 2 1,xu 2 64 63,j7 3 65 64,Qk 4 66 62 65]
def OW:L:=[xM 0 67 2 1,xu 1 68 67,qk 2 69 7,j9 3 70 2 68 69,yw 4 71 2 70,wO 5 2 8 71]
def OV:L:=[xM 0 72 0 1,xu 1 73 72,rU 2 74 73,FC 3 75 74 0]
def OU:L:=[qk 0 76 3,FF 1 77 0,xu 2 78 77,dI 3 79 78,FF 4 80 1,xu 5 81 80,dI 6 82 81,E7 7 83 79 82,MZ 8 84 0 83,dN 9 85 84,YS 10 86 2 16 76 85,qk 11 3 86]
def OT:L:=[qk 0 87 3,FF 1 88 0,xu 2 89 88,FF 3 90 1,xu 4 91 90,lC 5 92 98 89 91,YS 6 93 2 16 87 92,qk 7 3 93]
def OS:L:=[qk 0 59 7,kF 1 60 59,qk 2 7 60]
def F9:SC:=(.seq (.seq (.ops OZ 0 true) (.cond (.t 58) .skip (.exit 1))) (.seq (.block 2 (.seq (.ops OY 0 true) (.seq (.seq (.ops OX 0 true) (.cond (.t 66) (.ops OW 0 true) .skip)) (.seq (.ops OV 0 true) (.cond (.t 75) (.ops OU 0 true) (.ops OT 0 true)))))) (.ops OS 0 true)))
def uR:L:=[qk 0 94 3,Q1 1 95 44 94,qk 2 9 95]
def uQ:L:=[qk 0 96 9,MN 1 97 96]
def uP:L:=[xM 0 98 1 1,xu 1 99 98,⟨2,some 100,.cf 98 [(.c (.one (.int .u8 0))),(.t 99)],none,none,[],false⟩,qk 3 2 100]
def uO:L:=[qk 0 101 3,qk 1 2 101]
def Ff:SC:=(.seq (.ops Bm 0 true) (.seq (.ops Bl 0 true) (.seq (.seq (.ops Bj 0 true) (.block 0 (.seq (.ops Bi 0 true) (.cond (.t 15) (.seq (.ops Bh 0 true) (.ops Bg 0 true)) (.seq (.ops Bf 0 true) (.cond (.t 26) (.seq (.ops Be 13 true) (.seq (.ops Bd 0 true) (.ops Bc 0 true))) (.seq (.ops O2 0 true) (.cond (.t 48) (.seq (.ops O1 0 true) .ret) .skip)))))))) (.seq (.seq (.ops O0 0 true) (.block 1 (.loop F9))) (.seq (.ops uR 0 true) (.seq (.seq (.ops uQ 0 true) (.cond (.t 97) (.seq (.ops uP 0 true) .ret) .skip)) (.seq (.ops uO 0 true) .ret)))))))
def uS:SFn:=⟨102,Ff,[.t 2]⟩

def Ax:L:=[YI 0 1 0,E6 1 2,E6 2 3,E6 3 4]
def Aw:L:=[yw 0 10 4 1,Q1 1 11 102 10,MN 2 12 11]
def Av:L:=[aB 0 2 0,aB 1 3 0,aB 2 4 1]
def Au:L:=[yw 0 13 4 1,Q1 1 14 103 13,⟨2,some 5,.a (.alloc [.nils]),none,none,[],false⟩,wO 3 1 5 14]
def As:L:=[xu 0 15 5,j7 1 16 15,kT 2 17 0]
def Ar:L:=[Qk 0 18 17 16]
def Aq:L:=[qk 0 19 17,j9 1 20 1 15 17,xu 2 21 20,qk 3 6 19,qk 4 7 21]
def Ap:L:=[qk 0 22 7,xM 1 23 2 1,xu 2 24 23,lC 3 25 104 22 24,j7 4 26 25,⟨5,some 27,.p (.bin .neq (.t 26) (.c (.one (.int .i64 1)))),none,none,[],false⟩]
def Ao:L:=[qk 0 28 6,qk 1 29 6,wO 2 1 2 28,wO 3 1 3 29,aB 4 4 130]
def An:L:=[kF 0 30 17,qk 1 17 30]
def Ay:SC:=(.seq (.ops Ar 0 true) (.seq (.cond (.t 18) .skip (.exit 0)) (.seq (.block 1 (.seq (.ops Aq 0 true) (.seq (.ops Ap 0 true) (.cond (.t 27) (.seq (.ops Ao 0 true) .ret) .skip)))) (.ops An 0 true))))
def OM:L:=[xu 0 31 5,j7 1 32 31,Q1 2 33 105 32]
def f8:L:=[qk 0 8 34]
def f7:L:=[qk 0 9 35]
def OL:L:=[xu 0 36 5,qk 1 37 8,j9 2 38 1 36 37,xu 3 39 38,xu 4 40 5,qk 5 41 9,j9 6 42 1 40 41,xu 7 43 42,xM 9 45 2 1,rR 10 46 45,⟨8,some 44,.cf 106 [(.t 39),(.t 43)],none,none,[10],false⟩,rS 11 47 44 46]
def OK:L:=[qk 0 48 8,qk 1 49 9,wO 2 1 2 48,wO 3 1 3 49,aB 4 4 140]
def pN:SC:=(.block 3 (.seq (.ops OL 12 true) (.cond (.t 47) (.seq (.ops OK 0 true) .ret) .skip)))
def OJ:L:=[aB 0 2 0,aB 1 3 0,aB 2 4 0]
def Ex:SC:=(.seq (.ops Ax 0 true) (.seq (.seq (.ops Aw 0 true) (.cond (.t 12) (.seq (.ops Av 0 true) .ret) .skip)) (.seq (.ops Au 0 true) (.seq (.seq (.ops As 0 true) (.block 0 (.loop Ay))) (.seq (.seq (.ops OM 0 true) (.block 2 (.rf (.t 33) [34,35] (.seq (.ops f8 0 true) (.ops f7 0 true)) pN))) (.seq (.ops OJ 0 true) .ret))))))
def mU:SFn:=⟨50,Ex,[.cell false 1 2,.cell false 1 3,.cell false 1 4]⟩

def S6:L:=[Ww 0 4]
def SZ:L:=[qk 0 18 0,Q1 1 19 142 18,qk 2 5 19]
def u6:L:=[qk 0 20 5,Do 21 20]
def u5:L:=[qk 0 22 5,Q1 1 23 145 22,qk 2 5 23]
def gC:L:=[⟨0,some 24,.a (.mkmap),none,none,[],false⟩,qk 1 25 5,j7 2 26 25,⟨3,some 6,.a (.alloc [.nilm]),none,none,[],false⟩,E6 4 7,wO 5 1 6 24,wO 6 1 7 26]
def gB:L:=[qk 0 27 5,j7 1 28 27,kT 2 29 0]
def SY:L:=[Qk 0 30 29 28]
def SX:L:=[j9 0 31 2 27 29,yw 1 32 2 31,dK 2 9,wO 3 2 9 32]
def SW:L:=[rR 0 33 6,xM 1 34 1 9,rR 2 35 34,xu 3 36 6,xM 4 37 1 9,xu 5 38 37,Dq 6 39 36 38,xM 7 40 0 9,xu 8 41 40,⟨9,some 42,.a (.bslice 1 1 [(.int .i64 0)] [(0,1,(.t 41))]),none,(some 9),[],false⟩,⟨10,some 43,.e (.append 1 8 (.t 39) (.t 42)),none,none,[2,0],false⟩,⟨11,none,.e (.mapupd (.t 33) (.t 35) (.t 43)),none,none,[],false⟩]
def SV:L:=[kF 0 44 29,qk 1 29 44]
def K8:SC:=(.seq (.ops SY 0 true) (.seq (.cond (.t 30) .skip (.exit 0)) (.seq (.block 1 (.seq (.ops SX 0 true) (.ops SW 12 true))) (.ops SV 0 true))))
def VY:L:=[⟨0,some 45,.p (.mkfn 146 [(.t 6),(.t 7)]),none,none,[],false⟩,qk 1 10 45]
def VX:L:=[qk 0 46 1,⟨1,some 47,.p (.mm true (.t 46) (.c (.one (.int .i64 0)))),none,none,[],false⟩,⟨2,some 48,.p (.mm false (.t 47) (.c (.one (.int .i64 2000)))),none,none,[],false⟩,qk 3 1 48]
def VW:L:=[Ww 0 11]
def VV:L:=[qk 0 49 5,j7 1 50 49,kT 2 51 0]
def I9:L:=[Qk 0 52 51 50]
def I8:L:=[j9 0 53 2 49 51,yw 1 54 2 53,dK 2 13,wO 3 2 13 54]
def I7:L:=[qk 0 55 10,xM 1 56 1 13,xu 2 57 56,xM 3 58 0 13,xu 4 59 58,xM 5 60 0 13,xu 6 61 60,⟨7,some 62,.cv (.t 55) [(.t 57),(.t 59),(.t 61)],none,none,[],false⟩,qk 8 14 62]
def I6:L:=[qk 0 63 14,j7 1 64 63,FE 2 65 64 0]
def I5:L:=[kT 0 15 0]
def I4:L:=[qk 0 66 15,qk 1 67 14,j7 2 68 67,Qk 3 69 66 68,qk 4 70 69,Ql 5 71 7 70,⟨6,some 72,.p (.bin .gtr (.t 71) (.c (.one (.int .i64 0)))),(some (70,true)),none,[],false⟩,Q3 7 73 70 72]
def I3:L:=[qk 0 76 14,qk 1 77 15,j9 2 78 2 76 77,yw 3 79 2 78,dK 4 16,wO 5 2 16 79]
def I2:L:=[qk 0 80 1,⟨1,some 81,.p (.neg (.t 80)),none,none,[],false⟩,qk 2 17 81]
def I1:L:=[qk 0 82 17,qk 1 83 1,rS 2 84 82 83]
def I0:L:=[qk 0 87 14,qk 1 88 10,xM 2 89 1 16,xu 3 90 89,qk 4 91 17,MQ 5 92 90 91,xM 6 93 0 16,xu 7 94 93,qk 8 95 1,dJ 9 96 94 95,xM 10 97 0 16,xu 11 98 97,qk 12 99 1,MQ 13 100 98 99,⟨14,some 101,.cv (.t 88) [(.t 92),(.t 96),(.t 100)],none,none,[],false⟩,YS 15 102 2 16 87 101,qk 16 14 102]
def IZ:L:=[qk 0 85 17,kF 1 86 85,qk 2 17 86]
def S8:SC:=MY I1 84 6 7 I0 0 IZ
def IY:L:=[qk 0 74 15,kF 1 75 74,qk 2 15 75]
def S7:SC:=(.seq (.seq (.ops I4 0 true) (.cond (.t 73) .skip (.exit 4))) (.seq (.block 5 (.seq (.ops I3 0 true) (.seq (.ops I2 0 true) (.block 6 (.loop S8))))) (.ops IY 0 true)))
def m6:L:=[qk 0 103 14,Do 104 103]
def m5:L:=[qk 0 105 11,qk 1 106 14,⟨2,some 107,.a (.bslice 1 1 [.nils] [(0,1,(.t 106))]),none,none,[],false⟩,YS 3 108 1 24 105 107,qk 4 11 108]
def IX:L:=[kF 0 109 51,qk 1 51 109]
def gD:SC:=(.seq (.ops I9 0 true) (.seq (.cond (.t 52) .skip (.exit 2)) (.seq (.block 3 (.seq (.ops I8 0 true) (.seq (.ops I7 0 true) (.seq (.seq (.ops I6 0 true) (.cond (.t 65) (.exit 3) .skip)) (.seq (.seq (.ops I5 0 true) (.block 4 (.loop S7))) (.seq (.ops m6 0 true) (.ops m5 0 true))))))) (.ops IX 0 true))))
def VU:L:=[qk 0 110 11,qk 1 4 110]
def Cj:SC:=(.seq (.ops S6 0 true) (.seq (.ops SZ 0 true) (.seq (.ops u6 0 true) (.seq (.ops u5 0 true) (.seq (.ops gC 0 true) (.seq (.seq (.ops gB 0 true) (.block 0 (.loop K8))) (.seq (.ops VY 0 true) (.seq (.ops VX 0 true) (.seq (.ops VW 0 true) (.seq (.seq (.ops VV 0 true) (.block 2 (.loop gD))) (.seq (.ops VU 0 true) .ret)))))))))))
def Kb:SFn:=⟨111,Cj,[.t 4]⟩

def SP:L:=[YI 0 1 0,Ww 1 2]
def SO:L:=[yw 0 12 3 1,Q1 1 13 140 12,MN 2 14 13]
def SN:L:=[Ww 0 2]
def SM:L:=[xM 0 15 0 1,xu 1 16 15]
def SL:L:=[FE 0 18 16 1,qk 1 17 18]
def SK:L:=[xM 0 19 2 1,xu 1 20 19,MW 2 21 20,yw 3 22 2 21,dN 4 23 22,qk 5 2 23]
def SJ:L:=[FE 0 25 16 2,qk 1 24 25]
def SI:L:=[xM 0 26 2 1,xu 1 27 26,Q1 2 28 184 27,Q1 3 29 183 28,qk 4 2 29]
def SH:L:=[xM 0 30 2 1,xu 1 31 30,Q1 2 32 185 31,qk 3 3 32]
def SG:L:=[xM 0 33 2 1,xu 1 34 33,MW 2 35 34,yw 3 36 2 35,xM 4 37 2 1,rR 5 38 37,MW 6 39 38,⟨7,some 40,.l (.load true 2 (.t 39)),none,none,[],true⟩,Dt 8 4,Dt 9 5,⟨10,none,.e (.store 2 (.t 4) (.t 36)),none,none,[7,5],false⟩,wO 11 2 5 40]
def IW:L:=[xM 0 41 2 1,xu 1 42 41,j7 2 43 42,kT 3 44 0]
def IV:L:=[Qk 0 45 44 43]
def IU:L:=[j9 0 46 2 42 44,yw 1 47 2 46,dK 2 7,wO 3 2 7 47]
def IT:L:=[xM 0 48 0 4,xu 1 49 48,xM 2 50 0 7,xu 3 51 50,MP 4 52 49 51,xM 5 53 1 4,xu 6 54 53,xM 7 55 1 7,xu 8 56 55,MP 9 57 54 56,FH 10 58 52 57,wO 11 2 4 58]
def IS:L:=[xM 0 59 0 5,xu 1 60 59,xM 2 61 0 7,xu 3 62 61,MO 4 63 60 62,xM 5 64 1 5,xu 6 65 64,xM 7 66 1 7,xu 8 67 66,MO 9 68 65 67,FH 10 69 63 68,wO 11 2 5 69]
def IR:L:=[kF 0 70 44,qk 1 44 70]
def SU:SC:=(.seq (.ops IV 0 true) (.seq (.cond (.t 45) .skip (.exit 1)) (.seq (.block 2 (.seq (.ops IU 0 true) (.seq (.ops IT 0 true) (.ops IS 0 true)))) (.ops IR 0 true))))
def IQ:L:=[xM 0 71 1 1,xu 1 72 71,Q1 2 73 186 72,qk 3 8 73]
def IP:L:=[xM 0 74 1 4,xu 1 75 74,qk 2 9 75]
def IO:L:=[qk 0 76 9,xM 1 77 1 5,xu 2 78 77,rS 3 79 76 78]
def IN:L:=[xM 0 82 0 4,xu 1 83 82,qk 2 10 83]
def IM:L:=[qk 0 84 10,xM 1 85 0 5,xu 2 86 85,rS 3 87 84 86]
def IL:L:=[qk 0 90 10,qk 1 91 9,FH 2 92 90 91,dK 3 11,wO 4 2 11 92]
def IK:L:=[qk 0 93 8,yw 1 94 2 11,⟨2,some 95,.cv (.t 93) [(.t 94)],none,none,[],false⟩,qk 3 96 95,Q2 4 97 2 1 96,Ql 5 98 97 96,MT 6 99 11 96,⟨7,some 100,.cf 187 [(.t 98),(.t 99)],(some (96,true)),none,[],false⟩,Q3 8 101 96 100]
end Go.Ah
