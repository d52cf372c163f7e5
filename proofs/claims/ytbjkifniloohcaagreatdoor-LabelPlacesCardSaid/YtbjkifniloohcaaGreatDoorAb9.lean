/- Contracts of functions of the program over the abstract semantics. -/
import Derived.Test.YtbjkifniloohcaaGreatDoorAb8
import Derived.Below
import Derived.ChangeSame
import Derived.RowKit
import Derived.Carry
set_option linter.unusedVariables false
set_option linter.unusedSimpArgs false
namespace Go.Ab
section
variable {X : Type} {enc : TypeId × Value -> X} {P : Program} {G : Nat} {w : World} {base : Nat} {held : Bool}
def argV (T : Ty) (l : List C) : V :=
 match T with
 | .agg _ => .agg l
 | _ => match l with
  | [c] => .one c
  | _ => .undef
theorem arg_ok {n : Nat} {t : TypeId} {T : Ty} (hd : desc P n t = some T) {v : Value} {d : DataW X} {ps : List MemPlace} {r : Reach} {b0 : Nat} (ht : DataW.Trod enc P w base (fun _ => true) held t v d ps) (hv : Value.okWide P w r b0 t v)
  {μ : Nat -> Pl} {K : Nat -> Prop} {H : Hp} (hR : Rel G μ K H w) (hN : NoMut H) : ∃ l H' μ' K', lay T [d] H = some (l, H') /\ Rel G μ' K' H' w /\ RV μ' K' (argV T l) v /\ Gr μ K H μ' K' H' := by
 obtain ⟨fuel, hf⟩ := ht
 obtain ⟨hok, hsz⟩ := lay_ok (enc := enc) (G := G) (w := w) (base := base) (held := held) n t T hd
 obtain ⟨hlen, l, H', μ', K', e1, R1, a1, g1⟩ := hok hf hR hN
 refine ⟨l, H', μ', K', e1, R1, ?_, g1⟩
 have hone : (∀ cs, v ≠ .agg cs) -> T.sz = 1 -> (∀ r, T ≠ .agg r) -> RV μ' K' (argV T l) v := by
  intro hna h1 hT
  have hc : v.cells = #[v] := by
   cases v <;> first|rfl|exact absurd rfl (hna _)
  rw [hc] at a1
  have hl : l.length = 1 := by rw [a1.len]; rfl
  match l, hl with
  | [c], _ =>
   have : argV T [c] = .one c := by
    cases T <;> first|rfl|exact absurd rfl (hT _)
   rw [this]
   exact a1.1
 cases n with
 | zero => cases hd
 | succ n =>
  simp only [desc, chk] at hd
  split at hd
  ·rename_i T0 hT0
   split at hd
   ·obtain rfl := Option.some.inj hd
    have hagg : ∀ r, T0 = .agg r -> (∃ cs, v = .agg cs) -> RV μ' K' (argV T0 l) v := by
     rintro r rfl ⟨cs, rfl⟩
     exact ⟨cs.toList, by simp, a1⟩
    split at hT0
    ·rename_i hu
     obtain rfl := Option.some.inj hT0
     refine hone (fun cs e => ?_) rfl (fun r => by simp)
     subst e; simp [Value.okWide, hu, Cell.okWide, Cell.ok] at hv
    ·rename_i k hu
     obtain rfl := Option.some.inj hT0
     refine hone (fun cs e => ?_) rfl (fun r => by simp)
     subst e; simp [Value.okWide, hu, Cell.okWide, Cell.ok] at hv
    ·rename_i hu
     obtain rfl := Option.some.inj hT0
     refine hone (fun cs e => ?_) rfl (fun r => by simp)
     subst e; simp [Value.okWide, hu, Cell.okWide, Cell.ok] at hv
    ·rename_i e hu
     split at hT0
     ·split at hT0
      ·obtain rfl := Option.some.inj hT0
       refine hone (fun cs e => ?_) rfl (fun r => by simp)
       subst e; simp [Value.okWide, hu, Cell.okWide, Cell.ok] at hv
      ·cases hT0
     ·cases hT0
    ·rename_i fs hu
     split at hT0
     ·obtain rfl := Option.some.inj hT0
      simp only [Value.okWide, hu] at hv
      obtain ⟨cs, h1, _⟩ := hv
      exact hagg _ rfl ⟨cs, h1⟩
     ·cases hT0
    ·rename_i k e hu
     split at hT0
     ·obtain rfl := Option.some.inj hT0
      simp only [Value.okWide, hu] at hv
      obtain ⟨cs, h1, _⟩ := hv
      exact hagg _ rfl ⟨cs, h1⟩
     ·cases hT0
    ·cases hT0
   ·cases hd
  ·cases hd
def descs (P : Program) (n : Nat) : List TypeId -> Option (List Ty)
 | [] => some []
 | t :: ts => match desc P n t with
  | some a => match descs P n ts with
   | some l => some (a :: l)
   | none => none
  | none => none
def layArgs : List Ty -> List (DataW X) -> Hp -> Option (List V × Hp)
 | [], [], H => some ([], H)
 | t :: ts, d :: ds, H => match lay t [d] H with
  | some (l, H1) => match layArgs ts ds H1 with
   | some (vs, H2) => some (argV t l :: vs, H2)
   | none => none
  | none => none
 | _, _, _ => none
theorem args_ok {n : Nat} {r : Reach} {b0 : Nat} : ∀ {ts : List TypeId} {Ts : List Ty} {vs : List Value} {ds : List (DataW X)} {ps : List MemPlace} {μ : Nat -> Pl} {K : Nat -> Prop} {H : Hp}, descs P n ts = some Ts ->
  DataW.TrodAll enc P w base (fun _ => true) held ts vs ds ps -> (∀ (j : Nat) t v, ts[j]? = some t -> vs[j]? = some v -> Value.okWide P w r b0 t v) -> Rel G μ K H w -> NoMut H ->
  ∃ avs H' μ' K', layArgs Ts ds H = some (avs, H') /\ Rel G μ' K' H' w /\ All2 (RV μ' K') avs vs /\ Gr μ K H μ' K' H'
 | [], Ts, [], [], ps, μ, K, H, hd, _, _, hR, hN => by
  simp only [descs, Option.some.injEq] at hd
  subst hd
  exact ⟨[], H, μ, K, rfl, hR, trivial, Gr.refl _ _ _⟩
 | t :: ts, Ts, v :: vs, d :: ds, ps, μ, K, H, hd, ht, hv, hR, hN => by
  simp only [descs] at hd
  cases h1 : desc P n t with
  | none => simp [h1] at hd
  | some a =>
   simp only [h1] at hd
   cases h2 : descs P n ts with
   | none => simp [h2] at hd
   | some l =>
    simp only [h2, Option.some.injEq] at hd
    subst hd
    obtain ⟨p, q, g1, g2, _⟩ := ht
    obtain ⟨l1, H1, μ1, K1, e1, R1, a1, gr1⟩ := arg_ok h1 g1 (hv 0 t v rfl rfl) hR hN
    obtain ⟨avs, H2, μ2, K2, e2, R2, a2, gr2⟩ := args_ok h2 g2 (fun j t v hj hj' => hv (j + 1) t v (by simpa using hj) (by simpa using hj')) R1 (gr1.noMut hN)
    exact ⟨argV a l1 :: avs, H2, μ2, K2, by simp [layArgs, e1, e2], R2, ⟨a1.mono gr2.kk gr2.mu, a2⟩, gr1.trans gr2⟩
 | [], _, _ :: _, _, _, _, _, _, _, ht, _, _, _ => by cases ht
 | [], _, [], _ :: _, _, _, _, _, _, ht, _, _, _ => by cases ht
 | _ :: _, _, [], _, _, _, _, _, _, ht, _, _, _ => by cases ht
 | _ :: _, _, _ :: _, [], _, _, _, _, _, ht, _, _, _ => by cases ht
def layLaid (P : Program) (n G : Nat) : List (String × DataW Unit) -> Hp -> Hp
 | [], H => H
 | (s, d) :: r, H => match P.globalNamed s with
  | none => layLaid P n G r H
  | some g => match (P.globals[g]?).map (·.type) with
   | none => layLaid P n G r H
   | some t => match desc P n t with
    | none => layLaid P n G r H
    | some T => match lay T [d] H with
     | none => layLaid P n G r H
     | some (l, H') => if g < G then layLaid P n G r (H'.add g (.row l.length l .lf false)) else layLaid P n G r H
def szOf (w : World) (g : Nat) : Nat :=
 match w.heap[g]? with
 | some (.cells cs _ _) => cs.size
 | _ => 0
theorem laid_ok {n : Nat} : ∀ {laid : List (String × DataW Unit)} {ps : List MemPlace} {μ : Nat -> Pl} {K : Nat -> Prop} {H : Hp}, DataW.LaidVars P w laid ps -> Rel G μ K H w -> NoMut H -> (∀ g, g < G -> μ g = ⟨g, 0, szOf w g⟩) ->
  ∃ μ' K', Rel G μ' K' (layLaid P n G laid H) w /\ NoMut (layLaid P n G laid H)
 | [], _, μ, K, H, _, hR, hN, _ => ⟨μ, K, hR, hN⟩
 | (s, d) :: r, ps, μ, K, H, hl, hR, hN, hg => by
  obtain ⟨g, t, cs, fuel, p, q, h1, h2, h3, h4, h5, _⟩ := hl
  simp only [layLaid, h1, h2]
  cases hd : desc P n t with
  | none => exact laid_ok h5 hR hN hg
  | some T =>
   obtain ⟨hok, hsz⟩ := lay_ok (enc := fun _ => ()) (G := G) (w := w) (base := 0) (held := false) n t T hd
   obtain ⟨hlen, l, H', μ', K', e1, R1, a1, g1⟩ := hok h4 hR hN
   simp only [e1]
   split
   ·rename_i hgG
    have hN1 := g1.noMut hN
    have hKg := (R1.glob g hgG).1
    have hmu : ∀ g, g < G -> μ' g = ⟨g, 0, szOf w g⟩ := fun g hg' => by rw [g1.mu g (hR.glob g hg').1]; exact hg g hg'
    have hN2 : NoMut (H'.add g (.row l.length l .lf false)) := fun b bk hb => by
     rw [Hp.get_add] at hb
     split at hb
     ·obtain rfl := Option.some.inj hb; rfl
     ·exact hN1 b bk hb
    refine laid_ok h5 (μ := μ') (K := K') ⟨fun b bk hb => ?_, R1.lt, fun b bk hb => ?_, fun b b' bk bk' hb _ hm => ?_, R1.glob⟩ hN2 hmu
    ·rw [Hp.get_add] at hb
     split at hb
     ·rename_i e; rw [e]; exact hKg
     ·exact R1.dom b bk hb
    ·rw [Hp.get_add] at hb
     split at hb
     ·rename_i e
      subst e
      obtain rfl := Option.some.inj hb
      rw [hmu _ hgG]
      unfold World.var? at h3
      rw [h1] at h3
      simp only [Option.bind_some] at h3
      split at h3
      ·rename_i c ty fz hc
       obtain rfl := Option.some.inj h3
       refine ⟨c, ty, fz, hc, by simp [szOf, hc], by simp [a1.len], fun h => (by cases h), fun i x hx => ?_⟩
       simp only [B.cell] at hx
       split at hx
       ·rename_i hi
        simp only [Ab.T.get_lf, Option.getD_none, Nat.mod_eq_of_lt hi, List.getD_eq_getElem?_getD, List.getElem?_eq_getElem hi, Option.getD_some, Option.some.injEq] at hx
        obtain ⟨y, hy, hr⟩ := a1.at i x (by rw [List.getElem?_eq_getElem hi, hx])
        exact ⟨y, by simpa using hy, hr⟩
       ·cases hx
      ·cases h3
     ·exact R1.blk b bk hb
    ·rw [hN2 b bk hb] at hm; cases hm
   ·exact laid_ok h5 hR hN hg
theorem start_rel (w : World) : Rel G (fun g => ⟨g, 0, szOf w g⟩) (fun b => b < G) ⟨.lf, G⟩ w :=
 ⟨fun _ _ h => (by cases h), fun _ h => h, fun _ _ h => (by cases h), fun _ _ _ _ h => (by cases h), fun _ hg => ⟨hg, rfl, rfl⟩⟩
end
def Ty.den : Ty -> Type
 | .bool => Bool
 | .int _ => Int
 | .str => ByteArray
 | .slice e => List e.den
 | .unit => Unit
 | .pair a b => a.den × b.den
 | .agg r => r.den
def RL {α : Type} (f : α -> List C -> Prop) : List α -> List C -> Prop
 | [], cs => cs = []
 | x :: xs, cs => ∃ a b, cs = a ++ b /\ f x a /\ RL f xs b
def Ty.R (H : Hp) : (t : Ty) -> t.den -> List C -> Prop
 | .bool, x, l => l = [.bool x]
 | .int k, x, l => l = [.int k x] /\ (Lit.int k x).wf = true
 | .str, x, l => l = [.str x]
 | .slice e, x, l => (l = [.nils] /\ List.length x = 0) \/ ∃ b cs, l = [.slc b 0 (List.length x) (List.length x) e.sz false] /\ List.length x <= 9223372036854775807 /\ H.loads b 0 (List.length x * e.sz) = some cs /\ RL (Ty.R H e) x cs
 | .unit, _, l => l = []
 | .pair a b, x, l => ∃ l1 l2, l = l1 ++ l2 /\ Ty.R H a (Prod.fst x) l1 /\ Ty.R H b (Prod.snd x) l2
 | .agg r, x, l => Ty.R H r x l
theorem RL.mono {α : Type} {f g : α -> List C -> Prop} (h : ∀ x l, f x l -> g x l) : ∀ {xs : List α} {cs : List C}, RL f xs cs -> RL g xs cs
 | [], _, hh => hh
 | _ :: _, _, ⟨a, b, e, h1, h2⟩ => ⟨a, b, e, h _ _ h1, RL.mono h h2⟩
theorem RL.len {α : Type} {f : α -> List C -> Prop} {c : Nat} (h : ∀ x l, f x l -> l.length = c) : ∀ {xs : List α} {cs : List C}, RL f xs cs -> cs.length = xs.length * c
 | [], _, hh => by cases hh; simp
 | _ :: xs, _, ⟨a, b, e, h1, h2⟩ => by
  subst e
  rw [List.length_append, h _ _ h1, RL.len h h2, List.length_cons, Nat.add_mul]; omega
theorem Ty.R_le {H H' : Hp} (h : Le H H') : ∀ (t : Ty) (x : t.den) (l : List C), t.R H x l -> t.R H' x l
 | .bool, _, _, hh => hh
 | .int _, _, _, hh => hh
 | .str, _, _, hh => hh
 | .slice e, x, l, hh => by
  rcases hh with hh|⟨b, cs, h1, h0, h2, h3⟩
  ·exact .inl hh
  ·exact .inr ⟨b, cs, h1, h0, h.loads h2, h3.mono (Ty.R_le h e)⟩
 | .unit, _, _, hh => hh
 | .pair a b, x, l, ⟨l1, l2, e, h1, h2⟩ => ⟨l1, l2, e, Ty.R_le h a _ _ h1, Ty.R_le h b _ _ h2⟩
 | .agg r, x, l, hh => Ty.R_le h r x l hh
theorem Ty.R_len {H : Hp} : ∀ (t : Ty) (x : t.den) (l : List C), t.R H x l -> l.length = t.sz
 | .bool, _, _, hh => by cases hh; rfl
 | .int _, _, _, hh => by cases hh.1; rfl
 | .str, _, _, hh => by cases hh; rfl
 | .slice e, x, l, hh => by
  rcases hh with hh|⟨b, cs, h1, _⟩
  ·rw [hh.1]; rfl
  ·rw [h1]; rfl
 | .unit, _, _, hh => by cases hh; rfl
 | .pair a b, x, l, ⟨l1, l2, e, h1, h2⟩ => by subst e; rw [List.length_append, Ty.R_len a _ _ h1, Ty.R_len b _ _ h2]; rfl
 | .agg r, x, l, hh => Ty.R_len r x l hh
section
variable {X : Type}
theorem layL_dec {e : Ty} (he : ∀ {ds : List (DataW X)} {H H' : Hp} {l : List C}, WF H -> lay e ds H = some (l, H') -> WF H' /\ Ext H H' /\ ∃ x : e.den, e.R H' x l) : ∀ {es : List (DataW X)} {H H' : Hp} {cs : List C}, WF H -> layL (fun d H => lay e [d] H) es H = some (cs, H') ->
  WF H' /\ Ext H H' /\ ∃ xs : List e.den, xs.length = es.length /\ RL (e.R H') xs cs
 | [], H, H', cs, hw, h => by
  simp only [layL, Option.some.injEq, Prod.mk.injEq] at h
  obtain ⟨rfl, rfl⟩ := h
  exact ⟨hw, Ext.refl _, [], rfl, rfl⟩
 | d :: es, H, H', cs, hw, h => by
  simp only [layL] at h
  cases h1 : lay e [d] H with
  | none => simp [h1] at h
  | some x =>
   obtain ⟨l, H1⟩ := x
   simp only [h1] at h
   cases h2 : layL (fun d H => lay e [d] H) es H1 with
   | none => simp [h2] at h
   | some y =>
    obtain ⟨l', H2⟩ := y
    simp only [h2, Option.some.injEq, Prod.mk.injEq] at h
    obtain ⟨rfl, rfl⟩ := h
    obtain ⟨w1, e1, x1, r1⟩ := he hw h1
    obtain ⟨w2, e2, xs, hl, r2⟩ := layL_dec he w1 h2
    exact ⟨w2, e1.trans e2, x1 :: xs, by simp [hl], l, l', rfl, Ty.R_le e2.le _ _ _ r1, r2⟩
theorem lay_dec : ∀ (t : Ty) {ds : List (DataW X)} {H H' : Hp} {l : List C}, WF H -> lay t ds H = some (l, H') -> WF H' /\ Ext H H' /\ ∃ x : t.den, t.R H' x l
 | .bool, ds, H, H', l, hw, h => by
  unfold lay at h
  split at h <;> first|(cases h; done)|skip
  all_goals simp_all
  obtain ⟨rfl, rfl⟩ := h
  exact ⟨Ext.refl _, _, rfl⟩
 | .int k, ds, H, H', l, hw, h => by
  unfold lay at h
  split at h <;> first|(cases h; done)|skip
  all_goals simp_all
  rename_i e0
  subst e0
  obtain ⟨hwf, rfl, rfl⟩ := h
  exact ⟨Ext.refl _, _, rfl, hwf.2⟩
 | .str, ds, H, H', l, hw, h => by
  unfold lay at h
  split at h <;> first|(cases h; done)|skip
  all_goals simp_all
  obtain ⟨rfl, rfl⟩ := h
  exact ⟨Ext.refl _, _, rfl⟩
 | .slice e, ds, H, H', l, hw, h => by
  have he : ∀ {ds : List (DataW X)} {H H' : Hp} {l : List C}, WF H -> lay e ds H = some (l, H') -> WF H' /\ Ext H H' /\ ∃ x : e.den, e.R H' x l := fun hw h => lay_dec e hw h
  unfold lay at h
  split at h <;> first|(cases h; done)|skip
  all_goals first|(rename_i e0; obtain rfl := Ty.slice.inj e0)|(simp at *; done)
  ·obtain ⟨rfl, rfl⟩ := Prod.mk.inj (Option.some.inj h)
   exact ⟨hw, Ext.refl _, ([] : List e.den), .inl ⟨rfl, rfl⟩⟩
  ·rename_i es sp
   split at h
   case isFalse => cases h
   case isTrue hbd =>
   split at h
   case h_2 => cases h
   case h_1 cs H1 h1 =>
    simp only [Option.some.injEq] at h
    obtain ⟨w1, e1, xs, hl, r1⟩ := layL_dec he hw h1
    have hcl : cs.length = xs.length * e.sz := RL.len (Ty.R_len e) r1
    cases hcs : cs with
    | nil =>
     rw [hcs] at h r1
     obtain ⟨rfl, rfl⟩ := Prod.mk.inj h
     exact ⟨w1.skip 1, e1.skip 1, ([] : List e.den), .inr ⟨_, [], rfl, Nat.zero_le _, by simp [Hp.loads], rfl⟩⟩
    | cons c cr =>
     have e2 : newSl e.sz es.length cs H1 = ([.slc H1.nx 0 es.length es.length e.sz false], H1.push (.row cs.length cs .lf false)) := by rw [hcs]; rfl
     rw [e2] at h
     obtain ⟨rfl, rfl⟩ := Prod.mk.inj h
     refine ⟨w1.push _, Ext.push w1 e1 _, xs, .inr ⟨H1.nx, cs, by rw [hl], by rw [hl]; exact hbd, ?_, r1.mono (Ty.R_le (Ext.push w1 (Ext.refl _) _).le e)⟩⟩
     rw [<- hcl]
     exact loads_row (rw := false) (by rw [Hp.get_push, if_pos rfl])
 | .unit, ds, H, H', l, hw, h => by
  unfold lay at h
  split at h <;> first|(cases h; done)|skip
  all_goals simp_all
  obtain ⟨rfl, rfl⟩ := h
  exact ⟨Ext.refl _, (), rfl⟩
 | .pair a b, ds, H, H', l, hw, h => by
  cases ds with
  | nil => simp [lay] at h
  | cons d ds =>
   simp only [lay] at h
   cases h1 : lay a [d] H with
   | none => simp [h1] at h
   | some x =>
    obtain ⟨l1, H1⟩ := x
    simp only [h1] at h
    cases h2 : lay b ds H1 with
    | none => simp [h2] at h
    | some y =>
     obtain ⟨l', H2⟩ := y
     simp only [h2, Option.some.injEq, Prod.mk.injEq] at h
     obtain ⟨rfl, rfl⟩ := h
     obtain ⟨w1, e1, x1, r1⟩ := lay_dec a hw h1
     obtain ⟨w2, e2, x2, r2⟩ := lay_dec b w1 h2
     exact ⟨w2, e1.trans e2, (x1, x2), l1, l', rfl, Ty.R_le e2.le _ _ _ r1, r2⟩
 | .agg r, ds, H, H', l, hw, h => by
  unfold lay at h
  split at h <;> first|(cases h; done)|skip
  all_goals first|(rename_i e0; obtain rfl := Ty.agg.inj e0)|(simp at *; done)
  exact lay_dec r hw h
end
end Go.Ab

namespace Go.Ab
open Go.RowKit Go.WideShapes Go.ChangeShapes
section
variable {X : Type} {enc : TypeId × Value -> X} {P : Program} {G : Nat}
def denL : List Ty -> Type
 | [] => Unit
 | t :: ts => t.den × denL ts
def RA (H : Hp) : (ts : List Ty) -> denL ts -> List V -> Prop
 | [], _, vs => vs = []
 | t :: ts, x, vs => ∃ l vs', vs = argV t l :: vs' /\ t.R H (Prod.fst x) l /\ RA H ts (Prod.snd x) vs'
theorem layArgs_dec : ∀ {ts : List Ty} {ds : List (DataW X)} {H H' : Hp} {vs : List V}, WF H -> layArgs ts ds H = some (vs, H') -> WF H' /\ Ext H H' /\ ∃ x : denL ts, RA H' ts x vs
 | [], [], H, H', vs, hw, h => by
  simp only [layArgs, Option.some.injEq, Prod.mk.injEq] at h
  obtain ⟨rfl, rfl⟩ := h
  exact ⟨hw, Ext.refl _, (), rfl⟩
 | t :: ts, d :: ds, H, H', vs, hw, h => by
  simp only [layArgs] at h
  split at h
  case h_2 => cases h
  case h_1 l H1 h1 =>
   split at h
   case h_2 => cases h
   case h_1 vs' H2 h2 =>
    obtain ⟨rfl, rfl⟩ := Prod.mk.inj (Option.some.inj h)
    obtain ⟨w1, e1, x1, r1⟩ := lay_dec t hw h1
    obtain ⟨w2, e2, x2, r2⟩ := layArgs_dec w1 h2
    exact ⟨w2, e1.trans e2, (x1, x2), l, vs', rfl, Ty.R_le e2.le _ _ _ r1, r2⟩
 | [], _ :: _, _, _, _, _, h => by simp [layArgs] at h
 | _ :: _, [], _, _, _, _, h => by simp [layArgs] at h
theorem trodAll_stays {W W' : World} (hl : laidOutB P = true) (hb : Below W.heap.size W W') {sp : Nat -> Bool} : ∀ {ts : List TypeId} {vs : List Value} {ds : List (DataW X)} {ps : List MemPlace}, (ts.all fun t => P.readableRec t && decide (t < P.types.size)) = true ->
  DataW.TrodAll enc P W 0 (fun _ => true) true ts vs ds ps -> (∀ p ∈ ps, p.block < W.heap.size /\ sp p.block = true) -> DataW.TrodAll enc P W' 0 sp true ts vs ds ps
 | [], [], [], _, _, h, _ => h
 | t :: ts, v :: vs, d :: ds, ps, hr, h, hp => by
  obtain ⟨p, q, h1, h2, rfl⟩ := h
  simp only [List.all_cons, Bool.and_eq_true, decide_eq_true_eq] at hr
  refine ⟨p, q, WideElems.Trod_stays hl hr.1.1 hr.1.2 h1 (fun x hx => hb.same (hp x (by simp [hx])).1) (fun x hx => (hp x (by simp [hx])).2), trodAll_stays hl hb (by simpa using hr.2) h2 (fun x hx => hp x (by simp [hx])), rfl⟩
 | [], _ :: _, _, _, _, h, _ => by cases h
 | [], [], _ :: _, _, _, h, _ => by cases h
 | _ :: _, [], _, _, _, h, _ => by cases h
 | _ :: _, _ :: _, [], _, _, h, _ => by cases h
theorem law_contract {f : FuncId} {fn : Func} {s : ChangeSpec} {laid : List (String × DataW Unit)} {n : Nat} {Ts : List Ty} {H0 : Hp} {tb : TypeId} {r : Reach}
  (hl : laidOutB P = true) (hrd : (fn.params.toList.all fun t => P.readableRec t && decide (t < P.types.size)) = true) (hds : descs P n fn.params.toList = some Ts) (hvars : s.vars = []) (hres : fn.resultTypes = #[tb]) (htb : P.underlying tb = some .bool)
  (hspec : ∀ ds : List (DataW X), ds.length = fn.params.toList.length -> s.fn X ds = { results := [.lit (.bool true)], args := ds })
  (hH0 : layLaid P n G laid ⟨.lf, G⟩ = H0)
  (W : World) (base : Nat) (args : Array Value) (ds gs : List (DataW X)) (before : List MemPlace)
  (hlaw : ∀ (H : Hp) (x : denL Ts) (vs : List V), WF H -> Ext H0 H -> NoMut H -> RA H Ts x vs -> layArgs Ts ds H0 = some (vs, H) -> ACalls P G f vs H fun v _ => v = .bool true)
  (hval : ∀ (j : Nat) t v, fn.params[j]? = some t -> args[j]? = some v -> Value.okWide P W r base t v)
  (hW : DataW.Whole enc P fn.params.toList s.vars false W args.toList ds gs before) (hL : laidMet P laid W) :
  Calls P f args W fun e W' => ∃ v, e = .returned v /\ s.post enc P fn false true false false W args v W' := by
 have hW0 := hW
 obtain ⟨p, q, hA, hV, rfl, hfz, hnd⟩ := hW
 rw [hvars] at hV
 obtain ⟨rfl, rfl⟩ := trodVars_none hV
 obtain ⟨ps, hlv, _⟩ := hL
 obtain ⟨μ1, K1, R1, N1⟩ := laid_ok (n := n) hlv (start_rel (G := G) W) (fun _ _ h => by cases h) (fun _ _ => rfl)
 rw [hH0] at R1 N1
 obtain ⟨avs, H, μ2, K2, e2, R2, a2, g2⟩ := args_ok hds hA (fun j t v hj hj' => hval j t v (by simpa using hj) (by simpa using hj')) R1 N1
 obtain ⟨w2, x2, x, rx⟩ := layArgs_dec R1.lt' e2
 have N2 := g2.noMut N1
 have hlen : ds.length = fn.params.toList.length := by
  have : ∀ {ts : List TypeId} {vs : List Value} {ds : List (DataW X)} {ps : List MemPlace}, DataW.TrodAll enc P W 0 (fun _ => true) true ts vs ds ps -> ds.length = ts.length := by
   intro ts
   induction ts with
   | nil => intro vs ds ps h; cases vs <;> cases ds <;> simp_all [DataW.TrodAll]
   | cons t ts ih =>
    intro vs ds ps h
    cases vs with
    | nil => cases h
    | cons v vs =>
     cases ds with
     | nil => cases h
     | cons d ds => obtain ⟨_, _, _, h2, _⟩ := h; simp [ih h2]
  exact this hA
 have key := hlaw H x avs w2 x2 N2 rx e2 μ2 K2 W args.toList R2 a2
 rw [Array.toArray_toList] at key
 refine key.mono ?_
 rintro e W' ⟨y, rfl, v, H', μ', K', rfl, h2, h3, h4⟩
 obtain rfl : y = .bool true := h2
 have hb : Below W.heap.size W W' := ⟨h4.same.1, h4.same.2.1, h4.same.2.2.1, h4.size, fun k hk => h4.keep k hk fun b bk hb hm => by rw [N2 b bk hb] at hm; cases hm⟩
 have hlt : ∀ x ∈ p, x.block < W.heap.size := fun x hx => hW0.lt x (by simp [hx])
 have hsp := hspec ds hlen
 refine ⟨_, rfl, ds, [], p ++ [], [], p, [], hW0, ?_, ?_, ?_, World.keptBut_mono (fun z hz => ⟨hz, .inr (.inl (by simpa using hz))⟩) (hb.frame (· ∈ p ++ [])), fun h => (by cases h)⟩
 ·rw [List.append_nil, hsp, hres]
  exact ⟨[], [], shut_bool htb true, rfl, rfl⟩
 ·rw [List.append_nil, hsp]
  exact trodAll_stays hl hb hrd hA fun z hz => ⟨hlt z hz, by simpa using hlt z hz⟩
 ·rw [List.append_nil, hsp, hvars]
  rfl
end
end Go.Ab

namespace Go.Ab
def Ty.fd : (t : Ty) -> t.den -> List FD
 | .bool, x => [.c (.bool x)]
 | .int k, x => [.c (.int k x)]
 | .str, x => [.c (.str x)]
 | .slice e, x => [.sl e.sz (List.length x) (List.flatMap (Ty.fd e) x)]
 | .unit, _ => []
 | .pair a b, x => Ty.fd a (Prod.fst x) ++ Ty.fd b (Prod.snd x)
 | .agg r, x => Ty.fd r x
def Ty.okD : (t : Ty) -> t.den -> Prop
 | .bool, _ => True
 | .int k, x => (Lit.int k x).wf = true
 | .str, _ => True
 | .slice e, x => (∀ y, List.Mem y x -> Ty.okD e y) /\ List.length x <= 9223372036854775807
 | .unit, _ => True
 | .pair a b, x => Ty.okD a (Prod.fst x) /\ Ty.okD b (Prod.snd x)
 | .agg r, x => Ty.okD r x
theorem RL.fd {e : Ty} {H : Hp} {R : FD -> C -> Prop} (h : ∀ x l, e.R H x l -> All2 R (e.fd x) l /\ e.okD x) : ∀ {xs : List e.den} {cs : List C}, RL (e.R H) xs cs -> All2 R (xs.flatMap e.fd) cs /\ ∀ y, List.Mem y xs -> e.okD y
 | [], _, hh => by obtain rfl : _ = [] := hh; exact ⟨trivial, fun y hy => by cases hy⟩
 | x :: xs, _, ⟨a, b, e', h1, h2⟩ => by
  subst e'
  obtain ⟨g1, g2⟩ := h x a h1
  obtain ⟨g3, g4⟩ := RL.fd h h2
  rw [List.flatMap_cons]
  refine ⟨g1.append g3, fun y hy => ?_⟩
  rcases List.mem_cons.1 hy with rfl|hy
  ·exact g2
  ·exact g4 y hy
theorem Ty.R_fd {H : Hp} (hw : WF H) : ∀ (t : Ty) (x : t.den) (l : List C), t.R H x l -> All2 (RF (fun b => b < H.nx) H) (t.fd x) l /\ t.okD x
 | .bool, _, _, hh => by obtain rfl : _ = [_] := hh; exact ⟨⟨.c _ rfl, trivial⟩, trivial⟩
 | .int _, _, _, hh => by obtain ⟨rfl, h2⟩ := hh; exact ⟨⟨.c _ rfl, trivial⟩, h2⟩
 | .str, _, _, hh => by obtain rfl : _ = [_] := hh; exact ⟨⟨.c _ rfl, trivial⟩, trivial⟩
 | .slice e, x, l, hh => by
  rcases hh with ⟨rfl, h2⟩|⟨b, cs, rfl, h0, h2, h3⟩
  ·obtain rfl : x = [] := List.eq_nil_of_length_eq_zero h2
   exact ⟨⟨.nil _, trivial⟩, (fun y hy => by cases hy), Nat.zero_le _⟩
  ·obtain ⟨g1, g2⟩ := RL.fd (Ty.R_fd hw e) h3
   refine ⟨⟨.sl (fun h0 => ?_) ?_ (Nat.le_refl _) h2 fun i d c hd hc => ?_, trivial⟩, g2, h0⟩
   ·cases hg : H.get b with
    | none =>
     have := loads_cell (i := 0) h2 h0
     have hl := loads_len h2
     rw [List.getElem?_eq_getElem (by omega)] at this
     simp [Hp.cell, hg] at this
    | some bk => exact hw b bk hg
   ·rw [g1.len, loads_len h2]
   ·obtain ⟨c', hc', hr⟩ := g1.at i d hd
    rw [hc] at hc'
    obtain rfl := Option.some.inj hc'
    exact hr
 | .unit, _, _, hh => by obtain rfl : _ = [] := hh; exact ⟨trivial, trivial⟩
 | .pair a b, x, l, ⟨l1, l2, e, h1, h2⟩ => by
  subst e
  obtain ⟨g1, g2⟩ := Ty.R_fd hw a _ _ h1
  obtain ⟨g3, g4⟩ := Ty.R_fd hw b _ _ h2
  exact ⟨g1.append g3, g2, g4⟩
 | .agg r, x, l, hh => Ty.R_fd hw r x l hh
def Ty.isAgg : Ty -> Bool
 | .agg _ => true
 | _ => false
def argL : Bool -> List FD -> DV
 | true, l => .agg (l.map .f)
 | false, [d] => .one (.f d)
 | false, _ => .undef
def argD (t : Ty) (x : t.den) : DV := argL t.isAgg (t.fd x)
def argVL : Bool -> List C -> V
 | true, l => .agg l
 | false, [c] => .one c
 | false, _ => .undef
theorem argV_eq (t : Ty) (l : List C) : argV t l = argVL t.isAgg l := by
 cases t <;> cases l with
 | nil => rfl
 | cons c l => cases l <;> rfl
def DA : (ts : List Ty) -> denL ts -> List DV
 | [], _ => []
 | t :: ts, x => argD t (Prod.fst x) :: DA ts (Prod.snd x)
def okA : (ts : List Ty) -> denL ts -> Prop
 | [], _ => True
 | t :: ts, x => t.okD (Prod.fst x) /\ okA ts (Prod.snd x)
theorem argL_rel {Z : Nat -> Prop} {H : Hp} : ∀ (g : Bool) {l : List FD} {cs : List C}, All2 (RF Z H) l cs -> RDV Z H nob (argL g l) (argVL g cs)
 | true, l, cs, h => ⟨cs, rfl, all2_map_f h⟩
 | false, [], [], _ => undef_ok
 | false, [d], [c], h => ⟨c, rfl, h.1⟩
 | false, _ :: _ :: _, _ :: _ :: _, _ => undef_ok
 | false, [], _ :: _, h => h.elim
 | false, _ :: _, [], h => h.elim
 | false, [_], _ :: _ :: _, h => h.2.elim
 | false, _ :: _ :: _, [_], h => h.2.elim
theorem arg_rel {H : Hp} (hw : WF H) {t : Ty} {x : t.den} {l : List C} (h : t.R H x l) : RDV (fun b => b < H.nx) H nob (argD t x) (argV t l) := by
 rw [argV_eq]
 exact argL_rel _ (Ty.R_fd hw t x l h).1
theorem args_rel {H : Hp} (hw : WF H) : ∀ {ts : List Ty} {x : denL ts} {vs : List V}, RA H ts x vs -> All2 (RDV (fun b => b < H.nx) H nob) (DA ts x) vs /\ okA ts x
 | [], _, _, hh => by obtain rfl : _ = [] := hh; exact ⟨trivial, trivial⟩
 | t :: _, _, _, ⟨l, vs', e, h1, h2⟩ => by
  subst e
  obtain ⟨g1, g2⟩ := args_rel hw h2
  exact ⟨⟨arg_rel hw h1, g1⟩, (Ty.R_fd hw t _ _ h1).2, g2⟩
theorem deep_law {P : Program} {G : Nat} {GH : Hp} {f : FuncId} {ts : List Ty} {H : Hp} {x : denL ts} {vs : List V} (h : okA ts x -> DCalls P G GH f (DA ts x) fun d => d = .bool true) (hw : WF H) (hG : ∀ b bk, GH.get b = some bk -> H.get b = some bk) (hr : RA H ts x vs) : ACalls P G f vs H fun v _ => v = .bool true := by
 obtain ⟨h1, h2⟩ := args_rel hw hr
 refine (h h2 H _ vs hw (fun b hb => hb) (fun b bk hb => ⟨hw b bk (hG b bk hb), hG b bk hb⟩) h1).mono ?_
 rintro v H' ⟨_, _, _, d, hd, rfl⟩
 obtain ⟨c, rfl, hc⟩ := hd
 cases hc
 rfl
end Go.Ab

namespace Go.Ab
section
variable {G : Nat} {μ μ0 : Nat -> Pl} {K K0 : Nat -> Prop} {Ĥ : Hp} {w : World} {Z : Nat -> Prop}
end
end Go.Ab

namespace Go.Ab
end Go.Ab

namespace Go.Ab
section
variable {P : Program} {G : Nat} {GH : Hp} {tb : Nat -> Option SFn}
end
end Go.Ab

namespace Go.Ab
end Go.Ab

namespace Go.Ab
def bnd (E : DEnv) (d : Nat) : Option Opd -> Option Nat
 | none => some d
 | some x => match ro E x with
  | some (.one (.f (.c (.int _ (.ofNat i))))) => some i
  | _ => none
section
variable {p : Par} {base rs : Nat} {Q : DEnv -> Bx -> Nat -> Prop} {r : List SOper} {W : Wt} {A : List Nat} {E : DEnv} {S : Bx} {nk : Nat} {id : Nat} {dst : Option Nat} {aid : Option Nat} {ws : List Nat} {keep : Bool}
theorem bnd_ok {Z : Nat -> Prop} {β : Beta} {H : Hp} {F : T V} (hE : ER Z β H E F) {d i y : Nat} {x : Option Opd} (h : bnd E d x = some i) (hy : i <= y) : aBound F d y x = some i := by
 cases x with
 | none => obtain rfl := Option.some.inj h; simp only [aBound, if_pos hy]
 | some x =>
  simp only [bnd] at h
  split at h
  ·rename_i hx
   obtain rfl := Option.some.inj h
   simp only [aBound, int_of hE hx]
   rw [if_pos ⟨Int.natCast_nonneg _, Int.ofNat_le.2 hy⟩]
   rfl
  ·cases h
theorem dw_slo {esz : Nat} {x : Opd} {lo hi : Option Opd} {k o n l h o' n' : Nat} (hx : ro E x = some (.one (.own k o n esz))) (hlo : bnd E 0 lo = some l) (hhi : bnd E n hi = some h) (h1 : l <= h) (h2 : h <= n) (ho : o + l * esz = o') (hn : h - l = n') (hd : DPW p base rs Q r W A (setD E dst (.one (.own k o' n' esz))) S nk) : DPW p base rs Q (⟨id, dst, .p (.slice esz x lo hi none), none, aid, ws, keep⟩ :: r) W A E S nk := by
 subst ho; subst hn
 refine dw_pv (fun {Z β H F} hE => ?_) hd
 obtain ⟨c, hc, hr⟩ := ro_ok hE hx
 rcases hr with ⟨g1, rfl, rfl, rfl⟩|⟨b, N, cap, ex, g1, rfl, g2, g3⟩
 ·have e1 : h = 0 := by omega
  have e2 : l = 0 := by omega
  subst e1; subst e2
  refine ⟨.one .nils, ?_, _, rfl, .inl ⟨g1, rfl, by simp, rfl⟩⟩
  simp only [aPure, hc, aSlice, bnd_ok hE hlo (Nat.le_refl 0), bnd_ok hE hhi (Nat.le_refl 0)]
  rfl
 ·refine ⟨.one (.slc b (o + l * esz) (h - l) (cap - l) esz ex), ?_, _, rfl, .inr ⟨b, N, cap - l, ex, g1, rfl, oM, ?_⟩⟩
  ·have hm : aBound F cap cap none = some cap := by simp [aBound]
   simp only [aPure, hc, aSlice]
   rw [if_neg (by simp), hm]
   simp only [bnd_ok hE hhi (show h <= cap by omega), bnd_ok hE hlo h1]
   simp
  ·have : (cap - l) * esz + l * esz = cap * esz := by rw [<- Nat.add_mul]; congr 1; omega
   omega
theorem dw_slf {esz : Nat} {x : Opd} {lo hi : Option Opd} {n l h n' : Nat} {m q : List FD} (hx : ro E x = some (.one (.f (.sl esz n m)))) (hlo : bnd E 0 lo = some l) (hhi : bnd E n hi = some h) (h1 : l <= h) (h2 : h <= n) (hn : h - l = n') (hq : subL m (l * esz) (n' * esz) = some q) (hd : DPW p base rs Q r W A (setD E dst (.one (.f (.sl esz n' q)))) S nk) : DPW p base rs Q (⟨id, dst, .p (.slice esz x lo hi none), none, aid, ws, keep⟩ :: r) W A E S nk := by
 subst hn
 refine dw_pv (fun {Z β H F} hE => ?_) hd
 obtain ⟨c, hc, hr⟩ := ro_ok hE hx
 obtain ⟨hle, hqe⟩ := subL_some hq
 cases hr with
 | nil =>
  have e1 : h = 0 := by omega
  have e2 : l = 0 := by omega
  subst e1; subst e2
  obtain rfl : q = [] := by rw [hqe]; simp
  refine ⟨.one .nils, ?_, _, rfl, .nil esz⟩
  simp only [aPure, hc, aSlice, bnd_ok hE hlo (Nat.le_refl 0), bnd_ok hE hhi (Nat.le_refl 0)]
  rfl
 | sl hz hl hcap hld hel =>
  rename_i b o cap ex cs
  have hlen : m.length = cs.length := by rw [hl, loads_len hld]
  refine ⟨.one (.slc b (o + l * esz) (h - l) (cap - l) esz ex), ?_, _, rfl, .sl (cs := (cs.drop (l * esz)).take ((h - l) * esz)) (fun h0 => hz ?_) ?_ oM (loads_at hld oM) fun i d c hd hc => ?_⟩
  ·have hm : aBound F cap cap none = some cap := by simp [aBound]
   simp only [aPure, hc, aSlice]
   rw [if_neg (by simp), hm]
   simp only [bnd_ok hE hhi (show h <= cap by omega), bnd_ok hE hlo h1]
   simp
  ·have : (h - l) * esz <= n * esz := Nat.mul_le_mul_right _ oM
   omega
  ·rw [hqe, List.length_take, List.length_drop]; omega
  ·rw [hqe] at hd
   have ha := ((All2.mk hlen hel).drop (l * esz)).take ((h - l) * esz)
   obtain ⟨c', hc', hr'⟩ := ha.at i d hd
   rw [hc] at hc'
   obtain rfl := Option.some.inj hc'
   exact hr'
end
end Go.Ab

namespace Go.Ab
section
variable {p : Par} {Z : Nat -> Prop} {β : Beta} {H H' : Hp} {S S0 : Bx} {nk : Nat}
end
end Go.Ab

namespace Go.Ab
section
variable {p : Par} {base rs : Nat} {Q : DEnv -> Bx -> Nat -> Prop} {r : List SOper} {W : Wt} {A : List Nat} {E : DEnv} {S : Bx} {nk : Nat} {id : Nat} {dst : Option Nat} {aid : Option Nat} {ws : List Nat} {keep : Bool}
end
end Go.Ab

namespace Go.Ab
section
variable {p : Par} {base rs : Nat} {Q : DEnv -> Bx -> Nat -> Prop} {r : List SOper} {W : Wt} {A : List Nat} {E : DEnv} {S : Bx} {nk : Nat} {id : Nat} {dst : Option Nat} {aid : Option Nat} {ws : List Nat} {keep : Bool}
end
end Go.Ab

namespace Go.Ab
section
variable {p : Par} {n : Nat} {Q : Exit -> DEnv -> Bx -> Nat -> Prop} {E : DEnv} {S : Bx} {nk : Nat}
end
def DCallsO (P : Program) (G : Nat) (GH : Hp) (f : FuncId) (ds : List DV) (R : DV -> Bx -> Nat -> Prop) : Prop := ∀ (H : Hp) (Z : Nat -> Prop) (args : List V), WF H -> (∀ b, Z b -> b < H.nx) -> (∀ b bk, GH.get b = some bk -> Z b /\ H.get b = some bk) -> All2 (RDV Z H nob) ds args ->
 ACalls P G f args H fun v H' => H.nx <= H'.nx /\ (∀ b, b < H.nx -> H'.get b = H.get b) /\ ∃ d S' nk' Z' β', SR (Par.base P G GH Z H.nx) Z' β' H' S' nk' /\ RDV Z' H' β' d v /\ R d S' nk'
section
variable {p : Par} {E : DEnv} {S : Bx} {nk : Nat}
theorem one_of {Z : Nat -> Prop} {β : Beta} {H : Hp} {d : DV} {v : V} (hr : RDV Z H β d v) (hd : isOneD d = true) : isOne v = true /\ RDV1 Z H β d v := by
 cases d with
 | one d => obtain ⟨c, rfl, hr⟩ := hr; exact ⟨rfl, c, rfl, hr⟩
 | agg l => obtain ⟨c, rfl, hr⟩ := hr; exact ⟨rfl, c, rfl, hr⟩
 | tup l => cases hd
theorem resDLO_ok {Z : Nat -> Prop} {β : Beta} {H : Hp} {F : T V} (hS : SR p Z β H S nk) (hE : ER Z β H E F) : ∀ {l : List SRes} {ds : List DV}, resDL p E S l = some ds -> allB isOneD ds = true -> ∃ vs, aResL F H l = some vs /\ All2 (RDV1 Z H β) ds vs
 | [], ds, h, _ => by obtain rfl := Option.some.inj h; exact ⟨[], rfl, trivial⟩
 | r :: l, ds, h, hf => by
  simp only [resDL] at h
  split at h
  ·rename_i d q h1 h2
   obtain rfl := Option.some.inj h
   have f1 := allB_mem hf d (by simp)
   have f2 : allB isOneD q = true := by simp only [allB, f1] at hf; exact hf
   obtain ⟨v, e1, e2⟩ := resD_ok hS hE h1
   obtain ⟨vs, e3, e4⟩ := resDLO_ok hS hE h2 f2
   obtain ⟨o1, o2⟩ := one_of e2 f1
   exact ⟨v :: vs, by simp only [aResL, e1, e3, o1, if_true], o2, e4⟩
  ·cases h
def onesD : DV -> Bool
 | .tup l => allB isOneD l
 | _ => true
theorem resultO_ok {Z : Nat -> Prop} {β : Beta} {H : Hp} {F : T V} (hS : SR p Z β H S nk) (hE : ER Z β H E F) {rs : List SRes} {d : DV} (h : resultD p E S rs = some d) (hf : onesD d = true) : ∃ v, aResult F H rs = some v /\ RDV Z H β d v := by
 unfold resultD at h
 have one : ∀ d', resDL p E S rs = some [d'] -> isOneD d' = true -> ∃ v, aResult F H rs = some v /\ RDV Z H β d' v := fun d' hd' hf' => by
  obtain ⟨vs, h1, h2⟩ := resDLO_ok hS hE hd' (by simp [allB, hf'])
  match vs, h1, h2 with
  | [v], h1, h2 => exact ⟨v, by simp only [aResult, h1], RDV.of1 h2.1⟩
 split at h
 ·rename_i c hd'
  obtain rfl := Option.some.inj h
  exact one _ hd' rfl
 ·rename_i l hd'
  obtain rfl := Option.some.inj h
  exact one _ hd' rfl
 ·cases h
 ·rename_i ds hn1 hn2 hn3 hds
  obtain rfl := Option.some.inj h
  obtain ⟨vs, h1, h2⟩ := resDLO_ok hS hE hds hf
  refine ⟨.tup vs, ?_, vs, rfl, h2⟩
  have hl := h2.len
  unfold aResult
  rw [h1]
  match vs, hl with
  | [], _ => rfl
  | [v], hl =>
   match ds, hl with
   | [.one d], _ => exact (hn1 d rfl).elim
   | [.agg d], _ => exact (hn2 d rfl).elim
   | [.tup d], _ => exact (hn3 d rfl).elim
  | _ :: _ :: _, _ => rfl
 ·cases h
end
def retO (p : Par) (rs : List SRes) (R : DV -> Bx -> Nat -> Prop) : Exit -> DEnv -> Bx -> Nat -> Prop
 | .normal, E, S, nk => ∃ d, resultD p E S rs = some d /\ onesD d = true /\ ∃ S0, SubA S0 S /\ R d S0 nk
 | .ret, E, S, nk => ∃ d, resultD p E S rs = some d /\ onesD d = true /\ ∃ S0, SubA S0 S /\ R d S0 nk
 | _, _, _, _ => False
theorem dfnO_ok {P : Program} {G : Nat} {GH : Hp} {f : FuncId} {sf : SFn} (hf : cpFn P G f = some sf) {ds : List DV} {R : DV -> Bx -> Nat -> Prop} (hn : Nat.ble ds.length sf.n = true) (hG : ∀ b bk, GH.get b = some bk -> bk.ro = some bk) (h : ∀ Z0 lo, DPS (Par.base P G GH Z0 lo) sf.n sf.code (retO (Par.base P G GH Z0 lo) sf.res R) (argsD ds 0) [] 0) : DCallsO P G GH f ds R := by
 intro H Z args hw hz hg ha
 have hro : ACalls P G f args H.ro fun v H1 => ∃ d S' nk' Z' β', SR (Par.base P G GH Z H.nx) Z' β' H1 S' nk' /\ RDV Z' H1 β' d v /\ R d S' nk' := by
  have hwr : WF H.ro := fun b bk hb => by
   rw [Hp.get_ro, Option.bind_eq_some_iff] at hb
   obtain ⟨x, hx, _⟩ := hb
   exact hw b x hx
  refine (fn_ok hf (by rw [<- ha.len]; exact Nat.le_of_ble_eq_true hn) ?_)
  have hS : SR (Par.base P G GH Z H.nx) Z nob H.ro [] 0 := ⟨hwr, Nat.le_refl _, hz, fun b hb => .inl hb, fun b hb => hb, fun b bk hb => (by rcases hb with hb|⟨_, hb⟩; exact ⟨(hg b bk hb).1, by rw [Hp.get_ro, (hg b bk hb).2]; exact hG b bk hb⟩; cases hb), fun _ _ => rfl, fun _ _ _ hk => (by cases hk), fun κ x hk => (by obtain ⟨y, hy⟩ := lk2_lk hk; cases hy), fun _ _ _ _ _ _ _ hk => (by cases hk), fun _ _ _ hk => (by cases hk), fun _ _ _ => rfl, Nat.le_refl _⟩
  have hE : ER Z nob H.ro (argsD ds 0) (initF args 0) := argsD_ok 0 (ha.mono fun _ _ hr => RDV.mono (ZLe.of_le (fun _ h => h) (Le.ro H)) (BLe.refl nob) hr)
  refine swp_mono ((h Z H.nx).run Z nob H.ro _ hS hE) fun e F' H' ⟨E', S', nk', Z', β', h1, h2, h3⟩ => ?_
  have fin : (∃ d, resultD (Par.base P G GH Z H.nx) E' S' sf.res = some d /\ onesD d = true /\ ∃ S0, SubA S0 S' /\ R d S0 nk') -> ∃ v, aResult F' H' sf.res = some v /\ ∃ d S' nk' Z' β', SR (Par.base P G GH Z H.nx) Z' β' H' S' nk' /\ RDV Z' H' β' d v /\ R d S' nk' := fun ⟨d, hd, hfr, S0, hsub, hR⟩ => by
   obtain ⟨v, hv, hr⟩ := resultO_ok h1 h2 hd hfr
   exact ⟨v, hv, d, S0, nk', Z', β', h1.keepS hsub, hr, hR⟩
  cases e with
  | normal => obtain ⟨v, hv, hr⟩ := fin h3; simp only [retQ, hv]; exact hr
  | ret => obtain ⟨v, hv, hr⟩ := fin h3; simp only [retQ, hv]; exact hr
  | _ => exact h3.elim
 refine (ACalls.none (ACalls.wf (ACalls.grow hro))).mono ?_
 rintro v H' ⟨⟨⟨H1, ⟨d, S', nk', Z', β', hS1, hr, hR⟩, e1, e2, e3, e4, e5⟩, hw'⟩, hno⟩
 have hnx : H'.nx = H1.nx := by rw [e1]; rfl
 have hold : ∀ b, b < H.nx -> H'.get b = H.get b := fun b hb => by
  cases hgb : H.get b with
  | none => exact hno b hb hgb
  | some bk => exact e3 b bk hgb
 have hZ : ZLe Z' H1 Z' H' := ZLe.of_le (fun _ h => h) e5
 refine ⟨by omega, hold, d, S', nk', Z', β', ⟨hw', by simp only; omega, fun b hb => by rw [hnx]; exact hS1.z b hb, hS1.zlo, hS1.zz, fun b bk hb => ⟨(hS1.glob b bk hb).1, ?_⟩, hS1.nk, fun κ b N hκ => by rw [hnx]; exact hS1.bd κ b N hκ, fun κ x hκ => ?_, hS1.inj, hS1.blo, hS1.anch, hS1.ancn⟩, hr.mono hZ (BLe.refl β'), hR⟩
 ·rcases hb with hb|⟨_, hb⟩
  ·rw [hold b (hz b (hg b bk hb).1)]; exact (hg b bk hb).2
  ·cases hb
 ·obtain ⟨s, hs, hbx⟩ := hS1.box κ x hκ
  refine ⟨s, hs, ?_⟩
  cases s with
  | nil => exact hbx
  | blk b N =>
   obtain ⟨h1, h2, h3, cs, rest, h4, h5, h6⟩ := hbx
   exact ⟨h1, h2, oM, cs, rest, h4.same (e4 b h2), h5, Bk.rel_mono hZ (BLe.refl _) h6⟩
def shP (n : Nat) : List (Nat × Nat) -> List (Nat × Nat)
 | [] => []
 | (k, o) :: r => (k + n, o) :: shP n r
def shC (n : Nat) : DC -> DC
 | .ptr k o => .ptr (k + n) o
 | .own k o m e => .own (k + n) o m e
 | .tptr k i o => .tptr (k + n) i o
 | .trow k i o m => .trow (k + n) i o m
 | .fn f l => .fn f (shP n l)
 | .om k => .om (k + n)
 | .yl k => .yl (k + n)
 | d => d
def shD : Nat -> DV -> DV
 | n, .one d => .one (shC n d)
 | n, .agg l => .agg (l.map (shC n))
 | _, .tup l => .tup l
def shV (n : Nat) : DV -> DV
 | .one d => .one (shC n d)
 | .agg l => .agg (l.map (shC n))
 | .tup l => .tup (l.map (shD n))
def shB (n : Nat) : Bk -> Bk
 | .cells l => .cells (l.map (shC n))
 | .data l => .data l
 | .tree l => .tree l
 | .mp ks l => .mp ks (l.map (shC n))
 | .mt es => .mt (mtMap (shC n) es)
theorem shB_shape (n : Nat) (x : Bk) : (shB n x).shape = x.shape := by cases x <;> rfl
def shS (n : Nat) : Bx -> Bx -> Bx
 | [], T => T
 | (k, x) :: r, T => (k + n, shB n x) :: shS n r T
section
variable {Z : Nat -> Prop} {H : Hp} {β β' : Beta} {n : Nat}
theorem shP_ok (hβ : ∀ k i, β' (k + n, i) = β (k, i)) : ∀ {l l' : List (Nat × Nat)}, capsR β l l' -> capsR β' (shP n l) l'
 | [], [], _ => trivial
 | (_, _) :: _, (_, _) :: _, h => ⟨h.1, by obtain ⟨N, hN⟩ := h.2.1; exact ⟨N, by rw [hβ]; exact hN⟩, shP_ok hβ h.2.2⟩
 | [], _ :: _, h => h.elim
 | (_, _) :: _, [], h => h.elim
theorem shC_ok (hβ : ∀ k i, β' (k + n, i) = β (k, i)) {d : DC} {c : C} (h : RD Z H β d c) : RD Z H β' (shC n d) c := by
 cases d with
 | ptr k o => obtain ⟨b, N, h1, h2⟩ := h; exact ⟨b, N, by rw [hβ]; exact h1, h2⟩
 | tptr k i o => obtain ⟨b, N, h1, h2⟩ := h; exact ⟨b, N, by rw [hβ]; exact h1, h2⟩
 | own k o m e =>
  rcases h with ⟨h1, h2⟩|⟨b, N, cap, ex, h1, h2⟩
  ·exact .inl ⟨by rw [hβ]; exact h1, h2⟩
  ·exact .inr ⟨b, N, cap, ex, by rw [hβ]; exact h1, h2⟩
 | trow k i o m =>
  rcases h with ⟨h1, h2⟩|⟨b, N, cap, ex, h1, h2⟩
  ·exact .inl ⟨by rw [hβ]; exact h1, h2⟩
  ·exact .inr ⟨b, N, cap, ex, by rw [hβ]; exact h1, h2⟩
 | fn f l => obtain ⟨l', h1, h2⟩ := h; exact ⟨l', h1, shP_ok hβ h2⟩
 | f d => exact h
 | g b o => exact h
 | fptr l => exact h
 | any => trivial
 | om k => obtain ⟨b, N, h1, h2⟩ := h; exact ⟨b, N, by rw [hβ]; exact h1, h2⟩
 | yl k => obtain ⟨b, N, h1, h2⟩ := h; exact ⟨b, N, by rw [hβ]; exact h1, h2⟩
theorem shL_ok (hβ : ∀ k i, β' (k + n, i) = β (k, i)) : ∀ {l : List DC} {cs : List C}, All2 (RD Z H β) l cs -> All2 (RD Z H β') (l.map (shC n)) cs
 | [], [], _ => trivial
 | _ :: _, _ :: _, h => ⟨shC_ok hβ h.1, shL_ok hβ h.2⟩
 | [], _ :: _, h => h.elim
 | _ :: _, [], h => h.elim
theorem shD_ok (hβ : ∀ k i, β' (k + n, i) = β (k, i)) {d : DV} {v : V} (h : RDV1 Z H β d v) : RDV1 Z H β' (shD n d) v := by
 cases d with
 | one d => obtain ⟨c, rfl, h⟩ := h; exact ⟨c, rfl, shC_ok hβ h⟩
 | agg l => obtain ⟨c, rfl, h⟩ := h; exact ⟨c, rfl, shL_ok hβ h⟩
 | tup l => exact h.elim
theorem shV_ok (hβ : ∀ k i, β' (k + n, i) = β (k, i)) {d : DV} {v : V} (h : RDV Z H β d v) : RDV Z H β' (shV n d) v := by
 cases d with
 | one d => obtain ⟨c, rfl, h⟩ := h; exact ⟨c, rfl, shC_ok hβ h⟩
 | agg l => obtain ⟨c, rfl, h⟩ := h; exact ⟨c, rfl, shL_ok hβ h⟩
 | tup l =>
  obtain ⟨c, rfl, h⟩ := h
  refine ⟨c, rfl, ?_⟩
  have key : ∀ {l : List DV} {cs : List V}, All2 (RDV1 Z H β) l cs -> All2 (RDV1 Z H β') (l.map (shD n)) cs := by
   intro l
   induction l with
   | nil => intro cs h; cases cs with
    | nil => trivial
    | cons _ _ => exact h.elim
   | cons d l ih => intro cs h; cases cs with
    | nil => exact h.elim
    | cons c cs => exact ⟨shD_ok hβ h.1, ih h.2⟩
  exact key h
theorem shRows (k : Nat) : ∀ (i : Nat) (rows : List (List FD)), (rowsV k i rows).map (shC n) = rowsV (k + n) i rows
 | _, [] => rfl
 | i, r :: rs => by simp only [rowsV, List.map_cons, shRows k (i + 1) rs, shC]
end
theorem lk_shS (n : Nat) (T : Bx) (hT : ∀ k x, lk T k = some x -> k < n) : ∀ (S : Bx) (k : Nat), lk (shS n S T) k = if k < n then lk T k else (lk S (k - n)).map (shB n)
 | [], k => by
  simp only [shS, lk]
  split
  ·rfl
  ·rename_i hk
   cases hl : lk T k with
   | none => rfl
   | some x => exact absurd (hT k x hl) hk
 | (j, x) :: S, k => by
  simp only [shS, lk_cons]
  rw [lk_shS n T hT S k]
  by_cases hk : k < n
  ·rw [if_pos hk, if_pos hk, if_neg (by omega)]
  ·rw [if_neg hk, if_neg hk]
   by_cases e : j + n = k
   ·rw [if_pos e, if_pos (by omega)]; rfl
   ·rw [if_neg e, if_neg (by omega)]
theorem lk2_shS (n : Nat) (T : Bx) (hT : ∀ k x, lk T k = some x -> k < n) (S : Bx) (κ : Key) : lk2 (shS n S T) κ = if κ.1 < n then lk2 T κ else (lk2 S (κ.1 - n, κ.2)).map (shB n) := by
 obtain ⟨k, i⟩ := κ
 have hl := lk_shS n T hT S k
 by_cases hk : k < n
 ·rw [if_pos hk] at hl ⊢
  exact lk2_congr hl
 ·rw [if_neg hk] at hl
  simp only [if_neg hk]
  cases i with
  | zero =>
   simp only [lk2, hl]
   cases hs : lk S (k - n) with
   | none => rfl
   | some x =>
    cases x with
    | tree rows => simp only [Option.map_some, shB, shRows]; rw [Nat.sub_add_cancel (by omega)]
    | cells l => rfl
    | data l => rfl
    | mp ks l => rfl
    | mt es =>
     simp only [Option.map_some, shB]
     rw [mtV_map (shC n) (k - n) k (fun _ => rfl) (fun i m => by simp only [shC]; rw [Nat.sub_add_cancel (by omega)])]
  | succ i =>
   simp only [lk2, hl]
   cases hs : lk S (k - n) with
   | none => rfl
   | some x =>
    cases x with
    | tree rows =>
     simp only [Option.map_some, shB]
     cases rows[i]? <;> rfl
    | cells l => rfl
    | data l => rfl
    | mp ks l => rfl
    | mt es =>
     show mtRow (mtMap (shC n) es)[i]? = (mtRow es[i]?).map (shB n)
     rw [mtRow_map]
     cases hm : mtRow es[i]? with
     | none => rfl
     | some x => obtain ⟨_, r, _, rfl⟩ := mtRow_at hm; rfl
section
variable {p : Par} {base rs : Nat} {Q : DEnv -> Bx -> Nat -> Prop} {r : List SOper} {W : Wt} {A : List Nat} {E : DEnv} {S : Bx} {nk : Nat} {id : Nat} {dst : Option Nat} {aid : Option Nat} {ws : List Nat} {keep : Bool}
theorem dw_cfr {f : FuncId} {args : List Opd} {ds : List DV} {R : DV -> Bx -> Nat -> Prop} (hvs : ros E args = some ds) (hf : allB frV ds = true) (hc : DCallsO p.P p.G p.GH f ds R) (h : ∀ d S' nk', R d S' nk' -> DPW p base rs Q r W A (setD E dst (shV nk d)) (shS nk S' S) (nk' + nk)) : DPW p base rs Q (⟨id, dst, .cf f args, none, aid, ws, keep⟩ :: r) W A E S nk := .mk fun Z β H F c hS hE hC hA => by
 simp only [wOps, wantedA, if_true]
 refine (hc H Z _ hS.wf hS.z (fun b bk hb => hS.glob b bk (.inl hb)) (frVL_ok hf (ros_ok hE hvs))).mono ?_
 rintro v H' ⟨hnx, hg, d, S', nk', Z', β', hS', hr, hR⟩
 have hz1 : ∀ b, Z b -> Z' b := hS'.zz
 have hz2 : ∀ b, Z' b -> b < H.nx -> Z b := fun b hb hl => (hS'.zlo b hb).elim (fun h => h) fun h => by simp only at h; omega
 have hZ : ZLe Z H Z' H' := ZLe.of_get hz1 fun b hb => hg b (hS.z b hb)
 let β'' : Beta := fun κ => if κ.1 < nk then β κ else β' (κ.1 - nk, κ.2)
 have hβ : ∀ k i, β'' (k + nk, i) = β' (k, i) := fun k i => by simp only [β'', if_neg (show ¬ k + nk < nk by omega), Nat.add_sub_cancel]
 have hlo : ∀ κ, κ.1 < nk -> β'' κ = β κ := fun κ h => by simp [β'', h]
 have hhi : ∀ κ : Key, ¬ κ.1 < nk -> β'' κ = β' (κ.1 - nk, κ.2) := fun κ h => by simp [β'', h]
 have hB : BLe β β'' := fun κ s hκ => by rw [hlo κ (hS.lt1 hκ)]; exact hκ
 have hT : ∀ k x, lk S k = some x -> k < nk := fun k x hk => hS.lt hk
 have hnew : ∀ (κ : Key) x b N, lk S' κ.1 = some x -> β' κ = some (.blk b N) -> (∃ y, lk2 S' κ = some y) -> H.nx <= b := fun κ x b N _ hb ⟨y, hy⟩ => hS'.lo2 hy hb
 have hSS : SR p Z' β'' H' (shS nk S' S) (nk' + nk) := by
  refine ⟨hS'.wf, Nat.le_trans hS.lo hnx, hS'.z, fun b hb => ?_, fun b hb => hz1 b (hS.zz b hb), fun b bk hb => ?_, fun κ hκ => ?_, fun κ b N hκ => ?_, fun κ x hκ => ?_, fun κ κ' x x' b N N' hκ hκ' h1 h2 => ?_, fun κ b N hκ => ?_, fun κ hκ h0 => by rw [hlo κ (Nat.lt_of_lt_of_le hκ hS.ancn)]; exact hS.anch κ hκ h0, by have := hS.ancn; omega⟩
  ·rcases hS'.zlo b hb with h|h
   ·exact hS.zlo b h
   ·exact .inr (Nat.le_trans hS.lo h)
  ·obtain ⟨h1, h2⟩ := hS.glob b bk hb
   exact ⟨hz1 b h1, by rw [hg b (hS.z b h1)]; exact h2⟩
  ·rw [hhi κ (by omega)]; exact hS'.nk _ (by simp only; omega)
  ·by_cases hk : κ.1 < nk
   ·rw [hlo κ hk] at hκ; exact Nat.lt_of_lt_of_le (hS.bd κ b N hκ) hnx
   ·rw [hhi κ hk] at hκ; exact hS'.bd _ b N hκ
  ·rw [lk2_shS nk S hT] at hκ
   by_cases hk : κ.1 < nk
   ·rw [if_pos hk] at hκ
    obtain ⟨s, hs, hbx⟩ := hS.box κ x hκ
    refine ⟨s, hB κ s hs, ?_⟩
    cases s with
    | nil => exact hbx
    | blk b N =>
     obtain ⟨g1, g2, g3, cs, rest, g4, g5, g6⟩ := hbx
     exact ⟨fun h => g1 (hz2 b h g3), g2, oM, cs, rest, g4.same (hg b g3), g5, Bk.rel_mono hZ hB g6⟩
   ·rw [if_neg hk] at hκ
    cases hs : lk2 S' (κ.1 - nk, κ.2) with
    | none => rw [hs] at hκ; cases hκ
    | some y =>
     rw [hs] at hκ
     obtain rfl := Option.some.inj hκ
     obtain ⟨s, hs', hbx⟩ := hS'.box _ y hs
     refine ⟨s, by rw [hhi κ hk]; exact hs', ?_⟩
     cases s with
     | nil => cases y <;> simpa [BoxR, shB, Bk.len, mtMap] using hbx
     | blk b N =>
      obtain ⟨g1, g2, g3, cs, rest, g4, g5, g6⟩ := hbx
      refine ⟨g1, Nat.le_trans hS.lo g2, g3, cs, rest, by rw [shB_shape]; exact g4, by rw [shB_shape]; exact g5, ?_⟩
      cases y with
      | cells l => exact shL_ok hβ g6
      | data l => exact g6
      | tree l => exact g6.elim
      | mp ks l => exact shL_ok hβ g6
      | mt es => exact g6.elim
  ·rw [lk_shS nk S hT] at hκ hκ'
   by_cases hk : κ.1 < nk
   ·rw [if_pos hk] at hκ
    rw [hlo κ hk] at h1
    by_cases hk' : κ'.1 < nk
    ·rw [if_pos hk'] at hκ'
     rw [hlo κ' hk'] at h2
     exact hS.inj κ κ' x x' b N N' hκ hκ' h1 h2
    ·rw [hhi κ' hk'] at h2
     exact absurd (hS'.blo _ _ _ h2) fun hge => by have := hS.bd κ b N h1; simp only at hge; omega
   ·rw [if_neg hk] at hκ
    rw [hhi κ hk] at h1
    by_cases hk' : κ'.1 < nk
    ·rw [hlo κ' hk'] at h2
     exact absurd (hS'.blo _ _ _ h1) fun hge => by have := hS.bd κ' b N' h2; simp only at hge; omega
    ·rw [if_neg hk'] at hκ'
     rw [hhi κ' hk'] at h2
     cases e1 : lk S' (κ.1 - nk) with
     | none => rw [e1] at hκ; cases hκ
     | some z1 =>
      cases e2 : lk S' (κ'.1 - nk) with
      | none => rw [e2] at hκ'; cases hκ'
      | some z2 =>
       have := hS'.inj (κ.1 - nk, κ.2) (κ'.1 - nk, κ'.2) z1 z2 b N N' e1 e2 h1 h2
       obtain ⟨q1, q2⟩ := Prod.mk.inj this
       obtain ⟨a, i⟩ := κ
       obtain ⟨a', i'⟩ := κ'
       simp only at hk hk' q1 q2
       rw [q2, show a = a' by omega]
  ·by_cases hk : κ.1 < nk
   ·rw [hlo κ hk] at hκ; exact hS.blo κ b N hκ
   ·rw [hhi κ hk] at hκ; exact Nat.le_trans hS.lo (hS'.blo _ b N hκ)
 have hC' := hC.same hZ hB hg hS.wf
 refine ⟨hC'.watch ws, (h d S' nk' hR).run _ β'' H' _ c hSS ((hE.mono hZ hB).set dst (shV_ok hβ hr)) hC' ⟨hA.1, fun j hj hjA => ?_⟩⟩
 obtain ⟨h1, h2, h3, h4⟩ := hA.2 j hj hjA
 refine ⟨by omega, by rw [hg _ h1]; exact h2, fun h => h3 (hz2 _ h h1), fun κ N hκ => ?_⟩
 by_cases hk : κ.1 < nk
 ·rw [hlo κ hk] at hκ; exact h4 κ N hκ
 ·rw [hhi κ hk] at hκ
  have := hS'.blo _ _ _ hκ
  simp only at this; omega
end
end Go.Ab

namespace Go.Ab
def BLe0 (β β' : Beta) : Prop := ∀ k s, β (k, 0) = some s -> β' (k, 0) = some s
def noTC : DC -> Bool
 | .trow _ _ _ _ => false
 | .tptr _ _ _ => false
 | _ => true
def noT1 : DV -> Bool
 | .one d => noTC d
 | .agg l => allB noTC l
 | .tup _ => false
def noTV : DV -> Bool
 | .tup l => allB noT1 l
 | .one d => noTC d
 | .agg l => allB noTC l
def noT : DEnv -> Bool
 | [] => true
 | (_, d) :: E => match noTV d with
  | true => noT E
  | false => false
section
variable {Z Z' : Nat -> Prop} {H H' : Hp} {β β' : Beta}
theorem caps0 (hb : BLe0 β β') : ∀ {l l' : List (Nat × Nat)}, capsR β l l' -> capsR β' l l'
 | [], [], _ => trivial
 | (_, _) :: _, (_, _) :: _, ⟨h1, ⟨N, h2⟩, h3⟩ => ⟨h1, ⟨N, hb _ _ h2⟩, caps0 hb h3⟩
theorem RD.mono0 (h : ZLe Z H Z' H') (hb : BLe0 β β') {d : DC} {c : C} (ht : noTC d = true) (hr : RD Z H β d c) : RD Z' H' β' d c := by
 cases d with
 | f d => exact RF.mono h hr
 | g b o => exact hr
 | ptr k o => obtain ⟨b, N, h1, h2⟩ := hr; exact ⟨b, N, hb _ _ h1, h2⟩
 | own k o n esz =>
  rcases hr with ⟨h1, h2⟩|⟨b, N, cap, ex, h1, h2⟩
  ·exact .inl ⟨hb _ _ h1, h2⟩
  ·exact .inr ⟨b, N, cap, ex, hb _ _ h1, h2⟩
 | fptr l => obtain ⟨b, o, cs, h1, h2, h3, h4⟩ := hr; exact ⟨b, o, cs, h1, (h b h2).1, h.loads h2 h3, h4.mono fun _ _ => RF.mono h⟩
 | fn f caps => obtain ⟨caps', h1, h2⟩ := hr; exact ⟨caps', h1, caps0 hb h2⟩
 | any => trivial
 | om k => obtain ⟨b, N, h1, h2⟩ := hr; exact ⟨b, N, hb _ _ h1, h2⟩
 | yl k => obtain ⟨b, N, h1, h2⟩ := hr; exact ⟨b, N, hb _ _ h1, h2⟩
 | tptr k i o => cases ht
 | trow k i o n => cases ht
theorem RDL.mono0 (h : ZLe Z H Z' H') (hb : BLe0 β β') : ∀ {l : List DC} {cs : List C}, allB noTC l = true -> All2 (RD Z H β) l cs -> All2 (RD Z' H' β') l cs
 | [], [], _, _ => trivial
 | d :: l, c :: cs, ha, hr => by
  have h1 := allB_mem ha d (by simp)
  have h2 : allB noTC l = true := by simp only [allB, h1] at ha; exact ha
  exact ⟨RD.mono0 h hb h1 hr.1, RDL.mono0 h hb h2 hr.2⟩
 | [], _ :: _, _, hr => hr.elim
 | _ :: _, [], _, hr => hr.elim
theorem RDV1.mono0 (h : ZLe Z H Z' H') (hb : BLe0 β β') {d : DV} {v : V} (ht : noT1 d = true) (hr : RDV1 Z H β d v) : RDV1 Z' H' β' d v := by
 cases d with
 | one d => obtain ⟨c, h1, h2⟩ := hr; exact ⟨c, h1, RD.mono0 h hb ht h2⟩
 | agg l => obtain ⟨c, h1, h2⟩ := hr; exact ⟨c, h1, RDL.mono0 h hb ht h2⟩
 | tup l => cases ht
theorem RDV1L.mono0 (h : ZLe Z H Z' H') (hb : BLe0 β β') : ∀ {l : List DV} {vs : List V}, allB noT1 l = true -> All2 (RDV1 Z H β) l vs -> All2 (RDV1 Z' H' β') l vs
 | [], [], _, _ => trivial
 | d :: l, c :: cs, ha, hr => by
  have h1 := allB_mem ha d (by simp)
  have h2 : allB noT1 l = true := by simp only [allB, h1] at ha; exact ha
  exact ⟨RDV1.mono0 h hb h1 hr.1, RDV1L.mono0 h hb h2 hr.2⟩
 | [], _ :: _, _, hr => hr.elim
 | _ :: _, [], _, hr => hr.elim
theorem RDV.mono0 (h : ZLe Z H Z' H') (hb : BLe0 β β') {d : DV} {v : V} (ht : noTV d = true) (hr : RDV Z H β d v) : RDV Z' H' β' d v := by
 cases d with
 | one d => exact RDV1.mono0 (d := .one d) h hb ht hr
 | agg l => exact RDV1.mono0 (d := .agg l) h hb ht hr
 | tup l => obtain ⟨vs, h1, h2⟩ := hr; exact ⟨vs, h1, RDV1L.mono0 h hb ht h2⟩
theorem noT_lk : ∀ {E : DEnv} {n : Nat} {d : DV}, noT E = true -> lk E n = some d -> noTV d = true
 | [], _, _, _, h => by cases h
 | (k, x) :: E, n, d, ht, h => by
  simp only [noT] at ht
  split at ht
  ·rename_i hx
   rw [lk_cons] at h
   split at h
   ·obtain rfl := Option.some.inj h; exact hx
   ·exact noT_lk ht h
  ·cases ht
theorem ER.mono0 (h : ZLe Z H Z' H') (hb : BLe0 β β') {E : DEnv} {F : T V} (ht : noT E = true) (hr : ER Z β H E F) : ER Z' β' H' E F := fun n d hd => by
 obtain ⟨v, h1, h2⟩ := hr n d hd
 exact ⟨v, h1, RDV.mono0 h hb (noT_lk ht hd) h2⟩
end
def DX (p : Par) (f : FuncId) (ds : List DV) (S : Bx) (nk : Nat) (R : DV -> Bx -> Nat -> Prop) : Prop := ∀ Z β H args, SR p Z β H S nk -> All2 (RDV Z H β) ds args ->
 ACalls p.P p.G f args H fun v H' => ∃ d S' nk' Z' β', SR p Z' β' H' S' nk' /\ RDV Z' H' β' d v /\ ZLe Z H Z' H' /\ BLe0 β β' /\ R d S' nk'
theorem DX.mono {p : Par} {f : FuncId} {ds : List DV} {S : Bx} {nk : Nat} {R R' : DV -> Bx -> Nat -> Prop} (h : DX p f ds S nk R) (hr : ∀ d S nk, R d S nk -> R' d S nk) : DX p f ds S nk R' := fun Z β H args h1 h2 => (h Z β H args h1 h2).mono fun _ _ ⟨d, S', nk', Z', β', g1, g2, g3, g4, g5⟩ => ⟨d, S', nk', Z', β', g1, g2, g3, g4, hr _ _ _ g5⟩
abbrev Par.hold (p : Par) (Z : Nat -> Prop) (nk : Nat) (β : Beta) (H : Hp) : Par := ⟨p.P, p.G, p.GH, Z, p.lo, nk, β, H, none⟩
theorem SR.hold {p : Par} {Z : Nat -> Prop} {β : Beta} {H : Hp} {S : Bx} {nk : Nat} (h : SR p Z β H S nk) : SR (p.hold Z nk β H) Z β H S nk :=
 ⟨h.wf, h.lo, h.z, fun _ hb => .inl hb, fun _ hb => hb, fun b bk hb => hb.elim (fun hb => h.glob b bk (.inl hb)) fun hb => hb, h.nk, h.bd, h.box, h.inj, h.blo, fun _ _ _ => rfl, Nat.le_refl _⟩
theorem SR.free {p : Par} {Z Z' : Nat -> Prop} {β β' : Beta} {H H' : Hp} {S S' : Bx} {nk nk' : Nat} (h : SR p Z β H S nk) (h' : SR (p.hold Z nk β H) Z' β' H' S' nk') : SR p Z' β' H' S' nk' /\ ZLe Z H Z' H' /\ BLe0 β β' := by
 have hz : ∀ b, Z b -> Z' b := h'.zz
 refine ⟨⟨h'.wf, h'.lo, h'.z, fun b hb => (h'.zlo b hb).elim (h.zlo b) .inr, fun b hb => hz b (h.zz b hb), fun b bk hb => h'.glob b bk (.inr (h.glob b bk hb)), h'.nk, h'.bd, h'.box, h'.inj, h'.blo, fun κ hκ h0 => ?_, Nat.le_trans h.ancn h'.ancn⟩, fun b hb => ⟨hz b hb, fun i c hc => ?_⟩, fun k s hκ => ?_⟩
 ·exact (h'.anch κ (Nat.lt_of_lt_of_le hκ h.ancn) h0).trans (h.anch κ hκ h0)
 ·unfold Hp.cell at hc ⊢
  cases hg : H.get b with
  | none => rw [hg] at hc; cases hc
  | some bk => rw [(h'.glob b bk (.inr ⟨hb, hg⟩)).2]; rw [hg] at hc; exact hc
 ·exact (h'.anch (k, 0) (h.lt1 hκ) rfl).trans hκ
theorem dx_ok {p : Par} {f : FuncId} {sf : SFn} (hf : cpFn p.P p.G f = some sf) {ds : List DV} {S : Bx} {nk : Nat} {R : DV -> Bx -> Nat -> Prop} (hn : Nat.ble ds.length sf.n = true)
  (h : ∀ Z β H, DPS (p.hold Z nk β H) sf.n sf.code (retO (p.hold Z nk β H) sf.res R) (argsD ds 0) S nk) : DX p f ds S nk R := by
 intro Z β H args hS ha
 refine fn_ok hf (by rw [<- ha.len]; exact Nat.le_of_ble_eq_true hn) ?_
 refine swp_mono ((h Z β H).run Z β H _ hS.hold (argsD_ok 0 ha)) fun e F' H' ⟨E', S', nk', Z', β', h1, h2, h3⟩ => ?_
 have fin : (∃ d, resultD (p.hold Z nk β H) E' S' sf.res = some d /\ onesD d = true /\ ∃ S0, SubA S0 S' /\ R d S0 nk') -> ∃ v, aResult F' H' sf.res = some v /\ ∃ d S' nk' Z' β', SR p Z' β' H' S' nk' /\ RDV Z' H' β' d v /\ ZLe Z H Z' H' /\ BLe0 β β' /\ R d S' nk' := fun ⟨d, hd, hfr, S0, hsub, hR⟩ => by
  obtain ⟨v, hv, hr⟩ := resultO_ok h1 h2 hd hfr
  obtain ⟨g1, g2, g3⟩ := hS.free (h1.keepS hsub)
  exact ⟨v, hv, d, S0, nk', Z', β', g1, hr, g2, g3, hR⟩
 cases e with
 | normal => obtain ⟨v, hv, hr⟩ := fin h3; simp only [retQ, hv]; exact hr
 | ret => obtain ⟨v, hv, hr⟩ := fin h3; simp only [retQ, hv]; exact hr
 | _ => exact h3.elim
def noW : Wt -> Bool
 | [] => true
 | (_, none) :: W => noW W
 | _ :: _ => false
theorem CR.noW {W : Wt} {Z Z' : Nat -> Prop} {β β' : Beta} {H H' : Hp} {c : Ctx} (h : CR W Z β H c) (hW : ∀ y ∈ W, y.2 = none) (hZ : ZLe Z H Z' H') : CR W Z' β' H' c := fun x hx => by
 obtain ⟨y, hy, hw⟩ := h x hx
 refine ⟨y, hy, ?_⟩
 have e := hW y hy
 obtain ⟨y1, y2⟩ := y
 simp only at e
 subst e
 obtain ⟨b, hb, hq⟩ := hw
 exact ⟨b, (hZ b hb).1, fun H'' hh => hq H'' fun i c hc => hh i c ((hZ b hb).2 i c hc)⟩
theorem noW_mem : ∀ {W : Wt}, noW W = true -> ∀ y ∈ W, y.2 = none
 | [], _, y, hy => by cases hy
 | (_, none) :: W, h, y, hy => by
  rcases List.mem_cons.1 hy with rfl|hy
  ·rfl
  ·exact noW_mem (W := W) h y hy
 | (_, some _) :: _, h, _, _ => by cases h
def capsA : List (Nat × Nat) -> List DV
 | [] => []
 | (k, o) :: r => .one (.ptr k o) :: capsA r
theorem capsA_ok {Z : Nat -> Prop} {β : Beta} {H : Hp} : ∀ {l l' : List (Nat × Nat)}, capsR β l l' -> All2 (RDV Z H β) (capsA l) (l'.map ptrV)
 | [], [], _ => trivial
 | (k, o) :: r, (b, o') :: r', ⟨h1, ⟨N, h2⟩, h3⟩ => ⟨⟨_, rfl, b, N, h2, by rw [h1]⟩, capsA_ok h3⟩
section
variable {p : Par} {base rs : Nat} {Q : DEnv -> Bx -> Nat -> Prop} {r : List SOper} {W : Wt} {A : List Nat} {E : DEnv} {S : Bx} {nk : Nat} {id : Nat} {dst : Option Nat} {aid : Option Nat} {ws : List Nat} {keep : Bool}
theorem dw_cx {f : FuncId} {args : List Opd} {ds : List DV} {R : DV -> Bx -> Nat -> Prop} (hvs : ros E args = some ds) (hW : noW W = true) (hT : noT E = true) (hc : DX p f ds S nk R) (h : ∀ d S' nk', R d S' nk' -> DPW p base 0 Q r W A (setD E dst d) S' nk') : DPW p base rs Q (⟨id, dst, .cf f args, none, aid, ws, keep⟩ :: r) W A E S nk := .mk fun Z β H F c hS hE hC hA => by
 simp only [wOps, wantedA, if_true]
 refine (hc Z β H _ hS (ros_ok hE hvs)).mono ?_
 rintro v H' ⟨d, S', nk', Z', β', hS', hr, hZ, hB, hR⟩
 have hC' : CR W Z' β' H' c := hC.noW (noW_mem hW) hZ
 exact ⟨hC'.watch ws, (h d S' nk' hR).run Z' β' H' _ c hS' ((hE.mono0 hZ hB hT).set dst hr) hC' ⟨hA.1, fun j hj => absurd hj oM⟩⟩
theorem dw_cv0 {x : Opd} {f : FuncId} {args : List Opd} {ds : List DV} {R : DV -> Prop} (hx : ro E x = some (.one (.f (.c (.fn f []))))) (hfn : isFn p.P f = true) (hvs : ros E args = some ds) (hf : allB frV ds = true) (hc : DCalls p.P p.G p.GH f ds R) (h : ∀ d, R d -> DPW p base rs Q r W A (setD E dst d) S nk) : DPW p base rs Q (⟨id, dst, .cv x args, none, aid, ws, keep⟩ :: r) W A E S nk := .mk fun Z β H F c hS hE hC hA => by
 have hw := (dw_cf (id := id) (dst := dst) (aid := aid) (ws := ws) (keep := keep) hvs hf hc h).run Z β H F c hS hE hC hA
 obtain ⟨cx, hcx, hr⟩ := ro_ok hE hx
 cases hr
 simp only [wOps, wantedA, if_true] at hw
 simp only [wOps, wantedA, if_true, hcx, List.map_nil, List.append_nil]
 exact ⟨hfn, hw⟩
end
end Go.Ab

namespace Go.Ab
section
variable {Z : Nat -> Prop} {H H' : Hp} {β β' : Beta} {kb : Nat}
end
end Go.Ab

namespace Go.Ab
section
variable {p : Par} {base rs : Nat} {Q : DEnv -> Bx -> Nat -> Prop} {r : List SOper} {W : Wt} {A : List Nat} {E : DEnv} {S : Bx} {nk : Nat} {id : Nat} {dst : Option Nat} {aid : Option Nat} {ws : List Nat} {keep : Bool}
end
end Go.Ab

namespace Go.Ab
section
variable {p : Par} {base rs n : Nat} {Q : DEnv -> Bx -> Nat -> Prop} {r : List SOper} {W : Wt} {A : List Nat} {E : DEnv} {S : Bx} {nk : Nat} {id : Nat} {dst : Option Nat} {aid : Option Nat} {ws : List Nat} {keep : Bool}
theorem CR.mtupd {Z : Nat -> Prop} {β : Beta} {H H' : Hp} {b kb N : Nat} {c : Ctx} {x : Bk} (hS : SR p Z β H S nk) (hk : lk S kb = some x) (hC : CR W Z β H c) (hZ : ZLe Z H Z H') (hg : ∀ b', b' ≠ b -> H'.get b' = H.get b') (hb : β (kb, 0) = some (.blk b N)) (hw : wOk0 S kb W = true) : CR W Z β H' c := CR.upd (k := (kb, 0)) hS hk hC hZ hg hb hw
end
end Go.Ab

namespace Go.Ab
section
variable {Z Z' : Nat -> Prop} {H H' : Hp} {β β' : Beta}
end
section
variable {p : Par} {base rs : Nat} {Q : DEnv -> Bx -> Nat -> Prop} {r : List SOper} {W : Wt} {A : List Nat} {E : DEnv} {S : Bx} {nk : Nat} {id : Nat} {dst : Option Nat} {aid : Option Nat} {ws : List Nat} {keep : Bool}
end
end Go.Ab

namespace Go.Ab
section
variable {p : Par} {base rs : Nat} {Q : DEnv -> Bx -> Nat -> Prop} {r : List SOper} {W : Wt} {A : List Nat} {E : DEnv} {S : Bx} {nk : Nat} {id : Nat} {dst : Option Nat} {aid : Option Nat} {ws : List Nat} {keep : Bool}
end
end Go.Ab

namespace Go.Ab
def envL (E : DEnv) : List Nat -> Option (List DC)
 | [] => some []
 | t :: ts => match lk E t, envL E ts with
  | some (.one d), some l => some (d :: l)
  | _, _ => none
def envOf : List Nat -> List DC -> DEnv
 | t :: ts, d :: l => (t, .one d) :: envOf ts l
 | _, _ => []
def setPsD (E : DEnv) : List Nat -> List DV -> DEnv
 | t :: ps, d :: ds => setPsD (setD E (some t) d) ps ds
 | _, _ => E
section
variable {Z Z' : Nat -> Prop} {β β' : Beta} {H H' : Hp} {E : DEnv} {F : T V}
theorem envL_ok (hE : ER Z β H E F) : ∀ {ts : List Nat} {l : List DC}, envL E ts = some l -> ∃ cs, TsR F ts cs /\ All2 (RD Z H β) l cs
 | [], l, h => by simp [envL] at h; subst h; exact ⟨[], trivial, trivial⟩
 | t :: ts, l, h => by
  simp only [envL] at h
  split at h
  ·rename_i d r h1 h2
   obtain rfl := Option.some.inj h
   obtain ⟨v, e1, c, rfl, hr⟩ := hE t _ h1
   obtain ⟨cs, e2, e3⟩ := envL_ok hE h2
   exact ⟨c :: cs, ⟨e1, e2⟩, hr, e3⟩
  ·cases h
theorem envOf_ok : ∀ {ts : List Nat} {l : List DC} {cs : List C}, TsR F ts cs -> All2 (RD Z H β) l cs -> ER Z β H (envOf ts l) F
 | [], _, _, _, _ => fun n d hd => by cases hd
 | _ :: _, [], _, _, _ => fun n d hd => by cases hd
 | t :: ts, d :: l, [], h, _ => h.elim
 | t :: ts, d :: l, c :: cs, h, ha => fun n x hx => by
  simp only [envOf] at hx
  rw [lk_cons] at hx
  split at hx
  ·rename_i e
   subst e
   obtain rfl := Option.some.inj hx
   exact ⟨_, h.1, c, rfl, ha.1⟩
  ·exact envOf_ok h.2 ha.2 n x hx
theorem setPsD_ok : ∀ {ps : List Nat} {ds : List DV} {args : List V} {E : DEnv} {F : T V}, ER Z β H E F -> All2 (RDV Z H β) ds args -> ER Z β H (setPsD E ps ds) (setPs F ps args)
 | [], _, _, _, _, hE, _ => by simpa [setPsD, setPs] using hE
 | _ :: _, [], [], _, _, hE, _ => hE
 | t :: ps, d :: ds, v :: args, E, F, hE, ha => setPsD_ok (ps := ps) (hE.set (some t) ha.1) ha.2
 | _ :: _, [], _ :: _, _, _, _, ha => ha.elim
 | _ :: _, _ :: _, [], _, _, _, ha => ha.elim
end
abbrev Par.round (p : Par) (ρ : Nat) (Z : Nat -> Prop) (nk : Nat) (β : Beta) (H : Hp) : Par := ⟨p.P, p.G, p.GH, Z, p.lo, nk, β, H, some ρ⟩
theorem SR.round {p : Par} {Z : Nat -> Prop} {β : Beta} {H : Hp} {S : Bx} {nk : Nat} (h : SR p Z β H S nk) (ρ : Nat) : SR (p.round ρ Z nk β H) Z β H S nk :=
 let h := h.hold
 ⟨h.wf, h.lo, h.z, h.zlo, h.zz, h.glob, h.nk, h.bd, h.box, h.inj, h.blo, h.anch, h.ancn⟩
theorem SR.unround {p : Par} {Z Z' : Nat -> Prop} {β β' : Beta} {H H' : Hp} {S' : Bx} {nk nk' : Nat} {ρ : Nat} (h : SR (p.round ρ Z nk β H) Z' β' H' S' nk') : SR (p.hold Z nk β H) Z' β' H' S' nk' :=
 ⟨h.wf, h.lo, h.z, h.zlo, h.zz, h.glob, h.nk, h.bd, h.box, h.inj, h.blo, h.anch, h.ancn⟩
def roundD (k : Nat) (R : DV -> Bx -> Nat -> Prop) : Exit -> DEnv -> Bx -> Nat -> Prop
 | .normal, _, S, nk => ∃ st j f n ts ps sg bd l, lk S k = some (.mp (.lp st j f n ts ps sg bd) l) /\ R (.bool true) (put k (.mp (.lp .ready none f n ts ps sg bd) l) S) nk
 | .ret, _, S, nk => ∃ st j f n ts ps sg bd l, lk S k = some (.mp (.lp st j f n ts ps sg bd) l) /\ R (.bool false) (put k (.mp (.lp .done (some .ret) f n ts ps sg bd) l) S) nk
 | .exit id, _, S, nk => ∃ st j f n ts ps sg bd l, lk S k = some (.mp (.lp st j f n ts ps sg bd) l) /\ R (.bool false) (put k (.mp (.lp .done (some (.exit id)) f n ts ps sg bd) l) S) nk
 | _, _, _, _ => False
section
variable {p : Par} {Z : Nat -> Prop} {β : Beta} {H : Hp} {S : Bx} {nk : Nat}
theorem SR.lpb (hS : SR p Z β H S nk) {k b N : Nat} {st : LoopState} {j : Option Code} {f : FuncId} {n : Nat} {ts ps : List Nat} {sg bd : Code} {l : List DC} (hb : lk S k = some (.mp (.lp st j f n ts ps sg bd) l)) (hs : β (k, 0) = some (.blk b N)) :
  ∃ F cs, H.get b = some (.lp st j f n F ps.toArray sg bd) /\ TsR F ts cs /\ All2 (RD Z H β) l cs := by
 obtain ⟨s, hs', hbx⟩ := hS.box (k, 0) _ (lk2_of hb rfl)
 rw [hs] at hs'
 obtain rfl := Option.some.inj hs'
 obtain ⟨g1, g2, g3, cs, rest, ⟨F, g4, g5⟩, g8, g7⟩ := hbx
 have g8 : rest = [] := g8
 subst g8
 rw [List.append_nil] at g5
 exact ⟨F, cs, g4, g5, g7⟩
theorem SR.lpSet (hS : SR p Z β H S nk) {k b N : Nat} {st st' : LoopState} {j j' : Option Code} {f : FuncId} {n : Nat} {F : T V} {ts ps : List Nat} {sg bd : Code} {l : List DC} (hb : lk S k = some (.mp (.lp st j f n ts ps sg bd) l)) (hs : β (k, 0) = some (.blk b N)) (hF : H.get b = some (.lp st j f n F ps.toArray sg bd)) :
  SR p Z β (H.add b (.lp st' j' f n F ps.toArray sg bd)) (put k (.mp (.lp st' j' f n ts ps sg bd) l) S) nk /\ ZLe Z H Z (H.add b (.lp st' j' f n F ps.toArray sg bd)) := by
 obtain ⟨F', cs, g4, g5, g7⟩ := hS.lpb hb hs
 rw [hF] at g4
 obtain rfl : F = F' := by simpa using g4
 refine hS.updK (x' := .mp (.lp st' j' f n ts ps sg bd) l) (rest := []) (cs := cs) hb rfl hs g7 (fun b' hb' => Hp.get_add_ne _ _ hb') rfl ⟨F, by simp, by simpa using g5⟩ rfl
theorem ayield_d {k b N : Nat} {j : Option Code} {f : FuncId} {n : Nat} {ts ps : List Nat} {sg bd : Code} {sa sb : SC} {l : List DC} {ds : List DV} {args : List V} {R : DV -> Bx -> Nat -> Prop} (hS : SR p Z β H S nk) (hb : lk S k = some (.mp (.lp .ready j f n ts ps sg bd) l)) (hs : β (k, 0) = some (.blk b N))
  (hlen : ds.length = ps.length) (ha : All2 (RDV Z H β) ds args) (hsg : cpCode p.P p.G n sg = some sa) (hbd : cpCode p.P p.G n bd = some sb)
  (h : ∀ ρ Z β H, DPS (p.round ρ Z nk β H) n sa (fun e E1 S1 nk1 => e = .normal /\ ∃ st j1 f1 n1 ts1 ps1 sg1 bd1 l1, st = .ready /\ lk S1 k = some (.mp (.lp st j1 f1 n1 ts1 ps1 sg1 bd1) l1) /\ DPS (p.round ρ Z nk β H) n sb (roundD k R) E1 (put k (.mp (.lp .busy j1 f1 n1 ts1 ps1 sg1 bd1) l1) S1) nk1) (setPsD (envOf ts l) ps ds) S nk) :
  AYield p.P p.G b args H fun v H' => ∃ d S' nk' Z' β', SR p Z' β' H' S' nk' /\ RDV Z' H' β' d v /\ ZLe Z H Z' H' /\ BLe0 β β' /\ R d S' nk' := by
 obtain ⟨F0, cs, g4, g5, g7⟩ := hS.lpb hb hs
 have hkn := hS.lt hb
 refine syield_ok g4 (by rw [<- ha.len, hlen]; simp) hsg hbd fun ρ => ?_
 refine swp_mono ((h ρ Z β H).run Z β H _ (hS.round ρ) (setPsD_ok (envOf_ok g5 g7) ha)) fun e F1 H1 he => ?_
 obtain ⟨E1, S1, nk1, Z1, β1, h1, h2, he', st, j1, f1, n1, ts1, ps1, sg1, bd1, l1, hst, hb1, hbody⟩ := he
 subst he' hst
 have hs1 : β1 (k, 0) = some (.blk b N) := (h1.anch (k, 0) hkn rfl).trans hs
 obtain ⟨F1', cs1, q4, q5, q7⟩ := h1.lpb hb1 hs1
 refine ⟨rfl, j1, f1, n1, F1', ps1.toArray, sg1, bd1, q4, ?_⟩
 obtain ⟨u1, u2⟩ := h1.lpSet (st' := .busy) (j' := j1) hb1 hs1 q4
 have hE1 := h2.mono u2 (BLe.refl _)
 refine swp_mono (hbody.run Z1 β1 _ _ u1 hE1) fun e F2 H2 ⟨E2, S2, nk2, Z2, β2, v1, v2, hq⟩ => ?_
 have hs2 : β2 (k, 0) = some (.blk b N) := (v1.anch (k, 0) hkn rfl).trans hs
 have fin : ∀ (t : Bool) (st' : LoopState) (j' : Option Code), (∃ st j f n ts ps sg bd l, lk S2 k = some (.mp (.lp st j f n ts ps sg bd) l) /\ R (.bool t) (put k (.mp (.lp st' j' f n ts ps sg bd) l) S2) nk2) ->
   ∃ st j f n F ps sg bd, H2.get b = some (.lp st j f n F ps sg bd) /\ ∃ d S' nk' Z' β', SR p Z' β' (H2.add b (.lp st' j' f n F ps sg bd)) S' nk' /\ RDV Z' (H2.add b (.lp st' j' f n F ps sg bd)) β' d (.bool t) /\ ZLe Z H Z' (H2.add b (.lp st' j' f n F ps sg bd)) /\ BLe0 β β' /\ R d S' nk' := by
  rintro t st' j' ⟨st, j, f, n, ts, ps, sg, bd, l, hb2, hR⟩
  obtain ⟨F2', cs2, w4, w5, w7⟩ := v1.lpb hb2 hs2
  obtain ⟨x1, x2⟩ := v1.lpSet (st' := st') (j' := j') hb2 hs2 w4
  obtain ⟨y1, y2, y3⟩ := hS.free x1.unround
  exact ⟨st, j, f, n, F2', ps.toArray, sg, bd, w4, _, _, _, Z2, β2, y1, exact_ok rfl, y2, y3, hR⟩
 cases e with
 | normal => exact fin true .ready none hq
 | ret => exact fin false .done (some .ret) hq
 | exit id => exact fin false .done (some (.exit id)) hq
 | _ => exact hq.elim
end
section
variable {p : Par} {base rs : Nat} {Q : DEnv -> Bx -> Nat -> Prop} {r : List SOper} {W : Wt} {A : List Nat} {E : DEnv} {S : Bx} {nk : Nat} {id : Nat} {dst : Option Nat} {aid : Option Nat} {ws : List Nat} {keep : Bool}
theorem dw_yl {x : Opd} {args : List Opd} {ds : List DV} {k : Nat} {j : Option Code} {f : FuncId} {n : Nat} {ts ps : List Nat} {sg bd : Code} {sa sb : SC} {l : List DC} {R : DV -> Bx -> Nat -> Prop} (hx : ro E x = some (.one (.yl k))) (hvs : ros E args = some ds) (hb : lk S k = some (.mp (.lp .ready j f n ts ps sg bd) l))
  (hlen : ds.length = ps.length) (hW : noW W = true) (hT : noT E = true) (hsg : cpCode p.P p.G n sg = some sa) (hbd : cpCode p.P p.G n bd = some sb)
  (hc : ∀ ρ Z β H, DPS (p.round ρ Z nk β H) n sa (fun e E1 S1 nk1 => e = .normal /\ ∃ st j1 f1 n1 ts1 ps1 sg1 bd1 l1, st = .ready /\ lk S1 k = some (.mp (.lp st j1 f1 n1 ts1 ps1 sg1 bd1) l1) /\ DPS (p.round ρ Z nk β H) n sb (roundD k R) E1 (put k (.mp (.lp .busy j1 f1 n1 ts1 ps1 sg1 bd1) l1) S1) nk1) (setPsD (envOf ts l) ps ds) S nk)
  (h : ∀ d S' nk', R d S' nk' -> DPW p base 0 Q r W A (setD E dst d) S' nk') : DPW p base rs Q (⟨id, dst, .cv x args, none, aid, ws, keep⟩ :: r) W A E S nk := .mk fun Z β H F c hS hE hC hA => by
 obtain ⟨cx, hcx, b, N, hs, rfl⟩ := ro_ok hE hx
 simp only [wOps, wantedA, if_true, hcx]
 refine (ayield_d hS hb hs hlen (ros_ok hE hvs) hsg hbd hc).mono ?_
 rintro v H' ⟨d, S', nk', Z', β', hS', hr, hZ, hB, hR⟩
 have hC' : CR W Z' β' H' c := hC.noW (noW_mem hW) hZ
 exact ⟨hC'.watch ws, (h d S' nk' hR).run Z' β' H' _ c hS' ((hE.mono0 hZ hB hT).set dst hr) hC' ⟨hA.1, fun j hj => absurd hj oM⟩⟩
end
section
variable {p : Par} {base rs : Nat} {Q : DEnv -> Bx -> Nat -> Prop} {r : List SOper} {W : Wt} {A : List Nat} {E : DEnv} {S : Bx} {nk : Nat} {id : Nat} {dst : Option Nat} {aid : Option Nat} {ws : List Nat} {keep : Bool}
end
def jumpD (Q : Exit -> DEnv -> Bx -> Nat -> Prop) : Option Code -> DEnv -> Bx -> Nat -> Prop
 | none => Q .normal
 | some .ret => Q .ret
 | some (.exit id) => Q (.exit id)
 | _ => fun _ _ _ => False
section
variable {p : Par} {n : Nat} {Q : Exit -> DEnv -> Bx -> Nat -> Prop} {E : DEnv} {S : Bx} {nk : Nat}
theorem ds_rf (hρ : p.ρ = none) {d : Opd} {ps : List Nat} {sa sb : SC} {f : FuncId} {caps : List (Nat × Nat)} (ts : List Nat) {l : List DC} (hd : ro E d = some (.one (.fn f caps))) (hf : isFn p.P f = true) (hT : noT E = true) (hl : envL E ts = some l)
  (h : ∀ fid sg bd, cpCode p.P p.G n sg = some sa -> cpCode p.P p.G n bd = some sb -> DX p f (.one (.yl nk) :: capsA caps) ((nk, .mp (.lp .ready none fid n ts ps sg bd) l) :: S) (nk + 1)
   fun _ S' nk' => ∃ st j f1 n1 ts1 ps1 sg1 bd1 l1, lk S' nk = some (.mp (.lp st j f1 n1 ts1 ps1 sg1 bd1) l1) /\ st ≠ .busy /\ jumpD Q j E (era nk S') nk') : DPS p n (.rf d ps sa sb) Q E S nk := .mk fun Z β H F hS hE => by
 obtain ⟨cx, hcx, caps', rfl, hcaps⟩ := ro_ok hE hd
 obtain ⟨cs, hts, hcs⟩ := envL_ok hE hl
 rw [hρ]
 refine swp_rf hcx hf fun fid sg bd hsg hbd => ?_
 have hfr : H.get H.nx = none := hS.wf.fresh (Nat.le_refl _)
 have hg : ∀ b', b' ≠ H.nx -> (H.push (.lp .ready none fid n F ps.toArray sg bd)).get b' = H.get b' := fun b' hb' => by rw [Hp.get_push, if_neg hb']
 have hz : ¬ Z H.nx := fun hz => absurd (hS.z _ hz) oM
 obtain ⟨hS', hZ, hB⟩ := hS.newB (x := .mp (.lp .ready none fid n ts ps sg bd) l) (b := H.nx) (N0 := 0) (H' := H.push (.lp .ready none fid n F ps.toArray sg bd)) rfl
  (fun β' hB hZ => ⟨hz, hS.lo, by simp, cs, [], ⟨F, by rw [Hp.get_push, if_pos rfl], by simpa using hts⟩, rfl, Bk.rel_mono (x := .mp (.lp .ready none fid n ts ps sg bd) l) hZ hB hcs⟩) hz (fun k N hk => absurd (hS.bd k _ N hk) (by omega)) hS.lo (by simp) (by simp) (hS.wf.push _) hg
 have hBs : updB β nk (.blk H.nx 0) (nk, 0) = some (.blk H.nx 0) := updB_self _ _ _
 have hargs : All2 (RDV Z (H.push (.lp .ready none fid n F ps.toArray sg bd)) (updB β nk (.blk H.nx 0))) (.one (.yl nk) :: capsA caps) (.one (.yld H.nx) :: caps'.map ptrV) := ⟨⟨_, rfl, _, _, hBs, rfl⟩, capsA_ok (capsR.mono hB hcaps)⟩
 refine ((h fid sg bd hsg hbd) Z _ _ _ hS' hargs).mono ?_
 rintro v H' ⟨d', S', nk', Z', β', hS2, _, hZ2, hB2, st, j, f1, n1, ts1, ps1, sg1, bd1, l1, hb, hst, hj⟩
 have hs2 : β' (nk, 0) = some (.blk H.nx 0) := hB2 _ _ hBs
 obtain ⟨F1, cs1, w4, w5, w7⟩ := hS2.lpb hb hs2
 obtain ⟨x1, x2⟩ := hS2.lpSet (st' := .exhausted) (j' := j) hb hs2 w4
 refine ⟨st, j, f1, n1, F1, ps1.toArray, sg1, bd1, w4, hst, ?_⟩
 have hS3 : SR p Z' β' (H'.add H.nx (.lp .exhausted j f1 n1 F1 ps1.toArray sg1 bd1)) (era nk S') nk' := x1.keepS fun k x hk => by
  rw [lk_era] at hk
  split at hk
  ·cases hk
  ·rename_i e
   rw [lk_put, if_neg e]; exact hk
 have hE3 : ER Z' β' (H'.add H.nx (.lp .exhausted j f1 n1 F1 ps1.toArray sg1 bd1)) E F := (((hE.mono hZ hB).mono0 hZ2 hB2 hT).mono x2 (BLe.refl _))
 cases j with
 | none => exact ⟨_, _, _, _, _, hS3, hE3, hj⟩
 | some c => cases c <;> first|exact ⟨_, _, _, _, _, hS3, hE3, hj⟩|exact hj.elim
end
end Go.Ab

namespace Go.Ab
section
variable {p : Par} {base rs : Nat} {Q : DEnv -> Bx -> Nat -> Prop} {r : List SOper} {W : Wt} {A : List Nat} {E : DEnv} {S : Bx} {nk : Nat} {id : Nat} {dst : Option Nat} {aid : Option Nat} {ws : List Nat} {keep : Bool}
end
end Go.Ab

namespace Go.Ab
section
variable {p : Par} {base rs : Nat} {Q : DEnv -> Bx -> Nat -> Prop} {r : List SOper} {W : Wt} {A : List Nat} {E : DEnv} {S : Bx} {nk : Nat} {id : Nat} {dst : Option Nat} {aid : Option Nat} {ws : List Nat} {keep : Bool}
end
end Go.Ab

namespace Go.Ab
section
variable {P : Program} {G : Nat} {H : Hp}
theorem isOne_of {μ : Nat -> Pl} {K : Nat -> Prop} {v : V} {x : Value} (h : RV1 μ K v x) : isOne v = true := by
 cases v with
 | tup l => exact h.elim
 | _ => rfl
theorem anext_ok {b mb since last clk : Nat} {seen : List Nat} {es : List (V × V × Nat)} {R : V -> Hp -> Prop} (hb : H.get b = some (.it mb since seen last)) (hm : H.get mb = some (.st es clk)) (hold : ∀ e ∈ es, e.2.2 < since) (hsc : since <= last)
  (h0 : (∀ e ∈ es, e.2.2 ∈ seen) -> R (.tup [.one (.bool false)]) H)
  (h1 : ∀ e ∈ es, e.2.2 ∉ seen -> isOne e.1 = true -> isOne e.2.1 = true -> R (.tup [.one (.bool true), e.1, e.2.1]) (H.add b (.it mb since (seen ++ [e.2.2]) clk))) : ANext P G b H R := by
 intro μ K w hR hK ty
 obtain ⟨_, _, hob, hkm, hoff⟩ := hR.blk b _ hb
 obtain ⟨ces, _, hom, hall⟩ := hR.blk mb _ hm
 have hpt : (μ b).addr 0 = ⟨(μ b).blk, 0, none⟩ := by simp [Pl.addr, hoff]
 rw [hpt]
 have hent : ∀ x ∈ ces.toList, ∃ e ∈ es, RV1 μ K e.1 x.key /\ RV1 μ K e.2.1 x.val /\ e.2.2 = x.born := fun x hx => by
  obtain ⟨i, hi⟩ := List.getElem?_of_mem hx
  obtain ⟨e, he, hr⟩ := hall.at' i x hi
  exact ⟨e, List.mem_of_getElem? he, hr⟩
 have hent' : ∀ e ∈ es, ∃ x ∈ ces.toList, e.2.2 = x.born := fun e he => by
  obtain ⟨i, hi⟩ := List.getElem?_of_mem he
  obtain ⟨x, hx, hr⟩ := hall.at i e hi
  exact ⟨x, List.mem_of_getElem? hx, hr.2.2⟩
 have hold' : ∀ x ∈ ces.toList, x.born < since := fun x hx => by
  obtain ⟨e, he, _, _, hr⟩ := hent x hx
  rw [<- hr]; exact hold e he
 simp only [Instr.next, getObj, Sem.run_bind, Sem.run, hob, hom, Result.andThen, next_test_false seen.toArray ces since last hold' hsc, Bool.false_eq_true, if_false]
 have hLm : ∀ x, x ∈ (Array.filter (fun e => !seen.toArray.contains e.born) ces).toList ↔ x ∈ ces.toList /\ x.born ∉ seen := fun x => by simp
 have hmem : ∀ x ∈ (Array.filter (fun e => !seen.toArray.contains e.born) ces).toList, x.born < since := fun x hx => hold' x ((hLm x).1 hx).1
 generalize Array.filter (fun e => !seen.toArray.contains e.born) ces = L at hmem hLm ⊢
 have e1 : L.filter (fun x => decide (x.born < since)) = L := Array.filter_eq_self.2 (fun x hx => by simpa using hmem x (by simpa using hx))
 have e2 : L.filter (fun x => decide (x.born >= since)) = #[] := by
  rw [Array.filter_eq_empty_iff]
  intro x hx
  have := hmem x (by simpa using hx)
  simp
  omega
 simp only [e1, e2, Array.append_empty]
 by_cases hz : L.size = 0
 ·have : L = #[] := Array.eq_empty_of_size_eq_zero hz
  subst this
  refine ⟨.tuple #[.bool false], w, ?_, _, H, μ, K, h0 fun e he => ?_, ⟨[.bool false], rfl, rfl, trivial⟩, hR, Fr.refl hR⟩
  ·simp [choose, Sem.run, Question.forced]
  ·obtain ⟨x, hx, hxe⟩ := hent' e he
   refine Classical.byContradiction fun hn => ?_
   have := (hLm x).2 ⟨hx, by rw [<- hxe]; exact hn⟩
   simp at this
 ·have hne : L.isEmpty = false := by simp [Array.isEmpty, hz]
  simp only [hne, Bool.false_eq_true, if_false, Array.empty_append, Array.size_map]
  have hch : ∃ (j d : Nat), j < L.size /\ w.drawn <= d /\ (choose (Question.mapNext L.size)).run P w = .ok j { w with drawn := d } := by
   by_cases hf : L.size <= 1
   ·exact ⟨0, w.drawn, by omega, Nat.le_refl _, by simp [choose, Sem.run, Question.forced, hf]⟩
   ·exact ⟨_, w.drawn + 1, Nat.mod_lt _ oM, Nat.le_succ _, by
     simp only [choose, Sem.run, Question.forced, decide_eq_true_eq, hf, if_false, Question.cut]
     rfl⟩
  obtain ⟨j, d, hj, hd, hrun⟩ := hch
  have hxm : L[j] ∈ L.toList := by simp
  obtain ⟨hx1, hx2⟩ := (hLm _).1 hxm
  obtain ⟨e, he, hk, hv, hbn⟩ := hent _ hx1
  have hR2 : Rel G μ K H { w with drawn := d } := hR.drawn d
  obtain ⟨r1, r2⟩ := hR2.setB (bk' := .it mb since (seen ++ [e.2.2]) clk) (o := .mapIter (some (μ mb).blk) since (seen.toArray.push L[j].born) clk) hb rfl rfl ⟨(), (), by simp [hbn], hkm, hoff⟩
  refine ⟨.tuple #[.bool true, L[j].key, L[j].val], _, ?_, _, _, μ, K, h1 e he (by rw [hbn]; exact hx2) (isOne_of hk) (isOne_of hv), ⟨[.bool true, L[j].key, L[j].val], rfl, rfl, hk, hv, trivial⟩, r1, (Fr.drawn hR d hd).trans hR.lt' r2⟩
  have hset : ∀ ob, (setObj (μ b).blk ob).run P { w with drawn := d } = .ok () { w with drawn := d, heap := w.heap.setIfInBounds (μ b).blk ob } := fun ob => by simp [setObj, Sem.run, hob]
  simp only [hrun, Array.getElem?_map, Array.getElem?_eq_getElem hj, Option.map_some, Sem.run_bind, hset, Result.andThen]
  rfl
end
end Go.Ab

namespace Go.Ab
def stUp (es : List (V × V × Nat)) (clk : Nat) (l : List C) (c : C) : Option (List (V × V × Nat) × Nat) := match isPtL l, sfind l es 0 with
 | true, some none => some (es ++ [(.agg l, .one c, clk)], clk + 1)
 | true, some (some i) => some (sset es i (.one c), clk)
 | _, _ => none
section
variable {p : Par} {base rs : Nat} {Q : DEnv -> Bx -> Nat -> Prop} {r : List SOper} {W : Wt} {A : List Nat} {E : DEnv} {S : Bx} {nk : Nat} {id : Nat} {dst : Option Nat} {aid : Option Nat} {ws : List Nat} {keep : Bool}
theorem dw_mkst (h : DPW p base rs Q r W A (setD E dst (.one (.om nk))) ((nk, .mp (.st [] 0) []) :: S) (nk + 1)) : DPW p base rs Q (⟨id, dst, .a .mkst, none, none, ws, keep⟩ :: r) W A E S nk := .mk fun Z β H F c hS hE hC hA => by
 simp only [wOps, wantedA, if_true, aAlloc]
 have hfr : H.get H.nx = none := hS.wf.fresh (Nat.le_refl _)
 have hg : ∀ b', b' ≠ H.nx -> (H.push (.st [] 0)).get b' = H.get b' := fun b' hb' => by rw [Hp.get_push, if_neg hb']
 have hz : ¬ Z H.nx := fun hz => absurd (hS.z _ hz) oM
 obtain ⟨hS', hZ, hB⟩ := hS.newB (x := .mp (.st [] 0) []) (b := H.nx) (N0 := 0) (H' := H.push (.st [] 0)) rfl (fun β' hB hZ => ⟨hz, hS.lo, by simp, [], [], ⟨(), by rw [Hp.get_push, if_pos rfl], rfl⟩, rfl, trivial⟩) hz (fun k N hk => absurd (hS.bd k _ N hk) (by omega)) hS.lo (by simp) (by simp) (hS.wf.push _) hg
 exact h.run Z _ _ _ c hS' ((hE.mono hZ hB).set dst ⟨_, rfl, _, _, updB_self _ _ _, rfl⟩) (hC.new hZ hB hg hfr) (hA.new (by simp) hg fun j hj hjA e => by have := (hA.2 j hj hjA).1; omega)
theorem SR.stb {Z : Nat -> Prop} {β : Beta} {H : Hp} (hS : SR p Z β H S nk) {kb : Nat} {es : List (V × V × Nat)} {clk : Nat} (hb : lk S kb = some (.mp (.st es clk) [])) {b N : Nat} (h1 : β (kb, 0) = some (.blk b N)) : H.get b = some (.st es clk) /\ b < H.nx := by
 obtain ⟨s, hs, hbx⟩ := hS.box (kb, 0) _ (lk2_of hb rfl)
 rw [h1] at hs
 obtain rfl := Option.some.inj hs
 obtain ⟨g1, g2, g3, cs, rest, ⟨_, g4, _⟩, _⟩ := hbx
 exact ⟨g4, g3⟩
theorem dw_stupd {m k x : Opd} {kb clk clk' : Nat} {i j : IntKind} {y z : Int} {es es' : List (V × V × Nat)} {cv : C} (hm : ro E m = some (.one (.om kb))) (hk : ro E k = some (.agg [.f (.c (.int i y)), .f (.c (.int j z))])) (hx : ro E x = some (.one (.f (.c cv)))) (hb : lk S kb = some (.mp (.st es clk) [])) (hu : stUp es clk [.int i y, .int j z] cv = some (es', clk')) (hW : wOk0 S kb W = true)
  (h : DPW p base rs Q r W A (setD E dst .undef) (put kb (.mp (.st es' clk') []) S) nk) : DPW p base rs Q (⟨id, dst, .e (.stupd m k x), none, aid, ws, keep⟩ :: r) W A E S nk := .mk fun Z β H F c hS hE hC hA => by
 obtain ⟨cm, hcm, b, N, h1, rfl⟩ := ro_ok hE hm
 obtain ⟨ck, hck, hrk⟩ := ro_ok hE hk
 have hcx := int_of hE hx
 have hkk : ck = [.int i y, .int j z] := by
  match ck, hrk with
  | [p, q], hrk =>
   obtain ⟨h3, h4, _⟩ := hrk
   cases h3
   cases h4
   rfl
 subst hkk
 obtain ⟨g4, g3⟩ := hS.stb hb h1
 have heff : aEff F H (.stupd m k x) = some (V.undef, H.add b (.st es' clk')) := by
  simp only [aEff, hcm, hck, hcx, g4]
  unfold stUp at hu
  split at hu
  ·rename_i e1 e2
   obtain ⟨rfl, rfl⟩ := Prod.mk.inj (Option.some.inj hu)
   simp only [e1, e2]
  ·rename_i i0 e1 e2
   obtain ⟨rfl, rfl⟩ := Prod.mk.inj (Option.some.inj hu)
   simp only [e1, e2]
  ·cases hu
 have hg : ∀ b', b' ≠ b -> (H.add b (.st es' clk')).get b' = H.get b' := fun b' hb' => Hp.get_add_ne _ _ hb'
 obtain ⟨hS', hZ⟩ := hS.updK (x' := .mp (.st es' clk') []) (rest := []) (cs := []) (H' := H.add b (.st es' clk')) hb rfl h1 trivial hg rfl ⟨(), by simp, rfl⟩ rfl
 simp only [wOps, wantedA, if_true, heff]
 have hC' := hC.mtupd hS hb hZ hg h1 hW
 exact ⟨hC'.watch ws, h.run Z β _ _ c hS' ((hE.mono hZ (BLe.refl _)).set dst undef_ok) hC' (hA.upd rfl hg h1)⟩
theorem dw_rng {m : Opd} {kb clk : Nat} {es : List (V × V × Nat)} (hm : ro E m = some (.one (.om kb))) (hb : lk S kb = some (.mp (.st es clk) []))
  (h : DPW p base rs Q r W A (setD E dst (.one (.ptr nk 0))) ((nk, .mp (.it clk [] clk) [.om kb]) :: S) (nk + 1)) : DPW p base rs Q (⟨id, dst, .e (.rng m), none, aid, ws, keep⟩ :: r) W A E S nk := .mk fun Z β H F c hS hE hC hA => by
 obtain ⟨cm, hcm, b, N, h1, rfl⟩ := ro_ok hE hm
 obtain ⟨g4, g3⟩ := hS.stb hb h1
 have hfr : H.get H.nx = none := hS.wf.fresh (Nat.le_refl _)
 have hg : ∀ b', b' ≠ H.nx -> (H.push (.it b clk [] clk)).get b' = H.get b' := fun b' hb' => by rw [Hp.get_push, if_neg hb']
 have hz : ¬ Z H.nx := fun hz => absurd (hS.z _ hz) oM
 obtain ⟨hS', hZ, hB⟩ := hS.newB (x := .mp (.it clk [] clk) [.om kb]) (b := H.nx) (N0 := 0) (H' := H.push (.it b clk [] clk)) rfl (fun β' hB hZ => ⟨hz, hS.lo, by simp, [.map b], [], ⟨b, by rw [Hp.get_push, if_pos rfl], rfl⟩, rfl, ⟨_, _, hB _ _ h1, rfl⟩, trivial⟩) hz (fun k N hk => absurd (hS.bd k _ N hk) (by omega)) hS.lo (by simp) (by simp) (hS.wf.push _) hg
 simp only [wOps, wantedA, if_true, aEff, hcm, g4]
 have hC' := hC.new hZ hB hg hfr
 exact ⟨hC'.watch ws, h.run Z _ _ _ c hS' ((hE.mono hZ hB).set dst ⟨_, rfl, _, _, updB_self _ _ _, rfl⟩) hC' (hA.new (by simp) hg fun j hj hjA e => by have := (hA.2 j hj hjA).1; omega)⟩
theorem dw_nx {x : Opd} {k kb since last clk : Nat} {seen : List Nat} {es : List (V × V × Nat)} (hx : ro E x = some (.one (.ptr k 0))) (hk : lk S k = some (.mp (.it since seen last) [.om kb])) (hb : lk S kb = some (.mp (.st es clk) [])) (hold : ∀ e ∈ es, e.2.2 < since) (hsc : since <= last) (hW : wOk0 S k W = true)
  (h0 : (∀ e ∈ es, e.2.2 ∈ seen) -> DPW p base rs Q r W A (setD E dst (.tup [.bool false])) S nk)
  (h1 : ∀ e ∈ es, e.2.2 ∉ seen -> DPW p base rs Q r W A (setD E dst (.tup [.bool true, toD e.1, toD e.2.1])) (put k (.mp (.it since (seen ++ [e.2.2]) clk) [.om kb]) S) nk) : DPW p base rs Q (⟨id, dst, .nx x, none, aid, ws, keep⟩ :: r) W A E S nk := .mk fun Z β H F c hS hE hC hA => by
 obtain ⟨cx, hcx, b, N, g1, rfl⟩ := ro_ok hE hx
 obtain ⟨s, hs, hbx⟩ := hS.box (k, 0) _ (lk2_of hk rfl)
 rw [g1] at hs
 obtain rfl := Option.some.inj hs
 obtain ⟨q1, q2, q3, cs, rest, ⟨mb, q4, q5⟩, q6, q7⟩ := hbx
 have q6 : rest = [] := q6
 subst q6
 rw [List.append_nil] at q5
 subst q5
 obtain ⟨⟨b2, N2, q8, q9⟩, _⟩ := q7
 obtain rfl : mb = b2 := by simpa using q9
 obtain ⟨m1, m2⟩ := hS.stb hb q8
 simp only [wOps, wantedA, if_true, hcx]
 refine anext_ok q4 m1 hold hsc (fun ha => ?_) fun e he hn i1 i2 => ?_
 ·exact ⟨hC.watch ws, (h0 ha).run Z β H _ c hS (hE.set dst ⟨_, rfl, ⟨_, rfl, .c _ rfl⟩, trivial⟩) hC hA⟩
 ·have hg : ∀ b', b' ≠ b -> (H.add b (.it mb since (seen ++ [e.2.2]) clk)).get b' = H.get b' := fun b' hb' => Hp.get_add_ne _ _ hb'
  obtain ⟨hS', hZ⟩ := hS.updK (x' := .mp (.it since (seen ++ [e.2.2]) clk) [.om kb]) (rest := []) (cs := [.map mb]) (H' := H.add b (.it mb since (seen ++ [e.2.2]) clk)) hk rfl g1 ⟨⟨_, _, q8, rfl⟩, trivial⟩ hg rfl ⟨mb, by simp, rfl⟩ rfl
  have hC' := hC.mtupd hS hk hZ hg g1 hW
  exact ⟨hC'.watch ws, (h1 e he hn).run Z β _ _ c hS' ((hE.mono hZ (BLe.refl _)).set dst ⟨_, rfl, ⟨_, rfl, .c _ rfl⟩, toD_ok _ i1, toD_ok _ i2, trivial⟩) hC' (hA.upd rfl hg g1)⟩
theorem dw_ent {x : Opd} {k kb since last clk st : Nat} {seen : List Nat} {es : List (V × V × Nat)} {e : V × V × Nat} (hx : ro E x = some (.one (.ptr k 0))) (hk : lk S k = some (.mp (.it since (seen ++ [st]) last) [.om kb])) (hb : lk S kb = some (.mp (.st es clk) [])) (hl : clk = last) (he : es.find? (fun e => e.2.2 == st) = some e) (hi : isOne e.1 = true) (hj : isOne e.2.1 = true)
  (h : DPW p base rs Q r W A (setD E dst (.tup [toD e.1, toD e.2.1])) S nk) : DPW p base rs Q (⟨id, dst, .e (.ent x), none, aid, ws, keep⟩ :: r) W A E S nk := .mk fun Z β H F c hS hE hC hA => by
 obtain ⟨cx, hcx, b, N, g1, rfl⟩ := ro_ok hE hx
 obtain ⟨s, hs, hbx⟩ := hS.box (k, 0) _ (lk2_of hk rfl)
 rw [g1] at hs
 obtain rfl := Option.some.inj hs
 obtain ⟨q1, q2, q3, cs, rest, ⟨mb, q4, q5⟩, q6, q7⟩ := hbx
 have q6 : rest = [] := q6
 subst q6
 rw [List.append_nil] at q5
 subst q5
 obtain ⟨⟨b2, N2, q8, q9⟩, _⟩ := q7
 obtain rfl : mb = b2 := by simpa using q9
 obtain ⟨m1, m2⟩ := hS.stb hb q8
 have heff : aEff F H (.ent x) = some (.tup [e.1, e.2.1], H) := by
  simp only [aEff, hcx, q4, m1, List.getLast?_append, List.getLast?_singleton, Option.some_or, hl, if_true, he]
 simp only [wOps, wantedA, if_true, heff]
 exact ⟨hC.watch ws, h.run Z β H _ c hS (hE.set dst ⟨_, rfl, toD_ok _ hi, toD_ok _ hj, trivial⟩) hC hA⟩
end
end Go.Ab

namespace Go.Ab
def noWs : List SOper -> Bool
 | [] => true
 | o :: r => match o.watch with
  | [] => noWs r
  | _ :: _ => false
section
variable {P : Program} {G base : Nat} {Q : T V -> Hp -> Prop}
theorem ctx_drop : ∀ {l : List SOper} {ctx ctx' : Ctx} {F : T V} {H : Hp}, noWs l = true -> wOps P G base Q l ctx F H -> wOps P G base Q l ctx' F H
 | [], _, _, _, _, _, h => h
 | o :: r, ctx, ctx', F, H, hn, h => by
  have hn' : o.watch = [] /\ noWs r = true := by
   unfold noWs at hn
   split at hn
   ·rename_i e; exact ⟨e, hn⟩
   ·cases hn
  obtain ⟨ho, hr⟩ := hn'
  rw [wOps] at h ⊢
  split at h
  ·rename_i hw
   rw [if_pos hw]
   cases hop : o.op with
   | p op =>
    simp only [hop] at h ⊢
    cases hv : aPure F op with
    | none => simp [hv] at h
    | some v => simp only [hv] at h ⊢; exact ctx_drop hr h
   | l op =>
    simp only [hop] at h ⊢
    cases hv : aLoad F H op with
    | none => simp [hv] at h
    | some v => simp only [hv] at h ⊢; exact ctx_drop hr h
   | a op =>
    simp only [hop] at h ⊢
    cases hv : aAlloc F op with
    | none => simp [hv] at h
    | some v =>
     simp only [hv] at h ⊢
     cases hai : o.aid with
     | none => simp only [hai] at h ⊢; exact ctx_drop hr h
     | some k => simp only [hai] at h ⊢; exact ctx_drop hr h
   | e op =>
    simp only [hop] at h ⊢
    cases hv : aEff F H op with
    | none => simp [hv] at h
    | some v => simp only [hv] at h ⊢; exact ⟨by rw [ho]; trivial, ctx_drop hr h.2⟩
   | cf f args =>
    simp only [hop] at h ⊢
    exact h.mono fun v H' hh => ⟨by rw [ho]; trivial, ctx_drop hr hh.2⟩
   | cv x args =>
    simp only [hop] at h ⊢
    split at h
    ·exact ⟨h.1, h.2.mono fun v H' hh => ⟨by rw [ho]; trivial, ctx_drop hr hh.2⟩⟩
    ·exact AYield.mono h fun v H' hh => ⟨by rw [ho]; trivial, ctx_drop hr hh.2⟩
    ·exact h.elim
   | nx x =>
    simp only [hop] at h ⊢
    split at h
    ·exact ANext.mono h fun v H' hh => ⟨by rw [ho]; trivial, ctx_drop hr hh.2⟩
    ·exact h.elim
   | no => simp only [hop] at h
  ·rename_i hw
   rw [if_neg hw]
   exact ctx_drop hr h
end
section
variable {p : Par} {base rs : Nat} {Q : DEnv -> Bx -> Nat -> Prop} {r : List SOper} {W : Wt} {A : List Nat} {E : DEnv} {S : Bx} {nk : Nat}
theorem dw_fgt (hn : noWs r = true) (h : DPW p base rs Q r [] A E S nk) : DPW p base rs Q r W A E S nk := .mk fun Z β H F c hS hE _ hA =>
 ctx_drop hn (h.run Z β H F [] hS hE (fun x hx => by cases hx) hA)
end
end Go.Ab

namespace Go.Ae
open Go.Ab Go.Proofs
set_option linter.unusedSimpArgs false
theorem mix : Tryz.prog.follows .mixedOrders = true := Tryz.checked.mixed
def digs : B := .row 8 [.int .u8 1, .int .u8 3, .int .u8 9, .int .u8 25, .int .u8 17, .int .u8 11, .int .u8 27, .int .u8 19] .lf false
def H00 (_ : Nat) : Hp := ⟨.nd (some digs) .lf .lf, 1⟩
structure Hid (Q : Prop) : Prop where
 get : Q
theorem goD {P Q : Prop} (k : Q) (h : Hid Q -> P := by intro goH; (repeat (first|refine dw_want rfl rfl ?_|refine dw_skip rfl rfl ?_|refine dw_skipU rfl ?_|refine dw_pickT rfl rfl ?_|refine dw_pickF rfl rfl ?_|refine dw_pick rfl dgA dgA ?_|refine dw_max rfl rfl ?_|refine dw_min rfl rfl ?_|refine dw_p rfl ?_|refine dw_l rfl ?_|refine dw_lk rfl ?_|refine dw_pg rfl dgA ?_|refine dw_lg rfl dgA ?_|refine dw_io1 rfl rfl oM oM ?_|refine dw_io0 rfl rfl oM oM ?_|refine dw_it0 rfl rfl oM oM ?_|refine dw_if0 rfl rfl oM (by decide) aM ?_|refine dw_if rfl rfl oM (by decide) aM ?_|refine dw_l (dload_data rfl rfl aM rfl) ?_|refine dw_lk (dload_data rfl rfl aM rfl) ?_|refine dw_l (dload_tree rfl rfl aM) ?_|refine dw_lk (dload_tree rfl rfl aM) ?_|refine dw_l (dload_tptr rfl rfl aM aM) ?_|refine dw_lk (dload_tptr rfl rfl aM aM) ?_|refine dw_a rfl ?_|refine dw_ai rfl rfl rfl ?_|refine dw_st rfl rfl rfl rfl rfl (Nat.le_of_ble_eq_true rfl) rfl ?_|refine dw_nil ?_|refine ds_seq ?_|refine ds_ops mix (fun base => ?_)|refine ds_skip ?_|refine ds_block ?_|refine ds_exit ?_)); first|exact goH.get|(revert base; exact goH.get)) : P := h ⟨k⟩
theorem goB {P Q : Prop} (k : Q) (h : Hid Q -> P := by intro goH; (repeat (first|refine dw_want rfl rfl ?_|refine dw_skip rfl rfl ?_|refine dw_skipU rfl ?_|refine dw_pickT rfl rfl ?_|refine dw_pickF rfl rfl ?_|refine dw_pick rfl dgA dgA ?_|refine dw_max rfl rfl ?_|refine dw_min rfl rfl ?_|refine dw_pB rfl aM ?_|refine dw_p rfl ?_|refine dw_l rfl ?_|refine dw_lk rfl ?_|refine dw_pg rfl dgA ?_|refine dw_lg rfl dgA ?_|refine dw_io1 rfl rfl oM oM ?_|refine dw_io0 rfl rfl oM oM ?_|refine dw_it0 rfl rfl oM oM ?_|refine dw_if0 rfl rfl oM (by decide) aM ?_|refine dw_if rfl rfl oM (by decide) aM ?_|refine dw_l (dload_data rfl rfl aM rfl) ?_|refine dw_lk (dload_data rfl rfl aM rfl) ?_|refine dw_l (dload_tree rfl rfl aM) ?_|refine dw_lk (dload_tree rfl rfl aM) ?_|refine dw_l (dload_tptr rfl rfl aM aM) ?_|refine dw_lk (dload_tptr rfl rfl aM aM) ?_|refine dw_a rfl ?_|refine dw_ai rfl rfl rfl ?_|refine dw_st rfl rfl rfl rfl rfl (Nat.le_of_ble_eq_true rfl) rfl ?_|refine dw_nil ?_|refine ds_seq ?_|refine ds_ops mix (fun base => ?_)|refine ds_skip ?_|refine ds_block ?_|refine ds_exit ?_)); first|exact goH.get|(revert base; exact goH.get)) : P := h ⟨k⟩
theorem subL_flat {α : Type} {f : α -> List FD} {e : Nat} (hf : ∀ x, (f x).length = e) : ∀ {l : List α} {i : Nat} {x : α}, l[i]? = some x -> subL (l.flatMap f) (i * e) e = some (f x)
 | [], i, x, h => by simp at h
 | y :: l, 0, x, h => by
  simp at h; subst h
  have := hf y
  rw [Nat.zero_mul, subL_of (by simp; omega)]
  simp [List.take_append_of_le_length, <- this]
 | y :: l, i + 1, x, h => by
  have ih := subL_flat hf (l := l) (i := i) (x := x) (by simpa using h)
  have hy := hf y
  obtain ⟨h1, h2⟩ := subL_some ih
  rw [List.flatMap_cons, Nat.add_mul, Nat.one_mul, subL_of (by rw [List.length_append]; omega)]
  rw [show i * e + e = (f y).length + i * e by omega, <- List.drop_drop, List.drop_append_of_le_length (Nat.le_refl _), List.drop_length, List.nil_append, <- h2]
theorem flat_length {α : Type} {f : α -> List FD} {e : Nat} (hf : ∀ x, (f x).length = e) (l : List α) : (l.flatMap f).length = l.length * e := by
 induction l with
 | nil => simp
 | cons x l ih => simp [ih, hf x, Nat.add_mul]; omega
theorem subL_all {α : Type} (l : List α) {n : Nat} (h : l.length = n) : subL l 0 n = some l := by
 subst h
 rw [subL_of (by omega)]
 simp
abbrev DK (f : FuncId) (ds : List DV) (R : DV -> Prop) : Prop := DCalls Tryz.prog 1 (H00 1) f ds R
theorem GHro : ∀ b bk, (H00 1).get b = some bk -> bk.ro = some bk := by
 intro b bk h
 by_cases hb : b = 0
 ·subst hb; rw [<- Option.some.inj h]; rfl
 ·simp [Hp.get, H00, T.get_nd, hb] at h
abbrev Pt2 := Int × Int
def ptF (p : Pt2) : List FD := [.c (.int .i64 p.1), .c (.int .i64 p.2)]
def ptsD (l : List Pt2) : DV := .one (.f (.sl 2 l.length (l.flatMap ptF)))
def ptD (p : Pt2) : DV := .agg [.f (.c (.int .i64 p.1)), .f (.c (.int .i64 p.2))]
theorem ptF_at {l : List Pt2} {i : Nat} {x : Pt2} (h : l[i]? = some x) : subL (l.flatMap ptF) (i * 2) 2 = some (ptF x) := subL_flat (e := 2) (fun _ => rfl) h
theorem ptF_len (l : List Pt2) : (l.flatMap ptF).length = l.length * 2 := flat_length (f := ptF) (e := 2) (fun _ => rfl) l
end Go.Ae

namespace Go.Ab
end Go.Ab
namespace Go.Ab
theorem new_box {H : Hp} (hw : WF H) (cs : List C) {n : Nat} (hn : cs.length = n) : WF (H.push (.row n cs .lf true)) /\ Ext H (H.push (.row n cs .lf true)) /\ Row (H.push (.row n cs .lf true)) H.nx cs := by
 subst hn
 exact ⟨hw.push _, Ext.push hw (Ext.refl H) _, Row.new cs⟩
theorem Row.cell {H : Hp} {b : Nat} {l : List C} (h : Row H b l) {i : Nat} {c : C} (hc : l[i]? = some c) : H.cell b i = some c := by
 have := loads_cell (i := i) h.2 (List.getElem?_eq_some_iff.1 hc).1
 rw [Nat.zero_add] at this
 rw [this, hc]
theorem Row.ext {H H' : Hp} {b : Nat} {l : List C} (h : Row H b l) (he : Ext H H') : Row H' b l := by
 obtain ⟨⟨z, m, hg⟩, hl⟩ := h
 exact ⟨⟨z, m, he.get _ _ hg⟩, he.loads hl⟩
end Go.Ab
namespace Go.Ab
theorem wrap_i64 {n : Int} (h1 : -9223372036854775808 <= n) (h2 : n < 9223372036854775808) : IntKind.i64.wrap n = n := by
 simp [IntKind.wrap, IntKind.signed, IntKind.bits]
 split <;> omega
end Go.Ab
namespace Go.Ab
end Go.Ab
namespace Go.Ab
end Go.Ab
namespace Go.Ab
theorem tmod_bd (a : Int) {b : Int} (hb : 0 < b) : -b < a.tmod b /\ a.tmod b < b := by
 refine ⟨?_, Int.tmod_lt_of_pos a hb⟩
 rcases Int.le_total 0 a with h|h
 ·have := Int.tmod_nonneg b h; omega
 ·have h1 : (-a).tmod b < b := Int.tmod_lt_of_pos _ hb
  rw [Int.neg_tmod] at h1
  omega
end Go.Ab
namespace Go.Ab
theorem setL_append : ∀ (pre cs rest : List C), cs.length = rest.length -> setL (pre ++ rest) pre.length cs = pre ++ cs
 | _, [], [], _ => by simp [setL]
 | pre, c :: cs, r :: rest, h => by
  simp only [setL]
  have e : (pre ++ r :: rest).set pre.length c = (pre ++ [c]) ++ rest := by simp
  rw [e]
  have := setL_append (pre ++ [c]) cs rest (by simpa using h)
  simp only [List.length_append, List.length_cons, List.length_nil] at this
  rw [this]; simp
 | _, [], _ :: _, h => by simp at h
 | _, _ :: _, [], h => by simp at h
theorem setL_all (cs z : List C) (h : cs.length = z.length) : setL z 0 cs = cs := by simpa using setL_append [] cs z h
theorem new_var {H : Hp} (hw : WF H) (z cs : List C) (hn : cs.length = z.length) : ∃ H3, (H.push (.row z.length z .lf true)).stores H.nx 0 cs = some H3 /\ WF H3 /\ Ext H H3 /\ Row H3 H.nx cs /\ H3.nx = H.nx + 1 := by
 obtain ⟨hw1, hx, hb⟩ := new_box hw z rfl
 obtain ⟨H3, s1, s2, s3, s4⟩ := hb.stores (cs := cs) (i := 0) oM
 rw [setL_all cs z hn] at s2
 refine ⟨H3, s1, fun b bk h => ?_, ⟨fun b bk h => ?_, by rw [s4]; simp⟩, s2, by rw [s4]; simp⟩
 ·rw [s4]
  by_cases e : b = H.nx
  ·subst e; simp
  ·rw [s3 b e] at h; exact hw1 b bk h
 ·rw [s3 b (by have := hw b bk h; omega)]
  exact hx.get b bk h
end Go.Ab
namespace Go.Ab
def POwn (H : Hp) (lo hi : Nat) (l : List Pt) (v : V) : Prop := Own H lo 2 l.length (ptsC l) v /\ ∀ b, ownB v = some b -> lo <= b /\ b < hi
theorem POwn.same {H H' : Hp} {lo hi : Nat} {l : List Pt} {v : V} (h : POwn H lo hi l v) (hg : ∀ b, ownB v = some b -> H'.get b = H.get b) : POwn H' lo hi l v := ⟨h.1.same hg, h.2⟩
theorem POwn.mono {H : Hp} {lo lo' hi hi' : Nat} {l : List Pt} {v : V} (h : POwn H lo hi l v) (hlo : lo' <= lo) (hhi : hi <= hi') : POwn H lo' hi' l v := by
 refine ⟨⟨h.1.1, ?_⟩, fun b hb => by have := h.2 b hb; omega⟩
 rcases h.1.2 with h|⟨b, ex, hv, hl, hr⟩
 ·exact .inl h
 ·exact .inr ⟨b, ex, hv, oM, hr⟩
theorem POwn.none {H : Hp} {lo hi b : Nat} (hb : H.get b = some (.row 0 [] .lf true)) (h1 : lo <= b) (h2 : b < hi) : POwn H lo hi [] (.one (.slc b 0 0 0 2 true)) :=
 ⟨⟨rfl, .inr ⟨b, true, rfl, h1, ⟨[], .lf, hb⟩, rfl⟩⟩, fun x hx => by obtain rfl := Option.some.inj hx; exact ⟨h1, h2⟩⟩
theorem POwn.append1 {H H1 : Hp} {lo hi : Nat} {l : List Pt} {v : V} {bb : Nat} {p : Pt} (h : POwn H lo hi l v) (hhi : hi <= H.nx) (hw1 : WF H1) (hold : ∀ b, b < H.nx -> H1.get b = H.get b) (hnx : H.nx <= H1.nx) (hbb : H1.get bb = some (.row 2 (ptC p) .lf true)) (hlo : lo <= H.nx) (hlen : l.length < 1000000000) :
  ∃ v' H', srcCells H1 2 (.one (.slc bb 0 1 1 2 true)) = some (1, ptC p) /\ aAppend H1 2 16 v 1 (ptC p) = some (v', H') /\ POwn H' lo H'.nx (l ++ [p]) v' /\ (∀ b, b < H.nx -> ownB v ≠ some b -> H'.get b = H.get b) /\ H.nx <= H'.nx /\ WF H' := by
 have hsrc : H1.loads bb 0 (1 * 2) = some (ptC p) := loads_row (cs := ptC p) (rw := true) hbb
 have h1 : Own H1 lo 2 l.length (ptsC l) v := h.1.same fun b hb => hold b (by have := h.2 b hb; omega)
 obtain ⟨v', H', e1, e2, e3, e4, e5, e6⟩ := h1.append (bytes := 16) hw1 oM (m := 1) (news := ptC p) rfl oM oM oM
 refine ⟨v', H', src_row hsrc, e1, ⟨?_, fun b hb => ?_⟩, fun b hb hne => ?_, oM, e6⟩
 ·have : ptsC (l ++ [p]) = ptsC l ++ ptC p := by simp [ptsC]
  rw [this, List.length_append]
  exact e2
 ·rw [e3] at hb; obtain rfl := Option.some.inj hb; omega
 ·rw [e4 b (by omega) hne, hold b hb]
end Go.Ab
namespace Go.Ab
theorem POwn.one {H : Hp} {lo hi : Nat} {l : List Pt} {v : V} (h : POwn H lo hi l v) : ∃ c, v = .one c := by
 rcases h.1.2 with ⟨h, _⟩|⟨b, ex, hv, _⟩
 ·exact ⟨_, h⟩
 ·exact ⟨_, hv⟩
end Go.Ab
namespace Go.Ab
theorem setL_mid : ∀ (pre old cs rest : List C), cs.length = old.length -> setL (pre ++ (old ++ rest)) pre.length cs = pre ++ (cs ++ rest)
 | _, [], [], _, _ => by simp [setL]
 | pre, o :: old, c :: cs, rest, h => by
  simp only [setL]
  have e : (pre ++ (o :: old ++ rest)).set pre.length c = (pre ++ [c]) ++ (old ++ rest) := by simp
  rw [e]
  have := setL_mid (pre ++ [c]) old cs rest (by simpa using h)
  simp only [List.length_append, List.length_cons, List.length_nil] at this
  rw [this]; simp
 | _, [], _ :: _, _, h => by simp at h
 | _, _ :: _, [], _, h => by simp at h
def PRoom (H : Hp) (b cap : Nat) (l : List Pt) : Prop := ∃ rest, rest.length = (cap - l.length) * 2 /\ l.length <= cap /\ Row H b (ptsC l ++ rest)
theorem PRoom.append {H : Hp} {b cap : Nat} {l : List Pt} (h : PRoom H b cap l) (hc : l.length < cap) (bytes : Nat) (ex : Bool) (p : Pt) : ∃ H', aAppend H 2 bytes (.one (.slc b 0 l.length cap 2 ex)) 1 (ptC p) = some (.one (.slc b 0 (l.length + 1) cap 2 ex), H') /\ PRoom H' b cap (l ++ [p]) /\ (∀ b', b' ≠ b -> H'.get b' = H.get b') /\ H'.nx = H.nx := by
 obtain ⟨rest, h1, h2, h3⟩ := h
 obtain ⟨H', e1, e2, e3, e4⟩ := h3.stores (cs := ptC p) (i := l.length * 2) (by simp [ptsC_len, h1, ptC]; omega)
 refine ⟨H', ?_, ⟨rest.drop 2, by simp [h1]; omega, by simp; omega, ?_⟩, e3, e4⟩
 ·simp only [aAppend]
  rw [if_neg (by simp), if_pos (by omega), Nat.zero_add, e1]
  rfl
 ·have e5 : ptsC (l ++ [p]) = ptsC l ++ ptC p := by simp [ptsC]
  have e6 : ptsC l ++ rest = ptsC l ++ (rest.take 2 ++ rest.drop 2) := by rw [List.take_append_drop]
  rw [e6, <- ptsC_len, setL_mid _ _ _ _ (by simp [ptC, h1]; omega)] at e2
  rw [e5, List.append_assoc]
  exact e2
end Go.Ab
namespace Go.Ab
theorem loads_some {H : Hp} {b n : Nat} {z : List C} {m : T C} {rw : Bool} (h : H.get b = some (.row n z m rw)) : ∀ (k o : Nat), o + k <= n -> ∃ cs, cs.length = k /\ H.loads b o k = some cs
 | 0, o, _ => ⟨[], rfl, rfl⟩
 | k + 1, o, hk => by
  obtain ⟨cs, h1, h2⟩ := loads_some h k (o + 1) oM
  have hc : H.cell b o = some ((m.get o).getD (z.getD (o % z.length) .nilp)) := by simp [Hp.cell, h, B.cell, show o < n by omega]
  exact ⟨(m.get o).getD (z.getD (o % z.length) .nilp) :: cs, by simp [h1], by simp only [Hp.loads, hc, h2]⟩
theorem Row.some {H : Hp} {b n : Nat} {z : List C} {m : T C} (h : H.get b = some (.row n z m true)) : ∃ cs, cs.length = n /\ Row H b cs := by
 obtain ⟨cs, h1, h2⟩ := loads_some h n 0 oM
 exact ⟨cs, h1, ⟨z, m, by rw [h1]; exact h⟩, by rw [h1]; exact h2⟩
theorem PRoom.new {H : Hp} {b cap : Nat} {z : List C} (h : H.get b = some (.row (cap * 2) z .lf true)) : PRoom H b cap [] := by
 obtain ⟨cs, h1, h2⟩ := Row.some h
 exact ⟨cs, by simp [h1], by simp, by simpa [ptsC] using h2⟩
theorem PRoom.same {H H' : Hp} {b cap : Nat} {l : List Pt} (h : PRoom H b cap l) (hg : H'.get b = H.get b) : PRoom H' b cap l := by
 obtain ⟨r, h1, h2, h3⟩ := h
 exact ⟨r, h1, h2, h3.same hg⟩
theorem PRoom.full {H : Hp} {lo hi b cap : Nat} {l : List Pt} {ex : Bool} (h : PRoom H b cap l) (hc : l.length = cap) (h1 : lo <= b) (h2 : b < hi) : POwn H lo hi l (.one (.slc b 0 l.length cap 2 ex)) := by
 obtain ⟨r, g1, g2, g3⟩ := h
 have : r = [] := List.eq_nil_of_length_eq_zero (by rw [g1, hc]; simp)
 subst this
 rw [List.append_nil] at g3
 subst hc
 exact ⟨⟨ptsC_len l, .inr ⟨b, ex, rfl, h1, g3⟩⟩, fun x hx => by obtain rfl := Option.some.inj hx; exact ⟨h1, h2⟩⟩
end Go.Ab

namespace Go.Ae
open Go.Ab Go.Proofs
set_option linter.unusedSimpArgs false
theorem abs_ok {H : Hp} {n : Int} (h : -4000000000000000000 < n) (h' : n < 4000000000000000000) : ACalls Tryz.prog 1 81 [.int n] H fun v H' => v = .int (max n (-n)) /\ H' = H := by
 refine pfn_ok cp81 (by simp [f81]) fun hwf => ?_
 repeat (first|refine pw_mvt rfl ?_|refine pw_mvc ?_|refine pw_p rfl rfl ?_|refine pw_nil ?_|refine ps_seq ?_|refine ps_ops0 mix ?_)
 refine ps_if rfl rfl (fun ht => ?_) (fun ht => ?_)
 ·repeat (first|refine pw_mvt rfl ?_|refine pw_p rfl rfl ?_|refine pw_nil ?_|refine ps_seq ?_|refine ps_ops0 mix ?_)
  refine ps_ret ⟨_, rfl, ?_, rfl⟩
  simp at ht
  rw [wrap_i64 (by omega) (by omega)]
  congr 2; omega
 ·repeat (first|refine pw_mvt rfl ?_|refine pw_nil ?_|refine ps_seq ?_|refine ps_ops0 mix ?_|refine ps_skip ?_)
  refine ps_ret ⟨_, rfl, ?_, rfl⟩
  simp at ht
  congr 2; omega
theorem rabs_ok {H : Hp} {n : Int} (h : -4000000000000000000 < n) (h' : n < 4000000000000000000) : ACalls Tryz.prog 1 66 [.int n] H fun v H' => v = .int (max n (-n)) /\ H' = H := by
 refine pfn_ok cp66 (by simp [f66]) fun hwf => ?_
 repeat (first|refine pw_mvt rfl ?_|refine pw_max rfl rfl rfl ?_|refine pw_mvc ?_|refine pw_p rfl rfl ?_|refine pw_nil ?_|refine ps_seq ?_|refine ps_ops0 mix ?_)
 refine ps_ret ⟨_, rfl, ?_, rfl⟩
 rw [wrap_i64 (by omega) (by omega)]
 congr 3; omega
def far (p q : Pt) : Int := max (max (p.1 - q.1) (-(p.1 - q.1))) (max (p.2 - q.2) (-(p.2 - q.2)))
def Small (B : Int) (p : Pt) : Prop := -B <= p.1 /\ p.1 <= B /\ -B <= p.2 /\ p.2 <= B
theorem apart_ro {H : Hp} {p q : Pt} (hp : Small 1000000000000000000 p) (hq : Small 1000000000000000000 q) : ACalls Tryz.prog 1 61 [ptV p, ptV q] H fun v _ => v = .int (far p q) := by
 obtain ⟨p1, p2, p3, p4⟩ := hp
 obtain ⟨q1, q2, q3, q4⟩ := hq
 refine pfn_ok cp61 (by simp [f61]) fun hwf => ?_
 obtain ⟨hw1, hx1, hb1⟩ := new_box hwf (ptC p) rfl
 obtain ⟨hw2, hx2, hb2⟩ := new_box hw1 (ptC q) rfl
 refine ps_seq (ps_ops0 mix (pw_a rfl rfl (pw_a rfl rfl (pw_mvc (pw_nil ?_)))))
 replace hb1 := hb1.ext hx2
 have c0 := hb1.cell (i := 0) rfl
 have c1 := hb1.cell (i := 1) rfl
 have d0 := hb2.cell (i := 0) rfl
 have d1 := hb2.cell (i := 1) rfl
 generalize ((H.push _).push _) = H2 at *
 refine ps_seq (ps_ops mix ?_)
 repeat (first|refine pw_p rfl rfl ?_|refine pw_l1 rfl rfl aM ?_|refine pw_lk1 rfl rfl aM ?_)
 rw [wrap_i64 (n := p.1 - q.1) (by omega) (by omega)]
 rw [wrap_i64 (n := p.2 - q.2) (by omega) (by omega)]
 refine pw_cfp rfl rfl (abs_ok oM oM) (by repeat (first|exact trivial|refine ⟨by assumption, ?_⟩)) (pw_cfp rfl rfl (abs_ok oM oM) (by repeat (first|exact trivial|refine ⟨by assumption, ?_⟩)) ?_)
 repeat (first|refine pw_mvt rfl ?_|refine pw_max rfl rfl rfl ?_|refine pw_nil ?_)
 exact ps_ret ⟨_, rfl, rfl⟩
theorem apart_ok {H : Hp} {p q : Pt} (hp : Small 1000000000000000000 p) (hq : Small 1000000000000000000 q) : ACalls Tryz.prog 1 61 [ptV p, ptV q] H fun v H' => v = .int (far p q) /\ H' = H :=
 (ACalls.pure (apart_ro hp hq) (fun v _ h => by rw [h]; rfl)).mono fun v H' ⟨⟨_, h⟩, e⟩ => ⟨h, e⟩
theorem rfar_ro {H : Hp} {p q : Pt} (hp : Small 1000000000000000000 p) (hq : Small 1000000000000000000 q) : ACalls Tryz.prog 1 53 [ptV p, ptV q] H fun v _ => v = .int (far p q) := by
 obtain ⟨p1, p2, p3, p4⟩ := hp
 obtain ⟨q1, q2, q3, q4⟩ := hq
 refine pfn_ok cp53 (by simp [f53]) fun hwf => ?_
 obtain ⟨hw1, hx1, hb1⟩ := new_box hwf (ptC p) rfl
 obtain ⟨hw2, hx2, hb2⟩ := new_box hw1 (ptC q) rfl
 refine ps_seq (ps_ops0 mix (pw_a rfl rfl (pw_a rfl rfl (pw_mvc (pw_nil ?_)))))
 replace hb1 := hb1.ext hx2
 have c0 := hb1.cell (i := 0) rfl
 have c1 := hb1.cell (i := 1) rfl
 have d0 := hb2.cell (i := 0) rfl
 have d1 := hb2.cell (i := 1) rfl
 generalize ((H.push _).push _) = H2 at *
 refine ps_seq (ps_ops mix ?_)
 repeat (first|refine pw_p rfl rfl ?_|refine pw_l1 rfl rfl aM ?_|refine pw_lk1 rfl rfl aM ?_)
 rw [wrap_i64 (n := p.1 - q.1) (by omega) (by omega)]
 rw [wrap_i64 (n := p.2 - q.2) (by omega) (by omega)]
 refine pw_cfp rfl rfl (rabs_ok oM oM) (by repeat (first|exact trivial|refine ⟨by assumption, ?_⟩)) (pw_cfp rfl rfl (rabs_ok oM oM) (by repeat (first|exact trivial|refine ⟨by assumption, ?_⟩)) ?_)
 repeat (first|refine pw_mvt rfl ?_|refine pw_max rfl rfl rfl ?_|refine pw_nil ?_)
 exact ps_ret ⟨_, rfl, rfl⟩
theorem rfar_ok {H : Hp} {p q : Pt} (hp : Small 1000000000000000000 p) (hq : Small 1000000000000000000 q) : ACalls Tryz.prog 1 53 [ptV p, ptV q] H fun v H' => v = .int (far p q) /\ H' = H :=
 (ACalls.pure (rfar_ro hp hq) (fun v _ h => by rw [h]; rfl)).mono fun v H' ⟨⟨_, h⟩, e⟩ => ⟨h, e⟩
theorem d_apart {p q : Pt2} (hp : Small 1000000000000000000 p) (hq : Small 1000000000000000000 q) : DK 61 [ptD p, ptD q] fun d => d = .int (far p q) := DCalls.of_pure (vs := [ptV p, ptV q]) ⟨rfl, rfl, trivial⟩ rfl fun H _ => apart_ok hp hq
theorem d_far {p q : Pt2} (hp : Small 1000000000000000000 p) (hq : Small 1000000000000000000 q) : DK 53 [ptD p, ptD q] fun d => d = .int (far p q) := DCalls.of_pure (vs := [ptV p, ptV q]) ⟨rfl, rfl, trivial⟩ rfl fun H _ => rfar_ok hp hq
theorem aEqs_pt (p q : Pt2) : aEqs [.int .i64 p.1, .int .i64 p.2] [.int .i64 q.1, .int .i64 q.2] [(0, false), (1, false)] = some (decide (p = q)) := by
 obtain ⟨p1, p2⟩ := p
 obtain ⟨q1, q2⟩ := q
 simp only [aEqs, aEq, List.getElem?_cons_zero, List.getElem?_cons_succ, if_true]
 by_cases h1 : p1 = q1
 ·by_cases h2 : p2 = q2
  ·subst h1; subst h2; simp
  ·have e2 : (p2 == q2) = false := by simpa using h2
   subst h1; simp [h2, e2]
 ·have e1 : (p1 == q1) = false := by simpa using h1
  simp [h1, e1]
theorem d_eqpt {neg : Bool} {E : DEnv} {x y : Opd} {p q : Pt2} (hx : ro E x = some (.agg [.f (.c (.int .i64 p.1)), .f (.c (.int .i64 p.2))])) (hy : ro E y = some (.agg [.f (.c (.int .i64 q.1)), .f (.c (.int .i64 q.2))])) : dPure E (.eqs neg [(0, false), (1, false)] x y) = some (.bool (match neg with|true => !decide (p = q)|false => decide (p = q))) := by
 have ex : exO E x = some (.agg [.int .i64 p.1, .int .i64 p.2]) := by simp [exO, hx, exV, exL, exC]
 have ey : exO E y = some (.agg [.int .i64 q.1, .int .i64 q.2]) := by simp [exO, hy, exV, exL, exC]
 simp only [dPure, dEx, PureOp.opds, allB, isEx, ex, ey, Option.isSome_some, PureOp.mp, rx, aPure, Opd.ev, aEqs_pt]
 cases neg <;> rfl
theorem d_has {l : List Pt2} {p : Pt2} (hn : l.length < 1000000000000) : DK 38 [ptsD l, ptD p] fun d => d = .bool (decide (p ∈ l)) := by
 refine dfn_ok cp38 rfl GHro fun Z0 lo => ?_
 refine goD ?_; intros
 refine ds_loop (fun m E S nk => ∃ k : Nat, k + m = l.length /\ E = [(0, ptsD l), (3, .one (.ptr 0 0)), (5, .int k)] /\ S = [(0, .cells [.f (.c (.int .i64 p.1)), .f (.c (.int .i64 p.2))])] /\ nk = 1 /\ p ∉ l.take k) ⟨l.length, _, _, _, [], ?wk, 0, by omega, rfl, rfl, rfl, by simp⟩ ?_
 case wk => exact wkA
 rintro m E S nk ⟨k, hk, rfl, rfl, rfl, hno⟩
 refine goD ?_; intros
 refine ds_if rfl (fun ht => ?_) (fun ht => ?_)
 ·simp at ht
  obtain ⟨q, hq⟩ : ∃ q, l[k]? = some q := ⟨_, List.getElem?_eq_getElem oM⟩
  have e1 := ptF_at hq
  refine goD ?_; intros
  refine dw_p (d_eqpt (p := q) (q := p) rfl rfl) ?_
  refine goD ?_; intros
  refine ds_if rfl (fun ht2 => ?_) (fun ht2 => ?_)
  ·simp at ht2
   refine goD ?_; intros
   refine ds_ret ⟨_, rfl, rfl, ?_⟩
   rw [decide_eq_true (by rw [<- ht2]; exact List.mem_of_getElem? hq)]
  ·simp at ht2
   refine goD ?_; intros
   refine ⟨m - 1, oM, _, _, _, [], ?wk, k + 1, oM, rfl, rfl, rfl, ?_⟩
   case wk => exact wkA
   rw [List.take_add_one, hq]
   simp
   exact ⟨hno, fun h => ht2 h.symm⟩
 ·simp at ht
  refine goD ?_; intros
  refine ds_ret ⟨_, rfl, rfl, ?_⟩
  obtain rfl : k = l.length := by omega
  rw [List.take_length] at hno
  rw [decide_eq_false hno]
def fars (a b : List Pt2) : List Int := a.flatMap fun p => b.map (far p)
def dist (a b : List Pt2) : Int := match a, b with
 | [], _ => -1
 | _, [] => -1
 | p :: _, q :: _ => (fars a b).foldl min (far p q)
def Smalls (l : List Pt2) : Prop := ∀ p ∈ l, Small 1000000000000000000 p
theorem foldl_min_le : ∀ (l : List Int) (x : Int), l.foldl min x <= x /\ ∀ y ∈ l, l.foldl min x <= y
 | [], x => ⟨by simp, by simp⟩
 | y :: l, x => by
  have h := foldl_min_le l (min x y)
  simp only [List.foldl_cons]
  refine ⟨oM, fun z hz => ?_⟩
  rcases List.mem_cons.1 hz with rfl|hz
  ·omega
  ·exact h.2 z hz
theorem foldl_min_mem : ∀ (l : List Int) (x : Int), l.foldl min x = x \/ l.foldl min x ∈ l
 | [], x => .inl rfl
 | y :: l, x => by
  simp only [List.foldl_cons]
  rcases foldl_min_mem l (min x y) with h|h
  ·rw [h]
   by_cases hxy : x <= y
   ·exact .inl oM
   ·exact .inr (by simp; omega)
  ·exact .inr (by simp [h])
theorem d_distance {a b : List Pt2} (ha : Smalls a) (hb : Smalls b) (hn : a.length <= 256) (hm : b.length <= 256) : DK 48 [ptsD a, ptsD b] fun d => d = .int (dist a b) := by
 refine dfn_ok cp48 rfl GHro fun Z0 lo => ?_
 refine goD ?_; intros
 refine ds_if rfl (fun ht => ?_) (fun ht => ?_)
 ·simp at ht
  refine goD ?_; intros
  refine ds_ret ⟨_, rfl, rfl, ?_⟩
  cases a with
  | nil => rfl
  | cons p a => cases b with
   | nil => rfl
   | cons q b => simp at ht
 ·simp only [Bool.if_true_left, Bool.or_eq_false_iff, decide_eq_false_iff_not, <- List.length_eq_zero_iff] at ht
  simp at ht
  obtain ⟨ht1, ht2⟩ := ht
  obtain ⟨p0, a', rfl⟩ : ∃ q l, a = q :: l := List.exists_cons_of_ne_nil ht1
  obtain ⟨q0, b', rfl⟩ : ∃ q l, b = q :: l := List.exists_cons_of_ne_nil ht2
  have e1 : subL ((p0 :: a').flatMap ptF) (0 * 2) 2 = some (ptF p0) := ptF_at rfl
  have e2 : subL ((q0 :: b').flatMap ptF) (0 * 2) 2 = some (ptF q0) := ptF_at rfl
  have hp0 := ha p0 (by simp)
  have hq0 := hb q0 (by simp)
  have hl1 : 0 < (p0 :: a').length := by simp
  have hl2 : 0 < (q0 :: b').length := by simp
  have hdist : dist (p0 :: a') (q0 :: b') = (fars (p0 :: a') (q0 :: b')).foldl min (far p0 q0) := rfl
  rw [hdist]
  generalize hga : p0 :: a' = a at *
  generalize hgb : q0 :: b' = b at *
  refine ds_keep (SubA.cons (k := 0) rfl (SubA.cons (k := 1) rfl (SubA.nil _))) (SubA.nil _) ?_
  have hle : (a.length : Int) * b.length <= 256 * 256 := Int.mul_le_mul oM oM oM oM
  have h0 : (0 : Int) <= (a.length : Int) * b.length := Int.mul_nonneg oM oM
  iterate 10 (first|refine dw_p rfl ?_|refine ds_seq ?_|refine ds_ops mix (fun base => ?_)|refine ds_skip ?_)
  rw [show decide (IntKind.i64.wrap ((a.length : Int) * b.length) > 65536) = false by rw [dwrap (by omega) (by omega)]; simp; omega]
  refine goD ?_; intros
  refine ds_if rfl (fun ht => by cases ht) (fun _ => ?_)
  refine goD ?_; intros
  refine dw_cf rfl rfl (d_apart hp0 hq0) ?_
  rintro _ rfl
  refine goD ?_; intros
  refine ds_loop (fun m E S nk => ∃ k : Nat, k + m = a.length /\ E = [(1, ptsD b), (5, .int ((fars (a.take k) b).foldl min (far p0 q0))), (42, ptsD a), (43, .int a.length), (44, .int k)] /\ S = [] /\ nk = 0) ⟨a.length, _, _, _, [], ?wk, 0, oM, rfl, rfl, rfl⟩ ?_
  case wk => exact wkA
  rintro m E S nk ⟨k, hk, rfl, rfl, rfl⟩
  refine goD ?_; intros
  refine ds_if rfl (fun ht => ?_) (fun ht => ?_)
  ·simp at ht
   obtain ⟨p, hp⟩ : ∃ q, a[k]? = some q := ⟨_, List.getElem?_eq_getElem oM⟩
   have e3 := ptF_at hp
   have hps := ha p (List.mem_of_getElem? hp)
   refine goD ?_; intros
   refine ds_loop (fun m E S nk => ∃ j : Nat, j + m = b.length /\ E = [(1, ptsD b), (5, .int (((b.take j).map (far p)).foldl min ((fars (a.take k) b).foldl min (far p0 q0)))), (7, .one (.ptr 0 0)), (42, ptsD a), (43, .int a.length), (44, .int k), (48, ptsD b), (49, .int b.length), (50, .int j)] /\ S = [(0, .cells [.f (.c (.int .i64 p.1)), .f (.c (.int .i64 p.2))])] /\ nk = 1) ⟨b.length, _, _, _, [], ?wk2, 0, oM, rfl, rfl, rfl⟩ ?_
   case wk2 => exact wkA
   rintro m2 E S nk ⟨j, hj, rfl, rfl, rfl⟩
   refine goD ?_; intros
   refine ds_if rfl (fun ht2 => ?_) (fun ht2 => ?_)
   ·simp at ht2
    obtain ⟨q, hq⟩ : ∃ q, b[j]? = some q := ⟨_, List.getElem?_eq_getElem oM⟩
    have e4 := ptF_at hq
    have hqs := hb q (List.mem_of_getElem? hq)
    refine goD ?_; intros
    refine dw_cf rfl rfl (d_apart (p := p) (q := q) hps hqs) ?_
    rintro _ rfl
    refine goD ?_; intros
    have hD : min (((b.take j).map (far p)).foldl min ((fars (a.take k) b).foldl min (far p0 q0))) (far p q) = ((b.take (j + 1)).map (far p)).foldl min ((fars (a.take k) b).foldl min (far p0 q0)) := by
     rw [List.take_add_one, hq]
     simp
    rw [hD]
    refine ⟨m2 - 1, oM, _, _, _, [], ?wk3, j + 1, oM, rfl, rfl, rfl⟩
    case wk3 => exact wkA
   ·simp at ht2
    obtain rfl : j = b.length := by omega
    refine goD ?_; intros
    have hD : ((b.take b.length).map (far p)).foldl min ((fars (a.take k) b).foldl min (far p0 q0)) = (fars (a.take (k + 1)) b).foldl min (far p0 q0) := by
     rw [List.take_add_one, hp, List.take_length]
     simp [fars]
    rw [hD]
    refine ⟨m - 1, oM, _, _, _, [], ?wk3, k + 1, oM, rfl, rfl, rfl⟩
    case wk3 => exact wkA
  ·simp at ht
   obtain rfl : k = a.length := by omega
   refine goD ?_; intros
   refine ds_ret ⟨_, rfl, rfl, ?_⟩
   rw [List.take_length]
def dgt (i : Nat) : Int := [1, 3, 9, 25, 17, 11, 27, 19].getD i 0
def cell2 (i : Nat) : DV := .one (.f (.sl 1 2 [.c (.int .u8 60), .c (.int .u8 (dgt i))]))
theorem d_cells {i : Nat} (hi : i < 8) : DK 9 [.int i] fun d => d = cell2 i := by
 refine dfn_ok cp9 rfl GHro fun Z0 lo => ?_
 match i, hi with
 | 0, _ =>
  refine goD ?_; intros
  refine ds_if rfl (fun h => absurd h (by decide)) (fun _ => ?_)
  refine goD ?_; intros
  refine ds_keep (SubA.cons (k := 2) rfl (SubA.nil _)) (SubA.cons (k := 0) rfl (SubA.nil _)) ?_
  refine ds_frz 0 rfl okZ okZ ?_
  exact ds_ret ⟨_, rfl, rfl, rfl⟩
 | 1, _ =>
  refine goD ?_; intros
  refine ds_if rfl (fun h => absurd h (by decide)) (fun _ => ?_)
  refine goD ?_; intros
  refine ds_keep (SubA.cons (k := 2) rfl (SubA.nil _)) (SubA.cons (k := 0) rfl (SubA.nil _)) ?_
  refine ds_frz 0 rfl okZ okZ ?_
  exact ds_ret ⟨_, rfl, rfl, rfl⟩
 | 2, _ =>
  refine goD ?_; intros
  refine ds_if rfl (fun h => absurd h (by decide)) (fun _ => ?_)
  refine goD ?_; intros
  refine ds_keep (SubA.cons (k := 2) rfl (SubA.nil _)) (SubA.cons (k := 0) rfl (SubA.nil _)) ?_
  refine ds_frz 0 rfl okZ okZ ?_
  exact ds_ret ⟨_, rfl, rfl, rfl⟩
 | 3, _ =>
  refine goD ?_; intros
  refine ds_if rfl (fun h => absurd h (by decide)) (fun _ => ?_)
  refine goD ?_; intros
  refine ds_keep (SubA.cons (k := 2) rfl (SubA.nil _)) (SubA.cons (k := 0) rfl (SubA.nil _)) ?_
  refine ds_frz 0 rfl okZ okZ ?_
  exact ds_ret ⟨_, rfl, rfl, rfl⟩
 | 4, _ =>
  refine goD ?_; intros
  refine ds_if rfl (fun h => absurd h (by decide)) (fun _ => ?_)
  refine goD ?_; intros
  refine ds_keep (SubA.cons (k := 2) rfl (SubA.nil _)) (SubA.cons (k := 0) rfl (SubA.nil _)) ?_
  refine ds_frz 0 rfl okZ okZ ?_
  exact ds_ret ⟨_, rfl, rfl, rfl⟩
 | 5, _ =>
  refine goD ?_; intros
  refine ds_if rfl (fun h => absurd h (by decide)) (fun _ => ?_)
  refine goD ?_; intros
  refine ds_keep (SubA.cons (k := 2) rfl (SubA.nil _)) (SubA.cons (k := 0) rfl (SubA.nil _)) ?_
  refine ds_frz 0 rfl okZ okZ ?_
  exact ds_ret ⟨_, rfl, rfl, rfl⟩
 | 6, _ =>
  refine goD ?_; intros
  refine ds_if rfl (fun h => absurd h (by decide)) (fun _ => ?_)
  refine goD ?_; intros
  refine ds_keep (SubA.cons (k := 2) rfl (SubA.nil _)) (SubA.cons (k := 0) rfl (SubA.nil _)) ?_
  refine ds_frz 0 rfl okZ okZ ?_
  exact ds_ret ⟨_, rfl, rfl, rfl⟩
 | 7, _ =>
  refine goD ?_; intros
  refine ds_if rfl (fun h => absurd h (by decide)) (fun _ => ?_)
  refine goD ?_; intros
  refine ds_keep (SubA.cons (k := 2) rfl (SubA.nil _)) (SubA.cons (k := 0) rfl (SubA.nil _)) ?_
  refine ds_frz 0 rfl okZ okZ ?_
  exact ds_ret ⟨_, rfl, rfl, rfl⟩
 | i + 8, h => omega
theorem d_rcells {i : Nat} (hi : i < 8) : DK 10 [.int i] fun d => d = cell2 i := by
 refine dfn_ok cp10 rfl GHro fun Z0 lo => ?_
 match i, hi with
 | 0, _ =>
  refine goD ?_; intros
  refine ds_keep (SubA.cons (k := 2) rfl (SubA.nil _)) (SubA.cons (k := 1) rfl (SubA.nil _)) ?_
  refine ds_frz 1 rfl okZ okZ ?_
  exact ds_ret ⟨_, rfl, rfl, rfl⟩
 | 1, _ =>
  refine goD ?_; intros
  refine ds_keep (SubA.cons (k := 2) rfl (SubA.nil _)) (SubA.cons (k := 1) rfl (SubA.nil _)) ?_
  refine ds_frz 1 rfl okZ okZ ?_
  exact ds_ret ⟨_, rfl, rfl, rfl⟩
 | 2, _ =>
  refine goD ?_; intros
  refine ds_keep (SubA.cons (k := 2) rfl (SubA.nil _)) (SubA.cons (k := 1) rfl (SubA.nil _)) ?_
  refine ds_frz 1 rfl okZ okZ ?_
  exact ds_ret ⟨_, rfl, rfl, rfl⟩
 | 3, _ =>
  refine goD ?_; intros
  refine ds_keep (SubA.cons (k := 2) rfl (SubA.nil _)) (SubA.cons (k := 1) rfl (SubA.nil _)) ?_
  refine ds_frz 1 rfl okZ okZ ?_
  exact ds_ret ⟨_, rfl, rfl, rfl⟩
 | 4, _ =>
  refine goD ?_; intros
  refine ds_keep (SubA.cons (k := 2) rfl (SubA.nil _)) (SubA.cons (k := 1) rfl (SubA.nil _)) ?_
  refine ds_frz 1 rfl okZ okZ ?_
  exact ds_ret ⟨_, rfl, rfl, rfl⟩
 | 5, _ =>
  refine goD ?_; intros
  refine ds_keep (SubA.cons (k := 2) rfl (SubA.nil _)) (SubA.cons (k := 1) rfl (SubA.nil _)) ?_
  refine ds_frz 1 rfl okZ okZ ?_
  exact ds_ret ⟨_, rfl, rfl, rfl⟩
 | 6, _ =>
  refine goD ?_; intros
  refine ds_keep (SubA.cons (k := 2) rfl (SubA.nil _)) (SubA.cons (k := 1) rfl (SubA.nil _)) ?_
  refine ds_frz 1 rfl okZ okZ ?_
  exact ds_ret ⟨_, rfl, rfl, rfl⟩
 | 7, _ =>
  refine goD ?_; intros
  refine ds_keep (SubA.cons (k := 2) rfl (SubA.nil _)) (SubA.cons (k := 1) rfl (SubA.nil _)) ?_
  refine ds_frz 1 rfl okZ okZ ?_
  exact ds_ret ⟨_, rfl, rfl, rfl⟩
 | i + 8, h => omega
def bitE (v : Int) (n : Nat) : Bool := IntKind.u8.wrap (((BitVec.ofInt 8 (v.fdiv (2 ^ n)) &&& BitVec.ofInt 8 1).toNat : Nat) : Int) == 1
def lbB (v : Int) (j : Nat) : Bool := bitE (if j % 4 < 2 then 60 else v) (3 * (j % 2) + j / 4)
def lbQ (q : Pt2) (j : Nat) : Pt2 := (2 * q.1 + (j % 4 : Nat), 3 * q.2 + (j / 4 : Nat))
def lbl (v : Int) (q : Pt2) (k : Nat) : List Pt2 := ((List.range k).filter (lbB v)).map (lbQ q)
theorem lbl_t {v : Int} {q : Pt2} {k : Nat} (h : lbB v k = true) : lbl v q (k + 1) = lbl v q k ++ [lbQ q k] := by
 simp [lbl, List.range_succ, h]
theorem lbl_f {v : Int} {q : Pt2} {k : Nat} (h : lbB v k = false) : lbl v q (k + 1) = lbl v q k := by
 simp [lbl, List.range_succ, h]
theorem lbl_len (v : Int) (q : Pt2) (k : Nat) : (lbl v q k).length <= k := by
 unfold lbl
 rw [List.length_map]
 exact Nat.le_trans (List.length_filter_le _ _) (by simp)
def lblP (i : Nat) (q : Pt2) : List Pt2 := lbl (dgt i) q 12
set_option maxHeartbeats 8000000 in
theorem d_lpoints {i : Nat} {q : Pt2} (hi : i < 8) (hq : Small 1000000 q) : DK 12 [.int i, ptD q] fun d => d = ptsD (lblP i q) := by
 refine dfn_ok cp12 rfl GHro fun Z0 lo => ?_
 unfold Small at hq
 have w1 : IntKind.i64.wrap (2 * q.1) = 2 * q.1 := dwrap oM oM
 have w2 : IntKind.i64.wrap (3 * q.2) = 3 * q.2 := dwrap oM oM
 refine goD ?_; intros
 refine dw_cf rfl rfl (d_cells hi) ?_
 rintro _ rfl
 unfold cell2 lblP
 generalize dgt i = v
 refine goD ?_; intros
 refine ds_virt 6 2 rfl ?_
 refine ds_loop (fun m E S nk => ∃ (r : Nat) (out : List Pt2), r + m = 3 /\ out = lbl v q (4 * r) /\ E = [(3, .one (.ptr 0 0)), (5, .one (.f (.sl 1 2 [.c (.int .u8 60), .c (.int .u8 v)]))), (6, .one (.own 1 0 out.length 2)), (11, .int r)] /\ S = [(0, .cells [.f (.c (.int .i64 q.1)), .f (.c (.int .i64 q.2))]), (1, .data (out.flatMap ptF))] /\ nk = 2) ⟨3, _, _, _, [], ?wk, 0, [], oM, rfl, rfl, rfl, rfl⟩ ?_
 case wk => exact wkA
 rintro m E S nk ⟨r, out, hr, ho, rfl, rfl, rfl⟩
 refine goD ?_; intros
 refine ds_if rfl (fun ht => ?_) (fun ht => ?_)
 ·have ht : r < 3 := by have := of_decide_eq_true ht; omega
  match r, ht with
  | 0, _ =>
   refine goD ?_; intros
   refine ds_loop (fun m E S nk => ∃ (c : Nat) (out : List Pt2), c + m = 4 /\ out = lbl v q (0 + c) /\ E = [(3, .one (.ptr 0 0)), (5, .one (.f (.sl 1 2 [.c (.int .u8 60), .c (.int .u8 v)]))), (6, .one (.own 1 0 out.length 2)), (7, .int (0 : Nat)), (11, .int (0 : Nat)), (16, .int 4), (17, .int c)] /\ S = [(0, .cells [.f (.c (.int .i64 q.1)), .f (.c (.int .i64 q.2))]), (1, .data (out.flatMap ptF))] /\ nk = 2) ⟨4, _, _, _, [], ?wk0, 0, out, oM, ho, rfl, rfl, rfl⟩ ?_
   case wk0 => exact wkA
   rintro m2 E S nk ⟨c, out, hc, ho, rfl, rfl, rfl⟩
   have hol := lbl_len v q (0 + c)
   rw [<- ho] at hol
   have hfl := ptF_len out
   refine goD ?_; intros
   refine ds_if rfl (fun ht2 => ?_) (fun ht2 => ?_)
   ·have ht2 : c < 4 := by have := of_decide_eq_true ht2; omega
    match c, ht2 with
    | 0, _ =>
     have w3 : IntKind.i64.wrap (2 * q.1 + ((0 : Nat) : Int)) = 2 * q.1 + ((0 : Nat) : Int) := dwrap oM oM
     have w4 : IntKind.i64.wrap (3 * q.2 + ((0 : Nat) : Int)) = 3 * q.2 + ((0 : Nat) : Int) := dwrap oM oM
     refine goD ?_; intros
     refine dw_if (j := 0) (q := [.c (.int .u8 60)]) rfl rfl (by decide) (by decide) rfl ?_
     refine goD ?_; intros
     refine ds_if rfl (fun hb => ?_) (fun hb => ?_)
     ·have hb : lbB v 0 = true := hb
      refine goD ?_; intros
      refine dw_app (m := 1) (q := ptF (lbQ q 0)) rfl rfl rfl (subL_all _ hfl) ⟨rfl, rfl, _, rfl, by rw [w1, w2, w3, w4]; rfl⟩ (by omega) (by omega) (by decide) rfl ?_
      rw [show out.flatMap ptF ++ ptF (lbQ q 0) = (out ++ [lbQ q 0]).flatMap ptF by simp, show out.length + 1 = (out ++ [lbQ q 0]).length by simp]
      refine goD ?_; intros
      refine ⟨m2 - 1, by omega, _, _, _, [(1, 3)], ?wa, 1, out ++ [lbQ q 0], by omega, by rw [ho]; exact (lbl_t hb).symm, rfl, rfl, rfl⟩
      case wa => exact wkA
     ·have hb : lbB v 0 = false := hb
      refine goD ?_; intros
      refine ⟨m2 - 1, by omega, _, _, _, [], ?wb, 1, out, by omega, by rw [ho]; exact (lbl_f hb).symm, rfl, rfl, rfl⟩
      case wb => exact wkA
    | 1, _ =>
     have w3 : IntKind.i64.wrap (2 * q.1 + ((1 : Nat) : Int)) = 2 * q.1 + ((1 : Nat) : Int) := dwrap oM oM
     have w4 : IntKind.i64.wrap (3 * q.2 + ((0 : Nat) : Int)) = 3 * q.2 + ((0 : Nat) : Int) := dwrap oM oM
     refine goD ?_; intros
     refine dw_if (j := 0) (q := [.c (.int .u8 60)]) rfl rfl (by decide) (by decide) rfl ?_
     refine goD ?_; intros
     refine ds_if rfl (fun hb => ?_) (fun hb => ?_)
     ·have hb : lbB v 1 = true := hb
      refine goD ?_; intros
      refine dw_app (m := 1) (q := ptF (lbQ q 1)) rfl rfl rfl (subL_all _ hfl) ⟨rfl, rfl, _, rfl, by rw [w1, w2, w3, w4]; rfl⟩ (by omega) (by omega) (by decide) rfl ?_
      rw [show out.flatMap ptF ++ ptF (lbQ q 1) = (out ++ [lbQ q 1]).flatMap ptF by simp, show out.length + 1 = (out ++ [lbQ q 1]).length by simp]
      refine goD ?_; intros
      refine ⟨m2 - 1, by omega, _, _, _, [(1, 3)], ?wa, 2, out ++ [lbQ q 1], by omega, by rw [ho]; exact (lbl_t hb).symm, rfl, rfl, rfl⟩
      case wa => exact wkA
     ·have hb : lbB v 1 = false := hb
      refine goD ?_; intros
      refine ⟨m2 - 1, by omega, _, _, _, [], ?wb, 2, out, by omega, by rw [ho]; exact (lbl_f hb).symm, rfl, rfl, rfl⟩
      case wb => exact wkA
    | 2, _ =>
     have w3 : IntKind.i64.wrap (2 * q.1 + ((2 : Nat) : Int)) = 2 * q.1 + ((2 : Nat) : Int) := dwrap oM oM
     have w4 : IntKind.i64.wrap (3 * q.2 + ((0 : Nat) : Int)) = 3 * q.2 + ((0 : Nat) : Int) := dwrap oM oM
     refine goD ?_; intros
     refine dw_if (j := 1) (q := [.c (.int .u8 v)]) rfl rfl (by decide) (by decide) rfl ?_
     refine goD ?_; intros
     refine ds_if rfl (fun hb => ?_) (fun hb => ?_)
     ·have hb : lbB v 2 = true := hb
      refine goD ?_; intros
      refine dw_app (m := 1) (q := ptF (lbQ q 2)) rfl rfl rfl (subL_all _ hfl) ⟨rfl, rfl, _, rfl, by rw [w1, w2, w3, w4]; rfl⟩ (by omega) (by omega) (by decide) rfl ?_
      rw [show out.flatMap ptF ++ ptF (lbQ q 2) = (out ++ [lbQ q 2]).flatMap ptF by simp, show out.length + 1 = (out ++ [lbQ q 2]).length by simp]
      refine goD ?_; intros
      refine ⟨m2 - 1, by omega, _, _, _, [(1, 3)], ?wa, 3, out ++ [lbQ q 2], by omega, by rw [ho]; exact (lbl_t hb).symm, rfl, rfl, rfl⟩
      case wa => exact wkA
     ·have hb : lbB v 2 = false := hb
      refine goD ?_; intros
      refine ⟨m2 - 1, by omega, _, _, _, [], ?wb, 3, out, by omega, by rw [ho]; exact (lbl_f hb).symm, rfl, rfl, rfl⟩
      case wb => exact wkA
    | 3, _ =>
     have w3 : IntKind.i64.wrap (2 * q.1 + ((3 : Nat) : Int)) = 2 * q.1 + ((3 : Nat) : Int) := dwrap oM oM
     have w4 : IntKind.i64.wrap (3 * q.2 + ((0 : Nat) : Int)) = 3 * q.2 + ((0 : Nat) : Int) := dwrap oM oM
     refine goD ?_; intros
     refine dw_if (j := 1) (q := [.c (.int .u8 v)]) rfl rfl (by decide) (by decide) rfl ?_
     refine goD ?_; intros
     refine ds_if rfl (fun hb => ?_) (fun hb => ?_)
     ·have hb : lbB v 3 = true := hb
      refine goD ?_; intros
      refine dw_app (m := 1) (q := ptF (lbQ q 3)) rfl rfl rfl (subL_all _ hfl) ⟨rfl, rfl, _, rfl, by rw [w1, w2, w3, w4]; rfl⟩ (by omega) (by omega) (by decide) rfl ?_
      rw [show out.flatMap ptF ++ ptF (lbQ q 3) = (out ++ [lbQ q 3]).flatMap ptF by simp, show out.length + 1 = (out ++ [lbQ q 3]).length by simp]
      refine goD ?_; intros
      refine ⟨m2 - 1, by omega, _, _, _, [(1, 3)], ?wa, 4, out ++ [lbQ q 3], by omega, by rw [ho]; exact (lbl_t hb).symm, rfl, rfl, rfl⟩
      case wa => exact wkA
     ·have hb : lbB v 3 = false := hb
      refine goD ?_; intros
      refine ⟨m2 - 1, by omega, _, _, _, [], ?wb, 4, out, by omega, by rw [ho]; exact (lbl_f hb).symm, rfl, rfl, rfl⟩
      case wb => exact wkA
    | c + 4, h => omega
   ·have ht2 : c = 4 := by have := of_decide_eq_false ht2; omega
    subst ht2
    refine goD ?_; intros
    refine ⟨m - 1, oM, _, _, _, [], ?wc, 1, out, oM, ho, rfl, rfl, rfl⟩
    case wc => exact wkA
  | 1, _ =>
   refine goD ?_; intros
   refine ds_loop (fun m E S nk => ∃ (c : Nat) (out : List Pt2), c + m = 4 /\ out = lbl v q (4 + c) /\ E = [(3, .one (.ptr 0 0)), (5, .one (.f (.sl 1 2 [.c (.int .u8 60), .c (.int .u8 v)]))), (6, .one (.own 1 0 out.length 2)), (7, .int (1 : Nat)), (11, .int (1 : Nat)), (16, .int 4), (17, .int c)] /\ S = [(0, .cells [.f (.c (.int .i64 q.1)), .f (.c (.int .i64 q.2))]), (1, .data (out.flatMap ptF))] /\ nk = 2) ⟨4, _, _, _, [], ?wk1, 0, out, oM, ho, rfl, rfl, rfl⟩ ?_
   case wk1 => exact wkA
   rintro m2 E S nk ⟨c, out, hc, ho, rfl, rfl, rfl⟩
   have hol := lbl_len v q (4 + c)
   rw [<- ho] at hol
   have hfl := ptF_len out
   refine goD ?_; intros
   refine ds_if rfl (fun ht2 => ?_) (fun ht2 => ?_)
   ·have ht2 : c < 4 := by have := of_decide_eq_true ht2; omega
    match c, ht2 with
    | 0, _ =>
     have w3 : IntKind.i64.wrap (2 * q.1 + ((0 : Nat) : Int)) = 2 * q.1 + ((0 : Nat) : Int) := dwrap oM oM
     have w4 : IntKind.i64.wrap (3 * q.2 + ((1 : Nat) : Int)) = 3 * q.2 + ((1 : Nat) : Int) := dwrap oM oM
     refine goD ?_; intros
     refine dw_if (j := 0) (q := [.c (.int .u8 60)]) rfl rfl (by decide) (by decide) rfl ?_
     refine goD ?_; intros
     refine ds_if rfl (fun hb => ?_) (fun hb => ?_)
     ·have hb : lbB v 4 = true := hb
      refine goD ?_; intros
      refine dw_app (m := 1) (q := ptF (lbQ q 4)) rfl rfl rfl (subL_all _ hfl) ⟨rfl, rfl, _, rfl, by rw [w1, w2, w3, w4]; rfl⟩ (by omega) (by omega) (by decide) rfl ?_
      rw [show out.flatMap ptF ++ ptF (lbQ q 4) = (out ++ [lbQ q 4]).flatMap ptF by simp, show out.length + 1 = (out ++ [lbQ q 4]).length by simp]
      refine goD ?_; intros
      refine ⟨m2 - 1, by omega, _, _, _, [(1, 3)], ?wa, 1, out ++ [lbQ q 4], by omega, by rw [ho]; exact (lbl_t hb).symm, rfl, rfl, rfl⟩
      case wa => exact wkA
     ·have hb : lbB v 4 = false := hb
      refine goD ?_; intros
      refine ⟨m2 - 1, by omega, _, _, _, [], ?wb, 1, out, by omega, by rw [ho]; exact (lbl_f hb).symm, rfl, rfl, rfl⟩
      case wb => exact wkA
    | 1, _ =>
     have w3 : IntKind.i64.wrap (2 * q.1 + ((1 : Nat) : Int)) = 2 * q.1 + ((1 : Nat) : Int) := dwrap oM oM
     have w4 : IntKind.i64.wrap (3 * q.2 + ((1 : Nat) : Int)) = 3 * q.2 + ((1 : Nat) : Int) := dwrap oM oM
     refine goD ?_; intros
     refine dw_if (j := 0) (q := [.c (.int .u8 60)]) rfl rfl (by decide) (by decide) rfl ?_
     refine goD ?_; intros
     refine ds_if rfl (fun hb => ?_) (fun hb => ?_)
     ·have hb : lbB v 5 = true := hb
      refine goD ?_; intros
      refine dw_app (m := 1) (q := ptF (lbQ q 5)) rfl rfl rfl (subL_all _ hfl) ⟨rfl, rfl, _, rfl, by rw [w1, w2, w3, w4]; rfl⟩ (by omega) (by omega) (by decide) rfl ?_
      rw [show out.flatMap ptF ++ ptF (lbQ q 5) = (out ++ [lbQ q 5]).flatMap ptF by simp, show out.length + 1 = (out ++ [lbQ q 5]).length by simp]
      refine goD ?_; intros
      refine ⟨m2 - 1, by omega, _, _, _, [(1, 3)], ?wa, 2, out ++ [lbQ q 5], by omega, by rw [ho]; exact (lbl_t hb).symm, rfl, rfl, rfl⟩
      case wa => exact wkA
     ·have hb : lbB v 5 = false := hb
      refine goD ?_; intros
      refine ⟨m2 - 1, by omega, _, _, _, [], ?wb, 2, out, by omega, by rw [ho]; exact (lbl_f hb).symm, rfl, rfl, rfl⟩
      case wb => exact wkA
    | 2, _ =>
     have w3 : IntKind.i64.wrap (2 * q.1 + ((2 : Nat) : Int)) = 2 * q.1 + ((2 : Nat) : Int) := dwrap oM oM
     have w4 : IntKind.i64.wrap (3 * q.2 + ((1 : Nat) : Int)) = 3 * q.2 + ((1 : Nat) : Int) := dwrap oM oM
     refine goD ?_; intros
     refine dw_if (j := 1) (q := [.c (.int .u8 v)]) rfl rfl (by decide) (by decide) rfl ?_
     refine goD ?_; intros
     refine ds_if rfl (fun hb => ?_) (fun hb => ?_)
     ·have hb : lbB v 6 = true := hb
      refine goD ?_; intros
      refine dw_app (m := 1) (q := ptF (lbQ q 6)) rfl rfl rfl (subL_all _ hfl) ⟨rfl, rfl, _, rfl, by rw [w1, w2, w3, w4]; rfl⟩ (by omega) (by omega) (by decide) rfl ?_
      rw [show out.flatMap ptF ++ ptF (lbQ q 6) = (out ++ [lbQ q 6]).flatMap ptF by simp, show out.length + 1 = (out ++ [lbQ q 6]).length by simp]
      refine goD ?_; intros
      refine ⟨m2 - 1, by omega, _, _, _, [(1, 3)], ?wa, 3, out ++ [lbQ q 6], by omega, by rw [ho]; exact (lbl_t hb).symm, rfl, rfl, rfl⟩
      case wa => exact wkA
     ·have hb : lbB v 6 = false := hb
      refine goD ?_; intros
      refine ⟨m2 - 1, by omega, _, _, _, [], ?wb, 3, out, by omega, by rw [ho]; exact (lbl_f hb).symm, rfl, rfl, rfl⟩
      case wb => exact wkA
    | 3, _ =>
     have w3 : IntKind.i64.wrap (2 * q.1 + ((3 : Nat) : Int)) = 2 * q.1 + ((3 : Nat) : Int) := dwrap oM oM
     have w4 : IntKind.i64.wrap (3 * q.2 + ((1 : Nat) : Int)) = 3 * q.2 + ((1 : Nat) : Int) := dwrap oM oM
     refine goD ?_; intros
     refine dw_if (j := 1) (q := [.c (.int .u8 v)]) rfl rfl (by decide) (by decide) rfl ?_
     refine goD ?_; intros
     refine ds_if rfl (fun hb => ?_) (fun hb => ?_)
     ·have hb : lbB v 7 = true := hb
      refine goD ?_; intros
      refine dw_app (m := 1) (q := ptF (lbQ q 7)) rfl rfl rfl (subL_all _ hfl) ⟨rfl, rfl, _, rfl, by rw [w1, w2, w3, w4]; rfl⟩ (by omega) (by omega) (by decide) rfl ?_
      rw [show out.flatMap ptF ++ ptF (lbQ q 7) = (out ++ [lbQ q 7]).flatMap ptF by simp, show out.length + 1 = (out ++ [lbQ q 7]).length by simp]
      refine goD ?_; intros
      refine ⟨m2 - 1, by omega, _, _, _, [(1, 3)], ?wa, 4, out ++ [lbQ q 7], by omega, by rw [ho]; exact (lbl_t hb).symm, rfl, rfl, rfl⟩
      case wa => exact wkA
     ·have hb : lbB v 7 = false := hb
      refine goD ?_; intros
      refine ⟨m2 - 1, by omega, _, _, _, [], ?wb, 4, out, by omega, by rw [ho]; exact (lbl_f hb).symm, rfl, rfl, rfl⟩
      case wb => exact wkA
    | c + 4, h => omega
   ·have ht2 : c = 4 := by have := of_decide_eq_false ht2; omega
    subst ht2
    refine goD ?_; intros
    refine ⟨m - 1, oM, _, _, _, [], ?wc, 2, out, oM, ho, rfl, rfl, rfl⟩
    case wc => exact wkA
  | 2, _ =>
   refine goD ?_; intros
   refine ds_loop (fun m E S nk => ∃ (c : Nat) (out : List Pt2), c + m = 4 /\ out = lbl v q (8 + c) /\ E = [(3, .one (.ptr 0 0)), (5, .one (.f (.sl 1 2 [.c (.int .u8 60), .c (.int .u8 v)]))), (6, .one (.own 1 0 out.length 2)), (7, .int (2 : Nat)), (11, .int (2 : Nat)), (16, .int 4), (17, .int c)] /\ S = [(0, .cells [.f (.c (.int .i64 q.1)), .f (.c (.int .i64 q.2))]), (1, .data (out.flatMap ptF))] /\ nk = 2) ⟨4, _, _, _, [], ?wk2, 0, out, oM, ho, rfl, rfl, rfl⟩ ?_
   case wk2 => exact wkA
   rintro m2 E S nk ⟨c, out, hc, ho, rfl, rfl, rfl⟩
   have hol := lbl_len v q (8 + c)
   rw [<- ho] at hol
   have hfl := ptF_len out
   refine goD ?_; intros
   refine ds_if rfl (fun ht2 => ?_) (fun ht2 => ?_)
   ·have ht2 : c < 4 := by have := of_decide_eq_true ht2; omega
    match c, ht2 with
    | 0, _ =>
     have w3 : IntKind.i64.wrap (2 * q.1 + ((0 : Nat) : Int)) = 2 * q.1 + ((0 : Nat) : Int) := dwrap oM oM
     have w4 : IntKind.i64.wrap (3 * q.2 + ((2 : Nat) : Int)) = 3 * q.2 + ((2 : Nat) : Int) := dwrap oM oM
     refine goD ?_; intros
     refine dw_if (j := 0) (q := [.c (.int .u8 60)]) rfl rfl (by decide) (by decide) rfl ?_
     refine goD ?_; intros
     refine ds_if rfl (fun hb => ?_) (fun hb => ?_)
     ·have hb : lbB v 8 = true := hb
      refine goD ?_; intros
      refine dw_app (m := 1) (q := ptF (lbQ q 8)) rfl rfl rfl (subL_all _ hfl) ⟨rfl, rfl, _, rfl, by rw [w1, w2, w3, w4]; rfl⟩ (by omega) (by omega) (by decide) rfl ?_
      rw [show out.flatMap ptF ++ ptF (lbQ q 8) = (out ++ [lbQ q 8]).flatMap ptF by simp, show out.length + 1 = (out ++ [lbQ q 8]).length by simp]
      refine goD ?_; intros
      refine ⟨m2 - 1, by omega, _, _, _, [(1, 3)], ?wa, 1, out ++ [lbQ q 8], by omega, by rw [ho]; exact (lbl_t hb).symm, rfl, rfl, rfl⟩
      case wa => exact wkA
     ·have hb : lbB v 8 = false := hb
      refine goD ?_; intros
      refine ⟨m2 - 1, by omega, _, _, _, [], ?wb, 1, out, by omega, by rw [ho]; exact (lbl_f hb).symm, rfl, rfl, rfl⟩
      case wb => exact wkA
    | 1, _ =>
     have w3 : IntKind.i64.wrap (2 * q.1 + ((1 : Nat) : Int)) = 2 * q.1 + ((1 : Nat) : Int) := dwrap oM oM
     have w4 : IntKind.i64.wrap (3 * q.2 + ((2 : Nat) : Int)) = 3 * q.2 + ((2 : Nat) : Int) := dwrap oM oM
     refine goD ?_; intros
     refine dw_if (j := 0) (q := [.c (.int .u8 60)]) rfl rfl (by decide) (by decide) rfl ?_
     refine goD ?_; intros
     refine ds_if rfl (fun hb => ?_) (fun hb => ?_)
     ·have hb : lbB v 9 = true := hb
      refine goD ?_; intros
      refine dw_app (m := 1) (q := ptF (lbQ q 9)) rfl rfl rfl (subL_all _ hfl) ⟨rfl, rfl, _, rfl, by rw [w1, w2, w3, w4]; rfl⟩ (by omega) (by omega) (by decide) rfl ?_
      rw [show out.flatMap ptF ++ ptF (lbQ q 9) = (out ++ [lbQ q 9]).flatMap ptF by simp, show out.length + 1 = (out ++ [lbQ q 9]).length by simp]
      refine goD ?_; intros
      refine ⟨m2 - 1, by omega, _, _, _, [(1, 3)], ?wa, 2, out ++ [lbQ q 9], by omega, by rw [ho]; exact (lbl_t hb).symm, rfl, rfl, rfl⟩
      case wa => exact wkA
     ·have hb : lbB v 9 = false := hb
      refine goD ?_; intros
      refine ⟨m2 - 1, by omega, _, _, _, [], ?wb, 2, out, by omega, by rw [ho]; exact (lbl_f hb).symm, rfl, rfl, rfl⟩
      case wb => exact wkA
    | 2, _ =>
     have w3 : IntKind.i64.wrap (2 * q.1 + ((2 : Nat) : Int)) = 2 * q.1 + ((2 : Nat) : Int) := dwrap oM oM
     have w4 : IntKind.i64.wrap (3 * q.2 + ((2 : Nat) : Int)) = 3 * q.2 + ((2 : Nat) : Int) := dwrap oM oM
     refine goD ?_; intros
     refine dw_if (j := 1) (q := [.c (.int .u8 v)]) rfl rfl (by decide) (by decide) rfl ?_
     refine goD ?_; intros
     refine ds_if rfl (fun hb => ?_) (fun hb => ?_)
     ·have hb : lbB v 10 = true := hb
      refine goD ?_; intros
      refine dw_app (m := 1) (q := ptF (lbQ q 10)) rfl rfl rfl (subL_all _ hfl) ⟨rfl, rfl, _, rfl, by rw [w1, w2, w3, w4]; rfl⟩ (by omega) (by omega) (by decide) rfl ?_
      rw [show out.flatMap ptF ++ ptF (lbQ q 10) = (out ++ [lbQ q 10]).flatMap ptF by simp, show out.length + 1 = (out ++ [lbQ q 10]).length by simp]
      refine goD ?_; intros
      refine ⟨m2 - 1, by omega, _, _, _, [(1, 3)], ?wa, 3, out ++ [lbQ q 10], by omega, by rw [ho]; exact (lbl_t hb).symm, rfl, rfl, rfl⟩
      case wa => exact wkA
     ·have hb : lbB v 10 = false := hb
      refine goD ?_; intros
      refine ⟨m2 - 1, by omega, _, _, _, [], ?wb, 3, out, by omega, by rw [ho]; exact (lbl_f hb).symm, rfl, rfl, rfl⟩
      case wb => exact wkA
    | 3, _ =>
     have w3 : IntKind.i64.wrap (2 * q.1 + ((3 : Nat) : Int)) = 2 * q.1 + ((3 : Nat) : Int) := dwrap oM oM
     have w4 : IntKind.i64.wrap (3 * q.2 + ((2 : Nat) : Int)) = 3 * q.2 + ((2 : Nat) : Int) := dwrap oM oM
     refine goD ?_; intros
     refine dw_if (j := 1) (q := [.c (.int .u8 v)]) rfl rfl (by decide) (by decide) rfl ?_
     refine goD ?_; intros
     refine ds_if rfl (fun hb => ?_) (fun hb => ?_)
     ·have hb : lbB v 11 = true := hb
      refine goD ?_; intros
      refine dw_app (m := 1) (q := ptF (lbQ q 11)) rfl rfl rfl (subL_all _ hfl) ⟨rfl, rfl, _, rfl, by rw [w1, w2, w3, w4]; rfl⟩ (by omega) (by omega) (by decide) rfl ?_
      rw [show out.flatMap ptF ++ ptF (lbQ q 11) = (out ++ [lbQ q 11]).flatMap ptF by simp, show out.length + 1 = (out ++ [lbQ q 11]).length by simp]
      refine goD ?_; intros
      refine ⟨m2 - 1, by omega, _, _, _, [(1, 3)], ?wa, 4, out ++ [lbQ q 11], by omega, by rw [ho]; exact (lbl_t hb).symm, rfl, rfl, rfl⟩
      case wa => exact wkA
     ·have hb : lbB v 11 = false := hb
      refine goD ?_; intros
      refine ⟨m2 - 1, by omega, _, _, _, [], ?wb, 4, out, by omega, by rw [ho]; exact (lbl_f hb).symm, rfl, rfl, rfl⟩
      case wb => exact wkA
    | c + 4, h => omega
   ·have ht2 : c = 4 := by have := of_decide_eq_false ht2; omega
    subst ht2
    refine goD ?_; intros
    refine ⟨m - 1, oM, _, _, _, [], ?wc, 3, out, oM, ho, rfl, rfl, rfl⟩
    case wc => exact wkA
  | r + 3, h => omega
 ·have ht : r = 3 := by have := of_decide_eq_false ht; omega
  subst ht
  have hfl := ptF_len out
  refine goD ?_; intros
  refine ds_keep (SubA.cons (k := 4) rfl (SubA.nil _)) (SubA.cons (k := 1) rfl (SubA.nil _)) ?_
  refine ds_frz 1 rfl okZ okZ ?_
  refine ds_ret ⟨_, rfl, rfl, ?_⟩
  rw [show lbl v q 12 = out from ho.symm]
  rfl
set_option maxHeartbeats 8000000 in
theorem d_rlpoints {i : Nat} {q : Pt2} (hi : i < 8) (hq : Small 1000000 q) : DK 13 [.int i, ptD q] fun d => d = ptsD (lblP i q) := by
 refine dfn_ok cp13 rfl GHro fun Z0 lo => ?_
 unfold Small at hq
 have w1 : IntKind.i64.wrap (2 * q.1) = 2 * q.1 := dwrap oM oM
 have w2 : IntKind.i64.wrap (3 * q.2) = 3 * q.2 := dwrap oM oM
 refine goD ?_; intros
 refine dw_cf rfl rfl (d_rcells hi) ?_
 rintro _ rfl
 unfold cell2 lblP
 generalize dgt i = v
 refine goD ?_; intros
 refine ds_loop (fun m E S nk => ∃ (r : Nat) (out : List Pt2), r + m = 3 /\ out = lbl v q (4 * r) /\ E = [(3, .one (.ptr 0 0)), (5, .one (.own 1 0 out.length 2)), (6, .one (.f (.sl 1 2 [.c (.int .u8 60), .c (.int .u8 v)]))), (7, .int r)] /\ S = [(0, .cells [.f (.c (.int .i64 q.1)), .f (.c (.int .i64 q.2))]), (1, .data (out.flatMap ptF))] /\ nk = 2) ⟨3, _, _, _, [], ?wk, 0, [], oM, rfl, rfl, rfl, rfl⟩ ?_
 case wk => exact wkA
 rintro m E S nk ⟨r, out, hr, ho, rfl, rfl, rfl⟩
 refine goD ?_; intros
 refine ds_if rfl (fun ht => ?_) (fun ht => ?_)
 ·have ht : r < 3 := by have := of_decide_eq_true ht; omega
  match r, ht with
  | 0, _ =>
   refine goD ?_; intros
   refine ds_loop (fun m E S nk => ∃ (c : Nat) (out : List Pt2), c + m = 4 /\ out = lbl v q (0 + c) /\ E = [(3, .one (.ptr 0 0)), (5, .one (.own 1 0 out.length 2)), (6, .one (.f (.sl 1 2 [.c (.int .u8 60), .c (.int .u8 v)]))), (7, .int (0 : Nat)), (8, .int c)] /\ S = [(0, .cells [.f (.c (.int .i64 q.1)), .f (.c (.int .i64 q.2))]), (1, .data (out.flatMap ptF))] /\ nk = 2) ⟨4, _, _, _, [], ?wk0, 0, out, oM, ho, rfl, rfl, rfl⟩ ?_
   case wk0 => exact wkA
   rintro m2 E S nk ⟨c, out, hc, ho, rfl, rfl, rfl⟩
   have hol := lbl_len v q (0 + c)
   rw [<- ho] at hol
   have hfl := ptF_len out
   refine goD ?_; intros
   refine ds_if rfl (fun ht2 => ?_) (fun ht2 => ?_)
   ·have ht2 : c < 4 := by have := of_decide_eq_true ht2; omega
    match c, ht2 with
    | 0, _ =>
     have w3 : IntKind.i64.wrap (2 * q.1 + ((0 : Nat) : Int)) = 2 * q.1 + ((0 : Nat) : Int) := dwrap oM oM
     have w4 : IntKind.i64.wrap (3 * q.2 + ((0 : Nat) : Int)) = 3 * q.2 + ((0 : Nat) : Int) := dwrap oM oM
     refine goD ?_; intros
     refine dw_if (j := 0) (q := [.c (.int .u8 60)]) rfl rfl (by decide) (by decide) rfl ?_
     refine goD ?_; intros
     refine ds_if rfl (fun hb => ?_) (fun hb => ?_)
     ·have hb : lbB v 0 = true := hb
      refine goD ?_; intros
      refine dw_app (m := 1) (q := ptF (lbQ q 0)) rfl rfl rfl (subL_all _ hfl) ⟨rfl, rfl, _, rfl, by rw [w1, w2, w3, w4]; rfl⟩ (by omega) (by omega) (by decide) rfl ?_
      rw [show out.flatMap ptF ++ ptF (lbQ q 0) = (out ++ [lbQ q 0]).flatMap ptF by simp, show out.length + 1 = (out ++ [lbQ q 0]).length by simp]
      refine goD ?_; intros
      refine ⟨m2 - 1, by omega, _, _, _, [(1, 3)], ?wa, 1, out ++ [lbQ q 0], by omega, by rw [ho]; exact (lbl_t hb).symm, rfl, rfl, rfl⟩
      case wa => exact wkA
     ·have hb : lbB v 0 = false := hb
      refine goD ?_; intros
      refine ⟨m2 - 1, by omega, _, _, _, [], ?wb, 1, out, by omega, by rw [ho]; exact (lbl_f hb).symm, rfl, rfl, rfl⟩
      case wb => exact wkA
    | 1, _ =>
     have w3 : IntKind.i64.wrap (2 * q.1 + ((1 : Nat) : Int)) = 2 * q.1 + ((1 : Nat) : Int) := dwrap oM oM
     have w4 : IntKind.i64.wrap (3 * q.2 + ((0 : Nat) : Int)) = 3 * q.2 + ((0 : Nat) : Int) := dwrap oM oM
     refine goD ?_; intros
     refine dw_if (j := 0) (q := [.c (.int .u8 60)]) rfl rfl (by decide) (by decide) rfl ?_
     refine goD ?_; intros
     refine ds_if rfl (fun hb => ?_) (fun hb => ?_)
     ·have hb : lbB v 1 = true := hb
      refine goD ?_; intros
      refine dw_app (m := 1) (q := ptF (lbQ q 1)) rfl rfl rfl (subL_all _ hfl) ⟨rfl, rfl, _, rfl, by rw [w1, w2, w3, w4]; rfl⟩ (by omega) (by omega) (by decide) rfl ?_
      rw [show out.flatMap ptF ++ ptF (lbQ q 1) = (out ++ [lbQ q 1]).flatMap ptF by simp, show out.length + 1 = (out ++ [lbQ q 1]).length by simp]
      refine goD ?_; intros
      refine ⟨m2 - 1, by omega, _, _, _, [(1, 3)], ?wa, 2, out ++ [lbQ q 1], by omega, by rw [ho]; exact (lbl_t hb).symm, rfl, rfl, rfl⟩
      case wa => exact wkA
     ·have hb : lbB v 1 = false := hb
      refine goD ?_; intros
      refine ⟨m2 - 1, by omega, _, _, _, [], ?wb, 2, out, by omega, by rw [ho]; exact (lbl_f hb).symm, rfl, rfl, rfl⟩
      case wb => exact wkA
    | 2, _ =>
     have w3 : IntKind.i64.wrap (2 * q.1 + ((2 : Nat) : Int)) = 2 * q.1 + ((2 : Nat) : Int) := dwrap oM oM
     have w4 : IntKind.i64.wrap (3 * q.2 + ((0 : Nat) : Int)) = 3 * q.2 + ((0 : Nat) : Int) := dwrap oM oM
     refine goD ?_; intros
     refine dw_if (j := 1) (q := [.c (.int .u8 v)]) rfl rfl (by decide) (by decide) rfl ?_
     refine goD ?_; intros
     refine ds_if rfl (fun hb => ?_) (fun hb => ?_)
     ·have hb : lbB v 2 = true := hb
      refine goD ?_; intros
      refine dw_app (m := 1) (q := ptF (lbQ q 2)) rfl rfl rfl (subL_all _ hfl) ⟨rfl, rfl, _, rfl, by rw [w1, w2, w3, w4]; rfl⟩ (by omega) (by omega) (by decide) rfl ?_
      rw [show out.flatMap ptF ++ ptF (lbQ q 2) = (out ++ [lbQ q 2]).flatMap ptF by simp, show out.length + 1 = (out ++ [lbQ q 2]).length by simp]
      refine goD ?_; intros
      refine ⟨m2 - 1, by omega, _, _, _, [(1, 3)], ?wa, 3, out ++ [lbQ q 2], by omega, by rw [ho]; exact (lbl_t hb).symm, rfl, rfl, rfl⟩
      case wa => exact wkA
     ·have hb : lbB v 2 = false := hb
      refine goD ?_; intros
      refine ⟨m2 - 1, by omega, _, _, _, [], ?wb, 3, out, by omega, by rw [ho]; exact (lbl_f hb).symm, rfl, rfl, rfl⟩
      case wb => exact wkA
    | 3, _ =>
     have w3 : IntKind.i64.wrap (2 * q.1 + ((3 : Nat) : Int)) = 2 * q.1 + ((3 : Nat) : Int) := dwrap oM oM
     have w4 : IntKind.i64.wrap (3 * q.2 + ((0 : Nat) : Int)) = 3 * q.2 + ((0 : Nat) : Int) := dwrap oM oM
     refine goD ?_; intros
     refine dw_if (j := 1) (q := [.c (.int .u8 v)]) rfl rfl (by decide) (by decide) rfl ?_
     refine goD ?_; intros
     refine ds_if rfl (fun hb => ?_) (fun hb => ?_)
     ·have hb : lbB v 3 = true := hb
      refine goD ?_; intros
      refine dw_app (m := 1) (q := ptF (lbQ q 3)) rfl rfl rfl (subL_all _ hfl) ⟨rfl, rfl, _, rfl, by rw [w1, w2, w3, w4]; rfl⟩ (by omega) (by omega) (by decide) rfl ?_
      rw [show out.flatMap ptF ++ ptF (lbQ q 3) = (out ++ [lbQ q 3]).flatMap ptF by simp, show out.length + 1 = (out ++ [lbQ q 3]).length by simp]
      refine goD ?_; intros
      refine ⟨m2 - 1, by omega, _, _, _, [(1, 3)], ?wa, 4, out ++ [lbQ q 3], by omega, by rw [ho]; exact (lbl_t hb).symm, rfl, rfl, rfl⟩
      case wa => exact wkA
     ·have hb : lbB v 3 = false := hb
      refine goD ?_; intros
      refine ⟨m2 - 1, by omega, _, _, _, [], ?wb, 4, out, by omega, by rw [ho]; exact (lbl_f hb).symm, rfl, rfl, rfl⟩
      case wb => exact wkA
    | c + 4, h => omega
   ·have ht2 : c = 4 := by have := of_decide_eq_false ht2; omega
    subst ht2
    refine goD ?_; intros
    refine ⟨m - 1, oM, _, _, _, [], ?wc, 1, out, oM, ho, rfl, rfl, rfl⟩
    case wc => exact wkA
  | 1, _ =>
   refine goD ?_; intros
   refine ds_loop (fun m E S nk => ∃ (c : Nat) (out : List Pt2), c + m = 4 /\ out = lbl v q (4 + c) /\ E = [(3, .one (.ptr 0 0)), (5, .one (.own 1 0 out.length 2)), (6, .one (.f (.sl 1 2 [.c (.int .u8 60), .c (.int .u8 v)]))), (7, .int (1 : Nat)), (8, .int c)] /\ S = [(0, .cells [.f (.c (.int .i64 q.1)), .f (.c (.int .i64 q.2))]), (1, .data (out.flatMap ptF))] /\ nk = 2) ⟨4, _, _, _, [], ?wk1, 0, out, oM, ho, rfl, rfl, rfl⟩ ?_
   case wk1 => exact wkA
   rintro m2 E S nk ⟨c, out, hc, ho, rfl, rfl, rfl⟩
   have hol := lbl_len v q (4 + c)
   rw [<- ho] at hol
   have hfl := ptF_len out
   refine goD ?_; intros
   refine ds_if rfl (fun ht2 => ?_) (fun ht2 => ?_)
   ·have ht2 : c < 4 := by have := of_decide_eq_true ht2; omega
    match c, ht2 with
    | 0, _ =>
     have w3 : IntKind.i64.wrap (2 * q.1 + ((0 : Nat) : Int)) = 2 * q.1 + ((0 : Nat) : Int) := dwrap oM oM
     have w4 : IntKind.i64.wrap (3 * q.2 + ((1 : Nat) : Int)) = 3 * q.2 + ((1 : Nat) : Int) := dwrap oM oM
     refine goD ?_; intros
     refine dw_if (j := 0) (q := [.c (.int .u8 60)]) rfl rfl (by decide) (by decide) rfl ?_
     refine goD ?_; intros
     refine ds_if rfl (fun hb => ?_) (fun hb => ?_)
     ·have hb : lbB v 4 = true := hb
      refine goD ?_; intros
      refine dw_app (m := 1) (q := ptF (lbQ q 4)) rfl rfl rfl (subL_all _ hfl) ⟨rfl, rfl, _, rfl, by rw [w1, w2, w3, w4]; rfl⟩ (by omega) (by omega) (by decide) rfl ?_
      rw [show out.flatMap ptF ++ ptF (lbQ q 4) = (out ++ [lbQ q 4]).flatMap ptF by simp, show out.length + 1 = (out ++ [lbQ q 4]).length by simp]
      refine goD ?_; intros
      refine ⟨m2 - 1, by omega, _, _, _, [(1, 3)], ?wa, 1, out ++ [lbQ q 4], by omega, by rw [ho]; exact (lbl_t hb).symm, rfl, rfl, rfl⟩
      case wa => exact wkA
     ·have hb : lbB v 4 = false := hb
      refine goD ?_; intros
      refine ⟨m2 - 1, by omega, _, _, _, [], ?wb, 1, out, by omega, by rw [ho]; exact (lbl_f hb).symm, rfl, rfl, rfl⟩
      case wb => exact wkA
    | 1, _ =>
     have w3 : IntKind.i64.wrap (2 * q.1 + ((1 : Nat) : Int)) = 2 * q.1 + ((1 : Nat) : Int) := dwrap oM oM
     have w4 : IntKind.i64.wrap (3 * q.2 + ((1 : Nat) : Int)) = 3 * q.2 + ((1 : Nat) : Int) := dwrap oM oM
     refine goD ?_; intros
     refine dw_if (j := 0) (q := [.c (.int .u8 60)]) rfl rfl (by decide) (by decide) rfl ?_
     refine goD ?_; intros
     refine ds_if rfl (fun hb => ?_) (fun hb => ?_)
     ·have hb : lbB v 5 = true := hb
      refine goD ?_; intros
      refine dw_app (m := 1) (q := ptF (lbQ q 5)) rfl rfl rfl (subL_all _ hfl) ⟨rfl, rfl, _, rfl, by rw [w1, w2, w3, w4]; rfl⟩ (by omega) (by omega) (by decide) rfl ?_
      rw [show out.flatMap ptF ++ ptF (lbQ q 5) = (out ++ [lbQ q 5]).flatMap ptF by simp, show out.length + 1 = (out ++ [lbQ q 5]).length by simp]
      refine goD ?_; intros
      refine ⟨m2 - 1, by omega, _, _, _, [(1, 3)], ?wa, 2, out ++ [lbQ q 5], by omega, by rw [ho]; exact (lbl_t hb).symm, rfl, rfl, rfl⟩
      case wa => exact wkA
     ·have hb : lbB v 5 = false := hb
      refine goD ?_; intros
      refine ⟨m2 - 1, by omega, _, _, _, [], ?wb, 2, out, by omega, by rw [ho]; exact (lbl_f hb).symm, rfl, rfl, rfl⟩
      case wb => exact wkA
    | 2, _ =>
     have w3 : IntKind.i64.wrap (2 * q.1 + ((2 : Nat) : Int)) = 2 * q.1 + ((2 : Nat) : Int) := dwrap oM oM
     have w4 : IntKind.i64.wrap (3 * q.2 + ((1 : Nat) : Int)) = 3 * q.2 + ((1 : Nat) : Int) := dwrap oM oM
     refine goD ?_; intros
     refine dw_if (j := 1) (q := [.c (.int .u8 v)]) rfl rfl (by decide) (by decide) rfl ?_
     refine goD ?_; intros
     refine ds_if rfl (fun hb => ?_) (fun hb => ?_)
     ·have hb : lbB v 6 = true := hb
      refine goD ?_; intros
      refine dw_app (m := 1) (q := ptF (lbQ q 6)) rfl rfl rfl (subL_all _ hfl) ⟨rfl, rfl, _, rfl, by rw [w1, w2, w3, w4]; rfl⟩ (by omega) (by omega) (by decide) rfl ?_
      rw [show out.flatMap ptF ++ ptF (lbQ q 6) = (out ++ [lbQ q 6]).flatMap ptF by simp, show out.length + 1 = (out ++ [lbQ q 6]).length by simp]
      refine goD ?_; intros
      refine ⟨m2 - 1, by omega, _, _, _, [(1, 3)], ?wa, 3, out ++ [lbQ q 6], by omega, by rw [ho]; exact (lbl_t hb).symm, rfl, rfl, rfl⟩
      case wa => exact wkA
     ·have hb : lbB v 6 = false := hb
      refine goD ?_; intros
      refine ⟨m2 - 1, by omega, _, _, _, [], ?wb, 3, out, by omega, by rw [ho]; exact (lbl_f hb).symm, rfl, rfl, rfl⟩
      case wb => exact wkA
    | 3, _ =>
     have w3 : IntKind.i64.wrap (2 * q.1 + ((3 : Nat) : Int)) = 2 * q.1 + ((3 : Nat) : Int) := dwrap oM oM
     have w4 : IntKind.i64.wrap (3 * q.2 + ((1 : Nat) : Int)) = 3 * q.2 + ((1 : Nat) : Int) := dwrap oM oM
     refine goD ?_; intros
     refine dw_if (j := 1) (q := [.c (.int .u8 v)]) rfl rfl (by decide) (by decide) rfl ?_
     refine goD ?_; intros
     refine ds_if rfl (fun hb => ?_) (fun hb => ?_)
     ·have hb : lbB v 7 = true := hb
      refine goD ?_; intros
      refine dw_app (m := 1) (q := ptF (lbQ q 7)) rfl rfl rfl (subL_all _ hfl) ⟨rfl, rfl, _, rfl, by rw [w1, w2, w3, w4]; rfl⟩ (by omega) (by omega) (by decide) rfl ?_
      rw [show out.flatMap ptF ++ ptF (lbQ q 7) = (out ++ [lbQ q 7]).flatMap ptF by simp, show out.length + 1 = (out ++ [lbQ q 7]).length by simp]
      refine goD ?_; intros
      refine ⟨m2 - 1, by omega, _, _, _, [(1, 3)], ?wa, 4, out ++ [lbQ q 7], by omega, by rw [ho]; exact (lbl_t hb).symm, rfl, rfl, rfl⟩
      case wa => exact wkA
     ·have hb : lbB v 7 = false := hb
      refine goD ?_; intros
      refine ⟨m2 - 1, by omega, _, _, _, [], ?wb, 4, out, by omega, by rw [ho]; exact (lbl_f hb).symm, rfl, rfl, rfl⟩
      case wb => exact wkA
    | c + 4, h => omega
   ·have ht2 : c = 4 := by have := of_decide_eq_false ht2; omega
    subst ht2
    refine goD ?_; intros
    refine ⟨m - 1, oM, _, _, _, [], ?wc, 2, out, oM, ho, rfl, rfl, rfl⟩
    case wc => exact wkA
  | 2, _ =>
   refine goD ?_; intros
   refine ds_loop (fun m E S nk => ∃ (c : Nat) (out : List Pt2), c + m = 4 /\ out = lbl v q (8 + c) /\ E = [(3, .one (.ptr 0 0)), (5, .one (.own 1 0 out.length 2)), (6, .one (.f (.sl 1 2 [.c (.int .u8 60), .c (.int .u8 v)]))), (7, .int (2 : Nat)), (8, .int c)] /\ S = [(0, .cells [.f (.c (.int .i64 q.1)), .f (.c (.int .i64 q.2))]), (1, .data (out.flatMap ptF))] /\ nk = 2) ⟨4, _, _, _, [], ?wk2, 0, out, oM, ho, rfl, rfl, rfl⟩ ?_
   case wk2 => exact wkA
   rintro m2 E S nk ⟨c, out, hc, ho, rfl, rfl, rfl⟩
   have hol := lbl_len v q (8 + c)
   rw [<- ho] at hol
   have hfl := ptF_len out
   refine goD ?_; intros
   refine ds_if rfl (fun ht2 => ?_) (fun ht2 => ?_)
   ·have ht2 : c < 4 := by have := of_decide_eq_true ht2; omega
    match c, ht2 with
    | 0, _ =>
     have w3 : IntKind.i64.wrap (2 * q.1 + ((0 : Nat) : Int)) = 2 * q.1 + ((0 : Nat) : Int) := dwrap oM oM
     have w4 : IntKind.i64.wrap (3 * q.2 + ((2 : Nat) : Int)) = 3 * q.2 + ((2 : Nat) : Int) := dwrap oM oM
     refine goD ?_; intros
     refine dw_if (j := 0) (q := [.c (.int .u8 60)]) rfl rfl (by decide) (by decide) rfl ?_
     refine goD ?_; intros
     refine ds_if rfl (fun hb => ?_) (fun hb => ?_)
     ·have hb : lbB v 8 = true := hb
      refine goD ?_; intros
      refine dw_app (m := 1) (q := ptF (lbQ q 8)) rfl rfl rfl (subL_all _ hfl) ⟨rfl, rfl, _, rfl, by rw [w1, w2, w3, w4]; rfl⟩ (by omega) (by omega) (by decide) rfl ?_
      rw [show out.flatMap ptF ++ ptF (lbQ q 8) = (out ++ [lbQ q 8]).flatMap ptF by simp, show out.length + 1 = (out ++ [lbQ q 8]).length by simp]
      refine goD ?_; intros
      refine ⟨m2 - 1, by omega, _, _, _, [(1, 3)], ?wa, 1, out ++ [lbQ q 8], by omega, by rw [ho]; exact (lbl_t hb).symm, rfl, rfl, rfl⟩
      case wa => exact wkA
     ·have hb : lbB v 8 = false := hb
      refine goD ?_; intros
      refine ⟨m2 - 1, by omega, _, _, _, [], ?wb, 1, out, by omega, by rw [ho]; exact (lbl_f hb).symm, rfl, rfl, rfl⟩
      case wb => exact wkA
    | 1, _ =>
     have w3 : IntKind.i64.wrap (2 * q.1 + ((1 : Nat) : Int)) = 2 * q.1 + ((1 : Nat) : Int) := dwrap oM oM
     have w4 : IntKind.i64.wrap (3 * q.2 + ((2 : Nat) : Int)) = 3 * q.2 + ((2 : Nat) : Int) := dwrap oM oM
     refine goD ?_; intros
     refine dw_if (j := 0) (q := [.c (.int .u8 60)]) rfl rfl (by decide) (by decide) rfl ?_
     refine goD ?_; intros
     refine ds_if rfl (fun hb => ?_) (fun hb => ?_)
     ·have hb : lbB v 9 = true := hb
      refine goD ?_; intros
      refine dw_app (m := 1) (q := ptF (lbQ q 9)) rfl rfl rfl (subL_all _ hfl) ⟨rfl, rfl, _, rfl, by rw [w1, w2, w3, w4]; rfl⟩ (by omega) (by omega) (by decide) rfl ?_
      rw [show out.flatMap ptF ++ ptF (lbQ q 9) = (out ++ [lbQ q 9]).flatMap ptF by simp, show out.length + 1 = (out ++ [lbQ q 9]).length by simp]
      refine goD ?_; intros
      refine ⟨m2 - 1, by omega, _, _, _, [(1, 3)], ?wa, 2, out ++ [lbQ q 9], by omega, by rw [ho]; exact (lbl_t hb).symm, rfl, rfl, rfl⟩
      case wa => exact wkA
     ·have hb : lbB v 9 = false := hb
      refine goD ?_; intros
      refine ⟨m2 - 1, by omega, _, _, _, [], ?wb, 2, out, by omega, by rw [ho]; exact (lbl_f hb).symm, rfl, rfl, rfl⟩
      case wb => exact wkA
    | 2, _ =>
     have w3 : IntKind.i64.wrap (2 * q.1 + ((2 : Nat) : Int)) = 2 * q.1 + ((2 : Nat) : Int) := dwrap oM oM
     have w4 : IntKind.i64.wrap (3 * q.2 + ((2 : Nat) : Int)) = 3 * q.2 + ((2 : Nat) : Int) := dwrap oM oM
     refine goD ?_; intros
     refine dw_if (j := 1) (q := [.c (.int .u8 v)]) rfl rfl (by decide) (by decide) rfl ?_
     refine goD ?_; intros
     refine ds_if rfl (fun hb => ?_) (fun hb => ?_)
     ·have hb : lbB v 10 = true := hb
      refine goD ?_; intros
      refine dw_app (m := 1) (q := ptF (lbQ q 10)) rfl rfl rfl (subL_all _ hfl) ⟨rfl, rfl, _, rfl, by rw [w1, w2, w3, w4]; rfl⟩ (by omega) (by omega) (by decide) rfl ?_
      rw [show out.flatMap ptF ++ ptF (lbQ q 10) = (out ++ [lbQ q 10]).flatMap ptF by simp, show out.length + 1 = (out ++ [lbQ q 10]).length by simp]
      refine goD ?_; intros
      refine ⟨m2 - 1, by omega, _, _, _, [(1, 3)], ?wa, 3, out ++ [lbQ q 10], by omega, by rw [ho]; exact (lbl_t hb).symm, rfl, rfl, rfl⟩
      case wa => exact wkA
     ·have hb : lbB v 10 = false := hb
      refine goD ?_; intros
      refine ⟨m2 - 1, by omega, _, _, _, [], ?wb, 3, out, by omega, by rw [ho]; exact (lbl_f hb).symm, rfl, rfl, rfl⟩
      case wb => exact wkA
    | 3, _ =>
     have w3 : IntKind.i64.wrap (2 * q.1 + ((3 : Nat) : Int)) = 2 * q.1 + ((3 : Nat) : Int) := dwrap oM oM
     have w4 : IntKind.i64.wrap (3 * q.2 + ((2 : Nat) : Int)) = 3 * q.2 + ((2 : Nat) : Int) := dwrap oM oM
     refine goD ?_; intros
     refine dw_if (j := 1) (q := [.c (.int .u8 v)]) rfl rfl (by decide) (by decide) rfl ?_
     refine goD ?_; intros
     refine ds_if rfl (fun hb => ?_) (fun hb => ?_)
     ·have hb : lbB v 11 = true := hb
      refine goD ?_; intros
      refine dw_app (m := 1) (q := ptF (lbQ q 11)) rfl rfl rfl (subL_all _ hfl) ⟨rfl, rfl, _, rfl, by rw [w1, w2, w3, w4]; rfl⟩ (by omega) (by omega) (by decide) rfl ?_
      rw [show out.flatMap ptF ++ ptF (lbQ q 11) = (out ++ [lbQ q 11]).flatMap ptF by simp, show out.length + 1 = (out ++ [lbQ q 11]).length by simp]
      refine goD ?_; intros
      refine ⟨m2 - 1, by omega, _, _, _, [(1, 3)], ?wa, 4, out ++ [lbQ q 11], by omega, by rw [ho]; exact (lbl_t hb).symm, rfl, rfl, rfl⟩
      case wa => exact wkA
     ·have hb : lbB v 11 = false := hb
      refine goD ?_; intros
      refine ⟨m2 - 1, by omega, _, _, _, [], ?wb, 4, out, by omega, by rw [ho]; exact (lbl_f hb).symm, rfl, rfl, rfl⟩
      case wb => exact wkA
    | c + 4, h => omega
   ·have ht2 : c = 4 := by have := of_decide_eq_false ht2; omega
    subst ht2
    refine goD ?_; intros
    refine ⟨m - 1, oM, _, _, _, [], ?wc, 3, out, oM, ho, rfl, rfl, rfl⟩
    case wc => exact wkA
  | r + 3, h => omega
 ·have ht : r = 3 := by have := of_decide_eq_false ht; omega
  subst ht
  have hfl := ptF_len out
  refine goD ?_; intros
  refine ds_keep (SubA.cons (k := 4) rfl (SubA.nil _)) (SubA.cons (k := 1) rfl (SubA.nil _)) ?_
  refine ds_frz 1 rfl okZ okZ ?_
  refine ds_ret ⟨_, rfl, rfl, ?_⟩
  rw [show lbl v q 12 = out from ho.symm]
  rfl
def before (a b : Pt2) : Bool := if decide (a.2 < b.2) = true then true else if (a.2 == b.2) = true then decide (a.1 < b.1) else false
theorem d_before {a b : Pt2} : DK 24 [ptD a, ptD b] fun d => d = .bool (before a b) := by
 refine dfn_ok cp24 rfl GHro fun Z0 lo => ?_
 by_cases h1 : a.2 < b.2
 ·have g1 : decide (a.2 < b.2) = true := by simpa using h1
  refine goB ?_; intros
  exact ds_ret ⟨_, rfl, rfl, by simp [before, h1]⟩
 ·have g1 : decide (a.2 < b.2) = false := by simpa using h1
  by_cases h2 : a.2 = b.2
  ·have g2 : (a.2 == b.2) = true := by simpa using h2
   refine goB ?_; intros
   exact ds_ret ⟨_, rfl, rfl, by simp [before, h1, h2]⟩
  ·have g2 : (a.2 == b.2) = false := by simpa using h2
   refine goB ?_; intros
   exact ds_ret ⟨_, rfl, rfl, by simp [before, h1, h2]⟩
def posR (x : Pt2) (out : List Pt2) : Nat -> Nat
 | 0 => 0
 | n + 1 => match out[n]? with
  | some z => if before x z = true then posR x out n else n + 1
  | none => n + 1
def insP (x : Pt2) (out : List Pt2) : List Pt2 := out.take (posR x out out.length) ++ [x] ++ out.drop (posR x out out.length)
def addP (out : List Pt2) (x : Pt2) : List Pt2 := if x ∈ out then out else insP x out
def sortedP (l : List Pt2) : List Pt2 := l.foldl addP []
theorem posR_le (x : Pt2) (out : List Pt2) : ∀ n, posR x out n <= n
 | 0 => Nat.le_refl 0
 | n + 1 => by
  simp only [posR]
  have := posR_le x out n
  split
  ·split <;> omega
  ·omega
theorem sortedP_len : ∀ (l out : List Pt2), (l.foldl addP out).length <= out.length + l.length
 | [], out => by simp
 | x :: l, out => by
  have := sortedP_len l (addP out x)
  have h2 : (addP out x).length <= out.length + 1 := by
   unfold addP
   split
   ·omega
   ·simp [insP]; omega
  simp only [List.foldl_cons, List.length_cons]
  omega
set_option maxHeartbeats 4000000 in
theorem d_sorted {l : List Pt2} (hn : l.length < 1000000) : DK 22 [ptsD l] fun d => d = ptsD (sortedP l) := by
 refine dfn_ok cp22 rfl GHro fun Z0 lo => ?_
 refine goD ?_; intros
 refine ds_loop (fun m E S nk => ∃ k : Nat, k + m = l.length /\ ∃ out : List Pt2, out = sortedP (l.take k) /\ E = [(0, ptsD l), (3, .one (.own 0 0 out.length 2)), (4, .int k)] /\ S = [(0, .data (out.flatMap ptF))] /\ nk = 1) ⟨l.length, _, _, _, [], ?wk, 0, oM, [], rfl, rfl, rfl, rfl⟩ ?_
 case wk => exact wkA
 rintro m E S nk ⟨k, hk, out, hout, rfl, rfl, rfl⟩
 have hol : out.length <= 1000000 := by
  have := sortedP_len (l.take k) []
  rw [hout, sortedP]
  simp at this
  omega
 have hflat := ptF_len out
 refine goD ?_; intros
 refine ds_if rfl (fun ht => ?_) (fun ht => ?_)
 ·simp at ht
  obtain ⟨x, hx⟩ : ∃ x, l[k]? = some x := ⟨_, List.getElem?_eq_getElem oM⟩
  have e1 := ptF_at hx
  have hstep : sortedP (l.take (k + 1)) = addP out x := by
   rw [List.take_add_one, hx, hout, sortedP, sortedP]
   simp
  refine goD ?_; intros
  refine dw_cfo (ds := [.one _, ptD x]) rfl ⟨⟨_, rfl, _, _, rfl, subL_all _ hflat, rfl⟩, ⟨_, rfl, ⟨rfl, rfl⟩, ⟨rfl, rfl⟩, trivial⟩, trivial⟩ (d_has (l := out) (p := x) oM) (by rintro _ rfl; rfl) ?_
  rintro _ rfl
  refine goD ?_; intros
  refine ds_if rfl (fun ht2 => ?_) (fun ht2 => ?_)
  ·simp at ht2
   refine goD ?_; intros
   refine ⟨m - 1, oM, _, _, _, [], ?wk1, k + 1, oM, out, ?ho, rfl, rfl, rfl⟩
   case wk1 => exact wkA
   case ho => rw [hstep, addP, if_pos ht2]
  ·simp at ht2
   refine goD ?_; intros
   refine ds_loop (fun m E S nk => ∃ j : Nat, j = m /\ j <= out.length /\ posR x out j = posR x out out.length /\ E = [(0, ptsD l), (3, .one (.own 0 0 out.length 2)), (4, .int k), (5, .int j)] /\ S = [(0, .data (out.flatMap ptF))] /\ nk = 1) ⟨out.length, _, _, _, [], ?wk2, out.length, rfl, Nat.le_refl _, rfl, rfl, rfl, rfl⟩ ?_
   case wk2 => exact wkA
   rintro m2 E S nk ⟨j, hj, hjl, hpos, rfl, rfl, rfl⟩
   have fin : j = posR x out out.length -> ∀ Q : Exit -> DEnv -> Bx -> Nat -> Prop, Q .normal [(0, ptsD l), (3, .one (.own 5 0 (insP x out).length 2)), (4, .int k)] [(5, .data ((insP x out).flatMap ptF))] 6 -> DPS (Par.base Tryz.prog 1 (H00 1) Z0 lo) f22.n (.seq (.ops f22r8 0) (.seq (.ops f22r9 10) (.ops f22r10 0))) Q [(0, ptsD l), (3, .one (.own 0 0 out.length 2)), (4, .int k), (5, .int j)] [(0, .data (out.flatMap ptF))] 1 := by
    intro hjp Q hQ
    have hsplit : out.flatMap ptF = (out.take j).flatMap ptF ++ (out.drop j).flatMap ptF := by rw [<- List.flatMap_append, List.take_append_drop]
    have hlt : ((out.take j).flatMap ptF).length = j * 2 := by rw [ptF_len, List.length_take]; omega
    have hld : ((out.drop j).flatMap ptF).length = (out.length - j) * 2 := by rw [ptF_len, List.length_drop]
    have htake : subL (out.flatMap ptF) 0 (j * 2) = some ((out.take j).flatMap ptF) := by
     rw [subL_of (by omega), hsplit, List.drop_zero, List.take_append_of_le_length (by omega), List.take_of_length_le (by omega)]
    have hdrop : subL (out.flatMap ptF) (j * 2) ((out.length - j) * 2) = some ((out.drop j).flatMap ptF) := by
     rw [subL_of (by omega), hsplit, <- hlt, List.drop_left, List.take_of_length_le (by omega)]
    have hL : j + 1 + (out.length - j) = (insP x out).length := by simp [insP, <- hjp]; omega
    have hD : ((out.take j).flatMap ptF ++ [.c (.int .i64 x.1), .c (.int .i64 x.2)]) ++ (out.drop j).flatMap ptF = (insP x out).flatMap ptF := by
     rw [insP, <- hjp, List.flatMap_append, List.flatMap_append]; rfl
    refine goD ?_; intros
    refine dw_slo (o' := j * 2) (n' := out.length - j) rfl rfl rfl hjl (Nat.le_refl _) oM rfl ?_
    refine dw_app (l' := []) (q := (out.drop j).flatMap ptF) (m := out.length - j) rfl rfl rfl rfl ⟨rfl, rfl, _, rfl, hdrop⟩ oM oM (by decide) rfl ?_
    rw [Nat.zero_add (out.length - j), List.nil_append]
    refine goD ?_; intros
    refine dw_slo (o' := 0) (n' := j) rfl rfl rfl (Nat.zero_le _) hjl oM oM ?_
    refine goD ?_; intros
    refine dw_app (l' := (out.take j).flatMap ptF) (q := [.c (.int .i64 x.1), .c (.int .i64 x.2)]) rfl rfl rfl htake ⟨rfl, rfl, _, rfl, rfl⟩ oM oM (by decide) rfl ?_
    refine goD ?_; intros
    refine dw_app (q := (out.drop j).flatMap ptF) (m := out.length - j) rfl rfl rfl (subL_all _ (by rw [List.length_append, hlt]; simp; omega)) ⟨rfl, rfl, _, rfl, subL_all _ hld⟩ (by omega) (by omega) (by decide) rfl ?_
    rw [hL, hD]
    refine dw_p rfl ?_
    refine dw_keep (SubA.cons (k := 0) rfl (SubA.cons (k := 3) rfl (SubA.cons (k := 4) rfl (SubA.nil _)))) (SubA.cons (k := 5) rfl (SubA.nil _)) ?_
    exact dw_nil hQ
   by_cases hj0 : j = 0
   ·have g0 : decide ((j : Int) > 0) = false := by simp; omega
    refine goB ?_; intros
    refine ds_if rfl (fun ht => by cases ht) (fun _ => ?_)
    refine ds_exit ?_
    refine ds_keep (SubA.cons (k := 0) rfl (SubA.cons (k := 3) rfl (SubA.cons (k := 4) rfl (SubA.cons (k := 5) rfl (SubA.nil _))))) (SubA.cons (k := 0) rfl (SubA.nil _)) ?_
    refine fin (by rw [<- hpos, hj0]; rfl) _ ?_
    refine goD ?_; intros
    refine ⟨m - 1, oM, _, _, _, [(0, 5)], ?wa, k + 1, oM, insP x out, ?ha, rfl, rfl, rfl⟩
    case wa => exact wkA
    case ha => rw [hstep, addP, if_neg ht2]
   ·obtain ⟨i, rfl⟩ : ∃ i, j = i + 1 := ⟨j - 1, oM⟩
    have g0 : decide (((i + 1 : Nat) : Int) > 0) = true := by simp
    obtain ⟨z, hz⟩ : ∃ z, out[i]? = some z := ⟨_, List.getElem?_eq_getElem oM⟩
    have ez := ptF_at hz
    have hp1 : posR x out (i + 1) = if before x z = true then posR x out i else i + 1 := by simp only [posR, hz]
    refine goB ?_; intros
    rw [show IntKind.i64.wrap (((i + 1 : Nat) : Int) - 1) = (i : Nat) by rw [dwrap (by omega) (by omega)]; omega]
    refine goB ?_; intros
    refine dw_cf rfl rfl (d_before (a := x) (b := z)) ?_
    rintro _ rfl
    cases hb : before x z with
    | true =>
     refine goB ?_; intros
     refine ds_if rfl (fun _ => ?_) (fun ht => by cases ht)
     refine goD ?_; intros
     rw [show IntKind.i64.wrap (((i + 1 : Nat) : Int) - 1) = (i : Nat) by rw [dwrap (by omega) (by omega)]; omega]
     refine ⟨i, oM, _, _, _, [], ?wk3, i, rfl, oM, ?hp, rfl, rfl, rfl⟩
     case wk3 => exact wkA
     case hp => rw [<- hpos, hp1, if_pos hb]
    | false =>
     refine goB ?_; intros
     refine ds_if rfl (fun ht => by cases ht) (fun _ => ?_)
     refine ds_exit ?_
     refine ds_keep (SubA.cons (k := 0) rfl (SubA.cons (k := 3) rfl (SubA.cons (k := 4) rfl (SubA.cons (k := 5) rfl (SubA.nil _))))) (SubA.cons (k := 0) rfl (SubA.nil _)) ?_
     refine fin (by rw [<- hpos, hp1, if_neg (by rw [hb]; decide)]) _ ?_
     refine goD ?_; intros
     refine ⟨m - 1, oM, _, _, _, [(0, 5)], ?wb, k + 1, oM, insP x out, ?hb2, rfl, rfl, rfl⟩
     case wb => exact wkA
     case hb2 => rw [hstep, addP, if_neg ht2]
 ·simp at ht
  refine ds_keep (SubA.cons (k := 3) rfl (SubA.nil _)) (SubA.cons (k := 0) rfl (SubA.nil _)) ?_
  refine ds_frz 0 rfl okZ okZ ?_
  refine goD ?_; intros
  refine ds_ret ⟨_, rfl, rfl, ?_⟩
  rw [List.take_of_length_le (by omega)] at hout
  subst hout
  rfl
end Go.Ae
