/- Contracts of functions of the program over the abstract semantics. -/
import Derived.Test.YtandgamnamkkhaaGreatDoorAb14
import Derived.Below
import Derived.ChangeSame
import Derived.RowKit
import Derived.Carry
set_option linter.unusedVariables false
set_option linter.unusedSimpArgs false
namespace Go.Ab
section
variable {X : Type} {enc : TypeId × Value -> X} {P : Program} {G : Nat} {w : World} {base : Nat} {held : Bool}
def argV (T : Ty) (l : List C) : V :=
 match T with
 | .agg _ => .agg l
 | _ => match l with
  | [c] => .one c
  | _ => .undef
theorem arg_ok {n : Nat} {t : TypeId} {T : Ty} (hd : desc P n t = some T) {v : Value} {d : DataW X} {ps : List MemPlace} {r : Reach} {b0 : Nat} (ht : DataW.Trod enc P w base (fun _ => true) held t v d ps) (hv : Value.okWide P w r b0 t v)
  {μ : Nat -> Pl} {K : Nat -> Prop} {H : Hp} (hR : Rel G μ K H w) (hN : NoMut H) : ∃ l H' μ' K', lay T [d] H = some (l, H') /\ Rel G μ' K' H' w /\ RV μ' K' (argV T l) v /\ Gr μ K H μ' K' H' := by
 obtain ⟨fuel, hf⟩ := ht
 obtain ⟨hok, hsz⟩ := lay_ok (enc := enc) (G := G) (w := w) (base := base) (held := held) n t T hd
 obtain ⟨hlen, l, H', μ', K', e1, R1, a1, g1⟩ := hok hf hR hN
 refine ⟨l, H', μ', K', e1, R1, ?_, g1⟩
 have hone : (∀ cs, v ≠ .agg cs) -> T.sz = 1 -> (∀ r, T ≠ .agg r) -> RV μ' K' (argV T l) v := by
  intro hna h1 hT
  have hc : v.cells = #[v] := by
   cases v <;> first|rfl|exact absurd rfl (hna _)
  rw [hc] at a1
  have hl : l.length = 1 := by rw [a1.len]; rfl
  match l, hl with
  | [c], _ =>
   have : argV T [c] = .one c := by
    cases T <;> first|rfl|exact absurd rfl (hT _)
   rw [this]
   exact a1.1
 cases n with
 | zero => cases hd
 | succ n =>
  simp only [desc, chk] at hd
  split at hd
  ·rename_i T0 hT0
   split at hd
   ·obtain rfl := Option.some.inj hd
    have hagg : ∀ r, T0 = .agg r -> (∃ cs, v = .agg cs) -> RV μ' K' (argV T0 l) v := by
     rintro r rfl ⟨cs, rfl⟩
     exact ⟨cs.toList, by simp, a1⟩
    split at hT0
    ·rename_i hu
     obtain rfl := Option.some.inj hT0
     refine hone (fun cs e => ?_) rfl (fun r => by simp)
     subst e; simp [Value.okWide, hu, Cell.okWide, Cell.ok] at hv
    ·rename_i k hu
     obtain rfl := Option.some.inj hT0
     refine hone (fun cs e => ?_) rfl (fun r => by simp)
     subst e; simp [Value.okWide, hu, Cell.okWide, Cell.ok] at hv
    ·rename_i hu
     obtain rfl := Option.some.inj hT0
     refine hone (fun cs e => ?_) rfl (fun r => by simp)
     subst e; simp [Value.okWide, hu, Cell.okWide, Cell.ok] at hv
    ·rename_i e hu
     split at hT0
     ·split at hT0
      ·obtain rfl := Option.some.inj hT0
       refine hone (fun cs e => ?_) rfl (fun r => by simp)
       subst e; simp [Value.okWide, hu, Cell.okWide, Cell.ok] at hv
      ·cases hT0
     ·cases hT0
    ·rename_i fs hu
     split at hT0
     ·obtain rfl := Option.some.inj hT0
      simp only [Value.okWide, hu] at hv
      obtain ⟨cs, h1, _⟩ := hv
      exact hagg _ rfl ⟨cs, h1⟩
     ·cases hT0
    ·rename_i k e hu
     split at hT0
     ·obtain rfl := Option.some.inj hT0
      simp only [Value.okWide, hu] at hv
      obtain ⟨cs, h1, _⟩ := hv
      exact hagg _ rfl ⟨cs, h1⟩
     ·cases hT0
    ·cases hT0
   ·cases hd
  ·cases hd
def descs (P : Program) (n : Nat) : List TypeId -> Option (List Ty)
 | [] => some []
 | t :: ts => match desc P n t with
  | some a => match descs P n ts with
   | some l => some (a :: l)
   | none => none
  | none => none
def layArgs : List Ty -> List (DataW X) -> Hp -> Option (List V × Hp)
 | [], [], H => some ([], H)
 | t :: ts, d :: ds, H => match lay t [d] H with
  | some (l, H1) => match layArgs ts ds H1 with
   | some (vs, H2) => some (argV t l :: vs, H2)
   | none => none
  | none => none
 | _, _, _ => none
theorem args_ok {n : Nat} {r : Reach} {b0 : Nat} : ∀ {ts : List TypeId} {Ts : List Ty} {vs : List Value} {ds : List (DataW X)} {ps : List MemPlace} {μ : Nat -> Pl} {K : Nat -> Prop} {H : Hp}, descs P n ts = some Ts ->
  DataW.TrodAll enc P w base (fun _ => true) held ts vs ds ps -> (∀ (j : Nat) t v, ts[j]? = some t -> vs[j]? = some v -> Value.okWide P w r b0 t v) -> Rel G μ K H w -> NoMut H ->
  ∃ avs H' μ' K', layArgs Ts ds H = some (avs, H') /\ Rel G μ' K' H' w /\ All2 (RV μ' K') avs vs /\ Gr μ K H μ' K' H'
 | [], Ts, [], [], ps, μ, K, H, hd, _, _, hR, hN => by
  simp only [descs, Option.some.injEq] at hd
  subst hd
  exact ⟨[], H, μ, K, rfl, hR, trivial, Gr.refl _ _ _⟩
 | t :: ts, Ts, v :: vs, d :: ds, ps, μ, K, H, hd, ht, hv, hR, hN => by
  simp only [descs] at hd
  cases h1 : desc P n t with
  | none => simp [h1] at hd
  | some a =>
   simp only [h1] at hd
   cases h2 : descs P n ts with
   | none => simp [h2] at hd
   | some l =>
    simp only [h2, Option.some.injEq] at hd
    subst hd
    obtain ⟨p, q, g1, g2, _⟩ := ht
    obtain ⟨l1, H1, μ1, K1, e1, R1, a1, gr1⟩ := arg_ok h1 g1 (hv 0 t v rfl rfl) hR hN
    obtain ⟨avs, H2, μ2, K2, e2, R2, a2, gr2⟩ := args_ok h2 g2 (fun j t v hj hj' => hv (j + 1) t v (by simpa using hj) (by simpa using hj')) R1 (gr1.noMut hN)
    exact ⟨argV a l1 :: avs, H2, μ2, K2, by simp [layArgs, e1, e2], R2, ⟨a1.mono gr2.kk gr2.mu, a2⟩, gr1.trans gr2⟩
 | [], _, _ :: _, _, _, _, _, _, _, ht, _, _, _ => by cases ht
 | [], _, [], _ :: _, _, _, _, _, _, ht, _, _, _ => by cases ht
 | _ :: _, _, [], _, _, _, _, _, _, ht, _, _, _ => by cases ht
 | _ :: _, _, _ :: _, [], _, _, _, _, _, ht, _, _, _ => by cases ht
def layLaid (P : Program) (n G : Nat) : List (String × DataW Unit) -> Hp -> Hp
 | [], H => H
 | (s, d) :: r, H => match P.globalNamed s with
  | none => layLaid P n G r H
  | some g => match (P.globals[g]?).map (·.type) with
   | none => layLaid P n G r H
   | some t => match desc P n t with
    | none => layLaid P n G r H
    | some T => match lay T [d] H with
     | none => layLaid P n G r H
     | some (l, H') => if g < G then layLaid P n G r (H'.add g (.row l.length l .lf false)) else layLaid P n G r H
def szOf (w : World) (g : Nat) : Nat :=
 match w.heap[g]? with
 | some (.cells cs _ _) => cs.size
 | _ => 0
theorem laid_ok {n : Nat} : ∀ {laid : List (String × DataW Unit)} {ps : List MemPlace} {μ : Nat -> Pl} {K : Nat -> Prop} {H : Hp}, DataW.LaidVars P w laid ps -> Rel G μ K H w -> NoMut H -> (∀ g, g < G -> μ g = ⟨g, 0, szOf w g⟩) ->
  ∃ μ' K', Rel G μ' K' (layLaid P n G laid H) w /\ NoMut (layLaid P n G laid H)
 | [], _, μ, K, H, _, hR, hN, _ => ⟨μ, K, hR, hN⟩
 | (s, d) :: r, ps, μ, K, H, hl, hR, hN, hg => by
  obtain ⟨g, t, cs, fuel, p, q, h1, h2, h3, h4, h5, _⟩ := hl
  simp only [layLaid, h1, h2]
  cases hd : desc P n t with
  | none => exact laid_ok h5 hR hN hg
  | some T =>
   obtain ⟨hok, hsz⟩ := lay_ok (enc := fun _ => ()) (G := G) (w := w) (base := 0) (held := false) n t T hd
   obtain ⟨hlen, l, H', μ', K', e1, R1, a1, g1⟩ := hok h4 hR hN
   simp only [e1]
   split
   ·rename_i hgG
    have hN1 := g1.noMut hN
    have hKg := (R1.glob g hgG).1
    have hmu : ∀ g, g < G -> μ' g = ⟨g, 0, szOf w g⟩ := fun g hg' => by rw [g1.mu g (hR.glob g hg').1]; exact hg g hg'
    have hN2 : NoMut (H'.add g (.row l.length l .lf false)) := fun b bk hb => by
     rw [Hp.get_add] at hb
     split at hb
     ·obtain rfl := Option.some.inj hb; rfl
     ·exact hN1 b bk hb
    refine laid_ok h5 (μ := μ') (K := K') ⟨fun b bk hb => ?_, R1.lt, fun b bk hb => ?_, fun b b' bk bk' hb _ hm => ?_, R1.glob⟩ hN2 hmu
    ·rw [Hp.get_add] at hb
     split at hb
     ·rename_i e; rw [e]; exact hKg
     ·exact R1.dom b bk hb
    ·rw [Hp.get_add] at hb
     split at hb
     ·rename_i e
      subst e
      obtain rfl := Option.some.inj hb
      rw [hmu _ hgG]
      unfold World.var? at h3
      rw [h1] at h3
      simp only [Option.bind_some] at h3
      split at h3
      ·rename_i c ty fz hc
       obtain rfl := Option.some.inj h3
       refine ⟨c, ty, fz, hc, by simp [szOf, hc], by simp [a1.len], fun h => (by cases h), fun i x hx => ?_⟩
       simp only [B.cell] at hx
       split at hx
       ·rename_i hi
        simp only [Ab.T.get_lf, Option.getD_none, Nat.mod_eq_of_lt hi, List.getD_eq_getElem?_getD, List.getElem?_eq_getElem hi, Option.getD_some, Option.some.injEq] at hx
        obtain ⟨y, hy, hr⟩ := a1.at i x (by rw [List.getElem?_eq_getElem hi, hx])
        exact ⟨y, by simpa using hy, hr⟩
       ·cases hx
      ·cases h3
     ·exact R1.blk b bk hb
    ·rw [hN2 b bk hb] at hm; cases hm
   ·exact laid_ok h5 hR hN hg
theorem start_rel (w : World) : Rel G (fun g => ⟨g, 0, szOf w g⟩) (fun b => b < G) ⟨.lf, G⟩ w :=
 ⟨fun _ _ h => (by cases h), fun _ h => h, fun _ _ h => (by cases h), fun _ _ _ _ h => (by cases h), fun _ hg => ⟨hg, rfl, rfl⟩⟩
end
def Ty.den : Ty -> Type
 | .bool => Bool
 | .int _ => Int
 | .str => ByteArray
 | .slice e => List e.den
 | .unit => Unit
 | .pair a b => a.den × b.den
 | .agg r => r.den
def RL {α : Type} (f : α -> List C -> Prop) : List α -> List C -> Prop
 | [], cs => cs = []
 | x :: xs, cs => ∃ a b, cs = a ++ b /\ f x a /\ RL f xs b
def Ty.R (H : Hp) : (t : Ty) -> t.den -> List C -> Prop
 | .bool, x, l => l = [.bool x]
 | .int k, x, l => l = [.int k x] /\ (Lit.int k x).wf = true
 | .str, x, l => l = [.str x]
 | .slice e, x, l => (l = [.nils] /\ List.length x = 0) \/ ∃ b cs, l = [.slc b 0 (List.length x) (List.length x) e.sz false] /\ List.length x <= 9223372036854775807 /\ H.loads b 0 (List.length x * e.sz) = some cs /\ RL (Ty.R H e) x cs
 | .unit, _, l => l = []
 | .pair a b, x, l => ∃ l1 l2, l = l1 ++ l2 /\ Ty.R H a (Prod.fst x) l1 /\ Ty.R H b (Prod.snd x) l2
 | .agg r, x, l => Ty.R H r x l
theorem RL.mono {α : Type} {f g : α -> List C -> Prop} (h : ∀ x l, f x l -> g x l) : ∀ {xs : List α} {cs : List C}, RL f xs cs -> RL g xs cs
 | [], _, hh => hh
 | _ :: _, _, ⟨a, b, e, h1, h2⟩ => ⟨a, b, e, h _ _ h1, RL.mono h h2⟩
theorem RL.len {α : Type} {f : α -> List C -> Prop} {c : Nat} (h : ∀ x l, f x l -> l.length = c) : ∀ {xs : List α} {cs : List C}, RL f xs cs -> cs.length = xs.length * c
 | [], _, hh => by cases hh; simp
 | _ :: xs, _, ⟨a, b, e, h1, h2⟩ => by
  subst e
  rw [List.length_append, h _ _ h1, RL.len h h2, List.length_cons, Nat.add_mul]; omega
theorem Ty.R_le {H H' : Hp} (h : Le H H') : ∀ (t : Ty) (x : t.den) (l : List C), t.R H x l -> t.R H' x l
 | .bool, _, _, hh => hh
 | .int _, _, _, hh => hh
 | .str, _, _, hh => hh
 | .slice e, x, l, hh => by
  rcases hh with hh|⟨b, cs, h1, h0, h2, h3⟩
  ·exact .inl hh
  ·exact .inr ⟨b, cs, h1, h0, h.loads h2, h3.mono (Ty.R_le h e)⟩
 | .unit, _, _, hh => hh
 | .pair a b, x, l, ⟨l1, l2, e, h1, h2⟩ => ⟨l1, l2, e, Ty.R_le h a _ _ h1, Ty.R_le h b _ _ h2⟩
 | .agg r, x, l, hh => Ty.R_le h r x l hh
theorem Ty.R_len {H : Hp} : ∀ (t : Ty) (x : t.den) (l : List C), t.R H x l -> l.length = t.sz
 | .bool, _, _, hh => by cases hh; rfl
 | .int _, _, _, hh => by cases hh.1; rfl
 | .str, _, _, hh => by cases hh; rfl
 | .slice e, x, l, hh => by
  rcases hh with hh|⟨b, cs, h1, _⟩
  ·rw [hh.1]; rfl
  ·rw [h1]; rfl
 | .unit, _, _, hh => by cases hh; rfl
 | .pair a b, x, l, ⟨l1, l2, e, h1, h2⟩ => by subst e; rw [List.length_append, Ty.R_len a _ _ h1, Ty.R_len b _ _ h2]; rfl
 | .agg r, x, l, hh => Ty.R_len r x l hh
section
variable {X : Type}
theorem layL_dec {e : Ty} (he : ∀ {ds : List (DataW X)} {H H' : Hp} {l : List C}, WF H -> lay e ds H = some (l, H') -> WF H' /\ Ext H H' /\ ∃ x : e.den, e.R H' x l) : ∀ {es : List (DataW X)} {H H' : Hp} {cs : List C}, WF H -> layL (fun d H => lay e [d] H) es H = some (cs, H') ->
  WF H' /\ Ext H H' /\ ∃ xs : List e.den, xs.length = es.length /\ RL (e.R H') xs cs
 | [], H, H', cs, hw, h => by
  simp only [layL, Option.some.injEq, Prod.mk.injEq] at h
  obtain ⟨rfl, rfl⟩ := h
  exact ⟨hw, Ext.refl _, [], rfl, rfl⟩
 | d :: es, H, H', cs, hw, h => by
  simp only [layL] at h
  cases h1 : lay e [d] H with
  | none => simp [h1] at h
  | some x =>
   obtain ⟨l, H1⟩ := x
   simp only [h1] at h
   cases h2 : layL (fun d H => lay e [d] H) es H1 with
   | none => simp [h2] at h
   | some y =>
    obtain ⟨l', H2⟩ := y
    simp only [h2, Option.some.injEq, Prod.mk.injEq] at h
    obtain ⟨rfl, rfl⟩ := h
    obtain ⟨w1, e1, x1, r1⟩ := he hw h1
    obtain ⟨w2, e2, xs, hl, r2⟩ := layL_dec he w1 h2
    exact ⟨w2, e1.trans e2, x1 :: xs, by simp [hl], l, l', rfl, Ty.R_le e2.le _ _ _ r1, r2⟩
theorem lay_dec : ∀ (t : Ty) {ds : List (DataW X)} {H H' : Hp} {l : List C}, WF H -> lay t ds H = some (l, H') -> WF H' /\ Ext H H' /\ ∃ x : t.den, t.R H' x l
 | .bool, ds, H, H', l, hw, h => by
  unfold lay at h
  split at h <;> first|(cases h; done)|skip
  all_goals simp_all
  obtain ⟨rfl, rfl⟩ := h
  exact ⟨Ext.refl _, _, rfl⟩
 | .int k, ds, H, H', l, hw, h => by
  unfold lay at h
  split at h <;> first|(cases h; done)|skip
  all_goals simp_all
  rename_i e0
  subst e0
  obtain ⟨hwf, rfl, rfl⟩ := h
  exact ⟨Ext.refl _, _, rfl, hwf.2⟩
 | .str, ds, H, H', l, hw, h => by
  unfold lay at h
  split at h <;> first|(cases h; done)|skip
  all_goals simp_all
  obtain ⟨rfl, rfl⟩ := h
  exact ⟨Ext.refl _, _, rfl⟩
 | .slice e, ds, H, H', l, hw, h => by
  have he : ∀ {ds : List (DataW X)} {H H' : Hp} {l : List C}, WF H -> lay e ds H = some (l, H') -> WF H' /\ Ext H H' /\ ∃ x : e.den, e.R H' x l := fun hw h => lay_dec e hw h
  unfold lay at h
  split at h <;> first|(cases h; done)|skip
  all_goals first|(rename_i e0; obtain rfl := Ty.slice.inj e0)|(simp at *; done)
  ·obtain ⟨rfl, rfl⟩ := Prod.mk.inj (Option.some.inj h)
   exact ⟨hw, Ext.refl _, ([] : List e.den), .inl ⟨rfl, rfl⟩⟩
  ·rename_i es sp
   split at h
   case isFalse => cases h
   case isTrue hbd =>
   split at h
   case h_2 => cases h
   case h_1 cs H1 h1 =>
    simp only [Option.some.injEq] at h
    obtain ⟨w1, e1, xs, hl, r1⟩ := layL_dec he hw h1
    have hcl : cs.length = xs.length * e.sz := RL.len (Ty.R_len e) r1
    cases hcs : cs with
    | nil =>
     rw [hcs] at h r1
     obtain ⟨rfl, rfl⟩ := Prod.mk.inj h
     exact ⟨w1.skip 1, e1.skip 1, ([] : List e.den), .inr ⟨_, [], rfl, Nat.zero_le _, by simp [Hp.loads], rfl⟩⟩
    | cons c cr =>
     have e2 : newSl e.sz es.length cs H1 = ([.slc H1.nx 0 es.length es.length e.sz false], H1.push (.row cs.length cs .lf false)) := by rw [hcs]; rfl
     rw [e2] at h
     obtain ⟨rfl, rfl⟩ := Prod.mk.inj h
     refine ⟨w1.push _, Ext.push w1 e1 _, xs, .inr ⟨H1.nx, cs, by rw [hl], by rw [hl]; exact hbd, ?_, r1.mono (Ty.R_le (Ext.push w1 (Ext.refl _) _).le e)⟩⟩
     rw [<- hcl]
     exact loads_row (rw := false) (by rw [Hp.get_push, if_pos rfl])
 | .unit, ds, H, H', l, hw, h => by
  unfold lay at h
  split at h <;> first|(cases h; done)|skip
  all_goals simp_all
  obtain ⟨rfl, rfl⟩ := h
  exact ⟨Ext.refl _, (), rfl⟩
 | .pair a b, ds, H, H', l, hw, h => by
  cases ds with
  | nil => simp [lay] at h
  | cons d ds =>
   simp only [lay] at h
   cases h1 : lay a [d] H with
   | none => simp [h1] at h
   | some x =>
    obtain ⟨l1, H1⟩ := x
    simp only [h1] at h
    cases h2 : lay b ds H1 with
    | none => simp [h2] at h
    | some y =>
     obtain ⟨l', H2⟩ := y
     simp only [h2, Option.some.injEq, Prod.mk.injEq] at h
     obtain ⟨rfl, rfl⟩ := h
     obtain ⟨w1, e1, x1, r1⟩ := lay_dec a hw h1
     obtain ⟨w2, e2, x2, r2⟩ := lay_dec b w1 h2
     exact ⟨w2, e1.trans e2, (x1, x2), l1, l', rfl, Ty.R_le e2.le _ _ _ r1, r2⟩
 | .agg r, ds, H, H', l, hw, h => by
  unfold lay at h
  split at h <;> first|(cases h; done)|skip
  all_goals first|(rename_i e0; obtain rfl := Ty.agg.inj e0)|(simp at *; done)
  exact lay_dec r hw h
end
end Go.Ab

namespace Go.Ab
open Go.RowKit Go.WideShapes Go.ChangeShapes
section
variable {X : Type} {enc : TypeId × Value -> X} {P : Program} {G : Nat}
def denL : List Ty -> Type
 | [] => Unit
 | t :: ts => t.den × denL ts
def RA (H : Hp) : (ts : List Ty) -> denL ts -> List V -> Prop
 | [], _, vs => vs = []
 | t :: ts, x, vs => ∃ l vs', vs = argV t l :: vs' /\ t.R H (Prod.fst x) l /\ RA H ts (Prod.snd x) vs'
theorem layArgs_dec : ∀ {ts : List Ty} {ds : List (DataW X)} {H H' : Hp} {vs : List V}, WF H -> layArgs ts ds H = some (vs, H') -> WF H' /\ Ext H H' /\ ∃ x : denL ts, RA H' ts x vs
 | [], [], H, H', vs, hw, h => by
  simp only [layArgs, Option.some.injEq, Prod.mk.injEq] at h
  obtain ⟨rfl, rfl⟩ := h
  exact ⟨hw, Ext.refl _, (), rfl⟩
 | t :: ts, d :: ds, H, H', vs, hw, h => by
  simp only [layArgs] at h
  split at h
  case h_2 => cases h
  case h_1 l H1 h1 =>
   split at h
   case h_2 => cases h
   case h_1 vs' H2 h2 =>
    obtain ⟨rfl, rfl⟩ := Prod.mk.inj (Option.some.inj h)
    obtain ⟨w1, e1, x1, r1⟩ := lay_dec t hw h1
    obtain ⟨w2, e2, x2, r2⟩ := layArgs_dec w1 h2
    exact ⟨w2, e1.trans e2, (x1, x2), l, vs', rfl, Ty.R_le e2.le _ _ _ r1, r2⟩
 | [], _ :: _, _, _, _, _, h => by simp [layArgs] at h
 | _ :: _, [], _, _, _, _, h => by simp [layArgs] at h
theorem trodAll_stays {W W' : World} (hl : laidOutB P = true) (hb : Below W.heap.size W W') {sp : Nat -> Bool} : ∀ {ts : List TypeId} {vs : List Value} {ds : List (DataW X)} {ps : List MemPlace}, (ts.all fun t => P.readableRec t && decide (t < P.types.size)) = true ->
  DataW.TrodAll enc P W 0 (fun _ => true) true ts vs ds ps -> (∀ p ∈ ps, p.block < W.heap.size /\ sp p.block = true) -> DataW.TrodAll enc P W' 0 sp true ts vs ds ps
 | [], [], [], _, _, h, _ => h
 | t :: ts, v :: vs, d :: ds, ps, hr, h, hp => by
  obtain ⟨p, q, h1, h2, rfl⟩ := h
  simp only [List.all_cons, Bool.and_eq_true, decide_eq_true_eq] at hr
  refine ⟨p, q, WideElems.Trod_stays hl hr.1.1 hr.1.2 h1 (fun x hx => hb.same (hp x (by simp [hx])).1) (fun x hx => (hp x (by simp [hx])).2), trodAll_stays hl hb (by simpa using hr.2) h2 (fun x hx => hp x (by simp [hx])), rfl⟩
 | [], _ :: _, _, _, _, h, _ => by cases h
 | [], [], _ :: _, _, _, h, _ => by cases h
 | _ :: _, [], _, _, _, h, _ => by cases h
 | _ :: _, _ :: _, [], _, _, h, _ => by cases h
theorem law_contract {f : FuncId} {fn : Func} {s : ChangeSpec} {laid : List (String × DataW Unit)} {n : Nat} {Ts : List Ty} {H0 : Hp} {tb : TypeId} {r : Reach}
  (hl : laidOutB P = true) (hrd : (fn.params.toList.all fun t => P.readableRec t && decide (t < P.types.size)) = true) (hds : descs P n fn.params.toList = some Ts) (hvars : s.vars = []) (hres : fn.resultTypes = #[tb]) (htb : P.underlying tb = some .bool)
  (hspec : ∀ ds : List (DataW X), ds.length = fn.params.toList.length -> s.fn X ds = { results := [.lit (.bool true)], args := ds })
  (hH0 : layLaid P n G laid ⟨.lf, G⟩ = H0)
  (W : World) (base : Nat) (args : Array Value) (ds gs : List (DataW X)) (before : List MemPlace)
  (hlaw : ∀ (H : Hp) (x : denL Ts) (vs : List V), WF H -> Ext H0 H -> NoMut H -> RA H Ts x vs -> layArgs Ts ds H0 = some (vs, H) -> ACalls P G f vs H fun v _ => v = .bool true)
  (hval : ∀ (j : Nat) t v, fn.params[j]? = some t -> args[j]? = some v -> Value.okWide P W r base t v)
  (hW : DataW.Whole enc P fn.params.toList s.vars false W args.toList ds gs before) (hL : laidMet P laid W) :
  Calls P f args W fun e W' => ∃ v, e = .returned v /\ s.post enc P fn false true false false W args v W' := by
 have hW0 := hW
 obtain ⟨p, q, hA, hV, rfl, hfz, hnd⟩ := hW
 rw [hvars] at hV
 obtain ⟨rfl, rfl⟩ := trodVars_none hV
 obtain ⟨ps, hlv, _⟩ := hL
 obtain ⟨μ1, K1, R1, N1⟩ := laid_ok (n := n) hlv (start_rel (G := G) W) (fun _ _ h => by cases h) (fun _ _ => rfl)
 rw [hH0] at R1 N1
 obtain ⟨avs, H, μ2, K2, e2, R2, a2, g2⟩ := args_ok hds hA (fun j t v hj hj' => hval j t v (by simpa using hj) (by simpa using hj')) R1 N1
 obtain ⟨w2, x2, x, rx⟩ := layArgs_dec R1.lt' e2
 have N2 := g2.noMut N1
 have hlen : ds.length = fn.params.toList.length := by
  have : ∀ {ts : List TypeId} {vs : List Value} {ds : List (DataW X)} {ps : List MemPlace}, DataW.TrodAll enc P W 0 (fun _ => true) true ts vs ds ps -> ds.length = ts.length := by
   intro ts
   induction ts with
   | nil => intro vs ds ps h; cases vs <;> cases ds <;> simp_all [DataW.TrodAll]
   | cons t ts ih =>
    intro vs ds ps h
    cases vs with
    | nil => cases h
    | cons v vs =>
     cases ds with
     | nil => cases h
     | cons d ds => obtain ⟨_, _, _, h2, _⟩ := h; simp [ih h2]
  exact this hA
 have key := hlaw H x avs w2 x2 N2 rx e2 μ2 K2 W args.toList R2 a2
 rw [Array.toArray_toList] at key
 refine key.mono ?_
 rintro e W' ⟨y, rfl, v, H', μ', K', rfl, h2, h3, h4⟩
 obtain rfl : y = .bool true := h2
 have hb : Below W.heap.size W W' := ⟨h4.same.1, h4.same.2.1, h4.same.2.2.1, h4.size, fun k hk => h4.keep k hk fun b bk hb hm => by rw [N2 b bk hb] at hm; cases hm⟩
 have hlt : ∀ x ∈ p, x.block < W.heap.size := fun x hx => hW0.lt x (by simp [hx])
 have hsp := hspec ds hlen
 refine ⟨_, rfl, ds, [], p ++ [], [], p, [], hW0, ?_, ?_, ?_, World.keptBut_mono (fun z hz => ⟨hz, .inr (.inl (by simpa using hz))⟩) (hb.frame (· ∈ p ++ [])), fun h => (by cases h)⟩
 ·rw [List.append_nil, hsp, hres]
  exact ⟨[], [], shut_bool htb true, rfl, rfl⟩
 ·rw [List.append_nil, hsp]
  exact trodAll_stays hl hb hrd hA fun z hz => ⟨hlt z hz, by simpa using hlt z hz⟩
 ·rw [List.append_nil, hsp, hvars]
  rfl
end
end Go.Ab

namespace Go.Ab
def Ty.fd : (t : Ty) -> t.den -> List FD
 | .bool, x => [.c (.bool x)]
 | .int k, x => [.c (.int k x)]
 | .str, x => [.c (.str x)]
 | .slice e, x => [.sl e.sz (List.length x) (List.flatMap (Ty.fd e) x)]
 | .unit, _ => []
 | .pair a b, x => Ty.fd a (Prod.fst x) ++ Ty.fd b (Prod.snd x)
 | .agg r, x => Ty.fd r x
def Ty.okD : (t : Ty) -> t.den -> Prop
 | .bool, _ => True
 | .int k, x => (Lit.int k x).wf = true
 | .str, _ => True
 | .slice e, x => (∀ y, List.Mem y x -> Ty.okD e y) /\ List.length x <= 9223372036854775807
 | .unit, _ => True
 | .pair a b, x => Ty.okD a (Prod.fst x) /\ Ty.okD b (Prod.snd x)
 | .agg r, x => Ty.okD r x
theorem RL.fd {e : Ty} {H : Hp} {R : FD -> C -> Prop} (h : ∀ x l, e.R H x l -> All2 R (e.fd x) l /\ e.okD x) : ∀ {xs : List e.den} {cs : List C}, RL (e.R H) xs cs -> All2 R (xs.flatMap e.fd) cs /\ ∀ y, List.Mem y xs -> e.okD y
 | [], _, hh => by obtain rfl : _ = [] := hh; exact ⟨trivial, fun y hy => by cases hy⟩
 | x :: xs, _, ⟨a, b, e', h1, h2⟩ => by
  subst e'
  obtain ⟨g1, g2⟩ := h x a h1
  obtain ⟨g3, g4⟩ := RL.fd h h2
  rw [List.flatMap_cons]
  refine ⟨g1.append g3, fun y hy => ?_⟩
  rcases List.mem_cons.1 hy with rfl|hy
  ·exact g2
  ·exact g4 y hy
theorem Ty.R_fd {H : Hp} (hw : WF H) : ∀ (t : Ty) (x : t.den) (l : List C), t.R H x l -> All2 (RF (fun b => b < H.nx) H) (t.fd x) l /\ t.okD x
 | .bool, _, _, hh => by obtain rfl : _ = [_] := hh; exact ⟨⟨.c _ rfl, trivial⟩, trivial⟩
 | .int _, _, _, hh => by obtain ⟨rfl, h2⟩ := hh; exact ⟨⟨.c _ rfl, trivial⟩, h2⟩
 | .str, _, _, hh => by obtain rfl : _ = [_] := hh; exact ⟨⟨.c _ rfl, trivial⟩, trivial⟩
 | .slice e, x, l, hh => by
  rcases hh with ⟨rfl, h2⟩|⟨b, cs, rfl, h0, h2, h3⟩
  ·obtain rfl : x = [] := List.eq_nil_of_length_eq_zero h2
   exact ⟨⟨.nil _, trivial⟩, (fun y hy => by cases hy), Nat.zero_le _⟩
  ·obtain ⟨g1, g2⟩ := RL.fd (Ty.R_fd hw e) h3
   refine ⟨⟨.sl (fun h0 => ?_) ?_ (Nat.le_refl _) h2 fun i d c hd hc => ?_, trivial⟩, g2, h0⟩
   ·cases hg : H.get b with
    | none =>
     have := loads_cell (i := 0) h2 h0
     have hl := loads_len h2
     rw [List.getElem?_eq_getElem (by omega)] at this
     simp [Hp.cell, hg] at this
    | some bk => exact hw b bk hg
   ·rw [g1.len, loads_len h2]
   ·obtain ⟨c', hc', hr⟩ := g1.at i d hd
    rw [hc] at hc'
    obtain rfl := Option.some.inj hc'
    exact hr
 | .unit, _, _, hh => by obtain rfl : _ = [] := hh; exact ⟨trivial, trivial⟩
 | .pair a b, x, l, ⟨l1, l2, e, h1, h2⟩ => by
  subst e
  obtain ⟨g1, g2⟩ := Ty.R_fd hw a _ _ h1
  obtain ⟨g3, g4⟩ := Ty.R_fd hw b _ _ h2
  exact ⟨g1.append g3, g2, g4⟩
 | .agg r, x, l, hh => Ty.R_fd hw r x l hh
def Ty.isAgg : Ty -> Bool
 | .agg _ => true
 | _ => false
def argL : Bool -> List FD -> DV
 | true, l => .agg (l.map .f)
 | false, [d] => .one (.f d)
 | false, _ => .undef
def argD (t : Ty) (x : t.den) : DV := argL t.isAgg (t.fd x)
def argVL : Bool -> List C -> V
 | true, l => .agg l
 | false, [c] => .one c
 | false, _ => .undef
theorem argV_eq (t : Ty) (l : List C) : argV t l = argVL t.isAgg l := by
 cases t <;> cases l with
 | nil => rfl
 | cons c l => cases l <;> rfl
def DA : (ts : List Ty) -> denL ts -> List DV
 | [], _ => []
 | t :: ts, x => argD t (Prod.fst x) :: DA ts (Prod.snd x)
def okA : (ts : List Ty) -> denL ts -> Prop
 | [], _ => True
 | t :: ts, x => t.okD (Prod.fst x) /\ okA ts (Prod.snd x)
theorem argL_rel {Z : Nat -> Prop} {H : Hp} : ∀ (g : Bool) {l : List FD} {cs : List C}, All2 (RF Z H) l cs -> RDV Z H nob (argL g l) (argVL g cs)
 | true, l, cs, h => ⟨cs, rfl, all2_map_f h⟩
 | false, [], [], _ => undef_ok
 | false, [d], [c], h => ⟨c, rfl, h.1⟩
 | false, _ :: _ :: _, _ :: _ :: _, _ => undef_ok
 | false, [], _ :: _, h => h.elim
 | false, _ :: _, [], h => h.elim
 | false, [_], _ :: _ :: _, h => h.2.elim
 | false, _ :: _ :: _, [_], h => h.2.elim
theorem arg_rel {H : Hp} (hw : WF H) {t : Ty} {x : t.den} {l : List C} (h : t.R H x l) : RDV (fun b => b < H.nx) H nob (argD t x) (argV t l) := by
 rw [argV_eq]
 exact argL_rel _ (Ty.R_fd hw t x l h).1
theorem args_rel {H : Hp} (hw : WF H) : ∀ {ts : List Ty} {x : denL ts} {vs : List V}, RA H ts x vs -> All2 (RDV (fun b => b < H.nx) H nob) (DA ts x) vs /\ okA ts x
 | [], _, _, hh => by obtain rfl : _ = [] := hh; exact ⟨trivial, trivial⟩
 | t :: _, _, _, ⟨l, vs', e, h1, h2⟩ => by
  subst e
  obtain ⟨g1, g2⟩ := args_rel hw h2
  exact ⟨⟨arg_rel hw h1, g1⟩, (Ty.R_fd hw t _ _ h1).2, g2⟩
theorem deep_law {P : Program} {G : Nat} {GH : Hp} {f : FuncId} {ts : List Ty} {H : Hp} {x : denL ts} {vs : List V} (h : okA ts x -> DCalls P G GH f (DA ts x) fun d => d = .bool true) (hw : WF H) (hG : ∀ b bk, GH.get b = some bk -> H.get b = some bk) (hr : RA H ts x vs) : ACalls P G f vs H fun v _ => v = .bool true := by
 obtain ⟨h1, h2⟩ := args_rel hw hr
 refine (h h2 H _ vs hw (fun b hb => hb) (fun b bk hb => ⟨hw b bk (hG b bk hb), hG b bk hb⟩) h1).mono ?_
 rintro v H' ⟨_, _, _, d, hd, rfl⟩
 obtain ⟨c, rfl, hc⟩ := hd
 cases hc
 rfl
end Go.Ab

namespace Go.Ah
open Go.Ab
abbrev oX (i d : Nat) (p : SOp) : SOper := ⟨i, some d, p, none, none, [], false⟩
abbrev pX (i d : Nat) (p : PureOp) : SOper := ⟨i, some d, .p p, none, none, [], false⟩
abbrev mX (i d s : Nat) : SOper := ⟨i, some d, .p (.mv (.t s)), none, none, [], false⟩
abbrev lX (i d s : Nat) : SOper := ⟨i, some d, .l (.load false 1 (.t s)), none, none, [], false⟩
abbrev iX (i d e x y : Nat) : SOper := ⟨i, some d, .p (.iaddr e (.t x) (.t y)), none, none, [], false⟩
abbrev aX (i d k x : Nat) : SOper := ⟨i, some d, .p (.faddr k (.t x)), none, none, [], false⟩
abbrev gX (i d s g : Nat) (b : Bool) : SOper := ⟨i, some d, .p (.mv (.t s)), some (g, b), none, [], false⟩
abbrev L := List SOper
abbrev zAA (a b c:Nat) : SOper := ⟨a, some b, .p (.mv (.t c)), none, none, [], false⟩
abbrev zAB (a b c d:Nat) : SOper := ⟨a, some b, .p (.pick (.t c) (.t d) (.c (.one (.bool false)))), none, none, [], false⟩
abbrev zAC (a b:Nat) (c:Int) : SOper := ⟨a, some b, .p (.mv (.c (.one (.int .i64 c)))), none, none, [], false⟩
abbrev zAD (a b c:Nat) (d:Int) : SOper := ⟨a, some b, .p (.bin .eql (.t c) (.c (.one (.int .i64 d)))), none, none, [], false⟩
abbrev zAE (a b c d:Nat) : SOper := ⟨a, some b, .l (.load false 1 (.t c)), (some (d, true)), none, [], false⟩
abbrev zAF (a b c d e:Nat) : SOper := ⟨a, some b, .p (.faddr c (.t d)), (some (e, true)), none, [], false⟩
abbrev zAG (a b c:Nat) : SOper := ⟨a, some b, .l (.load false 1 (.t c)), none, none, [], false⟩
abbrev zAH (a b:Nat) : SOper := ⟨a, some b, .p (.mv (.c (.one (.bool false)))), none, none, [], false⟩
abbrev zAI (a b c d:Nat) : SOper := ⟨a, some b, .p (.faddr c (.t d)), none, none, [], false⟩
abbrev zAJ (a b c d:Nat) : SOper := ⟨a, some b, .p (.mv (.t c)), (some (d, true)), none, [], false⟩
abbrev zAK (a b c:Nat) (d:Int) (e:Nat) : SOper := ⟨a, some b, .p (.bin .eql (.t c) (.c (.one (.int .i64 d)))), (some (e, true)), none, [], false⟩
abbrev zAL (a b c d:Nat) : SOper := ⟨a, some b, .p (.mv (.t c)), (some (d, false)), none, [], false⟩
abbrev zAM (a b c d:Nat) : SOper := ⟨a, some b, .p (.pick (.t c) (.c (.one (.bool true))) (.t d)), none, none, [], false⟩
abbrev zAN (a b c d:Nat) : SOper := ⟨a, some b, .cf c [(.t d)], none, none, [], false⟩
abbrev zAO (a b c:Nat) : SOper := ⟨a, some b, .p (.bin .add (.t c) (.c (.one (.int .i64 1)))), none, none, [], false⟩
abbrev zAP (a b c d:Nat) : SOper := ⟨a, some b, .p (.bin .lss (.t c) (.t d)), none, none, [], false⟩
abbrev zAQ (a b c:Nat) (d:Int) (e:Nat) : SOper := ⟨a, some b, .p (.bin .leq (.t c) (.c (.one (.int .u8 d)))), (some (e, true)), none, [], false⟩
abbrev zAR (a b c:Nat) (d:Int) : SOper := ⟨a, some b, .p (.bin .rem (.t c) (.c (.one (.int .u8 d)))), none, none, [], false⟩
abbrev zAS (a b c:Nat) : SOper := ⟨a, some b, .p (.len (.t c)), none, none, [], false⟩
abbrev zAT (a b:Nat) (c:Int) : SOper := ⟨a, some b, .p (.aaddr 4 1 (.t 3) (.c (.one (.int .i64 c)))), none, none, [], false⟩
abbrev zAU (a:L) (b c d:Nat) (e f:L) (g:Nat) (h i:L) : SC := (.seq (.ops a 0 true) (.seq (.cond (.t b) .skip (.exit c)) (.seq (.block d (.seq (.ops e 0 true) (.seq (.ops f 0 true) (.cond (.t g) (.seq (.ops h 0 true) .ret) .skip)))) (.ops i 0 true))))
abbrev zAV (a b c:Nat) (d:Int) (e:Nat) : SOper := ⟨a, some b, .p (.bin .leq (.t c) (.c (.one (.int .i64 d)))), (some (e, true)), none, [], false⟩
abbrev zAW (a b c:Nat) : SOper := ⟨a, some b, .p (.slen (.t c)), none, none, [], false⟩
abbrev zAX (a b c d:Nat) : SOper := ⟨a, some b, .p (.extract (.t c) d), none, none, [], false⟩
abbrev zAY (a b c:Nat) : SOper := ⟨a, some b, .p (.conv .i64 (.t c)), none, none, [], false⟩
abbrev zAZ (a b c:Nat) : SOper := ⟨a, some b, .p (.bin .geq (.t c) (.c (.one (.int .i64 1)))), none, none, [], false⟩
abbrev zAa (a:Nat) (b:Int) (c:Nat) : SOper := ⟨1, some a, .p (.bin .leq (.c (.one (.int .u8 b))) (.t c)), none, none, [], false⟩
abbrev zAb (a b:Nat) (c:Int) (d:Nat) : SOper := ⟨a, some b, .p (.aaddr 4 1 (.t 3) (.c (.one (.int .i64 c)))), (some (d, true)), none, [], false⟩
abbrev zAc (a b c:Nat) (d:Int) (e:Nat) : SOper := ⟨a, some b, .p (.bin .gtr (.t c) (.c (.one (.int .i64 d)))), (some (e, false)), none, [], false⟩
abbrev zAd (a b c d:Nat) : SOper := ⟨a, some b, .p (.bin .rem (.t c) (.c (.one (.int .u8 6)))), (some (d, true)), none, [], false⟩
abbrev zAe (a b c d:Nat) : SOper := ⟨a, some b, .p (.not (.t c)), (some (d, false)), none, [], false⟩
abbrev zAf (a b c d:Nat) : SOper := ⟨a, some b, .p (.len (.t c)), (some (d, true)), none, [], false⟩
abbrev zAg (a b:Nat) (c:Int) : SOper := ⟨2, some a, .p (.bin .gtr (.t b) (.c (.one (.int .i64 c)))), none, none, [], false⟩
abbrev zAh (a b c d:Nat) : SOper := ⟨a, some b, .l (.load true c (.t d)), none, none, [], false⟩
abbrev zAj (a b c d:Nat) : SOper := ⟨a, some b, .l (.load false 1 (.t c)), (some (d, false)), none, [], false⟩
abbrev zAk (a b c d e f:Nat) : SOper := ⟨a, some b, .e (.append c d (.t e) (.t f)), none, none, [], false⟩
abbrev zAl (a b c d:Nat) : SOper := ⟨a, some b, .p (.beq false (.t c) (.t d)), none, none, [], false⟩
abbrev zAm (a b c d:Nat) : SOper := ⟨a, some b, .p (.len (.t c)), (some (d, false)), none, [], false⟩
abbrev zAn (a b c d e:Nat) : SOper := ⟨a, some b, .p (.iaddr c (.t d) (.t e)), none, none, [], false⟩
abbrev zAo (a b c d:Nat) : SOper := ⟨a, some b, .p (.iaddr 1 (.t c) (.c (.one (.int .i64 0)))), (some (d, false)), none, [], false⟩
abbrev zAp (a b c d:Nat) : SOper := ⟨a, none, .e (.store b (.t c) (.t d)), none, none, [], false⟩
abbrev zAq (a b:Nat) : SOper := ⟨2, some a, .p (.bin .lss (.t b) (.c (.one (.int .i64 1)))), none, none, [], false⟩
abbrev zAr (a b:Nat) (c:Int) : SOper := ⟨1, some a, .p (.bin .neq (.t b) (.c (.one (.int .i64 c)))), none, none, [], false⟩
abbrev zAs : SOper := pX 1 5 (.bin .and (.t 4) (.c (.one (.int .u8 127))))
abbrev zAt (a b:Nat) : SOper := ⟨2, some a, .a (.bslice 1 1 [.nils] [(0, 1, (.t b))]), none, none, [], false⟩
abbrev zAu (a b:Nat) : SOper := ⟨a, none, .e (.store 1 (.t b) (.c (.one (.int .i64 0)))), none, none, [], false⟩
abbrev zAv (a:Nat) : SOper := ⟨0, some a, .a (.box (.t 0)), none, none, [], false⟩
abbrev zAw (a b c:L) : SC := (.seq (.ops a 0 true) (.seq (.ops b 0 true) (.seq (.ops c 0 true) .ret)))
abbrev zAx (a:Nat) : SOper := ⟨5, none, .e (.store 1 (.t a) (.c (.one .nils))), none, none, [], false⟩
def f7r0 : L:=[zAv 3,zAH 1 6]
def f7r1 : L:=[⟨0, some 21, .cf 8 [], none, none, [], false⟩,zAA 1 7 21]
def f7r2 : L:=[⟨0, some 22, .a (.bslice 1 0 [.nils] []), none, none, [], false⟩,zAA 1 8 22,⟨2, some 9, .p (.mv (.c (.one (.str ⟨#[]⟩)))), none, none, [], false⟩]
def f7r3 : L:=[zAC 0 10 0]
def f7r4 : L:=[zAA 0 23 10,zAT 1 24 0,zAG 2 25 24,zAR 3 26 25 9,zAY 4 27 26,zAP 5 28 23 27]
def f7r5 : L:=[⟨0, some 31, .a (.bslice 1 0 [(.str ⟨#[]⟩)] []), none, none, [], false⟩,zAA 1 11 31]
def f7r6 : L:=[zAC 0 12 0]
def f7r7 : L:=[zAA 0 32 12,zAT 1 33 1,zAG 2 34 33,zAR 3 35 34 6,zAY 4 36 35,zAP 5 37 32 36]
def f7r8 : L:=[zAA 0 40 11,⟨1, some 41, .a (.bslice 1 1 [(.str ⟨#[]⟩)] [(0, 1, (.c (.one (.str ⟨#[97]⟩))))]), none, none, [], false⟩,zAk 2 42 1 16 40 41,zAA 3 11 42]
def f7r9 : L:=[zAA 0 38 12,zAO 1 39 38,zAA 2 12 39]
def f7b0 : SC:=(.seq (.seq (.ops f7r7 0 true) (.cond (.t 37) .skip (.exit 2))) (.seq (.block 3 (.ops f7r8 0 true)) (.ops f7r9 0 true)))
def f7r10 : L:=[zAA 0 43 8,zAA 1 44 11,zAt 45 44,zAk 3 46 1 24 43 45,zAA 4 8 46]
def f7r11 : L:=[zAA 0 29 10,zAO 1 30 29,zAA 2 10 30]
def f7b1 : SC:=(.seq (.seq (.ops f7r4 0 true) (.cond (.t 28) .skip (.exit 0))) (.seq (.block 1 (.seq (.ops f7r5 0 true) (.seq (.seq (.ops f7r6 0 true) (.block 2 (.loop f7b0))) (.ops f7r10 0 true)))) (.ops f7r11 0 true)))
def f7r12 : L:=[zAA 0 47 9,zAW 1 48 47,zAT 2 49 2,zAG 3 50 49,zAR 4 51 50 43,zAY 5 52 51,zAP 6 53 48 52]
def f7r13 : L:=[zAA 0 54 9,⟨1, some 55, .p (.scat (.t 54) (.c (.one (.str ⟨#[98]⟩)))), none, none, [], false⟩,zAA 2 9 55]
def f7b2 : SC:=(.seq (.seq (.ops f7r12 0 true) (.cond (.t 53) .skip (.exit 4))) (.block 5 (.ops f7r13 0 true)))
def f7r14 : L:=[zAA 0 56 8,zAS 1 57 56,zAZ 2 58 57,zAA 3 59 58,zAJ 4 60 8 59,zAf 5 61 60 59,zAV 6 62 61 6 59,zAB 7 63 59 62,zAA 8 64 63,zAb 9 65 1 64,zAE 10 66 65 64,zAd 11 67 66 64,⟨12, some 68, .p (.bin .geq (.t 67) (.c (.one (.int .u8 1)))), (some (64, true)), none, [], false⟩,zAB 13 69 64 68,zAA 14 70 69,zAb 15 71 1 70,zAE 16 72 71 70,zAd 17 73 72 70,zAQ 18 74 73 4 70,zAB 19 75 70 74,zAA 20 13 75]
def f7r15 : L:=[zAA 0 76 9,⟨1, some 77, .a (.bslice 1 1 [(.str ⟨#[]⟩)] [(0, 1, (.t 76))]), none, none, [], false⟩,zAt 78 77,⟨3, some 79, .p (.build [(.int .i64 0), (.int .i64 0), (.str ⟨#[]⟩), .nils, .nils, (.int .i64 0), (.int .i64 0), (.int .i64 0), .nils, (.int .i64 0)] [(0, 1, (.c (.one (.int .i64 3)))), (3, 1, (.t 78))]), none, none, [], false⟩,⟨4, some 80, .a (.bslice 10 1 [(.int .i64 0), (.int .i64 0), (.str ⟨#[]⟩), .nils, .nils, (.int .i64 0), (.int .i64 0), (.int .i64 0), .nils, (.int .i64 0)] [(0, 10, (.t 79))]), none, none, [], false⟩,zAN 5 81 10 80,zAA 6 82 9,zAW 7 83 82,zAZ 8 84 83,zAA 9 85 84,zAJ 10 86 9 85,⟨11, some 87, .p (.slen (.t 86)), (some (85, true)), none, [], false⟩,zAV 12 88 87 40 85,zAB 13 89 85 88,zAl 14 90 81 89,zAA 15 14 90]
def f7r16 : L:=[zAT 0 91 3,zAG 1 92 91,zAR 2 93 92 6,zAY 3 94 93,⟨4, some 95, .p (.build [(.int .i64 0), (.int .i64 0), (.str ⟨#[]⟩), .nils, .nils, (.int .i64 0), (.int .i64 0), (.int .i64 0), .nils, (.int .i64 0)] [(0, 1, (.c (.one (.int .i64 2)))), (1, 1, (.t 94)), (2, 1, (.c (.one (.str ⟨#[97]⟩))))]), none, none, [], false⟩,zAT 7 98 3,⟨8, some 99, .l (.load false 1 (.t 98)), none, none, [], true⟩,zAR 9 100 99 6,⟨10, some 101, .p (.bin .geq (.t 100) (.c (.one (.int .u8 1)))), none, none, [], false⟩,⟨5, some 96, .a (.bslice 10 1 [(.int .i64 0), (.int .i64 0), (.str ⟨#[]⟩), .nils, .nils, (.int .i64 0), (.int .i64 0), (.int .i64 0), .nils, (.int .i64 0)] [(0, 10, (.t 95))]), none, (some 5), [], false⟩,⟨6, some 97, .cf 10 [(.t 96)], none, none, [8], false⟩,zAA 11 102 101,zAb 12 103 3 102,zAE 13 104 103 102,zAd 14 105 104 102,zAQ 15 106 105 3 102,zAB 16 107 102 106,zAl 17 108 97 107,zAA 18 15 108]
def f7r17 : L:=[zAA 0 109 1,zAY 1 110 109,⟨2, some 111, .p (.build [(.int .i64 0), (.int .i64 0), (.str ⟨#[]⟩), .nils, .nils, (.int .i64 0), (.int .i64 0), (.int .i64 0), .nils, (.int .i64 0)] [(0, 1, (.c (.one (.int .i64 7)))), (9, 1, (.t 110))]), none, none, [], false⟩,⟨3, some 112, .a (.bslice 10 1 [(.int .i64 0), (.int .i64 0), (.str ⟨#[]⟩), .nils, .nils, (.int .i64 0), (.int .i64 0), (.int .i64 0), .nils, (.int .i64 0)] [(0, 10, (.t 111))]), none, none, [], false⟩,zAN 4 113 10 112,zAA 5 114 1,⟨6, some 115, .p (.bin .geq (.t 114) (.c (.one (.int .i16 1)))), none, none, [], false⟩,zAA 7 116 115,zAJ 8 117 1 116,⟨9, some 118, .p (.bin .leq (.t 117) (.c (.one (.int .i16 9999)))), (some (116, true)), none, [], false⟩,zAB 10 119 116 118,zAl 11 120 113 119,zAA 12 16 120]
def f7r18 : L:=[zAA 0 121 8,⟨1, some 122, .p (.build [(.int .i64 0), (.int .i64 0), (.str ⟨#[]⟩), .nils, .nils, (.int .i64 0), (.int .i64 0), (.int .i64 0), .nils, (.int .i64 0)] [(0, 1, (.c (.one (.int .i64 3)))), (3, 1, (.t 121))]), none, none, [], false⟩,⟨2, some 123, .a (.bslice 10 1 [(.int .i64 0), (.int .i64 0), (.str ⟨#[]⟩), .nils, .nils, (.int .i64 0), (.int .i64 0), (.int .i64 0), .nils, (.int .i64 0)] [(0, 10, (.t 122))]), none, none, [], false⟩,zAN 3 124 10 123,zAA 4 125 13,⟨5, some 126, .p (.beq true (.t 124) (.t 125)), none, none, [], false⟩,zAA 6 127 126,zAL 7 128 14 127,zAe 8 129 128 127,zAM 9 130 127 129,zAA 10 131 130,zAL 11 132 15 131,zAe 12 133 132 131,zAM 13 134 131 133,zAA 14 135 134,zAL 15 136 16 135,zAe 16 137 136 135,zAM 17 138 135 137]
def f7r19 : L:=[zAH 0 6]
def f7r20 : L:=[⟨0, some 139, .a (.bslice 10 0 [(.int .i64 0), (.int .i64 0), (.str ⟨#[]⟩), .nils, .nils, (.int .i64 0), (.int .i64 0), (.int .i64 0), .nils, (.int .i64 0)] []), none, none, [], false⟩,zAA 1 17 139]
def f7r21 : L:=[zAC 0 18 0]
def f7r22 : L:=[zAA 0 140 18,zAA 1 141 2,zAR 2 142 141 103,zAY 3 143 142,zAP 4 144 140 143]
def f7r23 : L:=[zAA 0 147 17,⟨1, some 148, .p (.build [(.int .i64 0), (.int .i64 0), (.str ⟨#[]⟩), .nils, .nils, (.int .i64 0), (.int .i64 0), (.int .i64 0), .nils, (.int .i64 0)] [(0, 1, (.c (.one (.int .i64 1)))), (2, 1, (.c (.one (.str ⟨#[97]⟩))))]), none, none, [], false⟩,⟨2, some 149, .a (.bslice 10 1 [(.int .i64 0), (.int .i64 0), (.str ⟨#[]⟩), .nils, .nils, (.int .i64 0), (.int .i64 0), (.int .i64 0), .nils, (.int .i64 0)] [(0, 10, (.t 148))]), none, none, [], false⟩,zAk 3 150 10 136 147 149,zAA 4 17 150]
def f7r24 : L:=[zAA 0 145 18,zAO 1 146 145,zAA 2 18 146]
def f7b3 : SC:=(.seq (.seq (.ops f7r22 0 true) (.cond (.t 144) .skip (.exit 6))) (.seq (.block 7 (.ops f7r23 0 true)) (.ops f7r24 0 true)))
def f7r25 : L:=[zAA 0 152 17,zAN 1 153 12 152,zAA 2 151 153,zAX 3 154 151 0,zAX 4 155 151 1,zAA 5 19 154,zAA 6 20 155]
def f7r26 : L:=[zAA 0 156 17,zAS 1 157 156,zAg 158 157 100]
def f7r27 : L:=[zAA 0 159 19,⟨1, some 160, .p (.bin .eql (.t 159) (.c (.one (.int .i64 (-1))))), none, none, [], false⟩,zAA 2 161 160,zAJ 3 162 20 161,zAK 4 163 162 2 161,zAB 5 164 161 163,zAA 6 165 164,zAJ 7 166 7 165,zAB 8 167 165 166,zAA 9 6 167]
def f7r28 : L:=[zAA 0 168 19,zAD 1 169 168 0,zAA 2 170 169,zAJ 3 171 20 170,zAK 4 172 171 0 170,zAB 5 173 170 172,zAA 6 174 173,zAJ 7 175 7 174,zAB 8 176 174 175,zAA 9 6 176]
def f7c : SC:=(.seq (.ops f7r0 0 true) (.seq (.ops f7r1 0 true) (.seq (.ops f7r2 0 true) (.seq (.seq (.ops f7r3 0 true) (.block 0 (.loop f7b1))) (.seq (.block 4 (.loop f7b2)) (.seq (.ops f7r14 0 true) (.seq (.ops f7r15 0 true) (.seq (.ops f7r16 19 true) (.seq (.ops f7r17 0 true) (.seq (.seq (.ops f7r18 0 true) (.cond (.t 138) (.seq (.ops f7r19 0 true) .ret) .skip)) (.seq (.ops f7r20 0 true) (.seq (.seq (.ops f7r21 0 true) (.block 6 (.loop f7b3))) (.seq (.ops f7r25 0 true) (.seq (.seq (.ops f7r26 0 true) (.cond (.t 158) (.seq (.ops f7r27 0 true) .ret) .skip)) (.seq (.ops f7r28 0 true) .ret)))))))))))))))
def f7 : SFn := ⟨177, f7c, [.t 6]⟩

def f10r0 : L:=[zAH 0 2]
def f10r1 : L:=[zAA 0 6 0,zAN 1 7 12 6,zAA 2 5 7,zAX 3 8 5 0,zAX 4 9 5 1,zAA 5 3 8,zAA 6 4 9]
def f10r2 : L:=[zAA 0 10 4,zAD 1 11 10 0,zAA 2 2 11]
def f10c : SC:=zAw f10r0 f10r1 f10r2
def f10 : SFn := ⟨12, f10c, [.t 2]⟩

def f12r0 : L:=[zAC 0 2 0,zAC 1 3 0]
def f12r1 : L:=[zAA 0 7 0,zAS 1 8 7,zAg 9 8 100]
def f12r2 : L:=[⟨0, some 2, .p (.mv (.c (.one (.int .i64 (-1))))), none, none, [], false⟩,zAC 1 3 2]
def f12r3 : L:=[zAC 0 4 0]
def f12r4 : L:=[zAA 0 10 0,zAS 1 11 10,zAC 2 12 0]
def f12r5 : L:=[zAP 0 13 12 11]
def f12r6 : L:=[zAA 0 14 12,zAn 1 15 10 10 12,zAh 2 16 10 15,⟨3, some 6, .a (.alloc [(.int .i64 0), (.int .i64 0), (.str ⟨#[]⟩), .nils, .nils, (.int .i64 0), (.int .i64 0), (.int .i64 0), .nils, (.int .i64 0)]), none, none, [], false⟩,zAA 4 5 14,zAp 5 10 6 16]
def f12r7 : L:=[zAh 0 17 10 6,zAN 1 18 19 17,⟨2, some 19, .p (.not (.t 18)), none, none, [], false⟩]
def f12r8 : L:=[zAA 0 20 5,zAA 1 2 20,zAC 2 3 170]
def f12r9 : L:=[zAI 0 21 0 6,zAG 1 22 21]
def f12r10 : L:=[zAD 0 24 22 4,zAA 1 23 24]
def f12r11 : L:=[zAA 0 25 5,zAD 1 26 25 0,zAA 2 27 26,zAL 3 28 0 27,zAL 4 29 5 27,⟨5, some 30, .p (.bin .sub (.t 29) (.c (.one (.int .i64 1)))), (some (27, false)), none, [], false⟩,⟨6, some 31, .p (.iaddr 10 (.t 28) (.t 30)), (some (27, false)), none, [], false⟩,⟨7, some 32, .p (.faddr 0 (.t 31)), (some (27, false)), none, [], false⟩,zAj 8 33 32 27,⟨9, some 34, .p (.bin .neq (.t 33) (.c (.one (.int .i64 1)))), (some (27, false)), none, [], false⟩,zAL 10 35 34 27,zAJ 11 36 0 35,zAJ 12 37 5 35,⟨13, some 38, .p (.bin .sub (.t 37) (.c (.one (.int .i64 1)))), (some (35, true)), none, [], false⟩,⟨14, some 39, .p (.iaddr 10 (.t 36) (.t 38)), (some (35, true)), none, [], false⟩,zAF 15 40 0 39 35,zAE 16 41 40 35,⟨17, some 42, .p (.bin .neq (.t 41) (.c (.one (.int .i64 4)))), (some (35, true)), none, [], false⟩,⟨18, some 43, .p (.pick (.t 35) (.t 42) (.c (.one (.bool false)))), (some (27, false)), none, [], false⟩,zAM 19 44 27 43]
def f12r12 : L:=[zAA 0 45 5,zAA 1 2 45,zAC 2 3 170]
def f12r13 : L:=[zAD 0 47 22 7,zAA 1 46 47]
def f12r14 : L:=[zAI 0 48 9 6,zAG 1 49 48,zAA 2 50 4,⟨3, some 51, .p (.bin .leq (.t 49) (.t 50)), none, none, [], false⟩]
def f12r15 : L:=[zAA 0 52 5,zAA 1 2 52,zAC 2 3 170]
def f12r16 : L:=[zAI 0 53 9 6,zAG 1 54 53,zAA 2 4 54]
def f12r17 : L:=[zAO 0 55 12,zAA 1 12 55]
def f12b0 : SC:=(.seq (.ops f12r5 0 true) (.seq (.cond (.t 13) .skip (.exit 0)) (.seq (.block 1 (.seq (.ops f12r6 0 true) (.seq (.seq (.ops f12r7 0 true) (.cond (.t 19) (.seq (.ops f12r8 0 true) .ret) .skip)) (.seq (.ops f12r9 0 true) (.block 2 (.seq (.ops f12r10 0 true) (.cond (.t 23) (.seq (.ops f12r11 0 true) (.cond (.t 44) (.seq (.ops f12r12 0 true) .ret) .skip)) (.seq (.ops f12r13 0 true) (.cond (.t 46) (.seq (.seq (.ops f12r14 0 true) (.cond (.t 51) (.seq (.ops f12r15 0 true) .ret) .skip)) (.ops f12r16 0 true)) .skip))))))))) (.ops f12r17 0 true))))
def f12r18 : L:=[zAC 0 2 0,zAC 1 3 0]
def f12c : SC:=(.seq (.ops f12r0 0 true) (.seq (.seq (.ops f12r1 0 true) (.cond (.t 9) (.seq (.ops f12r2 0 true) .ret) .skip)) (.seq (.ops f12r3 0 true) (.seq (.seq (.ops f12r4 0 true) (.block 0 (.loop f12b0))) (.seq (.ops f12r18 0 true) .ret)))))
def f12 : SFn := ⟨56, f12c, [.t 2, .t 3]⟩

def f19r0 : L:=[zAv 1,zAH 1 2]
def f19r1 : L:=[zAH 0 3]
def f19r2 : L:=[zAh 0 5 10 1,⟨1, some 4, .a (.alloc [(.int .i64 0), (.int .i64 0), (.str ⟨#[]⟩), .nils, .nils, (.int .i64 0), (.int .i64 0), (.int .i64 0), .nils, (.int .i64 0)]), none, none, [], false⟩,zAp 2 10 4 5]
def f19r3 : L:=[zAI 0 6 0 1,zAG 1 7 6]
def f19r4 : L:=[zAD 0 9 7 1,zAA 1 8 9]
def f19r5 : L:=[zAD 0 10 7 4,zAA 1 8 10]
def f19r6 : L:=[zAI 0 11 2 1,zAG 1 12 11,zAN 2 13 36 12,zAA 3 3 13,zAI 4 14 2 4,⟨5, none, .e (.store 1 (.t 14) (.c (.one (.str ⟨#[]⟩)))), none, none, [], false⟩]
def f19r7 : L:=[zAD 0 16 7 2,zAA 1 15 16]
def f19r8 : L:=[zAI 0 17 1 1,zAG 1 18 17,zAZ 2 19 18,zAA 3 20 19,zAF 4 21 1 1 20,zAE 5 22 21 20,zAV 6 23 22 3 20,zAB 7 24 20 23,zAA 8 25 24,zAF 9 26 2 1 25,zAE 10 27 26 25,⟨11, some 28, .cf 36 [(.t 27)], (some (25, true)), none, [], false⟩,zAB 12 29 25 28,zAA 13 3 29,zAI 14 30 2 4,⟨15, none, .e (.store 1 (.t 30) (.c (.one (.str ⟨#[]⟩)))), none, none, [], false⟩]
def f19r9 : L:=[zAI 0 31 1 4,zAu 1 31]
def f19r10 : L:=[zAD 0 33 7 3,zAA 1 32 33]
def f19r11 : L:=[zAI 0 34 3 1,zAG 1 35 34,zAN 2 36 37 35,zAA 3 3 36,zAI 4 37 3 4,zAx 37]
def f19r12 : L:=[zAD 0 39 7 5,zAA 1 38 39]
def f19r13 : L:=[zAI 0 40 4 1,zAG 1 41 40,zAN 2 42 38 41,zAA 3 3 42,zAI 4 43 4 4,zAx 43]
def f19r14 : L:=[zAD 0 45 7 6,zAA 1 44 45]
def f19r15 : L:=[zAI 0 46 5 1,zAh 1 47 4 46,zAN 2 48 39 47,⟨3, some 49, .p (.build [(.int .i64 0), (.int .i64 0), (.int .i64 0), .nils] []), none, none, [], false⟩,zAA 4 3 48,zAI 5 50 5 4,zAp 6 4 50 49]
def f19r16 : L:=[zAD 0 52 7 7,zAA 1 51 52]
def f19r17 : L:=[zAI 0 53 9 1,zAG 1 54 53,zAZ 2 55 54,zAA 3 56 55,zAF 4 57 9 1 56,zAE 5 58 57 56,zAV 6 59 58 9999 56,zAB 7 60 56 59,zAA 8 3 60,zAI 9 61 9 4,zAu 10 61]
def f19r18 : L:=[zAA 0 62 3,zAA 1 63 62,⟨2, some 64, .l (.load true 10 (.t 4)), (some (63, true)), none, [], false⟩,⟨3, some 65, .cf 40 [(.t 64)], (some (63, true)), none, [], false⟩,zAB 4 66 63 65,zAA 5 2 66]
def f19c : SC:=(.seq (.ops f19r0 0 true) (.seq (.ops f19r1 0 true) (.seq (.ops f19r2 0 true) (.seq (.seq (.ops f19r3 0 true) (.block 0 (.seq (.seq (.ops f19r4 0 true) (.cond (.t 8) .skip (.ops f19r5 0 true))) (.cond (.t 8) (.ops f19r6 0 true) (.seq (.ops f19r7 0 true) (.cond (.t 15) (.seq (.ops f19r8 0 true) (.ops f19r9 0 true)) (.seq (.ops f19r10 0 true) (.cond (.t 32) (.ops f19r11 0 true) (.seq (.ops f19r12 0 true) (.cond (.t 38) (.ops f19r13 0 true) (.seq (.ops f19r14 0 true) (.cond (.t 44) (.ops f19r15 0 true) (.seq (.ops f19r16 0 true) (.cond (.t 51) (.ops f19r17 0 true) .skip)))))))))))))) (.seq (.ops f19r18 0 true) .ret)))))
def f19 : SFn := ⟨67, f19c, [.t 2]⟩

def f36r0 : L:=[zAH 0 2]
def f36r1 : L:=[zAA 0 8 0,zAW 1 9 8,zAq 10 9,zAA 3 11 10,zAL 4 12 0 11,⟨5, some 13, .p (.slen (.t 12)), (some (11, false)), none, [], false⟩,zAc 6 14 13 400 11,zAM 7 15 11 14]
def f36r2 : L:=[zAH 0 2]
def f36r3 : L:=[zAA 0 17 0,zAN 1 18 71 17,zAA 2 16 18,zAX 3 19 16 0,zAX 4 20 16 1,zAA 5 3 19,zAA 6 4 20]
def f36r4 : L:=[zAA 0 21 4,zAr 22 21 0]
def f36r5 : L:=[zAH 0 2]
def f36r6 : L:=[zAC 0 5 0]
def f36r7 : L:=[zAA 0 23 0,zAW 1 24 23,zAC 2 25 0]
def f36r8 : L:=[zAP 0 26 25 24]
def f36r9 : L:=[zAA 0 27 25,zAA 1 6 27]
def f36r10 : L:=[zAA 0 28 0,zAA 1 29 6,⟨2, some 30, .p (.sindex (.t 28) (.t 29)), none, none, [], false⟩,zAN 3 31 72 30,zAA 4 7 31]
def f36r11 : L:=[zAA 0 32 7,zAD 1 33 32 4,zAA 2 34 33,zAJ 3 35 5 34,zAK 4 36 35 0 34,zAJ 5 37 36 34,zAL 6 38 5 37,⟨7, some 39, .p (.bin .eql (.t 38) (.c (.one (.int .i64 4)))), (some (37, false)), none, [], false⟩,⟨8, some 40, .p (.pick (.t 37) (.c (.one (.bool true))) (.t 39)), (some (34, true)), none, [], false⟩,zAB 9 41 34 40]
def f36r12 : L:=[zAH 0 2]
def f36r13 : L:=[zAA 0 42 7,zAA 1 5 42]
def f36r14 : L:=[zAO 0 43 25,zAA 1 25 43]
def f36b0 : SC:=(.seq (.ops f36r8 0 true) (.seq (.cond (.t 26) .skip (.exit 0)) (.seq (.block 1 (.seq (.ops f36r9 0 true) (.seq (.ops f36r10 0 true) (.seq (.seq (.ops f36r11 0 true) (.cond (.t 41) (.seq (.ops f36r12 0 true) .ret) .skip)) (.ops f36r13 0 true))))) (.ops f36r14 0 true))))
def f36r15 : L:=[zAA 0 44 5,zAr 45 44 4,zAA 2 2 45]
def f36c : SC:=(.seq (.ops f36r0 0 true) (.seq (.seq (.ops f36r1 0 true) (.cond (.t 15) (.seq (.ops f36r2 0 true) .ret) .skip)) (.seq (.seq (.ops f36r3 0 true) (.seq (.ops f36r4 0 true) (.cond (.t 22) (.seq (.ops f36r5 0 true) .ret) .skip))) (.seq (.ops f36r6 0 true) (.seq (.seq (.ops f36r7 0 true) (.block 0 (.loop f36b0))) (.seq (.ops f36r15 0 true) .ret))))))
def f36 : SFn := ⟨46, f36c, [.t 2]⟩

def f37r0 : L:=[zAH 0 2]
def f37r1 : L:=[zAA 0 7 0,zAS 1 8 7,zAq 9 8,zAA 3 10 9,zAL 4 11 0 10,zAm 5 12 11 10,zAc 6 13 12 6 10,zAM 7 14 10 13,zAA 8 15 14,zAL 9 16 0 15,zAo 10 17 16 15,zAj 11 18 17 15,zAm 12 19 18 15,⟨13, some 20, .p (.bin .lss (.t 19) (.c (.one (.int .i64 1)))), (some (15, false)), none, [], false⟩,zAM 14 21 15 20,zAA 15 22 21,zAL 16 23 0 22,zAo 17 24 23 22,zAj 18 25 24 22,zAm 19 26 25 22,zAc 20 27 26 4 22,zAM 21 28 22 27]
def f37r2 : L:=[zAH 0 2]
def f37r3 : L:=[zAA 0 29 0,zAS 1 30 29,zAC 2 31 0]
def f37r4 : L:=[zAP 0 32 31 30]
def f37r5 : L:=[zAn 0 33 1 29 31,zAG 1 34 33,zAA 2 4 34]
def f37r6 : L:=[zAA 0 35 4,zAS 1 36 35,zAA 2 37 0,⟨3, some 38, .p (.iaddr 1 (.t 37) (.c (.one (.int .i64 0)))), none, none, [], false⟩,zAG 4 39 38,zAS 5 40 39,⟨6, some 41, .p (.bin .neq (.t 36) (.t 40)), none, none, [], false⟩]
def f37r7 : L:=[zAH 0 2]
def f37r8 : L:=[zAA 0 42 4,zAS 1 43 42,zAC 2 44 0]
def f37r9 : L:=[zAP 0 45 44 43]
def f37r10 : L:=[zAn 0 46 1 42 44,zAG 1 47 46,zAA 2 6 47]
def f37r11 : L:=[zAA 0 48 6,zAW 1 49 48,zAg 50 49 40,zAA 3 51 50,zAL 4 52 6 51,⟨5, some 53, .cf 36 [(.t 52)], (some (51, false)), none, [], false⟩,zAe 6 54 53 51,zAM 7 55 51 54]
def f37r12 : L:=[zAH 0 2]
def f37r13 : L:=[zAO 0 56 44,zAA 1 44 56]
def f37b0 : SC:=zAU f37r9 45 2 3 f37r10 f37r11 55 f37r12 f37r13
def f37r14 : L:=[zAO 0 57 31,zAA 1 31 57]
def f37b1 : SC:=(.seq (.ops f37r4 0 true) (.seq (.cond (.t 32) .skip (.exit 0)) (.seq (.block 1 (.seq (.ops f37r5 0 true) (.seq (.seq (.ops f37r6 0 true) (.cond (.t 41) (.seq (.ops f37r7 0 true) .ret) .skip)) (.seq (.ops f37r8 0 true) (.block 2 (.loop f37b0)))))) (.ops f37r14 0 true))))
def f37r15 : L:=[⟨0, some 2, .p (.mv (.c (.one (.bool true)))), none, none, [], false⟩]
def f37c : SC:=(.seq (.ops f37r0 0 true) (.seq (.seq (.ops f37r1 0 true) (.cond (.t 28) (.seq (.ops f37r2 0 true) .ret) .skip)) (.seq (.seq (.ops f37r3 0 true) (.block 0 (.loop f37b1))) (.seq (.ops f37r15 0 true) .ret))))
def f37 : SFn := ⟨58, f37c, [.t 2]⟩

def f40r0 : L:=[zAv 1,zAH 1 2]
def f40r1 : L:=[zAI 0 3 1 1,zAG 1 4 3,zAD 2 5 4 0,zAA 3 6 5,zAF 4 7 2 1 6,zAE 5 8 7 6,⟨6, some 9, .p (.seq false (.t 8) (.c (.one (.str ⟨#[]⟩)))), (some (6, true)), none, [], false⟩,zAB 7 10 6 9,zAA 8 11 10,zAF 9 12 3 1 11,zAE 10 13 12 11,zAf 11 14 13 11,zAK 12 15 14 0 11,zAB 13 16 11 15,zAA 14 17 16,zAF 15 18 4 1 17,zAE 16 19 18 17,zAf 17 20 19 17,zAK 18 21 20 0 17,zAB 19 22 17 21,zAA 20 23 22,zAF 21 24 9 1 23,zAE 22 25 24 23,zAK 23 26 25 0 23,zAB 24 27 23 26,zAA 25 28 27,zAF 26 29 5 1 28,zAF 27 30 0 29 28,zAE 28 31 30 28,zAK 29 32 31 0 28,zAB 30 33 28 32,zAA 31 34 33,zAF 32 35 5 1 34,zAF 33 36 1 35 34,zAE 34 37 36 34,zAK 35 38 37 0 34,zAB 36 39 34 38,zAA 37 40 39,zAF 38 41 5 1 40,zAF 39 42 2 41 40,zAE 40 43 42 40,zAK 41 44 43 0 40,zAB 42 45 40 44,zAA 43 46 45,zAF 44 47 5 1 46,zAF 45 48 3 47 46,zAE 46 49 48 46,zAf 47 50 49 46,zAK 48 51 50 0 46,zAB 49 52 46 51,zAA 50 2 52]
def f40c : SC:=(.seq (.ops f40r0 0 true) (.seq (.ops f40r1 0 true) .ret))
def f40 : SFn := ⟨53, f40c, [.t 2]⟩

def f71r0 : L:=[zAC 0 2 0,zAC 1 3 0]
def f71r1 : L:=[zAA 0 5 0,zAW 1 6 5,zAC 2 7 0]
def f71r2 : L:=[zAP 0 8 7 6]
def f71r3 : L:=[zAA 0 9 7,zAA 1 4 9]
def f71r4 : L:=[zAA 0 10 0,zAA 1 11 4,⟨2, some 12, .p (.sindex (.t 10) (.t 11)), none, none, [], false⟩,zAN 3 13 100 12,⟨4, some 14, .p (.not (.t 13)), none, none, [], false⟩]
def f71r5 : L:=[zAA 0 15 4,zAA 1 2 15,zAC 2 3 60]
def f71r6 : L:=[zAO 0 16 7,zAA 1 7 16]
def f71b0 : SC:=zAU f71r2 8 0 1 f71r3 f71r4 14 f71r5 f71r6
def f71r7 : L:=[zAA 0 17 0,zAW 1 18 17,zAA 2 2 18,zAC 3 3 0]
def f71c : SC:=(.seq (.ops f71r0 0 true) (.seq (.seq (.ops f71r1 0 true) (.block 0 (.loop f71b0))) (.seq (.ops f71r7 0 true) .ret)))
def f71 : SFn := ⟨19, f71c, [.t 2, .t 3]⟩

def f72r0 : L:=[zAC 0 2 0]
def f72r1 : L:=[zAA 0 4 0,zAs,zAA 2 3 5]
def f72r2 : L:=[zAA 0 7 3,zAa 8 97 7,zAA 2 9 8,zAJ 3 10 3 9,zAQ 4 11 10 122 9,zAB 5 12 9 11,zAA 6 6 12]
def f72r3 : L:=[zAC 0 2 1]
def f72r4 : L:=[zAA 0 14 3,zAa 15 65 14,zAA 2 16 15,zAJ 3 17 3 16,zAQ 4 18 17 90 16,zAB 5 19 16 18,zAA 6 13 19]
def f72r5 : L:=[zAC 0 2 2]
def f72r6 : L:=[zAA 0 21 3,zAa 22 48 21,zAA 2 23 22,zAJ 3 24 3 23,zAQ 4 25 24 57 23,zAB 5 26 23 25,zAA 6 20 26]
def f72r7 : L:=[zAC 0 2 3]
def f72r8 : L:=[zAA 0 28 3,⟨1, some 29, .p (.bin .eql (.t 28) (.c (.one (.int .u8 32)))), none, none, [], false⟩,zAA 2 27 29]
def f72r9 : L:=[zAC 0 2 4]
def f72r10 : L:=[zAC 0 2 5]
def f72c : SC:=(.seq (.ops f72r0 0 true) (.seq (.ops f72r1 0 true) (.seq (.block 0 (.seq (.ops f72r2 0 true) (.cond (.t 6) (.seq (.ops f72r3 0 true) .ret) (.seq (.ops f72r4 0 true) (.cond (.t 13) (.seq (.ops f72r5 0 true) .ret) (.seq (.ops f72r6 0 true) (.cond (.t 20) (.seq (.ops f72r7 0 true) .ret) (.seq (.ops f72r8 0 true) (.cond (.t 27) (.seq (.ops f72r9 0 true) .ret) .skip))))))))) (.seq (.ops f72r10 0 true) .ret))))
def f72 : SFn := ⟨30, f72c, [.t 2]⟩

def f100r0 : L:=[zAH 0 2]
def f100r1 : L:=[zAA 0 4 0,zAs,zAA 2 3 5]
def f100r2 : L:=[zAA 0 6 3,zAa 7 32 6,zAA 2 8 7,zAJ 3 9 3 8,zAQ 4 10 9 126 8,zAB 5 11 8 10,zAA 6 2 11]
def f100c : SC:=zAw f100r0 f100r1 f100r2
def f100 : SFn := ⟨12, f100c, [.t 2]⟩

end Go.Ah
