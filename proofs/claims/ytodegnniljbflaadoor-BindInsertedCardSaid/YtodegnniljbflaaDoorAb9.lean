/- From a law's abstract contract to its row. -/
import Derived.Test.YtodegnniljbflaaDoorAb8
import Derived.Below
import Derived.ChangeSame
import Derived.RowKit
import Derived.Carry
set_option linter.unusedVariables false
set_option linter.unusedSimpArgs false
namespace Go.Ab

section
variable {X : Type} {enc : TypeId × Value → X} {P : Program} {G : Nat} {w : World} {base : Nat} {held : Bool}

def argV (T : Ty) (l : List C) : V :=
  match T with
  | .agg _ => .agg l
  | _ => match l with
    | [c] => .one c
    | _ => .undef

theorem arg_ok {n : Nat} {t : TypeId} {T : Ty} (hd : desc P n t = some T) {v : Value} {d : DataW X} {ps : List MemPlace} {r : Reach} {b0 : Nat} (ht : DataW.Trod enc P w base (fun _ => true) held t v d ps) (hv : Value.okWide P w r b0 t v)
    {μ : Nat → Pl} {K : Nat → Prop} {H : Hp} (hR : Rel G μ K H w) (hN : NoMut H) : ∃ l H' μ' K', lay T [d] H = some (l, H') ∧ Rel G μ' K' H' w ∧ RV μ' K' (argV T l) v ∧ Gr μ K H μ' K' H' := by
  obtain ⟨fuel, hf⟩ := ht
  obtain ⟨hok, hsz⟩ := lay_ok (enc := enc) (G := G) (w := w) (base := base) (held := held) n t T hd
  obtain ⟨hlen, l, H', μ', K', e1, R1, a1, g1⟩ := hok hf hR hN
  refine ⟨l, H', μ', K', e1, R1, ?_, g1⟩
  have hone : (∀ cs, v ≠ .agg cs) → T.sz = 1 → (∀ r, T ≠ .agg r) → RV μ' K' (argV T l) v := by
    intro hna h1 hT
    have hc : v.cells = #[v] := by
      cases v <;> first | rfl | exact absurd rfl (hna _)
    rw [hc] at a1
    have hl : l.length = 1 := by rw [a1.len]; rfl
    match l, hl with
    | [c], _ =>
      have : argV T [c] = .one c := by
        cases T <;> first | rfl | exact absurd rfl (hT _)
      rw [this]
      exact a1.1
  cases n with
  | zero => cases hd
  | succ n =>
    simp only [desc, chk] at hd
    split at hd
    · rename_i T0 hT0
      split at hd
      · obtain rfl := Option.some.inj hd
        have hagg : ∀ r, T0 = .agg r → (∃ cs, v = .agg cs) → RV μ' K' (argV T0 l) v := by
          rintro r rfl ⟨cs, rfl⟩
          exact ⟨cs.toList, by simp, a1⟩
        split at hT0
        · rename_i hu
          obtain rfl := Option.some.inj hT0
          refine hone (fun cs e => ?_) rfl (fun r => by simp)
          subst e; simp [Value.okWide, hu, Cell.okWide, Cell.ok] at hv
        · rename_i k hu
          obtain rfl := Option.some.inj hT0
          refine hone (fun cs e => ?_) rfl (fun r => by simp)
          subst e; simp [Value.okWide, hu, Cell.okWide, Cell.ok] at hv
        · rename_i hu
          obtain rfl := Option.some.inj hT0
          refine hone (fun cs e => ?_) rfl (fun r => by simp)
          subst e; simp [Value.okWide, hu, Cell.okWide, Cell.ok] at hv
        · rename_i e hu
          split at hT0
          · split at hT0
            · obtain rfl := Option.some.inj hT0
              refine hone (fun cs e => ?_) rfl (fun r => by simp)
              subst e; simp [Value.okWide, hu, Cell.okWide, Cell.ok] at hv
            · cases hT0
          · cases hT0
        · rename_i fs hu
          split at hT0
          · obtain rfl := Option.some.inj hT0
            simp only [Value.okWide, hu] at hv
            obtain ⟨cs, h1, _⟩ := hv
            exact hagg _ rfl ⟨cs, h1⟩
          · cases hT0
        · rename_i k e hu
          split at hT0
          · obtain rfl := Option.some.inj hT0
            simp only [Value.okWide, hu] at hv
            obtain ⟨cs, h1, _⟩ := hv
            exact hagg _ rfl ⟨cs, h1⟩
          · cases hT0
        · cases hT0
      · cases hd
    · cases hd

def descs (P : Program) (n : Nat) : List TypeId → Option (List Ty)
  | [] => some []
  | t :: ts => match desc P n t with
    | some a => match descs P n ts with
      | some l => some (a :: l)
      | none => none
    | none => none

def layArgs : List Ty → List (DataW X) → Hp → Option (List V × Hp)
  | [], [], H => some ([], H)
  | t :: ts, d :: ds, H => match lay t [d] H with
    | some (l, H1) => match layArgs ts ds H1 with
      | some (vs, H2) => some (argV t l :: vs, H2)
      | none => none
    | none => none
  | _, _, _ => none

theorem args_ok {n : Nat} {r : Reach} {b0 : Nat} : ∀ {ts : List TypeId} {Ts : List Ty} {vs : List Value} {ds : List (DataW X)} {ps : List MemPlace} {μ : Nat → Pl} {K : Nat → Prop} {H : Hp}, descs P n ts = some Ts →
    DataW.TrodAll enc P w base (fun _ => true) held ts vs ds ps → (∀ (j : Nat) t v, ts[j]? = some t → vs[j]? = some v → Value.okWide P w r b0 t v) → Rel G μ K H w → NoMut H →
    ∃ avs H' μ' K', layArgs Ts ds H = some (avs, H') ∧ Rel G μ' K' H' w ∧ All2 (RV μ' K') avs vs ∧ Gr μ K H μ' K' H'
  | [], Ts, [], [], ps, μ, K, H, hd, _, _, hR, hN => by
    simp only [descs, Option.some.injEq] at hd
    subst hd
    exact ⟨[], H, μ, K, rfl, hR, trivial, Gr.refl _ _ _⟩
  | t :: ts, Ts, v :: vs, d :: ds, ps, μ, K, H, hd, ht, hv, hR, hN => by
    simp only [descs] at hd
    cases h1 : desc P n t with
    | none => simp [h1] at hd
    | some a =>
      simp only [h1] at hd
      cases h2 : descs P n ts with
      | none => simp [h2] at hd
      | some l =>
        simp only [h2, Option.some.injEq] at hd
        subst hd
        obtain ⟨p, q, g1, g2, _⟩ := ht
        obtain ⟨l1, H1, μ1, K1, e1, R1, a1, gr1⟩ := arg_ok h1 g1 (hv 0 t v rfl rfl) hR hN
        obtain ⟨avs, H2, μ2, K2, e2, R2, a2, gr2⟩ := args_ok h2 g2 (fun j t v hj hj' => hv (j + 1) t v (by simpa using hj) (by simpa using hj')) R1 (gr1.noMut hN)
        exact ⟨argV a l1 :: avs, H2, μ2, K2, by simp [layArgs, e1, e2], R2, ⟨a1.mono gr2.kk gr2.mu, a2⟩, gr1.trans gr2⟩
  | [], _, _ :: _, _, _, _, _, _, _, ht, _, _, _ => by cases ht
  | [], _, [], _ :: _, _, _, _, _, _, ht, _, _, _ => by cases ht
  | _ :: _, _, [], _, _, _, _, _, _, ht, _, _, _ => by cases ht
  | _ :: _, _, _ :: _, [], _, _, _, _, _, ht, _, _, _ => by cases ht

/-- the variables that the row lists -/
def layLaid (P : Program) (n G : Nat) : List (String × DataW Unit) → Hp → Hp
  | [], H => H
  | (s, d) :: r, H => match P.globalNamed s with
    | none => layLaid P n G r H
    | some g => match (P.globals[g]?).map (·.type) with
      | none => layLaid P n G r H
      | some t => match desc P n t with
        | none => layLaid P n G r H
        | some T => match lay T [d] H with
          | none => layLaid P n G r H
          | some (l, H') => if g < G then layLaid P n G r (H'.add g (.row l.length l .lf false)) else layLaid P n G r H

def szOf (w : World) (g : Nat) : Nat :=
  match w.heap[g]? with
  | some (.cells cs _ _) => cs.size
  | _ => 0

theorem laid_ok {n : Nat} : ∀ {laid : List (String × DataW Unit)} {ps : List MemPlace} {μ : Nat → Pl} {K : Nat → Prop} {H : Hp}, DataW.LaidVars P w laid ps → Rel G μ K H w → NoMut H → (∀ g, g < G → μ g = ⟨g, 0, szOf w g⟩) →
    ∃ μ' K', Rel G μ' K' (layLaid P n G laid H) w ∧ NoMut (layLaid P n G laid H)
  | [], _, μ, K, H, _, hR, hN, _ => ⟨μ, K, hR, hN⟩
  | (s, d) :: r, ps, μ, K, H, hl, hR, hN, hg => by
    obtain ⟨g, t, cs, fuel, p, q, h1, h2, h3, h4, h5, _⟩ := hl
    simp only [layLaid, h1, h2]
    cases hd : desc P n t with
    | none => exact laid_ok h5 hR hN hg
    | some T =>
      obtain ⟨hok, hsz⟩ := lay_ok (enc := fun _ => ()) (G := G) (w := w) (base := 0) (held := false) n t T hd
      obtain ⟨hlen, l, H', μ', K', e1, R1, a1, g1⟩ := hok h4 hR hN
      simp only [e1]
      split
      · rename_i hgG
        have hN1 := g1.noMut hN
        have hKg := (R1.glob g hgG).1
        have hmu : ∀ g, g < G → μ' g = ⟨g, 0, szOf w g⟩ := fun g hg' => by rw [g1.mu g (hR.glob g hg').1]; exact hg g hg'
        have hN2 : NoMut (H'.add g (.row l.length l .lf false)) := fun b bk hb => by
          rw [Hp.get_add] at hb
          split at hb
          · obtain rfl := Option.some.inj hb; rfl
          · exact hN1 b bk hb
        refine laid_ok h5 (μ := μ') (K := K') ⟨fun b bk hb => ?_, R1.lt, fun b bk hb => ?_, fun b b' bk bk' hb _ hm => ?_, R1.glob⟩ hN2 hmu
        · rw [Hp.get_add] at hb
          split at hb
          · rename_i e; rw [e]; exact hKg
          · exact R1.dom b bk hb
        · rw [Hp.get_add] at hb
          split at hb
          · rename_i e
            subst e
            obtain rfl := Option.some.inj hb
            rw [hmu _ hgG]
            unfold World.var? at h3
            rw [h1] at h3
            simp only [Option.bind_some] at h3
            split at h3
            · rename_i c ty fz hc
              obtain rfl := Option.some.inj h3
              refine ⟨c, ty, fz, hc, by simp [szOf, hc], by simp [a1.len], fun h => (by cases h), fun i x hx => ?_⟩
              simp only [B.cell] at hx
              split at hx
              · rename_i hi
                simp only [Ab.T.get_lf, Option.getD_none, Nat.mod_eq_of_lt hi, List.getD_eq_getElem?_getD, List.getElem?_eq_getElem hi, Option.getD_some, Option.some.injEq] at hx
                obtain ⟨y, hy, hr⟩ := a1.at i x (by rw [List.getElem?_eq_getElem hi, hx])
                exact ⟨y, by simpa using hy, hr⟩
              · cases hx
            · cases h3
          · exact R1.blk b bk hb
        · rw [hN2 b bk hb] at hm; cases hm
      · exact laid_ok h5 hR hN hg

theorem start_rel (w : World) : Rel G (fun g => ⟨g, 0, szOf w g⟩) (fun b => b < G) ⟨.lf, G⟩ w :=
  ⟨fun _ _ h => (by cases h), fun _ h => h, fun _ _ h => (by cases h), fun _ _ _ _ h => (by cases h), fun _ hg => ⟨hg, rfl, rfl⟩⟩
end

/-- what a value of a type is, in plain words -/
def Ty.den : Ty → Type
  | .bool => Bool
  | .int _ => Int
  | .str => ByteArray
  | .slice e => List e.den
  | .unit => Unit
  | .pair a b => a.den × b.den
  | .agg r => r.den

def RL {α : Type} (f : α → List C → Prop) : List α → List C → Prop
  | [], cs => cs = []
  | x :: xs, cs => ∃ a b, cs = a ++ b ∧ f x a ∧ RL f xs b

def Ty.R (H : Hp) : (t : Ty) → t.den → List C → Prop
  | .bool, x, l => l = [.bool x]
  | .int k, x, l => l = [.int k x] ∧ (Lit.int k x).wf = true
  | .str, x, l => l = [.str x]
  | .slice e, x, l => (l = [.nils] ∧ List.length x = 0) ∨ ∃ b cs, l = [.slc b 0 (List.length x) (List.length x) e.sz false] ∧ List.length x ≤ 9223372036854775807 ∧ H.loads b 0 (List.length x * e.sz) = some cs ∧ RL (Ty.R H e) x cs
  | .unit, _, l => l = []
  | .pair a b, x, l => ∃ l1 l2, l = l1 ++ l2 ∧ Ty.R H a (Prod.fst x) l1 ∧ Ty.R H b (Prod.snd x) l2
  | .agg r, x, l => Ty.R H r x l

theorem RL.mono {α : Type} {f g : α → List C → Prop} (h : ∀ x l, f x l → g x l) : ∀ {xs : List α} {cs : List C}, RL f xs cs → RL g xs cs
  | [], _, hh => hh
  | _ :: _, _, ⟨a, b, e, h1, h2⟩ => ⟨a, b, e, h _ _ h1, RL.mono h h2⟩
theorem RL.len {α : Type} {f : α → List C → Prop} {c : Nat} (h : ∀ x l, f x l → l.length = c) : ∀ {xs : List α} {cs : List C}, RL f xs cs → cs.length = xs.length * c
  | [], _, hh => by cases hh; simp
  | _ :: xs, _, ⟨a, b, e, h1, h2⟩ => by
    subst e
    rw [List.length_append, h _ _ h1, RL.len h h2, List.length_cons, Nat.add_mul]; omega
theorem Ty.R_le {H H' : Hp} (h : Le H H') : ∀ (t : Ty) (x : t.den) (l : List C), t.R H x l → t.R H' x l
  | .bool, _, _, hh => hh
  | .int _, _, _, hh => hh
  | .str, _, _, hh => hh
  | .slice e, x, l, hh => by
    rcases hh with hh | ⟨b, cs, h1, h0, h2, h3⟩
    · exact .inl hh
    · exact .inr ⟨b, cs, h1, h0, h.loads h2, h3.mono (Ty.R_le h e)⟩
  | .unit, _, _, hh => hh
  | .pair a b, x, l, ⟨l1, l2, e, h1, h2⟩ => ⟨l1, l2, e, Ty.R_le h a _ _ h1, Ty.R_le h b _ _ h2⟩
  | .agg r, x, l, hh => Ty.R_le h r x l hh
theorem Ty.R_len {H : Hp} : ∀ (t : Ty) (x : t.den) (l : List C), t.R H x l → l.length = t.sz
  | .bool, _, _, hh => by cases hh; rfl
  | .int _, _, _, hh => by cases hh.1; rfl
  | .str, _, _, hh => by cases hh; rfl
  | .slice e, x, l, hh => by
    rcases hh with hh | ⟨b, cs, h1, _⟩
    · rw [hh.1]; rfl
    · rw [h1]; rfl
  | .unit, _, _, hh => by cases hh; rfl
  | .pair a b, x, l, ⟨l1, l2, e, h1, h2⟩ => by subst e; rw [List.length_append, Ty.R_len a _ _ h1, Ty.R_len b _ _ h2]; rfl
  | .agg r, x, l, hh => Ty.R_len r x l hh

section
variable {X : Type}
theorem layL_dec {e : Ty} (he : ∀ {ds : List (DataW X)} {H H' : Hp} {l : List C}, WF H → lay e ds H = some (l, H') → WF H' ∧ Ext H H' ∧ ∃ x : e.den, e.R H' x l) : ∀ {es : List (DataW X)} {H H' : Hp} {cs : List C}, WF H → layL (fun d H => lay e [d] H) es H = some (cs, H') →
    WF H' ∧ Ext H H' ∧ ∃ xs : List e.den, xs.length = es.length ∧ RL (e.R H') xs cs
  | [], H, H', cs, hw, h => by
    simp only [layL, Option.some.injEq, Prod.mk.injEq] at h
    obtain ⟨rfl, rfl⟩ := h
    exact ⟨hw, Ext.refl _, [], rfl, rfl⟩
  | d :: es, H, H', cs, hw, h => by
    simp only [layL] at h
    cases h1 : lay e [d] H with
    | none => simp [h1] at h
    | some x =>
      obtain ⟨l, H1⟩ := x
      simp only [h1] at h
      cases h2 : layL (fun d H => lay e [d] H) es H1 with
      | none => simp [h2] at h
      | some y =>
        obtain ⟨l', H2⟩ := y
        simp only [h2, Option.some.injEq, Prod.mk.injEq] at h
        obtain ⟨rfl, rfl⟩ := h
        obtain ⟨w1, e1, x1, r1⟩ := he hw h1
        obtain ⟨w2, e2, xs, hl, r2⟩ := layL_dec he w1 h2
        exact ⟨w2, e1.trans e2, x1 :: xs, by simp [hl], l, l', rfl, Ty.R_le e2.le _ _ _ r1, r2⟩

theorem lay_dec : ∀ (t : Ty) {ds : List (DataW X)} {H H' : Hp} {l : List C}, WF H → lay t ds H = some (l, H') → WF H' ∧ Ext H H' ∧ ∃ x : t.den, t.R H' x l
  | .bool, ds, H, H', l, hw, h => by
    unfold lay at h
    split at h <;> first | (cases h; done) | skip
    all_goals simp_all
    obtain ⟨rfl, rfl⟩ := h
    exact ⟨Ext.refl _, _, rfl⟩
  | .int k, ds, H, H', l, hw, h => by
    unfold lay at h
    split at h <;> first | (cases h; done) | skip
    all_goals simp_all
    rename_i e0
    subst e0
    obtain ⟨hwf, rfl, rfl⟩ := h
    exact ⟨Ext.refl _, _, rfl, hwf.2⟩
  | .str, ds, H, H', l, hw, h => by
    unfold lay at h
    split at h <;> first | (cases h; done) | skip
    all_goals simp_all
    obtain ⟨rfl, rfl⟩ := h
    exact ⟨Ext.refl _, _, rfl⟩
  | .slice e, ds, H, H', l, hw, h => by
    have he : ∀ {ds : List (DataW X)} {H H' : Hp} {l : List C}, WF H → lay e ds H = some (l, H') → WF H' ∧ Ext H H' ∧ ∃ x : e.den, e.R H' x l := fun hw h => lay_dec e hw h
    unfold lay at h
    split at h <;> first | (cases h; done) | skip
    all_goals first | (rename_i e0; obtain rfl := Ty.slice.inj e0) | (simp at *; done)
    · obtain ⟨rfl, rfl⟩ := Prod.mk.inj (Option.some.inj h)
      exact ⟨hw, Ext.refl _, ([] : List e.den), .inl ⟨rfl, rfl⟩⟩
    · rename_i es sp
      split at h
      case isFalse => cases h
      case isTrue hbd =>
      split at h
      case h_2 => cases h
      case h_1 cs H1 h1 =>
        simp only [Option.some.injEq] at h
        obtain ⟨w1, e1, xs, hl, r1⟩ := layL_dec he hw h1
        have hcl : cs.length = xs.length * e.sz := RL.len (Ty.R_len e) r1
        cases hcs : cs with
        | nil =>
          rw [hcs] at h r1
          obtain ⟨rfl, rfl⟩ := Prod.mk.inj h
          exact ⟨w1.skip 1, e1.skip 1, ([] : List e.den), .inr ⟨_, [], rfl, Nat.zero_le _, by simp [Hp.loads], rfl⟩⟩
        | cons c cr =>
          have e2 : newSl e.sz es.length cs H1 = ([.slc H1.nx 0 es.length es.length e.sz false], H1.push (.row cs.length cs .lf false)) := by rw [hcs]; rfl
          rw [e2] at h
          obtain ⟨rfl, rfl⟩ := Prod.mk.inj h
          refine ⟨w1.push _, Ext.push w1 e1 _, xs, .inr ⟨H1.nx, cs, by rw [hl], by rw [hl]; exact hbd, ?_, r1.mono (Ty.R_le (Ext.push w1 (Ext.refl _) _).le e)⟩⟩
          rw [← hcl]
          exact loads_row (rw := false) (by rw [Hp.get_push, if_pos rfl])
  | .unit, ds, H, H', l, hw, h => by
    unfold lay at h
    split at h <;> first | (cases h; done) | skip
    all_goals simp_all
    obtain ⟨rfl, rfl⟩ := h
    exact ⟨Ext.refl _, (), rfl⟩
  | .pair a b, ds, H, H', l, hw, h => by
    cases ds with
    | nil => simp [lay] at h
    | cons d ds =>
      simp only [lay] at h
      cases h1 : lay a [d] H with
      | none => simp [h1] at h
      | some x =>
        obtain ⟨l1, H1⟩ := x
        simp only [h1] at h
        cases h2 : lay b ds H1 with
        | none => simp [h2] at h
        | some y =>
          obtain ⟨l', H2⟩ := y
          simp only [h2, Option.some.injEq, Prod.mk.injEq] at h
          obtain ⟨rfl, rfl⟩ := h
          obtain ⟨w1, e1, x1, r1⟩ := lay_dec a hw h1
          obtain ⟨w2, e2, x2, r2⟩ := lay_dec b w1 h2
          exact ⟨w2, e1.trans e2, (x1, x2), l1, l', rfl, Ty.R_le e2.le _ _ _ r1, r2⟩
  | .agg r, ds, H, H', l, hw, h => by
    unfold lay at h
    split at h <;> first | (cases h; done) | skip
    all_goals first | (rename_i e0; obtain rfl := Ty.agg.inj e0) | (simp at *; done)
    exact lay_dec r hw h
end
end Go.Ab

/- A law's row out of its abstract contract. -/
namespace Go.Ab
open Go.RowKit Go.WideShapes Go.ChangeShapes

section
variable {X : Type} {enc : TypeId × Value → X} {P : Program} {G : Nat}

def denL : List Ty → Type
  | [] => Unit
  | t :: ts => t.den × denL ts
/-- the arguments, in plain words -/
def RA (H : Hp) : (ts : List Ty) → denL ts → List V → Prop
  | [], _, vs => vs = []
  | t :: ts, x, vs => ∃ l vs', vs = argV t l :: vs' ∧ t.R H (Prod.fst x) l ∧ RA H ts (Prod.snd x) vs'
theorem RA.le {H H' : Hp} (h : Le H H') : ∀ {ts : List Ty} {x : denL ts} {vs : List V}, RA H ts x vs → RA H' ts x vs
  | [], _, _, hh => hh
  | t :: _, _, _, ⟨l, vs', e, h1, h2⟩ => ⟨l, vs', e, Ty.R_le h t _ _ h1, RA.le h h2⟩
theorem layArgs_dec : ∀ {ts : List Ty} {ds : List (DataW X)} {H H' : Hp} {vs : List V}, WF H → layArgs ts ds H = some (vs, H') → WF H' ∧ Ext H H' ∧ ∃ x : denL ts, RA H' ts x vs
  | [], [], H, H', vs, hw, h => by
    simp only [layArgs, Option.some.injEq, Prod.mk.injEq] at h
    obtain ⟨rfl, rfl⟩ := h
    exact ⟨hw, Ext.refl _, (), rfl⟩
  | t :: ts, d :: ds, H, H', vs, hw, h => by
    simp only [layArgs] at h
    split at h
    case h_2 => cases h
    case h_1 l H1 h1 =>
      split at h
      case h_2 => cases h
      case h_1 vs' H2 h2 =>
        obtain ⟨rfl, rfl⟩ := Prod.mk.inj (Option.some.inj h)
        obtain ⟨w1, e1, x1, r1⟩ := lay_dec t hw h1
        obtain ⟨w2, e2, x2, r2⟩ := layArgs_dec w1 h2
        exact ⟨w2, e1.trans e2, (x1, x2), l, vs', rfl, Ty.R_le e2.le _ _ _ r1, r2⟩
  | [], _ :: _, _, _, _, _, h => by simp [layArgs] at h
  | _ :: _, [], _, _, _, _, h => by simp [layArgs] at h

theorem trodAll_stays {W W' : World} (hl : laidOutB P = true) (hb : Below W.heap.size W W') {sp : Nat → Bool} : ∀ {ts : List TypeId} {vs : List Value} {ds : List (DataW X)} {ps : List MemPlace}, (ts.all fun t => P.readableRec t && decide (t < P.types.size)) = true →
    DataW.TrodAll enc P W 0 (fun _ => true) true ts vs ds ps → (∀ p ∈ ps, p.block < W.heap.size ∧ sp p.block = true) → DataW.TrodAll enc P W' 0 sp true ts vs ds ps
  | [], [], [], _, _, h, _ => h
  | t :: ts, v :: vs, d :: ds, ps, hr, h, hp => by
    obtain ⟨p, q, h1, h2, rfl⟩ := h
    simp only [List.all_cons, Bool.and_eq_true, decide_eq_true_eq] at hr
    refine ⟨p, q, WideElems.Trod_stays hl hr.1.1 hr.1.2 h1 (fun x hx => hb.same (hp x (by simp [hx])).1) (fun x hx => (hp x (by simp [hx])).2), trodAll_stays hl hb (by simpa using hr.2) h2 (fun x hx => hp x (by simp [hx])), rfl⟩
  | [], _ :: _, _, _, _, h, _ => by cases h
  | [], [], _ :: _, _, _, h, _ => by cases h
  | _ :: _, [], _, _, _, h, _ => by cases h
  | _ :: _, _ :: _, [], _, _, h, _ => by cases h

/-- THE ROW'S CONTRACT OUT OF THE ABSTRACT ONE. -/
theorem law_contract {f : FuncId} {fn : Func} {s : ChangeSpec} {laid : List (String × DataW Unit)} {n : Nat} {Ts : List Ty} {H0 : Hp} {tb : TypeId} {r : Reach}
    (hl : laidOutB P = true) (hrd : (fn.params.toList.all fun t => P.readableRec t && decide (t < P.types.size)) = true) (hds : descs P n fn.params.toList = some Ts) (hvars : s.vars = []) (hres : fn.resultTypes = #[tb]) (htb : P.underlying tb = some .bool)
    (hspec : ∀ ds : List (DataW X), ds.length = fn.params.toList.length → s.fn X ds = { results := [.lit (.bool true)], args := ds })
    (hH0 : layLaid P n G laid ⟨.lf, G⟩ = H0)
    (W : World) (base : Nat) (args : Array Value) (ds gs : List (DataW X)) (before : List MemPlace)
    (hlaw : ∀ (H : Hp) (x : denL Ts) (vs : List V), WF H → Ext H0 H → NoMut H → RA H Ts x vs → layArgs Ts ds H0 = some (vs, H) → ACalls P G f vs H fun v _ => v = .bool true)
    (hval : ∀ (j : Nat) t v, fn.params[j]? = some t → args[j]? = some v → Value.okWide P W r base t v)
    (hW : DataW.Whole enc P fn.params.toList s.vars false W args.toList ds gs before) (hL : laidMet P laid W) :
    Calls P f args W fun e W' => ∃ v, e = .returned v ∧ s.post enc P fn false true false false W args v W' := by
  have hW0 := hW
  obtain ⟨p, q, hA, hV, rfl, hfz, hnd⟩ := hW
  rw [hvars] at hV
  obtain ⟨rfl, rfl⟩ := trodVars_none hV
  obtain ⟨ps, hlv, _⟩ := hL
  obtain ⟨μ1, K1, R1, N1⟩ := laid_ok (n := n) hlv (start_rel (G := G) W) (fun _ _ h => by cases h) (fun _ _ => rfl)
  rw [hH0] at R1 N1
  obtain ⟨avs, H, μ2, K2, e2, R2, a2, g2⟩ := args_ok hds hA (fun j t v hj hj' => hval j t v (by simpa using hj) (by simpa using hj')) R1 N1
  obtain ⟨w2, x2, x, rx⟩ := layArgs_dec R1.lt' e2
  have N2 := g2.noMut N1
  have hlen : ds.length = fn.params.toList.length := by
    have : ∀ {ts : List TypeId} {vs : List Value} {ds : List (DataW X)} {ps : List MemPlace}, DataW.TrodAll enc P W 0 (fun _ => true) true ts vs ds ps → ds.length = ts.length := by
      intro ts
      induction ts with
      | nil => intro vs ds ps h; cases vs <;> cases ds <;> simp_all [DataW.TrodAll]
      | cons t ts ih =>
        intro vs ds ps h
        cases vs with
        | nil => cases h
        | cons v vs =>
          cases ds with
          | nil => cases h
          | cons d ds => obtain ⟨_, _, _, h2, _⟩ := h; simp [ih h2]
    exact this hA
  have key := hlaw H x avs w2 x2 N2 rx e2 μ2 K2 W args.toList R2 a2
  rw [Array.toArray_toList] at key
  refine key.mono ?_
  rintro e W' ⟨y, rfl, v, H', μ', K', rfl, h2, h3, h4⟩
  obtain rfl : y = .bool true := h2
  have hb : Below W.heap.size W W' := ⟨h4.same.1, h4.same.2.1, h4.same.2.2.1, h4.size, fun k hk => h4.keep k hk fun b bk hb hm => by rw [N2 b bk hb] at hm; cases hm⟩
  have hlt : ∀ x ∈ p, x.block < W.heap.size := fun x hx => hW0.lt x (by simp [hx])
  have hsp := hspec ds hlen
  refine ⟨_, rfl, ds, [], p ++ [], [], p, [], hW0, ?_, ?_, ?_, World.keptBut_mono (fun z hz => ⟨hz, .inr (.inl (by simpa using hz))⟩) (hb.frame (· ∈ p ++ [])), fun h => (by cases h)⟩
  · rw [List.append_nil, hsp, hres]
    exact ⟨[], [], shut_bool htb true, rfl, rfl⟩
  · rw [List.append_nil, hsp]
    exact trodAll_stays hl hb hrd hA fun z hz => ⟨hlt z hz, by simpa using hlt z hz⟩
  · rw [List.append_nil, hsp, hvars]
    rfl
end
end Go.Ab

/- A law's abstract contract out of a deep one. -/
namespace Go.Ab

def Ty.fd : (t : Ty) → t.den → List FD
  | .bool, x => [.c (.bool x)]
  | .int k, x => [.c (.int k x)]
  | .str, x => [.c (.str x)]
  | .slice e, x => [.sl e.sz (List.length x) (List.flatMap (Ty.fd e) x)]
  | .unit, _ => []
  | .pair a b, x => Ty.fd a (Prod.fst x) ++ Ty.fd b (Prod.snd x)
  | .agg r, x => Ty.fd r x
/-- the numbers are numbers of their kinds -/
def Ty.okD : (t : Ty) → t.den → Prop
  | .bool, _ => True
  | .int k, x => (Lit.int k x).wf = true
  | .str, _ => True
  | .slice e, x => (∀ y, List.Mem y x → Ty.okD e y) ∧ List.length x ≤ 9223372036854775807
  | .unit, _ => True
  | .pair a b, x => Ty.okD a (Prod.fst x) ∧ Ty.okD b (Prod.snd x)
  | .agg r, x => Ty.okD r x
theorem RL.fd {e : Ty} {H : Hp} {R : FD → C → Prop} (h : ∀ x l, e.R H x l → All2 R (e.fd x) l ∧ e.okD x) : ∀ {xs : List e.den} {cs : List C}, RL (e.R H) xs cs → All2 R (xs.flatMap e.fd) cs ∧ ∀ y, List.Mem y xs → e.okD y
  | [], _, hh => by obtain rfl : _ = [] := hh; exact ⟨trivial, fun y hy => by cases hy⟩
  | x :: xs, _, ⟨a, b, e', h1, h2⟩ => by
    subst e'
    obtain ⟨g1, g2⟩ := h x a h1
    obtain ⟨g3, g4⟩ := RL.fd h h2
    rw [List.flatMap_cons]
    refine ⟨g1.append g3, fun y hy => ?_⟩
    rcases List.mem_cons.1 hy with rfl | hy
    · exact g2
    · exact g4 y hy
theorem Ty.R_fd {H : Hp} (hw : WF H) : ∀ (t : Ty) (x : t.den) (l : List C), t.R H x l → All2 (RF (fun b => b < H.nx) H) (t.fd x) l ∧ t.okD x
  | .bool, _, _, hh => by obtain rfl : _ = [_] := hh; exact ⟨⟨.c _ rfl, trivial⟩, trivial⟩
  | .int _, _, _, hh => by obtain ⟨rfl, h2⟩ := hh; exact ⟨⟨.c _ rfl, trivial⟩, h2⟩
  | .str, _, _, hh => by obtain rfl : _ = [_] := hh; exact ⟨⟨.c _ rfl, trivial⟩, trivial⟩
  | .slice e, x, l, hh => by
    rcases hh with ⟨rfl, h2⟩ | ⟨b, cs, rfl, h0, h2, h3⟩
    · obtain rfl : x = [] := List.eq_nil_of_length_eq_zero h2
      exact ⟨⟨.nil _, trivial⟩, (fun y hy => by cases hy), Nat.zero_le _⟩
    · obtain ⟨g1, g2⟩ := RL.fd (Ty.R_fd hw e) h3
      refine ⟨⟨.sl (fun h0 => ?_) ?_ (Nat.le_refl _) h2 fun i d c hd hc => ?_, trivial⟩, g2, h0⟩
      · cases hg : H.get b with
        | none =>
          have := loads_cell (i := 0) h2 h0
          have hl := loads_len h2
          rw [List.getElem?_eq_getElem (by omega)] at this
          simp [Hp.cell, hg] at this
        | some bk => exact hw b bk hg
      · rw [g1.len, loads_len h2]
      · obtain ⟨c', hc', hr⟩ := g1.at i d hd
        rw [hc] at hc'
        obtain rfl := Option.some.inj hc'
        exact hr
  | .unit, _, _, hh => by obtain rfl : _ = [] := hh; exact ⟨trivial, trivial⟩
  | .pair a b, x, l, ⟨l1, l2, e, h1, h2⟩ => by
    subst e
    obtain ⟨g1, g2⟩ := Ty.R_fd hw a _ _ h1
    obtain ⟨g3, g4⟩ := Ty.R_fd hw b _ _ h2
    exact ⟨g1.append g3, g2, g4⟩
  | .agg r, x, l, hh => Ty.R_fd hw r x l hh

def Ty.isAgg : Ty → Bool
  | .agg _ => true
  | _ => false
def argL : Bool → List FD → DV
  | true, l => .agg (l.map .f)
  | false, [d] => .one (.f d)
  | false, _ => .undef
def argD (t : Ty) (x : t.den) : DV := argL t.isAgg (t.fd x)
def argVL : Bool → List C → V
  | true, l => .agg l
  | false, [c] => .one c
  | false, _ => .undef
theorem argV_eq (t : Ty) (l : List C) : argV t l = argVL t.isAgg l := by
  cases t <;> cases l with
  | nil => rfl
  | cons c l => cases l <;> rfl
def DA : (ts : List Ty) → denL ts → List DV
  | [], _ => []
  | t :: ts, x => argD t (Prod.fst x) :: DA ts (Prod.snd x)
def okA : (ts : List Ty) → denL ts → Prop
  | [], _ => True
  | t :: ts, x => t.okD (Prod.fst x) ∧ okA ts (Prod.snd x)
theorem argL_rel {Z : Nat → Prop} {H : Hp} : ∀ (g : Bool) {l : List FD} {cs : List C}, All2 (RF Z H) l cs → RDV Z H nob (argL g l) (argVL g cs)
  | true, l, cs, h => ⟨cs, rfl, all2_map_f h⟩
  | false, [], [], _ => undef_ok
  | false, [d], [c], h => ⟨c, rfl, h.1⟩
  | false, _ :: _ :: _, _ :: _ :: _, _ => undef_ok
  | false, [], _ :: _, h => h.elim
  | false, _ :: _, [], h => h.elim
  | false, [_], _ :: _ :: _, h => h.2.elim
  | false, _ :: _ :: _, [_], h => h.2.elim
theorem arg_rel {H : Hp} (hw : WF H) {t : Ty} {x : t.den} {l : List C} (h : t.R H x l) : RDV (fun b => b < H.nx) H nob (argD t x) (argV t l) := by
  rw [argV_eq]
  exact argL_rel _ (Ty.R_fd hw t x l h).1
theorem args_rel {H : Hp} (hw : WF H) : ∀ {ts : List Ty} {x : denL ts} {vs : List V}, RA H ts x vs → All2 (RDV (fun b => b < H.nx) H nob) (DA ts x) vs ∧ okA ts x
  | [], _, _, hh => by obtain rfl : _ = [] := hh; exact ⟨trivial, trivial⟩
  | t :: _, _, _, ⟨l, vs', e, h1, h2⟩ => by
    subst e
    obtain ⟨g1, g2⟩ := args_rel hw h2
    exact ⟨⟨arg_rel hw h1, g1⟩, (Ty.R_fd hw t _ _ h1).2, g2⟩
theorem deep_law {P : Program} {G : Nat} {GH : Hp} {f : FuncId} {ts : List Ty} {H : Hp} {x : denL ts} {vs : List V} (h : okA ts x → DCalls P G GH f (DA ts x) fun d => d = .bool true) (hw : WF H) (hG : ∀ b bk, GH.get b = some bk → H.get b = some bk) (hr : RA H ts x vs) : ACalls P G f vs H fun v _ => v = .bool true := by
  obtain ⟨h1, h2⟩ := args_rel hw hr
  refine (h h2 H _ vs hw (fun b hb => hb) (fun b bk hb => ⟨hw b bk (hG b bk hb), hG b bk hb⟩) h1).mono ?_
  rintro v H' ⟨_, _, _, d, hd, rfl⟩
  obtain ⟨c, rfl, hc⟩ := hd
  cases hc
  rfl
end Go.Ab

namespace Go.Ac
open Go.Ab
/- sixdot/sixdotlaw34.BindBeginnings -/
def f3r0 : List SOper := [
⟨0, some 2, .p (.mv (.c (.one (.bool false)))), none, none, [], false⟩]
def f3r1 : List SOper := [
⟨0, some 12, .cf 5 [], none, none, [], false⟩,
⟨1, some 3, .p (.mv (.t 12)), none, none, [], false⟩]
def f3r2 : List SOper := [
⟨0, some 13, .p (.mv (.t 0)), none, none, [], false⟩,
⟨1, some 14, .cf 7 [(.t 13)], none, none, [], false⟩,
⟨2, some 15, .cf 8 [], none, none, [], false⟩,
⟨3, some 16, .cf 6 [(.t 14), (.t 15)], none, none, [], false⟩,
⟨4, some 4, .p (.mv (.t 16)), none, none, [], false⟩]
def f3r3 : List SOper := [
⟨0, some 18, .p (.mv (.t 4)), none, none, [], false⟩,
⟨1, some 19, .cf 9 [(.t 18)], none, none, [], false⟩,
⟨2, some 17, .p (.mv (.t 19)), none, none, [], false⟩,
⟨3, some 20, .p (.extract (.t 17) 0), none, none, [], false⟩,
⟨4, some 21, .p (.extract (.t 17) 1), none, none, [], false⟩,
⟨5, some 5, .p (.mv (.t 20)), none, none, [], false⟩,
⟨6, some 6, .p (.mv (.t 21)), none, none, [], false⟩]
def f3r4 : List SOper := [
⟨0, some 22, .p (.mv (.t 5)), none, none, [], false⟩,
⟨1, some 23, .p (.bin .lss (.t 22) (.c (.one (.int .i64 0)))), none, none, [], false⟩,
⟨2, some 24, .p (.mv (.t 23)), none, none, [], false⟩,
⟨3, some 25, .p (.mv (.t 5)), (some (24, false)), none, [], false⟩,
⟨4, some 26, .p (.mv (.t 4)), (some (24, false)), none, [], false⟩,
⟨5, some 27, .p (.len (.t 26)), (some (24, false)), none, [], false⟩,
⟨6, some 28, .p (.bin .gtr (.t 25) (.t 27)), (some (24, false)), none, [], false⟩,
⟨7, some 29, .p (.pick (.t 24) (.c (.one (.bool true))) (.t 28)), none, none, [], false⟩,
⟨8, some 30, .p (.mv (.t 29)), none, none, [], false⟩,
⟨9, some 31, .p (.mv (.t 6)), (some (30, false)), none, [], false⟩,
⟨10, some 32, .p (.bin .eql (.t 31) (.c (.one (.int .i64 0)))), (some (30, false)), none, [], false⟩,
⟨11, some 33, .p (.mv (.t 32)), (some (30, false)), none, [], false⟩,
⟨12, some 34, .p (.mv (.t 5)), (some (33, true)), none, [], false⟩,
⟨13, some 35, .p (.mv (.t 4)), (some (33, true)), none, [], false⟩,
⟨14, some 36, .p (.len (.t 35)), (some (33, true)), none, [], false⟩,
⟨15, some 37, .p (.bin .neq (.t 34) (.t 36)), (some (33, true)), none, [], false⟩,
⟨16, some 38, .p (.pick (.t 33) (.t 37) (.c (.one (.bool false)))), (some (30, false)), none, [], false⟩,
⟨17, some 39, .p (.pick (.t 30) (.c (.one (.bool true))) (.t 38)), none, none, [], false⟩]
def f3r5 : List SOper := [
⟨0, some 2, .p (.mv (.c (.one (.bool false)))), none, none, [], false⟩]
def f3r6 : List SOper := [
⟨0, some 7, .p (.mv (.c (.one (.int .i64 1)))), none, none, [], false⟩]
def f3r7 : List SOper := [
⟨0, some 40, .p (.mv (.t 7)), none, none, [], false⟩,
⟨1, some 41, .p (.mv (.t 5)), none, none, [], false⟩,
⟨2, some 42, .p (.bin .leq (.t 40) (.t 41)), none, none, [], false⟩]
def f3r8 : List SOper := [
⟨0, some 46, .p (.mv (.t 4)), none, none, [], false⟩,
⟨1, some 47, .p (.mv (.t 7)), none, none, [], false⟩,
⟨2, some 48, .p (.slice 4 (.t 46) none (some (.t 47)) none), none, none, [], false⟩,
⟨3, some 49, .cf 9 [(.t 48)], none, none, [], false⟩,
⟨4, some 45, .p (.mv (.t 49)), none, none, [], false⟩,
⟨5, some 50, .p (.extract (.t 45) 0), none, none, [], false⟩,
⟨6, some 51, .p (.extract (.t 45) 1), none, none, [], false⟩,
⟨7, some 8, .p (.mv (.t 50)), none, none, [], false⟩,
⟨8, some 9, .p (.mv (.t 51)), none, none, [], false⟩]
def f3r9 : List SOper := [
⟨0, some 52, .p (.mv (.t 9)), none, none, [], false⟩,
⟨1, some 53, .p (.bin .neq (.t 52) (.c (.one (.int .i64 0)))), none, none, [], false⟩,
⟨2, some 54, .p (.mv (.t 53)), none, none, [], false⟩,
⟨3, some 55, .p (.mv (.t 8)), (some (54, false)), none, [], false⟩,
⟨4, some 56, .p (.mv (.t 7)), (some (54, false)), none, [], false⟩,
⟨5, some 57, .p (.bin .neq (.t 55) (.t 56)), (some (54, false)), none, [], false⟩,
⟨6, some 58, .p (.pick (.t 54) (.c (.one (.bool true))) (.t 57)), none, none, [], false⟩]
def f3r10 : List SOper := [
⟨0, some 2, .p (.mv (.c (.one (.bool false)))), none, none, [], false⟩]
def f3r11 : List SOper := [
⟨0, some 43, .p (.mv (.t 7)), none, none, [], false⟩,
⟨1, some 44, .p (.bin .add (.t 43) (.c (.one (.int .i64 1)))), none, none, [], false⟩,
⟨2, some 7, .p (.mv (.t 44)), none, none, [], false⟩]
def f3b0 : SC := (.seq (.seq (.ops f3r7 0) (.cond (.t 42) .skip (.exit 0))) (.seq (.block 1 (.seq (.ops f3r8 0) (.seq (.ops f3r9 0) (.cond (.t 58) (.seq (.ops f3r10 0) .ret) .skip)))) (.ops f3r11 0)))
def f3r12 : List SOper := [
⟨0, some 59, .p (.mv (.t 6)), none, none, [], false⟩,
⟨1, some 60, .p (.bin .eql (.t 59) (.c (.one (.int .i64 0)))), none, none, [], false⟩,
⟨2, some 61, .p (.mv (.t 60)), none, none, [], false⟩,
⟨3, some 62, .p (.mv (.t 4)), (some (61, false)), none, [], false⟩,
⟨4, some 63, .p (.len (.t 62)), (some (61, false)), none, [], false⟩,
⟨5, some 64, .p (.bin .eql (.t 63) (.c (.one (.int .i64 0)))), (some (61, false)), none, [], false⟩,
⟨6, some 65, .p (.pick (.t 61) (.c (.one (.bool true))) (.t 64)), none, none, [], false⟩]
def f3r13 : List SOper := [
⟨0, some 66, .p (.mv (.t 3)), none, none, [], false⟩,
⟨1, some 67, .p (.mv (.t 66)), none, none, [], false⟩,
⟨2, some 68, .p (.mv (.t 6)), (some (67, true)), none, [], false⟩,
⟨3, some 69, .p (.bin .eql (.t 68) (.c (.one (.int .i64 0)))), (some (67, true)), none, [], false⟩,
⟨4, some 70, .p (.mv (.t 4)), (some (67, true)), none, [], false⟩,
⟨5, some 71, .p (.len (.t 70)), (some (67, true)), none, [], false⟩,
⟨6, some 72, .p (.bin .gtr (.t 71) (.c (.one (.int .i64 0)))), (some (67, true)), none, [], false⟩,
⟨7, some 73, .p (.beq false (.t 69) (.t 72)), (some (67, true)), none, [], false⟩,
⟨8, some 74, .p (.pick (.t 67) (.t 73) (.c (.one (.bool false)))), none, none, [], false⟩,
⟨9, some 2, .p (.mv (.t 74)), none, none, [], false⟩]
def f3r14 : List SOper := [
⟨0, some 76, .p (.mv (.t 4)), none, none, [], false⟩,
⟨1, some 77, .p (.mv (.t 5)), none, none, [], false⟩,
⟨2, some 78, .p (.bin .add (.t 77) (.c (.one (.int .i64 1)))), none, none, [], false⟩,
⟨3, some 79, .p (.slice 4 (.t 76) none (some (.t 78)) none), none, none, [], false⟩,
⟨4, some 80, .cf 9 [(.t 79)], none, none, [], false⟩,
⟨5, some 75, .p (.mv (.t 80)), none, none, [], false⟩,
⟨6, some 81, .p (.extract (.t 75) 0), none, none, [], false⟩,
⟨7, some 82, .p (.extract (.t 75) 1), none, none, [], false⟩,
⟨8, some 10, .p (.mv (.t 81)), none, none, [], false⟩,
⟨9, some 11, .p (.mv (.t 82)), none, none, [], false⟩]
def f3r15 : List SOper := [
⟨0, some 83, .p (.mv (.t 3)), none, none, [], false⟩,
⟨1, some 84, .p (.mv (.t 83)), none, none, [], false⟩,
⟨2, some 85, .p (.mv (.t 11)), (some (84, true)), none, [], false⟩,
⟨3, some 86, .p (.mv (.t 6)), (some (84, true)), none, [], false⟩,
⟨4, some 87, .p (.bin .eql (.t 85) (.t 86)), (some (84, true)), none, [], false⟩,
⟨5, some 88, .p (.pick (.t 84) (.t 87) (.c (.one (.bool false)))), none, none, [], false⟩,
⟨6, some 89, .p (.mv (.t 88)), none, none, [], false⟩,
⟨7, some 90, .p (.mv (.t 10)), (some (89, true)), none, [], false⟩,
⟨8, some 91, .p (.mv (.t 5)), (some (89, true)), none, [], false⟩,
⟨9, some 92, .p (.bin .eql (.t 90) (.t 91)), (some (89, true)), none, [], false⟩,
⟨10, some 93, .p (.pick (.t 89) (.t 92) (.c (.one (.bool false)))), none, none, [], false⟩,
⟨11, some 2, .p (.mv (.t 93)), none, none, [], false⟩]
def f3c : SC := (.seq (.ops f3r0 0) (.seq (.ops f3r1 0) (.seq (.ops f3r2 0) (.seq (.ops f3r3 0) (.seq (.seq (.ops f3r4 0) (.cond (.t 39) (.seq (.ops f3r5 0) .ret) .skip)) (.seq (.seq (.ops f3r6 0) (.block 0 (.loop f3b0))) (.seq (.seq (.ops f3r12 0) (.cond (.t 65) (.seq (.ops f3r13 0) .ret) .skip)) (.seq (.ops f3r14 0) (.seq (.ops f3r15 0) .ret)))))))))
def f3 : SFn := ⟨94, f3c, [.t 2]⟩

/- sixdot/sixdotlaw34.BindInserted -/
def f4r0 : List SOper := [
⟨0, some 2, .p (.mv (.c (.one (.bool false)))), none, none, [], false⟩]
def f4r1 : List SOper := [
⟨0, some 10, .cf 5 [], none, none, [], false⟩,
⟨1, some 3, .p (.mv (.t 10)), none, none, [], false⟩]
def f4r2 : List SOper := [
⟨0, some 11, .a (.bslice 2 0 [(.int .i64 0), (.int .i64 0)] []), none, none, [], false⟩,
⟨1, some 4, .p (.mv (.t 11)), none, none, [], false⟩]
def f4r3 : List SOper := [
⟨0, some 5, .p (.mv (.c (.one (.int .i64 (-1))))), none, none, [], false⟩]
def f4r4 : List SOper := [
⟨0, some 6, .p (.mv (.c (.one (.int .i64 0)))), none, none, [], false⟩]
def f4r5 : List SOper := [
⟨0, some 12, .p (.mv (.t 6)), none, none, [], false⟩,
⟨1, some 13, .p (.mv (.t 0)), none, none, [], false⟩,
⟨2, some 14, .p (.len (.t 13)), none, none, [], false⟩,
⟨3, some 15, .p (.bin .lss (.t 12) (.t 14)), none, none, [], false⟩,
⟨4, some 16, .p (.mv (.t 15)), none, none, [], false⟩,
⟨5, some 17, .p (.mv (.t 6)), (some (16, true)), none, [], false⟩,
⟨6, some 18, .p (.bin .lss (.t 17) (.c (.one (.int .i64 5)))), (some (16, true)), none, [], false⟩,
⟨7, some 19, .p (.pick (.t 16) (.t 18) (.c (.one (.bool false)))), none, none, [], false⟩]
def f4r6 : List SOper := [
⟨0, some 7, .p (.mv (.c (.one (.int .i64 0)))), none, none, [], false⟩]
def f4r7 : List SOper := [
⟨0, some 22, .p (.mv (.t 7)), none, none, [], false⟩,
⟨1, some 23, .p (.mv (.t 0)), none, none, [], false⟩,
⟨2, some 24, .p (.mv (.t 6)), none, none, [], false⟩,
⟨3, some 25, .p (.iaddr 1 (.t 23) (.t 24)), none, none, [], false⟩,
⟨4, some 26, .l (.load false 1 (.t 25)), none, none, [], false⟩,
⟨5, some 27, .p (.bin .rem (.t 26) (.c (.one (.int .u8 4)))), none, none, [], false⟩,
⟨6, some 28, .p (.conv .i64 (.t 27)), none, none, [], false⟩,
⟨7, some 29, .p (.bin .leq (.t 22) (.t 28)), none, none, [], false⟩]
def f4r8 : List SOper := [
⟨0, some 32, .p (.mv (.t 7)), none, none, [], false⟩,
⟨1, some 33, .p (.bin .eql (.t 32) (.c (.one (.int .i64 3)))), none, none, [], false⟩,
⟨2, some 34, .p (.mv (.t 33)), none, none, [], false⟩,
⟨3, some 35, .p (.mv (.t 5)), (some (34, true)), none, [], false⟩,
⟨4, some 36, .p (.bin .lss (.t 35) (.c (.one (.int .i64 0)))), (some (34, true)), none, [], false⟩,
⟨5, some 37, .p (.pick (.t 34) (.t 36) (.c (.one (.bool false)))), none, none, [], false⟩]
def f4r9 : List SOper := [
⟨0, some 38, .p (.mv (.t 4)), none, none, [], false⟩,
⟨1, some 39, .p (.len (.t 38)), none, none, [], false⟩,
⟨2, some 5, .p (.mv (.t 39)), none, none, [], false⟩]
def f4r10 : List SOper := [
⟨0, some 40, .p (.mv (.t 4)), none, none, [], false⟩,
⟨1, some 41, .p (.mv (.t 6)), none, none, [], false⟩,
⟨2, some 42, .p (.bin .add (.t 41) (.c (.one (.int .i64 1)))), none, none, [], false⟩,
⟨3, some 43, .p (.mv (.t 7)), none, none, [], false⟩,
⟨4, some 44, .p (.build [(.int .i64 0), (.int .i64 0)] [(0, 1, (.t 42)), (1, 1, (.t 43))]), none, none, [], false⟩,
⟨5, some 45, .a (.bslice 2 1 [(.int .i64 0), (.int .i64 0)] [(0, 2, (.t 44))]), none, none, [], false⟩,
⟨6, some 46, .e (.append 2 16 (.t 40) (.t 45)), none, none, [], false⟩,
⟨7, some 4, .p (.mv (.t 46)), none, none, [], false⟩]
def f4r11 : List SOper := [
⟨0, some 30, .p (.mv (.t 7)), none, none, [], false⟩,
⟨1, some 31, .p (.bin .add (.t 30) (.c (.one (.int .i64 1)))), none, none, [], false⟩,
⟨2, some 7, .p (.mv (.t 31)), none, none, [], false⟩]
def f4b0 : SC := (.seq (.seq (.ops f4r7 0) (.cond (.t 29) .skip (.exit 2))) (.seq (.block 3 (.seq (.seq (.ops f4r8 0) (.cond (.t 37) (.ops f4r9 0) .skip)) (.ops f4r10 0))) (.ops f4r11 0)))
def f4r12 : List SOper := [
⟨0, some 20, .p (.mv (.t 6)), none, none, [], false⟩,
⟨1, some 21, .p (.bin .add (.t 20) (.c (.one (.int .i64 1)))), none, none, [], false⟩,
⟨2, some 6, .p (.mv (.t 21)), none, none, [], false⟩]
def f4b1 : SC := (.seq (.seq (.ops f4r5 0) (.cond (.t 19) .skip (.exit 0))) (.seq (.block 1 (.seq (.ops f4r6 0) (.block 2 (.loop f4b0)))) (.ops f4r12 0)))
def f4r13 : List SOper := [
⟨0, some 48, .p (.mv (.t 4)), none, none, [], false⟩,
⟨1, some 49, .cf 8 [], none, none, [], false⟩,
⟨2, some 50, .cf 6 [(.t 48), (.t 49)], none, none, [], false⟩,
⟨3, some 51, .cf 9 [(.t 50)], none, none, [], false⟩,
⟨4, some 47, .p (.mv (.t 51)), none, none, [], false⟩,
⟨5, some 52, .p (.extract (.t 47) 0), none, none, [], false⟩,
⟨6, some 53, .p (.extract (.t 47) 1), none, none, [], false⟩,
⟨7, some 8, .p (.mv (.t 52)), none, none, [], false⟩,
⟨8, some 9, .p (.mv (.t 53)), none, none, [], false⟩]
def f4r14 : List SOper := [
⟨0, some 54, .p (.mv (.t 4)), none, none, [], false⟩,
⟨1, some 55, .p (.len (.t 54)), none, none, [], false⟩,
⟨2, some 56, .p (.bin .eql (.t 55) (.c (.one (.int .i64 0)))), none, none, [], false⟩]
def f4r15 : List SOper := [
⟨0, some 57, .p (.mv (.t 3)), none, none, [], false⟩,
⟨1, some 58, .p (.mv (.t 57)), none, none, [], false⟩,
⟨2, some 59, .p (.mv (.t 9)), (some (58, true)), none, [], false⟩,
⟨3, some 60, .p (.bin .eql (.t 59) (.c (.one (.int .i64 340)))), (some (58, true)), none, [], false⟩,
⟨4, some 61, .p (.pick (.t 58) (.t 60) (.c (.one (.bool false)))), none, none, [], false⟩,
⟨5, some 2, .p (.mv (.t 61)), none, none, [], false⟩]
def f4r16 : List SOper := [
⟨0, some 62, .p (.mv (.t 5)), none, none, [], false⟩,
⟨1, some 63, .p (.bin .lss (.t 62) (.c (.one (.int .i64 0)))), none, none, [], false⟩]
def f4r17 : List SOper := [
⟨0, some 64, .p (.mv (.t 3)), none, none, [], false⟩,
⟨1, some 65, .p (.mv (.t 64)), none, none, [], false⟩,
⟨2, some 66, .p (.mv (.t 9)), (some (65, true)), none, [], false⟩,
⟨3, some 67, .p (.bin .eql (.t 66) (.c (.one (.int .i64 0)))), (some (65, true)), none, [], false⟩,
⟨4, some 68, .p (.pick (.t 65) (.t 67) (.c (.one (.bool false)))), none, none, [], false⟩,
⟨5, some 69, .p (.mv (.t 68)), none, none, [], false⟩,
⟨6, some 70, .p (.mv (.t 8)), (some (69, true)), none, [], false⟩,
⟨7, some 71, .p (.mv (.t 4)), (some (69, true)), none, [], false⟩,
⟨8, some 72, .p (.len (.t 71)), (some (69, true)), none, [], false⟩,
⟨9, some 73, .p (.bin .eql (.t 70) (.t 72)), (some (69, true)), none, [], false⟩,
⟨10, some 74, .p (.pick (.t 69) (.t 73) (.c (.one (.bool false)))), none, none, [], false⟩,
⟨11, some 2, .p (.mv (.t 74)), none, none, [], false⟩]
def f4r18 : List SOper := [
⟨0, some 75, .p (.mv (.t 3)), none, none, [], false⟩,
⟨1, some 76, .p (.mv (.t 75)), none, none, [], false⟩,
⟨2, some 77, .p (.mv (.t 9)), (some (76, true)), none, [], false⟩,
⟨3, some 78, .p (.bin .eql (.t 77) (.c (.one (.int .i64 250)))), (some (76, true)), none, [], false⟩,
⟨4, some 79, .p (.pick (.t 76) (.t 78) (.c (.one (.bool false)))), none, none, [], false⟩,
⟨5, some 80, .p (.mv (.t 79)), none, none, [], false⟩,
⟨6, some 81, .p (.mv (.t 8)), (some (80, true)), none, [], false⟩,
⟨7, some 82, .p (.mv (.t 5)), (some (80, true)), none, [], false⟩,
⟨8, some 83, .p (.bin .eql (.t 81) (.t 82)), (some (80, true)), none, [], false⟩,
⟨9, some 84, .p (.pick (.t 80) (.t 83) (.c (.one (.bool false)))), none, none, [], false⟩,
⟨10, some 2, .p (.mv (.t 84)), none, none, [], false⟩]
def f4c : SC := (.seq (.ops f4r0 0) (.seq (.ops f4r1 0) (.seq (.ops f4r2 0) (.seq (.ops f4r3 0) (.seq (.seq (.ops f4r4 0) (.block 0 (.loop f4b1))) (.seq (.ops f4r13 0) (.seq (.seq (.ops f4r14 0) (.cond (.t 56) (.seq (.ops f4r15 0) .ret) .skip)) (.seq (.seq (.ops f4r16 0) (.cond (.t 63) (.seq (.ops f4r17 0) .ret) .skip)) (.seq (.ops f4r18 0) .ret)))))))))
def f4 : SFn := ⟨85, f4c, [.t 2]⟩

/- sixdot/sixdotlaw34.sanity -/
def f5r0 : List SOper := [
⟨0, some 0, .p (.mv (.c (.one (.bool false)))), none, none, [], false⟩]
def f5r1 : List SOper := [
⟨0, some 12, .p (.build [(.int .i64 0), (.int .i64 0)] [(0, 1, (.c (.one (.int .i64 1))))]), none, none, [], false⟩,
⟨1, some 13, .p (.build [(.int .i64 0), (.int .i64 0)] [(0, 1, (.c (.one (.int .i64 2))))]), none, none, [], false⟩,
⟨2, some 14, .p (.build [(.int .i64 0), (.int .i64 0)] [(0, 1, (.c (.one (.int .i64 2)))), (1, 1, (.c (.one (.int .i64 1))))]), none, none, [], false⟩,
⟨3, some 15, .p (.build [(.int .i64 0), (.int .i64 0)] [(0, 1, (.c (.one (.int .i64 3))))]), none, none, [], false⟩,
⟨4, some 16, .a (.bslice 2 4 [(.int .i64 0), (.int .i64 0)] [(0, 2, (.t 12)), (2, 2, (.t 13)), (4, 2, (.t 14)), (6, 2, (.t 15))]), none, none, [], false⟩,
⟨5, some 17, .cf 8 [], none, none, [], false⟩,
⟨6, some 18, .cf 6 [(.t 16), (.t 17)], none, none, [], false⟩,
⟨7, some 19, .cf 9 [(.t 18)], none, none, [], false⟩,
⟨8, some 11, .p (.mv (.t 19)), none, none, [], false⟩,
⟨9, some 20, .p (.extract (.t 11) 0), none, none, [], false⟩,
⟨10, some 21, .p (.extract (.t 11) 1), none, none, [], false⟩,
⟨11, some 1, .p (.mv (.t 20)), none, none, [], false⟩,
⟨12, some 2, .p (.mv (.t 21)), none, none, [], false⟩]
def f5r2 : List SOper := [
⟨0, some 23, .p (.build [(.int .i64 0), (.int .i64 0)] [(0, 1, (.c (.one (.int .i64 1))))]), none, none, [], false⟩,
⟨1, some 24, .p (.build [(.int .i64 0), (.int .i64 0)] [(0, 1, (.c (.one (.int .i64 3))))]), none, none, [], false⟩,
⟨2, some 25, .a (.bslice 2 2 [(.int .i64 0), (.int .i64 0)] [(0, 2, (.t 23)), (2, 2, (.t 24))]), none, none, [], false⟩,
⟨3, some 26, .cf 8 [], none, none, [], false⟩,
⟨4, some 27, .cf 6 [(.t 25), (.t 26)], none, none, [], false⟩,
⟨5, some 28, .cf 9 [(.t 27)], none, none, [], false⟩,
⟨6, some 22, .p (.mv (.t 28)), none, none, [], false⟩,
⟨7, some 29, .p (.extract (.t 22) 0), none, none, [], false⟩,
⟨8, some 30, .p (.extract (.t 22) 1), none, none, [], false⟩,
⟨9, some 3, .p (.mv (.t 29)), none, none, [], false⟩,
⟨10, some 4, .p (.mv (.t 30)), none, none, [], false⟩]
def f5r3 : List SOper := [
⟨0, some 32, .p (.build [(.int .i64 0), (.int .i64 0)] [(0, 1, (.c (.one (.int .i64 2))))]), none, none, [], false⟩,
⟨1, some 33, .a (.bslice 2 1 [(.int .i64 0), (.int .i64 0)] [(0, 2, (.t 32))]), none, none, [], false⟩,
⟨2, some 34, .cf 8 [], none, none, [], false⟩,
⟨3, some 35, .cf 6 [(.t 33), (.t 34)], none, none, [], false⟩,
⟨4, some 36, .cf 9 [(.t 35)], none, none, [], false⟩,
⟨5, some 31, .p (.mv (.t 36)), none, none, [], false⟩,
⟨6, some 37, .p (.extract (.t 31) 0), none, none, [], false⟩,
⟨7, some 38, .p (.extract (.t 31) 1), none, none, [], false⟩,
⟨8, some 5, .p (.mv (.t 37)), none, none, [], false⟩,
⟨9, some 6, .p (.mv (.t 38)), none, none, [], false⟩]
def f5r4 : List SOper := [
⟨0, some 40, .cf 9 [(.c (.one .nils))], none, none, [], false⟩,
⟨1, some 39, .p (.mv (.t 40)), none, none, [], false⟩,
⟨2, some 41, .p (.extract (.t 39) 0), none, none, [], false⟩,
⟨3, some 42, .p (.extract (.t 39) 1), none, none, [], false⟩,
⟨4, some 7, .p (.mv (.t 41)), none, none, [], false⟩,
⟨5, some 8, .p (.mv (.t 42)), none, none, [], false⟩]
def f5r5 : List SOper := [
⟨0, some 44, .p (.build [(.int .i64 0), (.int .i64 0)] [(0, 1, (.c (.one (.int .i64 1))))]), none, none, [], false⟩,
⟨2, some 46, .cf 8 [], none, none, [], false⟩,
⟨1, some 45, .a (.bslice 2 1 [(.int .i64 0), (.int .i64 0)] [(0, 2, (.t 44))]), none, (some 1), [], false⟩,
⟨3, some 47, .cf 6 [(.t 45), (.t 46)], none, none, [], false⟩,
⟨4, some 48, .p (.iaddr 4 (.t 47) (.c (.one (.int .i64 0)))), none, none, [], false⟩,
⟨5, some 49, .l (.load true 4 (.t 48)), none, none, [], true⟩,
⟨6, some 50, .cf 10 [(.c (.one (.int .i64 48))), (.c (.one (.int .i64 12)))], none, none, [5], false⟩,
⟨7, some 51, .a (.bslice 4 2 [(.int .i64 0), (.int .i64 0), .nils, .nils] [(0, 4, (.t 49)), (4, 4, (.t 50))]), none, (some 7), [], false⟩,
⟨8, some 52, .cf 9 [(.t 51)], none, none, [], false⟩,
⟨9, some 43, .p (.mv (.t 52)), none, none, [], false⟩,
⟨10, some 53, .p (.extract (.t 43) 0), none, none, [], false⟩,
⟨11, some 54, .p (.extract (.t 43) 1), none, none, [], false⟩,
⟨12, some 9, .p (.mv (.t 53)), none, none, [], false⟩,
⟨13, some 10, .p (.mv (.t 54)), none, none, [], false⟩]
def f5r6 : List SOper := [
⟨0, some 55, .p (.mv (.t 2)), none, none, [], false⟩,
⟨1, some 56, .p (.bin .eql (.t 55) (.c (.one (.int .i64 0)))), none, none, [], false⟩,
⟨2, some 57, .p (.mv (.t 56)), none, none, [], false⟩,
⟨3, some 58, .p (.mv (.t 1)), (some (57, true)), none, [], false⟩,
⟨4, some 59, .p (.bin .eql (.t 58) (.c (.one (.int .i64 4)))), (some (57, true)), none, [], false⟩,
⟨5, some 60, .p (.pick (.t 57) (.t 59) (.c (.one (.bool false)))), none, none, [], false⟩,
⟨6, some 61, .p (.mv (.t 60)), none, none, [], false⟩,
⟨7, some 62, .p (.mv (.t 4)), (some (61, true)), none, [], false⟩,
⟨8, some 63, .p (.bin .eql (.t 62) (.c (.one (.int .i64 340)))), (some (61, true)), none, [], false⟩,
⟨9, some 64, .p (.pick (.t 61) (.t 63) (.c (.one (.bool false)))), none, none, [], false⟩,
⟨10, some 65, .p (.mv (.t 64)), none, none, [], false⟩,
⟨11, some 66, .p (.mv (.t 3)), (some (65, true)), none, [], false⟩,
⟨12, some 67, .p (.bin .eql (.t 66) (.c (.one (.int .i64 1)))), (some (65, true)), none, [], false⟩,
⟨13, some 68, .p (.pick (.t 65) (.t 67) (.c (.one (.bool false)))), none, none, [], false⟩,
⟨14, some 69, .p (.mv (.t 68)), none, none, [], false⟩,
⟨15, some 70, .p (.mv (.t 6)), (some (69, true)), none, [], false⟩,
⟨16, some 71, .p (.bin .eql (.t 70) (.c (.one (.int .i64 340)))), (some (69, true)), none, [], false⟩,
⟨17, some 72, .p (.pick (.t 69) (.t 71) (.c (.one (.bool false)))), none, none, [], false⟩,
⟨18, some 73, .p (.mv (.t 72)), none, none, [], false⟩,
⟨19, some 74, .p (.mv (.t 5)), (some (73, true)), none, [], false⟩,
⟨20, some 75, .p (.bin .eql (.t 74) (.c (.one (.int .i64 0)))), (some (73, true)), none, [], false⟩,
⟨21, some 76, .p (.pick (.t 73) (.t 75) (.c (.one (.bool false)))), none, none, [], false⟩,
⟨22, some 77, .p (.mv (.t 76)), none, none, [], false⟩,
⟨23, some 78, .p (.mv (.t 8)), (some (77, true)), none, [], false⟩,
⟨24, some 79, .p (.bin .eql (.t 78) (.c (.one (.int .i64 340)))), (some (77, true)), none, [], false⟩,
⟨25, some 80, .p (.pick (.t 77) (.t 79) (.c (.one (.bool false)))), none, none, [], false⟩,
⟨26, some 81, .p (.mv (.t 80)), none, none, [], false⟩,
⟨27, some 82, .p (.mv (.t 7)), (some (81, true)), none, [], false⟩,
⟨28, some 83, .p (.bin .eql (.t 82) (.c (.one (.int .i64 0)))), (some (81, true)), none, [], false⟩,
⟨29, some 84, .p (.pick (.t 81) (.t 83) (.c (.one (.bool false)))), none, none, [], false⟩,
⟨30, some 85, .p (.mv (.t 84)), none, none, [], false⟩,
⟨31, some 86, .p (.mv (.t 10)), (some (85, true)), none, [], false⟩,
⟨32, some 87, .p (.bin .eql (.t 86) (.c (.one (.int .i64 250)))), (some (85, true)), none, [], false⟩,
⟨33, some 88, .p (.pick (.t 85) (.t 87) (.c (.one (.bool false)))), none, none, [], false⟩,
⟨34, some 89, .p (.mv (.t 88)), none, none, [], false⟩,
⟨35, some 90, .p (.mv (.t 9)), (some (89, true)), none, [], false⟩,
⟨36, some 91, .p (.bin .eql (.t 90) (.c (.one (.int .i64 1)))), (some (89, true)), none, [], false⟩,
⟨37, some 92, .p (.pick (.t 89) (.t 91) (.c (.one (.bool false)))), none, none, [], false⟩,
⟨38, some 0, .p (.mv (.t 92)), none, none, [], false⟩]
def f5c : SC := (.seq (.ops f5r0 0) (.seq (.ops f5r1 0) (.seq (.ops f5r2 0) (.seq (.ops f5r3 0) (.seq (.ops f5r4 0) (.seq (.ops f5r5 14) (.seq (.ops f5r6 0) .ret)))))))
def f5 : SFn := ⟨93, f5c, [.t 0]⟩

/- sixdot/sixdotref34.Labelled -/
def f6r0 : List SOper := [
⟨0, some 3, .a (.box (.t 1)), none, none, [], false⟩,
⟨1, some 4, .p (.mv (.c (.one .nils))), none, none, [], false⟩]
def f6r1 : List SOper := [
⟨0, some 12, .a (.bslice 4 0 [(.int .i64 0), (.int .i64 0), .nils, .nils] []), none, none, [], false⟩,
⟨1, some 5, .p (.mv (.t 12)), none, none, [], false⟩]
def f6r2 : List SOper := [
⟨0, some 6, .p (.mv (.c (.one (.int .i64 0)))), none, none, [], false⟩]
def f6r3 : List SOper := [
⟨0, some 13, .p (.mv (.t 6)), none, none, [], false⟩,
⟨1, some 14, .p (.mv (.t 0)), none, none, [], false⟩,
⟨2, some 15, .p (.len (.t 14)), none, none, [], false⟩,
⟨3, some 16, .p (.bin .lss (.t 13) (.t 15)), none, none, [], false⟩]
def f6r4 : List SOper := [
⟨0, some 19, .p (.faddr 0 (.t 3)), none, none, [], false⟩,
⟨1, some 20, .l (.load false 1 (.t 19)), none, none, [], false⟩,
⟨2, some 21, .p (.mv (.t 0)), none, none, [], false⟩,
⟨3, some 22, .p (.mv (.t 6)), none, none, [], false⟩,
⟨4, some 23, .p (.iaddr 2 (.t 21) (.t 22)), none, none, [], false⟩,
⟨5, some 24, .l (.load true 2 (.t 23)), none, none, [], false⟩,
⟨6, some 25, .p (.build [(.int .i64 0), (.int .i64 0), (.int .i64 0), (.bool false), (.int .i64 0), (.int .i64 0)] [(0, 1, (.t 20)), (1, 2, (.t 24))]), none, none, [], false⟩,
⟨7, some 7, .a (.alloc [(.int .i64 0), (.int .i64 0), (.int .i64 0), (.bool false), (.int .i64 0), (.int .i64 0)]), none, (some 7), [], false⟩,
⟨8, none, .e (.store 6 (.t 7) (.t 25)), none, none, [], false⟩]
def f6r5 : List SOper := [
⟨0, some 27, .l (.load true 6 (.t 7)), none, none, [], false⟩,
⟨1, some 28, .cf 11 [(.t 27)], none, none, [], false⟩,
⟨2, some 26, .p (.mv (.t 28)), none, none, [], false⟩,
⟨3, some 29, .p (.extract (.t 26) 0), none, none, [], false⟩,
⟨4, some 30, .p (.extract (.t 26) 1), none, none, [], false⟩,
⟨5, some 8, .p (.mv (.t 29)), none, none, [], false⟩,
⟨6, some 9, .p (.mv (.t 30)), none, none, [], false⟩]
def f6r6 : List SOper := [
⟨0, some 31, .p (.mv (.t 9)), none, none, [], false⟩,
⟨1, some 32, .p (.bin .neq (.t 31) (.c (.one (.int .i64 0)))), none, none, [], false⟩]
def f6r7 : List SOper := [
⟨0, some 33, .p (.mv (.t 5)), none, none, [], false⟩,
⟨1, some 34, .p (.faddr 0 (.t 3)), none, none, [], false⟩,
⟨2, some 35, .l (.load false 1 (.t 34)), none, none, [], false⟩,
⟨3, some 36, .p (.bin .mul (.c (.one (.int .i64 2))) (.t 35)), none, none, [], false⟩,
⟨4, some 37, .p (.faddr 1 (.t 3)), none, none, [], false⟩,
⟨5, some 38, .l (.load false 1 (.t 37)), none, none, [], false⟩,
⟨6, some 39, .p (.bin .mul (.c (.one (.int .i64 3))) (.t 38)), none, none, [], false⟩,
⟨7, some 40, .cf 10 [(.t 36), (.t 39)], none, none, [], false⟩,
⟨8, some 41, .a (.bslice 4 1 [(.int .i64 0), (.int .i64 0), .nils, .nils] [(0, 4, (.t 40))]), none, none, [], false⟩,
⟨9, some 42, .e (.append 4 64 (.t 33) (.t 41)), none, none, [], false⟩,
⟨10, some 5, .p (.mv (.t 42)), none, none, [], false⟩]
def f6r8 : List SOper := [
⟨0, some 44, .p (.mv (.t 8)), none, none, [], false⟩,
⟨1, some 45, .a (.bslice 1 1 [.nils] [(0, 1, (.t 44))]), none, none, [], false⟩,
⟨2, some 46, .p (.build [(.int .i64 0), (.int .i64 0), .nils, .nils] [(2, 1, (.t 45))]), none, none, [], false⟩,
⟨3, some 47, .l (.load true 3 (.t 3)), none, none, [], false⟩,
⟨4, some 48, .cf 12 [(.t 46), (.t 47)], none, none, [], false⟩,
⟨5, some 43, .p (.mv (.t 48)), none, none, [], false⟩,
⟨6, some 49, .p (.extract (.t 43) 0), none, none, [], false⟩,
⟨7, some 50, .p (.extract (.t 43) 1), none, none, [], false⟩,
⟨8, some 10, .a (.alloc [(.int .i64 0), (.int .i64 0), .nils, .nils]), none, none, [], false⟩,
⟨9, none, .e (.store 4 (.t 10) (.t 49)), none, none, [], false⟩,
⟨10, some 11, .p (.mv (.t 50)), none, none, [], false⟩]
def f6r9 : List SOper := [
⟨0, some 51, .p (.mv (.t 5)), none, none, [], false⟩,
⟨1, some 52, .l (.load true 4 (.t 10)), none, none, [], false⟩,
⟨2, some 53, .a (.bslice 4 1 [(.int .i64 0), (.int .i64 0), .nils, .nils] [(0, 4, (.t 52))]), none, none, [], false⟩,
⟨3, some 54, .e (.append 4 64 (.t 51) (.t 53)), none, none, [], false⟩,
⟨4, some 5, .p (.mv (.t 54)), none, none, [], false⟩]
def f6r10 : List SOper := [
⟨0, some 17, .p (.mv (.t 6)), none, none, [], false⟩,
⟨1, some 18, .p (.bin .add (.t 17) (.c (.one (.int .i64 1)))), none, none, [], false⟩,
⟨2, some 6, .p (.mv (.t 18)), none, none, [], false⟩]
def f6b0 : SC := (.seq (.seq (.ops f6r3 0) (.cond (.t 16) .skip (.exit 0))) (.seq (.block 1 (.seq (.ops f6r4 9) (.seq (.ops f6r5 0) (.seq (.seq (.ops f6r6 0) (.cond (.t 32) (.seq (.ops f6r7 0) (.exit 1)) .skip)) (.seq (.ops f6r8 0) (.ops f6r9 0)))))) (.ops f6r10 0)))
def f6r11 : List SOper := [
⟨0, some 55, .p (.mv (.t 5)), none, none, [], false⟩,
⟨1, some 4, .p (.mv (.t 55)), none, none, [], false⟩]
def f6c : SC := (.seq (.ops f6r0 0) (.seq (.ops f6r1 0) (.seq (.seq (.ops f6r2 0) (.block 0 (.loop f6b0))) (.seq (.ops f6r11 0) .ret))))
def f6 : SFn := ⟨56, f6c, [.t 4]⟩

/- sixdot/sixdotlaw34.labels -/
def f7r0 : List SOper := [
⟨0, some 2, .p (.mv (.c (.one .nils))), none, none, [], false⟩]
def f7r1 : List SOper := [
⟨0, some 6, .a (.bslice 2 0 [(.int .i64 0), (.int .i64 0)] []), none, none, [], false⟩,
⟨1, some 3, .p (.mv (.t 6)), none, none, [], false⟩]
def f7r2 : List SOper := [
⟨0, some 7, .p (.build [(.int .i64 0), (.int .i64 0)] []), none, none, [], false⟩,
⟨1, some 4, .a (.alloc [(.int .i64 0), (.int .i64 0)]), none, none, [], false⟩,
⟨2, none, .e (.store 2 (.t 4) (.t 7)), none, none, [], false⟩]
def f7r3 : List SOper := [
⟨0, some 5, .p (.mv (.c (.one (.int .i64 0)))), none, none, [], false⟩]
def f7r4 : List SOper := [
⟨0, some 8, .p (.mv (.t 5)), none, none, [], false⟩,
⟨1, some 9, .p (.mv (.t 0)), none, none, [], false⟩,
⟨2, some 10, .p (.len (.t 9)), none, none, [], false⟩,
⟨3, some 11, .p (.bin .lss (.t 8) (.t 10)), none, none, [], false⟩,
⟨4, some 12, .p (.mv (.t 11)), none, none, [], false⟩,
⟨5, some 13, .p (.mv (.t 5)), (some (12, true)), none, [], false⟩,
⟨6, some 14, .p (.bin .lss (.t 13) (.c (.one (.int .i64 8)))), (some (12, true)), none, [], false⟩,
⟨7, some 15, .p (.pick (.t 12) (.t 14) (.c (.one (.bool false)))), none, none, [], false⟩]
def f7r5 : List SOper := [
⟨0, some 18, .p (.mv (.t 0)), none, none, [], false⟩,
⟨1, some 19, .p (.mv (.t 5)), none, none, [], false⟩,
⟨2, some 20, .p (.iaddr 2 (.t 18) (.t 19)), none, none, [], false⟩,
⟨3, some 21, .p (.faddr 0 (.t 20)), none, none, [], false⟩,
⟨4, some 22, .l (.load false 1 (.t 21)), none, none, [], false⟩,
⟨5, some 23, .p (.bin .rem (.t 22) (.c (.one (.int .u8 8)))), none, none, [], false⟩]
def f7r6 : List SOper := [
⟨0, some 25, .p (.bin .eql (.t 23) (.c (.one (.int .u8 0)))), none, none, [], false⟩,
⟨1, some 24, .p (.mv (.t 25)), none, none, [], false⟩]
def f7r7 : List SOper := [
⟨0, some 26, .p (.bin .eql (.t 23) (.c (.one (.int .u8 1)))), none, none, [], false⟩,
⟨1, some 24, .p (.mv (.t 26)), none, none, [], false⟩]
def f7r8 : List SOper := [
⟨0, some 27, .p (.bin .eql (.t 23) (.c (.one (.int .u8 2)))), none, none, [], false⟩,
⟨1, some 24, .p (.mv (.t 27)), none, none, [], false⟩]
def f7r9 : List SOper := [
⟨0, some 28, .p (.bin .eql (.t 23) (.c (.one (.int .u8 3)))), none, none, [], false⟩,
⟨1, some 24, .p (.mv (.t 28)), none, none, [], false⟩]
def f7r10 : List SOper := [
⟨0, some 29, .p (.faddr 0 (.t 4)), none, none, [], false⟩,
⟨1, some 30, .l (.load false 1 (.t 29)), none, none, [], false⟩,
⟨2, some 31, .p (.bin .add (.t 30) (.c (.one (.int .i64 1)))), none, none, [], false⟩,
⟨3, some 32, .p (.build [(.int .i64 0), (.int .i64 0)] [(0, 1, (.t 31))]), none, none, [], false⟩,
⟨4, none, .e (.store 2 (.t 4) (.t 32)), none, none, [], false⟩]
def f7r11 : List SOper := [
⟨0, some 34, .p (.bin .eql (.t 23) (.c (.one (.int .u8 4)))), none, none, [], false⟩,
⟨1, some 33, .p (.mv (.t 34)), none, none, [], false⟩]
def f7r12 : List SOper := [
⟨0, some 35, .p (.bin .eql (.t 23) (.c (.one (.int .u8 5)))), none, none, [], false⟩,
⟨1, some 33, .p (.mv (.t 35)), none, none, [], false⟩]
def f7r13 : List SOper := [
⟨0, some 36, .p (.faddr 1 (.t 4)), none, none, [], false⟩,
⟨1, some 37, .l (.load false 1 (.t 36)), none, none, [], false⟩,
⟨2, some 38, .p (.bin .add (.t 37) (.c (.one (.int .i64 1)))), none, none, [], false⟩,
⟨3, some 39, .p (.faddr 1 (.t 4)), none, none, [], false⟩,
⟨4, none, .e (.store 1 (.t 39) (.t 38)), none, none, [], false⟩]
def f7r14 : List SOper := [
⟨0, some 41, .p (.bin .eql (.t 23) (.c (.one (.int .u8 6)))), none, none, [], false⟩,
⟨1, some 40, .p (.mv (.t 41)), none, none, [], false⟩]
def f7r15 : List SOper := [
⟨0, some 42, .p (.mv (.t 0)), none, none, [], false⟩,
⟨1, some 43, .p (.mv (.t 5)), none, none, [], false⟩,
⟨2, some 44, .p (.iaddr 2 (.t 42) (.t 43)), none, none, [], false⟩,
⟨3, some 45, .p (.faddr 1 (.t 44)), none, none, [], false⟩,
⟨4, some 46, .l (.load false 1 (.t 45)), none, none, [], false⟩,
⟨5, some 47, .p (.bin .rem (.t 46) (.c (.one (.int .u8 5)))), none, none, [], false⟩,
⟨6, some 48, .p (.conv .i64 (.t 47)), none, none, [], false⟩,
⟨7, some 49, .p (.bin .add (.c (.one (.int .i64 1))) (.t 48)), none, none, [], false⟩,
⟨8, some 50, .p (.mv (.t 0)), none, none, [], false⟩,
⟨9, some 51, .p (.mv (.t 5)), none, none, [], false⟩,
⟨10, some 52, .p (.iaddr 2 (.t 50) (.t 51)), none, none, [], false⟩,
⟨11, some 53, .p (.faddr 1 (.t 52)), none, none, [], false⟩,
⟨12, some 54, .l (.load false 1 (.t 53)), none, none, [], false⟩,
⟨13, some 55, .p (.bin .quo (.t 54) (.c (.one (.int .u8 5)))), none, none, [], false⟩,
⟨14, some 56, .p (.bin .rem (.t 55) (.c (.one (.int .u8 3)))), none, none, [], false⟩,
⟨15, some 57, .p (.conv .i64 (.t 56)), none, none, [], false⟩,
⟨16, some 58, .p (.build [(.int .i64 0), (.int .i64 0)] [(0, 1, (.t 49)), (1, 1, (.t 57))]), none, none, [], false⟩,
⟨17, none, .e (.store 2 (.t 4) (.t 58)), none, none, [], false⟩]
def f7r16 : List SOper := [
⟨0, some 59, .p (.mv (.t 3)), none, none, [], false⟩,
⟨1, some 60, .l (.load true 2 (.t 4)), none, none, [], false⟩,
⟨2, some 61, .a (.bslice 2 1 [(.int .i64 0), (.int .i64 0)] [(0, 2, (.t 60))]), none, none, [], false⟩,
⟨3, some 62, .e (.append 2 16 (.t 59) (.t 61)), none, none, [], false⟩,
⟨4, some 3, .p (.mv (.t 62)), none, none, [], false⟩]
def f7r17 : List SOper := [
⟨0, some 16, .p (.mv (.t 5)), none, none, [], false⟩,
⟨1, some 17, .p (.bin .add (.t 16) (.c (.one (.int .i64 1)))), none, none, [], false⟩,
⟨2, some 5, .p (.mv (.t 17)), none, none, [], false⟩]
def f7b0 : SC := (.seq (.seq (.ops f7r4 0) (.cond (.t 15) .skip (.exit 0))) (.seq (.block 1 (.seq (.seq (.ops f7r5 0) (.block 2 (.seq (.seq (.ops f7r6 0) (.cond (.t 24) .skip (.seq (.ops f7r7 0) (.cond (.t 24) .skip (.seq (.ops f7r8 0) (.cond (.t 24) .skip (.ops f7r9 0))))))) (.cond (.t 24) (.ops f7r10 0) (.seq (.seq (.ops f7r11 0) (.cond (.t 33) .skip (.ops f7r12 0))) (.cond (.t 33) (.ops f7r13 0) (.seq (.ops f7r14 0) (.cond (.t 40) (.ops f7r15 18) .skip)))))))) (.ops f7r16 0))) (.ops f7r17 0)))
def f7r18 : List SOper := [
⟨0, some 63, .p (.mv (.t 3)), none, none, [], false⟩,
⟨1, some 2, .p (.mv (.t 63)), none, none, [], false⟩]
def f7c : SC := (.seq (.ops f7r0 0) (.seq (.ops f7r1 0) (.seq (.ops f7r2 0) (.seq (.seq (.ops f7r3 0) (.block 0 (.loop f7b0))) (.seq (.ops f7r18 0) .ret)))))
def f7 : SFn := ⟨64, f7c, [.t 2]⟩

/- sixdot/sixdotlaw34.format -/
def f8r0 : List SOper := [
⟨0, some 0, .a (.alloc [(.int .i64 0), (.int .i64 0), (.int .i64 0)]), none, none, [], false⟩]
def f8r1 : List SOper := [
⟨0, some 1, .p (.build [(.int .i64 0), (.int .i64 0), (.int .i64 0)] [(0, 1, (.c (.one (.int .i64 24)))), (1, 1, (.c (.one (.int .i64 4)))), (2, 1, (.c (.one (.int .i64 9))))]), none, none, [], false⟩,
⟨1, none, .e (.store 3 (.t 0) (.t 1)), none, none, [], false⟩]
def f8c : SC := (.seq (.ops f8r0 0) (.seq (.ops f8r1 0) .ret))
def f8 : SFn := ⟨2, f8c, [.cell true 3 0]⟩

/- sixdot/bind.Check -/
def f9r0 : List SOper := [
⟨0, some 2, .p (.mv (.c (.one (.int .i64 0)))), none, none, [], false⟩,
⟨1, some 3, .p (.mv (.c (.one (.int .i64 0)))), none, none, [], false⟩]
def f9r1 : List SOper := [
⟨0, some 8, .p (.mv (.t 0)), none, none, [], false⟩,
⟨1, some 9, .cf 13 [(.t 8)], none, none, [], false⟩,
⟨2, some 7, .p (.mv (.t 9)), none, none, [], false⟩,
⟨3, some 10, .p (.extract (.t 7) 0), none, none, [], false⟩,
⟨4, some 11, .p (.extract (.t 7) 1), none, none, [], false⟩,
⟨5, some 12, .p (.extract (.t 7) 2), none, none, [], false⟩,
⟨6, some 4, .p (.mv (.t 10)), none, none, [], false⟩,
⟨7, some 5, .p (.mv (.t 11)), none, none, [], false⟩,
⟨8, some 6, .p (.mv (.t 12)), none, none, [], false⟩]
def f9r2 : List SOper := [
⟨0, some 13, .p (.mv (.t 5)), none, none, [], false⟩,
⟨1, some 14, .p (.mv (.t 6)), none, none, [], false⟩,
⟨2, some 2, .p (.mv (.t 13)), none, none, [], false⟩,
⟨3, some 3, .p (.mv (.t 14)), none, none, [], false⟩]
def f9c : SC := (.seq (.ops f9r0 0) (.seq (.ops f9r1 0) (.seq (.ops f9r2 0) .ret)))
def f9 : SFn := ⟨15, f9c, [.t 2, .t 3]⟩

/- sixdot/sixdotref25.Empty -/
def f10r0 : List SOper := [
⟨0, some 4, .a (.alloc [(.int .i64 0), (.int .i64 0), .nils, .nils]), none, none, [], false⟩]
def f10r1 : List SOper := [
⟨0, some 7, .p (.mv (.t 0)), none, none, [], false⟩,
⟨1, some 8, .p (.mv (.t 1)), none, none, [], false⟩,
⟨2, some 9, .p (.build [(.int .i64 0), (.int .i64 0), .nils, .nils] [(0, 1, (.t 7)), (1, 1, (.t 8))]), none, none, [], false⟩,
⟨3, some 5, .a (.alloc [(.int .i64 0), (.int .i64 0), .nils, .nils]), none, none, [], false⟩,
⟨4, none, .e (.store 4 (.t 5) (.t 9)), none, none, [], false⟩]
def f10r2 : List SOper := [
⟨0, some 6, .p (.mv (.c (.one (.int .i64 0)))), none, none, [], false⟩]
def f10r3 : List SOper := [
⟨0, some 10, .p (.mv (.t 6)), none, none, [], false⟩,
⟨1, some 11, .p (.mv (.t 1)), none, none, [], false⟩,
⟨2, some 12, .p (.bin .lss (.t 10) (.t 11)), none, none, [], false⟩]
def f10r4 : List SOper := [
⟨0, some 15, .p (.faddr 2 (.t 5)), none, none, [], false⟩,
⟨1, some 16, .l (.load false 1 (.t 15)), none, none, [], false⟩,
⟨2, some 17, .p (.mv (.t 0)), none, none, [], false⟩,
⟨3, some 18, .a (.mkslice 1 1 [(.bool false)] (.t 17) (.t 17)), none, (some 3), [], false⟩,
⟨4, some 19, .a (.bslice 1 1 [.nils] [(0, 1, (.t 18))]), none, (some 4), [], false⟩,
⟨5, some 20, .e (.append 1 24 (.t 16) (.t 19)), none, none, [], false⟩,
⟨6, some 21, .p (.faddr 2 (.t 5)), none, none, [], false⟩,
⟨7, none, .e (.store 1 (.t 21) (.t 20)), none, none, [], false⟩]
def f10r5 : List SOper := [
⟨0, some 22, .p (.faddr 3 (.t 5)), none, none, [], false⟩,
⟨1, some 23, .l (.load false 1 (.t 22)), none, none, [], false⟩,
⟨2, some 24, .p (.mv (.t 0)), none, none, [], false⟩,
⟨3, some 25, .a (.mkslice 1 1 [(.bool false)] (.t 24) (.t 24)), none, (some 3), [], false⟩,
⟨4, some 26, .a (.bslice 1 1 [.nils] [(0, 1, (.t 25))]), none, (some 4), [], false⟩,
⟨5, some 27, .e (.append 1 24 (.t 23) (.t 26)), none, none, [], false⟩,
⟨6, some 28, .p (.faddr 3 (.t 5)), none, none, [], false⟩,
⟨7, none, .e (.store 1 (.t 28) (.t 27)), none, none, [], false⟩]
def f10r6 : List SOper := [
⟨0, some 13, .p (.mv (.t 6)), none, none, [], false⟩,
⟨1, some 14, .p (.bin .add (.t 13) (.c (.one (.int .i64 1)))), none, none, [], false⟩,
⟨2, some 6, .p (.mv (.t 14)), none, none, [], false⟩]
def f10b0 : SC := (.seq (.seq (.ops f10r3 0) (.cond (.t 12) .skip (.exit 0))) (.seq (.block 1 (.seq (.ops f10r4 8) (.ops f10r5 8))) (.ops f10r6 0)))
def f10r7 : List SOper := [
⟨0, some 29, .l (.load true 4 (.t 5)), none, none, [], false⟩,
⟨1, none, .e (.store 4 (.t 4) (.t 29)), none, none, [], false⟩]
def f10c : SC := (.seq (.ops f10r0 0) (.seq (.ops f10r1 0) (.seq (.seq (.ops f10r2 0) (.block 0 (.loop f10b0))) (.seq (.ops f10r7 0) .ret))))
def f10 : SFn := ⟨30, f10c, [.cell true 4 4]⟩

/- sixdot/sixdotref19.Header -/
def f11r0 : List SOper := [
⟨0, some 1, .a (.box (.t 0)), none, none, [], false⟩,
⟨1, some 2, .p (.mv (.c (.one .nils))), none, none, [], false⟩,
⟨2, some 3, .p (.mv (.c (.one (.int .i64 0)))), none, none, [], false⟩]
def f11r1 : List SOper := [
⟨0, some 9, .p (.faddr 0 (.t 1)), none, none, [], false⟩,
⟨1, some 10, .l (.load false 1 (.t 9)), none, none, [], false⟩,
⟨2, some 11, .p (.bin .lss (.t 10) (.c (.one (.int .i64 24)))), none, none, [], false⟩,
⟨3, some 12, .p (.mv (.t 11)), none, none, [], false⟩,
⟨4, some 13, .p (.faddr 0 (.t 1)), (some (12, false)), none, [], false⟩,
⟨5, some 14, .l (.load false 1 (.t 13)), (some (12, false)), none, [], false⟩,
⟨6, some 15, .p (.bin .gtr (.t 14) (.c (.one (.int .i64 60)))), (some (12, false)), none, [], false⟩,
⟨7, some 16, .p (.pick (.t 12) (.c (.one (.bool true))) (.t 15)), none, none, [], false⟩]
def f11r2 : List SOper := [
⟨0, some 2, .p (.mv (.c (.one .nils))), none, none, [], false⟩,
⟨1, some 3, .p (.mv (.c (.one (.int .i64 1)))), none, none, [], false⟩]
def f11r3 : List SOper := [
⟨0, some 18, .p (.faddr 1 (.t 1)), none, none, [], false⟩,
⟨1, some 19, .l (.load true 2 (.t 18)), none, none, [], false⟩,
⟨2, some 20, .p (.faddr 3 (.t 1)), none, none, [], false⟩,
⟨3, some 21, .l (.load false 1 (.t 20)), none, none, [], false⟩,
⟨4, some 22, .cf 14 [(.t 19), (.t 21)], none, none, [], false⟩,
⟨5, some 17, .p (.mv (.t 22)), none, none, [], false⟩,
⟨6, some 23, .p (.extract (.t 17) 0), none, none, [], false⟩,
⟨7, some 24, .p (.extract (.t 17) 1), none, none, [], false⟩,
⟨8, some 4, .p (.mv (.t 23)), none, none, [], false⟩,
⟨9, some 5, .p (.mv (.t 24)), none, none, [], false⟩]
def f11r4 : List SOper := [
⟨0, some 25, .a (.bslice 1 0 [(.int .u8 0)] []), none, none, [], false⟩,
⟨1, some 6, .p (.mv (.t 25)), none, none, [], false⟩]
def f11r5 : List SOper := [
⟨0, some 7, .p (.mv (.c (.one (.int .i64 0)))), none, none, [], false⟩]
def f11r6 : List SOper := [
⟨0, some 26, .p (.faddr 4 (.t 1)), none, none, [], false⟩,
⟨1, some 27, .l (.load false 1 (.t 26)), none, none, [], false⟩,
⟨2, some 28, .p (.bin .neq (.t 27) (.c (.one (.int .i64 0)))), none, none, [], false⟩,
⟨3, some 29, .p (.mv (.t 28)), none, none, [], false⟩,
⟨4, some 30, .p (.faddr 5 (.t 1)), (some (29, false)), none, [], false⟩,
⟨5, some 31, .l (.load false 1 (.t 30)), (some (29, false)), none, [], false⟩,
⟨6, some 32, .p (.bin .neq (.t 31) (.c (.one (.int .i64 0)))), (some (29, false)), none, [], false⟩,
⟨7, some 33, .p (.pick (.t 29) (.c (.one (.bool true))) (.t 32)), none, none, [], false⟩]
def f11r7 : List SOper := [
⟨0, some 35, .p (.faddr 4 (.t 1)), none, none, [], false⟩,
⟨1, some 36, .l (.load false 1 (.t 35)), none, none, [], false⟩,
⟨2, some 37, .p (.faddr 5 (.t 1)), none, none, [], false⟩,
⟨3, some 38, .l (.load false 1 (.t 37)), none, none, [], false⟩,
⟨4, some 39, .cf 15 [(.t 36), (.t 38)], none, none, [], false⟩,
⟨5, some 34, .p (.mv (.t 39)), none, none, [], false⟩,
⟨6, some 40, .p (.extract (.t 34) 0), none, none, [], false⟩,
⟨7, some 41, .p (.extract (.t 34) 1), none, none, [], false⟩,
⟨8, some 6, .p (.mv (.t 40)), none, none, [], false⟩,
⟨9, some 7, .p (.mv (.t 41)), none, none, [], false⟩]
def f11r8 : List SOper := [
⟨0, some 42, .p (.mv (.t 5)), none, none, [], false⟩,
⟨1, some 43, .p (.bin .neq (.t 42) (.c (.one (.int .i64 0)))), none, none, [], false⟩,
⟨2, some 44, .p (.mv (.t 43)), none, none, [], false⟩,
⟨3, some 45, .p (.mv (.t 7)), (some (44, false)), none, [], false⟩,
⟨4, some 46, .p (.bin .neq (.t 45) (.c (.one (.int .i64 0)))), (some (44, false)), none, [], false⟩,
⟨5, some 47, .p (.pick (.t 44) (.c (.one (.bool true))) (.t 46)), none, none, [], false⟩]
def f11r9 : List SOper := [
⟨0, some 2, .p (.mv (.c (.one .nils))), none, none, [], false⟩,
⟨1, some 3, .p (.mv (.c (.one (.int .i64 190)))), none, none, [], false⟩]
def f11r10 : List SOper := [
⟨0, some 48, .a (.bslice 1 0 [(.int .u8 0)] []), none, none, [], false⟩,
⟨1, some 49, .p (.mv (.t 6)), none, none, [], false⟩,
⟨2, some 50, .e (.append 1 1 (.t 48) (.t 49)), none, none, [], false⟩,
⟨3, some 8, .p (.mv (.t 50)), none, none, [], false⟩]
def f11r11 : List SOper := [
⟨0, some 51, .p (.mv (.t 8)), none, none, [], false⟩,
⟨1, some 52, .p (.len (.t 51)), none, none, [], false⟩,
⟨2, some 53, .p (.faddr 0 (.t 1)), none, none, [], false⟩,
⟨3, some 54, .l (.load false 1 (.t 53)), none, none, [], false⟩,
⟨4, some 55, .p (.mv (.t 4)), none, none, [], false⟩,
⟨5, some 56, .p (.len (.t 55)), none, none, [], false⟩,
⟨6, some 57, .p (.bin .sub (.t 54) (.t 56)), none, none, [], false⟩,
⟨7, some 58, .p (.bin .lss (.t 52) (.t 57)), none, none, [], false⟩]
def f11r12 : List SOper := [
⟨0, some 59, .p (.mv (.t 8)), none, none, [], false⟩,
⟨1, some 60, .a (.bslice 1 1 [(.int .u8 0)] [(0, 1, (.c (.one (.int .u8 0))))]), none, none, [], false⟩,
⟨2, some 61, .e (.append 1 1 (.t 59) (.t 60)), none, none, [], false⟩,
⟨3, some 8, .p (.mv (.t 61)), none, none, [], false⟩]
def f11b0 : SC := (.seq (.seq (.ops f11r11 0) (.cond (.t 58) .skip (.exit 0))) (.block 1 (.ops f11r12 0)))
def f11r13 : List SOper := [
⟨0, some 62, .p (.mv (.t 8)), none, none, [], false⟩,
⟨1, some 63, .p (.mv (.t 4)), none, none, [], false⟩,
⟨2, some 64, .e (.append 1 1 (.t 62) (.t 63)), none, none, [], false⟩,
⟨3, some 2, .p (.mv (.t 64)), none, none, [], false⟩,
⟨4, some 3, .p (.mv (.c (.one (.int .i64 0)))), none, none, [], false⟩]
def f11c : SC := (.seq (.ops f11r0 0) (.seq (.seq (.ops f11r1 0) (.cond (.t 16) (.seq (.ops f11r2 0) .ret) .skip)) (.seq (.ops f11r3 0) (.seq (.ops f11r4 0) (.seq (.ops f11r5 0) (.seq (.seq (.ops f11r6 0) (.cond (.t 33) (.ops f11r7 0) .skip)) (.seq (.seq (.ops f11r8 0) (.cond (.t 47) (.seq (.ops f11r9 0) .ret) .skip)) (.seq (.ops f11r10 0) (.seq (.block 0 (.loop f11b0)) (.seq (.ops f11r13 0) .ret))))))))))
def f11 : SFn := ⟨65, f11c, [.t 2, .t 3]⟩

/- sixdot/sixdotref25.Press -/
def f12r0 : List SOper := [
⟨0, some 2, .a (.box (.t 0)), none, none, [], false⟩,
⟨1, some 3, .a (.box (.t 1)), none, none, [], false⟩,
⟨2, some 4, .a (.alloc [(.int .i64 0), (.int .i64 0), .nils, .nils]), none, none, [], false⟩,
⟨3, some 5, .p (.mv (.c (.one (.int .i64 0)))), none, none, [], false⟩]
def f12r1 : List SOper := [
⟨0, some 11, .p (.faddr 0 (.t 3)), none, none, [], false⟩,
⟨1, some 12, .l (.load false 1 (.t 11)), none, none, [], false⟩,
⟨2, some 13, .p (.bin .lss (.t 12) (.c (.one (.int .i64 24)))), none, none, [], false⟩,
⟨3, some 14, .p (.mv (.t 13)), none, none, [], false⟩,
⟨4, some 15, .p (.faddr 0 (.t 3)), (some (14, false)), none, [], false⟩,
⟨5, some 16, .l (.load false 1 (.t 15)), (some (14, false)), none, [], false⟩,
⟨6, some 17, .p (.bin .gtr (.t 16) (.c (.one (.int .i64 60)))), (some (14, false)), none, [], false⟩,
⟨7, some 18, .p (.pick (.t 14) (.c (.one (.bool true))) (.t 17)), none, none, [], false⟩,
⟨8, some 19, .p (.mv (.t 18)), none, none, [], false⟩,
⟨9, some 20, .p (.faddr 1 (.t 3)), (some (19, false)), none, [], false⟩,
⟨10, some 21, .l (.load false 1 (.t 20)), (some (19, false)), none, [], false⟩,
⟨11, some 22, .p (.bin .lss (.t 21) (.c (.one (.int .i64 4)))), (some (19, false)), none, [], false⟩,
⟨12, some 23, .p (.pick (.t 19) (.c (.one (.bool true))) (.t 22)), none, none, [], false⟩,
⟨13, some 24, .p (.mv (.t 23)), none, none, [], false⟩,
⟨14, some 25, .p (.faddr 1 (.t 3)), (some (24, false)), none, [], false⟩,
⟨15, some 26, .l (.load false 1 (.t 25)), (some (24, false)), none, [], false⟩,
⟨16, some 27, .p (.bin .gtr (.t 26) (.c (.one (.int .i64 40)))), (some (24, false)), none, [], false⟩,
⟨17, some 28, .p (.pick (.t 24) (.c (.one (.bool true))) (.t 27)), none, none, [], false⟩]
def f12r2 : List SOper := [
⟨0, some 29, .p (.build [(.int .i64 0), (.int .i64 0), .nils, .nils] []), none, none, [], false⟩,
⟨1, none, .e (.store 4 (.t 4) (.t 29)), none, none, [], false⟩,
⟨2, some 5, .p (.mv (.c (.one (.int .i64 1)))), none, none, [], false⟩]
def f12r3 : List SOper := [
⟨0, some 30, .p (.faddr 2 (.t 2)), none, none, [], false⟩,
⟨1, some 31, .l (.load false 1 (.t 30)), none, none, [], false⟩,
⟨2, some 32, .p (.faddr 0 (.t 3)), none, none, [], false⟩,
⟨3, some 33, .l (.load false 1 (.t 32)), none, none, [], false⟩,
⟨4, some 34, .p (.faddr 1 (.t 3)), none, none, [], false⟩,
⟨5, some 35, .l (.load false 1 (.t 34)), none, none, [], false⟩,
⟨6, some 36, .cf 16 [(.t 31), (.t 33), (.t 35)], none, none, [], false⟩,
⟨7, some 6, .p (.mv (.t 36)), none, none, [], false⟩]
def f12r4 : List SOper := [
⟨0, some 37, .p (.faddr 3 (.t 2)), none, none, [], false⟩,
⟨1, some 38, .l (.load false 1 (.t 37)), none, none, [], false⟩,
⟨2, some 39, .p (.faddr 0 (.t 3)), none, none, [], false⟩,
⟨3, some 40, .l (.load false 1 (.t 39)), none, none, [], false⟩,
⟨4, some 41, .p (.faddr 1 (.t 3)), none, none, [], false⟩,
⟨5, some 42, .l (.load false 1 (.t 41)), none, none, [], false⟩,
⟨6, some 43, .cf 16 [(.t 38), (.t 40), (.t 42)], none, none, [], false⟩,
⟨7, some 7, .p (.mv (.t 43)), none, none, [], false⟩]
def f12r5 : List SOper := [
⟨0, some 44, .p (.mv (.t 6)), none, none, [], false⟩,
⟨1, some 45, .p (.not (.t 44)), none, none, [], false⟩,
⟨2, some 46, .p (.mv (.t 45)), none, none, [], false⟩,
⟨3, some 47, .p (.mv (.t 7)), (some (46, false)), none, [], false⟩,
⟨4, some 48, .p (.not (.t 47)), (some (46, false)), none, [], false⟩,
⟨5, some 49, .p (.pick (.t 46) (.c (.one (.bool true))) (.t 48)), none, none, [], false⟩]
def f12r6 : List SOper := [
⟨0, some 50, .p (.build [(.int .i64 0), (.int .i64 0), .nils, .nils] []), none, none, [], false⟩,
⟨1, none, .e (.store 4 (.t 4) (.t 50)), none, none, [], false⟩,
⟨2, some 5, .p (.mv (.c (.one (.int .i64 250)))), none, none, [], false⟩]
def f12r7 : List SOper := [
⟨0, some 51, .p (.faddr 0 (.t 3)), none, none, [], false⟩,
⟨1, some 52, .l (.load false 1 (.t 51)), none, none, [], false⟩,
⟨2, some 53, .p (.bin .mul (.c (.one (.int .i64 2))) (.t 52)), none, none, [], false⟩,
⟨3, some 54, .p (.faddr 1 (.t 3)), none, none, [], false⟩,
⟨4, some 55, .l (.load false 1 (.t 54)), none, none, [], false⟩,
⟨5, some 56, .p (.bin .mul (.c (.one (.int .i64 3))) (.t 55)), none, none, [], false⟩,
⟨6, some 57, .cf 10 [(.t 53), (.t 56)], none, none, [], false⟩,
⟨7, some 8, .a (.alloc [(.int .i64 0), (.int .i64 0), .nils, .nils]), none, none, [], false⟩,
⟨8, none, .e (.store 4 (.t 8) (.t 57)), none, none, [], false⟩]
def f12r8 : List SOper := [
⟨0, some 9, .p (.mv (.c (.one (.int .i64 0)))), none, none, [], false⟩]
def f12r9 : List SOper := [
⟨0, some 58, .p (.mv (.t 9)), none, none, [], false⟩,
⟨1, some 59, .p (.faddr 1 (.t 8)), none, none, [], false⟩,
⟨2, some 60, .l (.load false 1 (.t 59)), none, none, [], false⟩,
⟨3, some 61, .p (.bin .lss (.t 58) (.t 60)), none, none, [], false⟩]
def f12r10 : List SOper := [
⟨0, some 10, .p (.mv (.c (.one (.int .i64 0)))), none, none, [], false⟩]
def f12r11 : List SOper := [
⟨0, some 64, .p (.mv (.t 10)), none, none, [], false⟩,
⟨1, some 65, .p (.faddr 0 (.t 8)), none, none, [], false⟩,
⟨2, some 66, .l (.load false 1 (.t 65)), none, none, [], false⟩,
⟨3, some 67, .p (.bin .lss (.t 64) (.t 66)), none, none, [], false⟩]
def f12r12 : List SOper := [
⟨0, some 70, .p (.faddr 2 (.t 8)), none, none, [], false⟩,
⟨1, some 71, .l (.load false 1 (.t 70)), none, none, [], true⟩,
⟨2, some 72, .p (.mv (.t 9)), none, none, [], false⟩,
⟨3, some 73, .p (.iaddr 1 (.t 71) (.t 72)), none, none, [], false⟩,
⟨4, some 74, .l (.load false 1 (.t 73)), none, none, [], true⟩,
⟨5, some 75, .p (.mv (.t 10)), none, none, [], false⟩,
⟨6, some 76, .p (.faddr 2 (.t 2)), none, none, [], false⟩,
⟨7, some 77, .l (.load false 1 (.t 76)), none, none, [], false⟩,
⟨8, some 78, .p (.mv (.t 10)), none, none, [], false⟩,
⟨9, some 79, .p (.mv (.t 9)), none, none, [], false⟩,
⟨10, some 80, .cf 17 [(.t 77), (.t 78), (.t 79)], none, none, [4, 1], false⟩,
⟨11, some 81, .p (.iaddr 1 (.t 74) (.t 75)), none, none, [], false⟩,
⟨12, none, .e (.store 1 (.t 81) (.t 80)), none, none, [], false⟩]
def f12r13 : List SOper := [
⟨0, some 82, .p (.faddr 3 (.t 8)), none, none, [], false⟩,
⟨1, some 83, .l (.load false 1 (.t 82)), none, none, [], true⟩,
⟨2, some 84, .p (.mv (.t 9)), none, none, [], false⟩,
⟨3, some 85, .p (.iaddr 1 (.t 83) (.t 84)), none, none, [], false⟩,
⟨4, some 86, .l (.load false 1 (.t 85)), none, none, [], true⟩,
⟨5, some 87, .p (.faddr 0 (.t 8)), none, none, [], false⟩,
⟨6, some 88, .l (.load false 1 (.t 87)), none, none, [], true⟩,
⟨7, some 89, .p (.bin .sub (.t 88) (.c (.one (.int .i64 1)))), none, none, [], false⟩,
⟨8, some 90, .p (.mv (.t 10)), none, none, [], false⟩,
⟨9, some 91, .p (.bin .sub (.t 89) (.t 90)), none, none, [], false⟩,
⟨10, some 92, .p (.faddr 3 (.t 2)), none, none, [], false⟩,
⟨11, some 93, .l (.load false 1 (.t 92)), none, none, [], false⟩,
⟨12, some 94, .p (.mv (.t 10)), none, none, [], false⟩,
⟨13, some 95, .p (.mv (.t 9)), none, none, [], false⟩,
⟨14, some 96, .cf 17 [(.t 93), (.t 94), (.t 95)], none, none, [6, 4, 1], false⟩,
⟨15, some 97, .p (.iaddr 1 (.t 86) (.t 91)), none, none, [], false⟩,
⟨16, none, .e (.store 1 (.t 97) (.t 96)), none, none, [], false⟩]
def f12r14 : List SOper := [
⟨0, some 68, .p (.mv (.t 10)), none, none, [], false⟩,
⟨1, some 69, .p (.bin .add (.t 68) (.c (.one (.int .i64 1)))), none, none, [], false⟩,
⟨2, some 10, .p (.mv (.t 69)), none, none, [], false⟩]
def f12b0 : SC := (.seq (.seq (.ops f12r11 0) (.cond (.t 67) .skip (.exit 2))) (.seq (.block 3 (.seq (.ops f12r12 13) (.ops f12r13 17))) (.ops f12r14 0)))
def f12r15 : List SOper := [
⟨0, some 62, .p (.mv (.t 9)), none, none, [], false⟩,
⟨1, some 63, .p (.bin .add (.t 62) (.c (.one (.int .i64 1)))), none, none, [], false⟩,
⟨2, some 9, .p (.mv (.t 63)), none, none, [], false⟩]
def f12b1 : SC := (.seq (.seq (.ops f12r9 0) (.cond (.t 61) .skip (.exit 0))) (.seq (.block 1 (.seq (.ops f12r10 0) (.block 2 (.loop f12b0)))) (.ops f12r15 0)))
def f12r16 : List SOper := [
⟨0, some 98, .l (.load true 4 (.t 8)), none, none, [], false⟩,
⟨1, none, .e (.store 4 (.t 4) (.t 98)), none, none, [], false⟩,
⟨2, some 5, .p (.mv (.c (.one (.int .i64 0)))), none, none, [], false⟩]
def f12c : SC := (.seq (.ops f12r0 0) (.seq (.seq (.ops f12r1 0) (.cond (.t 28) (.seq (.ops f12r2 0) .ret) .skip)) (.seq (.ops f12r3 0) (.seq (.ops f12r4 0) (.seq (.seq (.ops f12r5 0) (.cond (.t 49) (.seq (.ops f12r6 0) .ret) .skip)) (.seq (.ops f12r7 0) (.seq (.seq (.ops f12r8 0) (.block 0 (.loop f12b1))) (.seq (.ops f12r16 0) .ret))))))))
def f12 : SFn := ⟨99, f12c, [.cell true 4 4, .t 5]⟩

/- sixdot/bind.Volume -/
def f13r0 : List SOper := [
⟨0, some 2, .a (.alloc [.nils]), none, none, [], false⟩,
⟨1, some 3, .a (.alloc [(.int .i64 0)]), none, none, [], false⟩,
⟨2, some 4, .a (.alloc [(.int .i64 0)]), none, none, [], false⟩]
def f13r1 : List SOper := [
⟨0, some 8, .p (.mv (.t 0)), none, none, [], false⟩,
⟨1, some 9, .p (.len (.t 8)), none, none, [], false⟩,
⟨2, some 10, .p (.bin .eql (.t 9) (.c (.one (.int .i64 0)))), none, none, [], false⟩]
def f13r2 : List SOper := [
⟨0, none, .e (.store 1 (.t 2) (.c (.one .nils))), none, none, [], false⟩,
⟨1, none, .e (.store 1 (.t 3) (.c (.one (.int .i64 0)))), none, none, [], false⟩,
⟨2, none, .e (.store 1 (.t 4) (.c (.one (.int .i64 340)))), none, none, [], false⟩]
def f13r3 : List SOper := [
⟨0, some 11, .p (.mv (.t 0)), none, none, [], false⟩,
⟨1, some 12, .p (.build [.nils, .nils] [(0, 1, (.t 11))]), none, none, [], false⟩,
⟨2, some 5, .a (.alloc [.nils, .nils]), none, none, [], false⟩,
⟨3, none, .e (.store 2 (.t 5) (.t 12)), none, none, [], false⟩]
def f13r4 : List SOper := [
⟨0, some 13, .cf 18 [(.t 5)], none, none, [], false⟩]
def f13r5 : List SOper := [
⟨0, some 6, .p (.mv (.t 14)), none, none, [], false⟩]
def f13r6 : List SOper := [
⟨0, some 7, .p (.mv (.t 15)), none, none, [], false⟩]
def f13r7 : List SOper := [
⟨0, some 16, .p (.mv (.t 6)), none, none, [], false⟩,
⟨1, some 17, .p (.mv (.t 7)), none, none, [], false⟩,
⟨2, none, .e (.store 1 (.t 2) (.c (.one .nils))), none, none, [], false⟩,
⟨3, none, .e (.store 1 (.t 3) (.t 16)), none, none, [], false⟩,
⟨4, none, .e (.store 1 (.t 4) (.t 17)), none, none, [], false⟩]
def f13b0 : SC := (.block 1 (.seq (.ops f13r7 0) .ret))
def f13r8 : List SOper := [
⟨0, some 18, .p (.faddr 1 (.t 5)), none, none, [], false⟩,
⟨1, some 19, .l (.load false 1 (.t 18)), none, none, [], false⟩,
⟨2, some 20, .p (.mv (.t 0)), none, none, [], false⟩,
⟨3, some 21, .p (.len (.t 20)), none, none, [], false⟩,
⟨4, none, .e (.store 1 (.t 2) (.t 19)), none, none, [], false⟩,
⟨5, none, .e (.store 1 (.t 3) (.t 21)), none, none, [], false⟩,
⟨6, none, .e (.store 1 (.t 4) (.c (.one (.int .i64 0)))), none, none, [], false⟩]
def f13c : SC := (.seq (.ops f13r0 0) (.seq (.seq (.ops f13r1 0) (.cond (.t 10) (.seq (.ops f13r2 0) .ret) .skip)) (.seq (.ops f13r3 0) (.seq (.seq (.ops f13r4 0) (.block 0 (.rf (.t 13) [14, 15] (.seq (.ops f13r5 0) (.ops f13r6 0)) f13b0))) (.seq (.ops f13r8 0) .ret)))))
def f13 : SFn := ⟨22, f13c, [.cell false 1 2, .cell false 1 3, .cell false 1 4]⟩

/- sixdot/sixdotref19.Page -/
def f14r0 : List SOper := [
⟨0, some 2, .a (.box (.t 0)), none, none, [], false⟩,
⟨1, some 4, .p (.mv (.c (.one .nils))), none, none, [], false⟩,
⟨2, some 5, .p (.mv (.c (.one (.int .i64 0)))), none, none, [], false⟩]
def f14r1 : List SOper := [
⟨0, some 9, .l (.load true 2 (.t 2)), none, none, [], false⟩,
⟨1, some 10, .cf 19 [(.t 9)], none, none, [], false⟩,
⟨2, some 11, .p (.not (.t 10)), none, none, [], false⟩]
def f14r2 : List SOper := [
⟨0, some 4, .p (.mv (.c (.one .nils))), none, none, [], false⟩,
⟨1, some 5, .p (.mv (.c (.one (.int .i64 190)))), none, none, [], false⟩]
def f14r3 : List SOper := [
⟨0, some 12, .p (.faddr 0 (.t 2)), none, none, [], false⟩,
⟨1, some 13, .l (.load false 1 (.t 12)), none, none, [], false⟩,
⟨2, some 14, .p (.bin .mul (.c (.one (.int .i64 2))) (.t 13)), none, none, [], false⟩,
⟨3, some 15, .p (.bin .sub (.t 14) (.c (.one (.int .i64 1)))), none, none, [], false⟩,
⟨4, some 6, .p (.mv (.t 15)), none, none, [], false⟩]
def f14r4 : List SOper := [
⟨0, some 16, .p (.mv (.t 1)), none, none, [], false⟩]
def f14r5 : List SOper := [
⟨0, some 17, .p (.faddr 0 (.t 2)), none, none, [], false⟩,
⟨1, some 18, .l (.load false 1 (.t 17)), none, none, [], false⟩,
⟨2, some 19, .p (.bin .mul (.c (.one (.int .i64 2))) (.t 18)), none, none, [], false⟩,
⟨3, some 6, .p (.mv (.t 19)), none, none, [], false⟩]
def f14r6 : List SOper := [
⟨0, some 21, .p (.mv (.t 6)), none, none, [], false⟩,
⟨1, some 22, .cf 20 [(.t 21)], none, none, [], false⟩,
⟨2, some 20, .p (.mv (.t 22)), none, none, [], false⟩,
⟨3, some 23, .p (.extract (.t 20) 0), none, none, [], false⟩,
⟨4, some 24, .p (.extract (.t 20) 1), none, none, [], false⟩,
⟨5, some 7, .p (.mv (.t 23)), none, none, [], false⟩,
⟨6, some 8, .p (.mv (.t 24)), none, none, [], false⟩]
def f14r7 : List SOper := [
⟨0, some 25, .p (.faddr 1 (.t 2)), none, none, [], false⟩,
⟨1, some 26, .l (.load false 1 (.t 25)), none, none, [], false⟩,
⟨2, some 27, .p (.bin .gtr (.t 26) (.c (.one (.int .i64 0)))), none, none, [], false⟩]
def f14r8 : List SOper := [
⟨0, some 28, .p (.mv (.t 7)), none, none, [], false⟩,
⟨2, some 30, .p (.faddr 1 (.t 2)), none, none, [], false⟩,
⟨3, some 31, .l (.load false 1 (.t 30)), none, none, [], true⟩,
⟨4, some 32, .p (.bin .sub (.t 31) (.c (.one (.int .i64 1)))), none, none, [], false⟩,
⟨1, some 29, .cf 21 [], none, none, [3], false⟩,
⟨5, some 33, .p (.iaddr 1 (.t 29) (.t 32)), none, none, [], false⟩,
⟨6, some 34, .l (.load false 1 (.t 33)), none, none, [], false⟩,
⟨7, some 35, .a (.bslice 1 2 [(.int .u8 0)] [(0, 1, (.c (.one (.int .u8 48)))), (1, 1, (.t 34))]), none, (some 7), [], false⟩,
⟨8, some 36, .e (.append 1 1 (.t 28) (.t 35)), none, none, [], false⟩,
⟨9, some 7, .p (.mv (.t 36)), none, none, [], false⟩]
def f14r9 : List SOper := [
⟨0, some 37, .p (.mv (.t 7)), none, none, [], false⟩,
⟨1, some 4, .p (.mv (.t 37)), none, none, [], false⟩,
⟨2, some 5, .p (.mv (.c (.one (.int .i64 0)))), none, none, [], false⟩]
def f14c : SC := (.seq (.ops f14r0 0) (.seq (.seq (.ops f14r1 0) (.cond (.t 11) (.seq (.ops f14r2 0) .ret) .skip)) (.seq (.ops f14r3 0) (.seq (.seq (.ops f14r4 0) (.cond (.t 16) (.ops f14r5 0) .skip)) (.seq (.ops f14r6 0) (.seq (.seq (.ops f14r7 0) (.cond (.t 27) (.ops f14r8 10) .skip)) (.seq (.ops f14r9 0) .ret)))))))
def f14 : SFn := ⟨38, f14c, [.t 4, .t 5]⟩

/- sixdot/sixdotref25.Fits -/
def f16r0 : List SOper := [
⟨0, some 6, .p (.mv (.c (.one (.bool false)))), none, none, [], false⟩]
def f16r1 : List SOper := [
⟨0, some 10, .p (.mv (.t 0)), none, none, [], false⟩,
⟨1, some 11, .p (.len (.t 10)), none, none, [], false⟩,
⟨2, some 12, .p (.mv (.t 2)), none, none, [], false⟩,
⟨3, some 13, .p (.bin .gtr (.t 11) (.t 12)), none, none, [], false⟩]
def f16r2 : List SOper := [
⟨0, some 6, .p (.mv (.c (.one (.bool false)))), none, none, [], false⟩]
def f16r3 : List SOper := [
⟨0, some 7, .p (.mv (.c (.one (.int .i64 0)))), none, none, [], false⟩]
def f16r4 : List SOper := [
⟨0, some 14, .p (.mv (.t 7)), none, none, [], false⟩,
⟨1, some 15, .p (.mv (.t 0)), none, none, [], false⟩,
⟨2, some 16, .p (.len (.t 15)), none, none, [], false⟩,
⟨3, some 17, .p (.bin .lss (.t 14) (.t 16)), none, none, [], false⟩]
def f16r5 : List SOper := [
⟨0, some 20, .p (.mv (.t 0)), none, none, [], false⟩,
⟨1, some 21, .p (.mv (.t 7)), none, none, [], false⟩,
⟨2, some 22, .p (.iaddr 1 (.t 20) (.t 21)), none, none, [], false⟩,
⟨3, some 23, .l (.load false 1 (.t 22)), none, none, [], false⟩,
⟨4, some 24, .p (.len (.t 23)), none, none, [], false⟩,
⟨5, some 8, .p (.mv (.t 24)), none, none, [], false⟩]
def f16r6 : List SOper := [
⟨0, some 25, .p (.mv (.t 0)), none, none, [], false⟩,
⟨1, some 26, .p (.mv (.t 7)), none, none, [], false⟩,
⟨2, some 27, .p (.iaddr 1 (.t 25) (.t 26)), none, none, [], false⟩,
⟨3, some 28, .l (.load false 1 (.t 27)), none, none, [], false⟩,
⟨4, some 29, .cf 22 [(.t 28)], none, none, [], false⟩,
⟨5, some 9, .p (.mv (.t 29)), none, none, [], false⟩]
def f16r7 : List SOper := [
⟨0, some 30, .p (.mv (.t 8)), none, none, [], false⟩,
⟨1, some 31, .p (.mv (.t 1)), none, none, [], false⟩,
⟨2, some 32, .p (.bin .gtr (.t 30) (.t 31)), none, none, [], false⟩,
⟨3, some 33, .p (.mv (.t 32)), none, none, [], false⟩,
⟨4, some 34, .p (.mv (.t 9)), (some (33, false)), none, [], false⟩,
⟨5, some 35, .p (.not (.t 34)), (some (33, false)), none, [], false⟩,
⟨6, some 36, .p (.pick (.t 33) (.c (.one (.bool true))) (.t 35)), none, none, [], false⟩,
⟨7, some 37, .p (.mv (.t 36)), none, none, [], false⟩,
⟨8, some 38, .p (.mv (.t 8)), (some (37, false)), none, [], false⟩,
⟨9, some 39, .p (.bin .gtr (.t 38) (.c (.one (.int .i64 0)))), (some (37, false)), none, [], false⟩,
⟨10, some 40, .p (.mv (.t 39)), (some (37, false)), none, [], false⟩,
⟨11, some 41, .p (.mv (.t 0)), (some (40, true)), none, [], false⟩,
⟨12, some 42, .p (.mv (.t 7)), (some (40, true)), none, [], false⟩,
⟨13, some 43, .p (.iaddr 1 (.t 41) (.t 42)), (some (40, true)), none, [], false⟩,
⟨14, some 44, .l (.load false 1 (.t 43)), (some (40, true)), none, [], false⟩,
⟨15, some 45, .p (.mv (.t 8)), (some (40, true)), none, [], false⟩,
⟨16, some 46, .p (.bin .sub (.t 45) (.c (.one (.int .i64 1)))), (some (40, true)), none, [], false⟩,
⟨17, some 47, .p (.iaddr 1 (.t 44) (.t 46)), (some (40, true)), none, [], false⟩,
⟨18, some 48, .l (.load false 1 (.t 47)), (some (40, true)), none, [], false⟩,
⟨19, some 49, .p (.bin .eql (.t 48) (.c (.one (.int .u8 0)))), (some (40, true)), none, [], false⟩,
⟨20, some 50, .p (.pick (.t 40) (.t 49) (.c (.one (.bool false)))), (some (37, false)), none, [], false⟩,
⟨21, some 51, .p (.pick (.t 37) (.c (.one (.bool true))) (.t 50)), none, none, [], false⟩,
⟨22, some 52, .p (.mv (.t 51)), none, none, [], false⟩,
⟨23, some 53, .p (.mv (.t 8)), (some (52, false)), none, [], false⟩,
⟨24, some 54, .p (.bin .eql (.t 53) (.c (.one (.int .i64 0)))), (some (52, false)), none, [], false⟩,
⟨25, some 55, .p (.mv (.t 54)), (some (52, false)), none, [], false⟩,
⟨26, some 56, .p (.mv (.t 7)), (some (55, true)), none, [], false⟩,
⟨27, some 57, .p (.mv (.t 0)), (some (55, true)), none, [], false⟩,
⟨28, some 58, .p (.len (.t 57)), (some (55, true)), none, [], false⟩,
⟨29, some 59, .p (.bin .sub (.t 58) (.c (.one (.int .i64 1)))), (some (55, true)), none, [], false⟩,
⟨30, some 60, .p (.bin .eql (.t 56) (.t 59)), (some (55, true)), none, [], false⟩,
⟨31, some 61, .p (.pick (.t 55) (.t 60) (.c (.one (.bool false)))), (some (52, false)), none, [], false⟩,
⟨32, some 62, .p (.pick (.t 52) (.c (.one (.bool true))) (.t 61)), none, none, [], false⟩]
def f16r8 : List SOper := [
⟨0, some 6, .p (.mv (.c (.one (.bool false)))), none, none, [], false⟩]
def f16r9 : List SOper := [
⟨0, some 18, .p (.mv (.t 7)), none, none, [], false⟩,
⟨1, some 19, .p (.bin .add (.t 18) (.c (.one (.int .i64 1)))), none, none, [], false⟩,
⟨2, some 7, .p (.mv (.t 19)), none, none, [], false⟩]
def f16b0 : SC := (.seq (.seq (.ops f16r4 0) (.cond (.t 17) .skip (.exit 0))) (.seq (.block 1 (.seq (.ops f16r5 0) (.seq (.ops f16r6 0) (.seq (.ops f16r7 0) (.cond (.t 62) (.seq (.ops f16r8 0) .ret) .skip))))) (.ops f16r9 0)))
def f16r10 : List SOper := [
⟨0, some 6, .p (.mv (.c (.one (.bool true)))), none, none, [], false⟩]
def f16c : SC := (.seq (.ops f16r0 0) (.seq (.seq (.ops f16r1 0) (.cond (.t 13) (.seq (.ops f16r2 0) .ret) .skip)) (.seq (.seq (.ops f16r3 0) (.block 0 (.loop f16b0))) (.seq (.ops f16r10 0) .ret))))
def f16 : SFn := ⟨63, f16c, [.t 6]⟩

/- sixdot/sixdotref25.raised -/
def f17r0 : List SOper := [
⟨0, some 6, .p (.mv (.c (.one (.bool false)))), none, none, [], false⟩]
def f17r1 : List SOper := [
⟨0, some 7, .p (.mv (.t 0)), none, none, [], false⟩,
⟨1, some 8, .p (.mv (.t 2)), none, none, [], false⟩,
⟨2, some 9, .p (.bin .quo (.t 8) (.c (.one (.int .i64 3)))), none, none, [], false⟩,
⟨3, some 10, .p (.mv (.t 1)), none, none, [], false⟩,
⟨4, some 11, .p (.bin .quo (.t 10) (.c (.one (.int .i64 2)))), none, none, [], false⟩,
⟨5, some 12, .cf 24 [(.t 7), (.t 9), (.t 11)], none, none, [], false⟩,
⟨6, some 13, .p (.mv (.t 1)), none, none, [], false⟩,
⟨7, some 14, .p (.bin .rem (.t 13) (.c (.one (.int .i64 2)))), none, none, [], false⟩,
⟨8, some 15, .p (.bin .mul (.t 14) (.c (.one (.int .i64 3)))), none, none, [], false⟩,
⟨9, some 16, .p (.mv (.t 2)), none, none, [], false⟩,
⟨10, some 17, .p (.bin .rem (.t 16) (.c (.one (.int .i64 3)))), none, none, [], false⟩,
⟨11, some 18, .p (.bin .add (.t 15) (.t 17)), none, none, [], false⟩,
⟨12, some 19, .p (.bin .add (.t 18) (.c (.one (.int .i64 1)))), none, none, [], false⟩,
⟨13, some 20, .cf 23 [(.t 12), (.t 19)], none, none, [], false⟩,
⟨14, some 6, .p (.mv (.t 20)), none, none, [], false⟩]
def f17c : SC := (.seq (.ops f17r0 0) (.seq (.ops f17r1 0) .ret))
def f17 : SFn := ⟨21, f17c, [.t 6]⟩

/- (*sixdot/bind.checker).failures -/
def f18r0 : List SOper := [
⟨0, some 1, .a (.box (.t 0)), none, none, [], false⟩,
⟨1, some 2, .p (.mv (.c (.one .nilf))), none, none, [], false⟩]
def f18r1 : List SOper := [
⟨0, some 3, .p (.mkfn 25 [(.t 1)]), none, none, [], false⟩,
⟨1, some 2, .p (.mv (.t 3)), none, none, [], false⟩]
def f18c : SC := (.seq (.ops f18r0 0) (.seq (.ops f18r1 0) .ret))
def f18 : SFn := ⟨4, f18c, [.t 2]⟩

/- sixdot/sixdotref19.ValidLabel -/
def f19r0 : List SOper := [
⟨0, some 1, .a (.box (.t 0)), none, none, [], false⟩,
⟨1, some 2, .p (.mv (.c (.one (.bool false)))), none, none, [], false⟩]
def f19r1 : List SOper := [
⟨0, some 3, .p (.faddr 0 (.t 1)), none, none, [], false⟩,
⟨1, some 4, .l (.load false 1 (.t 3)), none, none, [], false⟩,
⟨2, some 5, .p (.bin .geq (.t 4) (.c (.one (.int .i64 1)))), none, none, [], false⟩,
⟨3, some 6, .p (.mv (.t 5)), none, none, [], false⟩,
⟨4, some 7, .p (.faddr 0 (.t 1)), (some (6, true)), none, [], false⟩,
⟨5, some 8, .l (.load false 1 (.t 7)), (some (6, true)), none, [], false⟩,
⟨6, some 9, .p (.bin .leq (.t 8) (.c (.one (.int .i64 9999)))), (some (6, true)), none, [], false⟩,
⟨7, some 10, .p (.pick (.t 6) (.t 9) (.c (.one (.bool false)))), none, none, [], false⟩,
⟨8, some 11, .p (.mv (.t 10)), none, none, [], false⟩,
⟨9, some 12, .p (.faddr 1 (.t 1)), (some (11, true)), none, [], false⟩,
⟨10, some 13, .l (.load false 1 (.t 12)), (some (11, true)), none, [], false⟩,
⟨11, some 14, .p (.bin .geq (.t 13) (.c (.one (.int .i64 0)))), (some (11, true)), none, [], false⟩,
⟨12, some 15, .p (.pick (.t 11) (.t 14) (.c (.one (.bool false)))), none, none, [], false⟩,
⟨13, some 16, .p (.mv (.t 15)), none, none, [], false⟩,
⟨14, some 17, .p (.faddr 1 (.t 1)), (some (16, true)), none, [], false⟩,
⟨15, some 18, .l (.load false 1 (.t 17)), (some (16, true)), none, [], false⟩,
⟨16, some 19, .p (.bin .leq (.t 18) (.c (.one (.int .i64 2)))), (some (16, true)), none, [], false⟩,
⟨17, some 20, .p (.pick (.t 16) (.t 19) (.c (.one (.bool false)))), none, none, [], false⟩,
⟨18, some 2, .p (.mv (.t 20)), none, none, [], false⟩]
def f19c : SC := (.seq (.ops f19r0 0) (.seq (.ops f19r1 0) .ret))
def f19 : SFn := ⟨21, f19c, [.t 2]⟩

/- sixdot/sixdotref19.Write -/
def f20r0 : List SOper := [
⟨0, some 2, .p (.mv (.c (.one .nils))), none, none, [], false⟩,
⟨1, some 3, .p (.mv (.c (.one (.int .i64 0)))), none, none, [], false⟩]
def f20r1 : List SOper := [
⟨0, some 6, .p (.mv (.t 0)), none, none, [], false⟩,
⟨1, some 7, .p (.bin .lss (.t 6) (.c (.one (.int .i64 0)))), none, none, [], false⟩,
⟨2, some 8, .p (.mv (.t 7)), none, none, [], false⟩,
⟨3, some 9, .p (.mv (.t 0)), (some (8, false)), none, [], false⟩,
⟨4, some 10, .p (.bin .gtr (.t 9) (.c (.one (.int .i64 99999)))), (some (8, false)), none, [], false⟩,
⟨5, some 11, .p (.pick (.t 8) (.c (.one (.bool true))) (.t 10)), none, none, [], false⟩]
def f20r2 : List SOper := [
⟨0, some 2, .p (.mv (.c (.one .nils))), none, none, [], false⟩,
⟨1, some 3, .p (.mv (.c (.one (.int .i64 190)))), none, none, [], false⟩]
def f20r3 : List SOper := [
⟨0, some 12, .a (.bslice 1 1 [(.int .u8 0)] [(0, 1, (.c (.one (.int .u8 60))))]), none, none, [], false⟩,
⟨1, some 4, .p (.mv (.t 12)), none, none, [], false⟩]
def f20r4 : List SOper := [
⟨0, some 5, .p (.mv (.c (.one (.int .i64 10000)))), none, none, [], false⟩]
def f20r5 : List SOper := [
⟨0, some 13, .p (.mv (.t 5)), none, none, [], false⟩,
⟨1, some 14, .p (.bin .gtr (.t 13) (.c (.one (.int .i64 0)))), none, none, [], false⟩]
def f20r6 : List SOper := [
⟨0, some 17, .p (.mv (.t 0)), none, none, [], false⟩,
⟨1, some 18, .p (.mv (.t 5)), none, none, [], false⟩,
⟨2, some 19, .p (.bin .geq (.t 17) (.t 18)), none, none, [], false⟩,
⟨3, some 20, .p (.mv (.t 19)), none, none, [], false⟩,
⟨4, some 21, .p (.mv (.t 5)), (some (20, false)), none, [], false⟩,
⟨5, some 22, .p (.bin .eql (.t 21) (.c (.one (.int .i64 1)))), (some (20, false)), none, [], false⟩,
⟨6, some 23, .p (.pick (.t 20) (.c (.one (.bool true))) (.t 22)), none, none, [], false⟩]
def f20r7 : List SOper := [
⟨0, some 24, .p (.mv (.t 4)), none, none, [], false⟩,
⟨1, some 25, .p (.mv (.t 0)), none, none, [], false⟩,
⟨2, some 26, .p (.mv (.t 5)), none, none, [], false⟩,
⟨3, some 27, .p (.bin .quo (.t 25) (.t 26)), none, none, [], false⟩,
⟨4, some 28, .p (.bin .rem (.t 27) (.c (.one (.int .i64 10)))), none, none, [], false⟩,
⟨5, some 29, .cf 27 [(.t 28)], none, none, [], false⟩,
⟨6, some 30, .a (.bslice 1 1 [(.int .u8 0)] [(0, 1, (.t 29))]), none, none, [], false⟩,
⟨7, some 31, .e (.append 1 1 (.t 24) (.t 30)), none, none, [], false⟩,
⟨8, some 4, .p (.mv (.t 31)), none, none, [], false⟩]
def f20r8 : List SOper := [
⟨0, some 15, .p (.mv (.t 5)), none, none, [], false⟩,
⟨1, some 16, .p (.bin .quo (.t 15) (.c (.one (.int .i64 10)))), none, none, [], false⟩,
⟨2, some 5, .p (.mv (.t 16)), none, none, [], false⟩]
def f20b0 : SC := (.seq (.seq (.ops f20r5 0) (.cond (.t 14) .skip (.exit 0))) (.seq (.block 1 (.seq (.ops f20r6 0) (.cond (.t 23) (.ops f20r7 0) .skip))) (.ops f20r8 0)))
def f20r9 : List SOper := [
⟨0, some 32, .p (.mv (.t 4)), none, none, [], false⟩,
⟨1, some 2, .p (.mv (.t 32)), none, none, [], false⟩,
⟨2, some 3, .p (.mv (.c (.one (.int .i64 0)))), none, none, [], false⟩]
def f20c : SC := (.seq (.ops f20r0 0) (.seq (.seq (.ops f20r1 0) (.cond (.t 11) (.seq (.ops f20r2 0) .ret) .skip)) (.seq (.ops f20r3 0) (.seq (.seq (.ops f20r4 0) (.block 0 (.loop f20b0))) (.seq (.ops f20r9 0) .ret)))))
def f20 : SFn := ⟨33, f20c, [.t 2, .t 3]⟩

/- sixdot/sixdotref19.Letters -/
def f21r0 : List SOper := [
⟨0, some 0, .p (.mv (.c (.one .nils))), none, none, [], false⟩]
def f21r1 : List SOper := [
⟨0, some 1, .a (.bslice 1 26 [(.int .u8 0)] [(0, 1, (.c (.one (.int .u8 1)))), (1, 1, (.c (.one (.int .u8 3)))), (2, 1, (.c (.one (.int .u8 9)))), (3, 1, (.c (.one (.int .u8 25)))), (4, 1, (.c (.one (.int .u8 17)))), (5, 1, (.c (.one (.int .u8 11)))), (6, 1, (.c (.one (.int .u8 27)))), (7, 1, (.c (.one (.int .u8 19)))), (8, 1, (.c (.one (.int .u8 10)))), (9, 1, (.c (.one (.int .u8 26)))), (10, 1, (.c (.one (.int .u8 5)))), (11, 1, (.c (.one (.int .u8 7)))), (12, 1, (.c (.one (.int .u8 13)))), (13, 1, (.c (.one (.int .u8 29)))), (14, 1, (.c (.one (.int .u8 21)))), (15, 1, (.c (.one (.int .u8 15)))), (16, 1, (.c (.one (.int .u8 31)))), (17, 1, (.c (.one (.int .u8 23)))), (18, 1, (.c (.one (.int .u8 14)))), (19, 1, (.c (.one (.int .u8 30)))), (20, 1, (.c (.one (.int .u8 37)))), (21, 1, (.c (.one (.int .u8 39)))), (22, 1, (.c (.one (.int .u8 58)))), (23, 1, (.c (.one (.int .u8 45)))), (24, 1, (.c (.one (.int .u8 61)))), (25, 1, (.c (.one (.int .u8 53))))]), none, none, [], false⟩,
⟨1, some 0, .p (.mv (.t 1)), none, none, [], false⟩]
def f21c : SC := (.seq (.ops f21r0 0) (.seq (.ops f21r1 0) .ret))
def f21 : SFn := ⟨2, f21c, [.t 0]⟩

/- sixdot/sixdotref01.ValidAll -/
def f22r0 : List SOper := [
⟨0, some 2, .p (.mv (.c (.one (.bool false)))), none, none, [], false⟩]
def f22r1 : List SOper := [
⟨0, some 3, .p (.mv (.c (.one (.int .i64 0)))), none, none, [], false⟩]
def f22r2 : List SOper := [
⟨0, some 4, .p (.mv (.t 3)), none, none, [], false⟩,
⟨1, some 5, .p (.mv (.t 0)), none, none, [], false⟩,
⟨2, some 6, .p (.len (.t 5)), none, none, [], false⟩,
⟨3, some 7, .p (.bin .lss (.t 4) (.t 6)), none, none, [], false⟩]
def f22r3 : List SOper := [
⟨0, some 10, .p (.mv (.t 0)), none, none, [], false⟩,
⟨1, some 11, .p (.mv (.t 3)), none, none, [], false⟩,
⟨2, some 12, .p (.iaddr 1 (.t 10) (.t 11)), none, none, [], false⟩,
⟨3, some 13, .l (.load false 1 (.t 12)), none, none, [], false⟩,
⟨4, some 14, .p (.bin .geq (.t 13) (.c (.one (.int .u8 64)))), none, none, [], false⟩]
def f22r4 : List SOper := [
⟨0, some 2, .p (.mv (.c (.one (.bool false)))), none, none, [], false⟩]
def f22r5 : List SOper := [
⟨0, some 8, .p (.mv (.t 3)), none, none, [], false⟩,
⟨1, some 9, .p (.bin .add (.t 8) (.c (.one (.int .i64 1)))), none, none, [], false⟩,
⟨2, some 3, .p (.mv (.t 9)), none, none, [], false⟩]
def f22b0 : SC := (.seq (.seq (.ops f22r2 0) (.cond (.t 7) .skip (.exit 0))) (.seq (.block 1 (.seq (.ops f22r3 0) (.cond (.t 14) (.seq (.ops f22r4 0) .ret) .skip))) (.ops f22r5 0)))
def f22r6 : List SOper := [
⟨0, some 2, .p (.mv (.c (.one (.bool true)))), none, none, [], false⟩]
def f22c : SC := (.seq (.ops f22r0 0) (.seq (.seq (.ops f22r1 0) (.block 0 (.loop f22b0))) (.seq (.ops f22r6 0) .ret)))
def f22 : SFn := ⟨15, f22c, [.t 2]⟩

/- sixdot/sixdotref01.Has -/
def f23r0 : List SOper := [
⟨0, some 4, .p (.mv (.c (.one (.bool false)))), none, none, [], false⟩]
def f23r1 : List SOper := [
⟨0, some 5, .p (.mv (.t 0)), none, none, [], false⟩,
⟨1, some 6, .p (.mv (.t 1)), none, none, [], false⟩,
⟨2, some 7, .p (.bin .sub (.t 6) (.c (.one (.int .i64 1)))), none, none, [], false⟩,
⟨3, some 8, .p (.bin .shr (.t 5) (.t 7)), none, none, [], false⟩,
⟨4, some 9, .p (.bin .and (.t 8) (.c (.one (.int .u8 1)))), none, none, [], false⟩,
⟨5, some 10, .p (.bin .eql (.t 9) (.c (.one (.int .u8 1)))), none, none, [], false⟩,
⟨6, some 4, .p (.mv (.t 10)), none, none, [], false⟩]
def f23c : SC := (.seq (.ops f23r0 0) (.seq (.ops f23r1 0) .ret))
def f23 : SFn := ⟨11, f23c, [.t 4]⟩

/- sixdot/sixdotref25.cell -/
def f24r0 : List SOper := [
⟨0, some 6, .p (.mv (.c (.one (.int .u8 0)))), none, none, [], false⟩]
def f24r1 : List SOper := [
⟨0, some 7, .p (.mv (.t 1)), none, none, [], false⟩,
⟨1, some 8, .p (.mv (.t 0)), none, none, [], false⟩,
⟨2, some 9, .p (.len (.t 8)), none, none, [], false⟩,
⟨3, some 10, .p (.bin .geq (.t 7) (.t 9)), none, none, [], false⟩,
⟨4, some 11, .p (.mv (.t 10)), none, none, [], false⟩,
⟨5, some 12, .p (.mv (.t 2)), (some (11, false)), none, [], false⟩,
⟨6, some 13, .p (.mv (.t 0)), (some (11, false)), none, [], false⟩,
⟨7, some 14, .p (.mv (.t 1)), (some (11, false)), none, [], false⟩,
⟨8, some 15, .p (.iaddr 1 (.t 13) (.t 14)), (some (11, false)), none, [], false⟩,
⟨9, some 16, .l (.load false 1 (.t 15)), (some (11, false)), none, [], false⟩,
⟨10, some 17, .p (.len (.t 16)), (some (11, false)), none, [], false⟩,
⟨11, some 18, .p (.bin .geq (.t 12) (.t 17)), (some (11, false)), none, [], false⟩,
⟨12, some 19, .p (.pick (.t 11) (.c (.one (.bool true))) (.t 18)), none, none, [], false⟩]
def f24r2 : List SOper := [
⟨0, some 6, .p (.mv (.c (.one (.int .u8 0)))), none, none, [], false⟩]
def f24r3 : List SOper := [
⟨0, some 20, .p (.mv (.t 0)), none, none, [], false⟩,
⟨1, some 21, .p (.mv (.t 1)), none, none, [], false⟩,
⟨2, some 22, .p (.iaddr 1 (.t 20) (.t 21)), none, none, [], false⟩,
⟨3, some 23, .l (.load false 1 (.t 22)), none, none, [], false⟩,
⟨4, some 24, .p (.mv (.t 2)), none, none, [], false⟩,
⟨5, some 25, .p (.iaddr 1 (.t 23) (.t 24)), none, none, [], false⟩,
⟨6, some 26, .l (.load false 1 (.t 25)), none, none, [], false⟩,
⟨7, some 6, .p (.mv (.t 26)), none, none, [], false⟩]
def f24c : SC := (.seq (.ops f24r0 0) (.seq (.seq (.ops f24r1 0) (.cond (.t 19) (.seq (.ops f24r2 0) .ret) .skip)) (.seq (.ops f24r3 0) .ret)))
def f24 : SFn := ⟨27, f24c, [.t 6]⟩

/- (*sixdot/bind.checker).failures$1 -/
def f25r0 : List SOper := [
⟨0, some 7, .l (.load false 1 (.t 1)), none, none, [], false⟩,
⟨1, some 8, .p (.nilck (.t 7)), none, none, [], false⟩,
⟨2, some 9, .p (.faddr 0 (.t 8)), none, none, [], false⟩,
⟨3, some 10, .l (.load false 1 (.t 9)), none, none, [], false⟩,
⟨4, some 11, .p (.len (.t 10)), none, none, [], false⟩,
⟨5, some 12, .p (.mv (.c (.one (.int .i64 0)))), none, none, [], false⟩]
def f25r1 : List SOper := [
⟨0, some 13, .p (.bin .lss (.t 12) (.t 11)), none, none, [], false⟩]
def f25r2 : List SOper := [
⟨0, some 14, .p (.mv (.t 12)), none, none, [], false⟩,
⟨1, some 3, .p (.mv (.t 14)), none, none, [], false⟩]
def f25r3 : List SOper := [
⟨0, some 15, .cf 26 [], none, none, [], false⟩,
⟨1, some 16, .p (.len (.t 15)), none, none, [], false⟩,
⟨2, some 17, .p (.mv (.c (.one (.int .i64 0)))), none, none, [], false⟩]
def f25r4 : List SOper := [
⟨0, some 18, .p (.bin .lss (.t 17) (.t 16)), none, none, [], false⟩]
def f25r5 : List SOper := [
⟨0, some 19, .p (.iaddr 1 (.t 15) (.t 17)), none, none, [], false⟩,
⟨1, some 20, .l (.load false 1 (.t 19)), none, none, [], false⟩,
⟨2, some 5, .p (.mv (.t 20)), none, none, [], false⟩]
def f25r6 : List SOper := [
⟨0, some 21, .p (.mv (.t 5)), none, none, [], false⟩,
⟨1, some 22, .l (.load false 1 (.t 1)), none, none, [], false⟩,
⟨2, some 23, .p (.mv (.t 3)), none, none, [], false⟩,
⟨3, some 24, .cv (.t 21) [(.t 22), (.t 23)], none, none, [], false⟩,
⟨4, some 6, .p (.mv (.t 24)), none, none, [], false⟩]
def f25r7 : List SOper := [
⟨0, some 25, .p (.mv (.t 6)), none, none, [], false⟩,
⟨1, some 26, .p (.bin .neq (.t 25) (.c (.one (.int .i64 0)))), none, none, [], false⟩]
def f25r8 : List SOper := [
⟨0, some 27, .p (.mv (.t 0)), none, none, [], false⟩,
⟨1, some 28, .p (.mv (.t 3)), none, none, [], false⟩,
⟨2, some 29, .p (.mv (.t 6)), none, none, [], false⟩,
⟨3, some 30, .cv (.t 27) [(.t 28), (.t 29)], none, none, [], false⟩]
def f25r9 : List SOper := [
⟨0, some 31, .p (.bin .add (.t 17) (.c (.one (.int .i64 1)))), none, none, [], false⟩,
⟨1, some 17, .p (.mv (.t 31)), none, none, [], false⟩]
def f25b0 : SC := (.seq (.ops f25r4 0) (.seq (.cond (.t 18) .skip (.exit 2)) (.seq (.block 3 (.seq (.ops f25r5 0) (.seq (.ops f25r6 0) (.seq (.ops f25r7 0) (.cond (.t 26) (.seq (.ops f25r8 0) .ret) .skip))))) (.ops f25r9 0))))
def f25r10 : List SOper := [
⟨0, some 32, .p (.bin .add (.t 12) (.c (.one (.int .i64 1)))), none, none, [], false⟩,
⟨1, some 12, .p (.mv (.t 32)), none, none, [], false⟩]
def f25b1 : SC := (.seq (.ops f25r1 0) (.seq (.cond (.t 13) .skip (.exit 0)) (.seq (.block 1 (.seq (.ops f25r2 0) (.seq (.ops f25r3 0) (.block 2 (.loop f25b0))))) (.ops f25r10 0))))
def f25c : SC := (.seq (.ops f25r0 0) (.block 0 (.loop f25b1)))
def f25 : SFn := ⟨33, f25c, []⟩

/- sixdot/bind.conditions -/
def f26r0 : List SOper := [
⟨0, some 0, .p (.mv (.c (.one .nils))), none, none, [], false⟩]
def f26r1 : List SOper := [
⟨0, some 1, .a (.bslice 1 3 [.nilf] [(0, 1, (.c (.one (.fn 28 [])))), (1, 1, (.c (.one (.fn 29 [])))), (2, 1, (.c (.one (.fn 30 []))))]), none, none, [], false⟩,
⟨1, some 0, .p (.mv (.t 1)), none, none, [], false⟩]
def f26c : SC := (.seq (.ops f26r0 0) (.seq (.ops f26r1 0) .ret))
def f26 : SFn := ⟨2, f26c, [.t 0]⟩

/- sixdot/sixdotref19.Digit -/
def f27r0 : List SOper := [
⟨0, some 2, .p (.mv (.c (.one (.int .u8 0)))), none, none, [], false⟩]
def f27r1 : List SOper := [
⟨0, some 3, .cf 21 [], none, none, [], false⟩,
⟨1, some 4, .p (.mv (.t 0)), none, none, [], false⟩,
⟨2, some 5, .p (.bin .add (.t 4) (.c (.one (.int .i64 9)))), none, none, [], false⟩,
⟨3, some 6, .p (.bin .rem (.t 5) (.c (.one (.int .i64 10)))), none, none, [], false⟩,
⟨4, some 7, .p (.iaddr 1 (.t 3) (.t 6)), none, none, [], false⟩,
⟨5, some 8, .l (.load false 1 (.t 7)), none, none, [], false⟩,
⟨6, some 2, .p (.mv (.t 8)), none, none, [], false⟩]
def f27c : SC := (.seq (.ops f27r0 0) (.seq (.ops f27r1 0) .ret))
def f27 : SFn := ⟨9, f27c, [.t 2]⟩

/- (*sixdot/bind.checker).leaf -/
def f28r0 : List SOper := [
⟨0, some 4, .p (.mv (.c (.one (.int .i64 0)))), none, none, [], false⟩]
def f28r1 : List SOper := [
⟨0, some 8, .p (.mv (.t 0)), none, none, [], false⟩,
⟨1, some 9, .p (.nilck (.t 8)), none, none, [], false⟩,
⟨2, some 10, .p (.faddr 0 (.t 9)), none, none, [], false⟩,
⟨3, some 11, .l (.load false 1 (.t 10)), none, none, [], false⟩,
⟨4, some 12, .p (.mv (.t 1)), none, none, [], false⟩,
⟨5, some 13, .p (.iaddr 4 (.t 11) (.t 12)), none, none, [], false⟩,
⟨6, some 14, .l (.load true 4 (.t 13)), none, none, [], false⟩,
⟨7, some 15, .cf 31 [(.t 14)], none, none, [], false⟩,
⟨8, some 7, .p (.mv (.t 15)), none, none, [], false⟩,
⟨9, some 16, .p (.extract (.t 7) 0), none, none, [], false⟩,
⟨10, some 17, .p (.extract (.t 7) 1), none, none, [], false⟩,
⟨11, some 5, .a (.alloc [(.int .i64 0), (.int .i64 0), .nils, .nils]), none, none, [], false⟩,
⟨12, none, .e (.store 4 (.t 5) (.t 16)), none, none, [], false⟩,
⟨13, some 6, .p (.mv (.t 17)), none, none, [], false⟩]
def f28r2 : List SOper := [
⟨0, some 18, .p (.mv (.t 6)), none, none, [], false⟩,
⟨1, some 19, .p (.bin .neq (.t 18) (.c (.one (.int .i64 0)))), none, none, [], false⟩]
def f28r3 : List SOper := [
⟨0, some 4, .p (.mv (.c (.one (.int .i64 250)))), none, none, [], false⟩]
def f28r4 : List SOper := [
⟨0, some 20, .p (.mv (.t 0)), none, none, [], false⟩,
⟨1, some 21, .p (.mv (.t 0)), none, none, [], false⟩,
⟨2, some 22, .p (.nilck (.t 21)), none, none, [], false⟩,
⟨3, some 23, .p (.faddr 1 (.t 22)), none, none, [], false⟩,
⟨4, some 24, .l (.load false 1 (.t 23)), none, none, [], false⟩,
⟨5, some 25, .l (.load true 4 (.t 5)), none, none, [], false⟩,
⟨6, some 26, .a (.bslice 4 1 [(.int .i64 0), (.int .i64 0), .nils, .nils] [(0, 4, (.t 25))]), none, (some 6), [], false⟩,
⟨7, some 27, .e (.append 4 64 (.t 24) (.t 26)), none, none, [], false⟩,
⟨8, some 28, .p (.nilck (.t 20)), none, none, [], false⟩,
⟨9, some 29, .p (.faddr 1 (.t 28)), none, none, [], false⟩,
⟨10, none, .e (.store 1 (.t 29) (.t 27)), none, none, [], false⟩]
def f28r5 : List SOper := [
⟨0, some 4, .p (.mv (.c (.one (.int .i64 0)))), none, none, [], false⟩]
def f28c : SC := (.seq (.ops f28r0 0) (.seq (.ops f28r1 0) (.seq (.seq (.ops f28r2 0) (.cond (.t 19) (.seq (.ops f28r3 0) .ret) .skip)) (.seq (.ops f28r4 11) (.seq (.ops f28r5 0) .ret)))))
def f28 : SFn := ⟨30, f28c, [.t 4]⟩

/- (*sixdot/bind.checker).size -/
def f29r0 : List SOper := [
⟨0, some 4, .p (.mv (.c (.one (.int .i64 0)))), none, none, [], false⟩]
def f29r1 : List SOper := [
⟨0, some 5, .p (.mv (.t 0)), none, none, [], false⟩,
⟨1, some 6, .p (.nilck (.t 5)), none, none, [], false⟩,
⟨2, some 7, .p (.faddr 0 (.t 6)), none, none, [], false⟩,
⟨3, some 8, .l (.load false 1 (.t 7)), none, none, [], false⟩,
⟨4, some 9, .p (.mv (.t 1)), none, none, [], false⟩,
⟨5, some 10, .p (.iaddr 4 (.t 8) (.t 9)), none, none, [], false⟩,
⟨6, some 11, .p (.faddr 0 (.t 10)), none, none, [], false⟩,
⟨7, some 12, .l (.load false 1 (.t 11)), none, none, [], false⟩,
⟨8, some 13, .p (.mv (.t 0)), none, none, [], false⟩,
⟨9, some 14, .p (.nilck (.t 13)), none, none, [], false⟩,
⟨10, some 15, .p (.faddr 0 (.t 14)), none, none, [], false⟩,
⟨11, some 16, .l (.load false 1 (.t 15)), none, none, [], false⟩,
⟨12, some 17, .p (.iaddr 4 (.t 16) (.c (.one (.int .i64 0)))), none, none, [], false⟩,
⟨13, some 18, .p (.faddr 0 (.t 17)), none, none, [], false⟩,
⟨14, some 19, .l (.load false 1 (.t 18)), none, none, [], false⟩,
⟨15, some 20, .p (.bin .neq (.t 12) (.t 19)), none, none, [], false⟩,
⟨16, some 21, .p (.mv (.t 20)), none, none, [], false⟩,
⟨17, some 22, .p (.mv (.t 0)), (some (21, false)), none, [], false⟩,
⟨18, some 23, .p (.nilck (.t 22)), (some (21, false)), none, [], false⟩,
⟨19, some 24, .p (.faddr 0 (.t 23)), (some (21, false)), none, [], false⟩,
⟨20, some 25, .l (.load false 1 (.t 24)), (some (21, false)), none, [], false⟩,
⟨21, some 26, .p (.mv (.t 1)), (some (21, false)), none, [], false⟩,
⟨22, some 27, .p (.iaddr 4 (.t 25) (.t 26)), (some (21, false)), none, [], false⟩,
⟨23, some 28, .p (.faddr 1 (.t 27)), (some (21, false)), none, [], false⟩,
⟨24, some 29, .l (.load false 1 (.t 28)), (some (21, false)), none, [], false⟩,
⟨25, some 30, .p (.mv (.t 0)), (some (21, false)), none, [], false⟩,
⟨26, some 31, .p (.nilck (.t 30)), (some (21, false)), none, [], false⟩,
⟨27, some 32, .p (.faddr 0 (.t 31)), (some (21, false)), none, [], false⟩,
⟨28, some 33, .l (.load false 1 (.t 32)), (some (21, false)), none, [], false⟩,
⟨29, some 34, .p (.iaddr 4 (.t 33) (.c (.one (.int .i64 0)))), (some (21, false)), none, [], false⟩,
⟨30, some 35, .p (.faddr 1 (.t 34)), (some (21, false)), none, [], false⟩,
⟨31, some 36, .l (.load false 1 (.t 35)), (some (21, false)), none, [], false⟩,
⟨32, some 37, .p (.bin .neq (.t 29) (.t 36)), (some (21, false)), none, [], false⟩,
⟨33, some 38, .p (.pick (.t 21) (.c (.one (.bool true))) (.t 37)), none, none, [], false⟩]
def f29r2 : List SOper := [
⟨0, some 4, .p (.mv (.c (.one (.int .i64 340)))), none, none, [], false⟩]
def f29r3 : List SOper := [
⟨0, some 4, .p (.mv (.c (.one (.int .i64 0)))), none, none, [], false⟩]
def f29c : SC := (.seq (.ops f29r0 0) (.seq (.seq (.ops f29r1 34) (.cond (.t 38) (.seq (.ops f29r2 0) .ret) .skip)) (.seq (.ops f29r3 0) .ret)))
def f29 : SFn := ⟨39, f29c, [.t 4]⟩

/- (*sixdot/bind.checker).label -/
def f30r0 : List SOper := [
⟨0, some 4, .p (.mv (.c (.one (.int .i64 0)))), none, none, [], false⟩]
def f30r1 : List SOper := [
⟨0, some 6, .p (.mv (.t 0)), none, none, [], false⟩,
⟨1, some 7, .p (.nilck (.t 6)), none, none, [], false⟩,
⟨2, some 8, .p (.faddr 1 (.t 7)), none, none, [], false⟩,
⟨3, some 9, .l (.load false 1 (.t 8)), none, none, [], false⟩,
⟨4, some 10, .p (.mv (.t 1)), none, none, [], false⟩,
⟨5, some 11, .p (.iaddr 4 (.t 9) (.t 10)), none, none, [], false⟩,
⟨6, some 12, .p (.faddr 0 (.t 11)), none, none, [], false⟩,
⟨7, some 13, .l (.load true 2 (.t 12)), none, none, [], false⟩,
⟨8, some 5, .a (.alloc [(.int .i64 0), (.int .i64 0)]), none, none, [], false⟩,
⟨9, none, .e (.store 2 (.t 5) (.t 13)), none, none, [], false⟩]
def f30r2 : List SOper := [
⟨0, some 14, .p (.mv (.t 1)), none, none, [], false⟩,
⟨1, some 15, .p (.bin .eql (.t 14) (.c (.one (.int .i64 0)))), none, none, [], false⟩]
def f30r3 : List SOper := [
⟨0, some 16, .l (.load true 2 (.t 5)), none, none, [], false⟩,
⟨1, some 17, .p (.build [(.int .i64 0), (.int .i64 0)] [(0, 1, (.c (.one (.int .i64 1))))]), none, none, [], false⟩,
⟨2, some 18, .p (.eqs true [(0, false), (1, false)] (.t 16) (.t 17)), none, none, [], false⟩]
def f30r4 : List SOper := [
⟨0, some 4, .p (.mv (.c (.one (.int .i64 340)))), none, none, [], false⟩]
def f30r5 : List SOper := [
⟨0, some 4, .p (.mv (.c (.one (.int .i64 0)))), none, none, [], false⟩]
def f30r6 : List SOper := [
⟨0, some 19, .p (.mv (.t 0)), none, none, [], false⟩,
⟨1, some 20, .p (.nilck (.t 19)), none, none, [], false⟩,
⟨2, some 21, .p (.faddr 1 (.t 20)), none, none, [], false⟩,
⟨3, some 22, .l (.load false 1 (.t 21)), none, none, [], false⟩,
⟨4, some 23, .p (.mv (.t 1)), none, none, [], false⟩,
⟨5, some 24, .p (.bin .sub (.t 23) (.c (.one (.int .i64 1)))), none, none, [], false⟩,
⟨6, some 25, .p (.iaddr 4 (.t 22) (.t 24)), none, none, [], false⟩,
⟨7, some 26, .p (.faddr 0 (.t 25)), none, none, [], false⟩,
⟨8, some 27, .l (.load true 2 (.t 26)), none, none, [], false⟩,
⟨9, some 28, .l (.load true 2 (.t 5)), none, none, [], false⟩,
⟨10, some 29, .cf 32 [(.t 27), (.t 28)], none, none, [], false⟩,
⟨11, some 30, .p (.not (.t 29)), none, none, [], false⟩]
def f30r7 : List SOper := [
⟨0, some 4, .p (.mv (.c (.one (.int .i64 340)))), none, none, [], false⟩]
def f30r8 : List SOper := [
⟨0, some 4, .p (.mv (.c (.one (.int .i64 0)))), none, none, [], false⟩]
def f30c : SC := (.seq (.ops f30r0 0) (.seq (.ops f30r1 0) (.seq (.seq (.ops f30r2 0) (.cond (.t 15) (.seq (.seq (.ops f30r3 0) (.cond (.t 18) (.seq (.ops f30r4 0) .ret) .skip)) (.seq (.ops f30r5 0) .ret)) .skip)) (.seq (.seq (.ops f30r6 12) (.cond (.t 30) (.seq (.ops f30r7 0) .ret) .skip)) (.seq (.ops f30r8 0) .ret)))))
def f30 : SFn := ⟨31, f30c, [.t 4]⟩

/- sixdot/sheet.Leaf -/
def f31r0 : List SOper := [
⟨0, some 1, .a (.box (.t 0)), none, none, [], false⟩,
⟨1, some 2, .a (.alloc [(.int .i64 0), (.int .i64 0), .nils, .nils]), none, none, [], false⟩,
⟨2, some 3, .p (.mv (.c (.one (.int .i64 0)))), none, none, [], false⟩]
def f31r1 : List SOper := [
⟨0, some 9, .l (.load true 4 (.t 1)), none, none, [], false⟩,
⟨1, some 10, .cf 33 [(.t 9)], none, none, [], false⟩,
⟨2, some 11, .p (.not (.t 10)), none, none, [], false⟩]
def f31r2 : List SOper := [
⟨0, some 12, .p (.build [(.int .i64 0), (.int .i64 0), .nils, .nils] []), none, none, [], false⟩,
⟨1, none, .e (.store 4 (.t 2) (.t 12)), none, none, [], false⟩,
⟨2, some 3, .p (.mv (.c (.one (.int .i64 250)))), none, none, [], false⟩]
def f31r3 : List SOper := [
⟨0, some 13, .l (.load true 4 (.t 1)), none, none, [], false⟩,
⟨2, some 15, .l (.load true 4 (.t 1)), none, none, [], true⟩,
⟨1, some 14, .cf 34 [(.t 13)], none, none, [2], false⟩,
⟨3, some 16, .cf 35 [(.t 15)], none, none, [], false⟩,
⟨4, some 17, .p (.build [(.int .i64 0), (.int .i64 0), .nils, .nils] [(2, 1, (.t 14)), (3, 1, (.t 16))]), none, none, [], false⟩,
⟨5, some 4, .a (.alloc [(.int .i64 0), (.int .i64 0), .nils, .nils]), none, (some 5), [], false⟩,
⟨6, none, .e (.store 4 (.t 4) (.t 17)), none, none, [], false⟩]
def f31r4 : List SOper := [
⟨0, some 19, .p (.faddr 2 (.t 4)), none, none, [], false⟩,
⟨1, some 20, .l (.load false 1 (.t 19)), none, none, [], false⟩,
⟨2, some 21, .p (.faddr 0 (.t 1)), none, none, [], false⟩,
⟨3, some 22, .l (.load false 1 (.t 21)), none, none, [], false⟩,
⟨4, some 23, .p (.bin .quo (.t 22) (.c (.one (.int .i64 2)))), none, none, [], false⟩,
⟨5, some 24, .cf 36 [(.t 20), (.t 23)], none, none, [], false⟩,
⟨6, some 18, .p (.mv (.t 24)), none, none, [], false⟩,
⟨7, some 25, .p (.extract (.t 18) 0), none, none, [], false⟩,
⟨8, some 26, .p (.extract (.t 18) 1), none, none, [], false⟩,
⟨9, some 5, .a (.alloc [(.int .i64 0), (.int .i64 0), (.int .i64 0), (.bool false), (.int .i64 0), (.int .i64 0)]), none, none, [], false⟩,
⟨10, none, .e (.store 6 (.t 5) (.t 25)), none, none, [], false⟩,
⟨11, some 6, .p (.mv (.t 26)), none, none, [], false⟩]
def f31r5 : List SOper := [
⟨0, some 27, .p (.mv (.t 6)), none, none, [], false⟩,
⟨1, some 28, .p (.not (.t 27)), none, none, [], false⟩,
⟨2, some 29, .p (.mv (.t 28)), none, none, [], false⟩,
⟨3, some 30, .p (.faddr 3 (.t 5)), (some (29, false)), none, [], false⟩,
⟨4, some 31, .l (.load false 1 (.t 30)), (some (29, false)), none, [], false⟩,
⟨5, some 32, .p (.pick (.t 29) (.c (.one (.bool true))) (.t 31)), none, none, [], false⟩]
def f31r6 : List SOper := [
⟨0, some 33, .p (.build [(.int .i64 0), (.int .i64 0), .nils, .nils] []), none, none, [], false⟩,
⟨1, none, .e (.store 4 (.t 2) (.t 33)), none, none, [], false⟩,
⟨2, some 3, .p (.mv (.c (.one (.int .i64 250)))), none, none, [], false⟩]
def f31r7 : List SOper := [
⟨0, some 34, .p (.faddr 3 (.t 4)), none, none, [], false⟩,
⟨1, some 35, .l (.load false 1 (.t 34)), none, none, [], false⟩,
⟨2, some 36, .p (.len (.t 35)), none, none, [], false⟩,
⟨3, some 37, .p (.bin .gtr (.t 36) (.c (.one (.int .i64 0)))), none, none, [], false⟩]
def f31r8 : List SOper := [
⟨0, some 39, .p (.faddr 3 (.t 4)), none, none, [], false⟩,
⟨1, some 40, .l (.load false 1 (.t 39)), none, none, [], false⟩,
⟨2, some 41, .p (.faddr 0 (.t 1)), none, none, [], false⟩,
⟨3, some 42, .l (.load false 1 (.t 41)), none, none, [], false⟩,
⟨4, some 43, .p (.bin .quo (.t 42) (.c (.one (.int .i64 2)))), none, none, [], false⟩,
⟨5, some 44, .cf 36 [(.t 40), (.t 43)], none, none, [], false⟩,
⟨6, some 38, .p (.mv (.t 44)), none, none, [], false⟩,
⟨7, some 45, .p (.extract (.t 38) 0), none, none, [], false⟩,
⟨8, some 46, .p (.extract (.t 38) 1), none, none, [], false⟩,
⟨9, some 7, .a (.alloc [(.int .i64 0), (.int .i64 0), (.int .i64 0), (.bool false), (.int .i64 0), (.int .i64 0)]), none, none, [], false⟩,
⟨10, none, .e (.store 6 (.t 7) (.t 45)), none, none, [], false⟩,
⟨11, some 8, .p (.mv (.t 46)), none, none, [], false⟩]
def f31r9 : List SOper := [
⟨0, some 47, .p (.mv (.t 8)), none, none, [], false⟩,
⟨1, some 48, .p (.not (.t 47)), none, none, [], false⟩,
⟨2, some 49, .p (.mv (.t 48)), none, none, [], false⟩,
⟨3, some 50, .p (.faddr 3 (.t 7)), (some (49, false)), none, [], false⟩,
⟨4, some 51, .l (.load false 1 (.t 50)), (some (49, false)), none, [], false⟩,
⟨5, some 52, .p (.not (.t 51)), (some (49, false)), none, [], false⟩,
⟨6, some 53, .p (.pick (.t 49) (.c (.one (.bool true))) (.t 52)), none, none, [], false⟩,
⟨7, some 54, .p (.mv (.t 53)), none, none, [], false⟩,
⟨8, some 55, .p (.faddr 1 (.t 7)), (some (54, false)), none, [], false⟩,
⟨9, some 56, .l (.load true 2 (.t 55)), (some (54, false)), none, [], false⟩,
⟨10, some 57, .p (.faddr 1 (.t 5)), (some (54, false)), none, [], false⟩,
⟨11, some 58, .l (.load true 2 (.t 57)), (some (54, false)), none, [], false⟩,
⟨12, some 59, .p (.eqs true [(0, false), (1, false)] (.t 56) (.t 58)), (some (54, false)), none, [], false⟩,
⟨13, some 60, .p (.pick (.t 54) (.c (.one (.bool true))) (.t 59)), none, none, [], false⟩]
def f31r10 : List SOper := [
⟨0, some 61, .p (.build [(.int .i64 0), (.int .i64 0), .nils, .nils] []), none, none, [], false⟩,
⟨1, none, .e (.store 4 (.t 2) (.t 61)), none, none, [], false⟩,
⟨2, some 3, .p (.mv (.c (.one (.int .i64 250)))), none, none, [], false⟩]
def f31r11 : List SOper := [
⟨0, some 62, .p (.faddr 1 (.t 5)), none, none, [], false⟩,
⟨1, some 63, .l (.load true 2 (.t 62)), none, none, [], false⟩,
⟨2, some 64, .p (.faddr 0 (.t 4)), none, none, [], false⟩,
⟨3, none, .e (.store 2 (.t 64) (.t 63)), none, none, [], false⟩]
def f31r12 : List SOper := [
⟨0, some 65, .l (.load true 4 (.t 4)), none, none, [], false⟩,
⟨1, none, .e (.store 4 (.t 2) (.t 65)), none, none, [], false⟩,
⟨2, some 3, .p (.mv (.c (.one (.int .i64 0)))), none, none, [], false⟩]
def f31c : SC := (.seq (.ops f31r0 0) (.seq (.seq (.ops f31r1 0) (.cond (.t 11) (.seq (.ops f31r2 0) .ret) .skip)) (.seq (.ops f31r3 7) (.seq (.ops f31r4 0) (.seq (.seq (.ops f31r5 0) (.cond (.t 32) (.seq (.ops f31r6 0) .ret) .skip)) (.seq (.seq (.ops f31r7 0) (.cond (.t 37) (.seq (.ops f31r8 0) (.seq (.ops f31r9 0) (.cond (.t 60) (.seq (.ops f31r10 0) .ret) .skip))) .skip)) (.seq (.ops f31r11 0) (.seq (.ops f31r12 0) .ret))))))))
def f31 : SFn := ⟨66, f31c, [.cell true 4 2, .t 3]⟩

/- sixdot/bind.followed -/
def f32r0 : List SOper := [
⟨0, some 2, .a (.box (.t 0)), none, none, [], false⟩,
⟨1, some 3, .a (.box (.t 1)), none, none, [], false⟩,
⟨2, some 4, .p (.mv (.c (.one (.bool false)))), none, none, [], false⟩]
def f32r1 : List SOper := [
⟨0, some 7, .p (.faddr 0 (.t 2)), none, none, [], false⟩,
⟨1, some 8, .l (.load false 1 (.t 7)), none, none, [], false⟩,
⟨2, some 9, .p (.bin .add (.t 8) (.c (.one (.int .i64 1)))), none, none, [], false⟩,
⟨3, some 10, .p (.build [(.int .i64 0), (.int .i64 0)] [(0, 1, (.t 9))]), none, none, [], false⟩,
⟨4, some 11, .p (.faddr 0 (.t 2)), none, none, [], false⟩,
⟨5, some 12, .l (.load false 1 (.t 11)), none, none, [], true⟩,
⟨6, some 13, .p (.faddr 1 (.t 2)), none, none, [], false⟩,
⟨7, some 14, .l (.load false 1 (.t 13)), none, none, [], true⟩,
⟨8, some 15, .p (.bin .add (.t 14) (.c (.one (.int .i64 1)))), none, none, [], false⟩,
⟨9, some 16, .p (.build [(.int .i64 0), (.int .i64 0)] [(0, 1, (.t 12)), (1, 1, (.t 15))]), none, none, [], false⟩,
⟨10, some 5, .a (.alloc [(.int .i64 0), (.int .i64 0)]), none, (some 10), [], false⟩,
⟨11, some 6, .a (.alloc [(.int .i64 0), (.int .i64 0)]), none, (some 11), [], false⟩,
⟨12, none, .e (.store 2 (.t 5) (.t 10)), none, none, [7, 5], false⟩,
⟨13, none, .e (.store 2 (.t 6) (.t 16)), none, none, [], false⟩]
def f32r2 : List SOper := [
⟨0, some 17, .l (.load true 2 (.t 3)), none, none, [], false⟩,
⟨1, some 18, .l (.load true 2 (.t 5)), none, none, [], false⟩,
⟨2, some 19, .p (.eqs false [(0, false), (1, false)] (.t 17) (.t 18)), none, none, [], false⟩,
⟨3, some 20, .p (.mv (.t 19)), none, none, [], false⟩,
⟨4, some 21, .p (.faddr 0 (.t 3)), (some (20, true)), none, [], false⟩,
⟨5, some 22, .l (.load false 1 (.t 21)), (some (20, true)), none, [], false⟩,
⟨6, some 23, .p (.bin .leq (.t 22) (.c (.one (.int .i64 9999)))), (some (20, true)), none, [], false⟩,
⟨7, some 24, .p (.pick (.t 20) (.t 23) (.c (.one (.bool false)))), none, none, [], false⟩,
⟨8, some 25, .p (.mv (.t 24)), none, none, [], false⟩,
⟨9, some 26, .l (.load true 2 (.t 3)), (some (25, false)), none, [], false⟩,
⟨10, some 27, .l (.load true 2 (.t 6)), (some (25, false)), none, [], false⟩,
⟨11, some 28, .p (.eqs false [(0, false), (1, false)] (.t 26) (.t 27)), (some (25, false)), none, [], false⟩,
⟨12, some 29, .p (.mv (.t 28)), (some (25, false)), none, [], false⟩,
⟨13, some 30, .p (.faddr 1 (.t 3)), (some (29, true)), none, [], false⟩,
⟨14, some 31, .l (.load false 1 (.t 30)), (some (29, true)), none, [], false⟩,
⟨15, some 32, .p (.bin .leq (.t 31) (.c (.one (.int .i64 2)))), (some (29, true)), none, [], false⟩,
⟨16, some 33, .p (.pick (.t 29) (.t 32) (.c (.one (.bool false)))), (some (25, false)), none, [], false⟩,
⟨17, some 34, .p (.pick (.t 25) (.c (.one (.bool true))) (.t 33)), none, none, [], false⟩,
⟨18, some 4, .p (.mv (.t 34)), none, none, [], false⟩]
def f32c : SC := (.seq (.ops f32r0 0) (.seq (.ops f32r1 14) (.seq (.ops f32r2 0) .ret)))
def f32 : SFn := ⟨35, f32c, [.t 4]⟩

/- sixdot/sheet.Valid -/
def f33r0 : List SOper := [
⟨0, some 1, .a (.box (.t 0)), none, none, [], false⟩,
⟨1, some 2, .p (.mv (.c (.one (.bool false)))), none, none, [], false⟩]
def f33r1 : List SOper := [
⟨0, some 3, .p (.faddr 0 (.t 1)), none, none, [], false⟩,
⟨1, some 4, .l (.load false 1 (.t 3)), none, none, [], false⟩,
⟨2, some 5, .p (.bin .rem (.t 4) (.c (.one (.int .i64 2)))), none, none, [], false⟩,
⟨3, some 6, .p (.bin .neq (.t 5) (.c (.one (.int .i64 0)))), none, none, [], false⟩,
⟨4, some 7, .p (.mv (.t 6)), none, none, [], false⟩,
⟨5, some 8, .p (.faddr 0 (.t 1)), (some (7, false)), none, [], false⟩,
⟨6, some 9, .l (.load false 1 (.t 8)), (some (7, false)), none, [], false⟩,
⟨7, some 10, .p (.bin .quo (.t 9) (.c (.one (.int .i64 2)))), (some (7, false)), none, [], false⟩,
⟨8, some 11, .p (.bin .lss (.t 10) (.c (.one (.int .i64 24)))), (some (7, false)), none, [], false⟩,
⟨9, some 12, .p (.pick (.t 7) (.c (.one (.bool true))) (.t 11)), none, none, [], false⟩,
⟨10, some 13, .p (.mv (.t 12)), none, none, [], false⟩,
⟨11, some 14, .p (.faddr 0 (.t 1)), (some (13, false)), none, [], false⟩,
⟨12, some 15, .l (.load false 1 (.t 14)), (some (13, false)), none, [], false⟩,
⟨13, some 16, .p (.bin .quo (.t 15) (.c (.one (.int .i64 2)))), (some (13, false)), none, [], false⟩,
⟨14, some 17, .p (.bin .gtr (.t 16) (.c (.one (.int .i64 60)))), (some (13, false)), none, [], false⟩,
⟨15, some 18, .p (.pick (.t 13) (.c (.one (.bool true))) (.t 17)), none, none, [], false⟩]
def f33r2 : List SOper := [
⟨0, some 2, .p (.mv (.c (.one (.bool false)))), none, none, [], false⟩]
def f33r3 : List SOper := [
⟨0, some 19, .p (.faddr 1 (.t 1)), none, none, [], false⟩,
⟨1, some 20, .l (.load false 1 (.t 19)), none, none, [], false⟩,
⟨2, some 21, .p (.bin .rem (.t 20) (.c (.one (.int .i64 3)))), none, none, [], false⟩,
⟨3, some 22, .p (.bin .neq (.t 21) (.c (.one (.int .i64 0)))), none, none, [], false⟩,
⟨4, some 23, .p (.mv (.t 22)), none, none, [], false⟩,
⟨5, some 24, .p (.faddr 1 (.t 1)), (some (23, false)), none, [], false⟩,
⟨6, some 25, .l (.load false 1 (.t 24)), (some (23, false)), none, [], false⟩,
⟨7, some 26, .p (.bin .quo (.t 25) (.c (.one (.int .i64 3)))), (some (23, false)), none, [], false⟩,
⟨8, some 27, .p (.bin .lss (.t 26) (.c (.one (.int .i64 4)))), (some (23, false)), none, [], false⟩,
⟨9, some 28, .p (.pick (.t 23) (.c (.one (.bool true))) (.t 27)), none, none, [], false⟩,
⟨10, some 29, .p (.mv (.t 28)), none, none, [], false⟩,
⟨11, some 30, .p (.faddr 1 (.t 1)), (some (29, false)), none, [], false⟩,
⟨12, some 31, .l (.load false 1 (.t 30)), (some (29, false)), none, [], false⟩,
⟨13, some 32, .p (.bin .quo (.t 31) (.c (.one (.int .i64 3)))), (some (29, false)), none, [], false⟩,
⟨14, some 33, .p (.bin .gtr (.t 32) (.c (.one (.int .i64 40)))), (some (29, false)), none, [], false⟩,
⟨15, some 34, .p (.pick (.t 29) (.c (.one (.bool true))) (.t 33)), none, none, [], false⟩]
def f33r4 : List SOper := [
⟨0, some 2, .p (.mv (.c (.one (.bool false)))), none, none, [], false⟩]
def f33r5 : List SOper := [
⟨0, some 35, .p (.faddr 2 (.t 1)), none, none, [], false⟩,
⟨1, some 36, .l (.load false 1 (.t 35)), none, none, [], false⟩,
⟨2, some 37, .p (.faddr 0 (.t 1)), none, none, [], false⟩,
⟨3, some 38, .l (.load false 1 (.t 37)), none, none, [], false⟩,
⟨4, some 39, .p (.faddr 1 (.t 1)), none, none, [], false⟩,
⟨5, some 40, .l (.load false 1 (.t 39)), none, none, [], false⟩,
⟨6, some 41, .cf 37 [(.t 36), (.t 38), (.t 40)], none, none, [], false⟩,
⟨7, some 42, .p (.mv (.t 41)), none, none, [], false⟩,
⟨8, some 43, .p (.faddr 3 (.t 1)), (some (42, true)), none, [], false⟩,
⟨9, some 44, .l (.load false 1 (.t 43)), (some (42, true)), none, [], false⟩,
⟨10, some 45, .p (.faddr 0 (.t 1)), (some (42, true)), none, [], false⟩,
⟨11, some 46, .l (.load false 1 (.t 45)), (some (42, true)), none, [], false⟩,
⟨12, some 47, .p (.faddr 1 (.t 1)), (some (42, true)), none, [], false⟩,
⟨13, some 48, .l (.load false 1 (.t 47)), (some (42, true)), none, [], false⟩,
⟨14, some 49, .cf 37 [(.t 44), (.t 46), (.t 48)], (some (42, true)), none, [], false⟩,
⟨15, some 50, .p (.pick (.t 42) (.t 49) (.c (.one (.bool false)))), none, none, [], false⟩,
⟨16, some 2, .p (.mv (.t 50)), none, none, [], false⟩]
def f33c : SC := (.seq (.ops f33r0 0) (.seq (.seq (.ops f33r1 0) (.cond (.t 18) (.seq (.ops f33r2 0) .ret) .skip)) (.seq (.seq (.ops f33r3 0) (.cond (.t 34) (.seq (.ops f33r4 0) .ret) .skip)) (.seq (.ops f33r5 0) .ret))))
def f33 : SFn := ⟨51, f33c, [.t 2]⟩

/- sixdot/sheet.Front -/
def f34r0 : List SOper := [
⟨0, some 1, .a (.box (.t 0)), none, none, [], false⟩,
⟨1, some 2, .p (.mv (.c (.one .nils))), none, none, [], false⟩]
def f34r1 : List SOper := [
⟨0, some 3, .l (.load true 4 (.t 1)), none, none, [], false⟩,
⟨1, some 4, .cf 33 [(.t 3)], none, none, [], false⟩,
⟨2, some 5, .p (.not (.t 4)), none, none, [], false⟩]
def f34r2 : List SOper := [
⟨0, some 2, .p (.mv (.c (.one .nils))), none, none, [], false⟩]
def f34r3 : List SOper := [
⟨0, some 6, .p (.faddr 2 (.t 1)), none, none, [], false⟩,
⟨1, some 7, .l (.load false 1 (.t 6)), none, none, [], false⟩,
⟨2, some 8, .p (.faddr 0 (.t 1)), none, none, [], false⟩,
⟨3, some 9, .l (.load false 1 (.t 8)), none, none, [], false⟩,
⟨4, some 10, .p (.faddr 1 (.t 1)), none, none, [], false⟩,
⟨5, some 11, .l (.load false 1 (.t 10)), none, none, [], false⟩,
⟨6, some 12, .cf 38 [(.t 7), (.t 9), (.t 11), (.c (.one (.fn 39 [])))], none, none, [], false⟩,
⟨7, some 2, .p (.mv (.t 12)), none, none, [], false⟩]
def f34c : SC := (.seq (.ops f34r0 0) (.seq (.seq (.ops f34r1 0) (.cond (.t 5) (.seq (.ops f34r2 0) .ret) .skip)) (.seq (.ops f34r3 0) .ret)))
def f34 : SFn := ⟨13, f34c, [.t 2]⟩

/- sixdot/sheet.Back -/
def f35r0 : List SOper := [
⟨0, some 1, .a (.box (.t 0)), none, none, [], false⟩,
⟨1, some 2, .p (.mv (.c (.one .nils))), none, none, [], false⟩]
def f35r1 : List SOper := [
⟨0, some 3, .l (.load true 4 (.t 1)), none, none, [], false⟩,
⟨1, some 4, .cf 33 [(.t 3)], none, none, [], false⟩,
⟨2, some 5, .p (.not (.t 4)), none, none, [], false⟩]
def f35r2 : List SOper := [
⟨0, some 2, .p (.mv (.c (.one .nils))), none, none, [], false⟩]
def f35r3 : List SOper := [
⟨0, some 6, .p (.faddr 3 (.t 1)), none, none, [], false⟩,
⟨1, some 7, .l (.load false 1 (.t 6)), none, none, [], false⟩,
⟨2, some 8, .p (.faddr 0 (.t 1)), none, none, [], false⟩,
⟨3, some 9, .l (.load false 1 (.t 8)), none, none, [], false⟩,
⟨4, some 10, .p (.faddr 1 (.t 1)), none, none, [], false⟩,
⟨5, some 11, .l (.load false 1 (.t 10)), none, none, [], false⟩,
⟨6, some 12, .cf 38 [(.t 7), (.t 9), (.t 11), (.c (.one (.fn 40 [])))], none, none, [], false⟩,
⟨7, some 2, .p (.mv (.t 12)), none, none, [], false⟩]
def f35c : SC := (.seq (.ops f35r0 0) (.seq (.seq (.ops f35r1 0) (.cond (.t 5) (.seq (.ops f35r2 0) .ret) .skip)) (.seq (.ops f35r3 0) .ret)))
def f35 : SFn := ⟨13, f35c, [.t 2]⟩

/- sixdot/sheet.header -/
def f36r0 : List SOper := [
⟨0, some 4, .a (.alloc [(.int .i64 0), (.int .i64 0), (.int .i64 0), (.bool false), (.int .i64 0), (.int .i64 0)]), none, none, [], false⟩,
⟨1, some 5, .p (.mv (.c (.one (.bool false)))), none, none, [], false⟩]
def f36r1 : List SOper := [
⟨0, some 8, .p (.mv (.t 0)), none, none, [], false⟩,
⟨1, some 9, .p (.len (.t 8)), none, none, [], false⟩,
⟨2, some 10, .p (.bin .eql (.t 9) (.c (.one (.int .i64 0)))), none, none, [], false⟩]
def f36r2 : List SOper := [
⟨0, some 11, .p (.build [(.int .i64 0), (.int .i64 0), (.int .i64 0), (.bool false), (.int .i64 0), (.int .i64 0)] []), none, none, [], false⟩,
⟨1, none, .e (.store 6 (.t 4) (.t 11)), none, none, [], false⟩,
⟨2, some 5, .p (.mv (.c (.one (.bool false)))), none, none, [], false⟩]
def f36r3 : List SOper := [
⟨0, some 13, .p (.mv (.t 0)), none, none, [], false⟩,
⟨1, some 14, .p (.iaddr 1 (.t 13) (.c (.one (.int .i64 0)))), none, none, [], false⟩,
⟨2, some 15, .l (.load false 1 (.t 14)), none, none, [], false⟩,
⟨3, some 16, .cf 41 [(.t 15)], none, none, [], false⟩,
⟨4, some 12, .p (.mv (.t 16)), none, none, [], false⟩,
⟨5, some 17, .p (.extract (.t 12) 0), none, none, [], false⟩,
⟨6, some 18, .p (.extract (.t 12) 1), none, none, [], false⟩,
⟨7, some 6, .a (.alloc [(.int .i64 0), (.int .i64 0), (.int .i64 0), (.bool false), (.int .i64 0), (.int .i64 0)]), none, none, [], false⟩,
⟨8, none, .e (.store 6 (.t 6) (.t 17)), none, none, [], false⟩,
⟨9, some 7, .p (.mv (.t 18)), none, none, [], false⟩]
def f36r4 : List SOper := [
⟨0, some 19, .l (.load true 6 (.t 6)), none, none, [], false⟩,
⟨1, some 20, .p (.mv (.t 7)), none, none, [], false⟩,
⟨2, some 21, .p (.bin .eql (.t 20) (.c (.one (.int .i64 0)))), none, none, [], false⟩,
⟨3, some 22, .p (.mv (.t 21)), none, none, [], false⟩,
⟨4, some 23, .p (.faddr 0 (.t 6)), (some (22, true)), none, [], false⟩,
⟨5, some 24, .l (.load false 1 (.t 23)), (some (22, true)), none, [], true⟩,
⟨6, some 25, .p (.mv (.t 1)), (some (22, true)), none, [], false⟩,
⟨7, some 26, .p (.bin .eql (.t 24) (.t 25)), (some (22, true)), none, [], false⟩,
⟨8, some 27, .p (.pick (.t 22) (.t 26) (.c (.one (.bool false)))), none, none, [], false⟩,
⟨9, none, .e (.store 6 (.t 4) (.t 19)), none, none, [5], false⟩,
⟨10, some 5, .p (.mv (.t 27)), none, none, [], false⟩]
def f36c : SC := (.seq (.ops f36r0 0) (.seq (.seq (.ops f36r1 0) (.cond (.t 10) (.seq (.ops f36r2 0) .ret) .skip)) (.seq (.ops f36r3 0) (.seq (.ops f36r4 11) .ret))))
def f36 : SFn := ⟨28, f36c, [.cell true 6 4, .t 5]⟩

/- sixdot/sheet.filled -/
def f37r0 : List SOper := [
⟨0, some 6, .p (.mv (.c (.one (.bool false)))), none, none, [], false⟩]
def f37r1 : List SOper := [
⟨0, some 9, .p (.mv (.t 0)), none, none, [], false⟩,
⟨1, some 10, .p (.len (.t 9)), none, none, [], false⟩,
⟨2, some 11, .p (.mv (.t 2)), none, none, [], false⟩,
⟨3, some 12, .p (.bin .neq (.t 10) (.t 11)), none, none, [], false⟩]
def f37r2 : List SOper := [
⟨0, some 6, .p (.mv (.c (.one (.bool false)))), none, none, [], false⟩]
def f37r3 : List SOper := [
⟨0, some 13, .p (.mv (.t 0)), none, none, [], false⟩,
⟨1, some 14, .p (.len (.t 13)), none, none, [], false⟩,
⟨2, some 15, .p (.mv (.c (.one (.int .i64 0)))), none, none, [], false⟩]
def f37r4 : List SOper := [
⟨0, some 16, .p (.bin .lss (.t 15) (.t 14)), none, none, [], false⟩]
def f37r5 : List SOper := [
⟨0, some 17, .p (.iaddr 1 (.t 13) (.t 15)), none, none, [], false⟩,
⟨1, some 18, .l (.load false 1 (.t 17)), none, none, [], false⟩,
⟨2, some 8, .p (.mv (.t 18)), none, none, [], false⟩]
def f37r6 : List SOper := [
⟨0, some 19, .p (.mv (.t 8)), none, none, [], false⟩,
⟨1, some 20, .p (.len (.t 19)), none, none, [], false⟩,
⟨2, some 21, .p (.mv (.t 1)), none, none, [], false⟩,
⟨3, some 22, .p (.bin .neq (.t 20) (.t 21)), none, none, [], false⟩]
def f37r7 : List SOper := [
⟨0, some 6, .p (.mv (.c (.one (.bool false)))), none, none, [], false⟩]
def f37r8 : List SOper := [
⟨0, some 23, .p (.bin .add (.t 15) (.c (.one (.int .i64 1)))), none, none, [], false⟩,
⟨1, some 15, .p (.mv (.t 23)), none, none, [], false⟩]
def f37b0 : SC := (.seq (.ops f37r4 0) (.seq (.cond (.t 16) .skip (.exit 0)) (.seq (.block 1 (.seq (.ops f37r5 0) (.seq (.ops f37r6 0) (.cond (.t 22) (.seq (.ops f37r7 0) .ret) .skip)))) (.ops f37r8 0))))
def f37r9 : List SOper := [
⟨0, some 6, .p (.mv (.c (.one (.bool true)))), none, none, [], false⟩]
def f37c : SC := (.seq (.ops f37r0 0) (.seq (.seq (.ops f37r1 0) (.cond (.t 12) (.seq (.ops f37r2 0) .ret) .skip)) (.seq (.seq (.ops f37r3 0) (.block 0 (.loop f37b0))) (.seq (.ops f37r9 0) .ret))))
def f37 : SFn := ⟨24, f37c, [.t 6]⟩

/- sixdot/sheet.lower -/
def f38r0 : List SOper := [
⟨0, some 8, .p (.mv (.c (.one .nils))), none, none, [], false⟩]
def f38r1 : List SOper := [
⟨0, some 18, .p (.mv (.t 0)), none, none, [], false⟩,
⟨1, some 19, .p (.len (.t 18)), none, none, [], false⟩,
⟨2, some 20, .a (.mkslice 1 24 [.nils] (.t 19) (.t 19)), none, none, [], false⟩,
⟨3, some 9, .p (.mv (.t 20)), none, none, [], false⟩]
def f38r2 : List SOper := [
⟨0, some 21, .p (.mv (.t 0)), none, none, [], false⟩,
⟨1, some 22, .p (.len (.t 21)), none, none, [], false⟩,
⟨2, some 23, .p (.mv (.c (.one (.int .i64 0)))), none, none, [], false⟩]
def f38r3 : List SOper := [
⟨0, some 24, .p (.bin .lss (.t 23) (.t 22)), none, none, [], false⟩]
def f38r4 : List SOper := [
⟨0, some 25, .p (.mv (.t 23)), none, none, [], false⟩,
⟨1, some 26, .p (.iaddr 1 (.t 21) (.t 23)), none, none, [], false⟩,
⟨2, some 27, .l (.load false 1 (.t 26)), none, none, [], false⟩,
⟨3, some 10, .p (.mv (.t 25)), none, none, [], false⟩,
⟨4, some 11, .p (.mv (.t 27)), none, none, [], false⟩]
def f38r5 : List SOper := [
⟨0, some 28, .p (.mv (.t 9)), none, none, [], false⟩,
⟨1, some 29, .p (.mv (.t 10)), none, none, [], false⟩,
⟨2, some 30, .p (.mv (.t 3)), none, none, [], false⟩,
⟨3, some 31, .p (.mv (.t 11)), none, none, [], false⟩,
⟨4, some 32, .cv (.t 30) [(.t 31)], none, none, [], false⟩,
⟨5, some 33, .p (.iaddr 1 (.t 28) (.t 29)), none, none, [], false⟩,
⟨6, none, .e (.store 1 (.t 33) (.t 32)), none, none, [], false⟩]
def f38r6 : List SOper := [
⟨0, some 34, .p (.bin .add (.t 23) (.c (.one (.int .i64 1)))), none, none, [], false⟩,
⟨1, some 23, .p (.mv (.t 34)), none, none, [], false⟩]
def f38b0 : SC := (.seq (.ops f38r3 0) (.seq (.cond (.t 24) .skip (.exit 0)) (.seq (.block 1 (.seq (.ops f38r4 0) (.ops f38r5 0))) (.ops f38r6 0))))
def f38r7 : List SOper := [
⟨0, some 36, .p (.mv (.t 1)), none, none, [], false⟩,
⟨1, some 37, .p (.mv (.t 2)), none, none, [], false⟩,
⟨2, some 38, .p (.mv (.t 9)), none, none, [], false⟩,
⟨3, some 39, .p (.build [(.int .i64 0), (.int .i64 0), .nils] [(0, 1, (.t 36)), (1, 1, (.t 37)), (2, 1, (.t 38))]), none, none, [], false⟩,
⟨4, some 40, .cf 42 [(.t 39)], none, none, [], false⟩,
⟨5, some 35, .p (.mv (.t 40)), none, none, [], false⟩,
⟨6, some 41, .p (.extract (.t 35) 0), none, none, [], false⟩,
⟨7, some 42, .p (.extract (.t 35) 1), none, none, [], false⟩,
⟨8, some 12, .p (.mv (.t 41)), none, none, [], false⟩,
⟨9, some 13, .p (.mv (.t 42)), none, none, [], false⟩]
def f38r8 : List SOper := [
⟨0, some 43, .p (.mv (.t 13)), none, none, [], false⟩,
⟨1, some 44, .p (.bin .neq (.t 43) (.c (.one (.int .i64 0)))), none, none, [], false⟩]
def f38r9 : List SOper := [
⟨0, some 8, .p (.mv (.c (.one .nils))), none, none, [], false⟩]
def f38r10 : List SOper := [
⟨0, some 45, .p (.mv (.t 12)), none, none, [], false⟩,
⟨1, some 46, .p (.len (.t 45)), none, none, [], false⟩,
⟨2, some 47, .a (.mkslice 1 24 [.nils] (.c (.one (.int .i64 0))) (.t 46)), none, none, [], false⟩,
⟨3, some 14, .p (.mv (.t 47)), none, none, [], false⟩]
def f38r11 : List SOper := [
⟨0, some 15, .p (.mv (.c (.one (.int .i64 0)))), none, none, [], false⟩]
def f38r12 : List SOper := [
⟨0, some 48, .p (.mv (.t 12)), none, none, [], false⟩,
⟨1, some 49, .p (.len (.t 48)), none, none, [], false⟩,
⟨2, some 50, .p (.mv (.c (.one (.int .i64 0)))), none, none, [], false⟩]
def f38r13 : List SOper := [
⟨0, some 51, .p (.bin .lss (.t 50) (.t 49)), none, none, [], false⟩]
def f38r14 : List SOper := [
⟨0, some 52, .p (.mv (.t 50)), none, none, [], false⟩,
⟨1, some 53, .p (.iaddr 1 (.t 48) (.t 50)), none, none, [], false⟩,
⟨2, some 54, .l (.load false 1 (.t 53)), none, none, [], false⟩,
⟨3, some 16, .p (.mv (.t 52)), none, none, [], false⟩,
⟨4, some 17, .p (.mv (.t 54)), none, none, [], false⟩]
def f38r15 : List SOper := [
⟨0, some 55, .p (.mv (.t 14)), none, none, [], false⟩,
⟨1, some 56, .p (.mv (.t 17)), none, none, [], false⟩,
⟨2, some 57, .cf 43 [(.t 56)], none, none, [], false⟩,
⟨3, some 58, .a (.bslice 1 1 [.nils] [(0, 1, (.t 57))]), none, none, [], false⟩,
⟨4, some 59, .e (.append 1 24 (.t 55) (.t 58)), none, none, [], false⟩,
⟨5, some 14, .p (.mv (.t 59)), none, none, [], false⟩]
def f38r16 : List SOper := [
⟨0, some 60, .p (.mv (.t 14)), none, none, [], false⟩,
⟨1, some 61, .p (.mv (.t 16)), none, none, [], false⟩,
⟨2, some 62, .p (.iaddr 1 (.t 60) (.t 61)), none, none, [], false⟩,
⟨3, some 63, .l (.load false 1 (.t 62)), none, none, [], false⟩,
⟨4, some 64, .p (.len (.t 63)), none, none, [], false⟩,
⟨5, some 65, .p (.bin .gtr (.t 64) (.c (.one (.int .i64 0)))), none, none, [], false⟩]
def f38r17 : List SOper := [
⟨0, some 66, .p (.mv (.t 16)), none, none, [], false⟩,
⟨1, some 67, .p (.bin .add (.t 66) (.c (.one (.int .i64 1)))), none, none, [], false⟩,
⟨2, some 15, .p (.mv (.t 67)), none, none, [], false⟩]
def f38r18 : List SOper := [
⟨0, some 68, .p (.bin .add (.t 50) (.c (.one (.int .i64 1)))), none, none, [], false⟩,
⟨1, some 50, .p (.mv (.t 68)), none, none, [], false⟩]
def f38b1 : SC := (.seq (.ops f38r13 0) (.seq (.cond (.t 51) .skip (.exit 2)) (.seq (.block 3 (.seq (.ops f38r14 0) (.seq (.ops f38r15 0) (.seq (.ops f38r16 0) (.cond (.t 65) (.ops f38r17 0) .skip))))) (.ops f38r18 0))))
def f38r19 : List SOper := [
⟨0, some 69, .p (.mv (.t 14)), none, none, [], false⟩,
⟨1, some 70, .p (.mv (.t 15)), none, none, [], false⟩,
⟨2, some 71, .p (.mv (.t 15)), none, none, [], false⟩,
⟨3, some 72, .p (.slice 1 (.t 69) none (some (.t 70)) (some (.t 71))), none, none, [], false⟩,
⟨4, some 8, .p (.mv (.t 72)), none, none, [], false⟩]
def f38c : SC := (.seq (.ops f38r0 0) (.seq (.ops f38r1 0) (.seq (.seq (.ops f38r2 0) (.block 0 (.loop f38b0))) (.seq (.ops f38r7 0) (.seq (.seq (.ops f38r8 0) (.cond (.t 44) (.seq (.ops f38r9 0) .ret) .skip)) (.seq (.ops f38r10 0) (.seq (.ops f38r11 0) (.seq (.seq (.ops f38r12 0) (.block 2 (.loop f38b1))) (.seq (.ops f38r19 0) .ret)))))))))
def f38 : SFn := ⟨73, f38c, [.t 8]⟩

/- sixdot/sheet.straight -/
def f39r0 : List SOper := [
⟨0, some 2, .p (.mv (.c (.one .nils))), none, none, [], false⟩]
def f39r1 : List SOper := [
⟨0, some 4, .p (.mv (.t 0)), none, none, [], false⟩,
⟨1, some 5, .p (.len (.t 4)), none, none, [], false⟩,
⟨2, some 6, .a (.mkslice 1 1 [(.bool false)] (.t 5) (.t 5)), none, none, [], false⟩,
⟨3, some 3, .p (.mv (.t 6)), none, none, [], false⟩]
def f39r2 : List SOper := [
⟨0, some 7, .p (.mv (.t 3)), none, none, [], false⟩,
⟨1, some 8, .p (.mv (.t 0)), none, none, [], false⟩,
⟨2, some 9, .e (.copy 1 (.t 7) (.t 8)), none, none, [], false⟩]
def f39r3 : List SOper := [
⟨0, some 10, .p (.mv (.t 3)), none, none, [], false⟩,
⟨1, some 2, .p (.mv (.t 10)), none, none, [], false⟩]
def f39c : SC := (.seq (.ops f39r0 0) (.seq (.ops f39r1 0) (.seq (.ops f39r2 0) (.seq (.ops f39r3 0) .ret))))
def f39 : SFn := ⟨11, f39c, [.t 2]⟩

/- sixdot/sheet.turned -/
def f40r0 : List SOper := [
⟨0, some 2, .p (.mv (.c (.one .nils))), none, none, [], false⟩]
def f40r1 : List SOper := [
⟨0, some 4, .p (.mv (.t 0)), none, none, [], false⟩,
⟨1, some 5, .cf 39 [(.t 4)], none, none, [], false⟩,
⟨2, some 3, .p (.mv (.t 5)), none, none, [], false⟩]
def f40r2 : List SOper := [
⟨0, some 6, .p (.mv (.t 3)), none, none, [], false⟩,
⟨1, some 7, .cf 44 [(.t 6)], none, none, [], false⟩]
def f40r3 : List SOper := [
⟨0, some 8, .p (.mv (.t 3)), none, none, [], false⟩,
⟨1, some 2, .p (.mv (.t 8)), none, none, [], false⟩]
def f40c : SC := (.seq (.ops f40r0 0) (.seq (.ops f40r1 0) (.seq (.ops f40r2 0) (.seq (.ops f40r3 0) .ret))))
def f40 : SFn := ⟨9, f40c, [.t 2]⟩

/- sixdot/number.ReadHeader -/
def f41r0 : List SOper := [
⟨0, some 2, .a (.alloc [(.int .i64 0), (.int .i64 0), (.int .i64 0), (.bool false), (.int .i64 0), (.int .i64 0)]), none, none, [], false⟩,
⟨1, some 3, .p (.mv (.c (.one (.int .i64 0)))), none, none, [], false⟩]
def f41r1 : List SOper := [
⟨0, some 14, .p (.mv (.t 0)), none, none, [], false⟩,
⟨1, some 15, .cf 45 [(.t 14), (.c (.one (.int .u8 0)))], none, none, [], false⟩,
⟨2, some 4, .p (.mv (.t 15)), none, none, [], false⟩]
def f41r2 : List SOper := [
⟨0, some 16, .p (.mv (.t 4)), none, none, [], false⟩,
⟨1, some 17, .p (.bin .lss (.t 16) (.c (.one (.int .i64 0)))), none, none, [], false⟩]
def f41r3 : List SOper := [
⟨0, some 18, .p (.build [(.int .i64 0), (.int .i64 0), (.int .i64 0), (.bool false), (.int .i64 0), (.int .i64 0)] []), none, none, [], false⟩,
⟨1, none, .e (.store 6 (.t 2) (.t 18)), none, none, [], false⟩,
⟨2, some 3, .p (.mv (.c (.one (.int .i64 190)))), none, none, [], false⟩]
def f41r4 : List SOper := [
⟨0, some 19, .p (.mv (.t 0)), none, none, [], false⟩,
⟨1, some 20, .p (.len (.t 19)), none, none, [], false⟩,
⟨2, some 21, .p (.bin .sub (.t 20) (.c (.one (.int .i64 1)))), none, none, [], false⟩,
⟨3, some 5, .p (.mv (.t 21)), none, none, [], false⟩]
def f41r5 : List SOper := [
⟨0, some 22, .p (.mv (.t 0)), none, none, [], false⟩,
⟨1, some 23, .p (.mv (.t 5)), none, none, [], false⟩,
⟨2, some 24, .p (.iaddr 1 (.t 22) (.t 23)), none, none, [], false⟩,
⟨3, some 25, .l (.load false 1 (.t 24)), none, none, [], false⟩,
⟨4, some 26, .p (.bin .neq (.t 25) (.c (.one (.int .u8 0)))), none, none, [], false⟩]
def f41r6 : List SOper := [
⟨0, some 27, .p (.mv (.t 5)), none, none, [], false⟩,
⟨1, some 28, .p (.bin .sub (.t 27) (.c (.one (.int .i64 1)))), none, none, [], false⟩,
⟨2, some 5, .p (.mv (.t 28)), none, none, [], false⟩]
def f41b0 : SC := (.seq (.seq (.ops f41r5 0) (.cond (.t 26) .skip (.exit 0))) (.block 1 (.ops f41r6 0)))
def f41r7 : List SOper := [
⟨0, some 29, .p (.mv (.t 0)), none, none, [], false⟩,
⟨1, some 30, .p (.len (.t 29)), none, none, [], false⟩,
⟨2, some 31, .p (.build [(.int .i64 0), (.int .i64 0), (.int .i64 0), (.bool false), (.int .i64 0), (.int .i64 0)] [(0, 1, (.t 30))]), none, none, [], false⟩,
⟨3, some 6, .a (.alloc [(.int .i64 0), (.int .i64 0), (.int .i64 0), (.bool false), (.int .i64 0), (.int .i64 0)]), none, none, [], false⟩,
⟨4, none, .e (.store 6 (.t 6) (.t 31)), none, none, [], false⟩]
def f41r8 : List SOper := [
⟨0, some 32, .p (.mv (.t 0)), none, none, [], false⟩,
⟨1, some 33, .p (.mv (.t 4)), none, none, [], false⟩,
⟨2, some 34, .p (.slice 1 (.t 32) none (some (.t 33)) none), none, none, [], false⟩,
⟨3, some 7, .p (.mv (.t 34)), none, none, [], false⟩]
def f41r9 : List SOper := [
⟨0, some 35, .p (.mv (.t 7)), none, none, [], false⟩,
⟨1, some 36, .p (.len (.t 35)), none, none, [], false⟩,
⟨2, some 37, .p (.bin .gtr (.t 36) (.c (.one (.int .i64 0)))), none, none, [], false⟩]
def f41r10 : List SOper := [
⟨0, some 38, .p (.mv (.t 7)), none, none, [], false⟩,
⟨1, some 39, .p (.len (.t 38)), none, none, [], false⟩,
⟨2, some 40, .p (.bin .gtr (.t 39) (.c (.one (.int .i64 2)))), none, none, [], false⟩,
⟨3, some 41, .p (.mv (.t 40)), none, none, [], false⟩,
⟨4, some 42, .p (.mv (.t 7)), (some (41, true)), none, [], false⟩,
⟨5, some 43, .p (.iaddr 1 (.t 42) (.c (.one (.int .i64 0)))), (some (41, true)), none, [], false⟩,
⟨6, some 44, .l (.load false 1 (.t 43)), (some (41, true)), none, [], false⟩,
⟨7, some 45, .p (.bin .eql (.t 44) (.c (.one (.int .u8 48)))), (some (41, true)), none, [], false⟩,
⟨8, some 46, .p (.pick (.t 41) (.t 45) (.c (.one (.bool false)))), none, none, [], false⟩]
def f41r11 : List SOper := [
⟨0, some 47, .p (.mv (.t 7)), none, none, [], false⟩,
⟨1, some 48, .p (.iaddr 1 (.t 47) (.c (.one (.int .i64 1)))), none, none, [], false⟩,
⟨2, some 49, .l (.load false 1 (.t 48)), none, none, [], false⟩,
⟨3, some 50, .cf 46 [(.t 49)], none, none, [], false⟩,
⟨4, some 51, .p (.faddr 5 (.t 6)), none, none, [], false⟩,
⟨5, none, .e (.store 1 (.t 51) (.t 50)), none, none, [], false⟩]
def f41r12 : List SOper := [
⟨0, some 52, .p (.mv (.t 7)), none, none, [], false⟩,
⟨1, some 53, .p (.slice 1 (.t 52) (some (.c (.one (.int .i64 2)))) none none), none, none, [], false⟩,
⟨2, some 7, .p (.mv (.t 53)), none, none, [], false⟩]
def f41r13 : List SOper := [
⟨0, some 55, .p (.mv (.t 7)), none, none, [], false⟩,
⟨1, some 56, .cf 47 [(.t 55)], none, none, [], false⟩,
⟨2, some 54, .p (.mv (.t 56)), none, none, [], false⟩,
⟨3, some 57, .p (.extract (.t 54) 0), none, none, [], false⟩,
⟨4, some 58, .p (.extract (.t 54) 1), none, none, [], false⟩,
⟨5, some 59, .p (.extract (.t 54) 2), none, none, [], false⟩,
⟨6, some 60, .p (.faddr 4 (.t 6)), none, none, [], false⟩,
⟨7, none, .e (.store 1 (.t 60) (.t 57)), none, none, [], false⟩]
def f41r14 : List SOper := [
⟨0, some 61, .p (.mv (.t 0)), none, none, [], false⟩,
⟨1, some 62, .p (.mv (.t 5)), none, none, [], false⟩,
⟨2, some 63, .p (.bin .add (.t 62) (.c (.one (.int .i64 1)))), none, none, [], false⟩,
⟨3, some 64, .p (.slice 1 (.t 61) (some (.t 63)) none none), none, none, [], false⟩,
⟨4, some 8, .p (.mv (.t 64)), none, none, [], false⟩]
def f41r15 : List SOper := [
⟨0, some 66, .p (.mv (.t 8)), none, none, [], false⟩,
⟨1, some 67, .cf 47 [(.t 66)], none, none, [], false⟩,
⟨2, some 65, .p (.mv (.t 67)), none, none, [], false⟩,
⟨3, some 68, .p (.extract (.t 65) 0), none, none, [], false⟩,
⟨4, some 69, .p (.extract (.t 65) 1), none, none, [], false⟩,
⟨5, some 70, .p (.extract (.t 65) 2), none, none, [], false⟩,
⟨6, some 9, .p (.mv (.t 68)), none, none, [], false⟩,
⟨7, some 10, .p (.mv (.t 69)), none, none, [], false⟩,
⟨8, some 11, .p (.mv (.t 70)), none, none, [], false⟩]
def f41r16 : List SOper := [
⟨0, some 71, .p (.mv (.t 9)), none, none, [], false⟩,
⟨1, some 72, .p (.bin .add (.t 71) (.c (.one (.int .i64 1)))), none, none, [], false⟩,
⟨2, some 73, .p (.bin .quo (.t 72) (.c (.one (.int .i64 2)))), none, none, [], false⟩,
⟨3, some 74, .p (.mv (.t 9)), none, none, [], false⟩,
⟨4, some 75, .p (.bin .rem (.t 74) (.c (.one (.int .i64 2)))), none, none, [], false⟩,
⟨5, some 76, .p (.bin .eql (.t 75) (.c (.one (.int .i64 0)))), none, none, [], false⟩,
⟨6, some 77, .p (.faddr 1 (.t 6)), none, none, [], false⟩,
⟨7, some 78, .p (.faddr 0 (.t 77)), none, none, [], false⟩,
⟨8, none, .e (.store 1 (.t 78) (.t 73)), none, none, [], false⟩,
⟨9, some 79, .p (.faddr 3 (.t 6)), none, none, [], false⟩,
⟨10, none, .e (.store 1 (.t 79) (.t 76)), none, none, [], false⟩]
def f41r17 : List SOper := [
⟨0, some 80, .p (.mv (.t 8)), none, none, [], false⟩,
⟨1, some 81, .p (.mv (.t 10)), none, none, [], false⟩,
⟨2, some 82, .p (.slice 1 (.t 80) (some (.t 81)) none none), none, none, [], false⟩,
⟨3, some 8, .p (.mv (.t 82)), none, none, [], false⟩]
def f41r18 : List SOper := [
⟨0, some 83, .p (.mv (.t 8)), none, none, [], false⟩,
⟨1, some 84, .p (.len (.t 83)), none, none, [], false⟩,
⟨2, some 85, .p (.bin .eql (.t 84) (.c (.one (.int .i64 2)))), none, none, [], false⟩]
def f41r19 : List SOper := [
⟨0, some 86, .p (.mv (.t 8)), none, none, [], false⟩,
⟨1, some 87, .p (.iaddr 1 (.t 86) (.c (.one (.int .i64 1)))), none, none, [], false⟩,
⟨2, some 88, .l (.load false 1 (.t 87)), none, none, [], false⟩,
⟨3, some 89, .cf 46 [(.t 88)], none, none, [], false⟩,
⟨4, some 90, .p (.faddr 1 (.t 6)), none, none, [], false⟩,
⟨5, some 91, .p (.faddr 1 (.t 90)), none, none, [], false⟩,
⟨6, none, .e (.store 1 (.t 91) (.t 89)), none, none, [], false⟩]
def f41r20 : List SOper := [
⟨0, some 93, .l (.load true 6 (.t 6)), none, none, [], false⟩,
⟨1, some 94, .cf 48 [(.t 93)], none, none, [], false⟩,
⟨2, some 92, .p (.mv (.t 94)), none, none, [], false⟩,
⟨3, some 95, .p (.extract (.t 92) 0), none, none, [], false⟩,
⟨4, some 96, .p (.extract (.t 92) 1), none, none, [], false⟩,
⟨5, some 12, .p (.mv (.t 95)), none, none, [], false⟩,
⟨6, some 13, .p (.mv (.t 96)), none, none, [], false⟩]
def f41r21 : List SOper := [
⟨0, some 97, .p (.mv (.t 13)), none, none, [], false⟩,
⟨1, some 98, .p (.bin .neq (.t 97) (.c (.one (.int .i64 0)))), none, none, [], false⟩,
⟨2, some 99, .p (.mv (.t 98)), none, none, [], false⟩,
⟨3, some 100, .p (.mv (.t 12)), (some (99, false)), none, [], false⟩,
⟨4, some 101, .p (.mv (.t 0)), (some (99, false)), none, [], false⟩,
⟨5, some 102, .cf 49 [(.t 100), (.t 101)], (some (99, false)), none, [], false⟩,
⟨6, some 103, .p (.not (.t 102)), (some (99, false)), none, [], false⟩,
⟨7, some 104, .p (.pick (.t 99) (.c (.one (.bool true))) (.t 103)), none, none, [], false⟩]
def f41r22 : List SOper := [
⟨0, some 105, .p (.build [(.int .i64 0), (.int .i64 0), (.int .i64 0), (.bool false), (.int .i64 0), (.int .i64 0)] []), none, none, [], false⟩,
⟨1, none, .e (.store 6 (.t 2) (.t 105)), none, none, [], false⟩,
⟨2, some 3, .p (.mv (.c (.one (.int .i64 190)))), none, none, [], false⟩]
def f41r23 : List SOper := [
⟨0, some 106, .l (.load true 6 (.t 6)), none, none, [], false⟩,
⟨1, none, .e (.store 6 (.t 2) (.t 106)), none, none, [], false⟩,
⟨2, some 3, .p (.mv (.c (.one (.int .i64 0)))), none, none, [], false⟩]
def f41c : SC := (.seq (.ops f41r0 0) (.seq (.ops f41r1 0) (.seq (.seq (.ops f41r2 0) (.cond (.t 17) (.seq (.ops f41r3 0) .ret) .skip)) (.seq (.ops f41r4 0) (.seq (.block 0 (.loop f41b0)) (.seq (.ops f41r7 0) (.seq (.seq (.ops f41r8 0) (.seq (.ops f41r9 0) (.cond (.t 37) (.seq (.seq (.ops f41r10 0) (.cond (.t 46) (.seq (.ops f41r11 0) (.ops f41r12 0)) .skip)) (.ops f41r13 0)) .skip))) (.seq (.ops f41r14 0) (.seq (.ops f41r15 0) (.seq (.ops f41r16 0) (.seq (.seq (.ops f41r17 0) (.seq (.ops f41r18 0) (.cond (.t 85) (.ops f41r19 0) .skip))) (.seq (.seq (.ops f41r20 0) (.seq (.ops f41r21 0) (.cond (.t 104) (.seq (.ops f41r22 0) .ret) .skip))) (.seq (.ops f41r23 0) .ret)))))))))))))
def f41 : SFn := ⟨107, f41c, [.cell true 6 2, .t 3]⟩

/- sixdot/grid.ToCells -/
def f42r0 : List SOper := [
⟨0, some 1, .a (.box (.t 0)), none, none, [], false⟩,
⟨1, some 2, .p (.mv (.c (.one .nils))), none, none, [], false⟩,
⟨2, some 3, .p (.mv (.c (.one (.int .i64 0)))), none, none, [], false⟩]
def f42r1 : List SOper := [
⟨0, some 8, .l (.load true 3 (.t 1)), none, none, [], false⟩,
⟨1, some 9, .cf 50 [(.t 8)], none, none, [], false⟩,
⟨2, some 10, .p (.not (.t 9)), none, none, [], false⟩,
⟨3, some 11, .p (.mv (.t 10)), none, none, [], false⟩,
⟨4, some 12, .p (.faddr 0 (.t 1)), (some (11, false)), none, [], false⟩,
⟨5, some 13, .l (.load false 1 (.t 12)), (some (11, false)), none, [], false⟩,
⟨6, some 14, .p (.bin .rem (.t 13) (.c (.one (.int .i64 2)))), (some (11, false)), none, [], false⟩,
⟨7, some 15, .p (.bin .neq (.t 14) (.c (.one (.int .i64 0)))), (some (11, false)), none, [], false⟩,
⟨8, some 16, .p (.pick (.t 11) (.c (.one (.bool true))) (.t 15)), none, none, [], false⟩,
⟨9, some 17, .p (.mv (.t 16)), none, none, [], false⟩,
⟨10, some 18, .p (.faddr 1 (.t 1)), (some (17, false)), none, [], false⟩,
⟨11, some 19, .l (.load false 1 (.t 18)), (some (17, false)), none, [], false⟩,
⟨12, some 20, .p (.bin .rem (.t 19) (.c (.one (.int .i64 3)))), (some (17, false)), none, [], false⟩,
⟨13, some 21, .p (.bin .neq (.t 20) (.c (.one (.int .i64 0)))), (some (17, false)), none, [], false⟩,
⟨14, some 22, .p (.pick (.t 17) (.c (.one (.bool true))) (.t 21)), none, none, [], false⟩]
def f42r2 : List SOper := [
⟨0, some 2, .p (.mv (.c (.one .nils))), none, none, [], false⟩,
⟨1, some 3, .p (.mv (.c (.one (.int .i64 1)))), none, none, [], false⟩]
def f42r3 : List SOper := [
⟨0, some 23, .p (.faddr 1 (.t 1)), none, none, [], false⟩,
⟨1, some 24, .l (.load false 1 (.t 23)), none, none, [], false⟩,
⟨2, some 25, .p (.bin .quo (.t 24) (.c (.one (.int .i64 3)))), none, none, [], false⟩,
⟨3, some 26, .a (.mkslice 1 24 [.nils] (.t 25) (.t 25)), none, none, [], false⟩,
⟨4, some 4, .p (.mv (.t 26)), none, none, [], false⟩]
def f42r4 : List SOper := [
⟨0, some 27, .p (.mv (.t 4)), none, none, [], false⟩,
⟨1, some 28, .p (.len (.t 27)), none, none, [], false⟩,
⟨2, some 29, .p (.mv (.c (.one (.int .i64 0)))), none, none, [], false⟩]
def f42r5 : List SOper := [
⟨0, some 30, .p (.bin .lss (.t 29) (.t 28)), none, none, [], false⟩]
def f42r6 : List SOper := [
⟨0, some 31, .p (.mv (.t 29)), none, none, [], false⟩,
⟨1, some 5, .p (.mv (.t 31)), none, none, [], false⟩]
def f42r7 : List SOper := [
⟨0, some 32, .p (.mv (.t 4)), none, none, [], false⟩,
⟨1, some 33, .p (.mv (.t 5)), none, none, [], false⟩,
⟨2, some 34, .p (.faddr 0 (.t 1)), none, none, [], false⟩,
⟨3, some 35, .l (.load false 1 (.t 34)), none, none, [], false⟩,
⟨4, some 36, .p (.bin .quo (.t 35) (.c (.one (.int .i64 2)))), none, none, [], false⟩,
⟨5, some 37, .a (.mkslice 1 1 [(.int .u8 0)] (.t 36) (.t 36)), none, none, [], false⟩,
⟨6, some 38, .p (.iaddr 1 (.t 32) (.t 33)), none, none, [], false⟩,
⟨7, none, .e (.store 1 (.t 38) (.t 37)), none, none, [], false⟩]
def f42r8 : List SOper := [
⟨0, some 39, .p (.mv (.t 4)), none, none, [], false⟩,
⟨1, some 40, .p (.mv (.t 5)), none, none, [], false⟩,
⟨2, some 41, .p (.iaddr 1 (.t 39) (.t 40)), none, none, [], false⟩,
⟨3, some 42, .l (.load false 1 (.t 41)), none, none, [], false⟩,
⟨4, some 43, .p (.len (.t 42)), none, none, [], false⟩,
⟨5, some 44, .p (.mv (.c (.one (.int .i64 0)))), none, none, [], false⟩]
def f42r9 : List SOper := [
⟨0, some 45, .p (.bin .lss (.t 44) (.t 43)), none, none, [], false⟩]
def f42r10 : List SOper := [
⟨0, some 46, .p (.mv (.t 44)), none, none, [], false⟩,
⟨1, some 6, .p (.mv (.t 46)), none, none, [], false⟩]
def f42r11 : List SOper := [
⟨0, some 47, .p (.mv (.c (.one (.int .i64 0)))), none, none, [], false⟩]
def f42r12 : List SOper := [
⟨0, some 48, .p (.bin .lss (.t 47) (.c (.one (.int .i64 6)))), none, none, [], false⟩]
def f42r13 : List SOper := [
⟨0, some 49, .p (.mv (.t 47)), none, none, [], false⟩,
⟨1, some 7, .p (.mv (.t 49)), none, none, [], false⟩]
def f42r14 : List SOper := [
⟨0, some 50, .p (.faddr 2 (.t 1)), none, none, [], false⟩,
⟨1, some 51, .l (.load false 1 (.t 50)), none, none, [], false⟩,
⟨2, some 52, .p (.mv (.t 5)), none, none, [], false⟩,
⟨3, some 53, .p (.bin .mul (.c (.one (.int .i64 3))) (.t 52)), none, none, [], false⟩,
⟨4, some 54, .p (.mv (.t 7)), none, none, [], false⟩,
⟨5, some 55, .p (.aaddr 6 2 (.c (.one (.ptr 0 0))) (.t 54)), none, none, [], false⟩,
⟨6, some 56, .p (.faddr 1 (.t 55)), none, none, [], false⟩,
⟨7, some 57, .l (.load false 1 (.t 56)), none, none, [], false⟩,
⟨8, some 58, .p (.bin .add (.t 53) (.t 57)), none, none, [], false⟩,
⟨9, some 59, .p (.iaddr 1 (.t 51) (.t 58)), none, none, [], false⟩,
⟨10, some 60, .l (.load false 1 (.t 59)), none, none, [], false⟩,
⟨11, some 61, .p (.mv (.t 6)), none, none, [], false⟩,
⟨12, some 62, .p (.bin .mul (.c (.one (.int .i64 2))) (.t 61)), none, none, [], false⟩,
⟨13, some 63, .p (.mv (.t 7)), none, none, [], false⟩,
⟨14, some 64, .p (.aaddr 6 2 (.c (.one (.ptr 0 0))) (.t 63)), none, none, [], false⟩,
⟨15, some 65, .p (.faddr 0 (.t 64)), none, none, [], false⟩,
⟨16, some 66, .l (.load false 1 (.t 65)), none, none, [], false⟩,
⟨17, some 67, .p (.bin .add (.t 62) (.t 66)), none, none, [], false⟩,
⟨18, some 68, .p (.iaddr 1 (.t 60) (.t 67)), none, none, [], false⟩,
⟨19, some 69, .l (.load false 1 (.t 68)), none, none, [], false⟩]
def f42r15 : List SOper := [
⟨0, some 70, .p (.mv (.t 4)), none, none, [], false⟩,
⟨1, some 71, .p (.mv (.t 5)), none, none, [], false⟩,
⟨2, some 72, .p (.iaddr 1 (.t 70) (.t 71)), none, none, [], false⟩,
⟨3, some 73, .l (.load false 1 (.t 72)), none, none, [], false⟩,
⟨4, some 74, .p (.mv (.t 6)), none, none, [], false⟩,
⟨5, some 75, .p (.iaddr 1 (.t 73) (.t 74)), none, none, [], false⟩,
⟨6, some 76, .l (.load false 1 (.t 75)), none, none, [], false⟩,
⟨7, some 77, .p (.mv (.t 7)), none, none, [], false⟩,
⟨8, some 78, .p (.bin .shl (.c (.one (.int .u8 1))) (.t 77)), none, none, [], false⟩,
⟨9, some 79, .p (.bin .or (.t 76) (.t 78)), none, none, [], false⟩,
⟨10, some 80, .p (.iaddr 1 (.t 73) (.t 74)), none, none, [], false⟩,
⟨11, none, .e (.store 1 (.t 80) (.t 79)), none, none, [], false⟩]
def f42r16 : List SOper := [
⟨0, some 81, .p (.bin .add (.t 47) (.c (.one (.int .i64 1)))), none, none, [], false⟩,
⟨1, some 47, .p (.mv (.t 81)), none, none, [], false⟩]
def f42b0 : SC := (.seq (.ops f42r12 0) (.seq (.cond (.t 48) .skip (.exit 4)) (.seq (.block 5 (.seq (.ops f42r13 0) (.seq (.ops f42r14 20) (.cond (.t 69) (.ops f42r15 12) .skip)))) (.ops f42r16 0))))
def f42r17 : List SOper := [
⟨0, some 82, .p (.bin .add (.t 44) (.c (.one (.int .i64 1)))), none, none, [], false⟩,
⟨1, some 44, .p (.mv (.t 82)), none, none, [], false⟩]
def f42b1 : SC := (.seq (.ops f42r9 0) (.seq (.cond (.t 45) .skip (.exit 2)) (.seq (.block 3 (.seq (.ops f42r10 0) (.seq (.ops f42r11 0) (.block 4 (.loop f42b0))))) (.ops f42r17 0))))
def f42r18 : List SOper := [
⟨0, some 83, .p (.bin .add (.t 29) (.c (.one (.int .i64 1)))), none, none, [], false⟩,
⟨1, some 29, .p (.mv (.t 83)), none, none, [], false⟩]
def f42b2 : SC := (.seq (.ops f42r5 0) (.seq (.cond (.t 30) .skip (.exit 0)) (.seq (.block 1 (.seq (.ops f42r6 0) (.seq (.ops f42r7 0) (.seq (.ops f42r8 0) (.block 2 (.loop f42b1)))))) (.ops f42r18 0))))
def f42r19 : List SOper := [
⟨0, some 84, .p (.mv (.t 4)), none, none, [], false⟩,
⟨1, some 2, .p (.mv (.t 84)), none, none, [], false⟩,
⟨2, some 3, .p (.mv (.c (.one (.int .i64 0)))), none, none, [], false⟩]
def f42c : SC := (.seq (.ops f42r0 0) (.seq (.seq (.ops f42r1 0) (.cond (.t 22) (.seq (.ops f42r2 0) .ret) .skip)) (.seq (.ops f42r3 0) (.seq (.seq (.ops f42r4 0) (.block 0 (.loop f42b2))) (.seq (.ops f42r19 0) .ret)))))
def f42 : SFn := ⟨85, f42c, [.t 2, .t 3]⟩

/- sixdot/line.Trim -/
def f43r0 : List SOper := [
⟨0, some 2, .p (.mv (.c (.one .nils))), none, none, [], false⟩]
def f43r1 : List SOper := [
⟨0, some 4, .p (.mv (.t 0)), none, none, [], false⟩,
⟨1, some 5, .p (.len (.t 4)), none, none, [], false⟩,
⟨2, some 3, .p (.mv (.t 5)), none, none, [], false⟩]
def f43r2 : List SOper := [
⟨0, some 6, .p (.mv (.t 3)), none, none, [], false⟩,
⟨1, some 7, .p (.bin .gtr (.t 6) (.c (.one (.int .i64 0)))), none, none, [], false⟩,
⟨2, some 8, .p (.mv (.t 7)), none, none, [], false⟩,
⟨3, some 9, .p (.mv (.t 0)), (some (8, true)), none, [], false⟩,
⟨4, some 10, .p (.mv (.t 3)), (some (8, true)), none, [], false⟩,
⟨5, some 11, .p (.bin .sub (.t 10) (.c (.one (.int .i64 1)))), (some (8, true)), none, [], false⟩,
⟨6, some 12, .p (.iaddr 1 (.t 9) (.t 11)), (some (8, true)), none, [], false⟩,
⟨7, some 13, .l (.load false 1 (.t 12)), (some (8, true)), none, [], false⟩,
⟨8, some 14, .p (.bin .eql (.t 13) (.c (.one (.int .u8 0)))), (some (8, true)), none, [], false⟩,
⟨9, some 15, .p (.pick (.t 8) (.t 14) (.c (.one (.bool false)))), none, none, [], false⟩]
def f43r3 : List SOper := [
⟨0, some 16, .p (.mv (.t 3)), none, none, [], false⟩,
⟨1, some 17, .p (.bin .sub (.t 16) (.c (.one (.int .i64 1)))), none, none, [], false⟩,
⟨2, some 3, .p (.mv (.t 17)), none, none, [], false⟩]
def f43b0 : SC := (.seq (.seq (.ops f43r2 0) (.cond (.t 15) .skip (.exit 0))) (.block 1 (.ops f43r3 0)))
def f43r4 : List SOper := [
⟨0, some 18, .p (.mv (.t 0)), none, none, [], false⟩,
⟨1, some 19, .p (.mv (.t 3)), none, none, [], false⟩,
⟨2, some 20, .p (.mv (.t 3)), none, none, [], false⟩,
⟨3, some 21, .p (.slice 1 (.t 18) none (some (.t 19)) (some (.t 20))), none, none, [], false⟩,
⟨4, some 2, .p (.mv (.t 21)), none, none, [], false⟩]
def f43c : SC := (.seq (.ops f43r0 0) (.seq (.ops f43r1 0) (.seq (.block 0 (.loop f43b0)) (.seq (.ops f43r4 0) .ret))))
def f43 : SFn := ⟨22, f43c, [.t 2]⟩

/- slices.Reverse[[]bool,bool] -/
def f44r0 : List SOper := [
⟨0, some 4, .p (.mv (.t 0)), none, none, [], false⟩,
⟨1, some 5, .p (.len (.t 4)), none, none, [], false⟩,
⟨2, some 6, .p (.bin .sub (.t 5) (.c (.one (.int .i64 1)))), none, none, [], false⟩,
⟨3, some 2, .p (.mv (.c (.one (.int .i64 0)))), none, none, [], false⟩,
⟨4, some 3, .p (.mv (.t 6)), none, none, [], false⟩]
def f44r1 : List SOper := [
⟨0, some 7, .p (.mv (.t 2)), none, none, [], false⟩,
⟨1, some 8, .p (.mv (.t 3)), none, none, [], false⟩,
⟨2, some 9, .p (.bin .lss (.t 7) (.t 8)), none, none, [], false⟩]
def f44r2 : List SOper := [
⟨0, some 14, .p (.mv (.t 0)), none, none, [], false⟩,
⟨1, some 15, .p (.mv (.t 2)), none, none, [], false⟩,
⟨2, some 16, .p (.mv (.t 0)), none, none, [], false⟩,
⟨3, some 17, .p (.mv (.t 3)), none, none, [], false⟩,
⟨4, some 18, .p (.mv (.t 0)), none, none, [], false⟩,
⟨5, some 19, .p (.mv (.t 3)), none, none, [], false⟩,
⟨6, some 20, .p (.iaddr 1 (.t 18) (.t 19)), none, none, [], false⟩,
⟨7, some 21, .l (.load false 1 (.t 20)), none, none, [], false⟩,
⟨8, some 22, .p (.mv (.t 0)), none, none, [], false⟩,
⟨9, some 23, .p (.mv (.t 2)), none, none, [], false⟩,
⟨10, some 24, .p (.iaddr 1 (.t 22) (.t 23)), none, none, [], false⟩,
⟨11, some 25, .l (.load false 1 (.t 24)), none, none, [], false⟩,
⟨12, some 26, .p (.iaddr 1 (.t 14) (.t 15)), none, none, [], false⟩,
⟨13, none, .e (.store 1 (.t 26) (.t 21)), none, none, [], false⟩,
⟨14, some 27, .p (.iaddr 1 (.t 16) (.t 17)), none, none, [], false⟩,
⟨15, none, .e (.store 1 (.t 27) (.t 25)), none, none, [], false⟩]
def f44r3 : List SOper := [
⟨0, some 10, .p (.mv (.t 2)), none, none, [], false⟩,
⟨1, some 11, .p (.bin .add (.t 10) (.c (.one (.int .i64 1)))), none, none, [], false⟩,
⟨2, some 12, .p (.mv (.t 3)), none, none, [], false⟩,
⟨3, some 13, .p (.bin .sub (.t 12) (.c (.one (.int .i64 1)))), none, none, [], false⟩,
⟨4, some 2, .p (.mv (.t 11)), none, none, [], false⟩,
⟨5, some 3, .p (.mv (.t 13)), none, none, [], false⟩]
def f44b0 : SC := (.seq (.seq (.ops f44r1 0) (.cond (.t 9) .skip (.exit 0))) (.seq (.block 1 (.ops f44r2 16)) (.ops f44r3 0)))
def f44c : SC := (.seq (.ops f44r0 0) (.block 0 (.loop f44b0)))
def f44 : SFn := ⟨28, f44c, []⟩

/- slices.Index[[]sixdot/api.Cell,sixdot/api.Cell] -/
def f45r0 : List SOper := [
⟨0, some 4, .p (.mv (.c (.one (.int .i64 0)))), none, none, [], false⟩]
def f45r1 : List SOper := [
⟨0, some 6, .p (.mv (.t 0)), none, none, [], false⟩,
⟨1, some 7, .p (.len (.t 6)), none, none, [], false⟩,
⟨2, some 8, .p (.mv (.c (.one (.int .i64 0)))), none, none, [], false⟩]
def f45r2 : List SOper := [
⟨0, some 9, .p (.bin .lss (.t 8) (.t 7)), none, none, [], false⟩]
def f45r3 : List SOper := [
⟨0, some 10, .p (.mv (.t 8)), none, none, [], false⟩,
⟨1, some 5, .p (.mv (.t 10)), none, none, [], false⟩]
def f45r4 : List SOper := [
⟨0, some 11, .p (.mv (.t 1)), none, none, [], false⟩,
⟨1, some 12, .p (.mv (.t 0)), none, none, [], false⟩,
⟨2, some 13, .p (.mv (.t 5)), none, none, [], false⟩,
⟨3, some 14, .p (.iaddr 1 (.t 12) (.t 13)), none, none, [], false⟩,
⟨4, some 15, .l (.load false 1 (.t 14)), none, none, [], false⟩,
⟨5, some 16, .p (.bin .eql (.t 11) (.t 15)), none, none, [], false⟩]
def f45r5 : List SOper := [
⟨0, some 17, .p (.mv (.t 5)), none, none, [], false⟩,
⟨1, some 4, .p (.mv (.t 17)), none, none, [], false⟩]
def f45r6 : List SOper := [
⟨0, some 18, .p (.bin .add (.t 8) (.c (.one (.int .i64 1)))), none, none, [], false⟩,
⟨1, some 8, .p (.mv (.t 18)), none, none, [], false⟩]
def f45b0 : SC := (.seq (.ops f45r2 0) (.seq (.cond (.t 9) .skip (.exit 0)) (.seq (.block 1 (.seq (.ops f45r3 0) (.seq (.ops f45r4 0) (.cond (.t 16) (.seq (.ops f45r5 0) .ret) .skip)))) (.ops f45r6 0))))
def f45r7 : List SOper := [
⟨0, some 4, .p (.mv (.c (.one (.int .i64 (-1))))), none, none, [], false⟩]
def f45c : SC := (.seq (.ops f45r0 0) (.seq (.seq (.ops f45r1 0) (.block 0 (.loop f45b0))) (.seq (.ops f45r7 0) .ret)))
def f45 : SFn := ⟨19, f45c, [.t 4]⟩

/- sixdot/number.letter -/
def f46r0 : List SOper := [
⟨0, some 2, .p (.mv (.c (.one (.int .i64 0)))), none, none, [], false⟩]
def f46r1 : List SOper := [
⟨0, some 5, .l (.load true 26 (.c (.one (.ptr 1 0)))), none, none, [], false⟩,
⟨1, some 6, .p (.mv (.c (.one (.int .i64 0)))), none, none, [], false⟩]
def f46r2 : List SOper := [
⟨0, some 7, .p (.bin .lss (.t 6) (.c (.one (.int .i64 26)))), none, none, [], false⟩]
def f46r3 : List SOper := [
⟨0, some 8, .p (.mv (.t 6)), none, none, [], false⟩,
⟨1, some 9, .p (.aindex 26 1 false (.t 5) (.t 6)), none, none, [], false⟩,
⟨2, some 3, .p (.mv (.t 8)), none, none, [], false⟩,
⟨3, some 4, .p (.mv (.t 9)), none, none, [], false⟩]
def f46r4 : List SOper := [
⟨0, some 10, .p (.mv (.t 4)), none, none, [], false⟩,
⟨1, some 11, .p (.mv (.t 0)), none, none, [], false⟩,
⟨2, some 12, .p (.bin .eql (.t 10) (.t 11)), none, none, [], false⟩]
def f46r5 : List SOper := [
⟨0, some 13, .p (.mv (.t 3)), none, none, [], false⟩,
⟨1, some 14, .p (.bin .add (.t 13) (.c (.one (.int .i64 1)))), none, none, [], false⟩,
⟨2, some 2, .p (.mv (.t 14)), none, none, [], false⟩]
def f46r6 : List SOper := [
⟨0, some 15, .p (.bin .add (.t 6) (.c (.one (.int .i64 1)))), none, none, [], false⟩,
⟨1, some 6, .p (.mv (.t 15)), none, none, [], false⟩]
def f46b0 : SC := (.seq (.ops f46r2 0) (.seq (.cond (.t 7) .skip (.exit 0)) (.seq (.block 1 (.seq (.ops f46r3 0) (.seq (.ops f46r4 0) (.cond (.t 12) (.seq (.ops f46r5 0) .ret) .skip)))) (.ops f46r6 0))))
def f46r7 : List SOper := [
⟨0, some 2, .p (.mv (.c (.one (.int .i64 0)))), none, none, [], false⟩]
def f46c : SC := (.seq (.ops f46r0 0) (.seq (.seq (.ops f46r1 0) (.block 0 (.loop f46b0))) (.seq (.ops f46r7 0) .ret)))
def f46 : SFn := ⟨16, f46c, [.t 2]⟩

/- sixdot/number.Read -/
def f47r0 : List SOper := [
⟨0, some 2, .p (.mv (.c (.one (.int .i64 0)))), none, none, [], false⟩,
⟨1, some 3, .p (.mv (.c (.one (.int .i64 0)))), none, none, [], false⟩,
⟨2, some 4, .p (.mv (.c (.one (.int .i64 0)))), none, none, [], false⟩]
def f47r1 : List SOper := [
⟨0, some 9, .p (.mv (.t 0)), none, none, [], false⟩,
⟨1, some 10, .p (.len (.t 9)), none, none, [], false⟩,
⟨2, some 11, .p (.bin .eql (.t 10) (.c (.one (.int .i64 0)))), none, none, [], false⟩,
⟨3, some 12, .p (.mv (.t 11)), none, none, [], false⟩,
⟨4, some 13, .p (.mv (.t 0)), (some (12, false)), none, [], false⟩,
⟨5, some 14, .p (.iaddr 1 (.t 13) (.c (.one (.int .i64 0)))), (some (12, false)), none, [], false⟩,
⟨6, some 15, .l (.load false 1 (.t 14)), (some (12, false)), none, [], false⟩,
⟨7, some 16, .p (.bin .neq (.t 15) (.c (.one (.int .u8 60)))), (some (12, false)), none, [], false⟩,
⟨8, some 17, .p (.pick (.t 12) (.c (.one (.bool true))) (.t 16)), none, none, [], false⟩]
def f47r2 : List SOper := [
⟨0, some 2, .p (.mv (.c (.one (.int .i64 0)))), none, none, [], false⟩,
⟨1, some 3, .p (.mv (.c (.one (.int .i64 0)))), none, none, [], false⟩,
⟨2, some 4, .p (.mv (.c (.one (.int .i64 190)))), none, none, [], false⟩]
def f47r3 : List SOper := [
⟨0, some 5, .p (.mv (.c (.one (.int .i64 0)))), none, none, [], false⟩,
⟨1, some 6, .p (.mv (.c (.one (.int .i64 1)))), none, none, [], false⟩]
def f47r4 : List SOper := [
⟨0, some 18, .p (.mv (.t 6)), none, none, [], false⟩,
⟨1, some 19, .p (.mv (.t 0)), none, none, [], false⟩,
⟨2, some 20, .p (.len (.t 19)), none, none, [], false⟩,
⟨3, some 21, .p (.bin .lss (.t 18) (.t 20)), none, none, [], false⟩]
def f47r5 : List SOper := [
⟨0, some 22, .l (.load true 10 (.c (.one (.ptr 2 0)))), none, none, [], false⟩,
⟨1, some 23, .p (.mv (.c (.one (.int .i64 0)))), none, none, [], false⟩]
def f47r6 : List SOper := [
⟨0, some 24, .p (.bin .lss (.t 23) (.c (.one (.int .i64 10)))), none, none, [], false⟩]
def f47r7 : List SOper := [
⟨0, some 25, .p (.mv (.t 23)), none, none, [], false⟩,
⟨1, some 26, .p (.aindex 10 1 false (.t 22) (.t 23)), none, none, [], false⟩,
⟨2, some 7, .p (.mv (.t 25)), none, none, [], false⟩,
⟨3, some 8, .p (.mv (.t 26)), none, none, [], false⟩]
def f47r8 : List SOper := [
⟨0, some 27, .p (.mv (.t 8)), none, none, [], false⟩,
⟨1, some 28, .p (.mv (.t 0)), none, none, [], false⟩,
⟨2, some 29, .p (.mv (.t 6)), none, none, [], false⟩,
⟨3, some 30, .p (.iaddr 1 (.t 28) (.t 29)), none, none, [], false⟩,
⟨4, some 31, .l (.load false 1 (.t 30)), none, none, [], false⟩,
⟨5, some 32, .p (.bin .eql (.t 27) (.t 31)), none, none, [], false⟩]
def f47r9 : List SOper := [
⟨0, some 33, .p (.mv (.t 6)), none, none, [], false⟩,
⟨1, some 34, .p (.bin .gtr (.t 33) (.c (.one (.int .i64 5)))), none, none, [], false⟩]
def f47r10 : List SOper := [
⟨0, some 2, .p (.mv (.c (.one (.int .i64 0)))), none, none, [], false⟩,
⟨1, some 3, .p (.mv (.c (.one (.int .i64 0)))), none, none, [], false⟩,
⟨2, some 4, .p (.mv (.c (.one (.int .i64 190)))), none, none, [], false⟩]
def f47r11 : List SOper := [
⟨0, some 35, .p (.mv (.t 5)), none, none, [], false⟩,
⟨1, some 36, .p (.bin .mul (.c (.one (.int .i64 10))) (.t 35)), none, none, [], false⟩,
⟨2, some 37, .p (.mv (.t 7)), none, none, [], false⟩,
⟨3, some 38, .p (.bin .add (.t 36) (.t 37)), none, none, [], false⟩,
⟨4, some 5, .p (.mv (.t 38)), none, none, [], false⟩]
def f47r12 : List SOper := [
⟨0, some 39, .p (.mv (.t 6)), none, none, [], false⟩,
⟨1, some 40, .p (.bin .add (.t 39) (.c (.one (.int .i64 1)))), none, none, [], false⟩,
⟨2, some 6, .p (.mv (.t 40)), none, none, [], false⟩]
def f47r13 : List SOper := [
⟨0, some 41, .p (.bin .add (.t 23) (.c (.one (.int .i64 1)))), none, none, [], false⟩,
⟨1, some 23, .p (.mv (.t 41)), none, none, [], false⟩]
def f47b0 : SC := (.seq (.ops f47r6 0) (.seq (.cond (.t 24) .skip (.exit 2)) (.seq (.block 3 (.seq (.ops f47r7 0) (.seq (.ops f47r8 0) (.cond (.t 32) (.seq (.seq (.ops f47r9 0) (.cond (.t 34) (.seq (.ops f47r10 0) .ret) .skip)) (.seq (.ops f47r11 0) (.seq (.ops f47r12 0) (.exit 1)))) .skip)))) (.ops f47r13 0))))
def f47b1 : SC := (.seq (.seq (.ops f47r4 0) (.cond (.t 21) .skip (.exit 0))) (.block 1 (.seq (.seq (.ops f47r5 0) (.block 2 (.loop f47b0))) (.exit 0))))
def f47r14 : List SOper := [
⟨0, some 42, .p (.mv (.t 6)), none, none, [], false⟩,
⟨1, some 43, .p (.bin .eql (.t 42) (.c (.one (.int .i64 1)))), none, none, [], false⟩,
⟨2, some 44, .p (.mv (.t 43)), none, none, [], false⟩,
⟨3, some 45, .p (.mv (.t 6)), (some (44, false)), none, [], false⟩,
⟨4, some 46, .p (.bin .gtr (.t 45) (.c (.one (.int .i64 2)))), (some (44, false)), none, [], false⟩,
⟨5, some 47, .p (.mv (.t 46)), (some (44, false)), none, [], false⟩,
⟨6, some 48, .p (.mv (.t 0)), (some (47, true)), none, [], false⟩,
⟨7, some 49, .p (.iaddr 1 (.t 48) (.c (.one (.int .i64 1)))), (some (47, true)), none, [], false⟩,
⟨8, some 50, .l (.load false 1 (.t 49)), (some (47, true)), none, [], false⟩,
⟨9, some 51, .p (.aaddr 10 1 (.c (.one (.ptr 2 0))) (.c (.one (.int .i64 0)))), (some (47, true)), none, [], false⟩,
⟨10, some 52, .l (.load false 1 (.t 51)), (some (47, true)), none, [], false⟩,
⟨11, some 53, .p (.bin .eql (.t 50) (.t 52)), (some (47, true)), none, [], false⟩,
⟨12, some 54, .p (.pick (.t 47) (.t 53) (.c (.one (.bool false)))), (some (44, false)), none, [], false⟩,
⟨13, some 55, .p (.pick (.t 44) (.c (.one (.bool true))) (.t 54)), none, none, [], false⟩]
def f47r15 : List SOper := [
⟨0, some 2, .p (.mv (.c (.one (.int .i64 0)))), none, none, [], false⟩,
⟨1, some 3, .p (.mv (.c (.one (.int .i64 0)))), none, none, [], false⟩,
⟨2, some 4, .p (.mv (.c (.one (.int .i64 190)))), none, none, [], false⟩]
def f47r16 : List SOper := [
⟨0, some 56, .p (.mv (.t 5)), none, none, [], false⟩,
⟨1, some 57, .p (.mv (.t 6)), none, none, [], false⟩,
⟨2, some 2, .p (.mv (.t 56)), none, none, [], false⟩,
⟨3, some 3, .p (.mv (.t 57)), none, none, [], false⟩,
⟨4, some 4, .p (.mv (.c (.one (.int .i64 0)))), none, none, [], false⟩]
def f47c : SC := (.seq (.ops f47r0 0) (.scope (.seq (.seq (.ops f47r1 0) (.cond (.t 17) (.seq (.ops f47r2 0) .ret) .skip)) (.seq (.ops f47r3 0) (.seq .skip (.seq (.block 0 (.loop f47b1)) (.seq (.seq (.ops f47r14 14) (.cond (.t 55) (.seq (.ops f47r15 0) .ret) .skip)) (.seq (.ops f47r16 0) .ret))))))))
def f47 : SFn := ⟨58, f47c, [.t 2, .t 3, .t 4]⟩

/- sixdot/number.Header -/
def f48r0 : List SOper := [
⟨0, some 1, .a (.box (.t 0)), none, none, [], false⟩,
⟨1, some 2, .p (.mv (.c (.one .nils))), none, none, [], false⟩,
⟨2, some 3, .p (.mv (.c (.one (.int .i64 0)))), none, none, [], false⟩]
def f48r1 : List SOper := [
⟨0, some 9, .p (.faddr 0 (.t 1)), none, none, [], false⟩,
⟨1, some 10, .l (.load false 1 (.t 9)), none, none, [], false⟩,
⟨2, some 11, .p (.bin .lss (.t 10) (.c (.one (.int .i64 24)))), none, none, [], false⟩,
⟨3, some 12, .p (.mv (.t 11)), none, none, [], false⟩,
⟨4, some 13, .p (.faddr 0 (.t 1)), (some (12, false)), none, [], false⟩,
⟨5, some 14, .l (.load false 1 (.t 13)), (some (12, false)), none, [], false⟩,
⟨6, some 15, .p (.bin .gtr (.t 14) (.c (.one (.int .i64 60)))), (some (12, false)), none, [], false⟩,
⟨7, some 16, .p (.pick (.t 12) (.c (.one (.bool true))) (.t 15)), none, none, [], false⟩]
def f48r2 : List SOper := [
⟨0, some 2, .p (.mv (.c (.one .nils))), none, none, [], false⟩,
⟨1, some 3, .p (.mv (.c (.one (.int .i64 1)))), none, none, [], false⟩]
def f48r3 : List SOper := [
⟨0, some 4, .p (.mv (.c (.one .nils))), none, none, [], false⟩]
def f48r4 : List SOper := [
⟨0, some 17, .p (.faddr 4 (.t 1)), none, none, [], false⟩,
⟨1, some 18, .l (.load false 1 (.t 17)), none, none, [], false⟩,
⟨2, some 19, .p (.bin .neq (.t 18) (.c (.one (.int .i64 0)))), none, none, [], false⟩,
⟨3, some 20, .p (.mv (.t 19)), none, none, [], false⟩,
⟨4, some 21, .p (.faddr 5 (.t 1)), (some (20, false)), none, [], false⟩,
⟨5, some 22, .l (.load false 1 (.t 21)), (some (20, false)), none, [], false⟩,
⟨6, some 23, .p (.bin .neq (.t 22) (.c (.one (.int .i64 0)))), (some (20, false)), none, [], false⟩,
⟨7, some 24, .p (.pick (.t 20) (.c (.one (.bool true))) (.t 23)), none, none, [], false⟩]
def f48r5 : List SOper := [
⟨0, some 26, .p (.faddr 4 (.t 1)), none, none, [], false⟩,
⟨1, some 27, .l (.load false 1 (.t 26)), none, none, [], false⟩,
⟨2, some 28, .p (.faddr 5 (.t 1)), none, none, [], false⟩,
⟨3, some 29, .l (.load false 1 (.t 28)), none, none, [], false⟩,
⟨4, some 30, .cf 51 [(.t 27), (.t 29)], none, none, [], false⟩,
⟨5, some 25, .p (.mv (.t 30)), none, none, [], false⟩,
⟨6, some 31, .p (.extract (.t 25) 0), none, none, [], false⟩,
⟨7, some 32, .p (.extract (.t 25) 1), none, none, [], false⟩,
⟨8, some 5, .p (.mv (.t 31)), none, none, [], false⟩,
⟨9, some 6, .p (.mv (.t 32)), none, none, [], false⟩]
def f48r6 : List SOper := [
⟨0, some 33, .p (.mv (.t 6)), none, none, [], false⟩,
⟨1, some 34, .p (.bin .neq (.t 33) (.c (.one (.int .i64 0)))), none, none, [], false⟩]
def f48r7 : List SOper := [
⟨0, some 2, .p (.mv (.c (.one .nils))), none, none, [], false⟩,
⟨1, some 3, .p (.mv (.c (.one (.int .i64 190)))), none, none, [], false⟩]
def f48r8 : List SOper := [
⟨0, some 35, .p (.mv (.t 5)), none, none, [], false⟩,
⟨1, some 4, .p (.mv (.t 35)), none, none, [], false⟩]
def f48r9 : List SOper := [
⟨0, some 37, .p (.faddr 1 (.t 1)), none, none, [], false⟩,
⟨1, some 38, .l (.load true 2 (.t 37)), none, none, [], false⟩,
⟨2, some 39, .p (.faddr 3 (.t 1)), none, none, [], false⟩,
⟨3, some 40, .l (.load false 1 (.t 39)), none, none, [], false⟩,
⟨4, some 41, .cf 52 [(.t 38), (.t 40)], none, none, [], false⟩,
⟨5, some 36, .p (.mv (.t 41)), none, none, [], false⟩,
⟨6, some 42, .p (.extract (.t 36) 0), none, none, [], false⟩,
⟨7, some 43, .p (.extract (.t 36) 1), none, none, [], false⟩,
⟨8, some 7, .p (.mv (.t 42)), none, none, [], false⟩,
⟨9, some 8, .p (.mv (.t 43)), none, none, [], false⟩]
def f48r10 : List SOper := [
⟨0, some 44, .p (.mv (.t 8)), none, none, [], false⟩,
⟨1, some 45, .p (.bin .neq (.t 44) (.c (.one (.int .i64 0)))), none, none, [], false⟩]
def f48r11 : List SOper := [
⟨0, some 2, .p (.mv (.c (.one .nils))), none, none, [], false⟩,
⟨1, some 3, .p (.mv (.c (.one (.int .i64 190)))), none, none, [], false⟩]
def f48r12 : List SOper := [
⟨0, some 46, .p (.mv (.t 4)), none, none, [], false⟩,
⟨1, some 47, .p (.faddr 0 (.t 1)), none, none, [], false⟩,
⟨2, some 48, .l (.load false 1 (.t 47)), none, none, [], false⟩,
⟨3, some 49, .p (.mv (.t 4)), none, none, [], false⟩,
⟨4, some 50, .p (.len (.t 49)), none, none, [], false⟩,
⟨5, some 51, .p (.bin .sub (.t 48) (.t 50)), none, none, [], false⟩,
⟨6, some 52, .p (.mv (.t 7)), none, none, [], false⟩,
⟨7, some 53, .p (.len (.t 52)), none, none, [], false⟩,
⟨8, some 54, .p (.bin .sub (.t 51) (.t 53)), none, none, [], false⟩,
⟨9, some 55, .a (.mkslice 1 1 [(.int .u8 0)] (.t 54) (.t 54)), none, none, [], false⟩,
⟨10, some 56, .p (.mv (.t 7)), none, none, [], false⟩,
⟨11, some 57, .a (.bslice 1 3 [.nils] [(0, 1, (.t 46)), (1, 1, (.t 55)), (2, 1, (.t 56))]), none, none, [], false⟩,
⟨12, some 58, .cf 53 [(.t 57)], none, none, [], false⟩,
⟨13, some 2, .p (.mv (.t 58)), none, none, [], false⟩,
⟨14, some 3, .p (.mv (.c (.one (.int .i64 0)))), none, none, [], false⟩]
def f48c : SC := (.seq (.ops f48r0 0) (.seq (.seq (.ops f48r1 0) (.cond (.t 16) (.seq (.ops f48r2 0) .ret) .skip)) (.seq (.ops f48r3 0) (.seq (.seq (.ops f48r4 0) (.cond (.t 24) (.seq (.ops f48r5 0) (.seq (.seq (.ops f48r6 0) (.cond (.t 34) (.seq (.ops f48r7 0) .ret) .skip)) (.ops f48r8 0))) .skip)) (.seq (.ops f48r9 0) (.seq (.seq (.ops f48r10 0) (.cond (.t 45) (.seq (.ops f48r11 0) .ret) .skip)) (.seq (.ops f48r12 0) .ret)))))))
def f48 : SFn := ⟨59, f48c, [.t 2, .t 3]⟩

/- slices.Equal[[]sixdot/api.Cell,sixdot/api.Cell] -/
def f49r0 : List SOper := [
⟨0, some 4, .p (.mv (.c (.one (.bool false)))), none, none, [], false⟩]
def f49r1 : List SOper := [
⟨0, some 6, .p (.mv (.t 0)), none, none, [], false⟩,
⟨1, some 7, .p (.len (.t 6)), none, none, [], false⟩,
⟨2, some 8, .p (.mv (.t 1)), none, none, [], false⟩,
⟨3, some 9, .p (.len (.t 8)), none, none, [], false⟩,
⟨4, some 10, .p (.bin .neq (.t 7) (.t 9)), none, none, [], false⟩]
def f49r2 : List SOper := [
⟨0, some 4, .p (.mv (.c (.one (.bool false)))), none, none, [], false⟩]
def f49r3 : List SOper := [
⟨0, some 11, .p (.mv (.t 0)), none, none, [], false⟩,
⟨1, some 12, .p (.len (.t 11)), none, none, [], false⟩,
⟨2, some 13, .p (.mv (.c (.one (.int .i64 0)))), none, none, [], false⟩]
def f49r4 : List SOper := [
⟨0, some 14, .p (.bin .lss (.t 13) (.t 12)), none, none, [], false⟩]
def f49r5 : List SOper := [
⟨0, some 15, .p (.mv (.t 13)), none, none, [], false⟩,
⟨1, some 5, .p (.mv (.t 15)), none, none, [], false⟩]
def f49r6 : List SOper := [
⟨0, some 16, .p (.mv (.t 0)), none, none, [], false⟩,
⟨1, some 17, .p (.mv (.t 5)), none, none, [], false⟩,
⟨2, some 18, .p (.iaddr 1 (.t 16) (.t 17)), none, none, [], false⟩,
⟨3, some 19, .l (.load false 1 (.t 18)), none, none, [], false⟩,
⟨4, some 20, .p (.mv (.t 1)), none, none, [], false⟩,
⟨5, some 21, .p (.mv (.t 5)), none, none, [], false⟩,
⟨6, some 22, .p (.iaddr 1 (.t 20) (.t 21)), none, none, [], false⟩,
⟨7, some 23, .l (.load false 1 (.t 22)), none, none, [], false⟩,
⟨8, some 24, .p (.bin .neq (.t 19) (.t 23)), none, none, [], false⟩]
def f49r7 : List SOper := [
⟨0, some 4, .p (.mv (.c (.one (.bool false)))), none, none, [], false⟩]
def f49r8 : List SOper := [
⟨0, some 25, .p (.bin .add (.t 13) (.c (.one (.int .i64 1)))), none, none, [], false⟩,
⟨1, some 13, .p (.mv (.t 25)), none, none, [], false⟩]
def f49b0 : SC := (.seq (.ops f49r4 0) (.seq (.cond (.t 14) .skip (.exit 0)) (.seq (.block 1 (.seq (.ops f49r5 0) (.seq (.ops f49r6 9) (.cond (.t 24) (.seq (.ops f49r7 0) .ret) .skip)))) (.ops f49r8 0))))
def f49r9 : List SOper := [
⟨0, some 4, .p (.mv (.c (.one (.bool true)))), none, none, [], false⟩]
def f49c : SC := (.seq (.ops f49r0 0) (.seq (.seq (.ops f49r1 0) (.cond (.t 10) (.seq (.ops f49r2 0) .ret) .skip)) (.seq (.seq (.ops f49r3 0) (.block 0 (.loop f49b0))) (.seq (.ops f49r9 0) .ret))))
def f49 : SFn := ⟨26, f49c, [.t 4]⟩

/- sixdot/grid.Valid -/
def f50r0 : List SOper := [
⟨0, some 1, .a (.box (.t 0)), none, none, [], false⟩,
⟨1, some 2, .p (.mv (.c (.one (.bool false)))), none, none, [], false⟩]
def f50r1 : List SOper := [
⟨0, some 5, .p (.faddr 0 (.t 1)), none, none, [], false⟩,
⟨1, some 6, .l (.load false 1 (.t 5)), none, none, [], false⟩,
⟨2, some 7, .p (.bin .lss (.t 6) (.c (.one (.int .i64 0)))), none, none, [], false⟩,
⟨3, some 8, .p (.mv (.t 7)), none, none, [], false⟩,
⟨4, some 9, .p (.faddr 0 (.t 1)), (some (8, false)), none, [], false⟩,
⟨5, some 10, .l (.load false 1 (.t 9)), (some (8, false)), none, [], false⟩,
⟨6, some 11, .p (.bin .gtr (.t 10) (.c (.one (.int .i64 200)))), (some (8, false)), none, [], false⟩,
⟨7, some 12, .p (.pick (.t 8) (.c (.one (.bool true))) (.t 11)), none, none, [], false⟩,
⟨8, some 13, .p (.mv (.t 12)), none, none, [], false⟩,
⟨9, some 14, .p (.faddr 1 (.t 1)), (some (13, false)), none, [], false⟩,
⟨10, some 15, .l (.load false 1 (.t 14)), (some (13, false)), none, [], false⟩,
⟨11, some 16, .p (.bin .lss (.t 15) (.c (.one (.int .i64 0)))), (some (13, false)), none, [], false⟩,
⟨12, some 17, .p (.pick (.t 13) (.c (.one (.bool true))) (.t 16)), none, none, [], false⟩,
⟨13, some 18, .p (.mv (.t 17)), none, none, [], false⟩,
⟨14, some 19, .p (.faddr 1 (.t 1)), (some (18, false)), none, [], false⟩,
⟨15, some 20, .l (.load false 1 (.t 19)), (some (18, false)), none, [], false⟩,
⟨16, some 21, .p (.bin .gtr (.t 20) (.c (.one (.int .i64 200)))), (some (18, false)), none, [], false⟩,
⟨17, some 22, .p (.pick (.t 18) (.c (.one (.bool true))) (.t 21)), none, none, [], false⟩,
⟨18, some 23, .p (.mv (.t 22)), none, none, [], false⟩,
⟨19, some 24, .p (.faddr 2 (.t 1)), (some (23, false)), none, [], false⟩,
⟨20, some 25, .l (.load false 1 (.t 24)), (some (23, false)), none, [], false⟩,
⟨21, some 26, .p (.len (.t 25)), (some (23, false)), none, [], false⟩,
⟨22, some 27, .p (.faddr 1 (.t 1)), (some (23, false)), none, [], false⟩,
⟨23, some 28, .l (.load false 1 (.t 27)), (some (23, false)), none, [], false⟩,
⟨24, some 29, .p (.bin .neq (.t 26) (.t 28)), (some (23, false)), none, [], false⟩,
⟨25, some 30, .p (.pick (.t 23) (.c (.one (.bool true))) (.t 29)), none, none, [], false⟩]
def f50r2 : List SOper := [
⟨0, some 2, .p (.mv (.c (.one (.bool false)))), none, none, [], false⟩]
def f50r3 : List SOper := [
⟨0, some 31, .p (.faddr 2 (.t 1)), none, none, [], false⟩,
⟨1, some 32, .l (.load false 1 (.t 31)), none, none, [], false⟩,
⟨2, some 33, .p (.len (.t 32)), none, none, [], false⟩,
⟨3, some 34, .p (.mv (.c (.one (.int .i64 0)))), none, none, [], false⟩]
def f50r4 : List SOper := [
⟨0, some 35, .p (.bin .lss (.t 34) (.t 33)), none, none, [], false⟩]
def f50r5 : List SOper := [
⟨0, some 36, .p (.iaddr 1 (.t 32) (.t 34)), none, none, [], false⟩,
⟨1, some 37, .l (.load false 1 (.t 36)), none, none, [], false⟩,
⟨2, some 4, .p (.mv (.t 37)), none, none, [], false⟩]
def f50r6 : List SOper := [
⟨0, some 38, .p (.mv (.t 4)), none, none, [], false⟩,
⟨1, some 39, .p (.len (.t 38)), none, none, [], false⟩,
⟨2, some 40, .p (.faddr 0 (.t 1)), none, none, [], false⟩,
⟨3, some 41, .l (.load false 1 (.t 40)), none, none, [], false⟩,
⟨4, some 42, .p (.bin .neq (.t 39) (.t 41)), none, none, [], false⟩]
def f50r7 : List SOper := [
⟨0, some 2, .p (.mv (.c (.one (.bool false)))), none, none, [], false⟩]
def f50r8 : List SOper := [
⟨0, some 43, .p (.bin .add (.t 34) (.c (.one (.int .i64 1)))), none, none, [], false⟩,
⟨1, some 34, .p (.mv (.t 43)), none, none, [], false⟩]
def f50b0 : SC := (.seq (.ops f50r4 0) (.seq (.cond (.t 35) .skip (.exit 0)) (.seq (.block 1 (.seq (.ops f50r5 0) (.seq (.ops f50r6 0) (.cond (.t 42) (.seq (.ops f50r7 0) .ret) .skip)))) (.ops f50r8 0))))
def f50r9 : List SOper := [
⟨0, some 2, .p (.mv (.c (.one (.bool true)))), none, none, [], false⟩]
def f50c : SC := (.seq (.ops f50r0 0) (.seq (.seq (.ops f50r1 0) (.cond (.t 30) (.seq (.ops f50r2 0) .ret) .skip)) (.seq (.seq (.ops f50r3 0) (.block 0 (.loop f50b0))) (.seq (.ops f50r9 0) .ret))))
def f50 : SFn := ⟨44, f50c, [.t 2]⟩

/- sixdot/number.Page -/
def f52r0 : List SOper := [
⟨0, some 2, .a (.box (.t 0)), none, none, [], false⟩,
⟨1, some 4, .p (.mv (.c (.one .nils))), none, none, [], false⟩,
⟨2, some 5, .p (.mv (.c (.one (.int .i64 0)))), none, none, [], false⟩]
def f52r1 : List SOper := [
⟨0, some 9, .p (.faddr 0 (.t 2)), none, none, [], false⟩,
⟨1, some 10, .l (.load false 1 (.t 9)), none, none, [], false⟩,
⟨2, some 11, .p (.bin .lss (.t 10) (.c (.one (.int .i64 1)))), none, none, [], false⟩,
⟨3, some 12, .p (.mv (.t 11)), none, none, [], false⟩,
⟨4, some 13, .p (.faddr 0 (.t 2)), (some (12, false)), none, [], false⟩,
⟨5, some 14, .l (.load false 1 (.t 13)), (some (12, false)), none, [], false⟩,
⟨6, some 15, .p (.bin .gtr (.t 14) (.c (.one (.int .i64 9999)))), (some (12, false)), none, [], false⟩,
⟨7, some 16, .p (.pick (.t 12) (.c (.one (.bool true))) (.t 15)), none, none, [], false⟩,
⟨8, some 17, .p (.mv (.t 16)), none, none, [], false⟩,
⟨9, some 18, .p (.faddr 1 (.t 2)), (some (17, false)), none, [], false⟩,
⟨10, some 19, .l (.load false 1 (.t 18)), (some (17, false)), none, [], false⟩,
⟨11, some 20, .p (.bin .lss (.t 19) (.c (.one (.int .i64 0)))), (some (17, false)), none, [], false⟩,
⟨12, some 21, .p (.pick (.t 17) (.c (.one (.bool true))) (.t 20)), none, none, [], false⟩,
⟨13, some 22, .p (.mv (.t 21)), none, none, [], false⟩,
⟨14, some 23, .p (.faddr 1 (.t 2)), (some (22, false)), none, [], false⟩,
⟨15, some 24, .l (.load false 1 (.t 23)), (some (22, false)), none, [], false⟩,
⟨16, some 25, .p (.bin .gtr (.t 24) (.c (.one (.int .i64 2)))), (some (22, false)), none, [], false⟩,
⟨17, some 26, .p (.pick (.t 22) (.c (.one (.bool true))) (.t 25)), none, none, [], false⟩]
def f52r2 : List SOper := [
⟨0, some 4, .p (.mv (.c (.one .nils))), none, none, [], false⟩,
⟨1, some 5, .p (.mv (.c (.one (.int .i64 190)))), none, none, [], false⟩]
def f52r3 : List SOper := [
⟨0, some 27, .p (.faddr 0 (.t 2)), none, none, [], false⟩,
⟨1, some 28, .l (.load false 1 (.t 27)), none, none, [], false⟩,
⟨2, some 29, .p (.bin .mul (.c (.one (.int .i64 2))) (.t 28)), none, none, [], false⟩,
⟨3, some 6, .p (.mv (.t 29)), none, none, [], false⟩]
def f52r4 : List SOper := [
⟨0, some 30, .p (.mv (.t 1)), none, none, [], false⟩,
⟨1, some 31, .p (.not (.t 30)), none, none, [], false⟩]
def f52r5 : List SOper := [
⟨0, some 32, .p (.mv (.t 6)), none, none, [], false⟩,
⟨1, some 33, .p (.bin .sub (.t 32) (.c (.one (.int .i64 1)))), none, none, [], false⟩,
⟨2, some 6, .p (.mv (.t 33)), none, none, [], false⟩]
def f52r6 : List SOper := [
⟨0, some 35, .p (.mv (.t 6)), none, none, [], false⟩,
⟨1, some 36, .cf 54 [(.t 35)], none, none, [], false⟩,
⟨2, some 34, .p (.mv (.t 36)), none, none, [], false⟩,
⟨3, some 37, .p (.extract (.t 34) 0), none, none, [], false⟩,
⟨4, some 38, .p (.extract (.t 34) 1), none, none, [], false⟩,
⟨5, some 7, .p (.mv (.t 37)), none, none, [], false⟩,
⟨6, some 8, .p (.mv (.t 38)), none, none, [], false⟩]
def f52r7 : List SOper := [
⟨0, some 39, .p (.mv (.t 8)), none, none, [], false⟩,
⟨1, some 40, .p (.bin .eql (.t 39) (.c (.one (.int .i64 0)))), none, none, [], false⟩,
⟨2, some 41, .p (.mv (.t 40)), none, none, [], false⟩,
⟨3, some 42, .p (.faddr 1 (.t 2)), (some (41, true)), none, [], false⟩,
⟨4, some 43, .l (.load false 1 (.t 42)), (some (41, true)), none, [], false⟩,
⟨5, some 44, .p (.bin .gtr (.t 43) (.c (.one (.int .i64 0)))), (some (41, true)), none, [], false⟩,
⟨6, some 45, .p (.pick (.t 41) (.t 44) (.c (.one (.bool false)))), none, none, [], false⟩]
def f52r8 : List SOper := [
⟨0, some 46, .p (.mv (.t 7)), none, none, [], false⟩,
⟨1, some 47, .p (.faddr 1 (.t 2)), none, none, [], false⟩,
⟨2, some 48, .l (.load false 1 (.t 47)), none, none, [], false⟩,
⟨3, some 49, .p (.bin .sub (.t 48) (.c (.one (.int .i64 1)))), none, none, [], false⟩,
⟨4, some 50, .p (.aaddr 26 1 (.c (.one (.ptr 1 0))) (.t 49)), none, none, [], false⟩,
⟨5, some 51, .l (.load false 1 (.t 50)), none, none, [], false⟩,
⟨6, some 52, .a (.bslice 1 2 [(.int .u8 0)] [(0, 1, (.c (.one (.int .u8 48)))), (1, 1, (.t 51))]), none, none, [], false⟩,
⟨7, some 53, .e (.append 1 1 (.t 46) (.t 52)), none, none, [], false⟩,
⟨8, some 7, .p (.mv (.t 53)), none, none, [], false⟩]
def f52r9 : List SOper := [
⟨0, some 54, .p (.mv (.t 7)), none, none, [], false⟩,
⟨1, some 55, .p (.mv (.t 8)), none, none, [], false⟩,
⟨2, some 4, .p (.mv (.t 54)), none, none, [], false⟩,
⟨3, some 5, .p (.mv (.t 55)), none, none, [], false⟩]
def f52c : SC := (.seq (.ops f52r0 0) (.seq (.seq (.ops f52r1 0) (.cond (.t 26) (.seq (.ops f52r2 0) .ret) .skip)) (.seq (.ops f52r3 0) (.seq (.seq (.ops f52r4 0) (.cond (.t 31) (.ops f52r5 0) .skip)) (.seq (.ops f52r6 0) (.seq (.seq (.ops f52r7 0) (.cond (.t 45) (.ops f52r8 0) .skip)) (.seq (.ops f52r9 0) .ret)))))))
def f52 : SFn := ⟨56, f52c, [.t 4, .t 5]⟩

/- sixdot/number.join -/
def f53r0 : List SOper := [
⟨0, some 2, .p (.mv (.c (.one .nils))), none, none, [], false⟩]
def f53r1 : List SOper := [
⟨0, some 3, .p (.mv (.t 0)), none, none, [], false⟩,
⟨1, some 4, .cf 55 [(.t 3)], none, none, [], false⟩,
⟨2, some 2, .p (.mv (.t 4)), none, none, [], false⟩]
def f53c : SC := (.seq (.ops f53r0 0) (.seq (.ops f53r1 0) .ret))
def f53 : SFn := ⟨5, f53c, [.t 2]⟩

/- sixdot/number.Write -/
def f54r0 : List SOper := [
⟨0, some 2, .p (.mv (.c (.one .nils))), none, none, [], false⟩,
⟨1, some 3, .p (.mv (.c (.one (.int .i64 0)))), none, none, [], false⟩]
def f54r1 : List SOper := [
⟨0, some 7, .p (.mv (.t 0)), none, none, [], false⟩,
⟨1, some 8, .p (.bin .lss (.t 7) (.c (.one (.int .i64 0)))), none, none, [], false⟩,
⟨2, some 9, .p (.mv (.t 8)), none, none, [], false⟩,
⟨3, some 10, .p (.mv (.t 0)), (some (9, false)), none, [], false⟩,
⟨4, some 11, .p (.bin .gtr (.t 10) (.c (.one (.int .i64 99999)))), (some (9, false)), none, [], false⟩,
⟨5, some 12, .p (.pick (.t 9) (.c (.one (.bool true))) (.t 11)), none, none, [], false⟩]
def f54r2 : List SOper := [
⟨0, some 2, .p (.mv (.c (.one .nils))), none, none, [], false⟩,
⟨1, some 3, .p (.mv (.c (.one (.int .i64 190)))), none, none, [], false⟩]
def f54r3 : List SOper := [
⟨0, some 13, .a (.bslice 1 1 [(.int .u8 0)] [(0, 1, (.c (.one (.int .u8 60))))]), none, none, [], false⟩,
⟨1, some 4, .p (.mv (.t 13)), none, none, [], false⟩]
def f54r4 : List SOper := [
⟨0, some 14, .p (.mv (.t 0)), none, none, [], false⟩,
⟨1, some 15, .cf 56 [(.t 14)], none, none, [], false⟩,
⟨2, some 16, .e (.sbytes (.t 15)), none, none, [], false⟩,
⟨3, some 17, .p (.len (.t 16)), none, none, [], false⟩,
⟨4, some 18, .p (.mv (.c (.one (.int .i64 0)))), none, none, [], false⟩]
def f54r5 : List SOper := [
⟨0, some 19, .p (.bin .lss (.t 18) (.t 17)), none, none, [], false⟩]
def f54r6 : List SOper := [
⟨0, some 20, .p (.iaddr 1 (.t 16) (.t 18)), none, none, [], false⟩,
⟨1, some 21, .l (.load false 1 (.t 20)), none, none, [], false⟩,
⟨2, some 6, .p (.mv (.t 21)), none, none, [], false⟩]
def f54r7 : List SOper := [
⟨0, some 22, .p (.mv (.t 4)), none, none, [], false⟩,
⟨1, some 23, .p (.mv (.t 6)), none, none, [], false⟩,
⟨2, some 24, .p (.bin .sub (.t 23) (.c (.one (.int .u8 48)))), none, none, [], false⟩,
⟨3, some 25, .p (.aaddr 10 1 (.c (.one (.ptr 2 0))) (.t 24)), none, none, [], false⟩,
⟨4, some 26, .l (.load false 1 (.t 25)), none, none, [], false⟩,
⟨5, some 27, .a (.bslice 1 1 [(.int .u8 0)] [(0, 1, (.t 26))]), none, none, [], false⟩,
⟨6, some 28, .e (.append 1 1 (.t 22) (.t 27)), none, none, [], false⟩,
⟨7, some 4, .p (.mv (.t 28)), none, none, [], false⟩]
def f54r8 : List SOper := [
⟨0, some 29, .p (.bin .add (.t 18) (.c (.one (.int .i64 1)))), none, none, [], false⟩,
⟨1, some 18, .p (.mv (.t 29)), none, none, [], false⟩]
def f54b0 : SC := (.seq (.ops f54r5 0) (.seq (.cond (.t 19) .skip (.exit 0)) (.seq (.block 1 (.seq (.ops f54r6 0) (.ops f54r7 0))) (.ops f54r8 0))))
def f54r9 : List SOper := [
⟨0, some 30, .p (.mv (.t 4)), none, none, [], false⟩,
⟨1, some 2, .p (.mv (.t 30)), none, none, [], false⟩,
⟨2, some 3, .p (.mv (.c (.one (.int .i64 0)))), none, none, [], false⟩]
def f54c : SC := (.seq (.ops f54r0 0) (.seq (.seq (.ops f54r1 0) (.cond (.t 12) (.seq (.ops f54r2 0) .ret) .skip)) (.seq (.ops f54r3 0) (.seq (.seq (.ops f54r4 0) (.block 0 (.loop f54b0))) (.seq (.ops f54r9 0) .ret)))))
def f54 : SFn := ⟨31, f54c, [.t 2, .t 3]⟩

/- slices.Concat[[]sixdot/api.Cell,sixdot/api.Cell] -/
def f55r0 : List SOper := [
⟨0, some 2, .p (.mv (.c (.one .nils))), none, none, [], false⟩]
def f55r1 : List SOper := [
⟨0, some 3, .p (.mv (.c (.one (.int .i64 0)))), none, none, [], false⟩]
def f55r2 : List SOper := [
⟨0, some 9, .p (.mv (.t 0)), none, none, [], false⟩,
⟨1, some 10, .p (.len (.t 9)), none, none, [], false⟩,
⟨2, some 11, .p (.mv (.c (.one (.int .i64 0)))), none, none, [], false⟩]
def f55r3 : List SOper := [
⟨0, some 12, .p (.bin .lss (.t 11) (.t 10)), none, none, [], false⟩]
def f55r4 : List SOper := [
⟨0, some 13, .p (.iaddr 1 (.t 9) (.t 11)), none, none, [], false⟩,
⟨1, some 14, .l (.load false 1 (.t 13)), none, none, [], false⟩,
⟨2, some 5, .p (.mv (.t 14)), none, none, [], false⟩]
def f55r5 : List SOper := [
⟨0, some 15, .p (.mv (.t 3)), none, none, [], false⟩,
⟨1, some 16, .p (.mv (.t 5)), none, none, [], false⟩,
⟨2, some 17, .p (.len (.t 16)), none, none, [], false⟩,
⟨3, some 18, .p (.bin .add (.t 15) (.t 17)), none, none, [], false⟩,
⟨4, some 3, .p (.mv (.t 18)), none, none, [], false⟩]
def f55r6 : List SOper := [
⟨0, some 19, .p (.mv (.t 3)), none, none, [], false⟩,
⟨1, some 20, .p (.bin .lss (.t 19) (.c (.one (.int .i64 0)))), none, none, [], false⟩]
def f55r7 : List SOper := [
⟨0, some 21, .no, none, none, [], false⟩,
⟨1, none, .no, none, none, [], false⟩]
def f55r8 : List SOper := [
⟨0, some 22, .p (.bin .add (.t 11) (.c (.one (.int .i64 1)))), none, none, [], false⟩,
⟨1, some 11, .p (.mv (.t 22)), none, none, [], false⟩]
def f55b0 : SC := (.seq (.ops f55r3 0) (.seq (.cond (.t 12) .skip (.exit 0)) (.seq (.block 1 (.seq (.ops f55r4 0) (.seq (.ops f55r5 0) (.seq (.ops f55r6 0) (.cond (.t 20) (.ops f55r7 0) .skip))))) (.ops f55r8 0))))
def f55r9 : List SOper := [
⟨0, some 23, .p (.mv (.t 3)), none, none, [], false⟩,
⟨1, some 24, .cf 57 [(.c (.one .nils)), (.t 23)], none, none, [], false⟩,
⟨2, some 6, .p (.mv (.t 24)), none, none, [], false⟩]
def f55r10 : List SOper := [
⟨0, some 25, .p (.mv (.t 0)), none, none, [], false⟩,
⟨1, some 26, .p (.len (.t 25)), none, none, [], false⟩,
⟨2, some 27, .p (.mv (.c (.one (.int .i64 0)))), none, none, [], false⟩]
def f55r11 : List SOper := [
⟨0, some 28, .p (.bin .lss (.t 27) (.t 26)), none, none, [], false⟩]
def f55r12 : List SOper := [
⟨0, some 29, .p (.iaddr 1 (.t 25) (.t 27)), none, none, [], false⟩,
⟨1, some 30, .l (.load false 1 (.t 29)), none, none, [], false⟩,
⟨2, some 8, .p (.mv (.t 30)), none, none, [], false⟩]
def f55r13 : List SOper := [
⟨0, some 31, .p (.mv (.t 6)), none, none, [], false⟩,
⟨1, some 32, .p (.mv (.t 8)), none, none, [], false⟩,
⟨2, some 33, .e (.append 1 1 (.t 31) (.t 32)), none, none, [], false⟩,
⟨3, some 6, .p (.mv (.t 33)), none, none, [], false⟩]
def f55r14 : List SOper := [
⟨0, some 34, .p (.bin .add (.t 27) (.c (.one (.int .i64 1)))), none, none, [], false⟩,
⟨1, some 27, .p (.mv (.t 34)), none, none, [], false⟩]
def f55b1 : SC := (.seq (.ops f55r11 0) (.seq (.cond (.t 28) .skip (.exit 2)) (.seq (.block 3 (.seq (.ops f55r12 0) (.ops f55r13 0))) (.ops f55r14 0))))
def f55r15 : List SOper := [
⟨0, some 35, .p (.mv (.t 6)), none, none, [], false⟩,
⟨1, some 2, .p (.mv (.t 35)), none, none, [], false⟩]
def f55c : SC := (.seq (.ops f55r0 0) (.seq (.ops f55r1 0) (.seq (.seq (.ops f55r2 0) (.block 0 (.loop f55b0))) (.seq (.ops f55r9 0) (.seq (.seq (.ops f55r10 0) (.block 2 (.loop f55b1))) (.seq (.ops f55r15 0) .ret))))))
def f55 : SFn := ⟨36, f55c, [.t 2]⟩

/- strconv.Itoa -/
def f56r0 : List SOper := [
⟨0, some 2, .p (.mv (.c (.one (.str ⟨#[]⟩)))), none, none, [], false⟩]
def f56r1 : List SOper := [
⟨0, some 3, .p (.mv (.t 0)), none, none, [], false⟩,
⟨1, some 4, .cf 58 [(.t 3)], none, none, [], false⟩,
⟨2, some 2, .p (.mv (.t 4)), none, none, [], false⟩]
def f56c : SC := (.seq (.ops f56r0 0) (.seq (.ops f56r1 0) .ret))
def f56 : SFn := ⟨5, f56c, [.t 2]⟩

/- slices.Grow[[]sixdot/api.Cell,sixdot/api.Cell] -/
def f57r0 : List SOper := [
⟨0, some 4, .p (.mv (.c (.one .nils))), none, none, [], false⟩]
def f57r1 : List SOper := [
⟨0, some 5, .p (.mv (.t 1)), none, none, [], false⟩,
⟨1, some 6, .p (.bin .lss (.t 5) (.c (.one (.int .i64 0)))), none, none, [], false⟩]
def f57r2 : List SOper := [
⟨0, some 7, .no, none, none, [], false⟩,
⟨1, none, .no, none, none, [], false⟩]
def f57r3 : List SOper := [
⟨0, some 8, .p (.mv (.t 1)), none, none, [], false⟩,
⟨1, some 9, .p (.mv (.t 0)), none, none, [], false⟩,
⟨2, some 10, .p (.cap (.t 9)), none, none, [], false⟩,
⟨3, some 11, .p (.mv (.t 0)), none, none, [], false⟩,
⟨4, some 12, .p (.len (.t 11)), none, none, [], false⟩,
⟨5, some 13, .p (.bin .sub (.t 10) (.t 12)), none, none, [], false⟩,
⟨6, some 14, .p (.bin .sub (.t 8) (.t 13)), none, none, [], false⟩,
⟨7, some 1, .p (.mv (.t 14)), none, none, [], false⟩]
def f57r4 : List SOper := [
⟨0, some 15, .p (.mv (.t 1)), none, none, [], false⟩,
⟨1, some 16, .p (.bin .gtr (.t 15) (.c (.one (.int .i64 0)))), none, none, [], false⟩]
def f57r5 : List SOper := [
⟨0, some 17, .p (.mv (.t 0)), none, none, [], false⟩,
⟨1, some 18, .p (.mv (.t 0)), none, none, [], false⟩,
⟨2, some 19, .p (.cap (.t 18)), none, none, [], false⟩,
⟨3, some 20, .p (.slice 1 (.t 17) none (some (.t 19)) none), none, none, [], false⟩,
⟨4, some 21, .p (.mv (.t 1)), none, none, [], false⟩,
⟨5, some 22, .e (.appendz 1 1 [(.int .u8 0)] (.t 20) (.t 21)), none, none, [], false⟩,
⟨6, some 23, .p (.mv (.t 0)), none, none, [], false⟩,
⟨7, some 24, .p (.len (.t 23)), none, none, [], false⟩,
⟨8, some 25, .p (.slice 1 (.t 22) none (some (.t 24)) none), none, none, [], false⟩,
⟨9, some 0, .p (.mv (.t 25)), none, none, [], false⟩]
def f57r6 : List SOper := [
⟨0, some 26, .p (.mv (.t 0)), none, none, [], false⟩,
⟨1, some 4, .p (.mv (.t 26)), none, none, [], false⟩]
def f57c : SC := (.seq (.ops f57r0 0) (.seq (.seq (.ops f57r1 0) (.cond (.t 6) (.ops f57r2 0) .skip)) (.seq (.seq (.ops f57r3 0) (.seq (.ops f57r4 0) (.cond (.t 16) (.ops f57r5 0) .skip))) (.seq (.ops f57r6 0) .ret))))
def f57 : SFn := ⟨27, f57c, [.t 4]⟩

/- internal/strconv.Itoa -/
def f58r0 : List SOper := [
⟨0, some 2, .p (.mv (.c (.one (.str ⟨#[]⟩)))), none, none, [], false⟩]
def f58r1 : List SOper := [
⟨0, some 3, .p (.mv (.t 0)), none, none, [], false⟩,
⟨1, some 4, .cf 59 [(.t 3), (.c (.one (.int .i64 10)))], none, none, [], false⟩,
⟨2, some 2, .p (.mv (.t 4)), none, none, [], false⟩]
def f58c : SC := (.seq (.ops f58r0 0) (.seq (.ops f58r1 0) .ret))
def f58 : SFn := ⟨5, f58c, [.t 2]⟩

/- internal/strconv.FormatInt -/
def f59r0 : List SOper := [
⟨0, some 4, .p (.mv (.c (.one (.str ⟨#[]⟩)))), none, none, [], false⟩]
def f59r1 : List SOper := [
⟨0, some 10, .p (.mv (.t 1)), none, none, [], false⟩,
⟨1, some 11, .p (.bin .eql (.t 10) (.c (.one (.int .i64 10)))), none, none, [], false⟩]
def f59r2 : List SOper := [
⟨0, some 12, .p (.mv (.t 0)), none, none, [], false⟩,
⟨1, some 13, .p (.bin .leq (.c (.one (.int .i64 0))) (.t 12)), none, none, [], false⟩,
⟨2, some 14, .p (.mv (.t 13)), none, none, [], false⟩,
⟨3, some 15, .p (.mv (.t 0)), (some (14, true)), none, [], false⟩,
⟨4, some 16, .p (.bin .lss (.t 15) (.c (.one (.int .i64 100)))), (some (14, true)), none, [], false⟩,
⟨5, some 17, .p (.pick (.t 14) (.t 16) (.c (.one (.bool false)))), none, none, [], false⟩]
def f59r3 : List SOper := [
⟨0, some 18, .p (.mv (.t 0)), none, none, [], false⟩,
⟨1, some 19, .cf 60 [(.t 18)], none, none, [], false⟩,
⟨2, some 4, .p (.mv (.t 19)), none, none, [], false⟩]
def f59r4 : List SOper := [
⟨0, some 5, .a (.alloc [(.int .u8 0), (.int .u8 0), (.int .u8 0), (.int .u8 0), (.int .u8 0), (.int .u8 0), (.int .u8 0), (.int .u8 0), (.int .u8 0), (.int .u8 0), (.int .u8 0), (.int .u8 0), (.int .u8 0), (.int .u8 0), (.int .u8 0), (.int .u8 0), (.int .u8 0), (.int .u8 0), (.int .u8 0), (.int .u8 0), (.int .u8 0), (.int .u8 0), (.int .u8 0), (.int .u8 0)]), none, none, [], false⟩]
def f59r5 : List SOper := [
⟨0, some 20, .p (.mv (.t 0)), none, none, [], false⟩,
⟨1, some 21, .p (.conv .u64 (.t 20)), none, none, [], false⟩,
⟨2, some 6, .p (.mv (.t 21)), none, none, [], false⟩]
def f59r6 : List SOper := [
⟨0, some 22, .p (.mv (.t 0)), none, none, [], false⟩,
⟨1, some 23, .p (.bin .lss (.t 22) (.c (.one (.int .i64 0)))), none, none, [], false⟩]
def f59r7 : List SOper := [
⟨0, some 24, .p (.mv (.t 6)), none, none, [], false⟩,
⟨1, some 25, .p (.neg (.t 24)), none, none, [], false⟩,
⟨2, some 6, .p (.mv (.t 25)), none, none, [], false⟩]
def f59r8 : List SOper := [
⟨0, some 26, .p (.mv (.t 6)), none, none, [], false⟩,
⟨1, some 27, .cf 61 [(.t 26)], none, none, [], false⟩,
⟨2, some 7, .p (.mv (.t 27)), none, none, [], false⟩]
def f59r9 : List SOper := [
⟨0, some 28, .p (.mv (.t 7)), none, none, [], false⟩,
⟨1, some 29, .p (.bin .add (.c (.one (.int .i64 1))) (.t 28)), none, none, [], false⟩,
⟨2, some 30, .no, none, none, [], false⟩,
⟨3, some 31, .p (.mv (.t 6)), none, none, [], false⟩,
⟨4, some 32, .cf 62 [(.t 30), (.t 31)], none, none, [], false⟩]
def f59r10 : List SOper := [
⟨0, some 33, .p (.mv (.t 0)), none, none, [], false⟩,
⟨1, some 34, .p (.bin .lss (.t 33) (.c (.one (.int .i64 0)))), none, none, [], false⟩]
def f59r11 : List SOper := [
⟨0, some 35, .p (.aaddr 24 1 (.t 5) (.c (.one (.int .i64 0)))), none, none, [], false⟩,
⟨1, none, .e (.store 1 (.t 35) (.c (.one (.int .u8 45)))), none, none, [], false⟩]
def f59r12 : List SOper := [
⟨0, some 36, .p (.mv (.t 7)), none, none, [], false⟩,
⟨1, some 37, .p (.bin .add (.c (.one (.int .i64 1))) (.t 36)), none, none, [], false⟩,
⟨2, some 38, .no, none, none, [], false⟩,
⟨3, some 39, .no, none, none, [], false⟩,
⟨4, some 4, .p (.mv (.t 39)), none, none, [], false⟩]
def f59r13 : List SOper := [
⟨0, some 40, .p (.mv (.t 7)), none, none, [], false⟩,
⟨1, some 41, .p (.bin .add (.c (.one (.int .i64 1))) (.t 40)), none, none, [], false⟩,
⟨2, some 42, .no, none, none, [], false⟩,
⟨3, some 43, .no, none, none, [], false⟩,
⟨4, some 4, .p (.mv (.t 43)), none, none, [], false⟩]
def f59r14 : List SOper := [
⟨0, some 45, .p (.mv (.t 0)), none, none, [], false⟩,
⟨1, some 46, .p (.conv .u64 (.t 45)), none, none, [], false⟩,
⟨2, some 47, .p (.mv (.t 1)), none, none, [], false⟩,
⟨3, some 48, .p (.mv (.t 0)), none, none, [], false⟩,
⟨4, some 49, .p (.bin .lss (.t 48) (.c (.one (.int .i64 0)))), none, none, [], false⟩,
⟨5, some 50, .cf 63 [(.c (.one .nils)), (.t 46), (.t 47), (.t 49), (.c (.one (.bool false)))], none, none, [], false⟩,
⟨6, some 44, .p (.mv (.t 50)), none, none, [], false⟩,
⟨7, some 51, .p (.extract (.t 44) 0), none, none, [], false⟩,
⟨8, some 52, .p (.extract (.t 44) 1), none, none, [], false⟩,
⟨9, some 8, .p (.mv (.t 51)), none, none, [], false⟩,
⟨10, some 9, .p (.mv (.t 52)), none, none, [], false⟩]
def f59r15 : List SOper := [
⟨0, some 53, .p (.mv (.t 9)), none, none, [], false⟩,
⟨1, some 4, .p (.mv (.t 53)), none, none, [], false⟩]
def f59c : SC := (.seq (.ops f59r0 0) (.seq (.seq (.ops f59r1 0) (.cond (.t 11) (.seq (.seq (.ops f59r2 0) (.cond (.t 17) (.seq (.ops f59r3 0) .ret) .skip)) (.seq (.ops f59r4 0) (.seq (.ops f59r5 0) (.seq (.seq (.ops f59r6 0) (.cond (.t 23) (.ops f59r7 0) .skip)) (.seq (.ops f59r8 0) (.seq (.ops f59r9 0) (.seq (.seq (.ops f59r10 0) (.cond (.t 34) (.seq (.ops f59r11 0) (.seq (.ops f59r12 0) .ret)) .skip)) (.seq (.ops f59r13 0) .ret)))))))) .skip)) (.seq (.ops f59r14 0) (.seq (.ops f59r15 0) .ret))))
def f59 : SFn := ⟨54, f59c, [.t 4]⟩

/- internal/strconv.small -/
def f60r0 : List SOper := [
⟨0, some 2, .p (.mv (.c (.one (.str ⟨#[]⟩)))), none, none, [], false⟩]
def f60r1 : List SOper := [
⟨0, some 3, .p (.mv (.t 0)), none, none, [], false⟩,
⟨1, some 4, .p (.bin .lss (.t 3) (.c (.one (.int .i64 10)))), none, none, [], false⟩]
def f60r2 : List SOper := [
⟨0, some 5, .p (.mv (.t 0)), none, none, [], false⟩,
⟨1, some 6, .p (.mv (.t 0)), none, none, [], false⟩,
⟨2, some 7, .p (.bin .add (.t 6) (.c (.one (.int .i64 1)))), none, none, [], false⟩,
⟨3, some 8, .p (.sslice (.c (.one (.str ⟨#[48, 49, 50, 51, 52, 53, 54, 55, 56, 57, 97, 98, 99, 100, 101, 102, 103, 104, 105, 106, 107, 108, 109, 110, 111, 112, 113, 114, 115, 116, 117, 118, 119, 120, 121, 122]⟩))) (some (.t 5)) (some (.t 7))), none, none, [], false⟩,
⟨4, some 2, .p (.mv (.t 8)), none, none, [], false⟩]
def f60r3 : List SOper := [
⟨0, some 9, .p (.mv (.t 0)), none, none, [], false⟩,
⟨1, some 10, .p (.bin .mul (.t 9) (.c (.one (.int .i64 2)))), none, none, [], false⟩,
⟨2, some 11, .p (.mv (.t 0)), none, none, [], false⟩,
⟨3, some 12, .p (.bin .mul (.t 11) (.c (.one (.int .i64 2)))), none, none, [], false⟩,
⟨4, some 13, .p (.bin .add (.t 12) (.c (.one (.int .i64 2)))), none, none, [], false⟩,
⟨5, some 14, .p (.sslice (.c (.one (.str ⟨#[48, 48, 48, 49, 48, 50, 48, 51, 48, 52, 48, 53, 48, 54, 48, 55, 48, 56, 48, 57, 49, 48, 49, 49, 49, 50, 49, 51, 49, 52, 49, 53, 49, 54, 49, 55, 49, 56, 49, 57, 50, 48, 50, 49, 50, 50, 50, 51, 50, 52, 50, 53, 50, 54, 50, 55, 50, 56, 50, 57, 51, 48, 51, 49, 51, 50, 51, 51, 51, 52, 51, 53, 51, 54, 51, 55, 51, 56, 51, 57, 52, 48, 52, 49, 52, 50, 52, 51, 52, 52, 52, 53, 52, 54, 52, 55, 52, 56, 52, 57, 53, 48, 53, 49, 53, 50, 53, 51, 53, 52, 53, 53, 53, 54, 53, 55, 53, 56, 53, 57, 54, 48, 54, 49, 54, 50, 54, 51, 54, 52, 54, 53, 54, 54, 54, 55, 54, 56, 54, 57, 55, 48, 55, 49, 55, 50, 55, 51, 55, 52, 55, 53, 55, 54, 55, 55, 55, 56, 55, 57, 56, 48, 56, 49, 56, 50, 56, 51, 56, 52, 56, 53, 56, 54, 56, 55, 56, 56, 56, 57, 57, 48, 57, 49, 57, 50, 57, 51, 57, 52, 57, 53, 57, 54, 57, 55, 57, 56, 57, 57]⟩))) (some (.t 10)) (some (.t 13))), none, none, [], false⟩,
⟨6, some 2, .p (.mv (.t 14)), none, none, [], false⟩]
def f60c : SC := (.seq (.ops f60r0 0) (.seq (.seq (.ops f60r1 0) (.cond (.t 4) (.seq (.ops f60r2 0) .ret) .skip)) (.seq (.ops f60r3 0) .ret)))
def f60 : SFn := ⟨15, f60c, [.t 2]⟩

end Go.Ac

/- The table of functions. -/
namespace Go.Ac
open Go.Ab
set_option maxRecDepth 100000
def tab : T SFn := (.nd none (.nd none (.nd (some f3) (.nd (some f7) (.nd none (.nd (some f31) .lf .lf) (.nd (some f47) .lf .lf)) (.nd (some f23) (.nd (some f39) .lf .lf) (.nd (some f55) .lf .lf))) (.nd (some f11) (.nd (some f19) (.nd (some f35) .lf .lf) .lf) (.nd (some f27) (.nd (some f43) .lf .lf) (.nd (some f59) .lf .lf)))) (.nd (some f5) (.nd (some f9) (.nd (some f17) (.nd (some f33) .lf .lf) (.nd (some f49) .lf .lf)) (.nd (some f25) (.nd (some f41) .lf .lf) (.nd (some f57) .lf .lf))) (.nd (some f13) (.nd (some f21) (.nd (some f37) .lf .lf) (.nd (some f53) .lf .lf)) (.nd (some f29) (.nd (some f45) .lf .lf) .lf)))) (.nd none (.nd (some f4) (.nd (some f8) (.nd (some f16) (.nd (some f32) .lf .lf) (.nd (some f48) .lf .lf)) (.nd (some f24) (.nd (some f40) .lf .lf) (.nd (some f56) .lf .lf))) (.nd (some f12) (.nd (some f20) (.nd (some f36) .lf .lf) (.nd (some f52) .lf .lf)) (.nd (some f28) (.nd (some f44) .lf .lf) (.nd (some f60) .lf .lf)))) (.nd (some f6) (.nd (some f10) (.nd (some f18) (.nd (some f34) .lf .lf) (.nd (some f50) .lf .lf)) (.nd (some f26) (.nd (some f42) .lf .lf) (.nd (some f58) .lf .lf))) (.nd (some f14) (.nd (some f22) (.nd (some f38) .lf .lf) (.nd (some f54) .lf .lf)) (.nd (some f30) (.nd (some f46) .lf .lf) .lf)))))
end Go.Ac
