/- From a law's abstract contract to its row. -/
import Derived.Test.YtejpbhindcglpaaDoorAb10
import Derived.Below
import Derived.ChangeSame
import Derived.RowKit
import Derived.Carry
set_option linter.unusedVariables false
set_option linter.unusedSimpArgs false
namespace Go.Ab

section
variable {X : Type} {enc : TypeId × Value → X} {P : Program} {G : Nat} {w : World} {base : Nat} {held : Bool}

def argV (T : Ty) (l : List C) : V :=
  match T with
  | .agg _ => .agg l
  | _ => match l with
    | [c] => .one c
    | _ => .undef

theorem arg_ok {n : Nat} {t : TypeId} {T : Ty} (hd : desc P n t = some T) {v : Value} {d : DataW X} {ps : List MemPlace} {r : Reach} {b0 : Nat} (ht : DataW.Trod enc P w base (fun _ => true) held t v d ps) (hv : Value.okWide P w r b0 t v)
    {μ : Nat → Pl} {K : Nat → Prop} {H : Hp} (hR : Rel G μ K H w) (hN : NoMut H) : ∃ l H' μ' K', lay T [d] H = some (l, H') ∧ Rel G μ' K' H' w ∧ RV μ' K' (argV T l) v ∧ Gr μ K H μ' K' H' := by
  obtain ⟨fuel, hf⟩ := ht
  obtain ⟨hok, hsz⟩ := lay_ok (enc := enc) (G := G) (w := w) (base := base) (held := held) n t T hd
  obtain ⟨hlen, l, H', μ', K', e1, R1, a1, g1⟩ := hok hf hR hN
  refine ⟨l, H', μ', K', e1, R1, ?_, g1⟩
  have hone : (∀ cs, v ≠ .agg cs) → T.sz = 1 → (∀ r, T ≠ .agg r) → RV μ' K' (argV T l) v := by
    intro hna h1 hT
    have hc : v.cells = #[v] := by
      cases v <;> first | rfl | exact absurd rfl (hna _)
    rw [hc] at a1
    have hl : l.length = 1 := by rw [a1.len]; rfl
    match l, hl with
    | [c], _ =>
      have : argV T [c] = .one c := by
        cases T <;> first | rfl | exact absurd rfl (hT _)
      rw [this]
      exact a1.1
  cases n with
  | zero => cases hd
  | succ n =>
    simp only [desc, chk] at hd
    split at hd
    · rename_i T0 hT0
      split at hd
      · obtain rfl := Option.some.inj hd
        have hagg : ∀ r, T0 = .agg r → (∃ cs, v = .agg cs) → RV μ' K' (argV T0 l) v := by
          rintro r rfl ⟨cs, rfl⟩
          exact ⟨cs.toList, by simp, a1⟩
        split at hT0
        · rename_i hu
          obtain rfl := Option.some.inj hT0
          refine hone (fun cs e => ?_) rfl (fun r => by simp)
          subst e; simp [Value.okWide, hu, Cell.okWide, Cell.ok] at hv
        · rename_i k hu
          obtain rfl := Option.some.inj hT0
          refine hone (fun cs e => ?_) rfl (fun r => by simp)
          subst e; simp [Value.okWide, hu, Cell.okWide, Cell.ok] at hv
        · rename_i hu
          obtain rfl := Option.some.inj hT0
          refine hone (fun cs e => ?_) rfl (fun r => by simp)
          subst e; simp [Value.okWide, hu, Cell.okWide, Cell.ok] at hv
        · rename_i e hu
          split at hT0
          · split at hT0
            · obtain rfl := Option.some.inj hT0
              refine hone (fun cs e => ?_) rfl (fun r => by simp)
              subst e; simp [Value.okWide, hu, Cell.okWide, Cell.ok] at hv
            · cases hT0
          · cases hT0
        · rename_i fs hu
          split at hT0
          · obtain rfl := Option.some.inj hT0
            simp only [Value.okWide, hu] at hv
            obtain ⟨cs, h1, _⟩ := hv
            exact hagg _ rfl ⟨cs, h1⟩
          · cases hT0
        · rename_i k e hu
          split at hT0
          · obtain rfl := Option.some.inj hT0
            simp only [Value.okWide, hu] at hv
            obtain ⟨cs, h1, _⟩ := hv
            exact hagg _ rfl ⟨cs, h1⟩
          · cases hT0
        · cases hT0
      · cases hd
    · cases hd

def descs (P : Program) (n : Nat) : List TypeId → Option (List Ty)
  | [] => some []
  | t :: ts => match desc P n t with
    | some a => match descs P n ts with
      | some l => some (a :: l)
      | none => none
    | none => none

def layArgs : List Ty → List (DataW X) → Hp → Option (List V × Hp)
  | [], [], H => some ([], H)
  | t :: ts, d :: ds, H => match lay t [d] H with
    | some (l, H1) => match layArgs ts ds H1 with
      | some (vs, H2) => some (argV t l :: vs, H2)
      | none => none
    | none => none
  | _, _, _ => none

theorem args_ok {n : Nat} {r : Reach} {b0 : Nat} : ∀ {ts : List TypeId} {Ts : List Ty} {vs : List Value} {ds : List (DataW X)} {ps : List MemPlace} {μ : Nat → Pl} {K : Nat → Prop} {H : Hp}, descs P n ts = some Ts →
    DataW.TrodAll enc P w base (fun _ => true) held ts vs ds ps → (∀ (j : Nat) t v, ts[j]? = some t → vs[j]? = some v → Value.okWide P w r b0 t v) → Rel G μ K H w → NoMut H →
    ∃ avs H' μ' K', layArgs Ts ds H = some (avs, H') ∧ Rel G μ' K' H' w ∧ All2 (RV μ' K') avs vs ∧ Gr μ K H μ' K' H'
  | [], Ts, [], [], ps, μ, K, H, hd, _, _, hR, hN => by
    simp only [descs, Option.some.injEq] at hd
    subst hd
    exact ⟨[], H, μ, K, rfl, hR, trivial, Gr.refl _ _ _⟩
  | t :: ts, Ts, v :: vs, d :: ds, ps, μ, K, H, hd, ht, hv, hR, hN => by
    simp only [descs] at hd
    cases h1 : desc P n t with
    | none => simp [h1] at hd
    | some a =>
      simp only [h1] at hd
      cases h2 : descs P n ts with
      | none => simp [h2] at hd
      | some l =>
        simp only [h2, Option.some.injEq] at hd
        subst hd
        obtain ⟨p, q, g1, g2, _⟩ := ht
        obtain ⟨l1, H1, μ1, K1, e1, R1, a1, gr1⟩ := arg_ok h1 g1 (hv 0 t v rfl rfl) hR hN
        obtain ⟨avs, H2, μ2, K2, e2, R2, a2, gr2⟩ := args_ok h2 g2 (fun j t v hj hj' => hv (j + 1) t v (by simpa using hj) (by simpa using hj')) R1 (gr1.noMut hN)
        exact ⟨argV a l1 :: avs, H2, μ2, K2, by simp [layArgs, e1, e2], R2, ⟨a1.mono gr2.kk gr2.mu, a2⟩, gr1.trans gr2⟩
  | [], _, _ :: _, _, _, _, _, _, _, ht, _, _, _ => by cases ht
  | [], _, [], _ :: _, _, _, _, _, _, ht, _, _, _ => by cases ht
  | _ :: _, _, [], _, _, _, _, _, _, ht, _, _, _ => by cases ht
  | _ :: _, _, _ :: _, [], _, _, _, _, _, ht, _, _, _ => by cases ht

/-- the variables that the row lists -/
def layLaid (P : Program) (n G : Nat) : List (String × DataW Unit) → Hp → Hp
  | [], H => H
  | (s, d) :: r, H => match P.globalNamed s with
    | none => layLaid P n G r H
    | some g => match (P.globals[g]?).map (·.type) with
      | none => layLaid P n G r H
      | some t => match desc P n t with
        | none => layLaid P n G r H
        | some T => match lay T [d] H with
          | none => layLaid P n G r H
          | some (l, H') => if g < G then layLaid P n G r (H'.add g (.row l.length l .lf false)) else layLaid P n G r H

def szOf (w : World) (g : Nat) : Nat :=
  match w.heap[g]? with
  | some (.cells cs _ _) => cs.size
  | _ => 0

theorem laid_ok {n : Nat} : ∀ {laid : List (String × DataW Unit)} {ps : List MemPlace} {μ : Nat → Pl} {K : Nat → Prop} {H : Hp}, DataW.LaidVars P w laid ps → Rel G μ K H w → NoMut H → (∀ g, g < G → μ g = ⟨g, 0, szOf w g⟩) →
    ∃ μ' K', Rel G μ' K' (layLaid P n G laid H) w ∧ NoMut (layLaid P n G laid H)
  | [], _, μ, K, H, _, hR, hN, _ => ⟨μ, K, hR, hN⟩
  | (s, d) :: r, ps, μ, K, H, hl, hR, hN, hg => by
    obtain ⟨g, t, cs, fuel, p, q, h1, h2, h3, h4, h5, _⟩ := hl
    simp only [layLaid, h1, h2]
    cases hd : desc P n t with
    | none => exact laid_ok h5 hR hN hg
    | some T =>
      obtain ⟨hok, hsz⟩ := lay_ok (enc := fun _ => ()) (G := G) (w := w) (base := 0) (held := false) n t T hd
      obtain ⟨hlen, l, H', μ', K', e1, R1, a1, g1⟩ := hok h4 hR hN
      simp only [e1]
      split
      · rename_i hgG
        have hN1 := g1.noMut hN
        have hKg := (R1.glob g hgG).1
        have hmu : ∀ g, g < G → μ' g = ⟨g, 0, szOf w g⟩ := fun g hg' => by rw [g1.mu g (hR.glob g hg').1]; exact hg g hg'
        have hN2 : NoMut (H'.add g (.row l.length l .lf false)) := fun b bk hb => by
          rw [Hp.get_add] at hb
          split at hb
          · obtain rfl := Option.some.inj hb; rfl
          · exact hN1 b bk hb
        refine laid_ok h5 (μ := μ') (K := K') ⟨fun b bk hb => ?_, R1.lt, fun b bk hb => ?_, fun b b' bk bk' hb _ hm => ?_, R1.glob⟩ hN2 hmu
        · rw [Hp.get_add] at hb
          split at hb
          · rename_i e; rw [e]; exact hKg
          · exact R1.dom b bk hb
        · rw [Hp.get_add] at hb
          split at hb
          · rename_i e
            subst e
            obtain rfl := Option.some.inj hb
            rw [hmu _ hgG]
            unfold World.var? at h3
            rw [h1] at h3
            simp only [Option.bind_some] at h3
            split at h3
            · rename_i c ty fz hc
              obtain rfl := Option.some.inj h3
              refine ⟨c, ty, fz, hc, by simp [szOf, hc], by simp [a1.len], fun h => (by cases h), fun i x hx => ?_⟩
              simp only [B.cell] at hx
              split at hx
              · rename_i hi
                simp only [Ab.T.get_lf, Option.getD_none, Nat.mod_eq_of_lt hi, List.getD_eq_getElem?_getD, List.getElem?_eq_getElem hi, Option.getD_some, Option.some.injEq] at hx
                obtain ⟨y, hy, hr⟩ := a1.at i x (by rw [List.getElem?_eq_getElem hi, hx])
                exact ⟨y, by simpa using hy, hr⟩
              · cases hx
            · cases h3
          · exact R1.blk b bk hb
        · rw [hN2 b bk hb] at hm; cases hm
      · exact laid_ok h5 hR hN hg

theorem start_rel (w : World) : Rel G (fun g => ⟨g, 0, szOf w g⟩) (fun b => b < G) ⟨.lf, G⟩ w :=
  ⟨fun _ _ h => (by cases h), fun _ h => h, fun _ _ h => (by cases h), fun _ _ _ _ h => (by cases h), fun _ hg => ⟨hg, rfl, rfl⟩⟩
end

/-- what a value of a type is, in plain words -/
def Ty.den : Ty → Type
  | .bool => Bool
  | .int _ => Int
  | .str => ByteArray
  | .slice e => List e.den
  | .unit => Unit
  | .pair a b => a.den × b.den
  | .agg r => r.den

def RL {α : Type} (f : α → List C → Prop) : List α → List C → Prop
  | [], cs => cs = []
  | x :: xs, cs => ∃ a b, cs = a ++ b ∧ f x a ∧ RL f xs b

def Ty.R (H : Hp) : (t : Ty) → t.den → List C → Prop
  | .bool, x, l => l = [.bool x]
  | .int k, x, l => l = [.int k x] ∧ (Lit.int k x).wf = true
  | .str, x, l => l = [.str x]
  | .slice e, x, l => (l = [.nils] ∧ List.length x = 0) ∨ ∃ b cs, l = [.slc b 0 (List.length x) (List.length x) e.sz false] ∧ List.length x ≤ 9223372036854775807 ∧ H.loads b 0 (List.length x * e.sz) = some cs ∧ RL (Ty.R H e) x cs
  | .unit, _, l => l = []
  | .pair a b, x, l => ∃ l1 l2, l = l1 ++ l2 ∧ Ty.R H a (Prod.fst x) l1 ∧ Ty.R H b (Prod.snd x) l2
  | .agg r, x, l => Ty.R H r x l

theorem RL.mono {α : Type} {f g : α → List C → Prop} (h : ∀ x l, f x l → g x l) : ∀ {xs : List α} {cs : List C}, RL f xs cs → RL g xs cs
  | [], _, hh => hh
  | _ :: _, _, ⟨a, b, e, h1, h2⟩ => ⟨a, b, e, h _ _ h1, RL.mono h h2⟩
theorem RL.len {α : Type} {f : α → List C → Prop} {c : Nat} (h : ∀ x l, f x l → l.length = c) : ∀ {xs : List α} {cs : List C}, RL f xs cs → cs.length = xs.length * c
  | [], _, hh => by cases hh; simp
  | _ :: xs, _, ⟨a, b, e, h1, h2⟩ => by
    subst e
    rw [List.length_append, h _ _ h1, RL.len h h2, List.length_cons, Nat.add_mul]; omega
theorem Ty.R_le {H H' : Hp} (h : Le H H') : ∀ (t : Ty) (x : t.den) (l : List C), t.R H x l → t.R H' x l
  | .bool, _, _, hh => hh
  | .int _, _, _, hh => hh
  | .str, _, _, hh => hh
  | .slice e, x, l, hh => by
    rcases hh with hh | ⟨b, cs, h1, h0, h2, h3⟩
    · exact .inl hh
    · exact .inr ⟨b, cs, h1, h0, h.loads h2, h3.mono (Ty.R_le h e)⟩
  | .unit, _, _, hh => hh
  | .pair a b, x, l, ⟨l1, l2, e, h1, h2⟩ => ⟨l1, l2, e, Ty.R_le h a _ _ h1, Ty.R_le h b _ _ h2⟩
  | .agg r, x, l, hh => Ty.R_le h r x l hh
theorem Ty.R_len {H : Hp} : ∀ (t : Ty) (x : t.den) (l : List C), t.R H x l → l.length = t.sz
  | .bool, _, _, hh => by cases hh; rfl
  | .int _, _, _, hh => by cases hh.1; rfl
  | .str, _, _, hh => by cases hh; rfl
  | .slice e, x, l, hh => by
    rcases hh with hh | ⟨b, cs, h1, _⟩
    · rw [hh.1]; rfl
    · rw [h1]; rfl
  | .unit, _, _, hh => by cases hh; rfl
  | .pair a b, x, l, ⟨l1, l2, e, h1, h2⟩ => by subst e; rw [List.length_append, Ty.R_len a _ _ h1, Ty.R_len b _ _ h2]; rfl
  | .agg r, x, l, hh => Ty.R_len r x l hh

section
variable {X : Type}
theorem layL_dec {e : Ty} (he : ∀ {ds : List (DataW X)} {H H' : Hp} {l : List C}, WF H → lay e ds H = some (l, H') → WF H' ∧ Ext H H' ∧ ∃ x : e.den, e.R H' x l) : ∀ {es : List (DataW X)} {H H' : Hp} {cs : List C}, WF H → layL (fun d H => lay e [d] H) es H = some (cs, H') →
    WF H' ∧ Ext H H' ∧ ∃ xs : List e.den, xs.length = es.length ∧ RL (e.R H') xs cs
  | [], H, H', cs, hw, h => by
    simp only [layL, Option.some.injEq, Prod.mk.injEq] at h
    obtain ⟨rfl, rfl⟩ := h
    exact ⟨hw, Ext.refl _, [], rfl, rfl⟩
  | d :: es, H, H', cs, hw, h => by
    simp only [layL] at h
    cases h1 : lay e [d] H with
    | none => simp [h1] at h
    | some x =>
      obtain ⟨l, H1⟩ := x
      simp only [h1] at h
      cases h2 : layL (fun d H => lay e [d] H) es H1 with
      | none => simp [h2] at h
      | some y =>
        obtain ⟨l', H2⟩ := y
        simp only [h2, Option.some.injEq, Prod.mk.injEq] at h
        obtain ⟨rfl, rfl⟩ := h
        obtain ⟨w1, e1, x1, r1⟩ := he hw h1
        obtain ⟨w2, e2, xs, hl, r2⟩ := layL_dec he w1 h2
        exact ⟨w2, e1.trans e2, x1 :: xs, by simp [hl], l, l', rfl, Ty.R_le e2.le _ _ _ r1, r2⟩

theorem lay_dec : ∀ (t : Ty) {ds : List (DataW X)} {H H' : Hp} {l : List C}, WF H → lay t ds H = some (l, H') → WF H' ∧ Ext H H' ∧ ∃ x : t.den, t.R H' x l
  | .bool, ds, H, H', l, hw, h => by
    unfold lay at h
    split at h <;> first | (cases h; done) | skip
    all_goals simp_all
    obtain ⟨rfl, rfl⟩ := h
    exact ⟨Ext.refl _, _, rfl⟩
  | .int k, ds, H, H', l, hw, h => by
    unfold lay at h
    split at h <;> first | (cases h; done) | skip
    all_goals simp_all
    rename_i e0
    subst e0
    obtain ⟨hwf, rfl, rfl⟩ := h
    exact ⟨Ext.refl _, _, rfl, hwf.2⟩
  | .str, ds, H, H', l, hw, h => by
    unfold lay at h
    split at h <;> first | (cases h; done) | skip
    all_goals simp_all
    obtain ⟨rfl, rfl⟩ := h
    exact ⟨Ext.refl _, _, rfl⟩
  | .slice e, ds, H, H', l, hw, h => by
    have he : ∀ {ds : List (DataW X)} {H H' : Hp} {l : List C}, WF H → lay e ds H = some (l, H') → WF H' ∧ Ext H H' ∧ ∃ x : e.den, e.R H' x l := fun hw h => lay_dec e hw h
    unfold lay at h
    split at h <;> first | (cases h; done) | skip
    all_goals first | (rename_i e0; obtain rfl := Ty.slice.inj e0) | (simp at *; done)
    · obtain ⟨rfl, rfl⟩ := Prod.mk.inj (Option.some.inj h)
      exact ⟨hw, Ext.refl _, ([] : List e.den), .inl ⟨rfl, rfl⟩⟩
    · rename_i es sp
      split at h
      case isFalse => cases h
      case isTrue hbd =>
      split at h
      case h_2 => cases h
      case h_1 cs H1 h1 =>
        simp only [Option.some.injEq] at h
        obtain ⟨w1, e1, xs, hl, r1⟩ := layL_dec he hw h1
        have hcl : cs.length = xs.length * e.sz := RL.len (Ty.R_len e) r1
        cases hcs : cs with
        | nil =>
          rw [hcs] at h r1
          obtain ⟨rfl, rfl⟩ := Prod.mk.inj h
          exact ⟨w1.skip 1, e1.skip 1, ([] : List e.den), .inr ⟨_, [], rfl, Nat.zero_le _, by simp [Hp.loads], rfl⟩⟩
        | cons c cr =>
          have e2 : newSl e.sz es.length cs H1 = ([.slc H1.nx 0 es.length es.length e.sz false], H1.push (.row cs.length cs .lf false)) := by rw [hcs]; rfl
          rw [e2] at h
          obtain ⟨rfl, rfl⟩ := Prod.mk.inj h
          refine ⟨w1.push _, Ext.push w1 e1 _, xs, .inr ⟨H1.nx, cs, by rw [hl], by rw [hl]; exact hbd, ?_, r1.mono (Ty.R_le (Ext.push w1 (Ext.refl _) _).le e)⟩⟩
          rw [← hcl]
          exact loads_row (rw := false) (by rw [Hp.get_push, if_pos rfl])
  | .unit, ds, H, H', l, hw, h => by
    unfold lay at h
    split at h <;> first | (cases h; done) | skip
    all_goals simp_all
    obtain ⟨rfl, rfl⟩ := h
    exact ⟨Ext.refl _, (), rfl⟩
  | .pair a b, ds, H, H', l, hw, h => by
    cases ds with
    | nil => simp [lay] at h
    | cons d ds =>
      simp only [lay] at h
      cases h1 : lay a [d] H with
      | none => simp [h1] at h
      | some x =>
        obtain ⟨l1, H1⟩ := x
        simp only [h1] at h
        cases h2 : lay b ds H1 with
        | none => simp [h2] at h
        | some y =>
          obtain ⟨l', H2⟩ := y
          simp only [h2, Option.some.injEq, Prod.mk.injEq] at h
          obtain ⟨rfl, rfl⟩ := h
          obtain ⟨w1, e1, x1, r1⟩ := lay_dec a hw h1
          obtain ⟨w2, e2, x2, r2⟩ := lay_dec b w1 h2
          exact ⟨w2, e1.trans e2, (x1, x2), l1, l', rfl, Ty.R_le e2.le _ _ _ r1, r2⟩
  | .agg r, ds, H, H', l, hw, h => by
    unfold lay at h
    split at h <;> first | (cases h; done) | skip
    all_goals first | (rename_i e0; obtain rfl := Ty.agg.inj e0) | (simp at *; done)
    exact lay_dec r hw h
end
end Go.Ab

/- A law's row out of its abstract contract. -/
namespace Go.Ab
open Go.RowKit Go.WideShapes Go.ChangeShapes

section
variable {X : Type} {enc : TypeId × Value → X} {P : Program} {G : Nat}

def denL : List Ty → Type
  | [] => Unit
  | t :: ts => t.den × denL ts
/-- the arguments, in plain words -/
def RA (H : Hp) : (ts : List Ty) → denL ts → List V → Prop
  | [], _, vs => vs = []
  | t :: ts, x, vs => ∃ l vs', vs = argV t l :: vs' ∧ t.R H (Prod.fst x) l ∧ RA H ts (Prod.snd x) vs'
theorem RA.le {H H' : Hp} (h : Le H H') : ∀ {ts : List Ty} {x : denL ts} {vs : List V}, RA H ts x vs → RA H' ts x vs
  | [], _, _, hh => hh
  | t :: _, _, _, ⟨l, vs', e, h1, h2⟩ => ⟨l, vs', e, Ty.R_le h t _ _ h1, RA.le h h2⟩
theorem layArgs_dec : ∀ {ts : List Ty} {ds : List (DataW X)} {H H' : Hp} {vs : List V}, WF H → layArgs ts ds H = some (vs, H') → WF H' ∧ Ext H H' ∧ ∃ x : denL ts, RA H' ts x vs
  | [], [], H, H', vs, hw, h => by
    simp only [layArgs, Option.some.injEq, Prod.mk.injEq] at h
    obtain ⟨rfl, rfl⟩ := h
    exact ⟨hw, Ext.refl _, (), rfl⟩
  | t :: ts, d :: ds, H, H', vs, hw, h => by
    simp only [layArgs] at h
    split at h
    case h_2 => cases h
    case h_1 l H1 h1 =>
      split at h
      case h_2 => cases h
      case h_1 vs' H2 h2 =>
        obtain ⟨rfl, rfl⟩ := Prod.mk.inj (Option.some.inj h)
        obtain ⟨w1, e1, x1, r1⟩ := lay_dec t hw h1
        obtain ⟨w2, e2, x2, r2⟩ := layArgs_dec w1 h2
        exact ⟨w2, e1.trans e2, (x1, x2), l, vs', rfl, Ty.R_le e2.le _ _ _ r1, r2⟩
  | [], _ :: _, _, _, _, _, h => by simp [layArgs] at h
  | _ :: _, [], _, _, _, _, h => by simp [layArgs] at h

theorem trodAll_stays {W W' : World} (hl : laidOutB P = true) (hb : Below W.heap.size W W') {sp : Nat → Bool} : ∀ {ts : List TypeId} {vs : List Value} {ds : List (DataW X)} {ps : List MemPlace}, (ts.all fun t => P.readableRec t && decide (t < P.types.size)) = true →
    DataW.TrodAll enc P W 0 (fun _ => true) true ts vs ds ps → (∀ p ∈ ps, p.block < W.heap.size ∧ sp p.block = true) → DataW.TrodAll enc P W' 0 sp true ts vs ds ps
  | [], [], [], _, _, h, _ => h
  | t :: ts, v :: vs, d :: ds, ps, hr, h, hp => by
    obtain ⟨p, q, h1, h2, rfl⟩ := h
    simp only [List.all_cons, Bool.and_eq_true, decide_eq_true_eq] at hr
    refine ⟨p, q, WideElems.Trod_stays hl hr.1.1 hr.1.2 h1 (fun x hx => hb.same (hp x (by simp [hx])).1) (fun x hx => (hp x (by simp [hx])).2), trodAll_stays hl hb (by simpa using hr.2) h2 (fun x hx => hp x (by simp [hx])), rfl⟩
  | [], _ :: _, _, _, _, h, _ => by cases h
  | [], [], _ :: _, _, _, h, _ => by cases h
  | _ :: _, [], _, _, _, h, _ => by cases h
  | _ :: _, _ :: _, [], _, _, h, _ => by cases h

/-- THE ROW'S CONTRACT OUT OF THE ABSTRACT ONE. -/
theorem law_contract {f : FuncId} {fn : Func} {s : ChangeSpec} {laid : List (String × DataW Unit)} {n : Nat} {Ts : List Ty} {H0 : Hp} {tb : TypeId} {r : Reach}
    (hl : laidOutB P = true) (hrd : (fn.params.toList.all fun t => P.readableRec t && decide (t < P.types.size)) = true) (hds : descs P n fn.params.toList = some Ts) (hvars : s.vars = []) (hres : fn.resultTypes = #[tb]) (htb : P.underlying tb = some .bool)
    (hspec : ∀ ds : List (DataW X), ds.length = fn.params.toList.length → s.fn X ds = { results := [.lit (.bool true)], args := ds })
    (hH0 : layLaid P n G laid ⟨.lf, G⟩ = H0)
    (W : World) (base : Nat) (args : Array Value) (ds gs : List (DataW X)) (before : List MemPlace)
    (hlaw : ∀ (H : Hp) (x : denL Ts) (vs : List V), WF H → Ext H0 H → NoMut H → RA H Ts x vs → layArgs Ts ds H0 = some (vs, H) → ACalls P G f vs H fun v _ => v = .bool true)
    (hval : ∀ (j : Nat) t v, fn.params[j]? = some t → args[j]? = some v → Value.okWide P W r base t v)
    (hW : DataW.Whole enc P fn.params.toList s.vars false W args.toList ds gs before) (hL : laidMet P laid W) :
    Calls P f args W fun e W' => ∃ v, e = .returned v ∧ s.post enc P fn false true false false W args v W' := by
  have hW0 := hW
  obtain ⟨p, q, hA, hV, rfl, hfz, hnd⟩ := hW
  rw [hvars] at hV
  obtain ⟨rfl, rfl⟩ := trodVars_none hV
  obtain ⟨ps, hlv, _⟩ := hL
  obtain ⟨μ1, K1, R1, N1⟩ := laid_ok (n := n) hlv (start_rel (G := G) W) (fun _ _ h => by cases h) (fun _ _ => rfl)
  rw [hH0] at R1 N1
  obtain ⟨avs, H, μ2, K2, e2, R2, a2, g2⟩ := args_ok hds hA (fun j t v hj hj' => hval j t v (by simpa using hj) (by simpa using hj')) R1 N1
  obtain ⟨w2, x2, x, rx⟩ := layArgs_dec R1.lt' e2
  have N2 := g2.noMut N1
  have hlen : ds.length = fn.params.toList.length := by
    have : ∀ {ts : List TypeId} {vs : List Value} {ds : List (DataW X)} {ps : List MemPlace}, DataW.TrodAll enc P W 0 (fun _ => true) true ts vs ds ps → ds.length = ts.length := by
      intro ts
      induction ts with
      | nil => intro vs ds ps h; cases vs <;> cases ds <;> simp_all [DataW.TrodAll]
      | cons t ts ih =>
        intro vs ds ps h
        cases vs with
        | nil => cases h
        | cons v vs =>
          cases ds with
          | nil => cases h
          | cons d ds => obtain ⟨_, _, _, h2, _⟩ := h; simp [ih h2]
    exact this hA
  have key := hlaw H x avs w2 x2 N2 rx e2 μ2 K2 W args.toList R2 a2
  rw [Array.toArray_toList] at key
  refine key.mono ?_
  rintro e W' ⟨y, rfl, v, H', μ', K', rfl, h2, h3, h4⟩
  obtain rfl : y = .bool true := h2
  have hb : Below W.heap.size W W' := ⟨h4.same.1, h4.same.2.1, h4.same.2.2.1, h4.size, fun k hk => h4.keep k hk fun b bk hb hm => by rw [N2 b bk hb] at hm; cases hm⟩
  have hlt : ∀ x ∈ p, x.block < W.heap.size := fun x hx => hW0.lt x (by simp [hx])
  have hsp := hspec ds hlen
  refine ⟨_, rfl, ds, [], p ++ [], [], p, [], hW0, ?_, ?_, ?_, World.keptBut_mono (fun z hz => ⟨hz, .inr (.inl (by simpa using hz))⟩) (hb.frame (· ∈ p ++ [])), fun h => (by cases h)⟩
  · rw [List.append_nil, hsp, hres]
    exact ⟨[], [], shut_bool htb true, rfl, rfl⟩
  · rw [List.append_nil, hsp]
    exact trodAll_stays hl hb hrd hA fun z hz => ⟨hlt z hz, by simpa using hlt z hz⟩
  · rw [List.append_nil, hsp, hvars]
    rfl
end
end Go.Ab

/- A law's abstract contract out of a deep one. -/
namespace Go.Ab

def Ty.fd : (t : Ty) → t.den → List FD
  | .bool, x => [.c (.bool x)]
  | .int k, x => [.c (.int k x)]
  | .str, x => [.c (.str x)]
  | .slice e, x => [.sl e.sz (List.length x) (List.flatMap (Ty.fd e) x)]
  | .unit, _ => []
  | .pair a b, x => Ty.fd a (Prod.fst x) ++ Ty.fd b (Prod.snd x)
  | .agg r, x => Ty.fd r x
/-- the numbers are numbers of their kinds -/
def Ty.okD : (t : Ty) → t.den → Prop
  | .bool, _ => True
  | .int k, x => (Lit.int k x).wf = true
  | .str, _ => True
  | .slice e, x => (∀ y, List.Mem y x → Ty.okD e y) ∧ List.length x ≤ 9223372036854775807
  | .unit, _ => True
  | .pair a b, x => Ty.okD a (Prod.fst x) ∧ Ty.okD b (Prod.snd x)
  | .agg r, x => Ty.okD r x
theorem RL.fd {e : Ty} {H : Hp} {R : FD → C → Prop} (h : ∀ x l, e.R H x l → All2 R (e.fd x) l ∧ e.okD x) : ∀ {xs : List e.den} {cs : List C}, RL (e.R H) xs cs → All2 R (xs.flatMap e.fd) cs ∧ ∀ y, List.Mem y xs → e.okD y
  | [], _, hh => by obtain rfl : _ = [] := hh; exact ⟨trivial, fun y hy => by cases hy⟩
  | x :: xs, _, ⟨a, b, e', h1, h2⟩ => by
    subst e'
    obtain ⟨g1, g2⟩ := h x a h1
    obtain ⟨g3, g4⟩ := RL.fd h h2
    rw [List.flatMap_cons]
    refine ⟨g1.append g3, fun y hy => ?_⟩
    rcases List.mem_cons.1 hy with rfl | hy
    · exact g2
    · exact g4 y hy
theorem Ty.R_fd {H : Hp} (hw : WF H) : ∀ (t : Ty) (x : t.den) (l : List C), t.R H x l → All2 (RF (fun b => b < H.nx) H) (t.fd x) l ∧ t.okD x
  | .bool, _, _, hh => by obtain rfl : _ = [_] := hh; exact ⟨⟨.c _ rfl, trivial⟩, trivial⟩
  | .int _, _, _, hh => by obtain ⟨rfl, h2⟩ := hh; exact ⟨⟨.c _ rfl, trivial⟩, h2⟩
  | .str, _, _, hh => by obtain rfl : _ = [_] := hh; exact ⟨⟨.c _ rfl, trivial⟩, trivial⟩
  | .slice e, x, l, hh => by
    rcases hh with ⟨rfl, h2⟩ | ⟨b, cs, rfl, h0, h2, h3⟩
    · obtain rfl : x = [] := List.eq_nil_of_length_eq_zero h2
      exact ⟨⟨.nil _, trivial⟩, (fun y hy => by cases hy), Nat.zero_le _⟩
    · obtain ⟨g1, g2⟩ := RL.fd (Ty.R_fd hw e) h3
      refine ⟨⟨.sl (fun h0 => ?_) ?_ (Nat.le_refl _) h2 fun i d c hd hc => ?_, trivial⟩, g2, h0⟩
      · cases hg : H.get b with
        | none =>
          have := loads_cell (i := 0) h2 h0
          have hl := loads_len h2
          rw [List.getElem?_eq_getElem (by omega)] at this
          simp [Hp.cell, hg] at this
        | some bk => exact hw b bk hg
      · rw [g1.len, loads_len h2]
      · obtain ⟨c', hc', hr⟩ := g1.at i d hd
        rw [hc] at hc'
        obtain rfl := Option.some.inj hc'
        exact hr
  | .unit, _, _, hh => by obtain rfl : _ = [] := hh; exact ⟨trivial, trivial⟩
  | .pair a b, x, l, ⟨l1, l2, e, h1, h2⟩ => by
    subst e
    obtain ⟨g1, g2⟩ := Ty.R_fd hw a _ _ h1
    obtain ⟨g3, g4⟩ := Ty.R_fd hw b _ _ h2
    exact ⟨g1.append g3, g2, g4⟩
  | .agg r, x, l, hh => Ty.R_fd hw r x l hh

def Ty.isAgg : Ty → Bool
  | .agg _ => true
  | _ => false
def argL : Bool → List FD → DV
  | true, l => .agg (l.map .f)
  | false, [d] => .one (.f d)
  | false, _ => .undef
def argD (t : Ty) (x : t.den) : DV := argL t.isAgg (t.fd x)
def argVL : Bool → List C → V
  | true, l => .agg l
  | false, [c] => .one c
  | false, _ => .undef
theorem argV_eq (t : Ty) (l : List C) : argV t l = argVL t.isAgg l := by
  cases t <;> cases l with
  | nil => rfl
  | cons c l => cases l <;> rfl
def DA : (ts : List Ty) → denL ts → List DV
  | [], _ => []
  | t :: ts, x => argD t (Prod.fst x) :: DA ts (Prod.snd x)
def okA : (ts : List Ty) → denL ts → Prop
  | [], _ => True
  | t :: ts, x => t.okD (Prod.fst x) ∧ okA ts (Prod.snd x)
theorem argL_rel {Z : Nat → Prop} {H : Hp} : ∀ (g : Bool) {l : List FD} {cs : List C}, All2 (RF Z H) l cs → RDV Z H nob (argL g l) (argVL g cs)
  | true, l, cs, h => ⟨cs, rfl, all2_map_f h⟩
  | false, [], [], _ => undef_ok
  | false, [d], [c], h => ⟨c, rfl, h.1⟩
  | false, _ :: _ :: _, _ :: _ :: _, _ => undef_ok
  | false, [], _ :: _, h => h.elim
  | false, _ :: _, [], h => h.elim
  | false, [_], _ :: _ :: _, h => h.2.elim
  | false, _ :: _ :: _, [_], h => h.2.elim
theorem arg_rel {H : Hp} (hw : WF H) {t : Ty} {x : t.den} {l : List C} (h : t.R H x l) : RDV (fun b => b < H.nx) H nob (argD t x) (argV t l) := by
  rw [argV_eq]
  exact argL_rel _ (Ty.R_fd hw t x l h).1
theorem args_rel {H : Hp} (hw : WF H) : ∀ {ts : List Ty} {x : denL ts} {vs : List V}, RA H ts x vs → All2 (RDV (fun b => b < H.nx) H nob) (DA ts x) vs ∧ okA ts x
  | [], _, _, hh => by obtain rfl : _ = [] := hh; exact ⟨trivial, trivial⟩
  | t :: _, _, _, ⟨l, vs', e, h1, h2⟩ => by
    subst e
    obtain ⟨g1, g2⟩ := args_rel hw h2
    exact ⟨⟨arg_rel hw h1, g1⟩, (Ty.R_fd hw t _ _ h1).2, g2⟩
theorem deep_law {P : Program} {G : Nat} {GH : Hp} {f : FuncId} {ts : List Ty} {H : Hp} {x : denL ts} {vs : List V} (h : okA ts x → DCalls P G GH f (DA ts x) fun d => d = .bool true) (hw : WF H) (hG : ∀ b bk, GH.get b = some bk → H.get b = some bk) (hr : RA H ts x vs) : ACalls P G f vs H fun v _ => v = .bool true := by
  obtain ⟨h1, h2⟩ := args_rel hw hr
  refine (h h2 H _ vs hw (fun b hb => hb) (fun b bk hb => ⟨hw b bk (hG b bk hb), hG b bk hb⟩) h1).mono ?_
  rintro v H' ⟨_, _, _, d, hd, rfl⟩
  obtain ⟨c, rfl, hc⟩ := hd
  cases hc
  rfl
end Go.Ab

/- Arguments of the laws of grids, in plain words. -/
namespace Go.Ab.Fn
open Go.Ab
theorem wf_u8 {n : Int} (h : (Lit.int .u8 n).wf = true) : 0 ≤ n ∧ n < 256 := by
  simp [Lit.wf, IntKind.min, IntKind.max, IntKind.signed, IntKind.bits] at h
  omega
def pr (y : Int × Int × Unit) : Int × Int := (y.1, y.2.1)
theorem bys (a : List (Int × Int × Unit)) : bysD (a.map pr) = argD (.slice (.agg (.pair (.int .u8) (.pair (.int .u8) .unit)))) a := by
  have h : ∀ l : List (Int × Int × Unit), (l.map pr).flatMap byF = List.flatMap (Ty.fd (.agg (.pair (.int .u8) (.pair (.int .u8) .unit)))) l := by
    intro l
    induction l with
    | nil => rfl
    | cons y l ih => rw [List.map_cons, List.flatMap_cons, ih]; rfl
  rw [bysD, h, List.length_map]
  rfl
theorem okb {a : List (Int × Int × Unit)} (h : Ty.okD (.slice (.agg (.pair (.int .u8) (.pair (.int .u8) .unit)))) a) : Bys (a.map pr) := by
  intro p hp
  obtain ⟨y, hy, rfl⟩ := List.mem_map.1 hp
  obtain ⟨h1, h2, _⟩ := h.1 y hy
  exact ⟨wf_u8 h1, wf_u8 h2⟩

theorem oklen {e : Ty} {a : List e.den} (h : Ty.okD (.slice e) a) : a.length ≤ 9223372036854775807 := h.2
theorem okbl {a : List (Int × Int × Unit)} (h : Ty.okD (.slice (.agg (.pair (.int .u8) (.pair (.int .u8) .unit)))) a) : (a.map pr).length ≤ 9223372036854775807 := by rw [List.length_map]; exact h.2
/-- lines of bytes -/
theorem okc {a : List (List Int)} (h : Ty.okD (.slice (.slice (.int .u8))) a) : ∀ r ∈ a, ∀ c ∈ r, 0 ≤ c ∧ c < 256 := fun r hr c hc => wf_u8 ((h.1 r hr).1 c hc)
theorem wf_i8 {n : Int} (h : (Lit.int .i8 n).wf = true) : -128 ≤ n ∧ n < 128 := by
  simp [Lit.wf, IntKind.min, IntKind.max, IntKind.signed, IntKind.bits] at h
  omega
end Go.Ab.Fn
