/- Operations that touch no memory: each agrees with the model's. -/
import Derived.Test.YtejpbhindcglpaaDoorAbQ
namespace Go.Ab
section
variable {P : Program} {G n : Nat} {μ : Nat → Pl} {K : Nat → Prop} {H : Hp} {w : World} {F : T V} {a : Act}

theorem bin_ok {op : BinOp} {t : TypeId} {k k' : IntKind} {x y : Int} {c : C} (h : aBin op k x k' y = some c) :
    ∃ v, (binOp op t (.int k x) (.int k' y)).run P w = .ok v w ∧ RC μ K c v := by
  cases op
  case shl =>
    simp only [aBin] at h
    split at h
    · cases h
    · rename_i hy
      obtain rfl := Option.some.inj h
      exact ⟨_, by show (Op.shift .shl k x k' y).run P w = _; simp [Op.shift, hy], rfl⟩
  case shr =>
    simp only [aBin] at h
    split at h
    · cases h
    · rename_i hy
      obtain rfl := Option.some.inj h
      exact ⟨_, by show (Op.shift .shr k x k' y).run P w = _; simp [Op.shift, hy], rfl⟩
  all_goals
    simp only [aBin] at h
    split at h
    · cases h
    · rename_i hk
      obtain rfl : k = k' := by simpa using hk
      first
        | (obtain rfl := Option.some.inj h
           exact ⟨_, by simp only [binOp]; simp [Op.intArith, Op.intBits, Op.intCmp], rfl⟩)
        | (split at h
           · cases h
           · rename_i hy
             obtain rfl := Option.some.inj h
             exact ⟨_, by simp only [binOp]; simp [Op.intDiv, hy], rfl⟩)

theorem guard_ok {op : BinOp} {t : TypeId} {x y : Operand} {k k' : IntKind} {p q : Int} : (eqGuard op t x y (.int k p) (.int k' q)).run P w = .ok () w := by
  cases op <;> simp [eqGuard]
theorem guardb_ok {op : BinOp} {t : TypeId} {x y : Operand} {p q : Bool} : (eqGuard op t x y (.bool p) (.bool q)).run P w = .ok () w := by
  cases op <;> simp [eqGuard]
theorem guards_ok {op : BinOp} {t : TypeId} {x y : Operand} {p : Option Addr} {q : Option Addr} {l c m d : Nat} : (eqGuard op t x y (.slice p l c) (.slice q m d)).run P w = .ok () w := by
  cases op <;> simp [eqGuard]

theorem eqs_ok (d : Nat) {xs ys : List C} {vx vy : List Value} (hx : All2 (RC μ K) xs vx) (hy : All2 (RC μ K) ys vy) : ∀ {fs : List Field} {ks : List (Nat × Bool)} {r : Bool}, eqOffs P fs = some ks → aEqs xs ys ks = some r →
    (Op.eqFields (d + 1) vx.toArray vy.toArray fs).run P w = .ok r w
  | [], ks, r, h, he => by
    simp [eqOffs] at h; subst h
    simp [aEqs] at he; subst he
    simp [Op.eqFields]
  | f :: fs, ks, r, h, he => by
    simp only [eqOffs] at h
    simp only [Op.eqFields]
    by_cases hn : f.name ≠ "_"
    · simp only [if_pos hn] at h ⊢
      have step : ∀ l tg, eqOffs P fs = some l → ks = (f.offset, tg) :: l → ((∃ k, P.underlying f.type = some (.int k)) ∧ tg = false ∨ P.underlying f.type = some .bool ∧ tg = true) → (do
          let a ← part f.type vx.toArray f.offset
          let b ← part f.type vy.toArray f.offset
          let r ← Op.equalIn (d + 1) f.type a b
          if (!r) = true then pure false else Op.eqFields (d + 1) vx.toArray vy.toArray fs : Sem Bool).run P w = .ok r w := by
        intro l tg hl hk hu
        subst hk
        simp only [aEqs] at he
        cases ex : xs[f.offset]? with
        | none => simp [ex] at he
        | some cx =>
          cases ey : ys[f.offset]? with
          | none => simp [ex, ey] at he
          | some cy =>
            simp only [ex, ey] at he
            obtain ⟨x, hx', hrx⟩ := hx.at _ _ ex
            obtain ⟨y, hy', hry⟩ := hy.at _ _ ey
            have hpart : ∀ (l : List Value) (u : Value), l[f.offset]? = some u → (part f.type l.toArray f.offset).run P w = .ok u w := by
              intro l u hu'
              rcases hu with ⟨⟨k, hu⟩, _⟩ | ⟨hu, _⟩ <;> simp [part, isAgg, run_underlying hu, hu']
            cases hq : aEq tg cx cy with
            | none => simp [hq] at he
            | some b =>
              have heq : (Op.equalIn (d + 1) f.type x y).run P w = .ok b w := by
                rcases hu with ⟨⟨k, hu⟩, rfl⟩ | ⟨hu, rfl⟩
                · cases cx <;> cases cy <;> simp only [aEq] at hq <;> try (cases hq; done)
                  split at hq
                  · rename_i hkk
                    obtain rfl := Option.some.inj hq
                    simp only [RC] at hrx hry
                    subst hrx hry hkk
                    exact run_equalIn_int w d _ _ _ _ _ hu
                  · cases hq
                · cases cx <;> cases cy <;> simp only [aEq] at hq <;> try (cases hq; done)
                  obtain rfl := Option.some.inj hq
                  simp only [RC] at hrx hry
                  subst hrx hry
                  exact run_equalIn_bool' w d _ _ _ hu
              cases b with
              | true => simp only [hq] at he; simp [hpart _ _ hx', hpart _ _ hy', heq, eqs_ok d hx hy hl he]
              | false => simp only [hq, Option.some.injEq] at he; subst he; simp [hpart _ _ hx', hpart _ _ hy', heq]
      cases hu : P.underlying f.type with
      | none => simp [hu] at h
      | some t =>
        cases hl : eqOffs P fs with
        | none => cases t <;> simp [hu, hl] at h
        | some l =>
          cases t <;> simp [hu, hl] at h
          · exact step l true hl h.symm (.inr ⟨hu, rfl⟩)
          · exact step l false hl h.symm (.inl ⟨⟨_, hu⟩, rfl⟩)
    · simp only [if_neg hn] at h ⊢
      exact eqs_ok d hx hy h he
end
end Go.Ab
