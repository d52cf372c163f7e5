/- Every operation that touches no memory agrees with the model's. -/
import Derived.Test.YtejpbhindcglpaaDoorAbS
namespace Go.Ab
section
variable {P : Program} {G n : Nat} {μ : Nat → Pl} {K : Nat → Prop} {H : Hp} {w : World} {F : T V} {a : Act}

theorem run_eqs_nil (d : Nat) {t e : TypeId} (h : P.underlying t = some (.slice e)) (p : Option Addr) (m c l k : Nat) : (Op.equalIn (d + 1) t (.slice p m c) (.slice none l k)).run P w = .ok p.isNone w := by
  cases p <;> simp [Op.equalIn, run_underlying h]

theorem cpBin_ok (hR : Rel G μ K H w) (hF : FRel μ K n F a.tmps) {op : BinOp} {t : TypeId} {x y : Operand} {p : PureOp} {v : V} (hc : cpBin P G n op t x y = some p) (h : aPure F p = some v) :
    ∃ r, (do eqGuard op t x y (a.eval x) (a.eval y); binOp op t (a.eval x) (a.eval y) : Sem Value).run P w = .ok r w ∧ RV μ K v r := by
  unfold cpBin at hc
  cases hx : cO G n x with
  | none => simp [hx] at hc
  | some dx =>
    cases hy : cO G n y with
    | none => simp [hx, hy] at hc
    | some dy =>
      simp only [hx, hy] at hc
      have vx := cO_ok hR hF hx
      have vy := cO_ok hR hF hy
      cases hu : P.underlying t with
      | none => simp [hu] at hc
      | some d =>
        cases d <;> simp only [hu] at hc <;> try (cases hc; done)
        case int k0 =>
          obtain rfl := Option.some.inj hc
          simp only [aPure] at h
          split at h
          · rename_i k p k' q ex ey
            rw [ex] at vx
            rw [ey] at vy
            simp only [Option.map_eq_some_iff] at h
            obtain ⟨c, hb, rfl⟩ := h
            have e1 : a.eval x = .int k p := vx
            have e2 : a.eval y = .int k' q := vy
            obtain ⟨r, hr, hrc⟩ := bin_ok (P := P) (μ := μ) (K := K) (w := w) (t := t) hb
            exact ⟨r, by simp [e1, e2, guard_ok, hr], hrc⟩
          · cases h
        case bool =>
          have key : ∀ neg, (op = .eql ∧ neg = false ∨ op = .neq ∧ neg = true) → aPure F (.beq neg dx dy) = some v → ∃ r, (do eqGuard op t x y (a.eval x) (a.eval y); binOp op t (a.eval x) (a.eval y) : Sem Value).run P w = .ok r w ∧ RV μ K v r := by
            intro neg hop h
            simp only [aPure] at h
            split at h
            · rename_i p q ex ey
              rw [ex] at vx
              rw [ey] at vy
              obtain rfl := Option.some.inj h
              have e1 : a.eval x = .bool p := vx
              have e2 : a.eval y = .bool q := vy
              rcases hop with ⟨rfl, rfl⟩ | ⟨rfl, rfl⟩
              · refine ⟨.bool (p == q), ?_, rfl⟩
                simp only [e1, e2, Sem.run_bind, guardb_ok, Result.andThen_ok, binOp, Op.equal, Op.maxDepth]
                simp [run_equalIn_bool' w 9999 t p q hu]
              · refine ⟨.bool (!(p == q)), ?_, rfl⟩
                simp only [e1, e2, Sem.run_bind, guardb_ok, Result.andThen_ok, binOp, Op.equal, Op.maxDepth]
                simp [run_equalIn_bool' w 9999 t p q hu]
            · cases h
          split at hc
          · obtain rfl := Option.some.inj hc; exact key false (.inl ⟨rfl, rfl⟩) h
          · obtain rfl := Option.some.inj hc; exact key true (.inr ⟨rfl, rfl⟩) h
          · cases hc
        case struct fs =>
          split at hc
          · cases hc
          · rename_i hst
            simp only [Bool.or_eq_true, not_or, Bool.not_eq_true] at hst
            split at hc
            · cases hc
            · rename_i ks hks
              have hfo : P.fieldsOf t = fs := by simp [Program.fieldsOf, hu]
              have key : ∀ neg, (op = .eql ∧ neg = false ∨ op = .neq ∧ neg = true) → aPure F (.eqs neg ks dx dy) = some v → ∃ r, (do eqGuard op t x y (a.eval x) (a.eval y); binOp op t (a.eval x) (a.eval y) : Sem Value).run P w = .ok r w ∧ RV μ K v r := by
                intro neg hop h
                simp only [aPure] at h
                split at h
                · rename_i xs ys ex ey
                  rw [ex] at vx
                  rw [ey] at vy
                  obtain ⟨cx, e1, hx'⟩ : ∃ zs : List Value, a.eval x = .agg zs.toArray ∧ All2 (RC μ K) xs zs := vx
                  obtain ⟨cy, e2, hy'⟩ : ∃ zs : List Value, a.eval y = .agg zs.toArray ∧ All2 (RC μ K) ys zs := vy
                  split at h
                  · rename_i r hr
                    obtain rfl := Option.some.inj h
                    have heq : (Op.equalIn 10000 t (.agg cx.toArray) (.agg cy.toArray)).run P w = .ok r w := by
                      rw [run_equalIn_struct w 9999 t _ _ (by rw [hfo]; exact hu) hst.1, hfo]
                      exact eqs_ok 9998 hx' hy' hks hr
                    rcases hop with ⟨rfl, rfl⟩ | ⟨rfl, rfl⟩
                    · exact ⟨.bool r, by simp [e1, e2, run_eqGuard_agg w _ t x y _ _ hst.2, run_eql_struct, heq], rfl⟩
                    · exact ⟨.bool (!r), by simp [e1, e2, run_eqGuard_agg w _ t x y _ _ hst.2, run_neq_struct, heq], rfl⟩
                  · cases h
                · cases h
              split at hc
              · obtain rfl := Option.some.inj hc; exact key false (.inl ⟨rfl, rfl⟩) h
              · obtain rfl := Option.some.inj hc; exact key true (.inr ⟨rfl, rfl⟩) h
              · cases hc
        case slice e =>
          have key : ∀ neg, (op = .eql ∧ neg = false ∨ op = .neq ∧ neg = true) → ∀ l c, y = .const (.slice none l c) → aPure F (.nileq neg dx) = some v → ∃ r, (do eqGuard op t x y (a.eval x) (a.eval y); binOp op t (a.eval x) (a.eval y) : Sem Value).run P w = .ok r w ∧ RV μ K v r := by
            intro neg hop l c hyc h
            have e2 : a.eval y = .slice none l c := by rw [hyc]; rfl
            simp only [aPure] at h
            have isSlice : ∃ p m d, a.eval x = .slice p m d ∧ v = .one (.bool (if neg then p.isSome else p.isNone)) := by
              split at h
              all_goals first
                | (rename_i ex; rw [ex] at vx; obtain rfl := Option.some.inj h; first
                    | (obtain ⟨_, ad, c', e1, _⟩ := vx; exact ⟨_, _, _, e1, by cases neg <;> rfl⟩)
                    | exact ⟨_, _, _, vx, by cases neg <;> rfl⟩
                    )
                | cases h
            obtain ⟨p, m, d, e1, rfl⟩ := isSlice
            rcases hop with ⟨rfl, rfl⟩ | ⟨rfl, rfl⟩
            · refine ⟨.bool p.isNone, ?_, rfl⟩
              simp only [e1, e2, Sem.run_bind, guards_ok, Result.andThen_ok, binOp, Op.equal, Op.maxDepth]
              simp [run_eqs_nil 9999 hu]
            · refine ⟨.bool p.isSome, ?_, rfl⟩
              simp only [e1, e2, Sem.run_bind, guards_ok, Result.andThen_ok, binOp, Op.equal, Op.maxDepth]
              cases p <;> simp [run_eqs_nil 9999 hu]
          split at hc
          · obtain rfl := Option.some.inj hc; exact key false (.inl ⟨rfl, rfl⟩) _ _ rfl h
          · obtain rfl := Option.some.inj hc; exact key true (.inr ⟨rfl, rfl⟩) _ _ rfl h
          · cases hc
end
end Go.Ab
