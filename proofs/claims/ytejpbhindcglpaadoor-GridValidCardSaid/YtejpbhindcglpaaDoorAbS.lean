/- Every operation that touches no memory agrees with the model's. -/
import Derived.Test.YtejpbhindcglpaaDoorAbR
namespace Go.Ab
section
variable {P : Program} {G n : Nat} {μ : Nat → Pl} {K : Nat → Prop} {H : Hp} {w : World} {F : T V} {a : Act}

theorem RC.slc_at {b o len cap e : Nat} {ex : Bool} {x : Value} (h : RC μ K (.slc b o len cap e ex) x) (hl : 0 < len) :
    ∃ c, x = .slice (some ((μ b).addr o)) len c ∧ len ≤ c ∧ K b ∧ (μ b).off + o + c * e ≤ (μ b).size ∧ cap ≤ c ∧ len ≤ cap ∧ (ex = true → c = cap) := by
  obtain ⟨hb, ad, c, rfl, h1, h2, h3, h4⟩ := h
  rcases h4 with h4 | ⟨rfl, h5⟩
  · omega
  · exact ⟨c, rfl, by omega, hb, h5, h2, h1, h3⟩

theorem caps_ok (hR : Rel G μ K H w) (hF : FRel μ K n F a.tmps) : ∀ {xs : List Operand} {ds : List Opd} {l : List (Nat × Nat)}, cOs G n xs = some ds → capsL F ds = some l →
    (∀ p ∈ l, K p.1) ∧ xs.map a.eval = l.map fun p => Value.pointer (some ((μ p.1).addr p.2))
  | [], ds, l, h, hl => by
    simp [cOs] at h; subst h
    simp [capsL] at hl; subst hl
    simp
  | x :: xs, ds, l, h, hl => by
    simp only [cOs] at h
    cases hx : cO G n x with
    | none => simp [hx] at h
    | some d =>
      cases hr : cOs G n xs with
      | none => simp [hx, hr] at h
      | some ds' =>
        simp only [hx, hr, Option.some.injEq] at h
        subst h
        simp only [capsL] at hl
        have hv := cO_ok hR hF hx
        cases hc : capsL F ds' with
        | none => simp only [hc] at hl; split at hl <;> simp_all
        | some l' =>
          cases he : d.ev F with
          | one c =>
            cases c <;> simp only [he, hc] at hl <;> try (cases hl; done)
            rename_i b o
            obtain rfl := Option.some.inj hl
            rw [he] at hv
            obtain ⟨hk, hv⟩ : K b ∧ a.eval x = .pointer (some ((μ b).addr o)) := hv
            obtain ⟨h1, h2⟩ := caps_ok hR hF hr hc
            refine ⟨fun p hp => ?_, by simp [hv, h2]⟩
            rcases List.mem_cons.1 hp with rfl | hp
            · exact hk
            · exact h1 p hp
          | agg l => simp [he, hc] at hl
          | tup l => simp [he, hc] at hl

theorem bound_ok (hR : Rel G μ K H w) (hF : FRel μ K n F a.tmps) {x : Operand} {d : Opd} {y r dd : Nat} {code : BoundsCode} (hx : cO G n x = some d) (h : aBound F dd y (some d) = some r) {y' : Nat} (hy : y ≤ y') :
    (Instr.sliceBound (a.eval x) y' code).run P w = .ok r w ∧ r ≤ y := by
  have hv := cO_ok hR hF hx
  simp only [aBound] at h
  split at h
  · rename_i k i he
    rw [he] at hv
    have hv' : a.eval x = .int k i := hv
    split at h
    · rename_i hi
      obtain rfl := Option.some.inj h
      refine ⟨?_, by omega⟩
      simp only [Instr.sliceBound, hv', asIntOf, Sem.run_bind, Sem.run_pure, Result.andThen_ok]
      rw [if_pos (by omega)]
      rfl
    · cases h
  · cases h

theorem slice_ok (hR : Rel G μ K H w) (hF : FRel μ K n F a.tmps) {t e : TypeId} {s : Nat} {x : Operand} {lo hi mx : Option Operand} {d : Opd} {dlo dhi dmx : Option Opd} {v : V}
    (ht : P.underlying t = some (.slice e)) (hs : sizeT P e = some s) (hx : cO G n x = some d) (hlo : cOo G n lo = some dlo) (hhi : cOo G n hi = some dhi) (hmx : cOo G n mx = some dmx)
    (hm : (dmx.isSome && dhi.isNone) = false) (h : aSlice F s (d.ev F) dlo dhi dmx = some v) :
    ∃ r, (Instr.sliceAt t (a.eval x) (lo.map a.eval) (hi.map a.eval) (mx.map a.eval)).run P w = .ok r w ∧ RV μ K v r := by
  have hv := cO_ok hR hF hx
  -- the three bounds, whatever the model's capacity
  have bounds : ∀ (len cap c m hh l : Nat), len ≤ cap → cap ≤ c → aBound F cap cap dmx = some m → aBound F len m dhi = some hh → aBound F 0 hh dlo = some l →
      ∃ m', (Instr.sliceBounds true len c (lo.map a.eval) (hi.map a.eval) (mx.map a.eval)).run P w = .ok (l, hh, m') w ∧ l ≤ hh ∧ hh ≤ m ∧ m ≤ m' ∧ m' ≤ c ∧ (dmx.isSome = true → m' = m) ∧ (dmx = none → m' = c ∧ m = cap) := by
    intro len cap c m hh l h1 h2 b1 b2 b3
    have hlow : l ≤ hh ∧ ((lo.map a.eval = none ∧ l = 0) ∨ ∃ v, lo.map a.eval = some v ∧ ∀ code, (Instr.sliceBound v hh code).run P w = .ok l w) := by
      cases lo with
      | none =>
        simp only [cOo, Option.some.injEq] at hlo; subst hlo
        simp [aBound] at b3; subst b3
        exact ⟨by omega, .inl ⟨rfl, rfl⟩⟩
      | some xl =>
        simp only [cOo, Option.map_eq_some_iff] at hlo
        obtain ⟨dl, hl, rfl⟩ := hlo
        exact ⟨(bound_ok (P := P) (code := .sliceB) hR hF hl b3 (Nat.le_refl _)).2, .inr ⟨_, rfl, fun code => (bound_ok (P := P) (code := code) hR hF hl b3 (Nat.le_refl _)).1⟩⟩
    cases mx with
    | none =>
      simp only [cOo, Option.some.injEq] at hmx; subst hmx
      simp [aBound] at b1; subst b1
      cases hi with
      | none =>
        simp only [cOo, Option.some.injEq] at hhi; subst hhi
        simp [aBound, h1] at b2; subst b2
        refine ⟨c, ?_, hlow.1, h1, h2, Nat.le_refl _, by simp, fun _ => ⟨rfl, rfl⟩⟩
        rcases hlow.2 with ⟨e0, rfl⟩ | ⟨v0, e0, hb0⟩ <;> simp only [e0, Instr.sliceBounds, Option.map_none, Sem.run_bind, Sem.run_pure, Result.andThen_ok, Option.isSome_none, Bool.false_eq_true, if_false] <;> simp [hb0]
      | some xh =>
        simp only [cOo, Option.map_eq_some_iff] at hhi
        obtain ⟨dh, hh', rfl⟩ := hhi
        obtain ⟨hb, hle⟩ := bound_ok (P := P) (code := .sliceAcap) hR hF hh' b2 h2
        refine ⟨c, ?_, hlow.1, hle, h2, Nat.le_refl _, by simp, fun _ => ⟨rfl, rfl⟩⟩
        rcases hlow.2 with ⟨e0, rfl⟩ | ⟨v0, e0, hb0⟩ <;> simp only [e0, Instr.sliceBounds, Option.map_none, Option.map_some, Sem.run_bind, Sem.run_pure, Result.andThen_ok, Option.isSome_none, Bool.false_eq_true, if_false, if_true, hb] <;> simp [hb0]
    | some xm =>
      simp only [cOo, Option.map_eq_some_iff] at hmx
      obtain ⟨dm, hm', rfl⟩ := hmx
      obtain ⟨hb1, hle1⟩ := bound_ok (P := P) (code := .slice3Acap) hR hF hm' b1 h2
      cases hi with
      | none => simp only [cOo, Option.some.injEq] at hhi; subst hhi; simp at hm
      | some xh =>
        simp only [cOo, Option.map_eq_some_iff] at hhi
        obtain ⟨dh, hh', rfl⟩ := hhi
        obtain ⟨hb, hle⟩ := bound_ok (P := P) (code := .slice3B) hR hF hh' b2 (Nat.le_refl _)
        refine ⟨m, ?_, hlow.1, hle, Nat.le_refl _, by omega, fun _ => rfl, by simp⟩
        rcases hlow.2 with ⟨e0, rfl⟩ | ⟨v0, e0, hb0⟩ <;> simp only [e0, Instr.sliceBounds, Option.map_some, Sem.run_bind, Sem.run_pure, Result.andThen_ok, Option.isSome_some, if_true, hb1, hb] <;> simp [hb0]
  have hat : ∀ z, (Instr.sliceAt t z (lo.map a.eval) (hi.map a.eval) (mx.map a.eval)).run P w = (Instr.slice t z (lo.map a.eval) (hi.map a.eval) (mx.map a.eval)).run P w := by
    intro z; simp [Instr.sliceAt, run_underlying ht]
  rw [hat]
  unfold aSlice at h
  split at h
  · rename_i b o len cap e' ex he
    rw [he] at hv
    split at h
    · cases h
    · rename_i hes
      obtain rfl : e' = s := by simpa using hes
      split at h
      · cases h
      · rename_i m b1
        split at h
        · cases h
        · rename_i hh b2
          split at h
          · cases h
          · rename_i l b3
            obtain rfl := Option.some.inj h
            obtain ⟨hb, ad, c, hxe, h1, h2, h3, h4⟩ : RC μ K (.slc b o len cap e' ex) (a.eval x) := hv
            obtain ⟨m', hrun, g1, g2, g3, g4, g5, g6⟩ := bounds len cap c m hh l h1 h2 b1 b2 b3
            refine ⟨.slice (if m' = l then some ad else some (ad.add (l * e'))) (hh - l) (m' - l), ?_, ?_⟩
            · simp only [Instr.slice, hxe, Sem.run_bind, run_underlying ht, Result.andThen_ok, hrun, sizeT_run hs, Option.map_some, Sem.run_pure]
            · refine ⟨hb, if m' = l then ad else ad.add (l * e'), m' - l, by split <;> rfl, by omega, by omega, fun hex => ?_, ?_⟩
              · rw [Bool.or_eq_true] at hex
                rcases hex with hex | hex
                · cases hd : dmx with
                  | none => have := g6 hd; have := h3 hex; omega
                  | some q => have := g5 (by simp [hd]); omega
                · have := g5 hex; omega
              · by_cases hml : m' = l
                · left; omega
                · right
                  rw [if_neg hml]
                  rcases h4 with h4 | ⟨rfl, h5⟩
                  · omega
                  · refine ⟨addr_add _ _ _, ?_⟩
                    have : (m' - l) * e' + l * e' = m' * e' := by rw [← Nat.add_mul]; congr 1; omega
                    have : m' * e' ≤ c * e' := Nat.mul_le_mul_right _ g4
                    omega
  · rename_i he
    rw [he] at hv
    have hxe : a.eval x = .slice none 0 0 := hv
    split at h
    · rename_i b1 b2 b3
      obtain rfl := Option.some.inj h
      have z1 : ∀ (q : Option Opd) (r : Nat), aBound F 0 0 q = some r → r = 0 := by
        intro q r hq
        cases q with
        | none => simp [aBound] at hq; omega
        | some q =>
          simp only [aBound] at hq
          split at hq
          · split at hq
            · have := Option.some.inj hq; omega
            · cases hq
          · cases hq
      rename_i r1 r2 r3 _
      have e1 := z1 _ _ b1
      have e2 := z1 _ _ b2
      have e3 := z1 _ _ b3
      subst e1 e2 e3
      obtain ⟨m', hrun, g1, g2, g3, g4, g5, g6⟩ := bounds 0 0 0 0 0 0 (Nat.le_refl _) (Nat.le_refl _) b1 b2 b3
      obtain rfl : m' = 0 := by omega
      exact ⟨.slice none 0 0, by simp only [Instr.slice, hxe, Sem.run_bind, run_underlying ht, Result.andThen_ok, hrun, sizeT_run hs, Option.map_none, Sem.run_pure]; simp, rfl⟩
    · cases h
  · cases h
end
end Go.Ab
