/- Operations whose order is open: two neighbours may be exchanged. -/
import Derived.Test.YtejpbhindcglpaaDoorAbB
namespace Go.Ab
section
variable {P : Program} {G base : Nat} {Q : T V → Hp → Prop}

theorem ACalls.mono {f : FuncId} {args : List V} {H : Hp} {R R' : V → Hp → Prop} (h : ACalls P G f args H R) (hr : ∀ v H', R v H' → R' v H') : ACalls P G f args H R' :=
  fun μ K w xs hR ha => (h μ K w xs hR ha).mono fun _ _ ⟨x, he, v, H', μ', K', h1, h2⟩ => ⟨x, he, v, H', μ', K', hr _ _ h1, h2⟩

/-- what every call keeps: names that are reserved stay free -/
theorem ACalls.keeps {f : FuncId} {args : List V} {H : Hp} {R : V → Hp → Prop} (h : ACalls P G f args H R) : ACalls P G f args H fun v H' => R v H' ∧ H.nx ≤ H'.nx ∧ ∀ b, b < H.nx → H.get b = none → H'.get b = none :=
  fun μ K w xs hR ha => (h μ K w xs hR ha).mono fun _ _ ⟨x, he, v, H', μ', K', h1, h2, h3, h4⟩ => ⟨x, he, v, H', μ', K', ⟨h1, h4.nx, h4.none⟩, h2, h3, h4⟩

/-- a call leaves a block alone that it does not know -/
theorem ACalls.frame {f : FuncId} {args : List V} {H : Hp} {R : V → Hp → Prop} (h : ACalls P G f args H R) {x : Nat} {bk : B} (hx : x < H.nx) (hn : H.get x = none) (hm : bk.mut = true) :
    ACalls P G f args (H.add x bk) fun v H'' => ∃ H', R v H' ∧ H'' = H'.add x bk := by
  intro μ K w xs hR ha
  have hget : ∀ (H : Hp) i, (H.add x bk).get i = if i = x then some bk else H.get i := fun H i => Hp.get_add H x i bk
  have hkx : K x := hR.dom x bk (by simp)
  have hne : ∀ i k, H.get i = some k → i ≠ x := fun i k hi e => by subst e; rw [hn] at hi; cases hi
  have hR1 : Rel G μ K H w := ⟨fun b k hb => hR.dom b k (by rw [hget, if_neg (hne b k hb)]; exact hb), hR.lt, fun b k hb => hR.blk b k (by rw [hget, if_neg (hne b k hb)]; exact hb),
    fun b b' k k' hb hb' => hR.inj b b' k k' (by rw [hget, if_neg (hne b k hb)]; exact hb) (by rw [hget, if_neg (hne b' k' hb')]; exact hb'), hR.glob⟩
  have hxx : (H.add x bk).get x = some bk := by simp
  have hblk := hR.blk x bk hxx
  have hbl := hR.blk_lt hxx
  -- no block of H that may be written lies there
  have hfar : ∀ b k, H.get b = some k → (μ b).blk ≠ (μ x).blk := fun b k hb he => hne b k hb (hR.inj x b bk k hxx (by rw [hget, if_neg (hne b k hb)]; exact hb) hm he.symm).symm
  refine (h μ K w xs hR1 ha).mono ?_
  rintro e w' ⟨y, rfl, v, H', μ', K', h1, h2, h3, h4⟩
  have hn' : H'.get x = none := h4.none x hx hn
  have hne' : ∀ i k, H'.get i = some k → i ≠ x := fun i k hi e => by subst e; rw [hn'] at hi; cases hi
  have hmux : μ' x = μ x := h4.mu x hkx
  have hkeep : w'.heap[(μ x).blk]? = w.heap[(μ x).blk]? := h4.keep _ hbl fun b k hb _ => hfar b k hb
  have hfar' : ∀ b k, H'.get b = some k → (μ' b).blk ≠ (μ x).blk := by
    intro b k hb he
    by_cases hlt : b < H.nx
    · cases hg : H.get b with
      | none => rw [h4.none b hlt hg] at hb; cases hb
      | some k0 =>
        rw [h4.mu b (hR1.dom b k0 hg)] at he
        exact hfar b k0 hg he
    · rcases h4.img b k hb (h4.newmut b k (by omega) hb) with ⟨b0, k0, g0, _, e0⟩ | hge
      · exact hfar b0 k0 g0 (e0.trans he)
      · omega
  refine ⟨y, rfl, v, H'.add x bk, μ', K', ⟨H', h1, rfl⟩, h2, ⟨fun b k hb => ?_, h3.lt, fun b k hb => ?_, fun b b' k k' hb hb' hm' he => ?_, h3.glob⟩, ?_⟩
  · rw [hget] at hb
    split at hb
    · rename_i e; subst e; exact h4.kk _ hkx
    · exact h3.dom b k hb
  · rw [hget] at hb
    split at hb
    · rename_i e; subst e
      obtain rfl := Option.some.inj hb
      rw [hmux, hkeep]
      exact hblk.mono h4.kk h4.mu
    · exact h3.blk b k hb
  · rw [hget] at hb hb'
    by_cases e1 : b = x
    · by_cases e2 : b' = x
      · rw [e1, e2]
      · rw [if_neg e2] at hb'
        rw [e1, hmux] at he
        exact absurd he.symm (hfar' b' k' hb')
    · by_cases e2 : b' = x
      · rw [if_neg e1] at hb
        rw [e2, hmux] at he
        exact absurd he (hfar' b k hb)
      · rw [if_neg e1] at hb
        rw [if_neg e2] at hb'
        exact h3.inj b b' k k' hb hb' hm' he
  · refine ⟨h4.same, h4.size, fun i hi hn => h4.keep i hi fun b k hb hm => hn b k (by rw [hget, if_neg (hne b k hb)]; exact hb) hm, fun b k hb hm' => ?_, fun b k hb hk => ?_, h4.mu, h4.kk, h4.knew, h4.nx, fun b hb hn => ?_, fun b k k' hb hb' => ?_, fun b k hb hm' => ?_⟩
    · rw [hget] at hb
      split at hb
      · rename_i e; subst e; exact .inl ⟨b, bk, by simp, hm, by rw [hmux]⟩
      · rcases h4.img b k hb hm' with ⟨b0, k0, g0, m0, e0⟩ | hge
        · exact .inl ⟨b0, k0, by rw [hget, if_neg (hne b0 k0 g0)]; exact g0, m0, e0⟩
        · exact .inr hge
    · rw [hget] at hk
      simp at hb
      rw [if_neg (by omega)] at hk
      exact h4.newmut b k hb hk
    · rw [hget] at hn ⊢
      split at hn
      · cases hn
      · rename_i e; rw [if_neg e]; exact h4.none b hb hn
    · rw [hget] at hb hb'
      split at hb
      · rename_i e; rw [if_pos e] at hb'; rw [Option.some.inj hb] at hb'; rw [Option.some.inj hb']
      · rename_i e; rw [if_neg e] at hb'; exact h4.stay b k k' hb hb'
    · rw [hget] at hb ⊢
      split at hb
      · rename_i e; rw [if_pos e]; exact hb
      · rename_i e; rw [if_neg e]; exact h4.ro b k hb hm'

/-- the watch is weaker with less to watch -/
theorem watch_mono {ws : List Nat} {ctx ctx' : Ctx} {H : Hp} (hs : ∀ x, x ∈ ctx' → x ∈ ctx) (h : watchOk ws ctx H) : watchOk ws ctx' H := by
  cases ws with
  | nil => trivial
  | cons k r => exact fun j hj p hp => h j hj p (hs _ hp)

theorem ctx_mono : ∀ {l : List SOper} {ctx ctx' : Ctx} {F : T V} {H : Hp}, (∀ x, x ∈ ctx' → x ∈ ctx) → wOps P G base Q l ctx F H → wOps P G base Q l ctx' F H
  | [], _, _, _, _, _, h => h
  | o :: r, ctx, ctx', F, H, hs, h => by
    rw [wOps] at h ⊢
    split at h
    · rename_i hw
      rw [if_pos hw]
      cases hop : o.op with
      | p op =>
        simp only [hop] at h ⊢
        cases hv : aPure F op with
        | none => simp [hv] at h
        | some v => simp only [hv] at h ⊢; exact ctx_mono hs h
      | l op =>
        simp only [hop] at h ⊢
        cases hv : aLoad F H op with
        | none => simp [hv] at h
        | some v =>
          simp only [hv] at h ⊢
          refine ctx_mono (fun x hx => ?_) h
          cases hk : o.keep with
          | false => simp only [hk, Bool.false_eq_true, if_false] at hx ⊢; exact hs x hx
          | true =>
            simp only [hk, if_true, List.mem_cons] at hx ⊢
            exact hx.imp id (hs x)
      | a op =>
        simp only [hop] at h ⊢
        cases hv : aAlloc F op with
        | none => simp [hv] at h
        | some v =>
          simp only [hv] at h ⊢
          cases hai : o.aid with
          | none => simp only [hai] at h ⊢; exact ctx_mono hs h
          | some k => simp only [hai] at h ⊢; exact ctx_mono hs h
      | e op =>
        simp only [hop] at h ⊢
        cases hv : aEff F H op with
        | none => simp [hv] at h
        | some v => simp only [hv] at h ⊢; exact ⟨watch_mono hs h.1, ctx_mono hs h.2⟩
      | cf f args =>
        simp only [hop] at h ⊢
        exact h.mono fun v H' hh => ⟨watch_mono hs hh.1, ctx_mono hs hh.2⟩
      | cv x args =>
        simp only [hop] at h ⊢
        split at h
        · exact ⟨h.1, h.2.mono fun v H' hh => ⟨watch_mono hs hh.1, ctx_mono hs hh.2⟩⟩
        · exact h.elim
    · rename_i hw
      rw [if_neg hw]
      exact ctx_mono hs h
end
end Go.Ab
