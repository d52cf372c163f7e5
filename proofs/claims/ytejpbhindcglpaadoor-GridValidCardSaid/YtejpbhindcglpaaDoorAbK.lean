/- A region whose order is open: whatever order is drawn, it ends as the abstract operations, in one order, say. -/
import Derived.Test.YtejpbhindcglpaaDoorAbJ
namespace Go.Ab
section
variable {P : Program} {G n base : Nat} {Q : T V → Hp → Prop}

/-- what an operation shows of a fact that does not hang on its outcome -/
theorem wpOp_const {ops : Array Oper} {i : Nat} {a : Act} {w : World} {T : Prop} (h : wpOp P ops (fun _ _ _ => False) i (fun _ _ => T) a w) : T := by
  unfold wpOp at h
  split at h
  · exact h
  · rename_i o ho
    split at h
    · rcases h with h | ⟨_, _, _, h⟩
      · unfold Oper.wp at h
        generalize (execOp a.eval o).run P w = r at h
        cases r with
        | ok nx w' =>
          cases nx <;> simp only [Oper.upon] at h <;> first
            | exact h
            | (obtain ⟨e, w'', fr, hR, _⟩ := h []
               cases e with
               | returned v => exact hR
               | panicked c => exact hR.elim
               | outgrown => obtain ⟨_, _, hh⟩ := hR; exact hh.elim)
            | (obtain ⟨v, w'', hR, _⟩ := h default []; exact hR)
            | exact h.elim
        | halt hh w' => cases hh <;> simp only [Oper.upon] at h <;> first | exact h.elim | exact h
      · exact h.elim
    · exact h

theorem hasVal_head {x : SOper} {post : List SOper} {ctx : Ctx} {F : T V} {H : Hp} (h : wOps P G base Q (x :: post) ctx F H) : HasVal x F := by
  intro hw
  rw [wOps, hw] at h
  simp only [if_true] at h
  refine ⟨fun op hop => ?_, fun op hop => ?_⟩
  · rw [hop] at h
    simp only at h
    cases hv : aPure F op with
    | none => simp [hv] at h
    | some v => exact ⟨v, rfl⟩
  · rw [hop] at h
    simp only at h
    cases hv : aAlloc F op with
    | none => simp [hv] at h
    | some v => exact ⟨v, rfl⟩

/-- an operation that does not hang on those before it has its value already -/
theorem reach {ops : Array Oper} {x : SOper} {post : List SOper} {μ0 : Nat → Pl} {K0 : Nat → Prop} {H0 : Hp} {w0 : World} (hlt0 : ∀ b bk, H0.get b = some bk → b < H0.nx) :
    ∀ {pre : List SOper} {idx : List Nat} {ctx : Ctx} {F : T V} {H : Hp} {μ : Nat → Pl} {K : Nat → Prop} {a : Act} {w : World}, Aligned P G n ops idx pre → (∀ y ∈ pre, Blind x y.dst) → Rel G μ K H w → FRel μ K n F a.tmps → Fr μ0 K0 H0 w0 μ K H w →
      (∀ y ∈ pre, ∀ k, y.aid = some k → ¬ K (base + k) ∧ base + k < H.nx ∧ H0.nx ≤ base + k) → (pre.filterMap (·.aid)).Nodup →
      wOps P G base Q (pre ++ x :: post) ctx F H → HasVal x F
  | [], [], ctx, F, H, μ, K, a, w, _, _, _, _, _, _, _, h => hasVal_head h
  | y :: pre, i :: idx, ctx, F, H, μ, K, a, w, hal, hbl, hR, hF, hFr, hrs, hnd, h => by
    obtain ⟨⟨o, ho, hfit⟩, hal'⟩ := hal
    have key : wpOp P ops (fun _ _ _ => False) i (fun _ _ => HasVal x F) a w := by
      refine op_ok hlt0 ho hfit hR hF hFr (hrs y (by simp)) h fun μ' K' F' H' a' w' ctx' h1 h2 h3 _ h5 h6 h7 _ h8 => ?_
      obtain ⟨v, rfl⟩ := h7
      have hnd' : (pre.filterMap (·.aid)).Nodup ∧ ∀ k, y.aid = some k → k ∉ pre.filterMap (·.aid) := by
        simp only [List.filterMap_cons] at hnd
        cases hy : y.aid with
        | none => rw [hy] at hnd; exact ⟨hnd, by simp⟩
        | some k => rw [hy] at hnd; exact ⟨(List.nodup_cons.1 hnd).2, fun j hj => by obtain rfl := Option.some.inj hj; exact (List.nodup_cons.1 hnd).1⟩
      have := reach hlt0 hal' (fun z hz => hbl z (by simp [hz])) h1 h2 h3 (fun z hz k hk => by
        obtain ⟨g1, g2, g3⟩ := hrs z (by simp [hz]) k hk
        refine ⟨fun hk' => ?_, by omega, g3⟩
        rcases h6 _ g2 hk' with h | ⟨j, hj, he⟩
        · exact g1 h
        · exact hnd'.2 j hj (by
            have : j = k := by omega
            rw [this]
            exact List.mem_filterMap.2 ⟨z, hz, hk⟩)) hnd'.1 h8
      exact (HasVal.blind (hbl y (by simp))).1 this
    exact wpOp_const key
  | [], _ :: _, _, _, _, _, _, _, _, h, _, _, _, _, _, _, _ => h.elim
  | _ :: _, [], _, _, _, _, _, _, _, h, _, _, _, _, _, _, _ => h.elim

/-- every earlier operation is one that the later one hangs on, or may be exchanged with it -/
def PairsOk (D : Nat → List Nat) : List Nat → List SOper → Prop
  | i :: idx, s :: l => (∀ j t, (j, t) ∈ idx.zip l → i ∈ D j ∨ swapOk s t = true) ∧ PairsOk D idx l
  | _, _ => True

theorem Aligned.len {ops : Array Oper} : ∀ {idx : List Nat} {l : List SOper}, Aligned P G n ops idx l → idx.length = l.length
  | [], [], _ => rfl
  | _ :: _, _ :: _, h => by simp [Aligned.len h.2]
  | [], _ :: _, h => h.elim
  | _ :: _, [], h => h.elim

/-- an index among others, with its operation -/
theorem Aligned.split {ops : Array Oper} {D : Nat → List Nat} : ∀ {idx : List Nat} {l : List SOper} {i : Nat}, Aligned P G n ops idx l → PairsOk D idx l → i ∈ idx →
    ∃ pi qi pre x post, idx = pi ++ i :: qi ∧ l = pre ++ x :: post ∧ Aligned P G n ops pi pre ∧ (∃ o, ops[i]? = some o ∧ Fits P G n ops o x) ∧ Aligned P G n ops (pi ++ qi) (pre ++ post) ∧ PairsOk D (pi ++ qi) (pre ++ post) ∧
      (∀ y ∈ pre, ∃ j ∈ pi, j ∈ D i ∨ swapOk y x = true)
  | j :: idx, s :: l, i, hal, hp, hi => by
    by_cases e : i = j
    · subst e
      exact ⟨[], idx, [], s, l, rfl, rfl, trivial, hal.1, hal.2, hp.2, by simp⟩
    · have hi' : i ∈ idx := by
        rcases List.mem_cons.1 hi with h | h
        · exact absurd h e
        · exact h
      obtain ⟨pi, qi, pre, x, post, h1, h2, h3, h4, h5, h6, h7⟩ := Aligned.split hal.2 hp.2 hi'
      have hl1 : pi.length = pre.length := h3.len
      refine ⟨j :: pi, qi, s :: pre, x, post, by rw [h1]; rfl, by rw [h2]; rfl, ⟨hal.1, h3⟩, h4, ⟨hal.1, h5⟩, ⟨fun j' t hjt => hp.1 j' t ?_, h6⟩, fun y hy => ?_⟩
      · rw [h1, h2, List.zip_append hl1]
        have hjt' : (j', t) ∈ (pi ++ qi).zip (pre ++ post) := hjt
        rw [List.zip_append hl1] at hjt'
        rcases List.mem_append.1 hjt' with h | h
        · exact List.mem_append.2 (.inl h)
        · exact List.mem_append.2 (.inr (by simp [h]))
      · rcases List.mem_cons.1 hy with rfl | hy
        · refine ⟨j, by simp, hp.1 i x ?_⟩
          rw [h1, h2, List.zip_append hl1]
          exact List.mem_append.2 (.inr (by simp))
        · obtain ⟨j', hj', hh⟩ := h7 y hy
          exact ⟨j', by simp [hj'], hh⟩
  | [], _, _, _, _, hi => by cases hi
  | _ :: _, [], _, hal, _, _ => hal.elim


/-- WHATEVER ORDER IS DRAWN. -/
theorem any_ok {ops : Array Oper} {D : Nat → List Nat} {μ0 : Nat → Pl} {K0 : Nat → Prop} {H0 : Hp} {w0 : World} (hlt0 : ∀ b bk, H0.get b = some bk → b < H0.nx) {Q' : Exit → Act → World → Prop}
    (hQ : ∀ μ K F H a w, Q F H → Rel G μ K H w → FRel μ K n F a.tmps → Fr μ0 K0 H0 w0 μ K H w → a.defers = [] → Q' .normal a w)
    (hD : ∀ i o, ops[i]? = some o → ∀ j ∈ D i, ∃ e ∈ o.after.toList, Region.binds .any e = true ∧ (e.on = j ∨ j ∈ D e.on))
    (hlow : ∀ i o, ops[i]? = some o → ∀ e ∈ o.after.toList, Region.binds .any e = true → e.on < i) :
    ∀ {fuel : Nat} {listed : Array Bool} {idx : List Nat} {l : List SOper} {ctx : Ctx} {F : T V} {H : Hp} {μ : Nat → Pl} {K : Nat → Prop} {a : Act} {w : World},
      listed.size = ops.size → (∀ i, i < ops.size → (listed.getD i true = false ↔ i ∈ idx)) → (∀ i ∈ idx, i < ops.size) → idx.Nodup → idx.length ≤ fuel →
      (∀ i, i < ops.size → i ∉ idx → ∀ j ∈ D i, j ∉ idx) → Aligned P G n ops idx l → PairsOk D idx l → (l.filterMap (·.aid)).Nodup → CtxSt ctx →
      (∀ s ∈ l, ∀ k, s.aid = some k → ¬ K (base + k) ∧ base + k < H.nx ∧ H0.nx ≤ base + k) →
      Rel G μ K H w → FRel μ K n F a.tmps → Fr μ0 K0 H0 w0 μ K H w → a.defers = [] → wOps P G base Q l ctx F H → wpAny P .any ops Q' fuel listed a w := by
  intro fuel
  induction fuel with
  | zero =>
    intro listed idx l ctx F H μ K a w hsz hlist hin hnd hlen hdc hal hp haid hst hrs hR hF hFr hd h
    have hidx : idx = [] := List.eq_nil_of_length_eq_zero (by omega)
    subst hidx
    cases l with
    | cons s l => exact hal.elim
    | nil =>
      refine ⟨?_, hQ μ K F H a w h hR hF hFr hd⟩
      unfold Region.ready
      rw [List.filter_eq_nil_iff]
      intro i hi
      have hi' : i < ops.size := by simpa using hi
      have := (hlist i hi').1
      cases hl : listed.getD i true with
      | true => simp
      | false => exact absurd (this hl) (by simp)
  | succ fuel ih =>
    intro listed idx l ctx F H μ K a w hsz hlist hin hnd hlen hdc hal hp haid hst hrs hR hF hFr hd h
    refine ⟨fun hready => ?_, fun i hi => ?_⟩
    · -- nothing is ready: then nothing is left
      have hidx : idx = [] := by
        cases hid : idx with
        | nil => rfl
        | cons i0 rest =>
          exfalso
          -- the least index that is left is ready
          obtain ⟨m, hm, hmin⟩ : ∃ m ∈ idx, ∀ j ∈ idx, m ≤ j := by
            have : ∀ (l : List Nat), l ≠ [] → ∃ m ∈ l, ∀ j ∈ l, m ≤ j := by
              intro l
              induction l with
              | nil => intro h; exact absurd rfl h
              | cons x l ihl =>
                intro _
                by_cases hl : l = []
                · subst hl; exact ⟨x, by simp, by simp⟩
                · obtain ⟨m, hm, hmin⟩ := ihl hl
                  by_cases hx : x ≤ m
                  · exact ⟨x, by simp, fun j hj => by
                      rcases List.mem_cons.1 hj with rfl | hj
                      · exact Nat.le_refl _
                      · exact Nat.le_trans hx (hmin j hj)⟩
                  · exact ⟨m, by simp [hm], fun j hj => by
                      rcases List.mem_cons.1 hj with rfl | hj
                      · omega
                      · exact hmin j hj⟩
            exact this idx (by rw [hid]; simp)
          have hms := hin m hm
          have hmr : m ∈ Region.ready .any ops listed := by
            unfold Region.ready
            rw [List.mem_filter]
            refine ⟨by simpa using hms, ?_⟩
            rw [(hlist m hms).2 hm]
            have ho : ops[m]? = some ops[m] := Array.getElem?_eq_getElem hms
            rw [ho]
            simp only [Bool.not_false, Bool.true_and, Option.map_some, Option.getD_some]
            rw [Array.all_eq_true_iff_forall_mem]
            intro e he
            cases hb : Region.binds .any e with
            | false => rfl
            | true =>
              have hlt := hlow m _ ho e (by simpa using he) hb
              have hes : e.on < ops.size := by omega
              have hne : e.on ∉ idx := fun h => absurd (hmin _ h) (by omega)
              have hl : listed.getD e.on true ≠ false := fun h => hne ((hlist _ hes).1 h)
              have hsz' : e.on < listed.size := by rw [hsz]; exact hes
              simp [hsz'] at hl ⊢
              exact hl
          rw [hready] at hmr
          cases hmr
      subst hidx
      cases l with
      | cons s l => exact hal.elim
      | nil => exact hQ μ K F H a w h hR hF hFr hd
    · -- one that is ready is drawn to the front
      unfold Region.ready at hi
      rw [List.mem_filter] at hi
      obtain ⟨hi1, hi2⟩ := hi
      have his : i < ops.size := by simpa using hi1
      rw [Bool.and_eq_true] at hi2
      have hun : listed.getD i true = false := by simpa using hi2.1
      have hii : i ∈ idx := (hlist i his).1 hun
      obtain ⟨pi, qi, pre, x, post, e1, e2, g1, ⟨o, ho, hfit⟩, g3, g4, g5⟩ := Aligned.split hal hp hii
      have hdeps : ∀ e ∈ o.after.toList, Region.binds .any e = true → e.on ∉ idx := by
        intro e he hb
        have h2 := hi2.2
        rw [ho] at h2
        simp only [Option.map_some, Option.getD_some] at h2
        rw [Array.all_eq_true_iff_forall_mem] at h2
        have h3 := h2 e (by simpa using he)
        rw [hb] at h3
        simp only [Bool.not_true, Bool.false_or] at h3
        have hes : e.on < ops.size := by have := hlow i o ho e he hb; omega
        intro hmem
        have h4 := (hlist _ hes).2 hmem
        have hsz' : e.on < listed.size := by rw [hsz]; exact hes
        simp [hsz'] at h3 h4
        rw [h3] at h4
        cases h4
      have hDi : ∀ j ∈ D i, j ∉ idx := by
        intro j hj
        obtain ⟨e, he, hb, hej⟩ := hD i o ho j hj
        have hen := hdeps e he hb
        rcases hej with rfl | hej
        · exact hen
        · exact hdc e.on (by have := hlow i o ho e he hb; omega) hen j hej
      have hsw : ∀ y ∈ pre, swapOk y x = true := by
        intro y hy
        obtain ⟨j, hj, hh⟩ := g5 y hy
        rcases hh with hh | hh
        · exact absurd (by rw [e1]; simp [hj]) (hDi j hh)
        · exact hh
      have hbl : ∀ y ∈ pre, Blind x y.dst := fun y hy => by
        have := hsw y hy
        unfold swapOk at this
        rw [Bool.and_eq_true] at this
        obtain ⟨t1, _⟩ := tmOk_spec this.1
        exact Blind.mk' fun k hk => ⟨(t1 k hk).1, (t1 k hk).2.1⟩
      rw [e2] at h haid hrs
      have hfm : (pre ++ x :: post).filterMap (·.aid) = (pre ++ [x]).filterMap (·.aid) ++ post.filterMap (·.aid) := by
        rw [show pre ++ x :: post = (pre ++ [x]) ++ post by simp, List.filterMap_append]
      have hnd1 : ((pre ++ [x]).filterMap (·.aid)).Nodup := by rw [hfm] at haid; exact (List.nodup_append.1 haid).1
      have hval : HasVal x F := reach hlt0 g1 hbl hR hF hFr (fun y hy k hk => hrs y (by simp [hy]) k hk) (by
        rw [List.filterMap_append] at hnd1; exact (List.nodup_append.1 hnd1).1) h
      have hfree : ∀ k ∈ (pre ++ [x]).filterMap (·.aid), base + k < H.nx ∧ H.get (base + k) = none := by
        intro k hk
        obtain ⟨s, hs, hk'⟩ := List.mem_filterMap.1 hk
        have hs' : s ∈ pre ++ x :: post := by
          rcases List.mem_append.1 hs with h | h
          · simp [h]
          · simp at h; subst h; simp
        obtain ⟨r1, r2, r3⟩ := hrs s hs' k hk'
        refine ⟨r2, ?_⟩
        cases hg : H.get (base + k) with
        | none => rfl
        | some bk => exact absurd (hR.dom _ _ hg) r1
      have h' := pull hsw hst hval hfree hnd1 h
      refine op_ok hlt0 ho hfit hR hF hFr (hrs x (by simp)) h' fun μ' K' F' H' a' w' ctx' k1 k2 k3 k4 k5 k6 _ k8 k9 => ?_
      have hidxlen : (pi ++ qi).length + 1 = idx.length := by rw [e1]; simp; omega
      have hndi : (pi ++ qi).Nodup ∧ i ∉ pi ++ qi := by
        rw [e1] at hnd
        have hperm : (pi ++ i :: qi).Perm (i :: (pi ++ qi)) := List.perm_middle
        have := (hperm.nodup_iff).1 hnd
        exact ⟨(List.nodup_cons.1 this).2, (List.nodup_cons.1 this).1⟩
      have hmem : ∀ j, j ∈ pi ++ qi ↔ j ∈ idx ∧ j ≠ i := by
        intro j
        rw [e1]
        constructor
        · intro hj
          refine ⟨?_, fun e => hndi.2 (e ▸ hj)⟩
          rcases List.mem_append.1 hj with h | h
          · simp [h]
          · simp [h]
        · rintro ⟨hj, hne⟩
          rcases List.mem_append.1 hj with h | h
          · simp [h]
          · rcases List.mem_cons.1 h with h | h
            · exact absurd h hne
            · simp [h]
      have haid' : ((pre ++ post).filterMap (·.aid)).Nodup ∧ ∀ k, x.aid = some k → k ∉ (pre ++ post).filterMap (·.aid) := by
        have hperm : (pre ++ x :: post).Perm (x :: (pre ++ post)) := List.perm_middle
        have h1 := ((hperm.filterMap (·.aid)).nodup_iff).1 haid
        simp only [List.filterMap_cons] at h1
        cases hx : x.aid with
        | none => rw [hx] at h1; exact ⟨h1, by simp⟩
        | some k => rw [hx] at h1; exact ⟨(List.nodup_cons.1 h1).2, fun j hj => by obtain rfl := Option.some.inj hj; exact (List.nodup_cons.1 h1).1⟩
      refine ih (by simpa using hsz) (fun j hj => ?_) (fun j hj => hin j ((hmem j).1 hj).1) hndi.1 (by omega) (fun j hj hjn k hk => ?_) g3 g4 haid'.1 (k8 hst) (fun s hs k hk => ?_) k1 k2 k3 (k4.trans hd) k9
      · rw [hmem]
        by_cases e : j = i
        · subst e
          have : (listed.setIfInBounds j true).getD j true = true := by
            have : j < listed.size := by rw [hsz]; exact his
            simp [this]
          rw [this]
          simp
        · have : (listed.setIfInBounds i true).getD j true = listed.getD j true := by
            simp only [Array.getD_eq_getD_getElem?]
            rw [Array.getElem?_setIfInBounds_ne (fun h => e h.symm)]
          rw [this, hlist j hj]
          simp [e]
      · -- still closed downwards
        rw [hmem] at hjn
        intro hkm
        have hkm' := ((hmem k).1 hkm).1
        by_cases e : j = i
        · subst e; exact hDi k hk hkm'
        · have hji : j ∉ idx := fun h => hjn ⟨h, e⟩
          exact hdc j hj hji k hk hkm'
      · have hs' : s ∈ pre ++ x :: post := by
          rcases List.mem_append.1 hs with h | h
          · simp [h]
          · simp [h]
        obtain ⟨r1, r2, r3⟩ := hrs s hs' k hk
        refine ⟨fun hk' => ?_, by omega, r3⟩
        rcases k6 _ r2 hk' with h | ⟨j, hj, he⟩
        · exact r1 h
        · exact haid'.2 j hj (by
            have : j = k := by omega
            rw [this]
            exact List.mem_filterMap.2 ⟨s, hs, hk⟩)
end
end Go.Ab
