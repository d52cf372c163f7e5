/- Operations whose order is open: two neighbours may be exchanged. -/
import Derived.Test.YtejpbhindcglpaaDoorAbC
namespace Go.Ab
section
variable {P : Program} {G base : Nat} {Q : T V → Hp → Prop}

def callOf (P : Program) (o : SOp) (F : T V) : Option (FuncId × List V) :=
  match o with
  | .cf f args => some (f, args.map (·.ev F))
  | .cv x args => match x.ev F with
    | .one (.fn f caps) => if isFn P f then some (f, args.map (·.ev F) ++ caps.map ptrV) else none
    | _ => none
  | _ => none

/-- an operation that comes to the value v, whatever the heap: a pure one, or one that is not wanted -/
def Plain (o : SOper) (F : T V) (v : V) : Prop := (wantedA o.guard F = false ∧ v = V.undef) ∨ (wantedA o.guard F = true ∧ ∃ op, o.op = .p op ∧ aPure F op = some v)

def ctxOf (o : SOper) (op : LoadOp) (F : T V) (v : V) (ctx : Ctx) : Ctx := if o.keep then (o.id, fun H' => aLoad F H' op = some v) :: ctx else ctx

def allocAt (base : Nat) (o : SOper) (H : Hp) : Nat := match o.aid with
  | none => H.nx
  | some k => base + k
def allocHp (base : Nat) (o : SOper) (H : Hp) (bk : B) : Hp := match o.aid with
  | none => H.push bk
  | some k => H.add (base + k) bk

/-- the ways of one operation -/
theorem wOps_inv {o : SOper} {r : List SOper} {ctx : Ctx} {F : T V} {H : Hp} (h : wOps P G base Q (o :: r) ctx F H) :
    (∃ v, Plain o F v ∧ wOps P G base Q r ctx (setO F o.dst v) H) ∨
    (wantedA o.guard F = true ∧ ∃ op v, o.op = .l op ∧ aLoad F H op = some v ∧ wOps P G base Q r (ctxOf o op F v ctx) (setO F o.dst v) H) ∨
    (wantedA o.guard F = true ∧ ∃ op bk g, o.op = .a op ∧ aAlloc F op = some (bk, g) ∧ wOps P G base Q r ctx (setO F o.dst (g (allocAt base o H))) (allocHp base o H bk)) ∨
    (wantedA o.guard F = true ∧ ∃ op v H', o.op = .e op ∧ aEff F H op = some (v, H') ∧ watchOk o.watch ctx H' ∧ wOps P G base Q r ctx (setO F o.dst v) H') ∨
    (wantedA o.guard F = true ∧ o.op.kd = .c ∧ ∃ f args, callOf P o.op F = some (f, args) ∧ ACalls P G f args H fun v H' => watchOk o.watch ctx H' ∧ wOps P G base Q r ctx (setO F o.dst v) H') := by
  rw [wOps] at h
  split at h
  · rename_i hw
    cases hop : o.op with
    | p op =>
      simp only [hop] at h
      cases hv : aPure F op with
      | none => simp [hv] at h
      | some v => simp only [hv] at h; exact .inl ⟨v, .inr ⟨hw, op, hop, hv⟩, h⟩
    | l op =>
      simp only [hop] at h
      cases hv : aLoad F H op with
      | none => simp [hv] at h
      | some v => simp only [hv] at h; exact .inr (.inl ⟨hw, op, v, rfl, hv, h⟩)
    | a op =>
      simp only [hop] at h
      cases hv : aAlloc F op with
      | none => simp [hv] at h
      | some bg =>
        simp only [hv] at h
        refine .inr (.inr (.inl ⟨hw, op, bg.1, bg.2, rfl, hv, ?_⟩))
        unfold allocAt allocHp
        cases hai : o.aid <;> simp only [hai] at h ⊢ <;> exact h
    | e op =>
      simp only [hop] at h
      cases hv : aEff F H op with
      | none => simp [hv] at h
      | some v => simp only [hv] at h; exact .inr (.inr (.inr (.inl ⟨hw, op, v.1, v.2, rfl, hv, h.1, h.2⟩)))
    | cf f args =>
      simp only [hop] at h
      exact .inr (.inr (.inr (.inr ⟨hw, rfl, f, _, rfl, h⟩)))
    | cv x args =>
      simp only [hop] at h
      split at h
      · rename_i f caps hx
        exact .inr (.inr (.inr (.inr ⟨hw, rfl, f, _, by simp [callOf, hx, h.1], h.2⟩)))
      · exact h.elim
  · rename_i hw
    exact .inl ⟨V.undef, .inl ⟨by simpa using hw, rfl⟩, h⟩

theorem wOps_plain {o : SOper} {r : List SOper} {ctx : Ctx} {F : T V} {H : Hp} {v : V} (hp : Plain o F v) (h : wOps P G base Q r ctx (setO F o.dst v) H) : wOps P G base Q (o :: r) ctx F H := by
  rw [wOps]
  rcases hp with ⟨hw, rfl⟩ | ⟨hw, op, hop, hv⟩
  · simpa [hw] using h
  · simpa [hw, hop, hv] using h
theorem wOps_load {o : SOper} {r : List SOper} {ctx : Ctx} {F : T V} {H : Hp} {v : V} {op : LoadOp} (hw : wantedA o.guard F = true) (hop : o.op = .l op) (hv : aLoad F H op = some v) (h : wOps P G base Q r (ctxOf o op F v ctx) (setO F o.dst v) H) :
    wOps P G base Q (o :: r) ctx F H := by
  rw [wOps]
  simp only [hw, if_true, hop, hv]
  exact h
theorem wOps_alloc {o : SOper} {r : List SOper} {ctx : Ctx} {F : T V} {H : Hp} {bk : B} {g : Nat → V} {op : AllocOp} (hw : wantedA o.guard F = true) (hop : o.op = .a op) (hv : aAlloc F op = some (bk, g))
    (h : wOps P G base Q r ctx (setO F o.dst (g (allocAt base o H))) (allocHp base o H bk)) : wOps P G base Q (o :: r) ctx F H := by
  rw [wOps]
  simp only [hw, if_true, hop, hv]
  unfold allocAt allocHp at h
  cases hai : o.aid <;> simp only [hai] at h ⊢ <;> exact h
theorem wOps_eff {o : SOper} {r : List SOper} {ctx : Ctx} {F : T V} {H H' : Hp} {v : V} {op : EffOp} (hw : wantedA o.guard F = true) (hop : o.op = .e op) (hv : aEff F H op = some (v, H')) (hwa : watchOk o.watch ctx H') (h : wOps P G base Q r ctx (setO F o.dst v) H') :
    wOps P G base Q (o :: r) ctx F H := by
  rw [wOps]
  simp only [hw, if_true, hop, hv]
  exact ⟨hwa, h⟩
theorem wOps_call {o : SOper} {r : List SOper} {ctx : Ctx} {F : T V} {H : Hp} {f : FuncId} {args : List V} (hw : wantedA o.guard F = true) (hc : callOf P o.op F = some (f, args))
    (h : ACalls P G f args H fun v H' => watchOk o.watch ctx H' ∧ wOps P G base Q r ctx (setO F o.dst v) H') : wOps P G base Q (o :: r) ctx F H := by
  rw [wOps]
  simp only [hw, if_true]
  cases hop : o.op <;> simp only [hop, callOf] at hc <;> try (cases hc; done)
  · obtain ⟨rfl, rfl⟩ : _ ∧ _ := by simpa using hc
    exact h
  · simp only
    split at hc
    · rename_i f' caps hx
      split at hc
      · rename_i hf
        obtain ⟨rfl, rfl⟩ : _ ∧ _ := by simpa using hc
        simp only [hx]
        exact ⟨hf, h⟩
      · cases hc
    · cases hc

/-- names that are reserved and free -/
def Free (base : Nat) (ks : List Nat) (H : Hp) : Prop := ∀ k ∈ ks, base + k < H.nx ∧ H.get (base + k) = none

theorem stores_keeps : ∀ {l : List C} {H H' : Hp} {b o : Nat}, H.stores b o l = some H' → H'.nx = H.nx ∧ ∀ i, H.get i = none → H'.get i = none
  | [], H, H', b, o, h => by simp [Hp.stores] at h; subst h; exact ⟨rfl, fun _ h => h⟩
  | c :: l, H, H', b, o, h => by
    simp only [Hp.stores] at h
    cases hs : H.store b o c with
    | none => simp [hs] at h
    | some H1 =>
      simp only [hs] at h
      obtain ⟨h1, h2⟩ := stores_keeps h
      unfold Hp.store at hs
      split at hs
      · rename_i n z m hb
        split at hs
        · obtain rfl := Option.some.inj hs
          refine ⟨h1, fun i hi => h2 i ?_⟩
          rw [Hp.get_add]
          split
          · rename_i e; subst e; rw [hb] at hi; cases hi
          · exact hi
        · cases hs
      · cases hs

theorem eff_keeps {F : T V} {H H' : Hp} {op : EffOp} {v : V} (h : aEff F H op = some (v, H')) : H.nx ≤ H'.nx ∧ ∀ b, b < H.nx → H.get b = none → H'.get b = none := by
  cases op with
  | store n a x =>
    simp only [aEff] at h
    split at h
    · split at h
      · simp only [Option.map_eq_some_iff, Prod.mk.injEq] at h
        obtain ⟨H1, hs, _, rfl⟩ := h
        have := stores_keeps hs
        exact ⟨by omega, fun b _ hb => this.2 b hb⟩
      · cases h
    · cases h
  | append esz bytes s x =>
    simp only [aEff] at h
    split at h
    · rename_i m news _
      unfold aAppend at h
      split at h
      · split at h
        · simp only [Option.some.injEq, Prod.mk.injEq] at h; obtain ⟨_, rfl⟩ := h; exact ⟨Nat.le_refl _, fun _ _ h => h⟩
        · split at h
          · simp only [Option.some.injEq, Prod.mk.injEq] at h; obtain ⟨_, rfl⟩ := h
            exact ⟨by simp, fun b hb hn => by rw [Hp.get_push, if_neg (by omega)]; exact hn⟩
          · cases h
      · split at h
        · cases h
        · split at h
          · simp only [Option.map_eq_some_iff, Prod.mk.injEq] at h
            obtain ⟨H1, hs, _, rfl⟩ := h
            have := stores_keeps hs
            exact ⟨by omega, fun b _ hb => this.2 b hb⟩
          · split at h
            · split at h
              · cases h
              · split at h
                · simp only [Option.some.injEq, Prod.mk.injEq] at h; obtain ⟨_, rfl⟩ := h
                  exact ⟨by simp, fun b hb hn => by rw [Hp.get_push, if_neg (by omega)]; exact hn⟩
                · split at h
                  · simp only [Option.some.injEq, Prod.mk.injEq] at h; obtain ⟨_, rfl⟩ := h
                    refine ⟨by simp, fun b hb hn => ?_⟩
                    rw [Hp.get_del]
                    split
                    · rfl
                    · rw [Hp.get_push, if_neg (by omega)]; exact hn
                  · cases h
            · cases h
      · cases h
    · cases h
  | copy esz d s =>
    simp only [aEff] at h
    split at h
    · simp only [Option.some.injEq, Prod.mk.injEq] at h; obtain ⟨_, rfl⟩ := h; exact ⟨Nat.le_refl _, fun _ _ h => h⟩
    · split at h
      · simp only [Option.map_eq_some_iff, Prod.mk.injEq] at h
        obtain ⟨H1, hs, _, rfl⟩ := h
        have := stores_keeps hs
        exact ⟨by omega, fun b _ hb => this.2 b hb⟩
      · cases h
    · cases h
  | mapupd m k x =>
    simp only [aEff] at h
    split at h
    · split at h
      · rename_i b _ es hb
        split at h
        · split at h
          · simp only [Option.some.injEq, Prod.mk.injEq] at h; obtain ⟨_, rfl⟩ := h
            refine ⟨Nat.le_refl _, fun i _ hi => ?_⟩
            rw [Hp.get_add]
            split
            · rename_i e; subst e; rw [hb] at hi; cases hi
            · exact hi
          · simp only [Option.some.injEq, Prod.mk.injEq] at h; obtain ⟨_, rfl⟩ := h
            refine ⟨Nat.le_refl _, fun i _ hi => ?_⟩
            rw [Hp.get_add]
            split
            · rename_i e; subst e; rw [hb] at hi; cases hi
            · exact hi
          · cases h
        · cases h
      · cases h
    · cases h
  | clear esz z x =>
    simp only [aEff] at h
    split at h
    · simp only [Option.some.injEq, Prod.mk.injEq] at h; obtain ⟨_, rfl⟩ := h; exact ⟨Nat.le_refl _, fun _ _ h => h⟩
    · split at h
      · simp only [Option.map_eq_some_iff, Prod.mk.injEq] at h
        obtain ⟨H1, hs, _, rfl⟩ := h
        have := stores_keeps hs
        exact ⟨by omega, fun b _ hb => this.2 b hb⟩
      · cases h
    · cases h

theorem Free.of_keeps {ks : List Nat} {H H' : Hp} (hf : Free base ks H) (h : H.nx ≤ H'.nx ∧ ∀ b, b < H.nx → H.get b = none → H'.get b = none) : Free base ks H' :=
  fun k hk => ⟨by have := (hf k hk).1; omega, h.2 _ (hf k hk).1 (hf k hk).2⟩
theorem Free.of_alloc {ks : List Nat} {H : Hp} {o : SOper} (hf : Free base ks H) (bk : B) (hk : ∀ k, o.aid = some k → k ∉ ks) : Free base ks (allocHp base o H bk) := by
  unfold allocHp
  cases hai : o.aid with
  | none => exact fun k hk' => ⟨by have := (hf k hk').1; simp; omega, by rw [Hp.get_push, if_neg (by have := (hf k hk').1; omega)]; exact (hf k hk').2⟩
  | some j =>
    refine fun k hk' => ⟨(hf k hk').1, ?_⟩
    rw [Hp.get_add, if_neg (fun e => hk j hai (by have : k = j := by omega
                                                  rw [← this]; exact hk'))]
    exact (hf k hk').2

end
end Go.Ab
