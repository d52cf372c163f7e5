/- Lists of operations, calls, and one operation's agreement with the model's. -/
import Derived.Test.YtejpbhindcglpaaDoorAbH
namespace Go.Ab

inductive SOp where
  | p (o : PureOp)
  | l (o : LoadOp)
  | a (o : AllocOp)
  | e (o : EffOp)
  | cf (f : FuncId) (args : List Opd)
  | cv (x : Opd) (args : List Opd)

structure SOper where
  id : Nat
  dst : Option Nat
  op : SOp
  guard : Option (Nat × Bool)
  aid : Option Nat
  watch : List Nat
  keep : Bool

def setO (F : T V) (d : Option Nat) (v : V) : T V :=
  match d with
  | some d => F.set d (some v)
  | none => F

def wantedA (g : Option (Nat × Bool)) (F : T V) : Bool :=
  match g with
  | none => true
  | some (t, want) => match (F.get t).getD V.undef with
    | .one (.bool b) => b == want
    | _ => false

/-- a function that a call enters -/
def isFn (P : Program) (f : FuncId) : Bool :=
  match P.funcs[f]? with
  | some fn => fn.name != "runtime.NumGoroutine" && fn.body.isSome
  | none => false

def ptrV (p : Nat × Nat) : V := .one (.ptr p.1 p.2)

/-- WHAT A CALL COMES TO: whatever the world, related to the heap H: it returns, and the value and the world are related to a value and a heap of which R holds. -/
def ACalls (P : Program) (G : Nat) (f : FuncId) (args : List V) (H : Hp) (R : V → Hp → Prop) : Prop :=
  ∀ (μ : Nat → Pl) (K : Nat → Prop) (w : World) (xs : List Value), Rel G μ K H w → All2 (RV μ K) args xs →
    Calls P f xs.toArray w fun e w' => ∃ x, e = .returned x ∧ ∃ v H' μ' K', R v H' ∧ RV μ' K' v x ∧ Rel G μ' K' H' w' ∧ Fr μ K H w μ' K' H' w'

abbrev Ctx := List (Nat × (Hp → Prop))

def watchOk (ws : List Nat) (ctx : Ctx) (H : Hp) : Prop :=
  match ws with
  | [] => True
  | _ => ∀ k ∈ ws, ∀ p, (k, p) ∈ ctx → p H

def wOps (P : Program) (G base : Nat) (Q : T V → Hp → Prop) : List SOper → Ctx → T V → Hp → Prop
  | [], _, F, H => Q F H
  | o :: r, ctx, F, H =>
    if wantedA o.guard F then
      match o.op with
      | .p op => match aPure F op with
        | some v => wOps P G base Q r ctx (setO F o.dst v) H
        | none => False
      | .l op => match aLoad F H op with
        | some v => wOps P G base Q r (if o.keep then (o.id, fun H' => aLoad F H' op = some v) :: ctx else ctx) (setO F o.dst v) H
        | none => False
      | .a op => match aAlloc F op with
        | some (bk, g) => match o.aid with
          | none => wOps P G base Q r ctx (setO F o.dst (g H.nx)) (H.push bk)
          | some k => wOps P G base Q r ctx (setO F o.dst (g (base + k))) (H.add (base + k) bk)
        | none => False
      | .e op => match aEff F H op with
        | some (v, H') => watchOk o.watch ctx H' ∧ wOps P G base Q r ctx (setO F o.dst v) H'
        | none => False
      | .cf f args => ACalls P G f (args.map (·.ev F)) H fun v H' => watchOk o.watch ctx H' ∧ wOps P G base Q r ctx (setO F o.dst v) H'
      | .cv x args => match x.ev F with
        | .one (.fn f caps) => isFn P f = true ∧ ACalls P G f (args.map (·.ev F) ++ caps.map ptrV) H fun v H' => watchOk o.watch ctx H' ∧ wOps P G base Q r ctx (setO F o.dst v) H'
        | _ => False
    else wOps P G base Q r ctx (setO F o.dst V.undef) H

def cpOp (P : Program) (G n : Nat) (o : Oper) : Option SOp :=
  match cpPure P G n o with
  | some p => some (.p p)
  | none => match cpLoad P G n o with
    | some p => some (.l p)
    | none => match cpAlloc P G n o with
      | some p => some (.a p)
      | none => match cpEff P G n o with
        | some p => some (.e p)
        | none => match o.op with
          | .call { callee := .value (.func f), args := args, argTypes := _ } => if isFn P f then (cOs G n args.toList).map (.cf f) else none
          | .call { callee := .value (.tmp t), args := args, argTypes := _ } => match cO G n (.tmp t), cOs G n args.toList with
            | some x, some l => some (.cv x l)
            | _, _ => none
          | _ => none

def cGuard (n : Nat) (ops : Array Oper) : Option (Nat × Bool) → Option (Option (Nat × Bool))
  | none => some none
  | some (j, want) => match (ops[j]?).bind (·.dst) with
    | some t => if t < n then some (some (t, want)) else none
    | none => none

def cDst (n : Nat) : Option Tmp → Bool
  | none => true
  | some d => d < n

/-- the abstract operation s stands for the model's operation o of the region ops -/
def Fits (P : Program) (G n : Nat) (ops : Array Oper) (o : Oper) (s : SOper) : Prop :=
  cpOp P G n o = some s.op ∧ s.dst = o.dst ∧ cDst n o.dst = true ∧ cGuard n ops o.guard = some s.guard

section
variable {P : Program} {G n : Nat} {μ : Nat → Pl} {K : Nat → Prop} {H H' : Hp} {w : World} {F : T V} {a : Act}

theorem FRel.mono {μ' : Nat → Pl} {K' : Nat → Prop} {tmps : Array Value} (hF : FRel μ K n F tmps) (hK : ∀ b, K b → K' b) (hμ : ∀ b, K b → μ' b = μ b) : FRel μ' K' n F tmps :=
  ⟨hF.1, fun i hi => (hF.2 i hi).mono hK hμ⟩

theorem FRel.put (hF : FRel μ K n F a.tmps) {d : Option Tmp} (hd : cDst n d = true) {v : V} {x : Value} (hv : RV μ K v x) : FRel μ K n (setO F d v) (a.put d x).tmps := by
  cases d with
  | none => exact hF
  | some d =>
    simp only [cDst, decide_eq_true_eq] at hd
    refine ⟨by simp [Act.put]; exact hF.1, fun i hi => ?_⟩
    simp only [setO, Act.put]
    by_cases e : i = d
    · subst e
      have : i < a.tmps.size := by rw [hF.1]; exact hi
      simp [this, hv]
    · rw [T.get_set_ne _ _ e]
      have h1 := hF.2 i hi
      have : (a.tmps.setIfInBounds d x).getD i Go.undef = a.tmps.getD i Go.undef := by
        simp only [Array.getD_eq_getD_getElem?]
        rw [Array.getElem?_setIfInBounds_ne (fun h => e h.symm)]
      rw [this]
      exact h1

theorem RV.not_bool {v : V} {b : Bool} (h : RV μ K v (.bool b)) : v = .one (.bool b) := by
  cases v with
  | one c =>
    have h' : RC μ K c (.bool b) := h
    cases c <;> simp only [RC] at h'
    all_goals first
      | (injection h' with h'; rw [h'])
      | (obtain ⟨_, _, _, h', _⟩ := h'; cases h')
      | (obtain ⟨_, h'⟩ := h'; cases h')
      | cases h'
  | agg l => obtain ⟨_, h, _⟩ := h; cases h
  | tup l => obtain ⟨_, h, _⟩ := h; cases h

theorem wanted_ok (hF : FRel μ K n F a.tmps) {ops : Array Oper} {o : Oper} {g : Option (Nat × Bool)} (hg : cGuard n ops o.guard = some g) : Region.wanted o (yielded ops a.tmps) = wantedA g F := by
  unfold Region.wanted
  cases hog : o.guard with
  | none => simp only [hog, cGuard, Option.some.injEq] at hg; subst hg; rfl
  | some jw =>
    obtain ⟨j, want⟩ := jw
    simp only [hog, cGuard] at hg
    cases hd : (ops[j]?).bind (·.dst) with
    | none => simp [hd] at hg
    | some t =>
      simp only [hd] at hg
      split at hg
      · rename_i ht
        obtain rfl := Option.some.inj hg
        have hv := hF.2 t ht
        have hts : t < a.tmps.size := by rw [hF.1]; exact ht
        have hget : a.tmps[t]? = some (a.tmps.getD t Go.undef) := by simp [hts]
        simp only [yielded, hd, Option.bind_some, hget, wantedA]
        generalize a.tmps.getD t Go.undef = x at *
        generalize (F.get t).getD V.undef = v at *
        cases x with
        | bool b =>
          rw [hv.not_bool]
          cases b <;> cases want <;> rfl
        | _ =>
          have hnb : ∀ b, v ≠ .one (.bool b) := by
            rintro b rfl
            cases (show _ = Value.bool b from hv)
          cases v with
          | one c => cases c <;> first | rfl | exact absurd rfl (hnb _)
          | agg l => rfl
          | tup l => rfl
      · cases hg

theorem isFn_run {f : FuncId} (h : isFn P f = true) (args : Array Value) (w : World) : (callFunc f args).run P w = .ok (.enter f args) w := by
  unfold isFn at h
  cases hf : P.funcs[f]? with
  | none => simp [hf] at h
  | some fn =>
    simp only [hf, Bool.and_eq_true, bne_iff_ne, ne_eq] at h
    obtain ⟨bd, hb⟩ := Option.isSome_iff_exists.1 h.2
    simp [callFunc, hf, h.1, hb]

/-- what is watched stays when a block is added -/
def CtxSt0 (ctx : Ctx) : Prop := ∀ k p, (k, p) ∈ ctx → ∀ (H : Hp) (b : Nat) (bk : B), H.get b = none → p H → p (H.add b bk)
theorem cell_add {H : Hp} {b i x : Nat} {bk : B} {c : C} (hn : H.get x = none) (h : H.cell b i = some c) : (H.add x bk).cell b i = some c := by
  unfold Hp.cell at h ⊢
  by_cases e : b = x
  · subst e; simp [hn] at h
  · rw [Hp.get_add_ne _ _ e]; exact h
theorem loads_add {H : Hp} {x : Nat} {bk : B} (hn : H.get x = none) : ∀ {m b o : Nat} {l : List C}, H.loads b o m = some l → (H.add x bk).loads b o m = some l
  | 0, _, _, _, h => h
  | m + 1, b, o, l, h => by
    simp only [Hp.loads] at h ⊢
    cases hc : H.cell b o with
    | none => simp [hc] at h
    | some c =>
      simp only [hc] at h
      simp only [cell_add hn hc]
      cases hl : H.loads b (o + 1) m with
      | none => simp [hl] at h
      | some l' => simp only [hl] at h; simp only [loads_add hn hl]; exact h
theorem load_add {F : T V} {H : Hp} {op : LoadOp} {v : V} {x : Nat} {bk : B} (hn : H.get x = none) (h : aLoad F H op = some v) : aLoad F (H.add x bk) op = some v := by
  have hm : ∀ b es, H.get b = some (.mp es) → (H.add x bk).get b = some (.mp es) := fun b es hb => by
    rw [Hp.get_add_ne _ _ (fun e => by subst e; rw [hn] at hb; cases hb)]; exact hb
  cases op with
  | load agg n a =>
    simp only [aLoad] at h ⊢
    split at h
    · cases agg with
      | true =>
        simp only [if_true, Option.map_eq_some_iff] at h ⊢
        obtain ⟨l, hl, rfl⟩ := h
        exact ⟨l, loads_add hn hl, rfl⟩
      | false =>
        simp only [Bool.false_eq_true, if_false, Option.map_eq_some_iff] at h ⊢
        obtain ⟨c, hc, rfl⟩ := h
        exact ⟨c, cell_add hn hc, rfl⟩
    · cases h
  | lookup z ok m k =>
    simp only [aLoad] at h ⊢
    split at h
    · rename_i hk
      rw [if_pos hk]
      split at h
      · exact h
      · rename_i b hb
        split at h
        · rename_i es hes
          simp only [hm _ _ hes]
          exact h
        · cases h
      · cases h
    · cases h
  | mlen m =>
    simp only [aLoad] at h ⊢
    split at h
    · exact h
    · rename_i b hb
      split at h
      · rename_i es hes
        simp only [hm _ _ hes]
        exact h
      · cases h
    · cases h
theorem CtxSt0.of {ctx : Ctx} (h : CtxSt0 ctx) (b : Bool) (i : Nat) (op : LoadOp) (F : T V) (v : V) : CtxSt0 (if b then (i, fun H' => aLoad F H' op = some v) :: ctx else ctx) := by
  intro k p hp
  split at hp
  · rcases List.mem_cons.1 hp with hp | hp
    · injection hp with _ hp
      subst hp
      exact fun H b bk hn hh => load_add hn hh
    · exact h k p hp
  · exact h k p hp

/-- ONE OPERATION. -/
theorem op_ok {ops : Array Oper} {o : Oper} {s : SOper} {r : List SOper} {ctx : Ctx} {base i : Nat} {Q : T V → Hp → Prop} {Q' : Exit → Act → World → Prop} {Kont : Act → World → Prop}
    {μ0 : Nat → Pl} {K0 : Nat → Prop} {H0 : Hp} {w0 : World} (hlt0 : ∀ b bk, H0.get b = some bk → b < H0.nx)
    (ho : ops[i]? = some o) (hfit : Fits P G n ops o s) (hR : Rel G μ K H w) (hF : FRel μ K n F a.tmps) (hFr : Fr μ0 K0 H0 w0 μ K H w)
    (hrs : ∀ k, s.aid = some k → ¬ K (base + k) ∧ base + k < H.nx ∧ H0.nx ≤ base + k)
    (hw : wOps P G base Q (s :: r) ctx F H)
    (hK : ∀ (μ' : Nat → Pl) (K' : Nat → Prop) (F' : T V) (H' : Hp) (a' : Act) (w' : World) (ctx' : Ctx), Rel G μ' K' H' w' → FRel μ' K' n F' a'.tmps → Fr μ0 K0 H0 w0 μ' K' H' w' → a'.defers = a.defers →
      H.nx ≤ H'.nx → (∀ b, b < H.nx → K' b → K b ∨ ∃ k, s.aid = some k ∧ b = base + k) → (∃ v, F' = setO F s.dst v) → (CtxSt0 ctx → CtxSt0 ctx') → wOps P G base Q r ctx' F' H' → Kont a' w') :
    wpOp P ops Q' i Kont a w := by
  obtain ⟨hop, hdst, hd, hgd⟩ := hfit
  have hput : ∀ x, (a.put o.dst x).defers = a.defers := fun x => by cases o.dst <;> rfl
  unfold wpOp
  rw [ho]
  simp only
  rw [wanted_ok hF hgd]
  rw [wOps] at hw
  cases hwa : wantedA s.guard F with
  | false =>
    simp only [hwa, Bool.false_eq_true, if_false] at hw ⊢
    rw [hdst] at hw
    exact hK μ K _ H _ w ctx hR (hF.put hd RV.undef) hFr (hput _) (Nat.le_refl _) (fun b _ h => .inl h) ⟨_, by rw [hdst]⟩ id hw
  | true =>
    simp only [hwa, if_true] at hw ⊢
    left
    unfold Oper.wp
    rw [hdst] at hw
    -- what follows a value
    have val : ∀ (v : V) (x : Value) (ctx' : Ctx), RV μ K v x → (CtxSt0 ctx → CtxSt0 ctx') → wOps P G base Q r ctx' (setO F o.dst v) H → Kont (a.put o.dst x) w := fun v x ctx' hv hcs hw' =>
      hK μ K _ H _ w ctx' hR (hF.put hd hv) hFr (hput _) (Nat.le_refl _) (fun b _ h => .inl h) ⟨v, by rw [hdst]⟩ hcs hw'
    -- what follows a call
    have call : ∀ (f : FuncId) (args : List V) (xs : List Value) (nx : Result Next), All2 (RV μ K) args xs → nx = .ok (.enter f xs.toArray) w →
        ACalls P G f args H (fun v H' => watchOk s.watch ctx H' ∧ wOps P G base Q r ctx (setO F o.dst v) H') → o.upon P a Kont Q' nx := by
      intro f args xs nx ha hnx hc
      subst hnx
      rw [Oper.upon_enter]
      refine (hc μ K w xs hR ha).mono fun e w' he => ?_
      obtain ⟨x, rfl, v, H', μ', K', ⟨_, h1⟩, h2, h3, h4⟩ := he
      exact hK μ' K' _ H' _ w' ctx h3 ((hF.mono h4.kk h4.mu).put hd h2) (hFr.trans hlt0 h4) (hput _) h4.nx (fun b hb h => .inl (h4.knew b hb h)) ⟨v, by rw [hdst]⟩ id h1
    unfold cpOp at hop
    cases hp : cpPure P G n o with
    | some p =>
      simp only [hp, Option.some.injEq] at hop
      rw [← hop] at hw
      simp only at hw
      cases hv : aPure F p with
      | none => simp [hv] at hw
      | some v =>
        simp only [hv] at hw
        obtain ⟨x, hx, hr⟩ := pure_ok (P := P) hR hF hp hv
        rw [hx, Oper.upon_value]
        exact val v x ctx hr id hw
    | none =>
      simp only [hp] at hop
      cases hl : cpLoad P G n o with
      | some p =>
        simp only [hl, Option.some.injEq] at hop
        rw [← hop] at hw
        simp only at hw
        cases hv : aLoad F H p with
        | none => simp [hv] at hw
        | some v =>
          simp only [hv] at hw
          obtain ⟨x, hx, hr⟩ := load_ok (P := P) hR hF hl hv
          rw [hx, Oper.upon_value]
          exact val v x _ hr (fun h => h.of _ _ _ _ _) hw
      | none =>
        simp only [hl] at hop
        cases hal : cpAlloc P G n o with
        | some p =>
          simp only [hal, Option.some.injEq] at hop
          rw [← hop] at hw
          simp only at hw
          cases hv : aAlloc F p with
          | none => simp [hv] at hw
          | some bg =>
            obtain ⟨bk, g⟩ := bg
            simp only [hv] at hw
            obtain ⟨hm, x, obj, sz, hx, hrb, hval⟩ := alloc_ok (P := P) hR hF hal hv
            rw [hx, Oper.upon_value]
            have hnk : ¬ K H.nx := fun h => absurd (hR.lt _ h) (by omega)
            cases hai : s.aid with
            | none =>
              simp only [hai] at hw
              refine hK (fun i => if i = H.nx then ⟨w.heap.size, 0, sz⟩ else μ i) (fun i => K i ∨ i = H.nx) _ (H.push bk) _ { w with heap := w.heap.push obj } ctx (Rel.new hR hnk (by omega) (by omega) hm hrb)
                ((hF.mono (fun _ h => .inl h) (fun b hb => ?_)).put hd (hval H.nx _ _ (.inr rfl) (by simp))) (Fr.new hFr hnk hFr.nx hlt0 (by omega) hm) (hput _) (by simp) (fun b hb h => ?_) ⟨_, by rw [hdst]⟩ id hw
              · have := hR.lt b hb
                rw [if_neg (by omega)]
              · rcases h with h | h
                · exact .inl h
                · omega
            | some k =>
              simp only [hai] at hw
              obtain ⟨r1, r2, r3⟩ := hrs k hai
              refine hK (fun i => if i = base + k then ⟨w.heap.size, 0, sz⟩ else μ i) (fun i => K i ∨ i = base + k) _ (H.add (base + k) bk) _ { w with heap := w.heap.push obj } ctx (Rel.new hR r1 r2 (Nat.le_refl _) hm hrb)
                ((hF.mono (fun _ h => .inl h) (fun b hb => ?_)).put hd (hval (base + k) _ _ (.inr rfl) (by simp))) (Fr.new hFr r1 r3 hlt0 (Nat.le_refl _) hm) (hput _) (by simp) (fun b hb h => ?_) ⟨_, by rw [hdst]⟩ id hw
              · by_cases e : b = base + k
                · subst e; exact absurd hb r1
                · rw [if_neg e]
              · rcases h with h | h
                · exact .inl h
                · exact .inr ⟨k, hai, h⟩
        | none =>
          simp only [hal] at hop
          cases he : cpEff P G n o with
          | some p =>
            simp only [he, Option.some.injEq] at hop
            rw [← hop] at hw
            simp only at hw
            cases hv : aEff F H p with
            | none => simp [hv] at hw
            | some vH =>
              obtain ⟨v, H'⟩ := vH
              simp only [hv] at hw
              obtain ⟨nx, x, w', μ', K', h1, h2, h3, h4, h5⟩ := eff_ok (P := P) hR hF he hv
              have hk := hK μ' K' _ H' _ w' ctx h4 ((hF.mono h5.kk h5.mu).put hd h3) (hFr.trans hlt0 h5) (hput x) h5.nx (fun b hb h => .inl (h5.knew b hb h)) ⟨v, by rw [hdst]⟩ id hw.2
              rw [h1]
              rcases h2 with rfl | ⟨rfl, rfl⟩
              · rw [Oper.upon_value]; exact hk
              · rw [Oper.upon_skip]; exact hk
          | none =>
            simp only [he] at hop
            split at hop
            · rename_i f args ts hoo
              split at hop
              · rename_i hfn
                simp only [Option.map_eq_some_iff] at hop
                obtain ⟨ds, hds, hop⟩ := hop
                rw [← hop] at hw
                refine call f _ (args.toList.map a.eval) _ (cOs_ok hR hF hds) ?_ hw
                have harr : args.map a.eval = (args.toList.map a.eval).toArray := by apply Array.ext'; simp
                have hev : a.eval (.func f) = .func (.func f) #[] #[] := rfl
                simp [execOp, hoo, resolve, hev, Deferred.ofValue, invoke, isFn_run hfn, ← harr]
              · cases hop
            · rename_i t args ts hoo
              split at hop
              · rename_i x l hx hl'
                obtain hop := Option.some.inj hop
                rw [← hop] at hw
                simp only at hw
                have hv := cO_ok hR hF hx
                split at hw
                · rename_i f caps hxe
                  rw [hxe] at hv
                  obtain ⟨hkc, hv'⟩ : (∀ p ∈ caps, K p.1) ∧ a.eval (.tmp t) = .func (.func f) #[] (caps.map fun p => Value.pointer (some ((μ p.1).addr p.2))).toArray := hv
                  refine call f _ (args.toList.map a.eval ++ caps.map fun p => Value.pointer (some ((μ p.1).addr p.2))) _ ((cOs_ok hR hF hl').append ?_) ?_ hw.2
                  · refine All2.mk (by simp) fun j v x hv hx => ?_
                    simp only [List.getElem?_map, Option.map_eq_some_iff] at hv hx
                    obtain ⟨p, hp, rfl⟩ := hv
                    obtain ⟨p', hp', rfl⟩ := hx
                    rw [hp] at hp'
                    obtain rfl := Option.some.inj hp'
                    exact ⟨hkc p (List.mem_of_getElem? hp), rfl⟩
                  · simp [execOp, hoo, resolve, hv', Deferred.ofValue, invoke, isFn_run hw.1]
                · exact hw.elim
              · cases hop
            · cases hop
end
end Go.Ab
