/- Lists of operations, calls, and one operation's agreement with the model's. -/
import Derived.Test.YtodegnniljbflaaDoorAb5
import Derived.RangeFuncSeq
import Derived.RangeFuncCalls
import Derived.RangeFuncLeaves
import Derived.RangeFuncIn
import Derived.LoopIn
import Derived.RangeFuncRecord
import Derived.OrdersIn
set_option linter.unusedVariables false
set_option linter.unusedSimpArgs false
namespace Go.Ab

inductive SOp where
  | p (o : PureOp)
  | l (o : LoadOp)
  | a (o : AllocOp)
  | e (o : EffOp)
  | cf (f : FuncId) (args : List Opd)
  | cv (x : Opd) (args : List Opd)
  /-- not covered: no run comes here -/
  | no

structure SOper where
  id : Nat
  dst : Option Nat
  op : SOp
  guard : Option (Nat × Bool)
  aid : Option Nat
  watch : List Nat
  keep : Bool

def setO (F : T V) (d : Option Nat) (v : V) : T V :=
  match d with
  | some d => F.set d (some v)
  | none => F

def wantedA (g : Option (Nat × Bool)) (F : T V) : Bool :=
  match g with
  | none => true
  | some (t, want) => match (F.get t).getD V.undef with
    | .one (.bool b) => b == want
    | _ => false

/-- a function that a call enters -/
def isFn (P : Program) (f : FuncId) : Bool :=
  match P.funcs[f]? with
  | some fn => fn.name != "runtime.NumGoroutine" && fn.body.isSome
  | none => false

def ptrV (p : Nat × Nat) : V := .one (.ptr p.1 p.2)

/-- WHAT A CALL COMES TO: whatever the world, related to the heap H: it returns, and the value and the world are related to a value and a heap of which R holds. -/
def ACalls (P : Program) (G : Nat) (f : FuncId) (args : List V) (H : Hp) (R : V → Hp → Prop) : Prop :=
  ∀ (μ : Nat → Pl) (K : Nat → Prop) (w : World) (xs : List Value), Rel G μ K H w → All2 (RV μ K) args xs →
    Calls P f xs.toArray w fun e w' => ∃ x, e = .returned x ∧ ∃ v H' μ' K', R v H' ∧ RV μ' K' v x ∧ Rel G μ' K' H' w' ∧ Fr μ K H w μ' K' H' w'

/-- WHAT A CALL OF YIELD COMES TO, b naming the loop's record -/
def AYield (P : Program) (G : Nat) (b : Nat) (args : List V) (H : Hp) (R : V → Hp → Prop) : Prop :=
  ∀ (μ : Nat → Pl) (K : Nat → Prop) (w : World) (xs : List Value), Rel G μ K H w → K b → All2 (RV μ K) args xs →
    YieldAt Fence.wide 0 P (μ b).blk xs.toArray w fun e w' => ∃ x, e = .returned x ∧ ∃ v H' μ' K', R v H' ∧ RV μ' K' v x ∧ Rel G μ' K' H' w' ∧ Fr μ K H w μ' K' H' w'

/-- the fence of an activation's code, and of a round's -/
def fen : Option Nat → Fence
  | none => Fence.wide
  | some l => Fence.wide.inRound l
theorem fen_fn {ρ : Option Nat} {f : FuncId} : (fen ρ).fn f := by cases ρ <;> trivial
theorem fen_round {ρ : Option Nat} : (fen ρ).round = ρ := by cases ρ <;> rfl
theorem fen_depth {ρ : Option Nat} : (fen ρ).depth = none := by cases ρ <;> rfl
theorem fen_room {ρ : Option Nat} {k : Nat} : (fen ρ).room k := fun d hd => by rw [fen_depth] at hd; cases hd
theorem fen_calls {ρ : Option Nat} {n : Nat} {P : Program} {f : FuncId} {args : Array Value} {w : World} {R : Ending → World → Prop} (h : Calls P f args w R) : CallsIn (fen ρ) n P f args w R := by
  cases ρ with
  | none => exact callsIn_wide.2 h
  | some l => exact CallsIn.inRound l (callsIn_wide.2 h)
theorem fen_rounds {ρ : Option Nat} {n : Nat} {P : Program} {l : Nat} {f : FuncId} {tmps : Array Value} {assign body : Code} {w : World} {R : Ending → World → Prop} (h : RoundIn Fence.wide 0 P l f tmps assign body w R) : RoundIn (fen ρ) n P l f tmps assign body w R := by
  cases ρ with
  | none => exact ⟨trivial, fun c cs _ => h.2 c cs (room_wide _)⟩
  | some k => exact ⟨trivial, fun c cs _ => h.2 c cs (room_wide _)⟩

abbrev Ctx := List (Nat × (Hp → Prop))

def watchOk (ws : List Nat) (ctx : Ctx) (H : Hp) : Prop :=
  match ws with
  | [] => True
  | _ => ∀ k ∈ ws, ∀ p, (k, p) ∈ ctx → p H

def wOps (P : Program) (G base : Nat) (Q : T V → Hp → Prop) : List SOper → Ctx → T V → Hp → Prop
  | [], _, F, H => Q F H
  | o :: r, ctx, F, H =>
    if wantedA o.guard F then
      match o.op with
      | .p op => match aPure F op with
        | some v => wOps P G base Q r ctx (setO F o.dst v) H
        | none => False
      | .l op => match aLoad F H op with
        | some v => wOps P G base Q r (if o.keep then (o.id, fun H' => aLoad F H' op = some v) :: ctx else ctx) (setO F o.dst v) H
        | none => False
      | .a op => match aAlloc F op with
        | some (bk, g) => match o.aid with
          | none => wOps P G base Q r ctx (setO F o.dst (g H.nx)) (H.push bk)
          | some k => wOps P G base Q r ctx (setO F o.dst (g (base + k))) (H.add (base + k) bk)
        | none => False
      | .e op => match aEff F H op with
        | some (v, H') => watchOk o.watch ctx H' ∧ wOps P G base Q r ctx (setO F o.dst v) H'
        | none => False
      | .cf f args => ACalls P G f (args.map (·.ev F)) H fun v H' => watchOk o.watch ctx H' ∧ wOps P G base Q r ctx (setO F o.dst v) H'
      | .cv x args => match x.ev F with
        | .one (.fn f caps) => isFn P f = true ∧ ACalls P G f (args.map (·.ev F) ++ caps.map ptrV) H fun v H' => watchOk o.watch ctx H' ∧ wOps P G base Q r ctx (setO F o.dst v) H'
        | .one (.yld b) => AYield P G b (args.map (·.ev F)) H fun v H' => watchOk o.watch ctx H' ∧ wOps P G base Q r ctx (setO F o.dst v) H'
        | _ => False
      | .no => False
    else wOps P G base Q r ctx (setO F o.dst V.undef) H

def cpOp0 (P : Program) (G n : Nat) (o : Oper) : Option SOp :=
  match cpPure P G n o with
  | some p => some (.p p)
  | none => match cpLoad P G n o with
    | some p => some (.l p)
    | none => match cpAlloc P G n o with
      | some p => some (.a p)
      | none => match cpEff P G n o with
        | some p => some (.e p)
        | none => match o.op with
          | .call { callee := .value (.func f), args := args, argTypes := _ } => if isFn P f then (cOs G n args.toList).map (.cf f) else none
          | .call { callee := .value (.tmp t), args := args, argTypes := _ } => match cO G n (.tmp t), cOs G n args.toList with
            | some x, some l => some (.cv x l)
            | _, _ => none
          | _ => none

def cpOp (P : Program) (G n : Nat) (o : Oper) : Option SOp := match cpOp0 P G n o with
  | some op => some op
  | none => some .no

def cGuard (n : Nat) (ops : Array Oper) : Option (Nat × Bool) → Option (Option (Nat × Bool))
  | none => some none
  | some (j, want) => match (ops[j]?).bind (·.dst) with
    | some t => if t < n then some (some (t, want)) else none
    | none => none

def cDst (n : Nat) : Option Tmp → Bool
  | none => true
  | some d => d < n

/-- the abstract operation s stands for the model's operation o of the region ops -/
def Fits (P : Program) (G n : Nat) (ops : Array Oper) (o : Oper) (s : SOper) : Prop :=
  cpOp P G n o = some s.op ∧ s.dst = o.dst ∧ cDst n o.dst = true ∧ cGuard n ops o.guard = some s.guard

section
variable {P : Program} {G n : Nat} {μ : Nat → Pl} {K : Nat → Prop} {H H' : Hp} {w : World} {F : T V} {a : Act}

theorem FRel.mono {μ' : Nat → Pl} {K' : Nat → Prop} {tmps : Array Value} (hF : FRel μ K n F tmps) (hK : ∀ b, K b → K' b) (hμ : ∀ b, K b → μ' b = μ b) : FRel μ' K' n F tmps :=
  ⟨hF.1, fun i hi => (hF.2 i hi).mono hK hμ⟩

theorem FRel.put (hF : FRel μ K n F a.tmps) {d : Option Tmp} (hd : cDst n d = true) {v : V} {x : Value} (hv : RV μ K v x) : FRel μ K n (setO F d v) (a.put d x).tmps := by
  cases d with
  | none => exact hF
  | some d =>
    simp only [cDst, decide_eq_true_eq] at hd
    refine ⟨by simp [Act.put]; exact hF.1, fun i hi => ?_⟩
    simp only [setO, Act.put]
    by_cases e : i = d
    · subst e
      have : i < a.tmps.size := by rw [hF.1]; exact hi
      simp [this, hv]
    · rw [T.get_set_ne _ _ e]
      have h1 := hF.2 i hi
      have : (a.tmps.setIfInBounds d x).getD i Go.undef = a.tmps.getD i Go.undef := by
        simp only [Array.getD_eq_getD_getElem?]
        rw [Array.getElem?_setIfInBounds_ne (fun h => e h.symm)]
      rw [this]
      exact h1

theorem RV.not_bool {v : V} {b : Bool} (h : RV μ K v (.bool b)) : v = .one (.bool b) := by
  cases v with
  | one c =>
    have h' : RC μ K c (.bool b) := h
    cases c <;> simp only [RC] at h'
    all_goals first
      | (injection h' with h'; rw [h'])
      | (obtain ⟨_, _, _, h', _⟩ := h'; cases h')
      | (obtain ⟨_, h'⟩ := h'; cases h')
      | cases h'
  | agg l => obtain ⟨_, h, _⟩ := h; cases h
  | tup l => obtain ⟨_, h, _⟩ := h; cases h

theorem wanted_ok (hF : FRel μ K n F a.tmps) {ops : Array Oper} {o : Oper} {g : Option (Nat × Bool)} (hg : cGuard n ops o.guard = some g) : Region.wanted o (yielded ops a.tmps) = wantedA g F := by
  unfold Region.wanted
  cases hog : o.guard with
  | none => simp only [hog, cGuard, Option.some.injEq] at hg; subst hg; rfl
  | some jw =>
    obtain ⟨j, want⟩ := jw
    simp only [hog, cGuard] at hg
    cases hd : (ops[j]?).bind (·.dst) with
    | none => simp [hd] at hg
    | some t =>
      simp only [hd] at hg
      split at hg
      · rename_i ht
        obtain rfl := Option.some.inj hg
        have hv := hF.2 t ht
        have hts : t < a.tmps.size := by rw [hF.1]; exact ht
        have hget : a.tmps[t]? = some (a.tmps.getD t Go.undef) := by simp [hts]
        simp only [yielded, hd, Option.bind_some, hget, wantedA]
        generalize a.tmps.getD t Go.undef = x at *
        generalize (F.get t).getD V.undef = v at *
        cases x with
        | bool b =>
          rw [hv.not_bool]
          cases b <;> cases want <;> rfl
        | _ =>
          have hnb : ∀ b, v ≠ .one (.bool b) := by
            rintro b rfl
            cases (show _ = Value.bool b from hv)
          cases v with
          | one c => cases c <;> first | rfl | exact absurd rfl (hnb _)
          | agg l => rfl
          | tup l => rfl
      · cases hg

theorem isFn_run {f : FuncId} (h : isFn P f = true) (args : Array Value) (w : World) : (callFunc f args).run P w = .ok (.enter f args) w := by
  unfold isFn at h
  cases hf : P.funcs[f]? with
  | none => simp [hf] at h
  | some fn =>
    simp only [hf, Bool.and_eq_true, bne_iff_ne, ne_eq] at h
    obtain ⟨bd, hb⟩ := Option.isSome_iff_exists.1 h.2
    simp [callFunc, hf, h.1, hb]

/-- what is watched stays when a block is added -/
def CtxSt0 (ctx : Ctx) : Prop := ∀ k p, (k, p) ∈ ctx → ∀ (H : Hp) (b : Nat) (bk : B), H.get b = none → p H → p (H.add b bk)
theorem cell_add {H : Hp} {b i x : Nat} {bk : B} {c : C} (hn : H.get x = none) (h : H.cell b i = some c) : (H.add x bk).cell b i = some c := by
  unfold Hp.cell at h ⊢
  by_cases e : b = x
  · subst e; simp [hn] at h
  · rw [Hp.get_add_ne _ _ e]; exact h
theorem loads_add {H : Hp} {x : Nat} {bk : B} (hn : H.get x = none) : ∀ {m b o : Nat} {l : List C}, H.loads b o m = some l → (H.add x bk).loads b o m = some l
  | 0, _, _, _, h => h
  | m + 1, b, o, l, h => by
    simp only [Hp.loads] at h ⊢
    cases hc : H.cell b o with
    | none => simp [hc] at h
    | some c =>
      simp only [hc] at h
      simp only [cell_add hn hc]
      cases hl : H.loads b (o + 1) m with
      | none => simp [hl] at h
      | some l' => simp only [hl] at h; simp only [loads_add hn hl]; exact h
theorem load_add {F : T V} {H : Hp} {op : LoadOp} {v : V} {x : Nat} {bk : B} (hn : H.get x = none) (h : aLoad F H op = some v) : aLoad F (H.add x bk) op = some v := by
  have hm : ∀ b es, H.get b = some (.mp es) → (H.add x bk).get b = some (.mp es) := fun b es hb => by
    rw [Hp.get_add_ne _ _ (fun e => by subst e; rw [hn] at hb; cases hb)]; exact hb
  cases op with
  | load agg n a =>
    simp only [aLoad] at h ⊢
    split at h
    · cases agg with
      | true =>
        simp only [if_true, Option.map_eq_some_iff] at h ⊢
        obtain ⟨l, hl, rfl⟩ := h
        exact ⟨l, loads_add hn hl, rfl⟩
      | false =>
        simp only [Bool.false_eq_true, if_false, Option.map_eq_some_iff] at h ⊢
        obtain ⟨c, hc, rfl⟩ := h
        exact ⟨c, cell_add hn hc, rfl⟩
    · cases h
  | lookup z ok m k =>
    simp only [aLoad] at h ⊢
    split at h
    · rename_i hk
      rw [if_pos hk]
      split at h
      · exact h
      · rename_i b hb
        split at h
        · rename_i es hes
          simp only [hm _ _ hes]
          exact h
        · cases h
      · cases h
    · cases h
  | mlen m =>
    simp only [aLoad] at h ⊢
    split at h
    · exact h
    · rename_i b hb
      split at h
      · rename_i es hes
        simp only [hm _ _ hes]
        exact h
      · cases h
    · cases h
theorem CtxSt0.of {ctx : Ctx} (h : CtxSt0 ctx) (b : Bool) (i : Nat) (op : LoadOp) (F : T V) (v : V) : CtxSt0 (if b then (i, fun H' => aLoad F H' op = some v) :: ctx else ctx) := by
  intro k p hp
  split at hp
  · rcases List.mem_cons.1 hp with hp | hp
    · injection hp with _ hp
      subst hp
      exact fun H b bk hn hh => load_add hn hh
    · exact h k p hp
  · exact h k p hp

/-- ONE OPERATION. -/
theorem cpOp_nodefer {o : Oper} {op : SOp} (h : cpOp0 P G n o = some op) : ∀ c, o.op ≠ .defer c := by
  intro c hc
  simp [cpOp0, cpPure, cpLoad, cpAlloc, cpEff, hc] at h
theorem op_ok {ρ : Option Nat} {nn : Nat} {ops : Array Oper} {o : Oper} {s : SOper} {r : List SOper} {ctx : Ctx} {base i : Nat} {Q : T V → Hp → Prop} {Q' : Exit → Act → World → Prop} {Kont : Act → World → Prop}
    {μ0 : Nat → Pl} {K0 : Nat → Prop} {H0 : Hp} {w0 : World} (hlt0 : ∀ b bk, H0.get b = some bk → b < H0.nx)
    (ho : ops[i]? = some o) (hfit : Fits P G n ops o s) (hR : Rel G μ K H w) (hF : FRel μ K n F a.tmps) (hFr : Fr μ0 K0 H0 w0 μ K H w)
    (hrs : ∀ k, s.aid = some k → ¬ K (base + k) ∧ base + k < H.nx ∧ H0.nx ≤ base + k)
    (hw : wOps P G base Q (s :: r) ctx F H)
    (hK : ∀ (μ' : Nat → Pl) (K' : Nat → Prop) (F' : T V) (H' : Hp) (a' : Act) (w' : World) (ctx' : Ctx), Rel G μ' K' H' w' → FRel μ' K' n F' a'.tmps → Fr μ0 K0 H0 w0 μ' K' H' w' → a'.defers = a.defers →
      H.nx ≤ H'.nx → (∀ b, b < H.nx → K' b → K b ∨ ∃ k, s.aid = some k ∧ b = base + k) → (∃ v, F' = setO F s.dst v) → (CtxSt0 ctx → CtxSt0 ctx') → wOps P G base Q r ctx' F' H' → Kont a' w') :
    wpOpIn (fen ρ) nn P ops Q' i Kont a w := by
  obtain ⟨hop, hdst, hd, hgd⟩ := hfit
  have hput : ∀ x, (a.put o.dst x).defers = a.defers := fun x => by cases o.dst <;> rfl
  unfold wpOpIn
  rw [ho]
  simp only
  rw [wanted_ok hF hgd]
  rw [wOps] at hw
  cases hwa : wantedA s.guard F with
  | false =>
    simp only [hwa, Bool.false_eq_true, if_false] at hw ⊢
    rw [hdst] at hw
    exact ⟨fun _ _ => fen_fn, hK μ K _ H _ w ctx hR (hF.put hd RV.undef) hFr (hput _) (Nat.le_refl _) (fun b _ h => .inl h) ⟨_, by rw [hdst]⟩ id hw⟩
  | true =>
    simp only [hwa, if_true] at hw ⊢
    have hop' : cpOp0 P G n o = some s.op := by
      unfold cpOp at hop
      split at hop
      · rename_i h0; rw [h0]; exact hop
      · obtain hop := Option.some.inj hop
        rw [← hop] at hw
        exact hw.elim
    replace hop := hop'
    unfold Oper.wpIn
    refine ⟨fun _ _ => fen_fn, ?_⟩
    rw [Oper.semAt_eq _ _ _ (cpOp_nodefer hop)]
    rw [hdst] at hw
    -- what follows a value
    have val : ∀ (v : V) (x : Value) (ctx' : Ctx), RV μ K v x → (CtxSt0 ctx → CtxSt0 ctx') → wOps P G base Q r ctx' (setO F o.dst v) H → Kont (a.put o.dst x) w := fun v x ctx' hv hcs hw' =>
      hK μ K _ H _ w ctx' hR (hF.put hd hv) hFr (hput _) (Nat.le_refl _) (fun b _ h => .inl h) ⟨v, by rw [hdst]⟩ hcs hw'
    -- what follows a call
    have call : ∀ (f : FuncId) (args : List V) (xs : List Value) (nx : Result Next), All2 (RV μ K) args xs → nx = .ok (.enter f xs.toArray) w →
        ACalls P G f args H (fun v H' => watchOk s.watch ctx H' ∧ wOps P G base Q r ctx (setO F o.dst v) H') → o.uponIn (fen ρ) nn P a Kont Q' nx := by
      intro f args xs nx ha hnx hc
      subst hnx
      rw [Oper.uponIn_enter]
      refine ⟨fun h => (by rw [fen_depth] at h; cases h), fen_calls ((hc μ K w xs hR ha).mono fun e w' he => ?_)⟩
      obtain ⟨x, rfl, v, H', μ', K', ⟨_, h1⟩, h2, h3, h4⟩ := he
      exact hK μ' K' _ H' _ w' ctx h3 ((hF.mono h4.kk h4.mu).put hd h2) (hFr.trans hlt0 h4) (hput _) h4.nx (fun b hb h => .inl (h4.knew b hb h)) ⟨v, by rw [hdst]⟩ id h1
    unfold cpOp0 at hop
    cases hp : cpPure P G n o with
    | some p =>
      simp only [hp, Option.some.injEq] at hop
      rw [← hop] at hw
      simp only at hw
      cases hv : aPure F p with
      | none => simp [hv] at hw
      | some v =>
        simp only [hv] at hw
        obtain ⟨x, hx, hr⟩ := pure_ok (P := P) hR hF hp hv
        rw [hx, Oper.uponIn_value]
        exact val v x ctx hr id hw
    | none =>
      simp only [hp] at hop
      cases hl : cpLoad P G n o with
      | some p =>
        simp only [hl, Option.some.injEq] at hop
        rw [← hop] at hw
        simp only at hw
        cases hv : aLoad F H p with
        | none => simp [hv] at hw
        | some v =>
          simp only [hv] at hw
          obtain ⟨x, hx, hr⟩ := load_ok (P := P) hR hF hl hv
          rw [hx, Oper.uponIn_value]
          exact val v x _ hr (fun h => h.of _ _ _ _ _) hw
      | none =>
        simp only [hl] at hop
        cases hal : cpAlloc P G n o with
        | some p =>
          simp only [hal, Option.some.injEq] at hop
          rw [← hop] at hw
          simp only at hw
          cases hv : aAlloc F p with
          | none => simp [hv] at hw
          | some bg =>
            obtain ⟨bk, g⟩ := bg
            simp only [hv] at hw
            obtain ⟨hm, x, obj, sz, hx, hrb, hval⟩ := alloc_ok (P := P) hR hF hal hv
            rw [hx, Oper.uponIn_value]
            have hnk : ¬ K H.nx := fun h => absurd (hR.lt _ h) (by omega)
            cases hai : s.aid with
            | none =>
              simp only [hai] at hw
              refine hK (fun i => if i = H.nx then ⟨w.heap.size, 0, sz⟩ else μ i) (fun i => K i ∨ i = H.nx) _ (H.push bk) _ { w with heap := w.heap.push obj } ctx (Rel.new hR hnk (by omega) (by omega) hm hrb)
                ((hF.mono (fun _ h => .inl h) (fun b hb => ?_)).put hd (hval H.nx _ _ (.inr rfl) (by simp))) (Fr.new hFr hnk hFr.nx hlt0 (by omega) hm) (hput _) (by simp) (fun b hb h => ?_) ⟨_, by rw [hdst]⟩ id hw
              · have := hR.lt b hb
                rw [if_neg (by omega)]
              · rcases h with h | h
                · exact .inl h
                · omega
            | some k =>
              simp only [hai] at hw
              obtain ⟨r1, r2, r3⟩ := hrs k hai
              refine hK (fun i => if i = base + k then ⟨w.heap.size, 0, sz⟩ else μ i) (fun i => K i ∨ i = base + k) _ (H.add (base + k) bk) _ { w with heap := w.heap.push obj } ctx (Rel.new hR r1 r2 (Nat.le_refl _) hm hrb)
                ((hF.mono (fun _ h => .inl h) (fun b hb => ?_)).put hd (hval (base + k) _ _ (.inr rfl) (by simp))) (Fr.new hFr r1 r3 hlt0 (Nat.le_refl _) hm) (hput _) (by simp) (fun b hb h => ?_) ⟨_, by rw [hdst]⟩ id hw
              · by_cases e : b = base + k
                · subst e; exact absurd hb r1
                · rw [if_neg e]
              · rcases h with h | h
                · exact .inl h
                · exact .inr ⟨k, hai, h⟩
        | none =>
          simp only [hal] at hop
          cases he : cpEff P G n o with
          | some p =>
            simp only [he, Option.some.injEq] at hop
            rw [← hop] at hw
            simp only at hw
            cases hv : aEff F H p with
            | none => simp [hv] at hw
            | some vH =>
              obtain ⟨v, H'⟩ := vH
              simp only [hv] at hw
              obtain ⟨nx, x, w', μ', K', h1, h2, h3, h4, h5⟩ := eff_ok (P := P) hR hF he hv
              have hk := hK μ' K' _ H' _ w' ctx h4 ((hF.mono h5.kk h5.mu).put hd h3) (hFr.trans hlt0 h5) (hput x) h5.nx (fun b hb h => .inl (h5.knew b hb h)) ⟨v, by rw [hdst]⟩ id hw.2
              rw [h1]
              rcases h2 with rfl | ⟨rfl, rfl⟩
              · rw [Oper.uponIn_value]; exact hk
              · rw [Oper.uponIn_skip]; exact hk
          | none =>
            simp only [he] at hop
            split at hop
            · rename_i f args ts hoo
              split at hop
              · rename_i hfn
                simp only [Option.map_eq_some_iff] at hop
                obtain ⟨ds, hds, hop⟩ := hop
                rw [← hop] at hw
                refine call f _ (args.toList.map a.eval) _ (cOs_ok hR hF hds) ?_ hw
                have harr : args.map a.eval = (args.toList.map a.eval).toArray := by apply Array.ext'; simp
                have hev : a.eval (.func f) = .func (.func f) #[] #[] := rfl
                simp [execOp, hoo, resolve, hev, Deferred.ofValue, invoke, isFn_run hfn, ← harr]
              · cases hop
            · rename_i t args ts hoo
              split at hop
              · rename_i x l hx hl'
                obtain hop := Option.some.inj hop
                rw [← hop] at hw
                simp only at hw
                have hv := cO_ok hR hF hx
                split at hw
                · rename_i f caps hxe
                  rw [hxe] at hv
                  obtain ⟨hkc, hv'⟩ : (∀ p ∈ caps, K p.1) ∧ a.eval (.tmp t) = .func (.func f) #[] (caps.map fun p => Value.pointer (some ((μ p.1).addr p.2))).toArray := hv
                  refine call f _ (args.toList.map a.eval ++ caps.map fun p => Value.pointer (some ((μ p.1).addr p.2))) _ ((cOs_ok hR hF hl').append ?_) ?_ hw.2
                  · refine All2.mk (by simp) fun j v x hv hx => ?_
                    simp only [List.getElem?_map, Option.map_eq_some_iff] at hv hx
                    obtain ⟨p, hp, rfl⟩ := hv
                    obtain ⟨p', hp', rfl⟩ := hx
                    rw [hp] at hp'
                    obtain rfl := Option.some.inj hp'
                    exact ⟨hkc p (List.mem_of_getElem? hp), rfl⟩
                  · simp [execOp, hoo, resolve, hv', Deferred.ofValue, invoke, isFn_run hw.1]
                · rename_i b hxe
                  rw [hxe] at hv
                  obtain ⟨hkb, hv'⟩ : K b ∧ a.eval (.tmp t) = .func (.yield (μ b).blk) #[] #[] := hv
                  obtain ⟨fn, tmps, assign, body, hy, hr⟩ := hw μ K w (args.toList.map a.eval) hR hkb (cOs_ok hR hF hl')
                  have harr : args.map a.eval = (args.toList.map a.eval).toArray := by apply Array.ext'; simp
                  have hex : (execOp a.eval o).run P w = .ok (.round (μ b).blk fn tmps assign body) w := by
                    simp only [← harr] at hy
                    simp [execOp, hoo, resolve, hv', Deferred.ofValue, invoke, hy]
                  rw [hex, Oper.uponIn_round]
                  refine ⟨fun h => (by rw [fen_depth] at h; cases h), fen_rounds (hr.mono fun e w' he => ?_)⟩
                  obtain ⟨x, rfl, v, H', μ', K', ⟨_, h1⟩, h2, h3, h4⟩ := he
                  exact hK μ' K' _ H' _ w' ctx h3 ((hF.mono h4.kk h4.mu).put hd h2) (hFr.trans hlt0 h4) (hput _) h4.nx (fun b hb h => .inl (h4.knew b hb h)) ⟨v, by rw [hdst]⟩ id h1
                · exact hw.elim
              · cases hop
            · cases hop
end
end Go.Ab

/- Regions whose order is fixed; the rules for code and functions. -/
namespace Go.Ab

/-- the indices idx and the abstract operations l name the same operations -/
def Aligned (P : Program) (G n : Nat) (ops : Array Oper) : List Nat → List SOper → Prop
  | [], [] => True
  | i :: idx, s :: l => (∃ o, ops[i]? = some o ∧ Fits P G n ops o s) ∧ Aligned P G n ops idx l
  | _, _ => False

section
variable {P : Program} {G n : Nat} {ρ : Option Nat}

/-- deferred calls: nothing but the marks of ranges over functions, all made behind s -/
def Dok (s : Nat) (D : List Deferred) (w : World) : Prop := s ≤ w.heap.size ∧ D.Nodup ∧ ∀ d ∈ D, ∃ r, d = { target := .collected r, args := #[] } ∧ s ≤ r ∧ w.heap[r]? = some (.deferred (some []))
theorem Dok.nil {s : Nat} (w : World) (h : s ≤ w.heap.size) : Dok s [] w := ⟨h, List.nodup_nil, fun d hd => by cases hd⟩
theorem kept_def {μ μ' : Nat → Pl} {K K' : Nat → Prop} {H H' : Hp} {w w' : World} (hR : Rel G μ K H w) (h : Fr μ K H w μ' K' H' w') {r : Nat} (hr : w.heap[r]? = some (.deferred (some []))) : w'.heap[r]? = some (.deferred (some [])) := by
  rw [h.keep r (Array.getElem?_eq_some_iff.1 hr).1 fun b bk hb _ e => ?_]
  · exact hr
  · have hB := hR.blk b bk hb
    rw [e, hr] at hB
    cases bk with
    | row n z m rw => obtain ⟨_, _, _, h, _⟩ := hB; cases h
    | mp es => obtain ⟨_, _, h, _⟩ := hB; cases h
    | lp st j f n F ps sg bd => obtain ⟨_, _, h, _⟩ := hB; cases h
theorem Dok.fr {s : Nat} {D : List Deferred} {μ μ' : Nat → Pl} {K K' : Nat → Prop} {H H' : Hp} {w w' : World} (hR : Rel G μ K H w) (h : Fr μ K H w μ' K' H' w') (hd : Dok s D w) : Dok s D w' := ⟨Nat.le_trans hd.1 h.size, hd.2.1, fun d hx => by
  obtain ⟨r, h1, h3, h2⟩ := hd.2.2 d hx
  exact ⟨r, h1, h3, kept_def hR h h2⟩⟩

/-- where a piece of code may end, and how it stands to its beginning -/
def Ends (G n s : Nat) (μ0 : Nat → Pl) (K0 : Nat → Prop) (H0 : Hp) (w0 : World) (Q : Exit → T V → Hp → Prop) (e : Exit) (a : Act) (w : World) : Prop :=
  Dok s a.defers w ∧ ∃ F H μ K, Q e F H ∧ Rel G μ K H w ∧ FRel μ K n F a.tmps ∧ Fr μ0 K0 H0 w0 μ K H w

/-- operations in a fixed order -/
theorem ord_ok {nn : Nat} {D : List Deferred} {ops : Array Oper} {Q : T V → Hp → Prop} {base : Nat} {μ0 : Nat → Pl} {K0 : Nat → Prop} {H0 : Hp} {w0 : World} (hlt0 : ∀ b bk, H0.get b = some bk → b < H0.nx) {Q' : Exit → Act → World → Prop}
    (hQ : ∀ μ K F H a w, Q F H → Rel G μ K H w → FRel μ K n F a.tmps → Fr μ0 K0 H0 w0 μ K H w → a.defers = D → Q' .normal a w) :
    ∀ {l : List SOper} {idx : List Nat} {ctx : Ctx} {F : T V} {H : Hp} {μ : Nat → Pl} {K : Nat → Prop} {a : Act} {w : World}, Aligned P G n ops idx l → (∀ s ∈ l, s.aid = none) → Rel G μ K H w → FRel μ K n F a.tmps → Fr μ0 K0 H0 w0 μ K H w → a.defers = D →
      wOps P G base Q l ctx F H → wpOpsIn (fen ρ) nn P ops Q' idx a w
  | [], [], ctx, F, H, μ, K, a, w, _, _, hR, hF, hFr, hd, hw => by
    simp only [wpOpsIn]
    exact hQ μ K F H a w hw hR hF hFr hd
  | s :: l, i :: idx, ctx, F, H, μ, K, a, w, hal, hai, hR, hF, hFr, hd, hw => by
    obtain ⟨⟨o, ho, hfit⟩, hal'⟩ := hal
    rw [wpOpsIn_cons]
    refine op_ok hlt0 ho hfit hR hF hFr (fun k hk => by rw [hai s (by simp)] at hk; cases hk) hw fun μ' K' F' H' a' w' ctx' h1 h2 h3 h4 _ _ _ _ h6 => ?_
    exact ord_ok hlt0 hQ hal' (fun t ht => hai t (by simp [ht])) h1 h2 h3 (h4.trans hd) h6
  | [], _ :: _, _, _, _, _, _, _, _, h, _, _, _, _, _, _ => h.elim
  | _ :: _, [], _, _, _, _, _, _, _, h, _, _, _, _, _, _ => h.elim

/-- WHAT CODE COMES TO: whatever the world, related to F and H, it ends as Q says. -/
def AWPr (ρ : Option Nat) (P : Program) (G n : Nat) (c : Code) (Q : Exit → T V → Hp → Prop) (F : T V) (H : Hp) : Prop :=
  ∀ (s : Nat) (μ : Nat → Pl) (K : Nat → Prop) (w : World) (a : Act), Rel G μ K H w → FRel μ K n F a.tmps → Dok s a.defers w → c.wpIn (fen ρ) 0 P (Ends G n s μ K H w Q) a w
abbrev AWP := AWPr none

/-- a region whose order is fixed -/
theorem awp_region {id : Nat} {ops : Array Oper} {l : List SOper} {Q : Exit → T V → Hp → Prop} {F : T V} {H : Hp} (hal : Aligned P G n ops (List.range ops.size) l) (hai : ∀ s ∈ l, s.aid = none)
    (h : wOps P G H.nx (Q .normal) l [] F H) : AWPr ρ P G n (.region id ops false) Q F H := by
  intro s μ K w a hR hF hd
  refine wpIn_region (ord_ok (Q := Q .normal) (D := a.defers) hR.lt' (fun μ' K' F' H' a' w' h1 h2 h3 h4 h5 => ⟨by rw [h5]; exact hd.fr hR h4, F', H', μ', K', h1, h2, h3, h4⟩) hal hai hR hF (Fr.refl hR) rfl h)

theorem awp_skip {Q : Exit → T V → Hp → Prop} {F : T V} {H : Hp} (h : Q .normal F H) : AWPr ρ P G n .skip Q F H :=
  fun _ _ _ _ _ hR hF hd => wpIn_skip ⟨hd, F, H, _, _, h, hR, hF, Fr.refl hR⟩
theorem awp_exit {Q : Exit → T V → Hp → Prop} {F : T V} {H : Hp} {id : Nat} (h : Q (.exit id) F H) : AWPr ρ P G n (.exit id) Q F H :=
  fun _ _ _ _ _ hR hF hd => wpIn_exit ⟨hd, F, H, _, _, h, hR, hF, Fr.refl hR⟩
theorem awp_ret {Q : Exit → T V → Hp → Prop} {F : T V} {H : Hp} (h : Q .ret F H) : AWPr ρ P G n .ret Q F H :=
  fun _ _ _ _ _ hR hF hd => wpIn_ret ⟨hd, F, H, _, _, h, hR, hF, Fr.refl hR⟩

def thenQ (next : T V → Hp → Prop) (Q : Exit → T V → Hp → Prop) : Exit → T V → Hp → Prop
  | .normal, F, H => next F H
  | e, F, H => Q e F H

theorem ends_trans {s : Nat} {μ0 : Nat → Pl} {K0 : Nat → Prop} {H0 : Hp} {w0 : World} {μ : Nat → Pl} {K : Nat → Prop} {H : Hp} {w : World} (hlt : ∀ b bk, H0.get b = some bk → b < H0.nx) (hFr : Fr μ0 K0 H0 w0 μ K H w) {Q : Exit → T V → Hp → Prop} {e : Exit} {a : Act} {w' : World}
    (h : Ends G n s μ K H w Q e a w') : Ends G n s μ0 K0 H0 w0 Q e a w' := by
  obtain ⟨hd, F, H', μ', K', h1, h2, h3, h4⟩ := h
  exact ⟨hd, F, H', μ', K', h1, h2, h3, hFr.trans hlt h4⟩

theorem awp_seq {x y : Code} {Q : Exit → T V → Hp → Prop} {F : T V} {H : Hp} (h : AWPr ρ P G n x (thenQ (AWPr ρ P G n y Q) Q) F H) : AWPr ρ P G n (.seq x y) Q F H := by
  intro s μ K w a hR hF hd
  refine wpIn_seq (wpIn_mono (h s μ K w a hR hF hd) fun e a' w' he => ?_)
  obtain ⟨hd', F', H', μ', K', h1, h2, h3, h4⟩ := he
  cases e with
  | normal => exact wpIn_mono (h1 s μ' K' w' a' h2 h3 hd') fun e a'' w'' he => ends_trans hR.lt' h4 he
  | exit id => exact ⟨hd', F', H', μ', K', h1, h2, h3, h4⟩
  | goto l => exact ⟨hd', F', H', μ', K', h1, h2, h3, h4⟩
  | ret => exact ⟨hd', F', H', μ', K', h1, h2, h3, h4⟩
  | panic ch => exact ⟨hd', F', H', μ', K', h1, h2, h3, h4⟩
  | outgrown => exact ⟨hd', F', H', μ', K', h1, h2, h3, h4⟩

theorem awp_cond {c : Operand} {d : Opd} {x y : Code} {Q : Exit → T V → Hp → Prop} {F : T V} {H : Hp} {t : Bool} (hc : cO G n c = some d) (ht : d.ev F = .one (.bool t)) (h : AWPr ρ P G n (if t then x else y) Q F H) : AWPr ρ P G n (.cond c x y) Q F H := by
  intro s μ K w a hR hF hd
  have hv := cO_ok hR hF hc
  rw [ht] at hv
  exact wpIn_cond (t := t) hv (h s μ K w a hR hF hd)

def blockQ (id : Nat) (Q : Exit → T V → Hp → Prop) : Exit → T V → Hp → Prop
  | .exit id', F, H => if id' = id then Q .normal F H else Q (.exit id') F H
  | e, F, H => Q e F H

theorem awp_block {id : Nat} {c : Code} {Q : Exit → T V → Hp → Prop} {F : T V} {H : Hp} (h : AWPr ρ P G n c (blockQ id Q) F H) : AWPr ρ P G n (.block id c) Q F H := by
  intro s μ K w a hR hF hd
  refine wpIn_block (wpIn_mono (h s μ K w a hR hF hd) fun e a' w' he => ?_)
  obtain ⟨hd', F', H', μ', K', h1, h2, h3, h4⟩ := he
  cases e with
  | exit id' =>
    simp only [blockQ] at h1
    simp only [Exit.inBlock]
    split
    · rename_i e; rw [if_pos e] at h1; exact ⟨hd', F', H', μ', K', h1, h2, h3, h4⟩
    · rename_i e; rw [if_neg e] at h1; exact ⟨hd', F', H', μ', K', h1, h2, h3, h4⟩
  | normal => exact ⟨hd', F', H', μ', K', h1, h2, h3, h4⟩
  | goto l => exact ⟨hd', F', H', μ', K', h1, h2, h3, h4⟩
  | ret => exact ⟨hd', F', H', μ', K', h1, h2, h3, h4⟩
  | panic ch => exact ⟨hd', F', H', μ', K', h1, h2, h3, h4⟩
  | outgrown => exact ⟨hd', F', H', μ', K', h1, h2, h3, h4⟩

/-- a loop: an invariant with a measure -/
theorem awp_loop {c : Code} {Q : Exit → T V → Hp → Prop} {F : T V} {H : Hp} (I : Nat → T V → Hp → Prop) {m : Nat} (h0 : I m F H) (round : ∀ m F H, I m F H → AWPr ρ P G n c (thenQ (fun F' H' => ∃ m', m' < m ∧ I m' F' H') Q) F H) : AWPr ρ P G n (.loop c) Q F H := by
  intro s μ K w a hR hF hd
  let J : Nat → Act → World → Prop := fun m a' w' => Dok s a'.defers w' ∧ ∃ F' H' μ' K', I m F' H' ∧ Rel G μ' K' H' w' ∧ FRel μ' K' n F' a'.tmps ∧ Fr μ K H w μ' K' H' w'
  have main : ∀ m a' w', J m a' w' → ∀ (b : Frame) (k : List Item) (cs : List Frame), b.roundOf = (fen ρ).round → ∃ e a'' w'', Ends G n s μ K H w Q e a'' w'' ∧ ArrivesIn (Machine.fenced P (fen ρ)) P (lone (b.atR a' (.code c :: .inLoop c :: k)) cs w') b k cs e a'' w'' := by
    intro m
    induction m using Nat.strongRecOn with
    | _ m ih =>
      intro a' w' hJ b k cs hro
      obtain ⟨hd', F', H', μ', K', h1, h2, h3, h4⟩ := hJ
      obtain ⟨e, a1, w1, hq, harr⟩ := round m F' H' h1 s μ' K' w' a' h2 h3 hd' b (.inLoop c :: k) cs hro fen_fn fen_room
      obtain ⟨hd1, F1, H1, μ1, K1, g1, g2, g3, g4⟩ := hq
      cases e with
      | normal =>
        obtain ⟨m', hm', hI⟩ := g1
        obtain ⟨e2, a2, w2, hq2, harr2⟩ := ih m' hm' a1 w1 ⟨hd1, F1, H1, μ1, K1, hI, g2, g3, h4.trans hR.lt' g4⟩ b k cs hro
        exact ⟨e2, a2, w2, hq2, .of_steps (StepsIn.trans harr (.one (fenced_calm (n := 0) fen_fn fen_room rfl) stepR_inLoop)) harr2⟩
      | exit id => exact ⟨_, a1, w1, ⟨hd1, F1, H1, μ1, K1, g1, g2, g3, h4.trans hR.lt' g4⟩, .pass (x := .inLoop c) rfl (fun _ _ => .inl (by simp)) harr⟩
      | goto l => exact ⟨_, a1, w1, ⟨hd1, F1, H1, μ1, K1, g1, g2, g3, h4.trans hR.lt' g4⟩, .pass (x := .inLoop c) rfl (fun _ _ => .inl (by simp)) harr⟩
      | ret => exact ⟨_, a1, w1, ⟨hd1, F1, H1, μ1, K1, g1, g2, g3, h4.trans hR.lt' g4⟩, .pass (x := .inLoop c) rfl (fun _ _ => .inl (by simp)) harr⟩
      | panic ch => exact ⟨_, a1, w1, ⟨hd1, F1, H1, μ1, K1, g1, g2, g3, h4.trans hR.lt' g4⟩, .pass (x := .inLoop c) rfl (fun _ _ => .inl (by simp)) harr⟩
      | outgrown => exact ⟨_, a1, w1, ⟨hd1, F1, H1, μ1, K1, g1, g2, g3, h4.trans hR.lt' g4⟩, .pass (x := .inLoop c) rfl (fun _ _ => .inl (by simp)) harr⟩
  intro b k cs hro _ _
  obtain ⟨e, a', w', hq, harr⟩ := main m a w ⟨hd, F, H, μ, K, h0, hR, hF, Fr.refl hR⟩ b k cs hro
  exact ⟨e, a', w', hq, .of_steps (.one (fenced_calm (n := 0) fen_fn fen_room rfl) stepR_loop) harr⟩

section
variable {b : Frame} {a : Act} {k : List Item} {cs : List Frame} {w : World} {Q : Exit → Act → World → Prop} {F : Fence} {m : Nat}
theorem stepR_scope {c : Code} : step P (lone (b.atR a (.code (.scope c) :: k)) cs w) = .next (lone (b.atR a (.code c :: .inScope c :: k)) cs w) :=
  step_lone_go (by simp [stepG, stepG.exec, Frame.atR])
theorem stepR_inScope {c : Code} : step P (lone (b.atR a (.inScope c :: k)) cs w) = .next (lone (b.atR a k) cs w) :=
  step_lone_go (by simp [stepG, stepG.exec, Frame.atR])
def noGo (Q : Exit → Act → World → Prop) : Exit → Act → World → Prop
  | .goto _, _, _ => False
  | e, a, w => Q e a w
theorem wpIn_scope {c : Code} (h : c.wpIn F m P (noGo Q) a w) : (Code.scope c).wpIn F m P Q a w := by
  intro b k cs hro hb hr
  have h0 : (lone (b.atR a (.code (.scope c) :: k)) cs w).fenced P F := fenced_calm hb hr rfl
  obtain ⟨e, a₁, w₁, hq, harr⟩ := h b (.inScope c :: k) cs hro hb hr
  cases e with
  | normal => exact ⟨.normal, a₁, w₁, hq, .of_steps (.one h0 stepR_scope) (StepsIn.trans harr (.one (fenced_calm hb hr rfl) stepR_inScope))⟩
  | exit id => exact ⟨.exit id, a₁, w₁, hq, .of_steps (.one h0 stepR_scope) ⟨fun k' hk => harr.1 k' (by simpa [exitTo] using hk), fun hr hk => harr.2 hr (by simpa [exitTo] using hk)⟩⟩
  | goto l => exact hq.elim
  | ret => exact ⟨.ret, a₁, w₁, hq, .of_steps (.one h0 stepR_scope) harr⟩
  | panic ch => exact ⟨.panic ch, a₁, w₁, hq, .of_steps (.one h0 stepR_scope) harr⟩
  | outgrown => exact ⟨.outgrown, a₁, w₁, hq, .of_steps (.one h0 stepR_scope) harr⟩
end

def scopeQ (Q : Exit → T V → Hp → Prop) : Exit → T V → Hp → Prop
  | .goto _, _, _ => False
  | e, F, H => Q e F H
/-- a scope into which nothing jumps -/
theorem awp_scope {c : Code} {Q : Exit → T V → Hp → Prop} {F : T V} {H : Hp} (h : AWPr ρ P G n c (scopeQ Q) F H) : AWPr ρ P G n (.scope c) Q F H := by
  intro s μ K w a hR hF hd
  refine wpIn_scope (wpIn_mono (h s μ K w a hR hF hd) fun e a' w' he => ?_)
  obtain ⟨hd', F', H', μ', K', h1, h2, h3, h4⟩ := he
  cases e with
  | goto l => exact h1.elim
  | exit id => exact ⟨hd', F', H', μ', K', h1, h2, h3, h4⟩
  | normal => exact ⟨hd', F', H', μ', K', h1, h2, h3, h4⟩
  | ret => exact ⟨hd', F', H', μ', K', h1, h2, h3, h4⟩
  | panic ch => exact ⟨hd', F', H', μ', K', h1, h2, h3, h4⟩
  | outgrown => exact ⟨hd', F', H', μ', K', h1, h2, h3, h4⟩
theorem awp_label {l : Nat} {Q : Exit → T V → Hp → Prop} {F : T V} {H : Hp} (h : Q .normal F H) : AWPr ρ P G n (.label l) Q F H :=
  fun _ _ _ _ _ hR hF hd => wpIn_label ⟨hd, F, H, _, _, h, hR, hF, Fr.refl hR⟩

theorem awp_mono {c : Code} {Q Q' : Exit → T V → Hp → Prop} {F : T V} {H : Hp} (h : AWPr ρ P G n c Q F H) (hq : ∀ e F H, Q e F H → Q' e F H) : AWPr ρ P G n c Q' F H :=
  fun s μ K w a hR hF hd => wpIn_mono (h s μ K w a hR hF hd) fun _ _ _ ⟨hd', F', H', μ', K', h1, h2⟩ => ⟨hd', F', H', μ', K', hq _ _ _ h1, h2⟩

end
end Go.Ab

/- Operations whose order is open: two neighbours may be exchanged. -/
namespace Go.Ab

def Opd.tm : Opd → List Nat
  | .t n => [n]
  | .c _ => []
def otm : Option Opd → List Nat
  | some x => x.tm
  | none => []
def ltm (l : List Opd) : List Nat := l.flatMap Opd.tm
def ptm (l : List (Nat × Nat × Opd)) : List Nat := l.flatMap fun p => p.2.2.tm

def PureOp.tm : PureOp → List Nat
  | .mv x | .nilck x | .neg x | .not x | .conv _ x | .faddr _ x | .field _ _ _ x | .extract x _ | .len x | .nileq _ x | .slen x | .cap x => x.tm
  | .pick c a b => c.tm ++ a.tm ++ b.tm
  | .build _ ps => ptm ps
  | .bin _ x y | .beq _ x y | .eqs _ _ x y | .iaddr _ x y | .aaddr _ _ x y | .aindex _ _ _ x y | .mm _ x y | .sindex x y => x.tm ++ y.tm
  | .mkfn _ l => ltm l
  | .slice _ x lo hi mx => x.tm ++ otm lo ++ otm hi ++ otm mx
  | .sslice x lo hi => x.tm ++ otm lo ++ otm hi
  | .cint _ => []
def LoadOp.tm : LoadOp → List Nat
  | .load _ _ a => a.tm
  | .lookup _ _ m k => m.tm ++ k.tm
  | .mlen m => m.tm
def AllocOp.tm : AllocOp → List Nat
  | .alloc _ | .mkmap => []
  | .box x => x.tm
  | .bslice _ _ _ ps => ptm ps
  | .mkslice _ _ _ l c => l.tm ++ c.tm
def EffOp.tm : EffOp → List Nat
  | .store _ a x => a.tm ++ x.tm
  | .append _ _ s x => s.tm ++ x.tm
  | .copy _ d s => d.tm ++ s.tm
  | .mapupd m k x => m.tm ++ k.tm ++ x.tm
  | .clear _ _ x => x.tm
  | .appendz _ _ _ s x => s.tm ++ x.tm
  | .sbytes x => x.tm
def SOp.tm : SOp → List Nat
  | .p o => o.tm
  | .l o => o.tm
  | .a o => o.tm
  | .e o => o.tm
  | .cf _ args => ltm args
  | .cv x args => x.tm ++ ltm args
  | .no => []
def gtm : Option (Nat × Bool) → List Nat
  | some (t, _) => [t]
  | none => []
def SOper.tm (s : SOper) : List Nat := s.op.tm ++ gtm s.guard

section
variable {F : T V} {d : Nat} {v : Option V}

theorem ev_set {x : Opd} (h : d ∉ x.tm) : x.ev (F.set d v) = x.ev F := by
  cases x with
  | t n => simp only [Opd.tm, List.mem_singleton] at h; simp [Opd.ev, T.get_set_ne _ _ (fun e => h e.symm)]
  | c w => rfl
theorem evs_set : ∀ {l : List Opd}, d ∉ ltm l → l.map (·.ev (F.set d v)) = l.map (·.ev F)
  | [], _ => rfl
  | x :: l, h => by
    simp only [ltm, List.flatMap_cons, List.mem_append, not_or] at h
    simp [ev_set h.1, evs_set h.2]
theorem fill_set : ∀ {ps : List (Nat × Nat × Opd)} {z : List C}, d ∉ ptm ps → fillL (F.set d v) z ps = fillL F z ps
  | [], _, _ => rfl
  | (off, size, x) :: ps, z, h => by
    simp only [ptm, List.flatMap_cons, List.mem_append, not_or] at h
    simp only [fillL, ev_set h.1]
    cases cells1 (x.ev F) with
    | none => rfl
    | some cs => simp only; rw [fill_set h.2]
theorem caps_set : ∀ {l : List Opd}, d ∉ ltm l → capsL (F.set d v) l = capsL F l
  | [], _ => rfl
  | x :: l, h => by
    simp only [ltm, List.flatMap_cons, List.mem_append, not_or] at h
    simp only [capsL, ev_set h.1, caps_set h.2]
theorem bound_set {x : Option Opd} {k y : Nat} (h : d ∉ otm x) : aBound (F.set d v) k y x = aBound F k y x := by
  cases x with
  | none => rfl
  | some x => simp only [otm] at h; simp only [aBound, ev_set h]
theorem slice_set {esz : Nat} {x : V} {lo hi mx : Option Opd} (h1 : d ∉ otm lo) (h2 : d ∉ otm hi) (h3 : d ∉ otm mx) : aSlice (F.set d v) esz x lo hi mx = aSlice F esz x lo hi mx := by
  unfold aSlice
  simp only [bound_set h1, bound_set h2, bound_set h3]

theorem sslice_set {x : V} {lo hi : Option Opd} (h1 : d ∉ otm lo) (h2 : d ∉ otm hi) : aSslice (F.set d v) x lo hi = aSslice F x lo hi := by
  unfold aSslice
  simp only [bound_set h1, bound_set h2]

theorem pure_set {o : PureOp} (h : d ∉ o.tm) : aPure (F.set d v) o = aPure F o := by
  cases o <;> simp only [PureOp.tm, List.mem_append, not_or] at h <;> simp only [aPure]
  all_goals first
    | rw [ev_set h.1.1, sslice_set h.1.2 h.2]
    | rw [ev_set h]
    | rw [fill_set h]
    | rw [caps_set h]
    | rw [ev_set h.1, ev_set h.2]
    | rw [ev_set h.1.1, ev_set h.1.2, ev_set h.2]
    | rw [ev_set h.1.1.1, slice_set h.1.1.2 h.1.2 h.2]
theorem load_set {o : LoadOp} {H : Hp} (h : d ∉ o.tm) : aLoad (F.set d v) H o = aLoad F H o := by
  cases o <;> simp only [LoadOp.tm, List.mem_append, not_or] at h <;> simp only [aLoad]
  all_goals first
    | rw [ev_set h]
    | rw [ev_set h.1, ev_set h.2]
theorem alloc_set {o : AllocOp} (h : d ∉ o.tm) : aAlloc (F.set d v) o = aAlloc F o := by
  cases o <;> simp only [AllocOp.tm, List.mem_append, not_or] at h <;> simp only [aAlloc]
  all_goals first
    | rw [ev_set h]
    | rw [fill_set h]
    | rw [ev_set h.1, ev_set h.2]
theorem eff_set {o : EffOp} {H : Hp} (h : d ∉ o.tm) : aEff (F.set d v) H o = aEff F H o := by
  cases o <;> simp only [EffOp.tm, List.mem_append, not_or] at h <;> simp only [aEff]
  all_goals first
    | rw [ev_set h]
    | rw [ev_set h.1, ev_set h.2]
    | rw [ev_set h.1.1, ev_set h.1.2, ev_set h.2]
theorem wanted_set {g : Option (Nat × Bool)} (h : d ∉ gtm g) : wantedA g (F.set d v) = wantedA g F := by
  cases g with
  | none => rfl
  | some p => obtain ⟨t, b⟩ := p; simp only [gtm, List.mem_singleton] at h; simp [wantedA, T.get_set_ne _ _ (fun e => h e.symm)]
end

/-- the two operations name no temporary that the other one writes -/
def tmOk (y x : SOper) : Bool :=
  (match y.dst with
   | some d => !(x.tm.contains d) && x.dst != some d
   | none => true) &&
  (match x.dst with
   | some d => !(y.tm.contains d)
   | none => true)

inductive Kd where
  | p | l | a | e | c
def SOp.kd : SOp → Kd
  | .p _ => .p
  | .l _ => .l
  | .a _ => .a
  | .e _ => .e
  | .cf _ _ => .c
  | .cv _ _ => .c
  | .no => .e

/-- y, which stands before x, may be carried out after it -/
def swapOk (y x : SOper) : Bool :=
  tmOk y x && match y.op.kd, x.op.kd with
  | .p, _ => true
  | .l, .p | .l, .l => true
  | .l, .a => x.aid.isSome
  | .l, .e | .l, .c => y.keep && x.watch.contains y.id
  | .a, .p => true
  | .a, .a => y.aid.isSome && x.aid.isSome && y.aid != x.aid
  | .e, .p | .c, .p => true
  | .c, .a => x.aid.isSome
  | _, _ => false

section
variable {P : Program} {G base : Nat} {Q : T V → Hp → Prop}

theorem setO_comm {F : T V} {d e : Option Nat} {u v : V} (h : ∀ k, d = some k → e ≠ some k) : setO (setO F d u) e v = setO (setO F e v) d u := by
  cases d with
  | none => rfl
  | some d =>
    cases e with
    | none => rfl
    | some e => exact T.set_comm _ _ _ (fun he => h d rfl (by rw [he]))

theorem tmOk_spec {y x : SOper} (h : tmOk y x = true) : (∀ d, y.dst = some d → d ∉ x.op.tm ∧ d ∉ gtm x.guard ∧ x.dst ≠ some d) ∧ (∀ d, x.dst = some d → d ∉ y.op.tm ∧ d ∉ gtm y.guard) := by
  unfold tmOk at h
  rw [Bool.and_eq_true] at h
  refine ⟨fun d hd => ?_, fun d hd => ?_⟩
  · have h1 := h.1
    rw [hd] at h1
    simp [SOper.tm] at h1
    exact ⟨h1.1.1, h1.1.2, h1.2⟩
  · have h2 := h.2
    rw [hd] at h2
    simp [SOper.tm] at h2
    exact ⟨h2.1, h2.2⟩

/-- evaluation does not see what the other operation writes -/
structure Blind (s : SOper) (d : Option Nat) : Prop where
  pure : ∀ F v o, s.op = .p o → aPure (setO F d v) o = aPure F o
  load : ∀ F H v o, s.op = .l o → aLoad (setO F d v) H o = aLoad F H o
  alloc : ∀ F v o, s.op = .a o → aAlloc (setO F d v) o = aAlloc F o
  eff : ∀ F H v o, s.op = .e o → aEff (setO F d v) H o = aEff F H o
  cf : ∀ F v f l, s.op = .cf f l → l.map (·.ev (setO F d v)) = l.map (·.ev F)
  cv : ∀ F v x l, s.op = .cv x l → x.ev (setO F d v) = x.ev F ∧ l.map (·.ev (setO F d v)) = l.map (·.ev F)
  wanted : ∀ F v, wantedA s.guard (setO F d v) = wantedA s.guard F

theorem Blind.mk' {s : SOper} {d : Option Nat} (h : ∀ k, d = some k → k ∉ s.op.tm ∧ k ∉ gtm s.guard) : Blind s d := by
  cases d with
  | none => exact ⟨fun _ _ _ _ => rfl, fun _ _ _ _ _ => rfl, fun _ _ _ _ => rfl, fun _ _ _ _ _ => rfl, fun _ _ _ _ _ => rfl, fun _ _ _ _ _ => ⟨rfl, rfl⟩, fun _ _ => rfl⟩
  | some d =>
    obtain ⟨h1, h2⟩ := h d rfl
    refine ⟨fun F v o ho => ?_, fun F H v o ho => ?_, fun F v o ho => ?_, fun F H v o ho => ?_, fun F v f l ho => ?_, fun F v x l ho => ?_, fun F v => wanted_set h2⟩
    · rw [ho] at h1; exact pure_set h1
    · rw [ho] at h1; exact load_set h1
    · rw [ho] at h1; exact alloc_set h1
    · rw [ho] at h1; exact eff_set h1
    · rw [ho] at h1; exact evs_set h1
    · rw [ho] at h1
      simp only [SOp.tm, List.mem_append, not_or] at h1
      exact ⟨ev_set h1.1, evs_set h1.2⟩
end
end Go.Ab

/- Operations whose order is open: two neighbours may be exchanged. -/
namespace Go.Ab
section
variable {P : Program} {G base : Nat} {Q : T V → Hp → Prop}

/-- what is called: a function, or yield -/
inductive Cal where
  | fu (f : FuncId)
  | yl (b : Nat)
def Cal.k (K : Nat → Prop) : Cal → Prop
  | .fu _ => True
  | .yl b => K b
def Cal.run (P : Program) (μ : Nat → Pl) (xs : Array Value) (w : World) (R : Ending → World → Prop) : Cal → Prop
  | .fu f => Calls P f xs w R
  | .yl b => YieldAt Fence.wide 0 P (μ b).blk xs w R
theorem Cal.run_mono {c : Cal} {μ : Nat → Pl} {xs : Array Value} {w : World} {R R' : Ending → World → Prop} (h : c.run P μ xs w R) (hr : ∀ e w', R e w' → R' e w') : c.run P μ xs w R' := by
  cases c with
  | fu f => exact Calls.mono h hr
  | yl b => obtain ⟨fn, tmps, sg, bd, h1, h2⟩ := h; exact ⟨fn, tmps, sg, bd, h1, h2.mono hr⟩
def ADo (P : Program) (G : Nat) (c : Cal) (args : List V) (H : Hp) (R : V → Hp → Prop) : Prop :=
  ∀ (μ : Nat → Pl) (K : Nat → Prop) (w : World) (xs : List Value), Rel G μ K H w → All2 (RV μ K) args xs → c.k K →
    c.run P μ xs.toArray w fun e w' => ∃ x, e = .returned x ∧ ∃ v H' μ' K', R v H' ∧ RV μ' K' v x ∧ Rel G μ' K' H' w' ∧ Fr μ K H w μ' K' H' w'
theorem ado_f {f : FuncId} {args : List V} {H : Hp} {R : V → Hp → Prop} : ADo P G (.fu f) args H R ↔ ACalls P G f args H R :=
  ⟨fun h μ K w xs hR ha => h μ K w xs hR ha trivial, fun h μ K w xs hR ha _ => h μ K w xs hR ha⟩
theorem ado_y {b : Nat} {args : List V} {H : Hp} {R : V → Hp → Prop} : ADo P G (.yl b) args H R ↔ AYield P G b args H R :=
  ⟨fun h μ K w xs hR hK ha => h μ K w xs hR ha hK, fun h μ K w xs hR ha hK => h μ K w xs hR hK ha⟩

theorem ADo.mono {f : Cal} {args : List V} {H : Hp} {R R' : V → Hp → Prop} (h : ADo P G f args H R) (hr : ∀ v H', R v H' → R' v H') : ADo P G f args H R' :=
  fun μ K w xs hR ha hK => Cal.run_mono (h μ K w xs hR ha hK) fun _ _ ⟨x, he, v, H', μ', K', h1, h2⟩ => ⟨x, he, v, H', μ', K', hr _ _ h1, h2⟩

/-- what every call keeps: names that are reserved stay free -/
theorem ADo.keeps {f : Cal} {args : List V} {H : Hp} {R : V → Hp → Prop} (h : ADo P G f args H R) : ADo P G f args H fun v H' => R v H' ∧ H.nx ≤ H'.nx ∧ ∀ b, b < H.nx → H.get b = none → H'.get b = none :=
  fun μ K w xs hR ha hK => Cal.run_mono (h μ K w xs hR ha hK) fun _ _ ⟨x, he, v, H', μ', K', h1, h2, h3, h4⟩ => ⟨x, he, v, H', μ', K', ⟨h1, h4.nx, h4.none⟩, h2, h3, h4⟩

/-- a call leaves a block alone that it does not know -/
theorem ADo.frame {f : Cal} {args : List V} {H : Hp} {R : V → Hp → Prop} (h : ADo P G f args H R) {x : Nat} {bk : B} (hx : x < H.nx) (hn : H.get x = none) (hm : bk.mut = true) :
    ADo P G f args (H.add x bk) fun v H'' => ∃ H', R v H' ∧ H'' = H'.add x bk := by
  intro μ K w xs hR ha hKK
  have hget : ∀ (H : Hp) i, (H.add x bk).get i = if i = x then some bk else H.get i := fun H i => Hp.get_add H x i bk
  have hkx : K x := hR.dom x bk (by simp)
  have hne : ∀ i k, H.get i = some k → i ≠ x := fun i k hi e => by subst e; rw [hn] at hi; cases hi
  have hR1 : Rel G μ K H w := ⟨fun b k hb => hR.dom b k (by rw [hget, if_neg (hne b k hb)]; exact hb), hR.lt, fun b k hb => hR.blk b k (by rw [hget, if_neg (hne b k hb)]; exact hb),
    fun b b' k k' hb hb' => hR.inj b b' k k' (by rw [hget, if_neg (hne b k hb)]; exact hb) (by rw [hget, if_neg (hne b' k' hb')]; exact hb'), hR.glob⟩
  have hxx : (H.add x bk).get x = some bk := by simp
  have hblk := hR.blk x bk hxx
  have hbl := hR.blk_lt hxx
  -- no block of H that may be written lies there
  have hfar : ∀ b k, H.get b = some k → (μ b).blk ≠ (μ x).blk := fun b k hb he => hne b k hb (hR.inj x b bk k hxx (by rw [hget, if_neg (hne b k hb)]; exact hb) hm he.symm).symm
  refine Cal.run_mono (h μ K w xs hR1 ha hKK) ?_
  rintro e w' ⟨y, rfl, v, H', μ', K', h1, h2, h3, h4⟩
  have hn' : H'.get x = none := h4.none x hx hn
  have hne' : ∀ i k, H'.get i = some k → i ≠ x := fun i k hi e => by subst e; rw [hn'] at hi; cases hi
  have hmux : μ' x = μ x := h4.mu x hkx
  have hkeep : w'.heap[(μ x).blk]? = w.heap[(μ x).blk]? := h4.keep _ hbl fun b k hb _ => hfar b k hb
  have hfar' : ∀ b k, H'.get b = some k → (μ' b).blk ≠ (μ x).blk := by
    intro b k hb he
    by_cases hlt : b < H.nx
    · cases hg : H.get b with
      | none => rw [h4.none b hlt hg] at hb; cases hb
      | some k0 =>
        rw [h4.mu b (hR1.dom b k0 hg)] at he
        exact hfar b k0 hg he
    · rcases h4.newmut b k (by omega) hb with hm1 | ⟨_, hge⟩
      · rcases h4.img b k hb hm1 with ⟨b0, k0, g0, _, e0⟩ | hge
        · exact hfar b0 k0 g0 (e0.trans he)
        · omega
      · omega
  refine ⟨y, rfl, v, H'.add x bk, μ', K', ⟨H', h1, rfl⟩, h2, ⟨fun b k hb => ?_, h3.lt, fun b k hb => ?_, fun b b' k k' hb hb' hm' he => ?_, h3.glob⟩, ?_⟩
  · rw [hget] at hb
    split at hb
    · rename_i e; subst e; exact h4.kk _ hkx
    · exact h3.dom b k hb
  · rw [hget] at hb
    split at hb
    · rename_i e; subst e
      obtain rfl := Option.some.inj hb
      rw [hmux, hkeep]
      exact hblk.mono h4.kk h4.mu
    · exact h3.blk b k hb
  · rw [hget] at hb hb'
    by_cases e1 : b = x
    · by_cases e2 : b' = x
      · rw [e1, e2]
      · rw [if_neg e2] at hb'
        rw [e1, hmux] at he
        exact absurd he.symm (hfar' b' k' hb')
    · by_cases e2 : b' = x
      · rw [if_neg e1] at hb
        rw [e2, hmux] at he
        exact absurd he (hfar' b k hb)
      · rw [if_neg e1] at hb
        rw [if_neg e2] at hb'
        exact h3.inj b b' k k' hb hb' hm' he
  · refine ⟨h4.same, h4.size, fun i hi hn => h4.keep i hi fun b k hb hm => hn b k (by rw [hget, if_neg (hne b k hb)]; exact hb) hm, fun b k hb hm' => ?_, fun b k hb hk => ?_, h4.mu, h4.kk, h4.knew, h4.nx, fun b hb hn => ?_, fun b k k' hb hb' => ?_, fun b k hb hm' => ?_⟩
    · rw [hget] at hb
      split at hb
      · rename_i e; subst e; exact .inl ⟨b, bk, by simp, hm, by rw [hmux]⟩
      · rcases h4.img b k hb hm' with ⟨b0, k0, g0, m0, e0⟩ | hge
        · exact .inl ⟨b0, k0, by rw [hget, if_neg (hne b0 k0 g0)]; exact g0, m0, e0⟩
        · exact .inr hge
    · rw [hget] at hk
      simp at hb
      rw [if_neg (by omega)] at hk
      exact h4.newmut b k hb hk
    · rw [hget] at hn ⊢
      split at hn
      · cases hn
      · rename_i e; rw [if_neg e]; exact h4.none b hb hn
    · rw [hget] at hb hb'
      split at hb
      · rename_i e; rw [if_pos e] at hb'; rw [Option.some.inj hb] at hb'; rw [Option.some.inj hb']
      · rename_i e; rw [if_neg e] at hb'; exact h4.stay b k k' hb hb'
    · rw [hget] at hb ⊢
      split at hb
      · rename_i e; rw [if_pos e]; exact hb
      · rename_i e; rw [if_neg e]; exact h4.ro b k hb hm'
theorem ACalls.mono {f : FuncId} {args : List V} {H : Hp} {R R' : V → Hp → Prop} (h : ACalls P G f args H R) (hr : ∀ v H', R v H' → R' v H') : ACalls P G f args H R' := ado_f.1 ((ado_f.2 h).mono hr)
theorem AYield.mono {b : Nat} {args : List V} {H : Hp} {R R' : V → Hp → Prop} (h : AYield P G b args H R) (hr : ∀ v H', R v H' → R' v H') : AYield P G b args H R' := ado_y.1 ((ado_y.2 h).mono hr)
theorem ACalls.keeps {f : FuncId} {args : List V} {H : Hp} {R : V → Hp → Prop} (h : ACalls P G f args H R) : ACalls P G f args H fun v H' => R v H' ∧ H.nx ≤ H'.nx ∧ ∀ b, b < H.nx → H.get b = none → H'.get b = none := ado_f.1 (ado_f.2 h).keeps
theorem ACalls.frame {f : FuncId} {args : List V} {H : Hp} {R : V → Hp → Prop} (h : ACalls P G f args H R) {x : Nat} {bk : B} (hx : x < H.nx) (hn : H.get x = none) (hm : bk.mut = true) :
    ACalls P G f args (H.add x bk) fun v H'' => ∃ H', R v H' ∧ H'' = H'.add x bk := ado_f.1 ((ado_f.2 h).frame hx hn hm)


/-- the watch is weaker with less to watch -/
theorem watch_mono {ws : List Nat} {ctx ctx' : Ctx} {H : Hp} (hs : ∀ x, x ∈ ctx' → x ∈ ctx) (h : watchOk ws ctx H) : watchOk ws ctx' H := by
  cases ws with
  | nil => trivial
  | cons k r => exact fun j hj p hp => h j hj p (hs _ hp)

theorem ctx_mono : ∀ {l : List SOper} {ctx ctx' : Ctx} {F : T V} {H : Hp}, (∀ x, x ∈ ctx' → x ∈ ctx) → wOps P G base Q l ctx F H → wOps P G base Q l ctx' F H
  | [], _, _, _, _, _, h => h
  | o :: r, ctx, ctx', F, H, hs, h => by
    rw [wOps] at h ⊢
    split at h
    · rename_i hw
      rw [if_pos hw]
      cases hop : o.op with
      | p op =>
        simp only [hop] at h ⊢
        cases hv : aPure F op with
        | none => simp [hv] at h
        | some v => simp only [hv] at h ⊢; exact ctx_mono hs h
      | l op =>
        simp only [hop] at h ⊢
        cases hv : aLoad F H op with
        | none => simp [hv] at h
        | some v =>
          simp only [hv] at h ⊢
          refine ctx_mono (fun x hx => ?_) h
          cases hk : o.keep with
          | false => simp only [hk, Bool.false_eq_true, if_false] at hx ⊢; exact hs x hx
          | true =>
            simp only [hk, if_true, List.mem_cons] at hx ⊢
            exact hx.imp id (hs x)
      | a op =>
        simp only [hop] at h ⊢
        cases hv : aAlloc F op with
        | none => simp [hv] at h
        | some v =>
          simp only [hv] at h ⊢
          cases hai : o.aid with
          | none => simp only [hai] at h ⊢; exact ctx_mono hs h
          | some k => simp only [hai] at h ⊢; exact ctx_mono hs h
      | e op =>
        simp only [hop] at h ⊢
        cases hv : aEff F H op with
        | none => simp [hv] at h
        | some v => simp only [hv] at h ⊢; exact ⟨watch_mono hs h.1, ctx_mono hs h.2⟩
      | cf f args =>
        simp only [hop] at h ⊢
        exact h.mono fun v H' hh => ⟨watch_mono hs hh.1, ctx_mono hs hh.2⟩
      | cv x args =>
        simp only [hop] at h ⊢
        split at h
        · exact ⟨h.1, h.2.mono fun v H' hh => ⟨watch_mono hs hh.1, ctx_mono hs hh.2⟩⟩
        · exact AYield.mono h fun v H' hh => ⟨watch_mono hs hh.1, ctx_mono hs hh.2⟩
        · exact h.elim
      | no => simp only [hop] at h
    · rename_i hw
      rw [if_neg hw]
      exact ctx_mono hs h
end
end Go.Ab

/- Operations whose order is open: two neighbours may be exchanged. -/
namespace Go.Ab
section
variable {P : Program} {G base : Nat} {Q : T V → Hp → Prop}

def callOf (P : Program) (o : SOp) (F : T V) : Option (Cal × List V) :=
  match o with
  | .cf f args => some (.fu f, args.map (·.ev F))
  | .cv x args => match x.ev F with
    | .one (.fn f caps) => if isFn P f then some (.fu f, args.map (·.ev F) ++ caps.map ptrV) else none
    | .one (.yld b) => some (.yl b, args.map (·.ev F))
    | _ => none
  | _ => none

/-- an operation that comes to the value v, whatever the heap: a pure one, or one that is not wanted -/
def Plain (o : SOper) (F : T V) (v : V) : Prop := (wantedA o.guard F = false ∧ v = V.undef) ∨ (wantedA o.guard F = true ∧ ∃ op, o.op = .p op ∧ aPure F op = some v)

def ctxOf (o : SOper) (op : LoadOp) (F : T V) (v : V) (ctx : Ctx) : Ctx := if o.keep then (o.id, fun H' => aLoad F H' op = some v) :: ctx else ctx

def allocAt (base : Nat) (o : SOper) (H : Hp) : Nat := match o.aid with
  | none => H.nx
  | some k => base + k
def allocHp (base : Nat) (o : SOper) (H : Hp) (bk : B) : Hp := match o.aid with
  | none => H.push bk
  | some k => H.add (base + k) bk

/-- the ways of one operation -/
theorem wOps_inv {o : SOper} {r : List SOper} {ctx : Ctx} {F : T V} {H : Hp} (h : wOps P G base Q (o :: r) ctx F H) :
    (∃ v, Plain o F v ∧ wOps P G base Q r ctx (setO F o.dst v) H) ∨
    (wantedA o.guard F = true ∧ ∃ op v, o.op = .l op ∧ aLoad F H op = some v ∧ wOps P G base Q r (ctxOf o op F v ctx) (setO F o.dst v) H) ∨
    (wantedA o.guard F = true ∧ ∃ op bk g, o.op = .a op ∧ aAlloc F op = some (bk, g) ∧ wOps P G base Q r ctx (setO F o.dst (g (allocAt base o H))) (allocHp base o H bk)) ∨
    (wantedA o.guard F = true ∧ ∃ op v H', o.op = .e op ∧ aEff F H op = some (v, H') ∧ watchOk o.watch ctx H' ∧ wOps P G base Q r ctx (setO F o.dst v) H') ∨
    (wantedA o.guard F = true ∧ o.op.kd = .c ∧ ∃ f args, callOf P o.op F = some (f, args) ∧ ADo P G f args H fun v H' => watchOk o.watch ctx H' ∧ wOps P G base Q r ctx (setO F o.dst v) H') := by
  rw [wOps] at h
  split at h
  · rename_i hw
    cases hop : o.op with
    | p op =>
      simp only [hop] at h
      cases hv : aPure F op with
      | none => simp [hv] at h
      | some v => simp only [hv] at h; exact .inl ⟨v, .inr ⟨hw, op, hop, hv⟩, h⟩
    | l op =>
      simp only [hop] at h
      cases hv : aLoad F H op with
      | none => simp [hv] at h
      | some v => simp only [hv] at h; exact .inr (.inl ⟨hw, op, v, rfl, hv, h⟩)
    | a op =>
      simp only [hop] at h
      cases hv : aAlloc F op with
      | none => simp [hv] at h
      | some bg =>
        simp only [hv] at h
        refine .inr (.inr (.inl ⟨hw, op, bg.1, bg.2, rfl, hv, ?_⟩))
        unfold allocAt allocHp
        cases hai : o.aid <;> simp only [hai] at h ⊢ <;> exact h
    | e op =>
      simp only [hop] at h
      cases hv : aEff F H op with
      | none => simp [hv] at h
      | some v => simp only [hv] at h; exact .inr (.inr (.inr (.inl ⟨hw, op, v.1, v.2, rfl, hv, h.1, h.2⟩)))
    | cf f args =>
      simp only [hop] at h
      exact .inr (.inr (.inr (.inr ⟨hw, rfl, .fu f, _, rfl, ado_f.2 h⟩)))
    | cv x args =>
      simp only [hop] at h
      split at h
      · rename_i f caps hx
        exact .inr (.inr (.inr (.inr ⟨hw, rfl, .fu f, _, by simp [callOf, hx, h.1], ado_f.2 h.2⟩)))
      · rename_i b hx
        exact .inr (.inr (.inr (.inr ⟨hw, rfl, .yl b, _, by simp [callOf, hx], ado_y.2 h⟩)))
      · exact h.elim
    | no => simp only [hop] at h
  · rename_i hw
    exact .inl ⟨V.undef, .inl ⟨by simpa using hw, rfl⟩, h⟩

theorem wOps_plain {o : SOper} {r : List SOper} {ctx : Ctx} {F : T V} {H : Hp} {v : V} (hp : Plain o F v) (h : wOps P G base Q r ctx (setO F o.dst v) H) : wOps P G base Q (o :: r) ctx F H := by
  rw [wOps]
  rcases hp with ⟨hw, rfl⟩ | ⟨hw, op, hop, hv⟩
  · simpa [hw] using h
  · simpa [hw, hop, hv] using h
theorem wOps_load {o : SOper} {r : List SOper} {ctx : Ctx} {F : T V} {H : Hp} {v : V} {op : LoadOp} (hw : wantedA o.guard F = true) (hop : o.op = .l op) (hv : aLoad F H op = some v) (h : wOps P G base Q r (ctxOf o op F v ctx) (setO F o.dst v) H) :
    wOps P G base Q (o :: r) ctx F H := by
  rw [wOps]
  simp only [hw, if_true, hop, hv]
  exact h
theorem wOps_alloc {o : SOper} {r : List SOper} {ctx : Ctx} {F : T V} {H : Hp} {bk : B} {g : Nat → V} {op : AllocOp} (hw : wantedA o.guard F = true) (hop : o.op = .a op) (hv : aAlloc F op = some (bk, g))
    (h : wOps P G base Q r ctx (setO F o.dst (g (allocAt base o H))) (allocHp base o H bk)) : wOps P G base Q (o :: r) ctx F H := by
  rw [wOps]
  simp only [hw, if_true, hop, hv]
  unfold allocAt allocHp at h
  cases hai : o.aid <;> simp only [hai] at h ⊢ <;> exact h
theorem wOps_eff {o : SOper} {r : List SOper} {ctx : Ctx} {F : T V} {H H' : Hp} {v : V} {op : EffOp} (hw : wantedA o.guard F = true) (hop : o.op = .e op) (hv : aEff F H op = some (v, H')) (hwa : watchOk o.watch ctx H') (h : wOps P G base Q r ctx (setO F o.dst v) H') :
    wOps P G base Q (o :: r) ctx F H := by
  rw [wOps]
  simp only [hw, if_true, hop, hv]
  exact ⟨hwa, h⟩
theorem wOps_call {o : SOper} {r : List SOper} {ctx : Ctx} {F : T V} {H : Hp} {f : Cal} {args : List V} (hw : wantedA o.guard F = true) (hc : callOf P o.op F = some (f, args))
    (h : ADo P G f args H fun v H' => watchOk o.watch ctx H' ∧ wOps P G base Q r ctx (setO F o.dst v) H') : wOps P G base Q (o :: r) ctx F H := by
  rw [wOps]
  simp only [hw, if_true]
  cases hop : o.op <;> simp only [hop, callOf] at hc <;> try (cases hc; done)
  · obtain ⟨rfl, rfl⟩ : _ ∧ _ := by simpa using hc
    exact ado_f.1 h
  · simp only
    split at hc
    · rename_i f' caps hx
      split at hc
      · rename_i hf
        obtain ⟨rfl, rfl⟩ : _ ∧ _ := by simpa using hc
        try simp only [hx]
        exact ⟨hf, ado_f.1 h⟩
      · cases hc
    · rename_i b hx
      obtain ⟨rfl, rfl⟩ : _ ∧ _ := by simpa using hc
      try simp only [hx]
      exact ado_y.1 h
    · cases hc

/-- names that are reserved and free -/
def Free (base : Nat) (ks : List Nat) (H : Hp) : Prop := ∀ k ∈ ks, base + k < H.nx ∧ H.get (base + k) = none

theorem stores_keeps : ∀ {l : List C} {H H' : Hp} {b o : Nat}, H.stores b o l = some H' → H'.nx = H.nx ∧ ∀ i, H.get i = none → H'.get i = none
  | [], H, H', b, o, h => by simp [Hp.stores] at h; subst h; exact ⟨rfl, fun _ h => h⟩
  | c :: l, H, H', b, o, h => by
    simp only [Hp.stores] at h
    cases hs : H.store b o c with
    | none => simp [hs] at h
    | some H1 =>
      simp only [hs] at h
      obtain ⟨h1, h2⟩ := stores_keeps h
      unfold Hp.store at hs
      split at hs
      · rename_i n z m hb
        split at hs
        · obtain rfl := Option.some.inj hs
          refine ⟨h1, fun i hi => h2 i ?_⟩
          rw [Hp.get_add]
          split
          · rename_i e; subst e; rw [hb] at hi; cases hi
          · exact hi
        · cases hs
      · cases hs

theorem append_keeps {H H' : Hp} {esz bytes m : Nat} {s v : V} {news : List C} (h : aAppend H esz bytes s m news = some (v, H')) : H.nx ≤ H'.nx ∧ ∀ b, b < H.nx → H.get b = none → H'.get b = none := by
  unfold aAppend at h
  split at h
  · split at h
    · simp only [Option.some.injEq, Prod.mk.injEq] at h; obtain ⟨_, rfl⟩ := h; exact ⟨Nat.le_refl _, fun _ _ h => h⟩
    · split at h
      · simp only [Option.some.injEq, Prod.mk.injEq] at h; obtain ⟨_, rfl⟩ := h
        exact ⟨by simp, fun b hb hn => by rw [Hp.get_push, if_neg (by omega)]; exact hn⟩
      · cases h
  · split at h
    · cases h
    · split at h
      · simp only [Option.map_eq_some_iff, Prod.mk.injEq] at h
        obtain ⟨H1, hs, _, rfl⟩ := h
        have := stores_keeps hs
        exact ⟨by omega, fun b _ hb => this.2 b hb⟩
      · split at h
        · split at h
          · cases h
          · split at h
            · simp only [Option.some.injEq, Prod.mk.injEq] at h; obtain ⟨_, rfl⟩ := h
              exact ⟨by simp, fun b hb hn => by rw [Hp.get_push, if_neg (by omega)]; exact hn⟩
            · split at h
              · simp only [Option.some.injEq, Prod.mk.injEq] at h; obtain ⟨_, rfl⟩ := h
                refine ⟨by simp, fun b hb hn => ?_⟩
                rw [Hp.get_del]
                split
                · rfl
                · rw [Hp.get_push, if_neg (by omega)]; exact hn
              · cases h
        · cases h
  · cases h

theorem eff_keeps {F : T V} {H H' : Hp} {op : EffOp} {v : V} (h : aEff F H op = some (v, H')) : H.nx ≤ H'.nx ∧ ∀ b, b < H.nx → H.get b = none → H'.get b = none := by
  cases op with
  | store n a x =>
    simp only [aEff] at h
    split at h
    · split at h
      · simp only [Option.map_eq_some_iff, Prod.mk.injEq] at h
        obtain ⟨H1, hs, _, rfl⟩ := h
        have := stores_keeps hs
        exact ⟨by omega, fun b _ hb => this.2 b hb⟩
      · cases h
    · cases h
  | append esz bytes s x =>
    simp only [aEff] at h
    split at h
    · exact append_keeps h
    · cases h
  | appendz esz bytes z s x =>
    simp only [aEff] at h
    split at h
    · split at h
      · exact append_keeps h
      · cases h
    · cases h
  | sbytes x =>
    simp only [aEff] at h
    split at h
    · simp only [Option.some.injEq, Prod.mk.injEq] at h; obtain ⟨_, rfl⟩ := h
      exact ⟨by simp, fun b hb hn => by rw [Hp.get_push, if_neg (by omega)]; exact hn⟩
    · cases h
  | copy esz d s =>
    simp only [aEff] at h
    split at h
    · simp only [Option.some.injEq, Prod.mk.injEq] at h; obtain ⟨_, rfl⟩ := h; exact ⟨Nat.le_refl _, fun _ _ h => h⟩
    · split at h
      · simp only [Option.map_eq_some_iff, Prod.mk.injEq] at h
        obtain ⟨H1, hs, _, rfl⟩ := h
        have := stores_keeps hs
        exact ⟨by omega, fun b _ hb => this.2 b hb⟩
      · cases h
    · cases h
  | mapupd m k x =>
    simp only [aEff] at h
    split at h
    · split at h
      · rename_i b _ es hb
        split at h
        · split at h
          · simp only [Option.some.injEq, Prod.mk.injEq] at h; obtain ⟨_, rfl⟩ := h
            refine ⟨Nat.le_refl _, fun i _ hi => ?_⟩
            rw [Hp.get_add]
            split
            · rename_i e; subst e; rw [hb] at hi; cases hi
            · exact hi
          · simp only [Option.some.injEq, Prod.mk.injEq] at h; obtain ⟨_, rfl⟩ := h
            refine ⟨Nat.le_refl _, fun i _ hi => ?_⟩
            rw [Hp.get_add]
            split
            · rename_i e; subst e; rw [hb] at hi; cases hi
            · exact hi
          · cases h
        · cases h
      · cases h
    · cases h
  | clear esz z x =>
    simp only [aEff] at h
    split at h
    · simp only [Option.some.injEq, Prod.mk.injEq] at h; obtain ⟨_, rfl⟩ := h; exact ⟨Nat.le_refl _, fun _ _ h => h⟩
    · split at h
      · simp only [Option.map_eq_some_iff, Prod.mk.injEq] at h
        obtain ⟨H1, hs, _, rfl⟩ := h
        have := stores_keeps hs
        exact ⟨by omega, fun b _ hb => this.2 b hb⟩
      · cases h
    · cases h

theorem Free.of_keeps {ks : List Nat} {H H' : Hp} (hf : Free base ks H) (h : H.nx ≤ H'.nx ∧ ∀ b, b < H.nx → H.get b = none → H'.get b = none) : Free base ks H' :=
  fun k hk => ⟨by have := (hf k hk).1; omega, h.2 _ (hf k hk).1 (hf k hk).2⟩
theorem Free.of_alloc {ks : List Nat} {H : Hp} {o : SOper} (hf : Free base ks H) (bk : B) (hk : ∀ k, o.aid = some k → k ∉ ks) : Free base ks (allocHp base o H bk) := by
  unfold allocHp
  cases hai : o.aid with
  | none => exact fun k hk' => ⟨by have := (hf k hk').1; simp; omega, by rw [Hp.get_push, if_neg (by have := (hf k hk').1; omega)]; exact (hf k hk').2⟩
  | some j =>
    refine fun k hk' => ⟨(hf k hk').1, ?_⟩
    rw [Hp.get_add, if_neg (fun e => hk j hai (by have : k = j := by omega
                                                  rw [← this]; exact hk'))]
    exact (hf k hk').2

end
end Go.Ab

/- Operations whose order is open: any order comes to the same. -/
namespace Go.Ab
section
variable {P : Program} {G base : Nat} {Q : T V → Hp → Prop}

abbrev CtxSt := CtxSt0
theorem CtxSt.of {ctx : Ctx} (h : CtxSt ctx) (o : SOper) (op : LoadOp) (F : T V) (v : V) : CtxSt (ctxOf o op F v ctx) := CtxSt0.of h _ _ _ _ _

/-- the rest may be replaced, behind one operation -/
theorem step_mono {o : SOper} {r1 r2 : List SOper} {ctx : Ctx} {F : T V} {H : Hp} {ks : List Nat} (hst : CtxSt ctx) (hf : Free base ks H) (hai : ∀ k, o.aid = some k → k ∉ ks)
    (hr : ∀ ctx v H', CtxSt ctx → Free base ks H' → wOps P G base Q r1 ctx (setO F o.dst v) H' → wOps P G base Q r2 ctx (setO F o.dst v) H') (h : wOps P G base Q (o :: r1) ctx F H) : wOps P G base Q (o :: r2) ctx F H := by
  rcases wOps_inv h with ⟨v, hp, h⟩ | ⟨hw, op, v, hop, hv, h⟩ | ⟨hw, op, bk, g, hop, hv, h⟩ | ⟨hw, op, v, H', hop, hv, hwa, h⟩ | ⟨hw, _, f, args, hc, h⟩
  · exact wOps_plain hp (hr _ _ _ hst hf h)
  · exact wOps_load hw hop hv (hr _ _ _ (CtxSt.of hst _ _ _ _) hf h)
  · exact wOps_alloc hw hop hv (hr _ _ _ hst (hf.of_alloc bk hai) h)
  · exact wOps_eff hw hop hv hwa (hr _ _ _ hst (hf.of_keeps (eff_keeps hv)) h)
  · exact wOps_call hw hc (h.keeps.mono fun v H' hh => ⟨hh.1.1, hr _ _ _ hst (hf.of_keeps hh.2) hh.1.2⟩)

theorem alloc_mut {F : T V} {op : AllocOp} {bk : B} {g : Nat → V} (h : aAlloc F op = some (bk, g)) : bk.mut = true := by
  cases op <;> simp only [aAlloc] at h
  case alloc => simp only [Option.some.injEq, Prod.mk.injEq] at h; rw [← h.1]; rfl
  case mkmap => simp only [Option.some.injEq, Prod.mk.injEq] at h; rw [← h.1]; rfl
  all_goals (split at h <;> try (cases h; done))
  all_goals first
    | (simp only [Option.some.injEq, Prod.mk.injEq] at h; rw [← h.1]; rfl)
    | (split at h
       · simp only [Option.some.injEq, Prod.mk.injEq] at h; rw [← h.1]; rfl
       · cases h)

theorem Plain.blind {s : SOper} {d : Option Nat} (hb : Blind s d) {F : T V} {u v : V} : Plain s (setO F d u) v ↔ Plain s F v := by
  unfold Plain
  rw [hb.wanted]
  constructor
  · rintro (h | ⟨hw, op, hop, hv⟩)
    · exact .inl h
    · exact .inr ⟨hw, op, hop, by rwa [hb.pure F u op hop] at hv⟩
  · rintro (h | ⟨hw, op, hop, hv⟩)
    · exact .inl h
    · exact .inr ⟨hw, op, hop, by rwa [hb.pure F u op hop]⟩

theorem callOf_blind {s : SOper} {d : Option Nat} (hb : Blind s d) {F : T V} {u : V} : callOf P s.op (setO F d u) = callOf P s.op F := by
  cases hop : s.op with
  | cf f args => simp only [callOf, hb.cf F u f args hop]
  | cv x args => obtain ⟨h1, h2⟩ := hb.cv F u x args hop; simp only [callOf, h1, h2]
  | _ => rfl

/-- an operation that needs no heap has a value -/
def HasVal (x : SOper) (F : T V) : Prop := wantedA x.guard F = true → (∀ op, x.op = .p op → ∃ v, aPure F op = some v) ∧ (∀ op, x.op = .a op → ∃ bg, aAlloc F op = some bg)

theorem HasVal.blind {x : SOper} {d : Option Nat} (hb : Blind x d) {F : T V} {u : V} : HasVal x (setO F d u) ↔ HasVal x F := by
  unfold HasVal
  rw [hb.wanted]
  constructor
  · intro h hw
    refine ⟨fun op hop => ?_, fun op hop => ?_⟩
    · have := (h hw).1 op hop; rwa [hb.pure _ _ _ hop] at this
    · have := (h hw).2 op hop; rwa [hb.alloc _ _ _ hop] at this
  · intro h hw
    refine ⟨fun op hop => ?_, fun op hop => ?_⟩
    · rw [hb.pure _ _ _ hop]; exact (h hw).1 op hop
    · rw [hb.alloc _ _ _ hop]; exact (h hw).2 op hop

/-- TWO NEIGHBOURS ARE EXCHANGED. -/
theorem swap {y x : SOper} {r : List SOper} {ctx : Ctx} {F : T V} {H : Hp} (hok : swapOk y x = true) (hst : CtxSt ctx) (hval : HasVal x F) (hfr : ∀ k, (x.aid = some k ∨ y.aid = some k) → base + k < H.nx ∧ H.get (base + k) = none)
    (h : wOps P G base Q (y :: x :: r) ctx F H) : wOps P G base Q (x :: y :: r) ctx F H := by
  unfold swapOk at hok
  rw [Bool.and_eq_true] at hok
  obtain ⟨htm, hkd⟩ := hok
  obtain ⟨t1, t2⟩ := tmOk_spec htm
  have bx : Blind x y.dst := Blind.mk' fun k hk => ⟨(t1 k hk).1, (t1 k hk).2.1⟩
  have by_ : Blind y x.dst := Blind.mk' fun k hk => t2 k hk
  have hcomm : ∀ (F : T V) (u v : V), setO (setO F y.dst u) x.dst v = setO (setO F x.dst v) y.dst u := fun F u v => setO_comm fun k hk => (t1 k hk).2.2
  rcases wOps_inv h with ⟨vy, hpy, h⟩ | ⟨hwy, opy, vy, hopy, hvy, h⟩ | ⟨hwy, opy, bky, gy, hopy, hvy, h⟩ | ⟨hwy, opy, vy, Hy, hopy, hvy, hway, h⟩ | ⟨hwy, hky, fy, argsy, hcy, h⟩
  · -- y is plain
    rcases wOps_inv h with ⟨vx, hpx, h⟩ | ⟨hwx, opx, vx, hopx, hvx, h⟩ | ⟨hwx, opx, bkx, gx, hopx, hvx, h⟩ | ⟨hwx, opx, vx, Hx, hopx, hvx, hwax, h⟩ | ⟨hwx, hkx, fx, argsx, hcx, h⟩
    · rw [Plain.blind bx] at hpx
      exact wOps_plain hpx (wOps_plain ((Plain.blind by_).2 hpy) (by rw [← hcomm]; exact h))
    · rw [bx.wanted] at hwx
      rw [bx.load _ _ _ _ hopx] at hvx
      refine wOps_load hwx hopx hvx (wOps_plain ((Plain.blind by_).2 hpy) ?_)
      rw [← hcomm]
      refine ctx_mono (fun z hz => ?_) h
      unfold ctxOf at hz ⊢
      cases hk : x.keep with
      | false => simp only [hk, Bool.false_eq_true, if_false] at hz ⊢; exact hz
      | true =>
        simp only [hk, if_true, List.mem_cons] at hz ⊢
        rcases hz with rfl | hz
        · left
          congr 1
          funext H'
          rw [bx.load _ _ _ _ hopx]
        · exact .inr hz
    · rw [bx.wanted] at hwx
      rw [bx.alloc _ _ _ hopx] at hvx
      exact wOps_alloc hwx hopx hvx (wOps_plain ((Plain.blind by_).2 hpy) (by rw [← hcomm]; exact h))
    · rw [bx.wanted] at hwx
      rw [bx.eff _ _ _ _ hopx] at hvx
      exact wOps_eff hwx hopx hvx hwax (wOps_plain ((Plain.blind by_).2 hpy) (by rw [← hcomm]; exact h))
    · rw [bx.wanted] at hwx
      rw [callOf_blind bx] at hcx
      exact wOps_call hwx hcx (h.mono fun v H' hh => ⟨hh.1, wOps_plain ((Plain.blind by_).2 hpy) (by rw [← hcomm]; exact hh.2)⟩)
  · -- y loads
    have hyl : ∀ (F' : T V) (v : V) (H' : Hp), F' = setO F x.dst v → aLoad F H' opy = some vy → ∀ c, (∀ z, z ∈ c → z ∈ ctx) → wOps P G base Q r (ctxOf y opy F vy c) (setO F' y.dst vy) H' → wOps P G base Q (y :: r) c F' H' := by
      rintro F' v H' rfl hv c hc hh
      refine wOps_load (by rw [by_.wanted]; exact hwy) hopy (by rw [by_.load _ _ _ _ hopy]; exact hv) ?_
      refine ctx_mono (fun z hz => ?_) hh
      unfold ctxOf at hz ⊢
      cases hk : y.keep with
      | false => simp only [hk, Bool.false_eq_true, if_false] at hz ⊢; exact hz
      | true =>
        simp only [hk, if_true, List.mem_cons] at hz ⊢
        rcases hz with rfl | hz
        · left
          congr 1
          funext H'
          rw [by_.load _ _ _ _ hopy]
        · exact .inr hz
    rcases wOps_inv h with ⟨vx, hpx, h⟩ | ⟨hwx, opx, vx, hopx, hvx, h⟩ | ⟨hwx, opx, bkx, gx, hopx, hvx, h⟩ | ⟨hwx, opx, vx, Hx, hopx, hvx, hwax, h⟩ | ⟨hwx, hkx, fx, argsx, hcx, h⟩
    · rw [Plain.blind bx] at hpx
      exact wOps_plain hpx (hyl _ vx H rfl hvy ctx (fun _ h => h) (by rw [← hcomm]; exact h))
    · rw [bx.wanted] at hwx
      rw [bx.load _ _ _ _ hopx] at hvx
      refine wOps_load hwx hopx hvx ?_
      refine wOps_load (by rw [by_.wanted]; exact hwy) hopy (by rw [by_.load _ _ _ _ hopy]; exact hvy) ?_
      rw [← hcomm]
      refine ctx_mono (fun z hz => ?_) h
      unfold ctxOf at hz ⊢
      have e1 : ∀ u : V, (fun H' => aLoad (setO F y.dst u) H' opx = some vx) = fun H' => aLoad F H' opx = some vx := fun u => by funext H'; rw [bx.load _ _ _ _ hopx]
      have e2 : ∀ u : V, (fun H' => aLoad (setO F x.dst u) H' opy = some vy) = fun H' => aLoad F H' opy = some vy := fun u => by funext H'; rw [by_.load _ _ _ _ hopy]
      rw [e2] at hz
      rw [e1]
      cases hk : y.keep <;> cases hk' : x.keep <;> simp only [hk, hk', Bool.false_eq_true, if_false, if_true, List.mem_cons] at hz ⊢
      · exact hz
      · exact hz
      · exact hz
      · rcases hz with hz | hz | hz
        · exact .inr (.inl hz)
        · exact .inl hz
        · exact .inr (.inr hz)
    · rw [bx.wanted] at hwx
      rw [bx.alloc _ _ _ hopx] at hvx
      rw [hopy, hopx] at hkd
      simp only [SOp.kd] at hkd
      obtain ⟨k, hk⟩ := Option.isSome_iff_exists.1 hkd
      have hfree := hfr k (.inl hk)
      refine wOps_alloc hwx hopx hvx ?_
      refine hyl _ _ _ rfl ?_ ctx (fun _ h => h) (by rw [← hcomm]; exact h)
      unfold allocHp
      simp only [hk]
      exact load_add hfree.2 hvy
    · rw [bx.wanted] at hwx
      rw [bx.eff _ _ _ _ hopx] at hvx
      rw [hopy, hopx] at hkd
      simp only [SOp.kd, Bool.and_eq_true] at hkd
      have hwat : aLoad F Hx opy = some vy := by
        have hmem : y.id ∈ x.watch := by simpa using hkd.2
        cases hws : x.watch with
        | nil => rw [hws] at hmem; cases hmem
        | cons a l =>
          rw [hws] at hwax hmem
          exact hwax y.id hmem (fun H' => aLoad F H' opy = some vy) (by unfold ctxOf; rw [if_pos hkd.1]; exact List.mem_cons_self ..)
      refine wOps_eff hwx hopx hvx (watch_mono (fun z hz => ?_) hwax) (hyl _ vx Hx rfl hwat ctx (fun _ h => h) (by rw [← hcomm]; exact h))
      unfold ctxOf
      split
      · exact List.mem_cons_of_mem _ hz
      · exact hz
    · rw [bx.wanted] at hwx
      rw [callOf_blind bx] at hcx
      rw [hopy, hkx] at hkd
      simp only [SOp.kd, Bool.and_eq_true] at hkd
      have hmem : y.id ∈ x.watch := by simpa using hkd.2
      refine wOps_call hwx hcx (h.mono fun v H' hh => ?_)
      have hwat : aLoad F H' opy = some vy := by
        have hwax := hh.1
        cases hws : x.watch with
        | nil => rw [hws] at hmem; cases hmem
        | cons a l =>
          rw [hws] at hwax hmem
          exact hwax y.id hmem (fun H' => aLoad F H' opy = some vy) (by unfold ctxOf; rw [if_pos hkd.1]; exact List.mem_cons_self ..)
      refine ⟨watch_mono (fun z hz => ?_) hh.1, hyl _ v H' rfl hwat ctx (fun _ h => h) (by rw [← hcomm]; exact hh.2)⟩
      unfold ctxOf
      split
      · exact List.mem_cons_of_mem _ hz
      · exact hz
  · -- y makes a block
    rcases wOps_inv h with ⟨vx, hpx, h⟩ | ⟨hwx, opx, vx, hopx, hvx, h⟩ | ⟨hwx, opx, bkx, gx, hopx, hvx, h⟩ | ⟨hwx, opx, vx, Hx, hopx, hvx, hwax, h⟩ | ⟨hwx, hkx, fx, argsx, hcx, h⟩
    · rw [Plain.blind bx] at hpx
      exact wOps_plain hpx (wOps_alloc (by rw [by_.wanted]; exact hwy) hopy (by rw [by_.alloc _ _ _ hopy]; exact hvy) (by rw [← hcomm]; exact h))
    · rw [hopy, hopx] at hkd; simp [SOp.kd] at hkd
    · rw [bx.wanted] at hwx
      rw [bx.alloc _ _ _ hopx] at hvx
      rw [hopy, hopx] at hkd
      simp only [SOp.kd, Bool.and_eq_true] at hkd
      obtain ⟨k, hk⟩ := Option.isSome_iff_exists.1 hkd.1.1
      obtain ⟨j, hj⟩ := Option.isSome_iff_exists.1 hkd.1.2
      have hne : k ≠ j := by
        have := hkd.2
        rw [hk, hj] at this
        simpa using this
      refine wOps_alloc hwx hopx hvx (wOps_alloc (by rw [by_.wanted]; exact hwy) hopy (by rw [by_.alloc _ _ _ hopy]; exact hvy) ?_)
      rw [← hcomm]
      have e1 : allocAt base x (allocHp base y H bky) = allocAt base x H := by unfold allocAt; simp only [hj]
      have e2 : allocAt base y (allocHp base x H bkx) = allocAt base y H := by unfold allocAt; simp only [hk]
      have e3 : allocHp base y (allocHp base x H bkx) bky = allocHp base x (allocHp base y H bky) bkx := by
        unfold allocHp
        simp only [hk, hj]
        unfold Hp.add
        rw [T.set_comm _ _ _ (show base + j ≠ base + k by omega)]
      rw [e2, e3]
      rw [e1] at h
      exact h
    · rw [hopy, hopx] at hkd; simp [SOp.kd] at hkd
    · rw [hopy, hkx] at hkd; simp [SOp.kd] at hkd
  · -- y writes
    rcases wOps_inv h with ⟨vx, hpx, h⟩ | ⟨hwx, opx, vx, hopx, hvx, h⟩ | ⟨hwx, opx, bkx, gx, hopx, hvx, h⟩ | ⟨hwx, opx, vx, Hx, hopx, hvx, hwax, h⟩ | ⟨hwx, hkx, fx, argsx, hcx, h⟩
    · rw [Plain.blind bx] at hpx
      exact wOps_plain hpx (wOps_eff (by rw [by_.wanted]; exact hwy) hopy (by rw [by_.eff _ _ _ _ hopy]; exact hvy) hway (by rw [← hcomm]; exact h))
    · rw [hopy, hopx] at hkd; simp [SOp.kd] at hkd
    · rw [hopy, hopx] at hkd; simp [SOp.kd] at hkd
    · rw [hopy, hopx] at hkd; simp [SOp.kd] at hkd
    · rw [hopy, hkx] at hkd; simp [SOp.kd] at hkd
  · -- y calls
    -- what x is, before the call's outcome is known
    cases hwx : wantedA x.guard F with
    | false =>
      refine wOps_plain (.inl ⟨hwx, rfl⟩) (wOps_call (by rw [by_.wanted]; exact hwy) (by rw [callOf_blind by_]; exact hcy) (h.mono fun v H' hh => ⟨hh.1, ?_⟩))
      rw [← hcomm]
      have h2 := hh.2
      rw [wOps, bx.wanted, hwx] at h2
      simpa using h2
    | true =>
      cases hopx : x.op with
      | p op =>
        -- its value does not hang on the call
        obtain ⟨vx, hv⟩ := (hval hwx).1 op hopx
        refine wOps_plain (v := vx) (.inr ⟨hwx, op, hopx, hv⟩) (wOps_call (by rw [by_.wanted]; exact hwy) (by rw [callOf_blind by_]; exact hcy) (h.mono fun v H' hh => ⟨hh.1, ?_⟩))
        rw [← hcomm]
        have h2 := hh.2
        rw [wOps, bx.wanted, hwx] at h2
        simp only [if_true, hopx, bx.pure _ _ _ hopx, hv] at h2
        exact h2
      | a op =>
        obtain ⟨⟨bk, g⟩, hv⟩ := (hval hwx).2 op hopx
        rw [hky, hopx] at hkd
        simp only [SOp.kd] at hkd
        obtain ⟨k, hk⟩ := Option.isSome_iff_exists.1 hkd
        obtain ⟨hlt, hnone⟩ := hfr k (.inl hk)
        refine wOps_alloc hwx hopx hv (wOps_call (by rw [by_.wanted]; exact hwy) (by rw [callOf_blind by_]; exact hcy) ?_)
        have e1 : allocHp base x H bk = H.add (base + k) bk := by unfold allocHp; simp only [hk]
        have e2 : allocAt base x H = base + k := by unfold allocAt; simp only [hk]
        rw [e1, e2]
        refine (h.keeps.frame hlt hnone (alloc_mut hv)).mono ?_
        rintro v H'' ⟨H', ⟨⟨hw1, hw2⟩, hnx, hfree⟩, rfl⟩
        refine ⟨?_, ?_⟩
        · -- what is watched is still there
          have := hw1
          cases hws : y.watch with
          | nil => trivial
          | cons a l =>
            rw [hws] at this
            exact fun j hj p hp => hst j p hp _ _ _ (hfree _ hlt hnone) (this j hj p hp)
        · rw [← hcomm]
          rw [wOps, bx.wanted, hwx] at hw2
          simp only [if_true, hopx, bx.alloc _ _ _ hopx, hv, hk] at hw2
          exact hw2
      | l op => rw [hky, hopx] at hkd; simp [SOp.kd] at hkd
      | e op => rw [hky, hopx] at hkd; simp [SOp.kd] at hkd
      | cf f args => rw [hky, hopx] at hkd; simp [SOp.kd] at hkd
      | cv f args => rw [hky, hopx] at hkd; simp [SOp.kd] at hkd
      | no => rw [hky, hopx] at hkd; simp [SOp.kd] at hkd

/-- AN OPERATION IS DRAWN TO THE FRONT. -/
theorem pull {x : SOper} {post : List SOper} : ∀ {pre : List SOper} {ctx : Ctx} {F : T V} {H : Hp}, (∀ y ∈ pre, swapOk y x = true) → CtxSt ctx → HasVal x F →
    (∀ k ∈ (pre ++ [x]).filterMap (·.aid), base + k < H.nx ∧ H.get (base + k) = none) → ((pre ++ [x]).filterMap (·.aid)).Nodup →
    wOps P G base Q (pre ++ x :: post) ctx F H → wOps P G base Q (x :: (pre ++ post)) ctx F H
  | [], _, _, _, _, _, _, _, _, h => h
  | y :: pre, ctx, F, H, hok, hst, hval, hfr, hnd, h => by
    have hy := hok y (by simp)
    have hb : Blind x y.dst := by
      have := hy
      unfold swapOk at this
      rw [Bool.and_eq_true] at this
      obtain ⟨t1, _⟩ := tmOk_spec this.1
      exact Blind.mk' fun k hk => ⟨(t1 k hk).1, (t1 k hk).2.1⟩
    have hfm : ∀ k, y.aid = some k → k ∉ (pre ++ [x]).filterMap (·.aid) := fun k hk => by
      simp only [List.cons_append, List.filterMap_cons, hk, List.nodup_cons] at hnd
      exact hnd.1
    have hnd' : ((pre ++ [x]).filterMap (·.aid)).Nodup := by
      simp only [List.cons_append, List.filterMap_cons] at hnd
      cases hy' : y.aid with
      | none => rw [hy'] at hnd; exact hnd
      | some k => rw [hy'] at hnd; exact (List.nodup_cons.1 hnd).2
    have hfr' : Free base ((pre ++ [x]).filterMap (·.aid)) H := fun k hk => hfr k (by
      simp only [List.cons_append, List.filterMap_cons]
      cases y.aid with
      | none => exact hk
      | some j => exact List.mem_cons_of_mem _ hk)
    have h1 : wOps P G base Q (y :: x :: (pre ++ post)) ctx F H := step_mono hst hfr' hfm (fun ctx' v H' hst' hf' hh => pull (fun z hz => hok z (by simp [hz])) hst' ((HasVal.blind hb).2 hval) hf' hnd' hh) h
    refine swap hy hst hval (fun k hk => ?_) h1
    rcases hk with hk | hk
    · exact hfr' k (by simp [hk])
    · exact hfr k (by simp [hk])
end
end Go.Ab

/- A region whose order is open: whatever order is drawn, it ends as the abstract operations, in one order, say. -/
namespace Go.Ab
section
variable {P : Program} {G n base : Nat} {Q : T V → Hp → Prop}

/-- what an operation shows of a fact that does not hang on its outcome -/
theorem wpOp_const {ρ : Option Nat} {nn : Nat} {ops : Array Oper} {i : Nat} {a : Act} {w : World} {T : Prop} (h : wpOpIn (fen ρ) nn P ops (fun _ _ _ => False) i (fun _ _ => T) a w) : T := by
  unfold wpOpIn at h
  split at h
  · exact h
  · rename_i o ho
    split at h
    · unfold Oper.wpIn at h
      replace h := h.2
      generalize (o.semAt (fen ρ).round a.eval).run P w = r at h
      cases r with
      | ok nx w' =>
        cases nx <;> simp only [Oper.uponIn] at h <;> first
          | exact h
          | (obtain ⟨_, h⟩ := h
             obtain ⟨e, w'', fr, hR, _⟩ := h.2 [] fen_room
             cases e with
             | returned v => exact hR
             | panicked c => exact hR.elim
             | outgrown => obtain ⟨_, _, hh⟩ := hR; exact hh.elim)
          | (obtain ⟨_, h⟩ := h
             obtain ⟨e, w'', hR, _⟩ := h.2 default [] fen_room
             cases e with
             | returned v => exact hR
             | panicked c => exact hR.elim
             | outgrown => obtain ⟨_, _, hh⟩ := hR; exact hh.elim)
          | (obtain ⟨v, w'', hR, _⟩ := h.2 default [] fen_room; exact hR)
          | exact h.elim
      | halt hh w' => cases hh <;> simp only [Oper.uponIn] at h <;> first | exact h.elim | exact h
    · exact h.2

theorem hasVal_head {x : SOper} {post : List SOper} {ctx : Ctx} {F : T V} {H : Hp} (h : wOps P G base Q (x :: post) ctx F H) : HasVal x F := by
  intro hw
  rw [wOps, hw] at h
  simp only [if_true] at h
  refine ⟨fun op hop => ?_, fun op hop => ?_⟩
  · rw [hop] at h
    simp only at h
    cases hv : aPure F op with
    | none => simp [hv] at h
    | some v => exact ⟨v, rfl⟩
  · rw [hop] at h
    simp only at h
    cases hv : aAlloc F op with
    | none => simp [hv] at h
    | some v => exact ⟨v, rfl⟩

/-- an operation that does not hang on those before it has its value already -/
theorem reach {ops : Array Oper} {x : SOper} {post : List SOper} {μ0 : Nat → Pl} {K0 : Nat → Prop} {H0 : Hp} {w0 : World} (hlt0 : ∀ b bk, H0.get b = some bk → b < H0.nx) :
    ∀ {pre : List SOper} {idx : List Nat} {ctx : Ctx} {F : T V} {H : Hp} {μ : Nat → Pl} {K : Nat → Prop} {a : Act} {w : World}, Aligned P G n ops idx pre → (∀ y ∈ pre, Blind x y.dst) → Rel G μ K H w → FRel μ K n F a.tmps → Fr μ0 K0 H0 w0 μ K H w →
      (∀ y ∈ pre, ∀ k, y.aid = some k → ¬ K (base + k) ∧ base + k < H.nx ∧ H0.nx ≤ base + k) → (pre.filterMap (·.aid)).Nodup →
      wOps P G base Q (pre ++ x :: post) ctx F H → HasVal x F
  | [], [], ctx, F, H, μ, K, a, w, _, _, _, _, _, _, _, h => hasVal_head h
  | y :: pre, i :: idx, ctx, F, H, μ, K, a, w, hal, hbl, hR, hF, hFr, hrs, hnd, h => by
    obtain ⟨⟨o, ho, hfit⟩, hal'⟩ := hal
    have key : wpOpIn (fen none) 0 P ops (fun _ _ _ => False) i (fun _ _ => HasVal x F) a w := by
      refine op_ok hlt0 ho hfit hR hF hFr (hrs y (by simp)) h fun μ' K' F' H' a' w' ctx' h1 h2 h3 _ h5 h6 h7 _ h8 => ?_
      obtain ⟨v, rfl⟩ := h7
      have hnd' : (pre.filterMap (·.aid)).Nodup ∧ ∀ k, y.aid = some k → k ∉ pre.filterMap (·.aid) := by
        simp only [List.filterMap_cons] at hnd
        cases hy : y.aid with
        | none => rw [hy] at hnd; exact ⟨hnd, by simp⟩
        | some k => rw [hy] at hnd; exact ⟨(List.nodup_cons.1 hnd).2, fun j hj => by obtain rfl := Option.some.inj hj; exact (List.nodup_cons.1 hnd).1⟩
      have := reach hlt0 hal' (fun z hz => hbl z (by simp [hz])) h1 h2 h3 (fun z hz k hk => by
        obtain ⟨g1, g2, g3⟩ := hrs z (by simp [hz]) k hk
        refine ⟨fun hk' => ?_, by omega, g3⟩
        rcases h6 _ g2 hk' with h | ⟨j, hj, he⟩
        · exact g1 h
        · exact hnd'.2 j hj (by
            have : j = k := by omega
            rw [this]
            exact List.mem_filterMap.2 ⟨z, hz, hk⟩)) hnd'.1 h8
      exact (HasVal.blind (hbl y (by simp))).1 this
    exact wpOp_const key
  | [], _ :: _, _, _, _, _, _, _, _, h, _, _, _, _, _, _, _ => h.elim
  | _ :: _, [], _, _, _, _, _, _, _, h, _, _, _, _, _, _, _ => h.elim

/-- every earlier operation is one that the later one hangs on, or may be exchanged with it -/
def PairsOk (D : Nat → List Nat) : List Nat → List SOper → Prop
  | i :: idx, s :: l => (∀ j t, (j, t) ∈ idx.zip l → i ∈ D j ∨ swapOk s t = true) ∧ PairsOk D idx l
  | _, _ => True

theorem Aligned.len {ops : Array Oper} : ∀ {idx : List Nat} {l : List SOper}, Aligned P G n ops idx l → idx.length = l.length
  | [], [], _ => rfl
  | _ :: _, _ :: _, h => by simp [Aligned.len h.2]
  | [], _ :: _, h => h.elim
  | _ :: _, [], h => h.elim

/-- an index among others, with its operation -/
theorem Aligned.split {ops : Array Oper} {D : Nat → List Nat} : ∀ {idx : List Nat} {l : List SOper} {i : Nat}, Aligned P G n ops idx l → PairsOk D idx l → i ∈ idx →
    ∃ pi qi pre x post, idx = pi ++ i :: qi ∧ l = pre ++ x :: post ∧ Aligned P G n ops pi pre ∧ (∃ o, ops[i]? = some o ∧ Fits P G n ops o x) ∧ Aligned P G n ops (pi ++ qi) (pre ++ post) ∧ PairsOk D (pi ++ qi) (pre ++ post) ∧
      (∀ y ∈ pre, ∃ j ∈ pi, j ∈ D i ∨ swapOk y x = true)
  | j :: idx, s :: l, i, hal, hp, hi => by
    by_cases e : i = j
    · subst e
      exact ⟨[], idx, [], s, l, rfl, rfl, trivial, hal.1, hal.2, hp.2, by simp⟩
    · have hi' : i ∈ idx := by
        rcases List.mem_cons.1 hi with h | h
        · exact absurd h e
        · exact h
      obtain ⟨pi, qi, pre, x, post, h1, h2, h3, h4, h5, h6, h7⟩ := Aligned.split hal.2 hp.2 hi'
      have hl1 : pi.length = pre.length := h3.len
      refine ⟨j :: pi, qi, s :: pre, x, post, by rw [h1]; rfl, by rw [h2]; rfl, ⟨hal.1, h3⟩, h4, ⟨hal.1, h5⟩, ⟨fun j' t hjt => hp.1 j' t ?_, h6⟩, fun y hy => ?_⟩
      · rw [h1, h2, List.zip_append hl1]
        have hjt' : (j', t) ∈ (pi ++ qi).zip (pre ++ post) := hjt
        rw [List.zip_append hl1] at hjt'
        rcases List.mem_append.1 hjt' with h | h
        · exact List.mem_append.2 (.inl h)
        · exact List.mem_append.2 (.inr (by simp [h]))
      · rcases List.mem_cons.1 hy with rfl | hy
        · refine ⟨j, by simp, hp.1 i x ?_⟩
          rw [h1, h2, List.zip_append hl1]
          exact List.mem_append.2 (.inr (by simp))
        · obtain ⟨j', hj', hh⟩ := h7 y hy
          exact ⟨j', by simp [hj'], hh⟩
  | [], _, _, _, _, hi => by cases hi
  | _ :: _, [], _, hal, _, _ => hal.elim


/-- WHATEVER ORDER IS DRAWN. -/
theorem any_ok {ρ : Option Nat} {nn : Nat} {DD : List Deferred} {ops : Array Oper} {D : Nat → List Nat} {μ0 : Nat → Pl} {K0 : Nat → Prop} {H0 : Hp} {w0 : World} (hlt0 : ∀ b bk, H0.get b = some bk → b < H0.nx) {Q' : Exit → Act → World → Prop}
    (hQ : ∀ μ K F H a w, Q F H → Rel G μ K H w → FRel μ K n F a.tmps → Fr μ0 K0 H0 w0 μ K H w → a.defers = DD → Q' .normal a w)
    (hD : ∀ i o, ops[i]? = some o → ∀ j ∈ D i, ∃ e ∈ o.after.toList, Region.binds .any e = true ∧ (e.on = j ∨ j ∈ D e.on))
    (hlow : ∀ i o, ops[i]? = some o → ∀ e ∈ o.after.toList, Region.binds .any e = true → e.on < i) :
    ∀ {fuel : Nat} {listed : Array Bool} {idx : List Nat} {l : List SOper} {ctx : Ctx} {F : T V} {H : Hp} {μ : Nat → Pl} {K : Nat → Prop} {a : Act} {w : World},
      listed.size = ops.size → (∀ i, i < ops.size → (listed.getD i true = false ↔ i ∈ idx)) → (∀ i ∈ idx, i < ops.size) → idx.Nodup → idx.length ≤ fuel →
      (∀ i, i < ops.size → i ∉ idx → ∀ j ∈ D i, j ∉ idx) → Aligned P G n ops idx l → PairsOk D idx l → (l.filterMap (·.aid)).Nodup → CtxSt ctx →
      (∀ s ∈ l, ∀ k, s.aid = some k → ¬ K (base + k) ∧ base + k < H.nx ∧ H0.nx ≤ base + k) →
      Rel G μ K H w → FRel μ K n F a.tmps → Fr μ0 K0 H0 w0 μ K H w → a.defers = DD → wOps P G base Q l ctx F H → wpAnyIn (fen ρ) nn P .any ops Q' fuel listed a w := by
  intro fuel
  induction fuel with
  | zero =>
    intro listed idx l ctx F H μ K a w hsz hlist hin hnd hlen hdc hal hp haid hst hrs hR hF hFr hd h
    have hidx : idx = [] := List.eq_nil_of_length_eq_zero (by omega)
    subst hidx
    cases l with
    | cons s l => exact hal.elim
    | nil =>
      refine ⟨?_, hQ μ K F H a w h hR hF hFr hd⟩
      unfold Region.ready
      rw [List.filter_eq_nil_iff]
      intro i hi
      have hi' : i < ops.size := by simpa using hi
      have := (hlist i hi').1
      cases hl : listed.getD i true with
      | true => simp
      | false => exact absurd (this hl) (by simp)
  | succ fuel ih =>
    intro listed idx l ctx F H μ K a w hsz hlist hin hnd hlen hdc hal hp haid hst hrs hR hF hFr hd h
    refine ⟨fun hready => ?_, fun i hi => ?_⟩
    · -- nothing is ready: then nothing is left
      have hidx : idx = [] := by
        cases hid : idx with
        | nil => rfl
        | cons i0 rest =>
          exfalso
          -- the least index that is left is ready
          obtain ⟨m, hm, hmin⟩ : ∃ m ∈ idx, ∀ j ∈ idx, m ≤ j := by
            have : ∀ (l : List Nat), l ≠ [] → ∃ m ∈ l, ∀ j ∈ l, m ≤ j := by
              intro l
              induction l with
              | nil => intro h; exact absurd rfl h
              | cons x l ihl =>
                intro _
                by_cases hl : l = []
                · subst hl; exact ⟨x, by simp, by simp⟩
                · obtain ⟨m, hm, hmin⟩ := ihl hl
                  by_cases hx : x ≤ m
                  · exact ⟨x, by simp, fun j hj => by
                      rcases List.mem_cons.1 hj with rfl | hj
                      · exact Nat.le_refl _
                      · exact Nat.le_trans hx (hmin j hj)⟩
                  · exact ⟨m, by simp [hm], fun j hj => by
                      rcases List.mem_cons.1 hj with rfl | hj
                      · omega
                      · exact hmin j hj⟩
            exact this idx (by rw [hid]; simp)
          have hms := hin m hm
          have hmr : m ∈ Region.ready .any ops listed := by
            unfold Region.ready
            rw [List.mem_filter]
            refine ⟨by simpa using hms, ?_⟩
            rw [(hlist m hms).2 hm]
            have ho : ops[m]? = some ops[m] := Array.getElem?_eq_getElem hms
            rw [ho]
            simp only [Bool.not_false, Bool.true_and, Option.map_some, Option.getD_some]
            rw [Array.all_eq_true_iff_forall_mem]
            intro e he
            cases hb : Region.binds .any e with
            | false => rfl
            | true =>
              have hlt := hlow m _ ho e (by simpa using he) hb
              have hes : e.on < ops.size := by omega
              have hne : e.on ∉ idx := fun h => absurd (hmin _ h) (by omega)
              have hl : listed.getD e.on true ≠ false := fun h => hne ((hlist _ hes).1 h)
              have hsz' : e.on < listed.size := by rw [hsz]; exact hes
              simp [hsz'] at hl ⊢
              exact hl
          rw [hready] at hmr
          cases hmr
      subst hidx
      cases l with
      | cons s l => exact hal.elim
      | nil => exact hQ μ K F H a w h hR hF hFr hd
    · -- one that is ready is drawn to the front
      unfold Region.ready at hi
      rw [List.mem_filter] at hi
      obtain ⟨hi1, hi2⟩ := hi
      have his : i < ops.size := by simpa using hi1
      rw [Bool.and_eq_true] at hi2
      have hun : listed.getD i true = false := by simpa using hi2.1
      have hii : i ∈ idx := (hlist i his).1 hun
      obtain ⟨pi, qi, pre, x, post, e1, e2, g1, ⟨o, ho, hfit⟩, g3, g4, g5⟩ := Aligned.split hal hp hii
      have hdeps : ∀ e ∈ o.after.toList, Region.binds .any e = true → e.on ∉ idx := by
        intro e he hb
        have h2 := hi2.2
        rw [ho] at h2
        simp only [Option.map_some, Option.getD_some] at h2
        rw [Array.all_eq_true_iff_forall_mem] at h2
        have h3 := h2 e (by simpa using he)
        rw [hb] at h3
        simp only [Bool.not_true, Bool.false_or] at h3
        have hes : e.on < ops.size := by have := hlow i o ho e he hb; omega
        intro hmem
        have h4 := (hlist _ hes).2 hmem
        have hsz' : e.on < listed.size := by rw [hsz]; exact hes
        simp [hsz'] at h3 h4
        rw [h3] at h4
        cases h4
      have hDi : ∀ j ∈ D i, j ∉ idx := by
        intro j hj
        obtain ⟨e, he, hb, hej⟩ := hD i o ho j hj
        have hen := hdeps e he hb
        rcases hej with rfl | hej
        · exact hen
        · exact hdc e.on (by have := hlow i o ho e he hb; omega) hen j hej
      have hsw : ∀ y ∈ pre, swapOk y x = true := by
        intro y hy
        obtain ⟨j, hj, hh⟩ := g5 y hy
        rcases hh with hh | hh
        · exact absurd (by rw [e1]; simp [hj]) (hDi j hh)
        · exact hh
      have hbl : ∀ y ∈ pre, Blind x y.dst := fun y hy => by
        have := hsw y hy
        unfold swapOk at this
        rw [Bool.and_eq_true] at this
        obtain ⟨t1, _⟩ := tmOk_spec this.1
        exact Blind.mk' fun k hk => ⟨(t1 k hk).1, (t1 k hk).2.1⟩
      rw [e2] at h haid hrs
      have hfm : (pre ++ x :: post).filterMap (·.aid) = (pre ++ [x]).filterMap (·.aid) ++ post.filterMap (·.aid) := by
        rw [show pre ++ x :: post = (pre ++ [x]) ++ post by simp, List.filterMap_append]
      have hnd1 : ((pre ++ [x]).filterMap (·.aid)).Nodup := by rw [hfm] at haid; exact (List.nodup_append.1 haid).1
      have hval : HasVal x F := reach hlt0 g1 hbl hR hF hFr (fun y hy k hk => hrs y (by simp [hy]) k hk) (by
        rw [List.filterMap_append] at hnd1; exact (List.nodup_append.1 hnd1).1) h
      have hfree : ∀ k ∈ (pre ++ [x]).filterMap (·.aid), base + k < H.nx ∧ H.get (base + k) = none := by
        intro k hk
        obtain ⟨s, hs, hk'⟩ := List.mem_filterMap.1 hk
        have hs' : s ∈ pre ++ x :: post := by
          rcases List.mem_append.1 hs with h | h
          · simp [h]
          · simp at h; subst h; simp
        obtain ⟨r1, r2, r3⟩ := hrs s hs' k hk'
        refine ⟨r2, ?_⟩
        cases hg : H.get (base + k) with
        | none => rfl
        | some bk => exact absurd (hR.dom _ _ hg) r1
      have h' := pull hsw hst hval hfree hnd1 h
      refine op_ok hlt0 ho hfit hR hF hFr (hrs x (by simp)) h' fun μ' K' F' H' a' w' ctx' k1 k2 k3 k4 k5 k6 _ k8 k9 => ?_
      have hidxlen : (pi ++ qi).length + 1 = idx.length := by rw [e1]; simp; omega
      have hndi : (pi ++ qi).Nodup ∧ i ∉ pi ++ qi := by
        rw [e1] at hnd
        have hperm : (pi ++ i :: qi).Perm (i :: (pi ++ qi)) := List.perm_middle
        have := (hperm.nodup_iff).1 hnd
        exact ⟨(List.nodup_cons.1 this).2, (List.nodup_cons.1 this).1⟩
      have hmem : ∀ j, j ∈ pi ++ qi ↔ j ∈ idx ∧ j ≠ i := by
        intro j
        rw [e1]
        constructor
        · intro hj
          refine ⟨?_, fun e => hndi.2 (e ▸ hj)⟩
          rcases List.mem_append.1 hj with h | h
          · simp [h]
          · simp [h]
        · rintro ⟨hj, hne⟩
          rcases List.mem_append.1 hj with h | h
          · simp [h]
          · rcases List.mem_cons.1 h with h | h
            · exact absurd h hne
            · simp [h]
      have haid' : ((pre ++ post).filterMap (·.aid)).Nodup ∧ ∀ k, x.aid = some k → k ∉ (pre ++ post).filterMap (·.aid) := by
        have hperm : (pre ++ x :: post).Perm (x :: (pre ++ post)) := List.perm_middle
        have h1 := ((hperm.filterMap (·.aid)).nodup_iff).1 haid
        simp only [List.filterMap_cons] at h1
        cases hx : x.aid with
        | none => rw [hx] at h1; exact ⟨h1, by simp⟩
        | some k => rw [hx] at h1; exact ⟨(List.nodup_cons.1 h1).2, fun j hj => by obtain rfl := Option.some.inj hj; exact (List.nodup_cons.1 h1).1⟩
      refine ih (by simpa using hsz) (fun j hj => ?_) (fun j hj => hin j ((hmem j).1 hj).1) hndi.1 (by omega) (fun j hj hjn k hk => ?_) g3 g4 haid'.1 (k8 hst) (fun s hs k hk => ?_) k1 k2 k3 (k4.trans hd) k9
      · rw [hmem]
        by_cases e : j = i
        · subst e
          have : (listed.setIfInBounds j true).getD j true = true := by
            have : j < listed.size := by rw [hsz]; exact his
            simp [this]
          rw [this]
          simp
        · have : (listed.setIfInBounds i true).getD j true = listed.getD j true := by
            simp only [Array.getD_eq_getD_getElem?]
            rw [Array.getElem?_setIfInBounds_ne (fun h => e h.symm)]
          rw [this, hlist j hj]
          simp [e]
      · -- still closed downwards
        rw [hmem] at hjn
        intro hkm
        have hkm' := ((hmem k).1 hkm).1
        by_cases e : j = i
        · subst e; exact hDi k hk hkm'
        · have hji : j ∉ idx := fun h => hjn ⟨h, e⟩
          exact hdc j hj hji k hk hkm'
      · have hs' : s ∈ pre ++ x :: post := by
          rcases List.mem_append.1 hs with h | h
          · simp [h]
          · simp [h]
        obtain ⟨r1, r2, r3⟩ := hrs s hs' k hk
        refine ⟨fun hk' => ?_, by omega, r3⟩
        rcases k6 _ r2 hk' with h | ⟨j, hj, he⟩
        · exact r1 h
        · exact haid'.2 j hj (by
            have : j = k := by omega
            rw [this]
            exact List.mem_filterMap.2 ⟨s, hs, hk⟩)
end
end Go.Ab

/- Ranges over functions: the statement, and a round of it. -/
namespace Go.Ab
section
variable {P : Program} {G n : Nat} {ρ : Option Nat} {μ : Nat → Pl} {K : Nat → Prop} {H H' : Hp} {w : World}

/-- an object that nothing names -/
theorem Rel.junk (hR : Rel G μ K H w) (o : Obj) : Rel G μ K H { w with heap := w.heap.push o } ∧ Fr μ K H w μ K H { w with heap := w.heap.push o } := by
  have hh : ∀ i, i < w.heap.size → (w.heap.push o)[i]? = w.heap[i]? := fun i hi => by
    rw [Array.getElem?_push, if_neg (by omega)]
  let r := Fr.refl hR
  exact ⟨⟨hR.dom, hR.lt, fun b bk hb => by
    show RB μ K (μ b) bk (w.heap.push o)[(μ b).blk]?
    rw [hh _ (hR.blk_lt hb)]; exact hR.blk b bk hb, hR.inj, hR.glob⟩,
   ⟨⟨rfl, rfl, rfl, Nat.le_refl _⟩, by simp, fun i hi _ => hh i hi, r.img, r.newmut, r.mu, r.kk, r.knew, r.nx, r.none, r.stay, r.ro⟩⟩

/-- a block that may be written is replaced -/
theorem Rel.setB (hR : Rel G μ K H w) {b : Nat} {bk bk' : B} {o : Obj} (hb : H.get b = some bk) (hm : bk.mut = true) (hm' : bk'.mut = true) (ho : RB μ K (μ b) bk' (some o)) :
    Rel G μ K (H.add b bk') { w with heap := w.heap.setIfInBounds (μ b).blk o } ∧ Fr μ K H w μ K (H.add b bk') { w with heap := w.heap.setIfInBounds (μ b).blk o } := by
  have hlt := hR.blk_lt hb
  have hh : ∀ i, (w.heap.setIfInBounds (μ b).blk o)[i]? = if i = (μ b).blk then some o else w.heap[i]? := fun i => by
    rw [Array.getElem?_setIfInBounds]
    by_cases e : (μ b).blk = i
    · subst e; simp [hlt]
    · rw [if_neg e, if_neg (fun h => e h.symm)]
  constructor
  · refine ⟨fun i k hi => ?_, hR.lt, fun i k hi => ?_, fun i j k1 k2 h1 h2 hm1 he => ?_, hR.glob⟩
    · rw [Hp.get_add] at hi
      split at hi
      · rename_i e; subst e; exact hR.dom _ _ hb
      · exact hR.dom _ _ hi
    · rw [Hp.get_add] at hi
      simp only [hh]
      split at hi
      · rename_i e; subst e
        obtain rfl := Option.some.inj hi
        simpa using ho
      · rename_i e
        rw [if_neg (fun he => e (hR.inj b i _ _ hb hi hm he.symm).symm)]
        exact hR.blk i k hi
    · rw [Hp.get_add] at h1 h2
      have f1 : ∃ k, H.get i = some k ∧ k.mut = true := by
        split at h1
        · rename_i e; subst e; exact ⟨_, hb, hm⟩
        · exact ⟨_, h1, hm1⟩
      have f2 : ∃ k, H.get j = some k := by
        split at h2
        · rename_i e; subst e; exact ⟨_, hb⟩
        · exact ⟨_, h2⟩
      obtain ⟨_, g1, gm⟩ := f1
      obtain ⟨_, g2⟩ := f2
      exact hR.inj _ _ _ _ g1 g2 gm he
  · refine ⟨⟨rfl, rfl, rfl, Nat.le_refl _⟩, by simp, fun i _ hne => ?_, fun i k hi hmk => ?_, fun i k hi hk => ?_, fun _ _ => rfl, fun _ h => h, fun _ _ h => h, Nat.le_refl _, fun i hi hn => ?_, fun i k1 k2 e1 e2 => ?_, fun i k1 e1 hmk => ?_⟩
    · simp only [hh]
      rw [if_neg (fun e => hne b _ hb hm e.symm)]
    · rw [Hp.get_add] at hi
      split at hi
      · rename_i e; subst e; exact .inl ⟨i, _, hb, hm, rfl⟩
      · exact .inl ⟨i, k, hi, hmk, rfl⟩
    · rw [Hp.get_add] at hk
      split at hk
      · obtain rfl := Option.some.inj hk; exact .inl hm'
      · exact absurd (hR.lt' i k hk) (by omega)
    · rw [Hp.get_add]
      split
      · rename_i e; subst e; rw [hb] at hn; cases hn
      · exact hn
    · rw [Hp.get_add] at e2
      split at e2
      · rename_i e; subst e; rw [hb] at e1
        rw [← Option.some.inj e1, ← Option.some.inj e2, hm, hm']
      · rw [e1] at e2; rw [Option.some.inj e2]
    · rw [Hp.get_add]
      split
      · rename_i e; subst e; rw [hb] at e1; rw [← Option.some.inj e1, hm] at hmk; cases hmk
      · exact e1

/-- the temporaries of a round -/
def setPs (F : T V) : List Nat → List V → T V
  | t :: ps, v :: l => setPs (F.set t (some v)) ps l
  | _, _ => F

theorem setPs_ok : ∀ {ps : List Nat} {args : List V} {xs : List Value} {F : T V} {tmps : Array Value}, FRel μ K n F tmps → All2 (RV μ K) args xs →
    FRel μ K n (setPs F ps args) ((ps.zip xs).foldl (fun tmps p => tmps.setIfInBounds p.1 p.2) tmps)
  | [], _, _, _, _, hF, _ => hF
  | _ :: _, [], [], _, _, hF, _ => hF
  | t :: ps, v :: l, x :: xs, F, tmps, hF, ha => by
    refine setPs_ok (F := F.set t (some v)) (tmps := tmps.setIfInBounds t x) ⟨by simpa using hF.1, fun i hi => ?_⟩ ha.2
    rw [T.get_set]
    by_cases e : i = t
    · subst e
      have : (tmps.setIfInBounds i x).getD i Go.undef = x := by
        have : i < tmps.size := by rw [hF.1]; exact hi
        simp [Array.getD_eq_getD_getElem?, this]
      rw [this]
      simpa using ha.1
    · have : (tmps.setIfInBounds t x).getD i Go.undef = tmps.getD i Go.undef := by
        simp only [Array.getD_eq_getD_getElem?]
        rw [Array.getElem?_setIfInBounds_ne (fun h => e h.symm)]
      rw [this, if_neg e]
      exact hF.2 i hi
  | _ :: _, [], _ :: _, _, _, _, ha => ha.elim
  | _ :: _, _ :: _, [], _, _, _, ha => ha.elim

/-- how a round may end -/
def roundQ (b : Nat) (R : V → Hp → Prop) : Exit → T V → Hp → Prop
  | .normal, _, H => ∃ st j f n F ps sg bd, H.get b = some (.lp st j f n F ps sg bd) ∧ R (.bool true) (H.add b (.lp .ready none f n F ps sg bd))
  | .ret, _, H => ∃ st j f n F ps sg bd, H.get b = some (.lp st j f n F ps sg bd) ∧ R (.bool false) (H.add b (.lp .done (some .ret) f n F ps sg bd))
  | .exit id, _, H => ∃ st j f n F ps sg bd, H.get b = some (.lp st j f n F ps sg bd) ∧ R (.bool false) (H.add b (.lp .done (some (.exit id)) f n F ps sg bd))
  | _, _, _ => False

theorem endRound_ok {b : Nat} {R : V → Hp → Prop} (hR : Rel G μ K H w) (jump : Option Code) (hQ : ∃ st j f n F ps sg bd, H.get b = some (.lp st j f n F ps sg bd) ∧ R (.bool jump.isNone) (H.add b (.lp (if jump.isNone then .ready else .done) jump f n F ps sg bd))) :
    ∃ x w', (Instr.endRound (μ b).blk jump).run P w = .ok x w' ∧ ∃ v H' , R v H' ∧ RV μ K v x ∧ Rel G μ K H' w' ∧ Fr μ K H w μ K H' w' := by
  obtain ⟨st, j, f, n, F, ps, sg, bd, hb, hr⟩ := hQ
  obtain ⟨tmps, df, ho, hsz, hF⟩ := hR.blk b _ hb
  have hs := hR.setB (bk' := .lp (if jump.isNone then .ready else .done) jump f n F ps sg bd) (o := .loop ⟨if jump.isNone then .ready else .done, jump, f, tmps, ps, sg, bd, df⟩) hb rfl rfl ⟨tmps, df, rfl, hsz, hF⟩
  exact ⟨_, _, run_endRound jump ho, _, _, hr, rfl, hs.1, hs.2⟩

/-- A CALL OF YIELD -/
theorem ayield_ok {b : Nat} {args : List V} {j : Option Code} {f : FuncId} {n : Nat} {F : T V} {ps : Array Tmp} {sg bd : Code} {R : V → Hp → Prop} (hb : H.get b = some (.lp .ready j f n F ps sg bd)) (hlen : args.length = ps.size)
    (h : ∀ l, AWPr (some l) P G n sg (fun e F1 H1 => e = .normal ∧ ∃ j1 f1 n1 F0 ps1 as1 bd1, H1.get b = some (.lp .ready j1 f1 n1 F0 ps1 as1 bd1) ∧ AWPr (some l) P G n bd (roundQ b R) F1 (H1.add b (.lp .busy j1 f1 n1 F0 ps1 as1 bd1))) (setPs F ps.toList args) H) :
    AYield P G b args H R := by
  intro μ K w xs hR hK ha
  obtain ⟨tmps, df, ho, hsz, hF⟩ := hR.blk b _ hb
  refine ⟨_, _, _, _, run_yield ho (by simp [← ha.len, hlen]), roundIn_of_wpIn trivial ?_⟩
  have hF1 : FRel μ K n (setPs F ps.toList args) ((ps.zip xs.toArray).foldl (fun tmps (t, a) => tmps.setIfInBounds t a) tmps) := by
    have := setPs_ok (ps := ps.toList) (F := F) (tmps := tmps) ⟨hsz, hF⟩ ha
    have e : (ps.zip xs.toArray).foldl (fun tmps (t, a) => tmps.setIfInBounds t a) tmps = (ps.toList.zip xs).foldl (fun tmps p => tmps.setIfInBounds p.1 p.2) tmps := by
      rw [← Array.foldl_toList]
      simp
    rw [e]; exact this
  refine wpIn_mono (h (μ b).blk w.heap.size μ K w ⟨_, []⟩ hR hF1 (Dok.nil w (Nat.le_refl _))) fun e a1 w1 he => ?_
  obtain ⟨hd1, F1, H1, μ1, K1, ⟨rfl, j1, f1, n1, F0, ps1, as1, bd1, hb1, hbody⟩, hR1, hFr1, hfr1⟩ := he
  obtain ⟨tmps1, df1, ho1, hsz1, hF01⟩ := hR1.blk b _ hb1
  rw [hfr1.mu b hK] at ho1
  have hs := hR1.setB (bk' := .lp .busy j1 f1 n1 F0 ps1 as1 bd1) (o := .loop ⟨.busy, j1, f1, tmps1, ps1, as1, bd1, df1⟩) hb1 rfl rfl ⟨tmps1, df1, rfl, hsz1, hF01⟩
  rw [hfr1.mu b hK] at hs
  refine ⟨_, run_beginRound ho1 rfl, ?_⟩
  refine wpIn_mono (hbody _ μ1 K1 _ a1 hs.1 hFr1 (hd1.fr hR1 hs.2)) fun e a2 w2 he => ?_
  obtain ⟨hd2, F2, H2, μ2, K2, hq, hR2, hFr2, hfr2⟩ := he
  have hfr := (hfr1.trans hR.lt' hs.2).trans hR.lt' hfr2
  have hmu : μ2 b = μ b := hfr.mu b hK
  have fin : ∀ (jump : Option Code), (∃ st j f n F ps sg bd, H2.get b = some (.lp st j f n F ps sg bd) ∧ R (.bool jump.isNone) (H2.add b (.lp (if jump.isNone then .ready else .done) jump f n F ps sg bd))) →
      ∃ v w', (Instr.endRound (μ b).blk jump).run P w2 = .ok v w' ∧ ∃ x, Ending.returned v = .returned x ∧ ∃ v H' μ' K', R v H' ∧ RV μ' K' v x ∧ Rel G μ' K' H' w' ∧ Fr μ K H w μ' K' H' w' := by
    intro jump hj
    obtain ⟨x, w3, hr, v, H3, h1, h2, h3, h4⟩ := endRound_ok (P := P) (b := b) hR2 jump hj
    rw [hmu] at hr
    exact ⟨x, w3, hr, x, rfl, v, H3, μ2, K2, h1, h2, h3, hfr.trans hR.lt' h4⟩
  cases e with
  | normal => exact fin none hq
  | ret => exact fin (some .ret) hq
  | exit id => exact fin (some (.exit id)) hq
  | goto l => exact hq.elim
  | panic ch => exact hq.elim
  | outgrown => exact hq.elim

/-- THE STATEMENT -/
theorem awp_rf {g : Operand} {ps : Array Tmp} {sg bd : Code} {d : Opd} {f : FuncId} {caps : List (Nat × Nat)} {Q : Exit → T V → Hp → Prop} {F : T V} (hg : cO G n g = some d) (hdv : d.ev F = .one (.fn f caps)) (hf : isFn P f = true)
    (h : ∀ fid, ACalls P G f (.one (.yld H.nx) :: caps.map ptrV) (H.push (.lp .ready none fid n F ps sg bd)) fun _ H' => ∃ st j f1 n1 F1 ps1 as1 bd1, H'.get H.nx = some (.lp st j f1 n1 F1 ps1 as1 bd1) ∧ st ≠ .busy ∧
      (match j with
       | none => Q .normal F (H'.add H.nx (.lp .exhausted none f1 n1 F1 ps1 as1 bd1))
       | some c => AWPr none P G n c Q F (H'.add H.nx (.lp .exhausted (some c) f1 n1 F1 ps1 as1 bd1)))) :
    AWPr none P G n (.rangeFunc g ps sg bd) Q F H := by
  intro s μ K w a hR hF hd
  refine wpIn_rangeFunc fun fid _ => ?_
  have hv := cO_ok hR hF hg
  rw [hdv] at hv
  obtain ⟨hkc, hv'⟩ : (∀ p ∈ caps, K p.1) ∧ a.eval g = .func (.func f) #[] (caps.map fun p => Value.pointer (some ((μ p.1).addr p.2))).toArray := hv
  -- the two blocks
  obtain ⟨hR1, hfr1⟩ := hR.junk (.deferred (some []))
  have hlp : RB μ K ⟨w.heap.size + 1, 0, 0⟩ (.lp .ready none fid n F ps sg bd) (some (.loop ⟨.ready, none, fid, a.tmps, ps, sg, bd, w.heap.size⟩)) := ⟨_, _, rfl, hF.1, hF.2⟩
  have hpush := hR1.push (d := w.drawn) (sz := 0) (Nat.le_refl _) rfl (by simpa using hlp)
  simp only [Array.size_push] at hpush
  obtain ⟨hR2, hfr2⟩ := hpush
  refine ⟨w.heap.size + 1, [{ target := .collected w.heap.size, args := #[] }], { w with heap := (w.heap.push (.deferred (some []))).push (.loop ⟨.ready, none, fid, a.tmps, ps, sg, bd, w.heap.size⟩) }, ⟨.fn (.func f) (caps.map fun p => Value.pointer (some ((μ p.1).addr p.2))).toArray, #[.func (.yield (w.heap.size + 1)) #[] #[]]⟩, { w with heap := (w.heap.push (.deferred (some []))).push (.loop ⟨.ready, none, fid, a.tmps, ps, sg, bd, w.heap.size⟩) }, f,
    (Value.func (.yield (w.heap.size + 1)) #[] #[] :: caps.map fun p => Value.pointer (some ((μ p.1).addr p.2))).toArray, { w with heap := (w.heap.push (.deferred (some []))).push (.loop ⟨.ready, none, fid, a.tmps, ps, sg, bd, w.heap.size⟩) }, run_enterLoop_outer _ _ _ _ _, ?_, (fun _ _ => trivial), ?_, (fun h => absurd h (by decide)), ?_⟩
  · have e1 : a.eval (.const (.func (.yield (w.heap.size + 1)) #[] #[])) = .func (.yield (w.heap.size + 1)) #[] #[] := rfl
    simp [resolve, rangeCall, hv', Deferred.ofValue, e1]
  · simp [invoke, isFn_run hf]
  · have hargs : All2 (RV (fun i => if i = H.nx then (⟨w.heap.size + 1, 0, 0⟩ : Pl) else μ i) fun i => K i ∨ i = H.nx) (.one (.yld H.nx) :: caps.map ptrV) (Value.func (.yield (w.heap.size + 1)) #[] #[] :: caps.map fun p => Value.pointer (some ((μ p.1).addr p.2))) := by
      refine ⟨⟨.inr rfl, by simp⟩, ?_⟩
      refine All2.mk (by simp) fun j v x hv hx => ?_
      simp only [List.getElem?_map, Option.map_eq_some_iff] at hv hx
      obtain ⟨p, hp, rfl⟩ := hv
      obtain ⟨p', hp', rfl⟩ := hx
      rw [hp] at hp'
      obtain rfl := Option.some.inj hp'
      have hkp := hkc p (List.mem_of_getElem? hp)
      refine ⟨.inl hkp, ?_⟩
      have := hR.lt _ hkp
      show Value.pointer (some ((μ p.1).addr p.2)) = Value.pointer (some ((if p.1 = H.nx then _ else μ p.1).addr p.2))
      rw [if_neg (by omega)]
    refine callsIn_wide.2 ((h fid _ _ _ _ hR2 hargs).mono fun e w3 he => ?_)
    · obtain ⟨x, rfl, v, H3, μ3, K3, ⟨st, j, f1, n1, F1, ps1, as1, bd1, hb, hst, hj⟩, _, hR3, hfr3⟩ := he
      have hfr := (hfr1.trans hR.lt' hfr2).trans hR.lt' hfr3
      have hmu : μ3 H.nx = ⟨w.heap.size + 1, 0, 0⟩ := by
        rw [hfr3.mu H.nx (.inr rfl)]; simp
      obtain ⟨tmps, df, ho, hsz, hF1⟩ := hR3.blk H.nx _ hb
      have hs := hR3.setB (bk' := .lp .exhausted j f1 n1 F1 ps1 as1 bd1) (o := .loop ⟨.exhausted, j, f1, tmps, ps1, as1, bd1, df⟩) hb rfl rfl ⟨tmps, df, rfl, hsz, hF1⟩
      rw [hmu] at ho hs
      have hfr' := hfr.trans hR.lt' hs.2
      have hF3 : FRel μ3 K3 n F a.tmps := hF.mono hfr.kk hfr.mu
      refine ⟨j, _, run_endLoop ho hst, ?_⟩
      have hdef : Dok s ({ target := .collected w.heap.size, args := #[] } :: a.defers) (w3.putObj (w.heap.size + 1) (.loop ⟨.exhausted, j, f1, tmps, ps1, as1, bd1, df⟩)) := by
        refine ⟨Nat.le_trans hd.1 hfr'.size, List.nodup_cons.2 ⟨fun hm => ?_, hd.2.1⟩, fun d hdm => ?_⟩
        · obtain ⟨r, h1, _, h2⟩ := hd.2.2 _ hm
          simp only [Deferred.mk.injEq, Target.collected.injEq, and_true] at h1
          subst h1
          have := (Array.getElem?_eq_some_iff.1 h2).1
          omega
        rcases List.mem_cons.1 hdm with rfl | hdm
        · refine ⟨_, rfl, hd.1, ?_⟩
          have h0 : (w.heap.push (.deferred (some [])))[w.heap.size]? = some (.deferred (some [])) := by simp
          exact kept_def hR1 ((hfr2.trans hR1.lt' hfr3).trans hR1.lt' hs.2) h0
        · obtain ⟨r, h1, h3, h2⟩ := hd.2.2 d hdm
          exact ⟨r, h1, h3, kept_def hR hfr' h2⟩
      cases j with
      | none => exact ⟨hdef, F, _, μ3, K3, hj, hs.1, hF3, hfr'⟩
      | some c =>
        exact wpIn_mono (hj s μ3 K3 _ { a with defers := { target := .collected w.heap.size, args := #[] } :: a.defers } hs.1 hF3 hdef) fun e a' w' he => ends_trans hR.lt' hfr' he

theorem Rel.mark (hR : Rel G μ K H w) {r : Nat} {ds : Option (List Deferred)} (hr : w.heap[r]? = some (.deferred ds)) (o : Obj) : Rel G μ K H (w.putObj r o) :=
  ⟨hR.dom, hR.lt, fun b bk hb => by
    have hB := hR.blk b bk hb
    by_cases e : (μ b).blk = r
    · rw [e, hr] at hB
      cases bk with
      | row n z m rw => obtain ⟨_, _, _, h, _⟩ := hB; cases h
      | mp es => obtain ⟨_, _, h, _⟩ := hB; cases h
      | lp st j f n F ps sg bd => obtain ⟨_, _, h, _⟩ := hB; cases h
    · rw [World.putObj_heap_other e]; exact hB, hR.inj, hR.glob⟩
theorem Fr.mark {μ0 : Nat → Pl} {K0 : Nat → Prop} {H0 : Hp} {w0 : World} (h : Fr μ0 K0 H0 w0 μ K H w) {r : Nat} (hr : w0.heap.size ≤ r) (o : Obj) : Fr μ0 K0 H0 w0 μ K H (w.putObj r o) :=
  ⟨h.same, by simpa using h.size, fun i hi hne => by rw [World.putObj_heap_other (by omega)]; exact h.keep i hi hne, h.img, h.newmut, h.mu, h.kk, h.knew, h.nx, h.none, h.stay, h.ro⟩

/-- a function is left: the marks are taken off -/
theorem leave_ok {μ0 : Nat → Pl} {K0 : Nat → Prop} {H0 : Hp} {w0 : World} {fn : Func} {tmps : Array Value} {R : Ending → World → Prop} {nn : Nat} {F : Fence} : ∀ {D : List Deferred} {w : World}, Dok w0.heap.size D w → Rel G μ K H w → Fr μ0 K0 H0 w0 μ K H w →
    (∀ w', Rel G μ K H w' → Fr μ0 K0 H0 w0 μ K H w' → ∃ v, (results fn tmps).run P w' = .ok v w' ∧ R (.returned v) w') → LeavesInM F nn P fn tmps R D .returning w
  | [], w, _, hR, hFr, h => h w hR hFr
  | d :: D, w, hd, hR, hFr, h => by
    obtain ⟨r, rfl, h1, h2⟩ := hd.2.2 d (by simp)
    refine ⟨by simp, .inl ⟨r, _, rfl, run_takeDeferred h2, ?_⟩⟩
    refine leave_ok ⟨by simpa using hd.1, (List.nodup_cons.1 hd.2.1).2, fun d' hd' => ?_⟩ (hR.mark h2 _) (hFr.mark h1 _) h
    obtain ⟨r', rfl, h3, h4⟩ := hd.2.2 d' (by simp [hd'])
    refine ⟨r', rfl, h3, ?_⟩
    rw [World.putObj_heap_other]
    · exact h4
    · rintro rfl
      exact (List.nodup_cons.1 hd.2.1).1 hd'
end
end Go.Ab

/- From the model's code to the abstract code; the rules for it. -/
namespace Go.Ab

inductive SC where
  | skip
  | ops (l : List SOper) (res : Nat)
  | seq (a b : SC)
  | cond (d : Opd) (a b : SC)
  | block (id : Nat) (a : SC)
  | loop (a : SC)
  | exit (id : Nat)
  | ret
  /-- a range over a function: the function, a round's parameters, what it assigns, what it does -/
  | rf (d : Opd) (ps : List Nat) (a b : SC)
  | scope (a : SC)
  /-- not covered: no run comes here -/
  | no

/-- what is added to an operation: its reserved name, the loads it watches, whether it is watched -/
structure Extra where
  aid : Nat → Option Nat
  watch : Nat → List Nat
  keep : Nat → Bool

def cpOper (P : Program) (G n : Nat) (ops : Array Oper) (x : Extra) (i : Nat) : Option SOper :=
  match ops[i]? with
  | none => none
  | some o => match cpOp P G n o, cGuard n ops o.guard with
    | some op, some g => if cDst n o.dst then some ⟨i, o.dst, op, g, x.aid i, x.watch i, x.keep i⟩ else none
    | _, _ => none

def cpAll (P : Program) (G n : Nat) (ops : Array Oper) (x : Extra) : List Nat → Option (List SOper)
  | [] => some []
  | i :: r => match cpOper P G n ops x i, cpAll P G n ops x r with
    | some s, some l => some (s :: l)
    | _, _ => none

def noExtra : Extra := ⟨fun _ => none, fun _ => [], fun _ => false⟩

/-- all that each operation hangs on -/
def depsOf (ops : List Oper) : List (List Nat) :=
  ops.foldl (init := []) fun acc o => acc ++ [(o.after.toList.foldl (init := []) fun s e => if Region.binds .any e then (e.on :: acc.getD e.on []).foldl (fun s j => if s.contains j then s else j :: s) s else s)]

def Kd.light : Kd → Bool
  | .p => true
  | .l => true
  | _ => false

/-- light operations as early as may be, the others as the text has them -/
def sched (D : List (List Nat)) (kds : List Kd) : Nat → List Nat → List Nat → List Nat
  | 0, _, acc => acc.reverse
  | f + 1, rest, acc =>
    let ok := fun i => (D.getD i []).all fun j => acc.contains j
    match rest.find? fun i => (kds.getD i .e).light && ok i with
    | some i => sched D kds f (rest.filter (· != i)) (i :: acc)
    | none => match rest.find? fun i => !(kds.getD i .e).light with
      | some i => sched D kds f (rest.filter (· != i)) (i :: acc)
      | none => acc.reverse

def kdsOf (P : Program) (G n : Nat) (ops : List Oper) : List Kd := ops.map fun o => match cpOp P G n o with
  | some op => op.kd
  | none => .e

def Kd.isL : Kd → Bool
  | .l => true
  | _ => false
def Kd.isA : Kd → Bool
  | .a => true
  | _ => false
def Kd.isE : Kd → Bool
  | .e => true
  | .c => true
  | _ => false

/-- for each operation of the order: the loads before it that it does not hang on -/
def watches (D : List (List Nat)) (kds : List Kd) : List Nat → List Nat → List (Nat × List Nat)
  | [], _ => []
  | i :: r, ls =>
    if (kds.getD i .e).isE then (i, ls.filter fun j => !(D.getD i []).contains j) :: watches D kds r ls
    else watches D kds r (if (kds.getD i .e).isL then i :: ls else ls)

def pairsB (D : List (List Nat)) : List Nat → List SOper → Bool
  | i :: idx, s :: l => ((idx.zip l).all fun p => (D.getD p.1 []).contains i || swapOk s p.2) && pairsB D idx l
  | _, _ => true

def nodupB : List Nat → Bool
  | [] => true
  | i :: l => !l.contains i && nodupB l

def depB (D : List (List Nat)) (ops : Array Oper) (i : Nat) : Bool :=
  match ops[i]? with
  | none => true
  | some o => (D.getD i []).all (fun j => o.after.toList.any fun e => Region.binds .any e && (e.on == j || (D.getD e.on []).contains j)) && o.after.toList.all fun e => !Region.binds .any e || decide (e.on < i)

def drawB (D : List (List Nat)) (ops : Array Oper) (idx : List Nat) (l : List SOper) (res : Nat) : Bool :=
  pairsB D idx l && nodupB idx && idx.all (fun i => decide (i < ops.size)) && (List.range ops.size).all (fun i => idx.contains i) && (List.range ops.size).all (depB D ops) && nodupB (l.filterMap (·.aid)) && decide (idx.length ≤ ops.size) && (l.filterMap (·.aid)).all fun k => decide (k < res)

/-- .. calls and writes before blocks that are made -/
def sched2 (D : List (List Nat)) (kds : List Kd) : Nat → List Nat → List Nat → List Nat
  | 0, _, acc => acc.reverse
  | f + 1, rest, acc =>
    let ok := fun i => (D.getD i []).all fun j => acc.contains j
    match rest.find? fun i => (kds.getD i .e).light && ok i with
    | some i => sched2 D kds f (rest.filter (· != i)) (i :: acc)
    | none => match rest.find? fun i => (kds.getD i .e).isE && ok i with
      | some i => sched2 D kds f (rest.filter (· != i)) (i :: acc)
      | none => match rest.find? fun i => !(kds.getD i .e).light with
        | some i => sched2 D kds f (rest.filter (· != i)) (i :: acc)
        | none => acc.reverse

def cpDrawBy (P : Program) (G n : Nat) (ops : Array Oper) (idx : List Nat) : Option (List SOper) :=
  let D := depsOf ops.toList
  let kds := kdsOf P G n ops.toList
  let ws := watches D kds idx []
  let x : Extra := ⟨fun i => if (kds.getD i .e).isA then some i else none, fun i => ((ws.find? fun p => p.1 == i).map (·.2)).getD [], fun i => ws.any fun p => p.2.contains i⟩
  match cpAll P G n ops x idx with
  | none => none
  | some l => if drawB D ops idx l ops.size then some l else none

def cpDraw (P : Program) (G n : Nat) (ops : Array Oper) : Option (List SOper) :=
  match cpDrawBy P G n ops (sched (depsOf ops.toList) (kdsOf P G n ops.toList) ops.size (List.range ops.size) []) with
  | some l => some l
  | none => cpDrawBy P G n ops (sched2 (depsOf ops.toList) (kdsOf P G n ops.toList) ops.size (List.range ops.size) [])

def cpCode (P : Program) (G n : Nat) : Code → Option SC
  | .skip => some .skip
  | .region _ ops draw =>
    if draw then (cpDraw P G n ops).map fun l => .ops l ops.size
    else (cpAll P G n ops noExtra (List.range ops.size)).map fun l => .ops l 0
  | .seq a b => match cpCode P G n a, cpCode P G n b with
    | some a, some b => some (.seq a b)
    | _, _ => none
  | .cond c a b => match cO G n c, cpCode P G n a, cpCode P G n b with
    | some d, some a, some b => some (.cond d a b)
    | _, _, _ => none
  | .block id a => (cpCode P G n a).map (.block id)
  | .loop a => (cpCode P G n a).map .loop
  | .exit id => some (.exit id)
  | .ret => some .ret
  | .rangeFunc g ps sg bd => match cO G n g, cpCode P G n sg, cpCode P G n bd with
    | some d, some a, some b => some (.rf d ps.toList a b)
    | _, _, _ => none
  | .scope a => (cpCode P G n a).map .scope
  | .label _ => some .skip
  | _ => some .no

inductive SRes where
  | t (n : Nat)
  | cell (agg : Bool) (k : Nat) (n : Nat)

def aRes (F : T V) (H : Hp) : SRes → Option V
  | .t n => some ((F.get n).getD V.undef)
  | .cell agg k n => aLoad F H (.load agg k (.t n))

def aResL (F : T V) (H : Hp) : List SRes → Option (List V)
  | [] => some []
  | r :: l => match aRes F H r, aResL F H l with
    | some v, some vs => if isOne v then some (v :: vs) else none
    | _, _ => none

def aResult (F : T V) (H : Hp) (rs : List SRes) : Option V :=
  match aResL F H rs with
  | some [v] => some v
  | some vs => some (.tup vs)
  | none => none

def cpRes (P : Program) (n : Nat) : List ResultVar → Option (List SRes)
  | [] => some []
  | .tmp t :: l => if t < n then (cpRes P n l).map (.t t :: ·) else none
  | .cell a t :: l => match isAggT P t, sizeT P t with
    | some g, some k => if a < n then (cpRes P n l).map (.cell g k a :: ·) else none
    | _, _ => none

structure SFn where
  n : Nat
  code : SC
  res : List SRes

def cpFn (P : Program) (G : Nat) (f : FuncId) : Option SFn :=
  match P.funcs[f]? with
  | none => none
  | some fn => match fn.body with
    | none => none
    | some c => match cpCode P G fn.ntmps c, cpRes P fn.ntmps fn.results.toList with
      | some s, some rs => some ⟨fn.ntmps, s, rs⟩
      | _, _ => none

def initF : List V → Nat → T V
  | [], _ => .lf
  | v :: l, i => (initF l (i + 1)).set i (some v)

def retQ (rs : List SRes) (R : V → Hp → Prop) : Exit → T V → Hp → Prop
  | .normal, F, H => match aResult F H rs with
    | some v => R v H
    | none => False
  | .ret, F, H => match aResult F H rs with
    | some v => R v H
    | none => False
  | _, _, _ => False

/-- WHAT ABSTRACT CODE COMES TO. -/
def SWPr (ρ : Option Nat) (P : Program) (G n : Nat) (s : SC) (Q : Exit → T V → Hp → Prop) (F : T V) (H : Hp) : Prop := ∀ c, cpCode P G n c = some s → AWPr ρ P G n c Q F H
abbrev SWP := SWPr none

section
variable {P : Program} {G n : Nat} {ρ : Option Nat}

theorem cpOper_fits {ops : Array Oper} {x : Extra} {i : Nat} {s : SOper} (h : cpOper P G n ops x i = some s) : (∃ o, ops[i]? = some o ∧ Fits P G n ops o s) ∧ s.aid = x.aid i := by
  unfold cpOper at h
  split at h
  · cases h
  · rename_i o ho
    split at h
    · rename_i op g h1 h2
      split at h
      · rename_i h3
        obtain rfl := Option.some.inj h
        exact ⟨⟨o, ho, h1, rfl, h3, h2⟩, rfl⟩
      · cases h
    · cases h

theorem cpAll_aligned {ops : Array Oper} {x : Extra} : ∀ {idx : List Nat} {l : List SOper}, cpAll P G n ops x idx = some l → Aligned P G n ops idx l ∧ ∀ s ∈ l, ∃ i ∈ idx, s.aid = x.aid i
  | [], l, h => by simp [cpAll] at h; subst h; exact ⟨trivial, by simp⟩
  | i :: idx, l, h => by
    simp only [cpAll] at h
    split at h
    · rename_i s r h1 h2
      obtain rfl := Option.some.inj h
      obtain ⟨g1, g2⟩ := cpOper_fits h1
      obtain ⟨g3, g4⟩ := cpAll_aligned h2
      refine ⟨⟨g1, g3⟩, fun t ht => ?_⟩
      rcases List.mem_cons.1 ht with rfl | ht
      · exact ⟨i, by simp, g2⟩
      · obtain ⟨j, hj, e⟩ := g4 t ht; exact ⟨j, by simp [hj], e⟩
    · cases h

theorem pairsB_ok {D : List (List Nat)} : ∀ {idx : List Nat} {l : List SOper}, pairsB D idx l = true → PairsOk (fun i => D.getD i []) idx l
  | i :: idx, s :: l, h => by
    simp only [pairsB, Bool.and_eq_true, List.all_eq_true] at h
    refine ⟨fun j t hjt => ?_, pairsB_ok h.2⟩
    have := h.1 (j, t) hjt
    simp only [Bool.or_eq_true] at this
    exact this.imp (by simp) id
  | [], _, _ => trivial
  | _ :: _, [], _ => trivial

theorem nodupB_ok : ∀ {l : List Nat}, nodupB l = true → l.Nodup
  | [], _ => List.nodup_nil
  | i :: l, h => by
    simp only [nodupB, Bool.and_eq_true] at h
    exact List.nodup_cons.2 ⟨by simpa using h.1, nodupB_ok h.2⟩

theorem awp_draw (hm : P.follows .mixedOrders = true) {id res : Nat} {ops : Array Oper} {D : List (List Nat)} {idx : List Nat} {l : List SOper} (hal : Aligned P G n ops idx l) (hB : drawB D ops idx l res = true)
    {Q : Exit → T V → Hp → Prop} {F : T V} {H : Hp} (h : wOps P G H.nx (Q .normal) l [] F (H.skip res)) : AWPr ρ P G n (.region id ops true) Q F H := by
  intro s μ K w a hR hF hd
  unfold drawB at hB
  simp only [Bool.and_eq_true, List.all_eq_true, decide_eq_true_eq, List.mem_range] at hB
  obtain ⟨⟨⟨⟨⟨⟨⟨h1, h2⟩, h3⟩, h4⟩, h5⟩, h6⟩, h8⟩, h7⟩ := hB
  have hdep : ∀ i o, ops[i]? = some o → depB D ops i = true := fun i o ho => h5 i (Array.getElem?_eq_some_iff.1 ho).1
  refine wpIn_region_any hm ?_
  have hR' := (hR.drawn (w.drawn + 1)).skip res
  refine any_ok (D := fun i => D.getD i []) (base := H.nx) (Q := Q .normal) (μ0 := μ) (K0 := K) (H0 := H) (w0 := w) hR.lt' (fun μ' K' F' H' a' w' g1 g2 g3 g4 g5 => ⟨by rw [g5]; exact hd.fr hR g4, F', H', μ', K', g1, g2, g3, g4⟩) (fun i o ho j hj => ?_) (fun i o ho e he hb => ?_)
    (by simp) (fun i hi => ?_) (fun i hi => h3 i hi) (nodupB_ok h2) ?_ (fun i hi hni => ?_) hal (pairsB_ok h1) (nodupB_ok h6) (fun k p hp => by cases hp) (fun s hs k hk => ?_) hR' hF ((Fr.drawn hR _ (Nat.le_succ _)).trans hR.lt' (Fr.skip (hR.drawn _) res)) rfl h
  · have := hdep i o ho
    unfold depB at this
    rw [ho] at this
    simp only [Bool.and_eq_true, List.all_eq_true, List.any_eq_true, Bool.or_eq_true] at this
    obtain ⟨e, he, hb, hh⟩ := this.1 j hj
    exact ⟨e, he, hb, hh.imp (by simp) (by simp)⟩
  · have := hdep i o ho
    unfold depB at this
    rw [ho] at this
    simp only [Bool.and_eq_true, List.all_eq_true, Bool.or_eq_true, decide_eq_true_eq, Bool.not_eq_true'] at this
    rcases this.2 e he with h | h
    · rw [hb] at h; cases h
    · exact h
  · constructor
    · intro _
      have := h4 i hi
      simpa using this
    · intro _; simp [hi]
  · exact h8
  · exact absurd (by have := h4 i hi; simpa using this) hni
  · have hk' : k < res := h7 k (List.mem_filterMap.2 ⟨s, hs, hk⟩)
    refine ⟨fun hkk => absurd (hR.lt _ hkk) (by omega), by simp; omega, by omega⟩

theorem swp_skip {Q : Exit → T V → Hp → Prop} {F : T V} {H : Hp} (h : Q .normal F H) : SWPr ρ P G n .skip Q F H := by
  intro c hc
  cases c <;> simp only [cpCode] at hc <;> try (cases hc; done)
  case skip => exact awp_skip h
  case label l => exact awp_label h
  case region id ops draw => split at hc <;> simp at hc
  case seq a b => split at hc <;> cases hc
  case rangeFunc g ps a b => split at hc <;> cases hc
  case cond d a b => split at hc <;> cases hc
  case block id a => simp at hc
  case loop a => simp at hc
  case scope a => simp at hc

theorem swp_ops (hm : P.follows .mixedOrders = true) {l : List SOper} {res : Nat} {Q : Exit → T V → Hp → Prop} {F : T V} {H : Hp} (h : wOps P G H.nx (Q .normal) l [] F (H.skip res)) : SWPr ρ P G n (.ops l res) Q F H := by
  intro c hc
  cases c <;> simp only [cpCode] at hc <;> try (cases hc; done)
  case region id ops draw =>
    cases draw with
    | false =>
      simp only [Bool.false_eq_true, if_false, Option.map_eq_some_iff, SC.ops.injEq] at hc
      obtain ⟨l', hl, rfl, rfl⟩ := hc
      obtain ⟨h1, h2⟩ := cpAll_aligned hl
      exact awp_region h1 (fun s hs => by obtain ⟨i, _, e⟩ := h2 s hs; exact e) h
    | true =>
      simp only [if_true, Option.map_eq_some_iff, SC.ops.injEq] at hc
      obtain ⟨l', hl, rfl, rfl⟩ := hc
      have by_ : ∀ idx l'', cpDrawBy P G n ops idx = some l'' → wOps P G H.nx (Q .normal) l'' [] F (H.skip ops.size) → AWPr ρ P G n (.region id ops true) Q F H := by
        intro idx l'' hl h
        unfold cpDrawBy at hl
        simp only at hl
        split at hl
        · cases hl
        · rename_i l3 hall
          split at hl
          · rename_i hB
            obtain rfl := Option.some.inj hl
            exact awp_draw hm (cpAll_aligned hall).1 hB h
          · cases hl
      unfold cpDraw at hl
      split at hl
      · rename_i l2 h2
        obtain rfl := Option.some.inj hl
        exact by_ _ _ h2 h
      · exact by_ _ _ hl h
  case seq a b => split at hc <;> cases hc
  case rangeFunc g ps a b => split at hc <;> cases hc
  case cond d a b => split at hc <;> cases hc
  case block id a => simp at hc
  case loop a => simp at hc
  case scope a => simp at hc

theorem swp_seq {a b : SC} {Q : Exit → T V → Hp → Prop} {F : T V} {H : Hp} (h : SWPr ρ P G n a (thenQ (SWPr ρ P G n b Q) Q) F H) : SWPr ρ P G n (.seq a b) Q F H := by
  intro c hc
  cases c <;> simp only [cpCode] at hc <;> try (cases hc; done)
  case seq x y =>
    split at hc
    · rename_i x' y' hx hy
      simp only [Option.some.injEq, SC.seq.injEq] at hc
      obtain ⟨rfl, rfl⟩ := hc
      refine awp_seq (awp_mono (h x hx) fun e F' H' he => ?_)
      cases e with
      | normal => exact (show SWPr ρ P G n y' Q F' H' from he) y hy
      | _ => exact he
    · cases hc
  case region id ops draw => split at hc <;> simp at hc
  case cond d a b => split at hc <;> cases hc
  case block id a => simp at hc
  case loop a => simp at hc
  case scope a => simp at hc
  case rangeFunc g ps a b => split at hc <;> cases hc

theorem swp_cond {d : Opd} {a b : SC} {Q : Exit → T V → Hp → Prop} {F : T V} {H : Hp} {t : Bool} (ht : d.ev F = .one (.bool t)) (h : SWPr ρ P G n (if t then a else b) Q F H) : SWPr ρ P G n (.cond d a b) Q F H := by
  intro c hc
  cases c <;> simp only [cpCode] at hc <;> try (cases hc; done)
  case cond o x y =>
    split at hc
    · rename_i d' x' y' h1 hx hy
      simp only [Option.some.injEq, SC.cond.injEq] at hc
      obtain ⟨rfl, rfl, rfl⟩ := hc
      refine awp_cond h1 ht ?_
      cases t
      · exact h y hy
      · exact h x hx
    · cases hc
  case region id ops draw => split at hc <;> simp at hc
  case seq a b => split at hc <;> cases hc
  case rangeFunc g ps a b => split at hc <;> cases hc
  case block id a => simp at hc
  case loop a => simp at hc
  case scope a => simp at hc

theorem swp_block {id : Nat} {a : SC} {Q : Exit → T V → Hp → Prop} {F : T V} {H : Hp} (h : SWPr ρ P G n a (blockQ id Q) F H) : SWPr ρ P G n (.block id a) Q F H := by
  intro c hc
  cases c <;> simp only [cpCode] at hc <;> try (cases hc; done)
  case block id' x =>
    simp only [Option.map_eq_some_iff, SC.block.injEq] at hc
    obtain ⟨x', hx, rfl, rfl⟩ := hc
    exact awp_block (h x hx)
  case region id ops draw => split at hc <;> simp at hc
  case seq a b => split at hc <;> cases hc
  case rangeFunc g ps a b => split at hc <;> cases hc
  case cond d a b => split at hc <;> cases hc
  case loop a => simp at hc
  case scope a => simp at hc

theorem swp_loop {a : SC} {Q : Exit → T V → Hp → Prop} {F : T V} {H : Hp} (I : Nat → T V → Hp → Prop) {m : Nat} (h0 : I m F H) (round : ∀ m F H, I m F H → SWPr ρ P G n a (thenQ (fun F' H' => ∃ m', m' < m ∧ I m' F' H') Q) F H) : SWPr ρ P G n (.loop a) Q F H := by
  intro c hc
  cases c <;> simp only [cpCode] at hc <;> try (cases hc; done)
  case loop x =>
    simp only [Option.map_eq_some_iff, SC.loop.injEq] at hc
    obtain ⟨x', hx, rfl⟩ := hc
    exact awp_loop I h0 fun m F H hI => round m F H hI x hx
  case region id ops draw => split at hc <;> simp at hc
  case seq a b => split at hc <;> cases hc
  case rangeFunc g ps a b => split at hc <;> cases hc
  case cond d a b => split at hc <;> cases hc
  case block id a => simp at hc
  case scope a => simp at hc

theorem swp_scope {a : SC} {Q : Exit → T V → Hp → Prop} {F : T V} {H : Hp} (h : SWPr ρ P G n a (scopeQ Q) F H) : SWPr ρ P G n (.scope a) Q F H := by
  intro c hc
  cases c <;> simp only [cpCode] at hc <;> try (cases hc; done)
  case scope x =>
    simp only [Option.map_eq_some_iff, SC.scope.injEq] at hc
    obtain ⟨x', hx, rfl⟩ := hc
    exact awp_scope (h x hx)
  case rangeFunc g ps a b => split at hc <;> cases hc
  case region id ops draw => split at hc <;> simp at hc
  case seq a b => split at hc <;> cases hc
  case cond d a b => split at hc <;> cases hc
  case block id a => simp at hc
  case loop a => simp at hc

theorem swp_exit {id : Nat} {Q : Exit → T V → Hp → Prop} {F : T V} {H : Hp} (h : Q (.exit id) F H) : SWPr ρ P G n (.exit id) Q F H := by
  intro c hc
  cases c <;> simp only [cpCode] at hc <;> try (cases hc; done)
  case exit id' => simp only [Option.some.injEq, SC.exit.injEq] at hc; subst hc; exact awp_exit h
  case region id ops draw => split at hc <;> simp at hc
  case seq a b => split at hc <;> cases hc
  case rangeFunc g ps a b => split at hc <;> cases hc
  case cond d a b => split at hc <;> cases hc
  case block id a => simp at hc
  case loop a => simp at hc
  case scope a => simp at hc

theorem swp_ret {Q : Exit → T V → Hp → Prop} {F : T V} {H : Hp} (h : Q .ret F H) : SWPr ρ P G n .ret Q F H := by
  intro c hc
  cases c <;> simp only [cpCode] at hc <;> try (cases hc; done)
  case ret => exact awp_ret h
  case region id ops draw => split at hc <;> simp at hc
  case seq a b => split at hc <;> cases hc
  case rangeFunc g ps a b => split at hc <;> cases hc
  case cond d a b => split at hc <;> cases hc
  case block id a => simp at hc
  case loop a => simp at hc
  case scope a => simp at hc

/-- how a range over a function goes on -/
def jumpQ (Q : Exit → T V → Hp → Prop) : Option Code → T V → Hp → Prop
  | none => Q .normal
  | some .ret => Q .ret
  | some (.exit id) => Q (.exit id)
  | _ => fun _ _ => False

theorem swp_rf {d : Opd} {ps : List Nat} {sa sb : SC} {f : FuncId} {caps : List (Nat × Nat)} {Q : Exit → T V → Hp → Prop} {F : T V} {H : Hp} (hdv : d.ev F = .one (.fn f caps)) (hf : isFn P f = true)
    (h : ∀ fid sg bd, cpCode P G n sg = some sa → cpCode P G n bd = some sb → ACalls P G f (.one (.yld H.nx) :: caps.map ptrV) (H.push (.lp .ready none fid n F ps.toArray sg bd)) fun _ H' => ∃ st j f1 n1 F1 ps1 as1 bd1, H'.get H.nx = some (.lp st j f1 n1 F1 ps1 as1 bd1) ∧ st ≠ .busy ∧
      jumpQ Q j F (H'.add H.nx (.lp .exhausted j f1 n1 F1 ps1 as1 bd1))) : SWP P G n (.rf d ps sa sb) Q F H := by
  intro c hc
  cases c <;> simp only [cpCode] at hc <;> try (cases hc; done)
  case rangeFunc g ps' sg bd =>
    split at hc
    · rename_i d' a' b' hg ha hb
      simp only [Option.some.injEq, SC.rf.injEq] at hc
      obtain ⟨rfl, rfl, rfl, rfl⟩ := hc
      refine awp_rf hg hdv hf fun fid => (h fid sg bd ha hb).mono fun _ H' hh => ?_
      obtain ⟨st, j, f1, n1, F1, ps1, as1, bd1, h1, h2, h3⟩ := hh
      refine ⟨st, j, f1, n1, F1, ps1, as1, bd1, by simpa using h1, h2, ?_⟩
      cases j with
      | none => exact h3
      | some c => cases c <;> first | exact h3.elim | exact awp_ret h3 | exact awp_exit h3
    · cases hc
  case region id ops draw => split at hc <;> simp at hc
  case seq a b => split at hc <;> cases hc
  case cond d a b => split at hc <;> cases hc
  case block id a => simp at hc
  case loop a => simp at hc
  case scope a => simp at hc

/-- A CALL OF YIELD, by the abstract round -/
theorem syield_ok {b : Nat} {args : List V} {j : Option Code} {f : FuncId} {F : T V} {ps : Array Tmp} {sg bd : Code} {sa sb : SC} {R : V → Hp → Prop} {H : Hp} (hb : H.get b = some (.lp .ready j f n F ps sg bd)) (hlen : args.length = ps.size) (ha : cpCode P G n sg = some sa) (hbd : cpCode P G n bd = some sb)
    (h : ∀ l, SWPr (some l) P G n sa (fun e F1 H1 => e = .normal ∧ ∃ j1 f1 n1 F0 ps1 as1 bd1, H1.get b = some (.lp .ready j1 f1 n1 F0 ps1 as1 bd1) ∧ SWPr (some l) P G n sb (roundQ b R) F1 (H1.add b (.lp .busy j1 f1 n1 F0 ps1 as1 bd1))) (setPs F ps.toList args) H) :
    AYield P G b args H R :=
  ayield_ok hb hlen fun l => awp_mono (h l sg ha) fun e F1 H1 ⟨he, j1, f1, n1, F0, ps1, as1, bd1, h1, h2⟩ => ⟨he, j1, f1, n1, F0, ps1, as1, bd1, h1, h2 bd hbd⟩

theorem swp_mono {s : SC} {Q Q' : Exit → T V → Hp → Prop} {F : T V} {H : Hp} (h : SWPr ρ P G n s Q F H) (hq : ∀ e F H, Q e F H → Q' e F H) : SWPr ρ P G n s Q' F H :=
  fun c hc => awp_mono (h c hc) hq

/-- a heap that a world can have -/
def WF (H : Hp) : Prop := ∀ b bk, H.get b = some bk → b < H.nx

theorem swp_wf {s : SC} {Q : Exit → T V → Hp → Prop} {F : T V} {H : Hp} (h : WF H → SWPr ρ P G n s Q F H) : SWPr ρ P G n s Q F H :=
  fun c hc s μ K w a hR hF hd => h hR.lt' c hc s μ K w a hR hF hd
theorem acalls_wf {f : FuncId} {args : List V} {H : Hp} {R : V → Hp → Prop} (h : WF H → ACalls P G f args H R) : ACalls P G f args H R :=
  fun μ K w xs hR ha => h hR.lt' μ K w xs hR ha
theorem ACalls.wf {f : FuncId} {args : List V} {H : Hp} {R : V → Hp → Prop} (h : ACalls P G f args H R) : ACalls P G f args H fun v H' => R v H' ∧ WF H' :=
  fun μ K w xs hR ha => (h μ K w xs hR ha).mono fun _ _ ⟨x, he, v, H', μ', K', h1, h2, h3, h4⟩ => ⟨x, he, v, H', μ', K', ⟨h1, h3.lt'⟩, h2, h3, h4⟩

theorem initF_get : ∀ {l : List V} {i j : Nat}, (initF l i).get j = if i ≤ j then l[j - i]? else none
  | [], i, j => by simp [initF]
  | v :: l, i, j => by
    simp only [initF]
    rw [T.get_set]
    by_cases e : j = i
    · subst e; simp
    · rw [if_neg e, initF_get]
      by_cases h : i + 1 ≤ j
      · rw [if_pos h, if_pos (by omega), show j - i = (j - (i + 1)) + 1 by omega]; simp
      · rw [if_neg h, if_neg (by omega)]

def resOne (tmps : Array Value) : ResultVar → Sem Value
  | .tmp t => pure (tmps.getD t Go.undef)
  | .cell c t => do loadVar t (← asAddr (tmps.getD c Go.undef))

theorem mapM_head {rv : List ResultVar} {r : ResultVar} {f : ResultVar → Sem Value} {x : Value} {xs : List Value} {w : World} (h1 : (f r).run P w = .ok x w) (h2 : (rv.mapM f).run P w = .ok xs w) : ((r :: rv).mapM f).run P w = .ok (x :: xs) w := by
  rw [List.mapM_cons, Sem.run_bind, h1, Result.andThen_ok, Sem.run_bind, h2]
  rfl

theorem aRes_ok {μ : Nat → Pl} {K : Nat → Prop} {F : T V} {H : Hp} {w : World} {a : Act} (hR : Rel G μ K H w) (hF : FRel μ K n F a.tmps) : ∀ {rv : List ResultVar} {rs : List SRes} {vs : List V}, cpRes P n rv = some rs → aResL F H rs = some vs →
    ∃ xs : List Value, All2 (RV1 μ K) vs xs ∧ (rv.mapM (resOne a.tmps)).run P w = .ok xs w
  | [], rs, vs, h1, h2 => by
    simp [cpRes] at h1; subst h1
    simp [aResL] at h2; subst h2
    exact ⟨[], trivial, by simp⟩
  | .tmp t :: rv, rs, vs, h1, h2 => by
    simp only [cpRes] at h1
    split at h1
    · rename_i ht
      simp only [Option.map_eq_some_iff] at h1
      obtain ⟨rs', hrs, rfl⟩ := h1
      simp only [aResL, aRes] at h2
      split at h2
      · rename_i v vs' e1 e2
        split at h2
        · rename_i hone
          obtain rfl := Option.some.inj h2
          obtain rfl := Option.some.inj e1
          obtain ⟨xs, hall, hrun⟩ := aRes_ok hR hF hrs e2
          exact ⟨a.tmps.getD t Go.undef :: xs, ⟨isOne_rv hone (hF.2 t ht), hall⟩, mapM_head rfl hrun⟩
        · cases h2
      · cases h2
    · cases h1
  | .cell c t :: rv, rs, vs, h1, h2 => by
    simp only [cpRes] at h1
    split at h1
    · rename_i g k hg hk
      split at h1
      · rename_i hc
        simp only [Option.map_eq_some_iff] at h1
        obtain ⟨rs', hrs, rfl⟩ := h1
        simp only [aResL, aRes] at h2
        split at h2
        · rename_i v vs' e1 e2
          split at h2
          · rename_i hone
            obtain rfl := Option.some.inj h2
            obtain ⟨xs, hall, hrun⟩ := aRes_ok hR hF hrs e2
            have hv := hF.2 c hc
            simp only [aLoad, Opd.ev] at e1
            split at e1
            · rename_i b o he
              rw [he] at hv
              obtain ⟨hkb, hv'⟩ : K b ∧ a.tmps.getD c Go.undef = .pointer (some ((μ b).addr o)) := hv
              cases g with
              | true =>
                simp only [if_true, Option.map_eq_some_iff] at e1
                obtain ⟨l, hl, rfl⟩ := e1
                obtain ⟨ys, ha, hr⟩ := hR.loads (P := P) (n := k) (b := b) (o := o) (i := 0) (acc := #[]) hl
                have hr' : (loadCells ((μ b).addr o) k).run P w = .ok ys.toArray w := by simpa [loadCells] using hr
                refine ⟨.agg ys.toArray :: xs, ⟨⟨ys, rfl, ha⟩, hall⟩, mapM_head ?_ hrun⟩
                simp only [resOne, Sem.run_bind, hv', asAddr, Sem.run_pure, Result.andThen_ok, loadVar, isAggT_run hg, if_true, sizeT_run hk, hr']
              | false =>
                simp only [Bool.false_eq_true, if_false, Option.map_eq_some_iff] at e1
                obtain ⟨cc, hcc, rfl⟩ := e1
                obtain ⟨y, hy, hr⟩ := hR.cell hcc
                refine ⟨y :: xs, ⟨hr, hall⟩, mapM_head ?_ hrun⟩
                simp only [resOne, Sem.run_bind, hv', asAddr, Sem.run_pure, Result.andThen_ok, loadVar, isAggT_run hg, Bool.false_eq_true, if_false, run_load, hy]
            · cases e1
          · cases h2
        · cases h2
      · cases h1
    · cases h1

/-- A FUNCTION, BY ITS ABSTRACT BODY. -/
theorem fn_ok {f : FuncId} {sf : SFn} (hf : cpFn P G f = some sf) {args : List V} {H : Hp} {R : V → Hp → Prop} (hn : args.length ≤ sf.n) (h : SWP P G sf.n sf.code (retQ sf.res R) (initF args 0) H) : ACalls P G f args H R := by
  unfold cpFn at hf
  split at hf
  · cases hf
  · rename_i fn hfn
    split at hf
    · cases hf
    · rename_i c hb
      split at hf
      · rename_i s rs hs hrs
        obtain rfl := Option.some.inj hf
        intro μ K w xs hR ha
        refine (callsIn_wide (n := 0)).1 (callsIn_of_wp_marks hfn hb trivial ?_)
        have hlen := ha.len
        have hF0 : FRel μ K fn.ntmps (initF args 0) (xs.toArray ++ Array.replicate (fn.ntmps - xs.toArray.size) Go.undef) := by
          refine ⟨by simp; simp at hn; omega, fun i hi => ?_⟩
          rw [initF_get]
          simp only [Nat.zero_le, if_true, Nat.sub_zero]
          by_cases hlt : i < xs.length
          · have h1 : args[i]? = some args[i] := List.getElem?_eq_getElem (by omega)
            rw [h1]
            obtain ⟨x, hx, hr⟩ := ha.at i _ h1
            have : (xs.toArray ++ Array.replicate (fn.ntmps - xs.toArray.size) Go.undef).getD i Go.undef = x := by
              simp [Array.getD_eq_getD_getElem?, Array.getElem?_append, hlt, List.getElem?_eq_getElem hlt] at hx ⊢
              exact hx
            rw [this]
            exact hr
          · have h1 : args[i]? = none := List.getElem?_eq_none (by omega)
            rw [h1]
            have : (xs.toArray ++ Array.replicate (fn.ntmps - xs.toArray.size) Go.undef).getD i Go.undef = Go.undef := by
              simp only [Array.getD_eq_getD_getElem?, Array.getElem?_append]
              rw [if_neg (by simpa using hlt)]
              rw [Array.getElem?_replicate]
              split <;> rfl
            rw [this]
            exact RV.undef
        refine wpIn_mono (h c hs w.heap.size μ K w ⟨_, []⟩ hR hF0 (Dok.nil w (Nat.le_refl _))) fun e a' w' he => ?_
        obtain ⟨hd, F', H', μ', K', h1, h3, h4', h5⟩ := he
        have fin : (match aResult F' H' rs with
            | some v => R v H'
            | none => False) → LeavesInM Fence.wide 0 P fn a'.tmps (fun e w' => ∃ x, e = .returned x ∧ ∃ v H' μ' K', R v H' ∧ RV μ' K' v x ∧ Rel G μ' K' H' w' ∧ Fr μ K H w μ' K' H' w') a'.defers .returning w' := by
          intro hres
          refine leave_ok hd h3 h5 fun w' h2 h4 => ?_
          unfold aResult at hres
          cases hl : aResL F' H' rs with
          | none => simp [hl] at hres
          | some vs =>
            obtain ⟨ys, hall, hrun⟩ := aRes_ok (P := P) h2 h4' hrs hl
            have hrun' : (results fn a'.tmps).run P w' = .ok (if h : ys.toArray.size = 1 then ys.toArray[0] else .tuple ys.toArray) w' := by
              have he : results fn a'.tmps = (do let vs ← fn.results.mapM (resOne a'.tmps); pure (if h : vs.size = 1 then vs[0] else .tuple vs)) := by
                unfold results resOne
                rfl
              rw [he, Sem.run_bind, Array.mapM_eq_mapM_toList, Sem.run_map, hrun]
              rfl
            clear hrun
            match vs, ys, hall, hl, hrun' with
            | [v], [y], hall, hl, hrun' =>
              simp only [hl] at hres
              exact ⟨y, by rw [hrun']; rfl, y, rfl, v, H', μ', K', hres, RV.of1 hall.1, h2, h4⟩
            | [], [], _, hl, hrun' =>
              simp only [hl] at hres
              exact ⟨.tuple #[], by rw [hrun']; rfl, _, rfl, .tup [], H', μ', K', hres, RV.undef, h2, h4⟩
            | v1 :: v2 :: vs, y1 :: y2 :: ys, hall, hl, hrun' =>
              simp only [hl] at hres
              exact ⟨.tuple (y1 :: y2 :: ys).toArray, by rw [hrun']; simp, _, rfl, .tup (v1 :: v2 :: vs), H', μ', K', hres, ⟨_, rfl, hall⟩, h2, h4⟩
            | [], _ :: _, hall, _, _ => exact hall.elim
            | _ :: _, [], hall, _, _ => exact hall.elim
            | [_], _ :: _ :: _, hall, _, _ => exact hall.2.elim
            | _ :: _ :: _, [_], hall, _, _ => exact hall.2.elim
        cases e with
        | normal => exact fin h1
        | ret => exact fin h1
        | exit id => exact h1.elim
        | goto l => exact h1.elim
        | panic ch => exact h1.elim
        | outgrown => exact h1.elim
      · cases hf
end
end Go.Ab

/- An evaluator for closed calls, and calls beside memory that they do not know. -/
namespace Go.Ab

def Ceq : C → C → Bool
  | .bool a, .bool b => a == b
  | .int k a, .int k' b => decide (k = k') && decide (a = b)
  | .str a, .str b => decide (a.data = b.data)
  | .ptr b o, .ptr b' o' => decide (b = b') && decide (o = o')
  | .nilp, .nilp => true
  | .slc b o l c e x, .slc b' o' l' c' e' x' => decide (b = b') && decide (o = o') && decide (l = l') && decide (c = c') && decide (e = e') && (x == x')
  | .nils, .nils => true
  | .map b, .map b' => decide (b = b')
  | .nilm, .nilm => true
  | .fn f l, .fn f' l' => decide (f = f') && decide (l = l')
  | .nilf, .nilf => true
  | _, _ => false

theorem Ceq_ok {a b : C} (h : Ceq a b = true) : a = b := by
  cases a <;> cases b <;> simp [Ceq] at h <;> simp_all
  rename_i s t
  cases s; cases t; simp_all

def Leq : List C → List C → Bool
  | [], [] => true
  | a :: l, b :: m => Ceq a b && Leq l m
  | _, _ => false
theorem Leq_ok : ∀ {l m : List C}, Leq l m = true → l = m
  | [], [], _ => rfl
  | a :: l, b :: m, h => by
    simp only [Leq, Bool.and_eq_true] at h
    rw [Ceq_ok h.1, Leq_ok h.2]
  | [], _ :: _, h => by simp [Leq] at h
  | _ :: _, [], h => by simp [Leq] at h
def Veq : V → V → Bool
  | .one a, .one b => Ceq a b
  | .agg l, .agg m => Leq l m
  | _, _ => false
theorem Veq_ok {a b : V} (h : Veq a b = true) : a = b := by
  cases a <;> cases b <;> simp only [Veq] at h
  all_goals first
    | rw [Ceq_ok h]
    | rw [Leq_ok h]
    | cases h

abbrev ECtx := List (Nat × T V × LoadOp × V)

def watchE (ws : List Nat) (ctx : ECtx) (H : Hp) : Bool :=
  ws.all fun k => ctx.all fun e => e.1 != k || (match aLoad e.2.1 H e.2.2.1 with
    | some v => Veq v e.2.2.2
    | none => false)

def evOps (tb : Nat → Option SFn) (call : FuncId → List V → Hp → Option (V × Hp)) (base : Nat) : List SOper → ECtx → T V → Hp → Option (T V × Hp)
  | [], _, F, H => some (F, H)
  | o :: r, ctx, F, H =>
    match wantedA o.guard F with
    | true =>
      match o.op with
      | .p op => match aPure F op with
        | some v => evOps tb call base r ctx (setO F o.dst v) H
        | none => none
      | .l op => match aLoad F H op with
        | some v => evOps tb call base r (match o.keep with
          | true => (o.id, F, op, v) :: ctx
          | false => ctx) (setO F o.dst v) H
        | none => none
      | .a op => match aAlloc F op with
        | some (bk, g) => match o.aid with
          | none => evOps tb call base r ctx (setO F o.dst (g H.nx)) (H.push bk)
          | some k => evOps tb call base r ctx (setO F o.dst (g (base + k))) (H.add (base + k) bk)
        | none => none
      | .e op => match aEff F H op with
        | some (v, H') => match watchE o.watch ctx H' with
          | true => evOps tb call base r ctx (setO F o.dst v) H'
          | false => none
        | none => none
      | .cf f args => match call f (args.map (·.ev F)) H with
        | some (v, H') => match watchE o.watch ctx H' with
          | true => evOps tb call base r ctx (setO F o.dst v) H'
          | false => none
        | none => none
      | .cv x args => match x.ev F with
        | .one (.fn f caps) => match tb f with
          | some _ => match call f (args.map (·.ev F) ++ caps.map ptrV) H with
            | some (v, H') => match watchE o.watch ctx H' with
              | true => evOps tb call base r ctx (setO F o.dst v) H'
              | false => none
            | none => none
          | none => none
        | _ => none
      | .no => none
    | false => evOps tb call base r ctx (setO F o.dst V.undef) H

inductive EE where
  | normal
  | exit (id : Nat)
  | ret
def EE.ex : EE → Exit
  | .normal => .normal
  | .exit id => .exit id
  | .ret => .ret

/-- a call, by an evaluator for code -/
def evCall (tb : Nat → Option SFn) (rec : SC → T V → Hp → Option (EE × T V × Hp)) (f : FuncId) (args : List V) (H : Hp) : Option (V × Hp) :=
  match tb f with
  | none => none
  | some sf => if args.length ≤ sf.n then
      match rec sf.code (initF args 0) H with
      | none => none
      | some (e, F', H') => match e with
        | .exit _ => none
        | _ => match aResult F' H' sf.res with
          | some v => some (v, H')
          | none => none
    else none

def evStep (tb : Nat → Option SFn) (rec : SC → T V → Hp → Option (EE × T V × Hp)) (s : SC) (F : T V) (H : Hp) : Option (EE × T V × Hp) :=
  match s with
  | .skip => some (.normal, F, H)
  | .ops l res => match evOps tb (evCall tb rec) H.nx l [] F (H.skip res) with
    | none => none
    | some (F', H') => some (.normal, F', H')
  | .seq a b => match rec a F H with
    | none => none
    | some (e, F', H') => match e with
      | .normal => rec b F' H'
      | e => some (e, F', H')
  | .cond d a b => match d.ev F with
    | .one (.bool t) => match t with
      | true => rec a F H
      | false => rec b F H
    | _ => none
  | .block id a => match rec a F H with
    | none => none
    | some (e, F', H') => match e with
      | .exit id' => if id' = id then some (.normal, F', H') else some (.exit id', F', H')
      | e => some (e, F', H')
  | .loop a => match rec a F H with
    | none => none
    | some (e, F', H') => match e with
      | .normal => rec (.loop a) F' H'
      | e => some (e, F', H')
  | .exit id => some (.exit id, F, H)
  | .ret => some (.ret, F, H)
  | .scope a => match rec a F H with
    | none => none
    | some (e, F', H') => some (e, F', H')
  | .rf .. => none
  | .no => none

def evC (tb : Nat → Option SFn) : Nat → SC → T V → Hp → Option (EE × T V × Hp)
  | 0 => fun _ _ _ => none
  | fuel + 1 => evStep tb (evC tb fuel)

def evF (tb : Nat → Option SFn) (fuel : Nat) (f : FuncId) (args : List V) (H : Hp) : Option (V × Hp) := evCall tb (evC tb fuel) f args H

/-- the table holds the program's functions -/
def TabOk (P : Program) (G : Nat) (tb : Nat → Option SFn) : Prop := ∀ f sf, tb f = some sf → cpFn P G f = some sf ∧ isFn P f = true

section
variable {P : Program} {G : Nat} {tb : Nat → Option SFn}

def ctxP (ctx : ECtx) : Ctx := ctx.map fun e => (e.1, fun H' => aLoad e.2.1 H' e.2.2.1 = some e.2.2.2)

theorem watchE_ok {ws : List Nat} {ctx : ECtx} {H : Hp} (h : watchE ws ctx H = true) : watchOk ws (ctxP ctx) H := by
  cases ws with
  | nil => trivial
  | cons w ws =>
    intro k hk p hp
    simp only [watchE, List.all_eq_true] at h
    have h1 := h k hk
    obtain ⟨e, he, hep⟩ := List.mem_map.1 hp
    have h2 := h1 e he
    injection hep with e1 e2
    subst e1 e2
    simp only [bne_self_eq_false, Bool.false_or] at h2
    cases hv : aLoad e.2.1 H e.2.2.1 with
    | none => simp [hv] at h2
    | some v => simp only [hv] at h2; show aLoad e.2.1 H e.2.2.1 = some e.2.2.2; rw [hv, Veq_ok h2]

theorem evOps_ok {call : FuncId → List V → Hp → Option (V × Hp)} (hcall : ∀ f args H v H', call f args H = some (v, H') → ACalls P G f args H fun v' H'' => v' = v ∧ H'' = H') (htb : TabOk P G tb) {base : Nat} {Q : T V → Hp → Prop} :
    ∀ {l : List SOper} {ctx : ECtx} {F F' : T V} {H H' : Hp}, evOps tb call base l ctx F H = some (F', H') → Q F' H' → wOps P G base Q l (ctxP ctx) F H
  | [], ctx, F, F', H, H', h, hq => by
    simp only [evOps, Option.some.injEq, Prod.mk.injEq] at h
    obtain ⟨rfl, rfl⟩ := h
    exact hq
  | o :: r, ctx, F, F', H, H', h, hq => by
    rw [evOps] at h
    rw [wOps]
    cases hw : wantedA o.guard F with
    | false =>
      simp only [hw] at h
      simp only [Bool.false_eq_true, if_false]
      exact evOps_ok hcall htb h hq
    | true =>
      simp only [hw] at h
      simp only [if_true]
      cases hop : o.op with
      | p op =>
        simp only [hop] at h ⊢
        cases hv : aPure F op with
        | none => simp [hv] at h
        | some v => simp only [hv] at h ⊢; exact evOps_ok hcall htb h hq
      | l op =>
        simp only [hop] at h ⊢
        cases hv : aLoad F H op with
        | none => simp [hv] at h
        | some v =>
          simp only [hv] at h ⊢
          cases hk : o.keep with
          | false => simp only [hk] at h; simp only [Bool.false_eq_true, if_false]; exact evOps_ok hcall htb h hq
          | true => simp only [hk] at h; simp only [if_true]; exact evOps_ok (ctx := (o.id, F, op, v) :: ctx) hcall htb h hq
      | a op =>
        simp only [hop] at h ⊢
        cases hv : aAlloc F op with
        | none => simp [hv] at h
        | some bg =>
          simp only [hv] at h ⊢
          cases hai : o.aid with
          | none => simp only [hai] at h ⊢; exact evOps_ok hcall htb h hq
          | some k => simp only [hai] at h ⊢; exact evOps_ok hcall htb h hq
      | e op =>
        simp only [hop] at h ⊢
        cases hv : aEff F H op with
        | none => simp [hv] at h
        | some vH =>
          simp only [hv] at h ⊢
          cases hwt : watchE o.watch ctx vH.2 with
          | false => simp [hwt] at h
          | true => simp only [hwt] at h; exact ⟨watchE_ok hwt, evOps_ok hcall htb h hq⟩
      | cf f args =>
        simp only [hop] at h ⊢
        cases hv : call f (args.map (·.ev F)) H with
        | none => simp [hv] at h
        | some vH =>
          simp only [hv] at h
          cases hwt : watchE o.watch ctx vH.2 with
          | false => simp [hwt] at h
          | true =>
            simp only [hwt] at h
            refine (hcall f _ H vH.1 vH.2 hv).mono ?_
            rintro v' H'' ⟨rfl, rfl⟩
            exact ⟨watchE_ok hwt, evOps_ok hcall htb h hq⟩
      | cv x args =>
        simp only [hop] at h ⊢
        split at h
        · rename_i f caps hx
          cases ht : tb f with
          | none => simp [ht] at h
          | some sf =>
            simp only [ht] at h
            try simp only [hx]
            refine ⟨(htb f sf ht).2, ?_⟩
            cases hv : call f (args.map (·.ev F) ++ caps.map ptrV) H with
            | none => simp [hv] at h
            | some vH =>
              simp only [hv] at h
              cases hwt : watchE o.watch ctx vH.2 with
              | false => simp [hwt] at h
              | true =>
                simp only [hwt] at h
                refine (hcall f _ H vH.1 vH.2 hv).mono ?_
                rintro v' H'' ⟨rfl, rfl⟩
                exact ⟨watchE_ok hwt, evOps_ok hcall htb h hq⟩
        · cases h
      | no => simp [hop] at h

theorem evCall_ok {rec : SC → T V → Hp → Option (EE × T V × Hp)} (htb : TabOk P G tb) (hrec : ∀ {n : Nat} {s : SC} {F F' : T V} {H H' : Hp} {e : EE} {Q : Exit → T V → Hp → Prop}, rec s F H = some (e, F', H') → Q e.ex F' H' → SWP P G n s Q F H)
    {f : FuncId} {args : List V} {H H' : Hp} {v : V} (h : evCall tb rec f args H = some (v, H')) : ACalls P G f args H fun v' H'' => v' = v ∧ H'' = H' := by
  unfold evCall at h
  split at h
  · cases h
  · rename_i sf hsf
    split at h
    · rename_i hlen
      split at h
      · cases h
      · rename_i e2 F2 H4 hev2
        obtain ⟨hcp, _⟩ := htb f sf hsf
        cases e2 with
        | exit id => cases h
        | normal =>
          simp only at h
          split at h
          · rename_i v2 hres
            simp only [Option.some.injEq, Prod.mk.injEq] at h
            obtain ⟨rfl, rfl⟩ := h
            refine fn_ok hcp hlen (hrec hev2 ?_)
            simp only [EE.ex, retQ, hres]
            exact ⟨trivial, trivial⟩
          · cases h
        | ret =>
          simp only at h
          split at h
          · rename_i v2 hres
            simp only [Option.some.injEq, Prod.mk.injEq] at h
            obtain ⟨rfl, rfl⟩ := h
            refine fn_ok hcp hlen (hrec hev2 ?_)
            simp only [EE.ex, retQ, hres]
            exact ⟨trivial, trivial⟩
          · cases h
    · cases h

theorem evC_ok (hm : P.follows .mixedOrders = true) (htb : TabOk P G tb) : ∀ (fuel : Nat) {n : Nat} {s : SC} {F F' : T V} {H H' : Hp} {e : EE} {Q : Exit → T V → Hp → Prop}, evC tb fuel s F H = some (e, F', H') → Q e.ex F' H' → SWP P G n s Q F H := by
  intro fuel
  induction fuel using Nat.strongRecOn with
  | _ fuel ih =>
    intro n s F F' H H' e Q h hq
    cases fuel with
    | zero => cases h
    | succ fuel =>
      have h : evStep tb (evC tb fuel) s F H = some (e, F', H') := h
      have hrec : ∀ {n : Nat} {s : SC} {F F' : T V} {H H' : Hp} {e : EE} {Q : Exit → T V → Hp → Prop}, evC tb fuel s F H = some (e, F', H') → Q e.ex F' H' → SWP P G n s Q F H := fun h hq => ih fuel (by omega) h hq
      cases s with
      | skip =>
        simp only [evStep, Option.some.injEq, Prod.mk.injEq] at h
        obtain ⟨rfl, rfl, rfl⟩ := h
        exact swp_skip hq
      | ops l res =>
        simp only [evStep] at h
        split at h
        · cases h
        · rename_i F1 H1 hev
          simp only [Option.some.injEq, Prod.mk.injEq] at h
          obtain ⟨rfl, rfl, rfl⟩ := h
          exact swp_ops hm (evOps_ok (ctx := []) (fun f args H2 v H3 hc => evCall_ok htb hrec hc) htb hev hq)
      | seq a b =>
        simp only [evStep] at h
        split at h
        · cases h
        · rename_i e1 F1 H1 h1
          refine swp_seq ?_
          cases e1 with
          | normal => exact hrec h1 (hrec (Q := Q) h hq)
          | exit id =>
            simp only [Option.some.injEq, Prod.mk.injEq] at h
            obtain ⟨rfl, rfl, rfl⟩ := h
            exact hrec h1 hq
          | ret =>
            simp only [Option.some.injEq, Prod.mk.injEq] at h
            obtain ⟨rfl, rfl, rfl⟩ := h
            exact hrec h1 hq
      | cond d a b =>
        simp only [evStep] at h
        split at h
        · rename_i t ht
          cases t with
          | true => exact swp_cond (t := true) ht (hrec h hq)
          | false => exact swp_cond (t := false) ht (hrec h hq)
        · cases h
      | block id a =>
        simp only [evStep] at h
        split at h
        · cases h
        · rename_i e1 F1 H1 h1
          refine swp_block ?_
          cases e1 with
          | normal =>
            simp only [Option.some.injEq, Prod.mk.injEq] at h
            obtain ⟨rfl, rfl, rfl⟩ := h
            exact hrec h1 hq
          | ret =>
            simp only [Option.some.injEq, Prod.mk.injEq] at h
            obtain ⟨rfl, rfl, rfl⟩ := h
            exact hrec h1 hq
          | exit id' =>
            simp only at h
            refine hrec h1 ?_
            simp only [EE.ex, blockQ]
            split at h
            · rename_i hid
              simp only [Option.some.injEq, Prod.mk.injEq] at h
              obtain ⟨rfl, rfl, rfl⟩ := h
              rw [if_pos hid]; exact hq
            · rename_i hid
              simp only [Option.some.injEq, Prod.mk.injEq] at h
              obtain ⟨rfl, rfl, rfl⟩ := h
              rw [if_neg hid]; exact hq
      | loop a =>
        refine swp_loop (fun m F1 H1 => m ≤ fuel + 1 ∧ evC tb m (.loop a) F1 H1 = some (e, F', H')) (m := fuel + 1) ⟨Nat.le_refl _, h⟩ ?_
        rintro m F1 H1 ⟨hle, hev⟩
        cases m with
        | zero => cases hev
        | succ m =>
          have hev : evStep tb (evC tb m) (.loop a) F1 H1 = some (e, F', H') := hev
          simp only [evStep] at hev
          split at hev
          · cases hev
          · rename_i e1 F2 H2 h1
            cases e1 with
            | normal => exact ih m (by omega) h1 ⟨m, by omega, by omega, hev⟩
            | exit id =>
              simp only [Option.some.injEq, Prod.mk.injEq] at hev
              obtain ⟨rfl, rfl, rfl⟩ := hev
              exact ih m (by omega) h1 hq
            | ret =>
              simp only [Option.some.injEq, Prod.mk.injEq] at hev
              obtain ⟨rfl, rfl, rfl⟩ := hev
              exact ih m (by omega) h1 hq
      | exit id =>
        simp only [evStep, Option.some.injEq, Prod.mk.injEq] at h
        obtain ⟨rfl, rfl, rfl⟩ := h
        exact swp_exit hq
      | ret =>
        simp only [evStep, Option.some.injEq, Prod.mk.injEq] at h
        obtain ⟨rfl, rfl, rfl⟩ := h
        exact swp_ret hq
      | rf d ps a b => cases h
      | no => cases h
      | scope a =>
        simp only [evStep] at h
        split at h
        · cases h
        · rename_i e1 F1 H1 h1
          simp only [Option.some.injEq, Prod.mk.injEq] at h
          obtain ⟨rfl, rfl, rfl⟩ := h
          refine swp_scope (hrec h1 ?_)
          cases e1 <;> exact hq

/-- A CLOSED CALL, EVALUATED. -/
theorem evF_ok (hm : P.follows .mixedOrders = true) (htb : TabOk P G tb) {fuel : Nat} {f : FuncId} {args : List V} {H H' : Hp} {v : V} (h : evF tb fuel f args H = some (v, H')) : ACalls P G f args H fun v' H'' => v' = v ∧ H'' = H' :=
  evCall_ok htb (evC_ok hm htb fuel) h

def evVal (tb : Nat → Option SFn) (fuel : Nat) (f : FuncId) (args : List V) (H : Hp) : Option V := (evF tb fuel f args H).map (·.1)

theorem evVal_ok (hm : P.follows .mixedOrders = true) (htb : TabOk P G tb) {fuel : Nat} {f : FuncId} {args : List V} {H : Hp} {v : V} (h : evVal tb fuel f args H = some v) : ACalls P G f args H fun v' _ => v' = v := by
  unfold evVal at h
  simp only [Option.map_eq_some_iff] at h
  obtain ⟨⟨v', H'⟩, hh, rfl⟩ := h
  exact (evF_ok hm htb hh).mono fun _ _ h => h.1
end
end Go.Ab

/- Words for symbolic evaluation: heaps that grow, and what slices hold. -/
namespace Go.Ab

theorem Hp.skip_zero (H : Hp) : H.skip 0 = H := rfl

/-- H' has all that H has -/
structure Ext (H H' : Hp) : Prop where
  get : ∀ b bk, H.get b = some bk → H'.get b = some bk
  nx : H.nx ≤ H'.nx

theorem Ext.refl (H : Hp) : Ext H H := ⟨fun _ _ h => h, Nat.le_refl _⟩
theorem Ext.trans {H H' H'' : Hp} (h : Ext H H') (k : Ext H' H'') : Ext H H'' := ⟨fun b bk hb => k.get b bk (h.get b bk hb), Nat.le_trans h.nx k.nx⟩
theorem Ext.push {H H' : Hp} (hw : WF H') (h : Ext H H') (bk : B) : Ext H (H'.push bk) :=
  ⟨fun b k hb => by rw [Hp.get_push, if_neg (by have := hw b k (h.get b k hb); omega)]; exact h.get b k hb, by have := h.nx; simp; omega⟩
theorem Ext.add {H H' : Hp} (h : Ext H H') {b : Nat} (hn : H.get b = none) (bk : B) : Ext H (H'.add b bk) :=
  ⟨fun c k hc => by rw [Hp.get_add, if_neg (fun e => by subst e; rw [hn] at hc; cases hc)]; exact h.get c k hc, h.nx⟩
theorem Ext.skip {H H' : Hp} (h : Ext H H') (n : Nat) : Ext H (H'.skip n) := ⟨h.get, by have := h.nx; simp; omega⟩

theorem Ext.cell {H H' : Hp} (h : Ext H H') {b i : Nat} {c : C} (hc : H.cell b i = some c) : H'.cell b i = some c := by
  unfold Hp.cell at hc ⊢
  cases hb : H.get b with
  | none => simp [hb] at hc
  | some bk => rw [h.get b bk hb]; simpa [hb] using hc
theorem Ext.loads {H H' : Hp} (h : Ext H H') : ∀ {n b o : Nat} {l : List C}, H.loads b o n = some l → H'.loads b o n = some l
  | 0, _, _, _, hl => hl
  | n + 1, b, o, l, hl => by
    simp only [Hp.loads] at hl ⊢
    cases hc : H.cell b o with
    | none => simp [hc] at hl
    | some c =>
      simp only [hc] at hl
      simp only [h.cell hc]
      cases hr : H.loads b (o + 1) n with
      | none => simp [hr] at hl
      | some r => simp only [hr] at hl; simp only [h.loads hr]; exact hl

theorem WF.push {H : Hp} (h : WF H) (bk : B) : WF (H.push bk) := fun b k hb => by
  rw [Hp.get_push] at hb
  split at hb
  · rename_i e; simp; omega
  · have := h b k hb; simp; omega
theorem WF.skip {H : Hp} (h : WF H) (n : Nat) : WF (H.skip n) := fun b k hb => by have := h b k hb; simp; omega
theorem WF.fresh {H : Hp} (h : WF H) {b : Nat} (hb : H.nx ≤ b) : H.get b = none := by
  cases hg : H.get b with
  | none => rfl
  | some k => have := h b k hg; omega

/-- a part of the cells -/
theorem loads_drop {H : Hp} {b : Nat} : ∀ {m o n : Nat} {l : List C}, H.loads b o n = some l → m ≤ n → H.loads b (o + m) (n - m) = some (l.drop m)
  | 0, o, n, l, h, _ => by simpa using h
  | m + 1, o, 0, l, h, hm => by omega
  | m + 1, o, n + 1, l, h, hm => by
    simp only [Hp.loads] at h
    split at h
    · cases h
    · split at h
      · cases h
      · rename_i c _ l' hl'
        obtain rfl := Option.some.inj h
        have := loads_drop (m := m) hl' (by omega)
        rw [show o + (m + 1) = o + 1 + m by omega, show n + 1 - (m + 1) = n - m by omega]
        simpa using this
theorem loads_take {H : Hp} {b : Nat} : ∀ {m o n : Nat} {l : List C}, H.loads b o n = some l → m ≤ n → H.loads b o m = some (l.take m)
  | 0, o, n, l, h, _ => by simp [Hp.loads]
  | m + 1, o, 0, l, h, hm => by omega
  | m + 1, o, n + 1, l, h, hm => by
    simp only [Hp.loads] at h ⊢
    split at h
    · cases h
    · rename_i c hc
      split at h
      · cases h
      · rename_i l' hl'
        obtain rfl := Option.some.inj h
        simp [loads_take (m := m) hl' (by omega)]
theorem loads_at {H : Hp} {b o n i k : Nat} {l : List C} (h : H.loads b o n = some l) (hk : i + k ≤ n) : H.loads b (o + i) k = some ((l.drop i).take k) :=
  loads_take (loads_drop h (by omega)) (by omega)
theorem loads_cell {H : Hp} {b o n i : Nat} {l : List C} (h : H.loads b o n = some l) (hi : i < n) : H.cell b (o + i) = l[i]? := by
  have := loads_at (i := i) (k := 1) h (by omega)
  simp only [Hp.loads] at this
  cases hc : H.cell b (o + i) with
  | none => simp [hc] at this
  | some c =>
    simp only [hc, Option.some.injEq] at this
    have hl : i < l.length := by rw [loads_len h]; exact hi
    have h2 : (List.take 1 (List.drop i l))[0]? = some l[i] := by rw [List.drop_eq_getElem_cons hl]; simp
    rw [← this] at h2
    simp at h2
    rw [List.getElem?_eq_getElem hl, h2]

/-- a row that was just made reads as its list -/
theorem loads_row {H : Hp} {b : Nat} {cs : List C} {rw : Bool} (h : H.get b = some (.row cs.length cs .lf rw)) : H.loads b 0 cs.length = some cs := by
  have key : ∀ (m o : Nat), o + m = cs.length → H.loads b o m = some (cs.drop o) := by
    intro m
    induction m with
    | zero => intro o ho; simp only [Hp.loads]; rw [List.drop_of_length_le (by omega)]
    | succ m ih =>
      intro o ho
      have hlt : o < cs.length := by omega
      have hc : H.cell b o = some cs[o] := by
        simp only [Hp.cell, h, Option.bind_some, B.cell, hlt, if_true, T.get_lf, Option.getD_none, Nat.mod_eq_of_lt hlt]
        simp [List.getD_eq_getElem?_getD, hlt]
      simp only [Hp.loads, hc, ih (o + 1) (by omega)]
      rw [List.drop_eq_getElem_cons hlt]
  simpa using key cs.length 0 (by omega)

/-- THE SLICE v HAS n ELEMENTS OF esz CELLS, WHICH ARE l. -/
def Sl (H : Hp) (esz n : Nat) (l : List C) (v : V) : Prop := l.length = n * esz ∧ ((v = .one .nils ∧ n = 0) ∨ ∃ b o cap ex, v = .one (.slc b o n cap esz ex) ∧ H.loads b o (n * esz) = some l)

theorem Sl.ext {H H' : Hp} {esz n : Nat} {l : List C} {v : V} (h : Sl H esz n l v) (he : Ext H H') : Sl H' esz n l v := by
  refine ⟨h.1, ?_⟩
  rcases h.2 with h | ⟨b, o, cap, ex, hv, hl⟩
  · exact .inl h
  · exact .inr ⟨b, o, cap, ex, hv, he.loads hl⟩
theorem Sl.len {H : Hp} {esz n : Nat} {l : List C} {v : V} (h : Sl H esz n l v) : lenV v = some (.one (.int .i64 n)) := by
  rcases h.2 with ⟨rfl, rfl⟩ | ⟨b, o, cap, ex, rfl, _⟩ <;> simp [lenV]
/-- its elements: where they lie, and their cells -/
theorem Sl.at {H : Hp} {esz n : Nat} {l : List C} {v : V} (h : Sl H esz n l v) {k : Nat} (hk : k < n) (kd : IntKind) : ∃ b o, iaddrV esz v (.one (.int kd k)) = some (.one (.ptr b o)) ∧ H.loads b o esz = some ((l.drop (k * esz)).take esz) := by
  rcases h.2 with ⟨_, rfl⟩ | ⟨b, o, cap, ex, rfl, hl⟩
  · omega
  · refine ⟨b, o + k * esz, by simp [iaddrV]; omega, loads_at hl ?_⟩
    have : (k + 1) * esz ≤ n * esz := Nat.mul_le_mul_right _ hk
    rw [Nat.add_mul] at this
    omega

/-- points, as pairs of numbers -/
abbrev Pt := Int × Int
def ptC (p : Pt) : List C := [.int .i64 p.1, .int .i64 p.2]
def ptsC (l : List Pt) : List C := l.flatMap ptC
def ptV (p : Pt) : V := .agg (ptC p)
def Pts (H : Hp) (l : List Pt) (v : V) : Prop := Sl H 2 l.length (ptsC l) v

theorem ptsC_len : ∀ l : List Pt, (ptsC l).length = l.length * 2
  | [] => rfl
  | p :: l => by simp only [ptsC, List.flatMap_cons, List.length_append, List.length_cons]; rw [show (l.flatMap ptC) = ptsC l from rfl, ptsC_len l]; simp [ptC]; omega
theorem ptsC_at : ∀ {l : List Pt} {i : Nat} {p : Pt}, l[i]? = some p → ((ptsC l).drop (i * 2)).take 2 = ptC p
  | [], i, p, h => by simp at h
  | q :: l, 0, p, h => by simp at h; subst h; simp [ptsC, ptC]
  | q :: l, i + 1, p, h => by
    have := ptsC_at (l := l) (i := i) (p := p) (by simpa using h)
    simp only [ptsC, List.flatMap_cons]
    rw [show (i + 1) * 2 = (ptC q).length + i * 2 by simp [ptC]; omega, List.drop_append, List.drop_of_length_le (by simp [ptC]), List.nil_append]
    rw [show (ptC q).length + i * 2 - (ptC q).length = i * 2 by omega]
    exact this
theorem Pts.at {H : Hp} {l : List Pt} {v : V} (h : Pts H l v) {k : Nat} {p : Pt} (hk : l[k]? = some p) (kd : IntKind) : ∃ b o, iaddrV 2 v (.one (.int kd k)) = some (.one (.ptr b o)) ∧ H.loads b o 2 = some (ptC p) := by
  obtain ⟨b, o, h1, h2⟩ := Sl.at h (List.getElem?_eq_some_iff.1 hk).1 kd
  exact ⟨b, o, h1, by rw [h2, ptsC_at hk]⟩
theorem Pts.len {H : Hp} {l : List Pt} {v : V} (h : Pts H l v) : lenV v = some (.one (.int .i64 l.length)) := Sl.len h
theorem Pts.ext {H H' : Hp} {l : List Pt} {v : V} (h : Pts H l v) (he : Ext H H') : Pts H' l v := Sl.ext h he

@[simp] theorem Hp.loads_skip (H : Hp) (k : Nat) : ∀ (n b o : Nat), (H.skip k).loads b o n = H.loads b o n
  | 0, _, _ => rfl
  | n + 1, b, o => by
    simp only [Hp.loads]
    rw [Hp.loads_skip H k n b (o + 1)]
    rfl
@[simp] theorem Hp.cell_skip (H : Hp) (k b i : Nat) : (H.skip k).cell b i = H.cell b i := rfl

/-- what was there at the beginning is there, but for blocks from lo on -/
structure Keep (lo : Nat) (H H' : Hp) : Prop where
  get : ∀ b bk, b < lo → H.get b = some bk → H'.get b = some bk
  nx : H.nx ≤ H'.nx
theorem Keep.refl (lo : Nat) (H : Hp) : Keep lo H H := ⟨fun _ _ _ h => h, Nat.le_refl _⟩
theorem Keep.trans {lo : Nat} {H H' H'' : Hp} (h : Keep lo H H') (k : Keep lo H' H'') : Keep lo H H'' := ⟨fun b bk hb h1 => k.get b bk hb (h.get b bk hb h1), Nat.le_trans h.nx k.nx⟩
theorem Keep.of_ext {lo : Nat} {H H' : Hp} (h : Ext H H') : Keep lo H H' := ⟨fun b bk _ h1 => h.get b bk h1, h.nx⟩
theorem Keep.ext {H H' : Hp} (hw : WF H) (h : Keep H.nx H H') : Ext H H' := ⟨fun b bk hb => h.get b bk (hw b bk hb) hb, h.nx⟩
theorem Keep.mono {lo lo' : Nat} {H H' : Hp} (h : Keep lo H H') (hl : lo' ≤ lo) : Keep lo' H H' := ⟨fun b bk hb h1 => h.get b bk (by omega) h1, h.nx⟩
theorem Keep.cell {lo : Nat} {H H' : Hp} (h : Keep lo H H') {b i : Nat} {c : C} (hb : b < lo) (hc : H.cell b i = some c) : H'.cell b i = some c := by
  unfold Hp.cell at hc ⊢
  cases hg : H.get b with
  | none => simp [hg] at hc
  | some bk => rw [h.get b bk hb hg]; simpa [hg] using hc
theorem Keep.loads {lo : Nat} {H H' : Hp} (h : Keep lo H H') {b : Nat} (hb : b < lo) : ∀ {n o : Nat} {l : List C}, H.loads b o n = some l → H'.loads b o n = some l
  | 0, _, _, hl => hl
  | n + 1, o, l, hl => by
    simp only [Hp.loads] at hl ⊢
    cases hc : H.cell b o with
    | none => simp [hc] at hl
    | some c =>
      simp only [hc] at hl
      simp only [h.cell hb hc]
      cases hr : H.loads b (o + 1) n with
      | none => simp [hr] at hl
      | some r => simp only [hr] at hl; simp only [h.loads hb hr]; exact hl

/-- THE BLOCK b MAY BE WRITTEN AND HOLDS JUST l. -/
def Row (H : Hp) (b : Nat) (l : List C) : Prop := (∃ z m, H.get b = some (.row l.length z m true)) ∧ H.loads b 0 l.length = some l

theorem loads_congr {H H' : Hp} {b : Nat} (h : H'.get b = H.get b) : ∀ (n o : Nat), H'.loads b o n = H.loads b o n
  | 0, _ => rfl
  | n + 1, o => by
    have hc : H'.cell b o = H.cell b o := by unfold Hp.cell; rw [h]
    simp only [Hp.loads, hc, loads_congr h n (o + 1)]
theorem Row.same {H H' : Hp} {b : Nat} {l : List C} (h : Row H b l) (hg : H'.get b = H.get b) : Row H' b l := ⟨by rw [hg]; exact h.1, by rw [loads_congr hg]; exact h.2⟩
theorem Row.lt {H : Hp} {b : Nat} {l : List C} (h : Row H b l) (hw : WF H) : b < H.nx := by obtain ⟨⟨z, m, hg⟩, _⟩ := h; exact hw b _ hg
theorem Row.mut {H : Hp} {b : Nat} {l : List C} (h : Row H b l) : H.mutRow b = true := by obtain ⟨⟨z, m, hg⟩, _⟩ := h; simp [Hp.mutRow, hg]
theorem Row.new {H : Hp} (l : List C) : Row (H.push (.row l.length l .lf true)) H.nx l :=
  ⟨⟨l, .lf, by rw [Hp.get_push, if_pos rfl]⟩, loads_row (rw := true) (by rw [Hp.get_push, if_pos rfl])⟩
theorem Row.newAt {H : Hp} (b : Nat) (l : List C) : Row (H.add b (.row l.length l .lf true)) b l :=
  ⟨⟨l, .lf, by simp⟩, loads_row (rw := true) (by simp)⟩

theorem loads_set {H : Hp} {b : Nat} {N : Nat} {z : List C} {m : T C} {i : Nat} {c : C} (hg : H.get b = some (.row N z m true)) (hi : i < N) : ∀ {n o : Nat} {l : List C}, H.loads b o n = some l →
    (H.add b (.row N z (m.set i (some c)) true)).loads b o n = some (if o ≤ i then l.set (i - o) c else l)
  | 0, o, l, h => by
    simp only [Hp.loads, Option.some.injEq] at h ⊢
    subst h; simp
  | n + 1, o, l, h => by
    simp only [Hp.loads] at h ⊢
    split at h
    · cases h
    · rename_i c0 hc0
      split at h
      · cases h
      · rename_i l' hl'
        obtain rfl := Option.some.inj h
        have hcell : (H.add b (.row N z (m.set i (some c)) true)).cell b o = some (if o = i then c else c0) := by
          simp only [Hp.cell, Hp.get_add_self, Option.bind_some, row_set hi]
          split
          · rfl
          · simpa [Hp.cell, hg] using hc0
        rw [hcell]
        simp only
        rw [loads_set hg hi hl']
        by_cases e1 : o = i
        · subst e1
          rw [if_neg (by omega)]
          simp
        · by_cases e2 : o ≤ i
          · rw [if_pos (by omega), if_neg e1, if_pos e2, show i - o = (i - (o + 1)) + 1 by omega]
            simp
          · rw [if_neg (by omega), if_neg e1, if_neg e2]

/-- a store into such a block -/
theorem Row.store {H : Hp} {b : Nat} {l : List C} (h : Row H b l) {i : Nat} (hi : i < l.length) (c : C) :
    ∃ H', H.store b i c = some H' ∧ Row H' b (l.set i c) ∧ (∀ b', b' ≠ b → H'.get b' = H.get b') ∧ H'.nx = H.nx := by
  obtain ⟨⟨z, m, hg⟩, hl⟩ := h
  refine ⟨_, by simp only [Hp.store, hg, hi, if_true]; rfl, ⟨⟨z, m.set i (some c), by simp⟩, ?_⟩, fun b' hb' => Hp.get_add_ne _ _ hb', rfl⟩
  rw [List.length_set, loads_set hg hi hl]
  simp

/-- several cells are stored -/
def setL (l : List C) (i : Nat) : List C → List C
  | [] => l
  | c :: cs => setL (l.set i c) (i + 1) cs
theorem setL_len : ∀ (cs l : List C) (i : Nat), (setL l i cs).length = l.length
  | [], _, _ => rfl
  | c :: cs, l, i => by rw [setL, setL_len]; simp
theorem Row.stores : ∀ {cs : List C} {H : Hp} {b : Nat} {l : List C}, Row H b l → ∀ {i : Nat}, i + cs.length ≤ l.length →
    ∃ H', H.stores b i cs = some H' ∧ Row H' b (setL l i cs) ∧ (∀ b', b' ≠ b → H'.get b' = H.get b') ∧ H'.nx = H.nx
  | [], H, b, l, h, i, _ => ⟨H, rfl, h, fun _ _ => rfl, rfl⟩
  | c :: cs, H, b, l, h, i, hi => by
    simp only [List.length_cons] at hi
    obtain ⟨H1, h1, h2, h3, h4⟩ := h.store (i := i) (by omega) c
    obtain ⟨H2, g1, g2, g3, g4⟩ := Row.stores (cs := cs) h2 (i := i + 1) (by simp; omega)
    exact ⟨H2, by simp only [Hp.stores, h1, g1], g2, fun b' hb' => (g3 b' hb').trans (h3 b' hb'), by rw [g4, h4]⟩

/-- A SLICE OF THE CALL'S OWN THAT GROWS BY append: nil, or all of a block. -/
def Own (H : Hp) (lo esz n : Nat) (cs : List C) (v : V) : Prop := cs.length = n * esz ∧ ((v = .one .nils ∧ n = 0) ∨ ∃ b ex, v = .one (.slc b 0 n n esz ex) ∧ lo ≤ b ∧ Row H b cs)
/-- the block of such a slice -/
def ownB : V → Option Nat
  | .one (.slc b _ _ _ _ _) => some b
  | _ => none

theorem Own.nil (H : Hp) (lo esz : Nat) : Own H lo esz 0 [] (.one .nils) := ⟨by simp, .inl ⟨rfl, rfl⟩⟩
theorem Own.same {H H' : Hp} {lo esz n : Nat} {cs : List C} {v : V} (h : Own H lo esz n cs v) (hg : ∀ b, ownB v = some b → H'.get b = H.get b) : Own H' lo esz n cs v := by
  refine ⟨h.1, ?_⟩
  rcases h.2 with h' | ⟨b, ex, rfl, hl, hr⟩
  · exact .inl h'
  · exact .inr ⟨b, ex, rfl, hl, hr.same (hg b rfl)⟩
theorem Own.sl {H : Hp} {lo esz n : Nat} {cs : List C} {v : V} (h : Own H lo esz n cs v) : Sl H esz n cs v := by
  refine ⟨h.1, ?_⟩
  rcases h.2 with h' | ⟨b, ex, rfl, hl, hr⟩
  · exact .inl h'
  · exact .inr ⟨b, 0, n, ex, rfl, by rw [← h.1]; exact hr.2⟩

theorem Own.append {H : Hp} {lo esz bytes n : Nat} {cs : List C} {v : V} (h : Own H lo esz n cs v) (hw : WF H) (hlo : lo ≤ H.nx) {m : Nat} {news : List C} (hn : news.length = m * esz) (hm : 0 < m) (hb : (n + m) * bytes ≤ 140737488355328) (h62 : n + m < 4611686018427387904) :
    ∃ v' H', aAppend H esz bytes v m news = some (v', H') ∧ Own H' lo esz (n + m) (cs ++ news) v' ∧ ownB v' = some H.nx ∧ (∀ b, b ≠ H.nx → ownB v ≠ some b → H'.get b = H.get b) ∧ H'.nx = H.nx + 1 ∧ WF H' := by
  have hl := h.1
  rcases h.2 with ⟨rfl, rfl⟩ | ⟨b, ex, rfl, hlb, hr⟩
  · have : cs = [] := List.eq_nil_of_length_eq_zero (by simpa using hl)
    subst this
    rw [Nat.zero_add] at hb h62
    refine ⟨.one (.slc H.nx 0 m m esz false), H.push (.row news.length news .lf true), by simp only [aAppend]; rw [if_neg (by omega), if_pos ⟨hb, h62⟩], ⟨by simp [hn], .inr ⟨H.nx, false, by simp, hlo, ?_⟩⟩, rfl, fun b hb _ => by rw [Hp.get_push, if_neg hb], rfl, hw.push _⟩
    simpa using Row.new (H := H) news
  · have hbl := hr.lt hw
    have hlen : (cs ++ news).length = (n + m) * esz := by simp [hl, hn, Nat.add_mul]
    have hld : H.loads b 0 (n * esz) = some cs := by rw [← hl]; exact hr.2
    cases ex with
    | true =>
      refine ⟨.one (.slc H.nx 0 (n + m) (n + m) esz false), H.push (.row (cs ++ news).length (cs ++ news) .lf true), by simp only [aAppend]; rw [if_neg (by simp), if_neg (by omega), if_pos ⟨hb, h62⟩, hld]; simp only [if_true], ⟨hlen, .inr ⟨_, _, rfl, hlo, Row.new _⟩⟩, rfl, fun b' hb' _ => by rw [Hp.get_push, if_neg hb'], rfl, hw.push _⟩
    | false =>
      refine ⟨.one (.slc H.nx 0 (n + m) (n + m) esz false), (H.push (.row (cs ++ news).length (cs ++ news) .lf true)).del b, by simp only [aAppend]; rw [if_neg (by simp), if_neg (by omega), if_pos ⟨hb, h62⟩, hld]; simp only [Bool.false_eq_true, if_false, hr.mut, if_true], ⟨hlen, .inr ⟨H.nx, false, rfl, hlo, (Row.new _).same ?_⟩⟩, rfl, fun b' hb' ho => ?_, rfl, fun b' k hk => ?_⟩
      · rw [Hp.get_del, if_neg (by omega)]
      · rw [Hp.get_del, if_neg (fun e => ho (by simp [ownB, e])), Hp.get_push, if_neg hb']
      · rw [Hp.get_del] at hk
        split at hk
        · cases hk
        · exact hw.push _ b' k hk
end Go.Ab

/- Calls that only read what is there: what they leave. -/
namespace Go.Ab

namespace T
variable {α β : Type}
def bindT (f : α → Option β) : T α → T β
  | lf => lf
  | nd v l r => nd (v.bind f) (bindT f l) (bindT f r)
theorem get_bindT (f : α → Option β) : ∀ (t : T α) (n : Nat), (t.bindT f).get n = (t.get n).bind f
  | lf, _ => rfl
  | nd v l r, n => by
    simp only [bindT, get_nd]
    split
    · rfl
    · split
      · exact get_bindT f l _
      · exact get_bindT f r _
def over : T α → T α → T α
  | lf, t => t
  | nd v l r, lf => nd v l r
  | nd v l r, nd v' l' r' => nd (v.or v') (over l l') (over r r')
theorem get_over : ∀ (t t' : T α) (n : Nat), (t.over t').get n = (t.get n).or (t'.get n)
  | lf, _, _ => by simp [over]
  | nd v l r, lf, n => by simp [over]
  | nd v l r, nd v' l' r', n => by
    simp only [over, get_nd]
    split
    · rfl
    · split
      · exact get_over l l' _
      · exact get_over r r' _
end T

/-- the block as one that is only read; maps are left out -/
def B.ro : B → Option B
  | .row n z m _ => some (.row n z m false)
  | .mp _ => none
  | .lp .. => none
def Hp.ro (H : Hp) : Hp := ⟨H.m.bindT B.ro, H.nx⟩
theorem Hp.get_ro (H : Hp) (b : Nat) : H.ro.get b = (H.get b).bind B.ro := T.get_bindT _ _ _
@[simp] theorem Hp.nx_ro (H : Hp) : H.ro.nx = H.nx := rfl
theorem B.ro_mut {x y : B} (h : x.ro = some y) : y.mut = false := by
  cases x with
  | row n z m rw => simp only [B.ro, Option.some.injEq] at h; subst h; rfl
  | mp es => cases h
  | lp => cases h
theorem B.ro_cell {x y : B} (h : x.ro = some y) (i : Nat) : y.cell i = x.cell i := by
  cases x with
  | row n z m rw => simp only [B.ro, Option.some.injEq] at h; subst h; rfl
  | mp es => cases h
  | lp => cases h
theorem Hp.cell_ro (H : Hp) (b i : Nat) : H.ro.cell b i = H.cell b i := by
  unfold Hp.cell
  rw [Hp.get_ro]
  cases h : H.get b with
  | none => rfl
  | some x =>
    cases x with
    | row n z m rw => rfl
    | mp es => rfl
    | lp => rfl
theorem Hp.ro_mut {H : Hp} {b : Nat} {bk : B} (h : H.ro.get b = some bk) : bk.mut = false := by
  rw [Hp.get_ro, Option.bind_eq_some_iff] at h
  obtain ⟨x, _, hx⟩ := h
  exact B.ro_mut hx

/-- the cells of H are cells of H' -/
def Le (H H' : Hp) : Prop := ∀ b i c, H.cell b i = some c → H'.cell b i = some c
theorem Le.refl (H : Hp) : Le H H := fun _ _ _ h => h
theorem Le.trans {H H' H'' : Hp} (h : Le H H') (k : Le H' H'') : Le H H'' := fun b i c hc => k b i c (h b i c hc)
theorem Ext.le {H H' : Hp} (h : Ext H H') : Le H H' := fun _ _ _ hc => h.cell hc
theorem Le.ro (H : Hp) : Le H H.ro := fun b i c h => by rw [Hp.cell_ro]; exact h
theorem Le.of_ro (H : Hp) : Le H.ro H := fun b i c h => by rw [Hp.cell_ro] at h; exact h
theorem Le.skip {H H' : Hp} (h : Le H H') (n : Nat) : Le H (H'.skip n) := h
theorem Le.loads {H H' : Hp} (h : Le H H') : ∀ {n b o : Nat} {l : List C}, H.loads b o n = some l → H'.loads b o n = some l
  | 0, _, _, _, hl => hl
  | n + 1, b, o, l, hl => by
    simp only [Hp.loads] at hl ⊢
    cases hc : H.cell b o with
    | none => simp [hc] at hl
    | some c =>
      simp only [hc] at hl
      simp only [h _ _ _ hc]
      cases hr : H.loads b (o + 1) n with
      | none => simp [hr] at hl
      | some r => simp only [hr] at hl; simp only [h.loads hr]; exact hl
theorem Sl.le {H H' : Hp} {esz n : Nat} {l : List C} {v : V} (h : Sl H esz n l v) (he : Le H H') : Sl H' esz n l v := by
  refine ⟨h.1, ?_⟩
  rcases h.2 with h | ⟨b, o, cap, ex, hv, hl⟩
  · exact .inl h
  · exact .inr ⟨b, o, cap, ex, hv, he.loads hl⟩
theorem Pts.le {H H' : Hp} {l : List Pt} {v : V} (h : Pts H l v) (he : Le H H') : Pts H' l v := Sl.le h he

/-- a value that bears no address -/
def C.closed : C → Bool
  | .bool _ => true
  | .int _ _ => true
  | .str _ => true
  | .nilp => true
  | .nils => true
  | .nilm => true
  | .nilf => true
  | .fn _ caps => caps.isEmpty
  | _ => false
def V.closed1 : V → Bool
  | .one c => c.closed
  | .agg l => l.all C.closed
  | .tup _ => false
def V.closed : V → Bool
  | .one c => c.closed
  | .agg l => l.all C.closed
  | .tup l => l.all V.closed1

section
variable {μ μ' : Nat → Pl} {K K' : Nat → Prop}
theorem RC.closed {c : C} {x : Value} (hc : c.closed = true) (h : RC μ K c x) : RC μ' K' c x := by
  cases c with
  | ptr b o => cases hc
  | slc b o len cap esz ex => cases hc
  | map b => cases hc
  | yld b => cases hc
  | fn f caps =>
    simp only [C.closed, List.isEmpty_iff] at hc
    subst hc
    exact ⟨fun p hp => (by cases hp), h.2⟩
  | _ => exact h
theorem RCs.closed : ∀ {l : List C} {xs : List Value}, l.all C.closed = true → All2 (RC μ K) l xs → All2 (RC μ' K') l xs
  | [], [], _, _ => trivial
  | _ :: _, _ :: _, hc, hh => by
    simp only [List.all_cons, Bool.and_eq_true] at hc
    exact ⟨RC.closed hc.1 hh.1, RCs.closed hc.2 hh.2⟩
  | [], _ :: _, _, hh => hh.elim
  | _ :: _, [], _, hh => hh.elim
theorem RV1.closed {v : V} {x : Value} (hc : v.closed1 = true) (h : RV1 μ K v x) : RV1 μ' K' v x := by
  cases v with
  | one c => exact RC.closed hc h
  | agg l => obtain ⟨xs, hx, ha⟩ := h; exact ⟨xs, hx, RCs.closed hc ha⟩
  | tup l => exact h.elim
theorem RV1s.closed : ∀ {l : List V} {xs : List Value}, l.all V.closed1 = true → All2 (RV1 μ K) l xs → All2 (RV1 μ' K') l xs
  | [], [], _, _ => trivial
  | _ :: _, _ :: _, hc, hh => by
    simp only [List.all_cons, Bool.and_eq_true] at hc
    exact ⟨RV1.closed hc.1 hh.1, RV1s.closed hc.2 hh.2⟩
  | [], _ :: _, _, hh => hh.elim
  | _ :: _, [], _, hh => hh.elim
theorem RV.closed {v : V} {x : Value} (hc : v.closed = true) (h : RV μ K v x) : RV μ' K' v x := by
  cases v with
  | one c => exact RC.closed hc h
  | agg l => obtain ⟨xs, hx, ha⟩ := h; exact ⟨xs, hx, RCs.closed hc ha⟩
  | tup l => obtain ⟨xs, hx, ha⟩ := h; exact ⟨xs, hx, RV1s.closed hc ha⟩
theorem RVs.closed : ∀ {l : List V} {xs : List Value}, l.all V.closed = true → All2 (RV μ K) l xs → All2 (RV μ' K') l xs
  | [], [], _, _ => trivial
  | _ :: _, _ :: _, hc, hh => by
    simp only [List.all_cons, Bool.and_eq_true] at hc
    exact ⟨RV.closed hc.1 hh.1, RVs.closed hc.2 hh.2⟩
  | [], _ :: _, _, hh => hh.elim
  | _ :: _, [], _, hh => hh.elim
end

section
variable {P : Program} {G : Nat}

theorem Rel.toRo {μ : Nat → Pl} {K : Nat → Prop} {H : Hp} {w : World} (hR : Rel G μ K H w) : Rel G μ K H.ro w := by
  refine ⟨fun b bk h => ?_, hR.lt, fun b bk h => ?_, fun b b' bk bk' h _ hm => ?_, hR.glob⟩
  · rw [Hp.get_ro, Option.bind_eq_some_iff] at h
    obtain ⟨x, hx, _⟩ := h
    exact hR.dom b x hx
  · rw [Hp.get_ro, Option.bind_eq_some_iff] at h
    obtain ⟨x, hx, h⟩ := h
    have hb := hR.blk b x hx
    cases x with
    | mp es => cases h
    | lp => cases h
    | row n z m rw =>
      simp only [B.ro, Option.some.injEq] at h
      subst h
      obtain ⟨cs, t, fz, h1, h2, h3, h4, h5⟩ := hb
      exact ⟨cs, t, fz, h1, h2, h3, fun h => (by cases h), fun i c hc => h5 i c hc⟩
  · rw [Hp.ro_mut h] at hm; cases hm

/-- A CALL THAT READS ONLY, and hands back a value without addresses: it leaves the heap as it was. -/
theorem ACalls.pure {f : FuncId} {args : List V} {H : Hp} {R : V → Hp → Prop} (h : ACalls P G f args H.ro R) (hc : ∀ v H', R v H' → v.closed = true) : ACalls P G f args H fun v H' => (∃ H1, R v H1) ∧ H' = H := by
  intro μ K w xs hR ha
  refine (h μ K w xs hR.toRo ha).mono ?_
  rintro e w' ⟨x, rfl, v, H', μ', K', h1, h2, h3, h4⟩
  have hkeep : ∀ i, i < w.heap.size → w'.heap[i]? = w.heap[i]? := fun i hi => h4.keep i hi fun b bk hb hm => by rw [Hp.ro_mut hb] at hm; cases hm
  refine ⟨x, rfl, v, H, μ, K, ⟨⟨H', h1⟩, rfl⟩, h2.closed (hc v H' h1), ⟨hR.dom, hR.lt, fun b bk hb => ?_, hR.inj, hR.glob⟩, ?_⟩
  · rw [hkeep _ (hR.blk_lt hb)]; exact hR.blk b bk hb
  · have r := Fr.refl hR
    exact ⟨h4.same, h4.size, fun i hi _ => hkeep i hi, r.img, r.newmut, r.mu, r.kk, r.knew, r.nx, r.none, r.stay, r.ro⟩

/-- a call with values that bear no address, over a few closed blocks: it may be asked beside any others -/
theorem ACalls.sub {f : FuncId} {args : List V} {H1 H : Hp} {R : V → Hp → Prop} (h : ACalls P G f args H1 R) (hargs : args.all V.closed = true) (hG : G ≤ H1.nx) (hw : WF H1)
    (hsub : ∀ b bk, H1.get b = some bk → H.get b = some bk ∧ bk.mut = false ∧ ∀ i c, bk.cell i = some c → c.closed = true) (hc : ∀ v H', R v H' → v.closed = true) :
    ACalls P G f args H fun v H' => (∃ H1, R v H1) ∧ H' = H := by
  intro μ K w xs hR ha
  have hR1 : Rel G μ (fun b => b < H1.nx ∧ K b) H1 w := by
    refine ⟨fun b bk hb => ⟨hw b bk hb, hR.dom b bk (hsub b bk hb).1⟩, fun b hb => hb.1, fun b bk hb => ?_, fun b b' bk bk' hb _ hm => ?_, fun g hg => ⟨⟨Nat.lt_of_lt_of_le hg hG, (hR.glob g hg).1⟩, (hR.glob g hg).2⟩⟩
    · obtain ⟨g1, g2, g3⟩ := hsub b bk hb
      have hb' := hR.blk b bk g1
      cases bk with
      | mp es => cases g2
      | lp => cases g2
      | row n z m rw =>
        obtain ⟨cs, t, fz, e1, e2, e3, e4, e5⟩ := hb'
        exact ⟨cs, t, fz, e1, e2, e3, e4, fun i c hcc => by
          obtain ⟨x, hx, hr⟩ := e5 i c hcc
          exact ⟨x, hx, hr.closed (g3 i c hcc)⟩⟩
    · rw [(hsub b bk hb).2.1] at hm; cases hm
  refine (h μ _ w xs hR1 (RVs.closed hargs ha)).mono ?_
  rintro e w' ⟨x, rfl, v, H', μ', K', h1, h2, h3, h4⟩
  have hkeep : ∀ i, i < w.heap.size → w'.heap[i]? = w.heap[i]? := fun i hi => h4.keep i hi fun b bk hb hm => by rw [(hsub b bk hb).2.1] at hm; cases hm
  refine ⟨x, rfl, v, H, μ, K, ⟨⟨H', h1⟩, rfl⟩, h2.closed (hc v H' h1), ⟨hR.dom, hR.lt, fun b bk hb => ?_, hR.inj, hR.glob⟩, ?_⟩
  · rw [hkeep _ (hR.blk_lt hb)]; exact hR.blk b bk hb
  · have r := Fr.refl hR
    exact ⟨h4.same, h4.size, fun i hi _ => hkeep i hi, r.img, r.newmut, r.mu, r.kk, r.knew, r.nx, r.none, r.stay, r.ro⟩

def Hp.over (H H1 : Hp) : Hp := ⟨H.m.over H1.m, H1.nx⟩
theorem Hp.get_over (H H1 : Hp) (b : Nat) : (H.over H1).get b = (H.get b).or (H1.get b) := T.get_over _ _ _

/-- A CALL THAT READS ONLY WHAT IS THERE, and hands back what it made: beside it all is as it was. -/
theorem ACalls.grow {f : FuncId} {args : List V} {H : Hp} {R : V → Hp → Prop} (h : ACalls P G f args H.ro R) :
    ACalls P G f args H fun v H' => ∃ H1, R v H1 ∧ H' = H.over H1 ∧ H.nx ≤ H1.nx ∧ (∀ b bk, H.get b = some bk → H'.get b = some bk) ∧ (∀ b, H.nx ≤ b → H'.get b = H1.get b) ∧ Le H1 H' := by
  intro μ K w xs hR ha
  refine (h μ K w xs hR.toRo ha).mono ?_
  rintro e w' ⟨x, rfl, v, H1, μ', K', h1, h2, h3, h4⟩
  have hkeep : ∀ i, i < w.heap.size → w'.heap[i]? = w.heap[i]? := fun i hi => h4.keep i hi fun b bk hb hm => by rw [Hp.ro_mut hb] at hm; cases hm
  have hold : ∀ b bk, H.get b = some bk → (H.over H1).get b = some bk := fun b bk hb => by rw [Hp.get_over, hb]; rfl
  have hno : ∀ b, H.nx ≤ b → H.get b = none := fun b hb => by
    cases hg : H.get b with
    | none => rfl
    | some k => have := hR.lt' b k hg; omega
  have hnew : ∀ b, H.nx ≤ b → (H.over H1).get b = H1.get b := fun b hb => by rw [Hp.get_over, hno b hb]; rfl
  -- a block of the new heap: an old one, or a new one that may be written and lies in new memory
  have hcase : ∀ b bk, (H.over H1).get b = some bk → H.get b = some bk ∨ (H.get b = none ∧ H1.get b = some bk ∧ H.nx ≤ b ∧ (bk.mut = true ∨ (K' b ∧ w.heap.size ≤ (μ' b).blk)) ∧ w.heap.size ≤ (μ' b).blk) := by
    intro b bk hb
    rw [Hp.get_over] at hb
    cases hg : H.get b with
    | some k => rw [hg] at hb; exact .inl hb
    | none =>
      rw [hg] at hb
      have hb : H1.get b = some bk := hb
      by_cases hlt : b < H.nx
      · have := h4.none b hlt (by rw [Hp.get_ro, hg]; rfl)
        rw [this] at hb; cases hb
      · have hm := h4.newmut b bk (by simpa using hlt) hb
        refine .inr ⟨rfl, hb, by omega, hm, ?_⟩
        rcases hm with hm | ⟨_, hge⟩
        · rcases h4.img b bk hb hm with ⟨b0, k0, g0, m0, _⟩ | hge
          · rw [Hp.ro_mut g0] at m0; cases m0
          · exact hge
        · exact hge
  have hmu : ∀ b bk, H.get b = some bk → μ' b = μ b := fun b bk hb => h4.mu b (hR.dom b bk hb)
  refine ⟨x, rfl, v, H.over H1, μ', K', ⟨H1, h1, rfl, h4.nx, hold, hnew, fun b i c hc => ?_⟩, h2, ⟨fun b bk hb => ?_, h3.lt, fun b bk hb => ?_, fun b b' bk bk' hb hb' hm he => ?_, h3.glob⟩, ?_⟩
  · unfold Hp.cell at hc ⊢
    rw [Hp.get_over]
    cases hg : H.get b with
    | none => exact hc
    | some k =>
      simp only [Option.some_or, Option.bind_some]
      cases hk : k.ro with
      | none =>
        have hrn : H.ro.get b = none := by rw [Hp.get_ro, hg]; exact hk
        rw [h4.none b (hR.lt' b k hg) hrn] at hc
        cases hc
      | some k' =>
        have hrn : H.ro.get b = some k' := by rw [Hp.get_ro, hg]; exact hk
        rw [h4.ro b k' hrn (B.ro_mut hk)] at hc
        simpa [B.ro_cell hk] using hc
  · rcases hcase b bk hb with ho | ⟨_, hn, _⟩
    · exact h4.kk b (hR.dom b bk ho)
    · exact h3.dom b bk hn
  · rcases hcase b bk hb with ho | ⟨_, hn, _⟩
    · rw [hmu b bk ho, hkeep _ (hR.blk_lt ho)]
      exact (hR.blk b bk ho).mono h4.kk h4.mu
    · exact h3.blk b bk hn
  · rcases hcase b bk hb with ho | ⟨_, hn, hge, hm1, hsz⟩
    · rcases hcase b' bk' hb' with ho' | ⟨_, hn', _, _, hsz'⟩
      · rw [hmu b bk ho, hmu b' bk' ho'] at he
        exact hR.inj b b' bk bk' ho ho' hm he
      · rw [hmu b bk ho] at he
        have := hR.blk_lt ho
        omega
    · rcases hcase b' bk' hb' with ho' | ⟨_, hn', _⟩
      · rw [hmu b' bk' ho'] at he
        have := hR.blk_lt ho'
        omega
      · exact h3.inj b b' bk bk' hn hn' hm he
  · refine ⟨h4.same, h4.size, fun i hi _ => hkeep i hi, fun b bk hb hm => ?_, fun b bk hb hg => ?_, h4.mu, h4.kk, h4.knew, h4.nx, fun b hb hn => ?_, fun b bk bk' hb hb' => ?_, fun b bk hb _ => hold b bk hb⟩
    · rcases hcase b bk hb with ho | ⟨_, _, _, _, hsz⟩
      · exact .inl ⟨b, bk, ho, hm, by rw [hmu b bk ho]⟩
      · exact .inr hsz
    · rcases hcase b bk hg with ho | ⟨_, _, _, hm, _⟩
      · have := hR.lt' b bk ho; omega
      · exact hm
    · cases hg : (H.over H1).get b with
      | none => rfl
      | some k =>
        rcases hcase b k hg with ho | ⟨_, _, hge, _⟩
        · rw [hn] at ho; cases ho
        · omega
    · rw [hold b bk hb] at hb'; rw [Option.some.inj hb']
end
end Go.Ab

/- Partial environments: running abstract code on what is known of the temporaries. -/
namespace Go.Ab

abbrev Env := List (Nat × V)
def look : Env → Nat → Option V
  | [], _ => none
  | (k, v) :: E, n => match Nat.beq k n with
    | true => some v
    | false => look E n
def Sub (E : Env) (F : T V) : Prop := ∀ n v, look E n = some v → F.get n = some v
def SubE (E E' : Env) : Prop := ∀ n v, look E n = some v → look E' n = some v
theorem SubE.nil (E : Env) : SubE [] E := fun _ _ h => by cases h
theorem look_cons (k : Nat) (v : V) (E : Env) (n : Nat) : look ((k, v) :: E) n = if k = n then some v else look E n := by
  simp only [look]
  by_cases h : k = n
  · subst h; simp
  · rw [if_neg h]
    have : Nat.beq k n = false := by cases hb : Nat.beq k n with
      | true => exact absurd (Nat.eq_of_beq_eq_true hb) h
      | false => rfl
    rw [this]
theorem SubE.cons {E E' : Env} {k : Nat} {v : V} (h : look E' k = some v) (hr : SubE E E') : SubE ((k, v) :: E) E' := fun n x hx => by
  rw [look_cons] at hx
  split at hx
  · rename_i e; subst e; rw [h]; exact hx
  · exact hr n x hx
theorem Sub.of {E E' : Env} {F : T V} (h : Sub E' F) (hs : SubE E E') : Sub E F := fun n v hv => h n v (hs n v hv)

def setE (E : Env) : Option Nat → V → Env
  | some d, v => (d, v) :: E
  | none, _ => E
theorem Sub.set {E : Env} {F : T V} (h : Sub E F) (d : Option Nat) (v : V) : Sub (setE E d v) (setO F d v) := by
  cases d with
  | none => exact h
  | some d =>
    intro n x hx
    simp only [setE, look_cons] at hx
    simp only [setO, T.get_set]
    split at hx
    · rename_i e; subst e; rw [if_pos rfl]; exact hx
    · rename_i e; rw [if_neg (fun h => e h.symm)]; exact h n x hx

def res (E : Env) : Opd → Opd
  | .t n => match look E n with
    | some v => .c v
    | none => .t n
  | .c v => .c v
def okO (E : Env) : Opd → Bool
  | .t n => (look E n).isSome
  | .c _ => true
theorem res_ev {E : Env} {F : T V} (h : Sub E F) {o : Opd} (ho : okO E o = true) : (res E o).ev .lf = o.ev F := by
  cases o with
  | c v => rfl
  | t n =>
    simp only [okO, Option.isSome_iff_exists] at ho
    obtain ⟨v, hv⟩ := ho
    simp [res, hv, Opd.ev, h n v hv]

def mapPs (f : Opd → Opd) : List (Nat × Nat × Opd) → List (Nat × Nat × Opd)
  | [] => []
  | (a, b, x) :: r => (a, b, f x) :: mapPs f r
def psOpds : List (Nat × Nat × Opd) → List Opd
  | [] => []
  | (_, _, x) :: r => x :: psOpds r
def mapO (f : Opd → Opd) : Option Opd → Option Opd
  | none => none
  | some x => some (f x)
def oOpds : Option Opd → List Opd
  | none => []
  | some x => [x]

def PureOp.mp (f : Opd → Opd) : PureOp → PureOp
  | .mv x => .mv (f x)
  | .pick c a b => .pick (f c) (f a) (f b)
  | .build z ps => .build z (mapPs f ps)
  | .nilck x => .nilck (f x)
  | .bin op x y => .bin op (f x) (f y)
  | .beq n x y => .beq n (f x) (f y)
  | .eqs n ks x y => .eqs n ks (f x) (f y)
  | .neg x => .neg (f x)
  | .not x => .not (f x)
  | .conv k x => .conv k (f x)
  | .mkfn g caps => .mkfn g (caps.map f)
  | .slice e x lo hi mx => .slice e (f x) (mapO f lo) (mapO f hi) (mapO f mx)
  | .faddr o x => .faddr o (f x)
  | .field a o n x => .field a o n (f x)
  | .iaddr e x i => .iaddr e (f x) (f i)
  | .aaddr l e x i => .aaddr l e (f x) (f i)
  | .aindex l e a x i => .aindex l e a (f x) (f i)
  | .extract x i => .extract (f x) i
  | .len x => .len (f x)
  | .mm b x y => .mm b (f x) (f y)
  | .nileq n x => .nileq n (f x)
  | .cint n => .cint n
  | .sindex x i => .sindex (f x) (f i)
  | .slen x => .slen (f x)
  | .sslice x lo hi => .sslice (f x) (mapO f lo) (mapO f hi)
  | .cap x => .cap (f x)
def PureOp.opds : PureOp → List Opd
  | .mv x => [x]
  | .pick c a b => [c, a, b]
  | .build _ ps => psOpds ps
  | .nilck x => [x]
  | .bin _ x y => [x, y]
  | .beq _ x y => [x, y]
  | .eqs _ _ x y => [x, y]
  | .neg x => [x]
  | .not x => [x]
  | .conv _ x => [x]
  | .mkfn _ caps => caps
  | .slice _ x lo hi mx => x :: (oOpds lo ++ (oOpds hi ++ oOpds mx))
  | .faddr _ x => [x]
  | .field _ _ _ x => [x]
  | .iaddr _ x i => [x, i]
  | .aaddr _ _ x i => [x, i]
  | .aindex _ _ _ x i => [x, i]
  | .extract x _ => [x]
  | .len x => [x]
  | .mm _ x y => [x, y]
  | .nileq _ x => [x]
  | .cint _ => []
  | .sindex x i => [x, i]
  | .slen x => [x]
  | .sslice x lo hi => x :: (oOpds lo ++ oOpds hi)
  | .cap x => [x]

section
variable {f : Opd → Opd} {F F' : T V}
theorem fill_mp : ∀ {ps : List (Nat × Nat × Opd)} {z : List C}, (∀ o ∈ psOpds ps, (f o).ev F' = o.ev F) → fillL F' z (mapPs f ps) = fillL F z ps
  | [], _, _ => rfl
  | (a, b, x) :: r, z, h => by
    simp only [mapPs, fillL, h x (by simp [psOpds])]
    split
    · rfl
    · split
      · exact fill_mp fun o ho => h o (by simp [psOpds, ho])
      · rfl
theorem caps_mp : ∀ {l : List Opd}, (∀ o ∈ l, (f o).ev F' = o.ev F) → capsL F' (l.map f) = capsL F l
  | [], _ => rfl
  | x :: l, h => by
    simp only [List.map_cons, capsL, h x (by simp), caps_mp (l := l) fun o ho => h o (by simp [ho])]
theorem bound_mp {d y : Nat} {x : Option Opd} (h : ∀ o ∈ oOpds x, (f o).ev F' = o.ev F) : aBound F' d y (mapO f x) = aBound F d y x := by
  cases x with
  | none => rfl
  | some x => simp only [mapO, aBound, h x (by simp [oOpds])]
theorem sslice_mp {v : V} {lo hi : Option Opd} (h : ∀ o ∈ oOpds lo ++ oOpds hi, (f o).ev F' = o.ev F) : aSslice F' v (mapO f lo) (mapO f hi) = aSslice F v lo hi := by
  unfold aSslice
  have h1 : ∀ k y, aBound F' k y (mapO f lo) = aBound F k y lo := fun k y => by
    cases lo with
    | none => rfl
    | some x => simp only [mapO, aBound, h x (by simp [oOpds])]
  have h2 : ∀ k y, aBound F' k y (mapO f hi) = aBound F k y hi := fun k y => by
    cases hi with
    | none => rfl
    | some x => simp only [mapO, aBound, h x (by simp [oOpds])]
  simp only [h1, h2]
theorem slice_mp {e : Nat} {v : V} {lo hi mx : Option Opd} (h : ∀ o ∈ oOpds lo ++ (oOpds hi ++ oOpds mx), (f o).ev F' = o.ev F) : aSlice F' e v (mapO f lo) (mapO f hi) (mapO f mx) = aSlice F e v lo hi mx := by
  have h1 : ∀ d y, aBound F' d y (mapO f lo) = aBound F d y lo := fun _ _ => bound_mp fun o ho => h o (by simp [ho])
  have h2 : ∀ d y, aBound F' d y (mapO f hi) = aBound F d y hi := fun _ _ => bound_mp fun o ho => h o (by simp [ho])
  have h3 : ∀ d y, aBound F' d y (mapO f mx) = aBound F d y mx := fun _ _ => bound_mp fun o ho => h o (by simp [ho])
  have h4 : (mapO f mx).isSome = mx.isSome := by cases mx <;> rfl
  simp only [aSlice, h1, h2, h3, h4]
theorem pure_mp {op : PureOp} (h : ∀ o ∈ op.opds, (f o).ev F' = o.ev F) : aPure F' (op.mp f) = aPure F op := by
  cases op with
  | build z ps => simp only [PureOp.mp, aPure, fill_mp h]
  | mkfn g caps =>
    have h' : ∀ o ∈ caps, (f o).ev F' = o.ev F := h
    simp only [PureOp.mp, aPure, caps_mp h']
  | sslice x lo hi =>
    simp only [PureOp.mp, aPure]
    rw [h x (by simp [PureOp.opds]), sslice_mp fun o ho => h o (by simp only [PureOp.opds, List.mem_cons]; exact .inr ho)]
  | slice e x lo hi mx =>
    simp only [PureOp.mp, aPure]
    rw [h x (by simp [PureOp.opds]), slice_mp fun o ho => h o (by simp only [PureOp.opds, List.mem_cons]; exact .inr ho)]
  | _ => simp only [PureOp.opds, List.mem_cons, List.not_mem_nil, or_false, forall_eq_or_imp, forall_eq] at h <;> simp only [PureOp.mp, aPure, h]

def LoadOp.mp (f : Opd → Opd) : LoadOp → LoadOp
  | .load a n x => .load a n (f x)
  | .lookup z ok m k => .lookup z ok (f m) (f k)
  | .mlen m => .mlen (f m)
def LoadOp.opds : LoadOp → List Opd
  | .load _ _ x => [x]
  | .lookup _ _ m k => [m, k]
  | .mlen m => [m]
theorem load_mp {H : Hp} {op : LoadOp} (h : ∀ o ∈ op.opds, (f o).ev F' = o.ev F) : aLoad F' H (op.mp f) = aLoad F H op := by
  cases op <;> simp only [LoadOp.opds, List.mem_cons, List.not_mem_nil, or_false, forall_eq_or_imp, forall_eq] at h <;> simp only [LoadOp.mp, aLoad, h]

def AllocOp.mp (f : Opd → Opd) : AllocOp → AllocOp
  | .alloc z => .alloc z
  | .box x => .box (f x)
  | .bslice e l z ps => .bslice e l z (mapPs f ps)
  | .mkslice e b z l c => .mkslice e b z (f l) (f c)
  | .mkmap => .mkmap
def AllocOp.opds : AllocOp → List Opd
  | .alloc _ => []
  | .box x => [x]
  | .bslice _ _ _ ps => psOpds ps
  | .mkslice _ _ _ l c => [l, c]
  | .mkmap => []
theorem alloc_mp {op : AllocOp} (h : ∀ o ∈ op.opds, (f o).ev F' = o.ev F) : aAlloc F' (op.mp f) = aAlloc F op := by
  cases op with
  | bslice e l z ps => simp only [AllocOp.mp, aAlloc, fill_mp h]
  | _ => simp only [AllocOp.opds, List.mem_cons, List.not_mem_nil, or_false, forall_eq_or_imp, forall_eq] at h <;> simp only [AllocOp.mp, aAlloc, h]

def EffOp.mp (f : Opd → Opd) : EffOp → EffOp
  | .store n a x => .store n (f a) (f x)
  | .append e b s x => .append e b (f s) (f x)
  | .copy e d s => .copy e (f d) (f s)
  | .mapupd m k x => .mapupd (f m) (f k) (f x)
  | .clear e z x => .clear e z (f x)
  | .appendz e b z s x => .appendz e b z (f s) (f x)
  | .sbytes x => .sbytes (f x)
def EffOp.opds : EffOp → List Opd
  | .store _ a x => [a, x]
  | .append _ _ s x => [s, x]
  | .copy _ d s => [d, s]
  | .mapupd m k x => [m, k, x]
  | .clear _ _ x => [x]
  | .appendz _ _ _ s x => [s, x]
  | .sbytes x => [x]
theorem eff_mp {H : Hp} {op : EffOp} (h : ∀ o ∈ op.opds, (f o).ev F' = o.ev F) : aEff F' H (op.mp f) = aEff F H op := by
  cases op <;> simp only [EffOp.opds, List.mem_cons, List.not_mem_nil, or_false, forall_eq_or_imp, forall_eq] at h <;> simp only [EffOp.mp, aEff, h]
end

theorem all_ev {E : Env} {F : T V} (h : Sub E F) {l : List Opd} (hl : l.all (okO E) = true) : ∀ o ∈ l, (res E o).ev .lf = o.ev F := fun o ho => res_ev h (List.all_eq_true.1 hl o ho)

/-- what is watched -/
def CtxLe (c0 c : Ctx) : Prop := ∀ x ∈ c, ∃ y ∈ c0, y.1 = x.1 ∧ ∀ H, y.2 H → x.2 H
theorem CtxLe.watch {c0 c : Ctx} (h : CtxLe c0 c) {ws : List Nat} {H : Hp} (hw : watchOk ws c0 H) : watchOk ws c H := by
  cases ws with
  | nil => trivial
  | cons k r =>
    intro j hj p hp
    obtain ⟨y, hy, e, hh⟩ := h (j, p) hp
    obtain ⟨y1, y2⟩ := y
    simp only at e
    subst e
    exact hh H (hw _ hj y2 hy)
theorem CtxLe.cons {c0 c : Ctx} (h : CtxLe c0 c) (k : Nat) {p0 p : Hp → Prop} (hp : ∀ H, p0 H → p H) : CtxLe ((k, p0) :: c0) ((k, p) :: c) := fun x hx => by
  rcases List.mem_cons.1 hx with rfl | hx
  · exact ⟨(k, p0), by simp, rfl, hp⟩
  · obtain ⟨y, hy, r⟩ := h x hx
    exact ⟨y, by simp [hy], r⟩

section
variable {P : Program} {G base : Nat} {Q : Env → Hp → Prop} {r : List SOper} {ctx : Ctx} {E : Env} {H : Hp} {id : Nat} {dst : Option Nat} {aid : Option Nat} {ws : List Nat} {keep : Bool}

def PW (P : Program) (G base : Nat) (Q : Env → Hp → Prop) (l : List SOper) (ctx : Ctx) (E : Env) (H : Hp) : Prop :=
  ∀ F c, Sub E F → CtxLe ctx c → wOps P G base (fun F' H' => ∃ E', Sub E' F' ∧ Q E' H') l c F H

theorem pw_nil (h : Q E H) : PW P G base Q [] ctx E H := fun _ _ hs _ => ⟨E, hs, h⟩
theorem pw_sub {l : List SOper} {E' : Env} (hs : SubE E' E) (h : PW P G base Q l ctx E' H) : PW P G base Q l ctx E H := fun F c hF hc => h F c (hF.of hs) hc

theorem pw_p {op : PureOp} {v : V} (hk : op.opds.all (okO E) = true) (hv : aPure .lf (op.mp (res E)) = some v) (h : PW P G base Q r ctx (setE E dst v) H) : PW P G base Q (⟨id, dst, .p op, none, aid, ws, keep⟩ :: r) ctx E H := by
  intro F c hs hc
  rw [pure_mp (all_ev hs hk)] at hv
  simp only [wOps, wantedA, if_true, hv]
  exact h _ c (hs.set dst v) hc
theorem pw_mvt {n : Nat} {v : V} (hv : look E n = some v) (h : PW P G base Q r ctx (setE E dst v) H) : PW P G base Q (⟨id, dst, .p (.mv (.t n)), none, aid, ws, keep⟩ :: r) ctx E H :=
  pw_p (by simp [PureOp.opds, okO, hv]) (by simp [PureOp.mp, aPure, res, hv, Opd.ev]) h
theorem pw_mvc {v : V} (h : PW P G base Q r ctx (setE E dst v) H) : PW P G base Q (⟨id, dst, .p (.mv (.c v)), none, aid, ws, keep⟩ :: r) ctx E H :=
  pw_p rfl rfl h
theorem pw_l {op : LoadOp} {v : V} (hk : op.opds.all (okO E) = true) (hv : aLoad .lf H (op.mp (res E)) = some v) (h : PW P G base Q r ctx (setE E dst v) H) : PW P G base Q (⟨id, dst, .l op, none, aid, ws, false⟩ :: r) ctx E H := by
  intro F c hs hc
  rw [load_mp (all_ev hs hk)] at hv
  simp only [wOps, wantedA, if_true, hv, Bool.false_eq_true, if_false]
  exact h _ c (hs.set dst v) hc
theorem pw_lk {op : LoadOp} {v : V} (hk : op.opds.all (okO E) = true) (hv : aLoad .lf H (op.mp (res E)) = some v) (h : PW P G base Q r ((id, fun H' => aLoad .lf H' (op.mp (res E)) = some v) :: ctx) (setE E dst v) H) : PW P G base Q (⟨id, dst, .l op, none, aid, ws, true⟩ :: r) ctx E H := by
  intro F c hs hc
  have hv' := hv
  rw [load_mp (all_ev hs hk)] at hv'
  simp only [wOps, wantedA, if_true, hv']
  exact h _ _ (hs.set dst v) (hc.cons id fun H' hh => by rw [load_mp (all_ev hs hk)] at hh; exact hh)
theorem pw_l1 {n : Nat} {a : Opd} {b o : Nat} {c : C} (hk : okO E a = true) (ha : (res E a).ev .lf = .one (.ptr b o)) (hc : H.cell b o = some c) (h : PW P G base Q r ctx (setE E dst (.one c)) H) : PW P G base Q (⟨id, dst, .l (.load false n a), none, aid, ws, false⟩ :: r) ctx E H :=
  pw_l (by simp [LoadOp.opds, hk]) (by simp [LoadOp.mp, aLoad, ha, hc]) h
theorem pw_ln {n : Nat} {a : Opd} {b o : Nat} {l : List C} (hk : okO E a = true) (ha : (res E a).ev .lf = .one (.ptr b o)) (hc : H.loads b o n = some l) (h : PW P G base Q r ctx (setE E dst (.agg l)) H) : PW P G base Q (⟨id, dst, .l (.load true n a), none, aid, ws, false⟩ :: r) ctx E H :=
  pw_l (by simp [LoadOp.opds, hk]) (by simp [LoadOp.mp, aLoad, ha, hc]) h
theorem pw_a {op : AllocOp} {bk : B} {g : Nat → V} (hk : op.opds.all (okO E) = true) (hv : aAlloc .lf (op.mp (res E)) = some (bk, g)) (h : PW P G base Q r ctx (setE E dst (g H.nx)) (H.push bk)) : PW P G base Q (⟨id, dst, .a op, none, none, ws, keep⟩ :: r) ctx E H := by
  intro F c hs hc
  rw [alloc_mp (all_ev hs hk)] at hv
  simp only [wOps, wantedA, if_true, hv]
  exact h _ c (hs.set dst _) hc
theorem pw_aid {op : AllocOp} {bk : B} {g : Nat → V} {k : Nat} (hk : op.opds.all (okO E) = true) (hv : aAlloc .lf (op.mp (res E)) = some (bk, g)) (h : PW P G base Q r ctx (setE E dst (g (base + k))) (H.add (base + k) bk)) : PW P G base Q (⟨id, dst, .a op, none, some k, ws, keep⟩ :: r) ctx E H := by
  intro F c hs hc
  rw [alloc_mp (all_ev hs hk)] at hv
  simp only [wOps, wantedA, if_true, hv]
  exact h _ c (hs.set dst _) hc
theorem pw_e {op : EffOp} {v : V} {H' : Hp} (hk : op.opds.all (okO E) = true) (hv : aEff .lf H (op.mp (res E)) = some (v, H')) (hw : watchOk ws ctx H') (h : PW P G base Q r ctx (setE E dst v) H') : PW P G base Q (⟨id, dst, .e op, none, aid, ws, keep⟩ :: r) ctx E H := by
  intro F c hs hc
  rw [eff_mp (all_ev hs hk)] at hv
  simp only [wOps, wantedA, if_true, hv]
  exact ⟨hc.watch hw, h _ c (hs.set dst _) hc⟩
theorem args_ev {F : T V} (hs : Sub E F) : ∀ {args : List Opd}, args.all (okO E) = true → args.map (·.ev F) = args.map (fun a => (res E a).ev .lf)
  | [], _ => rfl
  | a :: l, h => by
    simp only [List.all_cons, Bool.and_eq_true] at h
    simp only [List.map_cons, res_ev hs h.1, args_ev hs h.2]
theorem pw_cf {f : FuncId} {args : List Opd} {vs : List V} (hk : args.all (okO E) = true) (hvs : args.map (fun a => (res E a).ev .lf) = vs) (h : ACalls P G f vs H fun v H' => watchOk ws ctx H' ∧ PW P G base Q r ctx (setE E dst v) H') : PW P G base Q (⟨id, dst, .cf f args, none, aid, ws, keep⟩ :: r) ctx E H := by
  intro F c hs hc
  subst hvs
  simp only [wOps, wantedA, if_true]
  rw [args_ev hs hk]
  exact h.mono fun v H' hh => ⟨hc.watch hh.1, hh.2 _ c (hs.set dst v) hc⟩
theorem pw_cv {x : Opd} {f : FuncId} {caps : List (Nat × Nat)} {args : List Opd} {vs : List V} (hk : (x :: args).all (okO E) = true) (hx : (res E x).ev .lf = .one (.fn f caps)) (hf : isFn P f = true) (hvs : args.map (fun a => (res E a).ev .lf) ++ caps.map ptrV = vs) (h : ACalls P G f vs H fun v H' => watchOk ws ctx H' ∧ PW P G base Q r ctx (setE E dst v) H') : PW P G base Q (⟨id, dst, .cv x args, none, aid, ws, keep⟩ :: r) ctx E H := by
  intro F c hs hc
  subst hvs
  simp only [List.all_cons, Bool.and_eq_true] at hk
  rw [res_ev hs hk.1] at hx
  simp only [wOps, wantedA, if_true, hx]
  rw [args_ev hs hk.2]
  exact ⟨hf, h.mono fun v H' hh => ⟨hc.watch hh.1, hh.2 _ c (hs.set dst v) hc⟩⟩

/-- a guarded operation: it is wanted, or it is not -/
theorem pw_want {op : SOp} {g : Nat} {t want : Bool} (hg : look E g = some (.one (.bool t))) (ht : t = want) (h : PW P G base Q (⟨id, dst, op, none, aid, ws, keep⟩ :: r) ctx E H) : PW P G base Q (⟨id, dst, op, some (g, want), aid, ws, keep⟩ :: r) ctx E H := by
  intro F c hs hc
  have := h F c hs hc
  have hw : wantedA (some (g, want)) F = true := by simp [wantedA, hs g _ hg, ht]
  rw [wOps] at this ⊢
  simp only [wantedA, if_true] at this
  simp only [hw, if_true]
  exact this
theorem pw_skip {op : SOp} {g : Nat} {t want : Bool} (hg : look E g = some (.one (.bool t))) (ht : t = !want) (h : PW P G base Q r ctx (setE E dst V.undef) H) : PW P G base Q (⟨id, dst, op, some (g, want), aid, ws, keep⟩ :: r) ctx E H := by
  intro F c hs hc
  have hw : wantedA (some (g, want)) F = false := by simp [wantedA, hs g _ hg, ht]
  rw [wOps]
  simp only [hw, Bool.false_eq_true, if_false]
  exact h _ c (hs.set dst _) hc
/-- a guarded operation that only reads, without parting the ways -/
theorem pw_pg {op : PureOp} {v : V} {g : Nat} {t want : Bool} (hg : look E g = some (.one (.bool t))) (hk : op.opds.all (okO E) = true) (hv : t = want → aPure .lf (op.mp (res E)) = some v) (h : PW P G base Q r ctx (setE E dst (if t = want then v else V.undef)) H) : PW P G base Q (⟨id, dst, .p op, some (g, want), aid, ws, keep⟩ :: r) ctx E H := by
  by_cases ht : t = want
  · exact pw_want hg ht (pw_p hk (hv ht) (by rw [if_pos ht] at h; exact h))
  · exact pw_skip hg (by cases t <;> cases want <;> simp_all) (by rw [if_neg ht] at h; exact h)
theorem pw_lg {op : LoadOp} {v : V} {g : Nat} {t want : Bool} (hg : look E g = some (.one (.bool t))) (hk : op.opds.all (okO E) = true) (hv : t = want → aLoad .lf H (op.mp (res E)) = some v) (h : PW P G base Q r ctx (setE E dst (if t = want then v else V.undef)) H) : PW P G base Q (⟨id, dst, .l op, some (g, want), aid, ws, false⟩ :: r) ctx E H := by
  by_cases ht : t = want
  · exact pw_want hg ht (pw_l hk (hv ht) (by rw [if_pos ht] at h; exact h))
  · exact pw_skip hg (by cases t <;> cases want <;> simp_all) (by rw [if_neg ht] at h; exact h)
theorem pw_lg1 {n : Nat} {a : Opd} {b o : Nat} {c : C} {g : Nat} {t want : Bool} (hg : look E g = some (.one (.bool t))) (hk : okO E a = true) (ha : t = want → (res E a).ev .lf = .one (.ptr b o)) (hc : H.cell b o = some c) (h : PW P G base Q r ctx (setE E dst (if t = want then .one c else V.undef)) H) : PW P G base Q (⟨id, dst, .l (.load false n a), some (g, want), aid, ws, false⟩ :: r) ctx E H :=
  pw_lg hg (by simp [LoadOp.opds, hk]) (fun ht => by simp [LoadOp.mp, aLoad, ha ht, hc]) h
/-- the choice behind a guarded operation -/
theorem pw_pick {c a b : Opd} {t x y : Bool} (hk : [c, a, b].all (okO E) = true) (hc : (res E c).ev .lf = .one (.bool t)) (ha : t = true → (res E a).ev .lf = .one (.bool x)) (hb : t = false → (res E b).ev .lf = .one (.bool y)) (h : PW P G base Q r ctx (setE E dst (.one (.bool (if t = true then x else y)))) H) : PW P G base Q (⟨id, dst, .p (.pick c a b), none, aid, ws, keep⟩ :: r) ctx E H := by
  refine pw_p (v := .one (.bool (if t = true then x else y))) hk ?_ h
  simp only [PureOp.mp, aPure, hc]
  cases t with
  | true => simp [ha rfl]
  | false => simp [hb rfl]
end

/-- code on what is known -/
def PS (P : Program) (G n : Nat) (s : SC) (Q : Exit → Env → Hp → Prop) (E : Env) (H : Hp) : Prop := ∀ F, Sub E F → SWP P G n s (fun e F' H' => ∃ E', Sub E' F' ∧ Q e E' H') F H

def thenE (next : Env → Hp → Prop) (Q : Exit → Env → Hp → Prop) : Exit → Env → Hp → Prop
  | .normal, E, H => next E H
  | e, E, H => Q e E H
def blockE (id : Nat) (Q : Exit → Env → Hp → Prop) : Exit → Env → Hp → Prop
  | .exit id', E, H => if id' = id then Q .normal E H else Q (.exit id') E H
  | e, E, H => Q e E H

section
variable {P : Program} {G n : Nat} {Q : Exit → Env → Hp → Prop} {E : Env} {H : Hp}
theorem ps_sub {s : SC} {E' : Env} (hs : SubE E' E) (h : PS P G n s Q E' H) : PS P G n s Q E H := fun F hF => h F (hF.of hs)
theorem ps_mono {s : SC} {Q' : Exit → Env → Hp → Prop} (h : PS P G n s Q E H) (hq : ∀ e E H, Q e E H → Q' e E H) : PS P G n s Q' E H := fun F hF => swp_mono (h F hF) fun e _ _ ⟨E', h1, h2⟩ => ⟨E', h1, hq e _ _ h2⟩
theorem ps_wf {s : SC} (h : WF H → PS P G n s Q E H) : PS P G n s Q E H := fun F hF => swp_wf fun hw => h hw F hF
theorem ps_skip (h : Q .normal E H) : PS P G n .skip Q E H := fun _ hF => swp_skip ⟨E, hF, h⟩
theorem ps_exit {id : Nat} (h : Q (.exit id) E H) : PS P G n (.exit id) Q E H := fun _ hF => swp_exit ⟨E, hF, h⟩
theorem ps_ret (h : Q .ret E H) : PS P G n .ret Q E H := fun _ hF => swp_ret ⟨E, hF, h⟩
theorem ps_ops (hm : P.follows .mixedOrders = true) {l : List SOper} {rs : Nat} (h : PW P G H.nx (Q .normal) l [] E (H.skip rs)) : PS P G n (.ops l rs) Q E H := fun F hF => swp_ops hm (h F [] hF fun _ hx => by cases hx)
theorem ps_ops0 (hm : P.follows .mixedOrders = true) {l : List SOper} (h : PW P G H.nx (Q .normal) l [] E H) : PS P G n (.ops l 0) Q E H := ps_ops hm h
theorem ps_seq {a b : SC} (h : PS P G n a (thenE (PS P G n b Q) Q) E H) : PS P G n (.seq a b) Q E H := fun F hF => swp_seq (swp_mono (h F hF) fun e F' H' ⟨E', h1, h2⟩ => by
  cases e with
  | normal => exact h2 F' h1
  | _ => exact ⟨E', h1, h2⟩)
theorem ps_cond {d : Opd} {a b : SC} {t : Bool} (hk : okO E d = true) (ht : (res E d).ev .lf = .one (.bool t)) (h : PS P G n (if t then a else b) Q E H) : PS P G n (.cond d a b) Q E H := fun F hF => swp_cond (t := t) (by rw [← res_ev hF hk]; exact ht) (h F hF)
theorem ps_if {d : Opd} {a b : SC} {t : Bool} (hk : okO E d = true) (ht : (res E d).ev .lf = .one (.bool t)) (h1 : t = true → PS P G n a Q E H) (h2 : t = false → PS P G n b Q E H) : PS P G n (.cond d a b) Q E H := ps_cond hk ht (by
  cases t with
  | true => exact h1 rfl
  | false => exact h2 rfl)
theorem ps_block {id : Nat} {a : SC} (h : PS P G n a (blockE id Q) E H) : PS P G n (.block id a) Q E H := fun F hF => swp_block (swp_mono (h F hF) fun e F' H' ⟨E', h1, h2⟩ => by
  cases e with
  | exit id' =>
    simp only [blockE] at h2
    simp only [blockQ]
    split
    · rename_i e; rw [if_pos e] at h2; exact ⟨E', h1, h2⟩
    · rename_i e; rw [if_neg e] at h2; exact ⟨E', h1, h2⟩
  | _ => exact ⟨E', h1, h2⟩)
theorem ps_loop {a : SC} (I : Nat → Env → Hp → Prop) {m : Nat} (h0 : ∃ E0, SubE E0 E ∧ I m E0 H) (round : ∀ m E H, WF H → I m E H → PS P G n a (thenE (fun E' H' => ∃ m', m' < m ∧ ∃ E0, SubE E0 E' ∧ I m' E0 H') Q) E H) : PS P G n (.loop a) Q E H := fun F hF => by
  obtain ⟨E0, hs, hI⟩ := h0
  refine swp_loop (fun m F H => ∃ E, Sub E F ∧ I m E H) ⟨E0, hF.of hs, hI⟩ ?_
  rintro m F H ⟨E, hF, hI⟩
  refine swp_wf fun hw => swp_mono (round m E H hw hI F hF) fun e F' H' ⟨E', h1, h2⟩ => ?_
  cases e with
  | normal =>
    obtain ⟨m', hm', E0, hs, hI'⟩ := h2
    exact ⟨m', hm', E0, h1.of hs, hI'⟩
  | _ => exact ⟨E', h1, h2⟩

def argsE : List V → Nat → Env
  | [], _ => []
  | v :: l, i => (i, v) :: argsE l (i + 1)
theorem argsE_sub : ∀ (args : List V) (i : Nat), Sub (argsE args i) (initF args i)
  | [], _ => fun _ _ h => by cases h
  | v :: l, i => fun n x h => by
    simp only [argsE, look_cons] at h
    simp only [initF, T.get_set]
    split at h
    · rename_i e; subst e; rw [if_pos rfl]; exact h
    · rename_i e; rw [if_neg (fun h => e h.symm)]; exact argsE_sub l (i + 1) n x h

def resE (E : Env) (H : Hp) : SRes → Option V
  | .t n => look E n
  | .cell agg k n => match look E n with
    | some v => aLoad .lf H (.load agg k (.c v))
    | none => none
def resEL (E : Env) (H : Hp) : List SRes → Option (List V)
  | [] => some []
  | r :: l => match resE E H r, resEL E H l with
    | some v, some vs => if isOne v then some (v :: vs) else none
    | _, _ => none
def resultE (E : Env) (H : Hp) (rs : List SRes) : Option V :=
  match resEL E H rs with
  | some [v] => some v
  | some vs => some (.tup vs)
  | none => none
theorem resE_ok {F : T V} (hs : Sub E F) {r : SRes} {v : V} (h : resE E H r = some v) : aRes F H r = some v := by
  cases r with
  | t n => simp only [resE] at h; simp [aRes, hs n v h]
  | cell agg k n =>
    simp only [resE] at h
    split at h
    · rename_i x hx
      simp only [aRes, aLoad, Opd.ev, hs n x hx, Option.getD_some] at h ⊢
      exact h
    · cases h
theorem resEL_ok {F : T V} (hs : Sub E F) : ∀ {l : List SRes} {vs : List V}, resEL E H l = some vs → aResL F H l = some vs
  | [], vs, h => h
  | r :: l, vs, h => by
    simp only [resEL] at h
    cases h1 : resE E H r with
    | none => simp [h1] at h
    | some v =>
      cases h2 : resEL E H l with
      | none => simp [h1, h2] at h
      | some vs' =>
        simp only [h1, h2] at h
        simp only [aResL, resE_ok hs h1, resEL_ok hs h2]
        exact h
theorem resultE_ok {F : T V} (hs : Sub E F) {rs : List SRes} {v : V} (h : resultE E H rs = some v) : aResult F H rs = some v := by
  unfold resultE at h
  unfold aResult
  cases h1 : resEL E H rs with
  | none => simp [h1] at h
  | some vs => rw [resEL_ok hs h1]; rw [h1] at h; exact h

def retE (rs : List SRes) (R : V → Hp → Prop) : Exit → Env → Hp → Prop
  | .normal, E, H => ∃ v, resultE E H rs = some v ∧ R v H
  | .ret, E, H => ∃ v, resultE E H rs = some v ∧ R v H
  | _, _, _ => False

theorem pfn_ok {f : FuncId} {sf : SFn} (hf : cpFn P G f = some sf) {args : List V} {R : V → Hp → Prop} (hn : args.length ≤ sf.n) (h : WF H → PS P G sf.n sf.code (retE sf.res R) (argsE args 0) H) : ACalls P G f args H R := by
  refine acalls_wf fun hw => fn_ok hf hn (swp_mono (h hw _ (argsE_sub args 0)) fun e F' H' ⟨E', h1, h2⟩ => ?_)
  cases e with
  | normal => obtain ⟨v, hv, hR⟩ := h2; simp only [retQ, resultE_ok h1 hv]; exact hR
  | ret => obtain ⟨v, hv, hR⟩ := h2; simp only [retQ, resultE_ok h1 hv]; exact hR
  | _ => exact h2.elim
end
end Go.Ab
namespace Go.Ab
section
variable {P : Program} {G base : Nat} {Q : Env → Hp → Prop} {r : List SOper} {ctx : Ctx} {E : Env} {H H' : Hp} {id : Nat} {dst : Option Nat} {aid : Option Nat} {ws : List Nat} {keep : Bool}
theorem pw_st1 {a x : Opd} {b o : Nat} {c : C} (hk : [a, x].all (okO E) = true) (ha : (res E a).ev .lf = .one (.ptr b o)) (hx : (res E x).ev .lf = .one c) (hs : H.store b o c = some H') (hw : watchOk ws ctx H') (h : PW P G base Q r ctx (setE E dst V.undef) H') : PW P G base Q (⟨id, dst, .e (.store 1 a x), none, aid, ws, keep⟩ :: r) ctx E H :=
  pw_e hk (by simp [EffOp.mp, aEff, ha, hx, cells1, Hp.stores, hs]) hw h
theorem pw_stn {n : Nat} {a x : Opd} {b o : Nat} {l : List C} (hk : [a, x].all (okO E) = true) (ha : (res E a).ev .lf = .one (.ptr b o)) (hx : (res E x).ev .lf = .agg l) (hn : l.length = n) (hs : H.stores b o l = some H') (hw : watchOk ws ctx H') (h : PW P G base Q r ctx (setE E dst V.undef) H') : PW P G base Q (⟨id, dst, .e (.store n a x), none, aid, ws, keep⟩ :: r) ctx E H :=
  pw_e hk (by simp [EffOp.mp, aEff, ha, hx, cells1, hn, hs]) hw h
theorem pw_app {esz bytes m : Nat} {s x : Opd} {sv xv v' : V} {news : List C} (hk : [s, x].all (okO E) = true) (hs : (res E s).ev .lf = sv) (hx : (res E x).ev .lf = xv) (hc : srcCells H esz xv = some (m, news)) (ha : aAppend H esz bytes sv m news = some (v', H')) (hw : watchOk ws ctx H') (h : PW P G base Q r ctx (setE E dst v') H') : PW P G base Q (⟨id, dst, .e (.append esz bytes s x), none, aid, ws, keep⟩ :: r) ctx E H :=
  pw_e hk (by simp [EffOp.mp, aEff, hs, hx, hc, ha]) hw h
end
end Go.Ab
namespace Go.Ab
section
variable {P : Program} {G base : Nat} {Q : Env → Hp → Prop} {r : List SOper} {ctx : Ctx} {E : Env} {H H' : Hp} {id : Nat} {dst : Option Nat} {aid : Option Nat} {ws : List Nat} {keep : Bool}
theorem pw_max {x y : Opd} {k : IntKind} {a b : Int} (hk : [x, y].all (okO E) = true) (hx : (res E x).ev .lf = .one (.int k a)) (hy : (res E y).ev .lf = .one (.int k b)) (h : PW P G base Q r ctx (setE E dst (.one (.int k (max a b)))) H) : PW P G base Q (⟨id, dst, .p (.mm true x y), none, aid, ws, keep⟩ :: r) ctx E H := by
  refine pw_p (v := .one (.int k (max a b))) hk ?_ h
  simp only [PureOp.mp, aPure, hx, hy, if_true]
  congr 3
  split <;> omega
theorem pw_min {x y : Opd} {k : IntKind} {a b : Int} (hk : [x, y].all (okO E) = true) (hx : (res E x).ev .lf = .one (.int k a)) (hy : (res E y).ev .lf = .one (.int k b)) (h : PW P G base Q r ctx (setE E dst (.one (.int k (min a b)))) H) : PW P G base Q (⟨id, dst, .p (.mm false x y), none, aid, ws, keep⟩ :: r) ctx E H := by
  refine pw_p (v := .one (.int k (min a b))) hk ?_ h
  simp only [PureOp.mp, aPure, hx, hy, if_true]
  simp only [Bool.false_eq_true, if_false]
  congr 3
  split <;> omega
end
end Go.Ab
namespace Go.Ab
section
variable {P : Program} {G base : Nat} {Q : Env → Hp → Prop} {r : List SOper} {ctx : Ctx} {E : Env} {H H' : Hp} {id : Nat} {dst : Option Nat} {aid : Option Nat} {ws : List Nat} {keep : Bool}
theorem mk_ev {esz bytes n : Nat} {z : List C} {l c : Opd} {k k' : IntKind} (hl : (res E l).ev .lf = .one (.int k n)) (hc : (res E c).ev .lf = .one (.int k' n)) (hb : bytes * n ≤ 281474976710656) (hn : n < 4611686018427387904) :
    aAlloc .lf (AllocOp.mp (res E) (.mkslice esz bytes z l c)) = some (.row (n * esz) z .lf true, fun b => .one (.slc b 0 n n esz true)) := by
  simp only [AllocOp.mp, aAlloc, hl, hc]
  rw [if_pos ⟨by omega, by omega, by omega, by omega⟩]
  simp
/-- make([]T, n) -/
theorem pw_mk {esz bytes n : Nat} {z : List C} {l c : Opd} {k k' : IntKind} (hk : [l, c].all (okO E) = true) (hl : (res E l).ev .lf = .one (.int k n)) (hc : (res E c).ev .lf = .one (.int k' n)) (hb : bytes * n ≤ 281474976710656) (hn : n < 4611686018427387904)
    (h : PW P G base Q r ctx (setE E dst (.one (.slc H.nx 0 n n esz true))) (H.push (.row (n * esz) z .lf true))) : PW P G base Q (⟨id, dst, .a (.mkslice esz bytes z l c), none, none, ws, keep⟩ :: r) ctx E H := pw_a hk (mk_ev hl hc hb hn) h
theorem pw_mki {esz bytes n : Nat} {z : List C} {l c : Opd} {k k' : IntKind} {j : Nat} (hk : [l, c].all (okO E) = true) (hl : (res E l).ev .lf = .one (.int k n)) (hc : (res E c).ev .lf = .one (.int k' n)) (hb : bytes * n ≤ 281474976710656) (hn : n < 4611686018427387904)
    (h : PW P G base Q r ctx (setE E dst (.one (.slc (base + j) 0 n n esz true))) (H.add (base + j) (.row (n * esz) z .lf true))) : PW P G base Q (⟨id, dst, .a (.mkslice esz bytes z l c), none, some j, ws, keep⟩ :: r) ctx E H := pw_aid hk (mk_ev hl hc hb hn) h
theorem b1_ev {esz : Nat} {z : List C} {x : Opd} {cs : List C} (hx : cells1 ((res E x).ev .lf) = some cs) (hn : cs.length = esz) : aAlloc .lf (AllocOp.mp (res E) (.bslice esz 1 z [(0, esz, x)])) = some (.row cs.length cs .lf true, fun b => .one (.slc b 0 1 1 esz true)) := by
  simp only [AllocOp.mp, aAlloc, mapPs, fillL, hx, hn]
  have hp : (patt z (1 * esz)).length = esz := by simp [patt]
  rw [if_pos ⟨trivial, by rw [hp]; omega⟩]
  simp only [List.take_zero, List.nil_append, Nat.zero_add]
  rw [List.drop_of_length_le (by rw [hp]; omega), List.append_nil, hn]
/-- the slice of one element behind an append -/
theorem pw_b1 {esz : Nat} {z : List C} {x : Opd} {cs : List C} (hk : okO E x = true) (hx : cells1 ((res E x).ev .lf) = some cs) (hn : cs.length = esz)
    (h : PW P G base Q r ctx (setE E dst (.one (.slc H.nx 0 1 1 esz true))) (H.push (.row cs.length cs .lf true))) : PW P G base Q (⟨id, dst, .a (.bslice esz 1 z [(0, esz, x)]), none, none, ws, keep⟩ :: r) ctx E H :=
  pw_a (by simp [AllocOp.opds, psOpds, hk]) (b1_ev hx hn) h
theorem pw_b1i {esz : Nat} {z : List C} {x : Opd} {cs : List C} {j : Nat} (hk : okO E x = true) (hx : cells1 ((res E x).ev .lf) = some cs) (hn : cs.length = esz)
    (h : PW P G base Q r ctx (setE E dst (.one (.slc (base + j) 0 1 1 esz true))) (H.add (base + j) (.row cs.length cs .lf true))) : PW P G base Q (⟨id, dst, .a (.bslice esz 1 z [(0, esz, x)]), none, some j, ws, keep⟩ :: r) ctx E H :=
  pw_aid (by simp [AllocOp.opds, psOpds, hk]) (b1_ev hx hn) h
theorem src_row {b n esz cap : Nat} {cs : List C} {ex : Bool} (h : H.loads b 0 (n * esz) = some cs) : srcCells H esz (.one (.slc b 0 n cap esz ex)) = some (n, cs) := by simp [srcCells, h]
theorem src_sl {n esz : Nat} {cs : List C} {v : V} (h : Sl H esz n cs v) : srcCells H esz v = some (n, cs) := by
  obtain ⟨hl, h⟩ := h
  rcases h with ⟨rfl, rfl⟩ | ⟨b, o, cap, ex, rfl, h⟩
  · have : cs = [] := List.eq_nil_of_length_eq_zero (by simpa using hl)
    subst this; rfl
  · simp [srcCells, h]
end
/-- a new row of equal cells -/
theorem loads_fill {H : Hp} {b n : Nat} {x : C} {rw : Bool} (h : H.get b = some (.row n [x] .lf rw)) : H.loads b 0 n = some (List.replicate n x) := by
  have key : ∀ (m o : Nat), o + m = n → H.loads b o m = some (List.replicate m x) := by
    intro m
    induction m with
    | zero => intro o _; rfl
    | succ m ih =>
      intro o ho
      have hc : H.cell b o = some x := by simp [Hp.cell, h, B.cell, show o < n by omega, Nat.mod_one]
      simp only [Hp.loads, hc, ih (o + 1) (by omega)]
      rfl
  exact key n 0 (by omega)
theorem Row.fill {H : Hp} {b n : Nat} {x : C} (h : H.get b = some (.row n [x] .lf true)) : Row H b (List.replicate n x) := ⟨⟨[x], .lf, by simpa using h⟩, by simpa using loads_fill h⟩
end Go.Ab
namespace Go.Ab
theorem watch_all {ws : List Nat} {ctx : Ctx} {H : Hp} (h : ∀ x ∈ ctx, x.2 H) : watchOk ws ctx H := by
  cases ws with
  | nil => trivial
  | cons k r => exact fun j _ p hp => h (j, p) hp
theorem watch_one {ws : List Nat} {k : Nat} {p : Hp → Prop} {H : Hp} (h : p H) : watchOk ws [(k, p)] H := watch_all fun x hx => by
  simp at hx
  subst hx
  exact h
section
variable {P : Program} {G base : Nat} {Q : Env → Hp → Prop} {r : List SOper} {ctx : Ctx} {E : Env} {H H' : Hp} {id : Nat} {dst : Option Nat} {aid : Option Nat} {ws : List Nat} {keep : Bool}
theorem pw_ctx {l : List SOper} {c0 : Ctx} (hc : CtxLe c0 ctx) (h : PW P G base Q l c0 E H) : PW P G base Q l ctx E H := fun F c hF hc' => h F c hF fun x hx => by
  obtain ⟨y, hy, e, hh⟩ := hc' x hx
  obtain ⟨y0, hy0, e0, hh0⟩ := hc y hy
  exact ⟨y0, hy0, e0.trans e, fun H h => hh H (hh0 H h)⟩
theorem pw_lk1 {n : Nat} {a : Opd} {b o : Nat} {c : C} (hk : okO E a = true) (ha : (res E a).ev .lf = .one (.ptr b o)) (hc : H.cell b o = some c) (h : PW P G base Q r ((id, fun H' => H'.cell b o = some c) :: ctx) (setE E dst (.one c)) H) : PW P G base Q (⟨id, dst, .l (.load false n a), none, aid, ws, true⟩ :: r) ctx E H :=
  pw_lk (by simp [LoadOp.opds, hk]) (by simp [LoadOp.mp, aLoad, ha, hc]) (pw_ctx (CtxLe.cons (fun x hx => ⟨x, hx, rfl, fun _ h => h⟩) id fun H' hh => by simp [LoadOp.mp, aLoad, ha, hh]) h)
theorem pw_lkn {n : Nat} {a : Opd} {b o : Nat} {l : List C} (hk : okO E a = true) (ha : (res E a).ev .lf = .one (.ptr b o)) (hc : H.loads b o n = some l) (h : PW P G base Q r ((id, fun H' => H'.loads b o n = some l) :: ctx) (setE E dst (.agg l)) H) : PW P G base Q (⟨id, dst, .l (.load true n a), none, aid, ws, true⟩ :: r) ctx E H :=
  pw_lk (by simp [LoadOp.opds, hk]) (by simp [LoadOp.mp, aLoad, ha, hc]) (pw_ctx (CtxLe.cons (fun x hx => ⟨x, hx, rfl, fun _ h => h⟩) id fun H' hh => by simp [LoadOp.mp, aLoad, ha, hh]) h)
theorem pw_rem {x y : Opd} {k : IntKind} {a b : Int} (hk : [x, y].all (okO E) = true) (hx : (res E x).ev .lf = .one (.int k a)) (hy : (res E y).ev .lf = .one (.int k b)) (hb : b ≠ 0) (h : PW P G base Q r ctx (setE E dst (.one (.int k (a.tmod b)))) H) : PW P G base Q (⟨id, dst, .p (.bin .rem x y), none, aid, ws, keep⟩ :: r) ctx E H :=
  pw_p (v := .one (.int k (a.tmod b))) hk (by simp [PureOp.mp, aPure, hx, hy, aBin, hb]) h
theorem pw_quo {x y : Opd} {k : IntKind} {a b : Int} (hk : [x, y].all (okO E) = true) (hx : (res E x).ev .lf = .one (.int k a)) (hy : (res E y).ev .lf = .one (.int k b)) (hb : b ≠ 0) (h : PW P G base Q r ctx (setE E dst (.one (.int k (k.wrap (a.tdiv b))))) H) : PW P G base Q (⟨id, dst, .p (.bin .quo x y), none, aid, ws, keep⟩ :: r) ctx E H :=
  pw_p (v := .one (.int k (k.wrap (a.tdiv b)))) hk (by simp [PureOp.mp, aPure, hx, hy, aBin, hb]) h
end
end Go.Ab
namespace Go.Ab
def allCtx (H : Hp) : Ctx → Prop
  | [] => True
  | x :: c => x.2 H ∧ allCtx H c
theorem allCtx.mem {H : Hp} : ∀ {c : Ctx}, allCtx H c → ∀ x ∈ c, x.2 H
  | [], _, _, hx => by cases hx
  | y :: c, h, x, hx => by
    rcases List.mem_cons.1 hx with rfl | hx
    · exact h.1
    · exact allCtx.mem h.2 x hx
section
variable {P : Program} {G base : Nat} {Q : Env → Hp → Prop} {r : List SOper} {ctx : Ctx} {E : Env} {H H' : Hp} {id : Nat} {dst : Option Nat} {aid : Option Nat} {ws : List Nat} {keep : Bool}
/-- a call that leaves the heap as it is -/
theorem pw_cfp {f : FuncId} {args : List Opd} {vs : List V} {v0 : V} (hk : args.all (okO E) = true) (hvs : args.map (fun a => (res E a).ev .lf) = vs) (hc : ACalls P G f vs H fun v H' => v = v0 ∧ H' = H) (hx : allCtx H ctx) (h : PW P G base Q r ctx (setE E dst v0) H) : PW P G base Q (⟨id, dst, .cf f args, none, aid, ws, keep⟩ :: r) ctx E H :=
  pw_cf hk hvs (hc.mono fun v H' ⟨e1, e2⟩ => by subst e1; subst e2; exact ⟨watch_all hx.mem, h⟩)
end
end Go.Ab
namespace Go.Ab
section
variable {P : Program} {G base : Nat} {Q : Env → Hp → Prop} {r : List SOper} {ctx : Ctx} {E : Env} {H H' : Hp} {id : Nat} {dst : Option Nat} {aid : Option Nat} {ws : List Nat} {keep : Bool}
/-- make([]T, n, m) -/
theorem pw_mkc {esz bytes n m : Nat} {z : List C} {l c : Opd} {k k' : IntKind} (hk : [l, c].all (okO E) = true) (hl : (res E l).ev .lf = .one (.int k n)) (hc : (res E c).ev .lf = .one (.int k' m)) (hnm : n ≤ m) (hb : bytes * m ≤ 281474976710656) (hn : m < 4611686018427387904)
    (h : PW P G base Q r ctx (setE E dst (.one (.slc H.nx 0 n m esz true))) (H.push (.row (m * esz) z .lf true))) : PW P G base Q (⟨id, dst, .a (.mkslice esz bytes z l c), none, none, ws, keep⟩ :: r) ctx E H :=
  pw_a (bk := .row (m * esz) z .lf true) (g := fun b => .one (.slc b 0 n m esz true)) hk (by
    simp only [AllocOp.mp, aAlloc, hl, hc]
    rw [if_pos ⟨by omega, by omega, by omega, by omega⟩]
    simp) h
end
end Go.Ab

/- Deep values: slices as lists; the boxes of a call's own; how they relate to abstract heaps. -/
namespace Go.Ab

/-- what may no more be written: cells without address, and slices with their cells -/
inductive FD where
  | c (x : C)
  | sl (esz n : Nat) (l : List FD)

inductive DC where
  | f (d : FD)
  | g (b o : Nat)
  | ptr (k o : Nat)
  | own (k o n esz : Nat)
  | fptr (l : List FD)
  | fn (f : FuncId) (caps : List (Nat × Nat))
  | any
  | trow (k i o n : Nat)
  | tptr (k i o : Nat)
  | om (k : Nat)
  | yl (k : Nat)

inductive DV where
  | one (c : DC)
  | agg (l : List DC)
  | tup (l : List DV)

abbrev DC.c (x : C) : DC := .f (.c x)
abbrev DV.c (x : C) : DV := .one (.f (.c x))
abbrev DV.int (n : Int) : DV := .one (.f (.c (.int .i64 n)))
abbrev DV.bool (b : Bool) : DV := .one (.f (.c (.bool b)))
abbrev DV.undef : DV := .tup []

/-- what a map of rows has at a key: a row of its own, or a value -/
inductive ME where
  | row (r : List FD)
  | out (c : DC)
/-- what else a box may be: a map (how long its keys are); the record of a range over a function (the temporaries that are kept, ts) -/
inductive Sh where
  | m (ks : Nat)
  | lp (st : LoopState) (j : Option Code) (f : FuncId) (n : Nat) (ts : List Nat) (ps : List Nat) (sg bd : Code)
inductive Bk where
  | cells (l : List DC)
  | data (l : List FD)
  | tree (rows : List (List FD))
  | mp (ks : Sh) (l : List DC)
  | mt (es : List (Int × ME))

/-- where a box lies: nowhere yet (a nil slice), or a block of a size -/
inductive Slot where
  | nil
  | blk (b N : Nat)

inductive RF (Z : Nat → Prop) (H : Hp) : FD → C → Prop where
  | c (x : C) : x.closed = true → RF Z H (.c x) x
  | nil (esz : Nat) : RF Z H (.sl esz 0 []) .nils
  | sl {esz n b o cap : Nat} {ex : Bool} {l : List FD} {cs : List C} : (0 < n * esz → Z b) → l.length = n * esz → n ≤ cap → H.loads b o (n * esz) = some cs → (∀ (i : Nat) d c, l[i]? = some d → cs[i]? = some c → RF Z H d c) → RF Z H (.sl esz n l) (.slc b o n cap esz ex)

abbrev Key := Nat × Nat
abbrev Beta := Key → Option Slot

def capsR (β : Beta) : List (Nat × Nat) → List (Nat × Nat) → Prop
  | [], [] => True
  | (k, o) :: r, (b, o') :: r' => o' = o ∧ (∃ N, β (k, 0) = some (.blk b N)) ∧ capsR β r r'
  | _, _ => False

def RD (Z : Nat → Prop) (H : Hp) (β : Beta) : DC → C → Prop
  | .f d, c => RF Z H d c
  | .g b o, c => c = .ptr b o
  | .ptr k o, c => ∃ b N, β (k, 0) = some (.blk b N) ∧ c = .ptr b o
  | .own k o n esz, c => (β (k, 0) = some .nil ∧ n = 0 ∧ o = 0 ∧ c = .nils) ∨ ∃ b N cap ex, β (k, 0) = some (.blk b N) ∧ c = .slc b o n cap esz ex ∧ n ≤ cap ∧ o + cap * esz ≤ N
  | .fptr l, c => ∃ b o cs, c = .ptr b o ∧ Z b ∧ H.loads b o l.length = some cs ∧ All2 (RF Z H) l cs
  | .fn f caps, c => ∃ caps', c = .fn f caps' ∧ capsR β caps caps'
  | .any, _ => True
  | .tptr k i o, c => ∃ b N, β (k, i + 1) = some (.blk b N) ∧ c = .ptr b o
  | .om k, c => ∃ b N, β (k, 0) = some (.blk b N) ∧ c = .map b
  | .yl k, c => ∃ b N, β (k, 0) = some (.blk b N) ∧ c = .yld b
  | .trow k i o n, c => (β (k, i + 1) = some .nil ∧ n = 0 ∧ o = 0 ∧ c = .nils) ∨ ∃ b N cap ex, β (k, i + 1) = some (.blk b N) ∧ c = .slc b o n cap 1 ex ∧ n ≤ cap ∧ o + cap * 1 ≤ N

def RDV1 (Z : Nat → Prop) (H : Hp) (β : Beta) : DV → V → Prop
  | .one d, v => ∃ c, v = .one c ∧ RD Z H β d c
  | .agg l, v => ∃ cs, v = .agg cs ∧ All2 (RD Z H β) l cs
  | .tup _, _ => False
def RDV (Z : Nat → Prop) (H : Hp) (β : Beta) : DV → V → Prop
  | .tup l, v => ∃ vs, v = .tup vs ∧ All2 (RDV1 Z H β) l vs
  | d, v => RDV1 Z H β d v

def Bk.rel (Z : Nat → Prop) (H : Hp) (β : Beta) : Bk → List C → Prop
  | .cells l, cs => All2 (RD Z H β) l cs
  | .data l, cs => All2 (RF Z H) l cs
  | .tree _, _ => False
  | .mp _ l, cs => All2 (RD Z H β) l cs
  | .mt _, _ => False
def Bk.len : Bk → Nat
  | .cells l => l.length
  | .data l => l.length
  | .tree rows => rows.length
  | .mp _ l => l.length
  | .mt es => es.length
def Bk.flat : Bk → Bool
  | .tree _ => false
  | .mt _ => false
  | _ => true
/-- a map, and how long its keys are -/
def Bk.shape : Bk → Option Sh
  | .mp ks _ => some ks
  | _ => none
def keyOk : Nat → V → Prop
  | 0, v => ∃ c, v = .one c
  | n + 1, v => ∃ l, v = .agg l ∧ l.length = n + 1
def MF : List (V × V) → List C
  | [] => []
  | (k, v) :: es => k.cells ++ v.cells ++ MF es
/-- the cells of some temporaries -/
def TsR (F : T V) : List Nat → List C → Prop
  | [], [] => True
  | t :: ts, c :: cs => F.get t = some (.one c) ∧ TsR F ts cs
  | _, _ => False
def RowK : Option Sh → Hp → Nat → List C → Prop
  | none, H, b, cs => Row H b cs
  | some (.m ks), H, b, cs => ∃ es, H.get b = some (.mp es) ∧ (∀ e ∈ es, keyOk ks e.1 ∧ ∃ c, e.2 = .one c) ∧ MF es = cs
  | some (.lp st j f n ts ps sg bd), H, b, cs => ∃ F, H.get b = some (.lp st j f n F ps.toArray sg bd) ∧ TsR F ts cs
/-- the room of a row; a map has none -/
def lenOk : Option Sh → Nat → Nat → List C → Prop
  | none, n, N, _ => n = N
  | some _, _, _, rest => rest = []
theorem lenOk.of {s : Option Sh} {n N : Nat} {rest : List C} (hs : s = none) (h : n = N) : lenOk s n N rest := by subst hs; exact h
theorem RowK.same {s : Option Sh} {H H' : Hp} {b : Nat} {cs : List C} (h : RowK s H b cs) (hg : H'.get b = H.get b) : RowK s H' b cs := by
  cases s with
  | none => exact Row.same h hg
  | some ks => cases ks <;> (obtain ⟨es, h1, h2⟩ := h; exact ⟨es, by rw [hg]; exact h1, h2⟩)
theorem RowK.lt {s : Option Sh} {H : Hp} {b : Nat} {cs : List C} (h : RowK s H b cs) (hw : WF H) : b < H.nx := by
  cases s with
  | none => exact Row.lt h hw
  | some ks => cases ks <;> (obtain ⟨es, h1, h2⟩ := h; exact hw b _ h1)

abbrev DEnv := List (Nat × DV)
abbrev Bx := List (Nat × Bk)
def lk {α : Type} : List (Nat × α) → Nat → Option α
  | [], _ => none
  | (k, v) :: E, n => match Nat.beq k n with
    | true => some v
    | false => lk E n
theorem beq_self (k : Nat) : Nat.beq k k = true := by simp
theorem beq_ne {k n : Nat} (h : k ≠ n) : Nat.beq k n = false := by
  cases hb : Nat.beq k n with
  | true => exact absurd (Nat.eq_of_beq_eq_true hb) h
  | false => rfl
theorem lk_cons {α : Type} (k : Nat) (v : α) (E : List (Nat × α)) (n : Nat) : lk ((k, v) :: E) n = if k = n then some v else lk E n := by
  simp only [lk]
  by_cases h : k = n
  · subst h; simp
  · rw [if_neg h, beq_ne h]
def era {α : Type} (k : Nat) : List (Nat × α) → List (Nat × α)
  | [] => []
  | (j, v) :: E => match Nat.beq j k with
    | true => era k E
    | false => (j, v) :: era k E
theorem lk_era {α : Type} (k n : Nat) : ∀ E : List (Nat × α), lk (era k E) n = if n = k then none else lk E n
  | [] => by simp [era, lk]
  | (j, v) :: E => by
    simp only [era]
    by_cases h : j = k
    · subst h
      rw [beq_self, lk_cons]
      simp only
      rw [lk_era j n E]
      by_cases h2 : n = j
      · rw [if_pos h2, if_pos h2]
      · rw [if_neg h2, if_neg h2, if_neg (fun h => h2 h.symm)]
    · rw [beq_ne h]
      simp only
      rw [lk_cons, lk_cons, lk_era k n E]
      by_cases h2 : j = n
      · rw [if_pos h2, if_neg (by omega), if_pos h2]
      · rw [if_neg h2, if_neg h2]
def put {α : Type} (k : Nat) (v : α) : List (Nat × α) → List (Nat × α)
  | [] => []
  | (j, u) :: E => match Nat.beq j k with
    | true => (j, v) :: E
    | false => (j, u) :: put k v E
theorem lk_put {α : Type} (k : Nat) (v : α) (n : Nat) : ∀ E : List (Nat × α), lk (put k v E) n = if n = k then (lk E n).map (fun _ => v) else lk E n
  | [] => by simp [put, lk]
  | (j, u) :: E => by
    simp only [put]
    by_cases h : j = k
    · subst h
      rw [beq_self]
      simp only
      rw [lk_cons, lk_cons]
      by_cases h2 : n = j
      · subst h2; simp
      · rw [if_neg h2, if_neg (fun h => h2 h.symm), if_neg (fun h => h2 h.symm)]
    · rw [beq_ne h]
      simp only
      rw [lk_cons, lk_cons, lk_put k v n E]
      by_cases h2 : j = n
      · rw [if_pos h2, if_pos h2, if_neg (by omega)]
      · rw [if_neg h2, if_neg h2]

/-- the rows of a tree, as the boxes of their own -/
def rowsV (k : Nat) : Nat → List (List FD) → List DC
  | _, [] => []
  | i, r :: rs => .trow k i 0 r.length :: rowsV k (i + 1) rs
def mtV (k : Nat) : Nat → List (Int × ME) → List DC
  | _, [] => []
  | i, (y, .row r) :: es => .f (.c (.int .i64 y)) :: .trow k i 0 r.length :: mtV k (i + 1) es
  | i, (y, .out c) :: es => .f (.c (.int .i64 y)) :: c :: mtV k (i + 1) es
def mtRow : Option (Int × ME) → Option Bk
  | some (_, .row r) => some (.data r)
  | _ => none
def lk2 (S : Bx) : Key → Option Bk
  | (k, 0) => match lk S k with
    | some (.tree rows) => some (.cells (rowsV k 0 rows))
    | some (.mt es) => some (.mp (.m 0) (mtV k 0 es))
    | o => o
  | (k, i + 1) => match lk S k with
    | some (.tree rows) => (rows[i]?).map .data
    | some (.mt es) => mtRow es[i]?
    | _ => none
theorem mtRow_at {o : Option (Int × ME)} {x : Bk} (h : mtRow o = some x) : ∃ y r, o = some (y, .row r) ∧ x = .data r := by
  unfold mtRow at h
  split at h
  · exact ⟨_, _, rfl, (Option.some.inj h).symm⟩
  · cases h
/-- the values that are not its own, turned -/
def ME.map (f : DC → DC) : ME → ME
  | .row r => .row r
  | .out c => .out (f c)
def mtMap (f : DC → DC) (es : List (Int × ME)) : List (Int × ME) := es.map fun e => (e.1, e.2.map f)
theorem mtRow_map (f : DC → DC) (es : List (Int × ME)) (i : Nat) : mtRow (mtMap f es)[i]? = mtRow es[i]? := by
  unfold mtMap
  rw [List.getElem?_map]
  cases es[i]? with
  | none => rfl
  | some e => obtain ⟨y, e⟩ := e; cases e <;> rfl
theorem mtV_map (f : DC → DC) (k k' : Nat) (hf : ∀ x, f (.f x) = .f x) (ht : ∀ i n, f (.trow k i 0 n) = .trow k' i 0 n) : ∀ (i : Nat) (es : List (Int × ME)), mtV k' i (mtMap f es) = (mtV k i es).map f
  | _, [] => rfl
  | i, (y, .row r) :: es => by
    have := mtV_map f k k' hf ht (i + 1) es
    simp only [mtMap, List.map_cons, ME.map, mtV, hf, ht] at this ⊢
    rw [this]
  | i, (y, .out c) :: es => by
    have := mtV_map f k k' hf ht (i + 1) es
    simp only [mtMap, List.map_cons, ME.map, mtV, hf] at this ⊢
    rw [this]
theorem rowsV_len (k : Nat) : ∀ (i : Nat) (rs : List (List FD)), (rowsV k i rs).length = rs.length
  | _, [] => rfl
  | i, _ :: rs => by simp [rowsV, rowsV_len k (i + 1) rs]
theorem rowsV_at (k : Nat) : ∀ (i : Nat) (rs : List (List FD)) (j : Nat), (rowsV k i rs)[j]? = (rs[j]?).map fun r => .trow k (i + j) 0 r.length
  | _, [], j => by simp [rowsV]
  | i, r :: rs, 0 => by simp [rowsV]
  | i, r :: rs, j + 1 => by
    simp only [rowsV, List.getElem?_cons_succ, rowsV_at k (i + 1) rs j]
    rw [show i + 1 + j = i + (j + 1) by omega]
theorem lk2_lk {S : Bx} {κ : Key} {x : Bk} (h : lk2 S κ = some x) : ∃ y, lk S κ.1 = some y := by
  obtain ⟨k, i⟩ := κ
  cases i with
  | zero =>
    simp only [lk2] at h
    cases hl : lk S k with
    | none => rw [hl] at h; cases h
    | some y => exact ⟨y, rfl⟩
  | succ i =>
    simp only [lk2] at h
    cases hl : lk S k with
    | none => rw [hl] at h; cases h
    | some y => exact ⟨y, rfl⟩
theorem lk2_of {S : Bx} {k : Nat} {x : Bk} (h : lk S k = some x) (hx : x.flat = true) : lk2 S (k, 0) = some x := by
  simp only [lk2, h]
  cases x with
  | tree rows => cases hx
  | cells l => rfl
  | data l => rfl
  | mp ks l => rfl
  | mt es => cases hx
theorem lk2_flat {S : Bx} {k i : Nat} {x y : Bk} (h : lk S k = some x) (hx : x.flat = true) (hy : lk2 S (k, i) = some y) : i = 0 ∧ y = x := by
  cases i with
  | zero => rw [lk2_of h hx] at hy; exact ⟨rfl, (Option.some.inj hy).symm⟩
  | succ i =>
    simp only [lk2, h] at hy
    cases x with
    | tree rows => cases hx
    | cells l => cases hy
    | data l => cases hy
    | mp ks l => cases hy
    | mt es => cases hx
theorem lk2_congr {S S' : Bx} {κ : Key} (h : lk S κ.1 = lk S' κ.1) : lk2 S κ = lk2 S' κ := by
  obtain ⟨k, i⟩ := κ
  cases i with
  | zero => simp only [lk2]; rw [h]
  | succ i => simp only [lk2]; rw [h]
theorem lk2_isflat {S : Bx} {κ : Key} {x : Bk} (h : lk2 S κ = some x) : x.flat = true := by
  obtain ⟨k, i⟩ := κ
  cases hl : lk S k with
  | none =>
    cases i with
    | zero => simp only [lk2, hl] at h; cases h
    | succ i => simp only [lk2, hl] at h; cases h
  | some y =>
    cases i with
    | zero =>
      simp only [lk2, hl] at h
      cases y with
      | tree rows => obtain rfl := Option.some.inj h; rfl
      | mt es => obtain rfl := Option.some.inj h; rfl
      | cells l => obtain rfl := Option.some.inj h; rfl
      | data l => obtain rfl := Option.some.inj h; rfl
      | mp ks l => obtain rfl := Option.some.inj h; rfl
    | succ i =>
      simp only [lk2, hl] at h
      cases y with
      | tree rows =>
        cases hr : rows[i]? with
        | none => simp only [hr] at h; cases h
        | some r => simp only [hr] at h; obtain rfl := Option.some.inj h; rfl
      | mt es => obtain ⟨_, r, _, rfl⟩ := mtRow_at h; rfl
      | cells l => cases h
      | data l => cases h
      | mp ks l => cases h
theorem lk2_none {S : Bx} {κ : Key} (h : lk S κ.1 = none) : lk2 S κ = none := by
  cases hl : lk2 S κ with
  | none => rfl
  | some x => obtain ⟨y, hy⟩ := lk2_lk hl; rw [h] at hy; cases hy

/-- what stands fast in a function: the program, the globals, what was there, where new memory begins -/
structure Par where
  P : Program
  G : Nat
  GH : Hp
  Z0 : Nat → Prop
  lo : Nat
  anc : Nat
  β0 : Beta
  H1 : Hp
  /-- whose round it is -/
  ρ : Option Nat
/-- nothing held fast but the globals -/
abbrev Par.base (P : Program) (G : Nat) (GH : Hp) (Z0 : Nat → Prop) (lo : Nat) : Par := ⟨P, G, GH, Z0, lo, 0, fun _ => none, ⟨.lf, 0⟩, none⟩
/-- blocks that stay as they are -/
def Par.fix (p : Par) (b : Nat) (bk : B) : Prop := p.GH.get b = some bk ∨ (p.Z0 b ∧ p.H1.get b = some bk)

def BoxR (p : Par) (Z : Nat → Prop) (H : Hp) (β : Beta) (x : Bk) : Slot → Prop
  | .nil => x.len = 0
  | .blk b N => ¬ Z b ∧ p.lo ≤ b ∧ b < H.nx ∧ ∃ cs rest, RowK x.shape H b (cs ++ rest) ∧ lenOk x.shape (cs ++ rest).length N rest ∧ x.rel Z H β cs

structure SR (p : Par) (Z : Nat → Prop) (β : Beta) (H : Hp) (S : Bx) (nn : Nat) : Prop where
  wf : WF H
  lo : p.lo ≤ H.nx
  z : ∀ b, Z b → b < H.nx
  zlo : ∀ b, Z b → p.Z0 b ∨ p.lo ≤ b
  zz : ∀ b, p.Z0 b → Z b
  glob : ∀ b bk, p.fix b bk → Z b ∧ H.get b = some bk
  nk : ∀ κ : Key, nn ≤ κ.1 → β κ = none
  bd : ∀ κ b N, β κ = some (.blk b N) → b < H.nx
  box : ∀ κ x, lk2 S κ = some x → ∃ s, β κ = some s ∧ BoxR p Z H β x s
  inj : ∀ (κ κ' : Key) x x' b N N', lk S κ.1 = some x → lk S κ'.1 = some x' → β κ = some (.blk b N) → β κ' = some (.blk b N') → κ = κ'
  blo : ∀ κ b N, β κ = some (.blk b N) → p.lo ≤ b
  anch : ∀ κ : Key, κ.1 < p.anc → κ.2 = 0 → β κ = p.β0 κ
  ancn : p.anc ≤ nn

def ER (Z : Nat → Prop) (β : Beta) (H : Hp) (E : DEnv) (F : T V) : Prop := ∀ n d, lk E n = some d → ∃ v, F.get n = some v ∧ RDV Z H β d v

section
variable {Z Z' : Nat → Prop} {H H' : Hp} {β β' : Beta}

/-- the frozen blocks of H are there in H' -/
def ZLe (Z : Nat → Prop) (H : Hp) (Z' : Nat → Prop) (H' : Hp) : Prop := ∀ b, Z b → Z' b ∧ ∀ i c, H.cell b i = some c → H'.cell b i = some c
theorem ZLe.loads (h : ZLe Z H Z' H') {b : Nat} (hb : Z b) : ∀ {n o : Nat} {l : List C}, H.loads b o n = some l → H'.loads b o n = some l
  | 0, _, _, hl => hl
  | n + 1, o, l, hl => by
    simp only [Hp.loads] at hl ⊢
    cases hc : H.cell b o with
    | none => simp [hc] at hl
    | some c =>
      simp only [hc] at hl
      simp only [(h b hb).2 _ _ hc]
      cases hr : H.loads b (o + 1) n with
      | none => simp [hr] at hl
      | some r => simp only [hr] at hl; simp only [h.loads hb hr]; exact hl
theorem RF.mono (h : ZLe Z H Z' H') {d : FD} {c : C} (hr : RF Z H d c) : RF Z' H' d c := by
  induction hr with
  | c x hx => exact .c x hx
  | nil e => exact .nil e
  | sl hz hl hn hld _ ih =>
    rename_i esz n _ _ _ _ _ _ _
    refine .sl (fun h0 => (h _ (hz h0)).1) hl hn ?_ ih
    by_cases h0 : 0 < n * esz
    · exact h.loads (hz h0) hld
    · have h1 : n * esz = 0 := by omega
      rw [h1] at hld ⊢
      exact hld
def BLe (β β' : Beta) : Prop := ∀ k s, β k = some s → β' k = some s
theorem capsR.mono (hb : BLe β β') : ∀ {l l' : List (Nat × Nat)}, capsR β l l' → capsR β' l l'
  | [], [], _ => trivial
  | (_, _) :: _, (_, _) :: _, ⟨h1, ⟨N, h2⟩, h3⟩ => ⟨h1, ⟨N, hb _ _ h2⟩, capsR.mono hb h3⟩
theorem RD.mono (h : ZLe Z H Z' H') (hb : BLe β β') {d : DC} {c : C} (hr : RD Z H β d c) : RD Z' H' β' d c := by
  cases d with
  | f d => exact RF.mono h hr
  | g b o => exact hr
  | ptr k o => obtain ⟨b, N, h1, h2⟩ := hr; exact ⟨b, N, hb _ _ h1, h2⟩
  | own k o n esz =>
    rcases hr with ⟨h1, h2⟩ | ⟨b, N, cap, ex, h1, h2⟩
    · exact .inl ⟨hb _ _ h1, h2⟩
    · exact .inr ⟨b, N, cap, ex, hb _ _ h1, h2⟩
  | fptr l => obtain ⟨b, o, cs, h1, h2, h3, h4⟩ := hr; exact ⟨b, o, cs, h1, (h b h2).1, h.loads h2 h3, h4.mono fun _ _ => RF.mono h⟩
  | fn f caps => obtain ⟨caps', h1, h2⟩ := hr; exact ⟨caps', h1, h2.mono hb⟩
  | any => trivial
  | om k => obtain ⟨b, N, h1, h2⟩ := hr; exact ⟨b, N, hb _ _ h1, h2⟩
  | yl k => obtain ⟨b, N, h1, h2⟩ := hr; exact ⟨b, N, hb _ _ h1, h2⟩
  | tptr k i o => obtain ⟨b, N, h1, h2⟩ := hr; exact ⟨b, N, hb _ _ h1, h2⟩
  | trow k i o n =>
    rcases hr with ⟨h1, h2⟩ | ⟨b, N, cap, ex, h1, h2⟩
    · exact .inl ⟨hb _ _ h1, h2⟩
    · exact .inr ⟨b, N, cap, ex, hb _ _ h1, h2⟩
theorem RDV1.mono (h : ZLe Z H Z' H') (hb : BLe β β') {d : DV} {v : V} (hr : RDV1 Z H β d v) : RDV1 Z' H' β' d v := by
  cases d with
  | one d => obtain ⟨c, h1, h2⟩ := hr; exact ⟨c, h1, h2.mono h hb⟩
  | agg l => obtain ⟨c, h1, h2⟩ := hr; exact ⟨c, h1, h2.mono fun _ _ => RD.mono h hb⟩
  | tup l => exact hr.elim
theorem RDV.mono (h : ZLe Z H Z' H') (hb : BLe β β') {d : DV} {v : V} (hr : RDV Z H β d v) : RDV Z' H' β' d v := by
  cases d with
  | one d => exact RDV1.mono (d := .one d) h hb hr
  | agg l => exact RDV1.mono (d := .agg l) h hb hr
  | tup l => obtain ⟨vs, h1, h2⟩ := hr; exact ⟨vs, h1, h2.mono fun _ _ => RDV1.mono h hb⟩
theorem RDV.of1 {d : DV} {v : V} (h : RDV1 Z H β d v) : RDV Z H β d v := by
  cases d with
  | one c => exact h
  | agg l => exact h
  | tup l => exact h.elim
theorem Bk.rel_mono (h : ZLe Z H Z' H') (hb : BLe β β') {x : Bk} {cs : List C} (hr : x.rel Z H β cs) : x.rel Z' H' β' cs := by
  cases x with
  | cells l => exact All2.mono (fun _ _ => RD.mono h hb) hr
  | data l => exact All2.mono (fun _ _ => RF.mono h) hr
  | tree rows => exact hr.elim
  | mp ks l => exact All2.mono (fun _ _ => RD.mono h hb) hr
  | mt es => exact hr.elim
theorem Bk.rel_len {x : Bk} {cs : List C} (hr : x.rel Z H β cs) : x.len = cs.length := by
  cases x with
  | cells l => exact All2.len hr
  | data l => exact All2.len hr
  | tree rows => exact hr.elim
  | mp ks l => exact All2.len hr
  | mt es => exact hr.elim
theorem Bk.rel_flat {x : Bk} {cs : List C} (hr : x.rel Z H β cs) : x.flat = true := by
  cases x with
  | tree rows => exact hr.elim
  | mt es => exact hr.elim
  | _ => rfl
theorem ER.mono (h : ZLe Z H Z' H') (hb : BLe β β') {E : DEnv} {F : T V} (hr : ER Z β H E F) : ER Z' β' H' E F := fun n d hd => by
  obtain ⟨v, h1, h2⟩ := hr n d hd
  exact ⟨v, h1, h2.mono h hb⟩
theorem ZLe.refl (Z : Nat → Prop) (H : Hp) : ZLe Z H Z H := fun _ h => ⟨h, fun _ _ h => h⟩
theorem ZLe.of_get (hz : ∀ b, Z b → Z' b) (hg : ∀ b, Z b → H'.get b = H.get b) : ZLe Z H Z' H' := fun b h => ⟨hz b h, fun i c hc => by unfold Hp.cell at hc ⊢; rw [hg b h]; exact hc⟩
theorem BLe.refl (β : Beta) : BLe β β := fun _ _ h => h
theorem ZLe.of_le (hz : ∀ b, Z b → Z' b) (hl : Le H H') : ZLe Z H Z' H' := fun b h => ⟨hz b h, fun i c hc => hl b i c hc⟩

def setD (E : DEnv) : Option Nat → DV → DEnv
  | some d, v => (d, v) :: E
  | none, _ => E
theorem ER.set {E : DEnv} {F : T V} (h : ER Z β H E F) (d : Option Nat) {x : DV} {v : V} (hv : RDV Z H β x v) : ER Z β H (setD E d x) (setO F d v) := by
  cases d with
  | none => exact h
  | some d =>
    intro n y hy
    simp only [setD, lk_cons] at hy
    simp only [setO, T.get_set]
    split at hy
    · rename_i e; subst e; rw [if_pos rfl]; obtain rfl := Option.some.inj hy; exact ⟨v, rfl, hv⟩
    · rename_i e; rw [if_neg (fun h => e h.symm)]; exact h n y hy

/-- values of the program's text -/
def toC : C → DC
  | .ptr b o => .g b o
  | .slc _ _ _ _ _ _ => .any
  | .map _ => .any
  | .yld _ => .any
  | .fn f [] => .f (.c (.fn f []))
  | .fn _ _ => .any
  | c => .f (.c c)
def toD : V → DV
  | .one c => .one (toC c)
  | .agg l => .agg (l.map toC)
  | .tup _ => .one .any
theorem toC_ok (c : C) : RD Z H β (toC c) c := by
  cases c with
  | fn f caps => cases caps with
    | nil => exact .c _ rfl
    | cons _ _ => trivial
  | ptr b o => rfl
  | slc => trivial
  | map => trivial
  | yld => trivial
  | _ => exact .c _ rfl
theorem toCs_ok : ∀ l : List C, All2 (RD Z H β) (l.map toC) l
  | [] => trivial
  | c :: l => ⟨toC_ok c, toCs_ok l⟩
theorem toD_ok (v : V) (hv : isOne v = true) : RDV1 Z H β (toD v) v := by
  cases v with
  | one c => exact ⟨c, rfl, toC_ok c⟩
  | agg l => exact ⟨l, rfl, toCs_ok l⟩
  | tup l => cases hv

/-- an operand -/
def ro (E : DEnv) : Opd → Option DV
  | .t n => lk E n
  | .c (.one (.int k n)) => some (.one (.f (.c (.int k n))))
  | .c (.one (.bool b)) => some (.one (.f (.c (.bool b))))
  | .c (.one c) => some (.one (toC c))
  | .c (.agg l) => some (.agg (l.map toC))
  | .c (.tup _) => none
theorem ro_ok {E : DEnv} {F : T V} (h : ER Z β H E F) {o : Opd} {d : DV} (ho : ro E o = some d) : RDV Z H β d (o.ev F) := by
  cases o with
  | t n =>
    obtain ⟨v, h1, h2⟩ := h n d ho
    simp only [Opd.ev, h1, Option.getD_some]
    exact h2
  | c v =>
    cases v with
    | one c => cases c <;> (obtain rfl := Option.some.inj ho; exact RDV.of1 (toD_ok (.one _) rfl))
    | agg l => obtain rfl := Option.some.inj ho; exact RDV.of1 (toD_ok (.agg l) rfl)
    | tup l => cases ho

/-- a value that is known to the letter -/
def exC : DC → Option C
  | .f (.c x) => some x
  | _ => none
def exL : List DC → Option (List C)
  | [] => some []
  | d :: l => match exC d, exL l with
    | some c, some r => some (c :: r)
    | _, _ => none
def exV : DV → Option V
  | .one d => match exC d with
    | some c => some (.one c)
    | none => none
  | .agg l => match exL l with
    | some r => some (.agg r)
    | none => none
  | .tup _ => none
theorem exC_ok {d : DC} {x c : C} (h : exC d = some x) (hr : RD Z H β d c) : c = x := by
  cases d with
  | f d => cases d with
    | c y => obtain rfl := Option.some.inj h; cases hr; rfl
    | sl => cases h
  | _ => cases h
theorem exL_ok : ∀ {l : List DC} {xs cs : List C}, exL l = some xs → All2 (RD Z H β) l cs → cs = xs
  | [], xs, [], h, _ => by obtain rfl := Option.some.inj h; rfl
  | d :: l, xs, c :: cs, h, hr => by
    simp only [exL] at h
    split at h
    · rename_i x r h1 h2
      obtain rfl := Option.some.inj h
      rw [exC_ok h1 hr.1, exL_ok h2 hr.2]
    · cases h
  | [], _, _ :: _, _, hr => hr.elim
  | _ :: _, _, [], _, hr => hr.elim
theorem exV_ok {d : DV} {x v : V} (h : exV d = some x) (hr : RDV Z H β d v) : v = x := by
  cases d with
  | one d =>
    obtain ⟨c, rfl, hr⟩ := hr
    simp only [exV] at h
    split at h
    · rename_i y hy; obtain rfl := Option.some.inj h; rw [exC_ok hy hr]
    · cases h
  | agg l =>
    obtain ⟨c, rfl, hr⟩ := hr
    simp only [exV] at h
    split at h
    · rename_i y hy; obtain rfl := Option.some.inj h; rw [exL_ok hy hr]
    · cases h
  | tup l => cases h
end
end Go.Ab

/- Deep values: pure operations. -/
namespace Go.Ab

def subL {α : Type} (l : List α) (o n : Nat) : Option (List α) := match Nat.ble (o + n) l.length with
  | true => some ((l.drop o).take n)
  | false => none
theorem subL_some {α : Type} {l r : List α} {o n : Nat} (h : subL l o n = some r) : o + n ≤ l.length ∧ r = (l.drop o).take n := by
  unfold subL at h
  split at h
  · rename_i e; exact ⟨Nat.le_of_ble_eq_true e, (Option.some.inj h).symm⟩
  · cases h
theorem subL_of {α : Type} {l : List α} {o n : Nat} (h : o + n ≤ l.length) : subL l o n = some ((l.drop o).take n) := by
  unfold subL
  rw [Nat.ble_eq_true_of_le h]
def dPart (agg : Bool) (off n : Nat) (l : List DC) : Option DV :=
  match agg with
  | true => match subL l off n with
    | some r => some (.agg r)
    | none => none
  | false => match l[off]? with
    | some c => some (.one c)
    | none => none
def cellsD : DV → Option (List DC)
  | .one c => some [c]
  | .agg l => some l
  | .tup _ => none
def fillD (E : DEnv) : List DC → List (Nat × Nat × Opd) → Option (List DC)
  | z, [] => some z
  | z, (off, size, x) :: r => match ro E x with
    | none => none
    | some d => match cellsD d with
      | none => none
      | some cs => match Nat.beq cs.length size, Nat.ble (off + size) z.length with
        | true, true => fillD E (z.take off ++ cs ++ z.drop (off + size)) r
        | _, _ => none
def exO (E : DEnv) (o : Opd) : Option V := match ro E o with
  | some d => exV d
  | none => none
def rx (E : DEnv) (o : Opd) : Opd := match exO E o with
  | some v => .c v
  | none => o
def isEx (E : DEnv) (o : Opd) : Bool := (exO E o).isSome
def allB {α : Type} (f : α → Bool) : List α → Bool
  | [] => true
  | x :: l => match f x with
    | true => allB f l
    | false => false
theorem allB_mem {α : Type} {f : α → Bool} : ∀ {l : List α}, allB f l = true → ∀ x ∈ l, f x = true
  | [], _, x, hx => by cases hx
  | y :: l, h, x, hx => by
    simp only [allB] at h
    split at h
    · rename_i e
      rcases List.mem_cons.1 hx with rfl | hx
      · exact e
      · exact allB_mem h x hx
    · cases h
def toD1 : Option V → Option DV
  | some (.one (.int k n)) => some (.one (.f (.c (.int k n))))
  | some (.one (.bool b)) => some (.one (.f (.c (.bool b))))
  | some (.one c) => some (.one (toC c))
  | some (.agg l) => some (.agg (l.map toC))
  | _ => none
def dEx (E : DEnv) (op : PureOp) : Option DV := match allB (isEx E) op.opds with
  | true => toD1 (aPure .lf (op.mp (rx E)))
  | false => none
def capsD (E : DEnv) : List Opd → Option (List (Nat × Nat))
  | [] => some []
  | x :: l => match ro E x, capsD E l with
    | some (.one (.ptr k o)), some r => some ((k, o) :: r)
    | _, _ => none
def idx (j : Int) (len : Nat) : Option Nat := match j with
  | .ofNat n => match Nat.blt n len with
    | true => some n
    | false => none
  | .negSucc _ => none
theorem idx_ok {j : Int} {len n : Nat} (h : idx j len = some n) : j = n ∧ n < len := by
  unfold idx at h
  split at h
  · split at h
    · rename_i e
      obtain rfl := Option.some.inj h
      exact ⟨rfl, Nat.le_of_ble_eq_true e⟩
    · cases h
  · cases h
def lenD : DC → Option DV
  | .own _ _ n _ => some (.int n)
  | .trow _ _ _ n => some (.int n)
  | .f (.sl _ n _) => some (.int n)
  | .f (.c .nils) => some (.int 0)
  | _ => none

def dPure (E : DEnv) : PureOp → Option DV
  | .mv x => ro E x
  | .build z ps => match fillD E (z.map toC) ps with
    | some l => some (.agg l)
    | none => none
  | .nilck x => match ro E x with
    | some (.one (.ptr k o)) => some (.one (.ptr k o))
    | some (.one (.g b o)) => some (.one (.g b o))
    | some (.one (.fptr l)) => some (.one (.fptr l))
    | some (.one (.tptr k i o)) => some (.one (.tptr k i o))
    | some (.one (.fn f l)) => some (.one (.fn f l))
    | some (.one (.f (.c (.fn f l)))) => some (.one (.f (.c (.fn f l))))
    | _ => none
  | .mkfn f caps => match capsD E caps with
    | some [] => some (.one (.f (.c (.fn f []))))
    | some l => some (.one (.fn f l))
    | none => none
  | .faddr off x => match ro E x with
    | some (.one (.ptr k o)) => some (.one (.ptr k (o + off)))
    | some (.one (.g b o)) => some (.one (.g b (o + off)))
    | some (.one (.fptr l)) => some (.one (.fptr (l.drop off)))
    | _ => none
  | .field agg off n x => match ro E x with
    | some (.agg l) => dPart agg off n l
    | _ => none
  | .aaddr len esz x i => match ro E x, ro E i with
    | some (.one (.ptr k o)), some (.one (.f (.c (.int _ j)))) => match idx j len with
      | some n => some (.one (.ptr k (o + n * esz)))
      | none => none
    | some (.one (.fptr l)), some (.one (.f (.c (.int _ j)))) => match idx j len with
      | some n => some (.one (.fptr (l.drop (n * esz))))
      | none => none
    | some (.one (.g b o)), some (.one (.f (.c (.int _ j)))) => match idx j len with
      | some n => some (.one (.g b (o + n * esz)))
      | none => none
    | _, _ => none
  | .aindex len esz agg x i => match ro E x, ro E i with
    | some (.agg l), some (.one (.f (.c (.int _ j)))) => match idx j len with
      | some n => dPart agg (n * esz) esz l
      | none => none
    | _, _ => none
  | .extract x i => match ro E x with
    | some (.tup l) => l[i]?
    | _ => none
  | .len x => match ro E x with
    | some (.one d) => lenD d
    | _ => none
  | .nileq neg x => match ro E x with
    | some (.one (.f (.c .nils))) => some (.bool !neg)
    | some (.one (.f (.sl _ (_ + 1) _))) => some (.bool neg)
    | some (.one (.own _ _ (_ + 1) _)) => some (.bool neg)
    | _ => none
  | op => dEx E op

section
variable {Z : Nat → Prop} {H : Hp} {β : Beta} {E : DEnv} {F : T V}
theorem rx_ok (h : ER Z β H E F) {o : Opd} (ho : isEx E o = true) : (rx E o).ev .lf = o.ev F := by
  unfold isEx at ho
  obtain ⟨v, hv⟩ := Option.isSome_iff_exists.1 ho
  simp only [rx, hv, Opd.ev]
  unfold exO at hv
  split at hv
  · rename_i d hd
    exact (exV_ok hv (ro_ok h hd)).symm
  · cases hv
theorem dEx_ok (h : ER Z β H E F) {op : PureOp} {d : DV} (hd : dEx E op = some d) : ∃ v, aPure F op = some v ∧ RDV Z H β d v := by
  unfold dEx at hd
  split at hd
  · rename_i hall
    rw [pure_mp (F := F) fun o ho => rx_ok h (allB_mem hall o ho)] at hd
    unfold toD1 at hd
    split at hd
    · rename_i hc; obtain rfl := Option.some.inj hd; exact ⟨_, hc, _, rfl, .c _ rfl⟩
    · rename_i hc; obtain rfl := Option.some.inj hd; exact ⟨_, hc, _, rfl, .c _ rfl⟩
    · rename_i c _ _ hc; obtain rfl := Option.some.inj hd; exact ⟨_, hc, c, rfl, toC_ok c⟩
    · rename_i l hc; obtain rfl := Option.some.inj hd; exact ⟨_, hc, l, rfl, toCs_ok l⟩
    · cases hd
  · cases hd
theorem dpart_ok {agg : Bool} {off n : Nat} {l : List DC} {cs : List C} (hr : All2 (RD Z H β) l cs) {d : DV} (hd : dPart agg off n l = some d) : ∃ v, aPart agg off n cs = some v ∧ RDV Z H β d v := by
  unfold dPart at hd
  split at hd
  · split at hd
    · rename_i r hs
      obtain rfl := Option.some.inj hd
      obtain ⟨h1, rfl⟩ := subL_some hs
      refine ⟨.agg ((cs.drop off).take n), ?_, _, rfl, (hr.drop off).take n⟩
      simp only [aPart, if_true]
      rw [if_pos (by rw [← hr.len]; exact h1)]
    · cases hd
  · split at hd
    · rename_i c hc
      obtain rfl := Option.some.inj hd
      obtain ⟨x, hx, hrx⟩ := hr.at off c hc
      refine ⟨.one x, ?_, x, rfl, hrx⟩
      simp [aPart, hx]
    · cases hd
theorem cellsD_ok {d : DV} {v : V} {l : List DC} (hr : RDV Z H β d v) (hl : cellsD d = some l) : ∃ cs, cells1 v = some cs ∧ All2 (RD Z H β) l cs := by
  cases d with
  | one d => obtain ⟨c, rfl, hr⟩ := hr; obtain rfl := Option.some.inj hl; exact ⟨_, rfl, hr, trivial⟩
  | agg l' => obtain ⟨c, rfl, hr⟩ := hr; obtain rfl := Option.some.inj hl; exact ⟨_, rfl, hr⟩
  | tup l' => cases hl
theorem fillD_ok (h : ER Z β H E F) : ∀ {ps : List (Nat × Nat × Opd)} {z l : List DC} {zs : List C}, All2 (RD Z H β) z zs → fillD E z ps = some l → ∃ cs, fillL F zs ps = some cs ∧ All2 (RD Z H β) l cs
  | [], z, l, zs, hz, hl => by obtain rfl := Option.some.inj hl; exact ⟨zs, rfl, hz⟩
  | (off, size, x) :: r, z, l, zs, hz, hl => by
    simp only [fillD] at hl
    split at hl
    · cases hl
    · rename_i d hd
      split at hl
      · cases hl
      · rename_i cs hcs
        split at hl
        · rename_i e1 e2
          obtain ⟨ks, hk1, hk2⟩ := cellsD_ok (ro_ok h hd) hcs
          have e1' := Nat.eq_of_beq_eq_true e1
          have e2' := Nat.le_of_ble_eq_true e2
          obtain ⟨cs', g1, g2⟩ := fillD_ok h (((hz.take off).append hk2).append (hz.drop (off + size))) hl
          refine ⟨cs', ?_, g2⟩
          simp only [fillL, hk1]
          rw [if_pos ⟨by rw [← hk2.len]; exact e1', by rw [← hz.len]; exact e2'⟩]
          exact g1
        · cases hl
theorem capsD_ok (h : ER Z β H E F) : ∀ {l : List Opd} {r : List (Nat × Nat)}, capsD E l = some r → ∃ r', capsL F l = some r' ∧ capsR β r r'
  | [], r, hr => by obtain rfl := Option.some.inj hr; exact ⟨[], rfl, trivial⟩
  | x :: l, r, hr => by
    simp only [capsD] at hr
    split at hr
    · rename_i k o r0 h1 h2
      obtain rfl := Option.some.inj hr
      obtain ⟨r', g1, g2⟩ := capsD_ok h h2
      obtain ⟨c, hc, b, N, hb, rfl⟩ := ro_ok h h1
      exact ⟨(b, o) :: r', by simp only [capsL, hc, g1], rfl, ⟨N, hb⟩, g2⟩
    · cases hr
theorem fdrop {l : List FD} {b o : Nat} {cs : List C} (h1 : H.loads b o l.length = some cs) (h2 : All2 (RF Z H) l cs) (off : Nat) : ∃ cs', H.loads b (o + off) (l.drop off).length = some cs' ∧ All2 (RF Z H) (l.drop off) cs' := by
  by_cases ho : off ≤ l.length
  · refine ⟨cs.drop off, ?_, h2.drop off⟩
    rw [List.length_drop]
    exact loads_drop h1 ho
  · refine ⟨[], ?_, ?_⟩
    · rw [List.length_drop, show l.length - off = 0 by omega]; rfl
    · rw [List.drop_of_length_le (by omega)]; trivial
theorem dPure_ok (h : ER Z β H E F) {op : PureOp} {d : DV} (hd : dPure E op = some d) : ∃ v, aPure F op = some v ∧ RDV Z H β d v := by
  cases op with
  | mv x => exact ⟨_, rfl, ro_ok h hd⟩
  | build z ps =>
    simp only [dPure] at hd
    split at hd
    · rename_i l hl
      obtain rfl := Option.some.inj hd
      obtain ⟨cs, h1, h2⟩ := fillD_ok h (toCs_ok z) hl
      exact ⟨.agg cs, by simp [aPure, h1], cs, rfl, h2⟩
    · cases hd
  | nilck x =>
    simp only [dPure] at hd
    split at hd
    all_goals try (cases hd; done)
    all_goals (rename_i hx; obtain rfl := Option.some.inj hd; have hr := ro_ok h hx)
    · obtain ⟨c, hc, b, N, hb, rfl⟩ := hr
      exact ⟨_, by simp only [aPure, hc], _, rfl, b, N, hb, rfl⟩
    · obtain ⟨c, hc, rfl⟩ := hr
      exact ⟨_, by simp only [aPure, hc], _, rfl, rfl⟩
    · obtain ⟨c, hc, b, o, cs, rfl, h2⟩ := hr
      exact ⟨_, by simp only [aPure, hc], _, rfl, b, o, cs, rfl, h2⟩
    · obtain ⟨c, hc, b, N, hb, rfl⟩ := hr
      exact ⟨_, by simp only [aPure, hc], _, rfl, b, N, hb, rfl⟩
    · obtain ⟨c, hc, l', rfl, h2⟩ := hr
      exact ⟨_, by simp only [aPure, hc], _, rfl, l', rfl, h2⟩
    · obtain ⟨c, hc, h2⟩ := hr
      cases h2
      rename_i h2
      exact ⟨_, by simp only [aPure, hc], _, rfl, .c _ h2⟩
  | mkfn f caps =>
    simp only [dPure] at hd
    split at hd
    · rename_i hc
      obtain rfl := Option.some.inj hd
      obtain ⟨r', h1, h2⟩ := capsD_ok h hc
      cases r' with
      | nil => exact ⟨.one (.fn f []), by simp [aPure, h1], _, rfl, .c _ rfl⟩
      | cons _ _ => exact h2.elim
    · rename_i l _ hc
      obtain rfl := Option.some.inj hd
      obtain ⟨r', h1, h2⟩ := capsD_ok h hc
      exact ⟨.one (.fn f r'), by simp [aPure, h1], _, rfl, r', rfl, h2⟩
    · cases hd
  | faddr off x =>
    simp only [dPure] at hd
    split at hd
    all_goals try (cases hd; done)
    all_goals (rename_i hx; obtain rfl := Option.some.inj hd; have hr := ro_ok h hx)
    · obtain ⟨c, hc, b, N, hb, rfl⟩ := hr
      exact ⟨_, by simp only [aPure, hc], _, rfl, b, N, hb, rfl⟩
    · obtain ⟨c, hc, rfl⟩ := hr
      exact ⟨_, by simp only [aPure, hc], _, rfl, rfl⟩
    · obtain ⟨c, hc, b, o, cs, rfl, h2, h3, h4⟩ := hr
      obtain ⟨cs', g1, g2⟩ := fdrop h3 h4 off
      exact ⟨_, by simp only [aPure, hc], _, rfl, b, _, cs', rfl, h2, g1, g2⟩
  | field agg off n x =>
    simp only [dPure] at hd
    split at hd
    · rename_i l hx
      obtain ⟨cs, hc, hr⟩ := ro_ok h hx
      obtain ⟨v, h1, h2⟩ := dpart_ok hr hd
      exact ⟨v, by simp only [aPure, hc, h1], h2⟩
    · cases hd
  | aaddr len esz x i =>
    simp only [dPure] at hd
    split at hd
    all_goals try (cases hd; done)
    all_goals
      split at hd
      all_goals try (cases hd; done)
      rename_i hx hi _ n hn
      obtain rfl := Option.some.inj hd
      obtain ⟨ci, hci, hri⟩ := ro_ok h hi
      cases hri
      obtain ⟨rfl, hlt⟩ := idx_ok hn
      have hr := ro_ok h hx
    · obtain ⟨c, hc, b, N, hb, rfl⟩ := hr
      refine ⟨_, by simp only [aPure, hc, hci]; rw [if_pos ⟨by omega, by omega⟩, Int.toNat_natCast], _, rfl, b, N, hb, rfl⟩
    · obtain ⟨c, hc, b, o, cs, rfl, h2, h3, h4⟩ := hr
      obtain ⟨cs', g1, g2⟩ := fdrop h3 h4 (n * esz)
      refine ⟨_, by simp only [aPure, hc, hci]; rw [if_pos ⟨by omega, by omega⟩, Int.toNat_natCast], _, rfl, b, _, cs', rfl, h2, g1, g2⟩
    · obtain ⟨c, hc, rfl⟩ := hr
      exact ⟨_, by simp only [aPure, hc, hci]; rw [if_pos ⟨by omega, by omega⟩, Int.toNat_natCast], _, rfl, rfl⟩
  | aindex len esz agg x i =>
    simp only [dPure] at hd
    split at hd
    · rename_i hx hi
      split at hd
      · rename_i n hn
        obtain ⟨cs, hc, hr⟩ := ro_ok h hx
        obtain ⟨ci, hci, hri⟩ := ro_ok h hi
        cases hri
        obtain ⟨rfl, hlt⟩ := idx_ok hn
        obtain ⟨v, h1, h2⟩ := dpart_ok hr hd
        exact ⟨v, by simp only [aPure, hc, hci]; rw [if_pos ⟨by omega, by omega⟩, Int.toNat_natCast, h1], h2⟩
      · cases hd
    · cases hd
  | extract x i =>
    simp only [dPure] at hd
    split at hd
    · rename_i l hx
      obtain ⟨vs, hc, hr⟩ := ro_ok h hx
      obtain ⟨v, h1, h2⟩ := hr.at i d hd
      exact ⟨v, by simp only [aPure, hc, h1], RDV.of1 h2⟩
    · cases hd
  | len x =>
    simp only [dPure] at hd
    split at hd
    · rename_i e hx
      obtain ⟨c, hc, hr⟩ := ro_ok h hx
      unfold lenD at hd
      split at hd
      · obtain rfl := Option.some.inj hd
        rcases hr with ⟨_, rfl, _, rfl⟩ | ⟨b, N, cap, ex, _, rfl, _⟩
        · exact ⟨_, by simp only [aPure, hc, lenV]; rfl, _, rfl, .c _ rfl⟩
        · exact ⟨_, by simp only [aPure, hc, lenV], _, rfl, .c _ rfl⟩
      · obtain rfl := Option.some.inj hd
        rcases hr with ⟨_, rfl, _, rfl⟩ | ⟨b, N, cap, ex, _, rfl, _⟩
        · exact ⟨_, by simp only [aPure, hc, lenV]; rfl, _, rfl, .c _ rfl⟩
        · exact ⟨_, by simp only [aPure, hc, lenV], _, rfl, .c _ rfl⟩
      · obtain rfl := Option.some.inj hd
        cases hr with
        | nil => exact ⟨_, by simp only [aPure, hc, lenV]; rfl, _, rfl, .c _ rfl⟩
        | sl => exact ⟨_, by simp only [aPure, hc, lenV], _, rfl, .c _ rfl⟩
      · obtain rfl := Option.some.inj hd
        cases hr
        exact ⟨_, by simp only [aPure, hc, lenV], _, rfl, .c _ rfl⟩
      · cases hd
    · cases hd
  | nileq neg x =>
    simp only [dPure] at hd
    split at hd
    all_goals try (cases hd; done)
    all_goals (rename_i hx; obtain rfl := Option.some.inj hd; obtain ⟨c, hc, hr⟩ := ro_ok h hx)
    · cases hr
      exact ⟨_, by simp only [aPure, hc], _, rfl, .c _ rfl⟩
    · cases hr with
      | sl => exact ⟨_, by simp only [aPure, hc], _, rfl, .c _ rfl⟩
    · rcases hr with ⟨_, h0, _⟩ | ⟨b, N, cap, ex, _, rfl, _⟩
      · cases h0
      · exact ⟨_, by simp only [aPure, hc], _, rfl, .c _ rfl⟩
  | _ => exact dEx_ok h hd
end
end Go.Ab
