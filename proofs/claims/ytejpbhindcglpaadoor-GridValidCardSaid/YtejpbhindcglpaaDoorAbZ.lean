/- An evaluator for closed calls, and calls beside memory that they do not know. -/
import Derived.Test.YtejpbhindcglpaaDoorAbY
namespace Go.Ab

def Ceq : C → C → Bool
  | .bool a, .bool b => a == b
  | .int k a, .int k' b => decide (k = k') && decide (a = b)
  | .str a, .str b => decide (a.data = b.data)
  | .ptr b o, .ptr b' o' => decide (b = b') && decide (o = o')
  | .nilp, .nilp => true
  | .slc b o l c e x, .slc b' o' l' c' e' x' => decide (b = b') && decide (o = o') && decide (l = l') && decide (c = c') && decide (e = e') && (x == x')
  | .nils, .nils => true
  | .map b, .map b' => decide (b = b')
  | .nilm, .nilm => true
  | .fn f l, .fn f' l' => decide (f = f') && decide (l = l')
  | .nilf, .nilf => true
  | _, _ => false

theorem Ceq_ok {a b : C} (h : Ceq a b = true) : a = b := by
  cases a <;> cases b <;> simp [Ceq] at h <;> simp_all
  rename_i s t
  cases s; cases t; simp_all

def Leq : List C → List C → Bool
  | [], [] => true
  | a :: l, b :: m => Ceq a b && Leq l m
  | _, _ => false
theorem Leq_ok : ∀ {l m : List C}, Leq l m = true → l = m
  | [], [], _ => rfl
  | a :: l, b :: m, h => by
    simp only [Leq, Bool.and_eq_true] at h
    rw [Ceq_ok h.1, Leq_ok h.2]
  | [], _ :: _, h => by simp [Leq] at h
  | _ :: _, [], h => by simp [Leq] at h
def Veq : V → V → Bool
  | .one a, .one b => Ceq a b
  | .agg l, .agg m => Leq l m
  | _, _ => false
theorem Veq_ok {a b : V} (h : Veq a b = true) : a = b := by
  cases a <;> cases b <;> simp only [Veq] at h
  all_goals first
    | rw [Ceq_ok h]
    | rw [Leq_ok h]
    | cases h

abbrev ECtx := List (Nat × T V × LoadOp × V)

def watchE (ws : List Nat) (ctx : ECtx) (H : Hp) : Bool :=
  ws.all fun k => ctx.all fun e => e.1 != k || (match aLoad e.2.1 H e.2.2.1 with
    | some v => Veq v e.2.2.2
    | none => false)

def evOps (tb : Nat → Option SFn) (call : FuncId → List V → Hp → Option (V × Hp)) (base : Nat) : List SOper → ECtx → T V → Hp → Option (T V × Hp)
  | [], _, F, H => some (F, H)
  | o :: r, ctx, F, H =>
    match wantedA o.guard F with
    | true =>
      match o.op with
      | .p op => match aPure F op with
        | some v => evOps tb call base r ctx (setO F o.dst v) H
        | none => none
      | .l op => match aLoad F H op with
        | some v => evOps tb call base r (match o.keep with
          | true => (o.id, F, op, v) :: ctx
          | false => ctx) (setO F o.dst v) H
        | none => none
      | .a op => match aAlloc F op with
        | some (bk, g) => match o.aid with
          | none => evOps tb call base r ctx (setO F o.dst (g H.nx)) (H.push bk)
          | some k => evOps tb call base r ctx (setO F o.dst (g (base + k))) (H.add (base + k) bk)
        | none => none
      | .e op => match aEff F H op with
        | some (v, H') => match watchE o.watch ctx H' with
          | true => evOps tb call base r ctx (setO F o.dst v) H'
          | false => none
        | none => none
      | .cf f args => match call f (args.map (·.ev F)) H with
        | some (v, H') => match watchE o.watch ctx H' with
          | true => evOps tb call base r ctx (setO F o.dst v) H'
          | false => none
        | none => none
      | .cv x args => match x.ev F with
        | .one (.fn f caps) => match tb f with
          | some _ => match call f (args.map (·.ev F) ++ caps.map ptrV) H with
            | some (v, H') => match watchE o.watch ctx H' with
              | true => evOps tb call base r ctx (setO F o.dst v) H'
              | false => none
            | none => none
          | none => none
        | _ => none
    | false => evOps tb call base r ctx (setO F o.dst V.undef) H

inductive EE where
  | normal
  | exit (id : Nat)
  | ret
def EE.ex : EE → Exit
  | .normal => .normal
  | .exit id => .exit id
  | .ret => .ret

/-- a call, by an evaluator for code -/
def evCall (tb : Nat → Option SFn) (rec : SC → T V → Hp → Option (EE × T V × Hp)) (f : FuncId) (args : List V) (H : Hp) : Option (V × Hp) :=
  match tb f with
  | none => none
  | some sf => if args.length ≤ sf.n then
      match rec sf.code (initF args 0) H with
      | none => none
      | some (e, F', H') => match e with
        | .exit _ => none
        | _ => match aResult F' H' sf.res with
          | some v => some (v, H')
          | none => none
    else none

def evStep (tb : Nat → Option SFn) (rec : SC → T V → Hp → Option (EE × T V × Hp)) (s : SC) (F : T V) (H : Hp) : Option (EE × T V × Hp) :=
  match s with
  | .skip => some (.normal, F, H)
  | .ops l res => match evOps tb (evCall tb rec) H.nx l [] F (H.skip res) with
    | none => none
    | some (F', H') => some (.normal, F', H')
  | .seq a b => match rec a F H with
    | none => none
    | some (e, F', H') => match e with
      | .normal => rec b F' H'
      | e => some (e, F', H')
  | .cond d a b => match d.ev F with
    | .one (.bool t) => match t with
      | true => rec a F H
      | false => rec b F H
    | _ => none
  | .block id a => match rec a F H with
    | none => none
    | some (e, F', H') => match e with
      | .exit id' => if id' = id then some (.normal, F', H') else some (.exit id', F', H')
      | e => some (e, F', H')
  | .loop a => match rec a F H with
    | none => none
    | some (e, F', H') => match e with
      | .normal => rec (.loop a) F' H'
      | e => some (e, F', H')
  | .exit id => some (.exit id, F, H)
  | .ret => some (.ret, F, H)

def evC (tb : Nat → Option SFn) : Nat → SC → T V → Hp → Option (EE × T V × Hp)
  | 0 => fun _ _ _ => none
  | fuel + 1 => evStep tb (evC tb fuel)

def evF (tb : Nat → Option SFn) (fuel : Nat) (f : FuncId) (args : List V) (H : Hp) : Option (V × Hp) := evCall tb (evC tb fuel) f args H

/-- the table holds the program's functions -/
def TabOk (P : Program) (G : Nat) (tb : Nat → Option SFn) : Prop := ∀ f sf, tb f = some sf → cpFn P G f = some sf ∧ isFn P f = true

section
variable {P : Program} {G : Nat} {tb : Nat → Option SFn}

def ctxP (ctx : ECtx) : Ctx := ctx.map fun e => (e.1, fun H' => aLoad e.2.1 H' e.2.2.1 = some e.2.2.2)

theorem watchE_ok {ws : List Nat} {ctx : ECtx} {H : Hp} (h : watchE ws ctx H = true) : watchOk ws (ctxP ctx) H := by
  cases ws with
  | nil => trivial
  | cons w ws =>
    intro k hk p hp
    simp only [watchE, List.all_eq_true] at h
    have h1 := h k hk
    obtain ⟨e, he, hep⟩ := List.mem_map.1 hp
    have h2 := h1 e he
    injection hep with e1 e2
    subst e1 e2
    simp only [bne_self_eq_false, Bool.false_or] at h2
    cases hv : aLoad e.2.1 H e.2.2.1 with
    | none => simp [hv] at h2
    | some v => simp only [hv] at h2; show aLoad e.2.1 H e.2.2.1 = some e.2.2.2; rw [hv, Veq_ok h2]

theorem evOps_ok {call : FuncId → List V → Hp → Option (V × Hp)} (hcall : ∀ f args H v H', call f args H = some (v, H') → ACalls P G f args H fun v' H'' => v' = v ∧ H'' = H') (htb : TabOk P G tb) {base : Nat} {Q : T V → Hp → Prop} :
    ∀ {l : List SOper} {ctx : ECtx} {F F' : T V} {H H' : Hp}, evOps tb call base l ctx F H = some (F', H') → Q F' H' → wOps P G base Q l (ctxP ctx) F H
  | [], ctx, F, F', H, H', h, hq => by
    simp only [evOps, Option.some.injEq, Prod.mk.injEq] at h
    obtain ⟨rfl, rfl⟩ := h
    exact hq
  | o :: r, ctx, F, F', H, H', h, hq => by
    rw [evOps] at h
    rw [wOps]
    cases hw : wantedA o.guard F with
    | false =>
      simp only [hw] at h
      simp only [Bool.false_eq_true, if_false]
      exact evOps_ok hcall htb h hq
    | true =>
      simp only [hw] at h
      simp only [if_true]
      cases hop : o.op with
      | p op =>
        simp only [hop] at h ⊢
        cases hv : aPure F op with
        | none => simp [hv] at h
        | some v => simp only [hv] at h ⊢; exact evOps_ok hcall htb h hq
      | l op =>
        simp only [hop] at h ⊢
        cases hv : aLoad F H op with
        | none => simp [hv] at h
        | some v =>
          simp only [hv] at h ⊢
          cases hk : o.keep with
          | false => simp only [hk] at h; simp only [Bool.false_eq_true, if_false]; exact evOps_ok hcall htb h hq
          | true => simp only [hk] at h; simp only [if_true]; exact evOps_ok (ctx := (o.id, F, op, v) :: ctx) hcall htb h hq
      | a op =>
        simp only [hop] at h ⊢
        cases hv : aAlloc F op with
        | none => simp [hv] at h
        | some bg =>
          simp only [hv] at h ⊢
          cases hai : o.aid with
          | none => simp only [hai] at h ⊢; exact evOps_ok hcall htb h hq
          | some k => simp only [hai] at h ⊢; exact evOps_ok hcall htb h hq
      | e op =>
        simp only [hop] at h ⊢
        cases hv : aEff F H op with
        | none => simp [hv] at h
        | some vH =>
          simp only [hv] at h ⊢
          cases hwt : watchE o.watch ctx vH.2 with
          | false => simp [hwt] at h
          | true => simp only [hwt] at h; exact ⟨watchE_ok hwt, evOps_ok hcall htb h hq⟩
      | cf f args =>
        simp only [hop] at h ⊢
        cases hv : call f (args.map (·.ev F)) H with
        | none => simp [hv] at h
        | some vH =>
          simp only [hv] at h
          cases hwt : watchE o.watch ctx vH.2 with
          | false => simp [hwt] at h
          | true =>
            simp only [hwt] at h
            refine (hcall f _ H vH.1 vH.2 hv).mono ?_
            rintro v' H'' ⟨rfl, rfl⟩
            exact ⟨watchE_ok hwt, evOps_ok hcall htb h hq⟩
      | cv x args =>
        simp only [hop] at h ⊢
        split at h
        · rename_i f caps hx
          cases ht : tb f with
          | none => simp [ht] at h
          | some sf =>
            simp only [ht] at h
            simp only [hx]
            refine ⟨(htb f sf ht).2, ?_⟩
            cases hv : call f (args.map (·.ev F) ++ caps.map ptrV) H with
            | none => simp [hv] at h
            | some vH =>
              simp only [hv] at h
              cases hwt : watchE o.watch ctx vH.2 with
              | false => simp [hwt] at h
              | true =>
                simp only [hwt] at h
                refine (hcall f _ H vH.1 vH.2 hv).mono ?_
                rintro v' H'' ⟨rfl, rfl⟩
                exact ⟨watchE_ok hwt, evOps_ok hcall htb h hq⟩
        · cases h

theorem evCall_ok {rec : SC → T V → Hp → Option (EE × T V × Hp)} (htb : TabOk P G tb) (hrec : ∀ {n : Nat} {s : SC} {F F' : T V} {H H' : Hp} {e : EE} {Q : Exit → T V → Hp → Prop}, rec s F H = some (e, F', H') → Q e.ex F' H' → SWP P G n s Q F H)
    {f : FuncId} {args : List V} {H H' : Hp} {v : V} (h : evCall tb rec f args H = some (v, H')) : ACalls P G f args H fun v' H'' => v' = v ∧ H'' = H' := by
  unfold evCall at h
  split at h
  · cases h
  · rename_i sf hsf
    split at h
    · rename_i hlen
      split at h
      · cases h
      · rename_i e2 F2 H4 hev2
        obtain ⟨hcp, _⟩ := htb f sf hsf
        cases e2 with
        | exit id => cases h
        | normal =>
          simp only at h
          split at h
          · rename_i v2 hres
            simp only [Option.some.injEq, Prod.mk.injEq] at h
            obtain ⟨rfl, rfl⟩ := h
            refine fn_ok hcp hlen (hrec hev2 ?_)
            simp only [EE.ex, retQ, hres]
            exact ⟨trivial, trivial⟩
          · cases h
        | ret =>
          simp only at h
          split at h
          · rename_i v2 hres
            simp only [Option.some.injEq, Prod.mk.injEq] at h
            obtain ⟨rfl, rfl⟩ := h
            refine fn_ok hcp hlen (hrec hev2 ?_)
            simp only [EE.ex, retQ, hres]
            exact ⟨trivial, trivial⟩
          · cases h
    · cases h

theorem evC_ok (hm : P.follows .mixedOrders = true) (htb : TabOk P G tb) : ∀ (fuel : Nat) {n : Nat} {s : SC} {F F' : T V} {H H' : Hp} {e : EE} {Q : Exit → T V → Hp → Prop}, evC tb fuel s F H = some (e, F', H') → Q e.ex F' H' → SWP P G n s Q F H := by
  intro fuel
  induction fuel using Nat.strongRecOn with
  | _ fuel ih =>
    intro n s F F' H H' e Q h hq
    cases fuel with
    | zero => cases h
    | succ fuel =>
      have h : evStep tb (evC tb fuel) s F H = some (e, F', H') := h
      have hrec : ∀ {n : Nat} {s : SC} {F F' : T V} {H H' : Hp} {e : EE} {Q : Exit → T V → Hp → Prop}, evC tb fuel s F H = some (e, F', H') → Q e.ex F' H' → SWP P G n s Q F H := fun h hq => ih fuel (by omega) h hq
      cases s with
      | skip =>
        simp only [evStep, Option.some.injEq, Prod.mk.injEq] at h
        obtain ⟨rfl, rfl, rfl⟩ := h
        exact swp_skip hq
      | ops l res =>
        simp only [evStep] at h
        split at h
        · cases h
        · rename_i F1 H1 hev
          simp only [Option.some.injEq, Prod.mk.injEq] at h
          obtain ⟨rfl, rfl, rfl⟩ := h
          exact swp_ops hm (evOps_ok (ctx := []) (fun f args H2 v H3 hc => evCall_ok htb hrec hc) htb hev hq)
      | seq a b =>
        simp only [evStep] at h
        split at h
        · cases h
        · rename_i e1 F1 H1 h1
          refine swp_seq ?_
          cases e1 with
          | normal => exact hrec h1 (hrec (Q := Q) h hq)
          | exit id =>
            simp only [Option.some.injEq, Prod.mk.injEq] at h
            obtain ⟨rfl, rfl, rfl⟩ := h
            exact hrec h1 hq
          | ret =>
            simp only [Option.some.injEq, Prod.mk.injEq] at h
            obtain ⟨rfl, rfl, rfl⟩ := h
            exact hrec h1 hq
      | cond d a b =>
        simp only [evStep] at h
        split at h
        · rename_i t ht
          cases t with
          | true => exact swp_cond (t := true) ht (hrec h hq)
          | false => exact swp_cond (t := false) ht (hrec h hq)
        · cases h
      | block id a =>
        simp only [evStep] at h
        split at h
        · cases h
        · rename_i e1 F1 H1 h1
          refine swp_block ?_
          cases e1 with
          | normal =>
            simp only [Option.some.injEq, Prod.mk.injEq] at h
            obtain ⟨rfl, rfl, rfl⟩ := h
            exact hrec h1 hq
          | ret =>
            simp only [Option.some.injEq, Prod.mk.injEq] at h
            obtain ⟨rfl, rfl, rfl⟩ := h
            exact hrec h1 hq
          | exit id' =>
            simp only at h
            refine hrec h1 ?_
            simp only [EE.ex, blockQ]
            split at h
            · rename_i hid
              simp only [Option.some.injEq, Prod.mk.injEq] at h
              obtain ⟨rfl, rfl, rfl⟩ := h
              rw [if_pos hid]; exact hq
            · rename_i hid
              simp only [Option.some.injEq, Prod.mk.injEq] at h
              obtain ⟨rfl, rfl, rfl⟩ := h
              rw [if_neg hid]; exact hq
      | loop a =>
        refine swp_loop (fun m F1 H1 => m ≤ fuel + 1 ∧ evC tb m (.loop a) F1 H1 = some (e, F', H')) (m := fuel + 1) ⟨Nat.le_refl _, h⟩ ?_
        rintro m F1 H1 ⟨hle, hev⟩
        cases m with
        | zero => cases hev
        | succ m =>
          have hev : evStep tb (evC tb m) (.loop a) F1 H1 = some (e, F', H') := hev
          simp only [evStep] at hev
          split at hev
          · cases hev
          · rename_i e1 F2 H2 h1
            cases e1 with
            | normal => exact ih m (by omega) h1 ⟨m, by omega, by omega, hev⟩
            | exit id =>
              simp only [Option.some.injEq, Prod.mk.injEq] at hev
              obtain ⟨rfl, rfl, rfl⟩ := hev
              exact ih m (by omega) h1 hq
            | ret =>
              simp only [Option.some.injEq, Prod.mk.injEq] at hev
              obtain ⟨rfl, rfl, rfl⟩ := hev
              exact ih m (by omega) h1 hq
      | exit id =>
        simp only [evStep, Option.some.injEq, Prod.mk.injEq] at h
        obtain ⟨rfl, rfl, rfl⟩ := h
        exact swp_exit hq
      | ret =>
        simp only [evStep, Option.some.injEq, Prod.mk.injEq] at h
        obtain ⟨rfl, rfl, rfl⟩ := h
        exact swp_ret hq

/-- A CLOSED CALL, EVALUATED. -/
theorem evF_ok (hm : P.follows .mixedOrders = true) (htb : TabOk P G tb) {fuel : Nat} {f : FuncId} {args : List V} {H H' : Hp} {v : V} (h : evF tb fuel f args H = some (v, H')) : ACalls P G f args H fun v' H'' => v' = v ∧ H'' = H' :=
  evCall_ok htb (evC_ok hm htb fuel) h

def evVal (tb : Nat → Option SFn) (fuel : Nat) (f : FuncId) (args : List V) (H : Hp) : Option V := (evF tb fuel f args H).map (·.1)

theorem evVal_ok (hm : P.follows .mixedOrders = true) (htb : TabOk P G tb) {fuel : Nat} {f : FuncId} {args : List V} {H : Hp} {v : V} (h : evVal tb fuel f args H = some v) : ACalls P G f args H fun v' _ => v' = v := by
  unfold evVal at h
  simp only [Option.map_eq_some_iff] at h
  obtain ⟨⟨v', H'⟩, hh, rfl⟩ := h
  exact (evF_ok hm htb hh).mono fun _ _ h => h.1
end
end Go.Ab
