/- Contracts of functions of the program over the abstract semantics. -/
import Derived.Test.YtandgamnamkkhaaGreatDoorAb8
import Derived.RangeFuncSeq
import Derived.RangeFuncCalls
import Derived.RangeFuncLeaves
import Derived.RangeFuncIn
import Derived.LoopIn
import Derived.RangeFuncRecord
import Derived.OrdersIn
set_option linter.unusedVariables false
set_option linter.unusedSimpArgs false
namespace Go.Ab
inductive SOp where
 | p (o : PureOp)
 | l (o : LoadOp)
 | a (o : AllocOp)
 | e (o : EffOp)
 | cf (f : FuncId) (args : List Opd)
 | cv (x : Opd) (args : List Opd)
 /-- an iteration over a map steps -/
 | nx (x : Opd)
 /-- not covered: no run comes here -/
 | no
def SOp.isC : SOp -> Bool
 | .cf _ _ => true
 | .cv _ _ => true
 | _ => false
structure SOper where
 id : Nat
 dst : Option Nat
 op : SOp
 guard : Option (Nat × Bool)
 aid : Option Nat
 watch : List Nat
 keep : Bool
def setO (F : T V) (d : Option Nat) (v : V) : T V :=
 match d with
 | some d => F.set d (some v)
 | none => F
def wantedA (g : Option (Nat × Bool)) (F : T V) : Bool :=
 match g with
 | none => true
 | some (t, want) => match (F.get t).getD V.undef with
  | .one (.bool b) => b == want
  | _ => false
def isFn (P : Program) (f : FuncId) : Bool :=
 match P.funcs[f]? with
 | some fn => fn.name != "runtime.NumGoroutine" && fn.body.isSome
 | none => false
def ptrV (p : Nat × Nat) : V := .one (.ptr p.1 p.2)
def ACalls (P : Program) (G : Nat) (f : FuncId) (args : List V) (H : Hp) (R : V -> Hp -> Prop) : Prop :=
 ∀ (μ : Nat -> Pl) (K : Nat -> Prop) (w : World) (xs : List Value), Rel G μ K H w -> All2 (RV μ K) args xs ->
  Calls P f xs.toArray w fun e w' => ∃ x, e = .returned x /\ ∃ v H' μ' K', R v H' /\ RV μ' K' v x /\ Rel G μ' K' H' w' /\ Fr μ K H w μ' K' H' w'
def okCh (ch : List PanicEntry) : Prop := ∃ t v, ch = [{ v := .iface t v, recovered := false }]
def AEnd (G : Nat) (μ : Nat -> Pl) (K : Nat -> Prop) (H : Hp) (w : World) (R : V -> Hp -> Prop) (S : Hp -> Prop) (e : Ending) (w' : World) : Prop :=
 (∃ x, e = .returned x /\ ∃ v H' μ' K', R v H' /\ RV μ' K' v x /\ Rel G μ' K' H' w' /\ Fr μ K H w μ' K' H' w') \/
 (∃ ch, e = .panicked ch /\ okCh ch /\ ∃ H' μ' K', S H' /\ Rel G μ' K' H' w' /\ Fr μ K H w μ' K' H' w')
def ACallsP (P : Program) (G : Nat) (f : FuncId) (args : List V) (H : Hp) (R : V -> Hp -> Prop) (S : Hp -> Prop) : Prop :=
 ∀ (μ : Nat -> Pl) (K : Nat -> Prop) (w : World) (xs : List Value), Rel G μ K H w -> All2 (RV μ K) args xs -> Calls P f xs.toArray w (AEnd G μ K H w R S)
theorem ACalls.toP {P : Program} {G : Nat} {f : FuncId} {args : List V} {H : Hp} {R : V -> Hp -> Prop} {S : Hp -> Prop} (h : ACalls P G f args H R) : ACallsP P G f args H R S :=
 fun μ K w xs hR ha => (h μ K w xs hR ha).mono fun _ _ he => .inl he
theorem ACallsP.of {P : Program} {G : Nat} {f : FuncId} {args : List V} {H : Hp} {R : V -> Hp -> Prop} (h : ACallsP P G f args H R fun _ => False) : ACalls P G f args H R :=
 fun μ K w xs hR ha => (h μ K w xs hR ha).mono fun _ _ he => he.elim id fun ⟨_, _, _, _, _, _, hf, _⟩ => hf.elim
theorem ACallsP.mono {P : Program} {G : Nat} {f : FuncId} {args : List V} {H : Hp} {R R' : V -> Hp -> Prop} {S S' : Hp -> Prop} (h : ACallsP P G f args H R S) (hr : ∀ v H', R v H' -> R' v H') (hs : ∀ H', S H' -> S' H') : ACallsP P G f args H R' S' :=
 fun μ K w xs hR ha => (h μ K w xs hR ha).mono fun _ _ he => he.imp (fun ⟨x, h1, v, H', μ', K', h2, h3⟩ => ⟨x, h1, v, H', μ', K', hr _ _ h2, h3⟩) fun ⟨ch, h1, h2, H', μ', K', h3, h4⟩ => ⟨ch, h1, h2, H', μ', K', hs _ h3, h4⟩
def AYield (P : Program) (G : Nat) (b : Nat) (args : List V) (H : Hp) (R : V -> Hp -> Prop) : Prop :=
 ∀ (μ : Nat -> Pl) (K : Nat -> Prop) (w : World) (xs : List Value), Rel G μ K H w -> K b -> All2 (RV μ K) args xs ->
  YieldAt Fence.wide 0 P (μ b).blk xs.toArray w fun e w' => ∃ x, e = .returned x /\ ∃ v H' μ' K', R v H' /\ RV μ' K' v x /\ Rel G μ' K' H' w' /\ Fr μ K H w μ' K' H' w'
def ANext (P : Program) (G : Nat) (b : Nat) (H : Hp) (R : V -> Hp -> Prop) : Prop :=
 ∀ (μ : Nat -> Pl) (K : Nat -> Prop) (w : World), Rel G μ K H w -> K b -> ∀ ty : TypeId, ∃ y w', (Instr.next (.pointer (some ((μ b).addr 0))) false ty).run P w = .ok y w' /\ ∃ v H' μ' K', R v H' /\ RV μ' K' v y /\ Rel G μ' K' H' w' /\ Fr μ K H w μ' K' H' w'
def fen : Option (Option Nat) -> Fence
 | none => Fence.wide
 | some none => Fence.wide
 | some (some l) => Fence.wide.inRound l
theorem fen_fn {ρ : Option (Option Nat)} {f : FuncId} : (fen ρ).fn f := by
 match ρ with
 | none => trivial
 | some none => trivial
 | some (some l) => trivial
theorem fen_depth {ρ : Option (Option Nat)} : (fen ρ).depth = none := by
 match ρ with
 | none => rfl
 | some none => rfl
 | some (some l) => rfl
theorem fen_room {ρ : Option (Option Nat)} {k : Nat} : (fen ρ).room k := fun d hd => by rw [fen_depth] at hd; cases hd
theorem fen_calls {ρ : Option (Option Nat)} {n : Nat} {P : Program} {f : FuncId} {args : Array Value} {w : World} {R : Ending -> World -> Prop} (h : Calls P f args w R) : CallsIn (fen ρ) n P f args w R := by
 match ρ with
 | none => exact callsIn_wide.2 h
 | some none => exact callsIn_wide.2 h
 | some (some l) => exact CallsIn.inRound l (callsIn_wide.2 h)
theorem fen_rounds {ρ : Option (Option Nat)} {n : Nat} {P : Program} {l : Nat} {f : FuncId} {tmps : Array Value} {assign body : Code} {w : World} {R : Ending -> World -> Prop} (h : RoundIn Fence.wide 0 P l f tmps assign body w R) : RoundIn (fen ρ) n P l f tmps assign body w R := by
 match ρ with
 | none => exact ⟨trivial, fun c cs _ => h.2 c cs (room_wide _)⟩
 | some none => exact ⟨trivial, fun c cs _ => h.2 c cs (room_wide _)⟩
 | some (some k) => exact ⟨trivial, fun c cs _ => h.2 c cs (room_wide _)⟩
abbrev Ctx := List (Nat × (Hp -> Prop))
def watchOk (ws : List Nat) (ctx : Ctx) (H : Hp) : Prop :=
 match ws with
 | [] => True
 | _ => ∀ k ∈ ws, ∀ p, (k, p) ∈ ctx -> p H
def wOps (P : Program) (G base : Nat) (QP : Hp -> Prop) (Q : T V -> Hp -> Prop) : List SOper -> Ctx -> T V -> Hp -> Prop
 | [], _, F, H => Q F H
 | o :: r, ctx, F, H =>
  if wantedA o.guard F then
   match o.op with
   | .p op => match aPure F op with
    | some v => wOps P G base QP Q r ctx (setO F o.dst v) H
    | none => False
   | .l op => match aLoad F H op with
    | some v => wOps P G base QP Q r (if o.keep then (o.id, fun H' => aLoad F H' op = some v) :: ctx else ctx) (setO F o.dst v) H
    | none => False
   | .a op => match aAlloc F op with
    | some (bk, g) => match o.aid with
     | none => wOps P G base QP Q r ctx (setO F o.dst (g H.nx)) (H.push bk)
     | some k => wOps P G base QP Q r ctx (setO F o.dst (g (base + k))) (H.add (base + k) bk)
    | none => False
   | .e op => match aEff F H op with
    | some (v, H') => watchOk o.watch ctx H' /\ wOps P G base QP Q r ctx (setO F o.dst v) H'
    | none => False
   | .cf f args => ACallsP P G f (args.map (·.ev F)) H (fun v H' => watchOk o.watch ctx H' /\ wOps P G base QP Q r ctx (setO F o.dst v) H') QP
   | .cv x args => match x.ev F with
    | .one (.fn f caps) => isFn P f = true /\ ACallsP P G f (args.map (·.ev F) ++ caps.map ptrV) H (fun v H' => watchOk o.watch ctx H' /\ wOps P G base QP Q r ctx (setO F o.dst v) H') QP
    | .one (.bm f b off) => isFn P f = true /\ ACallsP P G f (.one (.ptr b off) :: args.map (·.ev F)) H (fun v H' => watchOk o.watch ctx H' /\ wOps P G base QP Q r ctx (setO F o.dst v) H') QP
    | .one (.yld b) => AYield P G b (args.map (·.ev F)) H fun v H' => watchOk o.watch ctx H' /\ wOps P G base QP Q r ctx (setO F o.dst v) H'
    | _ => False
   | .nx x => match x.ev F with
    | .one (.ptr b 0) => ANext P G b H fun v H' => watchOk o.watch ctx H' /\ wOps P G base QP Q r ctx (setO F o.dst v) H'
    | _ => False
   | .no => False
  else wOps P G base QP Q r ctx (setO F o.dst V.undef) H
def cpOp0 (P : Program) (G n : Nat) (o : Oper) : Option SOp :=
 match cpPure P G n o with
 | some p => some (.p p)
 | none => match cpLoad P G n o with
  | some p => some (.l p)
  | none => match cpAlloc P G n o with
   | some p => some (.a p)
   | none => match cpEff P G n o with
    | some p => some (.e p)
    | none => match o.op with
     | .call { callee := .value (.func f), args := args, argTypes := _ } => if isFn P f then (cOs G n args.toList).map (.cf f) else none
     | .call { callee := .value (.tmp t), args := args, argTypes := _ } => match cO G n (.tmp t), cOs G n args.toList with
      | some x, some l => some (.cv x l)
      | _, _ => none
     | .next it false => (cO G n it).map .nx
     | _ => none
def cpOp (P : Program) (G n : Nat) (o : Oper) : Option SOp := match cpOp0 P G n o with
 | some op => some op
 | none => some .no
def cGuard (n : Nat) (ops : Array Oper) : Option (Nat × Bool) -> Option (Option (Nat × Bool))
 | none => some none
 | some (j, want) => match (ops[j]?).bind (·.dst) with
  | some t => if t < n then some (some (t, want)) else none
  | none => none
def cDst (n : Nat) : Option Tmp -> Bool
 | none => true
 | some d => d < n
def Fits (P : Program) (G n : Nat) (ops : Array Oper) (o : Oper) (s : SOper) : Prop :=
 cpOp P G n o = some s.op /\ s.dst = o.dst /\ cDst n o.dst = true /\ cGuard n ops o.guard = some s.guard
section
variable {P : Program} {G n : Nat} {μ : Nat -> Pl} {K : Nat -> Prop} {H H' : Hp} {w : World} {F : T V} {a : Act}
theorem FRel.mono {μ' : Nat -> Pl} {K' : Nat -> Prop} {tmps : Array Value} (hF : FRel μ K n F tmps) (hK : ∀ b, K b -> K' b) (hμ : ∀ b, K b -> μ' b = μ b) : FRel μ' K' n F tmps :=
 ⟨hF.1, fun i hi => (hF.2 i hi).mono hK hμ⟩
theorem FRel.put (hF : FRel μ K n F a.tmps) {d : Option Tmp} (hd : cDst n d = true) {v : V} {x : Value} (hv : RV μ K v x) : FRel μ K n (setO F d v) (a.put d x).tmps := by
 cases d with
 | none => exact hF
 | some d =>
  simp only [cDst, decide_eq_true_eq] at hd
  refine ⟨by simp [Act.put]; exact hF.1, fun i hi => ?_⟩
  simp only [setO, Act.put]
  by_cases e : i = d
  ·subst e
   have : i < a.tmps.size := by rw [hF.1]; exact hi
   simp [this, hv]
  ·rw [T.get_set_ne _ _ e]
   have h1 := hF.2 i hi
   have : (a.tmps.setIfInBounds d x).getD i Go.undef = a.tmps.getD i Go.undef := by
    simp only [Array.getD_eq_getD_getElem?]
    rw [Array.getElem?_setIfInBounds_ne (fun h => e h.symm)]
   rw [this]
   exact h1
theorem RV.not_bool {v : V} {b : Bool} (h : RV μ K v (.bool b)) : v = .one (.bool b) := by
 cases v with
 | one c =>
  have h' : RC μ K c (.bool b) := h
  cases c <;> simp only [RC] at h'
  all_goals first
   | (injection h' with h'; rw [h'])
   | (obtain ⟨_, _, _, h', _⟩ := h'; cases h')
   | (obtain ⟨_, h'⟩ := h'; cases h'; done)
   | (obtain ⟨_, _, h'⟩ := h'; cases h'; done)
   | cases h'
 | agg l => obtain ⟨_, h, _⟩ := h; cases h
 | tup l => obtain ⟨_, h, _⟩ := h; cases h
theorem wanted_ok (hF : FRel μ K n F a.tmps) {ops : Array Oper} {o : Oper} {g : Option (Nat × Bool)} (hg : cGuard n ops o.guard = some g) : Region.wanted o (yielded ops a.tmps) = wantedA g F := by
 unfold Region.wanted
 cases hog : o.guard with
 | none => simp only [hog, cGuard, Option.some.injEq] at hg; subst hg; rfl
 | some jw =>
  obtain ⟨j, want⟩ := jw
  simp only [hog, cGuard] at hg
  cases hd : (ops[j]?).bind (·.dst) with
  | none => simp [hd] at hg
  | some t =>
   simp only [hd] at hg
   split at hg
   ·rename_i ht
    obtain rfl := Option.some.inj hg
    have hv := hF.2 t ht
    have hts : t < a.tmps.size := by rw [hF.1]; exact ht
    have hget : a.tmps[t]? = some (a.tmps.getD t Go.undef) := by simp [hts]
    simp only [yielded, hd, Option.bind_some, hget, wantedA]
    generalize a.tmps.getD t Go.undef = x at *
    generalize (F.get t).getD V.undef = v at *
    cases x with
    | bool b =>
     rw [hv.not_bool]
     cases b <;> cases want <;> rfl
    | _ =>
     have hnb : ∀ b, v ≠ .one (.bool b) := by
      rintro b rfl
      cases (show _ = Value.bool b from hv)
     cases v with
     | one c => cases c <;> first|rfl|exact absurd rfl (hnb _)
     | agg l => rfl
     | tup l => rfl
   ·cases hg
theorem isFn_run {f : FuncId} (h : isFn P f = true) (args : Array Value) (w : World) : (callFunc f args).run P w = .ok (.enter f args) w := by
 unfold isFn at h
 cases hf : P.funcs[f]? with
 | none => simp [hf] at h
 | some fn =>
  simp only [hf, Bool.and_eq_true, bne_iff_ne, ne_eq] at h
  obtain ⟨bd, hb⟩ := Option.isSome_iff_exists.1 h.2
  simp [callFunc, hf, h.1, hb]
def CtxSt0 (ctx : Ctx) : Prop := ∀ k p, (k, p) ∈ ctx -> ∀ (H : Hp) (b : Nat) (bk : B), H.get b = none -> p H -> p (H.add b bk)
theorem cell_add {H : Hp} {b i x : Nat} {bk : B} {c : C} (hn : H.get x = none) (h : H.cell b i = some c) : (H.add x bk).cell b i = some c := by
 unfold Hp.cell at h ⊢
 by_cases e : b = x
 ·subst e; simp [hn] at h
 ·rw [Hp.get_add_ne _ _ e]; exact h
theorem loads_add {H : Hp} {x : Nat} {bk : B} (hn : H.get x = none) : ∀ {m b o : Nat} {l : List C}, H.loads b o m = some l -> (H.add x bk).loads b o m = some l
 | 0, _, _, _, h => h
 | m + 1, b, o, l, h => by
  simp only [Hp.loads] at h ⊢
  cases hc : H.cell b o with
  | none => simp [hc] at h
  | some c =>
   simp only [hc] at h
   simp only [cell_add hn hc]
   cases hl : H.loads b (o + 1) m with
   | none => simp [hl] at h
   | some l' => simp only [hl] at h; simp only [loads_add hn hl]; exact h
theorem load_add {F : T V} {H : Hp} {op : LoadOp} {v : V} {x : Nat} {bk : B} (hn : H.get x = none) (h : aLoad F H op = some v) : aLoad F (H.add x bk) op = some v := by
 have hm : ∀ b es, H.get b = some (.mp es) -> (H.add x bk).get b = some (.mp es) := fun b es hb => by
  rw [Hp.get_add_ne _ _ (fun e => by subst e; rw [hn] at hb; cases hb)]; exact hb
 cases op with
 | load agg n a =>
  simp only [aLoad] at h ⊢
  split at h
  ·cases agg with
   | true =>
    simp only [if_true, Option.map_eq_some_iff] at h ⊢
    obtain ⟨l, hl, rfl⟩ := h
    exact ⟨l, loads_add hn hl, rfl⟩
   | false =>
    simp only [Bool.false_eq_true, if_false, Option.map_eq_some_iff] at h ⊢
    obtain ⟨c, hc, rfl⟩ := h
    exact ⟨c, cell_add hn hc, rfl⟩
  ·cases h
 | lookup z ok m k =>
  simp only [aLoad] at h ⊢
  split at h
  ·rename_i hk
   rw [if_pos hk]
   split at h
   ·exact h
   ·rename_i b hb
    split at h
    ·rename_i es hes
     simp only [hm _ _ hes]
     exact h
    ·cases h
   ·cases h
  ·cases h
 | bstr x =>
  simp only [aLoad] at h ⊢
  split at h
  ·exact h
  ·split at h
   ·rename_i he
    rw [if_pos he]
    split at h
    ·rename_i cs hl
     simp only [loads_add hn hl]
     exact h
    ·cases h
   ·cases h
  ·cases h
 | pcv t n y =>
  simp only [aLoad] at h ⊢
  split at h
  ·exact h
  ·split at h
   ·rename_i t' l hb
    rw [Hp.get_add_ne _ _ (fun e => by subst e; rw [hn] at hb; cases hb), hb]
    exact h
   ·cases h
  ·cases h
 | aslice len esz y lo hi =>
  simp only [aLoad] at h ⊢
  split at h
  ·split at h
   ·rename_i n' z m rw' hb
    rw [Hp.get_add_ne _ _ (fun e => by subst e; rw [hn] at hb; cases hb), hb]
    exact h
   ·cases h
  ·cases h
 | slookup z ok m k =>
  simp only [aLoad] at h ⊢
  split at h
  ·exact h
  ·split at h
   ·rename_i es hes
    simp only [hm _ _ hes]
    exact h
   ·cases h
  ·cases h
 | mlen m =>
  simp only [aLoad] at h ⊢
  split at h
  ·exact h
  ·rename_i b hb
   split at h
   ·rename_i es hes
    simp only [hm _ _ hes]
    exact h
   ·cases h
  ·cases h
theorem CtxSt0.of {ctx : Ctx} (h : CtxSt0 ctx) (b : Bool) (i : Nat) (op : LoadOp) (F : T V) (v : V) : CtxSt0 (if b then (i, fun H' => aLoad F H' op = some v) :: ctx else ctx) := by
 intro k p hp
 split at hp
 ·rcases List.mem_cons.1 hp with hp|hp
  ·injection hp with _ hp
   subst hp
   exact fun H b bk hn hh => load_add hn hh
  ·exact h k p hp
 ·exact h k p hp
theorem cpOp_nodefer {o : Oper} {op : SOp} (h : cpOp0 P G n o = some op) : ∀ c, o.op ≠ .defer c := by
 intro c hc
 simp [cpOp0, cpPure, cpPure1, cpPure2, cpLoad, cpLoad1, cpLoad2, cpAlloc, cpEff, cpEff1, cpEff2, hc] at h
theorem op_ok {ρ : Option (Option Nat)} {nn : Nat} {ops : Array Oper} {o : Oper} {s : SOper} {r : List SOper} {ctx : Ctx} {base i : Nat} {QP : Hp -> Prop} {Q : T V -> Hp -> Prop} {Q' : Exit -> Act -> World -> Prop} {Kont : Act -> World -> Prop}
  {μ0 : Nat -> Pl} {K0 : Nat -> Prop} {H0 : Hp} {w0 : World} (hlt0 : ∀ b bk, H0.get b = some bk -> b < H0.nx)
  (ho : ops[i]? = some o) (hfit : Fits P G n ops o s) (hR : Rel G μ K H w) (hF : FRel μ K n F a.tmps) (hFr : Fr μ0 K0 H0 w0 μ K H w)
  (hrs : ∀ k, s.aid = some k -> ¬ K (base + k) /\ base + k < H.nx /\ H0.nx <= base + k)
  (hw : wOps P G base QP Q (s :: r) ctx F H)
  (hK : ∀ (μ' : Nat -> Pl) (K' : Nat -> Prop) (F' : T V) (H' : Hp) (a' : Act) (w' : World) (ctx' : Ctx), Rel G μ' K' H' w' -> FRel μ' K' n F' a'.tmps -> Fr μ0 K0 H0 w0 μ' K' H' w' -> a'.defers = a.defers ->
   H.nx <= H'.nx -> (∀ b, b < H.nx -> K' b -> K b \/ ∃ k, s.aid = some k /\ b = base + k) -> (∃ v, F' = setO F s.dst v) -> (CtxSt0 ctx -> CtxSt0 ctx') -> wOps P G base QP Q r ctx' F' H' -> Kont a' w')
  (hP : ∀ (μ' : Nat -> Pl) (K' : Nat -> Prop) (H' : Hp) (w' : World) (ch : List PanicEntry), s.op.isC = true -> QP H' -> okCh ch -> Rel G μ' K' H' w' -> FRel μ' K' n F a.tmps -> Fr μ0 K0 H0 w0 μ' K' H' w' -> Q' (.panic ch) a w') :
  wpOpIn (fen ρ) nn P ops Q' i Kont a w := by
 obtain ⟨hop, hdst, hd, hgd⟩ := hfit
 have hput : ∀ x, (a.put o.dst x).defers = a.defers := fun x => by cases o.dst <;> rfl
 unfold wpOpIn
 rw [ho]
 simp only
 rw [wanted_ok hF hgd]
 rw [wOps] at hw
 cases hwa : wantedA s.guard F with
 | false =>
  simp only [hwa, Bool.false_eq_true, if_false] at hw ⊢
  rw [hdst] at hw
  exact ⟨fun _ _ => fen_fn, hK μ K _ H _ w ctx hR (hF.put hd RV.undef) hFr (hput _) (Nat.le_refl _) (fun b _ h => .inl h) ⟨_, by rw [hdst]⟩ id hw⟩
 | true =>
  simp only [hwa, if_true] at hw ⊢
  have hop' : cpOp0 P G n o = some s.op := by
   unfold cpOp at hop
   split at hop
   ·rename_i h0; rw [h0]; exact hop
   ·obtain hop := Option.some.inj hop
    rw [<- hop] at hw
    exact hw.elim
  replace hop := hop'
  unfold Oper.wpIn
  refine ⟨fun _ _ => fen_fn, ?_⟩
  rw [Oper.semAt_eq _ _ _ (cpOp_nodefer hop)]
  rw [hdst] at hw
  have val : ∀ (v : V) (x : Value) (ctx' : Ctx), RV μ K v x -> (CtxSt0 ctx -> CtxSt0 ctx') -> wOps P G base QP Q r ctx' (setO F o.dst v) H -> Kont (a.put o.dst x) w := fun v x ctx' hv hcs hw' =>
   hK μ K _ H _ w ctx' hR (hF.put hd hv) hFr (hput _) (Nat.le_refl _) (fun b _ h => .inl h) ⟨v, by rw [hdst]⟩ hcs hw'
  have call : ∀ (f : FuncId) (args : List V) (xs : List Value) (nx : Result Next), All2 (RV μ K) args xs -> nx = .ok (.enter f xs.toArray) w ->
    s.op.isC = true -> ACallsP P G f args H (fun v H' => watchOk s.watch ctx H' /\ wOps P G base QP Q r ctx (setO F o.dst v) H') QP -> o.uponIn (fen ρ) nn P a Kont Q' nx := by
   intro f args xs nx ha hnx hkd hc
   subst hnx
   rw [Oper.uponIn_enter]
   refine ⟨fun h => (by rw [fen_depth] at h; cases h), fen_calls ((hc μ K w xs hR ha).mono fun e w' he => ?_)⟩
   rcases he with he|⟨ch, rfl, hch, H', μ', K', h1, h3, h4⟩
   rotate_left
   ·exact hP μ' K' H' w' ch hkd h1 hch h3 (hF.mono h4.kk h4.mu) (hFr.trans hlt0 h4)
   obtain ⟨x, rfl, v, H', μ', K', ⟨_, h1⟩, h2, h3, h4⟩ := he
   exact hK μ' K' _ H' _ w' ctx h3 ((hF.mono h4.kk h4.mu).put hd h2) (hFr.trans hlt0 h4) (hput _) h4.nx (fun b hb h => .inl (h4.knew b hb h)) ⟨v, by rw [hdst]⟩ id h1
  unfold cpOp0 at hop
  cases hp : cpPure P G n o with
  | some p =>
   simp only [hp, Option.some.injEq] at hop
   rw [<- hop] at hw
   simp only at hw
   cases hv : aPure F p with
   | none => simp [hv] at hw
   | some v =>
    simp only [hv] at hw
    obtain ⟨x, hx, hr⟩ := pure_ok (P := P) hR hF hp hv
    rw [hx, Oper.uponIn_value]
    exact val v x ctx hr id hw
  | none =>
   simp only [hp] at hop
   cases hl : cpLoad P G n o with
   | some p =>
    simp only [hl, Option.some.injEq] at hop
    rw [<- hop] at hw
    simp only at hw
    cases hv : aLoad F H p with
    | none => simp [hv] at hw
    | some v =>
     simp only [hv] at hw
     obtain ⟨x, hx, hr⟩ := load_ok (P := P) hR hF hl hv
     rw [hx, Oper.uponIn_value]
     exact val v x _ hr (fun h => h.of _ _ _ _ _) hw
   | none =>
    simp only [hl] at hop
    cases hal : cpAlloc P G n o with
    | some p =>
     simp only [hal, Option.some.injEq] at hop
     rw [<- hop] at hw
     simp only at hw
     cases hv : aAlloc F p with
     | none => simp [hv] at hw
     | some bg =>
      obtain ⟨bk, g⟩ := bg
      simp only [hv] at hw
      obtain ⟨hm, x, obj, sz, hx, hrb, hval⟩ := alloc_ok (P := P) hR hF hal hv
      rw [hx, Oper.uponIn_value]
      have hnk : ¬ K H.nx := fun h => absurd (hR.lt _ h) (by omega)
      cases hai : s.aid with
      | none =>
       simp only [hai] at hw
       refine hK (fun i => if i = H.nx then ⟨w.heap.size, 0, sz⟩ else μ i) (fun i => K i \/ i = H.nx) _ (H.push bk) _ { w with heap := w.heap.push obj } ctx (Rel.new hR hnk (by omega) (by omega) hm hrb)
        ((hF.mono (fun _ h => .inl h) (fun b hb => ?_)).put hd (hval H.nx _ _ (.inr rfl) (by simp))) (Fr.new hFr hnk hFr.nx hlt0 (by omega) hm) (hput _) (by simp) (fun b hb h => ?_) ⟨_, by rw [hdst]⟩ id hw
       ·have := hR.lt b hb
        rw [if_neg (by omega)]
       ·rcases h with h|h
        ·exact .inl h
        ·omega
      | some k =>
       simp only [hai] at hw
       obtain ⟨r1, r2, r3⟩ := hrs k hai
       refine hK (fun i => if i = base + k then ⟨w.heap.size, 0, sz⟩ else μ i) (fun i => K i \/ i = base + k) _ (H.add (base + k) bk) _ { w with heap := w.heap.push obj } ctx (Rel.new hR r1 r2 (Nat.le_refl _) hm hrb)
        ((hF.mono (fun _ h => .inl h) (fun b hb => ?_)).put hd (hval (base + k) _ _ (.inr rfl) (by simp))) (Fr.new hFr r1 r3 hlt0 (Nat.le_refl _) hm) (hput _) (by simp) (fun b hb h => ?_) ⟨_, by rw [hdst]⟩ id hw
       ·by_cases e : b = base + k
        ·subst e; exact absurd hb r1
        ·rw [if_neg e]
       ·rcases h with h|h
        ·exact .inl h
        ·exact .inr ⟨k, hai, h⟩
    | none =>
     simp only [hal] at hop
     cases he : cpEff P G n o with
     | some p =>
      simp only [he, Option.some.injEq] at hop
      rw [<- hop] at hw
      simp only at hw
      cases hv : aEff F H p with
      | none => simp [hv] at hw
      | some vH =>
       obtain ⟨v, H'⟩ := vH
       simp only [hv] at hw
       obtain ⟨nx, x, w', μ', K', h1, h2, h3, h4, h5⟩ := eff_ok (P := P) hR hF he hv
       have hk := hK μ' K' _ H' _ w' ctx h4 ((hF.mono h5.kk h5.mu).put hd h3) (hFr.trans hlt0 h5) (hput x) h5.nx (fun b hb h => .inl (h5.knew b hb h)) ⟨v, by rw [hdst]⟩ id hw.2
       rw [h1]
       rcases h2 with rfl|⟨rfl, rfl⟩
       ·rw [Oper.uponIn_value]; exact hk
       ·rw [Oper.uponIn_skip]; exact hk
     | none =>
      simp only [he] at hop
      split at hop
      ·rename_i f args ts hoo
       split at hop
       ·rename_i hfn
        simp only [Option.map_eq_some_iff] at hop
        obtain ⟨ds, hds, hop⟩ := hop
        rw [<- hop] at hw
        refine call f _ (args.toList.map a.eval) _ (cOs_ok hR hF hds) ?_ (by rw [<- hop]; rfl) hw
        have harr : args.map a.eval = (args.toList.map a.eval).toArray := by apply Array.ext'; simp
        have hev : a.eval (.func f) = .func (.func f) #[] #[] := rfl
        simp [execOp, hoo, resolve, hev, Deferred.ofValue, invoke, isFn_run hfn, <- harr]
       ·cases hop
      ·rename_i t args ts hoo
       split at hop
       ·rename_i x l hx hl'
        obtain hop := Option.some.inj hop
        rw [<- hop] at hw
        simp only at hw
        have hv := cO_ok hR hF hx
        split at hw
        ·rename_i f caps hxe
         rw [hxe] at hv
         obtain ⟨hkc, hv'⟩ : (∀ p ∈ caps, K p.1) /\ a.eval (.tmp t) = .func (.func f) #[] (caps.map fun p => Value.pointer (some ((μ p.1).addr p.2))).toArray := hv
         refine call f _ (args.toList.map a.eval ++ caps.map fun p => Value.pointer (some ((μ p.1).addr p.2))) _ ((cOs_ok hR hF hl').append ?_) ?_ (by rw [<- hop]; rfl) hw.2
         ·refine All2.mk (by simp) fun j v x hv hx => ?_
          simp only [List.getElem?_map, Option.map_eq_some_iff] at hv hx
          obtain ⟨p, hp, rfl⟩ := hv
          obtain ⟨p', hp', rfl⟩ := hx
          rw [hp] at hp'
          obtain rfl := Option.some.inj hp'
          exact ⟨hkc p (List.mem_of_getElem? hp), rfl⟩
         ·simp [execOp, hoo, resolve, hv', Deferred.ofValue, invoke, isFn_run hw.1]
        ·rename_i f b off hxe
         rw [hxe] at hv
         obtain ⟨hkb, hv'⟩ : K b /\ a.eval (.tmp t) = .func (.func f) #[.pointer (some ((μ b).addr off))] #[] := hv
         refine call f (.one (.ptr b off) :: l.map (·.ev F)) (.pointer (some ((μ b).addr off)) :: args.toList.map a.eval) _ ⟨⟨hkb, rfl⟩, cOs_ok hR hF hl'⟩ ?_ (by rw [<- hop]; rfl) hw.2
         have harr : args.map a.eval = (args.toList.map a.eval).toArray := by apply Array.ext'; simp
         simp [execOp, hoo, resolve, hv', Deferred.ofValue, invoke, isFn_run hw.1]
        ·rename_i b hxe
         rw [hxe] at hv
         obtain ⟨hkb, hv'⟩ : K b /\ a.eval (.tmp t) = .func (.yield (μ b).blk) #[] #[] := hv
         obtain ⟨fn, tmps, assign, body, hy, hr⟩ := hw μ K w (args.toList.map a.eval) hR hkb (cOs_ok hR hF hl')
         have harr : args.map a.eval = (args.toList.map a.eval).toArray := by apply Array.ext'; simp
         have hex : (execOp a.eval o).run P w = .ok (.round (μ b).blk fn tmps assign body) w := by
          simp only [<- harr] at hy
          simp [execOp, hoo, resolve, hv', Deferred.ofValue, invoke, hy]
         rw [hex, Oper.uponIn_round]
         refine ⟨fun h => (by rw [fen_depth] at h; cases h), fen_rounds (hr.mono fun e w' he => ?_)⟩
         obtain ⟨x, rfl, v, H', μ', K', ⟨_, h1⟩, h2, h3, h4⟩ := he
         exact hK μ' K' _ H' _ w' ctx h3 ((hF.mono h4.kk h4.mu).put hd h2) (hFr.trans hlt0 h4) (hput _) h4.nx (fun b hb h => .inl (h4.knew b hb h)) ⟨v, by rw [hdst]⟩ id h1
        ·exact hw.elim
       ·cases hop
      ·rename_i it hoo
       simp only [Option.map_eq_some_iff] at hop
       obtain ⟨x, hx, hop⟩ := hop
       rw [<- hop] at hw
       simp only at hw
       have hv := cO_ok hR hF hx
       split at hw
       ·rename_i b hxe
        rw [hxe] at hv
        obtain ⟨hkb, hv'⟩ : K b /\ a.eval it = .pointer (some ((μ b).addr 0)) := hv
        obtain ⟨y, w', hy, v, H', μ', K', ⟨_, h1⟩, h2, h3, h4⟩ := hw μ K w hR hkb o.type
        have hex : (execOp a.eval o).run P w = .ok (.value y) w' := by simp [execOp, hoo, hv', hy]
        rw [hex, Oper.uponIn_value]
        exact hK μ' K' _ H' _ w' ctx h3 ((hF.mono h4.kk h4.mu).put hd h2) (hFr.trans hlt0 h4) (hput _) h4.nx (fun b hb h => .inl (h4.knew b hb h)) ⟨v, by rw [hdst]⟩ id h1
       ·exact hw.elim
      ·cases hop
end
end Go.Ab

namespace Go.Ab
def Aligned (P : Program) (G n : Nat) (ops : Array Oper) : List Nat -> List SOper -> Prop
 | [], [] => True
 | i :: idx, s :: l => (∃ o, ops[i]? = some o /\ Fits P G n ops o s) /\ Aligned P G n ops idx l
 | _, _ => False
section
variable {P : Program} {G n : Nat} {ρ : Option (Option Nat)}
def DEFI : Nat := 9999
def defsOf (F : T V) : List V := match F.get DEFI with
 | some (.tup l) => l
 | _ => []
def dL : Option (Option Nat) -> T V -> List V
 | some none, F => defsOf F
 | _, _ => []
def markR (d : Deferred) : Option Nat := match d.target with
 | .collected r => some r
 | _ => none
def DkL (μ : Nat -> Pl) (K : Nat -> Prop) (s : Nat) (w : World) : List Deferred -> List V -> Prop
 | [], L => L = []
 | d :: D, L => (∃ r, d = { target := .collected r, args := #[] } /\ s <= r /\ w.heap[r]? = some (.deferred (some [])) /\ DkL μ K s w D L) \/
   (∃ f caps L', L = .one (.fn f caps) :: L' /\ (∀ p ∈ caps, K p.1) /\ d = { target := .fn (.func f) (caps.map fun p => Value.pointer (some ((μ p.1).addr p.2))).toArray, args := #[] } /\ DkL μ K s w D L')
def Dok (ρ : Option (Option Nat)) (n : Nat) (μ : Nat -> Pl) (K : Nat -> Prop) (s : Nat) (D : List Deferred) (w : World) (L : List V) : Prop := (ρ = some none -> n <= DEFI) /\ s <= w.heap.size /\ (D.filterMap markR).Nodup /\ DkL μ K s w D L
theorem Dok.nil {ρ : Option (Option Nat)} {n : Nat} {μ : Nat -> Pl} {K : Nat -> Prop} {s : Nat} (w : World) (hn : ρ = some none -> n <= DEFI) (h : s <= w.heap.size) : Dok ρ n μ K s [] w [] := ⟨hn, h, List.nodup_nil, rfl⟩
theorem kept_def {μ μ' : Nat -> Pl} {K K' : Nat -> Prop} {H H' : Hp} {w w' : World} (hR : Rel G μ K H w) (h : Fr μ K H w μ' K' H' w') {r : Nat} (hr : w.heap[r]? = some (.deferred (some []))) : w'.heap[r]? = some (.deferred (some [])) := by
 rw [h.keep r (Array.getElem?_eq_some_iff.1 hr).1 fun b bk hb _ e => ?_]
 ·exact hr
 ·have hB := hR.blk b bk hb
  rw [e, hr] at hB
  cases bk with
  | row n z m rw => obtain ⟨_, _, _, h, _⟩ := hB; cases h
  | mp es => obtain ⟨_, _, h, _⟩ := hB; cases h
  | lp st j f n F ps sg bd => obtain ⟨_, _, h, _⟩ := hB; cases h
  | st => obtain ⟨_, _, h, _⟩ := hB; cases h
  | it => obtain ⟨_, _, h, _⟩ := hB; cases h
  | tr => obtain ⟨_, _, h, _⟩ := hB; cases h
theorem DkL.fr {s : Nat} {μ μ' : Nat -> Pl} {K K' : Nat -> Prop} {H H' : Hp} {w w' : World} (hR : Rel G μ K H w) (h : Fr μ K H w μ' K' H' w') : ∀ {D : List Deferred} {L : List V}, DkL μ K s w D L -> DkL μ' K' s w' D L
 | [], _, hd => hd
 | d :: D, L, hd => hd.imp (fun ⟨r, h1, h2, h3, h4⟩ => ⟨r, h1, h2, kept_def hR h h3, DkL.fr hR h h4⟩) fun ⟨f, caps, L', h1, h2, h3, h4⟩ => ⟨f, caps, L', h1, fun p hp => h.kk _ (h2 p hp), by
   rw [h3]
   congr 3
   exact List.map_congr_left fun p hp => by rw [h.mu p.1 (h2 p hp)], DkL.fr hR h h4⟩
theorem Dok.fr {ρ : Option (Option Nat)} {n s : Nat} {D : List Deferred} {L : List V} {μ μ' : Nat -> Pl} {K K' : Nat -> Prop} {H H' : Hp} {w w' : World} (hR : Rel G μ K H w) (h : Fr μ K H w μ' K' H' w') (hd : Dok ρ n μ K s D w L) : Dok ρ n μ' K' s D w' L :=
 ⟨hd.1, Nat.le_trans hd.2.1 h.size, hd.2.2.1, hd.2.2.2.fr hR h⟩
def QE (Q : Exit -> T V -> Hp -> Prop) : Exit -> T V -> Hp -> Prop
 | .panic ch, F, H => okCh ch /\ Q (.panic []) F H
 | e, F, H => Q e F H
def Ends (ρ : Option (Option Nat)) (G n s : Nat) (μ0 : Nat -> Pl) (K0 : Nat -> Prop) (H0 : Hp) (w0 : World) (Q : Exit -> T V -> Hp -> Prop) (e : Exit) (a : Act) (w : World) : Prop :=
 ∃ F H μ K, QE Q e F H /\ Rel G μ K H w /\ FRel μ K n F a.tmps /\ Fr μ0 K0 H0 w0 μ K H w /\ Dok ρ n μ K s a.defers w (dL ρ F)
theorem ord_ok {nn : Nat} {D : List Deferred} {ops : Array Oper} {QP : Hp -> Prop} {Q : T V -> Hp -> Prop} {base : Nat} {μ0 : Nat -> Pl} {K0 : Nat -> Prop} {H0 : Hp} {w0 : World} (hlt0 : ∀ b bk, H0.get b = some bk -> b < H0.nx) {Q' : Exit -> Act -> World -> Prop} {F0 : T V} {ds : List Nat} (hds : ∀ d ∈ ds, d < n) {rest : List Nat}
  (hQ : ∀ μ K F H a w, Q F H -> Rel G μ K H w -> FRel μ K n F a.tmps -> Fr μ0 K0 H0 w0 μ K H w -> (∀ t, t ∉ ds -> F.get t = F0.get t) -> a.defers = D -> wpOpsIn (fen ρ) nn P ops Q' rest a w)
  (hP : ∀ μ K F H a w ch, QP H -> okCh ch -> Rel G μ K H w -> FRel μ K n F a.tmps -> Fr μ0 K0 H0 w0 μ K H w -> (∀ t, t ∉ ds -> F.get t = F0.get t) -> a.defers = D -> Q' (.panic ch) a w) :
  ∀ {l : List SOper} {idx : List Nat} {ctx : Ctx} {F : T V} {H : Hp} {μ : Nat -> Pl} {K : Nat -> Prop} {a : Act} {w : World}, Aligned P G n ops idx l -> (∀ s ∈ l, s.aid = none) -> (∀ s ∈ l, ∀ d, s.dst = some d -> d ∈ ds) -> Rel G μ K H w -> FRel μ K n F a.tmps -> Fr μ0 K0 H0 w0 μ K H w -> (∀ t, t ∉ ds -> F.get t = F0.get t) -> a.defers = D ->
   wOps P G base QP Q l ctx F H -> wpOpsIn (fen ρ) nn P ops Q' (idx ++ rest) a w
 | [], [], ctx, F, H, μ, K, a, w, _, _, _, hR, hF, hFr, hag, hd, hw => by
  exact hQ μ K F H a w hw hR hF hFr hag hd
 | s :: l, i :: idx, ctx, F, H, μ, K, a, w, hal, hai, hdd, hR, hF, hFr, hag, hd, hw => by
  obtain ⟨⟨o, ho, hfit⟩, hal'⟩ := hal
  rw [List.cons_append, wpOpsIn_cons]
  refine op_ok hlt0 ho hfit hR hF hFr (fun k hk => by rw [hai s (by simp)] at hk; cases hk) hw (fun μ' K' F' H' a' w' ctx' h1 h2 h3 h4 _ _ hv _ h6 => ?_) fun μ' K' H' w' ch _ h1 h2 h3 h4 h5 => hP μ' K' F H' a w' ch h1 h2 h3 h4 h5 hag hd
  refine ord_ok hlt0 hds hQ hP hal' (fun t ht => hai t (by simp [ht])) (fun t ht => hdd t (by simp [ht])) h1 h2 h3 (fun t ht => ?_) (h4.trans hd) h6
  obtain ⟨v, rfl⟩ := hv
  rw [<- hag t ht]
  cases hsd : s.dst with
  | none => rfl
  | some d => exact T.get_set_ne _ _ fun e => by subst e; exact ht (hdd s (by simp) _ hsd)
 | [], _ :: _, _, _, _, _, _, _, _, h, _, _, _, _, _, _, _, _ => h.elim
 | _ :: _, [], _, _, _, _, _, _, _, h, _, _, _, _, _, _, _, _ => h.elim
def dstsOf (l : List SOper) : List Nat := l.filterMap (·.dst)
theorem dstsOf_mem {l : List SOper} : ∀ s ∈ l, ∀ d, s.dst = some d -> d ∈ dstsOf l := fun s hs d hd => List.mem_filterMap.2 ⟨s, hs, hd⟩
theorem Aligned.dsts {ops : Array Oper} : ∀ {idx : List Nat} {l : List SOper}, Aligned P G n ops idx l -> ∀ d ∈ dstsOf l, d < n
 | [], [], _, d, h => by cases h
 | i :: idx, s :: l, hal, d, h => by
  obtain ⟨x, hx, hxd⟩ := List.mem_filterMap.1 h
  rcases List.mem_cons.1 hx with rfl|hx
  ·obtain ⟨⟨o, _, hfit⟩, _⟩ := hal
   have h2 := hfit.2.2.1
   rw [<- hfit.2.1, hxd] at h2
   exact of_decide_eq_true h2
  ·exact Aligned.dsts hal.2 d (List.mem_filterMap.2 ⟨x, hx, hxd⟩)
 | [], _ :: _, h, _, _ => h.elim
 | _ :: _, [], h, _, _ => h.elim
theorem dL_agree {ρ : Option (Option Nat)} {F F0 : T V} {ds : List Nat} (hn : ρ = some none -> n <= DEFI) (hds : ∀ d ∈ ds, d < n) (h : ∀ t, t ∉ ds -> F.get t = F0.get t) : dL ρ F = dL ρ F0 := by
 match ρ with
 | none => rfl
 | some none =>
  have hn := hn rfl
  have : F.get DEFI = F0.get DEFI := h _ fun hm => absurd (hds _ hm) (by omega)
  simp only [dL, defsOf, this]
 | some (some l) => rfl
def AWPr (ρ : Option (Option Nat)) (P : Program) (G n : Nat) (c : Code) (Q : Exit -> T V -> Hp -> Prop) (F : T V) (H : Hp) : Prop :=
 ∀ (s : Nat) (μ : Nat -> Pl) (K : Nat -> Prop) (w : World) (a : Act), Rel G μ K H w -> FRel μ K n F a.tmps -> Dok ρ n μ K s a.defers w (dL ρ F) -> c.wpIn (fen ρ) 0 P (Ends ρ G n s μ K H w Q) a w
def panQ (Q : Exit -> T V -> Hp -> Prop) (ds : List Nat) (F : T V) (H' : Hp) : Prop := ∀ F1 : T V, (∀ t, t ∉ ds -> F1.get t = F.get t) -> Q (.panic []) F1 H'
theorem awp_region {id : Nat} {ops : Array Oper} {l : List SOper} {Q : Exit -> T V -> Hp -> Prop} {F : T V} {H : Hp} (hal : Aligned P G n ops (List.range ops.size) l) (hai : ∀ s ∈ l, s.aid = none)
  (h : wOps P G H.nx (panQ Q (dstsOf l) F) (Q .normal) l [] F H) : AWPr ρ P G n (.region id ops false) Q F H := by
 intro s μ K w a hR hF hd
 refine wpIn_region ?_
 rw [<- List.append_nil (List.range ops.size)]
 refine (ord_ok (QP := panQ Q (dstsOf l) F) (Q := Q .normal) (D := a.defers) (F0 := F) (ds := dstsOf l) hR.lt' hal.dsts (fun μ' K' F' H' a' w' h1 h2 h3 h4 hag h5 => ?_) (fun μ' K' F' H' a' w' ch h0 hch h2 h3 h4 hag h5 => ?_) hal hai dstsOf_mem hR hF (Fr.refl hR) (fun _ _ => rfl) rfl h)
 ·exact ⟨F', H', μ', K', h1, h2, h3, h4, by rw [h5, dL_agree hd.1 hal.dsts hag]; exact hd.fr hR h4⟩
 ·exact ⟨F', H', μ', K', ⟨hch, h0 F' hag⟩, h2, h3, h4, by rw [h5, dL_agree hd.1 hal.dsts hag]; exact hd.fr hR h4⟩
theorem awp_df {id k : Nat} {ops : Array Oper} {l : List SOper} {o : Oper} {c : Operand} {ts : Array TypeId} {d : Opd} {Q : Exit -> T V -> Hp -> Prop} {F : T V} {H : Hp} (hk : ops.size = k + 1) (hal : Aligned P G n ops (List.range k) l) (hai : ∀ s ∈ l, s.aid = none) (ho : ops[k]? = some o) (hoo : o.op = .defer { callee := .value c, args := #[], argTypes := ts }) (hg : o.guard = none) (hdst : o.dst = none) (hd : cO G n c = some d)
  (h : wOps P G H.nx (panQ Q (dstsOf l) F) (fun F' H' => ∃ f caps, d.ev F' = .one (.fn f caps) /\ Q .normal (F'.set DEFI (some (.tup (.one (.fn f caps) :: defsOf F')))) H') l [] F H) : AWPr (some none) P G n (.region id ops false) Q F H := by
 intro s μ K w a hR hF hD
 refine wpIn_region ?_
 rw [show List.range ops.size = List.range k ++ [k] by rw [hk, List.range_succ]]
 refine (ord_ok (QP := panQ Q (dstsOf l) F) (Q := fun F' H' => ∃ f caps, d.ev F' = .one (.fn f caps) /\ Q .normal (F'.set DEFI (some (.tup (.one (.fn f caps) :: defsOf F')))) H') (D := a.defers) (F0 := F) (ds := dstsOf l) hR.lt' hal.dsts (fun μ' K' F' H' a' w' h1 h2 h3 h4 hag h5 => ?_) (fun μ' K' F' H' a' w' ch h0 hch h2 h3 h4 hag h5 => ?_) hal hai dstsOf_mem hR hF (Fr.refl hR) (fun _ _ => rfl) rfl h)
 ·obtain ⟨f, caps, hev, hq⟩ := h1
  have hv := cO_ok h2 h3 hd
  rw [hev] at hv
  obtain ⟨hkc, hv'⟩ : (∀ p ∈ caps, K' p.1) /\ a'.eval c = .func (.func f) #[] (caps.map fun p => Value.pointer (some ((μ' p.1).addr p.2))).toArray := hv
  rw [wpOpsIn_cons]
  unfold wpOpIn
  rw [ho]
  simp only [Region.wanted, hg, if_true]
  refine ⟨fun _ _ => fen_fn, ?_⟩
  have hrun : (o.semAt (fen (some none)).round a'.eval).run P w' = .ok (.defer { target := .fn (.func f) (caps.map fun p => Value.pointer (some ((μ' p.1).addr p.2))).toArray, args := #[] }) w' := by
   rw [show (fen (some none)).round = none from rfl, Oper.semAt_none]
   simp [execOp, hoo, resolve, hv', Deferred.ofValue]
  rw [hrun, Oper.uponIn_defer]
  have e1 : ({ a' with defers := { target := .fn (.func f) (caps.map fun p => Value.pointer (some ((μ' p.1).addr p.2))).toArray, args := #[] } :: a'.defers } : Act).put o.dst Go.undef = { a' with defers := { target := .fn (.func f) (caps.map fun p => Value.pointer (some ((μ' p.1).addr p.2))).toArray, args := #[] } :: a'.defers } := by rw [hdst]; rfl
  rw [e1]
  simp only [wpOpsIn]
  have hD' : Dok (some none) n μ' K' s a.defers w' (dL (some none) F) := hD.fr hR h4
  have hL : dL (some none) F' = dL (some none) F := dL_agree hD.1 hal.dsts hag
  refine ⟨_, H', μ', K', hq, h2, ⟨h3.1, fun i hi => ?_⟩, h4, hD'.1, hD'.2.1, ?_, ?_⟩
  ·have := hD.1 rfl
   rw [T.get_set_ne _ _ (by omega)]
   exact h3.2 i hi
  ·show (a'.defers.filterMap markR).Nodup
   rw [h5]; exact hD'.2.2.1
  ·refine .inr ⟨f, caps, dL (some none) F', by simp [dL, defsOf], hkc, rfl, ?_⟩
   rw [h5, hL]
   exact hD'.2.2.2
 ·exact ⟨F', H', μ', K', ⟨hch, h0 F' hag⟩, h2, h3, h4, by rw [h5, dL_agree hD.1 hal.dsts hag]; exact hD.fr hR h4⟩
theorem awp_pn {id k : Nat} {ops : Array Oper} {l : List SOper} {o : Oper} {c : Operand} {d : Opd} {Q : Exit -> T V -> Hp -> Prop} {F : T V} {H : Hp} (hk : ops.size = k + 1) (hal : Aligned P G n ops (List.range k) l) (hai : ∀ s ∈ l, s.aid = none) (ho : ops[k]? = some o) (hoo : o.op = .panic c) (hg : o.guard = none) (hd : cO G n c = some d)
  (h : wOps P G H.nx (panQ Q (dstsOf l) F) (fun F' H' => d.ev F' = .one .ifa /\ panQ Q (dstsOf l) F H') l [] F H) : AWPr ρ P G n (.region id ops false) Q F H := by
 intro s μ K w a hR hF hD
 refine wpIn_region ?_
 rw [show List.range ops.size = List.range k ++ [k] by rw [hk, List.range_succ]]
 refine (ord_ok (QP := panQ Q (dstsOf l) F) (Q := fun F' H' => d.ev F' = .one .ifa /\ panQ Q (dstsOf l) F H') (D := a.defers) (F0 := F) (ds := dstsOf l) hR.lt' hal.dsts (fun μ' K' F' H' a' w' h1 h2 h3 h4 hag h5 => ?_) (fun μ' K' F' H' a' w' ch h0 hch h2 h3 h4 hag h5 => ?_) hal hai dstsOf_mem hR hF (Fr.refl hR) (fun _ _ => rfl) rfl h)
 ·obtain ⟨hev, hq⟩ := h1
  have hv := cO_ok h2 h3 hd
  rw [hev] at hv
  obtain ⟨t, v, hv'⟩ : ∃ t v, a'.eval c = .iface t v := hv
  rw [wpOpsIn_cons]
  unfold wpOpIn
  rw [ho]
  simp only [Region.wanted, hg, if_true]
  refine ⟨fun _ _ => fen_fn, ?_⟩
  have hrun : (o.semAt (fen ρ).round a'.eval).run P w' = .halt (.panic (.iface t v)) w' := by
   rw [Oper.semAt_eq _ _ _ (by rw [hoo]; exact fun _ h => by cases h)]
   simp [execOp, hoo, hv', Instr.panic, goPanic]
  rw [hrun, Oper.uponIn_panic]
  exact ⟨F', H', μ', K', ⟨⟨t, v, rfl⟩, hq F' hag⟩, h2, h3, h4, by rw [h5, dL_agree hD.1 hal.dsts hag]; exact hD.fr hR h4⟩
 ·exact ⟨F', H', μ', K', ⟨hch, h0 F' hag⟩, h2, h3, h4, by rw [h5, dL_agree hD.1 hal.dsts hag]; exact hD.fr hR h4⟩
theorem awp_skip {Q : Exit -> T V -> Hp -> Prop} {F : T V} {H : Hp} (h : Q .normal F H) : AWPr ρ P G n .skip Q F H :=
 fun _ _ _ _ _ hR hF hd => wpIn_skip ⟨F, H, _, _, h, hR, hF, Fr.refl hR, hd⟩
theorem awp_exit {Q : Exit -> T V -> Hp -> Prop} {F : T V} {H : Hp} {id : Nat} (h : Q (.exit id) F H) : AWPr ρ P G n (.exit id) Q F H :=
 fun _ _ _ _ _ hR hF hd => wpIn_exit ⟨F, H, _, _, h, hR, hF, Fr.refl hR, hd⟩
theorem awp_ret {Q : Exit -> T V -> Hp -> Prop} {F : T V} {H : Hp} (h : Q .ret F H) : AWPr ρ P G n .ret Q F H :=
 fun _ _ _ _ _ hR hF hd => wpIn_ret ⟨F, H, _, _, h, hR, hF, Fr.refl hR, hd⟩
def thenQ (next : T V -> Hp -> Prop) (Q : Exit -> T V -> Hp -> Prop) : Exit -> T V -> Hp -> Prop
 | .normal, F, H => next F H
 | e, F, H => Q e F H
theorem ends_trans {s : Nat} {μ0 : Nat -> Pl} {K0 : Nat -> Prop} {H0 : Hp} {w0 : World} {μ : Nat -> Pl} {K : Nat -> Prop} {H : Hp} {w : World} (hlt : ∀ b bk, H0.get b = some bk -> b < H0.nx) (hFr : Fr μ0 K0 H0 w0 μ K H w) {Q : Exit -> T V -> Hp -> Prop} {e : Exit} {a : Act} {w' : World}
  (h : Ends ρ G n s μ K H w Q e a w') : Ends ρ G n s μ0 K0 H0 w0 Q e a w' := by
 obtain ⟨F, H', μ', K', h1, h2, h3, h4, hd⟩ := h
 exact ⟨F, H', μ', K', h1, h2, h3, hFr.trans hlt h4, hd⟩
theorem awp_seq {x y : Code} {Q : Exit -> T V -> Hp -> Prop} {F : T V} {H : Hp} (h : AWPr ρ P G n x (thenQ (AWPr ρ P G n y Q) Q) F H) : AWPr ρ P G n (.seq x y) Q F H := by
 intro s μ K w a hR hF hd
 refine wpIn_seq (wpIn_mono (h s μ K w a hR hF hd) fun e a' w' he => ?_)
 obtain ⟨F', H', μ', K', h1, h2, h3, h4, hd'⟩ := he
 cases e with
 | normal => exact wpIn_mono (h1 s μ' K' w' a' h2 h3 hd') fun e a'' w'' he => ends_trans hR.lt' h4 he
 | exit id => exact ⟨F', H', μ', K', h1, h2, h3, h4, hd'⟩
 | goto l => exact ⟨F', H', μ', K', h1, h2, h3, h4, hd'⟩
 | ret => exact ⟨F', H', μ', K', h1, h2, h3, h4, hd'⟩
 | panic ch => exact ⟨F', H', μ', K', h1, h2, h3, h4, hd'⟩
 | outgrown => exact ⟨F', H', μ', K', h1, h2, h3, h4, hd'⟩
theorem awp_cond {c : Operand} {d : Opd} {x y : Code} {Q : Exit -> T V -> Hp -> Prop} {F : T V} {H : Hp} {t : Bool} (hc : cO G n c = some d) (ht : d.ev F = .one (.bool t)) (h : AWPr ρ P G n (if t then x else y) Q F H) : AWPr ρ P G n (.cond c x y) Q F H := by
 intro s μ K w a hR hF hd
 have hv := cO_ok hR hF hc
 rw [ht] at hv
 exact wpIn_cond (t := t) hv (h s μ K w a hR hF hd)
def blockQ (id : Nat) (Q : Exit -> T V -> Hp -> Prop) : Exit -> T V -> Hp -> Prop
 | .exit id', F, H => if id' = id then Q .normal F H else Q (.exit id') F H
 | e, F, H => Q e F H
theorem awp_block {id : Nat} {c : Code} {Q : Exit -> T V -> Hp -> Prop} {F : T V} {H : Hp} (h : AWPr ρ P G n c (blockQ id Q) F H) : AWPr ρ P G n (.block id c) Q F H := by
 intro s μ K w a hR hF hd
 refine wpIn_block (wpIn_mono (h s μ K w a hR hF hd) fun e a' w' he => ?_)
 obtain ⟨F', H', μ', K', h1, h2, h3, h4, hd'⟩ := he
 cases e with
 | exit id' =>
  simp only [QE, blockQ] at h1
  simp only [Exit.inBlock]
  split
  ·rename_i e; rw [if_pos e] at h1; exact ⟨F', H', μ', K', h1, h2, h3, h4, hd'⟩
  ·rename_i e; rw [if_neg e] at h1; exact ⟨F', H', μ', K', h1, h2, h3, h4, hd'⟩
 | normal => exact ⟨F', H', μ', K', h1, h2, h3, h4, hd'⟩
 | goto l => exact ⟨F', H', μ', K', h1, h2, h3, h4, hd'⟩
 | ret => exact ⟨F', H', μ', K', h1, h2, h3, h4, hd'⟩
 | panic ch => exact ⟨F', H', μ', K', h1, h2, h3, h4, hd'⟩
 | outgrown => exact ⟨F', H', μ', K', h1, h2, h3, h4, hd'⟩
theorem awp_loop {c : Code} {Q : Exit -> T V -> Hp -> Prop} {F : T V} {H : Hp} (I : Nat -> T V -> Hp -> Prop) {m : Nat} (h0 : I m F H) (round : ∀ m F H, I m F H -> AWPr ρ P G n c (thenQ (fun F' H' => ∃ m', m' < m /\ I m' F' H') Q) F H) : AWPr ρ P G n (.loop c) Q F H := by
 intro s μ K w a hR hF hd
 let J : Nat -> Act -> World -> Prop := fun m a' w' => ∃ F' H' μ' K', I m F' H' /\ Rel G μ' K' H' w' /\ FRel μ' K' n F' a'.tmps /\ Fr μ K H w μ' K' H' w' /\ Dok ρ n μ' K' s a'.defers w' (dL ρ F')
 have main : ∀ m a' w', J m a' w' -> ∀ (b : Frame) (k : List Item) (cs : List Frame), b.roundOf = (fen ρ).round -> ∃ e a'' w'', Ends ρ G n s μ K H w Q e a'' w'' /\ ArrivesIn (Machine.fenced P (fen ρ)) P (lone (b.atR a' (.code c :: .inLoop c :: k)) cs w') b k cs e a'' w'' := by
  intro m
  induction m using Nat.strongRecOn with
  | _ m ih =>
   intro a' w' hJ b k cs hro
   obtain ⟨F', H', μ', K', h1, h2, h3, h4, hd'⟩ := hJ
   obtain ⟨e, a1, w1, hq, harr⟩ := round m F' H' h1 s μ' K' w' a' h2 h3 hd' b (.inLoop c :: k) cs hro fen_fn fen_room
   obtain ⟨F1, H1, μ1, K1, g1, g2, g3, g4, hd1⟩ := hq
   cases e with
   | normal =>
    obtain ⟨m', hm', hI⟩ := g1
    obtain ⟨e2, a2, w2, hq2, harr2⟩ := ih m' hm' a1 w1 ⟨F1, H1, μ1, K1, hI, g2, g3, h4.trans hR.lt' g4, hd1⟩ b k cs hro
    exact ⟨e2, a2, w2, hq2, .of_steps (StepsIn.trans harr (.one (fenced_calm (n := 0) fen_fn fen_room rfl) stepR_inLoop)) harr2⟩
   | exit id => exact ⟨.exit id, a1, w1, ⟨F1, H1, μ1, K1, g1, g2, g3, h4.trans hR.lt' g4, hd1⟩, .pass (x := .inLoop c) rfl (fun _ _ => .inl (by simp)) harr⟩
   | goto l => exact ⟨.goto l, a1, w1, ⟨F1, H1, μ1, K1, g1, g2, g3, h4.trans hR.lt' g4, hd1⟩, .pass (x := .inLoop c) rfl (fun _ _ => .inl (by simp)) harr⟩
   | ret => exact ⟨.ret, a1, w1, ⟨F1, H1, μ1, K1, g1, g2, g3, h4.trans hR.lt' g4, hd1⟩, .pass (x := .inLoop c) rfl (fun _ _ => .inl (by simp)) harr⟩
   | panic ch => exact ⟨.panic ch, a1, w1, ⟨F1, H1, μ1, K1, g1, g2, g3, h4.trans hR.lt' g4, hd1⟩, .pass (x := .inLoop c) rfl (fun _ _ => .inl (by simp)) harr⟩
   | outgrown => exact ⟨.outgrown, a1, w1, ⟨F1, H1, μ1, K1, g1, g2, g3, h4.trans hR.lt' g4, hd1⟩, .pass (x := .inLoop c) rfl (fun _ _ => .inl (by simp)) harr⟩
 intro b k cs hro _ _
 obtain ⟨e, a', w', hq, harr⟩ := main m a w ⟨F, H, μ, K, h0, hR, hF, Fr.refl hR, hd⟩ b k cs hro
 exact ⟨e, a', w', hq, .of_steps (.one (fenced_calm (n := 0) fen_fn fen_room rfl) stepR_loop) harr⟩
section
variable {b : Frame} {a : Act} {k : List Item} {cs : List Frame} {w : World} {Q : Exit -> Act -> World -> Prop} {F : Fence} {m : Nat}
theorem stepR_scope {c : Code} : step P (lone (b.atR a (.code (.scope c) :: k)) cs w) = .next (lone (b.atR a (.code c :: .inScope c :: k)) cs w) :=
 step_lone_go (by simp [stepG, stepG.exec, Frame.atR])
theorem stepR_inScope {c : Code} : step P (lone (b.atR a (.inScope c :: k)) cs w) = .next (lone (b.atR a k) cs w) :=
 step_lone_go (by simp [stepG, stepG.exec, Frame.atR])
def noGo (Q : Exit -> Act -> World -> Prop) : Exit -> Act -> World -> Prop
 | .goto _, _, _ => False
 | e, a, w => Q e a w
theorem wpIn_scope {c : Code} (h : c.wpIn F m P (noGo Q) a w) : (Code.scope c).wpIn F m P Q a w := by
 intro b k cs hro hb hr
 have h0 : (lone (b.atR a (.code (.scope c) :: k)) cs w).fenced P F := fenced_calm hb hr rfl
 obtain ⟨e, a₁, w₁, hq, harr⟩ := h b (.inScope c :: k) cs hro hb hr
 cases e with
 | normal => exact ⟨.normal, a₁, w₁, hq, .of_steps (.one h0 stepR_scope) (StepsIn.trans harr (.one (fenced_calm hb hr rfl) stepR_inScope))⟩
 | exit id => exact ⟨.exit id, a₁, w₁, hq, .of_steps (.one h0 stepR_scope) ⟨fun k' hk => harr.1 k' (by simpa [exitTo] using hk), fun hr hk => harr.2 hr (by simpa [exitTo] using hk)⟩⟩
 | goto l => exact hq.elim
 | ret => exact ⟨.ret, a₁, w₁, hq, .of_steps (.one h0 stepR_scope) harr⟩
 | panic ch => exact ⟨.panic ch, a₁, w₁, hq, .of_steps (.one h0 stepR_scope) harr⟩
 | outgrown => exact ⟨.outgrown, a₁, w₁, hq, .of_steps (.one h0 stepR_scope) harr⟩
end
def scopeQ (Q : Exit -> T V -> Hp -> Prop) : Exit -> T V -> Hp -> Prop
 | .goto _, _, _ => False
 | e, F, H => Q e F H
theorem awp_scope {c : Code} {Q : Exit -> T V -> Hp -> Prop} {F : T V} {H : Hp} (h : AWPr ρ P G n c (scopeQ Q) F H) : AWPr ρ P G n (.scope c) Q F H := by
 intro s μ K w a hR hF hd
 refine wpIn_scope (wpIn_mono (h s μ K w a hR hF hd) fun e a' w' he => ?_)
 obtain ⟨F', H', μ', K', h1, h2, h3, h4, hd'⟩ := he
 cases e with
 | goto l => exact h1.elim
 | exit id => exact ⟨F', H', μ', K', h1, h2, h3, h4, hd'⟩
 | normal => exact ⟨F', H', μ', K', h1, h2, h3, h4, hd'⟩
 | ret => exact ⟨F', H', μ', K', h1, h2, h3, h4, hd'⟩
 | panic ch => exact ⟨F', H', μ', K', h1, h2, h3, h4, hd'⟩
 | outgrown => exact ⟨F', H', μ', K', h1, h2, h3, h4, hd'⟩
theorem awp_label {l : Nat} {Q : Exit -> T V -> Hp -> Prop} {F : T V} {H : Hp} (h : Q .normal F H) : AWPr ρ P G n (.label l) Q F H :=
 fun _ _ _ _ _ hR hF hd => wpIn_label ⟨F, H, _, _, h, hR, hF, Fr.refl hR, hd⟩
theorem QE_mono {Q Q' : Exit -> T V -> Hp -> Prop} (hq : ∀ e F H, Q e F H -> Q' e F H) {e : Exit} {F : T V} {H : Hp} (h : QE Q e F H) : QE Q' e F H := by
 cases e <;> first|exact ⟨h.1, hq _ _ _ h.2⟩|exact hq _ _ _ h
theorem awp_mono {c : Code} {Q Q' : Exit -> T V -> Hp -> Prop} {F : T V} {H : Hp} (h : AWPr ρ P G n c Q F H) (hq : ∀ e F H, Q e F H -> Q' e F H) : AWPr ρ P G n c Q' F H :=
 fun s μ K w a hR hF hd => wpIn_mono (h s μ K w a hR hF hd) fun e _ _ ⟨F', H', μ', K', h1, h2⟩ => ⟨F', H', μ', K', QE_mono hq h1, h2⟩
end
end Go.Ab

namespace Go.Ab
def Opd.tm : Opd -> List Nat
  | .t n => [n]
  | .c _ => []
def otm : Option Opd -> List Nat
  | some x => x.tm
  | none => []
def ltm (l : List Opd) : List Nat := l.flatMap Opd.tm
def ptm (l : List (Nat × Nat × Opd)) : List Nat := l.flatMap fun p => p.2.2.tm
def PureOp.tm : PureOp -> List Nat
  | .mv x|.nilck x|.neg x|.not x|.conv _ x|.faddr _ x|.field _ _ _ x|.extract x _|.len x|.nileq _ x|.slen x|.cap x|.mkif x|.ifeq _ x|.bm _ x|.sdata x => x.tm
  | .pick c a b => c.tm ++ a.tm ++ b.tm
  | .build _ ps => ptm ps
  | .bin _ x y|.beq _ x y|.eqs _ _ x y|.iaddr _ x y|.aaddr _ _ x y|.aindex _ _ _ x y|.mm _ x y|.sindex x y|.scat x y|.seq _ x y|.peq _ x y|.idxb x y|.cnt x y => x.tm ++ y.tm
  | .mkfn _ l => ltm l
  | .slice _ x lo hi mx => x.tm ++ otm lo ++ otm hi ++ otm mx
  | .sslice x lo hi => x.tm ++ otm lo ++ otm hi
  | .cint _ => []
def LoadOp.tm : LoadOp -> List Nat
  | .load _ _ a => a.tm
  | .lookup _ _ m k => m.tm ++ k.tm
  | .mlen m => m.tm
  | .bstr x|.pcv _ _ x => x.tm
  | .aslice _ _ x lo hi => x.tm ++ otm lo ++ otm hi
  | .slookup _ _ m k => m.tm ++ k.tm
def AllocOp.tm : AllocOp -> List Nat
  | .alloc _|.mkmap|.mkst|.alloct _ _ => []
  | .box x => x.tm
  | .bslice _ _ _ ps => ptm ps
  | .mkslice _ _ _ l c => l.tm ++ c.tm
def EffOp.tm : EffOp -> List Nat
  | .store _ a x => a.tm ++ x.tm
  | .append _ _ s x => s.tm ++ x.tm
  | .copy _ d s => d.tm ++ s.tm
  | .mapupd m k x => m.tm ++ k.tm ++ x.tm
  | .clear _ _ x => x.tm
  | .appendz _ _ _ s x => s.tm ++ x.tm
  | .sbytes x => x.tm
  | .stupd m k x => m.tm ++ k.tm ++ x.tm
  | .rng m => m.tm
  | .ent m => m.tm
  | .stlook _ _ m k => m.tm ++ k.tm
  | .stlen m => m.tm
  | .stdel m k => m.tm ++ k.tm
  | .appendb _ s x => s.tm ++ x.tm
  | .mnz _ x => x.tm
  | .ustr _ p n => p.tm ++ n.tm
  | .smapupd m k x => m.tm ++ k.tm ++ x.tm
def SOp.tm : SOp -> List Nat
  | .p o => o.tm
  | .l o => o.tm
  | .a o => o.tm
  | .e o => o.tm
  | .cf _ args => ltm args
  | .cv x args => x.tm ++ ltm args
  | .nx x => x.tm
  | .no => []
def gtm : Option (Nat × Bool) -> List Nat
  | some (t, _) => [t]
  | none => []
def SOper.tm (s : SOper) : List Nat := s.op.tm ++ gtm s.guard
section
variable {F : T V} {d : Nat} {v : Option V}
theorem ev_set {x : Opd} (h : d ∉ x.tm) : x.ev (F.set d v) = x.ev F := by
  cases x with
  | t n => simp only [Opd.tm, List.mem_singleton] at h; simp [Opd.ev, T.get_set_ne _ _ (fun e => h e.symm)]
  | c w => rfl
theorem evs_set : ∀ {l : List Opd}, d ∉ ltm l -> l.map (·.ev (F.set d v)) = l.map (·.ev F)
  | [], _ => rfl
  | x :: l, h => by
    simp only [ltm, List.flatMap_cons, List.mem_append, not_or] at h
    simp [ev_set h.1, evs_set h.2]
theorem fill_set : ∀ {ps : List (Nat × Nat × Opd)} {z : List C}, d ∉ ptm ps -> fillL (F.set d v) z ps = fillL F z ps
  | [], _, _ => rfl
  | (off, size, x) :: ps, z, h => by
    simp only [ptm, List.flatMap_cons, List.mem_append, not_or] at h
    simp only [fillL, ev_set h.1]
    cases cells1 (x.ev F) with
    | none => rfl
    | some cs => simp only; rw [fill_set h.2]
theorem caps_set : ∀ {l : List Opd}, d ∉ ltm l -> capsL (F.set d v) l = capsL F l
  | [], _ => rfl
  | x :: l, h => by
    simp only [ltm, List.flatMap_cons, List.mem_append, not_or] at h
    simp only [capsL, ev_set h.1, caps_set h.2]
theorem bound_set {x : Option Opd} {k y : Nat} (h : d ∉ otm x) : aBound (F.set d v) k y x = aBound F k y x := by
  cases x with
  | none => rfl
  | some x => simp only [otm] at h; simp only [aBound, ev_set h]
theorem slice_set {esz : Nat} {x : V} {lo hi mx : Option Opd} (h1 : d ∉ otm lo) (h2 : d ∉ otm hi) (h3 : d ∉ otm mx) : aSlice (F.set d v) esz x lo hi mx = aSlice F esz x lo hi mx := by
  unfold aSlice
  simp only [bound_set h1, bound_set h2, bound_set h3]
theorem sslice_set {x : V} {lo hi : Option Opd} (h1 : d ∉ otm lo) (h2 : d ∉ otm hi) : aSslice (F.set d v) x lo hi = aSslice F x lo hi := by
  unfold aSslice
  simp only [bound_set h1, bound_set h2]
theorem pure_set {o : PureOp} (h : d ∉ o.tm) : aPure (F.set d v) o = aPure F o := by
  cases o <;> simp only [PureOp.tm, List.mem_append, not_or] at h <;> simp only [aPure]
  all_goals first
    | rw [ev_set h.1.1, sslice_set h.1.2 h.2]
    | rw [ev_set h]
    | rw [fill_set h]
    | rw [caps_set h]
    | rw [ev_set h.1, ev_set h.2]
    | rw [ev_set h.1.1, ev_set h.1.2, ev_set h.2]
    | rw [ev_set h.1.1.1, slice_set h.1.1.2 h.1.2 h.2]
theorem load_set {o : LoadOp} {H : Hp} (h : d ∉ o.tm) : aLoad (F.set d v) H o = aLoad F H o := by
  cases o <;> simp only [LoadOp.tm, List.mem_append, not_or] at h <;> simp only [aLoad]
  all_goals first
    | (rw [ev_set h.1.1]; simp only [bound_set h.2, bound_set h.1.2]; done)
    | rw [ev_set h]
    | rw [ev_set h.1, ev_set h.2]
theorem alloc_set {o : AllocOp} (h : d ∉ o.tm) : aAlloc (F.set d v) o = aAlloc F o := by
  cases o <;> simp only [AllocOp.tm, List.mem_append, not_or] at h <;> simp only [aAlloc]
  all_goals first
    | rw [ev_set h]
    | rw [fill_set h]
    | rw [ev_set h.1, ev_set h.2]
theorem eff_set {o : EffOp} {H : Hp} (h : d ∉ o.tm) : aEff (F.set d v) H o = aEff F H o := by
  cases o <;> simp only [EffOp.tm, List.mem_append, not_or] at h <;> simp only [aEff]
  all_goals first
    | rw [ev_set h]
    | rw [ev_set h.1, ev_set h.2]
    | rw [ev_set h.1.1, ev_set h.1.2, ev_set h.2]
theorem wanted_set {g : Option (Nat × Bool)} (h : d ∉ gtm g) : wantedA g (F.set d v) = wantedA g F := by
  cases g with
  | none => rfl
  | some p => obtain ⟨t, b⟩ := p; simp only [gtm, List.mem_singleton] at h; simp [wantedA, T.get_set_ne _ _ (fun e => h e.symm)]
end
def tmOk (y x : SOper) : Bool :=
  (match y.dst with
   | some d => !(x.tm.contains d) && x.dst != some d
   | none => true) &&
  (match x.dst with
   | some d => !(y.tm.contains d)
   | none => true)
inductive Kd where
  | p|l|a|e|c
def SOp.kd : SOp -> Kd
  | .p _ => .p
  | .l _ => .l
  | .a _ => .a
  | .e _ => .e
  | .cf _ _ => .c
  | .cv _ _ => .c
  | .nx _ => .c
  | .no => .e
def SOp.isAp : SOp -> Bool
  | .e (.append _ _ _ _) => true
  | _ => false
def swapOk (y x : SOper) : Bool :=
  tmOk y x && match y.op.kd, x.op.kd with
  | .p, _ => true
  | .l, .p|.l, .l => true
  | .l, .a => x.aid.isSome
  | .l, .e|.l, .c => y.keep && x.watch.contains y.id
  | .a, .p => true
  | .a, .a => y.aid.isSome && x.aid.isSome && y.aid != x.aid
  | .e, .p|.c, .p => true
  | .e, .a => x.aid.isSome && y.op.isAp
  | .c, .a => x.aid.isSome
  | _, _ => false
section
variable {P : Program} {G base : Nat} {Q : T V -> Hp -> Prop}
theorem setO_comm {F : T V} {d e : Option Nat} {u v : V} (h : ∀ k, d = some k -> e ≠ some k) : setO (setO F d u) e v = setO (setO F e v) d u := by
  cases d with
  | none => rfl
  | some d =>
    cases e with
    | none => rfl
    | some e => exact T.set_comm _ _ _ (fun he => h d rfl (by rw [he]))
theorem tmOk_spec {y x : SOper} (h : tmOk y x = true) : (∀ d, y.dst = some d -> d ∉ x.op.tm /\ d ∉ gtm x.guard /\ x.dst ≠ some d) /\ (∀ d, x.dst = some d -> d ∉ y.op.tm /\ d ∉ gtm y.guard) := by
  unfold tmOk at h
  rw [Bool.and_eq_true] at h
  refine ⟨fun d hd => ?_, fun d hd => ?_⟩
  · have h1 := h.1
    rw [hd] at h1
    simp [SOper.tm] at h1
    exact ⟨h1.1.1, h1.1.2, h1.2⟩
  · have h2 := h.2
    rw [hd] at h2
    simp [SOper.tm] at h2
    exact ⟨h2.1, h2.2⟩
structure Blind (s : SOper) (d : Option Nat) : Prop where
  pure : ∀ F v o, s.op = .p o -> aPure (setO F d v) o = aPure F o
  load : ∀ F H v o, s.op = .l o -> aLoad (setO F d v) H o = aLoad F H o
  alloc : ∀ F v o, s.op = .a o -> aAlloc (setO F d v) o = aAlloc F o
  eff : ∀ F H v o, s.op = .e o -> aEff (setO F d v) H o = aEff F H o
  cf : ∀ F v f l, s.op = .cf f l -> l.map (·.ev (setO F d v)) = l.map (·.ev F)
  cv : ∀ F v x l, s.op = .cv x l -> x.ev (setO F d v) = x.ev F /\ l.map (·.ev (setO F d v)) = l.map (·.ev F)
  nx : ∀ F v x, s.op = .nx x -> x.ev (setO F d v) = x.ev F
  wanted : ∀ F v, wantedA s.guard (setO F d v) = wantedA s.guard F
theorem Blind.mk' {s : SOper} {d : Option Nat} (h : ∀ k, d = some k -> k ∉ s.op.tm /\ k ∉ gtm s.guard) : Blind s d := by
  cases d with
  | none => exact ⟨fun _ _ _ _ => rfl, fun _ _ _ _ _ => rfl, fun _ _ _ _ => rfl, fun _ _ _ _ _ => rfl, fun _ _ _ _ _ => rfl, fun _ _ _ _ _ => ⟨rfl, rfl⟩, fun _ _ _ _ => rfl, fun _ _ => rfl⟩
  | some d =>
    obtain ⟨h1, h2⟩ := h d rfl
    refine ⟨fun F v o ho => ?_, fun F H v o ho => ?_, fun F v o ho => ?_, fun F H v o ho => ?_, fun F v f l ho => ?_, fun F v x l ho => ?_, fun F v x ho => ?_, fun F v => wanted_set h2⟩
    · rw [ho] at h1; exact pure_set h1
    · rw [ho] at h1; exact load_set h1
    · rw [ho] at h1; exact alloc_set h1
    · rw [ho] at h1; exact eff_set h1
    · rw [ho] at h1; exact evs_set h1
    · rw [ho] at h1
      simp only [SOp.tm, List.mem_append, not_or] at h1
      exact ⟨ev_set h1.1, evs_set h1.2⟩
    · rw [ho] at h1; exact ev_set h1
end
end Go.Ab

namespace Go.Ab
section
variable {P : Program} {G base : Nat} {QP : Hp -> Prop} {Q : T V -> Hp -> Prop}
inductive Cal where
 | fu (f : FuncId)
 | yl (b : Nat)
 | nx (b : Nat)
def Cal.k (K : Nat -> Prop) : Cal -> Prop
 | .fu _ => True
 | .yl b => K b
 | .nx b => K b
def Cal.run (P : Program) (μ : Nat -> Pl) (xs : Array Value) (w : World) (R : Ending -> World -> Prop) : Cal -> Prop
 | .fu f => Calls P f xs w R
 | .yl b => YieldAt Fence.wide 0 P (μ b).blk xs w R
 | .nx b => ∀ ty : TypeId, ∃ y w', (Instr.next (.pointer (some ((μ b).addr 0))) false ty).run P w = .ok y w' /\ R (.returned y) w'
theorem Cal.run_mono {c : Cal} {μ : Nat -> Pl} {xs : Array Value} {w : World} {R R' : Ending -> World -> Prop} (h : c.run P μ xs w R) (hr : ∀ e w', R e w' -> R' e w') : c.run P μ xs w R' := by
 cases c with
 | fu f => exact Calls.mono h hr
 | yl b => obtain ⟨fn, tmps, sg, bd, h1, h2⟩ := h; exact ⟨fn, tmps, sg, bd, h1, h2.mono hr⟩
 | nx b =>
  intro ty
  obtain ⟨y, w', h1, h2⟩ := h ty
  exact ⟨y, w', h1, hr _ _ h2⟩
def Cal.sp (S : Hp -> Prop) : Cal -> Hp -> Prop
 | .fu _ => S
 | _ => fun _ => False
def ADo (P : Program) (G : Nat) (c : Cal) (args : List V) (H : Hp) (R : V -> Hp -> Prop) (S : Hp -> Prop) : Prop :=
 ∀ (μ : Nat -> Pl) (K : Nat -> Prop) (w : World) (xs : List Value), Rel G μ K H w -> All2 (RV μ K) args xs -> c.k K ->
  c.run P μ xs.toArray w (AEnd G μ K H w R (c.sp S))
theorem AEnd.no {G : Nat} {μ : Nat -> Pl} {K : Nat -> Prop} {H : Hp} {w : World} {R : V -> Hp -> Prop} {e : Ending} {w' : World} (h : AEnd G μ K H w R (fun _ => False) e w') : ∃ x, e = .returned x /\ ∃ v H' μ' K', R v H' /\ RV μ' K' v x /\ Rel G μ' K' H' w' /\ Fr μ K H w μ' K' H' w' :=
 h.elim id fun ⟨_, _, _, _, _, _, hf, _⟩ => hf.elim
theorem AEnd.mono {G : Nat} {μ : Nat -> Pl} {K : Nat -> Prop} {H : Hp} {w : World} {R R' : V -> Hp -> Prop} {S S' : Hp -> Prop} {e : Ending} {w' : World} (h : AEnd G μ K H w R S e w') (hr : ∀ v H', R v H' -> R' v H') (hs : ∀ H', S H' -> S' H') : AEnd G μ K H w R' S' e w' :=
 h.imp (fun ⟨x, h1, v, H', μ', K', h2, h3⟩ => ⟨x, h1, v, H', μ', K', hr _ _ h2, h3⟩) fun ⟨ch, h1, h2, H', μ', K', h3, h4⟩ => ⟨ch, h1, h2, H', μ', K', hs _ h3, h4⟩
theorem ado_p {f : FuncId} {args : List V} {H : Hp} {R : V -> Hp -> Prop} {S : Hp -> Prop} : ADo P G (.fu f) args H R S ↔ ACallsP P G f args H R S :=
 ⟨fun h μ K w xs hR ha => h μ K w xs hR ha trivial, fun h μ K w xs hR ha _ => h μ K w xs hR ha⟩
theorem ado_f {f : FuncId} {args : List V} {H : Hp} {R : V -> Hp -> Prop} : ADo P G (.fu f) args H R (fun _ => False) ↔ ACalls P G f args H R :=
 ⟨fun h => (ado_p.1 h).of, fun h => ado_p.2 h.toP⟩
theorem ado_y {b : Nat} {args : List V} {H : Hp} {R : V -> Hp -> Prop} {S : Hp -> Prop} : ADo P G (.yl b) args H R S ↔ AYield P G b args H R :=
 ⟨fun h μ K w xs hR hK ha => Cal.run_mono (c := .yl b) (h μ K w xs hR ha hK) fun _ _ he => AEnd.no he, fun h μ K w xs hR ha hK => Cal.run_mono (c := .yl b) (h μ K w xs hR hK ha) fun _ _ he => .inl he⟩
theorem ado_n {b : Nat} {H : Hp} {R : V -> Hp -> Prop} {S : Hp -> Prop} : ADo P G (.nx b) [] H R S ↔ ANext P G b H R := by
 constructor
 ·intro h μ K w hR hK ty
  obtain ⟨y, w', h1, hh⟩ := h μ K w [] hR trivial hK ty
  obtain ⟨x, he, h2⟩ := AEnd.no hh
  injection he with he
  subst he
  exact ⟨_, w', h1, h2⟩
 ·intro h μ K w xs hR _ hK ty
  obtain ⟨y, w', h1, h2⟩ := h μ K w hR hK ty
  exact ⟨y, w', h1, .inl ⟨y, rfl, h2⟩⟩
theorem ADo.mono {f : Cal} {args : List V} {H : Hp} {R R' : V -> Hp -> Prop} {S : Hp -> Prop} (h : ADo P G f args H R S) (hr : ∀ v H', R v H' -> R' v H') : ADo P G f args H R' S :=
 fun μ K w xs hR ha hK => Cal.run_mono (h μ K w xs hR ha hK) fun _ _ he => he.mono hr fun _ h => h
theorem ADo.keeps {f : Cal} {args : List V} {H : Hp} {R : V -> Hp -> Prop} {S : Hp -> Prop} (h : ADo P G f args H R S) : ADo P G f args H (fun v H' => R v H' /\ H.nx <= H'.nx /\ ∀ b, b < H.nx -> H.get b = none -> H'.get b = none) S :=
 fun μ K w xs hR ha hK => Cal.run_mono (h μ K w xs hR ha hK) fun _ _ he => he.imp (fun ⟨x, he, v, H', μ', K', h1, h2, h3, h4⟩ => ⟨x, he, v, H', μ', K', ⟨h1, h4.nx, h4.none⟩, h2, h3, h4⟩) id
theorem ADo.frame {f : Cal} {args : List V} {H : Hp} {R : V -> Hp -> Prop} {S : Hp -> Prop} (h : ADo P G f args H R S) (hS : ∀ H, ¬ f.sp S H) {x : Nat} {bk : B} (hx : x < H.nx) (hn : H.get x = none) (hm : bk.mut = true) :
  ADo P G f args (H.add x bk) (fun v H'' => ∃ H', R v H' /\ H'' = H'.add x bk) S := by
 intro μ K w xs hR ha hKK
 have hget : ∀ (H : Hp) i, (H.add x bk).get i = if i = x then some bk else H.get i := fun H i => Hp.get_add H x i bk
 have hkx : K x := hR.dom x bk (by simp)
 have hne : ∀ i k, H.get i = some k -> i ≠ x := fun i k hi e => by subst e; rw [hn] at hi; cases hi
 have hR1 : Rel G μ K H w := ⟨fun b k hb => hR.dom b k (by rw [hget, if_neg (hne b k hb)]; exact hb), hR.lt, fun b k hb => hR.blk b k (by rw [hget, if_neg (hne b k hb)]; exact hb),
  fun b b' k k' hb hb' => hR.inj b b' k k' (by rw [hget, if_neg (hne b k hb)]; exact hb) (by rw [hget, if_neg (hne b' k' hb')]; exact hb'), hR.glob⟩
 have hxx : (H.add x bk).get x = some bk := by simp
 have hblk := hR.blk x bk hxx
 have hbl := hR.blk_lt hxx
 have hfar : ∀ b k, H.get b = some k -> (μ b).blk ≠ (μ x).blk := fun b k hb he => hne b k hb (hR.inj x b bk k hxx (by rw [hget, if_neg (hne b k hb)]; exact hb) hm he.symm).symm
 refine Cal.run_mono (h μ K w xs hR1 ha hKK) ?_
 rintro e w' (⟨y, rfl, v, H', μ', K', h1, h2, h3, h4⟩|⟨_, _, _, H', _, _, hs, _⟩)
 rotate_left
 ·exact absurd hs (hS _)
 have hn' : H'.get x = none := h4.none x hx hn
 have hne' : ∀ i k, H'.get i = some k -> i ≠ x := fun i k hi e => by subst e; rw [hn'] at hi; cases hi
 have hmux : μ' x = μ x := h4.mu x hkx
 have hkeep : w'.heap[(μ x).blk]? = w.heap[(μ x).blk]? := h4.keep _ hbl fun b k hb _ => hfar b k hb
 have hfar' : ∀ b k, H'.get b = some k -> (μ' b).blk ≠ (μ x).blk := by
  intro b k hb he
  by_cases hlt : b < H.nx
  ·cases hg : H.get b with
   | none => rw [h4.none b hlt hg] at hb; cases hb
   | some k0 =>
    rw [h4.mu b (hR1.dom b k0 hg)] at he
    exact hfar b k0 hg he
  ·rcases h4.newmut b k (by omega) hb with hm1|⟨_, hge⟩
   ·rcases h4.img b k hb hm1 with ⟨b0, k0, g0, _, e0⟩|hge
    ·exact hfar b0 k0 g0 (e0.trans he)
    ·omega
   ·omega
 refine .inl ⟨y, rfl, v, H'.add x bk, μ', K', ⟨H', h1, rfl⟩, h2, ⟨fun b k hb => ?_, h3.lt, fun b k hb => ?_, fun b b' k k' hb hb' hm' he => ?_, h3.glob⟩, ?_⟩
 ·rw [hget] at hb
  split at hb
  ·rename_i e; subst e; exact h4.kk _ hkx
  ·exact h3.dom b k hb
 ·rw [hget] at hb
  split at hb
  ·rename_i e; subst e
   obtain rfl := Option.some.inj hb
   rw [hmux, hkeep]
   exact hblk.mono h4.kk h4.mu
  ·exact h3.blk b k hb
 ·rw [hget] at hb hb'
  by_cases e1 : b = x
  ·by_cases e2 : b' = x
   ·rw [e1, e2]
   ·rw [if_neg e2] at hb'
    rw [e1, hmux] at he
    exact absurd he.symm (hfar' b' k' hb')
  ·by_cases e2 : b' = x
   ·rw [if_neg e1] at hb
    rw [e2, hmux] at he
    exact absurd he (hfar' b k hb)
   ·rw [if_neg e1] at hb
    rw [if_neg e2] at hb'
    exact h3.inj b b' k k' hb hb' hm' he
 ·refine ⟨h4.same, h4.size, fun i hi hn => h4.keep i hi fun b k hb hm => hn b k (by rw [hget, if_neg (hne b k hb)]; exact hb) hm, fun b k hb hm' => ?_, fun b k hb hk => ?_, h4.mu, h4.kk, h4.knew, h4.nx, fun b hb hn => ?_, fun b k k' hb hb' => ?_, fun b k hb hm' => ?_⟩
  ·rw [hget] at hb
   split at hb
   ·rename_i e; subst e; exact .inl ⟨b, bk, by simp, hm, by rw [hmux]⟩
   ·rcases h4.img b k hb hm' with ⟨b0, k0, g0, m0, e0⟩|hge
    ·exact .inl ⟨b0, k0, by rw [hget, if_neg (hne b0 k0 g0)]; exact g0, m0, e0⟩
    ·exact .inr hge
  ·rw [hget] at hk
   simp at hb
   rw [if_neg (by omega)] at hk
   exact h4.newmut b k hb hk
  ·rw [hget] at hn ⊢
   split at hn
   ·cases hn
   ·rename_i e; rw [if_neg e]; exact h4.none b hb hn
  ·rw [hget] at hb hb'
   split at hb
   ·rename_i e; rw [if_pos e] at hb'; rw [Option.some.inj hb] at hb'; rw [Option.some.inj hb']
   ·rename_i e; rw [if_neg e] at hb'; exact h4.stay b k k' hb hb'
  ·rw [hget] at hb ⊢
   split at hb
   ·rename_i e; rw [if_pos e]; exact hb
   ·rename_i e; rw [if_neg e]; exact h4.ro b k hb hm'
theorem ACalls.mono {f : FuncId} {args : List V} {H : Hp} {R R' : V -> Hp -> Prop} (h : ACalls P G f args H R) (hr : ∀ v H', R v H' -> R' v H') : ACalls P G f args H R' := ado_f.1 ((ado_f.2 h).mono hr)
theorem AYield.mono {b : Nat} {args : List V} {H : Hp} {R R' : V -> Hp -> Prop} (h : AYield P G b args H R) (hr : ∀ v H', R v H' -> R' v H') : AYield P G b args H R' := (ado_y (S := fun _ => False)).1 ((ado_y.2 h).mono hr)
theorem ANext.mono {b : Nat} {H : Hp} {R R' : V -> Hp -> Prop} (h : ANext P G b H R) (hr : ∀ v H', R v H' -> R' v H') : ANext P G b H R' := (ado_n (S := fun _ => False)).1 ((ado_n.2 h).mono hr)
theorem watch_mono {ws : List Nat} {ctx ctx' : Ctx} {H : Hp} (hs : ∀ x, x ∈ ctx' -> x ∈ ctx) (h : watchOk ws ctx H) : watchOk ws ctx' H := by
 cases ws with
 | nil => trivial
 | cons k r => exact fun j hj p hp => h j hj p (hs _ hp)
theorem ctx_mono : ∀ {l : List SOper} {ctx ctx' : Ctx} {F : T V} {H : Hp}, (∀ x, x ∈ ctx' -> x ∈ ctx) -> wOps P G base QP Q l ctx F H -> wOps P G base QP Q l ctx' F H
 | [], _, _, _, _, _, h => h
 | o :: r, ctx, ctx', F, H, hs, h => by
  rw [wOps] at h ⊢
  split at h
  ·rename_i hw
   rw [if_pos hw]
   cases hop : o.op with
   | p op =>
    simp only [hop] at h ⊢
    cases hv : aPure F op with
    | none => simp [hv] at h
    | some v => simp only [hv] at h ⊢; exact ctx_mono hs h
   | l op =>
    simp only [hop] at h ⊢
    cases hv : aLoad F H op with
    | none => simp [hv] at h
    | some v =>
     simp only [hv] at h ⊢
     refine ctx_mono (fun x hx => ?_) h
     cases hk : o.keep with
     | false => simp only [hk, Bool.false_eq_true, if_false] at hx ⊢; exact hs x hx
     | true =>
      simp only [hk, if_true, List.mem_cons] at hx ⊢
      exact hx.imp id (hs x)
   | a op =>
    simp only [hop] at h ⊢
    cases hv : aAlloc F op with
    | none => simp [hv] at h
    | some v =>
     simp only [hv] at h ⊢
     cases hai : o.aid with
     | none => simp only [hai] at h ⊢; exact ctx_mono hs h
     | some k => simp only [hai] at h ⊢; exact ctx_mono hs h
   | e op =>
    simp only [hop] at h ⊢
    cases hv : aEff F H op with
    | none => simp [hv] at h
    | some v => simp only [hv] at h ⊢; exact ⟨watch_mono hs h.1, ctx_mono hs h.2⟩
   | cf f args =>
    simp only [hop] at h ⊢
    exact h.mono (fun v H' hh => ⟨watch_mono hs hh.1, ctx_mono hs hh.2⟩) fun _ h => h
   | cv x args =>
    simp only [hop] at h ⊢
    split at h
    ·exact ⟨h.1, h.2.mono (fun v H' hh => ⟨watch_mono hs hh.1, ctx_mono hs hh.2⟩) fun _ h => h⟩
    ·exact ⟨h.1, h.2.mono (fun v H' hh => ⟨watch_mono hs hh.1, ctx_mono hs hh.2⟩) fun _ h => h⟩
    ·exact AYield.mono h fun v H' hh => ⟨watch_mono hs hh.1, ctx_mono hs hh.2⟩
    ·exact h.elim
   | nx x =>
    simp only [hop] at h ⊢
    split at h
    ·exact ANext.mono h fun v H' hh => ⟨watch_mono hs hh.1, ctx_mono hs hh.2⟩
    ·exact h.elim
   | no => simp only [hop] at h
  ·rename_i hw
   rw [if_neg hw]
   exact ctx_mono hs h
end
end Go.Ab

namespace Go.Ab
section
variable {P : Program} {G base : Nat} {QP : Hp -> Prop} {Q : T V -> Hp -> Prop}
def callOf (P : Program) (o : SOp) (F : T V) : Option (Cal × List V) :=
 match o with
 | .cf f args => some (.fu f, args.map (·.ev F))
 | .cv x args => match x.ev F with
  | .one (.fn f caps) => if isFn P f then some (.fu f, args.map (·.ev F) ++ caps.map ptrV) else none
  | .one (.bm f b o) => if isFn P f then some (.fu f, .one (.ptr b o) :: args.map (·.ev F)) else none
  | .one (.yld b) => some (.yl b, args.map (·.ev F))
  | _ => none
 | .nx x => match x.ev F with
  | .one (.ptr b 0) => some (.nx b, [])
  | _ => none
 | _ => none
def Plain (o : SOper) (F : T V) (v : V) : Prop := (wantedA o.guard F = false /\ v = V.undef) \/ (wantedA o.guard F = true /\ ∃ op, o.op = .p op /\ aPure F op = some v)
def ctxOf (o : SOper) (op : LoadOp) (F : T V) (v : V) (ctx : Ctx) : Ctx := if o.keep then (o.id, fun H' => aLoad F H' op = some v) :: ctx else ctx
def allocAt (base : Nat) (o : SOper) (H : Hp) : Nat := match o.aid with
 | none => H.nx
 | some k => base + k
def allocHp (base : Nat) (o : SOper) (H : Hp) (bk : B) : Hp := match o.aid with
 | none => H.push bk
 | some k => H.add (base + k) bk
theorem wOps_inv {o : SOper} {r : List SOper} {ctx : Ctx} {F : T V} {H : Hp} (h : wOps P G base QP Q (o :: r) ctx F H) :
  (∃ v, Plain o F v /\ wOps P G base QP Q r ctx (setO F o.dst v) H) \/
  (wantedA o.guard F = true /\ ∃ op v, o.op = .l op /\ aLoad F H op = some v /\ wOps P G base QP Q r (ctxOf o op F v ctx) (setO F o.dst v) H) \/
  (wantedA o.guard F = true /\ ∃ op bk g, o.op = .a op /\ aAlloc F op = some (bk, g) /\ wOps P G base QP Q r ctx (setO F o.dst (g (allocAt base o H))) (allocHp base o H bk)) \/
  (wantedA o.guard F = true /\ ∃ op v H', o.op = .e op /\ aEff F H op = some (v, H') /\ watchOk o.watch ctx H' /\ wOps P G base QP Q r ctx (setO F o.dst v) H') \/
  (wantedA o.guard F = true /\ o.op.kd = .c /\ ∃ f args, callOf P o.op F = some (f, args) /\ ADo P G f args H (fun v H' => watchOk o.watch ctx H' /\ wOps P G base QP Q r ctx (setO F o.dst v) H') QP) := by
 rw [wOps] at h
 split at h
 ·rename_i hw
  cases hop : o.op with
  | p op =>
   simp only [hop] at h
   cases hv : aPure F op with
   | none => simp [hv] at h
   | some v => simp only [hv] at h; exact .inl ⟨v, .inr ⟨hw, op, hop, hv⟩, h⟩
  | l op =>
   simp only [hop] at h
   cases hv : aLoad F H op with
   | none => simp [hv] at h
   | some v => simp only [hv] at h; exact .inr (.inl ⟨hw, op, v, rfl, hv, h⟩)
  | a op =>
   simp only [hop] at h
   cases hv : aAlloc F op with
   | none => simp [hv] at h
   | some bg =>
    simp only [hv] at h
    refine .inr (.inr (.inl ⟨hw, op, bg.1, bg.2, rfl, hv, ?_⟩))
    unfold allocAt allocHp
    cases hai : o.aid <;> simp only [hai] at h ⊢ <;> exact h
  | e op =>
   simp only [hop] at h
   cases hv : aEff F H op with
   | none => simp [hv] at h
   | some v => simp only [hv] at h; exact .inr (.inr (.inr (.inl ⟨hw, op, v.1, v.2, rfl, hv, h.1, h.2⟩)))
  | cf f args =>
   simp only [hop] at h
   exact .inr (.inr (.inr (.inr ⟨hw, rfl, .fu f, _, rfl, ado_p.2 h⟩)))
  | cv x args =>
   simp only [hop] at h
   split at h
   ·rename_i f caps hx
    exact .inr (.inr (.inr (.inr ⟨hw, rfl, .fu f, _, by simp [callOf, hx, h.1], ado_p.2 h.2⟩)))
   ·rename_i f b o hx
    exact .inr (.inr (.inr (.inr ⟨hw, rfl, .fu f, _, by simp [callOf, hx, h.1], ado_p.2 h.2⟩)))
   ·rename_i b hx
    exact .inr (.inr (.inr (.inr ⟨hw, rfl, .yl b, _, by simp [callOf, hx], ado_y.2 h⟩)))
   ·exact h.elim
  | nx x =>
   simp only [hop] at h
   split at h
   ·rename_i b hx
    exact .inr (.inr (.inr (.inr ⟨hw, rfl, .nx b, _, by simp [callOf, hx], ado_n.2 h⟩)))
   ·exact h.elim
  | no => simp only [hop] at h
 ·rename_i hw
  exact .inl ⟨V.undef, .inl ⟨by simpa using hw, rfl⟩, h⟩
theorem wOps_plain {o : SOper} {r : List SOper} {ctx : Ctx} {F : T V} {H : Hp} {v : V} (hp : Plain o F v) (h : wOps P G base QP Q r ctx (setO F o.dst v) H) : wOps P G base QP Q (o :: r) ctx F H := by
 rw [wOps]
 rcases hp with ⟨hw, rfl⟩|⟨hw, op, hop, hv⟩
 ·simpa [hw] using h
 ·simpa [hw, hop, hv] using h
theorem wOps_load {o : SOper} {r : List SOper} {ctx : Ctx} {F : T V} {H : Hp} {v : V} {op : LoadOp} (hw : wantedA o.guard F = true) (hop : o.op = .l op) (hv : aLoad F H op = some v) (h : wOps P G base QP Q r (ctxOf o op F v ctx) (setO F o.dst v) H) :
  wOps P G base QP Q (o :: r) ctx F H := by
 rw [wOps]
 simp only [hw, if_true, hop, hv]
 exact h
theorem wOps_alloc {o : SOper} {r : List SOper} {ctx : Ctx} {F : T V} {H : Hp} {bk : B} {g : Nat -> V} {op : AllocOp} (hw : wantedA o.guard F = true) (hop : o.op = .a op) (hv : aAlloc F op = some (bk, g))
  (h : wOps P G base QP Q r ctx (setO F o.dst (g (allocAt base o H))) (allocHp base o H bk)) : wOps P G base QP Q (o :: r) ctx F H := by
 rw [wOps]
 simp only [hw, if_true, hop, hv]
 unfold allocAt allocHp at h
 cases hai : o.aid <;> simp only [hai] at h ⊢ <;> exact h
theorem wOps_eff {o : SOper} {r : List SOper} {ctx : Ctx} {F : T V} {H H' : Hp} {v : V} {op : EffOp} (hw : wantedA o.guard F = true) (hop : o.op = .e op) (hv : aEff F H op = some (v, H')) (hwa : watchOk o.watch ctx H') (h : wOps P G base QP Q r ctx (setO F o.dst v) H') :
  wOps P G base QP Q (o :: r) ctx F H := by
 rw [wOps]
 simp only [hw, if_true, hop, hv]
 exact ⟨hwa, h⟩
theorem wOps_call {o : SOper} {r : List SOper} {ctx : Ctx} {F : T V} {H : Hp} {f : Cal} {args : List V} (hw : wantedA o.guard F = true) (hc : callOf P o.op F = some (f, args))
  (h : ADo P G f args H (fun v H' => watchOk o.watch ctx H' /\ wOps P G base QP Q r ctx (setO F o.dst v) H') QP) : wOps P G base QP Q (o :: r) ctx F H := by
 rw [wOps]
 simp only [hw, if_true]
 cases hop : o.op <;> simp only [hop, callOf] at hc <;> try (cases hc; done)
 ·obtain ⟨rfl, rfl⟩ : _ /\ _ := by simpa using hc
  exact ado_p.1 h
 ·simp only
  split at hc
  ·rename_i f' caps hx
   split at hc
   ·rename_i hf
    obtain ⟨rfl, rfl⟩ : _ /\ _ := by simpa using hc
    try simp only [hx]
    exact ⟨hf, ado_p.1 h⟩
   ·cases hc
  ·rename_i f' b o hx
   split at hc
   ·rename_i hf
    obtain ⟨rfl, rfl⟩ : _ /\ _ := by simpa using hc
    try simp only [hx]
    exact ⟨hf, ado_p.1 h⟩
   ·cases hc
  ·rename_i b hx
   obtain ⟨rfl, rfl⟩ : _ /\ _ := by simpa using hc
   try simp only [hx]
   exact ado_y.1 h
  ·cases hc
 ·simp only
  split at hc
  ·rename_i b hx
   obtain ⟨rfl, rfl⟩ : _ /\ _ := by simpa using hc
   try simp only [hx]
   exact ado_n.1 h
  ·cases hc
def Free (base : Nat) (ks : List Nat) (H : Hp) : Prop := ∀ k ∈ ks, base + k < H.nx /\ H.get (base + k) = none
theorem stores_keeps : ∀ {l : List C} {H H' : Hp} {b o : Nat}, H.stores b o l = some H' -> H'.nx = H.nx /\ ∀ i, H.get i = none -> H'.get i = none
 | [], H, H', b, o, h => by simp [Hp.stores] at h; subst h; exact ⟨rfl, fun _ h => h⟩
 | c :: l, H, H', b, o, h => by
  simp only [Hp.stores] at h
  cases hs : H.store b o c with
  | none => simp [hs] at h
  | some H1 =>
   simp only [hs] at h
   obtain ⟨h1, h2⟩ := stores_keeps h
   unfold Hp.store at hs
   split at hs
   ·rename_i n z m hb
    split at hs
    ·obtain rfl := Option.some.inj hs
     refine ⟨h1, fun i hi => h2 i ?_⟩
     rw [Hp.get_add]
     split
     ·rename_i e; subst e; rw [hb] at hi; cases hi
     ·exact hi
    ·cases hs
   ·rename_i t l' hb
    split at hs
    ·obtain rfl := Option.some.inj hs
     refine ⟨h1, fun i hi => h2 i ?_⟩
     rw [Hp.get_add]
     split
     ·rename_i e; subst e; rw [hb] at hi; cases hi
     ·exact hi
    ·cases hs
   ·cases hs
theorem append_keeps {H H' : Hp} {esz bytes m : Nat} {s v : V} {news : List C} (h : aAppend H esz bytes s m news = some (v, H')) : H.nx <= H'.nx /\ ∀ b, b < H.nx -> H.get b = none -> H'.get b = none := by
 unfold aAppend at h
 split at h
 ·split at h
  ·simp only [Option.some.injEq, Prod.mk.injEq] at h; obtain ⟨_, rfl⟩ := h; exact ⟨Nat.le_refl _, fun _ _ h => h⟩
  ·split at h
   ·simp only [Option.some.injEq, Prod.mk.injEq] at h; obtain ⟨_, rfl⟩ := h
    exact ⟨by simp, fun b hb hn => by rw [Hp.get_push, if_neg (by omega)]; exact hn⟩
   ·cases h
 ·split at h
  ·cases h
  ·split at h
   ·simp only [Option.map_eq_some_iff, Prod.mk.injEq] at h
    obtain ⟨H1, hs, _, rfl⟩ := h
    have := stores_keeps hs
    exact ⟨by omega, fun b _ hb => this.2 b hb⟩
   ·split at h
    ·split at h
     ·cases h
     ·split at h
      ·simp only [Option.some.injEq, Prod.mk.injEq] at h; obtain ⟨_, rfl⟩ := h
       exact ⟨by simp, fun b hb hn => by rw [Hp.get_push, if_neg (by omega)]; exact hn⟩
      ·split at h
       ·simp only [Option.some.injEq, Prod.mk.injEq] at h; obtain ⟨_, rfl⟩ := h
        refine ⟨by simp, fun b hb hn => ?_⟩
        rw [Hp.get_del]
        split
        ·rfl
        ·rw [Hp.get_push, if_neg (by omega)]; exact hn
       ·cases h
    ·cases h
 ·cases h
theorem add_comm' {H : Hp} {a b : Nat} {x y : B} (h : a ≠ b) : (H.add a x).add b y = (H.add b y).add a x := by
 unfold Hp.add
 rw [T.set_comm _ _ _ h]
theorem add_push {H : Hp} {n : Nat} {x y : B} (h : n < H.nx) : (H.add n x).push y = (H.push y).add n x := by
 unfold Hp.add Hp.push
 rw [T.set_comm _ _ _ (show n ≠ H.nx by omega)]
theorem add_del {H : Hp} {n b : Nat} {x : B} (h : n ≠ b) : (H.add n x).del b = (H.del b).add n x := by
 unfold Hp.add Hp.del
 rw [T.set_comm _ _ _ h]
theorem stores_add {n : Nat} {bk : B} : ∀ {l : List C} {H H' : Hp} {b o : Nat}, H.get n = none -> H.stores b o l = some H' -> (H.add n bk).stores b o l = some (H'.add n bk)
 | [], H, H', b, o, _, h => by simp [Hp.stores] at h; subst h; rfl
 | c :: l, H, H', b, o, hn, h => by
  simp only [Hp.stores] at h ⊢
  cases hs : H.store b o c with
  | none => simp [hs] at h
  | some H1 =>
   simp only [hs] at h
   have one : (H.add n bk).store b o c = some (H1.add n bk) /\ H1.get n = none := by
    have hbn : ∀ x, H.get b = some x -> b ≠ n := fun x hx e => by subst e; rw [hn] at hx; cases hx
    unfold Hp.store at hs ⊢
    split at hs
    ·rename_i m z t hb
     have hne := hbn _ hb
     split at hs
     ·rename_i hi
      obtain rfl := Option.some.inj hs
      rw [Hp.get_add_ne _ _ hne, hb]
      simp only [hi, if_true]
      exact ⟨by rw [add_comm' hne], by rw [Hp.get_add_ne _ _ hne.symm]; exact hn⟩
     ·cases hs
    ·rename_i t l' hb
     have hne := hbn _ hb
     split at hs
     ·rename_i hi
      obtain rfl := Option.some.inj hs
      rw [Hp.get_add_ne _ _ hne, hb]
      simp only [hi, if_true]
      exact ⟨by rw [add_comm' hne], by rw [Hp.get_add_ne _ _ hne.symm]; exact hn⟩
     ·cases hs
    ·cases hs
   rw [one.1]
   exact stores_add one.2 h
theorem src_add {H : Hp} {n esz : Nat} {bk : B} {v : V} {r : Nat × List C} (hn : H.get n = none) (h : srcCells H esz v = some r) : srcCells (H.add n bk) esz v = some r := by
 unfold srcCells at h ⊢
 split at h
 ·exact h
 ·split at h
  ·rename_i he
   rw [if_pos he]
   simp only [Option.map_eq_some_iff] at h ⊢
   obtain ⟨l, hl, rfl⟩ := h
   exact ⟨l, loads_add hn hl, rfl⟩
  ·cases h
 ·exact h
 ·cases h
theorem append_add {F : T V} {H H' : Hp} {esz bytes n : Nat} {s x : Opd} {v : V} {bk : B} (hlt : n < H.nx) (hn : H.get n = none) (h : aEff F H (.append esz bytes s x) = some (v, H')) : aEff F (H.add n bk) (.append esz bytes s x) = some (v, H'.add n bk) /\ H'.get n = none := by
 simp only [aEff] at h ⊢
 split at h
 ·rename_i m news hsrc
  rw [src_add hn hsrc]
  refine ⟨?_, (append_keeps h).2 n hlt hn⟩
  simp only
  unfold aAppend at h ⊢
  split at h
  ·split at h
   ·rename_i h0
    simp only [Option.some.injEq, Prod.mk.injEq] at h
    obtain ⟨rfl, rfl⟩ := h
    rw [if_pos h0]
   ·rename_i h0
    rw [if_neg h0]
    split at h
    ·rename_i h1
     simp only [Option.some.injEq, Prod.mk.injEq] at h
     obtain ⟨rfl, rfl⟩ := h
     rw [if_pos h1, add_push hlt]
     rfl
    ·cases h
  ·rename_i b o len cap e ex _
   split at h
   ·cases h
   ·rename_i h0
    rw [if_neg h0]
    split at h
    ·rename_i h1
     rw [if_pos h1]
     simp only [Option.map_eq_some_iff, Prod.mk.injEq] at h ⊢
     obtain ⟨H1, hs, rfl, rfl⟩ := h
     exact ⟨_, stores_add hn hs, rfl, rfl⟩
    ·rename_i h1
     rw [if_neg h1]
     split at h
     ·rename_i h2
      rw [if_pos h2]
      split at h
      ·cases h
      ·rename_i olds hl
       rw [loads_add hn hl]
       simp only
       split at h
       ·rename_i h3
        simp only [Option.some.injEq, Prod.mk.injEq] at h
        obtain ⟨rfl, rfl⟩ := h
        rw [if_pos h3, add_push hlt]
        rfl
       ·rename_i h3
        rw [if_neg h3]
        split at h
        ·rename_i h4
         simp only [Option.some.injEq, Prod.mk.injEq] at h
         obtain ⟨rfl, rfl⟩ := h
         have hbn : b ≠ n := fun e => by subst e; simp [Hp.mutRow, hn] at h4
         have h5 : (H.add n bk).mutRow b = true := by
          unfold Hp.mutRow at h4 ⊢
          rw [Hp.get_add_ne _ _ hbn]; exact h4
         rw [if_pos h5, add_push hlt, add_del hbn.symm]
         rfl
        ·cases h
     ·cases h
  ·cases h
 ·cases h
theorem appendb_keeps {H H' : Hp} {t : TypeId} {m : Nat} {s v : V} {news : List C} (h : aAppendB t H s m news = some (v, H')) : H.nx <= H'.nx /\ ∀ b, b < H.nx -> H.get b = none -> H'.get b = none := by
 unfold aAppendB at h
 split at h
 ·split at h
  ·simp only [Option.some.injEq, Prod.mk.injEq] at h; obtain ⟨_, rfl⟩ := h; exact ⟨Nat.le_refl _, fun _ _ h => h⟩
  ·split at h
   ·simp only [Option.some.injEq, Prod.mk.injEq] at h; obtain ⟨_, rfl⟩ := h
    exact ⟨by simp, fun b hb hn => by rw [Hp.get_push, if_neg (by omega)]; exact hn⟩
   ·cases h
 ·split at h
  ·cases h
  ·split at h
   ·simp only [Option.map_eq_some_iff, Prod.mk.injEq] at h
    obtain ⟨H1, hs, _, rfl⟩ := h
    have := stores_keeps hs
    exact ⟨by omega, fun b _ hb => this.2 b hb⟩
   ·split at h
    ·split at h
     ·cases h
     ·split at h
      ·simp only [Option.some.injEq, Prod.mk.injEq] at h; obtain ⟨_, rfl⟩ := h
       exact ⟨by simp, fun b hb hn => by rw [Hp.get_push, if_neg (by omega)]; exact hn⟩
      ·split at h
       ·split at h
        ·simp only [Option.some.injEq, Prod.mk.injEq] at h; obtain ⟨_, rfl⟩ := h
         refine ⟨by simp, fun b hb hn => ?_⟩
         rw [Hp.get_del]
         split
         ·rfl
         ·rw [Hp.get_push, if_neg (by omega)]; exact hn
        ·cases h
       ·cases h
    ·cases h
 ·cases h
theorem eff_keeps {F : T V} {H H' : Hp} {op : EffOp} {v : V} (h : aEff F H op = some (v, H')) : H.nx <= H'.nx /\ ∀ b, b < H.nx -> H.get b = none -> H'.get b = none := by
 cases op with
 | store n a x =>
  simp only [aEff] at h
  split at h
  ·split at h
   ·simp only [Option.map_eq_some_iff, Prod.mk.injEq] at h
    obtain ⟨H1, hs, _, rfl⟩ := h
    have := stores_keeps hs
    exact ⟨by omega, fun b _ hb => this.2 b hb⟩
   ·cases h
  ·cases h
 | append esz bytes s x =>
  simp only [aEff] at h
  split at h
  ·exact append_keeps h
  ·cases h
 | appendb t s x =>
  simp only [aEff] at h
  split at h
  ·exact appendb_keeps h
  ·cases h
 | mnz t x =>
  simp only [aEff] at h
  split at h
  ·split at h
   ·simp only [Option.some.injEq, Prod.mk.injEq] at h; obtain ⟨_, rfl⟩ := h
    exact ⟨by simp, fun b hb hn => by rw [Hp.get_push, if_neg (by omega)]; exact hn⟩
   ·cases h
  ·cases h
 | ustr t p n =>
  simp only [aEff] at h
  split at h
  ·simp only [Option.some.injEq, Prod.mk.injEq] at h; obtain ⟨_, rfl⟩ := h; exact ⟨Nat.le_refl _, fun _ _ h => h⟩
  ·split at h
   ·split at h
    ·split at h
     ·split at h
      ·simp only [Option.some.injEq, Prod.mk.injEq] at h; obtain ⟨_, rfl⟩ := h
       refine ⟨Nat.le_refl _, fun b _ hn => ?_⟩
       rw [Hp.get_del]
       split
       ·rfl
       ·exact hn
      ·cases h
     ·cases h
    ·cases h
   ·cases h
  ·cases h
 | smapupd m k x =>
  simp only [aEff] at h
  split at h
  ·split at h
   ·rename_i b _ _ _ es hb
    split at h
    ·split at h
     ·simp only [Option.some.injEq, Prod.mk.injEq] at h; obtain ⟨_, rfl⟩ := h
      refine ⟨Nat.le_refl _, fun i _ hi => ?_⟩
      rw [Hp.get_add]
      split
      ·rename_i e; subst e; rw [hb] at hi; cases hi
      ·exact hi
     ·cases h
    ·cases h
   ·cases h
  ·cases h
 | appendz esz bytes z s x =>
  simp only [aEff] at h
  split at h
  ·split at h
   ·exact append_keeps h
   ·cases h
  ·cases h
 | sbytes x =>
  simp only [aEff] at h
  split at h
  ·simp only [Option.some.injEq, Prod.mk.injEq] at h; obtain ⟨_, rfl⟩ := h
   exact ⟨by simp, fun b hb hn => by rw [Hp.get_push, if_neg (by omega)]; exact hn⟩
  ·cases h
 | copy esz d s =>
  simp only [aEff] at h
  split at h
  ·simp only [Option.some.injEq, Prod.mk.injEq] at h; obtain ⟨_, rfl⟩ := h; exact ⟨Nat.le_refl _, fun _ _ h => h⟩
  ·split at h
   ·simp only [Option.map_eq_some_iff, Prod.mk.injEq] at h
    obtain ⟨H1, hs, _, rfl⟩ := h
    have := stores_keeps hs
    exact ⟨by omega, fun b _ hb => this.2 b hb⟩
   ·cases h
  ·cases h
 | stlook z ok m k =>
  have hH : H' = H := by
   simp only [aEff] at h
   split at h
   ·split at h
    ·split at h
     ·simp only [Option.some.injEq, Prod.mk.injEq] at h; exact h.2.symm
     ·split at h
      ·simp only [Option.some.injEq, Prod.mk.injEq] at h; exact h.2.symm
      ·cases h
     ·cases h
    ·cases h
   ·cases h
  subst hH
  exact ⟨Nat.le_refl _, fun _ _ h => h⟩
 | stlen m =>
  have hH : H' = H := by
   simp only [aEff] at h
   split at h
   ·split at h
    ·simp only [Option.some.injEq, Prod.mk.injEq] at h; exact h.2.symm
    ·cases h
   ·cases h
  subst hH
  exact ⟨Nat.le_refl _, fun _ _ h => h⟩
 | stdel m k =>
  simp only [aEff] at h
  split at h
  ·split at h
   ·rename_i b _ _ _ es clk hb
    split at h
    ·simp only [Option.some.injEq, Prod.mk.injEq] at h; obtain ⟨_, rfl⟩ := h
     refine ⟨Nat.le_refl _, fun i _ hi => ?_⟩
     rw [Hp.get_add]
     split
     ·rename_i e; subst e; rw [hb] at hi; cases hi
     ·exact hi
    ·simp only [Option.some.injEq, Prod.mk.injEq] at h; obtain ⟨_, rfl⟩ := h
     refine ⟨Nat.le_refl _, fun i _ hi => ?_⟩
     rw [Hp.get_add]
     split
     ·rename_i e; subst e; rw [hb] at hi; cases hi
     ·exact hi
    ·cases h
   ·cases h
  ·cases h
 | ent m =>
  have hH : H' = H := by
   simp only [aEff] at h
   split at h
   ·split at h
    ·split at h
     ·split at h
      ·split at h
       ·simp only [Option.some.injEq, Prod.mk.injEq] at h; exact h.2.symm
       ·cases h
      ·cases h
     ·cases h
    ·cases h
   ·cases h
  subst hH
  exact ⟨Nat.le_refl _, fun _ _ h => h⟩
 | rng m =>
  simp only [aEff] at h
  split at h
  ·split at h
   ·simp only [Option.some.injEq, Prod.mk.injEq] at h; obtain ⟨_, rfl⟩ := h
    exact ⟨by simp, fun b hb hn => by rw [Hp.get_push, if_neg (by omega)]; exact hn⟩
   ·cases h
  ·cases h
 | stupd m k x =>
  simp only [aEff] at h
  split at h
  ·split at h
   ·rename_i b _ _ _ _ _ _ es hb
    split at h
    ·simp only [Option.some.injEq, Prod.mk.injEq] at h; obtain ⟨_, rfl⟩ := h
     refine ⟨Nat.le_refl _, fun i _ hi => ?_⟩
     rw [Hp.get_add]
     split
     ·rename_i e; subst e; rw [hb] at hi; cases hi
     ·exact hi
    ·simp only [Option.some.injEq, Prod.mk.injEq] at h; obtain ⟨_, rfl⟩ := h
     refine ⟨Nat.le_refl _, fun i _ hi => ?_⟩
     rw [Hp.get_add]
     split
     ·rename_i e; subst e; rw [hb] at hi; cases hi
     ·exact hi
    ·cases h
   ·cases h
  ·cases h
 | mapupd m k x =>
  simp only [aEff] at h
  split at h
  ·split at h
   ·rename_i b _ es hb
    split at h
    ·split at h
     ·simp only [Option.some.injEq, Prod.mk.injEq] at h; obtain ⟨_, rfl⟩ := h
      refine ⟨Nat.le_refl _, fun i _ hi => ?_⟩
      rw [Hp.get_add]
      split
      ·rename_i e; subst e; rw [hb] at hi; cases hi
      ·exact hi
     ·simp only [Option.some.injEq, Prod.mk.injEq] at h; obtain ⟨_, rfl⟩ := h
      refine ⟨Nat.le_refl _, fun i _ hi => ?_⟩
      rw [Hp.get_add]
      split
      ·rename_i e; subst e; rw [hb] at hi; cases hi
      ·exact hi
     ·cases h
    ·cases h
   ·cases h
  ·cases h
 | clear esz z x =>
  simp only [aEff] at h
  split at h
  ·simp only [Option.some.injEq, Prod.mk.injEq] at h; obtain ⟨_, rfl⟩ := h; exact ⟨Nat.le_refl _, fun _ _ h => h⟩
  ·split at h
   ·simp only [Option.map_eq_some_iff, Prod.mk.injEq] at h
    obtain ⟨H1, hs, _, rfl⟩ := h
    have := stores_keeps hs
    exact ⟨by omega, fun b _ hb => this.2 b hb⟩
   ·cases h
  ·cases h
theorem Free.of_keeps {ks : List Nat} {H H' : Hp} (hf : Free base ks H) (h : H.nx <= H'.nx /\ ∀ b, b < H.nx -> H.get b = none -> H'.get b = none) : Free base ks H' :=
 fun k hk => ⟨by have := (hf k hk).1; omega, h.2 _ (hf k hk).1 (hf k hk).2⟩
theorem Free.of_alloc {ks : List Nat} {H : Hp} {o : SOper} (hf : Free base ks H) (bk : B) (hk : ∀ k, o.aid = some k -> k ∉ ks) : Free base ks (allocHp base o H bk) := by
 unfold allocHp
 cases hai : o.aid with
 | none => exact fun k hk' => ⟨by have := (hf k hk').1; simp; omega, by rw [Hp.get_push, if_neg (by have := (hf k hk').1; omega)]; exact (hf k hk').2⟩
 | some j =>
  refine fun k hk' => ⟨(hf k hk').1, ?_⟩
  rw [Hp.get_add, if_neg (fun e => hk j hai (by have : k = j := by omega
                                                rw [<- this]; exact hk'))]
  exact (hf k hk').2
end
end Go.Ab

namespace Go.Ab
section
variable {P : Program} {G base : Nat} {QP : Hp -> Prop} {Q : T V -> Hp -> Prop}
abbrev CtxSt := CtxSt0
theorem CtxSt.of {ctx : Ctx} (h : CtxSt ctx) (o : SOper) (op : LoadOp) (F : T V) (v : V) : CtxSt (ctxOf o op F v ctx) := CtxSt0.of h _ _ _ _ _
theorem step_mono {o : SOper} {r1 r2 : List SOper} {ctx : Ctx} {F : T V} {H : Hp} {ks : List Nat} (hst : CtxSt ctx) (hf : Free base ks H) (hai : ∀ k, o.aid = some k -> k ∉ ks)
    (hr : ∀ ctx v H', CtxSt ctx -> Free base ks H' -> wOps P G base QP Q r1 ctx (setO F o.dst v) H' -> wOps P G base QP Q r2 ctx (setO F o.dst v) H') (h : wOps P G base QP Q (o :: r1) ctx F H) : wOps P G base QP Q (o :: r2) ctx F H := by
  rcases wOps_inv h with ⟨v, hp, h⟩|⟨hw, op, v, hop, hv, h⟩|⟨hw, op, bk, g, hop, hv, h⟩|⟨hw, op, v, H', hop, hv, hwa, h⟩|⟨hw, _, f, args, hc, h⟩
  · exact wOps_plain hp (hr _ _ _ hst hf h)
  · exact wOps_load hw hop hv (hr _ _ _ (CtxSt.of hst _ _ _ _) hf h)
  · exact wOps_alloc hw hop hv (hr _ _ _ hst (hf.of_alloc bk hai) h)
  · exact wOps_eff hw hop hv hwa (hr _ _ _ hst (hf.of_keeps (eff_keeps hv)) h)
  · exact wOps_call hw hc (h.keeps.mono fun v H' hh => ⟨hh.1.1, hr _ _ _ hst (hf.of_keeps hh.2) hh.1.2⟩)
theorem alloc_mut {F : T V} {op : AllocOp} {bk : B} {g : Nat -> V} (h : aAlloc F op = some (bk, g)) : bk.mut = true := by
  cases op <;> simp only [aAlloc] at h
  case alloc => simp only [Option.some.injEq, Prod.mk.injEq] at h; rw [<- h.1]; rfl
  case mkmap => simp only [Option.some.injEq, Prod.mk.injEq] at h; rw [<- h.1]; rfl
  case mkst => simp only [Option.some.injEq, Prod.mk.injEq] at h; rw [<- h.1]; rfl
  case alloct => simp only [Option.some.injEq, Prod.mk.injEq] at h; rw [<- h.1]; rfl
  all_goals (split at h <;> try (cases h; done))
  all_goals first
    | (simp only [Option.some.injEq, Prod.mk.injEq] at h; rw [<- h.1]; rfl)
    | (split at h
       · simp only [Option.some.injEq, Prod.mk.injEq] at h; rw [<- h.1]; rfl
       · cases h)
theorem Plain.blind {s : SOper} {d : Option Nat} (hb : Blind s d) {F : T V} {u v : V} : Plain s (setO F d u) v ↔ Plain s F v := by
  unfold Plain
  rw [hb.wanted]
  constructor
  · rintro (h|⟨hw, op, hop, hv⟩)
    · exact .inl h
    · exact .inr ⟨hw, op, hop, by rwa [hb.pure F u op hop] at hv⟩
  · rintro (h|⟨hw, op, hop, hv⟩)
    · exact .inl h
    · exact .inr ⟨hw, op, hop, by rwa [hb.pure F u op hop]⟩
theorem callOf_blind {s : SOper} {d : Option Nat} (hb : Blind s d) {F : T V} {u : V} : callOf P s.op (setO F d u) = callOf P s.op F := by
  cases hop : s.op with
  | cf f args => simp only [callOf, hb.cf F u f args hop]
  | cv x args => obtain ⟨h1, h2⟩ := hb.cv F u x args hop; simp only [callOf, h1, h2]
  | nx x => simp only [callOf, hb.nx F u x hop]
  | _ => rfl
def HasVal (x : SOper) (F : T V) : Prop := wantedA x.guard F = true -> (∀ op, x.op = .p op -> ∃ v, aPure F op = some v) /\ (∀ op, x.op = .a op -> ∃ bg, aAlloc F op = some bg)
theorem HasVal.blind {x : SOper} {d : Option Nat} (hb : Blind x d) {F : T V} {u : V} : HasVal x (setO F d u) ↔ HasVal x F := by
  unfold HasVal
  rw [hb.wanted]
  constructor
  · intro h hw
    refine ⟨fun op hop => ?_, fun op hop => ?_⟩
    · have := (h hw).1 op hop; rwa [hb.pure _ _ _ hop] at this
    · have := (h hw).2 op hop; rwa [hb.alloc _ _ _ hop] at this
  · intro h hw
    refine ⟨fun op hop => ?_, fun op hop => ?_⟩
    · rw [hb.pure _ _ _ hop]; exact (h hw).1 op hop
    · rw [hb.alloc _ _ _ hop]; exact (h hw).2 op hop
theorem swap {y x : SOper} {r : List SOper} {ctx : Ctx} {F : T V} {H : Hp} (hok : swapOk y x = true) (hst : CtxSt ctx) (hval : HasVal x F) (hfr : ∀ k, (x.aid = some k \/ y.aid = some k) -> base + k < H.nx /\ H.get (base + k) = none) (hqp : (∀ H, ¬ QP H) \/ y.op.isC = false)
    (h : wOps P G base QP Q (y :: x :: r) ctx F H) : wOps P G base QP Q (x :: y :: r) ctx F H := by
  unfold swapOk at hok
  rw [Bool.and_eq_true] at hok
  obtain ⟨htm, hkd⟩ := hok
  obtain ⟨t1, t2⟩ := tmOk_spec htm
  have bx : Blind x y.dst := Blind.mk' fun k hk => ⟨(t1 k hk).1, (t1 k hk).2.1⟩
  have by_ : Blind y x.dst := Blind.mk' fun k hk => t2 k hk
  have hcomm : ∀ (F : T V) (u v : V), setO (setO F y.dst u) x.dst v = setO (setO F x.dst v) y.dst u := fun F u v => setO_comm fun k hk => (t1 k hk).2.2
  rcases wOps_inv h with ⟨vy, hpy, h⟩|⟨hwy, opy, vy, hopy, hvy, h⟩|⟨hwy, opy, bky, gy, hopy, hvy, h⟩|⟨hwy, opy, vy, Hy, hopy, hvy, hway, h⟩|⟨hwy, hky, fy, argsy, hcy, h⟩
  · -- y is plain
    rcases wOps_inv h with ⟨vx, hpx, h⟩|⟨hwx, opx, vx, hopx, hvx, h⟩|⟨hwx, opx, bkx, gx, hopx, hvx, h⟩|⟨hwx, opx, vx, Hx, hopx, hvx, hwax, h⟩|⟨hwx, hkx, fx, argsx, hcx, h⟩
    · rw [Plain.blind bx] at hpx
      exact wOps_plain hpx (wOps_plain ((Plain.blind by_).2 hpy) (by rw [<- hcomm]; exact h))
    · rw [bx.wanted] at hwx
      rw [bx.load _ _ _ _ hopx] at hvx
      refine wOps_load hwx hopx hvx (wOps_plain ((Plain.blind by_).2 hpy) ?_)
      rw [<- hcomm]
      refine ctx_mono (fun z hz => ?_) h
      unfold ctxOf at hz ⊢
      cases hk : x.keep with
      | false => simp only [hk, Bool.false_eq_true, if_false] at hz ⊢; exact hz
      | true =>
        simp only [hk, if_true, List.mem_cons] at hz ⊢
        rcases hz with rfl|hz
        · left
          congr 1
          funext H'
          rw [bx.load _ _ _ _ hopx]
        · exact .inr hz
    · rw [bx.wanted] at hwx
      rw [bx.alloc _ _ _ hopx] at hvx
      exact wOps_alloc hwx hopx hvx (wOps_plain ((Plain.blind by_).2 hpy) (by rw [<- hcomm]; exact h))
    · rw [bx.wanted] at hwx
      rw [bx.eff _ _ _ _ hopx] at hvx
      exact wOps_eff hwx hopx hvx hwax (wOps_plain ((Plain.blind by_).2 hpy) (by rw [<- hcomm]; exact h))
    · rw [bx.wanted] at hwx
      rw [callOf_blind bx] at hcx
      exact wOps_call hwx hcx (h.mono fun v H' hh => ⟨hh.1, wOps_plain ((Plain.blind by_).2 hpy) (by rw [<- hcomm]; exact hh.2)⟩)
  · -- y loads
    have hyl : ∀ (F' : T V) (v : V) (H' : Hp), F' = setO F x.dst v -> aLoad F H' opy = some vy -> ∀ c, (∀ z, z ∈ c -> z ∈ ctx) -> wOps P G base QP Q r (ctxOf y opy F vy c) (setO F' y.dst vy) H' -> wOps P G base QP Q (y :: r) c F' H' := by
      rintro F' v H' rfl hv c hc hh
      refine wOps_load (by rw [by_.wanted]; exact hwy) hopy (by rw [by_.load _ _ _ _ hopy]; exact hv) ?_
      refine ctx_mono (fun z hz => ?_) hh
      unfold ctxOf at hz ⊢
      cases hk : y.keep with
      | false => simp only [hk, Bool.false_eq_true, if_false] at hz ⊢; exact hz
      | true =>
        simp only [hk, if_true, List.mem_cons] at hz ⊢
        rcases hz with rfl|hz
        · left
          congr 1
          funext H'
          rw [by_.load _ _ _ _ hopy]
        · exact .inr hz
    rcases wOps_inv h with ⟨vx, hpx, h⟩|⟨hwx, opx, vx, hopx, hvx, h⟩|⟨hwx, opx, bkx, gx, hopx, hvx, h⟩|⟨hwx, opx, vx, Hx, hopx, hvx, hwax, h⟩|⟨hwx, hkx, fx, argsx, hcx, h⟩
    · rw [Plain.blind bx] at hpx
      exact wOps_plain hpx (hyl _ vx H rfl hvy ctx (fun _ h => h) (by rw [<- hcomm]; exact h))
    · rw [bx.wanted] at hwx
      rw [bx.load _ _ _ _ hopx] at hvx
      refine wOps_load hwx hopx hvx ?_
      refine wOps_load (by rw [by_.wanted]; exact hwy) hopy (by rw [by_.load _ _ _ _ hopy]; exact hvy) ?_
      rw [<- hcomm]
      refine ctx_mono (fun z hz => ?_) h
      unfold ctxOf at hz ⊢
      have e1 : ∀ u : V, (fun H' => aLoad (setO F y.dst u) H' opx = some vx) = fun H' => aLoad F H' opx = some vx := fun u => by funext H'; rw [bx.load _ _ _ _ hopx]
      have e2 : ∀ u : V, (fun H' => aLoad (setO F x.dst u) H' opy = some vy) = fun H' => aLoad F H' opy = some vy := fun u => by funext H'; rw [by_.load _ _ _ _ hopy]
      rw [e2] at hz
      rw [e1]
      cases hk : y.keep <;> cases hk' : x.keep <;> simp only [hk, hk', Bool.false_eq_true, if_false, if_true, List.mem_cons] at hz ⊢
      · exact hz
      · exact hz
      · exact hz
      · rcases hz with hz|hz|hz
        · exact .inr (.inl hz)
        · exact .inl hz
        · exact .inr (.inr hz)
    · rw [bx.wanted] at hwx
      rw [bx.alloc _ _ _ hopx] at hvx
      rw [hopy, hopx] at hkd
      simp only [SOp.kd] at hkd
      obtain ⟨k, hk⟩ := Option.isSome_iff_exists.1 hkd
      have hfree := hfr k (.inl hk)
      refine wOps_alloc hwx hopx hvx ?_
      refine hyl _ _ _ rfl ?_ ctx (fun _ h => h) (by rw [<- hcomm]; exact h)
      unfold allocHp
      simp only [hk]
      exact load_add hfree.2 hvy
    · rw [bx.wanted] at hwx
      rw [bx.eff _ _ _ _ hopx] at hvx
      rw [hopy, hopx] at hkd
      simp only [SOp.kd, Bool.and_eq_true] at hkd
      have hwat : aLoad F Hx opy = some vy := by
        have hmem : y.id ∈ x.watch := by simpa using hkd.2
        cases hws : x.watch with
        | nil => rw [hws] at hmem; cases hmem
        | cons a l =>
          rw [hws] at hwax hmem
          exact hwax y.id hmem (fun H' => aLoad F H' opy = some vy) (by unfold ctxOf; rw [if_pos hkd.1]; exact List.mem_cons_self ..)
      refine wOps_eff hwx hopx hvx (watch_mono (fun z hz => ?_) hwax) (hyl _ vx Hx rfl hwat ctx (fun _ h => h) (by rw [<- hcomm]; exact h))
      unfold ctxOf
      split
      · exact List.mem_cons_of_mem _ hz
      · exact hz
    · rw [bx.wanted] at hwx
      rw [callOf_blind bx] at hcx
      rw [hopy, hkx] at hkd
      simp only [SOp.kd, Bool.and_eq_true] at hkd
      have hmem : y.id ∈ x.watch := by simpa using hkd.2
      refine wOps_call hwx hcx (h.mono fun v H' hh => ?_)
      have hwat : aLoad F H' opy = some vy := by
        have hwax := hh.1
        cases hws : x.watch with
        | nil => rw [hws] at hmem; cases hmem
        | cons a l =>
          rw [hws] at hwax hmem
          exact hwax y.id hmem (fun H' => aLoad F H' opy = some vy) (by unfold ctxOf; rw [if_pos hkd.1]; exact List.mem_cons_self ..)
      refine ⟨watch_mono (fun z hz => ?_) hh.1, hyl _ v H' rfl hwat ctx (fun _ h => h) (by rw [<- hcomm]; exact hh.2)⟩
      unfold ctxOf
      split
      · exact List.mem_cons_of_mem _ hz
      · exact hz
  · -- y makes a block
    rcases wOps_inv h with ⟨vx, hpx, h⟩|⟨hwx, opx, vx, hopx, hvx, h⟩|⟨hwx, opx, bkx, gx, hopx, hvx, h⟩|⟨hwx, opx, vx, Hx, hopx, hvx, hwax, h⟩|⟨hwx, hkx, fx, argsx, hcx, h⟩
    · rw [Plain.blind bx] at hpx
      exact wOps_plain hpx (wOps_alloc (by rw [by_.wanted]; exact hwy) hopy (by rw [by_.alloc _ _ _ hopy]; exact hvy) (by rw [<- hcomm]; exact h))
    · rw [hopy, hopx] at hkd; simp [SOp.kd] at hkd
    · rw [bx.wanted] at hwx
      rw [bx.alloc _ _ _ hopx] at hvx
      rw [hopy, hopx] at hkd
      simp only [SOp.kd, Bool.and_eq_true] at hkd
      obtain ⟨k, hk⟩ := Option.isSome_iff_exists.1 hkd.1.1
      obtain ⟨j, hj⟩ := Option.isSome_iff_exists.1 hkd.1.2
      have hne : k ≠ j := by
        have := hkd.2
        rw [hk, hj] at this
        simpa using this
      refine wOps_alloc hwx hopx hvx (wOps_alloc (by rw [by_.wanted]; exact hwy) hopy (by rw [by_.alloc _ _ _ hopy]; exact hvy) ?_)
      rw [<- hcomm]
      have e1 : allocAt base x (allocHp base y H bky) = allocAt base x H := by unfold allocAt; simp only [hj]
      have e2 : allocAt base y (allocHp base x H bkx) = allocAt base y H := by unfold allocAt; simp only [hk]
      have e3 : allocHp base y (allocHp base x H bkx) bky = allocHp base x (allocHp base y H bky) bkx := by
        unfold allocHp
        simp only [hk, hj]
        unfold Hp.add
        rw [T.set_comm _ _ _ (show base + j ≠ base + k by omega)]
      rw [e2, e3]
      rw [e1] at h
      exact h
    · rw [hopy, hopx] at hkd; simp [SOp.kd] at hkd
    · rw [hopy, hkx] at hkd; simp [SOp.kd] at hkd
  · -- y writes
    rcases wOps_inv h with ⟨vx, hpx, h⟩|⟨hwx, opx, vx, hopx, hvx, h⟩|⟨hwx, opx, bkx, gx, hopx, hvx, h⟩|⟨hwx, opx, vx, Hx, hopx, hvx, hwax, h⟩|⟨hwx, hkx, fx, argsx, hcx, h⟩
    · rw [Plain.blind bx] at hpx
      exact wOps_plain hpx (wOps_eff (by rw [by_.wanted]; exact hwy) hopy (by rw [by_.eff _ _ _ _ hopy]; exact hvy) hway (by rw [<- hcomm]; exact h))
    · rw [hopy, hopx] at hkd; simp [SOp.kd] at hkd
    · rw [bx.wanted] at hwx
      rw [bx.alloc _ _ _ hopx] at hvx
      rw [hopy, hopx] at hkd
      simp only [SOp.kd, Bool.and_eq_true] at hkd
      obtain ⟨k, hk⟩ := Option.isSome_iff_exists.1 hkd.1
      have hfree := hfr k (.inl hk)
      cases opy <;> simp only [SOp.isAp, Bool.false_eq_true] at hkd <;> try (exact hkd.2.elim)
      obtain ⟨g1, g2⟩ := append_add (bk := bkx) hfree.1 hfree.2 hvy
      have e1 : ∀ H0, allocHp base x H0 bkx = H0.add (base + k) bkx := fun H0 => by unfold allocHp; simp only [hk]
      have e2 : ∀ H0, allocAt base x H0 = base + k := fun H0 => by unfold allocAt; simp only [hk]
      rw [e1, e2] at h
      refine wOps_alloc hwx hopx hvx ?_
      rw [e1, e2]
      refine wOps_eff (by rw [by_.wanted]; exact hwy) hopy (by rw [by_.eff _ _ _ _ hopy]; exact g1) ?_ (by rw [<- hcomm]; exact h)
      cases hws : y.watch with
      | nil => trivial
      | cons a l =>
        rw [hws] at hway
        exact fun j hj p hp => hst j p hp _ _ _ g2 (hway j hj p hp)
    · rw [hopy, hopx] at hkd; simp [SOp.kd] at hkd
    · rw [hopy, hkx] at hkd; simp [SOp.kd] at hkd
  · -- y calls
    cases hwx : wantedA x.guard F with
    | false =>
      refine wOps_plain (.inl ⟨hwx, rfl⟩) (wOps_call (by rw [by_.wanted]; exact hwy) (by rw [callOf_blind by_]; exact hcy) (h.mono fun v H' hh => ⟨hh.1, ?_⟩))
      rw [<- hcomm]
      have h2 := hh.2
      rw [wOps, bx.wanted, hwx] at h2
      simpa using h2
    | true =>
      cases hopx : x.op with
      | p op =>
        obtain ⟨vx, hv⟩ := (hval hwx).1 op hopx
        refine wOps_plain (v := vx) (.inr ⟨hwx, op, hopx, hv⟩) (wOps_call (by rw [by_.wanted]; exact hwy) (by rw [callOf_blind by_]; exact hcy) (h.mono fun v H' hh => ⟨hh.1, ?_⟩))
        rw [<- hcomm]
        have h2 := hh.2
        rw [wOps, bx.wanted, hwx] at h2
        simp only [if_true, hopx, bx.pure _ _ _ hopx, hv] at h2
        exact h2
      | a op =>
        obtain ⟨⟨bk, g⟩, hv⟩ := (hval hwx).2 op hopx
        rw [hky, hopx] at hkd
        have hS : ∀ H, ¬ fy.sp QP H := by
          rcases hqp with hq|hc
          · cases fy with
            | fu f => exact hq
            | yl b => exact fun _ h => h
            | nx b => exact fun _ h => h
          · cases hyo : y.op <;> rw [hyo] at hc hcy <;> simp only [callOf, SOp.isC] at hc hcy <;> try (cases hc; done)
            all_goals try (cases hcy; done)
            split at hcy
            · obtain ⟨rfl, _⟩ : _ /\ _ := by simpa using hcy
              exact fun _ h => h
            · cases hcy
        simp only [SOp.kd] at hkd
        obtain ⟨k, hk⟩ := Option.isSome_iff_exists.1 hkd
        obtain ⟨hlt, hnone⟩ := hfr k (.inl hk)
        refine wOps_alloc hwx hopx hv (wOps_call (by rw [by_.wanted]; exact hwy) (by rw [callOf_blind by_]; exact hcy) ?_)
        have e1 : allocHp base x H bk = H.add (base + k) bk := by unfold allocHp; simp only [hk]
        have e2 : allocAt base x H = base + k := by unfold allocAt; simp only [hk]
        rw [e1, e2]
        refine (h.keeps.frame hS hlt hnone (alloc_mut hv)).mono ?_
        rintro v H'' ⟨H', ⟨⟨hw1, hw2⟩, hnx, hfree⟩, rfl⟩
        refine ⟨?_, ?_⟩
        · -- what is watched is still there
          have := hw1
          cases hws : y.watch with
          | nil => trivial
          | cons a l =>
            rw [hws] at this
            exact fun j hj p hp => hst j p hp _ _ _ (hfree _ hlt hnone) (this j hj p hp)
        · rw [<- hcomm]
          rw [wOps, bx.wanted, hwx] at hw2
          simp only [if_true, hopx, bx.alloc _ _ _ hopx, hv, hk] at hw2
          exact hw2
      | l op => rw [hky, hopx] at hkd; simp [SOp.kd] at hkd
      | e op => rw [hky, hopx] at hkd; simp [SOp.kd] at hkd
      | cf f args => rw [hky, hopx] at hkd; simp [SOp.kd] at hkd
      | cv f args => rw [hky, hopx] at hkd; simp [SOp.kd] at hkd
      | nx x => rw [hky, hopx] at hkd; simp [SOp.kd] at hkd
      | no => rw [hky, hopx] at hkd; simp [SOp.kd] at hkd
theorem pull {x : SOper} {post : List SOper} : ∀ {pre : List SOper} {ctx : Ctx} {F : T V} {H : Hp}, (∀ y ∈ pre, swapOk y x = true) -> ((∀ H, ¬ QP H) \/ ∀ y ∈ pre, y.op.isC = false) -> CtxSt ctx -> HasVal x F ->
    (∀ k ∈ (pre ++ [x]).filterMap (·.aid), base + k < H.nx /\ H.get (base + k) = none) -> ((pre ++ [x]).filterMap (·.aid)).Nodup ->
    wOps P G base QP Q (pre ++ x :: post) ctx F H -> wOps P G base QP Q (x :: (pre ++ post)) ctx F H
  | [], _, _, _, _, _, _, _, _, _, h => h
  | y :: pre, ctx, F, H, hok, hqp, hst, hval, hfr, hnd, h => by
    have hy := hok y (by simp)
    have hb : Blind x y.dst := by
      have := hy
      unfold swapOk at this
      rw [Bool.and_eq_true] at this
      obtain ⟨t1, _⟩ := tmOk_spec this.1
      exact Blind.mk' fun k hk => ⟨(t1 k hk).1, (t1 k hk).2.1⟩
    have hfm : ∀ k, y.aid = some k -> k ∉ (pre ++ [x]).filterMap (·.aid) := fun k hk => by
      simp only [List.cons_append, List.filterMap_cons, hk, List.nodup_cons] at hnd
      exact hnd.1
    have hnd' : ((pre ++ [x]).filterMap (·.aid)).Nodup := by
      simp only [List.cons_append, List.filterMap_cons] at hnd
      cases hy' : y.aid with
      | none => rw [hy'] at hnd; exact hnd
      | some k => rw [hy'] at hnd; exact (List.nodup_cons.1 hnd).2
    have hfr' : Free base ((pre ++ [x]).filterMap (·.aid)) H := fun k hk => hfr k (by
      simp only [List.cons_append, List.filterMap_cons]
      cases y.aid with
      | none => exact hk
      | some j => exact List.mem_cons_of_mem _ hk)
    have h1 : wOps P G base QP Q (y :: x :: (pre ++ post)) ctx F H := step_mono hst hfr' hfm (fun ctx' v H' hst' hf' hh => pull (fun z hz => hok z (by simp [hz])) (hqp.imp id fun h z hz => h z (by simp [hz])) hst' ((HasVal.blind hb).2 hval) hf' hnd' hh) h
    refine swap hy hst hval (fun k hk => ?_) (hqp.imp id fun h => h y (by simp)) h1
    rcases hk with hk|hk
    · exact hfr' k (by simp [hk])
    · exact hfr k (by simp [hk])
end
end Go.Ab
