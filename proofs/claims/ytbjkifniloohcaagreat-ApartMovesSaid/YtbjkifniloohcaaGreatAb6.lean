/- Contracts of functions of the program over the abstract semantics. -/
import Derived.Test.YtbjkifniloohcaaGreatAb5
import Derived.RangeFuncSeq
import Derived.RangeFuncCalls
import Derived.RangeFuncLeaves
import Derived.RangeFuncIn
import Derived.LoopIn
import Derived.RangeFuncRecord
import Derived.OrdersIn
set_option linter.unusedVariables false
set_option linter.unusedSimpArgs false
namespace Go.Ab
inductive SOp where
 | p (o : PureOp)
 | l (o : LoadOp)
 | a (o : AllocOp)
 | e (o : EffOp)
 | cf (f : FuncId) (args : List Opd)
 | cv (x : Opd) (args : List Opd)
 /-- an iteration over a map steps -/
 | nx (x : Opd)
 /-- not covered: no run comes here -/
 | no
structure SOper where
 id : Nat
 dst : Option Nat
 op : SOp
 guard : Option (Nat × Bool)
 aid : Option Nat
 watch : List Nat
 keep : Bool
def setO (F : T V) (d : Option Nat) (v : V) : T V :=
 match d with
 | some d => F.set d (some v)
 | none => F
def wantedA (g : Option (Nat × Bool)) (F : T V) : Bool :=
 match g with
 | none => true
 | some (t, want) => match (F.get t).getD V.undef with
  | .one (.bool b) => b == want
  | _ => false
def isFn (P : Program) (f : FuncId) : Bool :=
 match P.funcs[f]? with
 | some fn => fn.name != "runtime.NumGoroutine" && fn.body.isSome
 | none => false
def ptrV (p : Nat × Nat) : V := .one (.ptr p.1 p.2)
def ACalls (P : Program) (G : Nat) (f : FuncId) (args : List V) (H : Hp) (R : V -> Hp -> Prop) : Prop :=
 ∀ (μ : Nat -> Pl) (K : Nat -> Prop) (w : World) (xs : List Value), Rel G μ K H w -> All2 (RV μ K) args xs ->
  Calls P f xs.toArray w fun e w' => ∃ x, e = .returned x /\ ∃ v H' μ' K', R v H' /\ RV μ' K' v x /\ Rel G μ' K' H' w' /\ Fr μ K H w μ' K' H' w'
def AYield (P : Program) (G : Nat) (b : Nat) (args : List V) (H : Hp) (R : V -> Hp -> Prop) : Prop :=
 ∀ (μ : Nat -> Pl) (K : Nat -> Prop) (w : World) (xs : List Value), Rel G μ K H w -> K b -> All2 (RV μ K) args xs ->
  YieldAt Fence.wide 0 P (μ b).blk xs.toArray w fun e w' => ∃ x, e = .returned x /\ ∃ v H' μ' K', R v H' /\ RV μ' K' v x /\ Rel G μ' K' H' w' /\ Fr μ K H w μ' K' H' w'
def ANext (P : Program) (G : Nat) (b : Nat) (H : Hp) (R : V -> Hp -> Prop) : Prop :=
 ∀ (μ : Nat -> Pl) (K : Nat -> Prop) (w : World), Rel G μ K H w -> K b -> ∀ ty : TypeId, ∃ y w', (Instr.next (.pointer (some ((μ b).addr 0))) false ty).run P w = .ok y w' /\ ∃ v H' μ' K', R v H' /\ RV μ' K' v y /\ Rel G μ' K' H' w' /\ Fr μ K H w μ' K' H' w'
def fen : Option Nat -> Fence
 | none => Fence.wide
 | some l => Fence.wide.inRound l
theorem fen_fn {ρ : Option Nat} {f : FuncId} : (fen ρ).fn f := by cases ρ <;> trivial
theorem fen_depth {ρ : Option Nat} : (fen ρ).depth = none := by cases ρ <;> rfl
theorem fen_room {ρ : Option Nat} {k : Nat} : (fen ρ).room k := fun d hd => by rw [fen_depth] at hd; cases hd
theorem fen_calls {ρ : Option Nat} {n : Nat} {P : Program} {f : FuncId} {args : Array Value} {w : World} {R : Ending -> World -> Prop} (h : Calls P f args w R) : CallsIn (fen ρ) n P f args w R := by
 cases ρ with
 | none => exact callsIn_wide.2 h
 | some l => exact CallsIn.inRound l (callsIn_wide.2 h)
theorem fen_rounds {ρ : Option Nat} {n : Nat} {P : Program} {l : Nat} {f : FuncId} {tmps : Array Value} {assign body : Code} {w : World} {R : Ending -> World -> Prop} (h : RoundIn Fence.wide 0 P l f tmps assign body w R) : RoundIn (fen ρ) n P l f tmps assign body w R := by
 cases ρ with
 | none => exact ⟨trivial, fun c cs _ => h.2 c cs (room_wide _)⟩
 | some k => exact ⟨trivial, fun c cs _ => h.2 c cs (room_wide _)⟩
abbrev Ctx := List (Nat × (Hp -> Prop))
def watchOk (ws : List Nat) (ctx : Ctx) (H : Hp) : Prop :=
 match ws with
 | [] => True
 | _ => ∀ k ∈ ws, ∀ p, (k, p) ∈ ctx -> p H
def wOps (P : Program) (G base : Nat) (Q : T V -> Hp -> Prop) : List SOper -> Ctx -> T V -> Hp -> Prop
 | [], _, F, H => Q F H
 | o :: r, ctx, F, H =>
  if wantedA o.guard F then
   match o.op with
   | .p op => match aPure F op with
    | some v => wOps P G base Q r ctx (setO F o.dst v) H
    | none => False
   | .l op => match aLoad F H op with
    | some v => wOps P G base Q r (if o.keep then (o.id, fun H' => aLoad F H' op = some v) :: ctx else ctx) (setO F o.dst v) H
    | none => False
   | .a op => match aAlloc F op with
    | some (bk, g) => match o.aid with
     | none => wOps P G base Q r ctx (setO F o.dst (g H.nx)) (H.push bk)
     | some k => wOps P G base Q r ctx (setO F o.dst (g (base + k))) (H.add (base + k) bk)
    | none => False
   | .e op => match aEff F H op with
    | some (v, H') => watchOk o.watch ctx H' /\ wOps P G base Q r ctx (setO F o.dst v) H'
    | none => False
   | .cf f args => ACalls P G f (args.map (·.ev F)) H fun v H' => watchOk o.watch ctx H' /\ wOps P G base Q r ctx (setO F o.dst v) H'
   | .cv x args => match x.ev F with
    | .one (.fn f caps) => isFn P f = true /\ ACalls P G f (args.map (·.ev F) ++ caps.map ptrV) H fun v H' => watchOk o.watch ctx H' /\ wOps P G base Q r ctx (setO F o.dst v) H'
    | .one (.yld b) => AYield P G b (args.map (·.ev F)) H fun v H' => watchOk o.watch ctx H' /\ wOps P G base Q r ctx (setO F o.dst v) H'
    | _ => False
   | .nx x => match x.ev F with
    | .one (.ptr b 0) => ANext P G b H fun v H' => watchOk o.watch ctx H' /\ wOps P G base Q r ctx (setO F o.dst v) H'
    | _ => False
   | .no => False
  else wOps P G base Q r ctx (setO F o.dst V.undef) H
def cpOp0 (P : Program) (G n : Nat) (o : Oper) : Option SOp :=
 match cpPure P G n o with
 | some p => some (.p p)
 | none => match cpLoad P G n o with
  | some p => some (.l p)
  | none => match cpAlloc P G n o with
   | some p => some (.a p)
   | none => match cpEff P G n o with
    | some p => some (.e p)
    | none => match o.op with
     | .call { callee := .value (.func f), args := args, argTypes := _ } => if isFn P f then (cOs G n args.toList).map (.cf f) else none
     | .call { callee := .value (.tmp t), args := args, argTypes := _ } => match cO G n (.tmp t), cOs G n args.toList with
      | some x, some l => some (.cv x l)
      | _, _ => none
     | .next it false => (cO G n it).map .nx
     | _ => none
def cpOp (P : Program) (G n : Nat) (o : Oper) : Option SOp := match cpOp0 P G n o with
 | some op => some op
 | none => some .no
def cGuard (n : Nat) (ops : Array Oper) : Option (Nat × Bool) -> Option (Option (Nat × Bool))
 | none => some none
 | some (j, want) => match (ops[j]?).bind (·.dst) with
  | some t => if t < n then some (some (t, want)) else none
  | none => none
def cDst (n : Nat) : Option Tmp -> Bool
 | none => true
 | some d => d < n
def Fits (P : Program) (G n : Nat) (ops : Array Oper) (o : Oper) (s : SOper) : Prop :=
 cpOp P G n o = some s.op /\ s.dst = o.dst /\ cDst n o.dst = true /\ cGuard n ops o.guard = some s.guard
section
variable {P : Program} {G n : Nat} {μ : Nat -> Pl} {K : Nat -> Prop} {H H' : Hp} {w : World} {F : T V} {a : Act}
theorem FRel.mono {μ' : Nat -> Pl} {K' : Nat -> Prop} {tmps : Array Value} (hF : FRel μ K n F tmps) (hK : ∀ b, K b -> K' b) (hμ : ∀ b, K b -> μ' b = μ b) : FRel μ' K' n F tmps :=
 ⟨hF.1, fun i hi => (hF.2 i hi).mono hK hμ⟩
theorem FRel.put (hF : FRel μ K n F a.tmps) {d : Option Tmp} (hd : cDst n d = true) {v : V} {x : Value} (hv : RV μ K v x) : FRel μ K n (setO F d v) (a.put d x).tmps := by
 cases d with
 | none => exact hF
 | some d =>
  simp only [cDst, decide_eq_true_eq] at hd
  refine ⟨by simp [Act.put]; exact hF.1, fun i hi => ?_⟩
  simp only [setO, Act.put]
  by_cases e : i = d
  ·subst e
   have : i < a.tmps.size := by rw [hF.1]; exact hi
   simp [this, hv]
  ·rw [T.get_set_ne _ _ e]
   have h1 := hF.2 i hi
   have : (a.tmps.setIfInBounds d x).getD i Go.undef = a.tmps.getD i Go.undef := by
    simp only [Array.getD_eq_getD_getElem?]
    rw [Array.getElem?_setIfInBounds_ne (fun h => e h.symm)]
   rw [this]
   exact h1
theorem RV.not_bool {v : V} {b : Bool} (h : RV μ K v (.bool b)) : v = .one (.bool b) := by
 cases v with
 | one c =>
  have h' : RC μ K c (.bool b) := h
  cases c <;> simp only [RC] at h'
  all_goals first
   | (injection h' with h'; rw [h'])
   | (obtain ⟨_, _, _, h', _⟩ := h'; cases h')
   | (obtain ⟨_, h'⟩ := h'; cases h')
   | cases h'
 | agg l => obtain ⟨_, h, _⟩ := h; cases h
 | tup l => obtain ⟨_, h, _⟩ := h; cases h
theorem wanted_ok (hF : FRel μ K n F a.tmps) {ops : Array Oper} {o : Oper} {g : Option (Nat × Bool)} (hg : cGuard n ops o.guard = some g) : Region.wanted o (yielded ops a.tmps) = wantedA g F := by
 unfold Region.wanted
 cases hog : o.guard with
 | none => simp only [hog, cGuard, Option.some.injEq] at hg; subst hg; rfl
 | some jw =>
  obtain ⟨j, want⟩ := jw
  simp only [hog, cGuard] at hg
  cases hd : (ops[j]?).bind (·.dst) with
  | none => simp [hd] at hg
  | some t =>
   simp only [hd] at hg
   split at hg
   ·rename_i ht
    obtain rfl := Option.some.inj hg
    have hv := hF.2 t ht
    have hts : t < a.tmps.size := by rw [hF.1]; exact ht
    have hget : a.tmps[t]? = some (a.tmps.getD t Go.undef) := by simp [hts]
    simp only [yielded, hd, Option.bind_some, hget, wantedA]
    generalize a.tmps.getD t Go.undef = x at *
    generalize (F.get t).getD V.undef = v at *
    cases x with
    | bool b =>
     rw [hv.not_bool]
     cases b <;> cases want <;> rfl
    | _ =>
     have hnb : ∀ b, v ≠ .one (.bool b) := by
      rintro b rfl
      cases (show _ = Value.bool b from hv)
     cases v with
     | one c => cases c <;> first|rfl|exact absurd rfl (hnb _)
     | agg l => rfl
     | tup l => rfl
   ·cases hg
theorem isFn_run {f : FuncId} (h : isFn P f = true) (args : Array Value) (w : World) : (callFunc f args).run P w = .ok (.enter f args) w := by
 unfold isFn at h
 cases hf : P.funcs[f]? with
 | none => simp [hf] at h
 | some fn =>
  simp only [hf, Bool.and_eq_true, bne_iff_ne, ne_eq] at h
  obtain ⟨bd, hb⟩ := Option.isSome_iff_exists.1 h.2
  simp [callFunc, hf, h.1, hb]
def CtxSt0 (ctx : Ctx) : Prop := ∀ k p, (k, p) ∈ ctx -> ∀ (H : Hp) (b : Nat) (bk : B), H.get b = none -> p H -> p (H.add b bk)
theorem cell_add {H : Hp} {b i x : Nat} {bk : B} {c : C} (hn : H.get x = none) (h : H.cell b i = some c) : (H.add x bk).cell b i = some c := by
 unfold Hp.cell at h ⊢
 by_cases e : b = x
 ·subst e; simp [hn] at h
 ·rw [Hp.get_add_ne _ _ e]; exact h
theorem loads_add {H : Hp} {x : Nat} {bk : B} (hn : H.get x = none) : ∀ {m b o : Nat} {l : List C}, H.loads b o m = some l -> (H.add x bk).loads b o m = some l
 | 0, _, _, _, h => h
 | m + 1, b, o, l, h => by
  simp only [Hp.loads] at h ⊢
  cases hc : H.cell b o with
  | none => simp [hc] at h
  | some c =>
   simp only [hc] at h
   simp only [cell_add hn hc]
   cases hl : H.loads b (o + 1) m with
   | none => simp [hl] at h
   | some l' => simp only [hl] at h; simp only [loads_add hn hl]; exact h
theorem load_add {F : T V} {H : Hp} {op : LoadOp} {v : V} {x : Nat} {bk : B} (hn : H.get x = none) (h : aLoad F H op = some v) : aLoad F (H.add x bk) op = some v := by
 have hm : ∀ b es, H.get b = some (.mp es) -> (H.add x bk).get b = some (.mp es) := fun b es hb => by
  rw [Hp.get_add_ne _ _ (fun e => by subst e; rw [hn] at hb; cases hb)]; exact hb
 cases op with
 | load agg n a =>
  simp only [aLoad] at h ⊢
  split at h
  ·cases agg with
   | true =>
    simp only [if_true, Option.map_eq_some_iff] at h ⊢
    obtain ⟨l, hl, rfl⟩ := h
    exact ⟨l, loads_add hn hl, rfl⟩
   | false =>
    simp only [Bool.false_eq_true, if_false, Option.map_eq_some_iff] at h ⊢
    obtain ⟨c, hc, rfl⟩ := h
    exact ⟨c, cell_add hn hc, rfl⟩
  ·cases h
 | lookup z ok m k =>
  simp only [aLoad] at h ⊢
  split at h
  ·rename_i hk
   rw [if_pos hk]
   split at h
   ·exact h
   ·rename_i b hb
    split at h
    ·rename_i es hes
     simp only [hm _ _ hes]
     exact h
    ·cases h
   ·cases h
  ·cases h
 | mlen m =>
  simp only [aLoad] at h ⊢
  split at h
  ·exact h
  ·rename_i b hb
   split at h
   ·rename_i es hes
    simp only [hm _ _ hes]
    exact h
   ·cases h
  ·cases h
theorem CtxSt0.of {ctx : Ctx} (h : CtxSt0 ctx) (b : Bool) (i : Nat) (op : LoadOp) (F : T V) (v : V) : CtxSt0 (if b then (i, fun H' => aLoad F H' op = some v) :: ctx else ctx) := by
 intro k p hp
 split at hp
 ·rcases List.mem_cons.1 hp with hp|hp
  ·injection hp with _ hp
   subst hp
   exact fun H b bk hn hh => load_add hn hh
  ·exact h k p hp
 ·exact h k p hp
theorem cpOp_nodefer {o : Oper} {op : SOp} (h : cpOp0 P G n o = some op) : ∀ c, o.op ≠ .defer c := by
 intro c hc
 simp [cpOp0, cpPure, cpLoad, cpAlloc, cpEff, hc] at h
theorem op_ok {ρ : Option Nat} {nn : Nat} {ops : Array Oper} {o : Oper} {s : SOper} {r : List SOper} {ctx : Ctx} {base i : Nat} {Q : T V -> Hp -> Prop} {Q' : Exit -> Act -> World -> Prop} {Kont : Act -> World -> Prop}
  {μ0 : Nat -> Pl} {K0 : Nat -> Prop} {H0 : Hp} {w0 : World} (hlt0 : ∀ b bk, H0.get b = some bk -> b < H0.nx)
  (ho : ops[i]? = some o) (hfit : Fits P G n ops o s) (hR : Rel G μ K H w) (hF : FRel μ K n F a.tmps) (hFr : Fr μ0 K0 H0 w0 μ K H w)
  (hrs : ∀ k, s.aid = some k -> ¬ K (base + k) /\ base + k < H.nx /\ H0.nx <= base + k)
  (hw : wOps P G base Q (s :: r) ctx F H)
  (hK : ∀ (μ' : Nat -> Pl) (K' : Nat -> Prop) (F' : T V) (H' : Hp) (a' : Act) (w' : World) (ctx' : Ctx), Rel G μ' K' H' w' -> FRel μ' K' n F' a'.tmps -> Fr μ0 K0 H0 w0 μ' K' H' w' -> a'.defers = a.defers ->
   H.nx <= H'.nx -> (∀ b, b < H.nx -> K' b -> K b \/ ∃ k, s.aid = some k /\ b = base + k) -> (∃ v, F' = setO F s.dst v) -> (CtxSt0 ctx -> CtxSt0 ctx') -> wOps P G base Q r ctx' F' H' -> Kont a' w') :
  wpOpIn (fen ρ) nn P ops Q' i Kont a w := by
 obtain ⟨hop, hdst, hd, hgd⟩ := hfit
 have hput : ∀ x, (a.put o.dst x).defers = a.defers := fun x => by cases o.dst <;> rfl
 unfold wpOpIn
 rw [ho]
 simp only
 rw [wanted_ok hF hgd]
 rw [wOps] at hw
 cases hwa : wantedA s.guard F with
 | false =>
  simp only [hwa, Bool.false_eq_true, if_false] at hw ⊢
  rw [hdst] at hw
  exact ⟨fun _ _ => fen_fn, hK μ K _ H _ w ctx hR (hF.put hd RV.undef) hFr (hput _) (Nat.le_refl _) (fun b _ h => .inl h) ⟨_, by rw [hdst]⟩ id hw⟩
 | true =>
  simp only [hwa, if_true] at hw ⊢
  have hop' : cpOp0 P G n o = some s.op := by
   unfold cpOp at hop
   split at hop
   ·rename_i h0; rw [h0]; exact hop
   ·obtain hop := Option.some.inj hop
    rw [<- hop] at hw
    exact hw.elim
  replace hop := hop'
  unfold Oper.wpIn
  refine ⟨fun _ _ => fen_fn, ?_⟩
  rw [Oper.semAt_eq _ _ _ (cpOp_nodefer hop)]
  rw [hdst] at hw
  have val : ∀ (v : V) (x : Value) (ctx' : Ctx), RV μ K v x -> (CtxSt0 ctx -> CtxSt0 ctx') -> wOps P G base Q r ctx' (setO F o.dst v) H -> Kont (a.put o.dst x) w := fun v x ctx' hv hcs hw' =>
   hK μ K _ H _ w ctx' hR (hF.put hd hv) hFr (hput _) (Nat.le_refl _) (fun b _ h => .inl h) ⟨v, by rw [hdst]⟩ hcs hw'
  have call : ∀ (f : FuncId) (args : List V) (xs : List Value) (nx : Result Next), All2 (RV μ K) args xs -> nx = .ok (.enter f xs.toArray) w ->
    ACalls P G f args H (fun v H' => watchOk s.watch ctx H' /\ wOps P G base Q r ctx (setO F o.dst v) H') -> o.uponIn (fen ρ) nn P a Kont Q' nx := by
   intro f args xs nx ha hnx hc
   subst hnx
   rw [Oper.uponIn_enter]
   refine ⟨fun h => (by rw [fen_depth] at h; cases h), fen_calls ((hc μ K w xs hR ha).mono fun e w' he => ?_)⟩
   obtain ⟨x, rfl, v, H', μ', K', ⟨_, h1⟩, h2, h3, h4⟩ := he
   exact hK μ' K' _ H' _ w' ctx h3 ((hF.mono h4.kk h4.mu).put hd h2) (hFr.trans hlt0 h4) (hput _) h4.nx (fun b hb h => .inl (h4.knew b hb h)) ⟨v, by rw [hdst]⟩ id h1
  unfold cpOp0 at hop
  cases hp : cpPure P G n o with
  | some p =>
   simp only [hp, Option.some.injEq] at hop
   rw [<- hop] at hw
   simp only at hw
   cases hv : aPure F p with
   | none => simp [hv] at hw
   | some v =>
    simp only [hv] at hw
    obtain ⟨x, hx, hr⟩ := pure_ok (P := P) hR hF hp hv
    rw [hx, Oper.uponIn_value]
    exact val v x ctx hr id hw
  | none =>
   simp only [hp] at hop
   cases hl : cpLoad P G n o with
   | some p =>
    simp only [hl, Option.some.injEq] at hop
    rw [<- hop] at hw
    simp only at hw
    cases hv : aLoad F H p with
    | none => simp [hv] at hw
    | some v =>
     simp only [hv] at hw
     obtain ⟨x, hx, hr⟩ := load_ok (P := P) hR hF hl hv
     rw [hx, Oper.uponIn_value]
     exact val v x _ hr (fun h => h.of _ _ _ _ _) hw
   | none =>
    simp only [hl] at hop
    cases hal : cpAlloc P G n o with
    | some p =>
     simp only [hal, Option.some.injEq] at hop
     rw [<- hop] at hw
     simp only at hw
     cases hv : aAlloc F p with
     | none => simp [hv] at hw
     | some bg =>
      obtain ⟨bk, g⟩ := bg
      simp only [hv] at hw
      obtain ⟨hm, x, obj, sz, hx, hrb, hval⟩ := alloc_ok (P := P) hR hF hal hv
      rw [hx, Oper.uponIn_value]
      have hnk : ¬ K H.nx := fun h => absurd (hR.lt _ h) (by omega)
      cases hai : s.aid with
      | none =>
       simp only [hai] at hw
       refine hK (fun i => if i = H.nx then ⟨w.heap.size, 0, sz⟩ else μ i) (fun i => K i \/ i = H.nx) _ (H.push bk) _ { w with heap := w.heap.push obj } ctx (Rel.new hR hnk (by omega) (by omega) hm hrb)
        ((hF.mono (fun _ h => .inl h) (fun b hb => ?_)).put hd (hval H.nx _ _ (.inr rfl) (by simp))) (Fr.new hFr hnk hFr.nx hlt0 (by omega) hm) (hput _) (by simp) (fun b hb h => ?_) ⟨_, by rw [hdst]⟩ id hw
       ·have := hR.lt b hb
        rw [if_neg (by omega)]
       ·rcases h with h|h
        ·exact .inl h
        ·omega
      | some k =>
       simp only [hai] at hw
       obtain ⟨r1, r2, r3⟩ := hrs k hai
       refine hK (fun i => if i = base + k then ⟨w.heap.size, 0, sz⟩ else μ i) (fun i => K i \/ i = base + k) _ (H.add (base + k) bk) _ { w with heap := w.heap.push obj } ctx (Rel.new hR r1 r2 (Nat.le_refl _) hm hrb)
        ((hF.mono (fun _ h => .inl h) (fun b hb => ?_)).put hd (hval (base + k) _ _ (.inr rfl) (by simp))) (Fr.new hFr r1 r3 hlt0 (Nat.le_refl _) hm) (hput _) (by simp) (fun b hb h => ?_) ⟨_, by rw [hdst]⟩ id hw
       ·by_cases e : b = base + k
        ·subst e; exact absurd hb r1
        ·rw [if_neg e]
       ·rcases h with h|h
        ·exact .inl h
        ·exact .inr ⟨k, hai, h⟩
    | none =>
     simp only [hal] at hop
     cases he : cpEff P G n o with
     | some p =>
      simp only [he, Option.some.injEq] at hop
      rw [<- hop] at hw
      simp only at hw
      cases hv : aEff F H p with
      | none => simp [hv] at hw
      | some vH =>
       obtain ⟨v, H'⟩ := vH
       simp only [hv] at hw
       obtain ⟨nx, x, w', μ', K', h1, h2, h3, h4, h5⟩ := eff_ok (P := P) hR hF he hv
       have hk := hK μ' K' _ H' _ w' ctx h4 ((hF.mono h5.kk h5.mu).put hd h3) (hFr.trans hlt0 h5) (hput x) h5.nx (fun b hb h => .inl (h5.knew b hb h)) ⟨v, by rw [hdst]⟩ id hw.2
       rw [h1]
       rcases h2 with rfl|⟨rfl, rfl⟩
       ·rw [Oper.uponIn_value]; exact hk
       ·rw [Oper.uponIn_skip]; exact hk
     | none =>
      simp only [he] at hop
      split at hop
      ·rename_i f args ts hoo
       split at hop
       ·rename_i hfn
        simp only [Option.map_eq_some_iff] at hop
        obtain ⟨ds, hds, hop⟩ := hop
        rw [<- hop] at hw
        refine call f _ (args.toList.map a.eval) _ (cOs_ok hR hF hds) ?_ hw
        have harr : args.map a.eval = (args.toList.map a.eval).toArray := by apply Array.ext'; simp
        have hev : a.eval (.func f) = .func (.func f) #[] #[] := rfl
        simp [execOp, hoo, resolve, hev, Deferred.ofValue, invoke, isFn_run hfn, <- harr]
       ·cases hop
      ·rename_i t args ts hoo
       split at hop
       ·rename_i x l hx hl'
        obtain hop := Option.some.inj hop
        rw [<- hop] at hw
        simp only at hw
        have hv := cO_ok hR hF hx
        split at hw
        ·rename_i f caps hxe
         rw [hxe] at hv
         obtain ⟨hkc, hv'⟩ : (∀ p ∈ caps, K p.1) /\ a.eval (.tmp t) = .func (.func f) #[] (caps.map fun p => Value.pointer (some ((μ p.1).addr p.2))).toArray := hv
         refine call f _ (args.toList.map a.eval ++ caps.map fun p => Value.pointer (some ((μ p.1).addr p.2))) _ ((cOs_ok hR hF hl').append ?_) ?_ hw.2
         ·refine All2.mk (by simp) fun j v x hv hx => ?_
          simp only [List.getElem?_map, Option.map_eq_some_iff] at hv hx
          obtain ⟨p, hp, rfl⟩ := hv
          obtain ⟨p', hp', rfl⟩ := hx
          rw [hp] at hp'
          obtain rfl := Option.some.inj hp'
          exact ⟨hkc p (List.mem_of_getElem? hp), rfl⟩
         ·simp [execOp, hoo, resolve, hv', Deferred.ofValue, invoke, isFn_run hw.1]
        ·rename_i b hxe
         rw [hxe] at hv
         obtain ⟨hkb, hv'⟩ : K b /\ a.eval (.tmp t) = .func (.yield (μ b).blk) #[] #[] := hv
         obtain ⟨fn, tmps, assign, body, hy, hr⟩ := hw μ K w (args.toList.map a.eval) hR hkb (cOs_ok hR hF hl')
         have harr : args.map a.eval = (args.toList.map a.eval).toArray := by apply Array.ext'; simp
         have hex : (execOp a.eval o).run P w = .ok (.round (μ b).blk fn tmps assign body) w := by
          simp only [<- harr] at hy
          simp [execOp, hoo, resolve, hv', Deferred.ofValue, invoke, hy]
         rw [hex, Oper.uponIn_round]
         refine ⟨fun h => (by rw [fen_depth] at h; cases h), fen_rounds (hr.mono fun e w' he => ?_)⟩
         obtain ⟨x, rfl, v, H', μ', K', ⟨_, h1⟩, h2, h3, h4⟩ := he
         exact hK μ' K' _ H' _ w' ctx h3 ((hF.mono h4.kk h4.mu).put hd h2) (hFr.trans hlt0 h4) (hput _) h4.nx (fun b hb h => .inl (h4.knew b hb h)) ⟨v, by rw [hdst]⟩ id h1
        ·exact hw.elim
       ·cases hop
      ·rename_i it hoo
       simp only [Option.map_eq_some_iff] at hop
       obtain ⟨x, hx, hop⟩ := hop
       rw [<- hop] at hw
       simp only at hw
       have hv := cO_ok hR hF hx
       split at hw
       ·rename_i b hxe
        rw [hxe] at hv
        obtain ⟨hkb, hv'⟩ : K b /\ a.eval it = .pointer (some ((μ b).addr 0)) := hv
        obtain ⟨y, w', hy, v, H', μ', K', ⟨_, h1⟩, h2, h3, h4⟩ := hw μ K w hR hkb o.type
        have hex : (execOp a.eval o).run P w = .ok (.value y) w' := by simp [execOp, hoo, hv', hy]
        rw [hex, Oper.uponIn_value]
        exact hK μ' K' _ H' _ w' ctx h3 ((hF.mono h4.kk h4.mu).put hd h2) (hFr.trans hlt0 h4) (hput _) h4.nx (fun b hb h => .inl (h4.knew b hb h)) ⟨v, by rw [hdst]⟩ id h1
       ·exact hw.elim
      ·cases hop
end
end Go.Ab

namespace Go.Ab
def Aligned (P : Program) (G n : Nat) (ops : Array Oper) : List Nat -> List SOper -> Prop
 | [], [] => True
 | i :: idx, s :: l => (∃ o, ops[i]? = some o /\ Fits P G n ops o s) /\ Aligned P G n ops idx l
 | _, _ => False
section
variable {P : Program} {G n : Nat} {ρ : Option Nat}
def Dok (s : Nat) (D : List Deferred) (w : World) : Prop := s <= w.heap.size /\ D.Nodup /\ ∀ d ∈ D, ∃ r, d = { target := .collected r, args := #[] } /\ s <= r /\ w.heap[r]? = some (.deferred (some []))
theorem Dok.nil {s : Nat} (w : World) (h : s <= w.heap.size) : Dok s [] w := ⟨h, List.nodup_nil, fun d hd => by cases hd⟩
theorem kept_def {μ μ' : Nat -> Pl} {K K' : Nat -> Prop} {H H' : Hp} {w w' : World} (hR : Rel G μ K H w) (h : Fr μ K H w μ' K' H' w') {r : Nat} (hr : w.heap[r]? = some (.deferred (some []))) : w'.heap[r]? = some (.deferred (some [])) := by
 rw [h.keep r (Array.getElem?_eq_some_iff.1 hr).1 fun b bk hb _ e => ?_]
 ·exact hr
 ·have hB := hR.blk b bk hb
  rw [e, hr] at hB
  cases bk with
  | row n z m rw => obtain ⟨_, _, _, h, _⟩ := hB; cases h
  | mp es => obtain ⟨_, _, h, _⟩ := hB; cases h
  | lp st j f n F ps sg bd => obtain ⟨_, _, h, _⟩ := hB; cases h
  | st => obtain ⟨_, _, h, _⟩ := hB; cases h
  | it => obtain ⟨_, _, h, _⟩ := hB; cases h
theorem Dok.fr {s : Nat} {D : List Deferred} {μ μ' : Nat -> Pl} {K K' : Nat -> Prop} {H H' : Hp} {w w' : World} (hR : Rel G μ K H w) (h : Fr μ K H w μ' K' H' w') (hd : Dok s D w) : Dok s D w' := ⟨Nat.le_trans hd.1 h.size, hd.2.1, fun d hx => by
 obtain ⟨r, h1, h3, h2⟩ := hd.2.2 d hx
 exact ⟨r, h1, h3, kept_def hR h h2⟩⟩
def Ends (G n s : Nat) (μ0 : Nat -> Pl) (K0 : Nat -> Prop) (H0 : Hp) (w0 : World) (Q : Exit -> T V -> Hp -> Prop) (e : Exit) (a : Act) (w : World) : Prop :=
 Dok s a.defers w /\ ∃ F H μ K, Q e F H /\ Rel G μ K H w /\ FRel μ K n F a.tmps /\ Fr μ0 K0 H0 w0 μ K H w
theorem ord_ok {nn : Nat} {D : List Deferred} {ops : Array Oper} {Q : T V -> Hp -> Prop} {base : Nat} {μ0 : Nat -> Pl} {K0 : Nat -> Prop} {H0 : Hp} {w0 : World} (hlt0 : ∀ b bk, H0.get b = some bk -> b < H0.nx) {Q' : Exit -> Act -> World -> Prop}
  (hQ : ∀ μ K F H a w, Q F H -> Rel G μ K H w -> FRel μ K n F a.tmps -> Fr μ0 K0 H0 w0 μ K H w -> a.defers = D -> Q' .normal a w) :
  ∀ {l : List SOper} {idx : List Nat} {ctx : Ctx} {F : T V} {H : Hp} {μ : Nat -> Pl} {K : Nat -> Prop} {a : Act} {w : World}, Aligned P G n ops idx l -> (∀ s ∈ l, s.aid = none) -> Rel G μ K H w -> FRel μ K n F a.tmps -> Fr μ0 K0 H0 w0 μ K H w -> a.defers = D ->
   wOps P G base Q l ctx F H -> wpOpsIn (fen ρ) nn P ops Q' idx a w
 | [], [], ctx, F, H, μ, K, a, w, _, _, hR, hF, hFr, hd, hw => by
  simp only [wpOpsIn]
  exact hQ μ K F H a w hw hR hF hFr hd
 | s :: l, i :: idx, ctx, F, H, μ, K, a, w, hal, hai, hR, hF, hFr, hd, hw => by
  obtain ⟨⟨o, ho, hfit⟩, hal'⟩ := hal
  rw [wpOpsIn_cons]
  refine op_ok hlt0 ho hfit hR hF hFr (fun k hk => by rw [hai s (by simp)] at hk; cases hk) hw fun μ' K' F' H' a' w' ctx' h1 h2 h3 h4 _ _ _ _ h6 => ?_
  exact ord_ok hlt0 hQ hal' (fun t ht => hai t (by simp [ht])) h1 h2 h3 (h4.trans hd) h6
 | [], _ :: _, _, _, _, _, _, _, _, h, _, _, _, _, _, _ => h.elim
 | _ :: _, [], _, _, _, _, _, _, _, h, _, _, _, _, _, _ => h.elim
def AWPr (ρ : Option Nat) (P : Program) (G n : Nat) (c : Code) (Q : Exit -> T V -> Hp -> Prop) (F : T V) (H : Hp) : Prop :=
 ∀ (s : Nat) (μ : Nat -> Pl) (K : Nat -> Prop) (w : World) (a : Act), Rel G μ K H w -> FRel μ K n F a.tmps -> Dok s a.defers w -> c.wpIn (fen ρ) 0 P (Ends G n s μ K H w Q) a w
theorem awp_region {id : Nat} {ops : Array Oper} {l : List SOper} {Q : Exit -> T V -> Hp -> Prop} {F : T V} {H : Hp} (hal : Aligned P G n ops (List.range ops.size) l) (hai : ∀ s ∈ l, s.aid = none)
  (h : wOps P G H.nx (Q .normal) l [] F H) : AWPr ρ P G n (.region id ops false) Q F H := by
 intro s μ K w a hR hF hd
 refine wpIn_region (ord_ok (Q := Q .normal) (D := a.defers) hR.lt' (fun μ' K' F' H' a' w' h1 h2 h3 h4 h5 => ⟨by rw [h5]; exact hd.fr hR h4, F', H', μ', K', h1, h2, h3, h4⟩) hal hai hR hF (Fr.refl hR) rfl h)
theorem awp_skip {Q : Exit -> T V -> Hp -> Prop} {F : T V} {H : Hp} (h : Q .normal F H) : AWPr ρ P G n .skip Q F H :=
 fun _ _ _ _ _ hR hF hd => wpIn_skip ⟨hd, F, H, _, _, h, hR, hF, Fr.refl hR⟩
theorem awp_exit {Q : Exit -> T V -> Hp -> Prop} {F : T V} {H : Hp} {id : Nat} (h : Q (.exit id) F H) : AWPr ρ P G n (.exit id) Q F H :=
 fun _ _ _ _ _ hR hF hd => wpIn_exit ⟨hd, F, H, _, _, h, hR, hF, Fr.refl hR⟩
theorem awp_ret {Q : Exit -> T V -> Hp -> Prop} {F : T V} {H : Hp} (h : Q .ret F H) : AWPr ρ P G n .ret Q F H :=
 fun _ _ _ _ _ hR hF hd => wpIn_ret ⟨hd, F, H, _, _, h, hR, hF, Fr.refl hR⟩
def thenQ (next : T V -> Hp -> Prop) (Q : Exit -> T V -> Hp -> Prop) : Exit -> T V -> Hp -> Prop
 | .normal, F, H => next F H
 | e, F, H => Q e F H
theorem ends_trans {s : Nat} {μ0 : Nat -> Pl} {K0 : Nat -> Prop} {H0 : Hp} {w0 : World} {μ : Nat -> Pl} {K : Nat -> Prop} {H : Hp} {w : World} (hlt : ∀ b bk, H0.get b = some bk -> b < H0.nx) (hFr : Fr μ0 K0 H0 w0 μ K H w) {Q : Exit -> T V -> Hp -> Prop} {e : Exit} {a : Act} {w' : World}
  (h : Ends G n s μ K H w Q e a w') : Ends G n s μ0 K0 H0 w0 Q e a w' := by
 obtain ⟨hd, F, H', μ', K', h1, h2, h3, h4⟩ := h
 exact ⟨hd, F, H', μ', K', h1, h2, h3, hFr.trans hlt h4⟩
theorem awp_seq {x y : Code} {Q : Exit -> T V -> Hp -> Prop} {F : T V} {H : Hp} (h : AWPr ρ P G n x (thenQ (AWPr ρ P G n y Q) Q) F H) : AWPr ρ P G n (.seq x y) Q F H := by
 intro s μ K w a hR hF hd
 refine wpIn_seq (wpIn_mono (h s μ K w a hR hF hd) fun e a' w' he => ?_)
 obtain ⟨hd', F', H', μ', K', h1, h2, h3, h4⟩ := he
 cases e with
 | normal => exact wpIn_mono (h1 s μ' K' w' a' h2 h3 hd') fun e a'' w'' he => ends_trans hR.lt' h4 he
 | exit id => exact ⟨hd', F', H', μ', K', h1, h2, h3, h4⟩
 | goto l => exact ⟨hd', F', H', μ', K', h1, h2, h3, h4⟩
 | ret => exact ⟨hd', F', H', μ', K', h1, h2, h3, h4⟩
 | panic ch => exact ⟨hd', F', H', μ', K', h1, h2, h3, h4⟩
 | outgrown => exact ⟨hd', F', H', μ', K', h1, h2, h3, h4⟩
theorem awp_cond {c : Operand} {d : Opd} {x y : Code} {Q : Exit -> T V -> Hp -> Prop} {F : T V} {H : Hp} {t : Bool} (hc : cO G n c = some d) (ht : d.ev F = .one (.bool t)) (h : AWPr ρ P G n (if t then x else y) Q F H) : AWPr ρ P G n (.cond c x y) Q F H := by
 intro s μ K w a hR hF hd
 have hv := cO_ok hR hF hc
 rw [ht] at hv
 exact wpIn_cond (t := t) hv (h s μ K w a hR hF hd)
def blockQ (id : Nat) (Q : Exit -> T V -> Hp -> Prop) : Exit -> T V -> Hp -> Prop
 | .exit id', F, H => if id' = id then Q .normal F H else Q (.exit id') F H
 | e, F, H => Q e F H
theorem awp_block {id : Nat} {c : Code} {Q : Exit -> T V -> Hp -> Prop} {F : T V} {H : Hp} (h : AWPr ρ P G n c (blockQ id Q) F H) : AWPr ρ P G n (.block id c) Q F H := by
 intro s μ K w a hR hF hd
 refine wpIn_block (wpIn_mono (h s μ K w a hR hF hd) fun e a' w' he => ?_)
 obtain ⟨hd', F', H', μ', K', h1, h2, h3, h4⟩ := he
 cases e with
 | exit id' =>
  simp only [blockQ] at h1
  simp only [Exit.inBlock]
  split
  ·rename_i e; rw [if_pos e] at h1; exact ⟨hd', F', H', μ', K', h1, h2, h3, h4⟩
  ·rename_i e; rw [if_neg e] at h1; exact ⟨hd', F', H', μ', K', h1, h2, h3, h4⟩
 | normal => exact ⟨hd', F', H', μ', K', h1, h2, h3, h4⟩
 | goto l => exact ⟨hd', F', H', μ', K', h1, h2, h3, h4⟩
 | ret => exact ⟨hd', F', H', μ', K', h1, h2, h3, h4⟩
 | panic ch => exact ⟨hd', F', H', μ', K', h1, h2, h3, h4⟩
 | outgrown => exact ⟨hd', F', H', μ', K', h1, h2, h3, h4⟩
theorem awp_loop {c : Code} {Q : Exit -> T V -> Hp -> Prop} {F : T V} {H : Hp} (I : Nat -> T V -> Hp -> Prop) {m : Nat} (h0 : I m F H) (round : ∀ m F H, I m F H -> AWPr ρ P G n c (thenQ (fun F' H' => ∃ m', m' < m /\ I m' F' H') Q) F H) : AWPr ρ P G n (.loop c) Q F H := by
 intro s μ K w a hR hF hd
 let J : Nat -> Act -> World -> Prop := fun m a' w' => Dok s a'.defers w' /\ ∃ F' H' μ' K', I m F' H' /\ Rel G μ' K' H' w' /\ FRel μ' K' n F' a'.tmps /\ Fr μ K H w μ' K' H' w'
 have main : ∀ m a' w', J m a' w' -> ∀ (b : Frame) (k : List Item) (cs : List Frame), b.roundOf = (fen ρ).round -> ∃ e a'' w'', Ends G n s μ K H w Q e a'' w'' /\ ArrivesIn (Machine.fenced P (fen ρ)) P (lone (b.atR a' (.code c :: .inLoop c :: k)) cs w') b k cs e a'' w'' := by
  intro m
  induction m using Nat.strongRecOn with
  | _ m ih =>
   intro a' w' hJ b k cs hro
   obtain ⟨hd', F', H', μ', K', h1, h2, h3, h4⟩ := hJ
   obtain ⟨e, a1, w1, hq, harr⟩ := round m F' H' h1 s μ' K' w' a' h2 h3 hd' b (.inLoop c :: k) cs hro fen_fn fen_room
   obtain ⟨hd1, F1, H1, μ1, K1, g1, g2, g3, g4⟩ := hq
   cases e with
   | normal =>
    obtain ⟨m', hm', hI⟩ := g1
    obtain ⟨e2, a2, w2, hq2, harr2⟩ := ih m' hm' a1 w1 ⟨hd1, F1, H1, μ1, K1, hI, g2, g3, h4.trans hR.lt' g4⟩ b k cs hro
    exact ⟨e2, a2, w2, hq2, .of_steps (StepsIn.trans harr (.one (fenced_calm (n := 0) fen_fn fen_room rfl) stepR_inLoop)) harr2⟩
   | exit id => exact ⟨_, a1, w1, ⟨hd1, F1, H1, μ1, K1, g1, g2, g3, h4.trans hR.lt' g4⟩, .pass (x := .inLoop c) rfl (fun _ _ => .inl (by simp)) harr⟩
   | goto l => exact ⟨_, a1, w1, ⟨hd1, F1, H1, μ1, K1, g1, g2, g3, h4.trans hR.lt' g4⟩, .pass (x := .inLoop c) rfl (fun _ _ => .inl (by simp)) harr⟩
   | ret => exact ⟨_, a1, w1, ⟨hd1, F1, H1, μ1, K1, g1, g2, g3, h4.trans hR.lt' g4⟩, .pass (x := .inLoop c) rfl (fun _ _ => .inl (by simp)) harr⟩
   | panic ch => exact ⟨_, a1, w1, ⟨hd1, F1, H1, μ1, K1, g1, g2, g3, h4.trans hR.lt' g4⟩, .pass (x := .inLoop c) rfl (fun _ _ => .inl (by simp)) harr⟩
   | outgrown => exact ⟨_, a1, w1, ⟨hd1, F1, H1, μ1, K1, g1, g2, g3, h4.trans hR.lt' g4⟩, .pass (x := .inLoop c) rfl (fun _ _ => .inl (by simp)) harr⟩
 intro b k cs hro _ _
 obtain ⟨e, a', w', hq, harr⟩ := main m a w ⟨hd, F, H, μ, K, h0, hR, hF, Fr.refl hR⟩ b k cs hro
 exact ⟨e, a', w', hq, .of_steps (.one (fenced_calm (n := 0) fen_fn fen_room rfl) stepR_loop) harr⟩
section
variable {b : Frame} {a : Act} {k : List Item} {cs : List Frame} {w : World} {Q : Exit -> Act -> World -> Prop} {F : Fence} {m : Nat}
theorem stepR_scope {c : Code} : step P (lone (b.atR a (.code (.scope c) :: k)) cs w) = .next (lone (b.atR a (.code c :: .inScope c :: k)) cs w) :=
 step_lone_go (by simp [stepG, stepG.exec, Frame.atR])
theorem stepR_inScope {c : Code} : step P (lone (b.atR a (.inScope c :: k)) cs w) = .next (lone (b.atR a k) cs w) :=
 step_lone_go (by simp [stepG, stepG.exec, Frame.atR])
def noGo (Q : Exit -> Act -> World -> Prop) : Exit -> Act -> World -> Prop
 | .goto _, _, _ => False
 | e, a, w => Q e a w
theorem wpIn_scope {c : Code} (h : c.wpIn F m P (noGo Q) a w) : (Code.scope c).wpIn F m P Q a w := by
 intro b k cs hro hb hr
 have h0 : (lone (b.atR a (.code (.scope c) :: k)) cs w).fenced P F := fenced_calm hb hr rfl
 obtain ⟨e, a₁, w₁, hq, harr⟩ := h b (.inScope c :: k) cs hro hb hr
 cases e with
 | normal => exact ⟨.normal, a₁, w₁, hq, .of_steps (.one h0 stepR_scope) (StepsIn.trans harr (.one (fenced_calm hb hr rfl) stepR_inScope))⟩
 | exit id => exact ⟨.exit id, a₁, w₁, hq, .of_steps (.one h0 stepR_scope) ⟨fun k' hk => harr.1 k' (by simpa [exitTo] using hk), fun hr hk => harr.2 hr (by simpa [exitTo] using hk)⟩⟩
 | goto l => exact hq.elim
 | ret => exact ⟨.ret, a₁, w₁, hq, .of_steps (.one h0 stepR_scope) harr⟩
 | panic ch => exact ⟨.panic ch, a₁, w₁, hq, .of_steps (.one h0 stepR_scope) harr⟩
 | outgrown => exact ⟨.outgrown, a₁, w₁, hq, .of_steps (.one h0 stepR_scope) harr⟩
end
def scopeQ (Q : Exit -> T V -> Hp -> Prop) : Exit -> T V -> Hp -> Prop
 | .goto _, _, _ => False
 | e, F, H => Q e F H
theorem awp_scope {c : Code} {Q : Exit -> T V -> Hp -> Prop} {F : T V} {H : Hp} (h : AWPr ρ P G n c (scopeQ Q) F H) : AWPr ρ P G n (.scope c) Q F H := by
 intro s μ K w a hR hF hd
 refine wpIn_scope (wpIn_mono (h s μ K w a hR hF hd) fun e a' w' he => ?_)
 obtain ⟨hd', F', H', μ', K', h1, h2, h3, h4⟩ := he
 cases e with
 | goto l => exact h1.elim
 | exit id => exact ⟨hd', F', H', μ', K', h1, h2, h3, h4⟩
 | normal => exact ⟨hd', F', H', μ', K', h1, h2, h3, h4⟩
 | ret => exact ⟨hd', F', H', μ', K', h1, h2, h3, h4⟩
 | panic ch => exact ⟨hd', F', H', μ', K', h1, h2, h3, h4⟩
 | outgrown => exact ⟨hd', F', H', μ', K', h1, h2, h3, h4⟩
theorem awp_label {l : Nat} {Q : Exit -> T V -> Hp -> Prop} {F : T V} {H : Hp} (h : Q .normal F H) : AWPr ρ P G n (.label l) Q F H :=
 fun _ _ _ _ _ hR hF hd => wpIn_label ⟨hd, F, H, _, _, h, hR, hF, Fr.refl hR⟩
theorem awp_mono {c : Code} {Q Q' : Exit -> T V -> Hp -> Prop} {F : T V} {H : Hp} (h : AWPr ρ P G n c Q F H) (hq : ∀ e F H, Q e F H -> Q' e F H) : AWPr ρ P G n c Q' F H :=
 fun s μ K w a hR hF hd => wpIn_mono (h s μ K w a hR hF hd) fun _ _ _ ⟨hd', F', H', μ', K', h1, h2⟩ => ⟨hd', F', H', μ', K', hq _ _ _ h1, h2⟩
end
end Go.Ab

namespace Go.Ab
def Opd.tm : Opd -> List Nat
  | .t n => [n]
  | .c _ => []
def otm : Option Opd -> List Nat
  | some x => x.tm
  | none => []
def ltm (l : List Opd) : List Nat := l.flatMap Opd.tm
def ptm (l : List (Nat × Nat × Opd)) : List Nat := l.flatMap fun p => p.2.2.tm
def PureOp.tm : PureOp -> List Nat
  | .mv x|.nilck x|.neg x|.not x|.conv _ x|.faddr _ x|.field _ _ _ x|.extract x _|.len x|.nileq _ x|.slen x|.cap x => x.tm
  | .pick c a b => c.tm ++ a.tm ++ b.tm
  | .build _ ps => ptm ps
  | .bin _ x y|.beq _ x y|.eqs _ _ x y|.iaddr _ x y|.aaddr _ _ x y|.aindex _ _ _ x y|.mm _ x y|.sindex x y => x.tm ++ y.tm
  | .mkfn _ l => ltm l
  | .slice _ x lo hi mx => x.tm ++ otm lo ++ otm hi ++ otm mx
  | .sslice x lo hi => x.tm ++ otm lo ++ otm hi
  | .cint _ => []
def LoadOp.tm : LoadOp -> List Nat
  | .load _ _ a => a.tm
  | .lookup _ _ m k => m.tm ++ k.tm
  | .mlen m => m.tm
def AllocOp.tm : AllocOp -> List Nat
  | .alloc _|.mkmap|.mkst => []
  | .box x => x.tm
  | .bslice _ _ _ ps => ptm ps
  | .mkslice _ _ _ l c => l.tm ++ c.tm
def EffOp.tm : EffOp -> List Nat
  | .store _ a x => a.tm ++ x.tm
  | .append _ _ s x => s.tm ++ x.tm
  | .copy _ d s => d.tm ++ s.tm
  | .mapupd m k x => m.tm ++ k.tm ++ x.tm
  | .clear _ _ x => x.tm
  | .appendz _ _ _ s x => s.tm ++ x.tm
  | .sbytes x => x.tm
  | .stupd m k x => m.tm ++ k.tm ++ x.tm
  | .rng m => m.tm
  | .ent m => m.tm
def SOp.tm : SOp -> List Nat
  | .p o => o.tm
  | .l o => o.tm
  | .a o => o.tm
  | .e o => o.tm
  | .cf _ args => ltm args
  | .cv x args => x.tm ++ ltm args
  | .nx x => x.tm
  | .no => []
def gtm : Option (Nat × Bool) -> List Nat
  | some (t, _) => [t]
  | none => []
def SOper.tm (s : SOper) : List Nat := s.op.tm ++ gtm s.guard
section
variable {F : T V} {d : Nat} {v : Option V}
theorem ev_set {x : Opd} (h : d ∉ x.tm) : x.ev (F.set d v) = x.ev F := by
  cases x with
  | t n => simp only [Opd.tm, List.mem_singleton] at h; simp [Opd.ev, T.get_set_ne _ _ (fun e => h e.symm)]
  | c w => rfl
theorem evs_set : ∀ {l : List Opd}, d ∉ ltm l -> l.map (·.ev (F.set d v)) = l.map (·.ev F)
  | [], _ => rfl
  | x :: l, h => by
    simp only [ltm, List.flatMap_cons, List.mem_append, not_or] at h
    simp [ev_set h.1, evs_set h.2]
theorem fill_set : ∀ {ps : List (Nat × Nat × Opd)} {z : List C}, d ∉ ptm ps -> fillL (F.set d v) z ps = fillL F z ps
  | [], _, _ => rfl
  | (off, size, x) :: ps, z, h => by
    simp only [ptm, List.flatMap_cons, List.mem_append, not_or] at h
    simp only [fillL, ev_set h.1]
    cases cells1 (x.ev F) with
    | none => rfl
    | some cs => simp only; rw [fill_set h.2]
theorem caps_set : ∀ {l : List Opd}, d ∉ ltm l -> capsL (F.set d v) l = capsL F l
  | [], _ => rfl
  | x :: l, h => by
    simp only [ltm, List.flatMap_cons, List.mem_append, not_or] at h
    simp only [capsL, ev_set h.1, caps_set h.2]
theorem bound_set {x : Option Opd} {k y : Nat} (h : d ∉ otm x) : aBound (F.set d v) k y x = aBound F k y x := by
  cases x with
  | none => rfl
  | some x => simp only [otm] at h; simp only [aBound, ev_set h]
theorem slice_set {esz : Nat} {x : V} {lo hi mx : Option Opd} (h1 : d ∉ otm lo) (h2 : d ∉ otm hi) (h3 : d ∉ otm mx) : aSlice (F.set d v) esz x lo hi mx = aSlice F esz x lo hi mx := by
  unfold aSlice
  simp only [bound_set h1, bound_set h2, bound_set h3]
theorem sslice_set {x : V} {lo hi : Option Opd} (h1 : d ∉ otm lo) (h2 : d ∉ otm hi) : aSslice (F.set d v) x lo hi = aSslice F x lo hi := by
  unfold aSslice
  simp only [bound_set h1, bound_set h2]
theorem pure_set {o : PureOp} (h : d ∉ o.tm) : aPure (F.set d v) o = aPure F o := by
  cases o <;> simp only [PureOp.tm, List.mem_append, not_or] at h <;> simp only [aPure]
  all_goals first
    | rw [ev_set h.1.1, sslice_set h.1.2 h.2]
    | rw [ev_set h]
    | rw [fill_set h]
    | rw [caps_set h]
    | rw [ev_set h.1, ev_set h.2]
    | rw [ev_set h.1.1, ev_set h.1.2, ev_set h.2]
    | rw [ev_set h.1.1.1, slice_set h.1.1.2 h.1.2 h.2]
theorem load_set {o : LoadOp} {H : Hp} (h : d ∉ o.tm) : aLoad (F.set d v) H o = aLoad F H o := by
  cases o <;> simp only [LoadOp.tm, List.mem_append, not_or] at h <;> simp only [aLoad]
  all_goals first
    | rw [ev_set h]
    | rw [ev_set h.1, ev_set h.2]
theorem alloc_set {o : AllocOp} (h : d ∉ o.tm) : aAlloc (F.set d v) o = aAlloc F o := by
  cases o <;> simp only [AllocOp.tm, List.mem_append, not_or] at h <;> simp only [aAlloc]
  all_goals first
    | rw [ev_set h]
    | rw [fill_set h]
    | rw [ev_set h.1, ev_set h.2]
theorem eff_set {o : EffOp} {H : Hp} (h : d ∉ o.tm) : aEff (F.set d v) H o = aEff F H o := by
  cases o <;> simp only [EffOp.tm, List.mem_append, not_or] at h <;> simp only [aEff]
  all_goals first
    | rw [ev_set h]
    | rw [ev_set h.1, ev_set h.2]
    | rw [ev_set h.1.1, ev_set h.1.2, ev_set h.2]
theorem wanted_set {g : Option (Nat × Bool)} (h : d ∉ gtm g) : wantedA g (F.set d v) = wantedA g F := by
  cases g with
  | none => rfl
  | some p => obtain ⟨t, b⟩ := p; simp only [gtm, List.mem_singleton] at h; simp [wantedA, T.get_set_ne _ _ (fun e => h e.symm)]
end
def tmOk (y x : SOper) : Bool :=
  (match y.dst with
   | some d => !(x.tm.contains d) && x.dst != some d
   | none => true) &&
  (match x.dst with
   | some d => !(y.tm.contains d)
   | none => true)
inductive Kd where
  | p|l|a|e|c
def SOp.kd : SOp -> Kd
  | .p _ => .p
  | .l _ => .l
  | .a _ => .a
  | .e _ => .e
  | .cf _ _ => .c
  | .cv _ _ => .c
  | .nx _ => .c
  | .no => .e
def swapOk (y x : SOper) : Bool :=
  tmOk y x && match y.op.kd, x.op.kd with
  | .p, _ => true
  | .l, .p|.l, .l => true
  | .l, .a => x.aid.isSome
  | .l, .e|.l, .c => y.keep && x.watch.contains y.id
  | .a, .p => true
  | .a, .a => y.aid.isSome && x.aid.isSome && y.aid != x.aid
  | .e, .p|.c, .p => true
  | .c, .a => x.aid.isSome
  | _, _ => false
section
variable {P : Program} {G base : Nat} {Q : T V -> Hp -> Prop}
theorem setO_comm {F : T V} {d e : Option Nat} {u v : V} (h : ∀ k, d = some k -> e ≠ some k) : setO (setO F d u) e v = setO (setO F e v) d u := by
  cases d with
  | none => rfl
  | some d =>
    cases e with
    | none => rfl
    | some e => exact T.set_comm _ _ _ (fun he => h d rfl (by rw [he]))
theorem tmOk_spec {y x : SOper} (h : tmOk y x = true) : (∀ d, y.dst = some d -> d ∉ x.op.tm /\ d ∉ gtm x.guard /\ x.dst ≠ some d) /\ (∀ d, x.dst = some d -> d ∉ y.op.tm /\ d ∉ gtm y.guard) := by
  unfold tmOk at h
  rw [Bool.and_eq_true] at h
  refine ⟨fun d hd => ?_, fun d hd => ?_⟩
  · have h1 := h.1
    rw [hd] at h1
    simp [SOper.tm] at h1
    exact ⟨h1.1.1, h1.1.2, h1.2⟩
  · have h2 := h.2
    rw [hd] at h2
    simp [SOper.tm] at h2
    exact ⟨h2.1, h2.2⟩
structure Blind (s : SOper) (d : Option Nat) : Prop where
  pure : ∀ F v o, s.op = .p o -> aPure (setO F d v) o = aPure F o
  load : ∀ F H v o, s.op = .l o -> aLoad (setO F d v) H o = aLoad F H o
  alloc : ∀ F v o, s.op = .a o -> aAlloc (setO F d v) o = aAlloc F o
  eff : ∀ F H v o, s.op = .e o -> aEff (setO F d v) H o = aEff F H o
  cf : ∀ F v f l, s.op = .cf f l -> l.map (·.ev (setO F d v)) = l.map (·.ev F)
  cv : ∀ F v x l, s.op = .cv x l -> x.ev (setO F d v) = x.ev F /\ l.map (·.ev (setO F d v)) = l.map (·.ev F)
  nx : ∀ F v x, s.op = .nx x -> x.ev (setO F d v) = x.ev F
  wanted : ∀ F v, wantedA s.guard (setO F d v) = wantedA s.guard F
theorem Blind.mk' {s : SOper} {d : Option Nat} (h : ∀ k, d = some k -> k ∉ s.op.tm /\ k ∉ gtm s.guard) : Blind s d := by
  cases d with
  | none => exact ⟨fun _ _ _ _ => rfl, fun _ _ _ _ _ => rfl, fun _ _ _ _ => rfl, fun _ _ _ _ _ => rfl, fun _ _ _ _ _ => rfl, fun _ _ _ _ _ => ⟨rfl, rfl⟩, fun _ _ _ _ => rfl, fun _ _ => rfl⟩
  | some d =>
    obtain ⟨h1, h2⟩ := h d rfl
    refine ⟨fun F v o ho => ?_, fun F H v o ho => ?_, fun F v o ho => ?_, fun F H v o ho => ?_, fun F v f l ho => ?_, fun F v x l ho => ?_, fun F v x ho => ?_, fun F v => wanted_set h2⟩
    · rw [ho] at h1; exact pure_set h1
    · rw [ho] at h1; exact load_set h1
    · rw [ho] at h1; exact alloc_set h1
    · rw [ho] at h1; exact eff_set h1
    · rw [ho] at h1; exact evs_set h1
    · rw [ho] at h1
      simp only [SOp.tm, List.mem_append, not_or] at h1
      exact ⟨ev_set h1.1, evs_set h1.2⟩
    · rw [ho] at h1; exact ev_set h1
end
end Go.Ab

namespace Go.Ab
section
variable {P : Program} {G base : Nat} {Q : T V -> Hp -> Prop}
inductive Cal where
 | fu (f : FuncId)
 | yl (b : Nat)
 | nx (b : Nat)
def Cal.k (K : Nat -> Prop) : Cal -> Prop
 | .fu _ => True
 | .yl b => K b
 | .nx b => K b
def Cal.run (P : Program) (μ : Nat -> Pl) (xs : Array Value) (w : World) (R : Ending -> World -> Prop) : Cal -> Prop
 | .fu f => Calls P f xs w R
 | .yl b => YieldAt Fence.wide 0 P (μ b).blk xs w R
 | .nx b => ∀ ty : TypeId, ∃ y w', (Instr.next (.pointer (some ((μ b).addr 0))) false ty).run P w = .ok y w' /\ R (.returned y) w'
theorem Cal.run_mono {c : Cal} {μ : Nat -> Pl} {xs : Array Value} {w : World} {R R' : Ending -> World -> Prop} (h : c.run P μ xs w R) (hr : ∀ e w', R e w' -> R' e w') : c.run P μ xs w R' := by
 cases c with
 | fu f => exact Calls.mono h hr
 | yl b => obtain ⟨fn, tmps, sg, bd, h1, h2⟩ := h; exact ⟨fn, tmps, sg, bd, h1, h2.mono hr⟩
 | nx b =>
  intro ty
  obtain ⟨y, w', h1, h2⟩ := h ty
  exact ⟨y, w', h1, hr _ _ h2⟩
def ADo (P : Program) (G : Nat) (c : Cal) (args : List V) (H : Hp) (R : V -> Hp -> Prop) : Prop :=
 ∀ (μ : Nat -> Pl) (K : Nat -> Prop) (w : World) (xs : List Value), Rel G μ K H w -> All2 (RV μ K) args xs -> c.k K ->
  c.run P μ xs.toArray w fun e w' => ∃ x, e = .returned x /\ ∃ v H' μ' K', R v H' /\ RV μ' K' v x /\ Rel G μ' K' H' w' /\ Fr μ K H w μ' K' H' w'
theorem ado_f {f : FuncId} {args : List V} {H : Hp} {R : V -> Hp -> Prop} : ADo P G (.fu f) args H R ↔ ACalls P G f args H R :=
 ⟨fun h μ K w xs hR ha => h μ K w xs hR ha trivial, fun h μ K w xs hR ha _ => h μ K w xs hR ha⟩
theorem ado_y {b : Nat} {args : List V} {H : Hp} {R : V -> Hp -> Prop} : ADo P G (.yl b) args H R ↔ AYield P G b args H R :=
 ⟨fun h μ K w xs hR hK ha => h μ K w xs hR ha hK, fun h μ K w xs hR ha hK => h μ K w xs hR hK ha⟩
theorem ado_n {b : Nat} {H : Hp} {R : V -> Hp -> Prop} : ADo P G (.nx b) [] H R ↔ ANext P G b H R := by
 constructor
 ·intro h μ K w hR hK ty
  obtain ⟨y, w', h1, x, he, h2⟩ := h μ K w [] hR trivial hK ty
  injection he with he
  subst he
  exact ⟨_, w', h1, h2⟩
 ·intro h μ K w xs hR _ hK ty
  obtain ⟨y, w', h1, h2⟩ := h μ K w hR hK ty
  exact ⟨y, w', h1, y, rfl, h2⟩
theorem ADo.mono {f : Cal} {args : List V} {H : Hp} {R R' : V -> Hp -> Prop} (h : ADo P G f args H R) (hr : ∀ v H', R v H' -> R' v H') : ADo P G f args H R' :=
 fun μ K w xs hR ha hK => Cal.run_mono (h μ K w xs hR ha hK) fun _ _ ⟨x, he, v, H', μ', K', h1, h2⟩ => ⟨x, he, v, H', μ', K', hr _ _ h1, h2⟩
theorem ADo.keeps {f : Cal} {args : List V} {H : Hp} {R : V -> Hp -> Prop} (h : ADo P G f args H R) : ADo P G f args H fun v H' => R v H' /\ H.nx <= H'.nx /\ ∀ b, b < H.nx -> H.get b = none -> H'.get b = none :=
 fun μ K w xs hR ha hK => Cal.run_mono (h μ K w xs hR ha hK) fun _ _ ⟨x, he, v, H', μ', K', h1, h2, h3, h4⟩ => ⟨x, he, v, H', μ', K', ⟨h1, h4.nx, h4.none⟩, h2, h3, h4⟩
theorem ADo.frame {f : Cal} {args : List V} {H : Hp} {R : V -> Hp -> Prop} (h : ADo P G f args H R) {x : Nat} {bk : B} (hx : x < H.nx) (hn : H.get x = none) (hm : bk.mut = true) :
  ADo P G f args (H.add x bk) fun v H'' => ∃ H', R v H' /\ H'' = H'.add x bk := by
 intro μ K w xs hR ha hKK
 have hget : ∀ (H : Hp) i, (H.add x bk).get i = if i = x then some bk else H.get i := fun H i => Hp.get_add H x i bk
 have hkx : K x := hR.dom x bk (by simp)
 have hne : ∀ i k, H.get i = some k -> i ≠ x := fun i k hi e => by subst e; rw [hn] at hi; cases hi
 have hR1 : Rel G μ K H w := ⟨fun b k hb => hR.dom b k (by rw [hget, if_neg (hne b k hb)]; exact hb), hR.lt, fun b k hb => hR.blk b k (by rw [hget, if_neg (hne b k hb)]; exact hb),
  fun b b' k k' hb hb' => hR.inj b b' k k' (by rw [hget, if_neg (hne b k hb)]; exact hb) (by rw [hget, if_neg (hne b' k' hb')]; exact hb'), hR.glob⟩
 have hxx : (H.add x bk).get x = some bk := by simp
 have hblk := hR.blk x bk hxx
 have hbl := hR.blk_lt hxx
 have hfar : ∀ b k, H.get b = some k -> (μ b).blk ≠ (μ x).blk := fun b k hb he => hne b k hb (hR.inj x b bk k hxx (by rw [hget, if_neg (hne b k hb)]; exact hb) hm he.symm).symm
 refine Cal.run_mono (h μ K w xs hR1 ha hKK) ?_
 rintro e w' ⟨y, rfl, v, H', μ', K', h1, h2, h3, h4⟩
 have hn' : H'.get x = none := h4.none x hx hn
 have hne' : ∀ i k, H'.get i = some k -> i ≠ x := fun i k hi e => by subst e; rw [hn'] at hi; cases hi
 have hmux : μ' x = μ x := h4.mu x hkx
 have hkeep : w'.heap[(μ x).blk]? = w.heap[(μ x).blk]? := h4.keep _ hbl fun b k hb _ => hfar b k hb
 have hfar' : ∀ b k, H'.get b = some k -> (μ' b).blk ≠ (μ x).blk := by
  intro b k hb he
  by_cases hlt : b < H.nx
  ·cases hg : H.get b with
   | none => rw [h4.none b hlt hg] at hb; cases hb
   | some k0 =>
    rw [h4.mu b (hR1.dom b k0 hg)] at he
    exact hfar b k0 hg he
  ·rcases h4.newmut b k (by omega) hb with hm1|⟨_, hge⟩
   ·rcases h4.img b k hb hm1 with ⟨b0, k0, g0, _, e0⟩|hge
    ·exact hfar b0 k0 g0 (e0.trans he)
    ·omega
   ·omega
 refine ⟨y, rfl, v, H'.add x bk, μ', K', ⟨H', h1, rfl⟩, h2, ⟨fun b k hb => ?_, h3.lt, fun b k hb => ?_, fun b b' k k' hb hb' hm' he => ?_, h3.glob⟩, ?_⟩
 ·rw [hget] at hb
  split at hb
  ·rename_i e; subst e; exact h4.kk _ hkx
  ·exact h3.dom b k hb
 ·rw [hget] at hb
  split at hb
  ·rename_i e; subst e
   obtain rfl := Option.some.inj hb
   rw [hmux, hkeep]
   exact hblk.mono h4.kk h4.mu
  ·exact h3.blk b k hb
 ·rw [hget] at hb hb'
  by_cases e1 : b = x
  ·by_cases e2 : b' = x
   ·rw [e1, e2]
   ·rw [if_neg e2] at hb'
    rw [e1, hmux] at he
    exact absurd he.symm (hfar' b' k' hb')
  ·by_cases e2 : b' = x
   ·rw [if_neg e1] at hb
    rw [e2, hmux] at he
    exact absurd he (hfar' b k hb)
   ·rw [if_neg e1] at hb
    rw [if_neg e2] at hb'
    exact h3.inj b b' k k' hb hb' hm' he
 ·refine ⟨h4.same, h4.size, fun i hi hn => h4.keep i hi fun b k hb hm => hn b k (by rw [hget, if_neg (hne b k hb)]; exact hb) hm, fun b k hb hm' => ?_, fun b k hb hk => ?_, h4.mu, h4.kk, h4.knew, h4.nx, fun b hb hn => ?_, fun b k k' hb hb' => ?_, fun b k hb hm' => ?_⟩
  ·rw [hget] at hb
   split at hb
   ·rename_i e; subst e; exact .inl ⟨b, bk, by simp, hm, by rw [hmux]⟩
   ·rcases h4.img b k hb hm' with ⟨b0, k0, g0, m0, e0⟩|hge
    ·exact .inl ⟨b0, k0, by rw [hget, if_neg (hne b0 k0 g0)]; exact g0, m0, e0⟩
    ·exact .inr hge
  ·rw [hget] at hk
   simp at hb
   rw [if_neg (by omega)] at hk
   exact h4.newmut b k hb hk
  ·rw [hget] at hn ⊢
   split at hn
   ·cases hn
   ·rename_i e; rw [if_neg e]; exact h4.none b hb hn
  ·rw [hget] at hb hb'
   split at hb
   ·rename_i e; rw [if_pos e] at hb'; rw [Option.some.inj hb] at hb'; rw [Option.some.inj hb']
   ·rename_i e; rw [if_neg e] at hb'; exact h4.stay b k k' hb hb'
  ·rw [hget] at hb ⊢
   split at hb
   ·rename_i e; rw [if_pos e]; exact hb
   ·rename_i e; rw [if_neg e]; exact h4.ro b k hb hm'
theorem ACalls.mono {f : FuncId} {args : List V} {H : Hp} {R R' : V -> Hp -> Prop} (h : ACalls P G f args H R) (hr : ∀ v H', R v H' -> R' v H') : ACalls P G f args H R' := ado_f.1 ((ado_f.2 h).mono hr)
theorem AYield.mono {b : Nat} {args : List V} {H : Hp} {R R' : V -> Hp -> Prop} (h : AYield P G b args H R) (hr : ∀ v H', R v H' -> R' v H') : AYield P G b args H R' := ado_y.1 ((ado_y.2 h).mono hr)
theorem ANext.mono {b : Nat} {H : Hp} {R R' : V -> Hp -> Prop} (h : ANext P G b H R) (hr : ∀ v H', R v H' -> R' v H') : ANext P G b H R' := ado_n.1 ((ado_n.2 h).mono hr)
theorem watch_mono {ws : List Nat} {ctx ctx' : Ctx} {H : Hp} (hs : ∀ x, x ∈ ctx' -> x ∈ ctx) (h : watchOk ws ctx H) : watchOk ws ctx' H := by
 cases ws with
 | nil => trivial
 | cons k r => exact fun j hj p hp => h j hj p (hs _ hp)
theorem ctx_mono : ∀ {l : List SOper} {ctx ctx' : Ctx} {F : T V} {H : Hp}, (∀ x, x ∈ ctx' -> x ∈ ctx) -> wOps P G base Q l ctx F H -> wOps P G base Q l ctx' F H
 | [], _, _, _, _, _, h => h
 | o :: r, ctx, ctx', F, H, hs, h => by
  rw [wOps] at h ⊢
  split at h
  ·rename_i hw
   rw [if_pos hw]
   cases hop : o.op with
   | p op =>
    simp only [hop] at h ⊢
    cases hv : aPure F op with
    | none => simp [hv] at h
    | some v => simp only [hv] at h ⊢; exact ctx_mono hs h
   | l op =>
    simp only [hop] at h ⊢
    cases hv : aLoad F H op with
    | none => simp [hv] at h
    | some v =>
     simp only [hv] at h ⊢
     refine ctx_mono (fun x hx => ?_) h
     cases hk : o.keep with
     | false => simp only [hk, Bool.false_eq_true, if_false] at hx ⊢; exact hs x hx
     | true =>
      simp only [hk, if_true, List.mem_cons] at hx ⊢
      exact hx.imp id (hs x)
   | a op =>
    simp only [hop] at h ⊢
    cases hv : aAlloc F op with
    | none => simp [hv] at h
    | some v =>
     simp only [hv] at h ⊢
     cases hai : o.aid with
     | none => simp only [hai] at h ⊢; exact ctx_mono hs h
     | some k => simp only [hai] at h ⊢; exact ctx_mono hs h
   | e op =>
    simp only [hop] at h ⊢
    cases hv : aEff F H op with
    | none => simp [hv] at h
    | some v => simp only [hv] at h ⊢; exact ⟨watch_mono hs h.1, ctx_mono hs h.2⟩
   | cf f args =>
    simp only [hop] at h ⊢
    exact h.mono fun v H' hh => ⟨watch_mono hs hh.1, ctx_mono hs hh.2⟩
   | cv x args =>
    simp only [hop] at h ⊢
    split at h
    ·exact ⟨h.1, h.2.mono fun v H' hh => ⟨watch_mono hs hh.1, ctx_mono hs hh.2⟩⟩
    ·exact AYield.mono h fun v H' hh => ⟨watch_mono hs hh.1, ctx_mono hs hh.2⟩
    ·exact h.elim
   | nx x =>
    simp only [hop] at h ⊢
    split at h
    ·exact ANext.mono h fun v H' hh => ⟨watch_mono hs hh.1, ctx_mono hs hh.2⟩
    ·exact h.elim
   | no => simp only [hop] at h
  ·rename_i hw
   rw [if_neg hw]
   exact ctx_mono hs h
end
end Go.Ab

namespace Go.Ab
section
variable {P : Program} {G base : Nat} {Q : T V -> Hp -> Prop}
def callOf (P : Program) (o : SOp) (F : T V) : Option (Cal × List V) :=
 match o with
 | .cf f args => some (.fu f, args.map (·.ev F))
 | .cv x args => match x.ev F with
  | .one (.fn f caps) => if isFn P f then some (.fu f, args.map (·.ev F) ++ caps.map ptrV) else none
  | .one (.yld b) => some (.yl b, args.map (·.ev F))
  | _ => none
 | .nx x => match x.ev F with
  | .one (.ptr b 0) => some (.nx b, [])
  | _ => none
 | _ => none
def Plain (o : SOper) (F : T V) (v : V) : Prop := (wantedA o.guard F = false /\ v = V.undef) \/ (wantedA o.guard F = true /\ ∃ op, o.op = .p op /\ aPure F op = some v)
def ctxOf (o : SOper) (op : LoadOp) (F : T V) (v : V) (ctx : Ctx) : Ctx := if o.keep then (o.id, fun H' => aLoad F H' op = some v) :: ctx else ctx
def allocAt (base : Nat) (o : SOper) (H : Hp) : Nat := match o.aid with
 | none => H.nx
 | some k => base + k
def allocHp (base : Nat) (o : SOper) (H : Hp) (bk : B) : Hp := match o.aid with
 | none => H.push bk
 | some k => H.add (base + k) bk
theorem wOps_inv {o : SOper} {r : List SOper} {ctx : Ctx} {F : T V} {H : Hp} (h : wOps P G base Q (o :: r) ctx F H) :
  (∃ v, Plain o F v /\ wOps P G base Q r ctx (setO F o.dst v) H) \/
  (wantedA o.guard F = true /\ ∃ op v, o.op = .l op /\ aLoad F H op = some v /\ wOps P G base Q r (ctxOf o op F v ctx) (setO F o.dst v) H) \/
  (wantedA o.guard F = true /\ ∃ op bk g, o.op = .a op /\ aAlloc F op = some (bk, g) /\ wOps P G base Q r ctx (setO F o.dst (g (allocAt base o H))) (allocHp base o H bk)) \/
  (wantedA o.guard F = true /\ ∃ op v H', o.op = .e op /\ aEff F H op = some (v, H') /\ watchOk o.watch ctx H' /\ wOps P G base Q r ctx (setO F o.dst v) H') \/
  (wantedA o.guard F = true /\ o.op.kd = .c /\ ∃ f args, callOf P o.op F = some (f, args) /\ ADo P G f args H fun v H' => watchOk o.watch ctx H' /\ wOps P G base Q r ctx (setO F o.dst v) H') := by
 rw [wOps] at h
 split at h
 ·rename_i hw
  cases hop : o.op with
  | p op =>
   simp only [hop] at h
   cases hv : aPure F op with
   | none => simp [hv] at h
   | some v => simp only [hv] at h; exact .inl ⟨v, .inr ⟨hw, op, hop, hv⟩, h⟩
  | l op =>
   simp only [hop] at h
   cases hv : aLoad F H op with
   | none => simp [hv] at h
   | some v => simp only [hv] at h; exact .inr (.inl ⟨hw, op, v, rfl, hv, h⟩)
  | a op =>
   simp only [hop] at h
   cases hv : aAlloc F op with
   | none => simp [hv] at h
   | some bg =>
    simp only [hv] at h
    refine .inr (.inr (.inl ⟨hw, op, bg.1, bg.2, rfl, hv, ?_⟩))
    unfold allocAt allocHp
    cases hai : o.aid <;> simp only [hai] at h ⊢ <;> exact h
  | e op =>
   simp only [hop] at h
   cases hv : aEff F H op with
   | none => simp [hv] at h
   | some v => simp only [hv] at h; exact .inr (.inr (.inr (.inl ⟨hw, op, v.1, v.2, rfl, hv, h.1, h.2⟩)))
  | cf f args =>
   simp only [hop] at h
   exact .inr (.inr (.inr (.inr ⟨hw, rfl, .fu f, _, rfl, ado_f.2 h⟩)))
  | cv x args =>
   simp only [hop] at h
   split at h
   ·rename_i f caps hx
    exact .inr (.inr (.inr (.inr ⟨hw, rfl, .fu f, _, by simp [callOf, hx, h.1], ado_f.2 h.2⟩)))
   ·rename_i b hx
    exact .inr (.inr (.inr (.inr ⟨hw, rfl, .yl b, _, by simp [callOf, hx], ado_y.2 h⟩)))
   ·exact h.elim
  | nx x =>
   simp only [hop] at h
   split at h
   ·rename_i b hx
    exact .inr (.inr (.inr (.inr ⟨hw, rfl, .nx b, _, by simp [callOf, hx], ado_n.2 h⟩)))
   ·exact h.elim
  | no => simp only [hop] at h
 ·rename_i hw
  exact .inl ⟨V.undef, .inl ⟨by simpa using hw, rfl⟩, h⟩
theorem wOps_plain {o : SOper} {r : List SOper} {ctx : Ctx} {F : T V} {H : Hp} {v : V} (hp : Plain o F v) (h : wOps P G base Q r ctx (setO F o.dst v) H) : wOps P G base Q (o :: r) ctx F H := by
 rw [wOps]
 rcases hp with ⟨hw, rfl⟩|⟨hw, op, hop, hv⟩
 ·simpa [hw] using h
 ·simpa [hw, hop, hv] using h
theorem wOps_load {o : SOper} {r : List SOper} {ctx : Ctx} {F : T V} {H : Hp} {v : V} {op : LoadOp} (hw : wantedA o.guard F = true) (hop : o.op = .l op) (hv : aLoad F H op = some v) (h : wOps P G base Q r (ctxOf o op F v ctx) (setO F o.dst v) H) :
  wOps P G base Q (o :: r) ctx F H := by
 rw [wOps]
 simp only [hw, if_true, hop, hv]
 exact h
theorem wOps_alloc {o : SOper} {r : List SOper} {ctx : Ctx} {F : T V} {H : Hp} {bk : B} {g : Nat -> V} {op : AllocOp} (hw : wantedA o.guard F = true) (hop : o.op = .a op) (hv : aAlloc F op = some (bk, g))
  (h : wOps P G base Q r ctx (setO F o.dst (g (allocAt base o H))) (allocHp base o H bk)) : wOps P G base Q (o :: r) ctx F H := by
 rw [wOps]
 simp only [hw, if_true, hop, hv]
 unfold allocAt allocHp at h
 cases hai : o.aid <;> simp only [hai] at h ⊢ <;> exact h
theorem wOps_eff {o : SOper} {r : List SOper} {ctx : Ctx} {F : T V} {H H' : Hp} {v : V} {op : EffOp} (hw : wantedA o.guard F = true) (hop : o.op = .e op) (hv : aEff F H op = some (v, H')) (hwa : watchOk o.watch ctx H') (h : wOps P G base Q r ctx (setO F o.dst v) H') :
  wOps P G base Q (o :: r) ctx F H := by
 rw [wOps]
 simp only [hw, if_true, hop, hv]
 exact ⟨hwa, h⟩
theorem wOps_call {o : SOper} {r : List SOper} {ctx : Ctx} {F : T V} {H : Hp} {f : Cal} {args : List V} (hw : wantedA o.guard F = true) (hc : callOf P o.op F = some (f, args))
  (h : ADo P G f args H fun v H' => watchOk o.watch ctx H' /\ wOps P G base Q r ctx (setO F o.dst v) H') : wOps P G base Q (o :: r) ctx F H := by
 rw [wOps]
 simp only [hw, if_true]
 cases hop : o.op <;> simp only [hop, callOf] at hc <;> try (cases hc; done)
 ·obtain ⟨rfl, rfl⟩ : _ /\ _ := by simpa using hc
  exact ado_f.1 h
 ·simp only
  split at hc
  ·rename_i f' caps hx
   split at hc
   ·rename_i hf
    obtain ⟨rfl, rfl⟩ : _ /\ _ := by simpa using hc
    try simp only [hx]
    exact ⟨hf, ado_f.1 h⟩
   ·cases hc
  ·rename_i b hx
   obtain ⟨rfl, rfl⟩ : _ /\ _ := by simpa using hc
   try simp only [hx]
   exact ado_y.1 h
  ·cases hc
 ·simp only
  split at hc
  ·rename_i b hx
   obtain ⟨rfl, rfl⟩ : _ /\ _ := by simpa using hc
   try simp only [hx]
   exact ado_n.1 h
  ·cases hc
def Free (base : Nat) (ks : List Nat) (H : Hp) : Prop := ∀ k ∈ ks, base + k < H.nx /\ H.get (base + k) = none
theorem stores_keeps : ∀ {l : List C} {H H' : Hp} {b o : Nat}, H.stores b o l = some H' -> H'.nx = H.nx /\ ∀ i, H.get i = none -> H'.get i = none
 | [], H, H', b, o, h => by simp [Hp.stores] at h; subst h; exact ⟨rfl, fun _ h => h⟩
 | c :: l, H, H', b, o, h => by
  simp only [Hp.stores] at h
  cases hs : H.store b o c with
  | none => simp [hs] at h
  | some H1 =>
   simp only [hs] at h
   obtain ⟨h1, h2⟩ := stores_keeps h
   unfold Hp.store at hs
   split at hs
   ·rename_i n z m hb
    split at hs
    ·obtain rfl := Option.some.inj hs
     refine ⟨h1, fun i hi => h2 i ?_⟩
     rw [Hp.get_add]
     split
     ·rename_i e; subst e; rw [hb] at hi; cases hi
     ·exact hi
    ·cases hs
   ·cases hs
theorem append_keeps {H H' : Hp} {esz bytes m : Nat} {s v : V} {news : List C} (h : aAppend H esz bytes s m news = some (v, H')) : H.nx <= H'.nx /\ ∀ b, b < H.nx -> H.get b = none -> H'.get b = none := by
 unfold aAppend at h
 split at h
 ·split at h
  ·simp only [Option.some.injEq, Prod.mk.injEq] at h; obtain ⟨_, rfl⟩ := h; exact ⟨Nat.le_refl _, fun _ _ h => h⟩
  ·split at h
   ·simp only [Option.some.injEq, Prod.mk.injEq] at h; obtain ⟨_, rfl⟩ := h
    exact ⟨by simp, fun b hb hn => by rw [Hp.get_push, if_neg (by omega)]; exact hn⟩
   ·cases h
 ·split at h
  ·cases h
  ·split at h
   ·simp only [Option.map_eq_some_iff, Prod.mk.injEq] at h
    obtain ⟨H1, hs, _, rfl⟩ := h
    have := stores_keeps hs
    exact ⟨by omega, fun b _ hb => this.2 b hb⟩
   ·split at h
    ·split at h
     ·cases h
     ·split at h
      ·simp only [Option.some.injEq, Prod.mk.injEq] at h; obtain ⟨_, rfl⟩ := h
       exact ⟨by simp, fun b hb hn => by rw [Hp.get_push, if_neg (by omega)]; exact hn⟩
      ·split at h
       ·simp only [Option.some.injEq, Prod.mk.injEq] at h; obtain ⟨_, rfl⟩ := h
        refine ⟨by simp, fun b hb hn => ?_⟩
        rw [Hp.get_del]
        split
        ·rfl
        ·rw [Hp.get_push, if_neg (by omega)]; exact hn
       ·cases h
    ·cases h
 ·cases h
theorem eff_keeps {F : T V} {H H' : Hp} {op : EffOp} {v : V} (h : aEff F H op = some (v, H')) : H.nx <= H'.nx /\ ∀ b, b < H.nx -> H.get b = none -> H'.get b = none := by
 cases op with
 | store n a x =>
  simp only [aEff] at h
  split at h
  ·split at h
   ·simp only [Option.map_eq_some_iff, Prod.mk.injEq] at h
    obtain ⟨H1, hs, _, rfl⟩ := h
    have := stores_keeps hs
    exact ⟨by omega, fun b _ hb => this.2 b hb⟩
   ·cases h
  ·cases h
 | append esz bytes s x =>
  simp only [aEff] at h
  split at h
  ·exact append_keeps h
  ·cases h
 | appendz esz bytes z s x =>
  simp only [aEff] at h
  split at h
  ·split at h
   ·exact append_keeps h
   ·cases h
  ·cases h
 | sbytes x =>
  simp only [aEff] at h
  split at h
  ·simp only [Option.some.injEq, Prod.mk.injEq] at h; obtain ⟨_, rfl⟩ := h
   exact ⟨by simp, fun b hb hn => by rw [Hp.get_push, if_neg (by omega)]; exact hn⟩
  ·cases h
 | copy esz d s =>
  simp only [aEff] at h
  split at h
  ·simp only [Option.some.injEq, Prod.mk.injEq] at h; obtain ⟨_, rfl⟩ := h; exact ⟨Nat.le_refl _, fun _ _ h => h⟩
  ·split at h
   ·simp only [Option.map_eq_some_iff, Prod.mk.injEq] at h
    obtain ⟨H1, hs, _, rfl⟩ := h
    have := stores_keeps hs
    exact ⟨by omega, fun b _ hb => this.2 b hb⟩
   ·cases h
  ·cases h
 | ent m =>
  have hH : H' = H := by
   simp only [aEff] at h
   split at h
   ·split at h
    ·split at h
     ·split at h
      ·split at h
       ·simp only [Option.some.injEq, Prod.mk.injEq] at h; exact h.2.symm
       ·cases h
      ·cases h
     ·cases h
    ·cases h
   ·cases h
  subst hH
  exact ⟨Nat.le_refl _, fun _ _ h => h⟩
 | rng m =>
  simp only [aEff] at h
  split at h
  ·split at h
   ·simp only [Option.some.injEq, Prod.mk.injEq] at h; obtain ⟨_, rfl⟩ := h
    exact ⟨by simp, fun b hb hn => by rw [Hp.get_push, if_neg (by omega)]; exact hn⟩
   ·cases h
  ·cases h
 | stupd m k x =>
  simp only [aEff] at h
  split at h
  ·split at h
   ·rename_i b _ _ _ _ _ _ es hb
    split at h
    ·simp only [Option.some.injEq, Prod.mk.injEq] at h; obtain ⟨_, rfl⟩ := h
     refine ⟨Nat.le_refl _, fun i _ hi => ?_⟩
     rw [Hp.get_add]
     split
     ·rename_i e; subst e; rw [hb] at hi; cases hi
     ·exact hi
    ·simp only [Option.some.injEq, Prod.mk.injEq] at h; obtain ⟨_, rfl⟩ := h
     refine ⟨Nat.le_refl _, fun i _ hi => ?_⟩
     rw [Hp.get_add]
     split
     ·rename_i e; subst e; rw [hb] at hi; cases hi
     ·exact hi
    ·cases h
   ·cases h
  ·cases h
 | mapupd m k x =>
  simp only [aEff] at h
  split at h
  ·split at h
   ·rename_i b _ es hb
    split at h
    ·split at h
     ·simp only [Option.some.injEq, Prod.mk.injEq] at h; obtain ⟨_, rfl⟩ := h
      refine ⟨Nat.le_refl _, fun i _ hi => ?_⟩
      rw [Hp.get_add]
      split
      ·rename_i e; subst e; rw [hb] at hi; cases hi
      ·exact hi
     ·simp only [Option.some.injEq, Prod.mk.injEq] at h; obtain ⟨_, rfl⟩ := h
      refine ⟨Nat.le_refl _, fun i _ hi => ?_⟩
      rw [Hp.get_add]
      split
      ·rename_i e; subst e; rw [hb] at hi; cases hi
      ·exact hi
     ·cases h
    ·cases h
   ·cases h
  ·cases h
 | clear esz z x =>
  simp only [aEff] at h
  split at h
  ·simp only [Option.some.injEq, Prod.mk.injEq] at h; obtain ⟨_, rfl⟩ := h; exact ⟨Nat.le_refl _, fun _ _ h => h⟩
  ·split at h
   ·simp only [Option.map_eq_some_iff, Prod.mk.injEq] at h
    obtain ⟨H1, hs, _, rfl⟩ := h
    have := stores_keeps hs
    exact ⟨by omega, fun b _ hb => this.2 b hb⟩
   ·cases h
  ·cases h
theorem Free.of_keeps {ks : List Nat} {H H' : Hp} (hf : Free base ks H) (h : H.nx <= H'.nx /\ ∀ b, b < H.nx -> H.get b = none -> H'.get b = none) : Free base ks H' :=
 fun k hk => ⟨by have := (hf k hk).1; omega, h.2 _ (hf k hk).1 (hf k hk).2⟩
theorem Free.of_alloc {ks : List Nat} {H : Hp} {o : SOper} (hf : Free base ks H) (bk : B) (hk : ∀ k, o.aid = some k -> k ∉ ks) : Free base ks (allocHp base o H bk) := by
 unfold allocHp
 cases hai : o.aid with
 | none => exact fun k hk' => ⟨by have := (hf k hk').1; simp; omega, by rw [Hp.get_push, if_neg (by have := (hf k hk').1; omega)]; exact (hf k hk').2⟩
 | some j =>
  refine fun k hk' => ⟨(hf k hk').1, ?_⟩
  rw [Hp.get_add, if_neg (fun e => hk j hai (by have : k = j := by omega
                                                rw [<- this]; exact hk'))]
  exact (hf k hk').2
end
end Go.Ab

namespace Go.Ab
section
variable {P : Program} {G base : Nat} {Q : T V -> Hp -> Prop}
abbrev CtxSt := CtxSt0
theorem CtxSt.of {ctx : Ctx} (h : CtxSt ctx) (o : SOper) (op : LoadOp) (F : T V) (v : V) : CtxSt (ctxOf o op F v ctx) := CtxSt0.of h _ _ _ _ _
theorem step_mono {o : SOper} {r1 r2 : List SOper} {ctx : Ctx} {F : T V} {H : Hp} {ks : List Nat} (hst : CtxSt ctx) (hf : Free base ks H) (hai : ∀ k, o.aid = some k -> k ∉ ks)
    (hr : ∀ ctx v H', CtxSt ctx -> Free base ks H' -> wOps P G base Q r1 ctx (setO F o.dst v) H' -> wOps P G base Q r2 ctx (setO F o.dst v) H') (h : wOps P G base Q (o :: r1) ctx F H) : wOps P G base Q (o :: r2) ctx F H := by
  rcases wOps_inv h with ⟨v, hp, h⟩|⟨hw, op, v, hop, hv, h⟩|⟨hw, op, bk, g, hop, hv, h⟩|⟨hw, op, v, H', hop, hv, hwa, h⟩|⟨hw, _, f, args, hc, h⟩
  · exact wOps_plain hp (hr _ _ _ hst hf h)
  · exact wOps_load hw hop hv (hr _ _ _ (CtxSt.of hst _ _ _ _) hf h)
  · exact wOps_alloc hw hop hv (hr _ _ _ hst (hf.of_alloc bk hai) h)
  · exact wOps_eff hw hop hv hwa (hr _ _ _ hst (hf.of_keeps (eff_keeps hv)) h)
  · exact wOps_call hw hc (h.keeps.mono fun v H' hh => ⟨hh.1.1, hr _ _ _ hst (hf.of_keeps hh.2) hh.1.2⟩)
theorem alloc_mut {F : T V} {op : AllocOp} {bk : B} {g : Nat -> V} (h : aAlloc F op = some (bk, g)) : bk.mut = true := by
  cases op <;> simp only [aAlloc] at h
  case alloc => simp only [Option.some.injEq, Prod.mk.injEq] at h; rw [<- h.1]; rfl
  case mkmap => simp only [Option.some.injEq, Prod.mk.injEq] at h; rw [<- h.1]; rfl
  case mkst => simp only [Option.some.injEq, Prod.mk.injEq] at h; rw [<- h.1]; rfl
  all_goals (split at h <;> try (cases h; done))
  all_goals first
    | (simp only [Option.some.injEq, Prod.mk.injEq] at h; rw [<- h.1]; rfl)
    | (split at h
       · simp only [Option.some.injEq, Prod.mk.injEq] at h; rw [<- h.1]; rfl
       · cases h)
theorem Plain.blind {s : SOper} {d : Option Nat} (hb : Blind s d) {F : T V} {u v : V} : Plain s (setO F d u) v ↔ Plain s F v := by
  unfold Plain
  rw [hb.wanted]
  constructor
  · rintro (h|⟨hw, op, hop, hv⟩)
    · exact .inl h
    · exact .inr ⟨hw, op, hop, by rwa [hb.pure F u op hop] at hv⟩
  · rintro (h|⟨hw, op, hop, hv⟩)
    · exact .inl h
    · exact .inr ⟨hw, op, hop, by rwa [hb.pure F u op hop]⟩
theorem callOf_blind {s : SOper} {d : Option Nat} (hb : Blind s d) {F : T V} {u : V} : callOf P s.op (setO F d u) = callOf P s.op F := by
  cases hop : s.op with
  | cf f args => simp only [callOf, hb.cf F u f args hop]
  | cv x args => obtain ⟨h1, h2⟩ := hb.cv F u x args hop; simp only [callOf, h1, h2]
  | nx x => simp only [callOf, hb.nx F u x hop]
  | _ => rfl
def HasVal (x : SOper) (F : T V) : Prop := wantedA x.guard F = true -> (∀ op, x.op = .p op -> ∃ v, aPure F op = some v) /\ (∀ op, x.op = .a op -> ∃ bg, aAlloc F op = some bg)
theorem HasVal.blind {x : SOper} {d : Option Nat} (hb : Blind x d) {F : T V} {u : V} : HasVal x (setO F d u) ↔ HasVal x F := by
  unfold HasVal
  rw [hb.wanted]
  constructor
  · intro h hw
    refine ⟨fun op hop => ?_, fun op hop => ?_⟩
    · have := (h hw).1 op hop; rwa [hb.pure _ _ _ hop] at this
    · have := (h hw).2 op hop; rwa [hb.alloc _ _ _ hop] at this
  · intro h hw
    refine ⟨fun op hop => ?_, fun op hop => ?_⟩
    · rw [hb.pure _ _ _ hop]; exact (h hw).1 op hop
    · rw [hb.alloc _ _ _ hop]; exact (h hw).2 op hop
theorem swap {y x : SOper} {r : List SOper} {ctx : Ctx} {F : T V} {H : Hp} (hok : swapOk y x = true) (hst : CtxSt ctx) (hval : HasVal x F) (hfr : ∀ k, (x.aid = some k \/ y.aid = some k) -> base + k < H.nx /\ H.get (base + k) = none)
    (h : wOps P G base Q (y :: x :: r) ctx F H) : wOps P G base Q (x :: y :: r) ctx F H := by
  unfold swapOk at hok
  rw [Bool.and_eq_true] at hok
  obtain ⟨htm, hkd⟩ := hok
  obtain ⟨t1, t2⟩ := tmOk_spec htm
  have bx : Blind x y.dst := Blind.mk' fun k hk => ⟨(t1 k hk).1, (t1 k hk).2.1⟩
  have by_ : Blind y x.dst := Blind.mk' fun k hk => t2 k hk
  have hcomm : ∀ (F : T V) (u v : V), setO (setO F y.dst u) x.dst v = setO (setO F x.dst v) y.dst u := fun F u v => setO_comm fun k hk => (t1 k hk).2.2
  rcases wOps_inv h with ⟨vy, hpy, h⟩|⟨hwy, opy, vy, hopy, hvy, h⟩|⟨hwy, opy, bky, gy, hopy, hvy, h⟩|⟨hwy, opy, vy, Hy, hopy, hvy, hway, h⟩|⟨hwy, hky, fy, argsy, hcy, h⟩
  · -- y is plain
    rcases wOps_inv h with ⟨vx, hpx, h⟩|⟨hwx, opx, vx, hopx, hvx, h⟩|⟨hwx, opx, bkx, gx, hopx, hvx, h⟩|⟨hwx, opx, vx, Hx, hopx, hvx, hwax, h⟩|⟨hwx, hkx, fx, argsx, hcx, h⟩
    · rw [Plain.blind bx] at hpx
      exact wOps_plain hpx (wOps_plain ((Plain.blind by_).2 hpy) (by rw [<- hcomm]; exact h))
    · rw [bx.wanted] at hwx
      rw [bx.load _ _ _ _ hopx] at hvx
      refine wOps_load hwx hopx hvx (wOps_plain ((Plain.blind by_).2 hpy) ?_)
      rw [<- hcomm]
      refine ctx_mono (fun z hz => ?_) h
      unfold ctxOf at hz ⊢
      cases hk : x.keep with
      | false => simp only [hk, Bool.false_eq_true, if_false] at hz ⊢; exact hz
      | true =>
        simp only [hk, if_true, List.mem_cons] at hz ⊢
        rcases hz with rfl|hz
        · left
          congr 1
          funext H'
          rw [bx.load _ _ _ _ hopx]
        · exact .inr hz
    · rw [bx.wanted] at hwx
      rw [bx.alloc _ _ _ hopx] at hvx
      exact wOps_alloc hwx hopx hvx (wOps_plain ((Plain.blind by_).2 hpy) (by rw [<- hcomm]; exact h))
    · rw [bx.wanted] at hwx
      rw [bx.eff _ _ _ _ hopx] at hvx
      exact wOps_eff hwx hopx hvx hwax (wOps_plain ((Plain.blind by_).2 hpy) (by rw [<- hcomm]; exact h))
    · rw [bx.wanted] at hwx
      rw [callOf_blind bx] at hcx
      exact wOps_call hwx hcx (h.mono fun v H' hh => ⟨hh.1, wOps_plain ((Plain.blind by_).2 hpy) (by rw [<- hcomm]; exact hh.2)⟩)
  · -- y loads
    have hyl : ∀ (F' : T V) (v : V) (H' : Hp), F' = setO F x.dst v -> aLoad F H' opy = some vy -> ∀ c, (∀ z, z ∈ c -> z ∈ ctx) -> wOps P G base Q r (ctxOf y opy F vy c) (setO F' y.dst vy) H' -> wOps P G base Q (y :: r) c F' H' := by
      rintro F' v H' rfl hv c hc hh
      refine wOps_load (by rw [by_.wanted]; exact hwy) hopy (by rw [by_.load _ _ _ _ hopy]; exact hv) ?_
      refine ctx_mono (fun z hz => ?_) hh
      unfold ctxOf at hz ⊢
      cases hk : y.keep with
      | false => simp only [hk, Bool.false_eq_true, if_false] at hz ⊢; exact hz
      | true =>
        simp only [hk, if_true, List.mem_cons] at hz ⊢
        rcases hz with rfl|hz
        · left
          congr 1
          funext H'
          rw [by_.load _ _ _ _ hopy]
        · exact .inr hz
    rcases wOps_inv h with ⟨vx, hpx, h⟩|⟨hwx, opx, vx, hopx, hvx, h⟩|⟨hwx, opx, bkx, gx, hopx, hvx, h⟩|⟨hwx, opx, vx, Hx, hopx, hvx, hwax, h⟩|⟨hwx, hkx, fx, argsx, hcx, h⟩
    · rw [Plain.blind bx] at hpx
      exact wOps_plain hpx (hyl _ vx H rfl hvy ctx (fun _ h => h) (by rw [<- hcomm]; exact h))
    · rw [bx.wanted] at hwx
      rw [bx.load _ _ _ _ hopx] at hvx
      refine wOps_load hwx hopx hvx ?_
      refine wOps_load (by rw [by_.wanted]; exact hwy) hopy (by rw [by_.load _ _ _ _ hopy]; exact hvy) ?_
      rw [<- hcomm]
      refine ctx_mono (fun z hz => ?_) h
      unfold ctxOf at hz ⊢
      have e1 : ∀ u : V, (fun H' => aLoad (setO F y.dst u) H' opx = some vx) = fun H' => aLoad F H' opx = some vx := fun u => by funext H'; rw [bx.load _ _ _ _ hopx]
      have e2 : ∀ u : V, (fun H' => aLoad (setO F x.dst u) H' opy = some vy) = fun H' => aLoad F H' opy = some vy := fun u => by funext H'; rw [by_.load _ _ _ _ hopy]
      rw [e2] at hz
      rw [e1]
      cases hk : y.keep <;> cases hk' : x.keep <;> simp only [hk, hk', Bool.false_eq_true, if_false, if_true, List.mem_cons] at hz ⊢
      · exact hz
      · exact hz
      · exact hz
      · rcases hz with hz|hz|hz
        · exact .inr (.inl hz)
        · exact .inl hz
        · exact .inr (.inr hz)
    · rw [bx.wanted] at hwx
      rw [bx.alloc _ _ _ hopx] at hvx
      rw [hopy, hopx] at hkd
      simp only [SOp.kd] at hkd
      obtain ⟨k, hk⟩ := Option.isSome_iff_exists.1 hkd
      have hfree := hfr k (.inl hk)
      refine wOps_alloc hwx hopx hvx ?_
      refine hyl _ _ _ rfl ?_ ctx (fun _ h => h) (by rw [<- hcomm]; exact h)
      unfold allocHp
      simp only [hk]
      exact load_add hfree.2 hvy
    · rw [bx.wanted] at hwx
      rw [bx.eff _ _ _ _ hopx] at hvx
      rw [hopy, hopx] at hkd
      simp only [SOp.kd, Bool.and_eq_true] at hkd
      have hwat : aLoad F Hx opy = some vy := by
        have hmem : y.id ∈ x.watch := by simpa using hkd.2
        cases hws : x.watch with
        | nil => rw [hws] at hmem; cases hmem
        | cons a l =>
          rw [hws] at hwax hmem
          exact hwax y.id hmem (fun H' => aLoad F H' opy = some vy) (by unfold ctxOf; rw [if_pos hkd.1]; exact List.mem_cons_self ..)
      refine wOps_eff hwx hopx hvx (watch_mono (fun z hz => ?_) hwax) (hyl _ vx Hx rfl hwat ctx (fun _ h => h) (by rw [<- hcomm]; exact h))
      unfold ctxOf
      split
      · exact List.mem_cons_of_mem _ hz
      · exact hz
    · rw [bx.wanted] at hwx
      rw [callOf_blind bx] at hcx
      rw [hopy, hkx] at hkd
      simp only [SOp.kd, Bool.and_eq_true] at hkd
      have hmem : y.id ∈ x.watch := by simpa using hkd.2
      refine wOps_call hwx hcx (h.mono fun v H' hh => ?_)
      have hwat : aLoad F H' opy = some vy := by
        have hwax := hh.1
        cases hws : x.watch with
        | nil => rw [hws] at hmem; cases hmem
        | cons a l =>
          rw [hws] at hwax hmem
          exact hwax y.id hmem (fun H' => aLoad F H' opy = some vy) (by unfold ctxOf; rw [if_pos hkd.1]; exact List.mem_cons_self ..)
      refine ⟨watch_mono (fun z hz => ?_) hh.1, hyl _ v H' rfl hwat ctx (fun _ h => h) (by rw [<- hcomm]; exact hh.2)⟩
      unfold ctxOf
      split
      · exact List.mem_cons_of_mem _ hz
      · exact hz
  · -- y makes a block
    rcases wOps_inv h with ⟨vx, hpx, h⟩|⟨hwx, opx, vx, hopx, hvx, h⟩|⟨hwx, opx, bkx, gx, hopx, hvx, h⟩|⟨hwx, opx, vx, Hx, hopx, hvx, hwax, h⟩|⟨hwx, hkx, fx, argsx, hcx, h⟩
    · rw [Plain.blind bx] at hpx
      exact wOps_plain hpx (wOps_alloc (by rw [by_.wanted]; exact hwy) hopy (by rw [by_.alloc _ _ _ hopy]; exact hvy) (by rw [<- hcomm]; exact h))
    · rw [hopy, hopx] at hkd; simp [SOp.kd] at hkd
    · rw [bx.wanted] at hwx
      rw [bx.alloc _ _ _ hopx] at hvx
      rw [hopy, hopx] at hkd
      simp only [SOp.kd, Bool.and_eq_true] at hkd
      obtain ⟨k, hk⟩ := Option.isSome_iff_exists.1 hkd.1.1
      obtain ⟨j, hj⟩ := Option.isSome_iff_exists.1 hkd.1.2
      have hne : k ≠ j := by
        have := hkd.2
        rw [hk, hj] at this
        simpa using this
      refine wOps_alloc hwx hopx hvx (wOps_alloc (by rw [by_.wanted]; exact hwy) hopy (by rw [by_.alloc _ _ _ hopy]; exact hvy) ?_)
      rw [<- hcomm]
      have e1 : allocAt base x (allocHp base y H bky) = allocAt base x H := by unfold allocAt; simp only [hj]
      have e2 : allocAt base y (allocHp base x H bkx) = allocAt base y H := by unfold allocAt; simp only [hk]
      have e3 : allocHp base y (allocHp base x H bkx) bky = allocHp base x (allocHp base y H bky) bkx := by
        unfold allocHp
        simp only [hk, hj]
        unfold Hp.add
        rw [T.set_comm _ _ _ (show base + j ≠ base + k by omega)]
      rw [e2, e3]
      rw [e1] at h
      exact h
    · rw [hopy, hopx] at hkd; simp [SOp.kd] at hkd
    · rw [hopy, hkx] at hkd; simp [SOp.kd] at hkd
  · -- y writes
    rcases wOps_inv h with ⟨vx, hpx, h⟩|⟨hwx, opx, vx, hopx, hvx, h⟩|⟨hwx, opx, bkx, gx, hopx, hvx, h⟩|⟨hwx, opx, vx, Hx, hopx, hvx, hwax, h⟩|⟨hwx, hkx, fx, argsx, hcx, h⟩
    · rw [Plain.blind bx] at hpx
      exact wOps_plain hpx (wOps_eff (by rw [by_.wanted]; exact hwy) hopy (by rw [by_.eff _ _ _ _ hopy]; exact hvy) hway (by rw [<- hcomm]; exact h))
    · rw [hopy, hopx] at hkd; simp [SOp.kd] at hkd
    · rw [hopy, hopx] at hkd; simp [SOp.kd] at hkd
    · rw [hopy, hopx] at hkd; simp [SOp.kd] at hkd
    · rw [hopy, hkx] at hkd; simp [SOp.kd] at hkd
  · -- y calls
    cases hwx : wantedA x.guard F with
    | false =>
      refine wOps_plain (.inl ⟨hwx, rfl⟩) (wOps_call (by rw [by_.wanted]; exact hwy) (by rw [callOf_blind by_]; exact hcy) (h.mono fun v H' hh => ⟨hh.1, ?_⟩))
      rw [<- hcomm]
      have h2 := hh.2
      rw [wOps, bx.wanted, hwx] at h2
      simpa using h2
    | true =>
      cases hopx : x.op with
      | p op =>
        obtain ⟨vx, hv⟩ := (hval hwx).1 op hopx
        refine wOps_plain (v := vx) (.inr ⟨hwx, op, hopx, hv⟩) (wOps_call (by rw [by_.wanted]; exact hwy) (by rw [callOf_blind by_]; exact hcy) (h.mono fun v H' hh => ⟨hh.1, ?_⟩))
        rw [<- hcomm]
        have h2 := hh.2
        rw [wOps, bx.wanted, hwx] at h2
        simp only [if_true, hopx, bx.pure _ _ _ hopx, hv] at h2
        exact h2
      | a op =>
        obtain ⟨⟨bk, g⟩, hv⟩ := (hval hwx).2 op hopx
        rw [hky, hopx] at hkd
        simp only [SOp.kd] at hkd
        obtain ⟨k, hk⟩ := Option.isSome_iff_exists.1 hkd
        obtain ⟨hlt, hnone⟩ := hfr k (.inl hk)
        refine wOps_alloc hwx hopx hv (wOps_call (by rw [by_.wanted]; exact hwy) (by rw [callOf_blind by_]; exact hcy) ?_)
        have e1 : allocHp base x H bk = H.add (base + k) bk := by unfold allocHp; simp only [hk]
        have e2 : allocAt base x H = base + k := by unfold allocAt; simp only [hk]
        rw [e1, e2]
        refine (h.keeps.frame hlt hnone (alloc_mut hv)).mono ?_
        rintro v H'' ⟨H', ⟨⟨hw1, hw2⟩, hnx, hfree⟩, rfl⟩
        refine ⟨?_, ?_⟩
        · -- what is watched is still there
          have := hw1
          cases hws : y.watch with
          | nil => trivial
          | cons a l =>
            rw [hws] at this
            exact fun j hj p hp => hst j p hp _ _ _ (hfree _ hlt hnone) (this j hj p hp)
        · rw [<- hcomm]
          rw [wOps, bx.wanted, hwx] at hw2
          simp only [if_true, hopx, bx.alloc _ _ _ hopx, hv, hk] at hw2
          exact hw2
      | l op => rw [hky, hopx] at hkd; simp [SOp.kd] at hkd
      | e op => rw [hky, hopx] at hkd; simp [SOp.kd] at hkd
      | cf f args => rw [hky, hopx] at hkd; simp [SOp.kd] at hkd
      | cv f args => rw [hky, hopx] at hkd; simp [SOp.kd] at hkd
      | nx x => rw [hky, hopx] at hkd; simp [SOp.kd] at hkd
      | no => rw [hky, hopx] at hkd; simp [SOp.kd] at hkd
theorem pull {x : SOper} {post : List SOper} : ∀ {pre : List SOper} {ctx : Ctx} {F : T V} {H : Hp}, (∀ y ∈ pre, swapOk y x = true) -> CtxSt ctx -> HasVal x F ->
    (∀ k ∈ (pre ++ [x]).filterMap (·.aid), base + k < H.nx /\ H.get (base + k) = none) -> ((pre ++ [x]).filterMap (·.aid)).Nodup ->
    wOps P G base Q (pre ++ x :: post) ctx F H -> wOps P G base Q (x :: (pre ++ post)) ctx F H
  | [], _, _, _, _, _, _, _, _, h => h
  | y :: pre, ctx, F, H, hok, hst, hval, hfr, hnd, h => by
    have hy := hok y (by simp)
    have hb : Blind x y.dst := by
      have := hy
      unfold swapOk at this
      rw [Bool.and_eq_true] at this
      obtain ⟨t1, _⟩ := tmOk_spec this.1
      exact Blind.mk' fun k hk => ⟨(t1 k hk).1, (t1 k hk).2.1⟩
    have hfm : ∀ k, y.aid = some k -> k ∉ (pre ++ [x]).filterMap (·.aid) := fun k hk => by
      simp only [List.cons_append, List.filterMap_cons, hk, List.nodup_cons] at hnd
      exact hnd.1
    have hnd' : ((pre ++ [x]).filterMap (·.aid)).Nodup := by
      simp only [List.cons_append, List.filterMap_cons] at hnd
      cases hy' : y.aid with
      | none => rw [hy'] at hnd; exact hnd
      | some k => rw [hy'] at hnd; exact (List.nodup_cons.1 hnd).2
    have hfr' : Free base ((pre ++ [x]).filterMap (·.aid)) H := fun k hk => hfr k (by
      simp only [List.cons_append, List.filterMap_cons]
      cases y.aid with
      | none => exact hk
      | some j => exact List.mem_cons_of_mem _ hk)
    have h1 : wOps P G base Q (y :: x :: (pre ++ post)) ctx F H := step_mono hst hfr' hfm (fun ctx' v H' hst' hf' hh => pull (fun z hz => hok z (by simp [hz])) hst' ((HasVal.blind hb).2 hval) hf' hnd' hh) h
    refine swap hy hst hval (fun k hk => ?_) h1
    rcases hk with hk|hk
    · exact hfr' k (by simp [hk])
    · exact hfr k (by simp [hk])
end
end Go.Ab

namespace Go.Ab
section
variable {P : Program} {G n base : Nat} {Q : T V -> Hp -> Prop}
theorem wpOp_const {ρ : Option Nat} {nn : Nat} {ops : Array Oper} {i : Nat} {a : Act} {w : World} {T : Prop} (h : wpOpIn (fen ρ) nn P ops (fun _ _ _ => False) i (fun _ _ => T) a w) : T := by
  unfold wpOpIn at h
  split at h
  · exact h
  · rename_i o ho
    split at h
    · unfold Oper.wpIn at h
      replace h := h.2
      generalize (o.semAt (fen ρ).round a.eval).run P w = r at h
      cases r with
      | ok nx w' =>
        cases nx <;> simp only [Oper.uponIn] at h <;> first
          | exact h
          | (obtain ⟨_, h⟩ := h
             obtain ⟨e, w'', fr, hR, _⟩ := h.2 [] fen_room
             cases e with
             | returned v => exact hR
             | panicked c => exact hR.elim
             | outgrown => obtain ⟨_, _, hh⟩ := hR; exact hh.elim)
          | (obtain ⟨_, h⟩ := h
             obtain ⟨e, w'', hR, _⟩ := h.2 default [] fen_room
             cases e with
             | returned v => exact hR
             | panicked c => exact hR.elim
             | outgrown => obtain ⟨_, _, hh⟩ := hR; exact hh.elim)
          | (obtain ⟨v, w'', hR, _⟩ := h.2 default [] fen_room; exact hR)
          | exact h.elim
      | halt hh w' => cases hh <;> simp only [Oper.uponIn] at h <;> first|exact h.elim|exact h
    · exact h.2
theorem hasVal_head {x : SOper} {post : List SOper} {ctx : Ctx} {F : T V} {H : Hp} (h : wOps P G base Q (x :: post) ctx F H) : HasVal x F := by
  intro hw
  rw [wOps, hw] at h
  simp only [if_true] at h
  refine ⟨fun op hop => ?_, fun op hop => ?_⟩
  · rw [hop] at h
    simp only at h
    cases hv : aPure F op with
    | none => simp [hv] at h
    | some v => exact ⟨v, rfl⟩
  · rw [hop] at h
    simp only at h
    cases hv : aAlloc F op with
    | none => simp [hv] at h
    | some v => exact ⟨v, rfl⟩
theorem reach {ops : Array Oper} {x : SOper} {post : List SOper} {μ0 : Nat -> Pl} {K0 : Nat -> Prop} {H0 : Hp} {w0 : World} (hlt0 : ∀ b bk, H0.get b = some bk -> b < H0.nx) :
    ∀ {pre : List SOper} {idx : List Nat} {ctx : Ctx} {F : T V} {H : Hp} {μ : Nat -> Pl} {K : Nat -> Prop} {a : Act} {w : World}, Aligned P G n ops idx pre -> (∀ y ∈ pre, Blind x y.dst) -> Rel G μ K H w -> FRel μ K n F a.tmps -> Fr μ0 K0 H0 w0 μ K H w ->
      (∀ y ∈ pre, ∀ k, y.aid = some k -> ¬ K (base + k) /\ base + k < H.nx /\ H0.nx <= base + k) -> (pre.filterMap (·.aid)).Nodup ->
      wOps P G base Q (pre ++ x :: post) ctx F H -> HasVal x F
  | [], [], ctx, F, H, μ, K, a, w, _, _, _, _, _, _, _, h => hasVal_head h
  | y :: pre, i :: idx, ctx, F, H, μ, K, a, w, hal, hbl, hR, hF, hFr, hrs, hnd, h => by
    obtain ⟨⟨o, ho, hfit⟩, hal'⟩ := hal
    have key : wpOpIn (fen none) 0 P ops (fun _ _ _ => False) i (fun _ _ => HasVal x F) a w := by
      refine op_ok hlt0 ho hfit hR hF hFr (hrs y (by simp)) h fun μ' K' F' H' a' w' ctx' h1 h2 h3 _ h5 h6 h7 _ h8 => ?_
      obtain ⟨v, rfl⟩ := h7
      have hnd' : (pre.filterMap (·.aid)).Nodup /\ ∀ k, y.aid = some k -> k ∉ pre.filterMap (·.aid) := by
        simp only [List.filterMap_cons] at hnd
        cases hy : y.aid with
        | none => rw [hy] at hnd; exact ⟨hnd, by simp⟩
        | some k => rw [hy] at hnd; exact ⟨(List.nodup_cons.1 hnd).2, fun j hj => by obtain rfl := Option.some.inj hj; exact (List.nodup_cons.1 hnd).1⟩
      have := reach hlt0 hal' (fun z hz => hbl z (by simp [hz])) h1 h2 h3 (fun z hz k hk => by
        obtain ⟨g1, g2, g3⟩ := hrs z (by simp [hz]) k hk
        refine ⟨fun hk' => ?_, by omega, g3⟩
        rcases h6 _ g2 hk' with h|⟨j, hj, he⟩
        · exact g1 h
        · exact hnd'.2 j hj (by
            have : j = k := by omega
            rw [this]
            exact List.mem_filterMap.2 ⟨z, hz, hk⟩)) hnd'.1 h8
      exact (HasVal.blind (hbl y (by simp))).1 this
    exact wpOp_const key
  | [], _ :: _, _, _, _, _, _, _, _, h, _, _, _, _, _, _, _ => h.elim
  | _ :: _, [], _, _, _, _, _, _, _, h, _, _, _, _, _, _, _ => h.elim
def PairsOk (D : Nat -> List Nat) : List Nat -> List SOper -> Prop
  | i :: idx, s :: l => (∀ j t, (j, t) ∈ idx.zip l -> i ∈ D j \/ swapOk s t = true) /\ PairsOk D idx l
  | _, _ => True
theorem Aligned.len {ops : Array Oper} : ∀ {idx : List Nat} {l : List SOper}, Aligned P G n ops idx l -> idx.length = l.length
  | [], [], _ => rfl
  | _ :: _, _ :: _, h => by simp [Aligned.len h.2]
  | [], _ :: _, h => h.elim
  | _ :: _, [], h => h.elim
theorem Aligned.split {ops : Array Oper} {D : Nat -> List Nat} : ∀ {idx : List Nat} {l : List SOper} {i : Nat}, Aligned P G n ops idx l -> PairsOk D idx l -> i ∈ idx ->
    ∃ pi qi pre x post, idx = pi ++ i :: qi /\ l = pre ++ x :: post /\ Aligned P G n ops pi pre /\ (∃ o, ops[i]? = some o /\ Fits P G n ops o x) /\ Aligned P G n ops (pi ++ qi) (pre ++ post) /\ PairsOk D (pi ++ qi) (pre ++ post) /\
      (∀ y ∈ pre, ∃ j ∈ pi, j ∈ D i \/ swapOk y x = true)
  | j :: idx, s :: l, i, hal, hp, hi => by
    by_cases e : i = j
    · subst e
      exact ⟨[], idx, [], s, l, rfl, rfl, trivial, hal.1, hal.2, hp.2, by simp⟩
    · have hi' : i ∈ idx := by
        rcases List.mem_cons.1 hi with h|h
        · exact absurd h e
        · exact h
      obtain ⟨pi, qi, pre, x, post, h1, h2, h3, h4, h5, h6, h7⟩ := Aligned.split hal.2 hp.2 hi'
      have hl1 : pi.length = pre.length := h3.len
      refine ⟨j :: pi, qi, s :: pre, x, post, by rw [h1]; rfl, by rw [h2]; rfl, ⟨hal.1, h3⟩, h4, ⟨hal.1, h5⟩, ⟨fun j' t hjt => hp.1 j' t ?_, h6⟩, fun y hy => ?_⟩
      · rw [h1, h2, List.zip_append hl1]
        have hjt' : (j', t) ∈ (pi ++ qi).zip (pre ++ post) := hjt
        rw [List.zip_append hl1] at hjt'
        rcases List.mem_append.1 hjt' with h|h
        · exact List.mem_append.2 (.inl h)
        · exact List.mem_append.2 (.inr (by simp [h]))
      · rcases List.mem_cons.1 hy with rfl|hy
        · refine ⟨j, by simp, hp.1 i x ?_⟩
          rw [h1, h2, List.zip_append hl1]
          exact List.mem_append.2 (.inr (by simp))
        · obtain ⟨j', hj', hh⟩ := h7 y hy
          exact ⟨j', by simp [hj'], hh⟩
  | [], _, _, _, _, hi => by cases hi
  | _ :: _, [], _, hal, _, _ => hal.elim
theorem any_ok {ρ : Option Nat} {nn : Nat} {DD : List Deferred} {ops : Array Oper} {D : Nat -> List Nat} {μ0 : Nat -> Pl} {K0 : Nat -> Prop} {H0 : Hp} {w0 : World} (hlt0 : ∀ b bk, H0.get b = some bk -> b < H0.nx) {Q' : Exit -> Act -> World -> Prop}
    (hQ : ∀ μ K F H a w, Q F H -> Rel G μ K H w -> FRel μ K n F a.tmps -> Fr μ0 K0 H0 w0 μ K H w -> a.defers = DD -> Q' .normal a w)
    (hD : ∀ i o, ops[i]? = some o -> ∀ j ∈ D i, ∃ e ∈ o.after.toList, Region.binds .any e = true /\ (e.on = j \/ j ∈ D e.on))
    (hlow : ∀ i o, ops[i]? = some o -> ∀ e ∈ o.after.toList, Region.binds .any e = true -> e.on < i) :
    ∀ {fuel : Nat} {listed : Array Bool} {idx : List Nat} {l : List SOper} {ctx : Ctx} {F : T V} {H : Hp} {μ : Nat -> Pl} {K : Nat -> Prop} {a : Act} {w : World},
      listed.size = ops.size -> (∀ i, i < ops.size -> (listed.getD i true = false ↔ i ∈ idx)) -> (∀ i ∈ idx, i < ops.size) -> idx.Nodup -> idx.length <= fuel ->
      (∀ i, i < ops.size -> i ∉ idx -> ∀ j ∈ D i, j ∉ idx) -> Aligned P G n ops idx l -> PairsOk D idx l -> (l.filterMap (·.aid)).Nodup -> CtxSt ctx ->
      (∀ s ∈ l, ∀ k, s.aid = some k -> ¬ K (base + k) /\ base + k < H.nx /\ H0.nx <= base + k) ->
      Rel G μ K H w -> FRel μ K n F a.tmps -> Fr μ0 K0 H0 w0 μ K H w -> a.defers = DD -> wOps P G base Q l ctx F H -> wpAnyIn (fen ρ) nn P .any ops Q' fuel listed a w := by
  intro fuel
  induction fuel with
  | zero =>
    intro listed idx l ctx F H μ K a w hsz hlist hin hnd hlen hdc hal hp haid hst hrs hR hF hFr hd h
    have hidx : idx = [] := List.eq_nil_of_length_eq_zero (by omega)
    subst hidx
    cases l with
    | cons s l => exact hal.elim
    | nil =>
      refine ⟨?_, hQ μ K F H a w h hR hF hFr hd⟩
      unfold Region.ready
      rw [List.filter_eq_nil_iff]
      intro i hi
      have hi' : i < ops.size := by simpa using hi
      have := (hlist i hi').1
      cases hl : listed.getD i true with
      | true => simp
      | false => exact absurd (this hl) (by simp)
  | succ fuel ih =>
    intro listed idx l ctx F H μ K a w hsz hlist hin hnd hlen hdc hal hp haid hst hrs hR hF hFr hd h
    refine ⟨fun hready => ?_, fun i hi => ?_⟩
    · -- nothing is ready: then nothing is left
      have hidx : idx = [] := by
        cases hid : idx with
        | nil => rfl
        | cons i0 rest =>
          exfalso
          obtain ⟨m, hm, hmin⟩ : ∃ m ∈ idx, ∀ j ∈ idx, m <= j := by
            have : ∀ (l : List Nat), l ≠ [] -> ∃ m ∈ l, ∀ j ∈ l, m <= j := by
              intro l
              induction l with
              | nil => intro h; exact absurd rfl h
              | cons x l ihl =>
                intro _
                by_cases hl : l = []
                · subst hl; exact ⟨x, by simp, by simp⟩
                · obtain ⟨m, hm, hmin⟩ := ihl hl
                  by_cases hx : x <= m
                  · exact ⟨x, by simp, fun j hj => by
                      rcases List.mem_cons.1 hj with rfl|hj
                      · exact Nat.le_refl _
                      · exact Nat.le_trans hx (hmin j hj)⟩
                  · exact ⟨m, by simp [hm], fun j hj => by
                      rcases List.mem_cons.1 hj with rfl|hj
                      · omega
                      · exact hmin j hj⟩
            exact this idx (by rw [hid]; simp)
          have hms := hin m hm
          have hmr : m ∈ Region.ready .any ops listed := by
            unfold Region.ready
            rw [List.mem_filter]
            refine ⟨by simpa using hms, ?_⟩
            rw [(hlist m hms).2 hm]
            have ho : ops[m]? = some ops[m] := Array.getElem?_eq_getElem hms
            rw [ho]
            simp only [Bool.not_false, Bool.true_and, Option.map_some, Option.getD_some]
            rw [Array.all_eq_true_iff_forall_mem]
            intro e he
            cases hb : Region.binds .any e with
            | false => rfl
            | true =>
              have hlt := hlow m _ ho e (by simpa using he) hb
              have hes : e.on < ops.size := by omega
              have hne : e.on ∉ idx := fun h => absurd (hmin _ h) (by omega)
              have hl : listed.getD e.on true ≠ false := fun h => hne ((hlist _ hes).1 h)
              have hsz' : e.on < listed.size := by rw [hsz]; exact hes
              simp [hsz'] at hl ⊢
              exact hl
          rw [hready] at hmr
          cases hmr
      subst hidx
      cases l with
      | cons s l => exact hal.elim
      | nil => exact hQ μ K F H a w h hR hF hFr hd
    · -- one that is ready is drawn to the front
      unfold Region.ready at hi
      rw [List.mem_filter] at hi
      obtain ⟨hi1, hi2⟩ := hi
      have his : i < ops.size := by simpa using hi1
      rw [Bool.and_eq_true] at hi2
      have hun : listed.getD i true = false := by simpa using hi2.1
      have hii : i ∈ idx := (hlist i his).1 hun
      obtain ⟨pi, qi, pre, x, post, e1, e2, g1, ⟨o, ho, hfit⟩, g3, g4, g5⟩ := Aligned.split hal hp hii
      have hdeps : ∀ e ∈ o.after.toList, Region.binds .any e = true -> e.on ∉ idx := by
        intro e he hb
        have h2 := hi2.2
        rw [ho] at h2
        simp only [Option.map_some, Option.getD_some] at h2
        rw [Array.all_eq_true_iff_forall_mem] at h2
        have h3 := h2 e (by simpa using he)
        rw [hb] at h3
        simp only [Bool.not_true, Bool.false_or] at h3
        have hes : e.on < ops.size := by have := hlow i o ho e he hb; omega
        intro hmem
        have h4 := (hlist _ hes).2 hmem
        have hsz' : e.on < listed.size := by rw [hsz]; exact hes
        simp [hsz'] at h3 h4
        rw [h3] at h4
        cases h4
      have hDi : ∀ j ∈ D i, j ∉ idx := by
        intro j hj
        obtain ⟨e, he, hb, hej⟩ := hD i o ho j hj
        have hen := hdeps e he hb
        rcases hej with rfl|hej
        · exact hen
        · exact hdc e.on (by have := hlow i o ho e he hb; omega) hen j hej
      have hsw : ∀ y ∈ pre, swapOk y x = true := by
        intro y hy
        obtain ⟨j, hj, hh⟩ := g5 y hy
        rcases hh with hh|hh
        · exact absurd (by rw [e1]; simp [hj]) (hDi j hh)
        · exact hh
      have hbl : ∀ y ∈ pre, Blind x y.dst := fun y hy => by
        have := hsw y hy
        unfold swapOk at this
        rw [Bool.and_eq_true] at this
        obtain ⟨t1, _⟩ := tmOk_spec this.1
        exact Blind.mk' fun k hk => ⟨(t1 k hk).1, (t1 k hk).2.1⟩
      rw [e2] at h haid hrs
      have hfm : (pre ++ x :: post).filterMap (·.aid) = (pre ++ [x]).filterMap (·.aid) ++ post.filterMap (·.aid) := by
        rw [show pre ++ x :: post = (pre ++ [x]) ++ post by simp, List.filterMap_append]
      have hnd1 : ((pre ++ [x]).filterMap (·.aid)).Nodup := by rw [hfm] at haid; exact (List.nodup_append.1 haid).1
      have hval : HasVal x F := reach hlt0 g1 hbl hR hF hFr (fun y hy k hk => hrs y (by simp [hy]) k hk) (by
        rw [List.filterMap_append] at hnd1; exact (List.nodup_append.1 hnd1).1) h
      have hfree : ∀ k ∈ (pre ++ [x]).filterMap (·.aid), base + k < H.nx /\ H.get (base + k) = none := by
        intro k hk
        obtain ⟨s, hs, hk'⟩ := List.mem_filterMap.1 hk
        have hs' : s ∈ pre ++ x :: post := by
          rcases List.mem_append.1 hs with h|h
          · simp [h]
          · simp at h; subst h; simp
        obtain ⟨r1, r2, r3⟩ := hrs s hs' k hk'
        refine ⟨r2, ?_⟩
        cases hg : H.get (base + k) with
        | none => rfl
        | some bk => exact absurd (hR.dom _ _ hg) r1
      have h' := pull hsw hst hval hfree hnd1 h
      refine op_ok hlt0 ho hfit hR hF hFr (hrs x (by simp)) h' fun μ' K' F' H' a' w' ctx' k1 k2 k3 k4 k5 k6 _ k8 k9 => ?_
      have hidxlen : (pi ++ qi).length + 1 = idx.length := by rw [e1]; simp; omega
      have hndi : (pi ++ qi).Nodup /\ i ∉ pi ++ qi := by
        rw [e1] at hnd
        have hperm : (pi ++ i :: qi).Perm (i :: (pi ++ qi)) := List.perm_middle
        have := (hperm.nodup_iff).1 hnd
        exact ⟨(List.nodup_cons.1 this).2, (List.nodup_cons.1 this).1⟩
      have hmem : ∀ j, j ∈ pi ++ qi ↔ j ∈ idx /\ j ≠ i := by
        intro j
        rw [e1]
        constructor
        · intro hj
          refine ⟨?_, fun e => hndi.2 (e ▸ hj)⟩
          rcases List.mem_append.1 hj with h|h
          · simp [h]
          · simp [h]
        · rintro ⟨hj, hne⟩
          rcases List.mem_append.1 hj with h|h
          · simp [h]
          · rcases List.mem_cons.1 h with h|h
            · exact absurd h hne
            · simp [h]
      have haid' : ((pre ++ post).filterMap (·.aid)).Nodup /\ ∀ k, x.aid = some k -> k ∉ (pre ++ post).filterMap (·.aid) := by
        have hperm : (pre ++ x :: post).Perm (x :: (pre ++ post)) := List.perm_middle
        have h1 := ((hperm.filterMap (·.aid)).nodup_iff).1 haid
        simp only [List.filterMap_cons] at h1
        cases hx : x.aid with
        | none => rw [hx] at h1; exact ⟨h1, by simp⟩
        | some k => rw [hx] at h1; exact ⟨(List.nodup_cons.1 h1).2, fun j hj => by obtain rfl := Option.some.inj hj; exact (List.nodup_cons.1 h1).1⟩
      refine ih (by simpa using hsz) (fun j hj => ?_) (fun j hj => hin j ((hmem j).1 hj).1) hndi.1 (by omega) (fun j hj hjn k hk => ?_) g3 g4 haid'.1 (k8 hst) (fun s hs k hk => ?_) k1 k2 k3 (k4.trans hd) k9
      · rw [hmem]
        by_cases e : j = i
        · subst e
          have : (listed.setIfInBounds j true).getD j true = true := by
            have : j < listed.size := by rw [hsz]; exact his
            simp [this]
          rw [this]
          simp
        · have : (listed.setIfInBounds i true).getD j true = listed.getD j true := by
            simp only [Array.getD_eq_getD_getElem?]
            rw [Array.getElem?_setIfInBounds_ne (fun h => e h.symm)]
          rw [this, hlist j hj]
          simp [e]
      · -- still closed downwards
        rw [hmem] at hjn
        intro hkm
        have hkm' := ((hmem k).1 hkm).1
        by_cases e : j = i
        · subst e; exact hDi k hk hkm'
        · have hji : j ∉ idx := fun h => hjn ⟨h, e⟩
          exact hdc j hj hji k hk hkm'
      · have hs' : s ∈ pre ++ x :: post := by
          rcases List.mem_append.1 hs with h|h
          · simp [h]
          · simp [h]
        obtain ⟨r1, r2, r3⟩ := hrs s hs' k hk
        refine ⟨fun hk' => ?_, by omega, r3⟩
        rcases k6 _ r2 hk' with h|⟨j, hj, he⟩
        · exact r1 h
        · exact haid'.2 j hj (by
            have : j = k := by omega
            rw [this]
            exact List.mem_filterMap.2 ⟨s, hs, hk⟩)
end
end Go.Ab

namespace Go.Ab
section
variable {P : Program} {G n : Nat} {ρ : Option Nat} {μ : Nat -> Pl} {K : Nat -> Prop} {H H' : Hp} {w : World}
theorem Rel.junk (hR : Rel G μ K H w) (o : Obj) : Rel G μ K H { w with heap := w.heap.push o } /\ Fr μ K H w μ K H { w with heap := w.heap.push o } := by
  have hh : ∀ i, i < w.heap.size -> (w.heap.push o)[i]? = w.heap[i]? := fun i hi => by
    rw [Array.getElem?_push, if_neg (by omega)]
  let r := Fr.refl hR
  exact ⟨⟨hR.dom, hR.lt, fun b bk hb => by
    show RB μ K (μ b) bk (w.heap.push o)[(μ b).blk]?
    rw [hh _ (hR.blk_lt hb)]; exact hR.blk b bk hb, hR.inj, hR.glob⟩,
   ⟨⟨rfl, rfl, rfl, Nat.le_refl _⟩, by simp, fun i hi _ => hh i hi, r.img, r.newmut, r.mu, r.kk, r.knew, r.nx, r.none, r.stay, r.ro⟩⟩
def setPs (F : T V) : List Nat -> List V -> T V
  | t :: ps, v :: l => setPs (F.set t (some v)) ps l
  | _, _ => F
theorem setPs_ok : ∀ {ps : List Nat} {args : List V} {xs : List Value} {F : T V} {tmps : Array Value}, FRel μ K n F tmps -> All2 (RV μ K) args xs ->
    FRel μ K n (setPs F ps args) ((ps.zip xs).foldl (fun tmps p => tmps.setIfInBounds p.1 p.2) tmps)
  | [], _, _, _, _, hF, _ => hF
  | _ :: _, [], [], _, _, hF, _ => hF
  | t :: ps, v :: l, x :: xs, F, tmps, hF, ha => by
    refine setPs_ok (F := F.set t (some v)) (tmps := tmps.setIfInBounds t x) ⟨by simpa using hF.1, fun i hi => ?_⟩ ha.2
    rw [T.get_set]
    by_cases e : i = t
    · subst e
      have : (tmps.setIfInBounds i x).getD i Go.undef = x := by
        have : i < tmps.size := by rw [hF.1]; exact hi
        simp [Array.getD_eq_getD_getElem?, this]
      rw [this]
      simpa using ha.1
    · have : (tmps.setIfInBounds t x).getD i Go.undef = tmps.getD i Go.undef := by
        simp only [Array.getD_eq_getD_getElem?]
        rw [Array.getElem?_setIfInBounds_ne (fun h => e h.symm)]
      rw [this, if_neg e]
      exact hF.2 i hi
  | _ :: _, [], _ :: _, _, _, _, ha => ha.elim
  | _ :: _, _ :: _, [], _, _, _, ha => ha.elim
def roundQ (b : Nat) (R : V -> Hp -> Prop) : Exit -> T V -> Hp -> Prop
  | .normal, _, H => ∃ st j f n F ps sg bd, H.get b = some (.lp st j f n F ps sg bd) /\ R (.bool true) (H.add b (.lp .ready none f n F ps sg bd))
  | .ret, _, H => ∃ st j f n F ps sg bd, H.get b = some (.lp st j f n F ps sg bd) /\ R (.bool false) (H.add b (.lp .done (some .ret) f n F ps sg bd))
  | .exit id, _, H => ∃ st j f n F ps sg bd, H.get b = some (.lp st j f n F ps sg bd) /\ R (.bool false) (H.add b (.lp .done (some (.exit id)) f n F ps sg bd))
  | _, _, _ => False
theorem endRound_ok {b : Nat} {R : V -> Hp -> Prop} (hR : Rel G μ K H w) (jump : Option Code) (hQ : ∃ st j f n F ps sg bd, H.get b = some (.lp st j f n F ps sg bd) /\ R (.bool jump.isNone) (H.add b (.lp (if jump.isNone then .ready else .done) jump f n F ps sg bd))) :
    ∃ x w', (Instr.endRound (μ b).blk jump).run P w = .ok x w' /\ ∃ v H' , R v H' /\ RV μ K v x /\ Rel G μ K H' w' /\ Fr μ K H w μ K H' w' := by
  obtain ⟨st, j, f, n, F, ps, sg, bd, hb, hr⟩ := hQ
  obtain ⟨tmps, df, ho, hsz, hF⟩ := hR.blk b _ hb
  have hs := hR.setB (bk' := .lp (if jump.isNone then .ready else .done) jump f n F ps sg bd) (o := .loop ⟨if jump.isNone then .ready else .done, jump, f, tmps, ps, sg, bd, df⟩) hb rfl rfl ⟨tmps, df, rfl, hsz, hF⟩
  exact ⟨_, _, run_endRound jump ho, _, _, hr, rfl, hs.1, hs.2⟩
theorem ayield_ok {b : Nat} {args : List V} {j : Option Code} {f : FuncId} {n : Nat} {F : T V} {ps : Array Tmp} {sg bd : Code} {R : V -> Hp -> Prop} (hb : H.get b = some (.lp .ready j f n F ps sg bd)) (hlen : args.length = ps.size)
    (h : ∀ l, AWPr (some l) P G n sg (fun e F1 H1 => e = .normal /\ ∃ j1 f1 n1 F0 ps1 as1 bd1, H1.get b = some (.lp .ready j1 f1 n1 F0 ps1 as1 bd1) /\ AWPr (some l) P G n bd (roundQ b R) F1 (H1.add b (.lp .busy j1 f1 n1 F0 ps1 as1 bd1))) (setPs F ps.toList args) H) :
    AYield P G b args H R := by
  intro μ K w xs hR hK ha
  obtain ⟨tmps, df, ho, hsz, hF⟩ := hR.blk b _ hb
  refine ⟨_, _, _, _, run_yield ho (by simp [<- ha.len, hlen]), roundIn_of_wpIn trivial ?_⟩
  have hF1 : FRel μ K n (setPs F ps.toList args) ((ps.zip xs.toArray).foldl (fun tmps (t, a) => tmps.setIfInBounds t a) tmps) := by
    have := setPs_ok (ps := ps.toList) (F := F) (tmps := tmps) ⟨hsz, hF⟩ ha
    have e : (ps.zip xs.toArray).foldl (fun tmps (t, a) => tmps.setIfInBounds t a) tmps = (ps.toList.zip xs).foldl (fun tmps p => tmps.setIfInBounds p.1 p.2) tmps := by
      rw [<- Array.foldl_toList]
      simp
    rw [e]; exact this
  refine wpIn_mono (h (μ b).blk w.heap.size μ K w ⟨_, []⟩ hR hF1 (Dok.nil w (Nat.le_refl _))) fun e a1 w1 he => ?_
  obtain ⟨hd1, F1, H1, μ1, K1, ⟨rfl, j1, f1, n1, F0, ps1, as1, bd1, hb1, hbody⟩, hR1, hFr1, hfr1⟩ := he
  obtain ⟨tmps1, df1, ho1, hsz1, hF01⟩ := hR1.blk b _ hb1
  rw [hfr1.mu b hK] at ho1
  have hs := hR1.setB (bk' := .lp .busy j1 f1 n1 F0 ps1 as1 bd1) (o := .loop ⟨.busy, j1, f1, tmps1, ps1, as1, bd1, df1⟩) hb1 rfl rfl ⟨tmps1, df1, rfl, hsz1, hF01⟩
  rw [hfr1.mu b hK] at hs
  refine ⟨_, run_beginRound ho1 rfl, ?_⟩
  refine wpIn_mono (hbody _ μ1 K1 _ a1 hs.1 hFr1 (hd1.fr hR1 hs.2)) fun e a2 w2 he => ?_
  obtain ⟨hd2, F2, H2, μ2, K2, hq, hR2, hFr2, hfr2⟩ := he
  have hfr := (hfr1.trans hR.lt' hs.2).trans hR.lt' hfr2
  have hmu : μ2 b = μ b := hfr.mu b hK
  have fin : ∀ (jump : Option Code), (∃ st j f n F ps sg bd, H2.get b = some (.lp st j f n F ps sg bd) /\ R (.bool jump.isNone) (H2.add b (.lp (if jump.isNone then .ready else .done) jump f n F ps sg bd))) ->
      ∃ v w', (Instr.endRound (μ b).blk jump).run P w2 = .ok v w' /\ ∃ x, Ending.returned v = .returned x /\ ∃ v H' μ' K', R v H' /\ RV μ' K' v x /\ Rel G μ' K' H' w' /\ Fr μ K H w μ' K' H' w' := by
    intro jump hj
    obtain ⟨x, w3, hr, v, H3, h1, h2, h3, h4⟩ := endRound_ok (P := P) (b := b) hR2 jump hj
    rw [hmu] at hr
    exact ⟨x, w3, hr, x, rfl, v, H3, μ2, K2, h1, h2, h3, hfr.trans hR.lt' h4⟩
  cases e with
  | normal => exact fin none hq
  | ret => exact fin (some .ret) hq
  | exit id => exact fin (some (.exit id)) hq
  | goto l => exact hq.elim
  | panic ch => exact hq.elim
  | outgrown => exact hq.elim
theorem awp_rf {g : Operand} {ps : Array Tmp} {sg bd : Code} {d : Opd} {f : FuncId} {caps : List (Nat × Nat)} {Q : Exit -> T V -> Hp -> Prop} {F : T V} (hg : cO G n g = some d) (hdv : d.ev F = .one (.fn f caps)) (hf : isFn P f = true)
    (h : ∀ fid, ACalls P G f (.one (.yld H.nx) :: caps.map ptrV) (H.push (.lp .ready none fid n F ps sg bd)) fun _ H' => ∃ st j f1 n1 F1 ps1 as1 bd1, H'.get H.nx = some (.lp st j f1 n1 F1 ps1 as1 bd1) /\ st ≠ .busy /\
      (match j with
       | none => Q .normal F (H'.add H.nx (.lp .exhausted none f1 n1 F1 ps1 as1 bd1))
       | some c => AWPr none P G n c Q F (H'.add H.nx (.lp .exhausted (some c) f1 n1 F1 ps1 as1 bd1)))) :
    AWPr none P G n (.rangeFunc g ps sg bd) Q F H := by
  intro s μ K w a hR hF hd
  refine wpIn_rangeFunc fun fid _ => ?_
  have hv := cO_ok hR hF hg
  rw [hdv] at hv
  obtain ⟨hkc, hv'⟩ : (∀ p ∈ caps, K p.1) /\ a.eval g = .func (.func f) #[] (caps.map fun p => Value.pointer (some ((μ p.1).addr p.2))).toArray := hv
  obtain ⟨hR1, hfr1⟩ := hR.junk (.deferred (some []))
  have hlp : RB μ K ⟨w.heap.size + 1, 0, 0⟩ (.lp .ready none fid n F ps sg bd) (some (.loop ⟨.ready, none, fid, a.tmps, ps, sg, bd, w.heap.size⟩)) := ⟨_, _, rfl, hF.1, hF.2⟩
  have hpush := hR1.push (d := w.drawn) (sz := 0) (Nat.le_refl _) rfl (by simpa using hlp)
  simp only [Array.size_push] at hpush
  obtain ⟨hR2, hfr2⟩ := hpush
  refine ⟨w.heap.size + 1, [{ target := .collected w.heap.size, args := #[] }], { w with heap := (w.heap.push (.deferred (some []))).push (.loop ⟨.ready, none, fid, a.tmps, ps, sg, bd, w.heap.size⟩) }, ⟨.fn (.func f) (caps.map fun p => Value.pointer (some ((μ p.1).addr p.2))).toArray, #[.func (.yield (w.heap.size + 1)) #[] #[]]⟩, { w with heap := (w.heap.push (.deferred (some []))).push (.loop ⟨.ready, none, fid, a.tmps, ps, sg, bd, w.heap.size⟩) }, f,
    (Value.func (.yield (w.heap.size + 1)) #[] #[] :: caps.map fun p => Value.pointer (some ((μ p.1).addr p.2))).toArray, { w with heap := (w.heap.push (.deferred (some []))).push (.loop ⟨.ready, none, fid, a.tmps, ps, sg, bd, w.heap.size⟩) }, run_enterLoop_outer _ _ _ _ _, ?_, (fun _ _ => trivial), ?_, (fun h => absurd h (by decide)), ?_⟩
  · have e1 : a.eval (.const (.func (.yield (w.heap.size + 1)) #[] #[])) = .func (.yield (w.heap.size + 1)) #[] #[] := rfl
    simp [resolve, rangeCall, hv', Deferred.ofValue, e1]
  · simp [invoke, isFn_run hf]
  · have hargs : All2 (RV (fun i => if i = H.nx then (⟨w.heap.size + 1, 0, 0⟩ : Pl) else μ i) fun i => K i \/ i = H.nx) (.one (.yld H.nx) :: caps.map ptrV) (Value.func (.yield (w.heap.size + 1)) #[] #[] :: caps.map fun p => Value.pointer (some ((μ p.1).addr p.2))) := by
      refine ⟨⟨.inr rfl, by simp⟩, ?_⟩
      refine All2.mk (by simp) fun j v x hv hx => ?_
      simp only [List.getElem?_map, Option.map_eq_some_iff] at hv hx
      obtain ⟨p, hp, rfl⟩ := hv
      obtain ⟨p', hp', rfl⟩ := hx
      rw [hp] at hp'
      obtain rfl := Option.some.inj hp'
      have hkp := hkc p (List.mem_of_getElem? hp)
      refine ⟨.inl hkp, ?_⟩
      have := hR.lt _ hkp
      show Value.pointer (some ((μ p.1).addr p.2)) = Value.pointer (some ((if p.1 = H.nx then _ else μ p.1).addr p.2))
      rw [if_neg (by omega)]
    refine callsIn_wide.2 ((h fid _ _ _ _ hR2 hargs).mono fun e w3 he => ?_)
    · obtain ⟨x, rfl, v, H3, μ3, K3, ⟨st, j, f1, n1, F1, ps1, as1, bd1, hb, hst, hj⟩, _, hR3, hfr3⟩ := he
      have hfr := (hfr1.trans hR.lt' hfr2).trans hR.lt' hfr3
      have hmu : μ3 H.nx = ⟨w.heap.size + 1, 0, 0⟩ := by
        rw [hfr3.mu H.nx (.inr rfl)]; simp
      obtain ⟨tmps, df, ho, hsz, hF1⟩ := hR3.blk H.nx _ hb
      have hs := hR3.setB (bk' := .lp .exhausted j f1 n1 F1 ps1 as1 bd1) (o := .loop ⟨.exhausted, j, f1, tmps, ps1, as1, bd1, df⟩) hb rfl rfl ⟨tmps, df, rfl, hsz, hF1⟩
      rw [hmu] at ho hs
      have hfr' := hfr.trans hR.lt' hs.2
      have hF3 : FRel μ3 K3 n F a.tmps := hF.mono hfr.kk hfr.mu
      refine ⟨j, _, run_endLoop ho hst, ?_⟩
      have hdef : Dok s ({ target := .collected w.heap.size, args := #[] } :: a.defers) (w3.putObj (w.heap.size + 1) (.loop ⟨.exhausted, j, f1, tmps, ps1, as1, bd1, df⟩)) := by
        refine ⟨Nat.le_trans hd.1 hfr'.size, List.nodup_cons.2 ⟨fun hm => ?_, hd.2.1⟩, fun d hdm => ?_⟩
        · obtain ⟨r, h1, _, h2⟩ := hd.2.2 _ hm
          simp only [Deferred.mk.injEq, Target.collected.injEq, and_true] at h1
          subst h1
          have := (Array.getElem?_eq_some_iff.1 h2).1
          omega
        rcases List.mem_cons.1 hdm with rfl|hdm
        · refine ⟨_, rfl, hd.1, ?_⟩
          have h0 : (w.heap.push (.deferred (some [])))[w.heap.size]? = some (.deferred (some [])) := by simp
          exact kept_def hR1 ((hfr2.trans hR1.lt' hfr3).trans hR1.lt' hs.2) h0
        · obtain ⟨r, h1, h3, h2⟩ := hd.2.2 d hdm
          exact ⟨r, h1, h3, kept_def hR hfr' h2⟩
      cases j with
      | none => exact ⟨hdef, F, _, μ3, K3, hj, hs.1, hF3, hfr'⟩
      | some c =>
        exact wpIn_mono (hj s μ3 K3 _ { a with defers := { target := .collected w.heap.size, args := #[] } :: a.defers } hs.1 hF3 hdef) fun e a' w' he => ends_trans hR.lt' hfr' he
theorem Rel.mark (hR : Rel G μ K H w) {r : Nat} {ds : Option (List Deferred)} (hr : w.heap[r]? = some (.deferred ds)) (o : Obj) : Rel G μ K H (w.putObj r o) :=
  ⟨hR.dom, hR.lt, fun b bk hb => by
    have hB := hR.blk b bk hb
    by_cases e : (μ b).blk = r
    · rw [e, hr] at hB
      cases bk with
      | row n z m rw => obtain ⟨_, _, _, h, _⟩ := hB; cases h
      | mp es => obtain ⟨_, _, h, _⟩ := hB; cases h
      | lp st j f n F ps sg bd => obtain ⟨_, _, h, _⟩ := hB; cases h
      | st => obtain ⟨_, _, h, _⟩ := hB; cases h
      | it => obtain ⟨_, _, h, _⟩ := hB; cases h
    · rw [World.putObj_heap_other e]; exact hB, hR.inj, hR.glob⟩
theorem Fr.mark {μ0 : Nat -> Pl} {K0 : Nat -> Prop} {H0 : Hp} {w0 : World} (h : Fr μ0 K0 H0 w0 μ K H w) {r : Nat} (hr : w0.heap.size <= r) (o : Obj) : Fr μ0 K0 H0 w0 μ K H (w.putObj r o) :=
  ⟨h.same, by simpa using h.size, fun i hi hne => by rw [World.putObj_heap_other (by omega)]; exact h.keep i hi hne, h.img, h.newmut, h.mu, h.kk, h.knew, h.nx, h.none, h.stay, h.ro⟩
theorem leave_ok {μ0 : Nat -> Pl} {K0 : Nat -> Prop} {H0 : Hp} {w0 : World} {fn : Func} {tmps : Array Value} {R : Ending -> World -> Prop} {nn : Nat} {F : Fence} : ∀ {D : List Deferred} {w : World}, Dok w0.heap.size D w -> Rel G μ K H w -> Fr μ0 K0 H0 w0 μ K H w ->
    (∀ w', Rel G μ K H w' -> Fr μ0 K0 H0 w0 μ K H w' -> ∃ v, (results fn tmps).run P w' = .ok v w' /\ R (.returned v) w') -> LeavesInM F nn P fn tmps R D .returning w
  | [], w, _, hR, hFr, h => h w hR hFr
  | d :: D, w, hd, hR, hFr, h => by
    obtain ⟨r, rfl, h1, h2⟩ := hd.2.2 d (by simp)
    refine ⟨by simp, .inl ⟨r, _, rfl, run_takeDeferred h2, ?_⟩⟩
    refine leave_ok ⟨by simpa using hd.1, (List.nodup_cons.1 hd.2.1).2, fun d' hd' => ?_⟩ (hR.mark h2 _) (hFr.mark h1 _) h
    obtain ⟨r', rfl, h3, h4⟩ := hd.2.2 d' (by simp [hd'])
    refine ⟨r', rfl, h3, ?_⟩
    rw [World.putObj_heap_other]
    · exact h4
    · rintro rfl
      exact (List.nodup_cons.1 hd.2.1).1 hd'
end
end Go.Ab

namespace Go.Ab
inductive SC where
 | skip
 | ops (l : List SOper) (res : Nat)
 | seq (a b : SC)
 | cond (d : Opd) (a b : SC)
 | block (id : Nat) (a : SC)
 | loop (a : SC)
 | exit (id : Nat)
 | ret
 /-- a range over a function: the function, a round's parameters, what it assigns, what it does -/
 | rf (d : Opd) (ps : List Nat) (a b : SC)
 | scope (a : SC)
 /-- not covered: no run comes here -/
 | no
structure Extra where
 aid : Nat -> Option Nat
 watch : Nat -> List Nat
 keep : Nat -> Bool
def cpOper (P : Program) (G n : Nat) (ops : Array Oper) (x : Extra) (i : Nat) : Option SOper :=
 match ops[i]? with
 | none => none
 | some o => match cpOp P G n o, cGuard n ops o.guard with
  | some op, some g => if cDst n o.dst then some ⟨i, o.dst, op, g, x.aid i, x.watch i, x.keep i⟩ else none
  | _, _ => none
def cpAll (P : Program) (G n : Nat) (ops : Array Oper) (x : Extra) : List Nat -> Option (List SOper)
 | [] => some []
 | i :: r => match cpOper P G n ops x i, cpAll P G n ops x r with
  | some s, some l => some (s :: l)
  | _, _ => none
def noExtra : Extra := ⟨fun _ => none, fun _ => [], fun _ => false⟩
def depsOf (ops : List Oper) : List (List Nat) :=
 ops.foldl (init := []) fun acc o => acc ++ [(o.after.toList.foldl (init := []) fun s e => if Region.binds .any e then (e.on :: acc.getD e.on []).foldl (fun s j => if s.contains j then s else j :: s) s else s)]
def Kd.light : Kd -> Bool
 | .p => true
 | .l => true
 | _ => false
def sched (D : List (List Nat)) (kds : List Kd) : Nat -> List Nat -> List Nat -> List Nat
 | 0, _, acc => acc.reverse
 | f + 1, rest, acc =>
  let ok := fun i => (D.getD i []).all fun j => acc.contains j
  match rest.find? fun i => (kds.getD i .e).light && ok i with
  | some i => sched D kds f (rest.filter (· != i)) (i :: acc)
  | none => match rest.find? fun i => !(kds.getD i .e).light with
   | some i => sched D kds f (rest.filter (· != i)) (i :: acc)
   | none => acc.reverse
def kdsOf (P : Program) (G n : Nat) (ops : List Oper) : List Kd := ops.map fun o => match cpOp P G n o with
 | some op => op.kd
 | none => .e
def Kd.isL : Kd -> Bool
 | .l => true
 | _ => false
def Kd.isA : Kd -> Bool
 | .a => true
 | _ => false
def Kd.isE : Kd -> Bool
 | .e => true
 | .c => true
 | _ => false
def watches (D : List (List Nat)) (kds : List Kd) : List Nat -> List Nat -> List (Nat × List Nat)
 | [], _ => []
 | i :: r, ls =>
  if (kds.getD i .e).isE then (i, ls.filter fun j => !(D.getD i []).contains j) :: watches D kds r ls
  else watches D kds r (if (kds.getD i .e).isL then i :: ls else ls)
def pairsB (D : List (List Nat)) : List Nat -> List SOper -> Bool
 | i :: idx, s :: l => ((idx.zip l).all fun p => (D.getD p.1 []).contains i || swapOk s p.2) && pairsB D idx l
 | _, _ => true
def nodupB : List Nat -> Bool
 | [] => true
 | i :: l => !l.contains i && nodupB l
def depB (D : List (List Nat)) (ops : Array Oper) (i : Nat) : Bool :=
 match ops[i]? with
 | none => true
 | some o => (D.getD i []).all (fun j => o.after.toList.any fun e => Region.binds .any e && (e.on == j || (D.getD e.on []).contains j)) && o.after.toList.all fun e => !Region.binds .any e || decide (e.on < i)
def drawB (D : List (List Nat)) (ops : Array Oper) (idx : List Nat) (l : List SOper) (res : Nat) : Bool :=
 pairsB D idx l && nodupB idx && idx.all (fun i => decide (i < ops.size)) && (List.range ops.size).all (fun i => idx.contains i) && (List.range ops.size).all (depB D ops) && nodupB (l.filterMap (·.aid)) && decide (idx.length <= ops.size) && (l.filterMap (·.aid)).all fun k => decide (k < res)
def sched2 (D : List (List Nat)) (kds : List Kd) : Nat -> List Nat -> List Nat -> List Nat
 | 0, _, acc => acc.reverse
 | f + 1, rest, acc =>
  let ok := fun i => (D.getD i []).all fun j => acc.contains j
  match rest.find? fun i => (kds.getD i .e).light && ok i with
  | some i => sched2 D kds f (rest.filter (· != i)) (i :: acc)
  | none => match rest.find? fun i => (kds.getD i .e).isE && ok i with
   | some i => sched2 D kds f (rest.filter (· != i)) (i :: acc)
   | none => match rest.find? fun i => !(kds.getD i .e).light with
    | some i => sched2 D kds f (rest.filter (· != i)) (i :: acc)
    | none => acc.reverse
def cpDrawBy (P : Program) (G n : Nat) (ops : Array Oper) (idx : List Nat) : Option (List SOper) :=
 let D := depsOf ops.toList
 let kds := kdsOf P G n ops.toList
 let ws := watches D kds idx []
 let x : Extra := ⟨fun i => if (kds.getD i .e).isA then some i else none, fun i => ((ws.find? fun p => p.1 == i).map (·.2)).getD [], fun i => ws.any fun p => p.2.contains i⟩
 match cpAll P G n ops x idx with
 | none => none
 | some l => if drawB D ops idx l ops.size then some l else none
def cpDraw (P : Program) (G n : Nat) (ops : Array Oper) : Option (List SOper) :=
 match cpDrawBy P G n ops (sched (depsOf ops.toList) (kdsOf P G n ops.toList) ops.size (List.range ops.size) []) with
 | some l => some l
 | none => cpDrawBy P G n ops (sched2 (depsOf ops.toList) (kdsOf P G n ops.toList) ops.size (List.range ops.size) [])
def cpCode (P : Program) (G n : Nat) : Code -> Option SC
 | .skip => some .skip
 | .region _ ops draw =>
  if draw then (cpDraw P G n ops).map fun l => .ops l ops.size
  else (cpAll P G n ops noExtra (List.range ops.size)).map fun l => .ops l 0
 | .seq a b => match cpCode P G n a, cpCode P G n b with
  | some a, some b => some (.seq a b)
  | _, _ => none
 | .cond c a b => match cO G n c, cpCode P G n a, cpCode P G n b with
  | some d, some a, some b => some (.cond d a b)
  | _, _, _ => none
 | .block id a => (cpCode P G n a).map (.block id)
 | .loop a => (cpCode P G n a).map .loop
 | .exit id => some (.exit id)
 | .ret => some .ret
 | .rangeFunc g ps sg bd => match cO G n g, cpCode P G n sg, cpCode P G n bd with
  | some d, some a, some b => some (.rf d ps.toList a b)
  | _, _, _ => none
 | .scope a => (cpCode P G n a).map .scope
 | .label _ => some .skip
 | _ => some .no
inductive SRes where
 | t (n : Nat)
 | cell (agg : Bool) (k : Nat) (n : Nat)
def aRes (F : T V) (H : Hp) : SRes -> Option V
 | .t n => some ((F.get n).getD V.undef)
 | .cell agg k n => aLoad F H (.load agg k (.t n))
def aResL (F : T V) (H : Hp) : List SRes -> Option (List V)
 | [] => some []
 | r :: l => match aRes F H r, aResL F H l with
  | some v, some vs => if isOne v then some (v :: vs) else none
  | _, _ => none
def aResult (F : T V) (H : Hp) (rs : List SRes) : Option V :=
 match aResL F H rs with
 | some [v] => some v
 | some vs => some (.tup vs)
 | none => none
def cpRes (P : Program) (n : Nat) : List ResultVar -> Option (List SRes)
 | [] => some []
 | .tmp t :: l => if t < n then (cpRes P n l).map (.t t :: ·) else none
 | .cell a t :: l => match isAggT P t, sizeT P t with
  | some g, some k => if a < n then (cpRes P n l).map (.cell g k a :: ·) else none
  | _, _ => none
structure SFn where
 n : Nat
 code : SC
 res : List SRes
def cpFn (P : Program) (G : Nat) (f : FuncId) : Option SFn :=
 match P.funcs[f]? with
 | none => none
 | some fn => match fn.body with
  | none => none
  | some c => match cpCode P G fn.ntmps c, cpRes P fn.ntmps fn.results.toList with
   | some s, some rs => some ⟨fn.ntmps, s, rs⟩
   | _, _ => none
def initF : List V -> Nat -> T V
 | [], _ => .lf
 | v :: l, i => (initF l (i + 1)).set i (some v)
def retQ (rs : List SRes) (R : V -> Hp -> Prop) : Exit -> T V -> Hp -> Prop
 | .normal, F, H => match aResult F H rs with
  | some v => R v H
  | none => False
 | .ret, F, H => match aResult F H rs with
  | some v => R v H
  | none => False
 | _, _, _ => False
def SWPr (ρ : Option Nat) (P : Program) (G n : Nat) (s : SC) (Q : Exit -> T V -> Hp -> Prop) (F : T V) (H : Hp) : Prop := ∀ c, cpCode P G n c = some s -> AWPr ρ P G n c Q F H
abbrev SWP := SWPr none
section
variable {P : Program} {G n : Nat} {ρ : Option Nat}
theorem cpOper_fits {ops : Array Oper} {x : Extra} {i : Nat} {s : SOper} (h : cpOper P G n ops x i = some s) : (∃ o, ops[i]? = some o /\ Fits P G n ops o s) /\ s.aid = x.aid i := by
 unfold cpOper at h
 split at h
 ·cases h
 ·rename_i o ho
  split at h
  ·rename_i op g h1 h2
   split at h
   ·rename_i h3
    obtain rfl := Option.some.inj h
    exact ⟨⟨o, ho, h1, rfl, h3, h2⟩, rfl⟩
   ·cases h
  ·cases h
theorem cpAll_aligned {ops : Array Oper} {x : Extra} : ∀ {idx : List Nat} {l : List SOper}, cpAll P G n ops x idx = some l -> Aligned P G n ops idx l /\ ∀ s ∈ l, ∃ i ∈ idx, s.aid = x.aid i
 | [], l, h => by simp [cpAll] at h; subst h; exact ⟨trivial, by simp⟩
 | i :: idx, l, h => by
  simp only [cpAll] at h
  split at h
  ·rename_i s r h1 h2
   obtain rfl := Option.some.inj h
   obtain ⟨g1, g2⟩ := cpOper_fits h1
   obtain ⟨g3, g4⟩ := cpAll_aligned h2
   refine ⟨⟨g1, g3⟩, fun t ht => ?_⟩
   rcases List.mem_cons.1 ht with rfl|ht
   ·exact ⟨i, by simp, g2⟩
   ·obtain ⟨j, hj, e⟩ := g4 t ht; exact ⟨j, by simp [hj], e⟩
  ·cases h
theorem pairsB_ok {D : List (List Nat)} : ∀ {idx : List Nat} {l : List SOper}, pairsB D idx l = true -> PairsOk (fun i => D.getD i []) idx l
 | i :: idx, s :: l, h => by
  simp only [pairsB, Bool.and_eq_true, List.all_eq_true] at h
  refine ⟨fun j t hjt => ?_, pairsB_ok h.2⟩
  have := h.1 (j, t) hjt
  simp only [Bool.or_eq_true] at this
  exact this.imp (by simp) id
 | [], _, _ => trivial
 | _ :: _, [], _ => trivial
theorem nodupB_ok : ∀ {l : List Nat}, nodupB l = true -> l.Nodup
 | [], _ => List.nodup_nil
 | i :: l, h => by
  simp only [nodupB, Bool.and_eq_true] at h
  exact List.nodup_cons.2 ⟨by simpa using h.1, nodupB_ok h.2⟩
theorem awp_draw (hm : P.follows .mixedOrders = true) {id res : Nat} {ops : Array Oper} {D : List (List Nat)} {idx : List Nat} {l : List SOper} (hal : Aligned P G n ops idx l) (hB : drawB D ops idx l res = true)
  {Q : Exit -> T V -> Hp -> Prop} {F : T V} {H : Hp} (h : wOps P G H.nx (Q .normal) l [] F (H.skip res)) : AWPr ρ P G n (.region id ops true) Q F H := by
 intro s μ K w a hR hF hd
 unfold drawB at hB
 simp only [Bool.and_eq_true, List.all_eq_true, decide_eq_true_eq, List.mem_range] at hB
 obtain ⟨⟨⟨⟨⟨⟨⟨h1, h2⟩, h3⟩, h4⟩, h5⟩, h6⟩, h8⟩, h7⟩ := hB
 have hdep : ∀ i o, ops[i]? = some o -> depB D ops i = true := fun i o ho => h5 i (Array.getElem?_eq_some_iff.1 ho).1
 refine wpIn_region_any hm ?_
 have hR' := (hR.drawn (w.drawn + 1)).skip res
 refine any_ok (D := fun i => D.getD i []) (base := H.nx) (Q := Q .normal) (μ0 := μ) (K0 := K) (H0 := H) (w0 := w) hR.lt' (fun μ' K' F' H' a' w' g1 g2 g3 g4 g5 => ⟨by rw [g5]; exact hd.fr hR g4, F', H', μ', K', g1, g2, g3, g4⟩) (fun i o ho j hj => ?_) (fun i o ho e he hb => ?_)
  (by simp) (fun i hi => ?_) (fun i hi => h3 i hi) (nodupB_ok h2) ?_ (fun i hi hni => ?_) hal (pairsB_ok h1) (nodupB_ok h6) (fun k p hp => by cases hp) (fun s hs k hk => ?_) hR' hF ((Fr.drawn hR _ (Nat.le_succ _)).trans hR.lt' (Fr.skip (hR.drawn _) res)) rfl h
 ·have := hdep i o ho
  unfold depB at this
  rw [ho] at this
  simp only [Bool.and_eq_true, List.all_eq_true, List.any_eq_true, Bool.or_eq_true] at this
  obtain ⟨e, he, hb, hh⟩ := this.1 j hj
  exact ⟨e, he, hb, hh.imp (by simp) (by simp)⟩
 ·have := hdep i o ho
  unfold depB at this
  rw [ho] at this
  simp only [Bool.and_eq_true, List.all_eq_true, Bool.or_eq_true, decide_eq_true_eq, Bool.not_eq_true'] at this
  rcases this.2 e he with h|h
  ·rw [hb] at h; cases h
  ·exact h
 ·constructor
  ·intro _
   have := h4 i hi
   simpa using this
  ·intro _; simp [hi]
 ·exact h8
 ·exact absurd (by have := h4 i hi; simpa using this) hni
 ·have hk' : k < res := h7 k (List.mem_filterMap.2 ⟨s, hs, hk⟩)
  refine ⟨fun hkk => absurd (hR.lt _ hkk) (by omega), by simp; omega, by omega⟩
theorem swp_skip {Q : Exit -> T V -> Hp -> Prop} {F : T V} {H : Hp} (h : Q .normal F H) : SWPr ρ P G n .skip Q F H := by
 intro c hc
 cases c <;> simp only [cpCode] at hc <;> try (cases hc; done)
 case skip => exact awp_skip h
 case label l => exact awp_label h
 case region id ops draw => split at hc <;> simp at hc
 case seq a b => split at hc <;> cases hc
 case rangeFunc g ps a b => split at hc <;> cases hc
 case cond d a b => split at hc <;> cases hc
 case block id a => simp at hc
 case loop a => simp at hc
 case scope a => simp at hc
theorem swp_ops (hm : P.follows .mixedOrders = true) {l : List SOper} {res : Nat} {Q : Exit -> T V -> Hp -> Prop} {F : T V} {H : Hp} (h : wOps P G H.nx (Q .normal) l [] F (H.skip res)) : SWPr ρ P G n (.ops l res) Q F H := by
 intro c hc
 cases c <;> simp only [cpCode] at hc <;> try (cases hc; done)
 case region id ops draw =>
  cases draw with
  | false =>
   simp only [Bool.false_eq_true, if_false, Option.map_eq_some_iff, SC.ops.injEq] at hc
   obtain ⟨l', hl, rfl, rfl⟩ := hc
   obtain ⟨h1, h2⟩ := cpAll_aligned hl
   exact awp_region h1 (fun s hs => by obtain ⟨i, _, e⟩ := h2 s hs; exact e) h
  | true =>
   simp only [if_true, Option.map_eq_some_iff, SC.ops.injEq] at hc
   obtain ⟨l', hl, rfl, rfl⟩ := hc
   have by_ : ∀ idx l'', cpDrawBy P G n ops idx = some l'' -> wOps P G H.nx (Q .normal) l'' [] F (H.skip ops.size) -> AWPr ρ P G n (.region id ops true) Q F H := by
    intro idx l'' hl h
    unfold cpDrawBy at hl
    simp only at hl
    split at hl
    ·cases hl
    ·rename_i l3 hall
     split at hl
     ·rename_i hB
      obtain rfl := Option.some.inj hl
      exact awp_draw hm (cpAll_aligned hall).1 hB h
     ·cases hl
   unfold cpDraw at hl
   split at hl
   ·rename_i l2 h2
    obtain rfl := Option.some.inj hl
    exact by_ _ _ h2 h
   ·exact by_ _ _ hl h
 case seq a b => split at hc <;> cases hc
 case rangeFunc g ps a b => split at hc <;> cases hc
 case cond d a b => split at hc <;> cases hc
 case block id a => simp at hc
 case loop a => simp at hc
 case scope a => simp at hc
theorem swp_seq {a b : SC} {Q : Exit -> T V -> Hp -> Prop} {F : T V} {H : Hp} (h : SWPr ρ P G n a (thenQ (SWPr ρ P G n b Q) Q) F H) : SWPr ρ P G n (.seq a b) Q F H := by
 intro c hc
 cases c <;> simp only [cpCode] at hc <;> try (cases hc; done)
 case seq x y =>
  split at hc
  ·rename_i x' y' hx hy
   simp only [Option.some.injEq, SC.seq.injEq] at hc
   obtain ⟨rfl, rfl⟩ := hc
   refine awp_seq (awp_mono (h x hx) fun e F' H' he => ?_)
   cases e with
   | normal => exact (show SWPr ρ P G n y' Q F' H' from he) y hy
   | _ => exact he
  ·cases hc
 case region id ops draw => split at hc <;> simp at hc
 case cond d a b => split at hc <;> cases hc
 case block id a => simp at hc
 case loop a => simp at hc
 case scope a => simp at hc
 case rangeFunc g ps a b => split at hc <;> cases hc
theorem swp_cond {d : Opd} {a b : SC} {Q : Exit -> T V -> Hp -> Prop} {F : T V} {H : Hp} {t : Bool} (ht : d.ev F = .one (.bool t)) (h : SWPr ρ P G n (if t then a else b) Q F H) : SWPr ρ P G n (.cond d a b) Q F H := by
 intro c hc
 cases c <;> simp only [cpCode] at hc <;> try (cases hc; done)
 case cond o x y =>
  split at hc
  ·rename_i d' x' y' h1 hx hy
   simp only [Option.some.injEq, SC.cond.injEq] at hc
   obtain ⟨rfl, rfl, rfl⟩ := hc
   refine awp_cond h1 ht ?_
   cases t
   ·exact h y hy
   ·exact h x hx
  ·cases hc
 case region id ops draw => split at hc <;> simp at hc
 case seq a b => split at hc <;> cases hc
 case rangeFunc g ps a b => split at hc <;> cases hc
 case block id a => simp at hc
 case loop a => simp at hc
 case scope a => simp at hc
theorem swp_block {id : Nat} {a : SC} {Q : Exit -> T V -> Hp -> Prop} {F : T V} {H : Hp} (h : SWPr ρ P G n a (blockQ id Q) F H) : SWPr ρ P G n (.block id a) Q F H := by
 intro c hc
 cases c <;> simp only [cpCode] at hc <;> try (cases hc; done)
 case block id' x =>
  simp only [Option.map_eq_some_iff, SC.block.injEq] at hc
  obtain ⟨x', hx, rfl, rfl⟩ := hc
  exact awp_block (h x hx)
 case region id ops draw => split at hc <;> simp at hc
 case seq a b => split at hc <;> cases hc
 case rangeFunc g ps a b => split at hc <;> cases hc
 case cond d a b => split at hc <;> cases hc
 case loop a => simp at hc
 case scope a => simp at hc
theorem swp_loop {a : SC} {Q : Exit -> T V -> Hp -> Prop} {F : T V} {H : Hp} (I : Nat -> T V -> Hp -> Prop) {m : Nat} (h0 : I m F H) (round : ∀ m F H, I m F H -> SWPr ρ P G n a (thenQ (fun F' H' => ∃ m', m' < m /\ I m' F' H') Q) F H) : SWPr ρ P G n (.loop a) Q F H := by
 intro c hc
 cases c <;> simp only [cpCode] at hc <;> try (cases hc; done)
 case loop x =>
  simp only [Option.map_eq_some_iff, SC.loop.injEq] at hc
  obtain ⟨x', hx, rfl⟩ := hc
  exact awp_loop I h0 fun m F H hI => round m F H hI x hx
 case region id ops draw => split at hc <;> simp at hc
 case seq a b => split at hc <;> cases hc
 case rangeFunc g ps a b => split at hc <;> cases hc
 case cond d a b => split at hc <;> cases hc
 case block id a => simp at hc
 case scope a => simp at hc
theorem swp_scope {a : SC} {Q : Exit -> T V -> Hp -> Prop} {F : T V} {H : Hp} (h : SWPr ρ P G n a (scopeQ Q) F H) : SWPr ρ P G n (.scope a) Q F H := by
 intro c hc
 cases c <;> simp only [cpCode] at hc <;> try (cases hc; done)
 case scope x =>
  simp only [Option.map_eq_some_iff, SC.scope.injEq] at hc
  obtain ⟨x', hx, rfl⟩ := hc
  exact awp_scope (h x hx)
 case rangeFunc g ps a b => split at hc <;> cases hc
 case region id ops draw => split at hc <;> simp at hc
 case seq a b => split at hc <;> cases hc
 case cond d a b => split at hc <;> cases hc
 case block id a => simp at hc
 case loop a => simp at hc
theorem swp_exit {id : Nat} {Q : Exit -> T V -> Hp -> Prop} {F : T V} {H : Hp} (h : Q (.exit id) F H) : SWPr ρ P G n (.exit id) Q F H := by
 intro c hc
 cases c <;> simp only [cpCode] at hc <;> try (cases hc; done)
 case exit id' => simp only [Option.some.injEq, SC.exit.injEq] at hc; subst hc; exact awp_exit h
 case region id ops draw => split at hc <;> simp at hc
 case seq a b => split at hc <;> cases hc
 case rangeFunc g ps a b => split at hc <;> cases hc
 case cond d a b => split at hc <;> cases hc
 case block id a => simp at hc
 case loop a => simp at hc
 case scope a => simp at hc
theorem swp_ret {Q : Exit -> T V -> Hp -> Prop} {F : T V} {H : Hp} (h : Q .ret F H) : SWPr ρ P G n .ret Q F H := by
 intro c hc
 cases c <;> simp only [cpCode] at hc <;> try (cases hc; done)
 case ret => exact awp_ret h
 case region id ops draw => split at hc <;> simp at hc
 case seq a b => split at hc <;> cases hc
 case rangeFunc g ps a b => split at hc <;> cases hc
 case cond d a b => split at hc <;> cases hc
 case block id a => simp at hc
 case loop a => simp at hc
 case scope a => simp at hc
def jumpQ (Q : Exit -> T V -> Hp -> Prop) : Option Code -> T V -> Hp -> Prop
 | none => Q .normal
 | some .ret => Q .ret
 | some (.exit id) => Q (.exit id)
 | _ => fun _ _ => False
theorem swp_rf {d : Opd} {ps : List Nat} {sa sb : SC} {f : FuncId} {caps : List (Nat × Nat)} {Q : Exit -> T V -> Hp -> Prop} {F : T V} {H : Hp} (hdv : d.ev F = .one (.fn f caps)) (hf : isFn P f = true)
  (h : ∀ fid sg bd, cpCode P G n sg = some sa -> cpCode P G n bd = some sb -> ACalls P G f (.one (.yld H.nx) :: caps.map ptrV) (H.push (.lp .ready none fid n F ps.toArray sg bd)) fun _ H' => ∃ st j f1 n1 F1 ps1 as1 bd1, H'.get H.nx = some (.lp st j f1 n1 F1 ps1 as1 bd1) /\ st ≠ .busy /\
   jumpQ Q j F (H'.add H.nx (.lp .exhausted j f1 n1 F1 ps1 as1 bd1))) : SWP P G n (.rf d ps sa sb) Q F H := by
 intro c hc
 cases c <;> simp only [cpCode] at hc <;> try (cases hc; done)
 case rangeFunc g ps' sg bd =>
  split at hc
  ·rename_i d' a' b' hg ha hb
   simp only [Option.some.injEq, SC.rf.injEq] at hc
   obtain ⟨rfl, rfl, rfl, rfl⟩ := hc
   refine awp_rf hg hdv hf fun fid => (h fid sg bd ha hb).mono fun _ H' hh => ?_
   obtain ⟨st, j, f1, n1, F1, ps1, as1, bd1, h1, h2, h3⟩ := hh
   refine ⟨st, j, f1, n1, F1, ps1, as1, bd1, by simpa using h1, h2, ?_⟩
   cases j with
   | none => exact h3
   | some c => cases c <;> first|exact h3.elim|exact awp_ret h3|exact awp_exit h3
  ·cases hc
 case region id ops draw => split at hc <;> simp at hc
 case seq a b => split at hc <;> cases hc
 case cond d a b => split at hc <;> cases hc
 case block id a => simp at hc
 case loop a => simp at hc
 case scope a => simp at hc
theorem syield_ok {b : Nat} {args : List V} {j : Option Code} {f : FuncId} {F : T V} {ps : Array Tmp} {sg bd : Code} {sa sb : SC} {R : V -> Hp -> Prop} {H : Hp} (hb : H.get b = some (.lp .ready j f n F ps sg bd)) (hlen : args.length = ps.size) (ha : cpCode P G n sg = some sa) (hbd : cpCode P G n bd = some sb)
  (h : ∀ l, SWPr (some l) P G n sa (fun e F1 H1 => e = .normal /\ ∃ j1 f1 n1 F0 ps1 as1 bd1, H1.get b = some (.lp .ready j1 f1 n1 F0 ps1 as1 bd1) /\ SWPr (some l) P G n sb (roundQ b R) F1 (H1.add b (.lp .busy j1 f1 n1 F0 ps1 as1 bd1))) (setPs F ps.toList args) H) :
  AYield P G b args H R :=
 ayield_ok hb hlen fun l => awp_mono (h l sg ha) fun e F1 H1 ⟨he, j1, f1, n1, F0, ps1, as1, bd1, h1, h2⟩ => ⟨he, j1, f1, n1, F0, ps1, as1, bd1, h1, h2 bd hbd⟩
theorem swp_mono {s : SC} {Q Q' : Exit -> T V -> Hp -> Prop} {F : T V} {H : Hp} (h : SWPr ρ P G n s Q F H) (hq : ∀ e F H, Q e F H -> Q' e F H) : SWPr ρ P G n s Q' F H :=
 fun c hc => awp_mono (h c hc) hq
def WF (H : Hp) : Prop := ∀ b bk, H.get b = some bk -> b < H.nx
theorem swp_wf {s : SC} {Q : Exit -> T V -> Hp -> Prop} {F : T V} {H : Hp} (h : WF H -> SWPr ρ P G n s Q F H) : SWPr ρ P G n s Q F H :=
 fun c hc s μ K w a hR hF hd => h hR.lt' c hc s μ K w a hR hF hd
theorem acalls_wf {f : FuncId} {args : List V} {H : Hp} {R : V -> Hp -> Prop} (h : WF H -> ACalls P G f args H R) : ACalls P G f args H R :=
 fun μ K w xs hR ha => h hR.lt' μ K w xs hR ha
theorem ACalls.wf {f : FuncId} {args : List V} {H : Hp} {R : V -> Hp -> Prop} (h : ACalls P G f args H R) : ACalls P G f args H fun v H' => R v H' /\ WF H' :=
 fun μ K w xs hR ha => (h μ K w xs hR ha).mono fun _ _ ⟨x, he, v, H', μ', K', h1, h2, h3, h4⟩ => ⟨x, he, v, H', μ', K', ⟨h1, h3.lt'⟩, h2, h3, h4⟩
theorem initF_get : ∀ {l : List V} {i j : Nat}, (initF l i).get j = if i <= j then l[j - i]? else none
 | [], i, j => by simp [initF]
 | v :: l, i, j => by
  simp only [initF]
  rw [T.get_set]
  by_cases e : j = i
  ·subst e; simp
  ·rw [if_neg e, initF_get]
   by_cases h : i + 1 <= j
   ·rw [if_pos h, if_pos (by omega), show j - i = (j - (i + 1)) + 1 by omega]; simp
   ·rw [if_neg h, if_neg (by omega)]
def resOne (tmps : Array Value) : ResultVar -> Sem Value
 | .tmp t => pure (tmps.getD t Go.undef)
 | .cell c t => do loadVar t (<- asAddr (tmps.getD c Go.undef))
theorem mapM_head {rv : List ResultVar} {r : ResultVar} {f : ResultVar -> Sem Value} {x : Value} {xs : List Value} {w : World} (h1 : (f r).run P w = .ok x w) (h2 : (rv.mapM f).run P w = .ok xs w) : ((r :: rv).mapM f).run P w = .ok (x :: xs) w := by
 rw [List.mapM_cons, Sem.run_bind, h1, Result.andThen_ok, Sem.run_bind, h2]
 rfl
theorem aRes_ok {μ : Nat -> Pl} {K : Nat -> Prop} {F : T V} {H : Hp} {w : World} {a : Act} (hR : Rel G μ K H w) (hF : FRel μ K n F a.tmps) : ∀ {rv : List ResultVar} {rs : List SRes} {vs : List V}, cpRes P n rv = some rs -> aResL F H rs = some vs ->
  ∃ xs : List Value, All2 (RV1 μ K) vs xs /\ (rv.mapM (resOne a.tmps)).run P w = .ok xs w
 | [], rs, vs, h1, h2 => by
  simp [cpRes] at h1; subst h1
  simp [aResL] at h2; subst h2
  exact ⟨[], trivial, by simp⟩
 | .tmp t :: rv, rs, vs, h1, h2 => by
  simp only [cpRes] at h1
  split at h1
  ·rename_i ht
   simp only [Option.map_eq_some_iff] at h1
   obtain ⟨rs', hrs, rfl⟩ := h1
   simp only [aResL, aRes] at h2
   split at h2
   ·rename_i v vs' e1 e2
    split at h2
    ·rename_i hone
     obtain rfl := Option.some.inj h2
     obtain rfl := Option.some.inj e1
     obtain ⟨xs, hall, hrun⟩ := aRes_ok hR hF hrs e2
     exact ⟨a.tmps.getD t Go.undef :: xs, ⟨isOne_rv hone (hF.2 t ht), hall⟩, mapM_head rfl hrun⟩
    ·cases h2
   ·cases h2
  ·cases h1
 | .cell c t :: rv, rs, vs, h1, h2 => by
  simp only [cpRes] at h1
  split at h1
  ·rename_i g k hg hk
   split at h1
   ·rename_i hc
    simp only [Option.map_eq_some_iff] at h1
    obtain ⟨rs', hrs, rfl⟩ := h1
    simp only [aResL, aRes] at h2
    split at h2
    ·rename_i v vs' e1 e2
     split at h2
     ·rename_i hone
      obtain rfl := Option.some.inj h2
      obtain ⟨xs, hall, hrun⟩ := aRes_ok hR hF hrs e2
      have hv := hF.2 c hc
      simp only [aLoad, Opd.ev] at e1
      split at e1
      ·rename_i b o he
       rw [he] at hv
       obtain ⟨hkb, hv'⟩ : K b /\ a.tmps.getD c Go.undef = .pointer (some ((μ b).addr o)) := hv
       cases g with
       | true =>
        simp only [if_true, Option.map_eq_some_iff] at e1
        obtain ⟨l, hl, rfl⟩ := e1
        obtain ⟨ys, ha, hr⟩ := hR.loads (P := P) (n := k) (b := b) (o := o) (i := 0) (acc := #[]) hl
        have hr' : (loadCells ((μ b).addr o) k).run P w = .ok ys.toArray w := by simpa [loadCells] using hr
        refine ⟨.agg ys.toArray :: xs, ⟨⟨ys, rfl, ha⟩, hall⟩, mapM_head ?_ hrun⟩
        simp only [resOne, Sem.run_bind, hv', asAddr, Sem.run_pure, Result.andThen_ok, loadVar, isAggT_run hg, if_true, sizeT_run hk, hr']
       | false =>
        simp only [Bool.false_eq_true, if_false, Option.map_eq_some_iff] at e1
        obtain ⟨cc, hcc, rfl⟩ := e1
        obtain ⟨y, hy, hr⟩ := hR.cell hcc
        refine ⟨y :: xs, ⟨hr, hall⟩, mapM_head ?_ hrun⟩
        simp only [resOne, Sem.run_bind, hv', asAddr, Sem.run_pure, Result.andThen_ok, loadVar, isAggT_run hg, Bool.false_eq_true, if_false, run_load, hy]
      ·cases e1
     ·cases h2
    ·cases h2
   ·cases h1
  ·cases h1
theorem fn_ok {f : FuncId} {sf : SFn} (hf : cpFn P G f = some sf) {args : List V} {H : Hp} {R : V -> Hp -> Prop} (hn : args.length <= sf.n) (h : SWP P G sf.n sf.code (retQ sf.res R) (initF args 0) H) : ACalls P G f args H R := by
 unfold cpFn at hf
 split at hf
 ·cases hf
 ·rename_i fn hfn
  split at hf
  ·cases hf
  ·rename_i c hb
   split at hf
   ·rename_i s rs hs hrs
    obtain rfl := Option.some.inj hf
    intro μ K w xs hR ha
    refine (callsIn_wide (n := 0)).1 (callsIn_of_wp_marks hfn hb trivial ?_)
    have hlen := ha.len
    have hF0 : FRel μ K fn.ntmps (initF args 0) (xs.toArray ++ Array.replicate (fn.ntmps - xs.toArray.size) Go.undef) := by
     refine ⟨by simp; simp at hn; omega, fun i hi => ?_⟩
     rw [initF_get]
     simp only [Nat.zero_le, if_true, Nat.sub_zero]
     by_cases hlt : i < xs.length
     ·have h1 : args[i]? = some args[i] := List.getElem?_eq_getElem (by omega)
      rw [h1]
      obtain ⟨x, hx, hr⟩ := ha.at i _ h1
      have : (xs.toArray ++ Array.replicate (fn.ntmps - xs.toArray.size) Go.undef).getD i Go.undef = x := by
       simp [Array.getD_eq_getD_getElem?, Array.getElem?_append, hlt, List.getElem?_eq_getElem hlt] at hx ⊢
       exact hx
      rw [this]
      exact hr
     ·have h1 : args[i]? = none := List.getElem?_eq_none (by omega)
      rw [h1]
      have : (xs.toArray ++ Array.replicate (fn.ntmps - xs.toArray.size) Go.undef).getD i Go.undef = Go.undef := by
       simp only [Array.getD_eq_getD_getElem?, Array.getElem?_append]
       rw [if_neg (by simpa using hlt)]
       rw [Array.getElem?_replicate]
       split <;> rfl
      rw [this]
      exact RV.undef
    refine wpIn_mono (h c hs w.heap.size μ K w ⟨_, []⟩ hR hF0 (Dok.nil w (Nat.le_refl _))) fun e a' w' he => ?_
    obtain ⟨hd, F', H', μ', K', h1, h3, h4', h5⟩ := he
    have fin : (match aResult F' H' rs with
      | some v => R v H'
      | none => False) -> LeavesInM Fence.wide 0 P fn a'.tmps (fun e w' => ∃ x, e = .returned x /\ ∃ v H' μ' K', R v H' /\ RV μ' K' v x /\ Rel G μ' K' H' w' /\ Fr μ K H w μ' K' H' w') a'.defers .returning w' := by
     intro hres
     refine leave_ok hd h3 h5 fun w' h2 h4 => ?_
     unfold aResult at hres
     cases hl : aResL F' H' rs with
     | none => simp [hl] at hres
     | some vs =>
      obtain ⟨ys, hall, hrun⟩ := aRes_ok (P := P) h2 h4' hrs hl
      have hrun' : (results fn a'.tmps).run P w' = .ok (if h : ys.toArray.size = 1 then ys.toArray[0] else .tuple ys.toArray) w' := by
       have he : results fn a'.tmps = (do let vs <- fn.results.mapM (resOne a'.tmps); pure (if h : vs.size = 1 then vs[0] else .tuple vs)) := by
        unfold results resOne
        rfl
       rw [he, Sem.run_bind, Array.mapM_eq_mapM_toList, Sem.run_map, hrun]
       rfl
      clear hrun
      match vs, ys, hall, hl, hrun' with
      | [v], [y], hall, hl, hrun' =>
       simp only [hl] at hres
       exact ⟨y, by rw [hrun']; rfl, y, rfl, v, H', μ', K', hres, RV.of1 hall.1, h2, h4⟩
      | [], [], _, hl, hrun' =>
       simp only [hl] at hres
       exact ⟨.tuple #[], by rw [hrun']; rfl, _, rfl, .tup [], H', μ', K', hres, RV.undef, h2, h4⟩
      | v1 :: v2 :: vs, y1 :: y2 :: ys, hall, hl, hrun' =>
       simp only [hl] at hres
       exact ⟨.tuple (y1 :: y2 :: ys).toArray, by rw [hrun']; simp, _, rfl, .tup (v1 :: v2 :: vs), H', μ', K', hres, ⟨_, rfl, hall⟩, h2, h4⟩
      | [], _ :: _, hall, _, _ => exact hall.elim
      | _ :: _, [], hall, _, _ => exact hall.elim
      | [_], _ :: _ :: _, hall, _, _ => exact hall.2.elim
      | _ :: _ :: _, [_], hall, _, _ => exact hall.2.elim
    cases e with
    | normal => exact fin h1
    | ret => exact fin h1
    | exit id => exact h1.elim
    | goto l => exact h1.elim
    | panic ch => exact h1.elim
    | outgrown => exact h1.elim
   ·cases hf
end
end Go.Ab

namespace Go.Ab
def Ceq : C -> C -> Bool
 | .bool a, .bool b => a == b
 | .int k a, .int k' b => decide (k = k') && decide (a = b)
 | .str a, .str b => decide (a.data = b.data)
 | .ptr b o, .ptr b' o' => decide (b = b') && decide (o = o')
 | .nilp, .nilp => true
 | .slc b o l c e x, .slc b' o' l' c' e' x' => decide (b = b') && decide (o = o') && decide (l = l') && decide (c = c') && decide (e = e') && (x == x')
 | .nils, .nils => true
 | .map b, .map b' => decide (b = b')
 | .nilm, .nilm => true
 | .fn f l, .fn f' l' => decide (f = f') && decide (l = l')
 | .nilf, .nilf => true
 | _, _ => false
theorem Ceq_ok {a b : C} (h : Ceq a b = true) : a = b := by
 cases a <;> cases b <;> simp [Ceq] at h <;> simp_all
 rename_i s t
 cases s; cases t; simp_all
def Leq : List C -> List C -> Bool
 | [], [] => true
 | a :: l, b :: m => Ceq a b && Leq l m
 | _, _ => false
theorem Leq_ok : ∀ {l m : List C}, Leq l m = true -> l = m
 | [], [], _ => rfl
 | a :: l, b :: m, h => by
  simp only [Leq, Bool.and_eq_true] at h
  rw [Ceq_ok h.1, Leq_ok h.2]
 | [], _ :: _, h => by simp [Leq] at h
 | _ :: _, [], h => by simp [Leq] at h
def Veq : V -> V -> Bool
 | .one a, .one b => Ceq a b
 | .agg l, .agg m => Leq l m
 | _, _ => false
theorem Veq_ok {a b : V} (h : Veq a b = true) : a = b := by
 cases a <;> cases b <;> simp only [Veq] at h
 all_goals first
  | rw [Ceq_ok h]
  | rw [Leq_ok h]
  | cases h
abbrev ECtx := List (Nat × T V × LoadOp × V)
def watchE (ws : List Nat) (ctx : ECtx) (H : Hp) : Bool :=
 ws.all fun k => ctx.all fun e => e.1 != k || (match aLoad e.2.1 H e.2.2.1 with
  | some v => Veq v e.2.2.2
  | none => false)
def evOps (tb : Nat -> Option SFn) (call : FuncId -> List V -> Hp -> Option (V × Hp)) (base : Nat) : List SOper -> ECtx -> T V -> Hp -> Option (T V × Hp)
 | [], _, F, H => some (F, H)
 | o :: r, ctx, F, H =>
  match wantedA o.guard F with
  | true =>
   match o.op with
   | .p op => match aPure F op with
    | some v => evOps tb call base r ctx (setO F o.dst v) H
    | none => none
   | .l op => match aLoad F H op with
    | some v => evOps tb call base r (match o.keep with
     | true => (o.id, F, op, v) :: ctx
     | false => ctx) (setO F o.dst v) H
    | none => none
   | .a op => match aAlloc F op with
    | some (bk, g) => match o.aid with
     | none => evOps tb call base r ctx (setO F o.dst (g H.nx)) (H.push bk)
     | some k => evOps tb call base r ctx (setO F o.dst (g (base + k))) (H.add (base + k) bk)
    | none => none
   | .e op => match aEff F H op with
    | some (v, H') => match watchE o.watch ctx H' with
     | true => evOps tb call base r ctx (setO F o.dst v) H'
     | false => none
    | none => none
   | .cf f args => match call f (args.map (·.ev F)) H with
    | some (v, H') => match watchE o.watch ctx H' with
     | true => evOps tb call base r ctx (setO F o.dst v) H'
     | false => none
    | none => none
   | .cv x args => match x.ev F with
    | .one (.fn f caps) => match tb f with
     | some _ => match call f (args.map (·.ev F) ++ caps.map ptrV) H with
      | some (v, H') => match watchE o.watch ctx H' with
       | true => evOps tb call base r ctx (setO F o.dst v) H'
       | false => none
      | none => none
     | none => none
    | _ => none
   | .nx _ => none
   | .no => none
  | false => evOps tb call base r ctx (setO F o.dst V.undef) H
inductive EE where
 | normal
 | exit (id : Nat)
 | ret
def EE.ex : EE -> Exit
 | .normal => .normal
 | .exit id => .exit id
 | .ret => .ret
def evCall (tb : Nat -> Option SFn) (rec : SC -> T V -> Hp -> Option (EE × T V × Hp)) (f : FuncId) (args : List V) (H : Hp) : Option (V × Hp) :=
 match tb f with
 | none => none
 | some sf => if args.length <= sf.n then
   match rec sf.code (initF args 0) H with
   | none => none
   | some (e, F', H') => match e with
    | .exit _ => none
    | _ => match aResult F' H' sf.res with
     | some v => some (v, H')
     | none => none
  else none
def evStep (tb : Nat -> Option SFn) (rec : SC -> T V -> Hp -> Option (EE × T V × Hp)) (s : SC) (F : T V) (H : Hp) : Option (EE × T V × Hp) :=
 match s with
 | .skip => some (.normal, F, H)
 | .ops l res => match evOps tb (evCall tb rec) H.nx l [] F (H.skip res) with
  | none => none
  | some (F', H') => some (.normal, F', H')
 | .seq a b => match rec a F H with
  | none => none
  | some (e, F', H') => match e with
   | .normal => rec b F' H'
   | e => some (e, F', H')
 | .cond d a b => match d.ev F with
  | .one (.bool t) => match t with
   | true => rec a F H
   | false => rec b F H
  | _ => none
 | .block id a => match rec a F H with
  | none => none
  | some (e, F', H') => match e with
   | .exit id' => if id' = id then some (.normal, F', H') else some (.exit id', F', H')
   | e => some (e, F', H')
 | .loop a => match rec a F H with
  | none => none
  | some (e, F', H') => match e with
   | .normal => rec (.loop a) F' H'
   | e => some (e, F', H')
 | .exit id => some (.exit id, F, H)
 | .ret => some (.ret, F, H)
 | .scope a => match rec a F H with
  | none => none
  | some (e, F', H') => some (e, F', H')
 | .rf .. => none
 | .no => none
def evC (tb : Nat -> Option SFn) : Nat -> SC -> T V -> Hp -> Option (EE × T V × Hp)
 | 0 => fun _ _ _ => none
 | fuel + 1 => evStep tb (evC tb fuel)
def evF (tb : Nat -> Option SFn) (fuel : Nat) (f : FuncId) (args : List V) (H : Hp) : Option (V × Hp) := evCall tb (evC tb fuel) f args H
def TabOk (P : Program) (G : Nat) (tb : Nat -> Option SFn) : Prop := ∀ f sf, tb f = some sf -> cpFn P G f = some sf /\ isFn P f = true
section
variable {P : Program} {G : Nat} {tb : Nat -> Option SFn}
def ctxP (ctx : ECtx) : Ctx := ctx.map fun e => (e.1, fun H' => aLoad e.2.1 H' e.2.2.1 = some e.2.2.2)
theorem watchE_ok {ws : List Nat} {ctx : ECtx} {H : Hp} (h : watchE ws ctx H = true) : watchOk ws (ctxP ctx) H := by
 cases ws with
 | nil => trivial
 | cons w ws =>
  intro k hk p hp
  simp only [watchE, List.all_eq_true] at h
  have h1 := h k hk
  obtain ⟨e, he, hep⟩ := List.mem_map.1 hp
  have h2 := h1 e he
  injection hep with e1 e2
  subst e1 e2
  simp only [bne_self_eq_false, Bool.false_or] at h2
  cases hv : aLoad e.2.1 H e.2.2.1 with
  | none => simp [hv] at h2
  | some v => simp only [hv] at h2; show aLoad e.2.1 H e.2.2.1 = some e.2.2.2; rw [hv, Veq_ok h2]
theorem evOps_ok {call : FuncId -> List V -> Hp -> Option (V × Hp)} (hcall : ∀ f args H v H', call f args H = some (v, H') -> ACalls P G f args H fun v' H'' => v' = v /\ H'' = H') (htb : TabOk P G tb) {base : Nat} {Q : T V -> Hp -> Prop} :
  ∀ {l : List SOper} {ctx : ECtx} {F F' : T V} {H H' : Hp}, evOps tb call base l ctx F H = some (F', H') -> Q F' H' -> wOps P G base Q l (ctxP ctx) F H
 | [], ctx, F, F', H, H', h, hq => by
  simp only [evOps, Option.some.injEq, Prod.mk.injEq] at h
  obtain ⟨rfl, rfl⟩ := h
  exact hq
 | o :: r, ctx, F, F', H, H', h, hq => by
  rw [evOps] at h
  rw [wOps]
  cases hw : wantedA o.guard F with
  | false =>
   simp only [hw] at h
   simp only [Bool.false_eq_true, if_false]
   exact evOps_ok hcall htb h hq
  | true =>
   simp only [hw] at h
   simp only [if_true]
   cases hop : o.op with
   | p op =>
    simp only [hop] at h ⊢
    cases hv : aPure F op with
    | none => simp [hv] at h
    | some v => simp only [hv] at h ⊢; exact evOps_ok hcall htb h hq
   | l op =>
    simp only [hop] at h ⊢
    cases hv : aLoad F H op with
    | none => simp [hv] at h
    | some v =>
     simp only [hv] at h ⊢
     cases hk : o.keep with
     | false => simp only [hk] at h; simp only [Bool.false_eq_true, if_false]; exact evOps_ok hcall htb h hq
     | true => simp only [hk] at h; simp only [if_true]; exact evOps_ok (ctx := (o.id, F, op, v) :: ctx) hcall htb h hq
   | a op =>
    simp only [hop] at h ⊢
    cases hv : aAlloc F op with
    | none => simp [hv] at h
    | some bg =>
     simp only [hv] at h ⊢
     cases hai : o.aid with
     | none => simp only [hai] at h ⊢; exact evOps_ok hcall htb h hq
     | some k => simp only [hai] at h ⊢; exact evOps_ok hcall htb h hq
   | e op =>
    simp only [hop] at h ⊢
    cases hv : aEff F H op with
    | none => simp [hv] at h
    | some vH =>
     simp only [hv] at h ⊢
     cases hwt : watchE o.watch ctx vH.2 with
     | false => simp [hwt] at h
     | true => simp only [hwt] at h; exact ⟨watchE_ok hwt, evOps_ok hcall htb h hq⟩
   | cf f args =>
    simp only [hop] at h ⊢
    cases hv : call f (args.map (·.ev F)) H with
    | none => simp [hv] at h
    | some vH =>
     simp only [hv] at h
     cases hwt : watchE o.watch ctx vH.2 with
     | false => simp [hwt] at h
     | true =>
      simp only [hwt] at h
      refine (hcall f _ H vH.1 vH.2 hv).mono ?_
      rintro v' H'' ⟨rfl, rfl⟩
      exact ⟨watchE_ok hwt, evOps_ok hcall htb h hq⟩
   | cv x args =>
    simp only [hop] at h ⊢
    split at h
    ·rename_i f caps hx
     cases ht : tb f with
     | none => simp [ht] at h
     | some sf =>
      simp only [ht] at h
      try simp only [hx]
      refine ⟨(htb f sf ht).2, ?_⟩
      cases hv : call f (args.map (·.ev F) ++ caps.map ptrV) H with
      | none => simp [hv] at h
      | some vH =>
       simp only [hv] at h
       cases hwt : watchE o.watch ctx vH.2 with
       | false => simp [hwt] at h
       | true =>
        simp only [hwt] at h
        refine (hcall f _ H vH.1 vH.2 hv).mono ?_
        rintro v' H'' ⟨rfl, rfl⟩
        exact ⟨watchE_ok hwt, evOps_ok hcall htb h hq⟩
    ·cases h
   | nx x => simp [hop] at h
   | no => simp [hop] at h
theorem evCall_ok {rec : SC -> T V -> Hp -> Option (EE × T V × Hp)} (htb : TabOk P G tb) (hrec : ∀ {n : Nat} {s : SC} {F F' : T V} {H H' : Hp} {e : EE} {Q : Exit -> T V -> Hp -> Prop}, rec s F H = some (e, F', H') -> Q e.ex F' H' -> SWP P G n s Q F H)
  {f : FuncId} {args : List V} {H H' : Hp} {v : V} (h : evCall tb rec f args H = some (v, H')) : ACalls P G f args H fun v' H'' => v' = v /\ H'' = H' := by
 unfold evCall at h
 split at h
 ·cases h
 ·rename_i sf hsf
  split at h
  ·rename_i hlen
   split at h
   ·cases h
   ·rename_i e2 F2 H4 hev2
    obtain ⟨hcp, _⟩ := htb f sf hsf
    cases e2 with
    | exit id => cases h
    | normal =>
     simp only at h
     split at h
     ·rename_i v2 hres
      simp only [Option.some.injEq, Prod.mk.injEq] at h
      obtain ⟨rfl, rfl⟩ := h
      refine fn_ok hcp hlen (hrec hev2 ?_)
      simp only [EE.ex, retQ, hres]
      exact ⟨trivial, trivial⟩
     ·cases h
    | ret =>
     simp only at h
     split at h
     ·rename_i v2 hres
      simp only [Option.some.injEq, Prod.mk.injEq] at h
      obtain ⟨rfl, rfl⟩ := h
      refine fn_ok hcp hlen (hrec hev2 ?_)
      simp only [EE.ex, retQ, hres]
      exact ⟨trivial, trivial⟩
     ·cases h
  ·cases h
theorem evC_ok (hm : P.follows .mixedOrders = true) (htb : TabOk P G tb) : ∀ (fuel : Nat) {n : Nat} {s : SC} {F F' : T V} {H H' : Hp} {e : EE} {Q : Exit -> T V -> Hp -> Prop}, evC tb fuel s F H = some (e, F', H') -> Q e.ex F' H' -> SWP P G n s Q F H := by
 intro fuel
 induction fuel using Nat.strongRecOn with
 | _ fuel ih =>
  intro n s F F' H H' e Q h hq
  cases fuel with
  | zero => cases h
  | succ fuel =>
   have h : evStep tb (evC tb fuel) s F H = some (e, F', H') := h
   have hrec : ∀ {n : Nat} {s : SC} {F F' : T V} {H H' : Hp} {e : EE} {Q : Exit -> T V -> Hp -> Prop}, evC tb fuel s F H = some (e, F', H') -> Q e.ex F' H' -> SWP P G n s Q F H := fun h hq => ih fuel (by omega) h hq
   cases s with
   | skip =>
    simp only [evStep, Option.some.injEq, Prod.mk.injEq] at h
    obtain ⟨rfl, rfl, rfl⟩ := h
    exact swp_skip hq
   | ops l res =>
    simp only [evStep] at h
    split at h
    ·cases h
    ·rename_i F1 H1 hev
     simp only [Option.some.injEq, Prod.mk.injEq] at h
     obtain ⟨rfl, rfl, rfl⟩ := h
     exact swp_ops hm (evOps_ok (ctx := []) (fun f args H2 v H3 hc => evCall_ok htb hrec hc) htb hev hq)
   | seq a b =>
    simp only [evStep] at h
    split at h
    ·cases h
    ·rename_i e1 F1 H1 h1
     refine swp_seq ?_
     cases e1 with
     | normal => exact hrec h1 (hrec (Q := Q) h hq)
     | exit id =>
      simp only [Option.some.injEq, Prod.mk.injEq] at h
      obtain ⟨rfl, rfl, rfl⟩ := h
      exact hrec h1 hq
     | ret =>
      simp only [Option.some.injEq, Prod.mk.injEq] at h
      obtain ⟨rfl, rfl, rfl⟩ := h
      exact hrec h1 hq
   | cond d a b =>
    simp only [evStep] at h
    split at h
    ·rename_i t ht
     cases t with
     | true => exact swp_cond (t := true) ht (hrec h hq)
     | false => exact swp_cond (t := false) ht (hrec h hq)
    ·cases h
   | block id a =>
    simp only [evStep] at h
    split at h
    ·cases h
    ·rename_i e1 F1 H1 h1
     refine swp_block ?_
     cases e1 with
     | normal =>
      simp only [Option.some.injEq, Prod.mk.injEq] at h
      obtain ⟨rfl, rfl, rfl⟩ := h
      exact hrec h1 hq
     | ret =>
      simp only [Option.some.injEq, Prod.mk.injEq] at h
      obtain ⟨rfl, rfl, rfl⟩ := h
      exact hrec h1 hq
     | exit id' =>
      simp only at h
      refine hrec h1 ?_
      simp only [EE.ex, blockQ]
      split at h
      ·rename_i hid
       simp only [Option.some.injEq, Prod.mk.injEq] at h
       obtain ⟨rfl, rfl, rfl⟩ := h
       rw [if_pos hid]; exact hq
      ·rename_i hid
       simp only [Option.some.injEq, Prod.mk.injEq] at h
       obtain ⟨rfl, rfl, rfl⟩ := h
       rw [if_neg hid]; exact hq
   | loop a =>
    refine swp_loop (fun m F1 H1 => m <= fuel + 1 /\ evC tb m (.loop a) F1 H1 = some (e, F', H')) (m := fuel + 1) ⟨Nat.le_refl _, h⟩ ?_
    rintro m F1 H1 ⟨hle, hev⟩
    cases m with
    | zero => cases hev
    | succ m =>
     have hev : evStep tb (evC tb m) (.loop a) F1 H1 = some (e, F', H') := hev
     simp only [evStep] at hev
     split at hev
     ·cases hev
     ·rename_i e1 F2 H2 h1
      cases e1 with
      | normal => exact ih m (by omega) h1 ⟨m, by omega, by omega, hev⟩
      | exit id =>
       simp only [Option.some.injEq, Prod.mk.injEq] at hev
       obtain ⟨rfl, rfl, rfl⟩ := hev
       exact ih m (by omega) h1 hq
      | ret =>
       simp only [Option.some.injEq, Prod.mk.injEq] at hev
       obtain ⟨rfl, rfl, rfl⟩ := hev
       exact ih m (by omega) h1 hq
   | exit id =>
    simp only [evStep, Option.some.injEq, Prod.mk.injEq] at h
    obtain ⟨rfl, rfl, rfl⟩ := h
    exact swp_exit hq
   | ret =>
    simp only [evStep, Option.some.injEq, Prod.mk.injEq] at h
    obtain ⟨rfl, rfl, rfl⟩ := h
    exact swp_ret hq
   | rf d ps a b => cases h
   | no => cases h
   | scope a =>
    simp only [evStep] at h
    split at h
    ·cases h
    ·rename_i e1 F1 H1 h1
     simp only [Option.some.injEq, Prod.mk.injEq] at h
     obtain ⟨rfl, rfl, rfl⟩ := h
     refine swp_scope (hrec h1 ?_)
     cases e1 <;> exact hq
theorem evF_ok (hm : P.follows .mixedOrders = true) (htb : TabOk P G tb) {fuel : Nat} {f : FuncId} {args : List V} {H H' : Hp} {v : V} (h : evF tb fuel f args H = some (v, H')) : ACalls P G f args H fun v' H'' => v' = v /\ H'' = H' :=
 evCall_ok htb (evC_ok hm htb fuel) h
def evVal (tb : Nat -> Option SFn) (fuel : Nat) (f : FuncId) (args : List V) (H : Hp) : Option V := (evF tb fuel f args H).map (·.1)
theorem evVal_ok (hm : P.follows .mixedOrders = true) (htb : TabOk P G tb) {fuel : Nat} {f : FuncId} {args : List V} {H : Hp} {v : V} (h : evVal tb fuel f args H = some v) : ACalls P G f args H fun v' _ => v' = v := by
 unfold evVal at h
 simp only [Option.map_eq_some_iff] at h
 obtain ⟨⟨v', H'⟩, hh, rfl⟩ := h
 exact (evF_ok hm htb hh).mono fun _ _ h => h.1
end
end Go.Ab
