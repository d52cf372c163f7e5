/- Contracts of functions of the program over the abstract semantics. -/
import Derived.Test.YtbjkifniloohcaaGreatDoorAb5
import Derived.RangeFuncSeq
import Derived.RangeFuncCalls
import Derived.RangeFuncLeaves
import Derived.RangeFuncIn
import Derived.LoopIn
import Derived.RangeFuncRecord
import Derived.OrdersIn
set_option linter.unusedVariables false
set_option linter.unusedSimpArgs false
namespace Go.Ab
inductive SOp where
 | p (o : PureOp)
 | l (o : LoadOp)
 | a (o : AllocOp)
 | e (o : EffOp)
 | cf (f : FuncId) (args : List Opd)
 | cv (x : Opd) (args : List Opd)
 /-- an iteration over a map steps -/
 | nx (x : Opd)
 /-- not covered: no run comes here -/
 | no
structure SOper where
 id : Nat
 dst : Option Nat
 op : SOp
 guard : Option (Nat × Bool)
 aid : Option Nat
 watch : List Nat
 keep : Bool
def setO (F : T V) (d : Option Nat) (v : V) : T V :=
 match d with
 | some d => F.set d (some v)
 | none => F
def wantedA (g : Option (Nat × Bool)) (F : T V) : Bool :=
 match g with
 | none => true
 | some (t, want) => match (F.get t).getD V.undef with
  | .one (.bool b) => b == want
  | _ => false
def isFn (P : Program) (f : FuncId) : Bool :=
 match P.funcs[f]? with
 | some fn => fn.name != "runtime.NumGoroutine" && fn.body.isSome
 | none => false
def ptrV (p : Nat × Nat) : V := .one (.ptr p.1 p.2)
def ACalls (P : Program) (G : Nat) (f : FuncId) (args : List V) (H : Hp) (R : V -> Hp -> Prop) : Prop :=
 ∀ (μ : Nat -> Pl) (K : Nat -> Prop) (w : World) (xs : List Value), Rel G μ K H w -> All2 (RV μ K) args xs ->
  Calls P f xs.toArray w fun e w' => ∃ x, e = .returned x /\ ∃ v H' μ' K', R v H' /\ RV μ' K' v x /\ Rel G μ' K' H' w' /\ Fr μ K H w μ' K' H' w'
def AYield (P : Program) (G : Nat) (b : Nat) (args : List V) (H : Hp) (R : V -> Hp -> Prop) : Prop :=
 ∀ (μ : Nat -> Pl) (K : Nat -> Prop) (w : World) (xs : List Value), Rel G μ K H w -> K b -> All2 (RV μ K) args xs ->
  YieldAt Fence.wide 0 P (μ b).blk xs.toArray w fun e w' => ∃ x, e = .returned x /\ ∃ v H' μ' K', R v H' /\ RV μ' K' v x /\ Rel G μ' K' H' w' /\ Fr μ K H w μ' K' H' w'
def ANext (P : Program) (G : Nat) (b : Nat) (H : Hp) (R : V -> Hp -> Prop) : Prop :=
 ∀ (μ : Nat -> Pl) (K : Nat -> Prop) (w : World), Rel G μ K H w -> K b -> ∀ ty : TypeId, ∃ y w', (Instr.next (.pointer (some ((μ b).addr 0))) false ty).run P w = .ok y w' /\ ∃ v H' μ' K', R v H' /\ RV μ' K' v y /\ Rel G μ' K' H' w' /\ Fr μ K H w μ' K' H' w'
def fen : Option Nat -> Fence
 | none => Fence.wide
 | some l => Fence.wide.inRound l
theorem fen_fn {ρ : Option Nat} {f : FuncId} : (fen ρ).fn f := by cases ρ <;> trivial
theorem fen_depth {ρ : Option Nat} : (fen ρ).depth = none := by cases ρ <;> rfl
theorem fen_room {ρ : Option Nat} {k : Nat} : (fen ρ).room k := fun d hd => by rw [fen_depth] at hd; cases hd
theorem fen_calls {ρ : Option Nat} {n : Nat} {P : Program} {f : FuncId} {args : Array Value} {w : World} {R : Ending -> World -> Prop} (h : Calls P f args w R) : CallsIn (fen ρ) n P f args w R := by
 cases ρ with
 | none => exact callsIn_wide.2 h
 | some l => exact CallsIn.inRound l (callsIn_wide.2 h)
theorem fen_rounds {ρ : Option Nat} {n : Nat} {P : Program} {l : Nat} {f : FuncId} {tmps : Array Value} {assign body : Code} {w : World} {R : Ending -> World -> Prop} (h : RoundIn Fence.wide 0 P l f tmps assign body w R) : RoundIn (fen ρ) n P l f tmps assign body w R := by
 cases ρ with
 | none => exact ⟨trivial, fun c cs _ => h.2 c cs (room_wide _)⟩
 | some k => exact ⟨trivial, fun c cs _ => h.2 c cs (room_wide _)⟩
abbrev Ctx := List (Nat × (Hp -> Prop))
def watchOk (ws : List Nat) (ctx : Ctx) (H : Hp) : Prop :=
 match ws with
 | [] => True
 | _ => ∀ k ∈ ws, ∀ p, (k, p) ∈ ctx -> p H
def wOps (P : Program) (G base : Nat) (Q : T V -> Hp -> Prop) : List SOper -> Ctx -> T V -> Hp -> Prop
 | [], _, F, H => Q F H
 | o :: r, ctx, F, H =>
  if wantedA o.guard F then
   match o.op with
   | .p op => match aPure F op with
    | some v => wOps P G base Q r ctx (setO F o.dst v) H
    | none => False
   | .l op => match aLoad F H op with
    | some v => wOps P G base Q r (if o.keep then (o.id, fun H' => aLoad F H' op = some v) :: ctx else ctx) (setO F o.dst v) H
    | none => False
   | .a op => match aAlloc F op with
    | some (bk, g) => match o.aid with
     | none => wOps P G base Q r ctx (setO F o.dst (g H.nx)) (H.push bk)
     | some k => wOps P G base Q r ctx (setO F o.dst (g (base + k))) (H.add (base + k) bk)
    | none => False
   | .e op => match aEff F H op with
    | some (v, H') => watchOk o.watch ctx H' /\ wOps P G base Q r ctx (setO F o.dst v) H'
    | none => False
   | .cf f args => ACalls P G f (args.map (·.ev F)) H fun v H' => watchOk o.watch ctx H' /\ wOps P G base Q r ctx (setO F o.dst v) H'
   | .cv x args => match x.ev F with
    | .one (.fn f caps) => isFn P f = true /\ ACalls P G f (args.map (·.ev F) ++ caps.map ptrV) H fun v H' => watchOk o.watch ctx H' /\ wOps P G base Q r ctx (setO F o.dst v) H'
    | .one (.yld b) => AYield P G b (args.map (·.ev F)) H fun v H' => watchOk o.watch ctx H' /\ wOps P G base Q r ctx (setO F o.dst v) H'
    | _ => False
   | .nx x => match x.ev F with
    | .one (.ptr b 0) => ANext P G b H fun v H' => watchOk o.watch ctx H' /\ wOps P G base Q r ctx (setO F o.dst v) H'
    | _ => False
   | .no => False
  else wOps P G base Q r ctx (setO F o.dst V.undef) H
def cpOp0 (P : Program) (G n : Nat) (o : Oper) : Option SOp :=
 match cpPure P G n o with
 | some p => some (.p p)
 | none => match cpLoad P G n o with
  | some p => some (.l p)
  | none => match cpAlloc P G n o with
   | some p => some (.a p)
   | none => match cpEff P G n o with
    | some p => some (.e p)
    | none => match o.op with
     | .call { callee := .value (.func f), args := args, argTypes := _ } => if isFn P f then (cOs G n args.toList).map (.cf f) else none
     | .call { callee := .value (.tmp t), args := args, argTypes := _ } => match cO G n (.tmp t), cOs G n args.toList with
      | some x, some l => some (.cv x l)
      | _, _ => none
     | .next it false => (cO G n it).map .nx
     | _ => none
def cpOp (P : Program) (G n : Nat) (o : Oper) : Option SOp := match cpOp0 P G n o with
 | some op => some op
 | none => some .no
def cGuard (n : Nat) (ops : Array Oper) : Option (Nat × Bool) -> Option (Option (Nat × Bool))
 | none => some none
 | some (j, want) => match (ops[j]?).bind (·.dst) with
  | some t => if t < n then some (some (t, want)) else none
  | none => none
def cDst (n : Nat) : Option Tmp -> Bool
 | none => true
 | some d => d < n
def Fits (P : Program) (G n : Nat) (ops : Array Oper) (o : Oper) (s : SOper) : Prop :=
 cpOp P G n o = some s.op /\ s.dst = o.dst /\ cDst n o.dst = true /\ cGuard n ops o.guard = some s.guard
section
variable {P : Program} {G n : Nat} {μ : Nat -> Pl} {K : Nat -> Prop} {H H' : Hp} {w : World} {F : T V} {a : Act}
theorem FRel.mono {μ' : Nat -> Pl} {K' : Nat -> Prop} {tmps : Array Value} (hF : FRel μ K n F tmps) (hK : ∀ b, K b -> K' b) (hμ : ∀ b, K b -> μ' b = μ b) : FRel μ' K' n F tmps :=
 ⟨hF.1, fun i hi => (hF.2 i hi).mono hK hμ⟩
theorem FRel.put (hF : FRel μ K n F a.tmps) {d : Option Tmp} (hd : cDst n d = true) {v : V} {x : Value} (hv : RV μ K v x) : FRel μ K n (setO F d v) (a.put d x).tmps := by
 cases d with
 | none => exact hF
 | some d =>
  simp only [cDst, decide_eq_true_eq] at hd
  refine ⟨by simp [Act.put]; exact hF.1, fun i hi => ?_⟩
  simp only [setO, Act.put]
  by_cases e : i = d
  ·subst e
   have : i < a.tmps.size := by rw [hF.1]; exact hi
   simp [this, hv]
  ·rw [T.get_set_ne _ _ e]
   have h1 := hF.2 i hi
   have : (a.tmps.setIfInBounds d x).getD i Go.undef = a.tmps.getD i Go.undef := by
    simp only [Array.getD_eq_getD_getElem?]
    rw [Array.getElem?_setIfInBounds_ne (fun h => e h.symm)]
   rw [this]
   exact h1
theorem RV.not_bool {v : V} {b : Bool} (h : RV μ K v (.bool b)) : v = .one (.bool b) := by
 cases v with
 | one c =>
  have h' : RC μ K c (.bool b) := h
  cases c <;> simp only [RC] at h'
  all_goals first
   | (injection h' with h'; rw [h'])
   | (obtain ⟨_, _, _, h', _⟩ := h'; cases h')
   | (obtain ⟨_, h'⟩ := h'; cases h')
   | cases h'
 | agg l => obtain ⟨_, h, _⟩ := h; cases h
 | tup l => obtain ⟨_, h, _⟩ := h; cases h
theorem wanted_ok (hF : FRel μ K n F a.tmps) {ops : Array Oper} {o : Oper} {g : Option (Nat × Bool)} (hg : cGuard n ops o.guard = some g) : Region.wanted o (yielded ops a.tmps) = wantedA g F := by
 unfold Region.wanted
 cases hog : o.guard with
 | none => simp only [hog, cGuard, Option.some.injEq] at hg; subst hg; rfl
 | some jw =>
  obtain ⟨j, want⟩ := jw
  simp only [hog, cGuard] at hg
  cases hd : (ops[j]?).bind (·.dst) with
  | none => simp [hd] at hg
  | some t =>
   simp only [hd] at hg
   split at hg
   ·rename_i ht
    obtain rfl := Option.some.inj hg
    have hv := hF.2 t ht
    have hts : t < a.tmps.size := by rw [hF.1]; exact ht
    have hget : a.tmps[t]? = some (a.tmps.getD t Go.undef) := by simp [hts]
    simp only [yielded, hd, Option.bind_some, hget, wantedA]
    generalize a.tmps.getD t Go.undef = x at *
    generalize (F.get t).getD V.undef = v at *
    cases x with
    | bool b =>
     rw [hv.not_bool]
     cases b <;> cases want <;> rfl
    | _ =>
     have hnb : ∀ b, v ≠ .one (.bool b) := by
      rintro b rfl
      cases (show _ = Value.bool b from hv)
     cases v with
     | one c => cases c <;> first|rfl|exact absurd rfl (hnb _)
     | agg l => rfl
     | tup l => rfl
   ·cases hg
theorem isFn_run {f : FuncId} (h : isFn P f = true) (args : Array Value) (w : World) : (callFunc f args).run P w = .ok (.enter f args) w := by
 unfold isFn at h
 cases hf : P.funcs[f]? with
 | none => simp [hf] at h
 | some fn =>
  simp only [hf, Bool.and_eq_true, bne_iff_ne, ne_eq] at h
  obtain ⟨bd, hb⟩ := Option.isSome_iff_exists.1 h.2
  simp [callFunc, hf, h.1, hb]
def CtxSt0 (ctx : Ctx) : Prop := ∀ k p, (k, p) ∈ ctx -> ∀ (H : Hp) (b : Nat) (bk : B), H.get b = none -> p H -> p (H.add b bk)
theorem cell_add {H : Hp} {b i x : Nat} {bk : B} {c : C} (hn : H.get x = none) (h : H.cell b i = some c) : (H.add x bk).cell b i = some c := by
 unfold Hp.cell at h ⊢
 by_cases e : b = x
 ·subst e; simp [hn] at h
 ·rw [Hp.get_add_ne _ _ e]; exact h
theorem loads_add {H : Hp} {x : Nat} {bk : B} (hn : H.get x = none) : ∀ {m b o : Nat} {l : List C}, H.loads b o m = some l -> (H.add x bk).loads b o m = some l
 | 0, _, _, _, h => h
 | m + 1, b, o, l, h => by
  simp only [Hp.loads] at h ⊢
  cases hc : H.cell b o with
  | none => simp [hc] at h
  | some c =>
   simp only [hc] at h
   simp only [cell_add hn hc]
   cases hl : H.loads b (o + 1) m with
   | none => simp [hl] at h
   | some l' => simp only [hl] at h; simp only [loads_add hn hl]; exact h
theorem load_add {F : T V} {H : Hp} {op : LoadOp} {v : V} {x : Nat} {bk : B} (hn : H.get x = none) (h : aLoad F H op = some v) : aLoad F (H.add x bk) op = some v := by
 have hm : ∀ b es, H.get b = some (.mp es) -> (H.add x bk).get b = some (.mp es) := fun b es hb => by
  rw [Hp.get_add_ne _ _ (fun e => by subst e; rw [hn] at hb; cases hb)]; exact hb
 cases op with
 | load agg n a =>
  simp only [aLoad] at h ⊢
  split at h
  ·cases agg with
   | true =>
    simp only [if_true, Option.map_eq_some_iff] at h ⊢
    obtain ⟨l, hl, rfl⟩ := h
    exact ⟨l, loads_add hn hl, rfl⟩
   | false =>
    simp only [Bool.false_eq_true, if_false, Option.map_eq_some_iff] at h ⊢
    obtain ⟨c, hc, rfl⟩ := h
    exact ⟨c, cell_add hn hc, rfl⟩
  ·cases h
 | lookup z ok m k =>
  simp only [aLoad] at h ⊢
  split at h
  ·rename_i hk
   rw [if_pos hk]
   split at h
   ·exact h
   ·rename_i b hb
    split at h
    ·rename_i es hes
     simp only [hm _ _ hes]
     exact h
    ·cases h
   ·cases h
  ·cases h
 | mlen m =>
  simp only [aLoad] at h ⊢
  split at h
  ·exact h
  ·rename_i b hb
   split at h
   ·rename_i es hes
    simp only [hm _ _ hes]
    exact h
   ·cases h
  ·cases h
theorem CtxSt0.of {ctx : Ctx} (h : CtxSt0 ctx) (b : Bool) (i : Nat) (op : LoadOp) (F : T V) (v : V) : CtxSt0 (if b then (i, fun H' => aLoad F H' op = some v) :: ctx else ctx) := by
 intro k p hp
 split at hp
 ·rcases List.mem_cons.1 hp with hp|hp
  ·injection hp with _ hp
   subst hp
   exact fun H b bk hn hh => load_add hn hh
  ·exact h k p hp
 ·exact h k p hp
theorem cpOp_nodefer {o : Oper} {op : SOp} (h : cpOp0 P G n o = some op) : ∀ c, o.op ≠ .defer c := by
 intro c hc
 simp [cpOp0, cpPure, cpLoad, cpAlloc, cpEff, hc] at h
theorem op_ok {ρ : Option Nat} {nn : Nat} {ops : Array Oper} {o : Oper} {s : SOper} {r : List SOper} {ctx : Ctx} {base i : Nat} {Q : T V -> Hp -> Prop} {Q' : Exit -> Act -> World -> Prop} {Kont : Act -> World -> Prop}
  {μ0 : Nat -> Pl} {K0 : Nat -> Prop} {H0 : Hp} {w0 : World} (hlt0 : ∀ b bk, H0.get b = some bk -> b < H0.nx)
  (ho : ops[i]? = some o) (hfit : Fits P G n ops o s) (hR : Rel G μ K H w) (hF : FRel μ K n F a.tmps) (hFr : Fr μ0 K0 H0 w0 μ K H w)
  (hrs : ∀ k, s.aid = some k -> ¬ K (base + k) /\ base + k < H.nx /\ H0.nx <= base + k)
  (hw : wOps P G base Q (s :: r) ctx F H)
  (hK : ∀ (μ' : Nat -> Pl) (K' : Nat -> Prop) (F' : T V) (H' : Hp) (a' : Act) (w' : World) (ctx' : Ctx), Rel G μ' K' H' w' -> FRel μ' K' n F' a'.tmps -> Fr μ0 K0 H0 w0 μ' K' H' w' -> a'.defers = a.defers ->
   H.nx <= H'.nx -> (∀ b, b < H.nx -> K' b -> K b \/ ∃ k, s.aid = some k /\ b = base + k) -> (∃ v, F' = setO F s.dst v) -> (CtxSt0 ctx -> CtxSt0 ctx') -> wOps P G base Q r ctx' F' H' -> Kont a' w') :
  wpOpIn (fen ρ) nn P ops Q' i Kont a w := by
 obtain ⟨hop, hdst, hd, hgd⟩ := hfit
 have hput : ∀ x, (a.put o.dst x).defers = a.defers := fun x => by cases o.dst <;> rfl
 unfold wpOpIn
 rw [ho]
 simp only
 rw [wanted_ok hF hgd]
 rw [wOps] at hw
 cases hwa : wantedA s.guard F with
 | false =>
  simp only [hwa, Bool.false_eq_true, if_false] at hw ⊢
  rw [hdst] at hw
  exact ⟨fun _ _ => fen_fn, hK μ K _ H _ w ctx hR (hF.put hd RV.undef) hFr (hput _) (Nat.le_refl _) (fun b _ h => .inl h) ⟨_, by rw [hdst]⟩ id hw⟩
 | true =>
  simp only [hwa, if_true] at hw ⊢
  have hop' : cpOp0 P G n o = some s.op := by
   unfold cpOp at hop
   split at hop
   ·rename_i h0; rw [h0]; exact hop
   ·obtain hop := Option.some.inj hop
    rw [<- hop] at hw
    exact hw.elim
  replace hop := hop'
  unfold Oper.wpIn
  refine ⟨fun _ _ => fen_fn, ?_⟩
  rw [Oper.semAt_eq _ _ _ (cpOp_nodefer hop)]
  rw [hdst] at hw
  have val : ∀ (v : V) (x : Value) (ctx' : Ctx), RV μ K v x -> (CtxSt0 ctx -> CtxSt0 ctx') -> wOps P G base Q r ctx' (setO F o.dst v) H -> Kont (a.put o.dst x) w := fun v x ctx' hv hcs hw' =>
   hK μ K _ H _ w ctx' hR (hF.put hd hv) hFr (hput _) (Nat.le_refl _) (fun b _ h => .inl h) ⟨v, by rw [hdst]⟩ hcs hw'
  have call : ∀ (f : FuncId) (args : List V) (xs : List Value) (nx : Result Next), All2 (RV μ K) args xs -> nx = .ok (.enter f xs.toArray) w ->
    ACalls P G f args H (fun v H' => watchOk s.watch ctx H' /\ wOps P G base Q r ctx (setO F o.dst v) H') -> o.uponIn (fen ρ) nn P a Kont Q' nx := by
   intro f args xs nx ha hnx hc
   subst hnx
   rw [Oper.uponIn_enter]
   refine ⟨fun h => (by rw [fen_depth] at h; cases h), fen_calls ((hc μ K w xs hR ha).mono fun e w' he => ?_)⟩
   obtain ⟨x, rfl, v, H', μ', K', ⟨_, h1⟩, h2, h3, h4⟩ := he
   exact hK μ' K' _ H' _ w' ctx h3 ((hF.mono h4.kk h4.mu).put hd h2) (hFr.trans hlt0 h4) (hput _) h4.nx (fun b hb h => .inl (h4.knew b hb h)) ⟨v, by rw [hdst]⟩ id h1
  unfold cpOp0 at hop
  cases hp : cpPure P G n o with
  | some p =>
   simp only [hp, Option.some.injEq] at hop
   rw [<- hop] at hw
   simp only at hw
   cases hv : aPure F p with
   | none => simp [hv] at hw
   | some v =>
    simp only [hv] at hw
    obtain ⟨x, hx, hr⟩ := pure_ok (P := P) hR hF hp hv
    rw [hx, Oper.uponIn_value]
    exact val v x ctx hr id hw
  | none =>
   simp only [hp] at hop
   cases hl : cpLoad P G n o with
   | some p =>
    simp only [hl, Option.some.injEq] at hop
    rw [<- hop] at hw
    simp only at hw
    cases hv : aLoad F H p with
    | none => simp [hv] at hw
    | some v =>
     simp only [hv] at hw
     obtain ⟨x, hx, hr⟩ := load_ok (P := P) hR hF hl hv
     rw [hx, Oper.uponIn_value]
     exact val v x _ hr (fun h => h.of _ _ _ _ _) hw
   | none =>
    simp only [hl] at hop
    cases hal : cpAlloc P G n o with
    | some p =>
     simp only [hal, Option.some.injEq] at hop
     rw [<- hop] at hw
     simp only at hw
     cases hv : aAlloc F p with
     | none => simp [hv] at hw
     | some bg =>
      obtain ⟨bk, g⟩ := bg
      simp only [hv] at hw
      obtain ⟨hm, x, obj, sz, hx, hrb, hval⟩ := alloc_ok (P := P) hR hF hal hv
      rw [hx, Oper.uponIn_value]
      have hnk : ¬ K H.nx := fun h => absurd (hR.lt _ h) (by omega)
      cases hai : s.aid with
      | none =>
       simp only [hai] at hw
       refine hK (fun i => if i = H.nx then ⟨w.heap.size, 0, sz⟩ else μ i) (fun i => K i \/ i = H.nx) _ (H.push bk) _ { w with heap := w.heap.push obj } ctx (Rel.new hR hnk (by omega) (by omega) hm hrb)
        ((hF.mono (fun _ h => .inl h) (fun b hb => ?_)).put hd (hval H.nx _ _ (.inr rfl) (by simp))) (Fr.new hFr hnk hFr.nx hlt0 (by omega) hm) (hput _) (by simp) (fun b hb h => ?_) ⟨_, by rw [hdst]⟩ id hw
       ·have := hR.lt b hb
        rw [if_neg (by omega)]
       ·rcases h with h|h
        ·exact .inl h
        ·omega
      | some k =>
       simp only [hai] at hw
       obtain ⟨r1, r2, r3⟩ := hrs k hai
       refine hK (fun i => if i = base + k then ⟨w.heap.size, 0, sz⟩ else μ i) (fun i => K i \/ i = base + k) _ (H.add (base + k) bk) _ { w with heap := w.heap.push obj } ctx (Rel.new hR r1 r2 (Nat.le_refl _) hm hrb)
        ((hF.mono (fun _ h => .inl h) (fun b hb => ?_)).put hd (hval (base + k) _ _ (.inr rfl) (by simp))) (Fr.new hFr r1 r3 hlt0 (Nat.le_refl _) hm) (hput _) (by simp) (fun b hb h => ?_) ⟨_, by rw [hdst]⟩ id hw
       ·by_cases e : b = base + k
        ·subst e; exact absurd hb r1
        ·rw [if_neg e]
       ·rcases h with h|h
        ·exact .inl h
        ·exact .inr ⟨k, hai, h⟩
    | none =>
     simp only [hal] at hop
     cases he : cpEff P G n o with
     | some p =>
      simp only [he, Option.some.injEq] at hop
      rw [<- hop] at hw
      simp only at hw
      cases hv : aEff F H p with
      | none => simp [hv] at hw
      | some vH =>
       obtain ⟨v, H'⟩ := vH
       simp only [hv] at hw
       obtain ⟨nx, x, w', μ', K', h1, h2, h3, h4, h5⟩ := eff_ok (P := P) hR hF he hv
       have hk := hK μ' K' _ H' _ w' ctx h4 ((hF.mono h5.kk h5.mu).put hd h3) (hFr.trans hlt0 h5) (hput x) h5.nx (fun b hb h => .inl (h5.knew b hb h)) ⟨v, by rw [hdst]⟩ id hw.2
       rw [h1]
       rcases h2 with rfl|⟨rfl, rfl⟩
       ·rw [Oper.uponIn_value]; exact hk
       ·rw [Oper.uponIn_skip]; exact hk
     | none =>
      simp only [he] at hop
      split at hop
      ·rename_i f args ts hoo
       split at hop
       ·rename_i hfn
        simp only [Option.map_eq_some_iff] at hop
        obtain ⟨ds, hds, hop⟩ := hop
        rw [<- hop] at hw
        refine call f _ (args.toList.map a.eval) _ (cOs_ok hR hF hds) ?_ hw
        have harr : args.map a.eval = (args.toList.map a.eval).toArray := by apply Array.ext'; simp
        have hev : a.eval (.func f) = .func (.func f) #[] #[] := rfl
        simp [execOp, hoo, resolve, hev, Deferred.ofValue, invoke, isFn_run hfn, <- harr]
       ·cases hop
      ·rename_i t args ts hoo
       split at hop
       ·rename_i x l hx hl'
        obtain hop := Option.some.inj hop
        rw [<- hop] at hw
        simp only at hw
        have hv := cO_ok hR hF hx
        split at hw
        ·rename_i f caps hxe
         rw [hxe] at hv
         obtain ⟨hkc, hv'⟩ : (∀ p ∈ caps, K p.1) /\ a.eval (.tmp t) = .func (.func f) #[] (caps.map fun p => Value.pointer (some ((μ p.1).addr p.2))).toArray := hv
         refine call f _ (args.toList.map a.eval ++ caps.map fun p => Value.pointer (some ((μ p.1).addr p.2))) _ ((cOs_ok hR hF hl').append ?_) ?_ hw.2
         ·refine All2.mk (by simp) fun j v x hv hx => ?_
          simp only [List.getElem?_map, Option.map_eq_some_iff] at hv hx
          obtain ⟨p, hp, rfl⟩ := hv
          obtain ⟨p', hp', rfl⟩ := hx
          rw [hp] at hp'
          obtain rfl := Option.some.inj hp'
          exact ⟨hkc p (List.mem_of_getElem? hp), rfl⟩
         ·simp [execOp, hoo, resolve, hv', Deferred.ofValue, invoke, isFn_run hw.1]
        ·rename_i b hxe
         rw [hxe] at hv
         obtain ⟨hkb, hv'⟩ : K b /\ a.eval (.tmp t) = .func (.yield (μ b).blk) #[] #[] := hv
         obtain ⟨fn, tmps, assign, body, hy, hr⟩ := hw μ K w (args.toList.map a.eval) hR hkb (cOs_ok hR hF hl')
         have harr : args.map a.eval = (args.toList.map a.eval).toArray := by apply Array.ext'; simp
         have hex : (execOp a.eval o).run P w = .ok (.round (μ b).blk fn tmps assign body) w := by
          simp only [<- harr] at hy
          simp [execOp, hoo, resolve, hv', Deferred.ofValue, invoke, hy]
         rw [hex, Oper.uponIn_round]
         refine ⟨fun h => (by rw [fen_depth] at h; cases h), fen_rounds (hr.mono fun e w' he => ?_)⟩
         obtain ⟨x, rfl, v, H', μ', K', ⟨_, h1⟩, h2, h3, h4⟩ := he
         exact hK μ' K' _ H' _ w' ctx h3 ((hF.mono h4.kk h4.mu).put hd h2) (hFr.trans hlt0 h4) (hput _) h4.nx (fun b hb h => .inl (h4.knew b hb h)) ⟨v, by rw [hdst]⟩ id h1
        ·exact hw.elim
       ·cases hop
      ·rename_i it hoo
       simp only [Option.map_eq_some_iff] at hop
       obtain ⟨x, hx, hop⟩ := hop
       rw [<- hop] at hw
       simp only at hw
       have hv := cO_ok hR hF hx
       split at hw
       ·rename_i b hxe
        rw [hxe] at hv
        obtain ⟨hkb, hv'⟩ : K b /\ a.eval it = .pointer (some ((μ b).addr 0)) := hv
        obtain ⟨y, w', hy, v, H', μ', K', ⟨_, h1⟩, h2, h3, h4⟩ := hw μ K w hR hkb o.type
        have hex : (execOp a.eval o).run P w = .ok (.value y) w' := by simp [execOp, hoo, hv', hy]
        rw [hex, Oper.uponIn_value]
        exact hK μ' K' _ H' _ w' ctx h3 ((hF.mono h4.kk h4.mu).put hd h2) (hFr.trans hlt0 h4) (hput _) h4.nx (fun b hb h => .inl (h4.knew b hb h)) ⟨v, by rw [hdst]⟩ id h1
       ·exact hw.elim
      ·cases hop
end
end Go.Ab

namespace Go.Ab
def Aligned (P : Program) (G n : Nat) (ops : Array Oper) : List Nat -> List SOper -> Prop
 | [], [] => True
 | i :: idx, s :: l => (∃ o, ops[i]? = some o /\ Fits P G n ops o s) /\ Aligned P G n ops idx l
 | _, _ => False
section
variable {P : Program} {G n : Nat} {ρ : Option Nat}
def Dok (s : Nat) (D : List Deferred) (w : World) : Prop := s <= w.heap.size /\ D.Nodup /\ ∀ d ∈ D, ∃ r, d = { target := .collected r, args := #[] } /\ s <= r /\ w.heap[r]? = some (.deferred (some []))
theorem Dok.nil {s : Nat} (w : World) (h : s <= w.heap.size) : Dok s [] w := ⟨h, List.nodup_nil, fun d hd => by cases hd⟩
theorem kept_def {μ μ' : Nat -> Pl} {K K' : Nat -> Prop} {H H' : Hp} {w w' : World} (hR : Rel G μ K H w) (h : Fr μ K H w μ' K' H' w') {r : Nat} (hr : w.heap[r]? = some (.deferred (some []))) : w'.heap[r]? = some (.deferred (some [])) := by
 rw [h.keep r (Array.getElem?_eq_some_iff.1 hr).1 fun b bk hb _ e => ?_]
 ·exact hr
 ·have hB := hR.blk b bk hb
  rw [e, hr] at hB
  cases bk with
  | row n z m rw => obtain ⟨_, _, _, h, _⟩ := hB; cases h
  | mp es => obtain ⟨_, _, h, _⟩ := hB; cases h
  | lp st j f n F ps sg bd => obtain ⟨_, _, h, _⟩ := hB; cases h
  | st => obtain ⟨_, _, h, _⟩ := hB; cases h
  | it => obtain ⟨_, _, h, _⟩ := hB; cases h
theorem Dok.fr {s : Nat} {D : List Deferred} {μ μ' : Nat -> Pl} {K K' : Nat -> Prop} {H H' : Hp} {w w' : World} (hR : Rel G μ K H w) (h : Fr μ K H w μ' K' H' w') (hd : Dok s D w) : Dok s D w' := ⟨Nat.le_trans hd.1 h.size, hd.2.1, fun d hx => by
 obtain ⟨r, h1, h3, h2⟩ := hd.2.2 d hx
 exact ⟨r, h1, h3, kept_def hR h h2⟩⟩
def Ends (G n s : Nat) (μ0 : Nat -> Pl) (K0 : Nat -> Prop) (H0 : Hp) (w0 : World) (Q : Exit -> T V -> Hp -> Prop) (e : Exit) (a : Act) (w : World) : Prop :=
 Dok s a.defers w /\ ∃ F H μ K, Q e F H /\ Rel G μ K H w /\ FRel μ K n F a.tmps /\ Fr μ0 K0 H0 w0 μ K H w
theorem ord_ok {nn : Nat} {D : List Deferred} {ops : Array Oper} {Q : T V -> Hp -> Prop} {base : Nat} {μ0 : Nat -> Pl} {K0 : Nat -> Prop} {H0 : Hp} {w0 : World} (hlt0 : ∀ b bk, H0.get b = some bk -> b < H0.nx) {Q' : Exit -> Act -> World -> Prop}
  (hQ : ∀ μ K F H a w, Q F H -> Rel G μ K H w -> FRel μ K n F a.tmps -> Fr μ0 K0 H0 w0 μ K H w -> a.defers = D -> Q' .normal a w) :
  ∀ {l : List SOper} {idx : List Nat} {ctx : Ctx} {F : T V} {H : Hp} {μ : Nat -> Pl} {K : Nat -> Prop} {a : Act} {w : World}, Aligned P G n ops idx l -> (∀ s ∈ l, s.aid = none) -> Rel G μ K H w -> FRel μ K n F a.tmps -> Fr μ0 K0 H0 w0 μ K H w -> a.defers = D ->
   wOps P G base Q l ctx F H -> wpOpsIn (fen ρ) nn P ops Q' idx a w
 | [], [], ctx, F, H, μ, K, a, w, _, _, hR, hF, hFr, hd, hw => by
  simp only [wpOpsIn]
  exact hQ μ K F H a w hw hR hF hFr hd
 | s :: l, i :: idx, ctx, F, H, μ, K, a, w, hal, hai, hR, hF, hFr, hd, hw => by
  obtain ⟨⟨o, ho, hfit⟩, hal'⟩ := hal
  rw [wpOpsIn_cons]
  refine op_ok hlt0 ho hfit hR hF hFr (fun k hk => by rw [hai s (by simp)] at hk; cases hk) hw fun μ' K' F' H' a' w' ctx' h1 h2 h3 h4 _ _ _ _ h6 => ?_
  exact ord_ok hlt0 hQ hal' (fun t ht => hai t (by simp [ht])) h1 h2 h3 (h4.trans hd) h6
 | [], _ :: _, _, _, _, _, _, _, _, h, _, _, _, _, _, _ => h.elim
 | _ :: _, [], _, _, _, _, _, _, _, h, _, _, _, _, _, _ => h.elim
def AWPr (ρ : Option Nat) (P : Program) (G n : Nat) (c : Code) (Q : Exit -> T V -> Hp -> Prop) (F : T V) (H : Hp) : Prop :=
 ∀ (s : Nat) (μ : Nat -> Pl) (K : Nat -> Prop) (w : World) (a : Act), Rel G μ K H w -> FRel μ K n F a.tmps -> Dok s a.defers w -> c.wpIn (fen ρ) 0 P (Ends G n s μ K H w Q) a w
theorem awp_region {id : Nat} {ops : Array Oper} {l : List SOper} {Q : Exit -> T V -> Hp -> Prop} {F : T V} {H : Hp} (hal : Aligned P G n ops (List.range ops.size) l) (hai : ∀ s ∈ l, s.aid = none)
  (h : wOps P G H.nx (Q .normal) l [] F H) : AWPr ρ P G n (.region id ops false) Q F H := by
 intro s μ K w a hR hF hd
 refine wpIn_region (ord_ok (Q := Q .normal) (D := a.defers) hR.lt' (fun μ' K' F' H' a' w' h1 h2 h3 h4 h5 => ⟨by rw [h5]; exact hd.fr hR h4, F', H', μ', K', h1, h2, h3, h4⟩) hal hai hR hF (Fr.refl hR) rfl h)
theorem awp_skip {Q : Exit -> T V -> Hp -> Prop} {F : T V} {H : Hp} (h : Q .normal F H) : AWPr ρ P G n .skip Q F H :=
 fun _ _ _ _ _ hR hF hd => wpIn_skip ⟨hd, F, H, _, _, h, hR, hF, Fr.refl hR⟩
theorem awp_exit {Q : Exit -> T V -> Hp -> Prop} {F : T V} {H : Hp} {id : Nat} (h : Q (.exit id) F H) : AWPr ρ P G n (.exit id) Q F H :=
 fun _ _ _ _ _ hR hF hd => wpIn_exit ⟨hd, F, H, _, _, h, hR, hF, Fr.refl hR⟩
theorem awp_ret {Q : Exit -> T V -> Hp -> Prop} {F : T V} {H : Hp} (h : Q .ret F H) : AWPr ρ P G n .ret Q F H :=
 fun _ _ _ _ _ hR hF hd => wpIn_ret ⟨hd, F, H, _, _, h, hR, hF, Fr.refl hR⟩
def thenQ (next : T V -> Hp -> Prop) (Q : Exit -> T V -> Hp -> Prop) : Exit -> T V -> Hp -> Prop
 | .normal, F, H => next F H
 | e, F, H => Q e F H
theorem ends_trans {s : Nat} {μ0 : Nat -> Pl} {K0 : Nat -> Prop} {H0 : Hp} {w0 : World} {μ : Nat -> Pl} {K : Nat -> Prop} {H : Hp} {w : World} (hlt : ∀ b bk, H0.get b = some bk -> b < H0.nx) (hFr : Fr μ0 K0 H0 w0 μ K H w) {Q : Exit -> T V -> Hp -> Prop} {e : Exit} {a : Act} {w' : World}
  (h : Ends G n s μ K H w Q e a w') : Ends G n s μ0 K0 H0 w0 Q e a w' := by
 obtain ⟨hd, F, H', μ', K', h1, h2, h3, h4⟩ := h
 exact ⟨hd, F, H', μ', K', h1, h2, h3, hFr.trans hlt h4⟩
theorem awp_seq {x y : Code} {Q : Exit -> T V -> Hp -> Prop} {F : T V} {H : Hp} (h : AWPr ρ P G n x (thenQ (AWPr ρ P G n y Q) Q) F H) : AWPr ρ P G n (.seq x y) Q F H := by
 intro s μ K w a hR hF hd
 refine wpIn_seq (wpIn_mono (h s μ K w a hR hF hd) fun e a' w' he => ?_)
 obtain ⟨hd', F', H', μ', K', h1, h2, h3, h4⟩ := he
 cases e with
 | normal => exact wpIn_mono (h1 s μ' K' w' a' h2 h3 hd') fun e a'' w'' he => ends_trans hR.lt' h4 he
 | exit id => exact ⟨hd', F', H', μ', K', h1, h2, h3, h4⟩
 | goto l => exact ⟨hd', F', H', μ', K', h1, h2, h3, h4⟩
 | ret => exact ⟨hd', F', H', μ', K', h1, h2, h3, h4⟩
 | panic ch => exact ⟨hd', F', H', μ', K', h1, h2, h3, h4⟩
 | outgrown => exact ⟨hd', F', H', μ', K', h1, h2, h3, h4⟩
theorem awp_cond {c : Operand} {d : Opd} {x y : Code} {Q : Exit -> T V -> Hp -> Prop} {F : T V} {H : Hp} {t : Bool} (hc : cO G n c = some d) (ht : d.ev F = .one (.bool t)) (h : AWPr ρ P G n (if t then x else y) Q F H) : AWPr ρ P G n (.cond c x y) Q F H := by
 intro s μ K w a hR hF hd
 have hv := cO_ok hR hF hc
 rw [ht] at hv
 exact wpIn_cond (t := t) hv (h s μ K w a hR hF hd)
def blockQ (id : Nat) (Q : Exit -> T V -> Hp -> Prop) : Exit -> T V -> Hp -> Prop
 | .exit id', F, H => if id' = id then Q .normal F H else Q (.exit id') F H
 | e, F, H => Q e F H
theorem awp_block {id : Nat} {c : Code} {Q : Exit -> T V -> Hp -> Prop} {F : T V} {H : Hp} (h : AWPr ρ P G n c (blockQ id Q) F H) : AWPr ρ P G n (.block id c) Q F H := by
 intro s μ K w a hR hF hd
 refine wpIn_block (wpIn_mono (h s μ K w a hR hF hd) fun e a' w' he => ?_)
 obtain ⟨hd', F', H', μ', K', h1, h2, h3, h4⟩ := he
 cases e with
 | exit id' =>
  simp only [blockQ] at h1
  simp only [Exit.inBlock]
  split
  ·rename_i e; rw [if_pos e] at h1; exact ⟨hd', F', H', μ', K', h1, h2, h3, h4⟩
  ·rename_i e; rw [if_neg e] at h1; exact ⟨hd', F', H', μ', K', h1, h2, h3, h4⟩
 | normal => exact ⟨hd', F', H', μ', K', h1, h2, h3, h4⟩
 | goto l => exact ⟨hd', F', H', μ', K', h1, h2, h3, h4⟩
 | ret => exact ⟨hd', F', H', μ', K', h1, h2, h3, h4⟩
 | panic ch => exact ⟨hd', F', H', μ', K', h1, h2, h3, h4⟩
 | outgrown => exact ⟨hd', F', H', μ', K', h1, h2, h3, h4⟩
theorem awp_loop {c : Code} {Q : Exit -> T V -> Hp -> Prop} {F : T V} {H : Hp} (I : Nat -> T V -> Hp -> Prop) {m : Nat} (h0 : I m F H) (round : ∀ m F H, I m F H -> AWPr ρ P G n c (thenQ (fun F' H' => ∃ m', m' < m /\ I m' F' H') Q) F H) : AWPr ρ P G n (.loop c) Q F H := by
 intro s μ K w a hR hF hd
 let J : Nat -> Act -> World -> Prop := fun m a' w' => Dok s a'.defers w' /\ ∃ F' H' μ' K', I m F' H' /\ Rel G μ' K' H' w' /\ FRel μ' K' n F' a'.tmps /\ Fr μ K H w μ' K' H' w'
 have main : ∀ m a' w', J m a' w' -> ∀ (b : Frame) (k : List Item) (cs : List Frame), b.roundOf = (fen ρ).round -> ∃ e a'' w'', Ends G n s μ K H w Q e a'' w'' /\ ArrivesIn (Machine.fenced P (fen ρ)) P (lone (b.atR a' (.code c :: .inLoop c :: k)) cs w') b k cs e a'' w'' := by
  intro m
  induction m using Nat.strongRecOn with
  | _ m ih =>
   intro a' w' hJ b k cs hro
   obtain ⟨hd', F', H', μ', K', h1, h2, h3, h4⟩ := hJ
   obtain ⟨e, a1, w1, hq, harr⟩ := round m F' H' h1 s μ' K' w' a' h2 h3 hd' b (.inLoop c :: k) cs hro fen_fn fen_room
   obtain ⟨hd1, F1, H1, μ1, K1, g1, g2, g3, g4⟩ := hq
   cases e with
   | normal =>
    obtain ⟨m', hm', hI⟩ := g1
    obtain ⟨e2, a2, w2, hq2, harr2⟩ := ih m' hm' a1 w1 ⟨hd1, F1, H1, μ1, K1, hI, g2, g3, h4.trans hR.lt' g4⟩ b k cs hro
    exact ⟨e2, a2, w2, hq2, .of_steps (StepsIn.trans harr (.one (fenced_calm (n := 0) fen_fn fen_room rfl) stepR_inLoop)) harr2⟩
   | exit id => exact ⟨_, a1, w1, ⟨hd1, F1, H1, μ1, K1, g1, g2, g3, h4.trans hR.lt' g4⟩, .pass (x := .inLoop c) rfl (fun _ _ => .inl (by simp)) harr⟩
   | goto l => exact ⟨_, a1, w1, ⟨hd1, F1, H1, μ1, K1, g1, g2, g3, h4.trans hR.lt' g4⟩, .pass (x := .inLoop c) rfl (fun _ _ => .inl (by simp)) harr⟩
   | ret => exact ⟨_, a1, w1, ⟨hd1, F1, H1, μ1, K1, g1, g2, g3, h4.trans hR.lt' g4⟩, .pass (x := .inLoop c) rfl (fun _ _ => .inl (by simp)) harr⟩
   | panic ch => exact ⟨_, a1, w1, ⟨hd1, F1, H1, μ1, K1, g1, g2, g3, h4.trans hR.lt' g4⟩, .pass (x := .inLoop c) rfl (fun _ _ => .inl (by simp)) harr⟩
   | outgrown => exact ⟨_, a1, w1, ⟨hd1, F1, H1, μ1, K1, g1, g2, g3, h4.trans hR.lt' g4⟩, .pass (x := .inLoop c) rfl (fun _ _ => .inl (by simp)) harr⟩
 intro b k cs hro _ _
 obtain ⟨e, a', w', hq, harr⟩ := main m a w ⟨hd, F, H, μ, K, h0, hR, hF, Fr.refl hR⟩ b k cs hro
 exact ⟨e, a', w', hq, .of_steps (.one (fenced_calm (n := 0) fen_fn fen_room rfl) stepR_loop) harr⟩
section
variable {b : Frame} {a : Act} {k : List Item} {cs : List Frame} {w : World} {Q : Exit -> Act -> World -> Prop} {F : Fence} {m : Nat}
theorem stepR_scope {c : Code} : step P (lone (b.atR a (.code (.scope c) :: k)) cs w) = .next (lone (b.atR a (.code c :: .inScope c :: k)) cs w) :=
 step_lone_go (by simp [stepG, stepG.exec, Frame.atR])
theorem stepR_inScope {c : Code} : step P (lone (b.atR a (.inScope c :: k)) cs w) = .next (lone (b.atR a k) cs w) :=
 step_lone_go (by simp [stepG, stepG.exec, Frame.atR])
def noGo (Q : Exit -> Act -> World -> Prop) : Exit -> Act -> World -> Prop
 | .goto _, _, _ => False
 | e, a, w => Q e a w
theorem wpIn_scope {c : Code} (h : c.wpIn F m P (noGo Q) a w) : (Code.scope c).wpIn F m P Q a w := by
 intro b k cs hro hb hr
 have h0 : (lone (b.atR a (.code (.scope c) :: k)) cs w).fenced P F := fenced_calm hb hr rfl
 obtain ⟨e, a₁, w₁, hq, harr⟩ := h b (.inScope c :: k) cs hro hb hr
 cases e with
 | normal => exact ⟨.normal, a₁, w₁, hq, .of_steps (.one h0 stepR_scope) (StepsIn.trans harr (.one (fenced_calm hb hr rfl) stepR_inScope))⟩
 | exit id => exact ⟨.exit id, a₁, w₁, hq, .of_steps (.one h0 stepR_scope) ⟨fun k' hk => harr.1 k' (by simpa [exitTo] using hk), fun hr hk => harr.2 hr (by simpa [exitTo] using hk)⟩⟩
 | goto l => exact hq.elim
 | ret => exact ⟨.ret, a₁, w₁, hq, .of_steps (.one h0 stepR_scope) harr⟩
 | panic ch => exact ⟨.panic ch, a₁, w₁, hq, .of_steps (.one h0 stepR_scope) harr⟩
 | outgrown => exact ⟨.outgrown, a₁, w₁, hq, .of_steps (.one h0 stepR_scope) harr⟩
end
def scopeQ (Q : Exit -> T V -> Hp -> Prop) : Exit -> T V -> Hp -> Prop
 | .goto _, _, _ => False
 | e, F, H => Q e F H
theorem awp_scope {c : Code} {Q : Exit -> T V -> Hp -> Prop} {F : T V} {H : Hp} (h : AWPr ρ P G n c (scopeQ Q) F H) : AWPr ρ P G n (.scope c) Q F H := by
 intro s μ K w a hR hF hd
 refine wpIn_scope (wpIn_mono (h s μ K w a hR hF hd) fun e a' w' he => ?_)
 obtain ⟨hd', F', H', μ', K', h1, h2, h3, h4⟩ := he
 cases e with
 | goto l => exact h1.elim
 | exit id => exact ⟨hd', F', H', μ', K', h1, h2, h3, h4⟩
 | normal => exact ⟨hd', F', H', μ', K', h1, h2, h3, h4⟩
 | ret => exact ⟨hd', F', H', μ', K', h1, h2, h3, h4⟩
 | panic ch => exact ⟨hd', F', H', μ', K', h1, h2, h3, h4⟩
 | outgrown => exact ⟨hd', F', H', μ', K', h1, h2, h3, h4⟩
theorem awp_label {l : Nat} {Q : Exit -> T V -> Hp -> Prop} {F : T V} {H : Hp} (h : Q .normal F H) : AWPr ρ P G n (.label l) Q F H :=
 fun _ _ _ _ _ hR hF hd => wpIn_label ⟨hd, F, H, _, _, h, hR, hF, Fr.refl hR⟩
theorem awp_mono {c : Code} {Q Q' : Exit -> T V -> Hp -> Prop} {F : T V} {H : Hp} (h : AWPr ρ P G n c Q F H) (hq : ∀ e F H, Q e F H -> Q' e F H) : AWPr ρ P G n c Q' F H :=
 fun s μ K w a hR hF hd => wpIn_mono (h s μ K w a hR hF hd) fun _ _ _ ⟨hd', F', H', μ', K', h1, h2⟩ => ⟨hd', F', H', μ', K', hq _ _ _ h1, h2⟩
end
end Go.Ab

namespace Go.Ab
def Opd.tm : Opd -> List Nat
  | .t n => [n]
  | .c _ => []
def otm : Option Opd -> List Nat
  | some x => x.tm
  | none => []
def ltm (l : List Opd) : List Nat := l.flatMap Opd.tm
def ptm (l : List (Nat × Nat × Opd)) : List Nat := l.flatMap fun p => p.2.2.tm
def PureOp.tm : PureOp -> List Nat
  | .mv x|.nilck x|.neg x|.not x|.conv _ x|.faddr _ x|.field _ _ _ x|.extract x _|.len x|.nileq _ x|.slen x|.cap x => x.tm
  | .pick c a b => c.tm ++ a.tm ++ b.tm
  | .build _ ps => ptm ps
  | .bin _ x y|.beq _ x y|.eqs _ _ x y|.iaddr _ x y|.aaddr _ _ x y|.aindex _ _ _ x y|.mm _ x y|.sindex x y => x.tm ++ y.tm
  | .mkfn _ l => ltm l
  | .slice _ x lo hi mx => x.tm ++ otm lo ++ otm hi ++ otm mx
  | .sslice x lo hi => x.tm ++ otm lo ++ otm hi
  | .cint _ => []
def LoadOp.tm : LoadOp -> List Nat
  | .load _ _ a => a.tm
  | .lookup _ _ m k => m.tm ++ k.tm
  | .mlen m => m.tm
def AllocOp.tm : AllocOp -> List Nat
  | .alloc _|.mkmap|.mkst => []
  | .box x => x.tm
  | .bslice _ _ _ ps => ptm ps
  | .mkslice _ _ _ l c => l.tm ++ c.tm
def EffOp.tm : EffOp -> List Nat
  | .store _ a x => a.tm ++ x.tm
  | .append _ _ s x => s.tm ++ x.tm
  | .copy _ d s => d.tm ++ s.tm
  | .mapupd m k x => m.tm ++ k.tm ++ x.tm
  | .clear _ _ x => x.tm
  | .appendz _ _ _ s x => s.tm ++ x.tm
  | .sbytes x => x.tm
  | .stupd m k x => m.tm ++ k.tm ++ x.tm
  | .rng m => m.tm
  | .ent m => m.tm
def SOp.tm : SOp -> List Nat
  | .p o => o.tm
  | .l o => o.tm
  | .a o => o.tm
  | .e o => o.tm
  | .cf _ args => ltm args
  | .cv x args => x.tm ++ ltm args
  | .nx x => x.tm
  | .no => []
def gtm : Option (Nat × Bool) -> List Nat
  | some (t, _) => [t]
  | none => []
def SOper.tm (s : SOper) : List Nat := s.op.tm ++ gtm s.guard
section
variable {F : T V} {d : Nat} {v : Option V}
theorem ev_set {x : Opd} (h : d ∉ x.tm) : x.ev (F.set d v) = x.ev F := by
  cases x with
  | t n => simp only [Opd.tm, List.mem_singleton] at h; simp [Opd.ev, T.get_set_ne _ _ (fun e => h e.symm)]
  | c w => rfl
theorem evs_set : ∀ {l : List Opd}, d ∉ ltm l -> l.map (·.ev (F.set d v)) = l.map (·.ev F)
  | [], _ => rfl
  | x :: l, h => by
    simp only [ltm, List.flatMap_cons, List.mem_append, not_or] at h
    simp [ev_set h.1, evs_set h.2]
theorem fill_set : ∀ {ps : List (Nat × Nat × Opd)} {z : List C}, d ∉ ptm ps -> fillL (F.set d v) z ps = fillL F z ps
  | [], _, _ => rfl
  | (off, size, x) :: ps, z, h => by
    simp only [ptm, List.flatMap_cons, List.mem_append, not_or] at h
    simp only [fillL, ev_set h.1]
    cases cells1 (x.ev F) with
    | none => rfl
    | some cs => simp only; rw [fill_set h.2]
theorem caps_set : ∀ {l : List Opd}, d ∉ ltm l -> capsL (F.set d v) l = capsL F l
  | [], _ => rfl
  | x :: l, h => by
    simp only [ltm, List.flatMap_cons, List.mem_append, not_or] at h
    simp only [capsL, ev_set h.1, caps_set h.2]
theorem bound_set {x : Option Opd} {k y : Nat} (h : d ∉ otm x) : aBound (F.set d v) k y x = aBound F k y x := by
  cases x with
  | none => rfl
  | some x => simp only [otm] at h; simp only [aBound, ev_set h]
theorem slice_set {esz : Nat} {x : V} {lo hi mx : Option Opd} (h1 : d ∉ otm lo) (h2 : d ∉ otm hi) (h3 : d ∉ otm mx) : aSlice (F.set d v) esz x lo hi mx = aSlice F esz x lo hi mx := by
  unfold aSlice
  simp only [bound_set h1, bound_set h2, bound_set h3]
theorem sslice_set {x : V} {lo hi : Option Opd} (h1 : d ∉ otm lo) (h2 : d ∉ otm hi) : aSslice (F.set d v) x lo hi = aSslice F x lo hi := by
  unfold aSslice
  simp only [bound_set h1, bound_set h2]
theorem pure_set {o : PureOp} (h : d ∉ o.tm) : aPure (F.set d v) o = aPure F o := by
  cases o <;> simp only [PureOp.tm, List.mem_append, not_or] at h <;> simp only [aPure]
  all_goals first
    | rw [ev_set h.1.1, sslice_set h.1.2 h.2]
    | rw [ev_set h]
    | rw [fill_set h]
    | rw [caps_set h]
    | rw [ev_set h.1, ev_set h.2]
    | rw [ev_set h.1.1, ev_set h.1.2, ev_set h.2]
    | rw [ev_set h.1.1.1, slice_set h.1.1.2 h.1.2 h.2]
theorem load_set {o : LoadOp} {H : Hp} (h : d ∉ o.tm) : aLoad (F.set d v) H o = aLoad F H o := by
  cases o <;> simp only [LoadOp.tm, List.mem_append, not_or] at h <;> simp only [aLoad]
  all_goals first
    | rw [ev_set h]
    | rw [ev_set h.1, ev_set h.2]
theorem alloc_set {o : AllocOp} (h : d ∉ o.tm) : aAlloc (F.set d v) o = aAlloc F o := by
  cases o <;> simp only [AllocOp.tm, List.mem_append, not_or] at h <;> simp only [aAlloc]
  all_goals first
    | rw [ev_set h]
    | rw [fill_set h]
    | rw [ev_set h.1, ev_set h.2]
theorem eff_set {o : EffOp} {H : Hp} (h : d ∉ o.tm) : aEff (F.set d v) H o = aEff F H o := by
  cases o <;> simp only [EffOp.tm, List.mem_append, not_or] at h <;> simp only [aEff]
  all_goals first
    | rw [ev_set h]
    | rw [ev_set h.1, ev_set h.2]
    | rw [ev_set h.1.1, ev_set h.1.2, ev_set h.2]
theorem wanted_set {g : Option (Nat × Bool)} (h : d ∉ gtm g) : wantedA g (F.set d v) = wantedA g F := by
  cases g with
  | none => rfl
  | some p => obtain ⟨t, b⟩ := p; simp only [gtm, List.mem_singleton] at h; simp [wantedA, T.get_set_ne _ _ (fun e => h e.symm)]
end
def tmOk (y x : SOper) : Bool :=
  (match y.dst with
   | some d => !(x.tm.contains d) && x.dst != some d
   | none => true) &&
  (match x.dst with
   | some d => !(y.tm.contains d)
   | none => true)
inductive Kd where
  | p|l|a|e|c
def SOp.kd : SOp -> Kd
  | .p _ => .p
  | .l _ => .l
  | .a _ => .a
  | .e _ => .e
  | .cf _ _ => .c
  | .cv _ _ => .c
  | .nx _ => .c
  | .no => .e
def swapOk (y x : SOper) : Bool :=
  tmOk y x && match y.op.kd, x.op.kd with
  | .p, _ => true
  | .l, .p|.l, .l => true
  | .l, .a => x.aid.isSome
  | .l, .e|.l, .c => y.keep && x.watch.contains y.id
  | .a, .p => true
  | .a, .a => y.aid.isSome && x.aid.isSome && y.aid != x.aid
  | .e, .p|.c, .p => true
  | .c, .a => x.aid.isSome
  | _, _ => false
section
variable {P : Program} {G base : Nat} {Q : T V -> Hp -> Prop}
theorem setO_comm {F : T V} {d e : Option Nat} {u v : V} (h : ∀ k, d = some k -> e ≠ some k) : setO (setO F d u) e v = setO (setO F e v) d u := by
  cases d with
  | none => rfl
  | some d =>
    cases e with
    | none => rfl
    | some e => exact T.set_comm _ _ _ (fun he => h d rfl (by rw [he]))
theorem tmOk_spec {y x : SOper} (h : tmOk y x = true) : (∀ d, y.dst = some d -> d ∉ x.op.tm /\ d ∉ gtm x.guard /\ x.dst ≠ some d) /\ (∀ d, x.dst = some d -> d ∉ y.op.tm /\ d ∉ gtm y.guard) := by
  unfold tmOk at h
  rw [Bool.and_eq_true] at h
  refine ⟨fun d hd => ?_, fun d hd => ?_⟩
  · have h1 := h.1
    rw [hd] at h1
    simp [SOper.tm] at h1
    exact ⟨h1.1.1, h1.1.2, h1.2⟩
  · have h2 := h.2
    rw [hd] at h2
    simp [SOper.tm] at h2
    exact ⟨h2.1, h2.2⟩
structure Blind (s : SOper) (d : Option Nat) : Prop where
  pure : ∀ F v o, s.op = .p o -> aPure (setO F d v) o = aPure F o
  load : ∀ F H v o, s.op = .l o -> aLoad (setO F d v) H o = aLoad F H o
  alloc : ∀ F v o, s.op = .a o -> aAlloc (setO F d v) o = aAlloc F o
  eff : ∀ F H v o, s.op = .e o -> aEff (setO F d v) H o = aEff F H o
  cf : ∀ F v f l, s.op = .cf f l -> l.map (·.ev (setO F d v)) = l.map (·.ev F)
  cv : ∀ F v x l, s.op = .cv x l -> x.ev (setO F d v) = x.ev F /\ l.map (·.ev (setO F d v)) = l.map (·.ev F)
  nx : ∀ F v x, s.op = .nx x -> x.ev (setO F d v) = x.ev F
  wanted : ∀ F v, wantedA s.guard (setO F d v) = wantedA s.guard F
theorem Blind.mk' {s : SOper} {d : Option Nat} (h : ∀ k, d = some k -> k ∉ s.op.tm /\ k ∉ gtm s.guard) : Blind s d := by
  cases d with
  | none => exact ⟨fun _ _ _ _ => rfl, fun _ _ _ _ _ => rfl, fun _ _ _ _ => rfl, fun _ _ _ _ _ => rfl, fun _ _ _ _ _ => rfl, fun _ _ _ _ _ => ⟨rfl, rfl⟩, fun _ _ _ _ => rfl, fun _ _ => rfl⟩
  | some d =>
    obtain ⟨h1, h2⟩ := h d rfl
    refine ⟨fun F v o ho => ?_, fun F H v o ho => ?_, fun F v o ho => ?_, fun F H v o ho => ?_, fun F v f l ho => ?_, fun F v x l ho => ?_, fun F v x ho => ?_, fun F v => wanted_set h2⟩
    · rw [ho] at h1; exact pure_set h1
    · rw [ho] at h1; exact load_set h1
    · rw [ho] at h1; exact alloc_set h1
    · rw [ho] at h1; exact eff_set h1
    · rw [ho] at h1; exact evs_set h1
    · rw [ho] at h1
      simp only [SOp.tm, List.mem_append, not_or] at h1
      exact ⟨ev_set h1.1, evs_set h1.2⟩
    · rw [ho] at h1; exact ev_set h1
end
end Go.Ab

namespace Go.Ab
section
variable {P : Program} {G base : Nat} {Q : T V -> Hp -> Prop}
inductive Cal where
 | fu (f : FuncId)
 | yl (b : Nat)
 | nx (b : Nat)
def Cal.k (K : Nat -> Prop) : Cal -> Prop
 | .fu _ => True
 | .yl b => K b
 | .nx b => K b
def Cal.run (P : Program) (μ : Nat -> Pl) (xs : Array Value) (w : World) (R : Ending -> World -> Prop) : Cal -> Prop
 | .fu f => Calls P f xs w R
 | .yl b => YieldAt Fence.wide 0 P (μ b).blk xs w R
 | .nx b => ∀ ty : TypeId, ∃ y w', (Instr.next (.pointer (some ((μ b).addr 0))) false ty).run P w = .ok y w' /\ R (.returned y) w'
theorem Cal.run_mono {c : Cal} {μ : Nat -> Pl} {xs : Array Value} {w : World} {R R' : Ending -> World -> Prop} (h : c.run P μ xs w R) (hr : ∀ e w', R e w' -> R' e w') : c.run P μ xs w R' := by
 cases c with
 | fu f => exact Calls.mono h hr
 | yl b => obtain ⟨fn, tmps, sg, bd, h1, h2⟩ := h; exact ⟨fn, tmps, sg, bd, h1, h2.mono hr⟩
 | nx b =>
  intro ty
  obtain ⟨y, w', h1, h2⟩ := h ty
  exact ⟨y, w', h1, hr _ _ h2⟩
def ADo (P : Program) (G : Nat) (c : Cal) (args : List V) (H : Hp) (R : V -> Hp -> Prop) : Prop :=
 ∀ (μ : Nat -> Pl) (K : Nat -> Prop) (w : World) (xs : List Value), Rel G μ K H w -> All2 (RV μ K) args xs -> c.k K ->
  c.run P μ xs.toArray w fun e w' => ∃ x, e = .returned x /\ ∃ v H' μ' K', R v H' /\ RV μ' K' v x /\ Rel G μ' K' H' w' /\ Fr μ K H w μ' K' H' w'
theorem ado_f {f : FuncId} {args : List V} {H : Hp} {R : V -> Hp -> Prop} : ADo P G (.fu f) args H R ↔ ACalls P G f args H R :=
 ⟨fun h μ K w xs hR ha => h μ K w xs hR ha trivial, fun h μ K w xs hR ha _ => h μ K w xs hR ha⟩
theorem ado_y {b : Nat} {args : List V} {H : Hp} {R : V -> Hp -> Prop} : ADo P G (.yl b) args H R ↔ AYield P G b args H R :=
 ⟨fun h μ K w xs hR hK ha => h μ K w xs hR ha hK, fun h μ K w xs hR ha hK => h μ K w xs hR hK ha⟩
theorem ado_n {b : Nat} {H : Hp} {R : V -> Hp -> Prop} : ADo P G (.nx b) [] H R ↔ ANext P G b H R := by
 constructor
 ·intro h μ K w hR hK ty
  obtain ⟨y, w', h1, x, he, h2⟩ := h μ K w [] hR trivial hK ty
  injection he with he
  subst he
  exact ⟨_, w', h1, h2⟩
 ·intro h μ K w xs hR _ hK ty
  obtain ⟨y, w', h1, h2⟩ := h μ K w hR hK ty
  exact ⟨y, w', h1, y, rfl, h2⟩
theorem ADo.mono {f : Cal} {args : List V} {H : Hp} {R R' : V -> Hp -> Prop} (h : ADo P G f args H R) (hr : ∀ v H', R v H' -> R' v H') : ADo P G f args H R' :=
 fun μ K w xs hR ha hK => Cal.run_mono (h μ K w xs hR ha hK) fun _ _ ⟨x, he, v, H', μ', K', h1, h2⟩ => ⟨x, he, v, H', μ', K', hr _ _ h1, h2⟩
theorem ADo.keeps {f : Cal} {args : List V} {H : Hp} {R : V -> Hp -> Prop} (h : ADo P G f args H R) : ADo P G f args H fun v H' => R v H' /\ H.nx <= H'.nx /\ ∀ b, b < H.nx -> H.get b = none -> H'.get b = none :=
 fun μ K w xs hR ha hK => Cal.run_mono (h μ K w xs hR ha hK) fun _ _ ⟨x, he, v, H', μ', K', h1, h2, h3, h4⟩ => ⟨x, he, v, H', μ', K', ⟨h1, h4.nx, h4.none⟩, h2, h3, h4⟩
theorem ADo.frame {f : Cal} {args : List V} {H : Hp} {R : V -> Hp -> Prop} (h : ADo P G f args H R) {x : Nat} {bk : B} (hx : x < H.nx) (hn : H.get x = none) (hm : bk.mut = true) :
  ADo P G f args (H.add x bk) fun v H'' => ∃ H', R v H' /\ H'' = H'.add x bk := by
 intro μ K w xs hR ha hKK
 have hget : ∀ (H : Hp) i, (H.add x bk).get i = if i = x then some bk else H.get i := fun H i => Hp.get_add H x i bk
 have hkx : K x := hR.dom x bk (by simp)
 have hne : ∀ i k, H.get i = some k -> i ≠ x := fun i k hi e => by subst e; rw [hn] at hi; cases hi
 have hR1 : Rel G μ K H w := ⟨fun b k hb => hR.dom b k (by rw [hget, if_neg (hne b k hb)]; exact hb), hR.lt, fun b k hb => hR.blk b k (by rw [hget, if_neg (hne b k hb)]; exact hb),
  fun b b' k k' hb hb' => hR.inj b b' k k' (by rw [hget, if_neg (hne b k hb)]; exact hb) (by rw [hget, if_neg (hne b' k' hb')]; exact hb'), hR.glob⟩
 have hxx : (H.add x bk).get x = some bk := by simp
 have hblk := hR.blk x bk hxx
 have hbl := hR.blk_lt hxx
 have hfar : ∀ b k, H.get b = some k -> (μ b).blk ≠ (μ x).blk := fun b k hb he => hne b k hb (hR.inj x b bk k hxx (by rw [hget, if_neg (hne b k hb)]; exact hb) hm he.symm).symm
 refine Cal.run_mono (h μ K w xs hR1 ha hKK) ?_
 rintro e w' ⟨y, rfl, v, H', μ', K', h1, h2, h3, h4⟩
 have hn' : H'.get x = none := h4.none x hx hn
 have hne' : ∀ i k, H'.get i = some k -> i ≠ x := fun i k hi e => by subst e; rw [hn'] at hi; cases hi
 have hmux : μ' x = μ x := h4.mu x hkx
 have hkeep : w'.heap[(μ x).blk]? = w.heap[(μ x).blk]? := h4.keep _ hbl fun b k hb _ => hfar b k hb
 have hfar' : ∀ b k, H'.get b = some k -> (μ' b).blk ≠ (μ x).blk := by
  intro b k hb he
  by_cases hlt : b < H.nx
  ·cases hg : H.get b with
   | none => rw [h4.none b hlt hg] at hb; cases hb
   | some k0 =>
    rw [h4.mu b (hR1.dom b k0 hg)] at he
    exact hfar b k0 hg he
  ·rcases h4.newmut b k (by omega) hb with hm1|⟨_, hge⟩
   ·rcases h4.img b k hb hm1 with ⟨b0, k0, g0, _, e0⟩|hge
    ·exact hfar b0 k0 g0 (e0.trans he)
    ·omega
   ·omega
 refine ⟨y, rfl, v, H'.add x bk, μ', K', ⟨H', h1, rfl⟩, h2, ⟨fun b k hb => ?_, h3.lt, fun b k hb => ?_, fun b b' k k' hb hb' hm' he => ?_, h3.glob⟩, ?_⟩
 ·rw [hget] at hb
  split at hb
  ·rename_i e; subst e; exact h4.kk _ hkx
  ·exact h3.dom b k hb
 ·rw [hget] at hb
  split at hb
  ·rename_i e; subst e
   obtain rfl := Option.some.inj hb
   rw [hmux, hkeep]
   exact hblk.mono h4.kk h4.mu
  ·exact h3.blk b k hb
 ·rw [hget] at hb hb'
  by_cases e1 : b = x
  ·by_cases e2 : b' = x
   ·rw [e1, e2]
   ·rw [if_neg e2] at hb'
    rw [e1, hmux] at he
    exact absurd he.symm (hfar' b' k' hb')
  ·by_cases e2 : b' = x
   ·rw [if_neg e1] at hb
    rw [e2, hmux] at he
    exact absurd he (hfar' b k hb)
   ·rw [if_neg e1] at hb
    rw [if_neg e2] at hb'
    exact h3.inj b b' k k' hb hb' hm' he
 ·refine ⟨h4.same, h4.size, fun i hi hn => h4.keep i hi fun b k hb hm => hn b k (by rw [hget, if_neg (hne b k hb)]; exact hb) hm, fun b k hb hm' => ?_, fun b k hb hk => ?_, h4.mu, h4.kk, h4.knew, h4.nx, fun b hb hn => ?_, fun b k k' hb hb' => ?_, fun b k hb hm' => ?_⟩
  ·rw [hget] at hb
   split at hb
   ·rename_i e; subst e; exact .inl ⟨b, bk, by simp, hm, by rw [hmux]⟩
   ·rcases h4.img b k hb hm' with ⟨b0, k0, g0, m0, e0⟩|hge
    ·exact .inl ⟨b0, k0, by rw [hget, if_neg (hne b0 k0 g0)]; exact g0, m0, e0⟩
    ·exact .inr hge
  ·rw [hget] at hk
   simp at hb
   rw [if_neg (by omega)] at hk
   exact h4.newmut b k hb hk
  ·rw [hget] at hn ⊢
   split at hn
   ·cases hn
   ·rename_i e; rw [if_neg e]; exact h4.none b hb hn
  ·rw [hget] at hb hb'
   split at hb
   ·rename_i e; rw [if_pos e] at hb'; rw [Option.some.inj hb] at hb'; rw [Option.some.inj hb']
   ·rename_i e; rw [if_neg e] at hb'; exact h4.stay b k k' hb hb'
  ·rw [hget] at hb ⊢
   split at hb
   ·rename_i e; rw [if_pos e]; exact hb
   ·rename_i e; rw [if_neg e]; exact h4.ro b k hb hm'
theorem ACalls.mono {f : FuncId} {args : List V} {H : Hp} {R R' : V -> Hp -> Prop} (h : ACalls P G f args H R) (hr : ∀ v H', R v H' -> R' v H') : ACalls P G f args H R' := ado_f.1 ((ado_f.2 h).mono hr)
theorem AYield.mono {b : Nat} {args : List V} {H : Hp} {R R' : V -> Hp -> Prop} (h : AYield P G b args H R) (hr : ∀ v H', R v H' -> R' v H') : AYield P G b args H R' := ado_y.1 ((ado_y.2 h).mono hr)
theorem ANext.mono {b : Nat} {H : Hp} {R R' : V -> Hp -> Prop} (h : ANext P G b H R) (hr : ∀ v H', R v H' -> R' v H') : ANext P G b H R' := ado_n.1 ((ado_n.2 h).mono hr)
theorem watch_mono {ws : List Nat} {ctx ctx' : Ctx} {H : Hp} (hs : ∀ x, x ∈ ctx' -> x ∈ ctx) (h : watchOk ws ctx H) : watchOk ws ctx' H := by
 cases ws with
 | nil => trivial
 | cons k r => exact fun j hj p hp => h j hj p (hs _ hp)
theorem ctx_mono : ∀ {l : List SOper} {ctx ctx' : Ctx} {F : T V} {H : Hp}, (∀ x, x ∈ ctx' -> x ∈ ctx) -> wOps P G base Q l ctx F H -> wOps P G base Q l ctx' F H
 | [], _, _, _, _, _, h => h
 | o :: r, ctx, ctx', F, H, hs, h => by
  rw [wOps] at h ⊢
  split at h
  ·rename_i hw
   rw [if_pos hw]
   cases hop : o.op with
   | p op =>
    simp only [hop] at h ⊢
    cases hv : aPure F op with
    | none => simp [hv] at h
    | some v => simp only [hv] at h ⊢; exact ctx_mono hs h
   | l op =>
    simp only [hop] at h ⊢
    cases hv : aLoad F H op with
    | none => simp [hv] at h
    | some v =>
     simp only [hv] at h ⊢
     refine ctx_mono (fun x hx => ?_) h
     cases hk : o.keep with
     | false => simp only [hk, Bool.false_eq_true, if_false] at hx ⊢; exact hs x hx
     | true =>
      simp only [hk, if_true, List.mem_cons] at hx ⊢
      exact hx.imp id (hs x)
   | a op =>
    simp only [hop] at h ⊢
    cases hv : aAlloc F op with
    | none => simp [hv] at h
    | some v =>
     simp only [hv] at h ⊢
     cases hai : o.aid with
     | none => simp only [hai] at h ⊢; exact ctx_mono hs h
     | some k => simp only [hai] at h ⊢; exact ctx_mono hs h
   | e op =>
    simp only [hop] at h ⊢
    cases hv : aEff F H op with
    | none => simp [hv] at h
    | some v => simp only [hv] at h ⊢; exact ⟨watch_mono hs h.1, ctx_mono hs h.2⟩
   | cf f args =>
    simp only [hop] at h ⊢
    exact h.mono fun v H' hh => ⟨watch_mono hs hh.1, ctx_mono hs hh.2⟩
   | cv x args =>
    simp only [hop] at h ⊢
    split at h
    ·exact ⟨h.1, h.2.mono fun v H' hh => ⟨watch_mono hs hh.1, ctx_mono hs hh.2⟩⟩
    ·exact AYield.mono h fun v H' hh => ⟨watch_mono hs hh.1, ctx_mono hs hh.2⟩
    ·exact h.elim
   | nx x =>
    simp only [hop] at h ⊢
    split at h
    ·exact ANext.mono h fun v H' hh => ⟨watch_mono hs hh.1, ctx_mono hs hh.2⟩
    ·exact h.elim
   | no => simp only [hop] at h
  ·rename_i hw
   rw [if_neg hw]
   exact ctx_mono hs h
end
end Go.Ab

namespace Go.Ab
section
variable {P : Program} {G base : Nat} {Q : T V -> Hp -> Prop}
def callOf (P : Program) (o : SOp) (F : T V) : Option (Cal × List V) :=
 match o with
 | .cf f args => some (.fu f, args.map (·.ev F))
 | .cv x args => match x.ev F with
  | .one (.fn f caps) => if isFn P f then some (.fu f, args.map (·.ev F) ++ caps.map ptrV) else none
  | .one (.yld b) => some (.yl b, args.map (·.ev F))
  | _ => none
 | .nx x => match x.ev F with
  | .one (.ptr b 0) => some (.nx b, [])
  | _ => none
 | _ => none
def Plain (o : SOper) (F : T V) (v : V) : Prop := (wantedA o.guard F = false /\ v = V.undef) \/ (wantedA o.guard F = true /\ ∃ op, o.op = .p op /\ aPure F op = some v)
def ctxOf (o : SOper) (op : LoadOp) (F : T V) (v : V) (ctx : Ctx) : Ctx := if o.keep then (o.id, fun H' => aLoad F H' op = some v) :: ctx else ctx
def allocAt (base : Nat) (o : SOper) (H : Hp) : Nat := match o.aid with
 | none => H.nx
 | some k => base + k
def allocHp (base : Nat) (o : SOper) (H : Hp) (bk : B) : Hp := match o.aid with
 | none => H.push bk
 | some k => H.add (base + k) bk
theorem wOps_inv {o : SOper} {r : List SOper} {ctx : Ctx} {F : T V} {H : Hp} (h : wOps P G base Q (o :: r) ctx F H) :
  (∃ v, Plain o F v /\ wOps P G base Q r ctx (setO F o.dst v) H) \/
  (wantedA o.guard F = true /\ ∃ op v, o.op = .l op /\ aLoad F H op = some v /\ wOps P G base Q r (ctxOf o op F v ctx) (setO F o.dst v) H) \/
  (wantedA o.guard F = true /\ ∃ op bk g, o.op = .a op /\ aAlloc F op = some (bk, g) /\ wOps P G base Q r ctx (setO F o.dst (g (allocAt base o H))) (allocHp base o H bk)) \/
  (wantedA o.guard F = true /\ ∃ op v H', o.op = .e op /\ aEff F H op = some (v, H') /\ watchOk o.watch ctx H' /\ wOps P G base Q r ctx (setO F o.dst v) H') \/
  (wantedA o.guard F = true /\ o.op.kd = .c /\ ∃ f args, callOf P o.op F = some (f, args) /\ ADo P G f args H fun v H' => watchOk o.watch ctx H' /\ wOps P G base Q r ctx (setO F o.dst v) H') := by
 rw [wOps] at h
 split at h
 ·rename_i hw
  cases hop : o.op with
  | p op =>
   simp only [hop] at h
   cases hv : aPure F op with
   | none => simp [hv] at h
   | some v => simp only [hv] at h; exact .inl ⟨v, .inr ⟨hw, op, hop, hv⟩, h⟩
  | l op =>
   simp only [hop] at h
   cases hv : aLoad F H op with
   | none => simp [hv] at h
   | some v => simp only [hv] at h; exact .inr (.inl ⟨hw, op, v, rfl, hv, h⟩)
  | a op =>
   simp only [hop] at h
   cases hv : aAlloc F op with
   | none => simp [hv] at h
   | some bg =>
    simp only [hv] at h
    refine .inr (.inr (.inl ⟨hw, op, bg.1, bg.2, rfl, hv, ?_⟩))
    unfold allocAt allocHp
    cases hai : o.aid <;> simp only [hai] at h ⊢ <;> exact h
  | e op =>
   simp only [hop] at h
   cases hv : aEff F H op with
   | none => simp [hv] at h
   | some v => simp only [hv] at h; exact .inr (.inr (.inr (.inl ⟨hw, op, v.1, v.2, rfl, hv, h.1, h.2⟩)))
  | cf f args =>
   simp only [hop] at h
   exact .inr (.inr (.inr (.inr ⟨hw, rfl, .fu f, _, rfl, ado_f.2 h⟩)))
  | cv x args =>
   simp only [hop] at h
   split at h
   ·rename_i f caps hx
    exact .inr (.inr (.inr (.inr ⟨hw, rfl, .fu f, _, by simp [callOf, hx, h.1], ado_f.2 h.2⟩)))
   ·rename_i b hx
    exact .inr (.inr (.inr (.inr ⟨hw, rfl, .yl b, _, by simp [callOf, hx], ado_y.2 h⟩)))
   ·exact h.elim
  | nx x =>
   simp only [hop] at h
   split at h
   ·rename_i b hx
    exact .inr (.inr (.inr (.inr ⟨hw, rfl, .nx b, _, by simp [callOf, hx], ado_n.2 h⟩)))
   ·exact h.elim
  | no => simp only [hop] at h
 ·rename_i hw
  exact .inl ⟨V.undef, .inl ⟨by simpa using hw, rfl⟩, h⟩
theorem wOps_plain {o : SOper} {r : List SOper} {ctx : Ctx} {F : T V} {H : Hp} {v : V} (hp : Plain o F v) (h : wOps P G base Q r ctx (setO F o.dst v) H) : wOps P G base Q (o :: r) ctx F H := by
 rw [wOps]
 rcases hp with ⟨hw, rfl⟩|⟨hw, op, hop, hv⟩
 ·simpa [hw] using h
 ·simpa [hw, hop, hv] using h
theorem wOps_load {o : SOper} {r : List SOper} {ctx : Ctx} {F : T V} {H : Hp} {v : V} {op : LoadOp} (hw : wantedA o.guard F = true) (hop : o.op = .l op) (hv : aLoad F H op = some v) (h : wOps P G base Q r (ctxOf o op F v ctx) (setO F o.dst v) H) :
  wOps P G base Q (o :: r) ctx F H := by
 rw [wOps]
 simp only [hw, if_true, hop, hv]
 exact h
theorem wOps_alloc {o : SOper} {r : List SOper} {ctx : Ctx} {F : T V} {H : Hp} {bk : B} {g : Nat -> V} {op : AllocOp} (hw : wantedA o.guard F = true) (hop : o.op = .a op) (hv : aAlloc F op = some (bk, g))
  (h : wOps P G base Q r ctx (setO F o.dst (g (allocAt base o H))) (allocHp base o H bk)) : wOps P G base Q (o :: r) ctx F H := by
 rw [wOps]
 simp only [hw, if_true, hop, hv]
 unfold allocAt allocHp at h
 cases hai : o.aid <;> simp only [hai] at h ⊢ <;> exact h
theorem wOps_eff {o : SOper} {r : List SOper} {ctx : Ctx} {F : T V} {H H' : Hp} {v : V} {op : EffOp} (hw : wantedA o.guard F = true) (hop : o.op = .e op) (hv : aEff F H op = some (v, H')) (hwa : watchOk o.watch ctx H') (h : wOps P G base Q r ctx (setO F o.dst v) H') :
  wOps P G base Q (o :: r) ctx F H := by
 rw [wOps]
 simp only [hw, if_true, hop, hv]
 exact ⟨hwa, h⟩
theorem wOps_call {o : SOper} {r : List SOper} {ctx : Ctx} {F : T V} {H : Hp} {f : Cal} {args : List V} (hw : wantedA o.guard F = true) (hc : callOf P o.op F = some (f, args))
  (h : ADo P G f args H fun v H' => watchOk o.watch ctx H' /\ wOps P G base Q r ctx (setO F o.dst v) H') : wOps P G base Q (o :: r) ctx F H := by
 rw [wOps]
 simp only [hw, if_true]
 cases hop : o.op <;> simp only [hop, callOf] at hc <;> try (cases hc; done)
 ·obtain ⟨rfl, rfl⟩ : _ /\ _ := by simpa using hc
  exact ado_f.1 h
 ·simp only
  split at hc
  ·rename_i f' caps hx
   split at hc
   ·rename_i hf
    obtain ⟨rfl, rfl⟩ : _ /\ _ := by simpa using hc
    try simp only [hx]
    exact ⟨hf, ado_f.1 h⟩
   ·cases hc
  ·rename_i b hx
   obtain ⟨rfl, rfl⟩ : _ /\ _ := by simpa using hc
   try simp only [hx]
   exact ado_y.1 h
  ·cases hc
 ·simp only
  split at hc
  ·rename_i b hx
   obtain ⟨rfl, rfl⟩ : _ /\ _ := by simpa using hc
   try simp only [hx]
   exact ado_n.1 h
  ·cases hc
def Free (base : Nat) (ks : List Nat) (H : Hp) : Prop := ∀ k ∈ ks, base + k < H.nx /\ H.get (base + k) = none
theorem stores_keeps : ∀ {l : List C} {H H' : Hp} {b o : Nat}, H.stores b o l = some H' -> H'.nx = H.nx /\ ∀ i, H.get i = none -> H'.get i = none
 | [], H, H', b, o, h => by simp [Hp.stores] at h; subst h; exact ⟨rfl, fun _ h => h⟩
 | c :: l, H, H', b, o, h => by
  simp only [Hp.stores] at h
  cases hs : H.store b o c with
  | none => simp [hs] at h
  | some H1 =>
   simp only [hs] at h
   obtain ⟨h1, h2⟩ := stores_keeps h
   unfold Hp.store at hs
   split at hs
   ·rename_i n z m hb
    split at hs
    ·obtain rfl := Option.some.inj hs
     refine ⟨h1, fun i hi => h2 i ?_⟩
     rw [Hp.get_add]
     split
     ·rename_i e; subst e; rw [hb] at hi; cases hi
     ·exact hi
    ·cases hs
   ·cases hs
theorem append_keeps {H H' : Hp} {esz bytes m : Nat} {s v : V} {news : List C} (h : aAppend H esz bytes s m news = some (v, H')) : H.nx <= H'.nx /\ ∀ b, b < H.nx -> H.get b = none -> H'.get b = none := by
 unfold aAppend at h
 split at h
 ·split at h
  ·simp only [Option.some.injEq, Prod.mk.injEq] at h; obtain ⟨_, rfl⟩ := h; exact ⟨Nat.le_refl _, fun _ _ h => h⟩
  ·split at h
   ·simp only [Option.some.injEq, Prod.mk.injEq] at h; obtain ⟨_, rfl⟩ := h
    exact ⟨by simp, fun b hb hn => by rw [Hp.get_push, if_neg (by omega)]; exact hn⟩
   ·cases h
 ·split at h
  ·cases h
  ·split at h
   ·simp only [Option.map_eq_some_iff, Prod.mk.injEq] at h
    obtain ⟨H1, hs, _, rfl⟩ := h
    have := stores_keeps hs
    exact ⟨by omega, fun b _ hb => this.2 b hb⟩
   ·split at h
    ·split at h
     ·cases h
     ·split at h
      ·simp only [Option.some.injEq, Prod.mk.injEq] at h; obtain ⟨_, rfl⟩ := h
       exact ⟨by simp, fun b hb hn => by rw [Hp.get_push, if_neg (by omega)]; exact hn⟩
      ·split at h
       ·simp only [Option.some.injEq, Prod.mk.injEq] at h; obtain ⟨_, rfl⟩ := h
        refine ⟨by simp, fun b hb hn => ?_⟩
        rw [Hp.get_del]
        split
        ·rfl
        ·rw [Hp.get_push, if_neg (by omega)]; exact hn
       ·cases h
    ·cases h
 ·cases h
theorem eff_keeps {F : T V} {H H' : Hp} {op : EffOp} {v : V} (h : aEff F H op = some (v, H')) : H.nx <= H'.nx /\ ∀ b, b < H.nx -> H.get b = none -> H'.get b = none := by
 cases op with
 | store n a x =>
  simp only [aEff] at h
  split at h
  ·split at h
   ·simp only [Option.map_eq_some_iff, Prod.mk.injEq] at h
    obtain ⟨H1, hs, _, rfl⟩ := h
    have := stores_keeps hs
    exact ⟨by omega, fun b _ hb => this.2 b hb⟩
   ·cases h
  ·cases h
 | append esz bytes s x =>
  simp only [aEff] at h
  split at h
  ·exact append_keeps h
  ·cases h
 | appendz esz bytes z s x =>
  simp only [aEff] at h
  split at h
  ·split at h
   ·exact append_keeps h
   ·cases h
  ·cases h
 | sbytes x =>
  simp only [aEff] at h
  split at h
  ·simp only [Option.some.injEq, Prod.mk.injEq] at h; obtain ⟨_, rfl⟩ := h
   exact ⟨by simp, fun b hb hn => by rw [Hp.get_push, if_neg (by omega)]; exact hn⟩
  ·cases h
 | copy esz d s =>
  simp only [aEff] at h
  split at h
  ·simp only [Option.some.injEq, Prod.mk.injEq] at h; obtain ⟨_, rfl⟩ := h; exact ⟨Nat.le_refl _, fun _ _ h => h⟩
  ·split at h
   ·simp only [Option.map_eq_some_iff, Prod.mk.injEq] at h
    obtain ⟨H1, hs, _, rfl⟩ := h
    have := stores_keeps hs
    exact ⟨by omega, fun b _ hb => this.2 b hb⟩
   ·cases h
  ·cases h
 | ent m =>
  have hH : H' = H := by
   simp only [aEff] at h
   split at h
   ·split at h
    ·split at h
     ·split at h
      ·split at h
       ·simp only [Option.some.injEq, Prod.mk.injEq] at h; exact h.2.symm
       ·cases h
      ·cases h
     ·cases h
    ·cases h
   ·cases h
  subst hH
  exact ⟨Nat.le_refl _, fun _ _ h => h⟩
 | rng m =>
  simp only [aEff] at h
  split at h
  ·split at h
   ·simp only [Option.some.injEq, Prod.mk.injEq] at h; obtain ⟨_, rfl⟩ := h
    exact ⟨by simp, fun b hb hn => by rw [Hp.get_push, if_neg (by omega)]; exact hn⟩
   ·cases h
  ·cases h
 | stupd m k x =>
  simp only [aEff] at h
  split at h
  ·split at h
   ·rename_i b _ _ _ _ _ _ es hb
    split at h
    ·simp only [Option.some.injEq, Prod.mk.injEq] at h; obtain ⟨_, rfl⟩ := h
     refine ⟨Nat.le_refl _, fun i _ hi => ?_⟩
     rw [Hp.get_add]
     split
     ·rename_i e; subst e; rw [hb] at hi; cases hi
     ·exact hi
    ·simp only [Option.some.injEq, Prod.mk.injEq] at h; obtain ⟨_, rfl⟩ := h
     refine ⟨Nat.le_refl _, fun i _ hi => ?_⟩
     rw [Hp.get_add]
     split
     ·rename_i e; subst e; rw [hb] at hi; cases hi
     ·exact hi
    ·cases h
   ·cases h
  ·cases h
 | mapupd m k x =>
  simp only [aEff] at h
  split at h
  ·split at h
   ·rename_i b _ es hb
    split at h
    ·split at h
     ·simp only [Option.some.injEq, Prod.mk.injEq] at h; obtain ⟨_, rfl⟩ := h
      refine ⟨Nat.le_refl _, fun i _ hi => ?_⟩
      rw [Hp.get_add]
      split
      ·rename_i e; subst e; rw [hb] at hi; cases hi
      ·exact hi
     ·simp only [Option.some.injEq, Prod.mk.injEq] at h; obtain ⟨_, rfl⟩ := h
      refine ⟨Nat.le_refl _, fun i _ hi => ?_⟩
      rw [Hp.get_add]
      split
      ·rename_i e; subst e; rw [hb] at hi; cases hi
      ·exact hi
     ·cases h
    ·cases h
   ·cases h
  ·cases h
 | clear esz z x =>
  simp only [aEff] at h
  split at h
  ·simp only [Option.some.injEq, Prod.mk.injEq] at h; obtain ⟨_, rfl⟩ := h; exact ⟨Nat.le_refl _, fun _ _ h => h⟩
  ·split at h
   ·simp only [Option.map_eq_some_iff, Prod.mk.injEq] at h
    obtain ⟨H1, hs, _, rfl⟩ := h
    have := stores_keeps hs
    exact ⟨by omega, fun b _ hb => this.2 b hb⟩
   ·cases h
  ·cases h
theorem Free.of_keeps {ks : List Nat} {H H' : Hp} (hf : Free base ks H) (h : H.nx <= H'.nx /\ ∀ b, b < H.nx -> H.get b = none -> H'.get b = none) : Free base ks H' :=
 fun k hk => ⟨by have := (hf k hk).1; omega, h.2 _ (hf k hk).1 (hf k hk).2⟩
theorem Free.of_alloc {ks : List Nat} {H : Hp} {o : SOper} (hf : Free base ks H) (bk : B) (hk : ∀ k, o.aid = some k -> k ∉ ks) : Free base ks (allocHp base o H bk) := by
 unfold allocHp
 cases hai : o.aid with
 | none => exact fun k hk' => ⟨by have := (hf k hk').1; simp; omega, by rw [Hp.get_push, if_neg (by have := (hf k hk').1; omega)]; exact (hf k hk').2⟩
 | some j =>
  refine fun k hk' => ⟨(hf k hk').1, ?_⟩
  rw [Hp.get_add, if_neg (fun e => hk j hai (by have : k = j := by omega
                                                rw [<- this]; exact hk'))]
  exact (hf k hk').2
end
end Go.Ab

namespace Go.Ab
section
variable {P : Program} {G base : Nat} {Q : T V -> Hp -> Prop}
abbrev CtxSt := CtxSt0
theorem CtxSt.of {ctx : Ctx} (h : CtxSt ctx) (o : SOper) (op : LoadOp) (F : T V) (v : V) : CtxSt (ctxOf o op F v ctx) := CtxSt0.of h _ _ _ _ _
theorem step_mono {o : SOper} {r1 r2 : List SOper} {ctx : Ctx} {F : T V} {H : Hp} {ks : List Nat} (hst : CtxSt ctx) (hf : Free base ks H) (hai : ∀ k, o.aid = some k -> k ∉ ks)
    (hr : ∀ ctx v H', CtxSt ctx -> Free base ks H' -> wOps P G base Q r1 ctx (setO F o.dst v) H' -> wOps P G base Q r2 ctx (setO F o.dst v) H') (h : wOps P G base Q (o :: r1) ctx F H) : wOps P G base Q (o :: r2) ctx F H := by
  rcases wOps_inv h with ⟨v, hp, h⟩|⟨hw, op, v, hop, hv, h⟩|⟨hw, op, bk, g, hop, hv, h⟩|⟨hw, op, v, H', hop, hv, hwa, h⟩|⟨hw, _, f, args, hc, h⟩
  · exact wOps_plain hp (hr _ _ _ hst hf h)
  · exact wOps_load hw hop hv (hr _ _ _ (CtxSt.of hst _ _ _ _) hf h)
  · exact wOps_alloc hw hop hv (hr _ _ _ hst (hf.of_alloc bk hai) h)
  · exact wOps_eff hw hop hv hwa (hr _ _ _ hst (hf.of_keeps (eff_keeps hv)) h)
  · exact wOps_call hw hc (h.keeps.mono fun v H' hh => ⟨hh.1.1, hr _ _ _ hst (hf.of_keeps hh.2) hh.1.2⟩)
theorem alloc_mut {F : T V} {op : AllocOp} {bk : B} {g : Nat -> V} (h : aAlloc F op = some (bk, g)) : bk.mut = true := by
  cases op <;> simp only [aAlloc] at h
  case alloc => simp only [Option.some.injEq, Prod.mk.injEq] at h; rw [<- h.1]; rfl
  case mkmap => simp only [Option.some.injEq, Prod.mk.injEq] at h; rw [<- h.1]; rfl
  case mkst => simp only [Option.some.injEq, Prod.mk.injEq] at h; rw [<- h.1]; rfl
  all_goals (split at h <;> try (cases h; done))
  all_goals first
    | (simp only [Option.some.injEq, Prod.mk.injEq] at h; rw [<- h.1]; rfl)
    | (split at h
       · simp only [Option.some.injEq, Prod.mk.injEq] at h; rw [<- h.1]; rfl
       · cases h)
theorem Plain.blind {s : SOper} {d : Option Nat} (hb : Blind s d) {F : T V} {u v : V} : Plain s (setO F d u) v ↔ Plain s F v := by
  unfold Plain
  rw [hb.wanted]
  constructor
  · rintro (h|⟨hw, op, hop, hv⟩)
    · exact .inl h
    · exact .inr ⟨hw, op, hop, by rwa [hb.pure F u op hop] at hv⟩
  · rintro (h|⟨hw, op, hop, hv⟩)
    · exact .inl h
    · exact .inr ⟨hw, op, hop, by rwa [hb.pure F u op hop]⟩
theorem callOf_blind {s : SOper} {d : Option Nat} (hb : Blind s d) {F : T V} {u : V} : callOf P s.op (setO F d u) = callOf P s.op F := by
  cases hop : s.op with
  | cf f args => simp only [callOf, hb.cf F u f args hop]
  | cv x args => obtain ⟨h1, h2⟩ := hb.cv F u x args hop; simp only [callOf, h1, h2]
  | nx x => simp only [callOf, hb.nx F u x hop]
  | _ => rfl
def HasVal (x : SOper) (F : T V) : Prop := wantedA x.guard F = true -> (∀ op, x.op = .p op -> ∃ v, aPure F op = some v) /\ (∀ op, x.op = .a op -> ∃ bg, aAlloc F op = some bg)
theorem HasVal.blind {x : SOper} {d : Option Nat} (hb : Blind x d) {F : T V} {u : V} : HasVal x (setO F d u) ↔ HasVal x F := by
  unfold HasVal
  rw [hb.wanted]
  constructor
  · intro h hw
    refine ⟨fun op hop => ?_, fun op hop => ?_⟩
    · have := (h hw).1 op hop; rwa [hb.pure _ _ _ hop] at this
    · have := (h hw).2 op hop; rwa [hb.alloc _ _ _ hop] at this
  · intro h hw
    refine ⟨fun op hop => ?_, fun op hop => ?_⟩
    · rw [hb.pure _ _ _ hop]; exact (h hw).1 op hop
    · rw [hb.alloc _ _ _ hop]; exact (h hw).2 op hop
theorem swap {y x : SOper} {r : List SOper} {ctx : Ctx} {F : T V} {H : Hp} (hok : swapOk y x = true) (hst : CtxSt ctx) (hval : HasVal x F) (hfr : ∀ k, (x.aid = some k \/ y.aid = some k) -> base + k < H.nx /\ H.get (base + k) = none)
    (h : wOps P G base Q (y :: x :: r) ctx F H) : wOps P G base Q (x :: y :: r) ctx F H := by
  unfold swapOk at hok
  rw [Bool.and_eq_true] at hok
  obtain ⟨htm, hkd⟩ := hok
  obtain ⟨t1, t2⟩ := tmOk_spec htm
  have bx : Blind x y.dst := Blind.mk' fun k hk => ⟨(t1 k hk).1, (t1 k hk).2.1⟩
  have by_ : Blind y x.dst := Blind.mk' fun k hk => t2 k hk
  have hcomm : ∀ (F : T V) (u v : V), setO (setO F y.dst u) x.dst v = setO (setO F x.dst v) y.dst u := fun F u v => setO_comm fun k hk => (t1 k hk).2.2
  rcases wOps_inv h with ⟨vy, hpy, h⟩|⟨hwy, opy, vy, hopy, hvy, h⟩|⟨hwy, opy, bky, gy, hopy, hvy, h⟩|⟨hwy, opy, vy, Hy, hopy, hvy, hway, h⟩|⟨hwy, hky, fy, argsy, hcy, h⟩
  · -- y is plain
    rcases wOps_inv h with ⟨vx, hpx, h⟩|⟨hwx, opx, vx, hopx, hvx, h⟩|⟨hwx, opx, bkx, gx, hopx, hvx, h⟩|⟨hwx, opx, vx, Hx, hopx, hvx, hwax, h⟩|⟨hwx, hkx, fx, argsx, hcx, h⟩
    · rw [Plain.blind bx] at hpx
      exact wOps_plain hpx (wOps_plain ((Plain.blind by_).2 hpy) (by rw [<- hcomm]; exact h))
    · rw [bx.wanted] at hwx
      rw [bx.load _ _ _ _ hopx] at hvx
      refine wOps_load hwx hopx hvx (wOps_plain ((Plain.blind by_).2 hpy) ?_)
      rw [<- hcomm]
      refine ctx_mono (fun z hz => ?_) h
      unfold ctxOf at hz ⊢
      cases hk : x.keep with
      | false => simp only [hk, Bool.false_eq_true, if_false] at hz ⊢; exact hz
      | true =>
        simp only [hk, if_true, List.mem_cons] at hz ⊢
        rcases hz with rfl|hz
        · left
          congr 1
          funext H'
          rw [bx.load _ _ _ _ hopx]
        · exact .inr hz
    · rw [bx.wanted] at hwx
      rw [bx.alloc _ _ _ hopx] at hvx
      exact wOps_alloc hwx hopx hvx (wOps_plain ((Plain.blind by_).2 hpy) (by rw [<- hcomm]; exact h))
    · rw [bx.wanted] at hwx
      rw [bx.eff _ _ _ _ hopx] at hvx
      exact wOps_eff hwx hopx hvx hwax (wOps_plain ((Plain.blind by_).2 hpy) (by rw [<- hcomm]; exact h))
    · rw [bx.wanted] at hwx
      rw [callOf_blind bx] at hcx
      exact wOps_call hwx hcx (h.mono fun v H' hh => ⟨hh.1, wOps_plain ((Plain.blind by_).2 hpy) (by rw [<- hcomm]; exact hh.2)⟩)
  · -- y loads
    have hyl : ∀ (F' : T V) (v : V) (H' : Hp), F' = setO F x.dst v -> aLoad F H' opy = some vy -> ∀ c, (∀ z, z ∈ c -> z ∈ ctx) -> wOps P G base Q r (ctxOf y opy F vy c) (setO F' y.dst vy) H' -> wOps P G base Q (y :: r) c F' H' := by
      rintro F' v H' rfl hv c hc hh
      refine wOps_load (by rw [by_.wanted]; exact hwy) hopy (by rw [by_.load _ _ _ _ hopy]; exact hv) ?_
      refine ctx_mono (fun z hz => ?_) hh
      unfold ctxOf at hz ⊢
      cases hk : y.keep with
      | false => simp only [hk, Bool.false_eq_true, if_false] at hz ⊢; exact hz
      | true =>
        simp only [hk, if_true, List.mem_cons] at hz ⊢
        rcases hz with rfl|hz
        · left
          congr 1
          funext H'
          rw [by_.load _ _ _ _ hopy]
        · exact .inr hz
    rcases wOps_inv h with ⟨vx, hpx, h⟩|⟨hwx, opx, vx, hopx, hvx, h⟩|⟨hwx, opx, bkx, gx, hopx, hvx, h⟩|⟨hwx, opx, vx, Hx, hopx, hvx, hwax, h⟩|⟨hwx, hkx, fx, argsx, hcx, h⟩
    · rw [Plain.blind bx] at hpx
      exact wOps_plain hpx (hyl _ vx H rfl hvy ctx (fun _ h => h) (by rw [<- hcomm]; exact h))
    · rw [bx.wanted] at hwx
      rw [bx.load _ _ _ _ hopx] at hvx
      refine wOps_load hwx hopx hvx ?_
      refine wOps_load (by rw [by_.wanted]; exact hwy) hopy (by rw [by_.load _ _ _ _ hopy]; exact hvy) ?_
      rw [<- hcomm]
      refine ctx_mono (fun z hz => ?_) h
      unfold ctxOf at hz ⊢
      have e1 : ∀ u : V, (fun H' => aLoad (setO F y.dst u) H' opx = some vx) = fun H' => aLoad F H' opx = some vx := fun u => by funext H'; rw [bx.load _ _ _ _ hopx]
      have e2 : ∀ u : V, (fun H' => aLoad (setO F x.dst u) H' opy = some vy) = fun H' => aLoad F H' opy = some vy := fun u => by funext H'; rw [by_.load _ _ _ _ hopy]
      rw [e2] at hz
      rw [e1]
      cases hk : y.keep <;> cases hk' : x.keep <;> simp only [hk, hk', Bool.false_eq_true, if_false, if_true, List.mem_cons] at hz ⊢
      · exact hz
      · exact hz
      · exact hz
      · rcases hz with hz|hz|hz
        · exact .inr (.inl hz)
        · exact .inl hz
        · exact .inr (.inr hz)
    · rw [bx.wanted] at hwx
      rw [bx.alloc _ _ _ hopx] at hvx
      rw [hopy, hopx] at hkd
      simp only [SOp.kd] at hkd
      obtain ⟨k, hk⟩ := Option.isSome_iff_exists.1 hkd
      have hfree := hfr k (.inl hk)
      refine wOps_alloc hwx hopx hvx ?_
      refine hyl _ _ _ rfl ?_ ctx (fun _ h => h) (by rw [<- hcomm]; exact h)
      unfold allocHp
      simp only [hk]
      exact load_add hfree.2 hvy
    · rw [bx.wanted] at hwx
      rw [bx.eff _ _ _ _ hopx] at hvx
      rw [hopy, hopx] at hkd
      simp only [SOp.kd, Bool.and_eq_true] at hkd
      have hwat : aLoad F Hx opy = some vy := by
        have hmem : y.id ∈ x.watch := by simpa using hkd.2
        cases hws : x.watch with
        | nil => rw [hws] at hmem; cases hmem
        | cons a l =>
          rw [hws] at hwax hmem
          exact hwax y.id hmem (fun H' => aLoad F H' opy = some vy) (by unfold ctxOf; rw [if_pos hkd.1]; exact List.mem_cons_self ..)
      refine wOps_eff hwx hopx hvx (watch_mono (fun z hz => ?_) hwax) (hyl _ vx Hx rfl hwat ctx (fun _ h => h) (by rw [<- hcomm]; exact h))
      unfold ctxOf
      split
      · exact List.mem_cons_of_mem _ hz
      · exact hz
    · rw [bx.wanted] at hwx
      rw [callOf_blind bx] at hcx
      rw [hopy, hkx] at hkd
      simp only [SOp.kd, Bool.and_eq_true] at hkd
      have hmem : y.id ∈ x.watch := by simpa using hkd.2
      refine wOps_call hwx hcx (h.mono fun v H' hh => ?_)
      have hwat : aLoad F H' opy = some vy := by
        have hwax := hh.1
        cases hws : x.watch with
        | nil => rw [hws] at hmem; cases hmem
        | cons a l =>
          rw [hws] at hwax hmem
          exact hwax y.id hmem (fun H' => aLoad F H' opy = some vy) (by unfold ctxOf; rw [if_pos hkd.1]; exact List.mem_cons_self ..)
      refine ⟨watch_mono (fun z hz => ?_) hh.1, hyl _ v H' rfl hwat ctx (fun _ h => h) (by rw [<- hcomm]; exact hh.2)⟩
      unfold ctxOf
      split
      · exact List.mem_cons_of_mem _ hz
      · exact hz
  · -- y makes a block
    rcases wOps_inv h with ⟨vx, hpx, h⟩|⟨hwx, opx, vx, hopx, hvx, h⟩|⟨hwx, opx, bkx, gx, hopx, hvx, h⟩|⟨hwx, opx, vx, Hx, hopx, hvx, hwax, h⟩|⟨hwx, hkx, fx, argsx, hcx, h⟩
    · rw [Plain.blind bx] at hpx
      exact wOps_plain hpx (wOps_alloc (by rw [by_.wanted]; exact hwy) hopy (by rw [by_.alloc _ _ _ hopy]; exact hvy) (by rw [<- hcomm]; exact h))
    · rw [hopy, hopx] at hkd; simp [SOp.kd] at hkd
    · rw [bx.wanted] at hwx
      rw [bx.alloc _ _ _ hopx] at hvx
      rw [hopy, hopx] at hkd
      simp only [SOp.kd, Bool.and_eq_true] at hkd
      obtain ⟨k, hk⟩ := Option.isSome_iff_exists.1 hkd.1.1
      obtain ⟨j, hj⟩ := Option.isSome_iff_exists.1 hkd.1.2
      have hne : k ≠ j := by
        have := hkd.2
        rw [hk, hj] at this
        simpa using this
      refine wOps_alloc hwx hopx hvx (wOps_alloc (by rw [by_.wanted]; exact hwy) hopy (by rw [by_.alloc _ _ _ hopy]; exact hvy) ?_)
      rw [<- hcomm]
      have e1 : allocAt base x (allocHp base y H bky) = allocAt base x H := by unfold allocAt; simp only [hj]
      have e2 : allocAt base y (allocHp base x H bkx) = allocAt base y H := by unfold allocAt; simp only [hk]
      have e3 : allocHp base y (allocHp base x H bkx) bky = allocHp base x (allocHp base y H bky) bkx := by
        unfold allocHp
        simp only [hk, hj]
        unfold Hp.add
        rw [T.set_comm _ _ _ (show base + j ≠ base + k by omega)]
      rw [e2, e3]
      rw [e1] at h
      exact h
    · rw [hopy, hopx] at hkd; simp [SOp.kd] at hkd
    · rw [hopy, hkx] at hkd; simp [SOp.kd] at hkd
  · -- y writes
    rcases wOps_inv h with ⟨vx, hpx, h⟩|⟨hwx, opx, vx, hopx, hvx, h⟩|⟨hwx, opx, bkx, gx, hopx, hvx, h⟩|⟨hwx, opx, vx, Hx, hopx, hvx, hwax, h⟩|⟨hwx, hkx, fx, argsx, hcx, h⟩
    · rw [Plain.blind bx] at hpx
      exact wOps_plain hpx (wOps_eff (by rw [by_.wanted]; exact hwy) hopy (by rw [by_.eff _ _ _ _ hopy]; exact hvy) hway (by rw [<- hcomm]; exact h))
    · rw [hopy, hopx] at hkd; simp [SOp.kd] at hkd
    · rw [hopy, hopx] at hkd; simp [SOp.kd] at hkd
    · rw [hopy, hopx] at hkd; simp [SOp.kd] at hkd
    · rw [hopy, hkx] at hkd; simp [SOp.kd] at hkd
  · -- y calls
    cases hwx : wantedA x.guard F with
    | false =>
      refine wOps_plain (.inl ⟨hwx, rfl⟩) (wOps_call (by rw [by_.wanted]; exact hwy) (by rw [callOf_blind by_]; exact hcy) (h.mono fun v H' hh => ⟨hh.1, ?_⟩))
      rw [<- hcomm]
      have h2 := hh.2
      rw [wOps, bx.wanted, hwx] at h2
      simpa using h2
    | true =>
      cases hopx : x.op with
      | p op =>
        obtain ⟨vx, hv⟩ := (hval hwx).1 op hopx
        refine wOps_plain (v := vx) (.inr ⟨hwx, op, hopx, hv⟩) (wOps_call (by rw [by_.wanted]; exact hwy) (by rw [callOf_blind by_]; exact hcy) (h.mono fun v H' hh => ⟨hh.1, ?_⟩))
        rw [<- hcomm]
        have h2 := hh.2
        rw [wOps, bx.wanted, hwx] at h2
        simp only [if_true, hopx, bx.pure _ _ _ hopx, hv] at h2
        exact h2
      | a op =>
        obtain ⟨⟨bk, g⟩, hv⟩ := (hval hwx).2 op hopx
        rw [hky, hopx] at hkd
        simp only [SOp.kd] at hkd
        obtain ⟨k, hk⟩ := Option.isSome_iff_exists.1 hkd
        obtain ⟨hlt, hnone⟩ := hfr k (.inl hk)
        refine wOps_alloc hwx hopx hv (wOps_call (by rw [by_.wanted]; exact hwy) (by rw [callOf_blind by_]; exact hcy) ?_)
        have e1 : allocHp base x H bk = H.add (base + k) bk := by unfold allocHp; simp only [hk]
        have e2 : allocAt base x H = base + k := by unfold allocAt; simp only [hk]
        rw [e1, e2]
        refine (h.keeps.frame hlt hnone (alloc_mut hv)).mono ?_
        rintro v H'' ⟨H', ⟨⟨hw1, hw2⟩, hnx, hfree⟩, rfl⟩
        refine ⟨?_, ?_⟩
        · -- what is watched is still there
          have := hw1
          cases hws : y.watch with
          | nil => trivial
          | cons a l =>
            rw [hws] at this
            exact fun j hj p hp => hst j p hp _ _ _ (hfree _ hlt hnone) (this j hj p hp)
        · rw [<- hcomm]
          rw [wOps, bx.wanted, hwx] at hw2
          simp only [if_true, hopx, bx.alloc _ _ _ hopx, hv, hk] at hw2
          exact hw2
      | l op => rw [hky, hopx] at hkd; simp [SOp.kd] at hkd
      | e op => rw [hky, hopx] at hkd; simp [SOp.kd] at hkd
      | cf f args => rw [hky, hopx] at hkd; simp [SOp.kd] at hkd
      | cv f args => rw [hky, hopx] at hkd; simp [SOp.kd] at hkd
      | nx x => rw [hky, hopx] at hkd; simp [SOp.kd] at hkd
      | no => rw [hky, hopx] at hkd; simp [SOp.kd] at hkd
theorem pull {x : SOper} {post : List SOper} : ∀ {pre : List SOper} {ctx : Ctx} {F : T V} {H : Hp}, (∀ y ∈ pre, swapOk y x = true) -> CtxSt ctx -> HasVal x F ->
    (∀ k ∈ (pre ++ [x]).filterMap (·.aid), base + k < H.nx /\ H.get (base + k) = none) -> ((pre ++ [x]).filterMap (·.aid)).Nodup ->
    wOps P G base Q (pre ++ x :: post) ctx F H -> wOps P G base Q (x :: (pre ++ post)) ctx F H
  | [], _, _, _, _, _, _, _, _, h => h
  | y :: pre, ctx, F, H, hok, hst, hval, hfr, hnd, h => by
    have hy := hok y (by simp)
    have hb : Blind x y.dst := by
      have := hy
      unfold swapOk at this
      rw [Bool.and_eq_true] at this
      obtain ⟨t1, _⟩ := tmOk_spec this.1
      exact Blind.mk' fun k hk => ⟨(t1 k hk).1, (t1 k hk).2.1⟩
    have hfm : ∀ k, y.aid = some k -> k ∉ (pre ++ [x]).filterMap (·.aid) := fun k hk => by
      simp only [List.cons_append, List.filterMap_cons, hk, List.nodup_cons] at hnd
      exact hnd.1
    have hnd' : ((pre ++ [x]).filterMap (·.aid)).Nodup := by
      simp only [List.cons_append, List.filterMap_cons] at hnd
      cases hy' : y.aid with
      | none => rw [hy'] at hnd; exact hnd
      | some k => rw [hy'] at hnd; exact (List.nodup_cons.1 hnd).2
    have hfr' : Free base ((pre ++ [x]).filterMap (·.aid)) H := fun k hk => hfr k (by
      simp only [List.cons_append, List.filterMap_cons]
      cases y.aid with
      | none => exact hk
      | some j => exact List.mem_cons_of_mem _ hk)
    have h1 : wOps P G base Q (y :: x :: (pre ++ post)) ctx F H := step_mono hst hfr' hfm (fun ctx' v H' hst' hf' hh => pull (fun z hz => hok z (by simp [hz])) hst' ((HasVal.blind hb).2 hval) hf' hnd' hh) h
    refine swap hy hst hval (fun k hk => ?_) h1
    rcases hk with hk|hk
    · exact hfr' k (by simp [hk])
    · exact hfr k (by simp [hk])
end
end Go.Ab

namespace Go.Ab
section
variable {P : Program} {G n base : Nat} {Q : T V -> Hp -> Prop}
theorem wpOp_const {ρ : Option Nat} {nn : Nat} {ops : Array Oper} {i : Nat} {a : Act} {w : World} {T : Prop} (h : wpOpIn (fen ρ) nn P ops (fun _ _ _ => False) i (fun _ _ => T) a w) : T := by
  unfold wpOpIn at h
  split at h
  · exact h
  · rename_i o ho
    split at h
    · unfold Oper.wpIn at h
      replace h := h.2
      generalize (o.semAt (fen ρ).round a.eval).run P w = r at h
      cases r with
      | ok nx w' =>
        cases nx <;> simp only [Oper.uponIn] at h <;> first
          | exact h
          | (obtain ⟨_, h⟩ := h
             obtain ⟨e, w'', fr, hR, _⟩ := h.2 [] fen_room
             cases e with
             | returned v => exact hR
             | panicked c => exact hR.elim
             | outgrown => obtain ⟨_, _, hh⟩ := hR; exact hh.elim)
          | (obtain ⟨_, h⟩ := h
             obtain ⟨e, w'', hR, _⟩ := h.2 default [] fen_room
             cases e with
             | returned v => exact hR
             | panicked c => exact hR.elim
             | outgrown => obtain ⟨_, _, hh⟩ := hR; exact hh.elim)
          | (obtain ⟨v, w'', hR, _⟩ := h.2 default [] fen_room; exact hR)
          | exact h.elim
      | halt hh w' => cases hh <;> simp only [Oper.uponIn] at h <;> first|exact h.elim|exact h
    · exact h.2
theorem hasVal_head {x : SOper} {post : List SOper} {ctx : Ctx} {F : T V} {H : Hp} (h : wOps P G base Q (x :: post) ctx F H) : HasVal x F := by
  intro hw
  rw [wOps, hw] at h
  simp only [if_true] at h
  refine ⟨fun op hop => ?_, fun op hop => ?_⟩
  · rw [hop] at h
    simp only at h
    cases hv : aPure F op with
    | none => simp [hv] at h
    | some v => exact ⟨v, rfl⟩
  · rw [hop] at h
    simp only at h
    cases hv : aAlloc F op with
    | none => simp [hv] at h
    | some v => exact ⟨v, rfl⟩
theorem reach {ops : Array Oper} {x : SOper} {post : List SOper} {μ0 : Nat -> Pl} {K0 : Nat -> Prop} {H0 : Hp} {w0 : World} (hlt0 : ∀ b bk, H0.get b = some bk -> b < H0.nx) :
    ∀ {pre : List SOper} {idx : List Nat} {ctx : Ctx} {F : T V} {H : Hp} {μ : Nat -> Pl} {K : Nat -> Prop} {a : Act} {w : World}, Aligned P G n ops idx pre -> (∀ y ∈ pre, Blind x y.dst) -> Rel G μ K H w -> FRel μ K n F a.tmps -> Fr μ0 K0 H0 w0 μ K H w ->
      (∀ y ∈ pre, ∀ k, y.aid = some k -> ¬ K (base + k) /\ base + k < H.nx /\ H0.nx <= base + k) -> (pre.filterMap (·.aid)).Nodup ->
      wOps P G base Q (pre ++ x :: post) ctx F H -> HasVal x F
  | [], [], ctx, F, H, μ, K, a, w, _, _, _, _, _, _, _, h => hasVal_head h
  | y :: pre, i :: idx, ctx, F, H, μ, K, a, w, hal, hbl, hR, hF, hFr, hrs, hnd, h => by
    obtain ⟨⟨o, ho, hfit⟩, hal'⟩ := hal
    have key : wpOpIn (fen none) 0 P ops (fun _ _ _ => False) i (fun _ _ => HasVal x F) a w := by
      refine op_ok hlt0 ho hfit hR hF hFr (hrs y (by simp)) h fun μ' K' F' H' a' w' ctx' h1 h2 h3 _ h5 h6 h7 _ h8 => ?_
      obtain ⟨v, rfl⟩ := h7
      have hnd' : (pre.filterMap (·.aid)).Nodup /\ ∀ k, y.aid = some k -> k ∉ pre.filterMap (·.aid) := by
        simp only [List.filterMap_cons] at hnd
        cases hy : y.aid with
        | none => rw [hy] at hnd; exact ⟨hnd, by simp⟩
        | some k => rw [hy] at hnd; exact ⟨(List.nodup_cons.1 hnd).2, fun j hj => by obtain rfl := Option.some.inj hj; exact (List.nodup_cons.1 hnd).1⟩
      have := reach hlt0 hal' (fun z hz => hbl z (by simp [hz])) h1 h2 h3 (fun z hz k hk => by
        obtain ⟨g1, g2, g3⟩ := hrs z (by simp [hz]) k hk
        refine ⟨fun hk' => ?_, by omega, g3⟩
        rcases h6 _ g2 hk' with h|⟨j, hj, he⟩
        · exact g1 h
        · exact hnd'.2 j hj (by
            have : j = k := by omega
            rw [this]
            exact List.mem_filterMap.2 ⟨z, hz, hk⟩)) hnd'.1 h8
      exact (HasVal.blind (hbl y (by simp))).1 this
    exact wpOp_const key
  | [], _ :: _, _, _, _, _, _, _, _, h, _, _, _, _, _, _, _ => h.elim
  | _ :: _, [], _, _, _, _, _, _, _, h, _, _, _, _, _, _, _ => h.elim
def PairsOk (D : Nat -> List Nat) : List Nat -> List SOper -> Prop
  | i :: idx, s :: l => (∀ j t, (j, t) ∈ idx.zip l -> i ∈ D j \/ swapOk s t = true) /\ PairsOk D idx l
  | _, _ => True
theorem Aligned.len {ops : Array Oper} : ∀ {idx : List Nat} {l : List SOper}, Aligned P G n ops idx l -> idx.length = l.length
  | [], [], _ => rfl
  | _ :: _, _ :: _, h => by simp [Aligned.len h.2]
  | [], _ :: _, h => h.elim
  | _ :: _, [], h => h.elim
theorem Aligned.split {ops : Array Oper} {D : Nat -> List Nat} : ∀ {idx : List Nat} {l : List SOper} {i : Nat}, Aligned P G n ops idx l -> PairsOk D idx l -> i ∈ idx ->
    ∃ pi qi pre x post, idx = pi ++ i :: qi /\ l = pre ++ x :: post /\ Aligned P G n ops pi pre /\ (∃ o, ops[i]? = some o /\ Fits P G n ops o x) /\ Aligned P G n ops (pi ++ qi) (pre ++ post) /\ PairsOk D (pi ++ qi) (pre ++ post) /\
      (∀ y ∈ pre, ∃ j ∈ pi, j ∈ D i \/ swapOk y x = true)
  | j :: idx, s :: l, i, hal, hp, hi => by
    by_cases e : i = j
    · subst e
      exact ⟨[], idx, [], s, l, rfl, rfl, trivial, hal.1, hal.2, hp.2, by simp⟩
    · have hi' : i ∈ idx := by
        rcases List.mem_cons.1 hi with h|h
        · exact absurd h e
        · exact h
      obtain ⟨pi, qi, pre, x, post, h1, h2, h3, h4, h5, h6, h7⟩ := Aligned.split hal.2 hp.2 hi'
      have hl1 : pi.length = pre.length := h3.len
      refine ⟨j :: pi, qi, s :: pre, x, post, by rw [h1]; rfl, by rw [h2]; rfl, ⟨hal.1, h3⟩, h4, ⟨hal.1, h5⟩, ⟨fun j' t hjt => hp.1 j' t ?_, h6⟩, fun y hy => ?_⟩
      · rw [h1, h2, List.zip_append hl1]
        have hjt' : (j', t) ∈ (pi ++ qi).zip (pre ++ post) := hjt
        rw [List.zip_append hl1] at hjt'
        rcases List.mem_append.1 hjt' with h|h
        · exact List.mem_append.2 (.inl h)
        · exact List.mem_append.2 (.inr (by simp [h]))
      · rcases List.mem_cons.1 hy with rfl|hy
        · refine ⟨j, by simp, hp.1 i x ?_⟩
          rw [h1, h2, List.zip_append hl1]
          exact List.mem_append.2 (.inr (by simp))
        · obtain ⟨j', hj', hh⟩ := h7 y hy
          exact ⟨j', by simp [hj'], hh⟩
  | [], _, _, _, _, hi => by cases hi
  | _ :: _, [], _, hal, _, _ => hal.elim
theorem any_ok {ρ : Option Nat} {nn : Nat} {DD : List Deferred} {ops : Array Oper} {D : Nat -> List Nat} {μ0 : Nat -> Pl} {K0 : Nat -> Prop} {H0 : Hp} {w0 : World} (hlt0 : ∀ b bk, H0.get b = some bk -> b < H0.nx) {Q' : Exit -> Act -> World -> Prop}
    (hQ : ∀ μ K F H a w, Q F H -> Rel G μ K H w -> FRel μ K n F a.tmps -> Fr μ0 K0 H0 w0 μ K H w -> a.defers = DD -> Q' .normal a w)
    (hD : ∀ i o, ops[i]? = some o -> ∀ j ∈ D i, ∃ e ∈ o.after.toList, Region.binds .any e = true /\ (e.on = j \/ j ∈ D e.on))
    (hlow : ∀ i o, ops[i]? = some o -> ∀ e ∈ o.after.toList, Region.binds .any e = true -> e.on < i) :
    ∀ {fuel : Nat} {listed : Array Bool} {idx : List Nat} {l : List SOper} {ctx : Ctx} {F : T V} {H : Hp} {μ : Nat -> Pl} {K : Nat -> Prop} {a : Act} {w : World},
      listed.size = ops.size -> (∀ i, i < ops.size -> (listed.getD i true = false ↔ i ∈ idx)) -> (∀ i ∈ idx, i < ops.size) -> idx.Nodup -> idx.length <= fuel ->
      (∀ i, i < ops.size -> i ∉ idx -> ∀ j ∈ D i, j ∉ idx) -> Aligned P G n ops idx l -> PairsOk D idx l -> (l.filterMap (·.aid)).Nodup -> CtxSt ctx ->
      (∀ s ∈ l, ∀ k, s.aid = some k -> ¬ K (base + k) /\ base + k < H.nx /\ H0.nx <= base + k) ->
      Rel G μ K H w -> FRel μ K n F a.tmps -> Fr μ0 K0 H0 w0 μ K H w -> a.defers = DD -> wOps P G base Q l ctx F H -> wpAnyIn (fen ρ) nn P .any ops Q' fuel listed a w := by
  intro fuel
  induction fuel with
  | zero =>
    intro listed idx l ctx F H μ K a w hsz hlist hin hnd hlen hdc hal hp haid hst hrs hR hF hFr hd h
    have hidx : idx = [] := List.eq_nil_of_length_eq_zero (by omega)
    subst hidx
    cases l with
    | cons s l => exact hal.elim
    | nil =>
      refine ⟨?_, hQ μ K F H a w h hR hF hFr hd⟩
      unfold Region.ready
      rw [List.filter_eq_nil_iff]
      intro i hi
      have hi' : i < ops.size := by simpa using hi
      have := (hlist i hi').1
      cases hl : listed.getD i true with
      | true => simp
      | false => exact absurd (this hl) (by simp)
  | succ fuel ih =>
    intro listed idx l ctx F H μ K a w hsz hlist hin hnd hlen hdc hal hp haid hst hrs hR hF hFr hd h
    refine ⟨fun hready => ?_, fun i hi => ?_⟩
    · -- nothing is ready: then nothing is left
      have hidx : idx = [] := by
        cases hid : idx with
        | nil => rfl
        | cons i0 rest =>
          exfalso
          obtain ⟨m, hm, hmin⟩ : ∃ m ∈ idx, ∀ j ∈ idx, m <= j := by
            have : ∀ (l : List Nat), l ≠ [] -> ∃ m ∈ l, ∀ j ∈ l, m <= j := by
              intro l
              induction l with
              | nil => intro h; exact absurd rfl h
              | cons x l ihl =>
                intro _
                by_cases hl : l = []
                · subst hl; exact ⟨x, by simp, by simp⟩
                · obtain ⟨m, hm, hmin⟩ := ihl hl
                  by_cases hx : x <= m
                  · exact ⟨x, by simp, fun j hj => by
                      rcases List.mem_cons.1 hj with rfl|hj
                      · exact Nat.le_refl _
                      · exact Nat.le_trans hx (hmin j hj)⟩
                  · exact ⟨m, by simp [hm], fun j hj => by
                      rcases List.mem_cons.1 hj with rfl|hj
                      · omega
                      · exact hmin j hj⟩
            exact this idx (by rw [hid]; simp)
          have hms := hin m hm
          have hmr : m ∈ Region.ready .any ops listed := by
            unfold Region.ready
            rw [List.mem_filter]
            refine ⟨by simpa using hms, ?_⟩
            rw [(hlist m hms).2 hm]
            have ho : ops[m]? = some ops[m] := Array.getElem?_eq_getElem hms
            rw [ho]
            simp only [Bool.not_false, Bool.true_and, Option.map_some, Option.getD_some]
            rw [Array.all_eq_true_iff_forall_mem]
            intro e he
            cases hb : Region.binds .any e with
            | false => rfl
            | true =>
              have hlt := hlow m _ ho e (by simpa using he) hb
              have hes : e.on < ops.size := by omega
              have hne : e.on ∉ idx := fun h => absurd (hmin _ h) (by omega)
              have hl : listed.getD e.on true ≠ false := fun h => hne ((hlist _ hes).1 h)
              have hsz' : e.on < listed.size := by rw [hsz]; exact hes
              simp [hsz'] at hl ⊢
              exact hl
          rw [hready] at hmr
          cases hmr
      subst hidx
      cases l with
      | cons s l => exact hal.elim
      | nil => exact hQ μ K F H a w h hR hF hFr hd
    · -- one that is ready is drawn to the front
      unfold Region.ready at hi
      rw [List.mem_filter] at hi
      obtain ⟨hi1, hi2⟩ := hi
      have his : i < ops.size := by simpa using hi1
      rw [Bool.and_eq_true] at hi2
      have hun : listed.getD i true = false := by simpa using hi2.1
      have hii : i ∈ idx := (hlist i his).1 hun
      obtain ⟨pi, qi, pre, x, post, e1, e2, g1, ⟨o, ho, hfit⟩, g3, g4, g5⟩ := Aligned.split hal hp hii
      have hdeps : ∀ e ∈ o.after.toList, Region.binds .any e = true -> e.on ∉ idx := by
        intro e he hb
        have h2 := hi2.2
        rw [ho] at h2
        simp only [Option.map_some, Option.getD_some] at h2
        rw [Array.all_eq_true_iff_forall_mem] at h2
        have h3 := h2 e (by simpa using he)
        rw [hb] at h3
        simp only [Bool.not_true, Bool.false_or] at h3
        have hes : e.on < ops.size := by have := hlow i o ho e he hb; omega
        intro hmem
        have h4 := (hlist _ hes).2 hmem
        have hsz' : e.on < listed.size := by rw [hsz]; exact hes
        simp [hsz'] at h3 h4
        rw [h3] at h4
        cases h4
      have hDi : ∀ j ∈ D i, j ∉ idx := by
        intro j hj
        obtain ⟨e, he, hb, hej⟩ := hD i o ho j hj
        have hen := hdeps e he hb
        rcases hej with rfl|hej
        · exact hen
        · exact hdc e.on (by have := hlow i o ho e he hb; omega) hen j hej
      have hsw : ∀ y ∈ pre, swapOk y x = true := by
        intro y hy
        obtain ⟨j, hj, hh⟩ := g5 y hy
        rcases hh with hh|hh
        · exact absurd (by rw [e1]; simp [hj]) (hDi j hh)
        · exact hh
      have hbl : ∀ y ∈ pre, Blind x y.dst := fun y hy => by
        have := hsw y hy
        unfold swapOk at this
        rw [Bool.and_eq_true] at this
        obtain ⟨t1, _⟩ := tmOk_spec this.1
        exact Blind.mk' fun k hk => ⟨(t1 k hk).1, (t1 k hk).2.1⟩
      rw [e2] at h haid hrs
      have hfm : (pre ++ x :: post).filterMap (·.aid) = (pre ++ [x]).filterMap (·.aid) ++ post.filterMap (·.aid) := by
        rw [show pre ++ x :: post = (pre ++ [x]) ++ post by simp, List.filterMap_append]
      have hnd1 : ((pre ++ [x]).filterMap (·.aid)).Nodup := by rw [hfm] at haid; exact (List.nodup_append.1 haid).1
      have hval : HasVal x F := reach hlt0 g1 hbl hR hF hFr (fun y hy k hk => hrs y (by simp [hy]) k hk) (by
        rw [List.filterMap_append] at hnd1; exact (List.nodup_append.1 hnd1).1) h
      have hfree : ∀ k ∈ (pre ++ [x]).filterMap (·.aid), base + k < H.nx /\ H.get (base + k) = none := by
        intro k hk
        obtain ⟨s, hs, hk'⟩ := List.mem_filterMap.1 hk
        have hs' : s ∈ pre ++ x :: post := by
          rcases List.mem_append.1 hs with h|h
          · simp [h]
          · simp at h; subst h; simp
        obtain ⟨r1, r2, r3⟩ := hrs s hs' k hk'
        refine ⟨r2, ?_⟩
        cases hg : H.get (base + k) with
        | none => rfl
        | some bk => exact absurd (hR.dom _ _ hg) r1
      have h' := pull hsw hst hval hfree hnd1 h
      refine op_ok hlt0 ho hfit hR hF hFr (hrs x (by simp)) h' fun μ' K' F' H' a' w' ctx' k1 k2 k3 k4 k5 k6 _ k8 k9 => ?_
      have hidxlen : (pi ++ qi).length + 1 = idx.length := by rw [e1]; simp; omega
      have hndi : (pi ++ qi).Nodup /\ i ∉ pi ++ qi := by
        rw [e1] at hnd
        have hperm : (pi ++ i :: qi).Perm (i :: (pi ++ qi)) := List.perm_middle
        have := (hperm.nodup_iff).1 hnd
        exact ⟨(List.nodup_cons.1 this).2, (List.nodup_cons.1 this).1⟩
      have hmem : ∀ j, j ∈ pi ++ qi ↔ j ∈ idx /\ j ≠ i := by
        intro j
        rw [e1]
        constructor
        · intro hj
          refine ⟨?_, fun e => hndi.2 (e ▸ hj)⟩
          rcases List.mem_append.1 hj with h|h
          · simp [h]
          · simp [h]
        · rintro ⟨hj, hne⟩
          rcases List.mem_append.1 hj with h|h
          · simp [h]
          · rcases List.mem_cons.1 h with h|h
            · exact absurd h hne
            · simp [h]
      have haid' : ((pre ++ post).filterMap (·.aid)).Nodup /\ ∀ k, x.aid = some k -> k ∉ (pre ++ post).filterMap (·.aid) := by
        have hperm : (pre ++ x :: post).Perm (x :: (pre ++ post)) := List.perm_middle
        have h1 := ((hperm.filterMap (·.aid)).nodup_iff).1 haid
        simp only [List.filterMap_cons] at h1
        cases hx : x.aid with
        | none => rw [hx] at h1; exact ⟨h1, by simp⟩
        | some k => rw [hx] at h1; exact ⟨(List.nodup_cons.1 h1).2, fun j hj => by obtain rfl := Option.some.inj hj; exact (List.nodup_cons.1 h1).1⟩
      refine ih (by simpa using hsz) (fun j hj => ?_) (fun j hj => hin j ((hmem j).1 hj).1) hndi.1 (by omega) (fun j hj hjn k hk => ?_) g3 g4 haid'.1 (k8 hst) (fun s hs k hk => ?_) k1 k2 k3 (k4.trans hd) k9
      · rw [hmem]
        by_cases e : j = i
        · subst e
          have : (listed.setIfInBounds j true).getD j true = true := by
            have : j < listed.size := by rw [hsz]; exact his
            simp [this]
          rw [this]
          simp
        · have : (listed.setIfInBounds i true).getD j true = listed.getD j true := by
            simp only [Array.getD_eq_getD_getElem?]
            rw [Array.getElem?_setIfInBounds_ne (fun h => e h.symm)]
          rw [this, hlist j hj]
          simp [e]
      · -- still closed downwards
        rw [hmem] at hjn
        intro hkm
        have hkm' := ((hmem k).1 hkm).1
        by_cases e : j = i
        · subst e; exact hDi k hk hkm'
        · have hji : j ∉ idx := fun h => hjn ⟨h, e⟩
          exact hdc j hj hji k hk hkm'
      · have hs' : s ∈ pre ++ x :: post := by
          rcases List.mem_append.1 hs with h|h
          · simp [h]
          · simp [h]
        obtain ⟨r1, r2, r3⟩ := hrs s hs' k hk
        refine ⟨fun hk' => ?_, by omega, r3⟩
        rcases k6 _ r2 hk' with h|⟨j, hj, he⟩
        · exact r1 h
        · exact haid'.2 j hj (by
            have : j = k := by omega
            rw [this]
            exact List.mem_filterMap.2 ⟨s, hs, hk⟩)
end
end Go.Ab

namespace Go.Ab
section
variable {P : Program} {G n : Nat} {ρ : Option Nat} {μ : Nat -> Pl} {K : Nat -> Prop} {H H' : Hp} {w : World}
theorem Rel.junk (hR : Rel G μ K H w) (o : Obj) : Rel G μ K H { w with heap := w.heap.push o } /\ Fr μ K H w μ K H { w with heap := w.heap.push o } := by
  have hh : ∀ i, i < w.heap.size -> (w.heap.push o)[i]? = w.heap[i]? := fun i hi => by
    rw [Array.getElem?_push, if_neg (by omega)]
  let r := Fr.refl hR
  exact ⟨⟨hR.dom, hR.lt, fun b bk hb => by
    show RB μ K (μ b) bk (w.heap.push o)[(μ b).blk]?
    rw [hh _ (hR.blk_lt hb)]; exact hR.blk b bk hb, hR.inj, hR.glob⟩,
   ⟨⟨rfl, rfl, rfl, Nat.le_refl _⟩, by simp, fun i hi _ => hh i hi, r.img, r.newmut, r.mu, r.kk, r.knew, r.nx, r.none, r.stay, r.ro⟩⟩
def setPs (F : T V) : List Nat -> List V -> T V
  | t :: ps, v :: l => setPs (F.set t (some v)) ps l
  | _, _ => F
theorem setPs_ok : ∀ {ps : List Nat} {args : List V} {xs : List Value} {F : T V} {tmps : Array Value}, FRel μ K n F tmps -> All2 (RV μ K) args xs ->
    FRel μ K n (setPs F ps args) ((ps.zip xs).foldl (fun tmps p => tmps.setIfInBounds p.1 p.2) tmps)
  | [], _, _, _, _, hF, _ => hF
  | _ :: _, [], [], _, _, hF, _ => hF
  | t :: ps, v :: l, x :: xs, F, tmps, hF, ha => by
    refine setPs_ok (F := F.set t (some v)) (tmps := tmps.setIfInBounds t x) ⟨by simpa using hF.1, fun i hi => ?_⟩ ha.2
    rw [T.get_set]
    by_cases e : i = t
    · subst e
      have : (tmps.setIfInBounds i x).getD i Go.undef = x := by
        have : i < tmps.size := by rw [hF.1]; exact hi
        simp [Array.getD_eq_getD_getElem?, this]
      rw [this]
      simpa using ha.1
    · have : (tmps.setIfInBounds t x).getD i Go.undef = tmps.getD i Go.undef := by
        simp only [Array.getD_eq_getD_getElem?]
        rw [Array.getElem?_setIfInBounds_ne (fun h => e h.symm)]
      rw [this, if_neg e]
      exact hF.2 i hi
  | _ :: _, [], _ :: _, _, _, _, ha => ha.elim
  | _ :: _, _ :: _, [], _, _, _, ha => ha.elim
def roundQ (b : Nat) (R : V -> Hp -> Prop) : Exit -> T V -> Hp -> Prop
  | .normal, _, H => ∃ st j f n F ps sg bd, H.get b = some (.lp st j f n F ps sg bd) /\ R (.bool true) (H.add b (.lp .ready none f n F ps sg bd))
  | .ret, _, H => ∃ st j f n F ps sg bd, H.get b = some (.lp st j f n F ps sg bd) /\ R (.bool false) (H.add b (.lp .done (some .ret) f n F ps sg bd))
  | .exit id, _, H => ∃ st j f n F ps sg bd, H.get b = some (.lp st j f n F ps sg bd) /\ R (.bool false) (H.add b (.lp .done (some (.exit id)) f n F ps sg bd))
  | _, _, _ => False
theorem endRound_ok {b : Nat} {R : V -> Hp -> Prop} (hR : Rel G μ K H w) (jump : Option Code) (hQ : ∃ st j f n F ps sg bd, H.get b = some (.lp st j f n F ps sg bd) /\ R (.bool jump.isNone) (H.add b (.lp (if jump.isNone then .ready else .done) jump f n F ps sg bd))) :
    ∃ x w', (Instr.endRound (μ b).blk jump).run P w = .ok x w' /\ ∃ v H' , R v H' /\ RV μ K v x /\ Rel G μ K H' w' /\ Fr μ K H w μ K H' w' := by
  obtain ⟨st, j, f, n, F, ps, sg, bd, hb, hr⟩ := hQ
  obtain ⟨tmps, df, ho, hsz, hF⟩ := hR.blk b _ hb
  have hs := hR.setB (bk' := .lp (if jump.isNone then .ready else .done) jump f n F ps sg bd) (o := .loop ⟨if jump.isNone then .ready else .done, jump, f, tmps, ps, sg, bd, df⟩) hb rfl rfl ⟨tmps, df, rfl, hsz, hF⟩
  exact ⟨_, _, run_endRound jump ho, _, _, hr, rfl, hs.1, hs.2⟩
theorem ayield_ok {b : Nat} {args : List V} {j : Option Code} {f : FuncId} {n : Nat} {F : T V} {ps : Array Tmp} {sg bd : Code} {R : V -> Hp -> Prop} (hb : H.get b = some (.lp .ready j f n F ps sg bd)) (hlen : args.length = ps.size)
    (h : ∀ l, AWPr (some l) P G n sg (fun e F1 H1 => e = .normal /\ ∃ j1 f1 n1 F0 ps1 as1 bd1, H1.get b = some (.lp .ready j1 f1 n1 F0 ps1 as1 bd1) /\ AWPr (some l) P G n bd (roundQ b R) F1 (H1.add b (.lp .busy j1 f1 n1 F0 ps1 as1 bd1))) (setPs F ps.toList args) H) :
    AYield P G b args H R := by
  intro μ K w xs hR hK ha
  obtain ⟨tmps, df, ho, hsz, hF⟩ := hR.blk b _ hb
  refine ⟨_, _, _, _, run_yield ho (by simp [<- ha.len, hlen]), roundIn_of_wpIn trivial ?_⟩
  have hF1 : FRel μ K n (setPs F ps.toList args) ((ps.zip xs.toArray).foldl (fun tmps (t, a) => tmps.setIfInBounds t a) tmps) := by
    have := setPs_ok (ps := ps.toList) (F := F) (tmps := tmps) ⟨hsz, hF⟩ ha
    have e : (ps.zip xs.toArray).foldl (fun tmps (t, a) => tmps.setIfInBounds t a) tmps = (ps.toList.zip xs).foldl (fun tmps p => tmps.setIfInBounds p.1 p.2) tmps := by
      rw [<- Array.foldl_toList]
      simp
    rw [e]; exact this
  refine wpIn_mono (h (μ b).blk w.heap.size μ K w ⟨_, []⟩ hR hF1 (Dok.nil w (Nat.le_refl _))) fun e a1 w1 he => ?_
  obtain ⟨hd1, F1, H1, μ1, K1, ⟨rfl, j1, f1, n1, F0, ps1, as1, bd1, hb1, hbody⟩, hR1, hFr1, hfr1⟩ := he
  obtain ⟨tmps1, df1, ho1, hsz1, hF01⟩ := hR1.blk b _ hb1
  rw [hfr1.mu b hK] at ho1
  have hs := hR1.setB (bk' := .lp .busy j1 f1 n1 F0 ps1 as1 bd1) (o := .loop ⟨.busy, j1, f1, tmps1, ps1, as1, bd1, df1⟩) hb1 rfl rfl ⟨tmps1, df1, rfl, hsz1, hF01⟩
  rw [hfr1.mu b hK] at hs
  refine ⟨_, run_beginRound ho1 rfl, ?_⟩
  refine wpIn_mono (hbody _ μ1 K1 _ a1 hs.1 hFr1 (hd1.fr hR1 hs.2)) fun e a2 w2 he => ?_
  obtain ⟨hd2, F2, H2, μ2, K2, hq, hR2, hFr2, hfr2⟩ := he
  have hfr := (hfr1.trans hR.lt' hs.2).trans hR.lt' hfr2
  have hmu : μ2 b = μ b := hfr.mu b hK
  have fin : ∀ (jump : Option Code), (∃ st j f n F ps sg bd, H2.get b = some (.lp st j f n F ps sg bd) /\ R (.bool jump.isNone) (H2.add b (.lp (if jump.isNone then .ready else .done) jump f n F ps sg bd))) ->
      ∃ v w', (Instr.endRound (μ b).blk jump).run P w2 = .ok v w' /\ ∃ x, Ending.returned v = .returned x /\ ∃ v H' μ' K', R v H' /\ RV μ' K' v x /\ Rel G μ' K' H' w' /\ Fr μ K H w μ' K' H' w' := by
    intro jump hj
    obtain ⟨x, w3, hr, v, H3, h1, h2, h3, h4⟩ := endRound_ok (P := P) (b := b) hR2 jump hj
    rw [hmu] at hr
    exact ⟨x, w3, hr, x, rfl, v, H3, μ2, K2, h1, h2, h3, hfr.trans hR.lt' h4⟩
  cases e with
  | normal => exact fin none hq
  | ret => exact fin (some .ret) hq
  | exit id => exact fin (some (.exit id)) hq
  | goto l => exact hq.elim
  | panic ch => exact hq.elim
  | outgrown => exact hq.elim
theorem awp_rf {g : Operand} {ps : Array Tmp} {sg bd : Code} {d : Opd} {f : FuncId} {caps : List (Nat × Nat)} {Q : Exit -> T V -> Hp -> Prop} {F : T V} (hg : cO G n g = some d) (hdv : d.ev F = .one (.fn f caps)) (hf : isFn P f = true)
    (h : ∀ fid, ACalls P G f (.one (.yld H.nx) :: caps.map ptrV) (H.push (.lp .ready none fid n F ps sg bd)) fun _ H' => ∃ st j f1 n1 F1 ps1 as1 bd1, H'.get H.nx = some (.lp st j f1 n1 F1 ps1 as1 bd1) /\ st ≠ .busy /\
      (match j with
       | none => Q .normal F (H'.add H.nx (.lp .exhausted none f1 n1 F1 ps1 as1 bd1))
       | some c => AWPr none P G n c Q F (H'.add H.nx (.lp .exhausted (some c) f1 n1 F1 ps1 as1 bd1)))) :
    AWPr none P G n (.rangeFunc g ps sg bd) Q F H := by
  intro s μ K w a hR hF hd
  refine wpIn_rangeFunc fun fid _ => ?_
  have hv := cO_ok hR hF hg
  rw [hdv] at hv
  obtain ⟨hkc, hv'⟩ : (∀ p ∈ caps, K p.1) /\ a.eval g = .func (.func f) #[] (caps.map fun p => Value.pointer (some ((μ p.1).addr p.2))).toArray := hv
  obtain ⟨hR1, hfr1⟩ := hR.junk (.deferred (some []))
  have hlp : RB μ K ⟨w.heap.size + 1, 0, 0⟩ (.lp .ready none fid n F ps sg bd) (some (.loop ⟨.ready, none, fid, a.tmps, ps, sg, bd, w.heap.size⟩)) := ⟨_, _, rfl, hF.1, hF.2⟩
  have hpush := hR1.push (d := w.drawn) (sz := 0) (Nat.le_refl _) rfl (by simpa using hlp)
  simp only [Array.size_push] at hpush
  obtain ⟨hR2, hfr2⟩ := hpush
  refine ⟨w.heap.size + 1, [{ target := .collected w.heap.size, args := #[] }], { w with heap := (w.heap.push (.deferred (some []))).push (.loop ⟨.ready, none, fid, a.tmps, ps, sg, bd, w.heap.size⟩) }, ⟨.fn (.func f) (caps.map fun p => Value.pointer (some ((μ p.1).addr p.2))).toArray, #[.func (.yield (w.heap.size + 1)) #[] #[]]⟩, { w with heap := (w.heap.push (.deferred (some []))).push (.loop ⟨.ready, none, fid, a.tmps, ps, sg, bd, w.heap.size⟩) }, f,
    (Value.func (.yield (w.heap.size + 1)) #[] #[] :: caps.map fun p => Value.pointer (some ((μ p.1).addr p.2))).toArray, { w with heap := (w.heap.push (.deferred (some []))).push (.loop ⟨.ready, none, fid, a.tmps, ps, sg, bd, w.heap.size⟩) }, run_enterLoop_outer _ _ _ _ _, ?_, (fun _ _ => trivial), ?_, (fun h => absurd h (by decide)), ?_⟩
  · have e1 : a.eval (.const (.func (.yield (w.heap.size + 1)) #[] #[])) = .func (.yield (w.heap.size + 1)) #[] #[] := rfl
    simp [resolve, rangeCall, hv', Deferred.ofValue, e1]
  · simp [invoke, isFn_run hf]
  · have hargs : All2 (RV (fun i => if i = H.nx then (⟨w.heap.size + 1, 0, 0⟩ : Pl) else μ i) fun i => K i \/ i = H.nx) (.one (.yld H.nx) :: caps.map ptrV) (Value.func (.yield (w.heap.size + 1)) #[] #[] :: caps.map fun p => Value.pointer (some ((μ p.1).addr p.2))) := by
      refine ⟨⟨.inr rfl, by simp⟩, ?_⟩
      refine All2.mk (by simp) fun j v x hv hx => ?_
      simp only [List.getElem?_map, Option.map_eq_some_iff] at hv hx
      obtain ⟨p, hp, rfl⟩ := hv
      obtain ⟨p', hp', rfl⟩ := hx
      rw [hp] at hp'
      obtain rfl := Option.some.inj hp'
      have hkp := hkc p (List.mem_of_getElem? hp)
      refine ⟨.inl hkp, ?_⟩
      have := hR.lt _ hkp
      show Value.pointer (some ((μ p.1).addr p.2)) = Value.pointer (some ((if p.1 = H.nx then _ else μ p.1).addr p.2))
      rw [if_neg (by omega)]
    refine callsIn_wide.2 ((h fid _ _ _ _ hR2 hargs).mono fun e w3 he => ?_)
    · obtain ⟨x, rfl, v, H3, μ3, K3, ⟨st, j, f1, n1, F1, ps1, as1, bd1, hb, hst, hj⟩, _, hR3, hfr3⟩ := he
      have hfr := (hfr1.trans hR.lt' hfr2).trans hR.lt' hfr3
      have hmu : μ3 H.nx = ⟨w.heap.size + 1, 0, 0⟩ := by
        rw [hfr3.mu H.nx (.inr rfl)]; simp
      obtain ⟨tmps, df, ho, hsz, hF1⟩ := hR3.blk H.nx _ hb
      have hs := hR3.setB (bk' := .lp .exhausted j f1 n1 F1 ps1 as1 bd1) (o := .loop ⟨.exhausted, j, f1, tmps, ps1, as1, bd1, df⟩) hb rfl rfl ⟨tmps, df, rfl, hsz, hF1⟩
      rw [hmu] at ho hs
      have hfr' := hfr.trans hR.lt' hs.2
      have hF3 : FRel μ3 K3 n F a.tmps := hF.mono hfr.kk hfr.mu
      refine ⟨j, _, run_endLoop ho hst, ?_⟩
      have hdef : Dok s ({ target := .collected w.heap.size, args := #[] } :: a.defers) (w3.putObj (w.heap.size + 1) (.loop ⟨.exhausted, j, f1, tmps, ps1, as1, bd1, df⟩)) := by
        refine ⟨Nat.le_trans hd.1 hfr'.size, List.nodup_cons.2 ⟨fun hm => ?_, hd.2.1⟩, fun d hdm => ?_⟩
        · obtain ⟨r, h1, _, h2⟩ := hd.2.2 _ hm
          simp only [Deferred.mk.injEq, Target.collected.injEq, and_true] at h1
          subst h1
          have := (Array.getElem?_eq_some_iff.1 h2).1
          omega
        rcases List.mem_cons.1 hdm with rfl|hdm
        · refine ⟨_, rfl, hd.1, ?_⟩
          have h0 : (w.heap.push (.deferred (some [])))[w.heap.size]? = some (.deferred (some [])) := by simp
          exact kept_def hR1 ((hfr2.trans hR1.lt' hfr3).trans hR1.lt' hs.2) h0
        · obtain ⟨r, h1, h3, h2⟩ := hd.2.2 d hdm
          exact ⟨r, h1, h3, kept_def hR hfr' h2⟩
      cases j with
      | none => exact ⟨hdef, F, _, μ3, K3, hj, hs.1, hF3, hfr'⟩
      | some c =>
        exact wpIn_mono (hj s μ3 K3 _ { a with defers := { target := .collected w.heap.size, args := #[] } :: a.defers } hs.1 hF3 hdef) fun e a' w' he => ends_trans hR.lt' hfr' he
theorem Rel.mark (hR : Rel G μ K H w) {r : Nat} {ds : Option (List Deferred)} (hr : w.heap[r]? = some (.deferred ds)) (o : Obj) : Rel G μ K H (w.putObj r o) :=
  ⟨hR.dom, hR.lt, fun b bk hb => by
    have hB := hR.blk b bk hb
    by_cases e : (μ b).blk = r
    · rw [e, hr] at hB
      cases bk with
      | row n z m rw => obtain ⟨_, _, _, h, _⟩ := hB; cases h
      | mp es => obtain ⟨_, _, h, _⟩ := hB; cases h
      | lp st j f n F ps sg bd => obtain ⟨_, _, h, _⟩ := hB; cases h
      | st => obtain ⟨_, _, h, _⟩ := hB; cases h
      | it => obtain ⟨_, _, h, _⟩ := hB; cases h
    · rw [World.putObj_heap_other e]; exact hB, hR.inj, hR.glob⟩
theorem Fr.mark {μ0 : Nat -> Pl} {K0 : Nat -> Prop} {H0 : Hp} {w0 : World} (h : Fr μ0 K0 H0 w0 μ K H w) {r : Nat} (hr : w0.heap.size <= r) (o : Obj) : Fr μ0 K0 H0 w0 μ K H (w.putObj r o) :=
  ⟨h.same, by simpa using h.size, fun i hi hne => by rw [World.putObj_heap_other (by omega)]; exact h.keep i hi hne, h.img, h.newmut, h.mu, h.kk, h.knew, h.nx, h.none, h.stay, h.ro⟩
theorem leave_ok {μ0 : Nat -> Pl} {K0 : Nat -> Prop} {H0 : Hp} {w0 : World} {fn : Func} {tmps : Array Value} {R : Ending -> World -> Prop} {nn : Nat} {F : Fence} : ∀ {D : List Deferred} {w : World}, Dok w0.heap.size D w -> Rel G μ K H w -> Fr μ0 K0 H0 w0 μ K H w ->
    (∀ w', Rel G μ K H w' -> Fr μ0 K0 H0 w0 μ K H w' -> ∃ v, (results fn tmps).run P w' = .ok v w' /\ R (.returned v) w') -> LeavesInM F nn P fn tmps R D .returning w
  | [], w, _, hR, hFr, h => h w hR hFr
  | d :: D, w, hd, hR, hFr, h => by
    obtain ⟨r, rfl, h1, h2⟩ := hd.2.2 d (by simp)
    refine ⟨by simp, .inl ⟨r, _, rfl, run_takeDeferred h2, ?_⟩⟩
    refine leave_ok ⟨by simpa using hd.1, (List.nodup_cons.1 hd.2.1).2, fun d' hd' => ?_⟩ (hR.mark h2 _) (hFr.mark h1 _) h
    obtain ⟨r', rfl, h3, h4⟩ := hd.2.2 d' (by simp [hd'])
    refine ⟨r', rfl, h3, ?_⟩
    rw [World.putObj_heap_other]
    · exact h4
    · rintro rfl
      exact (List.nodup_cons.1 hd.2.1).1 hd'
end
end Go.Ab

namespace Go.Ab
inductive SC where
 | skip
 | ops (l : List SOper) (res : Nat)
 | seq (a b : SC)
 | cond (d : Opd) (a b : SC)
 | block (id : Nat) (a : SC)
 | loop (a : SC)
 | exit (id : Nat)
 | ret
 /-- a range over a function: the function, a round's parameters, what it assigns, what it does -/
 | rf (d : Opd) (ps : List Nat) (a b : SC)
 | scope (a : SC)
 /-- not covered: no run comes here -/
 | no
structure Extra where
 aid : Nat -> Option Nat
 watch : Nat -> List Nat
 keep : Nat -> Bool
def cpOper (P : Program) (G n : Nat) (ops : Array Oper) (x : Extra) (i : Nat) : Option SOper :=
 match ops[i]? with
 | none => none
 | some o => match cpOp P G n o, cGuard n ops o.guard with
  | some op, some g => if cDst n o.dst then some ⟨i, o.dst, op, g, x.aid i, x.watch i, x.keep i⟩ else none
  | _, _ => none
def cpAll (P : Program) (G n : Nat) (ops : Array Oper) (x : Extra) : List Nat -> Option (List SOper)
 | [] => some []
 | i :: r => match cpOper P G n ops x i, cpAll P G n ops x r with
  | some s, some l => some (s :: l)
  | _, _ => none
def noExtra : Extra := ⟨fun _ => none, fun _ => [], fun _ => false⟩
def depsOf (ops : List Oper) : List (List Nat) :=
 ops.foldl (init := []) fun acc o => acc ++ [(o.after.toList.foldl (init := []) fun s e => if Region.binds .any e then (e.on :: acc.getD e.on []).foldl (fun s j => if s.contains j then s else j :: s) s else s)]
def Kd.light : Kd -> Bool
 | .p => true
 | .l => true
 | _ => false
def sched (D : List (List Nat)) (kds : List Kd) : Nat -> List Nat -> List Nat -> List Nat
 | 0, _, acc => acc.reverse
 | f + 1, rest, acc =>
  let ok := fun i => (D.getD i []).all fun j => acc.contains j
  match rest.find? fun i => (kds.getD i .e).light && ok i with
  | some i => sched D kds f (rest.filter (· != i)) (i :: acc)
  | none => match rest.find? fun i => !(kds.getD i .e).light with
   | some i => sched D kds f (rest.filter (· != i)) (i :: acc)
   | none => acc.reverse
def kdsOf (P : Program) (G n : Nat) (ops : List Oper) : List Kd := ops.map fun o => match cpOp P G n o with
 | some op => op.kd
 | none => .e
def Kd.isL : Kd -> Bool
 | .l => true
 | _ => false
def Kd.isA : Kd -> Bool
 | .a => true
 | _ => false
def Kd.isE : Kd -> Bool
 | .e => true
 | .c => true
 | _ => false
def watches (D : List (List Nat)) (kds : List Kd) : List Nat -> List Nat -> List (Nat × List Nat)
 | [], _ => []
 | i :: r, ls =>
  if (kds.getD i .e).isE then (i, ls.filter fun j => !(D.getD i []).contains j) :: watches D kds r ls
  else watches D kds r (if (kds.getD i .e).isL then i :: ls else ls)
def pairsB (D : List (List Nat)) : List Nat -> List SOper -> Bool
 | i :: idx, s :: l => ((idx.zip l).all fun p => (D.getD p.1 []).contains i || swapOk s p.2) && pairsB D idx l
 | _, _ => true
def nodupB : List Nat -> Bool
 | [] => true
 | i :: l => !l.contains i && nodupB l
def depB (D : List (List Nat)) (ops : Array Oper) (i : Nat) : Bool :=
 match ops[i]? with
 | none => true
 | some o => (D.getD i []).all (fun j => o.after.toList.any fun e => Region.binds .any e && (e.on == j || (D.getD e.on []).contains j)) && o.after.toList.all fun e => !Region.binds .any e || decide (e.on < i)
def drawB (D : List (List Nat)) (ops : Array Oper) (idx : List Nat) (l : List SOper) (res : Nat) : Bool :=
 pairsB D idx l && nodupB idx && idx.all (fun i => decide (i < ops.size)) && (List.range ops.size).all (fun i => idx.contains i) && (List.range ops.size).all (depB D ops) && nodupB (l.filterMap (·.aid)) && decide (idx.length <= ops.size) && (l.filterMap (·.aid)).all fun k => decide (k < res)
def sched2 (D : List (List Nat)) (kds : List Kd) : Nat -> List Nat -> List Nat -> List Nat
 | 0, _, acc => acc.reverse
 | f + 1, rest, acc =>
  let ok := fun i => (D.getD i []).all fun j => acc.contains j
  match rest.find? fun i => (kds.getD i .e).light && ok i with
  | some i => sched2 D kds f (rest.filter (· != i)) (i :: acc)
  | none => match rest.find? fun i => (kds.getD i .e).isE && ok i with
   | some i => sched2 D kds f (rest.filter (· != i)) (i :: acc)
   | none => match rest.find? fun i => !(kds.getD i .e).light with
    | some i => sched2 D kds f (rest.filter (· != i)) (i :: acc)
    | none => acc.reverse
def cpDrawBy (P : Program) (G n : Nat) (ops : Array Oper) (idx : List Nat) : Option (List SOper) :=
 let D := depsOf ops.toList
 let kds := kdsOf P G n ops.toList
 let ws := watches D kds idx []
 let x : Extra := ⟨fun i => if (kds.getD i .e).isA then some i else none, fun i => ((ws.find? fun p => p.1 == i).map (·.2)).getD [], fun i => ws.any fun p => p.2.contains i⟩
 match cpAll P G n ops x idx with
 | none => none
 | some l => if drawB D ops idx l ops.size then some l else none
def cpDraw (P : Program) (G n : Nat) (ops : Array Oper) : Option (List SOper) :=
 match cpDrawBy P G n ops (sched (depsOf ops.toList) (kdsOf P G n ops.toList) ops.size (List.range ops.size) []) with
 | some l => some l
 | none => cpDrawBy P G n ops (sched2 (depsOf ops.toList) (kdsOf P G n ops.toList) ops.size (List.range ops.size) [])
def cpCode (P : Program) (G n : Nat) : Code -> Option SC
 | .skip => some .skip
 | .region _ ops draw =>
  if draw then (cpDraw P G n ops).map fun l => .ops l ops.size
  else (cpAll P G n ops noExtra (List.range ops.size)).map fun l => .ops l 0
 | .seq a b => match cpCode P G n a, cpCode P G n b with
  | some a, some b => some (.seq a b)
  | _, _ => none
 | .cond c a b => match cO G n c, cpCode P G n a, cpCode P G n b with
  | some d, some a, some b => some (.cond d a b)
  | _, _, _ => none
 | .block id a => (cpCode P G n a).map (.block id)
 | .loop a => (cpCode P G n a).map .loop
 | .exit id => some (.exit id)
 | .ret => some .ret
 | .rangeFunc g ps sg bd => match cO G n g, cpCode P G n sg, cpCode P G n bd with
  | some d, some a, some b => some (.rf d ps.toList a b)
  | _, _, _ => none
 | .scope a => (cpCode P G n a).map .scope
 | .label _ => some .skip
 | _ => some .no
inductive SRes where
 | t (n : Nat)
 | cell (agg : Bool) (k : Nat) (n : Nat)
def aRes (F : T V) (H : Hp) : SRes -> Option V
 | .t n => some ((F.get n).getD V.undef)
 | .cell agg k n => aLoad F H (.load agg k (.t n))
def aResL (F : T V) (H : Hp) : List SRes -> Option (List V)
 | [] => some []
 | r :: l => match aRes F H r, aResL F H l with
  | some v, some vs => if isOne v then some (v :: vs) else none
  | _, _ => none
def aResult (F : T V) (H : Hp) (rs : List SRes) : Option V :=
 match aResL F H rs with
 | some [v] => some v
 | some vs => some (.tup vs)
 | none => none
def cpRes (P : Program) (n : Nat) : List ResultVar -> Option (List SRes)
 | [] => some []
 | .tmp t :: l => if t < n then (cpRes P n l).map (.t t :: ·) else none
 | .cell a t :: l => match isAggT P t, sizeT P t with
  | some g, some k => if a < n then (cpRes P n l).map (.cell g k a :: ·) else none
  | _, _ => none
structure SFn where
 n : Nat
 code : SC
 res : List SRes
def cpFn (P : Program) (G : Nat) (f : FuncId) : Option SFn :=
 match P.funcs[f]? with
 | none => none
 | some fn => match fn.body with
  | none => none
  | some c => match cpCode P G fn.ntmps c, cpRes P fn.ntmps fn.results.toList with
   | some s, some rs => some ⟨fn.ntmps, s, rs⟩
   | _, _ => none
def initF : List V -> Nat -> T V
 | [], _ => .lf
 | v :: l, i => (initF l (i + 1)).set i (some v)
def retQ (rs : List SRes) (R : V -> Hp -> Prop) : Exit -> T V -> Hp -> Prop
 | .normal, F, H => match aResult F H rs with
  | some v => R v H
  | none => False
 | .ret, F, H => match aResult F H rs with
  | some v => R v H
  | none => False
 | _, _, _ => False
def SWPr (ρ : Option Nat) (P : Program) (G n : Nat) (s : SC) (Q : Exit -> T V -> Hp -> Prop) (F : T V) (H : Hp) : Prop := ∀ c, cpCode P G n c = some s -> AWPr ρ P G n c Q F H
abbrev SWP := SWPr none
section
variable {P : Program} {G n : Nat} {ρ : Option Nat}
theorem cpOper_fits {ops : Array Oper} {x : Extra} {i : Nat} {s : SOper} (h : cpOper P G n ops x i = some s) : (∃ o, ops[i]? = some o /\ Fits P G n ops o s) /\ s.aid = x.aid i := by
 unfold cpOper at h
 split at h
 ·cases h
 ·rename_i o ho
  split at h
  ·rename_i op g h1 h2
   split at h
   ·rename_i h3
    obtain rfl := Option.some.inj h
    exact ⟨⟨o, ho, h1, rfl, h3, h2⟩, rfl⟩
   ·cases h
  ·cases h
theorem cpAll_aligned {ops : Array Oper} {x : Extra} : ∀ {idx : List Nat} {l : List SOper}, cpAll P G n ops x idx = some l -> Aligned P G n ops idx l /\ ∀ s ∈ l, ∃ i ∈ idx, s.aid = x.aid i
 | [], l, h => by simp [cpAll] at h; subst h; exact ⟨trivial, by simp⟩
 | i :: idx, l, h => by
  simp only [cpAll] at h
  split at h
  ·rename_i s r h1 h2
   obtain rfl := Option.some.inj h
   obtain ⟨g1, g2⟩ := cpOper_fits h1
   obtain ⟨g3, g4⟩ := cpAll_aligned h2
   refine ⟨⟨g1, g3⟩, fun t ht => ?_⟩
   rcases List.mem_cons.1 ht with rfl|ht
   ·exact ⟨i, by simp, g2⟩
   ·obtain ⟨j, hj, e⟩ := g4 t ht; exact ⟨j, by simp [hj], e⟩
  ·cases h
theorem pairsB_ok {D : List (List Nat)} : ∀ {idx : List Nat} {l : List SOper}, pairsB D idx l = true -> PairsOk (fun i => D.getD i []) idx l
 | i :: idx, s :: l, h => by
  simp only [pairsB, Bool.and_eq_true, List.all_eq_true] at h
  refine ⟨fun j t hjt => ?_, pairsB_ok h.2⟩
  have := h.1 (j, t) hjt
  simp only [Bool.or_eq_true] at this
  exact this.imp (by simp) id
 | [], _, _ => trivial
 | _ :: _, [], _ => trivial
theorem nodupB_ok : ∀ {l : List Nat}, nodupB l = true -> l.Nodup
 | [], _ => List.nodup_nil
 | i :: l, h => by
  simp only [nodupB, Bool.and_eq_true] at h
  exact List.nodup_cons.2 ⟨by simpa using h.1, nodupB_ok h.2⟩
theorem awp_draw (hm : P.follows .mixedOrders = true) {id res : Nat} {ops : Array Oper} {D : List (List Nat)} {idx : List Nat} {l : List SOper} (hal : Aligned P G n ops idx l) (hB : drawB D ops idx l res = true)
  {Q : Exit -> T V -> Hp -> Prop} {F : T V} {H : Hp} (h : wOps P G H.nx (Q .normal) l [] F (H.skip res)) : AWPr ρ P G n (.region id ops true) Q F H := by
 intro s μ K w a hR hF hd
 unfold drawB at hB
 simp only [Bool.and_eq_true, List.all_eq_true, decide_eq_true_eq, List.mem_range] at hB
 obtain ⟨⟨⟨⟨⟨⟨⟨h1, h2⟩, h3⟩, h4⟩, h5⟩, h6⟩, h8⟩, h7⟩ := hB
 have hdep : ∀ i o, ops[i]? = some o -> depB D ops i = true := fun i o ho => h5 i (Array.getElem?_eq_some_iff.1 ho).1
 refine wpIn_region_any hm ?_
 have hR' := (hR.drawn (w.drawn + 1)).skip res
 refine any_ok (D := fun i => D.getD i []) (base := H.nx) (Q := Q .normal) (μ0 := μ) (K0 := K) (H0 := H) (w0 := w) hR.lt' (fun μ' K' F' H' a' w' g1 g2 g3 g4 g5 => ⟨by rw [g5]; exact hd.fr hR g4, F', H', μ', K', g1, g2, g3, g4⟩) (fun i o ho j hj => ?_) (fun i o ho e he hb => ?_)
  (by simp) (fun i hi => ?_) (fun i hi => h3 i hi) (nodupB_ok h2) ?_ (fun i hi hni => ?_) hal (pairsB_ok h1) (nodupB_ok h6) (fun k p hp => by cases hp) (fun s hs k hk => ?_) hR' hF ((Fr.drawn hR _ (Nat.le_succ _)).trans hR.lt' (Fr.skip (hR.drawn _) res)) rfl h
 ·have := hdep i o ho
  unfold depB at this
  rw [ho] at this
  simp only [Bool.and_eq_true, List.all_eq_true, List.any_eq_true, Bool.or_eq_true] at this
  obtain ⟨e, he, hb, hh⟩ := this.1 j hj
  exact ⟨e, he, hb, hh.imp (by simp) (by simp)⟩
 ·have := hdep i o ho
  unfold depB at this
  rw [ho] at this
  simp only [Bool.and_eq_true, List.all_eq_true, Bool.or_eq_true, decide_eq_true_eq, Bool.not_eq_true'] at this
  rcases this.2 e he with h|h
  ·rw [hb] at h; cases h
  ·exact h
 ·constructor
  ·intro _
   have := h4 i hi
   simpa using this
  ·intro _; simp [hi]
 ·exact h8
 ·exact absurd (by have := h4 i hi; simpa using this) hni
 ·have hk' : k < res := h7 k (List.mem_filterMap.2 ⟨s, hs, hk⟩)
  refine ⟨fun hkk => absurd (hR.lt _ hkk) (by omega), by simp; omega, by omega⟩
theorem swp_skip {Q : Exit -> T V -> Hp -> Prop} {F : T V} {H : Hp} (h : Q .normal F H) : SWPr ρ P G n .skip Q F H := by
 intro c hc
 cases c <;> simp only [cpCode] at hc <;> try (cases hc; done)
 case skip => exact awp_skip h
 case label l => exact awp_label h
 case region id ops draw => split at hc <;> simp at hc
 case seq a b => split at hc <;> cases hc
 case rangeFunc g ps a b => split at hc <;> cases hc
 case cond d a b => split at hc <;> cases hc
 case block id a => simp at hc
 case loop a => simp at hc
 case scope a => simp at hc
theorem swp_ops (hm : P.follows .mixedOrders = true) {l : List SOper} {res : Nat} {Q : Exit -> T V -> Hp -> Prop} {F : T V} {H : Hp} (h : wOps P G H.nx (Q .normal) l [] F (H.skip res)) : SWPr ρ P G n (.ops l res) Q F H := by
 intro c hc
 cases c <;> simp only [cpCode] at hc <;> try (cases hc; done)
 case region id ops draw =>
  cases draw with
  | false =>
   simp only [Bool.false_eq_true, if_false, Option.map_eq_some_iff, SC.ops.injEq] at hc
   obtain ⟨l', hl, rfl, rfl⟩ := hc
   obtain ⟨h1, h2⟩ := cpAll_aligned hl
   exact awp_region h1 (fun s hs => by obtain ⟨i, _, e⟩ := h2 s hs; exact e) h
  | true =>
   simp only [if_true, Option.map_eq_some_iff, SC.ops.injEq] at hc
   obtain ⟨l', hl, rfl, rfl⟩ := hc
   have by_ : ∀ idx l'', cpDrawBy P G n ops idx = some l'' -> wOps P G H.nx (Q .normal) l'' [] F (H.skip ops.size) -> AWPr ρ P G n (.region id ops true) Q F H := by
    intro idx l'' hl h
    unfold cpDrawBy at hl
    simp only at hl
    split at hl
    ·cases hl
    ·rename_i l3 hall
     split at hl
     ·rename_i hB
      obtain rfl := Option.some.inj hl
      exact awp_draw hm (cpAll_aligned hall).1 hB h
     ·cases hl
   unfold cpDraw at hl
   split at hl
   ·rename_i l2 h2
    obtain rfl := Option.some.inj hl
    exact by_ _ _ h2 h
   ·exact by_ _ _ hl h
 case seq a b => split at hc <;> cases hc
 case rangeFunc g ps a b => split at hc <;> cases hc
 case cond d a b => split at hc <;> cases hc
 case block id a => simp at hc
 case loop a => simp at hc
 case scope a => simp at hc
theorem swp_seq {a b : SC} {Q : Exit -> T V -> Hp -> Prop} {F : T V} {H : Hp} (h : SWPr ρ P G n a (thenQ (SWPr ρ P G n b Q) Q) F H) : SWPr ρ P G n (.seq a b) Q F H := by
 intro c hc
 cases c <;> simp only [cpCode] at hc <;> try (cases hc; done)
 case seq x y =>
  split at hc
  ·rename_i x' y' hx hy
   simp only [Option.some.injEq, SC.seq.injEq] at hc
   obtain ⟨rfl, rfl⟩ := hc
   refine awp_seq (awp_mono (h x hx) fun e F' H' he => ?_)
   cases e with
   | normal => exact (show SWPr ρ P G n y' Q F' H' from he) y hy
   | _ => exact he
  ·cases hc
 case region id ops draw => split at hc <;> simp at hc
 case cond d a b => split at hc <;> cases hc
 case block id a => simp at hc
 case loop a => simp at hc
 case scope a => simp at hc
 case rangeFunc g ps a b => split at hc <;> cases hc
theorem swp_cond {d : Opd} {a b : SC} {Q : Exit -> T V -> Hp -> Prop} {F : T V} {H : Hp} {t : Bool} (ht : d.ev F = .one (.bool t)) (h : SWPr ρ P G n (if t then a else b) Q F H) : SWPr ρ P G n (.cond d a b) Q F H := by
 intro c hc
 cases c <;> simp only [cpCode] at hc <;> try (cases hc; done)
 case cond o x y =>
  split at hc
  ·rename_i d' x' y' h1 hx hy
   simp only [Option.some.injEq, SC.cond.injEq] at hc
   obtain ⟨rfl, rfl, rfl⟩ := hc
   refine awp_cond h1 ht ?_
   cases t
   ·exact h y hy
   ·exact h x hx
  ·cases hc
 case region id ops draw => split at hc <;> simp at hc
 case seq a b => split at hc <;> cases hc
 case rangeFunc g ps a b => split at hc <;> cases hc
 case block id a => simp at hc
 case loop a => simp at hc
 case scope a => simp at hc
theorem swp_block {id : Nat} {a : SC} {Q : Exit -> T V -> Hp -> Prop} {F : T V} {H : Hp} (h : SWPr ρ P G n a (blockQ id Q) F H) : SWPr ρ P G n (.block id a) Q F H := by
 intro c hc
 cases c <;> simp only [cpCode] at hc <;> try (cases hc; done)
 case block id' x =>
  simp only [Option.map_eq_some_iff, SC.block.injEq] at hc
  obtain ⟨x', hx, rfl, rfl⟩ := hc
  exact awp_block (h x hx)
 case region id ops draw => split at hc <;> simp at hc
 case seq a b => split at hc <;> cases hc
 case rangeFunc g ps a b => split at hc <;> cases hc
 case cond d a b => split at hc <;> cases hc
 case loop a => simp at hc
 case scope a => simp at hc
theorem swp_loop {a : SC} {Q : Exit -> T V -> Hp -> Prop} {F : T V} {H : Hp} (I : Nat -> T V -> Hp -> Prop) {m : Nat} (h0 : I m F H) (round : ∀ m F H, I m F H -> SWPr ρ P G n a (thenQ (fun F' H' => ∃ m', m' < m /\ I m' F' H') Q) F H) : SWPr ρ P G n (.loop a) Q F H := by
 intro c hc
 cases c <;> simp only [cpCode] at hc <;> try (cases hc; done)
 case loop x =>
  simp only [Option.map_eq_some_iff, SC.loop.injEq] at hc
  obtain ⟨x', hx, rfl⟩ := hc
  exact awp_loop I h0 fun m F H hI => round m F H hI x hx
 case region id ops draw => split at hc <;> simp at hc
 case seq a b => split at hc <;> cases hc
 case rangeFunc g ps a b => split at hc <;> cases hc
 case cond d a b => split at hc <;> cases hc
 case block id a => simp at hc
 case scope a => simp at hc
theorem swp_scope {a : SC} {Q : Exit -> T V -> Hp -> Prop} {F : T V} {H : Hp} (h : SWPr ρ P G n a (scopeQ Q) F H) : SWPr ρ P G n (.scope a) Q F H := by
 intro c hc
 cases c <;> simp only [cpCode] at hc <;> try (cases hc; done)
 case scope x =>
  simp only [Option.map_eq_some_iff, SC.scope.injEq] at hc
  obtain ⟨x', hx, rfl⟩ := hc
  exact awp_scope (h x hx)
 case rangeFunc g ps a b => split at hc <;> cases hc
 case region id ops draw => split at hc <;> simp at hc
 case seq a b => split at hc <;> cases hc
 case cond d a b => split at hc <;> cases hc
 case block id a => simp at hc
 case loop a => simp at hc
theorem swp_exit {id : Nat} {Q : Exit -> T V -> Hp -> Prop} {F : T V} {H : Hp} (h : Q (.exit id) F H) : SWPr ρ P G n (.exit id) Q F H := by
 intro c hc
 cases c <;> simp only [cpCode] at hc <;> try (cases hc; done)
 case exit id' => simp only [Option.some.injEq, SC.exit.injEq] at hc; subst hc; exact awp_exit h
 case region id ops draw => split at hc <;> simp at hc
 case seq a b => split at hc <;> cases hc
 case rangeFunc g ps a b => split at hc <;> cases hc
 case cond d a b => split at hc <;> cases hc
 case block id a => simp at hc
 case loop a => simp at hc
 case scope a => simp at hc
theorem swp_ret {Q : Exit -> T V -> Hp -> Prop} {F : T V} {H : Hp} (h : Q .ret F H) : SWPr ρ P G n .ret Q F H := by
 intro c hc
 cases c <;> simp only [cpCode] at hc <;> try (cases hc; done)
 case ret => exact awp_ret h
 case region id ops draw => split at hc <;> simp at hc
 case seq a b => split at hc <;> cases hc
 case rangeFunc g ps a b => split at hc <;> cases hc
 case cond d a b => split at hc <;> cases hc
 case block id a => simp at hc
 case loop a => simp at hc
 case scope a => simp at hc
def jumpQ (Q : Exit -> T V -> Hp -> Prop) : Option Code -> T V -> Hp -> Prop
 | none => Q .normal
 | some .ret => Q .ret
 | some (.exit id) => Q (.exit id)
 | _ => fun _ _ => False
theorem swp_rf {d : Opd} {ps : List Nat} {sa sb : SC} {f : FuncId} {caps : List (Nat × Nat)} {Q : Exit -> T V -> Hp -> Prop} {F : T V} {H : Hp} (hdv : d.ev F = .one (.fn f caps)) (hf : isFn P f = true)
  (h : ∀ fid sg bd, cpCode P G n sg = some sa -> cpCode P G n bd = some sb -> ACalls P G f (.one (.yld H.nx) :: caps.map ptrV) (H.push (.lp .ready none fid n F ps.toArray sg bd)) fun _ H' => ∃ st j f1 n1 F1 ps1 as1 bd1, H'.get H.nx = some (.lp st j f1 n1 F1 ps1 as1 bd1) /\ st ≠ .busy /\
   jumpQ Q j F (H'.add H.nx (.lp .exhausted j f1 n1 F1 ps1 as1 bd1))) : SWP P G n (.rf d ps sa sb) Q F H := by
 intro c hc
 cases c <;> simp only [cpCode] at hc <;> try (cases hc; done)
 case rangeFunc g ps' sg bd =>
  split at hc
  ·rename_i d' a' b' hg ha hb
   simp only [Option.some.injEq, SC.rf.injEq] at hc
   obtain ⟨rfl, rfl, rfl, rfl⟩ := hc
   refine awp_rf hg hdv hf fun fid => (h fid sg bd ha hb).mono fun _ H' hh => ?_
   obtain ⟨st, j, f1, n1, F1, ps1, as1, bd1, h1, h2, h3⟩ := hh
   refine ⟨st, j, f1, n1, F1, ps1, as1, bd1, by simpa using h1, h2, ?_⟩
   cases j with
   | none => exact h3
   | some c => cases c <;> first|exact h3.elim|exact awp_ret h3|exact awp_exit h3
  ·cases hc
 case region id ops draw => split at hc <;> simp at hc
 case seq a b => split at hc <;> cases hc
 case cond d a b => split at hc <;> cases hc
 case block id a => simp at hc
 case loop a => simp at hc
 case scope a => simp at hc
theorem syield_ok {b : Nat} {args : List V} {j : Option Code} {f : FuncId} {F : T V} {ps : Array Tmp} {sg bd : Code} {sa sb : SC} {R : V -> Hp -> Prop} {H : Hp} (hb : H.get b = some (.lp .ready j f n F ps sg bd)) (hlen : args.length = ps.size) (ha : cpCode P G n sg = some sa) (hbd : cpCode P G n bd = some sb)
  (h : ∀ l, SWPr (some l) P G n sa (fun e F1 H1 => e = .normal /\ ∃ j1 f1 n1 F0 ps1 as1 bd1, H1.get b = some (.lp .ready j1 f1 n1 F0 ps1 as1 bd1) /\ SWPr (some l) P G n sb (roundQ b R) F1 (H1.add b (.lp .busy j1 f1 n1 F0 ps1 as1 bd1))) (setPs F ps.toList args) H) :
  AYield P G b args H R :=
 ayield_ok hb hlen fun l => awp_mono (h l sg ha) fun e F1 H1 ⟨he, j1, f1, n1, F0, ps1, as1, bd1, h1, h2⟩ => ⟨he, j1, f1, n1, F0, ps1, as1, bd1, h1, h2 bd hbd⟩
theorem swp_mono {s : SC} {Q Q' : Exit -> T V -> Hp -> Prop} {F : T V} {H : Hp} (h : SWPr ρ P G n s Q F H) (hq : ∀ e F H, Q e F H -> Q' e F H) : SWPr ρ P G n s Q' F H :=
 fun c hc => awp_mono (h c hc) hq
def WF (H : Hp) : Prop := ∀ b bk, H.get b = some bk -> b < H.nx
theorem swp_wf {s : SC} {Q : Exit -> T V -> Hp -> Prop} {F : T V} {H : Hp} (h : WF H -> SWPr ρ P G n s Q F H) : SWPr ρ P G n s Q F H :=
 fun c hc s μ K w a hR hF hd => h hR.lt' c hc s μ K w a hR hF hd
theorem acalls_wf {f : FuncId} {args : List V} {H : Hp} {R : V -> Hp -> Prop} (h : WF H -> ACalls P G f args H R) : ACalls P G f args H R :=
 fun μ K w xs hR ha => h hR.lt' μ K w xs hR ha
theorem ACalls.wf {f : FuncId} {args : List V} {H : Hp} {R : V -> Hp -> Prop} (h : ACalls P G f args H R) : ACalls P G f args H fun v H' => R v H' /\ WF H' :=
 fun μ K w xs hR ha => (h μ K w xs hR ha).mono fun _ _ ⟨x, he, v, H', μ', K', h1, h2, h3, h4⟩ => ⟨x, he, v, H', μ', K', ⟨h1, h3.lt'⟩, h2, h3, h4⟩
theorem initF_get : ∀ {l : List V} {i j : Nat}, (initF l i).get j = if i <= j then l[j - i]? else none
 | [], i, j => by simp [initF]
 | v :: l, i, j => by
  simp only [initF]
  rw [T.get_set]
  by_cases e : j = i
  ·subst e; simp
  ·rw [if_neg e, initF_get]
   by_cases h : i + 1 <= j
   ·rw [if_pos h, if_pos (by omega), show j - i = (j - (i + 1)) + 1 by omega]; simp
   ·rw [if_neg h, if_neg (by omega)]
def resOne (tmps : Array Value) : ResultVar -> Sem Value
 | .tmp t => pure (tmps.getD t Go.undef)
 | .cell c t => do loadVar t (<- asAddr (tmps.getD c Go.undef))
theorem mapM_head {rv : List ResultVar} {r : ResultVar} {f : ResultVar -> Sem Value} {x : Value} {xs : List Value} {w : World} (h1 : (f r).run P w = .ok x w) (h2 : (rv.mapM f).run P w = .ok xs w) : ((r :: rv).mapM f).run P w = .ok (x :: xs) w := by
 rw [List.mapM_cons, Sem.run_bind, h1, Result.andThen_ok, Sem.run_bind, h2]
 rfl
theorem aRes_ok {μ : Nat -> Pl} {K : Nat -> Prop} {F : T V} {H : Hp} {w : World} {a : Act} (hR : Rel G μ K H w) (hF : FRel μ K n F a.tmps) : ∀ {rv : List ResultVar} {rs : List SRes} {vs : List V}, cpRes P n rv = some rs -> aResL F H rs = some vs ->
  ∃ xs : List Value, All2 (RV1 μ K) vs xs /\ (rv.mapM (resOne a.tmps)).run P w = .ok xs w
 | [], rs, vs, h1, h2 => by
  simp [cpRes] at h1; subst h1
  simp [aResL] at h2; subst h2
  exact ⟨[], trivial, by simp⟩
 | .tmp t :: rv, rs, vs, h1, h2 => by
  simp only [cpRes] at h1
  split at h1
  ·rename_i ht
   simp only [Option.map_eq_some_iff] at h1
   obtain ⟨rs', hrs, rfl⟩ := h1
   simp only [aResL, aRes] at h2
   split at h2
   ·rename_i v vs' e1 e2
    split at h2
    ·rename_i hone
     obtain rfl := Option.some.inj h2
     obtain rfl := Option.some.inj e1
     obtain ⟨xs, hall, hrun⟩ := aRes_ok hR hF hrs e2
     exact ⟨a.tmps.getD t Go.undef :: xs, ⟨isOne_rv hone (hF.2 t ht), hall⟩, mapM_head rfl hrun⟩
    ·cases h2
   ·cases h2
  ·cases h1
 | .cell c t :: rv, rs, vs, h1, h2 => by
  simp only [cpRes] at h1
  split at h1
  ·rename_i g k hg hk
   split at h1
   ·rename_i hc
    simp only [Option.map_eq_some_iff] at h1
    obtain ⟨rs', hrs, rfl⟩ := h1
    simp only [aResL, aRes] at h2
    split at h2
    ·rename_i v vs' e1 e2
     split at h2
     ·rename_i hone
      obtain rfl := Option.some.inj h2
      obtain ⟨xs, hall, hrun⟩ := aRes_ok hR hF hrs e2
      have hv := hF.2 c hc
      simp only [aLoad, Opd.ev] at e1
      split at e1
      ·rename_i b o he
       rw [he] at hv
       obtain ⟨hkb, hv'⟩ : K b /\ a.tmps.getD c Go.undef = .pointer (some ((μ b).addr o)) := hv
       cases g with
       | true =>
        simp only [if_true, Option.map_eq_some_iff] at e1
        obtain ⟨l, hl, rfl⟩ := e1
        obtain ⟨ys, ha, hr⟩ := hR.loads (P := P) (n := k) (b := b) (o := o) (i := 0) (acc := #[]) hl
        have hr' : (loadCells ((μ b).addr o) k).run P w = .ok ys.toArray w := by simpa [loadCells] using hr
        refine ⟨.agg ys.toArray :: xs, ⟨⟨ys, rfl, ha⟩, hall⟩, mapM_head ?_ hrun⟩
        simp only [resOne, Sem.run_bind, hv', asAddr, Sem.run_pure, Result.andThen_ok, loadVar, isAggT_run hg, if_true, sizeT_run hk, hr']
       | false =>
        simp only [Bool.false_eq_true, if_false, Option.map_eq_some_iff] at e1
        obtain ⟨cc, hcc, rfl⟩ := e1
        obtain ⟨y, hy, hr⟩ := hR.cell hcc
        refine ⟨y :: xs, ⟨hr, hall⟩, mapM_head ?_ hrun⟩
        simp only [resOne, Sem.run_bind, hv', asAddr, Sem.run_pure, Result.andThen_ok, loadVar, isAggT_run hg, Bool.false_eq_true, if_false, run_load, hy]
      ·cases e1
     ·cases h2
    ·cases h2
   ·cases h1
  ·cases h1
theorem fn_ok {f : FuncId} {sf : SFn} (hf : cpFn P G f = some sf) {args : List V} {H : Hp} {R : V -> Hp -> Prop} (hn : args.length <= sf.n) (h : SWP P G sf.n sf.code (retQ sf.res R) (initF args 0) H) : ACalls P G f args H R := by
 unfold cpFn at hf
 split at hf
 ·cases hf
 ·rename_i fn hfn
  split at hf
  ·cases hf
  ·rename_i c hb
   split at hf
   ·rename_i s rs hs hrs
    obtain rfl := Option.some.inj hf
    intro μ K w xs hR ha
    refine (callsIn_wide (n := 0)).1 (callsIn_of_wp_marks hfn hb trivial ?_)
    have hlen := ha.len
    have hF0 : FRel μ K fn.ntmps (initF args 0) (xs.toArray ++ Array.replicate (fn.ntmps - xs.toArray.size) Go.undef) := by
     refine ⟨by simp; simp at hn; omega, fun i hi => ?_⟩
     rw [initF_get]
     simp only [Nat.zero_le, if_true, Nat.sub_zero]
     by_cases hlt : i < xs.length
     ·have h1 : args[i]? = some args[i] := List.getElem?_eq_getElem (by omega)
      rw [h1]
      obtain ⟨x, hx, hr⟩ := ha.at i _ h1
      have : (xs.toArray ++ Array.replicate (fn.ntmps - xs.toArray.size) Go.undef).getD i Go.undef = x := by
       simp [Array.getD_eq_getD_getElem?, Array.getElem?_append, hlt, List.getElem?_eq_getElem hlt] at hx ⊢
       exact hx
      rw [this]
      exact hr
     ·have h1 : args[i]? = none := List.getElem?_eq_none (by omega)
      rw [h1]
      have : (xs.toArray ++ Array.replicate (fn.ntmps - xs.toArray.size) Go.undef).getD i Go.undef = Go.undef := by
       simp only [Array.getD_eq_getD_getElem?, Array.getElem?_append]
       rw [if_neg (by simpa using hlt)]
       rw [Array.getElem?_replicate]
       split <;> rfl
      rw [this]
      exact RV.undef
    refine wpIn_mono (h c hs w.heap.size μ K w ⟨_, []⟩ hR hF0 (Dok.nil w (Nat.le_refl _))) fun e a' w' he => ?_
    obtain ⟨hd, F', H', μ', K', h1, h3, h4', h5⟩ := he
    have fin : (match aResult F' H' rs with
      | some v => R v H'
      | none => False) -> LeavesInM Fence.wide 0 P fn a'.tmps (fun e w' => ∃ x, e = .returned x /\ ∃ v H' μ' K', R v H' /\ RV μ' K' v x /\ Rel G μ' K' H' w' /\ Fr μ K H w μ' K' H' w') a'.defers .returning w' := by
     intro hres
     refine leave_ok hd h3 h5 fun w' h2 h4 => ?_
     unfold aResult at hres
     cases hl : aResL F' H' rs with
     | none => simp [hl] at hres
     | some vs =>
      obtain ⟨ys, hall, hrun⟩ := aRes_ok (P := P) h2 h4' hrs hl
      have hrun' : (results fn a'.tmps).run P w' = .ok (if h : ys.toArray.size = 1 then ys.toArray[0] else .tuple ys.toArray) w' := by
       have he : results fn a'.tmps = (do let vs <- fn.results.mapM (resOne a'.tmps); pure (if h : vs.size = 1 then vs[0] else .tuple vs)) := by
        unfold results resOne
        rfl
       rw [he, Sem.run_bind, Array.mapM_eq_mapM_toList, Sem.run_map, hrun]
       rfl
      clear hrun
      match vs, ys, hall, hl, hrun' with
      | [v], [y], hall, hl, hrun' =>
       simp only [hl] at hres
       exact ⟨y, by rw [hrun']; rfl, y, rfl, v, H', μ', K', hres, RV.of1 hall.1, h2, h4⟩
      | [], [], _, hl, hrun' =>
       simp only [hl] at hres
       exact ⟨.tuple #[], by rw [hrun']; rfl, _, rfl, .tup [], H', μ', K', hres, RV.undef, h2, h4⟩
      | v1 :: v2 :: vs, y1 :: y2 :: ys, hall, hl, hrun' =>
       simp only [hl] at hres
       exact ⟨.tuple (y1 :: y2 :: ys).toArray, by rw [hrun']; simp, _, rfl, .tup (v1 :: v2 :: vs), H', μ', K', hres, ⟨_, rfl, hall⟩, h2, h4⟩
      | [], _ :: _, hall, _, _ => exact hall.elim
      | _ :: _, [], hall, _, _ => exact hall.elim
      | [_], _ :: _ :: _, hall, _, _ => exact hall.2.elim
      | _ :: _ :: _, [_], hall, _, _ => exact hall.2.elim
    cases e with
    | normal => exact fin h1
    | ret => exact fin h1
    | exit id => exact h1.elim
    | goto l => exact h1.elim
    | panic ch => exact h1.elim
    | outgrown => exact h1.elim
   ·cases hf
end
end Go.Ab

namespace Go.Ab
section
variable {P : Program} {G : Nat} {tb : Nat -> Option SFn}
end
end Go.Ab

namespace Go.Ae
open Go.Ab
abbrev oX (i d : Nat) (p : SOp) : SOper := ⟨i, some d, p, none, none, [], false⟩
abbrev pX (i d : Nat) (p : PureOp) : SOper := ⟨i, some d, .p p, none, none, [], false⟩
abbrev mX (i d s : Nat) : SOper := ⟨i, some d, .p (.mv (.t s)), none, none, [], false⟩
abbrev lX (i d s : Nat) : SOper := ⟨i, some d, .l (.load false 1 (.t s)), none, none, [], false⟩
abbrev iX (i d e x y : Nat) : SOper := ⟨i, some d, .p (.iaddr e (.t x) (.t y)), none, none, [], false⟩
abbrev aX (i d k x : Nat) : SOper := ⟨i, some d, .p (.faddr k (.t x)), none, none, [], false⟩
abbrev gX (i d s g : Nat) (b : Bool) : SOper := ⟨i, some d, .p (.mv (.t s)), some (g, b), none, [], false⟩
abbrev L := List SOper
abbrev zAA (a b c:Nat) : SOper := ⟨a, some b, .p (.mv (.t c)), none, none, [], false⟩
abbrev zAB (a b c:Nat) : SOper := ⟨a, some b, .l (.load false 1 (.t c)), none, none, [], false⟩
abbrev zAC (a b c d:Nat) : SOper := ⟨a, some b, .p (.faddr c (.t d)), none, none, [], false⟩
abbrev zAD (a b c d:Nat) : SOper := ⟨a, some b, .l (.load true c (.t d)), none, none, [], false⟩
abbrev zAE (a b c:Nat) (d:Int) : SOper := ⟨a, some b, .p (.bin .add (.t c) (.c (.one (.int .i64 d)))), none, none, [], false⟩
abbrev zAF (a b:Nat) (c:Int) : SOper := ⟨a, some b, .p (.mv (.c (.one (.int .i64 c)))), none, none, [], false⟩
abbrev zAG (a b:Nat) : SOper := ⟨a, some b, .p (.mv (.c (.one (.bool false)))), none, none, [], false⟩
abbrev zAH (a b c d:Nat) : SOper := ⟨a, none, .e (.store b (.t c) (.t d)), none, none, [], false⟩
abbrev zAI (a b c d:Nat) : SOper := ⟨a, some b, .p (.pick (.t c) (.c (.one (.bool true))) (.t d)), none, none, [], false⟩
abbrev zAJ (a b c:Nat) : SOper := ⟨a, some b, .p (.len (.t c)), none, none, [], false⟩
abbrev zAK (a b c d:Nat) : SOper := ⟨a, some b, .p (.pick (.t c) (.t d) (.c (.one (.bool false)))), none, none, [], false⟩
abbrev zAL (a b c d e:Nat) : SOper := ⟨a, some b, .p (.iaddr c (.t d) (.t e)), none, none, [], false⟩
abbrev zAM (a b c d:Nat) : SOper := ⟨a, some b, .l (.load false 1 (.t c)), (some (d, false)), none, [], false⟩
abbrev zAN (a b c d:Nat) : SOper := ⟨a, some b, .l (.load false 1 (.t c)), (some (d, true)), none, [], false⟩
abbrev zAO (a b c:Nat) : SOper := ⟨a, some b, .a (.box (.t c)), none, none, [], false⟩
abbrev zAP (a b c d e:Nat) : SOper := ⟨a, some b, .p (.faddr c (.t d)), (some (e, false)), none, [], false⟩
abbrev zAQ (a b c d:Nat) : SOper := ⟨a, some b, .p (.bin .lss (.t c) (.t d)), none, none, [], false⟩
abbrev zAR (a b c d e:Nat) : SOper := ⟨a, some b, .p (.faddr c (.t d)), (some (e, true)), none, [], false⟩
abbrev zAS (a b c d:Nat) : SOper := ⟨a, some b, .cf c [(.t d)], none, none, [], false⟩
abbrev zAT (a b:Nat) : SOper := ⟨a, some b, .a (.alloc [(.int .i64 0), (.int .i64 0)]), none, none, [], false⟩
abbrev zAU (a b c d:Nat) : SOper := ⟨a, some b, .p (.build [(.int .i64 0), (.int .i64 0)] [(0, 1, (.t c)), (1, 1, (.t d))]), none, none, [], false⟩
abbrev zAV (a b c:Nat) (d:Int) : SOper := ⟨a, some b, .p (.bin .eql (.t c) (.c (.one (.int .i64 d)))), none, none, [], false⟩
abbrev zAW (a b c d:Nat) : SOper := ⟨a, some b, .p (.mv (.t c)), (some (d, true)), none, [], false⟩
abbrev zAX (a b c d e:Nat) : SOper := ⟨a, some b, .cf c [(.t d), (.t e)], none, none, [], false⟩
abbrev zAY (a b c d e f:Nat) : SOper := ⟨a, some b, .e (.append c d (.t e) (.t f)), none, none, [], false⟩
abbrev zAZ (a b c:Nat) : SOper := ⟨a, some b, .a (.bslice 2 1 [(.int .i64 0), (.int .i64 0)] [(0, 2, (.t c))]), none, none, [], false⟩
abbrev zAa (a b c d:Nat) : SOper := ⟨a, some b, .p (.mv (.t c)), (some (d, false)), none, [], false⟩
abbrev zAb (a b:Nat) : SOper := ⟨a, some b, .p (.mv (.c (.one .nils))), none, none, [], false⟩
abbrev zAc (a b:Nat) (c d:Int) : SOper := ⟨a, some b, .p (.build [(.int .i64 0), (.int .i64 0)] [(0, 1, (.c (.one (.int .i64 c)))), (1, 1, (.c (.one (.int .i64 d))))]), none, none, [], false⟩
abbrev zAd (a b c:Nat) (d:Int) : SOper := ⟨a, some b, .p (.bin .lss (.t c) (.c (.one (.int .i64 d)))), none, none, [], false⟩
abbrev zAe (a b c d:Nat) : SOper := ⟨a, some b, .p (.bin .sub (.t c) (.t d)), none, none, [], false⟩
abbrev zAf (a b:Nat) (c:Int) (d:Nat) : SOper := ⟨a, some b, .p (.bin .mul (.c (.one (.int .i64 c))) (.t d)), none, none, [], false⟩
abbrev zAg (a b c:L) (d:SC) (e:L) : SC := (.seq (.ops a 0) (.seq (.ops b 0) (.seq (.seq (.ops c 0) (.block 0 (.loop d))) (.seq (.ops e 0) .ret))))
abbrev zAh (a b c d:Nat) (e:Int) : SOper := ⟨a, some b, .p (.aaddr c 1 (.t d) (.c (.one (.int .i64 e)))), none, none, [], false⟩
abbrev zAi (a b c d:Nat) : SOper := ⟨a, some b, .p (.bin .add (.t c) (.t d)), none, none, [], false⟩
abbrev zAj (a b c d:Nat) : SOper := ⟨a, some b, .p (.extract (.t c) d), none, none, [], false⟩
abbrev zAk (a b c:Nat) : SOper := ⟨a, some b, .p (.not (.t c)), none, none, [], false⟩
abbrev zAl (a b c:Nat) (d:Int) (e:Nat) : SOper := ⟨a, some b, .p (.bin .gtr (.t c) (.c (.one (.int .i64 d)))), (some (e, false)), none, [], false⟩
abbrev zAm (a b c d:Nat) : SOper := ⟨a, some b, .p (.bin .leq (.t c) (.t d)), none, none, [], false⟩
abbrev zAn (a b c:Nat) : SOper := ⟨a, some b, .p (.conv .i64 (.t c)), none, none, [], false⟩
abbrev zAo (a:L) (b c d:Nat) (e:L) (f g:Nat) (h i:L) : SC := (.seq (.seq (.ops a 0) (.cond (.t b) .skip (.exit c))) (.seq (.block d (.seq (.ops e f) (.cond (.t g) (.seq (.ops h 0) .ret) .skip))) (.ops i 0)))
abbrev zAp (a b:Nat) : SOper := ⟨a, some b, .a (.alloc [(.int .i64 0), (.int .i64 0), (.int .i64 0), .nils]), none, none, [], false⟩
abbrev zAq (a:Nat) : SOper := ⟨0, some a, .p (.mv (.c (.one (.bool true)))), none, none, [], false⟩
abbrev zAr (a b:Nat) (c d:Int) (e:Nat) : SOper := ⟨a, some b, .p (.build [(.int .i64 0), (.int .i64 0)] [(0, 1, (.c (.one (.int .i64 c)))), (1, 1, (.c (.one (.int .i64 d))))]), (some (e, true)), none, [], false⟩
abbrev zAs (a b c:Nat) (d:Int) (e:Nat) : SOper := ⟨a, some b, .p (.bin .eql (.t c) (.c (.one (.int .i64 d)))), (some (e, true)), none, [], false⟩
abbrev zAt (a b:Nat) : SOper := ⟨a, some b, .a (.bslice 2 0 [(.int .i64 0), (.int .i64 0)] []), none, none, [], false⟩
abbrev zAu (a b c:Nat) : SOper := ⟨a, some b, .l (.load false 1 (.t c)), none, none, [], true⟩
abbrev zAv (a b c:Nat) (d:Int) (e:Nat) : SOper := ⟨a, some b, .p (.bin .lss (.t c) (.c (.one (.int .i64 d)))), (some (e, false)), none, [], false⟩
abbrev zAw (a:L) (b c d:Nat) (e:L) (f:Nat) (g:SC) (h:L) : SC := (.seq (.seq (.ops a 0) (.cond (.t b) .skip (.exit c))) (.seq (.block d (.seq (.ops e 0) (.block f (.loop g)))) (.ops h 0)))
abbrev zAx (a:L) (b c d:Nat) (e f:L) (g h:Nat) (i j:L) : SC := (.seq (.ops a 0) (.seq (.cond (.t b) .skip (.exit c)) (.seq (.block d (.seq (.ops e 0) (.seq (.ops f g) (.cond (.t h) (.seq (.ops i 0) .ret) .skip)))) (.ops j 0))))
abbrev zAy (a b c d:Nat) : SOper := ⟨a, some b, .p (.bin .mul (.t c) (.t d)), none, none, [], false⟩
abbrev zAz (a b c:Nat) (d:Int) : SOper := ⟨a, some b, .p (.bin .rem (.t c) (.c (.one (.int .i64 d)))), none, none, [], false⟩
abbrev zBA (a b c d e:Nat) : SOper := ⟨a, some b, .l (.load true c (.t d)), (some (e, false)), none, [], false⟩
abbrev zBB (a:L) (b c d:Nat) (e:L) (f:Nat) (g:L) : SC := (.seq (.seq (.ops a 0) (.cond (.t b) .skip (.exit c))) (.seq (.block d (.ops e f)) (.ops g 0)))
abbrev zBC (a b:L) (c:Nat) : SC := (.seq (.ops a 0) (.seq (.ops b c) .ret))
abbrev zBD (a b:Nat) : SOper := ⟨a, some b, .a (.alloc [.nils, (.int .i64 0), (.int .i64 0)]), none, none, [], false⟩
abbrev zBE (a b c:Nat) (d:Int) : SOper := ⟨a, some b, .p (.iaddr 2 (.t c) (.c (.one (.int .i64 d)))), none, none, [], false⟩
abbrev zBF (a b c:Nat) : SOper := ⟨a, some b, .p (.bin .sub (.t c) (.c (.one (.int .i64 1)))), none, none, [], false⟩
abbrev zBG (a b c d e f:Nat) : SOper := ⟨a, some b, .cf c [(.t d), (.t e), (.t f)], none, none, [], false⟩
abbrev zBH (a b c d e f:Nat) : SOper := ⟨a, some b, .cf c [(.t d), (.t e)], (some (f, true)), none, [], false⟩
abbrev zBI (a:L) (b c d:Nat) (e:L) (f:Nat) (g:L) (h:Nat) (i:L) (j:Nat) (k:L) : SC := (.seq (.seq (.ops a 0) (.cond (.t b) .skip (.exit c))) (.seq (.block d (.seq (.ops e f) (.seq (.ops g 0) (.cond (.t h) (.ops i j) .skip)))) (.ops k 0)))
abbrev zBJ (a b c d e:Nat) : SOper := ⟨a, some b, .l (.load true c (.t d)), (some (e, true)), none, [], false⟩
abbrev zBK (a b:L) (c d:Nat) (e f:L) (g:Nat) (h:L) (i:SC) (j:L) (k:Nat) : SC := (.seq (.ops a 0) (.seq (.seq (.ops b c) (.cond (.t d) (.seq (.ops e 0) .ret) .skip)) (.seq (.ops f g) (.seq (.seq (.ops h 0) (.block 0 (.loop i))) (.seq (.ops j k) .ret)))))
abbrev zBL (a b c d e f:Nat) : SOper := ⟨a, some b, .cf c [(.t d), (.t e)], none, none, [f], false⟩
abbrev zBM (a b c d e f:Nat) : SOper := ⟨a, some b, .p (.aaddr c d (.t e) (.t f)), none, none, [], false⟩
abbrev zBN (a b c d:Nat) : SOper := ⟨a, some b, .l (.load true c (.t d)), none, none, [], true⟩
abbrev zBO (a b c d e f:Nat) : SOper := ⟨a, some b, .cf c [(.t d), (.t e)], (some (f, false)), none, [], false⟩
abbrev zBP (a:L) (b c d:Nat) (e f:L) (g:Nat) (h:SC) (i:L) : SC := (.seq (.ops a 0) (.seq (.cond (.t b) .skip (.exit c)) (.seq (.block d (.seq (.ops e 0) (.seq (.ops f 0) (.block g (.loop h))))) (.ops i 0))))
abbrev zBQ (a b c:Nat) (d:Int) : SOper := ⟨a, some b, .p (.bin .rem (.t c) (.c (.one (.int .u8 d)))), none, none, [], false⟩
abbrev zBR (a b c:Nat) : SOper := ⟨a, some b, .a (.bslice 2 1 [(.int .i64 0), (.int .i64 0)] [(0, 2, (.t c))]), none, (some a), [], false⟩
abbrev zBS (a b c d:Nat) : SOper := ⟨a, some b, .p (.mm false (.t c) (.t d)), none, none, [], false⟩
abbrev zBT (a b c:Nat) (d:Int) : SOper := ⟨a, some b, .p (.bin .neq (.t c) (.c (.one (.int .i64 d)))), none, none, [], false⟩
abbrev zBU (a b c:Nat) (d:Int) : SOper := ⟨a, some b, .p (.bin .gtr (.t c) (.c (.one (.int .i64 d)))), none, none, [], false⟩
abbrev zBV (a b:Nat) (c:Int) (d:Nat) : SOper := ⟨a, some b, .p (.bin .add (.c (.one (.int .i64 c))) (.t d)), none, none, [], false⟩
abbrev zBW (a b c:Nat) : SOper := ⟨a, some b, .p (.nilck (.t c)), none, none, [], false⟩
abbrev zBX (a b c:Nat) (d:Int) (e:Nat) : SOper := ⟨a, some b, .p (.bin .geq (.t c) (.c (.one (.int .i64 d)))), (some (e, false)), none, [], false⟩
abbrev zBY (a b:L) (c:Nat) (d e:L) (f:SC) (g:L) : SC := (.seq (.ops a 0) (.seq (.seq (.ops b 0) (.cond (.t c) (.seq (.ops d 0) .ret) .skip)) (.seq (.seq (.ops e 0) (.block 0 (.loop f))) (.seq (.ops g 0) .ret))))
abbrev zBZ (a:L) (b c d:Nat) (e f:L) (g:Nat) (h:L) : SC := (.seq (.ops a 0) (.seq (.cond (.t b) .skip (.exit c)) (.seq (.block d (.seq (.ops e 0) (.ops f g))) (.ops h 0))))
abbrev zBa (a b c d e f:Nat) : SOper := ⟨a, some b, .p (.iaddr c (.t d) (.t e)), (some (f, false)), none, [], false⟩
abbrev zBb (a b c:Nat) : SOper := ⟨a, some b, .a (.bslice 1 2 [(.int .i64 0)] [(0, 1, (.c (.one (.int .i64 0)))), (1, 1, (.c (.one (.int .i64 0))))]), (some (c, true)), none, [], false⟩
abbrev zBc (a b c d e:Nat) : SOper := ⟨a, some b, .p (.bin .leq (.t c) (.t d)), (some (e, true)), none, [], false⟩
abbrev zBd (a b c d:Nat) : SOper := ⟨a, some b, .p (.not (.t c)), (some (d, false)), none, [], false⟩
abbrev zBe (a b c d:Nat) : SOper := ⟨a, some b, .p (.bin .neq (.t c) (.t d)), none, none, [], false⟩
abbrev zBf (a b c d:Nat) : SOper := ⟨a, some b, .p (.bin .rem (.t c) (.t d)), none, none, [], false⟩
abbrev zBg (a:L) (b:Nat) (c d:L) (e:Nat) (f g:L) (h:SC) (i:L) : SC := (.seq (.ops a 0) (.seq (.cond (.t b) .skip (.exit 0)) (.seq (.block 1 (.seq (.ops c 0) (.seq (.seq (.ops d 0) (.cond (.t e) (.seq (.ops f 0) .ret) .skip)) (.seq (.ops g 0) (.block 2 (.loop h)))))) (.ops i 0))))
abbrev zBh (a:L) (b c d:Nat) (e:L) (f:Nat) (g h:L) : SC := (.seq (.seq (.ops a 0) (.cond (.t b) .skip (.exit c))) (.seq (.block d (.seq (.ops e 0) (.cond (.t f) (.ops g 0) .skip))) (.ops h 0)))
abbrev zBi (a b c:Nat) (d:Int) : SOper := ⟨a, some b, .p (.bin .quo (.t c) (.c (.one (.int .i64 d)))), none, none, [], false⟩
abbrev zBj (a b c:Nat) (d:Int) : SOper := ⟨a, some b, .p (.bin .geq (.t c) (.c (.one (.int .i64 d)))), none, none, [], false⟩
abbrev zBk (a b:Nat) (c:Int) : SOper := ⟨1, some a, .p (.bin .shr (.t b) (.c (.one (.int .u64 c)))), none, none, [], false⟩
abbrev zBl (a b c d e:Nat) : SOper := ⟨a, some b, .p (.slice c (.t d) none (some (.t e)) none), none, none, [], false⟩
abbrev zBm (a b c:Nat) : SOper := ⟨a, some b, .a (.bslice 1 1 [.nils] [(0, 1, (.t c))]), none, none, [], false⟩
abbrev zBn (a b c d:Nat) : SOper := ⟨a, some b, .p (.len (.t c)), (some (d, false)), none, [], false⟩
abbrev zBo (a b c d:Nat) : SOper := ⟨a, some b, .p (.bin .eql (.t c) (.t d)), none, none, [], false⟩
abbrev zBp (a b c d:Nat) : SOper := ⟨a, some b, .p (.bin .gtr (.t c) (.t d)), none, none, [], false⟩
abbrev zBq (a b c d e f:Nat) : SOper := ⟨a, some b, .p (.iaddr c (.t d) (.t e)), (some (f, true)), none, [], false⟩
abbrev zBr (a b c:Nat) (d:Int) (e:Nat) : SOper := ⟨a, some b, .p (.iaddr 1 (.t c) (.c (.one (.int .i64 d)))), (some (e, false)), none, [], false⟩
abbrev zBs (a b c:Nat) (d:Int) (e:Nat) : SOper := ⟨a, some b, .p (.bin .rem (.t c) (.c (.one (.int .i64 d)))), (some (e, false)), none, [], false⟩
abbrev zBt (a b c d:Nat) : SOper := ⟨a, some b, .p (.bin .neq (.t c) (.c (.one (.int .i64 0)))), (some (d, false)), none, [], false⟩
abbrev zBu (a b c d:Nat) : SOper := ⟨a, some b, .p (.mm true (.t c) (.t d)), none, none, [], false⟩
abbrev zBv (a b c:Nat) (d:Int) (e:Nat) : SOper := ⟨a, some b, .p (.bin .lss (.t c) (.c (.one (.int .i64 d)))), (some (e, true)), none, [], false⟩
abbrev zBw (a b c:L) (d:Nat) (e f:L) (g:SC) (h:L) : SC := (.seq (.ops a 0) (.seq (.ops b 0) (.seq (.seq (.ops c 0) (.cond (.t d) (.seq (.ops e 0) .ret) .skip)) (.seq (.seq (.ops f 0) (.block 0 (.loop g))) (.seq (.ops h 0) .ret)))))
abbrev zBx (a b c d:Nat) : SOper := ⟨a, some b, .a (.bslice 2 1 [(.int .i64 0), (.int .i64 0)] [(0, 2, (.t c))]), (some (d, true)), none, [], false⟩
abbrev zBy (a:L) (b:Nat) (c d:L) (e f:Nat) (g h:L) : SC := (.seq (.seq (.ops a 0) (.cond (.t b) .skip (.exit 0))) (.seq (.block 1 (.seq (.ops c 0) (.seq (.ops d e) (.cond (.t f) (.seq (.ops g 0) .ret) .skip)))) (.ops h 0)))
abbrev zBz (a b c:Nat) (d:Int) : SOper := ⟨2, some a, .p (.build [(.int .i64 0), (.int .i64 0), (.int .i64 0)] [(0, 1, (.t b)), (1, 1, (.t c)), (2, 1, (.c (.one (.int .i64 d))))]), none, none, [], false⟩
abbrev zCA (a b c:Nat) : SOper := ⟨a, some b, .p (.bin .eql (.t c) (.c (.one (.int .u8 1)))), none, none, [], false⟩
abbrev zCB (a b:Nat) : SOper := ⟨a, some b, .a (.bslice 1 0 [.nils] []), none, none, [], false⟩
abbrev zCC (a b c d e:Nat) : SOper := ⟨a, some b, .cf c [(.t d)], (some (e, true)), none, [], false⟩
abbrev zCD (a b c d e:Nat) : SOper := ⟨a, some b, .p (.bin .geq (.t c) (.t d)), (some (e, false)), none, [], false⟩
abbrev zCE (a b c d e:Nat) : SOper := ⟨a, some b, .p (.bin .gtr (.t c) (.t d)), (some (e, false)), none, [], false⟩
abbrev zCF (a b c d e:Nat) : SOper := ⟨a, some b, .p (.mm true (.t c) (.t d)), (some (e, true)), none, [], false⟩
abbrev zCG (a b c d e:Nat) : SOper := ⟨a, some b, .p (.pick (.t c) (.t d) (.c (.one (.bool false)))), (some (e, false)), none, [], false⟩
abbrev zCH (a:Nat) : SOper := ⟨0, some a, .p (.mv (.c (.one (.int .i64 (-1))))), none, none, [], false⟩
abbrev zCI (a b c:Nat) (d:Int) (e:Nat) : SOper := ⟨a, some b, .p (.bin .eql (.t c) (.c (.one (.int .i64 d)))), (some (e, false)), none, [], false⟩
abbrev zCJ (a b c d:Nat) (e:Int) (f:Nat) : SOper := ⟨a, some b, .p (.iaddr c (.t d) (.c (.one (.int .i64 e)))), (some (f, true)), none, [], false⟩
abbrev zCK (a b:Nat) (c d:Int) : SOper := ⟨a, some b, .a (.bslice 1 2 [(.int .i64 0)] [(0, 1, (.c (.one (.int .i64 c)))), (1, 1, (.c (.one (.int .i64 d))))]), none, none, [], false⟩
abbrev zCL (a b c d:Nat) : SOper := ⟨a, some b, .p (.bin .geq (.t c) (.c (.one (.int .i64 0)))), (some (d, true)), none, [], false⟩
abbrev zCM (a b c:Nat) : SOper := ⟨a, some b, .p (.build [(.int .i64 0), (.int .i64 0), .nils] [(0, 1, (.c (.one (.int .i64 1)))), (2, 1, (.t c))]), none, none, [], false⟩
abbrev zCN (a b:Nat) : SOper := ⟨a, some b, .p (.mv (.c (.one (.int .u64 0)))), none, none, [], false⟩
abbrev zCO (a b:L) (c:SC) (d:L) : SC := (.seq (.ops a 0) (.seq (.seq (.ops b 0) (.block 0 (.loop c))) (.seq (.ops d 0) .ret)))
abbrev zCP (a b:Nat) : SOper := ⟨a, some b, .a (.alloc [(.int .i64 0), (.int .i64 0), .nils]), none, none, [], false⟩
abbrev zCQ (a b:Nat) : SOper := ⟨a, some b, .a (.alloc [(.int .i64 0), (.int .i64 0)]), none, (some a), [], false⟩
abbrev zCR (a b:Nat) (c:Int) : SOper := ⟨1, some a, .p (.bin .geq (.t b) (.c (.one (.int .u64 c)))), none, none, [], false⟩
abbrev zCS (a b c:Nat) : SOper := ⟨a, some b, .a (.bslice 1 2 [(.int .u8 0)] [(0, 1, (.c (.one (.int .u8 60)))), (1, 1, (.t c))]), none, none, [], false⟩
abbrev zCT (a b c:Nat) : SOper := ⟨10, some a, .a (.bslice 2 1 [(.int .i64 0), (.int .i64 0)] [(0, 2, (.t b))]), (some (c, false)), (some 10), [], false⟩
abbrev zCU (a b c d:Nat) : SOper := ⟨a, some b, .p (.build [(.int .i64 0), (.int .i64 0), .nils] [(0, 1, (.t c)), (2, 1, (.t d))]), none, none, [], false⟩
abbrev zCV (a b c:Nat) : SOper := ⟨2, some a, .a (.bslice 2 2 [(.int .i64 0), (.int .i64 0)] [(0, 2, (.t b)), (2, 2, (.t c))]), none, none, [], false⟩
abbrev zCY (a b c d e:Nat) : SOper := ⟨a, some b, .p (.bin .eql (.t c) (.t d)), (some (e, true)), none, [], false⟩
abbrev zCZ (a b c d e:Nat) : SOper := ⟨a, some b, .p (.mm false (.t c) (.t d)), (some (e, true)), none, [], false⟩
abbrev zCa (a b c:Nat) : SOper := ⟨a, some b, .a (.bslice 3 1 [(.int .i64 0), (.int .i64 0), .nils] [(0, 3, (.t c))]), none, (some a), [], false⟩
abbrev zCb (a b:L) (c:Nat) (d e:L) : SC := (.seq (.ops a 0) (.seq (.seq (.ops b 0) (.cond (.t c) (.seq (.ops d 0) .ret) .skip)) (.seq (.ops e 0) .ret)))
abbrev zCc (a:Nat) : SOper := ⟨0, some a, .cf 8 [], none, none, [], false⟩
abbrev zCd (a b c d e f g:Nat) : SOper := ⟨a, some b, .cf c [(.t d), (.t e)], (some (f, true)), none, [g], false⟩
abbrev zCe (a b c:Nat) : SOper := ⟨a, some b, .a (.bslice 3 1 [(.int .i64 0), (.int .i64 0), .nils] [(0, 3, (.t c))]), none, none, [], false⟩
abbrev zCf (a b c d e:Nat) : SOper := ⟨a, some b, .cf c [(.t d)], none, none, [e], false⟩
abbrev zCg (a b c d:Nat) : SOper := ⟨a, some b, .p (.beq false (.t c) (.t d)), none, none, [], false⟩
abbrev zCh (a b c d e f g:Nat) : SOper := ⟨a, some b, .cf c [(.t d), (.t e)], none, none, [f, g], false⟩
abbrev zCi (a b c d:Nat) : SOper := ⟨a, some b, .p (.len (.t c)), (some (d, true)), none, [], false⟩
abbrev zCj (a b c d:Nat) : SOper := ⟨a, some b, .p (.bin .shr (.t c) (.t d)), none, none, [], false⟩
abbrev zCo (a b c:Nat) : SOper := ⟨10, some a, .p (.bin .leq (.t b) (.c (.one (.int .i64 3)))), (some (c, true)), none, [], false⟩
abbrev zCp (a b c d:Nat) : SOper := ⟨a, some b, .p (.bin .rem (.t c) (.c (.one (.int .i64 2)))), (some (d, true)), none, [], false⟩
abbrev zCr (a b c d:Nat) : SOper := ⟨a, some b, .p (.eqs false [(0, false), (1, false)] (.t c) (.t d)), none, none, [], false⟩
abbrev zCs (a b:Nat) : SOper := ⟨2, some a, .p (.conv .u8 (.t b)), none, none, [], false⟩
abbrev zCu (a b:Nat) (c:Int) : SOper := ⟨5, some a, .p (.mm false (.t b) (.c (.one (.int .i64 c)))), none, none, [], false⟩
abbrev zCv (a b c:Nat) : SOper := ⟨a, some b, .p (.bin .shl (.c (.one (.int .u64 1))) (.t c)), none, none, [], false⟩
abbrev zCw (a b:Nat) : SOper := ⟨2, none, .e (.stupd (.t a) (.t b) (.c (.one (.bool true)))), none, none, [], false⟩
abbrev zCx (a b:Nat) (c:Int) : SOper := ⟨1, some a, .p (.bin .geq (.t b) (.c (.one (.int .u32 c)))), none, none, [], false⟩
abbrev zCy : SOper := pX 11 31 (.bin .and (.t 30) (.c (.one (.int .u8 1))))
abbrev zCz (a b:Nat) : SOper := ⟨5, some a, .p (.mm true (.c (.one (.int .i64 0))) (.t b)), none, none, [], false⟩
abbrev zDC (a b:Nat) : SOper := ⟨a, none, .e (.store 1 (.t b) (.c (.one (.bool true)))), none, none, [], false⟩
abbrev zDE (a b c:Nat) : SOper := ⟨a, some b, .l (.load false 1 (.t c)), (some (72, false)), none, [], true⟩
abbrev zDO : SOper := pX 0 2 (.mv (.c (.one .nilm)))
abbrev zDP (a:Nat) : SOper := ⟨a, some 2, .p (.mv (.c (.one .nilf))), none, none, [], false⟩
abbrev zDQ (a:Nat) : SOper := ⟨5, some 10, .cf a [(.t 9)], none, none, [9, 7], false⟩
def f3r0 : L:=[zAO 0 3 0,zAO 1 5 2,zAG 2 6]
def f3r1 : L:=[zCc 14,zAA 1 7 14]
def f3r2 : L:=[zAA 0 15 1,zAn 1 16 15,zAz 2 17 16 8,zAh 3 18 2 5 0,zAB 4 19 18,zAn 5 20 19,zAh 6 21 2 5 1,zAB 7 22 21,zAn 8 23 22,zAU 9 24 20 23,zCQ 10 9,zAA 11 8 17,zAH 12 2 9 24]
def f3r3 : L:=[zAA 0 25 8,zAS 1 26 9 25,zAA 2 27 8,zAS 3 28 10 27,zAA 4 10 26,zAA 5 11 28]
def f3r4 : L:=[zAA 0 29 10,zAJ 1 30 29,zBT 2 31 30 2,zAA 3 32 31,zAa 4 33 10 32,zBr 5 34 33 0 32,zAM 6 35 34 32,zAa 7 36 11 32,zBr 8 37 36 0 32,zAM 9 38 37 32,⟨10, some 39, .p (.bin .neq (.t 35) (.t 38)), (some (32, false)), none, [], false⟩,zAI 11 40 32 39,zAA 12 41 40,zAa 13 42 10 41,zBr 14 43 42 1 41,zAM 15 44 43 41,zAa 16 45 11 41,zBr 17 46 45 1 41,zAM 18 47 46 41,⟨19, some 48, .p (.bin .neq (.t 44) (.t 47)), (some (41, false)), none, [], false⟩,zAI 20 49 41 48,zAA 21 50 49,zAa 22 51 8 50,zBA 23 52 2 9 50,zAa 25 54 8 50,⟨26, some 55, .l (.load true 2 (.t 9)), (some (50, false)), none, [], true⟩,⟨24, some 53, .cf 12 [(.t 51), (.t 52)], (some (50, false)), none, [26], false⟩,zBO 27 56 13 54 55 50,zBO 28 57 11 53 56 50,zBd 29 58 57 50,zAI 30 59 50 58]
def f3r5 : L:=[zAG 0 6]
def f3r6 : L:=[zAD 0 61 4 3,zAS 1 62 14 61,zAA 2 60 62,zAj 3 63 60 0,zAj 4 64 60 1,zAp 5 12,zAH 6 4 12 63,zAA 7 13 64]
def f3r7 : L:=[zAA 0 65 13,zAk 1 66 65,zAA 2 67 66,zBA 3 68 4 12 67,⟨5, some 70, .l (.load true 4 (.t 12)), (some (67, false)), none, [], true⟩,⟨4, some 69, .cf 16 [(.t 68)], (some (67, false)), none, [5], false⟩,⟨6, some 71, .cf 17 [(.t 70)], (some (67, false)), none, [], false⟩,zBO 7 72 15 69 71 67,zAI 8 73 67 72,zAA 9 74 73,zAW 10 75 7 74,zAK 11 76 74 75,zAA 12 6 76]
def f3c : SC:=(.seq (.ops f3r0 0) (.seq (.ops f3r1 0) (.seq (.ops f3r2 13) (.seq (.ops f3r3 0) (.seq (.seq (.ops f3r4 31) (.cond (.t 59) (.seq (.ops f3r5 0) .ret) .skip)) (.seq (.ops f3r6 0) (.seq (.ops f3r7 13) .ret)))))))
def f3 : SFn := ⟨77, f3c, [.t 6]⟩

def f4r0 : L:=[zAO 0 1 0,zAG 1 2]
def f4r1 : L:=[zCc 15,zAA 1 3 15]
def f4r2 : L:=[zAD 0 17 4 1,zAS 1 18 14 17,zAA 2 16 18,zAj 3 19 16 0,zAj 4 20 16 1,zAp 5 4,zAH 6 4 4 19,zAA 7 5 20]
def f4r3 : L:=[zAA 0 21 5,zAk 1 22 21]
def f4r4 : L:=[zAA 0 23 3,zAA 1 2 23]
def f4r5 : L:=[zAD 0 24 4 4,zAS 1 25 16 24,zBD 2 6,zAH 3 3 6 25]
def f4r6 : L:=[zAC 0 26 2 6,zAB 1 27 26,zBT 2 28 27 0]
def f4r7 : L:=[zAC 0 29 2 6,zAB 1 30 29,zAV 2 31 30 150,zAA 3 32 31,zAR 4 33 0 6 32,zAN 5 34 33 32,zCi 6 35 34 32,zAs 7 36 35 0 32,zAK 8 37 32 36,zAA 9 38 37,zAW 10 39 3 38,zAK 11 40 38 39,zAA 12 2 40]
def f4r8 : L:=[zAC 0 41 1 6,zAB 1 42 41,zAC 2 43 3 4,zAB 3 44 43,zAJ 4 45 44,zBe 5 46 42 45,zAA 6 47 46,zBA 7 48 4 4 47,zAP 8 49 0 6 47,zAM 9 50 49 47,zBO 10 51 18 48 50 47,zBd 11 52 51 47,zAI 12 53 47 52,zAA 13 54 53,zBA 14 55 4 4 54,zAP 15 56 0 6 54,zAM 16 57 56 54,zBO 17 58 19 55 57 54,zBd 18 59 58 54,zAI 19 60 54 59]
def f4r9 : L:=[zAG 0 2]
def f4r10 : L:=[zAD 0 61 4 4,zAS 1 62 20 61,⟨2, some 63, .p (.field false 2 1 (.t 62)), none, none, [], false⟩,zBT 3 64 63 0]
def f4r11 : L:=[zAA 0 65 3,zAA 1 2 65]
def f4r12 : L:=[zAD 0 66 4 4,zAS 1 67 21 66,zCB 2 68,zAt 3 69,zAA 4 7 67,zAA 5 8 68,zAA 6 9 69]
def f4r13 : L:=[zAF 0 10 0]
def f4r14 : L:=[zAA 0 70 10,zAC 1 71 3 4,zAB 2 72 71,zAJ 3 73 72,zAQ 4 74 70 73]
def f4r15 : L:=[zAA 0 77 8,zAA 1 78 7,zAA 2 79 10,zAL 3 80 1 78 79,zAu 4 81 80,zAA 5 82 10,zAC 6 83 0 6,zAB 7 84 83,zAA 8 85 10,zAL 9 86 2 84 85,zAD 10 87 2 86,zBL 11 88 13 82 87 4,zCf 12 89 22 88 4,⟨13, some 90, .a (.bslice 1 2 [.nils] [(0, 1, (.t 81)), (1, 1, (.t 89))]), none, (some 13), [], false⟩,zAY 14 91 1 24 77 90,zAA 15 8 91]
def f4r16 : L:=[zAA 0 92 9,zAA 1 93 7,zAA 2 94 10,zAL 3 95 1 93 94,zAB 4 96 95,zAA 6 98 10,zAC 7 99 0 6,zAu 8 100 99,zAA 9 101 10,zAL 10 102 2 100 101,zBN 11 103 2 102,⟨5, some 97, .e (.append 2 16 (.t 92) (.t 96)), none, none, [11, 8], false⟩,zAX 12 104 13 98 103,zAY 13 105 2 16 97 104,zAA 14 9 105]
def f4r17 : L:=[zAA 0 75 10,zAE 1 76 75 1,zAA 2 10 76]
def f4b0 : SC:=(.seq (.seq (.ops f4r14 0) (.cond (.t 74) .skip (.exit 0))) (.seq (.block 1 (.seq (.ops f4r15 16) (.ops f4r16 15))) (.ops f4r17 0)))
def f4r18 : L:=[zAA 0 106 9,zAC 1 107 2 4,zAB 2 108 107,zAX 3 109 23 106 108,zAA 4 11 109]
def f4r19 : L:=[zAF 0 12 0]
def f4r20 : L:=[zAA 0 110 12,zAA 1 111 8,zAJ 2 112 111,zAQ 3 113 110 112]
def f4r21 : L:=[zAG 0 13]
def f4r22 : L:=[zAF 0 14 0]
def f4r23 : L:=[zAA 0 116 14,zAA 1 117 11,zAJ 2 118 117,zAQ 3 119 116 118]
def f4r24 : L:=[zAA 0 122 13,zAA 1 123 122,zAa 2 124 8 123,zAa 3 125 12 123,zBa 4 126 1 124 125 123,zAM 5 127 126 123,zAa 6 128 11 123,zAa 7 129 14 123,zBa 8 130 1 128 129 123,zAM 9 131 130 123,zBO 10 132 11 127 131 123,zAI 11 133 123 132,zAA 12 13 133]
def f4r25 : L:=[zAA 0 120 14,zAE 1 121 120 1,zAA 2 14 121]
def f4b1 : SC:=zBB f4r23 119 4 5 f4r24 13 f4r25
def f4r26 : L:=[zAA 0 134 13,zAk 1 135 134]
def f4r27 : L:=[zAG 0 2]
def f4r28 : L:=[zAA 0 114 12,zAE 1 115 114 1,zAA 2 12 115]
def f4b2 : SC:=(.seq (.seq (.ops f4r20 0) (.cond (.t 113) .skip (.exit 2))) (.seq (.block 3 (.seq (.ops f4r21 0) (.seq (.seq (.ops f4r22 0) (.block 4 (.loop f4b1))) (.seq (.ops f4r26 0) (.cond (.t 135) (.seq (.ops f4r27 0) .ret) .skip))))) (.ops f4r28 0)))
def f4r29 : L:=[zAA 0 136 11,zAJ 1 137 136,zAA 2 138 8,zAJ 3 139 138,zBo 4 140 137 139,zAA 5 141 140,zAW 6 142 3 141,zAK 7 143 141 142,zAA 8 2 143]
def f4c : SC:=(.seq (.ops f4r0 0) (.seq (.ops f4r1 0) (.seq (.ops f4r2 0) (.seq (.seq (.ops f4r3 0) (.cond (.t 22) (.seq (.ops f4r4 0) .ret) .skip)) (.seq (.ops f4r5 0) (.seq (.seq (.ops f4r6 0) (.cond (.t 28) (.seq (.ops f4r7 0) .ret) .skip)) (.seq (.seq (.ops f4r8 0) (.cond (.t 60) (.seq (.ops f4r9 0) .ret) .skip)) (.seq (.seq (.ops f4r10 0) (.cond (.t 64) (.seq (.ops f4r11 0) .ret) .skip)) (.seq (.ops f4r12 0) (.seq (.seq (.ops f4r13 0) (.block 0 (.loop f4b0))) (.seq (.ops f4r18 0) (.seq (.seq (.ops f4r19 0) (.block 2 (.loop f4b2))) (.seq (.ops f4r29 0) .ret)))))))))))))
def f4 : SFn := ⟨144, f4c, [.t 2]⟩

def f5r0 : L:=[zAO 0 2 0,zAO 1 3 1,zAG 2 4]
def f5r1 : L:=[zCc 12,zAA 1 5 12]
def f5r2 : L:=[zAC 0 13 3 2,zAB 1 14 13,zAC 2 15 3 2,zAB 3 16 15,zAJ 4 17 16,zCu 18 17 2,zBl 6 19 6 14 18,zAC 7 20 3 2,zAH 8 1 20 19]
def f5r3 : L:=[zAD 0 22 4 2,zAS 1 23 14 22,zAA 2 21 23,zAj 3 24 21 0,zAj 4 25 21 1,zAp 5 6,zAH 6 4 6 24,zAA 7 7 25]
def f5r4 : L:=[zAA 0 26 7,zAk 1 27 26]
def f5r5 : L:=[zAA 0 28 5,zAA 1 4 28]
def f5r6 : L:=[zAD 0 29 4 6,zAS 1 30 16 29,zBD 2 8,zAH 3 3 8 30]
def f5r7 : L:=[zAC 0 31 2 8,zAB 1 32 31,zBT 2 33 32 0]
def f5r8 : L:=[zAA 0 34 5,zAA 1 4 34]
def f5r9 : L:=[zAC 0 35 0 8,zAB 1 36 35,zAJ 2 37 36,zAC 3 38 3 6,zAB 4 39 38,zAJ 5 40 39,zBe 6 41 37 40]
def f5r10 : L:=[zAG 0 4]
def f5r11 : L:=[zAh 0 42 2 3 0,zAB 1 43 42,zAn 2 44 43,zAz 3 45 44 18,zAh 4 46 2 3 1,zAB 5 47 46,zAn 6 48 47,zAz 7 49 48 12,zAU 8 50 45 49,zAT 9 9,zAH 10 2 9 50]
def f5r12 : L:=[zAC 0 51 3 6,zAB 1 52 51,zAJ 2 53 52,zAV 3 54 53 1]
def f5r13 : L:=[zAD 0 55 2 9,zAC 1 56 0 8,zAB 2 57 56,zBE 3 58 57 0,zAD 4 59 2 58,zAX 5 60 24 55 59,zAk 6 61 60,zAA 7 62 61,zBA 8 63 4 6 62,zBA 9 64 2 9 62,zCT 65 64 62,zBO 11 66 18 63 65 62,zBd 12 67 66 62,zAI 13 68 62 67,zAA 14 69 68,zAW 15 70 5 69,zAK 16 71 69 70,zAA 17 4 71]
def f5r14 : L:=[zAD 0 72 2 9,zAC 1 73 0 8,zAB 2 74 73,zBE 3 75 74 1,zAD 4 76 2 75,zAX 5 77 24 72 76,zAA 6 78 77,zBJ 7 79 4 6 78,zAR 8 80 0 8 78,zAN 9 81 80 78,zCJ 10 82 2 81 0 78,zBJ 11 83 2 82 78,zBJ 12 84 2 9 78,⟨13, some 85, .a (.bslice 2 2 [(.int .i64 0), (.int .i64 0)] [(0, 2, (.t 83)), (2, 2, (.t 84))]), (some (78, true)), (some 13), [], false⟩,zBH 14 86 18 79 85 78,zAK 15 87 78 86]
def f5r15 : L:=[zAG 0 4]
def f5r16 : L:=[zAD 0 88 2 9,zAC 1 89 0 8,zAB 2 90 89,zBE 3 91 90 0,zAD 4 92 2 91,zAX 5 93 24 88 92,zAk 6 94 93,zAA 7 95 94,zBA 8 96 4 6 95,zBA 9 97 2 9 95,zCT 98 97 95,zBO 11 99 25 96 98 95,zBd 12 100 99 95,zAI 13 101 95 100]
def f5r17 : L:=[zAA 0 102 5,zAA 1 4 102]
def f5r18 : L:=[zAD 0 103 4 6,⟨1, some 104, .cf 26 [(.t 103), (.c (.one (.int .i64 1)))], none, none, [], false⟩,zAA 2 10 104]
def f5r19 : L:=[zAF 0 11 0]
def f5r20 : L:=[zAA 0 105 11,zAA 1 106 10,zAJ 2 107 106,zAQ 3 108 105 107]
def f5r21 : L:=[zAD 0 111 4 6,zAD 1 112 2 9,zAA 2 113 10,zAA 3 114 11,zAL 4 115 2 113 114,zAD 5 116 2 115,⟨6, some 117, .a (.bslice 2 2 [(.int .i64 0), (.int .i64 0)] [(0, 2, (.t 112)), (2, 2, (.t 116))]), none, (some 6), [], false⟩,zAX 7 118 18 111 117]
def f5r22 : L:=[zAG 0 4]
def f5r23 : L:=[zAA 0 109 11,zAE 1 110 109 1,zAA 2 11 110]
def f5b0 : SC:=zAo f5r20 108 0 1 f5r21 8 118 f5r22 f5r23
def f5r24 : L:=[zAA 0 119 5,zAA 1 4 119]
def f5c : SC:=(.seq (.ops f5r0 0) (.seq (.ops f5r1 0) (.seq (.ops f5r2 0) (.seq (.ops f5r3 0) (.seq (.seq (.ops f5r4 0) (.cond (.t 27) (.seq (.ops f5r5 0) .ret) .skip)) (.seq (.ops f5r6 0) (.seq (.seq (.ops f5r7 0) (.cond (.t 33) (.seq (.ops f5r8 0) .ret) .skip)) (.seq (.seq (.ops f5r9 0) (.cond (.t 41) (.seq (.ops f5r10 0) .ret) .skip)) (.seq (.ops f5r11 0) (.seq (.seq (.ops f5r12 0) (.cond (.t 54) (.seq (.ops f5r13 18) .ret) .skip)) (.seq (.seq (.ops f5r14 16) (.cond (.t 87) (.seq (.ops f5r15 0) .ret) .skip)) (.seq (.seq (.ops f5r16 14) (.cond (.t 101) (.seq (.ops f5r17 0) .ret) .skip)) (.seq (.ops f5r18 0) (.seq (.seq (.ops f5r19 0) (.block 0 (.loop f5b0))) (.seq (.ops f5r24 0) .ret)))))))))))))))
def f5 : SFn := ⟨120, f5c, [.t 4]⟩

def f6r0 : L:=[zAO 0 1 0,zAG 1 2]
def f6r1 : L:=[zCc 8,zAA 1 3 8]
def f6r2 : L:=[zAD 0 10 4 1,zAS 1 11 14 10,zAA 2 9 11,zAj 3 12 9 0,zAj 4 13 9 1,zAp 5 4,zAH 6 4 4 12,zAA 7 5 13]
def f6r3 : L:=[zAA 0 14 5,zAk 1 15 14]
def f6r4 : L:=[zAA 0 16 3,zAA 1 2 16]
def f6r5 : L:=[zAD 0 17 4 4,zAS 1 18 16 17,zBD 2 6,zAH 3 3 6 18]
def f6r6 : L:=[zAC 0 19 2 6,zAB 1 20 19,zAV 2 21 20 0]
def f6r7 : L:=[zAC 0 22 1 6,zAB 1 23 22,zAC 2 24 3 4,zAB 3 25 24,zAJ 4 26 25,zBo 5 27 23 26,zAA 6 28 27,zAW 7 29 3 28,zAK 8 30 28 29,zAA 9 2 30]
def f6r8 : L:=[zAC 0 31 2 6,zAB 1 32 31,zBT 2 33 32 150,zAA 3 34 33,zAP 4 35 1 6 34,zAM 5 36 35 34,zAv 6 37 36 0 34,zAI 7 38 34 37,zAA 8 39 38,zAP 9 40 1 6 39,zAM 10 41 40 39,zAP 11 42 3 4 39,zAM 12 43 42 39,zBn 13 44 43 39,zCD 14 45 41 44 39,zAI 15 46 39 45]
def f6r9 : L:=[zAG 0 2]
def f6r10 : L:=[zAD 0 47 4 4,zAS 1 48 17 47,zBD 2 7,zAH 3 3 7 48]
def f6r11 : L:=[zAC 0 49 2 7,zAB 1 50 49,zAV 2 51 50 150,zAA 3 52 51,zAR 4 53 1 7 52,zAN 5 54 53 52,zAR 6 55 1 6 52,zAN 7 56 55 52,zCY 8 57 54 56 52,zAK 9 58 52 57,zAA 10 59 58,zAW 11 60 3 59,zAK 12 61 59 60,zAA 13 2 61]
def f6c : SC:=(.seq (.ops f6r0 0) (.seq (.ops f6r1 0) (.seq (.ops f6r2 0) (.seq (.seq (.ops f6r3 0) (.cond (.t 15) (.seq (.ops f6r4 0) .ret) .skip)) (.seq (.ops f6r5 0) (.seq (.seq (.ops f6r6 0) (.cond (.t 21) (.seq (.ops f6r7 0) .ret) .skip)) (.seq (.seq (.ops f6r8 0) (.cond (.t 46) (.seq (.ops f6r9 0) .ret) .skip)) (.seq (.ops f6r10 0) (.seq (.ops f6r11 0) .ret)))))))))
def f6 : SFn := ⟨62, f6c, [.t 2]⟩

def f7r0 : L:=[zAO 0 3 0,zAO 1 5 2,zAG 2 6]
def f7r1 : L:=[zCc 14,zAA 1 7 14]
def f7r2 : L:=[zAD 0 16 4 3,zAS 1 17 14 16,zAA 2 15 17,zAj 3 18 15 0,zAj 4 19 15 1,zAp 5 8,zAH 6 4 8 18,zAA 7 9 19]
def f7r3 : L:=[zAA 0 20 9,zAk 1 21 20]
def f7r4 : L:=[zAA 0 22 7,zAA 1 6 22]
def f7r5 : L:=[zAt 0 23,zAA 1 10 23]
def f7r6 : L:=[zAF 0 11 0]
def f7r7 : L:=[zAA 0 24 11,zAA 1 25 1,zAJ 2 26 25,zAQ 3 27 24 26,zAA 4 28 27,zAW 5 29 11 28,zBv 6 30 29 4 28,zAK 7 31 28 30]
def f7r8 : L:=[zAA 0 34 10,zAA 1 35 1,zAA 2 36 11,zAL 3 37 2 35 36,zAh 4 38 2 37 0,zAB 5 39 38,zAn 6 40 39,zAA 7 41 1,zAA 8 42 11,zAL 9 43 2 41 42,zAh 10 44 2 43 1,zAB 11 45 44,zAn 12 46 45,zAU 13 47 40 46,zBR 14 48 47,zAY 15 49 2 16 34 48,zAA 16 10 49]
def f7r9 : L:=[zAA 0 32 11,zAE 1 33 32 1,zAA 2 11 33]
def f7b0 : SC:=zBB f7r7 31 0 1 f7r8 17 f7r9
def f7r10 : L:=[zAt 0 50,zAD 1 51 4 8,zAS 2 52 17 51,⟨3, some 53, .p (.field false 0 1 (.t 52)), none, none, [], false⟩,zAY 4 54 2 16 50 53,zAA 5 12 54]
def f7r11 : L:=[zAD 0 55 4 8,zAA 1 56 12,zAA 2 57 12,zAJ 3 58 57,zBi 4 59 58 2,zBl 5 60 2 56 59,zAX 6 61 25 55 60,zAk 7 62 61]
def f7r12 : L:=[zAG 0 6]
def f7r13 : L:=[zAA 0 63 12,zAJ 1 64 63,zBU 2 65 64 0]
def f7r14 : L:=[zAh 0 66 3 5 2,zAB 1 67 66,zCs 68 67,zAn 3 69 68,zAA 4 70 12,zAJ 5 71 70,zBf 6 72 69 71,zAA 7 13 72]
def f7r15 : L:=[zAA 0 73 12,zAA 1 74 13,zAA 2 75 12,zAA 3 76 13,zAL 4 77 2 75 76,zAC 5 78 0 77,zAB 6 79 78,zAh 7 80 3 5 0,zAB 8 81 80,zAn 9 82 81,zAz 10 83 82 4,zAi 11 84 79 83,zAA 12 85 12,zAA 13 86 13,zAL 14 87 2 85 86,zAC 15 88 1 87,zAB 16 89 88,zAh 17 90 3 5 1,zAB 18 91 90,zAn 19 92 91,zAz 20 93 92 4,zAi 21 94 89 93,zAU 22 95 84 94,zAL 23 96 2 73 74,zAH 24 2 96 95]
def f7r16 : L:=[zAD 0 97 4 8,zAA 1 98 10,zBN 3 100 4 8,zAA 4 101 10,zBL 2 99 19 97 98 3,zAX 5 102 18 100 101,zCg 6 103 99 102,zAA 7 104 103,zBJ 8 105 4 8 104,zAW 9 106 12 104,⟨11, some 108, .l (.load true 4 (.t 8)), (some (104, true)), none, [], true⟩,zAW 12 109 12 104,zCd 10 107 19 105 106 104 11,zBH 13 110 18 108 109 104,⟨14, some 111, .p (.beq false (.t 107) (.t 110)), (some (104, true)), none, [], false⟩,zAK 15 112 104 111,zAA 16 113 112,zAW 17 114 7 113,zAK 18 115 113 114,zAA 19 6 115]
def f7c : SC:=(.seq (.ops f7r0 0) (.seq (.ops f7r1 0) (.seq (.ops f7r2 0) (.seq (.seq (.ops f7r3 0) (.cond (.t 21) (.seq (.ops f7r4 0) .ret) .skip)) (.seq (.ops f7r5 0) (.seq (.seq (.ops f7r6 0) (.block 0 (.loop f7b0))) (.seq (.ops f7r10 0) (.seq (.seq (.ops f7r11 8) (.cond (.t 62) (.seq (.ops f7r12 0) .ret) .skip)) (.seq (.seq (.ops f7r13 0) (.cond (.t 65) (.seq (.ops f7r14 0) (.ops f7r15 25)) .skip)) (.seq (.ops f7r16 20) .ret))))))))))
def f7 : SFn := ⟨116, f7c, [.t 6]⟩

def f8r0 : L:=[zAG 0 0]
def f8r1 : L:=[zCK 0 10 0 0,zAS 1 11 27 10,zAS 2 12 16 11,zCK 3 13 10 5,zAS 4 14 27 13,zAS 5 15 16 14,⟨6, some 16, .a (.bslice 1 8 [(.int .i64 0)] [(0, 1, (.c (.one (.int .i64 0)))), (1, 1, (.c (.one (.int .i64 0)))), (2, 1, (.c (.one (.int .i64 19)))), (3, 1, (.c (.one (.int .i64 0)))), (4, 1, (.c (.one (.int .i64 0)))), (5, 1, (.c (.one (.int .i64 11)))), (6, 1, (.c (.one (.int .i64 19)))), (7, 1, (.c (.one (.int .i64 11))))]), none, none, [], false⟩,zAS 7 17 27 16,zAS 8 18 16 17,zBD 9 1,zBD 10 2,zBD 11 3,zAH 12 3 1 12,zAH 13 3 2 15,zAH 14 3 3 18]
def f8r2 : L:=[zAc 0 19 0 0,zAc 1 20 19 0,zAc 2 21 19 11,zAc 3 22 0 11,⟨4, some 23, .a (.bslice 2 4 [(.int .i64 0), (.int .i64 0)] [(0, 2, (.t 19)), (2, 2, (.t 20)), (4, 2, (.t 21)), (6, 2, (.t 22))]), none, none, [], false⟩,⟨5, some 24, .p (.build [(.int .i64 0), (.int .i64 0), .nils] [(0, 1, (.c (.one (.int .i64 3)))), (1, 1, (.c (.one (.int .i64 3)))), (2, 1, (.t 23))]), none, none, [], false⟩,zCe 6 25 24,⟨7, some 26, .p (.build [(.int .i64 0), (.int .i64 0), (.int .i64 0), .nils] [(0, 1, (.c (.one (.int .i64 20)))), (1, 1, (.c (.one (.int .i64 12)))), (2, 1, (.c (.one (.int .i64 2)))), (3, 1, (.t 25))]), none, none, [], false⟩,zAp 8 4,zAH 9 4 4 26]
def f8r3 : L:=[zAD 0 27 4 4,zAS 1 28 16 27,zBD 2 5,zAH 3 3 5 28]
def f8r4 : L:=[⟨0, some 29, .cf 9 [(.c (.one (.int .i64 3)))], none, none, [], false⟩,zAA 1 6 29]
def f8r5 : L:=[zAC 0 30 0 1,zAB 1 31 30,zAc 2 32 2 0,zAZ 3 33 32,zAX 4 34 11 31 33,zAA 5 35 34,zAR 6 36 1 1 35,zAN 7 37 36 35,zAs 8 38 37 1 35,zAK 9 39 35 38,zAA 10 40 39,zAR 11 41 0 2 40,zAN 12 42 41 40,zAr 13 43 1 0 40,zBx 14 44 43 40,zBH 15 45 11 42 44 40,zAK 16 46 40 45,zAA 17 47 46,zAR 18 48 0 3 47,zAN 19 49 48 47,zAr 20 50 2 0 47,zAr 21 51 6 0 47,zAr 22 52 0 2 47,zAr 23 53 8 1 47,⟨24, some 54, .a (.bslice 2 4 [(.int .i64 0), (.int .i64 0)] [(0, 2, (.t 50)), (2, 2, (.t 51)), (4, 2, (.t 52)), (6, 2, (.t 53))]), (some (47, true)), none, [], false⟩,zBH 25 55 11 49 54 47,zAK 26 56 47 55,zAA 27 57 56,zAR 28 58 2 3 57,zAN 29 59 58 57,zAs 30 60 59 0 57,zAK 31 61 57 60,zAA 32 7 61]
def f8r6 : L:=[zAC 0 62 2 5,zAB 1 63 62,zAV 2 64 63 150,zAA 3 65 64,zAR 4 66 1 5 65,zAN 5 67 66 65,zAs 6 68 67 0 65,zAK 7 69 65 68,zAA 8 70 69,zAR 9 71 0 5 70,zAN 10 72 71 70,zCi 11 73 72 70,zAs 12 74 73 0 70,zAK 13 75 70 74,zAA 14 76 75,zAW 15 77 6 76,zCi 16 78 77 76,zAs 17 79 78 2 76,zAK 18 80 76 79,zAA 19 81 80,zAW 20 82 6 81,zCJ 21 83 1 82 0 81,zAN 22 84 83 81,⟨23, some 85, .p (.bin .eql (.t 84) (.c (.one (.int .u8 60)))), (some (81, true)), none, [], false⟩,zAK 24 86 81 85,zAA 25 87 86,zAW 26 88 6 87,zCJ 27 89 1 88 1 87,zAN 28 90 89 87,⟨29, some 91, .p (.bin .eql (.t 90) (.c (.one (.int .u8 25)))), (some (87, true)), none, [], false⟩,zAK 30 92 87 91,zAA 31 8 92]
def f8r7 : L:=[zAc 0 93 1 1,⟨1, some 94, .cf 12 [(.c (.one (.int .i64 0))), (.t 93)], none, none, [], false⟩,zAc 2 95 3 3,zAc 3 96 4 3,zAc 4 97 3 4,zAc 5 98 2 5,zAc 6 99 3 5,⟨7, some 100, .a (.bslice 2 5 [(.int .i64 0), (.int .i64 0)] [(0, 2, (.t 95)), (2, 2, (.t 96)), (4, 2, (.t 97)), (6, 2, (.t 98)), (8, 2, (.t 99))]), none, none, [], false⟩,zAX 8 101 11 94 100,zAA 9 9 101]
def f8r8 : L:=[zAA 0 102 7,zAA 1 103 102,zAW 2 104 8 103,zAK 3 105 103 104,zAA 4 106 105,zAW 5 107 9 106,zAK 6 108 106 107,zAA 7 109 108,zBb 8 110 109,zCC 9 111 27 110 109,zAr 10 112 2 1 109,zBx 11 113 112 109,zBH 12 114 19 111 113 109,zAK 13 115 109 114,zAA 14 116 115,zBb 15 117 116,zCC 16 118 27 117 116,⟨17, some 119, .cf 19 [(.t 118), (.c (.one .nils))], (some (116, true)), none, [], false⟩,⟨18, some 120, .p (.not (.t 119)), (some (116, true)), none, [], false⟩,zAK 19 121 116 120,zAA 20 122 121,zBb 21 123 122,zCC 22 124 27 123 122,zAr 23 125 0 0 122,zBx 24 126 125 122,zBH 25 127 19 124 126 122,⟨26, some 128, .p (.not (.t 127)), (some (122, true)), none, [], false⟩,zAK 27 129 122 128,zAA 28 0 129]
def f8c : SC:=(.seq (.ops f8r0 0) (.seq (.ops f8r1 0) (.seq (.ops f8r2 0) (.seq (.ops f8r3 0) (.seq (.ops f8r4 0) (.seq (.ops f8r5 0) (.seq (.ops f8r6 0) (.seq (.ops f8r7 0) (.seq (.ops f8r8 0) .ret)))))))))
def f8 : SFn := ⟨130, f8c, [.t 0]⟩

def f9r0 : L:=[zAb 0 2]
def f9r1 : L:=[zAA 0 3 0,zAd 1 4 3 0,zAA 2 5 4,zAa 3 6 0 5,zBX 4 7 6 8 5,zAI 5 8 5 7]
def f9r2 : L:=[zAb 0 2]
def f9r3 : L:=[zAA 0 9 0,⟨1, some 10, .p (.aaddr 8 1 (.c (.one (.ptr 0 0))) (.t 9)), none, none, [], false⟩,zAB 2 11 10,zCS 3 12 11,zAA 4 2 12]
def f9c : SC:=zCb f9r0 f9r1 8 f9r2 f9r3
def f9 : SFn := ⟨13, f9c, [.t 2]⟩

def f10r0 : L:=[zAb 0 2]
def f10r1 : L:=[⟨0, some 3, .a (.bslice 1 8 [(.int .u8 0)] [(0, 1, (.c (.one (.int .u8 1)))), (1, 1, (.c (.one (.int .u8 3)))), (2, 1, (.c (.one (.int .u8 9)))), (3, 1, (.c (.one (.int .u8 25)))), (4, 1, (.c (.one (.int .u8 17)))), (5, 1, (.c (.one (.int .u8 11)))), (6, 1, (.c (.one (.int .u8 27)))), (7, 1, (.c (.one (.int .u8 19))))]), none, none, [], false⟩,zAA 1 4 0,zAL 2 5 1 3 4,zAB 3 6 5,zCS 4 7 6,zAA 5 2 7]
def f10c : SC:=zBC f10r0 f10r1 0
def f10 : SFn := ⟨8, f10c, [.t 2]⟩

def f11r0 : L:=[zAG 0 4]
def f11r1 : L:=[zAA 0 6 0,zAJ 1 7 6,zAA 2 8 1,zAJ 3 9 8,zBe 4 10 7 9]
def f11r2 : L:=[zAG 0 4]
def f11r3 : L:=[zAF 0 5 0]
def f11r4 : L:=[zAA 0 11 5,zAA 1 12 0,zAJ 2 13 12,zAQ 3 14 11 13]
def f11r5 : L:=[zAA 0 17 0,zAA 1 18 5,zAL 2 19 2 17 18,zAD 3 20 2 19,zAA 4 21 1,zAA 5 22 5,zAL 6 23 2 21 22,zAD 7 24 2 23,⟨8, some 25, .p (.eqs true [(0, false), (1, false)] (.t 20) (.t 24)), none, none, [], false⟩]
def f11r6 : L:=[zAG 0 4]
def f11r7 : L:=[zAA 0 15 5,zAE 1 16 15 1,zAA 2 5 16]
def f11b0 : SC:=zAo f11r4 14 0 1 f11r5 9 25 f11r6 f11r7
def f11r8 : L:=[zAq 4]
def f11c : SC:=zBY f11r0 f11r1 10 f11r2 f11r3 f11b0 f11r8
def f11 : SFn := ⟨26, f11c, [.t 4]⟩

def f12r0 : L:=[zAO 0 3 1,zAb 1 4]
def f12r1 : L:=[zAA 0 9 0,zAS 1 10 9 9,zAA 2 5 10]
def f12r2 : L:=[zAb 0 6]
def f12r3 : L:=[zAF 0 11 0]
def f12r4 : L:=[zAd 0 12 11 3]
def f12r5 : L:=[zAA 0 13 11,zAA 1 7 13]
def f12r6 : L:=[zAA 0 14 5,zAJ 1 15 14,zAf 2 16 2 15,zAF 3 17 0]
def f12r7 : L:=[zAQ 0 18 17 16]
def f12r8 : L:=[zAA 0 19 17,zAA 1 8 19]
def f12r9 : L:=[zAA 0 20 5,zAA 1 21 8,zBi 2 22 21 2,zAL 3 23 1 20 22,zAB 4 24 23,zAA 5 25 8,zAz 6 26 25 2,zAf 7 27 3 26,zAA 8 28 7,zAi 9 29 27 28,zCj 10 30 24 29,zCy,zCA 12 32 31]
def f12r10 : L:=[zAA 0 33 6,zAC 1 34 0 3,zAB 2 35 34,zAf 3 36 2 35,zAA 4 37 8,zAi 5 38 36 37,zAC 6 39 1 3,zAB 7 40 39,zAf 8 41 3 40,zAA 9 42 7,zAi 10 43 41 42,zAU 11 44 38 43,zAZ 12 45 44,zAY 13 46 2 16 33 45,zAA 14 6 46]
def f12r11 : L:=[zAE 0 47 17 1,zAA 1 17 47]
def f12b0 : SC:=(.seq (.ops f12r7 0) (.seq (.cond (.t 18) .skip (.exit 2)) (.seq (.block 3 (.seq (.ops f12r8 0) (.seq (.ops f12r9 0) (.cond (.t 32) (.ops f12r10 0) .skip)))) (.ops f12r11 0))))
def f12r12 : L:=[zAE 0 48 11 1,zAA 1 11 48]
def f12b1 : SC:=zBP f12r4 12 0 1 f12r5 f12r6 2 f12b0 f12r12
def f12r13 : L:=[zAA 0 49 6,zAA 1 4 49]
def f12c : SC:=(.seq (.ops f12r0 0) (.seq (.ops f12r1 0) (.seq (.ops f12r2 0) (.seq (.seq (.ops f12r3 0) (.block 0 (.loop f12b1))) (.seq (.ops f12r13 0) .ret)))))
def f12 : SFn := ⟨50, f12c, [.t 4]⟩

def f13r0 : L:=[zAO 0 3 1,zAb 1 4]
def f13r1 : L:=[zAt 0 9,zAA 1 10 0,zAS 2 11 10 10,zAA 3 5 9,zAA 4 6 11]
def f13r2 : L:=[zAF 0 7 0]
def f13r3 : L:=[zAA 0 12 7,zAd 1 13 12 3]
def f13r4 : L:=[zAF 0 8 0]
def f13r5 : L:=[zAA 0 16 8,zAd 1 17 16 4]
def f13r6 : L:=[zAA 0 20 6,zAA 1 21 8,zBi 2 22 21 2,zAL 3 23 1 20 22,zAB 4 24 23,zAA 5 25 8,zAz 6 26 25 2,zAf 7 27 3 26,zAA 8 28 7,zAi 9 29 27 28,zCj 10 30 24 29,zCy,zCA 12 32 31]
def f13r7 : L:=[zAA 0 33 5,zAC 1 34 0 3,zAB 2 35 34,zAf 3 36 2 35,zAA 4 37 8,zAi 5 38 36 37,zAC 6 39 1 3,zAB 7 40 39,zAf 8 41 3 40,zAA 9 42 7,zAi 10 43 41 42,zAU 11 44 38 43,zAZ 12 45 44,zAY 13 46 2 16 33 45,zAA 14 5 46]
def f13r8 : L:=[zAA 0 18 8,zAE 1 19 18 1,zAA 2 8 19]
def f13b0 : SC:=zBh f13r5 17 2 3 f13r6 32 f13r7 f13r8
def f13r9 : L:=[zAA 0 14 7,zAE 1 15 14 1,zAA 2 7 15]
def f13b1 : SC:=zAw f13r3 13 0 1 f13r4 2 f13b0 f13r9
def f13r10 : L:=[zAA 0 47 5,zAA 1 4 47]
def f13c : SC:=zAg f13r0 f13r1 f13r2 f13b1 f13r10
def f13 : SFn := ⟨48, f13c, [.t 4]⟩

def f14r0 : L:=[zAO 0 1 0,zAp 1 2,zAG 2 3]
def f14r1 : L:=[zAC 0 5 3 1,zAB 1 6 5,zAC 2 7 3 1,zAB 3 8 7,zAJ 4 9 8,zCu 10 9 3,zBl 6 11 6 6 10,zAC 7 12 3 1,zAH 8 1 12 11]
def f14r2 : L:=[zAD 0 13 4 1,zAS 1 14 28 13,zAp 2 4,zAH 3 4 4 14]
def f14r3 : L:=[zBN 0 15 4 4,zAD 1 16 4 4,zCf 2 17 29 16 0,zAH 3 4 2 15,zAA 4 3 17]
def f14c : SC:=(.seq (.ops f14r0 0) (.seq (.ops f14r1 0) (.seq (.ops f14r2 0) (.seq (.ops f14r3 5) .ret))))
def f14 : SFn := ⟨18, f14c, [.cell true 4 2, .t 3]⟩

def f15r0 : L:=[zAO 0 2 0,zAO 1 3 1,zAG 2 4]
def f15r1 : L:=[zAC 0 5 0 2,zAB 1 6 5,zAC 2 7 0 3,zAB 3 8 7,zAX 4 9 11 6 8,zAA 5 10 9,zAR 6 11 1 2 10,zAN 7 12 11 10,zAR 8 13 1 3 10,zAN 9 14 13 10,zCY 10 15 12 14 10,zAK 11 16 10 15,zAA 12 17 16,zAR 13 18 2 2 17,zAN 14 19 18 17,zAR 15 20 2 3 17,zAN 16 21 20 17,zCY 17 22 19 21 17,zAK 18 23 17 22,zAA 19 4 23]
def f15c : SC:=zBC f15r0 f15r1 0
def f15 : SFn := ⟨24, f15c, [.t 4]⟩

def f16r0 : L:=[zAO 0 1 0,zBD 1 2]
def f16r1 : L:=[zAD 0 7 4 1,zAS 1 8 30 7,zAA 2 6 8,zAj 3 9 6 0,zAj 4 10 6 1,zAj 5 11 6 2,zAA 6 3 9,zAA 7 4 10,zAA 8 5 11]
def f16r2 : L:=[zAA 0 12 3,zAA 1 13 4,zAA 2 14 5,⟨3, some 15, .p (.build [.nils, (.int .i64 0), (.int .i64 0)] [(0, 1, (.t 12)), (1, 1, (.t 13)), (2, 1, (.t 14))]), none, none, [], false⟩,zAH 4 3 2 15]
def f16c : SC:=(.seq (.ops f16r0 0) (.seq (.ops f16r1 0) (.seq (.ops f16r2 0) .ret)))
def f16 : SFn := ⟨16, f16c, [.cell true 3 2]⟩

def f17r0 : L:=[zAO 0 1 0,zBD 1 2]
def f17r1 : L:=[zCB 0 7,zAt 1 8,zAA 2 3 7,zAA 3 4 8]
def f17r2 : L:=[zAF 0 5 0]
def f17r3 : L:=[zAA 0 9 5,zAC 1 10 3 1,zAB 2 11 10,zAJ 3 12 11,zAQ 4 13 9 12]
def f17r4 : L:=[zAA 0 16 3,zAD 1 17 4 1,zAA 2 18 5,zAX 3 19 26 17 18,zBm 4 20 19,zAY 5 21 1 24 16 20,zAA 6 3 21]
def f17r5 : L:=[zAD 0 22 4 1,zAA 1 23 3,⟨2, some 24, .cf 31 [(.t 22), (.c (.one .nils)), (.t 23)], none, none, [], false⟩,zAA 3 6 24]
def f17r6 : L:=[zAA 0 25 6,zAJ 1 26 25,zAA 2 27 5,zAm 3 28 26 27]
def f17r7 : L:=[zAA 0 29 5,⟨1, some 30, .p (.build [.nils, (.int .i64 0), (.int .i64 0)] [(1, 1, (.t 29)), (2, 1, (.c (.one (.int .i64 150))))]), none, none, [], false⟩,zAH 2 3 2 30]
def f17r8 : L:=[zAA 0 31 6,zAA 1 4 31]
def f17r9 : L:=[zAA 0 14 5,zAE 1 15 14 1,zAA 2 5 15]
def f17b0 : SC:=(.seq (.seq (.ops f17r3 0) (.cond (.t 13) .skip (.exit 0))) (.seq (.block 1 (.seq (.ops f17r4 0) (.seq (.ops f17r5 0) (.seq (.seq (.ops f17r6 0) (.cond (.t 28) (.seq (.ops f17r7 0) .ret) .skip)) (.ops f17r8 0))))) (.ops f17r9 0)))
def f17r10 : L:=[zAA 0 32 4,zAA 1 33 4,zAJ 2 34 33,⟨3, some 35, .p (.build [.nils, (.int .i64 0), (.int .i64 0)] [(0, 1, (.t 32)), (1, 1, (.t 34))]), none, none, [], false⟩,zAH 4 3 2 35]
def f17c : SC:=zAg f17r0 f17r1 f17r2 f17b0 f17r10
def f17 : SFn := ⟨36, f17c, [.cell true 3 2]⟩

def f18r0 : L:=[zAO 0 2 0,zAG 1 4]
def f18r1 : L:=[zAA 0 5 1,zAJ 1 6 5,zAC 2 7 3 2,zAB 3 8 7,zAJ 4 9 8,zBo 5 10 6 9,zAA 6 11 10,zBJ 7 12 4 2 11,zAW 8 13 1 11,zBH 9 14 25 12 13 11,zAK 10 15 11 14,zAA 11 4 15]
def f18c : SC:=zBC f18r0 f18r1 0
def f18 : SFn := ⟨16, f18c, [.t 4]⟩

def f19r0 : L:=[zAO 0 2 0,zAG 1 4]
def f19r1 : L:=[zAA 0 9 1,zAJ 1 10 9,zAC 2 11 3 2,zAB 3 12 11,zAJ 4 13 12,zBe 5 14 10 13,zAA 6 15 14,zBA 7 16 4 2 15,⟨8, some 17, .cf 32 [(.t 16)], (some (15, false)), none, [], false⟩,zBd 9 18 17 15,zAI 10 19 15 18]
def f19r2 : L:=[zAG 0 4]
def f19r3 : L:=[zAD 0 20 4 2,zAS 1 21 33 20,zAA 2 5 21]
def f19r4 : L:=[zAA 0 22 1,zAJ 1 23 22,zAF 2 24 0]
def f19r5 : L:=[zAQ 0 25 24 23]
def f19r6 : L:=[zAA 0 26 24,zAL 1 27 2 22 24,zAD 2 28 2 27,zAT 3 7,zAA 4 6 26,zAH 5 2 7 28]
def f19r7 : L:=[zAA 0 29 5,zAA 1 30 6,zAD 2 31 2 7,zBG 3 32 34 29 30 31,zAk 4 33 32]
def f19r8 : L:=[zAG 0 4]
def f19r9 : L:=[zAA 0 34 6,zAF 1 35 0]
def f19r10 : L:=[zAQ 0 36 35 34]
def f19r11 : L:=[zAA 0 37 35,zAA 1 8 37]
def f19r12 : L:=[zAA 0 38 5,zAA 1 39 8,zAA 2 40 1,zAA 3 41 8,zAL 4 42 2 40 41,zAD 5 43 2 42,zAA 6 44 6,zAD 7 45 2 7,⟨8, some 46, .cf 35 [(.t 38), (.t 39), (.t 43), (.t 44), (.t 45)], none, none, [], false⟩]
def f19r13 : L:=[zAG 0 4]
def f19r14 : L:=[zAE 0 47 35 1,zAA 1 35 47]
def f19b0 : SC:=zAx f19r10 36 2 3 f19r11 f19r12 9 46 f19r13 f19r14
def f19r15 : L:=[zAE 0 48 24 1,zAA 1 24 48]
def f19b1 : SC:=zBg f19r5 25 f19r6 f19r7 33 f19r8 f19r9 f19b0 f19r15
def f19r16 : L:=[zAq 4]
def f19c : SC:=zBK f19r0 f19r1 0 19 f19r2 f19r3 0 f19r4 f19b1 f19r16 0
def f19 : SFn := ⟨49, f19c, [.t 4]⟩

def f20r0 : L:=[zAO 0 1 0,⟨1, some 2, .a (.alloc [(.int .i64 0), (.int .i64 0), (.int .i64 0)]), none, none, [], false⟩]
def f20r1 : L:=[zAD 0 8 4 1,zAS 1 9 29 8,zAk 2 10 9]
def f20r2 : L:=[⟨0, some 11, .p (.build [(.int .i64 0), (.int .i64 0), (.int .i64 0)] [(2, 1, (.c (.one (.int .i64 1))))]), none, none, [], false⟩,zAH 1 3 2 11]
def f20r3 : L:=[zAD 0 12 4 1,zBN 2 14 4 1,zCf 1 13 21 12 2,zAS 3 15 36 14,zAA 4 3 13,zAA 5 4 15]
def f20r4 : L:=[zAF 0 5 0]
def f20r5 : L:=[zAA 0 16 5,zAA 1 17 3,zAJ 2 18 17,zAQ 3 19 16 18]
def f20r6 : L:=[zAA 0 22 3,zAA 1 23 5,zAL 2 24 1 22 23,zAB 3 25 24,zAC 4 26 2 1,zAB 5 27 26,zAX 6 28 23 25 27,zAJ 7 29 28,zBT 8 30 29 1]
def f20r7 : L:=[zAA 0 31 5,zAA 1 32 5,zBz 33 31 32 130,zAH 3 3 2 33]
def f20r8 : L:=[zAA 0 20 5,zAE 1 21 20 1,zAA 2 5 21]
def f20b0 : SC:=zAo f20r5 19 0 1 f20r6 9 30 f20r7 f20r8
def f20r9 : L:=[zAF 0 6 0]
def f20r10 : L:=[zAA 0 34 6,zAA 1 35 3,zAJ 2 36 35,zAQ 3 37 34 36]
def f20r11 : L:=[zAA 0 40 6,zAE 1 41 40 1,zAA 2 7 41]
def f20r12 : L:=[zAA 0 42 7,zAA 1 43 3,zAJ 2 44 43,zAQ 3 45 42 44]
def f20r13 : L:=[zAA 0 48 4,zAA 1 49 6,zAL 2 50 1 48 49,zAB 3 51 50,zAA 4 52 7,zAL 5 53 1 51 52,zAB 6 54 53,zAC 7 55 2 1,zAB 8 56 55,zAm 9 57 54 56]
def f20r14 : L:=[zAA 0 58 6,zAA 1 59 7,zBz 60 58 59 140,zAH 3 3 2 60]
def f20r15 : L:=[zAA 0 46 7,zAE 1 47 46 1,zAA 2 7 47]
def f20b1 : SC:=zAo f20r12 45 4 5 f20r13 10 57 f20r14 f20r15
def f20r16 : L:=[zAA 0 38 6,zAE 1 39 38 1,zAA 2 6 39]
def f20b2 : SC:=zAw f20r10 37 2 3 f20r11 4 f20b1 f20r16
def f20r17 : L:=[⟨0, some 61, .p (.build [(.int .i64 0), (.int .i64 0), (.int .i64 0)] []), none, none, [], false⟩,zAH 1 3 2 61]
def f20c : SC:=(.seq (.ops f20r0 0) (.seq (.seq (.ops f20r1 0) (.cond (.t 10) (.seq (.ops f20r2 0) .ret) .skip)) (.seq (.ops f20r3 6) (.seq (.seq (.ops f20r4 0) (.block 0 (.loop f20b0))) (.seq (.seq (.ops f20r9 0) (.block 2 (.loop f20b2))) (.seq (.ops f20r17 0) .ret))))))
def f20 : SFn := ⟨62, f20c, [.cell true 3 2]⟩

def f21r0 : L:=[zAO 0 1 0,zAb 1 2]
def f21r1 : L:=[zCB 0 5,zAA 1 3 5]
def f21r2 : L:=[zAF 0 4 0]
def f21r3 : L:=[zAA 0 6 4,zAC 1 7 3 1,zAB 2 8 7,zAJ 3 9 8,zAQ 4 10 6 9]
def f21r4 : L:=[zAA 0 13 3,zAC 1 14 3 1,zAB 2 15 14,zAA 3 16 4,zAL 4 17 3 15 16,zAD 5 18 3 17,zAS 6 19 37 18,zBm 7 20 19,zAY 8 21 1 24 13 20,zAA 9 3 21]
def f21r5 : L:=[zAA 0 11 4,zAE 1 12 11 1,zAA 2 4 12]
def f21b0 : SC:=zBB f21r3 10 0 1 f21r4 0 f21r5
def f21r6 : L:=[zAA 0 22 3,zAA 1 2 22]
def f21c : SC:=zAg f21r0 f21r1 f21r2 f21b0 f21r6
def f21 : SFn := ⟨23, f21c, [.t 2]⟩

def f22r0 : L:=[zAb 0 2]
def f22r1 : L:=[zAt 0 7,zAA 1 3 7]
def f22r2 : L:=[zAF 0 4 0]
def f22r3 : L:=[zAA 0 8 4,zAA 1 9 0,zAJ 2 10 9,zAQ 3 11 8 10]
def f22r4 : L:=[zAA 0 14 3,zAA 1 15 0,zAA 2 16 4,zAL 3 17 2 15 16,zAD 4 18 2 17,zAX 5 19 38 14 18]
def f22r5 : L:=[zAA 0 20 3,zAJ 1 21 20,zAA 2 5 21]
def f22r6 : L:=[zAA 0 22 5,zBU 1 23 22 0,zAA 2 24 23,zAW 3 25 0 24,zAW 4 26 4 24,zBq 5 27 2 25 26 24,zBJ 6 28 2 27 24,zAW 7 29 3 24,zAW 8 30 5 24,⟨9, some 31, .p (.bin .sub (.t 30) (.c (.one (.int .i64 1)))), (some (24, true)), none, [], false⟩,zBq 10 32 2 29 31 24,zBJ 11 33 2 32 24,zBH 12 34 24 28 33 24,zAK 13 35 24 34]
def f22r7 : L:=[zAA 0 36 5,zBF 1 37 36,zAA 2 5 37]
def f22b0 : SC:=(.seq (.seq (.ops f22r6 14) (.cond (.t 35) .skip (.exit 2))) (.block 3 (.ops f22r7 0)))
def f22r8 : L:=[zAt 0 38,zAA 1 39 3,zAA 2 40 5,⟨3, some 41, .p (.slice 2 (.t 39) (some (.t 40)) none none), none, none, [], false⟩,zAY 4 42 2 16 38 41,zAA 5 6 42]
def f22r9 : L:=[zAA 0 43 3,zAA 1 44 5,zBl 2 45 2 43 44,zAA 3 46 0,zAA 4 47 4,zAL 5 48 2 46 47,zAD 6 49 2 48,zBR 7 50 49,zAY 8 51 2 16 45 50,zAA 9 3 51]
def f22r10 : L:=[zAA 0 52 3,zAA 1 53 6,zAY 2 54 2 16 52 53,zAA 3 3 54]
def f22r11 : L:=[zAA 0 12 4,zAE 1 13 12 1,zAA 2 4 13]
def f22b1 : SC:=(.seq (.seq (.ops f22r3 0) (.cond (.t 11) .skip (.exit 0))) (.seq (.block 1 (.seq (.seq (.ops f22r4 0) (.cond (.t 19) (.exit 1) .skip)) (.seq (.ops f22r5 0) (.seq (.block 2 (.loop f22b0)) (.seq (.ops f22r8 0) (.seq (.ops f22r9 10) (.ops f22r10 0))))))) (.ops f22r11 0)))
def f22r12 : L:=[zAA 0 55 3,zAA 1 2 55]
def f22c : SC:=zAg f22r0 f22r1 f22r2 f22b1 f22r12
def f22 : SFn := ⟨56, f22c, [.t 2]⟩

def f23r0 : L:=[zAb 0 4]
def f23r1 : L:=[zAA 0 12 0,zAS 1 13 22 12,zCB 2 14,zAA 3 5 13,zAA 4 6 14]
def f23r2 : L:=[zAA 0 15 5,zAJ 1 16 15,zBU 2 17 16 0]
def f23r3 : L:=[zAA 0 18 5,zBE 1 19 18 0,zAD 2 20 2 19,zAZ 3 21 20,zAA 4 7 21]
def f23r4 : L:=[zAq 8]
def f23r5 : L:=[zAA 0 22 8]
def f23r6 : L:=[zAG 0 8]
def f23r7 : L:=[zAF 0 9 0]
def f23r8 : L:=[zAA 0 23 9,zAA 1 24 5,zAJ 2 25 24,zAQ 3 26 23 25]
def f23r9 : L:=[zAA 0 29 7,zAA 1 30 5,zAA 2 31 9,zAL 3 32 2 30 31,zAD 4 33 2 32,zAX 5 34 38 29 33,zAk 6 35 34,zAA 7 36 35,zAW 8 37 7 36,zAW 9 38 5 36,zAW 10 39 9 36,zAW 11 40 9 36,⟨12, some 41, .p (.bin .add (.t 40) (.c (.one (.int .i64 1)))), (some (36, true)), none, [], false⟩,⟨13, some 42, .p (.slice 2 (.t 38) (some (.t 39)) (some (.t 41)) none), (some (36, true)), none, [], false⟩,zBH 14 43 39 37 42 36,zAW 15 44 1 36,zBc 16 45 43 44 36,zAK 17 46 36 45]
def f23r10 : L:=[zAA 0 47 7,zAA 1 48 5,zAA 2 49 9,zAL 3 50 2 48 49,zAD 4 51 2 50,zAZ 5 52 51,zAY 6 53 2 16 47 52,zAA 7 7 53]
def f23r11 : L:=[zAq 8]
def f23r12 : L:=[zAA 0 27 9,zAE 1 28 27 1,zAA 2 9 28]
def f23b0 : SC:=(.seq (.seq (.ops f23r8 0) (.cond (.t 26) .skip (.exit 4))) (.seq (.block 5 (.seq (.ops f23r9 0) (.cond (.t 46) (.seq (.ops f23r10 0) (.ops f23r11 0)) .skip))) (.ops f23r12 0)))
def f23b1 : SC:=(.seq (.seq (.ops f23r5 0) (.cond (.t 22) .skip (.exit 2))) (.block 3 (.seq (.ops f23r6 0) (.seq (.ops f23r7 0) (.block 4 (.loop f23b0))))))
def f23r13 : L:=[zAt 0 54,zAA 1 10 54]
def f23r14 : L:=[zAF 0 11 0]
def f23r15 : L:=[zAA 0 55 11,zAA 1 56 5,zAJ 2 57 56,zAQ 3 58 55 57]
def f23r16 : L:=[zAA 0 61 7,zAA 1 62 5,zAA 2 63 11,zAL 3 64 2 62 63,zAD 4 65 2 64,zAX 5 66 38 61 65,zAk 6 67 66]
def f23r17 : L:=[zAA 0 68 10,zAA 1 69 5,zAA 2 70 11,zAL 3 71 2 69 70,zAD 4 72 2 71,zAZ 5 73 72,zAY 6 74 2 16 68 73,zAA 7 10 74]
def f23r18 : L:=[zAA 0 59 11,zAE 1 60 59 1,zAA 2 11 60]
def f23b2 : SC:=zBh f23r15 58 6 7 f23r16 67 f23r17 f23r18
def f23r19 : L:=[zAA 0 75 10,zAA 1 76 6,zAA 2 77 7,zAS 3 78 22 77,zBm 4 79 78,zAY 5 80 1 24 76 79,zAA 6 5 75,zAA 7 6 80]
def f23b3 : SC:=(.seq (.seq (.ops f23r2 0) (.cond (.t 17) .skip (.exit 0))) (.block 1 (.seq (.ops f23r3 0) (.seq (.seq (.ops f23r4 0) (.block 2 (.loop f23b1))) (.seq (.ops f23r13 0) (.seq (.seq (.ops f23r14 0) (.block 6 (.loop f23b2))) (.ops f23r19 0)))))))
def f23r20 : L:=[zAA 0 81 6,zAA 1 4 81]
def f23c : SC:=(.seq (.ops f23r0 0) (.seq (.ops f23r1 0) (.seq (.block 0 (.loop f23b3)) (.seq (.ops f23r20 0) .ret))))
def f23 : SFn := ⟨82, f23c, [.t 4]⟩

def f24r0 : L:=[zAO 0 2 0,zAO 1 3 1,zAG 2 4]
def f24r1 : L:=[zAC 0 5 1 2,zAB 1 6 5,zAC 2 7 1 3,zAB 3 8 7,zAQ 4 9 6 8,zAA 5 10 9,zAP 6 11 1 2 10,zAM 7 12 11 10,zAP 8 13 1 3 10,zAM 9 14 13 10,⟨10, some 15, .p (.bin .eql (.t 12) (.t 14)), (some (10, false)), none, [], false⟩,zAa 11 16 15 10,zAR 12 17 0 2 16,zAN 13 18 17 16,zAR 14 19 0 3 16,zAN 15 20 19 16,⟨16, some 21, .p (.bin .lss (.t 18) (.t 20)), (some (16, true)), none, [], false⟩,zCG 17 22 16 21 10,zAI 18 23 10 22,zAA 19 4 23]
def f24c : SC:=zBC f24r0 f24r1 0
def f24 : SFn := ⟨24, f24c, [.t 4]⟩

def f25r0 : L:=[zAO 0 2 0,zAG 1 4]
def f25r1 : L:=[zAA 0 7 1,zAJ 1 8 7,zAC 2 9 3 2,zAB 3 10 9,zAJ 4 11 10,zBp 5 12 8 11]
def f25r2 : L:=[zAG 0 4]
def f25r3 : L:=[zAF 0 5 0]
def f25r4 : L:=[zAA 0 13 5,zAA 1 14 1,zAJ 2 15 14,zAQ 3 16 13 15]
def f25r5 : L:=[zAD 0 19 4 2,zAA 1 20 5,zAA 2 21 1,zAA 3 22 5,zAL 4 23 2 21 22,zAD 5 24 2 23,zBG 6 25 40 19 20 24,zAk 7 26 25]
def f25r6 : L:=[zAG 0 4]
def f25r7 : L:=[zAF 0 6 0]
def f25r8 : L:=[zAA 0 27 6,zAA 1 28 5,zAQ 2 29 27 28]
def f25r9 : L:=[zAA 0 32 5,zAA 1 33 1,zAA 2 34 5,zAL 3 35 2 33 34,zAD 4 36 2 35,zAA 6 38 6,zAA 7 39 1,zAA 8 40 6,zAL 9 41 2 39 40,zBN 10 42 2 41,zAC 13 45 2 2,zAu 14 46 45,zCh 5 37 13 32 36 14 10,zBL 11 43 13 38 42 14,zBL 12 44 39 37 43 14,zAm 15 47 44 46]
def f25r10 : L:=[zAG 0 4]
def f25r11 : L:=[zAA 0 30 6,zAE 1 31 30 1,zAA 2 6 31]
def f25b0 : SC:=zAo f25r8 29 2 3 f25r9 16 47 f25r10 f25r11
def f25r12 : L:=[zAA 0 17 5,zAE 1 18 17 1,zAA 2 5 18]
def f25b1 : SC:=(.seq (.seq (.ops f25r4 0) (.cond (.t 16) .skip (.exit 0))) (.seq (.block 1 (.seq (.seq (.ops f25r5 8) (.cond (.t 26) (.seq (.ops f25r6 0) .ret) .skip)) (.seq (.ops f25r7 0) (.block 2 (.loop f25b0))))) (.ops f25r12 0)))
def f25r13 : L:=[zAq 4]
def f25c : SC:=zBY f25r0 f25r1 12 f25r2 f25r3 f25b1 f25r13
def f25 : SFn := ⟨48, f25c, [.t 4]⟩

def f26r0 : L:=[zAO 0 2 0,zAb 1 4]
def f26r1 : L:=[zAt 0 9,zAA 1 5 9]
def f26r2 : L:=[zAF 0 6 0]
def f26r3 : L:=[zAA 0 10 6,zAE 1 11 10 1,zAf 2 12 3 11,zAC 3 13 1 2,zAB 4 14 13,zAm 5 15 12 14]
def f26r4 : L:=[zAF 0 7 0]
def f26r5 : L:=[zAA 0 18 7,zAE 1 19 18 2,zAf 2 20 2 19,zAC 3 21 0 2,zAB 4 22 21,zAm 5 23 20 22]
def f26r6 : L:=[zAA 0 26 7,zAA 1 27 6,zAU 2 28 26 27,zAT 3 8,zAH 4 2 8 28]
def f26r7 : L:=[zAD 0 29 4 2,zAA 1 30 1,zAD 2 31 2 8,zBG 3 32 40 29 30 31]
def f26r8 : L:=[zAA 0 33 5,zAD 1 34 2 8,zAZ 2 35 34,zAY 3 36 2 16 33 35,zAA 4 5 36]
def f26r9 : L:=[zAA 0 24 7,zAE 1 25 24 1,zAA 2 7 25]
def f26b0 : SC:=zBI f26r5 23 2 3 f26r6 0 f26r7 32 f26r8 0 f26r9
def f26r10 : L:=[zAA 0 16 6,zAE 1 17 16 1,zAA 2 6 17]
def f26b1 : SC:=zAw f26r3 15 0 1 f26r4 2 f26b0 f26r10
def f26r11 : L:=[zAA 0 37 5,zAA 1 4 37]
def f26c : SC:=zAg f26r0 f26r1 f26r2 f26b1 f26r11
def f26 : SFn := ⟨38, f26c, [.t 4]⟩

def f27r0 : L:=[zAp 0 2]
def f27r1 : L:=[⟨0, some 5, .p (.build [(.int .i64 0), (.int .i64 0), (.int .i64 0), .nils] [(0, 1, (.c (.one (.int .i64 20)))), (1, 1, (.c (.one (.int .i64 12)))), (2, 1, (.c (.one (.int .i64 2))))]), none, none, [], false⟩,zAp 1 3,zAH 2 4 3 5]
def f27r2 : L:=[zAF 0 4 0]
def f27r3 : L:=[zAA 0 6 4,zAE 1 7 6 1,zAA 2 8 0,zAJ 3 9 8,zAQ 4 10 7 9]
def f27r4 : L:=[zAC 0 13 3 3,zAB 1 14 13,zAA 2 15 0,zAA 3 16 4,zAL 4 17 1 15 16,zAB 5 18 17,zAA 6 19 0,zAA 7 20 4,zAE 8 21 20 1,zAL 9 22 1 19 21,zAB 10 23 22,zAU 11 24 18 23,zBR 12 25 24,zCM 13 26 25,zCa 14 27 26,zAY 15 28 3 40 14 27,zAC 16 29 3 3,zAH 17 1 29 28]
def f27r5 : L:=[zAA 0 11 4,zAE 1 12 11 2,zAA 2 4 12]
def f27b0 : SC:=zBB f27r3 10 0 1 f27r4 18 f27r5
def f27r6 : L:=[zAD 0 30 4 3,zAH 1 4 2 30]
def f27c : SC:=zAg f27r0 f27r1 f27r2 f27b0 f27r6
def f27 : SFn := ⟨31, f27c, [.cell true 4 2]⟩

def f28r0 : L:=[zAO 0 1 0,zAp 1 2]
def f28r1 : L:=[zAC 0 5 0 1,zAB 1 6 5,zBQ 2 7 6 13,zAn 3 8 7,zAf 4 9 2 8,zBV 5 10 12 9,zAC 6 11 1 1,zAB 7 12 11,zBQ 8 13 12 9,zAn 9 14 13,zAf 10 15 3 14,zBV 11 16 12 15,zAC 12 17 2 1,zAB 13 18 17,zBQ 14 19 18 3,zAn 15 20 19,zBV 16 21 2 20,⟨17, some 22, .p (.build [(.int .i64 0), (.int .i64 0), (.int .i64 0), .nils] [(0, 1, (.t 10)), (1, 1, (.t 16)), (2, 1, (.t 21))]), none, none, [], false⟩,zAp 18 3,zAH 19 4 3 22]
def f28r2 : L:=[zAF 0 4 0]
def f28r3 : L:=[zAA 0 23 4,zAC 1 24 3 1,zAB 2 25 24,zAJ 3 26 25,zAQ 4 27 23 26,zAA 5 28 27,zAW 6 29 4 28,zBv 7 30 29 4 28,zAK 8 31 28 30]
def f28r4 : L:=[zAC 0 34 3 3,zAu 1 35 34,zAC 2 36 3 1,zAB 3 37 36,zAA 4 38 4,zAL 5 39 6 37 38,zAD 6 40 6 39,zAC 7 41 0 3,zAB 8 42 41,zAC 9 43 1 3,zAB 10 44 43,⟨11, some 45, .cf 41 [(.t 40), (.t 42), (.t 44)], none, none, [1], false⟩,zCa 12 46 45,zAY 13 47 3 40 35 46,zAC 14 48 3 3,zAH 15 1 48 47]
def f28r5 : L:=[zAA 0 32 4,zAE 1 33 32 1,zAA 2 4 33]
def f28b0 : SC:=zBB f28r3 31 0 1 f28r4 16 f28r5
def f28r6 : L:=[zAC 0 49 3 3,zAB 1 50 49,zAJ 2 51 50,zAV 3 52 51 0]
def f28r7 : L:=[zAc 0 53 1 1,zAZ 1 54 53,zCM 2 55 54,zCe 3 56 55,zAC 4 57 3 3,zAH 5 1 57 56]
def f28r8 : L:=[zAD 0 58 4 3,zAH 1 4 2 58]
def f28c : SC:=(.seq (.ops f28r0 0) (.seq (.ops f28r1 0) (.seq (.seq (.ops f28r2 0) (.block 0 (.loop f28b0))) (.seq (.seq (.ops f28r6 0) (.cond (.t 52) (.ops f28r7 0) .skip)) (.seq (.ops f28r8 0) .ret)))))
def f28 : SFn := ⟨59, f28c, [.cell true 4 2]⟩

def f29r0 : L:=[zAO 0 1 0,zAG 1 2]
def f29r1 : L:=[zAC 0 5 0 1,zAB 1 6 5,zAd 2 7 6 4,zAA 3 8 7,zAP 4 9 0 1 8,zAM 5 10 9 8,zAl 6 11 10 60 8,zAI 7 12 8 11,zAA 8 13 12,zAP 9 14 0 1 13,zAM 10 15 14 13,zBs 11 16 15 2 13,zBt 12 17 16 13,zAI 13 18 13 17,zAA 14 19 18,zAP 15 20 1 1 19,zAM 16 21 20 19,zAv 17 22 21 3 19,zAI 18 23 19 22,zAA 19 24 23,zAP 20 25 1 1 24,zAM 21 26 25 24,zAl 22 27 26 60 24,zAI 23 28 24 27,zAA 24 29 28,zAP 25 30 1 1 29,zAM 26 31 30 29,zBs 27 32 31 3 29,zBt 28 33 32 29,zAI 29 34 29 33,zAA 30 35 34,zAP 31 36 2 1 35,zAM 32 37 36 35,zAv 33 38 37 2 35,zAI 34 39 35 38,zAA 35 40 39,zAP 36 41 2 1 40,zAM 37 42 41 40,zAl 38 43 42 6 40,zAI 39 44 40 43,zAA 40 45 44,zAP 41 46 3 1 45,zAM 42 47 46 45,zBn 43 48 47 45,zAv 44 49 48 1 45,zAI 45 50 45 49,zAA 46 51 50,zAP 47 52 3 1 51,zAM 48 53 52 51,zBn 49 54 53 51,zAl 50 55 54 8 51,zAI 51 56 51 55]
def f29r2 : L:=[zAG 0 2]
def f29r3 : L:=[zAF 0 3 0]
def f29r4 : L:=[zAA 0 57 3,zAC 1 58 3 1,zAB 2 59 58,zAJ 3 60 59,zAQ 4 61 57 60]
def f29r5 : L:=[zAC 0 64 3 1,zAB 1 65 64,zAA 2 66 3,zAL 3 67 3 65 66,zAD 4 68 3 67,zAS 5 69 42 68,zAA 6 4 69]
def f29r6 : L:=[zAA 0 70 4,zAk 1 71 70,zAA 2 72 71,zAP 3 73 3 1 72,zAM 4 74 73 72,zAa 5 75 3 72,zBa 6 76 3 74 75 72,zBA 7 77 3 76 72,zAP 9 79 0 1 72,zDE 10 80 79,zAP 11 81 1 1 72,zDE 12 82 81,⟨8, some 78, .cf 37 [(.t 77)], (some (72, false)), none, [12, 10], false⟩,⟨13, some 83, .cf 43 [(.t 78), (.t 80), (.t 82)], (some (72, false)), none, [], false⟩,zBd 14 84 83 72,zAI 15 85 72 84]
def f29r7 : L:=[zAG 0 2]
def f29r8 : L:=[zAA 0 62 3,zAE 1 63 62 1,zAA 2 3 63]
def f29b0 : SC:=zBy f29r4 61 f29r5 f29r6 16 85 f29r7 f29r8
def f29r9 : L:=[zAq 2]
def f29c : SC:=zBY f29r0 f29r1 56 f29r2 f29r3 f29b0 f29r9
def f29 : SFn := ⟨86, f29c, [.t 2]⟩

def f30r0 : L:=[zAO 0 1 0,zAb 1 2,zAF 2 3 0,zAF 3 4 0]
def f30r1 : L:=[zAD 0 13 4 1,zAS 1 14 32 13,zAk 2 15 14]
def f30r2 : L:=[zAb 0 2,zAF 1 3 0,zAF 2 4 150]
def f30r3 : L:=[zAD 0 16 4 1,zAS 1 17 33 16,⟨2, some 5, .a (.alloc [.nilp]), none, none, [], false⟩,zAH 3 1 5 17]
def f30r4 : L:=[zAC 0 18 3 1,zAB 1 19 18,zAJ 2 20 19,⟨3, some 21, .a (.mkslice 1 24 [.nils] (.t 20) (.t 20)), none, none, [], false⟩,⟨4, some 6, .a (.alloc [.nils]), none, none, [], false⟩,zAH 5 1 6 21]
def f30r5 : L:=[zAB 0 22 6,zAJ 1 23 22,zAF 2 24 0]
def f30r6 : L:=[zAQ 0 25 24 23]
def f30r7 : L:=[zAA 0 26 24,zAA 1 7 26]
def f30r8 : L:=[zAu 0 27 6,zAA 1 28 7,zAB 2 29 5,zAA 3 30 7,zBL 4 31 44 29 30 0,zAL 5 32 1 27 28,zAH 6 1 32 31]
def f30r9 : L:=[zAE 0 33 24 1,zAA 1 24 33]
def f30b0 : SC:=zBZ f30r6 25 0 1 f30r7 f30r8 7 f30r9
def f30r10 : L:=[⟨0, some 8, .a (.alloc [.nils]), none, none, [], false⟩]
def f30r11 : L:=[⟨0, some 9, .a (.alloc [(.int .i64 0)]), none, none, [], false⟩,⟨1, none, .e (.store 1 (.t 9) (.c (.one (.int .i64 0)))), none, none, [], false⟩]
def f30r12 : L:=[⟨0, some 10, .a (.alloc [.nilf]), none, none, [], false⟩]
def f30r13 : L:=[⟨0, some 34, .p (.mkfn 45 [(.t 8), (.t 9), (.t 6), (.t 5), (.t 10)]), none, none, [], false⟩,zAH 1 1 10 34]
def f30r14 : L:=[zAB 0 36 10,⟨1, some 37, .cv (.t 36) [], none, none, [], false⟩,zAA 2 35 37,zAj 3 38 35 0,zAj 4 39 35 1,zAA 5 11 38,zAA 6 12 39]
def f30r15 : L:=[zAA 0 40 11,zAk 1 41 40]
def f30r16 : L:=[zAB 0 42 9,zAb 1 2,zAA 2 3 42,zAF 3 4 150]
def f30r17 : L:=[zAB 0 43 8,zAB 1 44 8,zAJ 2 45 44,zAA 3 2 43,zAA 4 3 45,zAF 5 4 0]
def f30c : SC:=(.seq (.ops f30r0 0) (.seq (.seq (.ops f30r1 0) (.cond (.t 15) (.seq (.ops f30r2 0) .ret) .skip)) (.seq (.ops f30r3 0) (.seq (.ops f30r4 0) (.seq (.seq (.ops f30r5 0) (.block 0 (.loop f30b0))) (.seq (.ops f30r10 0) (.seq (.ops f30r11 0) (.seq (.ops f30r12 0) (.seq (.ops f30r13 0) (.seq (.seq (.ops f30r14 0) (.seq (.ops f30r15 0) (.cond (.t 41) (.seq (.ops f30r16 4) .ret) .skip))) (.seq (.ops f30r17 6) .ret)))))))))))
def f30 : SFn := ⟨46, f30c, [.t 2, .t 3, .t 4]⟩

def f31r0 : L:=[zAO 0 3 0,zAb 1 6]
def f31r1 : L:=[zAA 0 13 1,zAJ 1 14 13,zAA 2 7 14]
def f31r2 : L:=[zAA 0 15 7,zAA 1 16 2,zAJ 2 17 16,zBo 3 18 15 17]
def f31r3 : L:=[zAA 0 19 1,zAA 1 6 19]
def f31r4 : L:=[zAF 0 8 0]
def f31r5 : L:=[zAA 0 20 8,zAA 1 21 2,zAA 2 22 7,zAL 3 23 1 21 22,zAB 4 24 23,zAJ 5 25 24,zAQ 6 26 20 25]
def f31r6 : L:=[zAq 9]
def f31r7 : L:=[zAF 0 10 0]
def f31r8 : L:=[zAA 0 29 10,zAA 1 30 7,zAQ 2 31 29 30]
def f31r9 : L:=[zAA 0 34 9,zAA 1 35 34,zAW 2 36 7 35,zAW 3 37 2 35,zAW 4 38 7 35,zBq 5 39 1 37 38 35,zAN 6 40 39 35,zAW 7 41 8 35,zBq 8 42 2 40 41 35,zBJ 9 43 2 42 35,zAW 11 45 10 35,zAW 12 46 1 35,zAW 13 47 10 35,zBq 14 48 2 46 47 35,⟨15, some 49, .l (.load true 2 (.t 48)), (some (35, true)), none, [], true⟩,zAR 18 52 2 3 35,⟨19, some 53, .l (.load false 1 (.t 52)), (some (35, true)), none, [], true⟩,⟨10, some 44, .cf 13 [(.t 36), (.t 43)], (some (35, true)), none, [19, 15], false⟩,zCd 16 50 13 45 49 35 19,zCd 17 51 39 44 50 35 19,⟨20, some 54, .p (.bin .gtr (.t 51) (.t 53)), (some (35, true)), none, [], false⟩,zAK 21 55 35 54,zAA 22 9 55]
def f31r10 : L:=[zAA 0 32 10,zAE 1 33 32 1,zAA 2 10 33]
def f31b0 : SC:=zBB f31r8 31 2 3 f31r9 23 f31r10
def f31r11 : L:=[zAA 0 56 9,zAk 1 57 56]
def f31r12 : L:=[zAt 0 58,zAA 1 59 1,zAY 2 60 2 16 58 59,zAA 3 11 60]
def f31r13 : L:=[zBN 0 61 4 3,zAA 1 62 11,zAA 2 63 2,zAA 3 64 7,zAL 4 65 1 63 64,zAB 5 66 65,zAA 6 67 8,zAL 7 68 2 66 67,zAD 8 69 2 68,zAA 11 72 2,zBR 9 70 69,⟨10, some 71, .e (.append 2 16 (.t 62) (.t 70)), none, none, [0], false⟩,zBG 12 73 31 61 71 72,zAA 13 12 73]
def f31r14 : L:=[zAA 0 74 12,zAJ 1 75 74,zAA 2 76 2,zAJ 3 77 76,zBo 4 78 75 77]
def f31r15 : L:=[zAA 0 79 12,zAA 1 6 79]
def f31r16 : L:=[zAA 0 27 8,zAE 1 28 27 1,zAA 2 8 28]
def f31b1 : SC:=(.seq (.seq (.ops f31r5 0) (.cond (.t 26) .skip (.exit 0))) (.seq (.block 1 (.seq (.ops f31r6 0) (.seq (.seq (.ops f31r7 0) (.block 2 (.loop f31b0))) (.seq (.seq (.ops f31r11 0) (.cond (.t 57) (.exit 1) .skip)) (.seq (.ops f31r12 0) (.seq (.ops f31r13 14) (.seq (.ops f31r14 0) (.cond (.t 78) (.seq (.ops f31r15 0) .ret) .skip)))))))) (.ops f31r16 0)))
def f31r17 : L:=[zAb 0 6]
def f31c : SC:=zBw f31r0 f31r1 f31r2 18 f31r3 f31r4 f31b1 f31r17
def f31 : SFn := ⟨80, f31c, [.t 6]⟩

def f32r0 : L:=[zAO 0 1 0,zAG 1 2]
def f32r1 : L:=[zAC 0 7 0 1,zAB 1 8 7,zAd 2 9 8 4,zAA 3 10 9,zAP 4 11 0 1 10,zAM 5 12 11 10,zAl 6 13 12 60 10,zAI 7 14 10 13,zAA 8 15 14,zAP 9 16 0 1 15,zAM 10 17 16 15,zBs 11 18 17 2 15,zBt 12 19 18 15,zAI 13 20 15 19,zAA 14 21 20,zAP 15 22 1 1 21,zAM 16 23 22 21,zAv 17 24 23 3 21,zAI 18 25 21 24,zAA 19 26 25,zAP 20 27 1 1 26,zAM 21 28 27 26,zAl 22 29 28 60 26,zAI 23 30 26 29,zAA 24 31 30,zAP 25 32 1 1 31,zAM 26 33 32 31,zBs 27 34 33 3 31,zBt 28 35 34 31,zAI 29 36 31 35]
def f32r2 : L:=[zAG 0 2]
def f32r3 : L:=[zAC 0 37 2 1,zAB 1 38 37,zAd 2 39 38 2,zAA 3 40 39,zAP 4 41 2 1 40,zAM 5 42 41 40,zAl 6 43 42 6 40,zAI 7 44 40 43,zAA 8 45 44,zAP 9 46 3 1 45,zAM 10 47 46 45,zBn 11 48 47 45,zAv 12 49 48 1 45,zAI 13 50 45 49,zAA 14 51 50,zAP 15 52 3 1 51,zAM 16 53 52 51,zBn 17 54 53 51,zAl 18 55 54 8 51,zAI 19 56 51 55]
def f32r4 : L:=[zAG 0 2]
def f32r5 : L:=[zAC 0 57 3 1,zAB 1 58 57,zAJ 2 59 58,zAF 3 60 0]
def f32r6 : L:=[zAQ 0 61 60 59]
def f32r7 : L:=[zAL 0 62 3 58 60,zAD 1 63 3 62,zCP 2 4,zAH 3 3 4 63]
def f32r8 : L:=[zAD 0 64 3 4,zAS 1 65 46 64,zAk 2 66 65]
def f32r9 : L:=[zAG 0 2]
def f32r10 : L:=[zAC 0 67 2 4,zAB 1 68 67,zAJ 2 69 68,zAF 3 70 0]
def f32r11 : L:=[zAQ 0 71 70 69]
def f32r12 : L:=[zAL 0 72 2 68 70,zAD 1 73 2 72,zAT 2 6,zAH 3 2 6 73]
def f32r13 : L:=[zAC 0 74 0 6,zAB 1 75 74,zAC 2 76 0 1,zAB 3 77 76,⟨4, some 78, .p (.bin .geq (.t 75) (.t 77)), none, none, [], false⟩,zAA 5 79 78,zAP 6 80 1 6 79,zAM 7 81 80 79,zAP 8 82 1 1 79,zAM 9 83 82 79,zCD 10 84 81 83 79,zAI 11 85 79 84]
def f32r14 : L:=[zAG 0 2]
def f32r15 : L:=[zAE 0 86 70 1,zAA 1 70 86]
def f32b0 : SC:=zAx f32r11 71 2 3 f32r12 f32r13 0 85 f32r14 f32r15
def f32r16 : L:=[zAE 0 87 60 1,zAA 1 60 87]
def f32b1 : SC:=zBg f32r6 61 f32r7 f32r8 66 f32r9 f32r10 f32b0 f32r16
def f32r17 : L:=[zAq 2]
def f32c : SC:=(.seq (.ops f32r0 0) (.seq (.seq (.ops f32r1 0) (.cond (.t 36) (.seq (.ops f32r2 0) .ret) .skip)) (.seq (.seq (.ops f32r3 0) (.cond (.t 56) (.seq (.ops f32r4 0) .ret) .skip)) (.seq (.seq (.ops f32r5 0) (.block 0 (.loop f32b1))) (.seq (.ops f32r17 0) .ret)))))
def f32 : SFn := ⟨88, f32c, [.t 2]⟩

def f33r0 : L:=[zAO 0 1 0,⟨1, some 2, .p (.mv (.c (.one .nilp))), none, none, [], false⟩]
def f33r1 : L:=[zAD 0 11 4 1,⟨1, some 12, .p (.build ((.int .i64 0) :: (.int .i64 0) :: (.int .i64 0) :: .nils :: .nils :: List.replicate 3600 (.bool false)) [(0, 4, (.t 11))]), none, none, [], false⟩,zAO 2 13 12,zAA 3 3 13]
def f33r2 : L:=[zAC 0 14 3 1,zAB 1 15 14,zAJ 2 16 15,zAF 3 17 0]
def f33r3 : L:=[zAQ 0 18 17 16]
def f33r4 : L:=[zAL 0 19 3 15 17,zAD 1 20 3 19,zCP 2 5,zAH 3 3 5 20]
def f33r5 : L:=[zAD 0 21 3 5,zAS 1 22 47 21,zAA 2 6 22]
def f33r6 : L:=[zAA 0 23 3,zAA 1 24 3,zBW 2 25 24,zAC 3 26 4 25,zAB 4 27 26,zAA 5 28 6,zBm 6 29 28,zAY 7 30 1 24 27 29,zBW 8 31 23,zAC 9 32 4 31,zAH 10 1 32 30]
def f33r7 : L:=[zAA 0 33 6,zAJ 1 34 33,zAF 2 35 0]
def f33r8 : L:=[zAQ 0 36 35 34]
def f33r9 : L:=[zAL 0 37 2 33 35,zAD 1 38 2 37,zAT 2 8,zAH 3 2 8 38]
def f33r10 : L:=[zAC 0 39 1 8,zAB 1 40 39,zAC 2 41 2 1,zAB 3 42 41,zAe 4 43 40 42,zCz 44 43,zAA 6 9 44]
def f33r11 : L:=[zAA 0 45 9,zAC 1 46 1 1,zAB 2 47 46,zBF 3 48 47,zAC 4 49 1 8,zAB 5 50 49,zAC 6 51 2 1,zAB 7 52 51,zAi 8 53 50 52,zBS 9 54 48 53,zAm 10 55 45 54]
def f33r12 : L:=[zAC 0 58 0 8,zAB 1 59 58,zAC 2 60 2 1,zAB 3 61 60,zAe 4 62 59 61,zCz 63 62,zAA 6 10 63]
def f33r13 : L:=[zAA 0 64 10,zAC 1 65 0 1,zAB 2 66 65,zBF 3 67 66,zAC 4 68 0 8,zAB 5 69 68,zAC 6 70 2 1,zAB 7 71 70,zAi 8 72 69 71,zBS 9 73 67 72,zAm 10 74 64 73]
def f33r14 : L:=[zAA 0 77 3,zAA 1 78 9,zAA 2 79 10,zBW 3 80 77,zAC 4 81 5 80,zBM 5 82 60 60 81 78,zBM 6 83 60 1 82 79,zDC 7 83]
def f33r15 : L:=[zAA 0 75 10,zAE 1 76 75 1,zAA 2 10 76]
def f33b0 : SC:=zBB f33r13 74 6 7 f33r14 0 f33r15
def f33r16 : L:=[zAA 0 56 9,zAE 1 57 56 1,zAA 2 9 57]
def f33b1 : SC:=zAw f33r11 55 4 5 f33r12 6 f33b0 f33r16
def f33r17 : L:=[zAE 0 84 35 1,zAA 1 35 84]
def f33b2 : SC:=zBP f33r8 36 2 3 f33r9 f33r10 4 f33b1 f33r17
def f33r18 : L:=[zAE 0 85 17 1,zAA 1 17 85]
def f33b3 : SC:=(.seq (.ops f33r3 0) (.seq (.cond (.t 18) .skip (.exit 0)) (.seq (.block 1 (.seq (.ops f33r4 0) (.seq (.ops f33r5 0) (.seq (.ops f33r6 0) (.seq (.ops f33r7 0) (.block 2 (.loop f33b2))))))) (.ops f33r18 0))))
def f33r19 : L:=[zAA 0 86 3,zAA 1 2 86]
def f33c : SC:=zAg f33r0 f33r1 f33r2 f33b3 f33r19
def f33 : SFn := ⟨87, f33c, [.t 2]⟩

def f34r0 : L:=[zAO 0 5 2,zAG 1 6]
def f34r1 : L:=[zAC 0 10 0 5,zAB 1 11 10,zAd 2 12 11 0,zAA 3 13 12,zAP 4 14 1 5 13,zAM 5 15 14 13,zAv 6 16 15 0 13,zAI 7 17 13 16,zAA 8 18 17,zAP 9 19 0 5 18,zAM 10 20 19 18,zAa 11 21 0 18,⟨12, some 22, .p (.nilck (.t 21)), (some (18, false)), none, [], false⟩,zAP 13 23 0 22 18,zAP 14 24 0 23 18,zAM 15 25 24 18,⟨16, some 26, .p (.bin .quo (.t 25) (.c (.one (.int .i64 2)))), (some (18, false)), none, [], false⟩,⟨17, some 27, .p (.bin .sub (.t 26) (.c (.one (.int .i64 2)))), (some (18, false)), none, [], false⟩,zCE 18 28 20 27 18,zAI 19 29 18 28,zAA 20 30 29,zAP 21 31 1 5 30,zAM 22 32 31 30,zAa 23 33 0 30,⟨24, some 34, .p (.nilck (.t 33)), (some (30, false)), none, [], false⟩,zAP 25 35 0 34 30,zAP 26 36 1 35 30,zAM 27 37 36 30,⟨28, some 38, .p (.bin .quo (.t 37) (.c (.one (.int .i64 3)))), (some (30, false)), none, [], false⟩,⟨29, some 39, .p (.bin .sub (.t 38) (.c (.one (.int .i64 1)))), (some (30, false)), none, [], false⟩,zCE 30 40 32 39 30,zAI 31 41 30 40]
def f34r2 : L:=[zAG 0 6]
def f34r3 : L:=[zAA 0 42 1,zAD 1 43 2 5,zAX 2 44 12 42 43,zAA 3 7 44]
def f34r4 : L:=[zAA 0 45 7,zAJ 1 46 45,zAF 2 47 0]
def f34r5 : L:=[zAQ 0 48 47 46]
def f34r6 : L:=[zAL 0 49 2 45 47,zAD 1 50 2 49,zAT 2 9,zAH 3 2 9 50]
def f34r7 : L:=[zAA 0 51 0,zAC 1 52 1 9,zAB 2 53 52,zAC 3 54 0 9,zAB 4 55 54,zBW 5 56 51,zAC 6 57 5 56,zBM 7 58 60 60 57 53,zBM 8 59 60 1 58 55,zAB 9 60 59]
def f34r8 : L:=[zAG 0 6]
def f34r9 : L:=[zAE 0 61 47 1,zAA 1 47 61]
def f34b0 : SC:=zAx f34r5 48 0 1 f34r6 f34r7 10 60 f34r8 f34r9
def f34r10 : L:=[zAA 0 62 7,zAA 1 63 0,zBW 2 64 63,zAC 3 65 4 64,zAB 4 66 65,zAA 5 67 1,zAL 6 68 1 66 67,zAB 7 69 68,zAA 9 71 0,zBW 10 72 71,zAC 11 73 0 72,zAC 12 74 2 73,zAu 13 75 74,zAf 14 76 3 75,zBL 8 70 48 62 69 13,zAm 15 77 70 76,zAA 16 6 77]
def f34c : SC:=zBK f34r0 f34r1 32 41 f34r2 f34r3 0 f34r4 f34b0 f34r10 17
def f34 : SFn := ⟨78, f34c, [.t 6]⟩

def f35r0 : L:=[zAO 0 7 2,zAO 1 9 4,zAG 2 10]
def f35r1 : L:=[zAA 0 11 1,zAD 1 12 2 7,zAA 3 14 3,zBN 4 15 2 9,zAA 7 18 0,zBW 8 19 18,zAC 9 20 0 19,zAC 10 21 2 20,zAu 11 22 21,zCh 2 13 12 11 12 11 4,zBL 5 16 12 14 15 11,zBL 6 17 48 13 16 11,zAm 12 23 17 22,zAA 13 10 23]
def f35c : SC:=zBC f35r0 f35r1 14
def f35 : SFn := ⟨24, f35c, [.t 10]⟩

def f36r0 : L:=[zAO 0 1 0,zAb 1 2]
def f36r1 : L:=[zAD 0 8 4 1,zAS 1 9 29 8,zAk 2 10 9]
def f36r2 : L:=[zAb 0 2]
def f36r3 : L:=[zCB 0 11,zAD 1 12 4 1,zAS 2 13 21 12,zAA 3 3 11,zAA 4 4 13]
def f36r4 : L:=[zAF 0 5 0]
def f36r5 : L:=[zAA 0 14 5,zAA 1 15 4,zAJ 2 16 15,zAQ 3 17 14 16]
def f36r6 : L:=[⟨0, some 20, .a (.bslice 1 0 [(.int .i64 0)] []), none, none, [], false⟩,zAA 1 6 20]
def f36r7 : L:=[zAF 0 7 0]
def f36r8 : L:=[zAA 0 21 7,zAA 1 22 4,zAJ 2 23 22,zAQ 3 24 21 23]
def f36r9 : L:=[zAA 0 27 6,zAA 1 28 4,zAA 2 29 5,zAL 3 30 1 28 29,zAB 4 31 30,zAA 5 32 4,zAA 6 33 7,zAL 7 34 1 32 33,zAB 8 35 34,zAX 9 36 39 31 35,⟨10, some 37, .a (.bslice 1 1 [(.int .i64 0)] [(0, 1, (.t 36))]), none, (some 10), [], false⟩,zAY 11 38 1 8 27 37,zAA 12 6 38]
def f36r10 : L:=[zAA 0 25 7,zAE 1 26 25 1,zAA 2 7 26]
def f36b0 : SC:=zBB f36r8 24 2 3 f36r9 13 f36r10
def f36r11 : L:=[zAA 0 39 3,zAA 1 40 6,zBm 2 41 40,zAY 3 42 1 24 39 41,zAA 4 3 42]
def f36r12 : L:=[zAA 0 18 5,zAE 1 19 18 1,zAA 2 5 19]
def f36b1 : SC:=(.seq (.seq (.ops f36r5 0) (.cond (.t 17) .skip (.exit 0))) (.seq (.block 1 (.seq (.ops f36r6 0) (.seq (.seq (.ops f36r7 0) (.block 2 (.loop f36b0))) (.ops f36r11 0)))) (.ops f36r12 0)))
def f36r13 : L:=[zAA 0 43 3,zAA 1 2 43]
def f36c : SC:=zBK f36r0 f36r1 0 10 f36r2 f36r3 0 f36r4 f36b1 f36r13 0
def f36 : SFn := ⟨44, f36c, [.t 2]⟩

def f37r0 : L:=[zAO 0 1 0,zAb 1 2]
def f37r1 : L:=[zAC 0 7 0 1,zAB 1 8 7]
def f37r2 : L:=[zAV 0 10 8 1,zAA 1 9 10]
def f37r3 : L:=[zAC 0 11 2 1,zAB 1 12 11,zAA 2 2 12]
def f37r4 : L:=[zAV 0 14 8 2,zAA 1 13 14]
def f37r5 : L:=[zAC 0 15 2 1,zAB 1 16 15,zAC 2 17 2 1,zAB 3 18 17,zAJ 4 19 18,zBF 5 20 19,zAX 6 21 50 16 20,zAS 7 22 49 21,zAA 8 2 22]
def f37r6 : L:=[zAC 0 23 2 1,zAB 1 24 23,zAC 2 25 2 1,zAB 3 26 25,zAJ 4 27 26,zAX 5 28 50 24 27,zAA 6 3 28]
def f37r7 : L:=[zAF 0 4 0]
def f37r8 : L:=[zAA 0 29 4,zAd 1 30 29 60]
def f37r9 : L:=[zAF 0 5 0]
def f37r10 : L:=[zAA 0 33 5,zAd 1 34 33 60]
def f37r11 : L:=[zAA 0 37 5,zAA 1 38 4,zAU 2 39 37 38,zAT 3 6,zAH 4 2 6 39]
def f37r12 : L:=[zAC 0 40 1 1,zAB 1 41 40,zAD 2 42 2 6,zAX 3 43 51 41 42,zAA 4 44 43,zAR 5 45 2 1 44,zAN 6 46 45 44,zBJ 7 47 2 6 44,zBH 8 48 52 46 47 44,zAK 9 49 44 48]
def f37r13 : L:=[zAA 0 50 3,zAD 1 51 2 6,zAZ 2 52 51,zAY 3 53 2 16 50 52,zAA 4 3 53]
def f37r14 : L:=[zAA 0 35 5,zAE 1 36 35 1,zAA 2 5 36]
def f37b0 : SC:=zBI f37r10 34 3 4 f37r11 0 f37r12 49 f37r13 0 f37r14
def f37r15 : L:=[zAA 0 31 4,zAE 1 32 31 1,zAA 2 4 32]
def f37b1 : SC:=zAw f37r8 30 1 2 f37r9 3 f37b0 f37r15
def f37r16 : L:=[zAA 0 54 3,zAS 1 55 49 54,zAA 2 2 55]
def f37c : SC:=(.seq (.ops f37r0 0) (.seq (.seq (.ops f37r1 0) (.block 0 (.seq (.ops f37r2 0) (.cond (.t 9) (.seq (.ops f37r3 0) .ret) (.seq (.ops f37r4 0) (.cond (.t 13) (.seq (.ops f37r5 0) .ret) .skip)))))) (.seq (.ops f37r6 0) (.seq (.seq (.ops f37r7 0) (.block 1 (.loop f37b1))) (.seq (.ops f37r16 0) .ret)))))
def f37 : SFn := ⟨56, f37c, [.t 2]⟩

def f38r0 : L:=[zAO 0 3 1,zAG 1 4]
def f38r1 : L:=[zAF 0 5 0]
def f38r2 : L:=[zAA 0 6 5,zAA 1 7 0,zAJ 2 8 7,zAQ 3 9 6 8]
def f38r3 : L:=[zAA 0 12 0,zAA 1 13 5,zAL 2 14 2 12 13,zAD 3 15 2 14,zAD 4 16 2 3,zCr 5 17 15 16]
def f38r4 : L:=[zAq 4]
def f38r5 : L:=[zAA 0 10 5,zAE 1 11 10 1,zAA 2 5 11]
def f38b0 : SC:=zAo f38r2 9 0 1 f38r3 6 17 f38r4 f38r5
def f38r6 : L:=[zAG 0 4]
def f38c : SC:=zCO f38r0 f38r1 f38b0 f38r6
def f38 : SFn := ⟨18, f38c, [.t 4]⟩

def f39r0 : L:=[zAF 0 4 0]
def f39r1 : L:=[zCH 5]
def f39r2 : L:=[zAF 0 6 0]
def f39r3 : L:=[zAA 0 9 6,zAA 1 10 0,zAJ 2 11 10,zAQ 3 12 9 11]
def f39r4 : L:=[zAF 0 7 0]
def f39r5 : L:=[zAA 0 15 7,zAA 1 16 1,zAJ 2 17 16,zAQ 3 18 15 17]
def f39r6 : L:=[zAA 0 21 0,zAA 1 22 6,zAL 2 23 2 21 22,zAD 3 24 2 23,zAA 4 25 1,zAA 5 26 7,zAL 6 27 2 25 26,zAD 7 28 2 27,zAX 8 29 53 24 28,zAA 9 8 29]
def f39r7 : L:=[zAA 0 30 5,zAd 1 31 30 0,zAA 2 32 31,zAa 3 33 8 32,zAa 4 34 5 32,⟨5, some 35, .p (.bin .lss (.t 33) (.t 34)), (some (32, false)), none, [], false⟩,zAI 6 36 32 35]
def f39r8 : L:=[zAA 0 37 8,zAA 1 5 37]
def f39r9 : L:=[zAA 0 19 7,zAE 1 20 19 1,zAA 2 7 20]
def f39b0 : SC:=zBI f39r5 18 2 3 f39r6 10 f39r7 36 f39r8 0 f39r9
def f39r10 : L:=[zAA 0 13 6,zAE 1 14 13 1,zAA 2 6 14]
def f39b1 : SC:=zAw f39r3 12 0 1 f39r4 2 f39b0 f39r10
def f39r11 : L:=[zAA 0 38 5,zAA 1 4 38]
def f39c : SC:=zAg f39r0 f39r1 f39r2 f39b1 f39r11
def f39 : SFn := ⟨39, f39c, [.t 4]⟩

def f40r0 : L:=[zAO 0 3 0,zAO 1 5 2,zAG 2 6]
def f40r1 : L:=[zAC 0 10 0 5,zAB 1 11 10,zAd 2 12 11 0,zAA 3 13 12,zAP 4 14 1 5 13,zAM 5 15 14 13,zAv 6 16 15 0 13,zAI 7 17 13 16,zAA 8 18 17,zAP 9 19 0 5 18,zAM 10 20 19 18,zAl 11 21 20 60 18,zAI 12 22 18 21,zAA 13 23 22,zAP 14 24 1 5 23,zAM 15 25 24 23,zAl 16 26 25 60 23,zAI 17 27 23 26,zAA 18 28 27,zAP 19 29 0 5 28,zAM 20 30 29 28,⟨21, some 31, .p (.bin .add (.t 30) (.c (.one (.int .i64 2)))), (some (28, false)), none, [], false⟩,⟨22, some 32, .p (.bin .mul (.c (.one (.int .i64 2))) (.t 31)), (some (28, false)), none, [], false⟩,zAP 23 33 0 3 28,zAM 24 34 33 28,zCE 25 35 32 34 28,zAI 26 36 28 35,zAA 27 37 36,zAP 28 38 1 5 37,zAM 29 39 38 37,⟨30, some 40, .p (.bin .add (.t 39) (.c (.one (.int .i64 1)))), (some (37, false)), none, [], false⟩,⟨31, some 41, .p (.bin .mul (.c (.one (.int .i64 3))) (.t 40)), (some (37, false)), none, [], false⟩,zAP 32 42 1 3 37,zAM 33 43 42 37,zCE 34 44 41 43 37,zAI 35 45 37 44]
def f40r2 : L:=[zAG 0 6]
def f40r3 : L:=[zAD 0 46 4 3,zAA 2 48 1,zBN 3 49 2 5,zCf 1 47 21 46 3,zAX 4 50 13 48 49,zAA 5 7 47,zAA 6 8 50]
def f40r4 : L:=[zAF 0 9 0]
def f40r5 : L:=[zAA 0 51 9,zAA 1 52 7,zAJ 2 53 52,zAQ 3 54 51 53]
def f40r6 : L:=[zAA 0 57 8,zAA 1 58 7,zAA 2 59 9,zAL 3 60 1 58 59,zAB 4 61 60,zAC 6 63 2 3,zAu 7 64 63,zBL 5 62 39 57 61 7,zAm 8 65 62 64]
def f40r7 : L:=[zAG 0 6]
def f40r8 : L:=[zAA 0 55 9,zAE 1 56 55 1,zAA 2 9 56]
def f40b0 : SC:=zAo f40r5 54 0 1 f40r6 9 65 f40r7 f40r8
def f40r9 : L:=[zAA 0 66 8,zAA 1 67 7,zAA 2 68 1,zAL 3 69 1 67 68,zAB 4 70 69,zAC 6 72 2 3,zAu 7 73 72,zAf 8 74 3 73,zBL 5 71 39 66 70 7,zAm 9 75 71 74,zAA 10 6 75]
def f40c : SC:=zBK f40r0 f40r1 0 45 f40r2 f40r3 7 f40r4 f40b0 f40r9 11
def f40 : SFn := ⟨76, f40c, [.t 6]⟩

def f41r0 : L:=[zAO 0 3 0,zCP 1 6]
def f41r1 : L:=[zAh 0 19 6 3 1,zAB 1 20 19,zAn 2 21 20,zAA 3 22 1,zBf 4 23 21 22,zAh 5 24 6 3 2,zAB 6 25 24,zAn 7 26 25,zAA 8 27 2,zBf 9 28 26 27,zAh 10 29 6 3 3,zAB 11 30 29,zAn 12 31 30,zAz 13 32 31 8,zBV 14 33 1 32,zAh 15 34 6 3 4,zAB 16 35 34,zAn 17 36 35,zAz 18 37 36 8,zBV 19 38 1 37,zAA 20 7 23,zAA 21 8 28,zAA 22 9 33,zAA 23 10 38]
def f41r2 : L:=[zAA 0 39 7,zAA 1 40 9,zAi 2 41 39 40,zAA 3 42 1,zBF 4 43 42,zBS 5 44 41 43,zAA 6 45 8,zAA 7 46 10,zAi 8 47 45 46,zAA 9 48 2,zBF 10 49 48,zBS 11 50 47 49,zAA 12 11 44,zAA 13 12 50]
def f41r3 : L:=[zAA 0 51 7,zAA 1 52 8,zAU 2 53 51 52,zAA 3 54 11,zAA 4 55 12,zAU 5 56 54 55,zAT 6 13,zAT 7 14,zAH 8 2 13 53,zAH 9 2 14 56]
def f41r4 : L:=[zAh 0 57 6 3 0,zAB 1 58 57,zBQ 2 59 58 3,zAn 3 60 59,zBV 4 61 1 60,zAh 5 62 6 3 0,zAB 6 63 62,⟨7, some 64, .p (.bin .quo (.t 63) (.c (.one (.int .u8 3)))), none, none, [], false⟩,zBQ 8 65 64 4,zAn 9 66 65,zAA 10 15 61,zAA 11 16 66]
def f41r5 : L:=[zAA 0 67 15,zAV 1 68 67 1]
def f41r6 : L:=[zAA 0 69 15,zAD 1 70 2 13,zAZ 2 71 70,zCU 3 72 69 71,zAH 4 3 6 72]
def f41r7 : L:=[zAA 0 73 15,zAV 1 74 73 2]
def f41r8 : L:=[zAD 0 75 2 13,zAD 1 76 2 14,zCV 77 75 76,zAA 3 17 77]
def f41r9 : L:=[zAh 0 78 6 3 5,zAB 1 79 78,zBQ 2 80 79 2,zCA 3 81 80]
def f41r10 : L:=[zAA 0 82 17,zAA 1 83 7,zAA 2 84 12,zAU 3 85 83 84,zAZ 4 86 85,zAY 5 87 2 16 82 86,zAA 6 17 87]
def f41r11 : L:=[zAA 0 88 15,zAA 1 89 17,zCU 2 90 88 89,zAH 3 3 6 90]
def f41r12 : L:=[zAD 0 91 2 13,zAA 1 92 11,zAA 2 93 8,zAU 3 94 92 93,zAD 4 95 2 14,⟨5, some 96, .a (.bslice 2 3 [(.int .i64 0), (.int .i64 0)] [(0, 2, (.t 91)), (2, 2, (.t 94)), (4, 2, (.t 95))]), none, none, [], false⟩,zAA 6 18 96]
def f41r13 : L:=[zAh 0 97 6 3 5,zAB 1 98 97,zBQ 2 99 98 2,zCA 3 100 99]
def f41r14 : L:=[zAA 0 101 18,zAA 1 102 7,zAA 2 103 12,zAU 3 104 102 103,zAZ 4 105 104,zAY 5 106 2 16 101 105,zAA 6 18 106]
def f41r15 : L:=[zAA 0 107 15,zAA 1 108 16,zAA 2 109 18,⟨3, some 110, .p (.build [(.int .i64 0), (.int .i64 0), .nils] [(0, 1, (.t 107)), (1, 1, (.t 108)), (2, 1, (.t 109))]), none, none, [], false⟩,zAH 4 3 6 110]
def f41c : SC:=(.seq (.ops f41r0 0) (.seq (.ops f41r1 24) (.seq (.ops f41r2 0) (.seq (.ops f41r3 0) (.seq (.ops f41r4 12) (.seq (.seq (.ops f41r5 0) (.cond (.t 68) (.seq (.ops f41r6 0) .ret) .skip)) (.seq (.seq (.ops f41r7 0) (.cond (.t 74) (.seq (.ops f41r8 0) (.seq (.seq (.ops f41r9 0) (.cond (.t 81) (.ops f41r10 0) .skip)) (.seq (.ops f41r11 0) .ret))) .skip)) (.seq (.ops f41r12 0) (.seq (.seq (.ops f41r13 0) (.cond (.t 100) (.ops f41r14 0) .skip)) (.seq (.ops f41r15 0) .ret))))))))))
def f41 : SFn := ⟨111, f41c, [.cell true 3 6]⟩

def f42r0 : L:=[zAO 0 1 0,zAG 1 2]
def f42r1 : L:=[zAC 0 6 2 1,zAB 1 7 6,zAJ 2 8 7,zAA 3 3 8]
def f42r2 : L:=[zAF 0 4 0]
def f42r3 : L:=[zAA 0 9 4,zAA 1 10 3,zAQ 2 11 9 10]
def f42r4 : L:=[zAC 0 14 2 1,zAB 1 15 14,zAA 2 16 4,zAL 3 17 2 15 16,zAD 4 18 2 17,zAT 5 5,zAH 6 2 5 18]
def f42r5 : L:=[zAC 0 19 0 5,zAB 1 20 19,zAd 2 21 20 0,zAA 3 22 21,zAP 4 23 1 5 22,zAM 5 24 23 22,zAv 6 25 24 0 22,zAI 7 26 22 25,zAA 8 27 26,zAP 9 28 0 5 27,zAM 10 29 28 27,zBX 11 30 29 60 27,zAI 12 31 27 30,zAA 13 32 31,zAP 14 33 1 5 32,zAM 15 34 33 32,zBX 16 35 34 60 32,zAI 17 36 32 35]
def f42r6 : L:=[zAG 0 2]
def f42r7 : L:=[zAA 0 12 4,zAE 1 13 12 1,zAA 2 4 13]
def f42b0 : SC:=zBy f42r3 11 f42r4 f42r5 0 36 f42r6 f42r7
def f42r8 : L:=[zAA 0 37 3,zBU 1 38 37 12]
def f42r9 : L:=[zAG 0 2]
def f42r10 : L:=[zAC 0 39 0 1,zAB 1 40 39]
def f42r11 : L:=[zAV 0 42 40 1,zAA 1 41 42]
def f42r12 : L:=[zAA 0 43 3,zAV 1 44 43 1,zAA 2 45 44,zAR 3 46 1 1 45,zAN 4 47 46 45,zAs 5 48 47 0 45,zAK 6 49 45 48,zAA 7 2 49]
def f42r13 : L:=[zAV 0 51 40 2,zAA 1 50 51]
def f42r14 : L:=[zAA 0 52 3,zBj 1 53 52 2,zAA 2 54 53,zAR 3 55 1 1 54,zAN 4 56 55 54,zAs 5 57 56 0 54,zAK 6 58 54 57,zAA 7 2 58]
def f42r15 : L:=[zAV 0 60 40 3,zAA 1 59 60]
def f42r16 : L:=[zAA 0 61 3,zBj 1 62 61 3,zAA 2 63 62,zAR 3 64 1 1 63,zAN 4 65 64 63,zCL 5 66 65 63,zAK 6 67 63 66,zAA 7 68 67,zAR 8 69 1 1 68,zAN 9 70 69 68,zCo 71 70 68,zAK 11 72 68 71,zAA 12 2 72]
def f42r17 : L:=[zAG 0 2]
def f42c : SC:=(.seq (.ops f42r0 0) (.seq (.ops f42r1 0) (.seq (.seq (.ops f42r2 0) (.block 0 (.loop f42b0))) (.seq (.seq (.ops f42r8 0) (.cond (.t 38) (.seq (.ops f42r9 0) .ret) .skip)) (.seq (.seq (.ops f42r10 0) (.block 2 (.seq (.ops f42r11 0) (.cond (.t 41) (.seq (.ops f42r12 0) .ret) (.seq (.ops f42r13 0) (.cond (.t 50) (.seq (.ops f42r14 0) .ret) (.seq (.ops f42r15 0) (.cond (.t 59) (.seq (.ops f42r16 0) .ret) .skip)))))))) (.seq (.ops f42r17 0) .ret))))))
def f42 : SFn := ⟨73, f42c, [.t 2]⟩

def f43r0 : L:=[zAG 0 6]
def f43r1 : L:=[zAF 0 7 0]
def f43r2 : L:=[zAA 0 8 7,zAA 1 9 0,zAJ 2 10 9,zAQ 3 11 8 10]
def f43r3 : L:=[zAA 0 14 0,zAA 1 15 7,zAL 2 16 2 14 15,zAC 3 17 0 16,zAB 4 18 17,zAd 5 19 18 0,zAA 6 20 19,zAa 7 21 0 20,zAa 8 22 7 20,zBa 9 23 2 21 22 20,zAP 10 24 0 23 20,zAM 11 25 24 20,zAa 12 26 1 20,zCD 13 27 25 26 20,zAI 14 28 20 27,zAA 15 29 28,zAa 16 30 0 29,zAa 17 31 7 29,zBa 18 32 2 30 31 29,zAP 19 33 1 32 29,zAM 20 34 33 29,zAv 21 35 34 0 29,zAI 22 36 29 35,zAA 23 37 36,zAa 24 38 0 37,zAa 25 39 7 37,zBa 26 40 2 38 39 37,zAP 27 41 1 40 37,zAM 28 42 41 37,zAa 29 43 2 37,zCD 30 44 42 43 37,zAI 31 45 37 44]
def f43r4 : L:=[zAG 0 6]
def f43r5 : L:=[zAA 0 12 7,zAE 1 13 12 1,zAA 2 7 13]
def f43b0 : SC:=zAo f43r2 11 0 1 f43r3 0 45 f43r4 f43r5
def f43r6 : L:=[zAq 6]
def f43c : SC:=zCO f43r0 f43r1 f43b0 f43r6
def f43 : SFn := ⟨46, f43c, [.t 6]⟩

def f44r0 : L:=[zAb 0 4]
def f44r1 : L:=[zAb 0 5]
def f44r2 : L:=[zAA 0 9 0,zBW 1 10 9,zAC 2 11 0 10,zAC 3 12 1 11,zAB 4 13 12,zBi 5 14 13 3,zAF 6 15 0]
def f44r3 : L:=[zAQ 0 16 15 14]
def f44r4 : L:=[zAA 0 17 15,zAA 1 6 17]
def f44r5 : L:=[zAA 0 18 0,zBW 1 19 18,zAC 2 20 0 19,zAC 3 21 0 20,zAB 4 22 21,zBi 5 23 22 2,zAF 6 24 0]
def f44r6 : L:=[zAQ 0 25 24 23]
def f44r7 : L:=[zAA 0 26 24,zAA 1 7 26]
def f44r8 : L:=[zAA 0 27 7,zAA 1 28 6,zAU 2 29 27 28,zAT 3 8,zAH 4 2 8 29]
def f44r9 : L:=[zAA 0 30 0,zAA 1 31 1,zAD 2 32 2 8,zBG 3 33 34 30 31 32]
def f44r10 : L:=[zAA 0 34 5,zAD 1 35 2 8,zAZ 2 36 35,zAY 3 37 2 16 34 36,zAA 4 5 37]
def f44r11 : L:=[zAE 0 38 24 1,zAA 1 24 38]
def f44b0 : SC:=(.seq (.ops f44r6 0) (.seq (.cond (.t 25) .skip (.exit 2)) (.seq (.block 3 (.seq (.ops f44r7 0) (.seq (.ops f44r8 0) (.seq (.ops f44r9 0) (.cond (.t 33) (.ops f44r10 0) .skip))))) (.ops f44r11 0))))
def f44r12 : L:=[zAE 0 39 15 1,zAA 1 15 39]
def f44b1 : SC:=zBP f44r3 16 0 1 f44r4 f44r5 2 f44b0 f44r12
def f44r13 : L:=[zAA 0 40 5,zAA 1 4 40]
def f44c : SC:=zAg f44r0 f44r1 f44r2 f44b1 f44r13
def f44 : SFn := ⟨41, f44c, [.t 4]⟩

def f45r0 : L:=[zAG 0 5,zCN 1 6]
def f45r1 : L:=[zAB 0 15 0,zAJ 1 16 15,zAA 2 7 16]
def f45r2 : L:=[zAB 0 17 1,zAA 1 18 7,zBu 2 19 17 18,zAH 3 1 1 19]
def f45r3 : L:=[zAA 0 20 7,zAB 1 21 2,zAJ 2 22 21,zBo 3 23 20 22]
def f45r4 : L:=[zAq 5,zCN 1 6]
def f45r5 : L:=[zCN 0 8]
def f45r6 : L:=[zAB 0 24 2,zAA 1 25 7,zAL 2 26 1 24 25,zAB 3 27 26,zAJ 4 28 27,zAF 5 29 0]
def f45r7 : L:=[zAQ 0 30 29 28]
def f45r8 : L:=[zAL 0 31 2 27 29,zAD 1 32 2 31,zAT 2 10,zAH 3 2 10 32]
def f45r9 : L:=[zAB 0 33 0,zAJ 1 34 33,zAF 2 35 0]
def f45r10 : L:=[zAQ 0 36 35 34]
def f45r11 : L:=[zAA 0 37 35,zAL 1 38 2 33 35,zAD 2 39 2 38,zAT 3 12,zAA 4 11 37,zAH 5 2 12 39]
def f45r12 : L:=[zAB 0 40 3,zAA 1 41 11,zAD 2 42 2 12,zAA 3 43 7,zAD 4 44 2 10,⟨5, some 45, .cf 35 [(.t 40), (.t 41), (.t 42), (.t 43), (.t 44)], none, none, [], false⟩]
def f45r13 : L:=[zAA 0 46 8,zAA 1 47 11,zCv 2 48 47,⟨3, some 49, .p (.bin .or (.t 46) (.t 48)), none, none, [], false⟩,zAA 4 8 49]
def f45r14 : L:=[zAE 0 50 35 1,zAA 1 35 50]
def f45b0 : SC:=(.seq (.ops f45r10 0) (.seq (.cond (.t 36) .skip (.exit 2)) (.seq (.block 3 (.seq (.ops f45r11 0) (.seq (.ops f45r12 0) (.cond (.t 45) (.seq (.ops f45r13 0) (.exit 1)) .skip)))) (.ops f45r14 0))))
def f45r15 : L:=[zAB 0 51 0,zAD 1 52 2 10,zAZ 2 53 52,zAY 3 54 2 16 51 53,zAH 4 1 0 54]
def f45r16 : L:=[zAB 0 56 4,⟨1, some 57, .cv (.t 56) [], none, none, [], false⟩,zAA 2 55 57,zAj 3 58 55 0,zAj 4 59 55 1,zAA 5 13 58,zAA 6 14 59]
def f45r17 : L:=[zAA 0 60 13]
def f45r18 : L:=[zAq 5,zCN 1 6]
def f45r19 : L:=[zAB 0 61 0,zAA 1 62 7,zBl 2 63 2 61 62,zAH 3 1 0 63]
def f45r20 : L:=[zAA 0 64 14,zAA 1 65 7,zCj 2 66 64 65,⟨3, some 67, .p (.bin .and (.t 66) (.c (.one (.int .u64 1)))), none, none, [], false⟩,⟨4, some 68, .p (.bin .eql (.t 67) (.c (.one (.int .u64 0)))), none, none, [], false⟩]
def f45r21 : L:=[zAA 0 69 14,zAG 1 5,zAA 2 6 69]
def f45r22 : L:=[zAA 0 70 8,zAA 1 71 14,zAA 2 72 7,zCv 3 73 72,⟨4, some 74, .p (.bin .andNot (.t 71) (.t 73)), none, none, [], false⟩,⟨5, some 75, .p (.bin .or (.t 70) (.t 74)), none, none, [], false⟩,zAA 6 8 75]
def f45r23 : L:=[zAE 0 76 29 1,zAA 1 29 76]
def f45b1 : SC:=(.seq (.ops f45r7 0) (.seq (.cond (.t 30) .skip (.exit 0)) (.seq (.block 1 (.seq (.ops f45r8 0) (.seq (.seq (.ops f45r9 0) (.block 2 (.loop f45b0))) (.seq (.ops f45r15 0) (.seq (.ops f45r16 0) (.seq (.seq (.ops f45r17 0) (.cond (.t 60) (.seq (.ops f45r18 0) .ret) .skip)) (.seq (.ops f45r19 0) (.seq (.seq (.ops f45r20 0) (.cond (.t 68) (.seq (.ops f45r21 0) .ret) .skip)) (.ops f45r22 0))))))))) (.ops f45r23 0))))
def f45r24 : L:=[zAA 0 77 8,zAG 1 5,zAA 2 6 77]
def f45c : SC:=(.seq (.ops f45r0 0) (.scope (.seq (.ops f45r1 0) (.seq (.ops f45r2 0) (.seq (.seq (.ops f45r3 0) (.cond (.t 23) (.seq (.ops f45r4 0) .ret) .skip)) (.seq (.ops f45r5 0) (.seq .skip (.seq (.seq (.ops f45r6 0) (.block 0 (.loop f45b1))) (.seq (.ops f45r24 0) .ret)))))))))
def f45 : SFn := ⟨78, f45c, [.t 5, .t 6]⟩

def f46r0 : L:=[zAO 0 1 0,zAG 1 2]
def f46r1 : L:=[zAC 0 6 2 1,zAB 1 7 6,zAJ 2 8 7,zAA 3 3 8]
def f46r2 : L:=[zAA 0 9 3,zAd 1 10 9 1,zAA 2 11 10,zAa 3 12 3 11,zAl 4 13 12 12 11,zAI 5 14 11 13]
def f46r3 : L:=[zAG 0 2]
def f46r4 : L:=[zAC 0 15 2 1,zAB 1 16 15,zAJ 2 17 16,zAF 3 18 0]
def f46r5 : L:=[zAQ 0 19 18 17]
def f46r6 : L:=[zAL 0 20 2 16 18,zAD 1 21 2 20,zAT 2 5,zAH 3 2 5 21]
def f46r7 : L:=[zAC 0 22 0 5,zAB 1 23 22,zAd 2 24 23 0,zAA 3 25 24,zAP 4 26 0 5 25,zAM 5 27 26 25,zBX 6 28 27 60 25,zAI 7 29 25 28,zAA 8 30 29,zAP 9 31 1 5 30,zAM 10 32 31 30,zAv 11 33 32 0 30,zAI 12 34 30 33,zAA 13 35 34,zAP 14 36 1 5 35,zAM 15 37 36 35,zBX 16 38 37 60 35,zAI 17 39 35 38]
def f46r8 : L:=[zAG 0 2]
def f46r9 : L:=[zAE 0 40 18 1,zAA 1 18 40]
def f46b0 : SC:=zAx f46r5 19 0 1 f46r6 f46r7 0 39 f46r8 f46r9
def f46r10 : L:=[zAC 0 41 0 1,zAB 1 42 41]
def f46r11 : L:=[zAV 0 44 42 1,zAA 1 43 44]
def f46r12 : L:=[zAA 0 45 3,zAV 1 46 45 1,zAA 2 47 46,zAR 3 48 1 1 47,zAN 4 49 48 47,zAs 5 50 49 0 47,zAK 6 51 47 50,zAA 7 2 51]
def f46r13 : L:=[zAV 0 53 42 2,zAA 1 52 53]
def f46r14 : L:=[zAA 0 54 3,zBj 1 55 54 2,zAA 2 56 55,zAR 3 57 1 1 56,zAN 4 58 57 56,zAs 5 59 58 0 56,zAK 6 60 56 59,zAA 7 2 60]
def f46r15 : L:=[zAV 0 62 42 3,zAA 1 61 62]
def f46r16 : L:=[zAA 0 63 3,zBj 1 64 63 3,zAA 2 65 64,zAR 3 66 1 1 65,zAN 4 67 66 65,zCL 5 68 67 65,zAK 6 69 65 68,zAA 7 70 69,zAR 8 71 1 1 70,zAN 9 72 71 70,zCo 73 72 70,zAK 11 74 70 73,zAA 12 2 74]
def f46r17 : L:=[zAG 0 2]
def f46c : SC:=(.seq (.ops f46r0 0) (.seq (.ops f46r1 0) (.seq (.seq (.ops f46r2 0) (.cond (.t 14) (.seq (.ops f46r3 0) .ret) .skip)) (.seq (.seq (.ops f46r4 0) (.block 0 (.loop f46b0))) (.seq (.seq (.ops f46r10 0) (.block 2 (.seq (.ops f46r11 0) (.cond (.t 43) (.seq (.ops f46r12 0) .ret) (.seq (.ops f46r13 0) (.cond (.t 52) (.seq (.ops f46r14 0) .ret) (.seq (.ops f46r15 0) (.cond (.t 61) (.seq (.ops f46r16 0) .ret) .skip)))))))) (.seq (.ops f46r17 0) .ret))))))
def f46 : SFn := ⟨75, f46c, [.t 2]⟩

def f47r0 : L:=[zAO 0 1 0,zAb 1 2]
def f47r1 : L:=[zAD 0 12 3 1,zAS 1 13 46 12,zAk 2 14 13]
def f47r2 : L:=[zAb 0 2]
def f47r3 : L:=[zAC 0 15 0 1,zAB 1 16 15]
def f47r4 : L:=[zAV 0 18 16 1,zAA 1 17 18]
def f47r5 : L:=[zAC 0 19 2 1,zAB 1 20 19,zBE 2 21 20 0,zAD 3 22 2 21,zAZ 4 23 22,zAA 5 2 23]
def f47r6 : L:=[zAV 0 25 16 2,zAA 1 24 25]
def f47r7 : L:=[zAC 0 26 2 1,zAB 1 27 26,zAS 2 28 55 27,zAS 3 29 54 28,zAA 4 2 29]
def f47r8 : L:=[zAC 0 30 2 1,zAB 1 31 30,zAS 2 32 56 31,zAA 3 3 32]
def f47r9 : L:=[zAC 0 33 2 1,zAB 1 34 33,zBE 2 35 34 0,zAD 3 36 2 35,zAC 4 37 2 1,zAu 5 38 37,zBE 6 39 38 0,zBN 7 40 2 39,zCQ 8 4,zCQ 9 5,⟨10, none, .e (.store 2 (.t 4) (.t 36)), none, none, [7, 5], false⟩,zAH 11 2 5 40]
def f47r10 : L:=[zAC 0 41 2 1,zAB 1 42 41,zAJ 2 43 42,zAF 3 44 0]
def f47r11 : L:=[zAQ 0 45 44 43]
def f47r12 : L:=[zAL 0 46 2 42 44,zAD 1 47 2 46,zAT 2 7,zAH 3 2 7 47]
def f47r13 : L:=[zAC 0 48 0 4,zAB 1 49 48,zAC 2 50 0 7,zAB 3 51 50,zBS 4 52 49 51,zAC 5 53 1 4,zAB 6 54 53,zAC 7 55 1 7,zAB 8 56 55,zBS 9 57 54 56,zAU 10 58 52 57,zAH 11 2 4 58]
def f47r14 : L:=[zAC 0 59 0 5,zAB 1 60 59,zAC 2 61 0 7,zAB 3 62 61,zBu 4 63 60 62,zAC 5 64 1 5,zAB 6 65 64,zAC 7 66 1 7,zAB 8 67 66,zBu 9 68 65 67,zAU 10 69 63 68,zAH 11 2 5 69]
def f47r15 : L:=[zAE 0 70 44 1,zAA 1 44 70]
def f47b0 : SC:=(.seq (.ops f47r11 0) (.seq (.cond (.t 45) .skip (.exit 1)) (.seq (.block 2 (.seq (.ops f47r12 0) (.seq (.ops f47r13 0) (.ops f47r14 0)))) (.ops f47r15 0))))
def f47r16 : L:=[zAC 0 71 1 1,zAB 1 72 71,zAS 2 73 57 72,zAA 3 8 73]
def f47r17 : L:=[zAC 0 74 1 4,zAB 1 75 74,zAA 2 9 75]
def f47r18 : L:=[zAA 0 76 9,zAC 1 77 1 5,zAB 2 78 77,zAm 3 79 76 78]
def f47r19 : L:=[zAC 0 82 0 4,zAB 1 83 82,zAA 2 10 83]
def f47r20 : L:=[zAA 0 84 10,zAC 1 85 0 5,zAB 2 86 85,zAm 3 87 84 86]
def f47r21 : L:=[zAA 0 90 10,zAA 1 91 9,zAU 2 92 90 91,zAT 3 11,zAH 4 2 11 92]
def f47r22 : L:=[zAA 0 93 8,zAD 1 94 2 11,⟨2, some 95, .cv (.t 93) [(.t 94)], none, none, [], false⟩,zAA 3 96 95,zAR 4 97 2 1 96,zAN 5 98 97 96,zBJ 6 99 2 11 96,zBH 7 100 58 98 99 96,zAK 8 101 96 100]
def f47r23 : L:=[zAA 0 102 3,zAD 1 103 2 11,zCw 102 103]
def f47r24 : L:=[zAA 0 88 10,zAE 1 89 88 1,zAA 2 10 89]
def f47b1 : SC:=zBI f47r20 87 5 6 f47r21 0 f47r22 101 f47r23 0 f47r24
def f47r25 : L:=[zAA 0 80 9,zAE 1 81 80 1,zAA 2 9 81]
def f47b2 : SC:=zAw f47r18 79 3 4 f47r19 5 f47b1 f47r25
def f47r26 : L:=[zAA 0 104 3,zAS 1 105 54 104,zAA 2 2 105]
def f47c : SC:=(.seq (.ops f47r0 0) (.seq (.seq (.ops f47r1 0) (.cond (.t 14) (.seq (.ops f47r2 0) .ret) .skip)) (.seq (.seq (.ops f47r3 0) (.block 0 (.seq (.ops f47r4 0) (.cond (.t 17) (.seq (.ops f47r5 0) .ret) (.seq (.ops f47r6 0) (.cond (.t 24) (.seq (.ops f47r7 0) .ret) .skip)))))) (.seq (.ops f47r8 0) (.seq (.ops f47r9 12) (.seq (.seq (.ops f47r10 0) (.block 1 (.loop f47b0))) (.seq (.ops f47r16 0) (.seq (.seq (.ops f47r17 0) (.block 3 (.loop f47b2))) (.seq (.ops f47r26 0) .ret)))))))))
def f47 : SFn := ⟨106, f47c, [.t 2]⟩

def f48r0 : L:=[zAF 0 4 0]
def f48r1 : L:=[zAA 0 10 0,zAJ 1 11 10,zAV 2 12 11 0,zAA 3 13 12,zAa 4 14 1 13,zBn 5 15 14 13,zCI 6 16 15 0 13,zAI 7 17 13 16]
def f48r2 : L:=[zCH 4]
def f48r3 : L:=[zAA 0 18 0,zAJ 1 19 18,zAA 2 20 1,zAJ 3 21 20,zAy 4 22 19 21,zBU 5 23 22 65536,zAA 6 24 23,zAW 7 25 0 24,zCC 8 26 59 25 24,zAK 9 27 24 26,zAA 10 28 27,zAW 11 29 1 28,zCC 12 30 59 29 28,zAK 13 31 28 30]
def f48r4 : L:=[zAA 0 32 0,zAA 1 33 1,zAX 2 34 60 32 33,zAA 3 4 34]
def f48r5 : L:=[zAA 0 35 0,zBE 1 36 35 0,zAD 2 37 2 36,zAA 3 38 1,zBE 4 39 38 0,zAD 5 40 2 39,zAX 6 41 61 37 40,zAA 7 5 41]
def f48r6 : L:=[zAA 0 42 0,zAJ 1 43 42,zAF 2 44 0]
def f48r7 : L:=[zAQ 0 45 44 43]
def f48r8 : L:=[zAL 0 46 2 42 44,zAD 1 47 2 46,zAT 2 7,zAH 3 2 7 47]
def f48r9 : L:=[zAA 0 48 1,zAJ 1 49 48,zAF 2 50 0]
def f48r10 : L:=[zAQ 0 51 50 49]
def f48r11 : L:=[zAL 0 52 2 48 50,zAD 1 53 2 52,zAT 2 9,zAH 3 2 9 53]
def f48r12 : L:=[zAA 0 54 5,zAD 1 55 2 7,zAD 2 56 2 9,zAX 3 57 61 55 56,zBS 4 58 54 57,zAA 5 5 58]
def f48r13 : L:=[zAE 0 59 50 1,zAA 1 50 59]
def f48b0 : SC:=zBZ f48r10 51 2 3 f48r11 f48r12 0 f48r13
def f48r14 : L:=[zAE 0 60 44 1,zAA 1 44 60]
def f48b1 : SC:=zBP f48r7 45 0 1 f48r8 f48r9 2 f48b0 f48r14
def f48r15 : L:=[zAA 0 61 5,zAA 1 4 61]
def f48c : SC:=(.seq (.ops f48r0 0) (.seq (.seq (.ops f48r1 0) (.cond (.t 17) (.seq (.ops f48r2 0) .ret) .skip)) (.seq (.seq (.ops f48r3 0) (.cond (.t 31) (.seq (.ops f48r4 0) .ret) .skip)) (.seq (.ops f48r5 8) (.seq (.seq (.ops f48r6 0) (.block 0 (.loop f48b1))) (.seq (.ops f48r15 0) .ret))))))
def f48 : SFn := ⟨62, f48c, [.t 4]⟩

def f49r0 : L:=[zAb 0 2]
def f49r1 : L:=[⟨0, some 9, .p (.build (List.replicate 3600 (.bool false)) []), none, none, [], false⟩,⟨1, some 3, .a (.alloc (List.replicate 3600 (.bool false))), none, none, [], false⟩,zAH 2 3600 3 9]
def f49r2 : L:=[zAF 0 4 0]
def f49r3 : L:=[zAA 0 10 4,zAA 1 11 0,zAJ 2 12 11,zAQ 3 13 10 12]
def f49r4 : L:=[zAA 0 16 0,zAA 1 17 4,zAL 2 18 2 16 17,zAD 3 19 2 18,zAT 4 5,zAH 5 2 5 19]
def f49r5 : L:=[zAC 0 20 0 5,zAB 1 21 20,zBj 2 22 21 0,zAA 3 23 22,zAR 4 24 1 5 23,zAN 5 25 24 23,zCL 6 26 25 23,zAK 7 27 23 26,zAA 8 28 27,zAR 9 29 0 5 28,zAN 10 30 29 28,zBv 11 31 30 60 28,zAK 12 32 28 31,zAA 13 33 32,zAR 14 34 1 5 33,zAN 15 35 34 33,zBv 16 36 35 60 33,zAK 17 37 33 36]
def f49r6 : L:=[zAC 0 38 1 5,zAB 1 39 38,zAC 2 40 0 5,zAB 3 41 40,zBM 4 42 60 60 3 39,zBM 5 43 60 1 42 41,zDC 6 43]
def f49r7 : L:=[zAA 0 14 4,zAE 1 15 14 1,zAA 2 4 15]
def f49b0 : SC:=zBI f49r3 13 0 1 f49r4 0 f49r5 37 f49r6 7 f49r7
def f49r8 : L:=[zAt 0 44,zAA 1 6 44]
def f49r9 : L:=[zAF 0 7 0]
def f49r10 : L:=[zAA 0 45 7,zAd 1 46 45 60]
def f49r11 : L:=[zAF 0 8 0]
def f49r12 : L:=[zAA 0 49 8,zAd 1 50 49 60]
def f49r13 : L:=[zAA 0 53 7,zAA 1 54 8,zBM 2 55 60 60 3 53,zBM 3 56 60 1 55 54,zAB 4 57 56]
def f49r14 : L:=[zAA 0 58 6,zAA 1 59 8,zAA 2 60 7,zAU 3 61 59 60,zAZ 4 62 61,zAY 5 63 2 16 58 62,zAA 6 6 63]
def f49r15 : L:=[zAA 0 51 8,zAE 1 52 51 1,zAA 2 8 52]
def f49b1 : SC:=zBh f49r12 50 4 5 f49r13 57 f49r14 f49r15
def f49r16 : L:=[zAA 0 47 7,zAE 1 48 47 1,zAA 2 7 48]
def f49b2 : SC:=zAw f49r10 46 2 3 f49r11 4 f49b1 f49r16
def f49r17 : L:=[zAA 0 64 6,zAA 1 2 64]
def f49c : SC:=(.seq (.ops f49r0 0) (.seq (.ops f49r1 0) (.seq (.seq (.ops f49r2 0) (.block 0 (.loop f49b0))) (.seq (.ops f49r8 0) (.seq (.seq (.ops f49r9 0) (.block 2 (.loop f49b2))) (.seq (.ops f49r17 0) .ret))))))
def f49 : SFn := ⟨65, f49c, [.t 2]⟩

def f50r0 : L:=[zAb 0 4]
def f50r1 : L:=[zAt 0 9,zAA 1 5 9]
def f50r2 : L:=[zAF 0 6 0]
def f50r3 : L:=[zAA 0 10 6,zAA 1 11 1,zAQ 2 12 10 11]
def f50r4 : L:=[zAA 0 16 0,zAA 1 17 6,zAX 2 18 62 16 17,zAA 3 15 18,zAj 4 19 15 0,zAj 5 20 15 1,zAT 6 7,zAT 7 8,zAH 8 2 7 19,zAH 9 2 8 20]
def f50r5 : L:=[zAA 0 21 5,zAD 1 22 2 7,zAD 2 23 2 8,zAX 3 24 63 22 23,zAY 4 25 2 16 21 24,zAA 5 5 25]
def f50r6 : L:=[zAA 0 13 6,zAE 1 14 13 1,zAA 2 6 14]
def f50b0 : SC:=(.seq (.seq (.ops f50r3 0) (.cond (.t 12) .skip (.exit 0))) (.seq (.block 1 (.seq (.ops f50r4 0) (.ops f50r5 0))) (.ops f50r6 0)))
def f50r7 : L:=[zAA 0 26 5,zAA 1 4 26]
def f50c : SC:=zAg f50r0 f50r1 f50r2 f50b0 f50r7
def f50 : SFn := ⟨27, f50c, [.t 4]⟩

def f51r0 : L:=[zAO 0 3 1,zAG 1 4]
def f51r1 : L:=[zAA 0 5 0,zAV 1 6 5 3,zAA 2 7 6,zAa 3 8 0 7,zCI 4 9 8 2 7,zAa 5 10 9 7,zAR 6 11 1 3 10,zAN 7 12 11 10,zCp 8 13 12 10,zAs 9 14 13 0 10,zCG 10 15 10 14 7,zAI 11 16 7 15,zAA 12 17 16,zAa 13 18 0 17,zCI 14 19 18 1 17,zAa 15 20 19 17,zAR 16 21 0 3 20,zAN 17 22 21 20,zAR 18 23 1 3 20,zAN 19 24 23 20,⟨20, some 25, .p (.bin .add (.t 22) (.t 24)), (some (20, true)), none, [], false⟩,zCp 21 26 25 20,zAs 22 27 26 0 20,zCG 23 28 20 27 17,zAI 24 29 17 28,zAA 25 4 29]
def f51c : SC:=zBC f51r0 f51r1 0
def f51 : SFn := ⟨30, f51c, [.t 4]⟩

def f52r0 : L:=[zAO 0 3 1,zAG 1 4]
def f52r1 : L:=[zAG 0 5]
def f52r2 : L:=[zAF 0 6 0]
def f52r3 : L:=[zAA 0 9 6,zAA 1 10 0,zAJ 2 11 10,zAQ 3 12 9 11]
def f52r4 : L:=[zAA 0 16 0,zAA 1 17 6,zAX 2 18 62 16 17,zAA 3 15 18,zAj 4 19 15 0,zAj 5 20 15 1,zAT 6 7,zAT 7 8,zAH 8 2 7 19,zAH 9 2 8 20]
def f52r5 : L:=[zAD 0 21 2 7,zAD 1 22 2 8,zAD 2 23 2 3,zBG 3 24 64 21 22 23]
def f52r6 : L:=[zAq 4]
def f52r7 : L:=[zAD 0 25 2 7,zAD 1 26 2 8,zAD 2 27 2 3,zBG 3 28 65 25 26 27]
def f52r8 : L:=[zAA 0 29 5,zAk 1 30 29,zAA 2 5 30]
def f52r9 : L:=[zAA 0 13 6,zAE 1 14 13 1,zAA 2 6 14]
def f52b0 : SC:=(.seq (.seq (.ops f52r3 0) (.cond (.t 12) .skip (.exit 0))) (.seq (.block 1 (.seq (.ops f52r4 0) (.seq (.seq (.ops f52r5 0) (.cond (.t 24) (.seq (.ops f52r6 0) .ret) .skip)) (.seq (.ops f52r7 0) (.cond (.t 28) (.ops f52r8 0) .skip))))) (.ops f52r9 0)))
def f52r10 : L:=[zAA 0 31 5,zAA 1 4 31]
def f52c : SC:=zAg f52r0 f52r1 f52r2 f52b0 f52r10
def f52 : SFn := ⟨32, f52c, [.t 4]⟩

def f53r0 : L:=[zAO 0 2 0,zAO 1 3 1,zAF 2 4 0]
def f53r1 : L:=[zAC 0 5 0 2,zAB 1 6 5,zAC 2 7 0 3,zAB 3 8 7,zAe 4 9 6 8,zAC 6 11 1 2,zAu 7 12 11,zAC 8 13 1 3,zAu 9 14 13,zAe 10 15 12 14,zDQ 66,zAS 11 16 66 15,zBu 12 17 10 16,zAA 13 4 17]
def f53c : SC:=zBC f53r0 f53r1 14
def f53 : SFn := ⟨18, f53c, [.t 4]⟩

def f54r0 : L:=[zAb 0 2]
def f54r1 : L:=[zAA 0 3 0,zAS 1 4 68 3,⟨2, some 5, .cf 67 [(.t 4), (.c (.one (.fn 69 [])))], none, none, [], false⟩,zAA 3 2 5]
def f54c : SC:=zBC f54r0 f54r1 0
def f54 : SFn := ⟨6, f54c, [.t 2]⟩

def f55r0 : L:=[zDO]
def f55r1 : L:=[⟨0, some 5, .a (.mkst), none, none, [], false⟩,zAA 1 3 5]
def f55r2 : L:=[zAF 0 4 1]
def f55r3 : L:=[zAA 0 6 4,zAA 1 7 0,zAJ 2 8 7,zAQ 3 9 6 8]
def f55r4 : L:=[zAA 0 12 3,zAA 1 13 0,zAA 2 14 4,zBF 3 15 14,zAL 4 16 2 13 15,zAD 5 17 2 16,zAA 6 18 0,zAA 7 19 4,zAL 8 20 2 18 19,zAD 9 21 2 20,zBG 10 22 72 12 17 21]
def f55r5 : L:=[zAA 0 10 4,zAE 1 11 10 1,zAA 2 4 11]
def f55b0 : SC:=zBB f55r3 9 0 1 f55r4 11 f55r5
def f55r6 : L:=[zAA 0 23 3,zAA 1 2 23]
def f55c : SC:=zAg f55r0 f55r1 f55r2 f55b0 f55r6
def f55 : SFn := ⟨24, f55c, [.t 2]⟩

def f56r0 : L:=[zDO]
def f56r1 : L:=[zAA 0 4 0,zAS 1 5 55 4,zAA 2 3 5]
def f56r2 : L:=[zAA 0 6 0,zAJ 1 7 6,zBU 2 8 7 0]
def f56r3 : L:=[zAA 0 9 3,zAA 1 10 0,zAA 2 11 0,zAJ 3 12 11,zBF 4 13 12,zAL 5 14 2 10 13,zAD 6 15 2 14,zAA 7 16 0,zBE 8 17 16 0,zAD 9 18 2 17,zBG 10 19 72 9 15 18]
def f56r4 : L:=[zAA 0 20 3,zAA 1 2 20]
def f56c : SC:=(.seq (.ops f56r0 0) (.seq (.ops f56r1 0) (.seq (.seq (.ops f56r2 0) (.cond (.t 8) (.ops f56r3 11) .skip)) (.seq (.ops f56r4 0) .ret))))
def f56 : SFn := ⟨21, f56c, [.t 2]⟩

def f57r0 : L:=[zDP 0]
def f57r1 : L:=[⟨0, some 4, .p (.build [.nilf, .nilf, .nilf, .nilf] [(0, 1, (.c (.one (.fn 73 [])))), (1, 1, (.c (.one (.fn 74 [])))), (2, 1, (.c (.one (.fn 75 [])))), (3, 1, (.c (.one (.fn 76 []))))]), none, none, [], false⟩,⟨1, some 3, .a (.alloc [.nilf, .nilf, .nilf, .nilf]), none, none, [], false⟩,zAH 2 4 3 4]
def f57r2 : L:=[zAA 0 5 0,zBM 1 6 4 1 3 5,zAB 2 7 6,zAA 3 2 7]
def f57c : SC:=(.seq (.ops f57r0 0) (.seq (.ops f57r1 0) (.seq (.ops f57r2 0) .ret)))
def f57 : SFn := ⟨8, f57c, [.t 2]⟩

def f58r0 : L:=[zAO 0 3 1,zAG 1 4]
def f58r1 : L:=[zAG 0 5]
def f58r2 : L:=[zAA 0 9 0,zAJ 1 10 9,zAF 2 11 0]
def f58r3 : L:=[zAQ 0 12 11 10]
def f58r4 : L:=[zAA 0 13 11,zAL 1 14 2 9 11,zAD 2 15 2 14,zAT 3 7,zAA 4 6 13,zAH 5 2 7 15]
def f58r5 : L:=[zAA 0 16 0,zAA 1 17 6,zAE 2 18 17 1,zAA 3 19 0,zAJ 4 20 19,zBf 5 21 18 20,zAL 6 22 2 16 21,zAD 7 23 2 22,zAT 8 8,zAH 9 2 8 23]
def f58r6 : L:=[zAD 0 24 2 7,zAD 1 25 2 8,zAD 2 26 2 3,zBG 3 27 77 24 25 26]
def f58r7 : L:=[zAq 4]
def f58r8 : L:=[zAD 0 28 2 7,zAD 1 29 2 8,zAD 2 30 2 3,zBG 3 31 78 28 29 30]
def f58r9 : L:=[zAA 0 32 5,zAk 1 33 32,zAA 2 5 33]
def f58r10 : L:=[zAE 0 34 11 1,zAA 1 11 34]
def f58b0 : SC:=(.seq (.ops f58r3 0) (.seq (.cond (.t 12) .skip (.exit 0)) (.seq (.block 1 (.seq (.ops f58r4 0) (.seq (.ops f58r5 0) (.seq (.seq (.ops f58r6 0) (.cond (.t 27) (.seq (.ops f58r7 0) .ret) .skip)) (.seq (.ops f58r8 0) (.cond (.t 31) (.ops f58r9 0) .skip)))))) (.ops f58r10 0))))
def f58r11 : L:=[zAA 0 35 5,zAA 1 4 35]
def f58c : SC:=zAg f58r0 f58r1 f58r2 f58b0 f58r11
def f58 : SFn := ⟨36, f58c, [.t 4]⟩

def f59r0 : L:=[zAG 0 2]
def f59r1 : L:=[zAA 0 5 0,zAJ 1 6 5,zAF 2 7 0]
def f59r2 : L:=[zAQ 0 8 7 6]
def f59r3 : L:=[zAL 0 9 2 5 7,zAD 1 10 2 9,zAT 2 4,zAH 3 2 4 10]
def f59r4 : L:=[zAC 0 11 0 4,zAB 1 12 11,⟨2, some 13, .p (.bin .lss (.t 12) (.c (.one (.int .i64 (-1000))))), none, none, [], false⟩,zAA 3 14 13,zAP 4 15 0 4 14,zAM 5 16 15 14,zAl 6 17 16 1000 14,zAI 7 18 14 17,zAA 8 19 18,zAP 9 20 1 4 19,zAM 10 21 20 19,⟨11, some 22, .p (.bin .lss (.t 21) (.c (.one (.int .i64 (-1000))))), (some (19, false)), none, [], false⟩,zAI 12 23 19 22,zAA 13 24 23,zAP 14 25 1 4 24,zAM 15 26 25 24,zAl 16 27 26 1000 24,zAI 17 28 24 27]
def f59r5 : L:=[zAG 0 2]
def f59r6 : L:=[zAE 0 29 7 1,zAA 1 7 29]
def f59b0 : SC:=zAx f59r2 8 0 1 f59r3 f59r4 0 28 f59r5 f59r6
def f59r7 : L:=[zAq 2]
def f59c : SC:=zCO f59r0 f59r1 f59b0 f59r7
def f59 : SFn := ⟨30, f59c, [.t 2]⟩

def f61r0 : L:=[zAO 0 2 0,zAO 1 3 1,zAF 2 4 0]
def f61r1 : L:=[zAC 0 5 0 2,zAB 1 6 5,zAC 2 7 0 3,zAB 3 8 7,zAe 4 9 6 8,zAC 6 11 1 2,zAu 7 12 11,zAC 8 13 1 3,zAu 9 14 13,zAe 10 15 12 14,zDQ 81,zAS 11 16 81 15,zBu 12 17 10 16,zAA 13 4 17]
def f61c : SC:=zBC f61r0 f61r1 14
def f61 : SFn := ⟨18, f61c, [.t 4]⟩

def f62r0 : L:=[zAT 0 4,zAT 1 5]
def f62r1 : L:=[zAA 0 6 0,zAA 1 7 1,zAL 2 8 2 6 7,zAD 3 9 2 8,zAA 4 10 0,zAA 5 11 1,zAE 6 12 11 1,zAA 7 13 0,zAJ 8 14 13,zBf 9 15 12 14,zAL 10 16 2 10 15,zBN 11 17 2 16,⟨12, none, .e (.store 2 (.t 4) (.t 9)), none, none, [11], false⟩,zAH 13 2 5 17]
def f62c : SC:=zBC f62r0 f62r1 14
def f62 : SFn := ⟨18, f62c, [.cell true 2 4, .cell true 2 5]⟩

def f63r0 : L:=[zAO 0 2 0,zAO 1 3 1,zAb 2 4]
def f63r1 : L:=[zAD 0 10 2 2,zAD 1 11 2 3,zAX 2 12 53 10 11,zAt 3 13,zAA 4 5 12,zAA 5 6 13]
def f63r2 : L:=[zAA 0 14 5,zAV 1 15 14 0]
def f63r3 : L:=[zAD 0 16 2 2,zAZ 1 17 16,zAA 2 4 17]
def f63r4 : L:=[zAF 0 7 0]
def f63r5 : L:=[zAA 0 18 7,zAA 1 19 5,zAm 2 20 18 19]
def f63r6 : L:=[zAC 0 23 0 2,zAB 1 24 23,zAA 2 25 5,zAy 3 26 24 25,zAA 4 27 7,zAC 5 28 0 3,zAB 6 29 28,zAC 7 30 0 2,zAB 8 31 30,zAe 9 32 29 31,zAy 10 33 27 32,zAi 11 34 26 33,zAf 12 35 2 34,zAA 13 36 5,zAi 14 37 35 36,zAA 15 38 5,zAf 16 39 2 38,zAX 17 40 82 37 39,zAA 18 8 40]
def f63r7 : L:=[zAC 0 41 1 2,zAB 1 42 41,zAA 2 43 5,zAy 3 44 42 43,zAA 4 45 7,zAC 5 46 1 3,zAB 6 47 46,zAC 7 48 1 2,zAB 8 49 48,zAe 9 50 47 49,zAy 10 51 45 50,zAi 11 52 44 51,zAf 12 53 2 52,zAA 13 54 5,zAi 14 55 53 54,zAA 15 56 5,zAf 16 57 2 56,zAX 17 58 82 55 57,zAA 18 9 58]
def f63r8 : L:=[zAA 0 59 6,zAA 1 60 8,zAA 2 61 9,zAU 3 62 60 61,zAZ 4 63 62,zAY 5 64 2 16 59 63,zAA 6 6 64]
def f63r9 : L:=[zAA 0 21 7,zAE 1 22 21 1,zAA 2 7 22]
def f63b0 : SC:=(.seq (.seq (.ops f63r5 0) (.cond (.t 20) .skip (.exit 0))) (.seq (.block 1 (.seq (.ops f63r6 0) (.seq (.ops f63r7 0) (.ops f63r8 0)))) (.ops f63r9 0)))
def f63r10 : L:=[zAA 0 65 6,zAA 1 4 65]
def f63c : SC:=zBw f63r0 f63r1 f63r2 15 f63r3 f63r4 f63b0 f63r10
def f63 : SFn := ⟨66, f63c, [.t 4]⟩

def f64r0 : L:=[zAO 0 3 0,zAO 1 4 1,zAO 2 5 2,zAG 3 6]
def f64r1 : L:=[zAD 0 7 2 3,zAD 1 8 2 4,zAD 2 9 2 5,zBG 3 10 83 7 8 9,zAV 4 11 10 0,zAA 5 12 11,zAR 6 13 0 5 12,zAN 7 14 13 12,zAR 8 15 0 3 12,zAN 9 16 15 12,zAR 10 17 0 4 12,zAN 11 18 17 12,zCZ 12 19 16 18 12,⟨13, some 20, .p (.bin .geq (.t 14) (.t 19)), (some (12, true)), none, [], false⟩,zAK 14 21 12 20,zAA 15 22 21,zAR 16 23 0 5 22,zAN 17 24 23 22,zAR 18 25 0 3 22,zAN 19 26 25 22,zAR 20 27 0 4 22,zAN 21 28 27 22,zCF 22 29 26 28 22,zBc 23 30 24 29 22,zAK 24 31 22 30,zAA 25 32 31,zAR 26 33 1 5 32,zAN 27 34 33 32,zAR 28 35 1 3 32,zAN 29 36 35 32,zAR 30 37 1 4 32,zAN 31 38 37 32,zCZ 32 39 36 38 32,⟨33, some 40, .p (.bin .geq (.t 34) (.t 39)), (some (32, true)), none, [], false⟩,zAK 34 41 32 40,zAA 35 42 41,zAR 36 43 1 5 42,zAN 37 44 43 42,zAR 38 45 1 3 42,zAN 39 46 45 42,zAR 40 47 1 4 42,zAN 41 48 47 42,zCF 42 49 46 48 42,zBc 43 50 44 49 42,zAK 44 51 42 50,zAA 45 6 51]
def f64c : SC:=zBC f64r0 f64r1 0
def f64 : SFn := ⟨52, f64c, [.t 6]⟩

def f65r0 : L:=[zAO 0 3 0,zAO 1 4 1,zAO 2 5 2,zAG 3 6]
def f65r1 : L:=[zAC 0 9 1 3,zAB 1 10 9,zAC 2 11 1 5,zAB 3 12 11,zAm 4 13 10 12,zAC 5 14 1 4,zAB 6 15 14,zAC 7 16 1 5,zAB 8 17 16,zAm 9 18 15 17,zCg 10 19 13 18]
def f65r2 : L:=[zAG 0 6]
def f65r3 : L:=[zAC 0 20 0 5,zAB 1 21 20,zAC 2 22 0 3,zAB 3 23 22,zAe 4 24 21 23,zAC 5 25 1 4,zAB 6 26 25,zAC 7 27 1 3,zAB 8 28 27,zAe 9 29 26 28,zAy 10 30 24 29,zAA 11 7 30]
def f65r4 : L:=[zAC 0 31 1 5,zAB 1 32 31,zAC 2 33 1 3,zAB 3 34 33,zAe 4 35 32 34,zAC 5 36 0 4,zAB 6 37 36,zAC 7 38 0 3,zAB 8 39 38,zAe 9 40 37 39,zAy 10 41 35 40,zAA 11 8 41]
def f65r5 : L:=[zAC 0 42 1 4,zAB 1 43 42,zAC 2 44 1 3,zAB 3 45 44,zBp 4 46 43 45]
def f65r6 : L:=[zAA 0 47 7,zAA 1 48 8,zAQ 2 49 47 48,zAA 3 6 49]
def f65r7 : L:=[zAA 0 50 7,zAA 1 51 8,zBp 2 52 50 51,zAA 3 6 52]
def f65c : SC:=(.seq (.ops f65r0 0) (.seq (.seq (.ops f65r1 0) (.cond (.t 19) (.seq (.ops f65r2 0) .ret) .skip)) (.seq (.ops f65r3 0) (.seq (.ops f65r4 0) (.seq (.seq (.ops f65r5 0) (.cond (.t 46) (.seq (.ops f65r6 0) .ret) .skip)) (.seq (.ops f65r7 0) .ret))))))
def f65 : SFn := ⟨53, f65c, [.t 6]⟩

def f66r0 : L:=[zAF 0 2 0]
def f66r1 : L:=[zAA 0 3 0,zAA 1 4 0,⟨2, some 5, .p (.neg (.t 4)), none, none, [], false⟩,zBu 3 6 3 5,zAA 4 2 6]
def f66c : SC:=zBC f66r0 f66r1 0
def f66 : SFn := ⟨7, f66c, [.t 2]⟩

def f67r0 : L:=[zAb 0 4]
def f67r1 : L:=[zAA 0 6 0,zAS 1 7 84 6,zAA 2 5 7]
def f67r2 : L:=[zAA 0 8 5,zAA 1 9 1,zAX 2 10 85 8 9]
def f67r3 : L:=[zAA 0 11 5,zAA 1 4 11]
def f67c : SC:=(.seq (.ops f67r0 0) (.seq (.ops f67r1 0) (.seq (.ops f67r2 0) (.seq (.ops f67r3 0) .ret))))
def f67 : SFn := ⟨12, f67c, [.t 4]⟩

def f68r0 : L:=[zAO 0 1 0,zDP 1]
def f68r1 : L:=[⟨0, some 3, .p (.mkfn 86 [(.t 1)]), none, none, [], false⟩,zAA 1 2 3]
def f68c : SC:=zBC f68r0 f68r1 0
def f68 : SFn := ⟨4, f68c, [.t 2]⟩

def f69r0 : L:=[zAO 0 2 0,zAO 1 3 1,zAF 2 4 0]
def f69r1 : L:=[zAC 0 5 1 2,zAB 1 6 5,zAC 2 7 1 3,zAB 3 8 7,zAC 5 10 0 2,zAu 6 11 10,zAC 7 12 0 3,zAu 8 13 12,zCh 4 9 71 6 8 8 6,zAX 9 14 71 11 13,⟨10, some 15, .a (.bslice 1 2 [(.int .i64 0)] [(0, 1, (.t 9)), (1, 1, (.t 14))]), none, (some 10), [], false⟩,zAS 11 16 70 15,zAA 12 4 16]
def f69c : SC:=zBC f69r0 f69r1 13
def f69 : SFn := ⟨17, f69c, [.t 4]⟩

def f70r0 : L:=[zAF 0 2 0]
def f70r1 : L:=[zAF 0 3 0]
def f70r2 : L:=[zAA 0 6 0,zAJ 1 7 6,zAF 2 8 0]
def f70r3 : L:=[zAQ 0 9 8 7]
def f70r4 : L:=[zAL 0 10 1 6 8,zAB 1 11 10,zAA 2 5 11]
def f70r5 : L:=[zAA 0 12 5,zAA 1 13 3,zBe 2 14 12 13]
def f70r6 : L:=[zAA 0 15 5,zAA 1 2 15]
def f70r7 : L:=[zAE 0 16 8 1,zAA 1 8 16]
def f70b0 : SC:=zAx f70r3 9 0 1 f70r4 f70r5 0 14 f70r6 f70r7
def f70r8 : L:=[zAA 0 17 3,zAA 1 2 17]
def f70c : SC:=zAg f70r0 f70r1 f70r2 f70b0 f70r8
def f70 : SFn := ⟨18, f70c, [.t 2]⟩

def f71r0 : L:=[zAF 0 4 0]
def f71r1 : L:=[zAA 0 7 0,zAS 1 8 87 7,zAA 2 5 8]
def f71r2 : L:=[zAA 0 9 1,zAS 1 10 87 9,zAA 2 6 10]
def f71r3 : L:=[zAA 0 11 5]
def f71r4 : L:=[zAA 0 12 6]
def f71r5 : L:=[zAF 0 4 0]
def f71r6 : L:=[zCH 4]
def f71r7 : L:=[zAA 0 13 6]
def f71r8 : L:=[zAF 0 4 1]
def f71r9 : L:=[zAA 0 14 0,zAA 1 15 1,zAQ 2 16 14 15]
def f71r10 : L:=[zCH 4]
def f71r11 : L:=[zAA 0 17 0,zAA 1 18 1,zBp 2 19 17 18]
def f71r12 : L:=[zAF 0 4 1]
def f71r13 : L:=[zAF 0 4 0]
def f71c : SC:=(.seq (.ops f71r0 0) (.seq (.ops f71r1 0) (.seq (.ops f71r2 0) (.seq (.seq (.ops f71r3 0) (.cond (.t 11) (.seq (.seq (.ops f71r4 0) (.cond (.t 12) (.seq (.ops f71r5 0) .ret) .skip)) (.seq (.ops f71r6 0) .ret)) .skip)) (.seq (.seq (.ops f71r7 0) (.cond (.t 13) (.seq (.ops f71r8 0) .ret) .skip)) (.seq (.seq (.ops f71r9 0) (.cond (.t 16) (.seq (.ops f71r10 0) .ret) .skip)) (.seq (.seq (.ops f71r11 0) (.cond (.t 19) (.seq (.ops f71r12 0) .ret) .skip)) (.seq (.ops f71r13 0) .ret))))))))
def f71 : SFn := ⟨20, f71c, [.t 4]⟩

def f72r0 : L:=[zAO 0 4 1,zAO 1 5 2]
def f72r1 : L:=[zAD 0 8 2 4,zAD 1 9 2 5,zAX 2 10 88 8 9,zAJ 3 11 10,zAF 4 12 0]
def f72r2 : L:=[zAQ 0 13 12 11]
def f72r3 : L:=[zAL 0 14 2 10 12,zAD 1 15 2 14,zAT 2 7,zAH 3 2 7 15]
def f72r4 : L:=[zAA 0 16 0,zAD 1 17 2 7,zCw 16 17]
def f72r5 : L:=[zAE 0 18 12 1,zAA 1 12 18]
def f72b0 : SC:=zBZ f72r2 13 0 1 f72r3 f72r4 0 f72r5
def f72c : SC:=(.seq (.ops f72r0 0) (.seq (.ops f72r1 0) (.block 0 (.loop f72b0))))
def f72 : SFn := ⟨19, f72c, []⟩

def f73r0 : L:=[zAO 0 1 0,zAG 1 2]
def f73r1 : L:=[zAG 0 2]
def f73c : SC:=zBC f73r0 f73r1 0
def f73 : SFn := ⟨3, f73c, [.t 2]⟩

def f74r0 : L:=[zAO 0 1 0,zAG 1 2]
def f74r1 : L:=[zAC 0 3 0 1,zAB 1 4 3,zAC 2 5 1 1,zAB 3 6 5,zAi 4 7 4 6,zAz 5 8 7 2,zAV 6 9 8 0,zAA 7 2 9]
def f74c : SC:=zBC f74r0 f74r1 0
def f74 : SFn := ⟨10, f74c, [.t 2]⟩

def f75r0 : L:=[zAO 0 1 0,zAG 1 2]
def f75r1 : L:=[zAC 0 3 1 1,zAB 1 4 3,zAz 2 5 4 2,zAV 3 6 5 0,zAA 4 2 6]
def f75c : SC:=zBC f75r0 f75r1 0
def f75 : SFn := ⟨7, f75c, [.t 2]⟩

def f76r0 : L:=[zAO 0 1 0,zAG 1 2]
def f76r1 : L:=[zAq 2]
def f76c : SC:=zBC f76r0 f76r1 0
def f76 : SFn := ⟨3, f76c, [.t 2]⟩

def f77r0 : L:=[zAO 0 3 0,zAO 1 4 1,zAO 2 5 2,zAG 3 6]
def f77r1 : L:=[zAD 0 7 2 5,zAD 1 8 2 3,zCr 2 9 7 8,zAA 3 10 9,zBA 4 11 2 5 10,zBA 5 12 2 4 10,⟨6, some 13, .p (.eqs false [(0, false), (1, false)] (.t 11) (.t 12)), (some (10, false)), none, [], false⟩,zAI 7 14 10 13]
def f77r2 : L:=[zAq 6]
def f77r3 : L:=[zAC 0 15 0 4,zAB 1 16 15,zAC 2 17 0 3,zAB 3 18 17,zAe 4 19 16 18,zAC 5 20 1 5,zAB 6 21 20,zAC 7 22 1 3,zAB 8 23 22,zAe 9 24 21 23,zAy 10 25 19 24,zAC 11 26 1 4,zAB 12 27 26,zAC 13 28 1 3,zAB 14 29 28,zAe 15 30 27 29,zAC 16 31 0 5,zAB 17 32 31,zAC 18 33 0 3,zAB 19 34 33,zAe 20 35 32 34,zAy 21 36 30 35,zBe 22 37 25 36]
def f77r4 : L:=[zAG 0 6]
def f77r5 : L:=[zAC 0 38 0 3,zAB 1 39 38,zAC 2 40 0 4,zAB 3 41 40,zBS 4 42 39 41,zAC 5 43 0 5,zAB 6 44 43,zAm 7 45 42 44,zAA 8 46 45,zAR 9 47 0 5 46,zAN 10 48 47 46,zAR 11 49 0 3 46,zAN 12 50 49 46,zAR 13 51 0 4 46,zAN 14 52 51 46,zCF 15 53 50 52 46,zBc 16 54 48 53 46,zAK 17 55 46 54,zAA 18 56 55,zAR 19 57 1 3 56,zAN 20 58 57 56,zAR 21 59 1 4 56,zAN 22 60 59 56,zCZ 23 61 58 60 56,zAR 24 62 1 5 56,zAN 25 63 62 56,zBc 26 64 61 63 56,zAK 27 65 56 64,zAA 28 66 65,zAR 29 67 1 5 66,zAN 30 68 67 66,zAR 31 69 1 3 66,zAN 32 70 69 66,zAR 33 71 1 4 66,zAN 34 72 71 66,zCF 35 73 70 72 66,zBc 36 74 68 73 66,zAK 37 75 66 74,zAA 38 6 75]
def f77c : SC:=(.seq (.ops f77r0 0) (.seq (.seq (.ops f77r1 0) (.cond (.t 14) (.seq (.ops f77r2 0) .ret) .skip)) (.seq (.seq (.ops f77r3 0) (.cond (.t 37) (.seq (.ops f77r4 0) .ret) .skip)) (.seq (.ops f77r5 0) .ret))))
def f77 : SFn := ⟨76, f77c, [.t 6]⟩

def f78r0 : L:=[zAO 0 3 0,zAO 1 4 1,zAO 2 5 2,zAG 3 6]
def f78r1 : L:=[zAC 0 9 1 3,zAB 1 10 9,zAC 2 11 1 5,zAB 3 12 11,zAm 4 13 10 12,zAC 5 14 1 4,zAB 6 15 14,zAC 7 16 1 5,zAB 8 17 16,zAm 9 18 15 17,zCg 10 19 13 18]
def f78r2 : L:=[zAG 0 6]
def f78r3 : L:=[zAC 0 20 1 5,zAB 1 21 20,zAC 2 22 1 3,zAB 3 23 22,zAe 4 24 21 23,zAC 5 25 0 4,zAB 6 26 25,zAC 7 27 0 3,zAB 8 28 27,zAe 9 29 26 28,zAy 10 30 24 29,zAC 11 31 0 5,zAB 12 32 31,zAC 13 33 0 3,zAB 14 34 33,zAe 15 35 32 34,zAC 16 36 1 4,zAB 17 37 36,zAC 18 38 1 3,zAB 19 39 38,zAe 20 40 37 39,zAy 21 41 35 40,zAA 22 7 30,zAA 23 8 41]
def f78r4 : L:=[zAC 0 42 1 4,zAB 1 43 42,zAC 2 44 1 3,zAB 3 45 44,zBp 4 46 43 45]
def f78r5 : L:=[zAA 0 47 7,zAA 1 48 8,zBp 2 49 47 48,zAA 3 6 49]
def f78r6 : L:=[zAA 0 50 7,zAA 1 51 8,zAQ 2 52 50 51,zAA 3 6 52]
def f78c : SC:=(.seq (.ops f78r0 0) (.seq (.seq (.ops f78r1 0) (.cond (.t 19) (.seq (.ops f78r2 0) .ret) .skip)) (.seq (.ops f78r3 24) (.seq (.seq (.ops f78r4 0) (.cond (.t 46) (.seq (.ops f78r5 0) .ret) .skip)) (.seq (.ops f78r6 0) .ret)))))
def f78 : SFn := ⟨53, f78c, [.t 6]⟩

def f81r0 : L:=[zAF 0 2 0]
def f81r1 : L:=[zAA 0 3 0,zAd 1 4 3 0]
def f81r2 : L:=[zAA 0 5 0,⟨1, some 6, .p (.neg (.t 5)), none, none, [], false⟩,zAA 2 2 6]
def f81r3 : L:=[zAA 0 7 0,zAA 1 2 7]
def f81c : SC:=zCb f81r0 f81r1 4 f81r2 f81r3
def f81 : SFn := ⟨8, f81c, [.t 2]⟩

def f82r0 : L:=[zAF 0 4 0]
def f82r1 : L:=[zAA 0 6 0,zAA 1 7 1,⟨2, some 8, .p (.bin .quo (.t 6) (.t 7)), none, none, [], false⟩,zAA 3 5 8]
def f82r2 : L:=[zAA 0 9 0,zAA 1 10 1,zBf 2 11 9 10,zAd 3 12 11 0]
def f82r3 : L:=[zAA 0 13 5,zBF 1 14 13,zAA 2 5 14]
def f82r4 : L:=[zAA 0 15 5,zAA 1 4 15]
def f82c : SC:=(.seq (.ops f82r0 0) (.seq (.ops f82r1 0) (.seq (.seq (.ops f82r2 0) (.cond (.t 12) (.ops f82r3 0) .skip)) (.seq (.ops f82r4 0) .ret))))
def f82 : SFn := ⟨16, f82c, [.t 4]⟩

def f83r0 : L:=[zAO 0 3 0,zAO 1 4 1,zAO 2 5 2,zAF 3 6 0]
def f83r1 : L:=[zAC 0 7 0 4,zAB 1 8 7,zAC 2 9 0 3,zAB 3 10 9,zAe 4 11 8 10,zAC 5 12 1 5,zAB 6 13 12,zAC 7 14 1 3,zAB 8 15 14,zAe 9 16 13 15,zAy 10 17 11 16,zAC 11 18 1 4,zAB 12 19 18,zAC 13 20 1 3,zAB 14 21 20,zAe 15 22 19 21,zAC 16 23 0 5,zAB 17 24 23,zAC 18 25 0 3,zAB 19 26 25,zAe 20 27 24 26,zAy 21 28 22 27,zAe 22 29 17 28,zAA 23 6 29]
def f83c : SC:=zBC f83r0 f83r1 0
def f83 : SFn := ⟨30, f83c, [.t 6]⟩

def f84r0 : L:=[zAb 0 2]
def f84r1 : L:=[zAA 0 3 0,⟨1, some 4, .cf 93 [(.c (.one .nils)), (.t 3)], none, none, [], false⟩,zAA 2 2 4]
def f84c : SC:=zBC f84r0 f84r1 0
def f84 : SFn := ⟨5, f84c, [.t 2]⟩

def f86r0 : L:=[zAB 0 4 1,⟨1, some 5, .e (.rng (.t 4)), none, none, [], false⟩]
def f86r1 : L:=[⟨0, some 6, .nx (.t 5), none, none, [], false⟩,zAj 1 7 6 0]
def f86r2 : L:=[⟨0, some 8, .e (.ent (.t 5)), none, none, [], false⟩,zAj 1 9 8 0,zAT 2 3,zAH 3 2 3 9]
def f86r3 : L:=[zAA 0 10 0,zAD 1 11 2 3,⟨2, some 12, .cv (.t 10) [(.t 11)], none, none, [], false⟩,zAk 3 13 12]
def f86b0 : SC:=(.seq (.ops f86r1 0) (.seq (.cond (.t 7) .skip (.exit 0)) (.block 1 (.seq (.ops f86r2 0) (.seq (.ops f86r3 0) (.cond (.t 13) .ret .skip))))))
def f86c : SC:=(.seq (.ops f86r0 0) (.block 0 (.loop f86b0)))
def f86 : SFn := ⟨14, f86c, []⟩

def f87r0 : L:=[zAG 0 2]
def f87r1 : L:=[zAA 0 3 0,zAA 1 4 0,zBe 2 5 3 4,zAA 3 2 5]
def f87c : SC:=zBC f87r0 f87r1 0
def f87 : SFn := ⟨6, f87c, [.t 2]⟩

def f88r0 : L:=[zAO 0 2 0,zAO 1 3 1,zAb 2 4]
def f88r1 : L:=[zAD 0 8 2 2,zAD 1 9 2 3,zCV 10 8 9,zAS 3 11 59 10,zAk 4 12 11]
def f88r2 : L:=[zAb 0 4]
def f88r3 : L:=[zAD 0 13 2 2,zAD 1 14 2 3,zAX 2 15 61 13 14,zAA 3 5 15]
def f88r4 : L:=[zAA 0 16 5,zAV 1 17 16 0]
def f88r5 : L:=[zAD 0 18 2 2,zAZ 1 19 18,zAA 2 4 19]
def f88r6 : L:=[zAA 0 20 5,zAE 1 21 20 1,⟨2, some 22, .a (.mkslice 2 16 [(.int .i64 0), (.int .i64 0)] (.c (.one (.int .i64 0))) (.t 21)), none, none, [], false⟩,zAA 3 6 22]
def f88r7 : L:=[zAA 0 23 5,zAE 1 24 23 1,zAF 2 25 0]
def f88r8 : L:=[zAQ 0 26 25 24]
def f88r9 : L:=[zAA 0 27 25,zAA 1 7 27]
def f88r10 : L:=[zAA 0 28 6,zAC 1 29 0 2,zAB 2 30 29,zAC 3 31 0 3,zAB 4 32 31,zAA 5 33 7,zAA 6 34 5,zAC 8 36 1 2,zAu 9 37 36,zAC 10 38 1 3,zAu 11 39 38,zAA 12 40 7,zAA 13 41 5,⟨7, some 35, .cf 95 [(.t 30), (.t 32), (.t 33), (.t 34)], none, none, [11, 9], false⟩,⟨14, some 42, .cf 95 [(.t 37), (.t 39), (.t 40), (.t 41)], none, none, [], false⟩,zAU 15 43 35 42,zBR 16 44 43,zAY 17 45 2 16 28 44,zAA 18 6 45]
def f88r11 : L:=[zAE 0 46 25 1,zAA 1 25 46]
def f88b0 : SC:=zBZ f88r8 26 0 1 f88r9 f88r10 19 f88r11
def f88r12 : L:=[zAA 0 47 6,zAA 1 4 47]
def f88c : SC:=(.seq (.ops f88r0 0) (.seq (.seq (.ops f88r1 0) (.cond (.t 12) (.seq (.ops f88r2 0) .ret) .skip)) (.seq (.ops f88r3 0) (.seq (.seq (.ops f88r4 0) (.cond (.t 17) (.seq (.ops f88r5 0) .ret) .skip)) (.seq (.ops f88r6 0) (.seq (.seq (.ops f88r7 0) (.block 0 (.loop f88b0))) (.seq (.ops f88r12 0) .ret)))))))
def f88 : SFn := ⟨48, f88c, [.t 4]⟩

def f90r0 : L:=[zAF 0 2 0]
def f90r1 : L:=[zAA 0 3 0,⟨1, some 4, .p (.conv .u32 (.t 3)), none, none, [], false⟩,zAS 2 5 104 4,zAA 3 2 5]
def f90r2 : L:=[zAA 0 6 0,zAS 1 7 105 6,zAA 2 2 7]
def f90c : SC:=(.seq (.ops f90r0 0) (.seq (.cond (.c (.one (.bool false))) (.seq (.ops f90r1 0) .ret) .skip) (.seq (.ops f90r2 0) .ret)))
def f90 : SFn := ⟨8, f90c, [.t 2]⟩

def f93r0 : L:=[zAO 0 2 0,zAb 1 4]
def f93r1 : L:=[zAA 0 6 1]
def f93r2 : L:=[zAT 0 5,zAH 1 2 5 7]
def f93r3 : L:=[zAB 0 8 2,zAD 1 9 2 5,zAZ 2 10 9,zAY 3 11 2 16 8 10,zAH 4 1 2 11]
def f93b0 : SC:=(.block 1 (.ops f93r3 0))
def f93r4 : L:=[zAB 0 12 2,zAA 1 4 12]
def f93c : SC:=(.seq (.ops f93r0 0) (.seq (.seq (.ops f93r1 0) (.block 0 (.rf (.t 6) [7] (.ops f93r2 0) f93b0))) (.seq (.ops f93r4 0) .ret)))
def f93 : SFn := ⟨13, f93c, [.t 4]⟩

def f95r0 : L:=[zAF 0 8 0]
def f95r1 : L:=[zAA 0 11 0,zAA 1 12 3,zAy 2 13 11 12,zAA 3 14 2,zAA 4 15 1,zAA 5 16 0,zAe 6 17 15 16,zAy 7 18 14 17,zAi 8 19 13 18,zAf 9 20 2 19,zAA 10 21 3,zAi 11 22 20 21,zAA 12 9 22]
def f95r2 : L:=[zAA 0 23 9,zAA 1 24 3,zAf 2 25 2 24,⟨3, some 26, .p (.bin .quo (.t 23) (.t 25)), none, none, [], false⟩,zAA 4 10 26]
def f95r3 : L:=[zAA 0 27 9,zAA 1 28 3,zAf 2 29 2 28,zBf 3 30 27 29,zAd 4 31 30 0]
def f95r4 : L:=[zAA 0 32 10,zBF 1 33 32,zAA 2 10 33]
def f95r5 : L:=[zAA 0 34 10,zAA 1 8 34]
def f95c : SC:=(.seq (.ops f95r0 0) (.seq (.ops f95r1 0) (.seq (.ops f95r2 0) (.seq (.seq (.ops f95r3 0) (.cond (.t 31) (.ops f95r4 0) .skip)) (.seq (.ops f95r5 0) .ret)))))
def f95 : SFn := ⟨35, f95c, [.t 8]⟩

def f104r0 : L:=[zAF 0 2 0]
def f104r1 : L:=[zAA 0 3 0,zCx 4 3 65536]
def f104r2 : L:=[zAA 0 5 0,zBk 6 5 16,zAA 2 0 6]
def f104r3 : L:=[zAF 0 2 16]
def f104r4 : L:=[zAA 0 7 0,zCx 8 7 256]
def f104r5 : L:=[zAA 0 9 0,zBk 10 9 8,zAA 2 0 10]
def f104r6 : L:=[zAA 0 11 2,zAE 1 12 11 8,zAA 2 2 12]
def f104r7 : L:=[zAA 0 13 2,zAA 1 14 0,zCs 15 14,⟨3, some 16, .p (.sindex (.c (.one (.str ⟨#[0, 1, 2, 2, 3, 3, 3, 3, 4, 4, 4, 4, 4, 4, 4, 4, 5, 5, 5, 5, 5, 5, 5, 5, 5, 5, 5, 5, 5, 5, 5, 5, 6, 6, 6, 6, 6, 6, 6, 6, 6, 6, 6, 6, 6, 6, 6, 6, 6, 6, 6, 6, 6, 6, 6, 6, 6, 6, 6, 6, 6, 6, 6, 6, 7, 7, 7, 7, 7, 7, 7, 7, 7, 7, 7, 7, 7, 7, 7, 7, 7, 7, 7, 7, 7, 7, 7, 7, 7, 7, 7, 7, 7, 7, 7, 7, 7, 7, 7, 7, 7, 7, 7, 7, 7, 7, 7, 7, 7, 7, 7, 7, 7, 7, 7, 7, 7, 7, 7, 7, 7, 7, 7, 7, 7, 7, 7, 7, 8, 8, 8, 8, 8, 8, 8, 8, 8, 8, 8, 8, 8, 8, 8, 8, 8, 8, 8, 8, 8, 8, 8, 8, 8, 8, 8, 8, 8, 8, 8, 8, 8, 8, 8, 8, 8, 8, 8, 8, 8, 8, 8, 8, 8, 8, 8, 8, 8, 8, 8, 8, 8, 8, 8, 8, 8, 8, 8, 8, 8, 8, 8, 8, 8, 8, 8, 8, 8, 8, 8, 8, 8, 8, 8, 8, 8, 8, 8, 8, 8, 8, 8, 8, 8, 8, 8, 8, 8, 8, 8, 8, 8, 8, 8, 8, 8, 8, 8, 8, 8, 8, 8, 8, 8, 8, 8, 8, 8, 8, 8, 8, 8, 8, 8, 8, 8, 8, 8, 8, 8, 8, 8, 8, 8, 8, 8, 8]⟩))) (.t 15)), none, none, [], false⟩,zAn 4 17 16,zAi 5 18 13 17,zAA 6 2 18]
def f104c : SC:=(.seq (.ops f104r0 0) (.seq (.seq (.ops f104r1 0) (.cond (.t 4) (.seq (.ops f104r2 0) (.ops f104r3 0)) .skip)) (.seq (.seq (.ops f104r4 0) (.cond (.t 8) (.seq (.ops f104r5 0) (.ops f104r6 0)) .skip)) (.seq (.ops f104r7 0) .ret))))
def f104 : SFn := ⟨19, f104c, [.t 2]⟩

def f105r0 : L:=[zAF 0 2 0]
def f105r1 : L:=[zAA 0 3 0,zCR 4 3 4294967296]
def f105r2 : L:=[zAA 0 5 0,zBk 6 5 32,zAA 2 0 6]
def f105r3 : L:=[zAF 0 2 32]
def f105r4 : L:=[zAA 0 7 0,zCR 8 7 65536]
def f105r5 : L:=[zAA 0 9 0,zBk 10 9 16,zAA 2 0 10]
def f105r6 : L:=[zAA 0 11 2,zAE 1 12 11 16,zAA 2 2 12]
def f105r7 : L:=[zAA 0 13 0,zCR 14 13 256]
def f105r8 : L:=[zAA 0 15 0,zBk 16 15 8,zAA 2 0 16]
def f105r9 : L:=[zAA 0 17 2,zAE 1 18 17 8,zAA 2 2 18]
def f105r10 : L:=[zAA 0 19 2,zAA 1 20 0,zCs 21 20,⟨3, some 22, .p (.sindex (.c (.one (.str ⟨#[0, 1, 2, 2, 3, 3, 3, 3, 4, 4, 4, 4, 4, 4, 4, 4, 5, 5, 5, 5, 5, 5, 5, 5, 5, 5, 5, 5, 5, 5, 5, 5, 6, 6, 6, 6, 6, 6, 6, 6, 6, 6, 6, 6, 6, 6, 6, 6, 6, 6, 6, 6, 6, 6, 6, 6, 6, 6, 6, 6, 6, 6, 6, 6, 7, 7, 7, 7, 7, 7, 7, 7, 7, 7, 7, 7, 7, 7, 7, 7, 7, 7, 7, 7, 7, 7, 7, 7, 7, 7, 7, 7, 7, 7, 7, 7, 7, 7, 7, 7, 7, 7, 7, 7, 7, 7, 7, 7, 7, 7, 7, 7, 7, 7, 7, 7, 7, 7, 7, 7, 7, 7, 7, 7, 7, 7, 7, 7, 8, 8, 8, 8, 8, 8, 8, 8, 8, 8, 8, 8, 8, 8, 8, 8, 8, 8, 8, 8, 8, 8, 8, 8, 8, 8, 8, 8, 8, 8, 8, 8, 8, 8, 8, 8, 8, 8, 8, 8, 8, 8, 8, 8, 8, 8, 8, 8, 8, 8, 8, 8, 8, 8, 8, 8, 8, 8, 8, 8, 8, 8, 8, 8, 8, 8, 8, 8, 8, 8, 8, 8, 8, 8, 8, 8, 8, 8, 8, 8, 8, 8, 8, 8, 8, 8, 8, 8, 8, 8, 8, 8, 8, 8, 8, 8, 8, 8, 8, 8, 8, 8, 8, 8, 8, 8, 8, 8, 8, 8, 8, 8, 8, 8, 8, 8, 8, 8, 8, 8, 8, 8, 8, 8, 8, 8, 8, 8]⟩))) (.t 21)), none, none, [], false⟩,zAn 4 23 22,zAi 5 24 19 23,zAA 6 2 24]
def f105c : SC:=(.seq (.ops f105r0 0) (.seq (.seq (.ops f105r1 0) (.cond (.t 4) (.seq (.ops f105r2 0) (.ops f105r3 0)) .skip)) (.seq (.seq (.ops f105r4 0) (.cond (.t 8) (.seq (.ops f105r5 0) (.ops f105r6 0)) .skip)) (.seq (.seq (.ops f105r7 0) (.cond (.t 14) (.seq (.ops f105r8 0) (.ops f105r9 0)) .skip)) (.seq (.ops f105r10 0) .ret)))))
def f105 : SFn := ⟨25, f105c, [.t 2]⟩

end Go.Ae

namespace Go.Ae
open Go.Ab
set_option maxRecDepth 100000
end Go.Ae
