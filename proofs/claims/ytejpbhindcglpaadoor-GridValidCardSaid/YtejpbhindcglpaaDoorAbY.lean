/- From the model's code to the abstract code; the rules for it. -/
import Derived.Test.YtejpbhindcglpaaDoorAbK
namespace Go.Ab

inductive SC where
  | skip
  | ops (l : List SOper) (res : Nat)
  | seq (a b : SC)
  | cond (d : Opd) (a b : SC)
  | block (id : Nat) (a : SC)
  | loop (a : SC)
  | exit (id : Nat)
  | ret

/-- what is added to an operation: its reserved name, the loads it watches, whether it is watched -/
structure Extra where
  aid : Nat → Option Nat
  watch : Nat → List Nat
  keep : Nat → Bool

def cpOper (P : Program) (G n : Nat) (ops : Array Oper) (x : Extra) (i : Nat) : Option SOper :=
  match ops[i]? with
  | none => none
  | some o => match cpOp P G n o, cGuard n ops o.guard with
    | some op, some g => if cDst n o.dst then some ⟨i, o.dst, op, g, x.aid i, x.watch i, x.keep i⟩ else none
    | _, _ => none

def cpAll (P : Program) (G n : Nat) (ops : Array Oper) (x : Extra) : List Nat → Option (List SOper)
  | [] => some []
  | i :: r => match cpOper P G n ops x i, cpAll P G n ops x r with
    | some s, some l => some (s :: l)
    | _, _ => none

def noExtra : Extra := ⟨fun _ => none, fun _ => [], fun _ => false⟩

/-- all that each operation hangs on -/
def depsOf (ops : List Oper) : List (List Nat) :=
  ops.foldl (init := []) fun acc o => acc ++ [(o.after.toList.foldl (init := []) fun s e => if Region.binds .any e then (e.on :: acc.getD e.on []).foldl (fun s j => if s.contains j then s else j :: s) s else s)]

def Kd.light : Kd → Bool
  | .p => true
  | .l => true
  | _ => false

/-- light operations as early as may be, the others as the text has them -/
def sched (D : List (List Nat)) (kds : List Kd) : Nat → List Nat → List Nat → List Nat
  | 0, _, acc => acc.reverse
  | f + 1, rest, acc =>
    let ok := fun i => (D.getD i []).all fun j => acc.contains j
    match rest.find? fun i => (kds.getD i .e).light && ok i with
    | some i => sched D kds f (rest.filter (· != i)) (i :: acc)
    | none => match rest.find? fun i => !(kds.getD i .e).light with
      | some i => sched D kds f (rest.filter (· != i)) (i :: acc)
      | none => acc.reverse

def kdsOf (P : Program) (G n : Nat) (ops : List Oper) : List Kd := ops.map fun o => match cpOp P G n o with
  | some op => op.kd
  | none => .e

def Kd.isL : Kd → Bool
  | .l => true
  | _ => false
def Kd.isA : Kd → Bool
  | .a => true
  | _ => false
def Kd.isE : Kd → Bool
  | .e => true
  | .c => true
  | _ => false

/-- for each operation of the order: the loads before it that it does not hang on -/
def watches (D : List (List Nat)) (kds : List Kd) : List Nat → List Nat → List (Nat × List Nat)
  | [], _ => []
  | i :: r, ls =>
    if (kds.getD i .e).isE then (i, ls.filter fun j => !(D.getD i []).contains j) :: watches D kds r ls
    else watches D kds r (if (kds.getD i .e).isL then i :: ls else ls)

def pairsB (D : List (List Nat)) : List Nat → List SOper → Bool
  | i :: idx, s :: l => ((idx.zip l).all fun p => (D.getD p.1 []).contains i || swapOk s p.2) && pairsB D idx l
  | _, _ => true

def nodupB : List Nat → Bool
  | [] => true
  | i :: l => !l.contains i && nodupB l

def depB (D : List (List Nat)) (ops : Array Oper) (i : Nat) : Bool :=
  match ops[i]? with
  | none => true
  | some o => (D.getD i []).all (fun j => o.after.toList.any fun e => Region.binds .any e && (e.on == j || (D.getD e.on []).contains j)) && o.after.toList.all fun e => !Region.binds .any e || decide (e.on < i)

def drawB (D : List (List Nat)) (ops : Array Oper) (idx : List Nat) (l : List SOper) (res : Nat) : Bool :=
  pairsB D idx l && nodupB idx && idx.all (fun i => decide (i < ops.size)) && (List.range ops.size).all (fun i => idx.contains i) && (List.range ops.size).all (depB D ops) && nodupB (l.filterMap (·.aid)) && decide (idx.length ≤ ops.size) && (l.filterMap (·.aid)).all fun k => decide (k < res)

def cpDraw (P : Program) (G n : Nat) (ops : Array Oper) : Option (List SOper) :=
  let D := depsOf ops.toList
  let kds := kdsOf P G n ops.toList
  let idx := sched D kds ops.size (List.range ops.size) []
  let ws := watches D kds idx []
  let x : Extra := ⟨fun i => if (kds.getD i .e).isA then some i else none, fun i => ((ws.find? fun p => p.1 == i).map (·.2)).getD [], fun i => ws.any fun p => p.2.contains i⟩
  match cpAll P G n ops x idx with
  | none => none
  | some l => if drawB D ops idx l ops.size then some l else none

def cpCode (P : Program) (G n : Nat) : Code → Option SC
  | .skip => some .skip
  | .region _ ops draw =>
    if draw then (cpDraw P G n ops).map fun l => .ops l ops.size
    else (cpAll P G n ops noExtra (List.range ops.size)).map fun l => .ops l 0
  | .seq a b => match cpCode P G n a, cpCode P G n b with
    | some a, some b => some (.seq a b)
    | _, _ => none
  | .cond c a b => match cO G n c, cpCode P G n a, cpCode P G n b with
    | some d, some a, some b => some (.cond d a b)
    | _, _, _ => none
  | .block id a => (cpCode P G n a).map (.block id)
  | .loop a => (cpCode P G n a).map .loop
  | .exit id => some (.exit id)
  | .ret => some .ret
  | _ => none

inductive SRes where
  | t (n : Nat)
  | cell (agg : Bool) (k : Nat) (n : Nat)

def aRes (F : T V) (H : Hp) : SRes → Option V
  | .t n => some ((F.get n).getD V.undef)
  | .cell agg k n => aLoad F H (.load agg k (.t n))

def aResL (F : T V) (H : Hp) : List SRes → Option (List V)
  | [] => some []
  | r :: l => match aRes F H r, aResL F H l with
    | some v, some vs => if isOne v then some (v :: vs) else none
    | _, _ => none

def aResult (F : T V) (H : Hp) (rs : List SRes) : Option V :=
  match aResL F H rs with
  | some [v] => some v
  | some vs => some (.tup vs)
  | none => none

def cpRes (P : Program) (n : Nat) : List ResultVar → Option (List SRes)
  | [] => some []
  | .tmp t :: l => if t < n then (cpRes P n l).map (.t t :: ·) else none
  | .cell a t :: l => match isAggT P t, sizeT P t with
    | some g, some k => if a < n then (cpRes P n l).map (.cell g k a :: ·) else none
    | _, _ => none

structure SFn where
  n : Nat
  code : SC
  res : List SRes

def cpFn (P : Program) (G : Nat) (f : FuncId) : Option SFn :=
  match P.funcs[f]? with
  | none => none
  | some fn => match fn.body with
    | none => none
    | some c => match cpCode P G fn.ntmps c, cpRes P fn.ntmps fn.results.toList with
      | some s, some rs => some ⟨fn.ntmps, s, rs⟩
      | _, _ => none

def initF : List V → Nat → T V
  | [], _ => .lf
  | v :: l, i => (initF l (i + 1)).set i (some v)

def retQ (rs : List SRes) (R : V → Hp → Prop) : Exit → T V → Hp → Prop
  | .normal, F, H => match aResult F H rs with
    | some v => R v H
    | none => False
  | .ret, F, H => match aResult F H rs with
    | some v => R v H
    | none => False
  | _, _, _ => False

/-- WHAT ABSTRACT CODE COMES TO. -/
def SWP (P : Program) (G n : Nat) (s : SC) (Q : Exit → T V → Hp → Prop) (F : T V) (H : Hp) : Prop := ∀ c, cpCode P G n c = some s → AWP P G n c Q F H

section
variable {P : Program} {G n : Nat}

theorem cpOper_fits {ops : Array Oper} {x : Extra} {i : Nat} {s : SOper} (h : cpOper P G n ops x i = some s) : (∃ o, ops[i]? = some o ∧ Fits P G n ops o s) ∧ s.aid = x.aid i := by
  unfold cpOper at h
  split at h
  · cases h
  · rename_i o ho
    split at h
    · rename_i op g h1 h2
      split at h
      · rename_i h3
        obtain rfl := Option.some.inj h
        exact ⟨⟨o, ho, h1, rfl, h3, h2⟩, rfl⟩
      · cases h
    · cases h

theorem cpAll_aligned {ops : Array Oper} {x : Extra} : ∀ {idx : List Nat} {l : List SOper}, cpAll P G n ops x idx = some l → Aligned P G n ops idx l ∧ ∀ s ∈ l, ∃ i ∈ idx, s.aid = x.aid i
  | [], l, h => by simp [cpAll] at h; subst h; exact ⟨trivial, by simp⟩
  | i :: idx, l, h => by
    simp only [cpAll] at h
    split at h
    · rename_i s r h1 h2
      obtain rfl := Option.some.inj h
      obtain ⟨g1, g2⟩ := cpOper_fits h1
      obtain ⟨g3, g4⟩ := cpAll_aligned h2
      refine ⟨⟨g1, g3⟩, fun t ht => ?_⟩
      rcases List.mem_cons.1 ht with rfl | ht
      · exact ⟨i, by simp, g2⟩
      · obtain ⟨j, hj, e⟩ := g4 t ht; exact ⟨j, by simp [hj], e⟩
    · cases h

theorem pairsB_ok {D : List (List Nat)} : ∀ {idx : List Nat} {l : List SOper}, pairsB D idx l = true → PairsOk (fun i => D.getD i []) idx l
  | i :: idx, s :: l, h => by
    simp only [pairsB, Bool.and_eq_true, List.all_eq_true] at h
    refine ⟨fun j t hjt => ?_, pairsB_ok h.2⟩
    have := h.1 (j, t) hjt
    simp only [Bool.or_eq_true] at this
    exact this.imp (by simp) id
  | [], _, _ => trivial
  | _ :: _, [], _ => trivial

theorem nodupB_ok : ∀ {l : List Nat}, nodupB l = true → l.Nodup
  | [], _ => List.nodup_nil
  | i :: l, h => by
    simp only [nodupB, Bool.and_eq_true] at h
    exact List.nodup_cons.2 ⟨by simpa using h.1, nodupB_ok h.2⟩

theorem awp_draw (hm : P.follows .mixedOrders = true) {id res : Nat} {ops : Array Oper} {D : List (List Nat)} {idx : List Nat} {l : List SOper} (hal : Aligned P G n ops idx l) (hB : drawB D ops idx l res = true)
    {Q : Exit → T V → Hp → Prop} {F : T V} {H : Hp} (h : wOps P G H.nx (Q .normal) l [] F (H.skip res)) : AWP P G n (.region id ops true) Q F H := by
  intro μ K w a hR hF hd
  unfold drawB at hB
  simp only [Bool.and_eq_true, List.all_eq_true, decide_eq_true_eq, List.mem_range] at hB
  obtain ⟨⟨⟨⟨⟨⟨⟨h1, h2⟩, h3⟩, h4⟩, h5⟩, h6⟩, h8⟩, h7⟩ := hB
  have hdep : ∀ i o, ops[i]? = some o → depB D ops i = true := fun i o ho => h5 i (Array.getElem?_eq_some_iff.1 ho).1
  refine wp_region_any hm ?_
  have hR' := (hR.drawn (w.drawn + 1)).skip res
  refine any_ok (D := fun i => D.getD i []) (base := H.nx) (Q := Q .normal) (μ0 := μ) (K0 := K) (H0 := H) (w0 := w) hR.lt' (fun μ' K' F' H' a' w' g1 g2 g3 g4 g5 => ⟨g5, F', H', μ', K', g1, g2, g3, g4⟩) (fun i o ho j hj => ?_) (fun i o ho e he hb => ?_)
    (by simp) (fun i hi => ?_) (fun i hi => h3 i hi) (nodupB_ok h2) ?_ (fun i hi hni => ?_) hal (pairsB_ok h1) (nodupB_ok h6) (fun k p hp => by cases hp) (fun s hs k hk => ?_) hR' hF ((Fr.drawn hR _).trans hR.lt' (Fr.skip (hR.drawn _) res)) hd h
  · have := hdep i o ho
    unfold depB at this
    rw [ho] at this
    simp only [Bool.and_eq_true, List.all_eq_true, List.any_eq_true, Bool.or_eq_true] at this
    obtain ⟨e, he, hb, hh⟩ := this.1 j hj
    exact ⟨e, he, hb, hh.imp (by simp) (by simp)⟩
  · have := hdep i o ho
    unfold depB at this
    rw [ho] at this
    simp only [Bool.and_eq_true, List.all_eq_true, Bool.or_eq_true, decide_eq_true_eq, Bool.not_eq_true'] at this
    rcases this.2 e he with h | h
    · rw [hb] at h; cases h
    · exact h
  · constructor
    · intro _
      have := h4 i hi
      simpa using this
    · intro _; simp [hi]
  · exact h8
  · exact absurd (by have := h4 i hi; simpa using this) hni
  · have hk' : k < res := h7 k (List.mem_filterMap.2 ⟨s, hs, hk⟩)
    refine ⟨fun hkk => absurd (hR.lt _ hkk) (by omega), by simp; omega, by omega⟩

theorem swp_skip {Q : Exit → T V → Hp → Prop} {F : T V} {H : Hp} (h : Q .normal F H) : SWP P G n .skip Q F H := by
  intro c hc
  cases c <;> simp only [cpCode] at hc <;> try (cases hc; done)
  case skip => exact awp_skip h
  case region id ops draw => split at hc <;> simp at hc
  case seq a b => split at hc <;> cases hc
  case cond d a b => split at hc <;> cases hc
  case block id a => simp at hc
  case loop a => simp at hc

theorem swp_ops (hm : P.follows .mixedOrders = true) {l : List SOper} {res : Nat} {Q : Exit → T V → Hp → Prop} {F : T V} {H : Hp} (h : wOps P G H.nx (Q .normal) l [] F (H.skip res)) : SWP P G n (.ops l res) Q F H := by
  intro c hc
  cases c <;> simp only [cpCode] at hc <;> try (cases hc; done)
  case region id ops draw =>
    cases draw with
    | false =>
      simp only [Bool.false_eq_true, if_false, Option.map_eq_some_iff, SC.ops.injEq] at hc
      obtain ⟨l', hl, rfl, rfl⟩ := hc
      obtain ⟨h1, h2⟩ := cpAll_aligned hl
      exact awp_region h1 (fun s hs => by obtain ⟨i, _, e⟩ := h2 s hs; exact e) h
    | true =>
      simp only [if_true, Option.map_eq_some_iff, SC.ops.injEq] at hc
      obtain ⟨l', hl, rfl, rfl⟩ := hc
      unfold cpDraw at hl
      simp only at hl
      split at hl
      · cases hl
      · rename_i l'' hall
        split at hl
        · rename_i hB
          obtain rfl := Option.some.inj hl
          exact awp_draw hm (cpAll_aligned hall).1 hB h
        · cases hl
  case seq a b => split at hc <;> cases hc
  case cond d a b => split at hc <;> cases hc
  case block id a => simp at hc
  case loop a => simp at hc

theorem swp_seq {a b : SC} {Q : Exit → T V → Hp → Prop} {F : T V} {H : Hp} (h : SWP P G n a (thenQ (SWP P G n b Q) Q) F H) : SWP P G n (.seq a b) Q F H := by
  intro c hc
  cases c <;> simp only [cpCode] at hc <;> try (cases hc; done)
  case seq x y =>
    split at hc
    · rename_i x' y' hx hy
      simp only [Option.some.injEq, SC.seq.injEq] at hc
      obtain ⟨rfl, rfl⟩ := hc
      refine awp_seq (awp_mono (h x hx) fun e F' H' he => ?_)
      cases e with
      | normal => exact (show SWP P G n y' Q F' H' from he) y hy
      | _ => exact he
    · cases hc
  case region id ops draw => split at hc <;> simp at hc
  case cond d a b => split at hc <;> cases hc
  case block id a => simp at hc
  case loop a => simp at hc

theorem swp_cond {d : Opd} {a b : SC} {Q : Exit → T V → Hp → Prop} {F : T V} {H : Hp} {t : Bool} (ht : d.ev F = .one (.bool t)) (h : SWP P G n (if t then a else b) Q F H) : SWP P G n (.cond d a b) Q F H := by
  intro c hc
  cases c <;> simp only [cpCode] at hc <;> try (cases hc; done)
  case cond o x y =>
    split at hc
    · rename_i d' x' y' h1 hx hy
      simp only [Option.some.injEq, SC.cond.injEq] at hc
      obtain ⟨rfl, rfl, rfl⟩ := hc
      refine awp_cond h1 ht ?_
      cases t
      · exact h y hy
      · exact h x hx
    · cases hc
  case region id ops draw => split at hc <;> simp at hc
  case seq a b => split at hc <;> cases hc
  case block id a => simp at hc
  case loop a => simp at hc

theorem swp_block {id : Nat} {a : SC} {Q : Exit → T V → Hp → Prop} {F : T V} {H : Hp} (h : SWP P G n a (blockQ id Q) F H) : SWP P G n (.block id a) Q F H := by
  intro c hc
  cases c <;> simp only [cpCode] at hc <;> try (cases hc; done)
  case block id' x =>
    simp only [Option.map_eq_some_iff, SC.block.injEq] at hc
    obtain ⟨x', hx, rfl, rfl⟩ := hc
    exact awp_block (h x hx)
  case region id ops draw => split at hc <;> simp at hc
  case seq a b => split at hc <;> cases hc
  case cond d a b => split at hc <;> cases hc
  case loop a => simp at hc

theorem swp_loop {a : SC} {Q : Exit → T V → Hp → Prop} {F : T V} {H : Hp} (I : Nat → T V → Hp → Prop) {m : Nat} (h0 : I m F H) (round : ∀ m F H, I m F H → SWP P G n a (thenQ (fun F' H' => ∃ m', m' < m ∧ I m' F' H') Q) F H) : SWP P G n (.loop a) Q F H := by
  intro c hc
  cases c <;> simp only [cpCode] at hc <;> try (cases hc; done)
  case loop x =>
    simp only [Option.map_eq_some_iff, SC.loop.injEq] at hc
    obtain ⟨x', hx, rfl⟩ := hc
    exact awp_loop I h0 fun m F H hI => round m F H hI x hx
  case region id ops draw => split at hc <;> simp at hc
  case seq a b => split at hc <;> cases hc
  case cond d a b => split at hc <;> cases hc
  case block id a => simp at hc

theorem swp_exit {id : Nat} {Q : Exit → T V → Hp → Prop} {F : T V} {H : Hp} (h : Q (.exit id) F H) : SWP P G n (.exit id) Q F H := by
  intro c hc
  cases c <;> simp only [cpCode] at hc <;> try (cases hc; done)
  case exit id' => simp only [Option.some.injEq, SC.exit.injEq] at hc; subst hc; exact awp_exit h
  case region id ops draw => split at hc <;> simp at hc
  case seq a b => split at hc <;> cases hc
  case cond d a b => split at hc <;> cases hc
  case block id a => simp at hc
  case loop a => simp at hc

theorem swp_ret {Q : Exit → T V → Hp → Prop} {F : T V} {H : Hp} (h : Q .ret F H) : SWP P G n .ret Q F H := by
  intro c hc
  cases c <;> simp only [cpCode] at hc <;> try (cases hc; done)
  case ret => exact awp_ret h
  case region id ops draw => split at hc <;> simp at hc
  case seq a b => split at hc <;> cases hc
  case cond d a b => split at hc <;> cases hc
  case block id a => simp at hc
  case loop a => simp at hc

theorem swp_mono {s : SC} {Q Q' : Exit → T V → Hp → Prop} {F : T V} {H : Hp} (h : SWP P G n s Q F H) (hq : ∀ e F H, Q e F H → Q' e F H) : SWP P G n s Q' F H :=
  fun c hc => awp_mono (h c hc) hq

/-- a heap that a world can have -/
def WF (H : Hp) : Prop := ∀ b bk, H.get b = some bk → b < H.nx

theorem swp_wf {s : SC} {Q : Exit → T V → Hp → Prop} {F : T V} {H : Hp} (h : WF H → SWP P G n s Q F H) : SWP P G n s Q F H :=
  fun c hc μ K w a hR hF hd => h hR.lt' c hc μ K w a hR hF hd
theorem acalls_wf {f : FuncId} {args : List V} {H : Hp} {R : V → Hp → Prop} (h : WF H → ACalls P G f args H R) : ACalls P G f args H R :=
  fun μ K w xs hR ha => h hR.lt' μ K w xs hR ha
theorem ACalls.wf {f : FuncId} {args : List V} {H : Hp} {R : V → Hp → Prop} (h : ACalls P G f args H R) : ACalls P G f args H fun v H' => R v H' ∧ WF H' :=
  fun μ K w xs hR ha => (h μ K w xs hR ha).mono fun _ _ ⟨x, he, v, H', μ', K', h1, h2, h3, h4⟩ => ⟨x, he, v, H', μ', K', ⟨h1, h3.lt'⟩, h2, h3, h4⟩

theorem initF_get : ∀ {l : List V} {i j : Nat}, (initF l i).get j = if i ≤ j then l[j - i]? else none
  | [], i, j => by simp [initF]
  | v :: l, i, j => by
    simp only [initF]
    rw [T.get_set]
    by_cases e : j = i
    · subst e; simp
    · rw [if_neg e, initF_get]
      by_cases h : i + 1 ≤ j
      · rw [if_pos h, if_pos (by omega), show j - i = (j - (i + 1)) + 1 by omega]; simp
      · rw [if_neg h, if_neg (by omega)]

def resOne (tmps : Array Value) : ResultVar → Sem Value
  | .tmp t => pure (tmps.getD t Go.undef)
  | .cell c t => do loadVar t (← asAddr (tmps.getD c Go.undef))

theorem mapM_head {rv : List ResultVar} {r : ResultVar} {f : ResultVar → Sem Value} {x : Value} {xs : List Value} {w : World} (h1 : (f r).run P w = .ok x w) (h2 : (rv.mapM f).run P w = .ok xs w) : ((r :: rv).mapM f).run P w = .ok (x :: xs) w := by
  rw [List.mapM_cons, Sem.run_bind, h1, Result.andThen_ok, Sem.run_bind, h2]
  rfl

theorem aRes_ok {μ : Nat → Pl} {K : Nat → Prop} {F : T V} {H : Hp} {w : World} {a : Act} (hR : Rel G μ K H w) (hF : FRel μ K n F a.tmps) : ∀ {rv : List ResultVar} {rs : List SRes} {vs : List V}, cpRes P n rv = some rs → aResL F H rs = some vs →
    ∃ xs : List Value, All2 (RV1 μ K) vs xs ∧ (rv.mapM (resOne a.tmps)).run P w = .ok xs w
  | [], rs, vs, h1, h2 => by
    simp [cpRes] at h1; subst h1
    simp [aResL] at h2; subst h2
    exact ⟨[], trivial, by simp⟩
  | .tmp t :: rv, rs, vs, h1, h2 => by
    simp only [cpRes] at h1
    split at h1
    · rename_i ht
      simp only [Option.map_eq_some_iff] at h1
      obtain ⟨rs', hrs, rfl⟩ := h1
      simp only [aResL, aRes] at h2
      split at h2
      · rename_i v vs' e1 e2
        split at h2
        · rename_i hone
          obtain rfl := Option.some.inj h2
          obtain rfl := Option.some.inj e1
          obtain ⟨xs, hall, hrun⟩ := aRes_ok hR hF hrs e2
          exact ⟨a.tmps.getD t Go.undef :: xs, ⟨isOne_rv hone (hF.2 t ht), hall⟩, mapM_head rfl hrun⟩
        · cases h2
      · cases h2
    · cases h1
  | .cell c t :: rv, rs, vs, h1, h2 => by
    simp only [cpRes] at h1
    split at h1
    · rename_i g k hg hk
      split at h1
      · rename_i hc
        simp only [Option.map_eq_some_iff] at h1
        obtain ⟨rs', hrs, rfl⟩ := h1
        simp only [aResL, aRes] at h2
        split at h2
        · rename_i v vs' e1 e2
          split at h2
          · rename_i hone
            obtain rfl := Option.some.inj h2
            obtain ⟨xs, hall, hrun⟩ := aRes_ok hR hF hrs e2
            have hv := hF.2 c hc
            simp only [aLoad, Opd.ev] at e1
            split at e1
            · rename_i b o he
              rw [he] at hv
              obtain ⟨hkb, hv'⟩ : K b ∧ a.tmps.getD c Go.undef = .pointer (some ((μ b).addr o)) := hv
              cases g with
              | true =>
                simp only [if_true, Option.map_eq_some_iff] at e1
                obtain ⟨l, hl, rfl⟩ := e1
                obtain ⟨ys, ha, hr⟩ := hR.loads (P := P) (n := k) (b := b) (o := o) (i := 0) (acc := #[]) hl
                have hr' : (loadCells ((μ b).addr o) k).run P w = .ok ys.toArray w := by simpa [loadCells] using hr
                refine ⟨.agg ys.toArray :: xs, ⟨⟨ys, rfl, ha⟩, hall⟩, mapM_head ?_ hrun⟩
                simp only [resOne, Sem.run_bind, hv', asAddr, Sem.run_pure, Result.andThen_ok, loadVar, isAggT_run hg, if_true, sizeT_run hk, hr']
              | false =>
                simp only [Bool.false_eq_true, if_false, Option.map_eq_some_iff] at e1
                obtain ⟨cc, hcc, rfl⟩ := e1
                obtain ⟨y, hy, hr⟩ := hR.cell hcc
                refine ⟨y :: xs, ⟨hr, hall⟩, mapM_head ?_ hrun⟩
                simp only [resOne, Sem.run_bind, hv', asAddr, Sem.run_pure, Result.andThen_ok, loadVar, isAggT_run hg, Bool.false_eq_true, if_false, run_load, hy]
            · cases e1
          · cases h2
        · cases h2
      · cases h1
    · cases h1

/-- A FUNCTION, BY ITS ABSTRACT BODY. -/
theorem fn_ok {f : FuncId} {sf : SFn} (hf : cpFn P G f = some sf) {args : List V} {H : Hp} {R : V → Hp → Prop} (hn : args.length ≤ sf.n) (h : SWP P G sf.n sf.code (retQ sf.res R) (initF args 0) H) : ACalls P G f args H R := by
  unfold cpFn at hf
  split at hf
  · cases hf
  · rename_i fn hfn
    split at hf
    · cases hf
    · rename_i c hb
      split at hf
      · rename_i s rs hs hrs
        obtain rfl := Option.some.inj hf
        intro μ K w xs hR ha
        refine calls_of_wp hfn hb ?_
        have hlen := ha.len
        have hF0 : FRel μ K fn.ntmps (initF args 0) (xs.toArray ++ Array.replicate (fn.ntmps - xs.toArray.size) Go.undef) := by
          refine ⟨by simp; simp at hn; omega, fun i hi => ?_⟩
          rw [initF_get]
          simp only [Nat.zero_le, if_true, Nat.sub_zero]
          by_cases hlt : i < xs.length
          · have h1 : args[i]? = some args[i] := List.getElem?_eq_getElem (by omega)
            rw [h1]
            obtain ⟨x, hx, hr⟩ := ha.at i _ h1
            have : (xs.toArray ++ Array.replicate (fn.ntmps - xs.toArray.size) Go.undef).getD i Go.undef = x := by
              simp [Array.getD_eq_getD_getElem?, Array.getElem?_append, hlt, List.getElem?_eq_getElem hlt] at hx ⊢
              exact hx
            rw [this]
            exact hr
          · have h1 : args[i]? = none := List.getElem?_eq_none (by omega)
            rw [h1]
            have : (xs.toArray ++ Array.replicate (fn.ntmps - xs.toArray.size) Go.undef).getD i Go.undef = Go.undef := by
              simp only [Array.getD_eq_getD_getElem?, Array.getElem?_append]
              rw [if_neg (by simpa using hlt)]
              rw [Array.getElem?_replicate]
              split <;> rfl
            rw [this]
            exact RV.undef
        refine wp_mono (h c hs μ K w ⟨_, []⟩ hR hF0 rfl) fun e a' w' he => ?_
        obtain ⟨hd, F', H', μ', K', h1, h2, h3, h4⟩ := he
        have fin : (match aResult F' H' rs with
            | some v => R v H'
            | none => False) → a'.defers = [] ∧ ∃ v, (results fn a'.tmps).run P w' = .ok v w' ∧ ∃ x, Ending.returned v = .returned x ∧ ∃ v H' μ' K', R v H' ∧ RV μ' K' v x ∧ Rel G μ' K' H' w' ∧ Fr μ K H w μ' K' H' w' := by
          intro hres
          refine ⟨hd, ?_⟩
          unfold aResult at hres
          cases hl : aResL F' H' rs with
          | none => simp [hl] at hres
          | some vs =>
            obtain ⟨ys, hall, hrun⟩ := aRes_ok (P := P) h2 h3 hrs hl
            have hrun' : (results fn a'.tmps).run P w' = .ok (if h : ys.toArray.size = 1 then ys.toArray[0] else .tuple ys.toArray) w' := by
              have he : results fn a'.tmps = (do let vs ← fn.results.mapM (resOne a'.tmps); pure (if h : vs.size = 1 then vs[0] else .tuple vs)) := by
                unfold results resOne
                rfl
              rw [he, Sem.run_bind, Array.mapM_eq_mapM_toList, Sem.run_map, hrun]
              rfl
            clear hrun
            match vs, ys, hall, hl, hrun' with
            | [v], [y], hall, hl, hrun' =>
              simp only [hl] at hres
              exact ⟨y, by rw [hrun']; rfl, y, rfl, v, H', μ', K', hres, RV.of1 hall.1, h2, h4⟩
            | [], [], _, hl, hrun' =>
              simp only [hl] at hres
              exact ⟨.tuple #[], by rw [hrun']; rfl, _, rfl, .tup [], H', μ', K', hres, RV.undef, h2, h4⟩
            | v1 :: v2 :: vs, y1 :: y2 :: ys, hall, hl, hrun' =>
              simp only [hl] at hres
              exact ⟨.tuple (y1 :: y2 :: ys).toArray, by rw [hrun']; simp, _, rfl, .tup (v1 :: v2 :: vs), H', μ', K', hres, ⟨_, rfl, hall⟩, h2, h4⟩
            | [], _ :: _, hall, _, _ => exact hall.elim
            | _ :: _, [], hall, _, _ => exact hall.elim
            | [_], _ :: _ :: _, hall, _, _ => exact hall.2.elim
            | _ :: _ :: _, [_], hall, _, _ => exact hall.2.elim
        cases e with
        | normal => exact fin h1
        | ret => exact fin h1
        | exit id => exact h1.elim
        | goto l => exact h1.elim
        | panic ch => exact h1.elim
        | outgrown => exact h1.elim
      · cases hf
end
end Go.Ab
