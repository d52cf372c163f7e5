/- Operations whose order is open: two neighbours may be exchanged. -/
import Derived.Test.YtejpbhindcglpaaDoorAbX
namespace Go.Ab

def Opd.tm : Opd → List Nat
  | .t n => [n]
  | .c _ => []
def otm : Option Opd → List Nat
  | some x => x.tm
  | none => []
def ltm (l : List Opd) : List Nat := l.flatMap Opd.tm
def ptm (l : List (Nat × Nat × Opd)) : List Nat := l.flatMap fun p => p.2.2.tm

def PureOp.tm : PureOp → List Nat
  | .mv x | .nilck x | .neg x | .not x | .conv _ x | .faddr _ x | .field _ _ _ x | .extract x _ | .len x | .nileq _ x | .slen x => x.tm
  | .pick c a b => c.tm ++ a.tm ++ b.tm
  | .build _ ps => ptm ps
  | .bin _ x y | .beq _ x y | .eqs _ _ x y | .iaddr _ x y | .aaddr _ _ x y | .aindex _ _ _ x y | .mm _ x y | .sindex x y => x.tm ++ y.tm
  | .mkfn _ l => ltm l
  | .slice _ x lo hi mx => x.tm ++ otm lo ++ otm hi ++ otm mx
  | .cint _ => []
def LoadOp.tm : LoadOp → List Nat
  | .load _ _ a => a.tm
  | .lookup _ _ m k => m.tm ++ k.tm
  | .mlen m => m.tm
def AllocOp.tm : AllocOp → List Nat
  | .alloc _ | .mkmap => []
  | .box x => x.tm
  | .bslice _ _ _ ps => ptm ps
  | .mkslice _ _ _ l c => l.tm ++ c.tm
def EffOp.tm : EffOp → List Nat
  | .store _ a x => a.tm ++ x.tm
  | .append _ _ s x => s.tm ++ x.tm
  | .copy _ d s => d.tm ++ s.tm
  | .mapupd m k x => m.tm ++ k.tm ++ x.tm
  | .clear _ _ x => x.tm
def SOp.tm : SOp → List Nat
  | .p o => o.tm
  | .l o => o.tm
  | .a o => o.tm
  | .e o => o.tm
  | .cf _ args => ltm args
  | .cv x args => x.tm ++ ltm args
def gtm : Option (Nat × Bool) → List Nat
  | some (t, _) => [t]
  | none => []
def SOper.tm (s : SOper) : List Nat := s.op.tm ++ gtm s.guard

section
variable {F : T V} {d : Nat} {v : Option V}

theorem ev_set {x : Opd} (h : d ∉ x.tm) : x.ev (F.set d v) = x.ev F := by
  cases x with
  | t n => simp only [Opd.tm, List.mem_singleton] at h; simp [Opd.ev, T.get_set_ne _ _ (fun e => h e.symm)]
  | c w => rfl
theorem evs_set : ∀ {l : List Opd}, d ∉ ltm l → l.map (·.ev (F.set d v)) = l.map (·.ev F)
  | [], _ => rfl
  | x :: l, h => by
    simp only [ltm, List.flatMap_cons, List.mem_append, not_or] at h
    simp [ev_set h.1, evs_set h.2]
theorem fill_set : ∀ {ps : List (Nat × Nat × Opd)} {z : List C}, d ∉ ptm ps → fillL (F.set d v) z ps = fillL F z ps
  | [], _, _ => rfl
  | (off, size, x) :: ps, z, h => by
    simp only [ptm, List.flatMap_cons, List.mem_append, not_or] at h
    simp only [fillL, ev_set h.1]
    cases cells1 (x.ev F) with
    | none => rfl
    | some cs => simp only; rw [fill_set h.2]
theorem caps_set : ∀ {l : List Opd}, d ∉ ltm l → capsL (F.set d v) l = capsL F l
  | [], _ => rfl
  | x :: l, h => by
    simp only [ltm, List.flatMap_cons, List.mem_append, not_or] at h
    simp only [capsL, ev_set h.1, caps_set h.2]
theorem bound_set {x : Option Opd} {k y : Nat} (h : d ∉ otm x) : aBound (F.set d v) k y x = aBound F k y x := by
  cases x with
  | none => rfl
  | some x => simp only [otm] at h; simp only [aBound, ev_set h]
theorem slice_set {esz : Nat} {x : V} {lo hi mx : Option Opd} (h1 : d ∉ otm lo) (h2 : d ∉ otm hi) (h3 : d ∉ otm mx) : aSlice (F.set d v) esz x lo hi mx = aSlice F esz x lo hi mx := by
  unfold aSlice
  simp only [bound_set h1, bound_set h2, bound_set h3]

theorem pure_set {o : PureOp} (h : d ∉ o.tm) : aPure (F.set d v) o = aPure F o := by
  cases o <;> simp only [PureOp.tm, List.mem_append, not_or] at h <;> simp only [aPure]
  all_goals first
    | rw [ev_set h]
    | rw [fill_set h]
    | rw [caps_set h]
    | rw [ev_set h.1, ev_set h.2]
    | rw [ev_set h.1.1, ev_set h.1.2, ev_set h.2]
    | rw [ev_set h.1.1.1, slice_set h.1.1.2 h.1.2 h.2]
theorem load_set {o : LoadOp} {H : Hp} (h : d ∉ o.tm) : aLoad (F.set d v) H o = aLoad F H o := by
  cases o <;> simp only [LoadOp.tm, List.mem_append, not_or] at h <;> simp only [aLoad]
  all_goals first
    | rw [ev_set h]
    | rw [ev_set h.1, ev_set h.2]
theorem alloc_set {o : AllocOp} (h : d ∉ o.tm) : aAlloc (F.set d v) o = aAlloc F o := by
  cases o <;> simp only [AllocOp.tm, List.mem_append, not_or] at h <;> simp only [aAlloc]
  all_goals first
    | rw [ev_set h]
    | rw [fill_set h]
    | rw [ev_set h.1, ev_set h.2]
theorem eff_set {o : EffOp} {H : Hp} (h : d ∉ o.tm) : aEff (F.set d v) H o = aEff F H o := by
  cases o <;> simp only [EffOp.tm, List.mem_append, not_or] at h <;> simp only [aEff]
  all_goals first
    | rw [ev_set h]
    | rw [ev_set h.1, ev_set h.2]
    | rw [ev_set h.1.1, ev_set h.1.2, ev_set h.2]
theorem wanted_set {g : Option (Nat × Bool)} (h : d ∉ gtm g) : wantedA g (F.set d v) = wantedA g F := by
  cases g with
  | none => rfl
  | some p => obtain ⟨t, b⟩ := p; simp only [gtm, List.mem_singleton] at h; simp [wantedA, T.get_set_ne _ _ (fun e => h e.symm)]
end

/-- the two operations name no temporary that the other one writes -/
def tmOk (y x : SOper) : Bool :=
  (match y.dst with
   | some d => !(x.tm.contains d) && x.dst != some d
   | none => true) &&
  (match x.dst with
   | some d => !(y.tm.contains d)
   | none => true)

inductive Kd where
  | p | l | a | e | c
def SOp.kd : SOp → Kd
  | .p _ => .p
  | .l _ => .l
  | .a _ => .a
  | .e _ => .e
  | .cf _ _ => .c
  | .cv _ _ => .c

/-- y, which stands before x, may be carried out after it -/
def swapOk (y x : SOper) : Bool :=
  tmOk y x && match y.op.kd, x.op.kd with
  | .p, _ => true
  | .l, .p | .l, .l => true
  | .l, .a => x.aid.isSome
  | .l, .e | .l, .c => y.keep && x.watch.contains y.id
  | .a, .p => true
  | .a, .a => y.aid.isSome && x.aid.isSome && y.aid != x.aid
  | .e, .p | .c, .p => true
  | .c, .a => x.aid.isSome
  | _, _ => false

section
variable {P : Program} {G base : Nat} {Q : T V → Hp → Prop}

theorem setO_comm {F : T V} {d e : Option Nat} {u v : V} (h : ∀ k, d = some k → e ≠ some k) : setO (setO F d u) e v = setO (setO F e v) d u := by
  cases d with
  | none => rfl
  | some d =>
    cases e with
    | none => rfl
    | some e => exact T.set_comm _ _ _ (fun he => h d rfl (by rw [he]))

theorem tmOk_spec {y x : SOper} (h : tmOk y x = true) : (∀ d, y.dst = some d → d ∉ x.op.tm ∧ d ∉ gtm x.guard ∧ x.dst ≠ some d) ∧ (∀ d, x.dst = some d → d ∉ y.op.tm ∧ d ∉ gtm y.guard) := by
  unfold tmOk at h
  rw [Bool.and_eq_true] at h
  refine ⟨fun d hd => ?_, fun d hd => ?_⟩
  · have h1 := h.1
    rw [hd] at h1
    simp [SOper.tm] at h1
    exact ⟨h1.1.1, h1.1.2, h1.2⟩
  · have h2 := h.2
    rw [hd] at h2
    simp [SOper.tm] at h2
    exact ⟨h2.1, h2.2⟩

/-- evaluation does not see what the other operation writes -/
structure Blind (s : SOper) (d : Option Nat) : Prop where
  pure : ∀ F v o, s.op = .p o → aPure (setO F d v) o = aPure F o
  load : ∀ F H v o, s.op = .l o → aLoad (setO F d v) H o = aLoad F H o
  alloc : ∀ F v o, s.op = .a o → aAlloc (setO F d v) o = aAlloc F o
  eff : ∀ F H v o, s.op = .e o → aEff (setO F d v) H o = aEff F H o
  cf : ∀ F v f l, s.op = .cf f l → l.map (·.ev (setO F d v)) = l.map (·.ev F)
  cv : ∀ F v x l, s.op = .cv x l → x.ev (setO F d v) = x.ev F ∧ l.map (·.ev (setO F d v)) = l.map (·.ev F)
  wanted : ∀ F v, wantedA s.guard (setO F d v) = wantedA s.guard F

theorem Blind.mk' {s : SOper} {d : Option Nat} (h : ∀ k, d = some k → k ∉ s.op.tm ∧ k ∉ gtm s.guard) : Blind s d := by
  cases d with
  | none => exact ⟨fun _ _ _ _ => rfl, fun _ _ _ _ _ => rfl, fun _ _ _ _ => rfl, fun _ _ _ _ _ => rfl, fun _ _ _ _ _ => rfl, fun _ _ _ _ _ => ⟨rfl, rfl⟩, fun _ _ => rfl⟩
  | some d =>
    obtain ⟨h1, h2⟩ := h d rfl
    refine ⟨fun F v o ho => ?_, fun F H v o ho => ?_, fun F v o ho => ?_, fun F H v o ho => ?_, fun F v f l ho => ?_, fun F v x l ho => ?_, fun F v => wanted_set h2⟩
    · rw [ho] at h1; exact pure_set h1
    · rw [ho] at h1; exact load_set h1
    · rw [ho] at h1; exact alloc_set h1
    · rw [ho] at h1; exact eff_set h1
    · rw [ho] at h1; exact evs_set h1
    · rw [ho] at h1
      simp only [SOp.tm, List.mem_append, not_or] at h1
      exact ⟨ev_set h1.1, evs_set h1.2⟩
end
end Go.Ab
