/- Regions whose order is fixed; the rules for code and functions. -/
import Derived.Test.YtejpbhindcglpaaDoorAbW
namespace Go.Ab

/-- the indices idx and the abstract operations l name the same operations -/
def Aligned (P : Program) (G n : Nat) (ops : Array Oper) : List Nat → List SOper → Prop
  | [], [] => True
  | i :: idx, s :: l => (∃ o, ops[i]? = some o ∧ Fits P G n ops o s) ∧ Aligned P G n ops idx l
  | _, _ => False

section
variable {P : Program} {G n : Nat}

/-- where a piece of code may end, and how it stands to its beginning -/
def Ends (G n : Nat) (μ0 : Nat → Pl) (K0 : Nat → Prop) (H0 : Hp) (w0 : World) (Q : Exit → T V → Hp → Prop) (e : Exit) (a : Act) (w : World) : Prop :=
  a.defers = [] ∧ ∃ F H μ K, Q e F H ∧ Rel G μ K H w ∧ FRel μ K n F a.tmps ∧ Fr μ0 K0 H0 w0 μ K H w

/-- operations in a fixed order -/
theorem ord_ok {ops : Array Oper} {Q : T V → Hp → Prop} {base : Nat} {μ0 : Nat → Pl} {K0 : Nat → Prop} {H0 : Hp} {w0 : World} (hlt0 : ∀ b bk, H0.get b = some bk → b < H0.nx) {Q' : Exit → Act → World → Prop}
    (hQ : ∀ μ K F H a w, Q F H → Rel G μ K H w → FRel μ K n F a.tmps → Fr μ0 K0 H0 w0 μ K H w → a.defers = [] → Q' .normal a w) :
    ∀ {l : List SOper} {idx : List Nat} {ctx : Ctx} {F : T V} {H : Hp} {μ : Nat → Pl} {K : Nat → Prop} {a : Act} {w : World}, Aligned P G n ops idx l → (∀ s ∈ l, s.aid = none) → Rel G μ K H w → FRel μ K n F a.tmps → Fr μ0 K0 H0 w0 μ K H w → a.defers = [] →
      wOps P G base Q l ctx F H → wpOps P ops Q' idx a w
  | [], [], ctx, F, H, μ, K, a, w, _, _, hR, hF, hFr, hd, hw => by
    simp only [wpOps]
    exact hQ μ K F H a w hw hR hF hFr hd
  | s :: l, i :: idx, ctx, F, H, μ, K, a, w, hal, hai, hR, hF, hFr, hd, hw => by
    obtain ⟨⟨o, ho, hfit⟩, hal'⟩ := hal
    rw [wpOps_cons]
    refine op_ok hlt0 ho hfit hR hF hFr (fun k hk => by rw [hai s (by simp)] at hk; cases hk) hw fun μ' K' F' H' a' w' ctx' h1 h2 h3 h4 _ _ _ _ h6 => ?_
    exact ord_ok hlt0 hQ hal' (fun t ht => hai t (by simp [ht])) h1 h2 h3 (h4.trans hd) h6
  | [], _ :: _, _, _, _, _, _, _, _, h, _, _, _, _, _, _ => h.elim
  | _ :: _, [], _, _, _, _, _, _, _, h, _, _, _, _, _, _ => h.elim

/-- WHAT CODE COMES TO: whatever the world, related to F and H, it ends as Q says. -/
def AWP (P : Program) (G n : Nat) (c : Code) (Q : Exit → T V → Hp → Prop) (F : T V) (H : Hp) : Prop :=
  ∀ (μ : Nat → Pl) (K : Nat → Prop) (w : World) (a : Act), Rel G μ K H w → FRel μ K n F a.tmps → a.defers = [] → c.wp P (Ends G n μ K H w Q) a w

/-- a region whose order is fixed -/
theorem awp_region {id : Nat} {ops : Array Oper} {l : List SOper} {Q : Exit → T V → Hp → Prop} {F : T V} {H : Hp} (hal : Aligned P G n ops (List.range ops.size) l) (hai : ∀ s ∈ l, s.aid = none)
    (h : wOps P G H.nx (Q .normal) l [] F H) : AWP P G n (.region id ops false) Q F H := by
  intro μ K w a hR hF hd
  refine wp_region (ord_ok (Q := Q .normal) hR.lt' (fun μ' K' F' H' a' w' h1 h2 h3 h4 h5 => ⟨h5, F', H', μ', K', h1, h2, h3, h4⟩) hal hai hR hF (Fr.refl hR) hd h)

theorem awp_skip {Q : Exit → T V → Hp → Prop} {F : T V} {H : Hp} (h : Q .normal F H) : AWP P G n .skip Q F H :=
  fun _ _ _ _ hR hF hd => wp_skip ⟨hd, F, H, _, _, h, hR, hF, Fr.refl hR⟩
theorem awp_exit {Q : Exit → T V → Hp → Prop} {F : T V} {H : Hp} {id : Nat} (h : Q (.exit id) F H) : AWP P G n (.exit id) Q F H :=
  fun _ _ _ _ hR hF hd => wp_exit ⟨hd, F, H, _, _, h, hR, hF, Fr.refl hR⟩
theorem awp_ret {Q : Exit → T V → Hp → Prop} {F : T V} {H : Hp} (h : Q .ret F H) : AWP P G n .ret Q F H :=
  fun _ _ _ _ hR hF hd => wp_ret ⟨hd, F, H, _, _, h, hR, hF, Fr.refl hR⟩

def thenQ (next : T V → Hp → Prop) (Q : Exit → T V → Hp → Prop) : Exit → T V → Hp → Prop
  | .normal, F, H => next F H
  | e, F, H => Q e F H

theorem ends_trans {μ0 : Nat → Pl} {K0 : Nat → Prop} {H0 : Hp} {w0 : World} {μ : Nat → Pl} {K : Nat → Prop} {H : Hp} {w : World} (hlt : ∀ b bk, H0.get b = some bk → b < H0.nx) (hFr : Fr μ0 K0 H0 w0 μ K H w) {Q : Exit → T V → Hp → Prop} {e : Exit} {a : Act} {w' : World}
    (h : Ends G n μ K H w Q e a w') : Ends G n μ0 K0 H0 w0 Q e a w' := by
  obtain ⟨hd, F, H', μ', K', h1, h2, h3, h4⟩ := h
  exact ⟨hd, F, H', μ', K', h1, h2, h3, hFr.trans hlt h4⟩

theorem awp_seq {x y : Code} {Q : Exit → T V → Hp → Prop} {F : T V} {H : Hp} (h : AWP P G n x (thenQ (AWP P G n y Q) Q) F H) : AWP P G n (.seq x y) Q F H := by
  intro μ K w a hR hF hd
  refine wp_seq (wp_mono (h μ K w a hR hF hd) fun e a' w' he => ?_)
  obtain ⟨hd', F', H', μ', K', h1, h2, h3, h4⟩ := he
  cases e with
  | normal => exact wp_mono (h1 μ' K' w' a' h2 h3 hd') fun e a'' w'' he => ends_trans hR.lt' h4 he
  | exit id => exact ⟨hd', F', H', μ', K', h1, h2, h3, h4⟩
  | goto l => exact ⟨hd', F', H', μ', K', h1, h2, h3, h4⟩
  | ret => exact ⟨hd', F', H', μ', K', h1, h2, h3, h4⟩
  | panic ch => exact ⟨hd', F', H', μ', K', h1, h2, h3, h4⟩
  | outgrown => exact ⟨hd', F', H', μ', K', h1, h2, h3, h4⟩

theorem awp_cond {c : Operand} {d : Opd} {x y : Code} {Q : Exit → T V → Hp → Prop} {F : T V} {H : Hp} {t : Bool} (hc : cO G n c = some d) (ht : d.ev F = .one (.bool t)) (h : AWP P G n (if t then x else y) Q F H) : AWP P G n (.cond c x y) Q F H := by
  intro μ K w a hR hF hd
  have hv := cO_ok hR hF hc
  rw [ht] at hv
  exact wp_cond (t := t) hv (h μ K w a hR hF hd)

def blockQ (id : Nat) (Q : Exit → T V → Hp → Prop) : Exit → T V → Hp → Prop
  | .exit id', F, H => if id' = id then Q .normal F H else Q (.exit id') F H
  | e, F, H => Q e F H

theorem awp_block {id : Nat} {c : Code} {Q : Exit → T V → Hp → Prop} {F : T V} {H : Hp} (h : AWP P G n c (blockQ id Q) F H) : AWP P G n (.block id c) Q F H := by
  intro μ K w a hR hF hd
  refine wp_block (wp_mono (h μ K w a hR hF hd) fun e a' w' he => ?_)
  obtain ⟨hd', F', H', μ', K', h1, h2, h3, h4⟩ := he
  cases e with
  | exit id' =>
    simp only [blockQ] at h1
    simp only [Exit.inBlock]
    split
    · rename_i e; rw [if_pos e] at h1; exact ⟨hd', F', H', μ', K', h1, h2, h3, h4⟩
    · rename_i e; rw [if_neg e] at h1; exact ⟨hd', F', H', μ', K', h1, h2, h3, h4⟩
  | normal => exact ⟨hd', F', H', μ', K', h1, h2, h3, h4⟩
  | goto l => exact ⟨hd', F', H', μ', K', h1, h2, h3, h4⟩
  | ret => exact ⟨hd', F', H', μ', K', h1, h2, h3, h4⟩
  | panic ch => exact ⟨hd', F', H', μ', K', h1, h2, h3, h4⟩
  | outgrown => exact ⟨hd', F', H', μ', K', h1, h2, h3, h4⟩

/-- a loop: an invariant with a measure -/
theorem awp_loop {c : Code} {Q : Exit → T V → Hp → Prop} {F : T V} {H : Hp} (I : Nat → T V → Hp → Prop) {m : Nat} (h0 : I m F H) (round : ∀ m F H, I m F H → AWP P G n c (thenQ (fun F' H' => ∃ m', m' < m ∧ I m' F' H') Q) F H) : AWP P G n (.loop c) Q F H := by
  intro μ K w a hR hF hd
  -- the invariant of the model's loop: some m that I holds of; its measure: the least such m
  let J : Act → World → Nat → Prop := fun a' w' m => a'.defers = [] ∧ ∃ F' H' μ' K', I m F' H' ∧ Rel G μ' K' H' w' ∧ FRel μ' K' n F' a'.tmps ∧ Fr μ K H w μ' K' H' w'
  have main : ∀ m a' w', J a' w' m → ∀ (b : Frame) (k : List Item) (cs : List Frame), ∃ e a'' w'', Ends G n μ K H w Q e a'' w'' ∧ Arrives P (lone (b.at a' (.code c :: .inLoop c :: k)) cs w') b k cs e a'' w'' := by
    intro m
    induction m using Nat.strongRecOn with
    | _ m ih =>
      intro a' w' hJ b k cs
      obtain ⟨hd', F', H', μ', K', h1, h2, h3, h4⟩ := hJ
      obtain ⟨e, a1, w1, hq, harr⟩ := round m F' H' h1 μ' K' w' a' h2 h3 hd' b (.inLoop c :: k) cs
      obtain ⟨hd1, F1, H1, μ1, K1, g1, g2, g3, g4⟩ := hq
      cases e with
      | normal =>
        obtain ⟨m', hm', hI⟩ := g1
        obtain ⟨e2, a2, w2, hq2, harr2⟩ := ih m' hm' a1 w1 ⟨hd1, F1, H1, μ1, K1, hI, g2, g3, h4.trans hR.lt' g4⟩ b k cs
        exact ⟨e2, a2, w2, hq2, .of_steps (Steps.trans harr (.one step_inLoop)) harr2⟩
      | exit id => exact ⟨_, a1, w1, ⟨hd1, F1, H1, μ1, K1, g1, g2, g3, h4.trans hR.lt' g4⟩, .pass (x := .inLoop c) rfl (fun _ _ => .inl (by simp)) harr⟩
      | goto l => exact ⟨_, a1, w1, ⟨hd1, F1, H1, μ1, K1, g1, g2, g3, h4.trans hR.lt' g4⟩, .pass (x := .inLoop c) rfl (fun _ _ => .inl (by simp)) harr⟩
      | ret => exact ⟨_, a1, w1, ⟨hd1, F1, H1, μ1, K1, g1, g2, g3, h4.trans hR.lt' g4⟩, .pass (x := .inLoop c) rfl (fun _ _ => .inl (by simp)) harr⟩
      | panic ch => exact ⟨_, a1, w1, ⟨hd1, F1, H1, μ1, K1, g1, g2, g3, h4.trans hR.lt' g4⟩, .pass (x := .inLoop c) rfl (fun _ _ => .inl (by simp)) harr⟩
      | outgrown => exact ⟨_, a1, w1, ⟨hd1, F1, H1, μ1, K1, g1, g2, g3, h4.trans hR.lt' g4⟩, .pass (x := .inLoop c) rfl (fun _ _ => .inl (by simp)) harr⟩
  intro b k cs
  obtain ⟨e, a', w', hq, harr⟩ := main m a w ⟨hd, F, H, μ, K, h0, hR, hF, Fr.refl hR⟩ b k cs
  exact ⟨e, a', w', hq, .of_steps (.one step_loop) harr⟩

theorem awp_mono {c : Code} {Q Q' : Exit → T V → Hp → Prop} {F : T V} {H : Hp} (h : AWP P G n c Q F H) (hq : ∀ e F H, Q e F H → Q' e F H) : AWP P G n c Q' F H :=
  fun μ K w a hR hF hd => wp_mono (h μ K w a hR hF hd) fun _ _ _ ⟨hd', F', H', μ', K', h1, h2⟩ => ⟨hd', F', H', μ', K', hq _ _ _ h1, h2⟩

end
end Go.Ab
