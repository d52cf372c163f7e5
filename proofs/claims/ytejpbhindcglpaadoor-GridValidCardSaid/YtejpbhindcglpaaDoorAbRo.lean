/- Calls that only read what is there: what they leave. -/
import Derived.Test.YtejpbhindcglpaaDoorAbSy
namespace Go.Ab

namespace T
variable {α β : Type}
def bindT (f : α → Option β) : T α → T β
  | lf => lf
  | nd v l r => nd (v.bind f) (bindT f l) (bindT f r)
theorem get_bindT (f : α → Option β) : ∀ (t : T α) (n : Nat), (t.bindT f).get n = (t.get n).bind f
  | lf, _ => rfl
  | nd v l r, n => by
    simp only [bindT, get_nd]
    split
    · rfl
    · split
      · exact get_bindT f l _
      · exact get_bindT f r _
def over : T α → T α → T α
  | lf, t => t
  | nd v l r, lf => nd v l r
  | nd v l r, nd v' l' r' => nd (v.or v') (over l l') (over r r')
theorem get_over : ∀ (t t' : T α) (n : Nat), (t.over t').get n = (t.get n).or (t'.get n)
  | lf, _, _ => by simp [over]
  | nd v l r, lf, n => by simp [over]
  | nd v l r, nd v' l' r', n => by
    simp only [over, get_nd]
    split
    · rfl
    · split
      · exact get_over l l' _
      · exact get_over r r' _
end T

/-- the block as one that is only read; maps are left out -/
def B.ro : B → Option B
  | .row n z m _ => some (.row n z m false)
  | .mp _ => none
def Hp.ro (H : Hp) : Hp := ⟨H.m.bindT B.ro, H.nx⟩
theorem Hp.get_ro (H : Hp) (b : Nat) : H.ro.get b = (H.get b).bind B.ro := T.get_bindT _ _ _
@[simp] theorem Hp.nx_ro (H : Hp) : H.ro.nx = H.nx := rfl
theorem B.ro_mut {x y : B} (h : x.ro = some y) : y.mut = false := by
  cases x with
  | row n z m rw => simp only [B.ro, Option.some.injEq] at h; subst h; rfl
  | mp es => cases h
theorem B.ro_cell {x y : B} (h : x.ro = some y) (i : Nat) : y.cell i = x.cell i := by
  cases x with
  | row n z m rw => simp only [B.ro, Option.some.injEq] at h; subst h; rfl
  | mp es => cases h
theorem Hp.cell_ro (H : Hp) (b i : Nat) : H.ro.cell b i = H.cell b i := by
  unfold Hp.cell
  rw [Hp.get_ro]
  cases h : H.get b with
  | none => rfl
  | some x =>
    cases x with
    | row n z m rw => rfl
    | mp es => rfl
theorem Hp.ro_mut {H : Hp} {b : Nat} {bk : B} (h : H.ro.get b = some bk) : bk.mut = false := by
  rw [Hp.get_ro, Option.bind_eq_some_iff] at h
  obtain ⟨x, _, hx⟩ := h
  exact B.ro_mut hx

/-- the cells of H are cells of H' -/
def Le (H H' : Hp) : Prop := ∀ b i c, H.cell b i = some c → H'.cell b i = some c
theorem Le.refl (H : Hp) : Le H H := fun _ _ _ h => h
theorem Le.trans {H H' H'' : Hp} (h : Le H H') (k : Le H' H'') : Le H H'' := fun b i c hc => k b i c (h b i c hc)
theorem Ext.le {H H' : Hp} (h : Ext H H') : Le H H' := fun _ _ _ hc => h.cell hc
theorem Le.ro (H : Hp) : Le H H.ro := fun b i c h => by rw [Hp.cell_ro]; exact h
theorem Le.of_ro (H : Hp) : Le H.ro H := fun b i c h => by rw [Hp.cell_ro] at h; exact h
theorem Le.skip {H H' : Hp} (h : Le H H') (n : Nat) : Le H (H'.skip n) := h
theorem Le.loads {H H' : Hp} (h : Le H H') : ∀ {n b o : Nat} {l : List C}, H.loads b o n = some l → H'.loads b o n = some l
  | 0, _, _, _, hl => hl
  | n + 1, b, o, l, hl => by
    simp only [Hp.loads] at hl ⊢
    cases hc : H.cell b o with
    | none => simp [hc] at hl
    | some c =>
      simp only [hc] at hl
      simp only [h _ _ _ hc]
      cases hr : H.loads b (o + 1) n with
      | none => simp [hr] at hl
      | some r => simp only [hr] at hl; simp only [h.loads hr]; exact hl
theorem Sl.le {H H' : Hp} {esz n : Nat} {l : List C} {v : V} (h : Sl H esz n l v) (he : Le H H') : Sl H' esz n l v := by
  refine ⟨h.1, ?_⟩
  rcases h.2 with h | ⟨b, o, cap, ex, hv, hl⟩
  · exact .inl h
  · exact .inr ⟨b, o, cap, ex, hv, he.loads hl⟩
theorem Pts.le {H H' : Hp} {l : List Pt} {v : V} (h : Pts H l v) (he : Le H H') : Pts H' l v := Sl.le h he

/-- a value that bears no address -/
def C.closed : C → Bool
  | .bool _ => true
  | .int _ _ => true
  | .str _ => true
  | .nilp => true
  | .nils => true
  | .nilm => true
  | .nilf => true
  | .fn _ caps => caps.isEmpty
  | _ => false
def V.closed1 : V → Bool
  | .one c => c.closed
  | .agg l => l.all C.closed
  | .tup _ => false
def V.closed : V → Bool
  | .one c => c.closed
  | .agg l => l.all C.closed
  | .tup l => l.all V.closed1

section
variable {μ μ' : Nat → Pl} {K K' : Nat → Prop}
theorem RC.closed {c : C} {x : Value} (hc : c.closed = true) (h : RC μ K c x) : RC μ' K' c x := by
  cases c with
  | ptr b o => cases hc
  | slc b o len cap esz ex => cases hc
  | map b => cases hc
  | fn f caps =>
    simp only [C.closed, List.isEmpty_iff] at hc
    subst hc
    exact ⟨fun p hp => (by cases hp), h.2⟩
  | _ => exact h
theorem RCs.closed : ∀ {l : List C} {xs : List Value}, l.all C.closed = true → All2 (RC μ K) l xs → All2 (RC μ' K') l xs
  | [], [], _, _ => trivial
  | _ :: _, _ :: _, hc, hh => by
    simp only [List.all_cons, Bool.and_eq_true] at hc
    exact ⟨RC.closed hc.1 hh.1, RCs.closed hc.2 hh.2⟩
  | [], _ :: _, _, hh => hh.elim
  | _ :: _, [], _, hh => hh.elim
theorem RV1.closed {v : V} {x : Value} (hc : v.closed1 = true) (h : RV1 μ K v x) : RV1 μ' K' v x := by
  cases v with
  | one c => exact RC.closed hc h
  | agg l => obtain ⟨xs, hx, ha⟩ := h; exact ⟨xs, hx, RCs.closed hc ha⟩
  | tup l => exact h.elim
theorem RV1s.closed : ∀ {l : List V} {xs : List Value}, l.all V.closed1 = true → All2 (RV1 μ K) l xs → All2 (RV1 μ' K') l xs
  | [], [], _, _ => trivial
  | _ :: _, _ :: _, hc, hh => by
    simp only [List.all_cons, Bool.and_eq_true] at hc
    exact ⟨RV1.closed hc.1 hh.1, RV1s.closed hc.2 hh.2⟩
  | [], _ :: _, _, hh => hh.elim
  | _ :: _, [], _, hh => hh.elim
theorem RV.closed {v : V} {x : Value} (hc : v.closed = true) (h : RV μ K v x) : RV μ' K' v x := by
  cases v with
  | one c => exact RC.closed hc h
  | agg l => obtain ⟨xs, hx, ha⟩ := h; exact ⟨xs, hx, RCs.closed hc ha⟩
  | tup l => obtain ⟨xs, hx, ha⟩ := h; exact ⟨xs, hx, RV1s.closed hc ha⟩
theorem RVs.closed : ∀ {l : List V} {xs : List Value}, l.all V.closed = true → All2 (RV μ K) l xs → All2 (RV μ' K') l xs
  | [], [], _, _ => trivial
  | _ :: _, _ :: _, hc, hh => by
    simp only [List.all_cons, Bool.and_eq_true] at hc
    exact ⟨RV.closed hc.1 hh.1, RVs.closed hc.2 hh.2⟩
  | [], _ :: _, _, hh => hh.elim
  | _ :: _, [], _, hh => hh.elim
end

section
variable {P : Program} {G : Nat}

theorem Rel.toRo {μ : Nat → Pl} {K : Nat → Prop} {H : Hp} {w : World} (hR : Rel G μ K H w) : Rel G μ K H.ro w := by
  refine ⟨fun b bk h => ?_, hR.lt, fun b bk h => ?_, fun b b' bk bk' h _ hm => ?_, hR.glob⟩
  · rw [Hp.get_ro, Option.bind_eq_some_iff] at h
    obtain ⟨x, hx, _⟩ := h
    exact hR.dom b x hx
  · rw [Hp.get_ro, Option.bind_eq_some_iff] at h
    obtain ⟨x, hx, h⟩ := h
    have hb := hR.blk b x hx
    cases x with
    | mp es => cases h
    | row n z m rw =>
      simp only [B.ro, Option.some.injEq] at h
      subst h
      obtain ⟨cs, t, fz, h1, h2, h3, h4, h5⟩ := hb
      exact ⟨cs, t, fz, h1, h2, h3, fun h => (by cases h), fun i c hc => h5 i c hc⟩
  · rw [Hp.ro_mut h] at hm; cases hm

/-- A CALL THAT READS ONLY, and hands back a value without addresses: it leaves the heap as it was. -/
theorem ACalls.pure {f : FuncId} {args : List V} {H : Hp} {R : V → Hp → Prop} (h : ACalls P G f args H.ro R) (hc : ∀ v H', R v H' → v.closed = true) : ACalls P G f args H fun v H' => (∃ H1, R v H1) ∧ H' = H := by
  intro μ K w xs hR ha
  refine (h μ K w xs hR.toRo ha).mono ?_
  rintro e w' ⟨x, rfl, v, H', μ', K', h1, h2, h3, h4⟩
  have hkeep : ∀ i, i < w.heap.size → w'.heap[i]? = w.heap[i]? := fun i hi => h4.keep i hi fun b bk hb hm => by rw [Hp.ro_mut hb] at hm; cases hm
  refine ⟨x, rfl, v, H, μ, K, ⟨⟨H', h1⟩, rfl⟩, h2.closed (hc v H' h1), ⟨hR.dom, hR.lt, fun b bk hb => ?_, hR.inj, hR.glob⟩, ?_⟩
  · rw [hkeep _ (hR.blk_lt hb)]; exact hR.blk b bk hb
  · have r := Fr.refl hR
    exact ⟨h4.same, h4.size, fun i hi _ => hkeep i hi, r.img, r.newmut, r.mu, r.kk, r.knew, r.nx, r.none, r.stay, r.ro⟩

/-- a call with values that bear no address, over a few closed blocks: it may be asked beside any others -/
theorem ACalls.sub {f : FuncId} {args : List V} {H1 H : Hp} {R : V → Hp → Prop} (h : ACalls P G f args H1 R) (hargs : args.all V.closed = true) (hG : G ≤ H1.nx) (hw : WF H1)
    (hsub : ∀ b bk, H1.get b = some bk → H.get b = some bk ∧ bk.mut = false ∧ ∀ i c, bk.cell i = some c → c.closed = true) (hc : ∀ v H', R v H' → v.closed = true) :
    ACalls P G f args H fun v H' => (∃ H1, R v H1) ∧ H' = H := by
  intro μ K w xs hR ha
  have hR1 : Rel G μ (fun b => b < H1.nx ∧ K b) H1 w := by
    refine ⟨fun b bk hb => ⟨hw b bk hb, hR.dom b bk (hsub b bk hb).1⟩, fun b hb => hb.1, fun b bk hb => ?_, fun b b' bk bk' hb _ hm => ?_, fun g hg => ⟨⟨Nat.lt_of_lt_of_le hg hG, (hR.glob g hg).1⟩, (hR.glob g hg).2⟩⟩
    · obtain ⟨g1, g2, g3⟩ := hsub b bk hb
      have hb' := hR.blk b bk g1
      cases bk with
      | mp es => cases g2
      | row n z m rw =>
        obtain ⟨cs, t, fz, e1, e2, e3, e4, e5⟩ := hb'
        exact ⟨cs, t, fz, e1, e2, e3, e4, fun i c hcc => by
          obtain ⟨x, hx, hr⟩ := e5 i c hcc
          exact ⟨x, hx, hr.closed (g3 i c hcc)⟩⟩
    · rw [(hsub b bk hb).2.1] at hm; cases hm
  refine (h μ _ w xs hR1 (RVs.closed hargs ha)).mono ?_
  rintro e w' ⟨x, rfl, v, H', μ', K', h1, h2, h3, h4⟩
  have hkeep : ∀ i, i < w.heap.size → w'.heap[i]? = w.heap[i]? := fun i hi => h4.keep i hi fun b bk hb hm => by rw [(hsub b bk hb).2.1] at hm; cases hm
  refine ⟨x, rfl, v, H, μ, K, ⟨⟨H', h1⟩, rfl⟩, h2.closed (hc v H' h1), ⟨hR.dom, hR.lt, fun b bk hb => ?_, hR.inj, hR.glob⟩, ?_⟩
  · rw [hkeep _ (hR.blk_lt hb)]; exact hR.blk b bk hb
  · have r := Fr.refl hR
    exact ⟨h4.same, h4.size, fun i hi _ => hkeep i hi, r.img, r.newmut, r.mu, r.kk, r.knew, r.nx, r.none, r.stay, r.ro⟩

def Hp.over (H H1 : Hp) : Hp := ⟨H.m.over H1.m, H1.nx⟩
theorem Hp.get_over (H H1 : Hp) (b : Nat) : (H.over H1).get b = (H.get b).or (H1.get b) := T.get_over _ _ _

/-- A CALL THAT READS ONLY WHAT IS THERE, and hands back what it made: beside it all is as it was. -/
theorem ACalls.grow {f : FuncId} {args : List V} {H : Hp} {R : V → Hp → Prop} (h : ACalls P G f args H.ro R) :
    ACalls P G f args H fun v H' => ∃ H1, R v H1 ∧ H' = H.over H1 ∧ H.nx ≤ H1.nx ∧ (∀ b bk, H.get b = some bk → H'.get b = some bk) ∧ (∀ b, H.nx ≤ b → H'.get b = H1.get b) ∧ Le H1 H' := by
  intro μ K w xs hR ha
  refine (h μ K w xs hR.toRo ha).mono ?_
  rintro e w' ⟨x, rfl, v, H1, μ', K', h1, h2, h3, h4⟩
  have hkeep : ∀ i, i < w.heap.size → w'.heap[i]? = w.heap[i]? := fun i hi => h4.keep i hi fun b bk hb hm => by rw [Hp.ro_mut hb] at hm; cases hm
  have hold : ∀ b bk, H.get b = some bk → (H.over H1).get b = some bk := fun b bk hb => by rw [Hp.get_over, hb]; rfl
  have hno : ∀ b, H.nx ≤ b → H.get b = none := fun b hb => by
    cases hg : H.get b with
    | none => rfl
    | some k => have := hR.lt' b k hg; omega
  have hnew : ∀ b, H.nx ≤ b → (H.over H1).get b = H1.get b := fun b hb => by rw [Hp.get_over, hno b hb]; rfl
  -- a block of the new heap: an old one, or a new one that may be written and lies in new memory
  have hcase : ∀ b bk, (H.over H1).get b = some bk → H.get b = some bk ∨ (H.get b = none ∧ H1.get b = some bk ∧ H.nx ≤ b ∧ bk.mut = true ∧ w.heap.size ≤ (μ' b).blk) := by
    intro b bk hb
    rw [Hp.get_over] at hb
    cases hg : H.get b with
    | some k => rw [hg] at hb; exact .inl hb
    | none =>
      rw [hg] at hb
      have hb : H1.get b = some bk := hb
      by_cases hlt : b < H.nx
      · have := h4.none b hlt (by rw [Hp.get_ro, hg]; rfl)
        rw [this] at hb; cases hb
      · have hm := h4.newmut b bk (by simpa using hlt) hb
        refine .inr ⟨rfl, hb, by omega, hm, ?_⟩
        rcases h4.img b bk hb hm with ⟨b0, k0, g0, m0, _⟩ | hge
        · rw [Hp.ro_mut g0] at m0; cases m0
        · exact hge
  have hmu : ∀ b bk, H.get b = some bk → μ' b = μ b := fun b bk hb => h4.mu b (hR.dom b bk hb)
  refine ⟨x, rfl, v, H.over H1, μ', K', ⟨H1, h1, rfl, h4.nx, hold, hnew, fun b i c hc => ?_⟩, h2, ⟨fun b bk hb => ?_, h3.lt, fun b bk hb => ?_, fun b b' bk bk' hb hb' hm he => ?_, h3.glob⟩, ?_⟩
  · unfold Hp.cell at hc ⊢
    rw [Hp.get_over]
    cases hg : H.get b with
    | none => exact hc
    | some k =>
      simp only [Option.some_or, Option.bind_some]
      cases hk : k.ro with
      | none =>
        have hrn : H.ro.get b = none := by rw [Hp.get_ro, hg]; exact hk
        rw [h4.none b (hR.lt' b k hg) hrn] at hc
        cases hc
      | some k' =>
        have hrn : H.ro.get b = some k' := by rw [Hp.get_ro, hg]; exact hk
        rw [h4.ro b k' hrn (B.ro_mut hk)] at hc
        simpa [B.ro_cell hk] using hc
  · rcases hcase b bk hb with ho | ⟨_, hn, _⟩
    · exact h4.kk b (hR.dom b bk ho)
    · exact h3.dom b bk hn
  · rcases hcase b bk hb with ho | ⟨_, hn, _⟩
    · rw [hmu b bk ho, hkeep _ (hR.blk_lt ho)]
      exact (hR.blk b bk ho).mono h4.kk h4.mu
    · exact h3.blk b bk hn
  · rcases hcase b bk hb with ho | ⟨_, hn, hge, hm1, hsz⟩
    · rcases hcase b' bk' hb' with ho' | ⟨_, hn', _, _, hsz'⟩
      · rw [hmu b bk ho, hmu b' bk' ho'] at he
        exact hR.inj b b' bk bk' ho ho' hm he
      · rw [hmu b bk ho] at he
        have := hR.blk_lt ho
        omega
    · rcases hcase b' bk' hb' with ho' | ⟨_, hn', _⟩
      · rw [hmu b' bk' ho'] at he
        have := hR.blk_lt ho'
        omega
      · exact h3.inj b b' bk bk' hn hn' hm he
  · refine ⟨h4.same, h4.size, fun i hi _ => hkeep i hi, fun b bk hb hm => ?_, fun b bk hb hg => ?_, h4.mu, h4.kk, h4.knew, h4.nx, fun b hb hn => ?_, fun b bk bk' hb hb' => ?_, fun b bk hb _ => hold b bk hb⟩
    · rcases hcase b bk hb with ho | ⟨_, _, _, _, hsz⟩
      · exact .inl ⟨b, bk, ho, hm, by rw [hmu b bk ho]⟩
      · exact .inr hsz
    · rcases hcase b bk hg with ho | ⟨_, _, _, hm, _⟩
      · have := hR.lt' b bk ho; omega
      · exact hm
    · cases hg : (H.over H1).get b with
      | none => rfl
      | some k =>
        rcases hcase b k hg with ho | ⟨_, _, hge, _⟩
        · rw [hn] at ho; cases ho
        · omega
    · rw [hold b bk hb] at hb'; rw [Option.some.inj hb']
end
end Go.Ab
