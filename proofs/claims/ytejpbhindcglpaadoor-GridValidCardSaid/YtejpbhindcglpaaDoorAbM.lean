/- Memory: reading, writing and making blocks, abstractly and in the model. -/
import Derived.Test.YtejpbhindcglpaaDoorAbD
namespace Go.Ab

section
variable {G : Nat} {μ : Nat → Pl} {K : Nat → Prop} {H H' : Hp} {w : World}

theorem cell_at {cs : Array Value} {t : TypeId} {fz : Nat × Nat} {p : Pl} {o : Nat} (h : w.heap[p.blk]? = some (.cells cs t fz)) : w.cell? (p.addr o) = cs[p.off + o]? := by
  simp [World.cell?, Pl.addr, h]

theorem Rel.cell (hR : Rel G μ K H w) {b i : Nat} {c : C} (h : H.cell b i = some c) : ∃ x, w.cell? ((μ b).addr i) = some x ∧ RC μ K c x := by
  unfold Hp.cell at h
  cases hb : H.get b with
  | none => simp [hb] at h
  | some bk =>
    simp [hb] at h
    have hB := hR.blk b bk hb
    cases bk with
    | row n z m rw =>
      obtain ⟨cs, t, fz, h1, h2, h3, h4, h5⟩ := hB
      obtain ⟨x, hx, hr⟩ := h5 i c h
      exact ⟨x, by rw [cell_at h1]; exact hx, hr⟩
    | mp es => simp [B.cell] at h

theorem Rel.known (hR : Rel G μ K H w) {b i : Nat} {c : C} (h : H.cell b i = some c) : K b := by
  unfold Hp.cell at h
  cases hb : H.get b with
  | none => simp [hb] at h
  | some bk => exact hR.dom b bk hb

theorem heap_set (w : World) (a : Addr) (x : Value) {cs : Array Value} {t : TypeId} {fz : Nat × Nat} (h : w.heap[a.block]? = some (.cells cs t fz)) (hs : a.spot = none) (i : Nat) :
    (w.setCell a x).heap[i]? = if i = a.block then some (.cells (cs.setIfInBounds a.off x) t fz) else w.heap[i]? := by
  simp only [World.setCell, Array.getElem?_modify]
  by_cases e : a.block = i
  · subst e; simp [h, hs]
  · rw [if_neg e, if_neg (fun h => e h.symm)]

theorem row_set {n i j : Nat} {z : List C} {m : T C} {rw : Bool} {c : C} (hi : i < n) : (B.row n z (m.set i (some c)) rw).cell j = if j = i then some c else (B.row n z m rw).cell j := by
  simp only [B.cell]
  by_cases e : j = i
  · subst e; simp [hi]
  · simp [T.get_set_ne _ _ e, e]

/-- one cell is written -/
theorem Rel.store (hR : Rel G μ K H w) {b i : Nat} {c : C} {x : Value} (hs : H.store b i c = some H') (hc : RC μ K c x) :
    (∃ y, w.cell? ((μ b).addr i) = some y) ∧ w.frozen? ((μ b).addr i) = false ∧ Rel G μ K H' (w.setCell ((μ b).addr i) x) ∧ Fr μ K H w μ K H' (w.setCell ((μ b).addr i) x) := by
  unfold Hp.store at hs
  cases hb : H.get b with
  | none => simp [hb] at hs
  | some bk =>
    cases bk with
    | mp es => simp [hb] at hs
    | row n z m rw =>
      cases rw with
      | false => simp [hb] at hs
      | true =>
        simp only [hb] at hs
        by_cases hi : i < n
        · simp only [hi, if_true, Option.some.injEq] at hs
          subst hs
          obtain ⟨cs, t, fz, h1, h2, h3, h4, h5⟩ := hR.blk b _ hb
          obtain rfl := h4 rfl
          have hcell : ∃ y, w.cell? ((μ b).addr i) = some y := by
            rw [cell_at h1]
            exact ⟨_, Array.getElem?_eq_getElem (by omega)⟩
          have hh := heap_set w ((μ b).addr i) x (cs := cs) (t := t) (fz := (0, 0)) h1 rfl
          refine ⟨hcell, by simp [World.frozen?, Pl.addr, h1], ⟨fun b' bk' h' => ?_, hR.lt, fun b' bk' h' => ?_, fun b1 b2 k1 k2 e1 e2 hm he => ?_, hR.glob⟩, ?_⟩
          · rw [Hp.get_add] at h'
            split at h'
            · rename_i e; subst e; exact hR.dom _ _ hb
            · exact hR.dom _ _ h'
          · rw [Hp.get_add] at h'
            rw [hh]
            split at h'
            · rename_i e; subst e
              obtain rfl := Option.some.inj h'
              refine ⟨cs.setIfInBounds ((μ b').off + i) x, t, (0, 0), by simp [Pl.addr], by simpa using h2, by simpa using h3, fun _ => rfl, fun j d hd => ?_⟩
              rw [row_set hi] at hd
              split at hd
              · rename_i e; subst e
                obtain rfl := Option.some.inj hd
                exact ⟨x, by rw [Array.getElem?_setIfInBounds]; simp; omega, hc⟩
              · rename_i e
                obtain ⟨y, hy, hr⟩ := h5 j d hd
                exact ⟨y, by rw [Array.getElem?_setIfInBounds]; rw [if_neg (by omega)]; exact hy, hr⟩
            · rename_i e
              have hne : (μ b').blk ≠ ((μ b).addr i).block := fun he => e (hR.inj b b' _ _ hb h' rfl he.symm).symm
              rw [if_neg hne]
              exact hR.blk b' bk' h'
          · rw [Hp.get_add] at e1 e2
            have f1 : ∃ k, H.get b1 = some k ∧ k.mut = true := by
              split at e1
              · rename_i e; subst e; exact ⟨_, hb, rfl⟩
              · exact ⟨_, e1, hm⟩
            have f2 : ∃ k, H.get b2 = some k := by
              split at e2
              · rename_i e; subst e; exact ⟨_, hb⟩
              · exact ⟨_, e2⟩
            obtain ⟨_, g1, gm⟩ := f1
            obtain ⟨_, g2⟩ := f2
            exact hR.inj _ _ _ _ g1 g2 gm he
          · refine ⟨⟨rfl, rfl, rfl⟩, by simp [World.setCell], fun j _ hne => ?_, fun b' bk' h' hm => ?_, fun b' bk' hb' h' => ?_, fun _ _ => rfl, fun _ h => h, fun _ _ h => h, Nat.le_refl _, fun b' hb' hn => ?_, fun b' k1 k2 e1 e2 => ?_, fun b' k1 e1 hm => ?_⟩
            · rw [hh, if_neg (fun e => hne b _ hb rfl e.symm)]
            · rw [Hp.get_add] at h'
              split at h'
              · rename_i e; subst e; exact .inl ⟨b', _, hb, rfl, rfl⟩
              · exact .inl ⟨b', bk', h', hm, rfl⟩
            · rw [Hp.get_add] at h'
              split at h'
              · obtain rfl := Option.some.inj h'; rfl
              · exact absurd (hR.lt _ (hR.dom _ _ h')) (by omega)
            · rw [Hp.get_add]
              split
              · rename_i e; subst e; rw [hb] at hn; cases hn
              · exact hn
            · rw [Hp.get_add] at e2
              split at e2
              · rename_i e; subst e; rw [hb] at e1
                rw [← Option.some.inj e1, ← Option.some.inj e2]; rfl
              · rw [e1] at e2; rw [Option.some.inj e2]
            · rw [Hp.get_add]
              split
              · rename_i e; subst e; rw [hb] at e1; rw [← Option.some.inj e1] at hm; cases hm
              · exact e1
        · simp [hi] at hs

def oneC : Value → Bool
  | .agg _ => false
  | .tuple _ => false
  | _ => true

theorem run_store_of {P : Program} {a : Addr} {x : Value} {β : Type} {k : Sem β} (hx : oneC x = true) (hc : ∃ y, w.cell? a = some y) (hf : w.frozen? a = false) :
    (Sem.store .plain a x k).run P w = k.run P (w.setCell a x) := by
  obtain ⟨y, hy⟩ := hc
  cases x <;> first
    | (simp [oneC] at hx; done)
    | simp [Sem.run, hy, hf]

theorem RC.oneCell {c : C} {x : Value} (h : RC μ K c x) : oneC x = true := by
  cases c <;> simp only [RC] at h
  all_goals first
    | (obtain ⟨_, a, c, rfl, _⟩ := h; rfl)
    | (obtain ⟨_, rfl⟩ := h; rfl)
    | (subst h; rfl)

theorem addr_add (p : Pl) (o i : Nat) : (p.addr o).add i = p.addr (o + i) := by
  unfold Addr.add Pl.addr
  by_cases h : i = 0
  · simp [h]
  · simp [h, Nat.add_assoc]

/-- a list of cells is loaded -/
theorem Rel.loads (hR : Rel G μ K H w) {P : Program} : ∀ {n b o i : Nat} {l : List C} {acc : Array Value}, H.loads b (o + i) n = some l →
    ∃ xs : List Value, All2 (RC μ K) l xs ∧ (loadCellsFrom ((μ b).addr o) i n acc).run P w = .ok (acc ++ xs.toArray) w
  | 0, b, o, i, l, acc, h => by
    simp [Hp.loads] at h; subst h
    exact ⟨[], trivial, by simp [loadCellsFrom, pure, Sem.run]⟩
  | n + 1, b, o, i, l, acc, h => by
    simp only [Hp.loads] at h
    cases hc : H.cell b (o + i) with
    | none => simp [hc] at h
    | some c =>
      simp only [hc] at h
      cases hl : H.loads b (o + i + 1) n with
      | none => simp [hl] at h
      | some l' =>
        simp only [hl, Option.some.injEq] at h
        subst h
        obtain ⟨x, hx, hr⟩ := hR.cell hc
        obtain ⟨xs, ha, hrun⟩ := Rel.loads hR (P := P) (acc := acc.push x) (n := n) (b := b) (o := o) (i := i + 1) hl
        refine ⟨x :: xs, ⟨hr, ha⟩, ?_⟩
        simp only [loadCellsFrom, load, bind, Sem.bind, Sem.run, addr_add, hx]
        rw [hrun]
        simp

theorem Rel.stores {P : Program} : ∀ {l : List C} {xs : List Value} {w : World} {H H' : Hp} {b o i : Nat}, Rel G μ K H w → H.stores b (o + i) l = some H' → All2 (RC μ K) l xs →
    ∃ w', (storeCells ((μ b).addr o) xs i).run P w = .ok () w' ∧ Rel G μ K H' w' ∧ Fr μ K H w μ K H' w'
  | [], [], w, H, H', b, o, i, hR, h, _ => by
    simp [Hp.stores] at h; subst h
    exact ⟨w, by simp [storeCells, pure, Sem.run], hR, Fr.refl hR⟩
  | c :: l, x :: xs, w, H, H', b, o, i, hR, h, ha => by
    simp only [Hp.stores] at h
    cases hs : H.store b (o + i) c with
    | none => simp [hs] at h
    | some H1 =>
      simp only [hs] at h
      obtain ⟨hc, hf, hR1, hF1⟩ := hR.store hs ha.1
      obtain ⟨w', hrun, hR2, hF2⟩ := Rel.stores (P := P) (xs := xs) (i := i + 1) hR1 h ha.2
      refine ⟨w', ?_, hR2, hF1.trans (fun b bk hb => hR.lt _ (hR.dom _ _ hb)) hF2⟩
      simp only [storeCells, bind, addr_add]
      exact (run_store_of ha.1.oneCell hc hf).trans hrun
  | [], _ :: _, _, _, _, _, _, _, _, _, ha => ha.elim
  | _ :: _, [], _, _, _, _, _, _, _, _, ha => ha.elim

/-- a new block, at a name that is not known yet -/
theorem Rel.new (hR : Rel G μ K H w) {b N : Nat} {bk : B} {o : Obj} {sz : Nat} (hb : ¬ K b) (hbN : b < N) (hN : H.nx ≤ N) (hm : bk.mut = true)
    (ho : RB μ K ⟨w.heap.size, 0, sz⟩ bk (some o)) :
    Rel G (fun i => if i = b then ⟨w.heap.size, 0, sz⟩ else μ i) (fun i => K i ∨ i = b) ⟨H.m.set b (some bk), N⟩ { w with heap := w.heap.push o } := by
  have hget : ∀ i, Hp.get ⟨H.m.set b (some bk), N⟩ i = if i = b then some bk else H.get i := fun i => by simp [Hp.get, T.get_set]
  have hmu : ∀ i, K i → (fun i => if i = b then (⟨w.heap.size, 0, sz⟩ : Pl) else μ i) i = μ i := fun i hi => by
    by_cases e : i = b
    · subst e; exact absurd hi hb
    · simp [e]
  have hlt : ∀ i k, H.get i = some k → (μ i).blk < w.heap.size := fun i k hi => by
    have h := hR.blk i k hi
    rcases Nat.lt_or_ge (μ i).blk w.heap.size with h1 | h1
    · exact h1
    · rw [Array.getElem?_eq_none h1] at h
      cases k with
      | row n z m rw => obtain ⟨_, _, _, h, _⟩ := h; cases h
      | mp es => obtain ⟨_, _, h, _⟩ := h; cases h
  have hne : ∀ i k, H.get i = some k → i ≠ b := fun i k hi e => hb (e ▸ hR.dom i k hi)
  refine ⟨fun i k hi => ?_, fun i hi => ?_, fun i k hi => ?_, fun i j k1 k2 h1 h2 hm he => ?_, fun g hg => ?_⟩
  · rw [hget] at hi
    split at hi
    · rename_i e; exact .inr e
    · exact .inl (hR.dom _ _ hi)
  · rcases hi with hi | rfl
    · exact Nat.lt_of_lt_of_le (hR.lt i hi) hN
    · exact hbN
  · rw [hget] at hi
    split at hi
    · rename_i e; subst e
      obtain rfl := Option.some.inj hi
      simp only [if_true, Array.getElem?_push]
      exact ho.mono (fun _ h => .inl h) hmu
    · rename_i e
      simp only [e, if_false, Array.getElem?_push]
      rw [if_neg (Nat.ne_of_lt (hlt i k hi))]
      exact (hR.blk i k hi).mono (fun _ h => .inl h) hmu
  · rw [hget] at h1 h2
    by_cases e1 : i = b
    · by_cases e2 : j = b
      · rw [e1, e2]
      · rw [if_neg e2] at h2
        simp only [e1, e2, if_true, if_false] at he
        have := hlt j k2 h2
        omega
    · by_cases e2 : j = b
      · rw [if_neg e1] at h1
        simp only [e1, e2, if_true, if_false] at he
        have := hlt i k1 h1
        omega
      · rw [if_neg e1] at h1
        rw [if_neg e2] at h2
        simp only [e1, e2, if_false] at he
        exact hR.inj i j k1 k2 h1 h2 hm he
  · obtain ⟨h1, h2⟩ := hR.glob g hg
    exact ⟨.inl h1, by have := hmu g h1; simp only at this; rw [this]; exact h2⟩

/-- .. and how it stands to an earlier state from which that name is new -/
theorem Fr.new {μ0 : Nat → Pl} {K0 : Nat → Prop} {H0 : Hp} {w0 : World} (h : Fr μ0 K0 H0 w0 μ K H w) {b N : Nat} {bk : B} {o : Obj} {sz : Nat}
    (hb : ¬ K b) (hb0 : H0.nx ≤ b) (hlt0 : ∀ b bk, H0.get b = some bk → b < H0.nx) (hN : H.nx ≤ N) (hm : bk.mut = true) :
    Fr μ0 K0 H0 w0 (fun i => if i = b then ⟨w.heap.size, 0, sz⟩ else μ i) (fun i => K i ∨ i = b) ⟨H.m.set b (some bk), N⟩ { w with heap := w.heap.push o } := by
  have hget : ∀ i, Hp.get ⟨H.m.set b (some bk), N⟩ i = if i = b then some bk else H.get i := fun i => by simp [Hp.get, T.get_set]
  refine ⟨h.same, by simp; have := h.size; omega, fun i hi hne => ?_, fun i k hi hm => ?_, fun i k hi hk => ?_, fun i hi => ?_, fun i hi => .inl (h.kk i hi), fun i hi hk => ?_, Nat.le_trans h.nx hN, fun i hi hn => ?_, fun i k k' hi hk => ?_, fun i k hi hm => ?_⟩
  · rw [← h.keep i hi hne]
    simp only [Array.getElem?_push]
    rw [if_neg (by have := h.size; omega)]
  · rw [hget] at hi
    split at hi
    · rename_i e; subst e; right; simp; exact h.size
    · rename_i e
      rcases h.img i k hi hm with h1 | h1
      · left; simpa [e] using h1
      · right; simpa [e] using h1
  · rw [hget] at hk
    split at hk
    · rw [← Option.some.inj hk]; exact hm
    · exact h.newmut i k hi hk
  · by_cases e : i = b
    · subst e; exact absurd (h.kk i hi) hb
    · simp [e, h.mu i hi]
  · rcases hk with hk | rfl
    · exact h.knew i hi hk
    · omega
  · rw [hget, if_neg (by omega)]; exact h.none i hi hn
  · rw [hget] at hk
    have := hlt0 i k hi
    rw [if_neg (by omega)] at hk
    exact h.stay i k k' hi hk
  · have := hlt0 i k hi
    rw [hget, if_neg (by omega)]
    exact h.ro i k hi hm

/-- fewer blocks -/
theorem Rel.sub (hR : Rel G μ K H w) (hs : ∀ b bk, H'.get b = some bk → H.get b = some bk) (hn : H'.nx = H.nx) : Rel G μ K H' w :=
  ⟨fun b bk h => hR.dom b bk (hs b bk h), fun b h => by rw [hn]; exact hR.lt b h, fun b bk h => hR.blk b bk (hs b bk h), fun b b' k k' h h' => hR.inj b b' k k' (hs _ _ h) (hs _ _ h'), hR.glob⟩
/-- more names -/
theorem Rel.skip (hR : Rel G μ K H w) (n : Nat) : Rel G μ K (H.skip n) w :=
  ⟨hR.dom, fun b h => by have := hR.lt b h; simp; omega, hR.blk, hR.inj, hR.glob⟩
theorem Fr.skip (hR : Rel G μ K H w) (n : Nat) : Fr μ K H w μ K (H.skip n) w :=
  let r := Fr.refl hR
  ⟨r.same, r.size, r.keep, r.img, r.newmut, r.mu, r.kk, r.knew, by simp, r.none, r.stay, r.ro⟩
theorem Fr.del (hR : Rel G μ K H w) (b : Nat) (hbm : ∀ bk, H.get b = some bk → bk.mut = true) : Fr μ K H w μ K (H.del b) w := by
  have hs : ∀ i k, (H.del b).get i = some k → H.get i = some k := fun i k h => by
    rw [Hp.get_del] at h
    split at h
    · cases h
    · exact h
  let r := Fr.refl hR
  exact ⟨r.same, r.size, r.keep, fun i k h hm => r.img i k (hs i k h) hm, fun i k hi h => r.newmut i k hi (hs i k h), r.mu, r.kk, r.knew, Nat.le_refl _, fun i hi hn => by rw [Hp.get_del, hn]; simp,
    fun i k k' h h' => r.stay i k k' h (hs i k' h'), fun i k h hm => by
      rw [Hp.get_del, if_neg (fun e => by subst e; rw [hbm k h] at hm; cases hm)]; exact h⟩
end

end Go.Ab
