/- append agrees with the model's. -/
import Derived.Test.YtejpbhindcglpaaDoorAbF
namespace Go.Ab
section
variable {P : Program} {G n : Nat} {μ : Nat → Pl} {K : Nat → Prop} {H H' : Hp} {w : World} {F : T V} {a : Act}

theorem Rel.lt' (hR : Rel G μ K H w) : ∀ b bk, H.get b = some bk → b < H.nx := fun b bk h => hR.lt b (hR.dom b bk h)

theorem Rel.blk_lt (hR : Rel G μ K H w) {b : Nat} {bk : B} (h : H.get b = some bk) : (μ b).blk < w.heap.size := by
  have h := hR.blk b bk h
  rcases Nat.lt_or_ge (μ b).blk w.heap.size with h1 | h1
  · exact h1
  · rw [Array.getElem?_eq_none h1] at h
    cases bk with
    | row n z m rw => obtain ⟨_, _, _, h, _⟩ := h; cases h
    | mp es => obtain ⟨_, _, h, _⟩ := h; cases h

/-- a new block at the next name -/
theorem Rel.push (hR : Rel G μ K H w) {bk : B} {o : Obj} {sz d : Nat} (hm : bk.mut = true) (ho : RB μ K ⟨w.heap.size, 0, sz⟩ bk (some o)) :
    Rel G (fun i => if i = H.nx then ⟨w.heap.size, 0, sz⟩ else μ i) (fun i => K i ∨ i = H.nx) (H.push bk) { w with drawn := d, heap := w.heap.push o } ∧
    Fr μ K H w (fun i => if i = H.nx then ⟨w.heap.size, 0, sz⟩ else μ i) (fun i => K i ∨ i = H.nx) (H.push bk) { w with drawn := d, heap := w.heap.push o } := by
  have hb : ¬ K H.nx := fun h => absurd (hR.lt _ h) (by omega)
  have hR' := hR.drawn d
  exact ⟨Rel.new (w := { w with drawn := d }) hR' hb (by omega) (by omega) hm ho, Fr.new (w := { w with drawn := d }) (Fr.drawn hR d) hb (Nat.le_refl _) hR.lt' (by omega) hm⟩

/-- a block is extended where it lies: it goes on under a new name -/
theorem Rel.extend (hR : Rel G μ K H w) {b o nb : Nat} {z : List C} {mm : T C} (hb : H.get b = some (.row nb z mm true)) {w' : World} {cs' : Array Value} {t : TypeId} {l : List C}
    (hg : w'.heap[(μ b).blk]? = some (.cells cs' t (0, 0))) (hsz : cs'.size = (μ b).size) (hoth : ∀ j, j ≠ (μ b).blk → w'.heap[j]? = w.heap[j]?) (hs : w'.heap.size = w.heap.size)
    (hsame : w'.os = w.os ∧ w'.tape = w.tape ∧ w'.output = w.output) (hin : (μ b).off + o + l.length ≤ cs'.size) (hl : ∀ i c, l[i]? = some c → ∃ x, cs'[(μ b).off + o + i]? = some x ∧ RC μ K c x) :
    Rel G (fun i => if i = H.nx then ⟨(μ b).blk, (μ b).off + o, (μ b).size⟩ else μ i) (fun i => K i ∨ i = H.nx) ((H.push (.row l.length l .lf true)).del b) w' ∧
    Fr μ K H w (fun i => if i = H.nx then ⟨(μ b).blk, (μ b).off + o, (μ b).size⟩ else μ i) (fun i => K i ∨ i = H.nx) ((H.push (.row l.length l .lf true)).del b) w' := by
  have hbl := hR.lt' b _ hb
  have hget : ∀ i, ((H.push (.row l.length l .lf true)).del b).get i = if i = b then none else if i = H.nx then some (.row l.length l .lf true) else H.get i := fun i => by
    rw [Hp.get_del, Hp.get_push]
  have hmu : ∀ i, K i → (if i = H.nx then (⟨(μ b).blk, (μ b).off + o, (μ b).size⟩ : Pl) else μ i) = μ i := fun i hi => by
    have := hR.lt i hi
    rw [if_neg (by omega)]
  have hne : ∀ i k, i ≠ b → H.get i = some k → (μ i).blk ≠ (μ b).blk := fun i k hi hk he => hi (hR.inj b i _ _ hb hk rfl he.symm).symm
  constructor
  · refine ⟨fun i k hi => ?_, fun i hi => ?_, fun i k hi => ?_, fun i j k1 k2 h1 h2 hm he => ?_, fun g hg' => ?_⟩
    · rw [hget] at hi
      split at hi
      · cases hi
      · split at hi
        · rename_i e; exact .inr e
        · exact .inl (hR.dom _ _ hi)
    · simp
      rcases hi with hi | rfl
      · have := hR.lt i hi; omega
      · omega
    · rw [hget] at hi
      split at hi
      · cases hi
      · rename_i hib
        split at hi
        · rename_i e; subst e
          obtain rfl := Option.some.inj hi
          simp only [if_true]
          rw [hg]
          refine ⟨cs', t, (0, 0), rfl, hsz, hin, fun _ => rfl, fun i c hc => ?_⟩
          obtain ⟨x, hx, hr⟩ := hl i c (row_cell hc)
          exact ⟨x, hx, hr.mono (fun _ h => .inl h) hmu⟩
        · rename_i e
          simp only [e, if_false]
          rw [hoth _ (hne i k hib hi)]
          exact (hR.blk i k hi).mono (fun _ h => .inl h) hmu
    · rw [hget] at h1 h2
      split at h1
      · cases h1
      · rename_i ib
        split at h2
        · cases h2
        · rename_i jb
          by_cases e1 : i = H.nx
          · by_cases e2 : j = H.nx
            · rw [e1, e2]
            · rw [if_neg e2] at h2
              simp only [e1, e2, if_true, if_false] at he
              exact absurd he.symm (hne j k2 jb h2)
          · by_cases e2 : j = H.nx
            · rw [if_neg e1] at h1
              simp only [e1, e2, if_true, if_false] at he
              exact absurd he (hne i k1 ib h1)
            · rw [if_neg e1] at h1
              rw [if_neg e2] at h2
              simp only [e1, e2, if_false] at he
              exact hR.inj i j k1 k2 h1 h2 hm he
    · obtain ⟨h1, h2⟩ := hR.glob g hg'
      have := hmu g h1
      exact ⟨.inl h1, by simp only [this]; exact h2⟩
  · refine ⟨hsame, by omega, fun i hi hn => hoth i (fun e => hn b _ hb rfl e.symm), fun i k hi hm => ?_, fun i k hi hk => ?_, fun i hi => hmu i hi, fun i hi => .inl hi, fun i hi hk => ?_, by simp, fun i hi hn => ?_, fun i k k' hi hk => ?_, fun i k hi hm => ?_⟩
    · rw [hget] at hi
      split at hi
      · cases hi
      · split at hi
        · rename_i e; subst e; exact .inl ⟨b, _, hb, rfl, by simp⟩
        · rename_i e; exact .inl ⟨i, k, hi, hm, by simp [e]⟩
    · rw [hget] at hk
      split at hk
      · cases hk
      · split at hk
        · rw [← Option.some.inj hk]; rfl
        · exact absurd (hR.lt' i k hk) (by omega)
    · rcases hk with hk | rfl
      · exact hk
      · omega
    · rw [hget, hn]
      rw [if_neg (show ¬ i = H.nx by omega)]
      simp
    · rw [hget] at hk
      have := hR.lt' i k hi
      split at hk
      · cases hk
      · rw [if_neg (show ¬ i = H.nx by omega), hi] at hk
        rw [Option.some.inj hk]
    · have := hR.lt' i k hi
      rw [hget, if_neg (fun e => by subst e; rw [hb] at hi; rw [← Option.some.inj hi] at hm; cases hm), if_neg (by omega)]
      exact hi

theorem append_ok (hR : Rel G μ K H w) {t t' e e' ty : TypeId} {i : TypeInfo} {z : Value} (ht : P.underlying t = some (.slice e)) (ht' : P.underlying t' = some (.slice e')) (hi : P.info? e = some i) (hz : i.zero = some z) (hzs : z.cells.size = i.size)
    {s v : V} {xs xx : Value} {m : Nat} {nc : List C} (hs : RV μ K s xs) {vx : V} (hx : RV μ K vx xx) (hsrc : srcCells H i.size vx = some (m, nc)) (h : aAppend H i.size i.bytes s m nc = some (v, H')) :
    ∃ x w' μ' K', (Builtin.append_ #[t, t'] ty #[xs, xx]).run P w = .ok x w' ∧ RV μ' K' v x ∧ Rel G μ' K' H' w' ∧ Fr μ K H w μ' K' H' w' := by
  obtain ⟨hlen, hncl, news, hnews, hfirst⟩ := src_ok (P := P) hR hx hsrc
  have hnl : news.length = m * i.size := by rw [← hncl]; exact hnews.len.symm
  have hfm : ∀ d, (Builtin.firstCells i.size m xx).run P { w with drawn := d } = .ok news.toArray { w with drawn := d } := fun d => by
    have := hfirst m (Nat.le_refl _) d
    rwa [List.take_of_length_le (by omega)] at this
  have hfm0 : (Builtin.firstCells i.size m xx).run P w = .ok news.toArray w := hfm w.drawn
  -- a fresh row of the model with the old cells and the new ones
  have fresh : ∀ (olds : List C) (oldv : List Value) (rest : Array Value) (len cap : Nat), All2 (RC μ K) olds oldv → olds.length = len * i.size → len + m ≤ cap → rest.size = (cap - (len + m)) * i.size → ∀ d,
      ∃ μ' K', RV μ' K' (.one (.slc H.nx 0 (len + m) (len + m) i.size false)) (.slice (some ⟨w.heap.size, 0, none⟩) (len + m) cap) ∧
        Rel G μ' K' (H.push (.row (olds ++ nc).length (olds ++ nc) .lf true)) { w with drawn := d, heap := w.heap.push (.cells (oldv.toArray ++ news.toArray ++ rest) e) } ∧
        Fr μ K H w μ' K' (H.push (.row (olds ++ nc).length (olds ++ nc) .lf true)) { w with drawn := d, heap := w.heap.push (.cells (oldv.toArray ++ news.toArray ++ rest) e) } := by
    intro olds oldv rest len cap ho hol hcap hrest d
    have hsize : (oldv.toArray ++ news.toArray ++ rest).size = cap * i.size := by
      have h1 := ho.len
      simp only [Array.size_append, List.size_toArray, hrest, hnl, ← h1, hol]
      rw [← Nat.add_mul, ← Nat.add_mul]
      congr 1; omega
    have hrb : RB μ K ⟨w.heap.size, 0, cap * i.size⟩ (.row (olds ++ nc).length (olds ++ nc) .lf true) (some (.cells (oldv.toArray ++ news.toArray ++ rest) e)) := by
      refine ⟨_, e, (0, 0), rfl, hsize, ?_, fun _ => rfl, fun j c hc => ?_⟩
      · rw [hsize]
        simp only [List.length_append, hol, hncl, ← Nat.add_mul, Nat.zero_add]
        exact Nat.mul_le_mul_right _ hcap
      · obtain ⟨x, hx, hr⟩ := (ho.append hnews).at j c (row_cell hc)
        refine ⟨x, ?_, hr⟩
        have hj : j < (oldv ++ news).length := (List.getElem?_eq_some_iff.1 hx).1
        simp only [Nat.zero_add]
        rw [Array.getElem?_append_left (by simpa using hj)]
        rw [← hx]
        simp
    obtain ⟨h1, h2⟩ := hR.push (d := d) rfl hrb
    exact ⟨_, _, ⟨.inr rfl, _, cap, rfl, Nat.le_refl _, hcap, by simp, .inr ⟨by simp [Pl.addr], by simp⟩⟩, h1, h2⟩
  cases s with
  | one c =>
    cases c <;> simp only [aAppend] at h <;> try (cases h; done)
    case slc b o len cap e0 ex =>
      split at h
      · cases h
      · rename_i he
        obtain rfl : e0 = i.size := by simpa using he
        obtain ⟨hb, ad, c, hxs, h1, h2, h3, h4⟩ : RC μ K (.slc b o len cap i.size ex) xs := hs
        subst hxs
        split at h
        · rename_i hfit
          simp only [Option.map_eq_some_iff, Prod.mk.injEq] at h
          obtain ⟨H1, hst, rfl, rfl⟩ := h
          have hrun := run_append_fits (P := P) (ty := ty) (base := some ad) (sl := len) (sc := c) ht ht' hi hlen hfm0 (by omega)
          rcases h4 with h4 | ⟨rfl, h5⟩
          · have hm0 : m = 0 := by omega
            have hn0 : news = [] := List.eq_nil_of_length_eq_zero (by rw [hnl, hm0]; simp)
            have hc0 : nc = [] := List.eq_nil_of_length_eq_zero (by rw [hncl, hm0]; simp)
            subst hn0 hc0
            simp only [Hp.stores, Option.some.injEq] at hst
            subst hst
            refine ⟨_, w, μ, K, by rw [hrun]; simp [storeCells], ⟨hb, ad, c, rfl, by omega, h2, h3, .inl h4⟩, hR, Fr.refl hR⟩
          · obtain ⟨w', hrun', hR', hF'⟩ := Rel.stores (P := P) (o := o + len * i.size) (i := 0) hR hst hnews
            refine ⟨_, w', μ, K, ?_, ⟨hb, _, c, rfl, hfit, h2, h3, .inr ⟨rfl, h5⟩⟩, hR', hF'⟩
            have hrun2 : (storeCells ((μ b).addr (o + len * i.size)) news).run P w = .ok () w' := hrun'
            rw [hrun]
            simp only [addr_add]
            rw [hrun2]
            rfl
        · rename_i hnfit
          split at h
          · rename_i hbound
            split at h
            · cases h
            · rename_i olds hold
              obtain ⟨oldv, hov, hcells⟩ := hR.cells hold
              have hol := loads_len hold
              have hovl : oldv.length = len * i.size := by rw [← hol]; exact hov.len.symm
              have holds : ∀ d, (Builtin.firstCells i.size len (.slice (some ad) len c)).run P { w with drawn := d } = .ok oldv.toArray { w with drawn := d } := fun d => by
                by_cases hl0 : len = 0
                · subst hl0
                  have : oldv = [] := List.eq_nil_of_length_eq_zero (by rw [hovl]; simp)
                  subst this
                  simp [Builtin.firstCells, loadCells, loadCellsFrom]
                · rcases h4 with h4 | ⟨rfl, _⟩
                  · omega
                  · have := cells_run (P := P) (w := { w with drawn := d }) (ad := (μ b).addr o) (xs := oldv) (i := 0) (acc := #[]) fun j y hy => by
                      rw [addr_add, Nat.zero_add]; exact hcells j y hy
                    rw [hovl] at this
                    simpa [Builtin.firstCells, loadCells] using this
              -- the model's own growth
              have grows : c < len + m → ∃ x d rest ncap, len + m ≤ ncap ∧ rest.size = (ncap - (len + m)) * i.size ∧ x = Value.slice (some ⟨w.heap.size, 0, none⟩) (len + m) ncap ∧
                  (Builtin.append_ #[t, t'] ty #[.slice (some ad) len c, xx]).run P w = .ok x { w with drawn := d, heap := w.heap.push (.cells (oldv.toArray ++ news.toArray ++ rest) e) } := by
                intro hgr
                obtain ⟨ncap, rest, d, g1, g2, g3⟩ := run_append_grows (P := P) (ty := ty) ht ht' hi hz hzs (base := some ad) (sl := len) (sc := c) hlen hfm holds hgr hbound.1 hbound.2
                exact ⟨_, d, rest, ncap, g1, g2, rfl, g3⟩
              cases ex with
              | true =>
                simp only [if_true, Option.some.injEq, Prod.mk.injEq] at h
                obtain ⟨rfl, rfl⟩ := h
                obtain ⟨x, d, rest, ncap, g1, g2, rfl, g3⟩ := grows (by have := h3 rfl; omega)
                obtain ⟨μ', K', f1, f2, f3⟩ := fresh olds oldv rest len ncap hov hol g1 g2 d
                exact ⟨_, _, μ', K', g3, f1, f2, f3⟩
              | false =>
                simp only [Bool.false_eq_true, if_false] at h
                split at h
                · rename_i hmut
                  simp only [Option.some.injEq, Prod.mk.injEq] at h
                  obtain ⟨rfl, rfl⟩ := h
                  obtain ⟨nb, zb, mb, hgb⟩ := Hp.mutRow_inv hmut
                  by_cases hroom : len + m ≤ c
                  · -- in place
                    have hrun := run_append_fits (P := P) (ty := ty) (base := some ad) (sl := len) (sc := c) ht ht' hi hlen hfm0 hroom
                    rcases h4 with h4 | ⟨rfl, h5⟩
                    · omega
                    · obtain ⟨cs, tt, fz, k1, k2, k3, k4, k5⟩ := hR.blk b _ hgb
                      obtain rfl := k4 rfl
                      have hroom' : (len + m) * i.size ≤ c * i.size := Nat.mul_le_mul_right _ hroom
                      rw [Nat.add_mul] at hroom'
                      obtain ⟨w', cs', q1, q2, q3, q4, q5, q6, q7, q8, q9⟩ := store_conc (P := P) (g := (μ b).blk) (t := tt) (xs := news) (w := w) (cs := cs) (q := (μ b).off + (o + len * i.size)) (i := 0) k1 hnews.oneC (by omega)
                      have hext := hR.extend (o := o) hgb (w' := w') (cs' := cs') (t := tt) (l := olds ++ nc) q2 (by omega) q5 q6 ⟨q7, q8, q9⟩ (by simp only [List.length_append]; omega) (fun j cc hj => by
                        rw [q4]
                        by_cases hjl : j < olds.length
                        · rw [if_neg (by omega)]
                          rw [List.getElem?_append_left hjl] at hj
                          obtain ⟨x, hx', hr⟩ := hov.at j cc hj
                          have hcx := hcells j x hx'
                          rw [cell_at k1] at hcx
                          exact ⟨x, by rw [Nat.add_assoc]; exact hcx, hr⟩
                        · rw [List.getElem?_append_right (by omega)] at hj
                          have hjn : j - olds.length < nc.length := (List.getElem?_eq_some_iff.1 hj).1
                          rw [if_pos (by omega)]
                          obtain ⟨x, hx', hr⟩ := hnews.at _ cc hj
                          exact ⟨x, by rw [show (μ b).off + o + j - ((μ b).off + (o + len * i.size) + 0) = j - olds.length by omega]; exact hx', hr⟩)
                      refine ⟨_, w', _, _, ?_, ⟨.inr rfl, (μ b).addr o, c, rfl, Nat.le_refl _, hroom, by simp, .inr ⟨by simp [Pl.addr], by simp; exact h5⟩⟩, hext.1, hext.2⟩
                      rw [hrun]
                      simp only [addr_add]
                      have : (storeCells ((μ b).addr (o + len * i.size)) news).run P w = .ok () w' := q1
                      rw [this]
                      rfl
                  · obtain ⟨x, d, rest, ncap, g1, g2, rfl, g3⟩ := grows (by omega)
                    obtain ⟨μ', K', f1, f2, f3⟩ := fresh olds oldv rest len ncap hov hol g1 g2 d
                    refine ⟨_, _, μ', K', g3, f1, f2.sub (fun j k hj => ?_) rfl, f3.trans hR.lt' (Fr.del f2 b (fun bk hbk => by
                      rw [Hp.get_push, if_neg (by have := hR.lt' b _ hgb; omega), hgb] at hbk
                      rw [← Option.some.inj hbk]; rfl))⟩
                    rw [Hp.get_del] at hj
                    split at hj
                    · cases hj
                    · exact hj
                · cases h
          · cases h
    case nils =>
      have hxs : xs = .slice none 0 0 := hs
      subst hxs
      split at h
      · rename_i hm0
        simp only [Option.some.injEq, Prod.mk.injEq] at h
        obtain ⟨rfl, rfl⟩ := h
        subst hm0
        have hrun := run_append_fits (P := P) (ty := ty) (base := none) (sl := 0) (sc := 0) ht ht' hi hlen hfm0 (by omega)
        exact ⟨_, w, μ, K, hrun, rfl, hR, Fr.refl hR⟩
      · rename_i hm0
        split at h
        · rename_i hbound
          simp only [Option.some.injEq, Prod.mk.injEq] at h
          obtain ⟨rfl, rfl⟩ := h
          obtain ⟨ncap, rest, d, g1, g2, g3⟩ := run_append_grows (P := P) (ty := ty) ht ht' hi hz hzs (base := none) (sl := 0) (sc := 0) (olds := #[]) hlen hfm (fun d => by simp [Builtin.firstCells]) (by omega) (by simpa using hbound.1) (by omega)
          obtain ⟨μ', K', f1, f2, f3⟩ := fresh [] [] rest 0 ncap trivial (by simp) g1 g2 d
          simp only [Nat.zero_add, List.nil_append] at f1 f2 f3
          refine ⟨_, _, μ', K', g3, ?_, f2, f3⟩
          simpa using f1
        · cases h
  | agg l => simp [aAppend] at h
  | tup l => simp [aAppend] at h
end
end Go.Ab
