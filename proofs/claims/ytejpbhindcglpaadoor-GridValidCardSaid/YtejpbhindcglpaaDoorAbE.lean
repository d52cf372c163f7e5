/- Operations that write. -/
import Derived.Test.YtejpbhindcglpaaDoorAbN
import Derived.Laws.Append
namespace Go.Ab

inductive EffOp where
  | store (n : Nat) (a x : Opd)
  | append (esz bytes : Nat) (s x : Opd)
  | copy (esz : Nat) (d s : Opd)
  | mapupd (m k x : Opd)
  | clear (esz : Nat) (z : List C) (x : Opd)

/-- the elements of a slice: how many, and their cells -/
def srcCells (H : Hp) (esz : Nat) : V → Option (Nat × List C)
  | .one .nils => some (0, [])
  | .one (.slc b o len _ e _) => if e = esz then (H.loads b o (len * esz)).map fun l => (len, l) else none
  | _ => none

def Hp.mutRow (H : Hp) (b : Nat) : Bool :=
  match H.get b with
  | some (.row _ _ _ rw) => rw
  | _ => false

def aAppend (H : Hp) (esz bytes : Nat) (s : V) (m : Nat) (news : List C) : Option (V × Hp) :=
  match s with
  | .one .nils =>
    if m = 0 then some (.one .nils, H)
    else if m * bytes ≤ 140737488355328 ∧ m < 4611686018427387904 then some (.one (.slc H.nx 0 m m esz false), H.push (.row news.length news .lf true)) else none
  | .one (.slc b o len cap e ex) =>
    if e ≠ esz then none
    else if len + m ≤ cap then (H.stores b (o + len * esz) news).map fun H' => (.one (.slc b o (len + m) cap esz ex), H')
    else if (len + m) * bytes ≤ 140737488355328 ∧ len + m < 4611686018427387904 then
      match H.loads b o (len * esz) with
      | none => none
      | some olds =>
        if ex then some (.one (.slc H.nx 0 (len + m) (len + m) esz false), H.push (.row (olds ++ news).length (olds ++ news) .lf true))
        else if H.mutRow b then some (.one (.slc H.nx 0 (len + m) (len + m) esz false), (H.push (.row (olds ++ news).length (olds ++ news) .lf true)).del b)
        else none
    else none
  | _ => none

def mset (es : List (V × V)) (i : Nat) (v : V) : List (V × V) := es.modify i fun e => (e.1, v)

def isOne : V → Bool
  | .tup _ => false
  | _ => true

def aEff (F : T V) (H : Hp) : EffOp → Option (V × Hp)
  | .store n a x => match a.ev F, cells1 (x.ev F) with
    | .one (.ptr b o), some cs => if cs.length = n then (H.stores b o cs).map fun H' => (V.undef, H') else none
    | _, _ => none
  | .append esz bytes s x => match srcCells H esz (x.ev F) with
    | some (m, news) => aAppend H esz bytes (s.ev F) m news
    | none => none
  | .copy esz d s => match d.ev F, srcCells H esz (s.ev F) with
    | .one .nils, some _ => some (.one (.int .i64 0), H)
    | .one (.slc b o len _ e _), some (m, cs) =>
      if e = esz then (H.stores b o (cs.take (min m len * esz))).map fun H' => (.one (.int .i64 (min m len : Nat)), H') else none
    | _, _ => none
  | .mapupd m k x => match m.ev F with
    | .one (.map b) => match H.get b with
      | some (.mp es) =>
        if isIntKey (k.ev F) && isOne (x.ev F) then
          match mfind (k.ev F) es 0 with
          | some none => some (V.undef, H.add b (.mp (es ++ [(k.ev F, x.ev F)])))
          | some (some (i, _)) => some (V.undef, H.add b (.mp (mset es i (x.ev F))))
          | none => none
        else none
      | _ => none
    | _ => none
  | .clear esz z x => match x.ev F with
    | .one .nils => some (V.undef, H)
    | .one (.slc b o len _ e _) => if e = esz then (H.stores b o (patt z (len * esz))).map fun H' => (V.undef, H') else none
    | _ => none

def cpEff (P : Program) (G n : Nat) (o : Oper) : Option EffOp :=
  match o.op with
  | .store t x y => match sizeT P t, cO G n x, cO G n y with
    | some s, some a, some b => some (.store s a b)
    | _, _, _ => none
  | .mapUpdate t m k x => match P.underlying t, cO G n m, cO G n k, cO G n x with
    | some (.map kt _), some m, some k, some x => match P.underlying kt with
      | some (.int _) => some (.mapupd m k x)
      | _ => none
    | _, _, _, _ => none
  | .call { callee := .builtin .append, args := args, argTypes := ts } =>
    match args.toList, ts.toList with
    | [s, x], [t, t'] => match P.underlying t, P.underlying t', cO G n s, cO G n x with
      | some (.slice e), some (.slice _), some s, some x => match P.info? e, zeroL P e with
        | some i, some z => if z.length = i.size ∧ 0 < i.size then some (.append i.size i.bytes s x) else none
        | _, _ => none
      | _, _, _, _ => none
    | _, _ => none
  | .call { callee := .builtin .copy, args := args, argTypes := ts } =>
    match args.toList, ts.toList with
    | [s, x], t :: _ => match P.underlying t, cO G n s, cO G n x with
      | some (.slice e), some s, some x => (sizeT P e).map fun k => .copy k s x
      | _, _, _ => none
    | _, _ => none
  | .call { callee := .builtin .clear, args := args, argTypes := ts } =>
    match args.toList, ts.toList with
    | [x], [t] => match P.underlying t, cO G n x with
      | some (.slice e), some x => match sizeT P e, zeroL P e with
        | some k, some z => if z.length = k ∧ 0 < k then some (.clear k z x) else none
        | _, _ => none
      | _, _ => none
    | _, _ => none
  | _ => none

section
variable {P : Program} {G n : Nat} {μ : Nat → Pl} {K : Nat → Prop} {H H' : Hp} {w : World} {F : T V} {a : Act}

theorem Hp.mutRow_inv {b : Nat} (h : H.mutRow b = true) : ∃ n z m, H.get b = some (.row n z m true) := by
  unfold Hp.mutRow at h
  split at h
  · rename_i n z m rw hg; subst h; exact ⟨n, z, m, hg⟩
  · cases h

/-- cells are stored at the model's own places -/
theorem store_conc {g : Nat} {t : TypeId} : ∀ {xs : List Value} {w : World} {cs : Array Value} {q i : Nat}, w.heap[g]? = some (.cells cs t (0, 0)) → (∀ x ∈ xs, oneC x = true) → q + i + xs.length ≤ cs.size →
    ∃ w' cs', (storeCells ⟨g, q, none⟩ xs i).run P w = .ok () w' ∧ w'.heap[g]? = some (.cells cs' t (0, 0)) ∧ cs'.size = cs.size ∧ (∀ j, cs'[j]? = if q + i ≤ j ∧ j < q + i + xs.length then xs[j - (q + i)]? else cs[j]?) ∧
      (∀ j, j ≠ g → w'.heap[j]? = w.heap[j]?) ∧ w'.heap.size = w.heap.size ∧ w'.os = w.os ∧ w'.tape = w.tape ∧ w'.output = w.output
  | [], w, cs, q, i, hg, _, _ => ⟨w, cs, by simp [storeCells], hg, rfl, fun j => by rw [if_neg (by simp)], fun _ _ => rfl, rfl, rfl, rfl, rfl⟩
  | x :: xs, w, cs, q, i, hg, h1, hl => by
    simp only [List.length_cons] at hl
    have hadd : (⟨g, q, none⟩ : Addr).add i = ⟨g, q + i, none⟩ := by unfold Addr.add; split <;> simp_all
    have hc : ∃ y, w.cell? ⟨g, q + i, none⟩ = some y := ⟨cs[q + i]'(by omega), by simp [World.cell?, hg]⟩
    have hf : w.frozen? ⟨g, q + i, none⟩ = false := by simp [World.frozen?, hg]
    have hh := heap_set w ⟨g, q + i, none⟩ x (cs := cs) (t := t) (fz := (0, 0)) hg rfl
    obtain ⟨w', cs', hrun, hg', hsz, hat, hoth, hs, ho, ht, hou⟩ := store_conc (g := g) (t := t) (xs := xs) (w := w.setCell ⟨g, q + i, none⟩ x) (cs := cs.setIfInBounds (q + i) x) (q := q) (i := i + 1)
      (by rw [hh]; simp) (fun y hy => h1 y (by simp [hy])) (by simp; omega)
    refine ⟨w', cs', ?_, hg', by simpa using hsz, fun j => ?_, fun j hj => by rw [hoth j hj, hh, if_neg hj], by simpa [World.setCell] using hs, ho, ht, hou⟩
    · simp only [storeCells, bind, hadd]
      exact (run_store_of (h1 x (by simp)) hc hf).trans hrun
    · rw [hat j]
      by_cases e : j = q + i
      · subst e
        rw [if_neg (by omega), if_pos (by simp)]
        rw [Array.getElem?_setIfInBounds]
        simp
        omega
      · by_cases e2 : q + (i + 1) ≤ j ∧ j < q + (i + 1) + xs.length
        · rw [if_pos e2, if_pos (by simp; omega), show j - (q + i) = (j - (q + (i + 1))) + 1 by omega]
          simp
        · rw [if_neg e2, if_neg (by simp; omega), Array.getElem?_setIfInBounds, if_neg (by omega)]

theorem All2.oneC {l : List C} {xs : List Value} (h : All2 (RC μ K) l xs) : ∀ x ∈ xs, oneC x = true := by
  intro x hx
  obtain ⟨i, hi⟩ := List.mem_iff_getElem?.1 hx
  obtain ⟨c, _, hr⟩ := h.at' i x hi
  exact hr.oneCell

theorem cells_run {ad : Addr} : ∀ {xs : List Value} {i : Nat} {acc : Array Value}, (∀ j x, xs[j]? = some x → w.cell? (ad.add (i + j)) = some x) → (loadCellsFrom ad i xs.length acc).run P w = .ok (acc ++ xs.toArray) w
  | [], i, acc, _ => by simp [loadCellsFrom]
  | x :: xs, i, acc, h => by
    have h0 : w.cell? (ad.add i) = some x := h 0 x rfl
    have ih := cells_run (ad := ad) (xs := xs) (i := i + 1) (acc := acc.push x) fun j y hy => by
      rw [show i + 1 + j = i + (j + 1) by omega]; exact h (j + 1) y (by simpa using hy)
    simp only [List.length_cons, loadCellsFrom, Sem.run_bind, run_load, h0, Result.andThen_ok]
    rw [ih]
    simp

theorem Rel.cells (hR : Rel G μ K H w) : ∀ {m b o : Nat} {l : List C}, H.loads b o m = some l → ∃ xs : List Value, All2 (RC μ K) l xs ∧ ∀ j x, xs[j]? = some x → w.cell? ((μ b).addr (o + j)) = some x
  | 0, b, o, l, h => by simp [Hp.loads] at h; subst h; exact ⟨[], trivial, by simp⟩
  | m + 1, b, o, l, h => by
    simp only [Hp.loads] at h
    split at h
    · cases h
    · rename_i c hc
      split at h
      · cases h
      · rename_i l' hl'
        obtain rfl := Option.some.inj h
        obtain ⟨x, hx, hr⟩ := hR.cell hc
        obtain ⟨xs, ha, hxs⟩ := Rel.cells hR hl'
        refine ⟨x :: xs, ⟨hr, ha⟩, fun j y hy => ?_⟩
        cases j with
        | zero => simp at hy; subst hy; exact hx
        | succ j => rw [show o + (j + 1) = o + 1 + j by omega]; exact hxs j y (by simpa using hy)

theorem loads_len : ∀ {m b o : Nat} {l : List C}, H.loads b o m = some l → l.length = m
  | 0, b, o, l, h => by simp [Hp.loads] at h; rw [h]; rfl
  | m + 1, b, o, l, h => by
    simp only [Hp.loads] at h
    split at h
    · cases h
    · split at h
      · cases h
      · rename_i l' hl'
        obtain rfl := Option.some.inj h
        simp [loads_len hl']

/-- what a slice's elements are in the model -/
theorem src_ok (hR : Rel G μ K H w) {esz m : Nat} {v : V} {x : Value} {l : List C} (hv : RV μ K v x) (h : srcCells H esz v = some (m, l)) :
    (Builtin.lenOf x).run P w = .ok m w ∧ l.length = m * esz ∧ ∃ xs : List Value, All2 (RC μ K) l xs ∧ ∀ k, k ≤ m → ∀ d, (Builtin.firstCells esz k x).run P { w with drawn := d } = .ok (xs.take (k * esz)).toArray { w with drawn := d } := by
  cases v with
  | one c =>
    cases c <;> simp only [srcCells] at h <;> try (cases h; done)
    case slc b o len cap e ex =>
      split at h
      · rename_i he
        subst he
        simp only [Option.map_eq_some_iff, Prod.mk.injEq] at h
        obtain ⟨l', hl, rfl, rfl⟩ := h
        obtain ⟨hb, ad, c, hx, h1, h2, h3, h4⟩ : RC μ K (.slc b o len cap e ex) x := hv
        have hlen := loads_len hl
        refine ⟨by simp [Builtin.lenOf, hx], hlen, ?_⟩
        obtain ⟨xs, ha, hr⟩ := hR.cells hl
        refine ⟨xs, ha, fun k hk d => ?_⟩
        by_cases hk0 : k = 0
        · subst hk0
          simp [Builtin.firstCells, hx, loadCells, loadCellsFrom]
        · rcases h4 with h4 | ⟨rfl, _⟩
          · omega
          · have hxl : (xs.take (k * e)).length = k * e := by
              have := ha.len
              have : k * e ≤ len * e := Nat.mul_le_mul_right _ hk
              simp; omega
            have := cells_run (P := P) (w := { w with drawn := d }) (ad := (μ b).addr o) (xs := xs.take (k * e)) (i := 0) (acc := #[]) fun j y hy => by
              rw [addr_add, Nat.zero_add]
              refine hr j y ?_
              rw [List.getElem?_take] at hy
              split at hy
              · exact hy
              · cases hy
            rw [hxl] at this
            simp only [Builtin.firstCells, hx, loadCells]
            rw [this]
            simp
      · cases h
    case nils =>
      simp only [Option.some.injEq, Prod.mk.injEq] at h
      obtain ⟨rfl, rfl⟩ := h
      have hx : x = .slice none 0 0 := hv
      exact ⟨by simp [Builtin.lenOf, hx], by simp, [], trivial, fun k hk d => by simp [Builtin.firstCells, hx]⟩
  | agg l => simp [srcCells] at h
  | tup l => simp [srcCells] at h
end
end Go.Ab
