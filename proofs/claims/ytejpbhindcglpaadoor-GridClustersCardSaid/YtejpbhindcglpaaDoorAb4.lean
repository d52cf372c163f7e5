/- Operations that write. -/
import Derived.Test.YtejpbhindcglpaaDoorAb3
import Derived.Laws.Append
set_option linter.unusedVariables false
set_option linter.unusedSimpArgs false
namespace Go.Ab

inductive EffOp where
  | store (n : Nat) (a x : Opd)
  | append (esz bytes : Nat) (s x : Opd)
  | copy (esz : Nat) (d s : Opd)
  | mapupd (m k x : Opd)
  | clear (esz : Nat) (z : List C) (x : Opd)

/-- the elements of a slice: how many, and their cells -/
def srcCells (H : Hp) (esz : Nat) : V → Option (Nat × List C)
  | .one .nils => some (0, [])
  | .one (.slc b o len _ e _) => if e = esz then (H.loads b o (len * esz)).map fun l => (len, l) else none
  | _ => none

def Hp.mutRow (H : Hp) (b : Nat) : Bool :=
  match H.get b with
  | some (.row _ _ _ rw) => rw
  | _ => false

def aAppend (H : Hp) (esz bytes : Nat) (s : V) (m : Nat) (news : List C) : Option (V × Hp) :=
  match s with
  | .one .nils =>
    if m = 0 then some (.one .nils, H)
    else if m * bytes ≤ 140737488355328 ∧ m < 4611686018427387904 then some (.one (.slc H.nx 0 m m esz false), H.push (.row news.length news .lf true)) else none
  | .one (.slc b o len cap e ex) =>
    if e ≠ esz then none
    else if len + m ≤ cap then (H.stores b (o + len * esz) news).map fun H' => (.one (.slc b o (len + m) cap esz ex), H')
    else if (len + m) * bytes ≤ 140737488355328 ∧ len + m < 4611686018427387904 then
      match H.loads b o (len * esz) with
      | none => none
      | some olds =>
        if ex then some (.one (.slc H.nx 0 (len + m) (len + m) esz false), H.push (.row (olds ++ news).length (olds ++ news) .lf true))
        else if H.mutRow b then some (.one (.slc H.nx 0 (len + m) (len + m) esz false), (H.push (.row (olds ++ news).length (olds ++ news) .lf true)).del b)
        else none
    else none
  | _ => none

def mset (es : List (V × V)) (i : Nat) (v : V) : List (V × V) := es.modify i fun e => (e.1, v)

def isOne : V → Bool
  | .tup _ => false
  | _ => true

def aEff (F : T V) (H : Hp) : EffOp → Option (V × Hp)
  | .store n a x => match a.ev F, cells1 (x.ev F) with
    | .one (.ptr b o), some cs => if cs.length = n then (H.stores b o cs).map fun H' => (V.undef, H') else none
    | _, _ => none
  | .append esz bytes s x => match srcCells H esz (x.ev F) with
    | some (m, news) => aAppend H esz bytes (s.ev F) m news
    | none => none
  | .copy esz d s => match d.ev F, srcCells H esz (s.ev F) with
    | .one .nils, some _ => some (.one (.int .i64 0), H)
    | .one (.slc b o len _ e _), some (m, cs) =>
      if e = esz then (H.stores b o (cs.take (min m len * esz))).map fun H' => (.one (.int .i64 (min m len : Nat)), H') else none
    | _, _ => none
  | .mapupd m k x => match m.ev F with
    | .one (.map b) => match H.get b with
      | some (.mp es) =>
        if isIntKey (k.ev F) && isOne (x.ev F) then
          match mfind (k.ev F) es 0 with
          | some none => some (V.undef, H.add b (.mp (es ++ [(k.ev F, x.ev F)])))
          | some (some (i, _)) => some (V.undef, H.add b (.mp (mset es i (x.ev F))))
          | none => none
        else none
      | _ => none
    | _ => none
  | .clear esz z x => match x.ev F with
    | .one .nils => some (V.undef, H)
    | .one (.slc b o len _ e _) => if e = esz then (H.stores b o (patt z (len * esz))).map fun H' => (V.undef, H') else none
    | _ => none

def cpEff (P : Program) (G n : Nat) (o : Oper) : Option EffOp :=
  match o.op with
  | .store t x y => match sizeT P t, cO G n x, cO G n y with
    | some s, some a, some b => some (.store s a b)
    | _, _, _ => none
  | .mapUpdate t m k x => match P.underlying t, cO G n m, cO G n k, cO G n x with
    | some (.map kt _), some m, some k, some x => match P.underlying kt with
      | some (.int _) => some (.mapupd m k x)
      | _ => none
    | _, _, _, _ => none
  | .call { callee := .builtin .append, args := args, argTypes := ts } =>
    match args.toList, ts.toList with
    | [s, x], [t, t'] => match P.underlying t, P.underlying t', cO G n s, cO G n x with
      | some (.slice e), some (.slice _), some s, some x => match P.info? e, zeroL P e with
        | some i, some z => if z.length = i.size ∧ 0 < i.size then some (.append i.size i.bytes s x) else none
        | _, _ => none
      | _, _, _, _ => none
    | _, _ => none
  | .call { callee := .builtin .copy, args := args, argTypes := ts } =>
    match args.toList, ts.toList with
    | [s, x], t :: _ => match P.underlying t, cO G n s, cO G n x with
      | some (.slice e), some s, some x => (sizeT P e).map fun k => .copy k s x
      | _, _, _ => none
    | _, _ => none
  | .call { callee := .builtin .clear, args := args, argTypes := ts } =>
    match args.toList, ts.toList with
    | [x], [t] => match P.underlying t, cO G n x with
      | some (.slice e), some x => match sizeT P e, zeroL P e with
        | some k, some z => if z.length = k ∧ 0 < k then some (.clear k z x) else none
        | _, _ => none
      | _, _ => none
    | _, _ => none
  | _ => none

section
variable {P : Program} {G n : Nat} {μ : Nat → Pl} {K : Nat → Prop} {H H' : Hp} {w : World} {F : T V} {a : Act}

theorem Hp.mutRow_inv {b : Nat} (h : H.mutRow b = true) : ∃ n z m, H.get b = some (.row n z m true) := by
  unfold Hp.mutRow at h
  split at h
  · rename_i n z m rw hg; subst h; exact ⟨n, z, m, hg⟩
  · cases h

/-- cells are stored at the model's own places -/
theorem store_conc {g : Nat} {t : TypeId} : ∀ {xs : List Value} {w : World} {cs : Array Value} {q i : Nat}, w.heap[g]? = some (.cells cs t (0, 0)) → (∀ x ∈ xs, oneC x = true) → q + i + xs.length ≤ cs.size →
    ∃ w' cs', (storeCells ⟨g, q, none⟩ xs i).run P w = .ok () w' ∧ w'.heap[g]? = some (.cells cs' t (0, 0)) ∧ cs'.size = cs.size ∧ (∀ j, cs'[j]? = if q + i ≤ j ∧ j < q + i + xs.length then xs[j - (q + i)]? else cs[j]?) ∧
      (∀ j, j ≠ g → w'.heap[j]? = w.heap[j]?) ∧ w'.heap.size = w.heap.size ∧ w'.os = w.os ∧ w'.tape = w.tape ∧ w'.output = w.output ∧ w.drawn ≤ w'.drawn
  | [], w, cs, q, i, hg, _, _ => ⟨w, cs, by simp [storeCells], hg, rfl, fun j => by rw [if_neg (by simp)], fun _ _ => rfl, rfl, rfl, rfl, rfl, Nat.le_refl _⟩
  | x :: xs, w, cs, q, i, hg, h1, hl => by
    simp only [List.length_cons] at hl
    have hadd : (⟨g, q, none⟩ : Addr).add i = ⟨g, q + i, none⟩ := by unfold Addr.add; split <;> simp_all
    have hc : ∃ y, w.cell? ⟨g, q + i, none⟩ = some y := ⟨cs[q + i]'(by omega), by simp [World.cell?, hg]⟩
    have hf : w.frozen? ⟨g, q + i, none⟩ = false := by simp [World.frozen?, hg]
    have hh := heap_set w ⟨g, q + i, none⟩ x (cs := cs) (t := t) (fz := (0, 0)) hg rfl
    obtain ⟨w', cs', hrun, hg', hsz, hat, hoth, hs, ho, ht, hou⟩ := store_conc (g := g) (t := t) (xs := xs) (w := w.setCell ⟨g, q + i, none⟩ x) (cs := cs.setIfInBounds (q + i) x) (q := q) (i := i + 1)
      (by rw [hh]; simp) (fun y hy => h1 y (by simp [hy])) (by simp; omega)
    refine ⟨w', cs', ?_, hg', by simpa using hsz, fun j => ?_, fun j hj => by rw [hoth j hj, hh, if_neg hj], by simpa [World.setCell] using hs, ho, ht, hou⟩
    · simp only [storeCells, bind, hadd]
      exact (run_store_of (h1 x (by simp)) hc hf).trans hrun
    · rw [hat j]
      by_cases e : j = q + i
      · subst e
        rw [if_neg (by omega), if_pos (by simp)]
        rw [Array.getElem?_setIfInBounds]
        simp
        omega
      · by_cases e2 : q + (i + 1) ≤ j ∧ j < q + (i + 1) + xs.length
        · rw [if_pos e2, if_pos (by simp; omega), show j - (q + i) = (j - (q + (i + 1))) + 1 by omega]
          simp
        · rw [if_neg e2, if_neg (by simp; omega), Array.getElem?_setIfInBounds, if_neg (by omega)]

theorem All2.oneC {l : List C} {xs : List Value} (h : All2 (RC μ K) l xs) : ∀ x ∈ xs, oneC x = true := by
  intro x hx
  obtain ⟨i, hi⟩ := List.mem_iff_getElem?.1 hx
  obtain ⟨c, _, hr⟩ := h.at' i x hi
  exact hr.oneCell

theorem cells_run {ad : Addr} : ∀ {xs : List Value} {i : Nat} {acc : Array Value}, (∀ j x, xs[j]? = some x → w.cell? (ad.add (i + j)) = some x) → (loadCellsFrom ad i xs.length acc).run P w = .ok (acc ++ xs.toArray) w
  | [], i, acc, _ => by simp [loadCellsFrom]
  | x :: xs, i, acc, h => by
    have h0 : w.cell? (ad.add i) = some x := h 0 x rfl
    have ih := cells_run (ad := ad) (xs := xs) (i := i + 1) (acc := acc.push x) fun j y hy => by
      rw [show i + 1 + j = i + (j + 1) by omega]; exact h (j + 1) y (by simpa using hy)
    simp only [List.length_cons, loadCellsFrom, Sem.run_bind, run_load, h0, Result.andThen_ok]
    rw [ih]
    simp

theorem Rel.cells (hR : Rel G μ K H w) : ∀ {m b o : Nat} {l : List C}, H.loads b o m = some l → ∃ xs : List Value, All2 (RC μ K) l xs ∧ ∀ j x, xs[j]? = some x → w.cell? ((μ b).addr (o + j)) = some x
  | 0, b, o, l, h => by simp [Hp.loads] at h; subst h; exact ⟨[], trivial, by simp⟩
  | m + 1, b, o, l, h => by
    simp only [Hp.loads] at h
    split at h
    · cases h
    · rename_i c hc
      split at h
      · cases h
      · rename_i l' hl'
        obtain rfl := Option.some.inj h
        obtain ⟨x, hx, hr⟩ := hR.cell hc
        obtain ⟨xs, ha, hxs⟩ := Rel.cells hR hl'
        refine ⟨x :: xs, ⟨hr, ha⟩, fun j y hy => ?_⟩
        cases j with
        | zero => simp at hy; subst hy; exact hx
        | succ j => rw [show o + (j + 1) = o + 1 + j by omega]; exact hxs j y (by simpa using hy)

theorem loads_len : ∀ {m b o : Nat} {l : List C}, H.loads b o m = some l → l.length = m
  | 0, b, o, l, h => by simp [Hp.loads] at h; rw [h]; rfl
  | m + 1, b, o, l, h => by
    simp only [Hp.loads] at h
    split at h
    · cases h
    · split at h
      · cases h
      · rename_i l' hl'
        obtain rfl := Option.some.inj h
        simp [loads_len hl']

/-- what a slice's elements are in the model -/
theorem src_ok (hR : Rel G μ K H w) {esz m : Nat} {v : V} {x : Value} {l : List C} (hv : RV μ K v x) (h : srcCells H esz v = some (m, l)) :
    (Builtin.lenOf x).run P w = .ok m w ∧ l.length = m * esz ∧ ∃ xs : List Value, All2 (RC μ K) l xs ∧ ∀ k, k ≤ m → ∀ d, (Builtin.firstCells esz k x).run P { w with drawn := d } = .ok (xs.take (k * esz)).toArray { w with drawn := d } := by
  cases v with
  | one c =>
    cases c <;> simp only [srcCells] at h <;> try (cases h; done)
    case slc b o len cap e ex =>
      split at h
      · rename_i he
        subst he
        simp only [Option.map_eq_some_iff, Prod.mk.injEq] at h
        obtain ⟨l', hl, rfl, rfl⟩ := h
        obtain ⟨hb, ad, c, hx, h1, h2, h3, h4⟩ : RC μ K (.slc b o len cap e ex) x := hv
        have hlen := loads_len hl
        refine ⟨by simp [Builtin.lenOf, hx], hlen, ?_⟩
        obtain ⟨xs, ha, hr⟩ := hR.cells hl
        refine ⟨xs, ha, fun k hk d => ?_⟩
        by_cases hk0 : k = 0
        · subst hk0
          simp [Builtin.firstCells, hx, loadCells, loadCellsFrom]
        · rcases h4 with h4 | ⟨rfl, _⟩
          · omega
          · have hxl : (xs.take (k * e)).length = k * e := by
              have := ha.len
              have : k * e ≤ len * e := Nat.mul_le_mul_right _ hk
              simp; omega
            have := cells_run (P := P) (w := { w with drawn := d }) (ad := (μ b).addr o) (xs := xs.take (k * e)) (i := 0) (acc := #[]) fun j y hy => by
              rw [addr_add, Nat.zero_add]
              refine hr j y ?_
              rw [List.getElem?_take] at hy
              split at hy
              · exact hy
              · cases hy
            rw [hxl] at this
            simp only [Builtin.firstCells, hx, loadCells]
            rw [this]
            simp
      · cases h
    case nils =>
      simp only [Option.some.injEq, Prod.mk.injEq] at h
      obtain ⟨rfl, rfl⟩ := h
      have hx : x = .slice none 0 0 := hv
      exact ⟨by simp [Builtin.lenOf, hx], by simp, [], trivial, fun k hk d => by simp [Builtin.firstCells, hx]⟩
  | agg l => simp [srcCells] at h
  | tup l => simp [srcCells] at h
end
end Go.Ab

/- append. -/
namespace Go.Ab
section
variable {P : Program} {G n : Nat} {μ : Nat → Pl} {K : Nat → Prop} {H H' : Hp} {w : World} {F : T V} {a : Act}

theorem run_append_fits {t t' e e' : TypeId} {ty : TypeId} {i : TypeInfo} (ht : P.underlying t = some (.slice e)) (ht' : P.underlying t' = some (.slice e')) (hi : P.info? e = some i)
    {base : Option Addr} {sl sc m : Nat} {x : Value} {news : Array Value} (hl : (Builtin.lenOf x).run P w = .ok m w) (hn : (Builtin.firstCells i.size m x).run P w = .ok news w) (hfit : sl + m ≤ sc) :
    (Builtin.append_ #[t, t'] ty #[.slice base sl sc, x]).run P w =
      (match base with
       | some ad => ((storeCells (ad.add (sl * i.size)) news.toList).run P w).andThen fun _ w' => .ok (.slice base (sl + m) sc) w'
       | none => .ok (.slice base (sl + m) sc) w) := by
  cases base <;> simp [Builtin.append_, run_underlying ht, run_underlying ht', sizeOf, typeInfo, hi, hl, hn, hfit]

theorem run_append_grows {t t' e e' : TypeId} {ty : TypeId} {i : TypeInfo} {z : Value} (ht : P.underlying t = some (.slice e)) (ht' : P.underlying t' = some (.slice e')) (hi : P.info? e = some i) (hz : i.zero = some z) (hzs : z.cells.size = i.size)
    {base : Option Addr} {sl sc m : Nat} {x : Value} {olds news : Array Value} (hl : (Builtin.lenOf x).run P w = .ok m w) (hn : ∀ d, (Builtin.firstCells i.size m x).run P { w with drawn := d } = .ok news { w with drawn := d })
    (ho : ∀ d, (Builtin.firstCells i.size sl (.slice base sl sc)).run P { w with drawn := d } = .ok olds { w with drawn := d })
    (hg : sc < sl + m) (hb : (sl + m) * i.bytes ≤ 140737488355328) (h63 : sl + m < 4611686018427387904) :
    ∃ nc rest d, w.drawn ≤ d ∧ sl + m ≤ nc ∧ rest.size = (nc - (sl + m)) * i.size ∧ (Builtin.append_ #[t, t'] ty #[.slice base sl sc, x]).run P w =
      .ok (.slice (some ⟨w.heap.size, 0, none⟩) (sl + m) nc) { w with drawn := d, heap := w.heap.push (.cells (olds ++ news ++ rest) e) } := by
  have hcap := growslice_fits hg hb
  have hnc : sl + m ≤ (Question.appendCap (sl + m) sc e).cut (w.tape w.drawn (.appendCap (sl + m) sc e)) := by simp [Question.cut]
  refine ⟨_, Builtin.zeroCells z.cells ((Question.appendCap (sl + m) sc e).cut (w.tape w.drawn (.appendCap (sl + m) sc e)) - (sl + m)), w.drawn + 1, Nat.le_succ _, hnc, by simp [Builtin.zeroCells, hzs], ?_⟩
  have hmax : ¬ (((sl + m : Nat) : Int) > IntKind.i64.max) := by simp [IntKind.max, IntKind.signed, IntKind.bits]; omega
  have hnot : ¬ (Builtin.nextslicecap (sl + m) sc * i.bytes > 2 ^ 48) := by omega
  have hnf : ¬ (sl + m ≤ sc) := by omega
  have hz' : ∀ d, (zeroValue e).run P { w with drawn := d } = .ok z { w with drawn := d } := by intro d; simp [zeroValue, typeInfo, hi, hz]
  have hmax' : ¬ (((sl : Int) + (m : Int)) > IntKind.i64.max) := by simpa using hmax
  simp only [Builtin.append_, List.getElem?_toArray, List.getElem?_cons_zero, List.getElem?_cons_succ, Sem.run_bind, run_underlying ht, run_underlying ht', Result.andThen_ok, sizeOf, typeInfo, run_program, hi, Sem.run_pure, Bool.false_eq_true, if_false, hl, hnf, hnot]
  simp only [Sem.run_ite, Sem.run_bind, Sem.run_pure, run_program, hi, hmax, false_and, if_false, Result.andThen_ok, hnot, run_choose, Question.forced, Bool.false_eq_true, run_askRoom, ho, hn, Bool.not_false, if_true, hz', newRow, run_newObj]
end
end Go.Ab

/- append agrees with the model's. -/
namespace Go.Ab
section
variable {P : Program} {G n : Nat} {μ : Nat → Pl} {K : Nat → Prop} {H H' : Hp} {w : World} {F : T V} {a : Act}

theorem Rel.lt' (hR : Rel G μ K H w) : ∀ b bk, H.get b = some bk → b < H.nx := fun b bk h => hR.lt b (hR.dom b bk h)

theorem Rel.blk_lt (hR : Rel G μ K H w) {b : Nat} {bk : B} (h : H.get b = some bk) : (μ b).blk < w.heap.size := by
  have h := hR.blk b bk h
  rcases Nat.lt_or_ge (μ b).blk w.heap.size with h1 | h1
  · exact h1
  · rw [Array.getElem?_eq_none h1] at h
    cases bk with
    | row n z m rw => obtain ⟨_, _, _, h, _⟩ := h; cases h
    | mp es => obtain ⟨_, _, h, _⟩ := h; cases h

/-- a new block at the next name -/
theorem Rel.push (hR : Rel G μ K H w) {bk : B} {o : Obj} {sz d : Nat} (hd : w.drawn ≤ d) (hm : bk.mut = true) (ho : RB μ K ⟨w.heap.size, 0, sz⟩ bk (some o)) :
    Rel G (fun i => if i = H.nx then ⟨w.heap.size, 0, sz⟩ else μ i) (fun i => K i ∨ i = H.nx) (H.push bk) { w with drawn := d, heap := w.heap.push o } ∧
    Fr μ K H w (fun i => if i = H.nx then ⟨w.heap.size, 0, sz⟩ else μ i) (fun i => K i ∨ i = H.nx) (H.push bk) { w with drawn := d, heap := w.heap.push o } := by
  have hb : ¬ K H.nx := fun h => absurd (hR.lt _ h) (by omega)
  have hR' := hR.drawn d
  exact ⟨Rel.new (w := { w with drawn := d }) hR' hb (by omega) (by omega) hm ho, Fr.new (w := { w with drawn := d }) (Fr.drawn hR d hd) hb (Nat.le_refl _) hR.lt' (by omega) hm⟩

/-- a block is extended where it lies: it goes on under a new name -/
theorem Rel.extend (hR : Rel G μ K H w) {b o nb : Nat} {z : List C} {mm : T C} (hb : H.get b = some (.row nb z mm true)) {w' : World} {cs' : Array Value} {t : TypeId} {l : List C}
    (hg : w'.heap[(μ b).blk]? = some (.cells cs' t (0, 0))) (hsz : cs'.size = (μ b).size) (hoth : ∀ j, j ≠ (μ b).blk → w'.heap[j]? = w.heap[j]?) (hs : w'.heap.size = w.heap.size)
    (hsame : w'.os = w.os ∧ w'.tape = w.tape ∧ w'.output = w.output ∧ w.drawn ≤ w'.drawn) (hin : (μ b).off + o + l.length ≤ cs'.size) (hl : ∀ i c, l[i]? = some c → ∃ x, cs'[(μ b).off + o + i]? = some x ∧ RC μ K c x) :
    Rel G (fun i => if i = H.nx then ⟨(μ b).blk, (μ b).off + o, (μ b).size⟩ else μ i) (fun i => K i ∨ i = H.nx) ((H.push (.row l.length l .lf true)).del b) w' ∧
    Fr μ K H w (fun i => if i = H.nx then ⟨(μ b).blk, (μ b).off + o, (μ b).size⟩ else μ i) (fun i => K i ∨ i = H.nx) ((H.push (.row l.length l .lf true)).del b) w' := by
  have hbl := hR.lt' b _ hb
  have hget : ∀ i, ((H.push (.row l.length l .lf true)).del b).get i = if i = b then none else if i = H.nx then some (.row l.length l .lf true) else H.get i := fun i => by
    rw [Hp.get_del, Hp.get_push]
  have hmu : ∀ i, K i → (if i = H.nx then (⟨(μ b).blk, (μ b).off + o, (μ b).size⟩ : Pl) else μ i) = μ i := fun i hi => by
    have := hR.lt i hi
    rw [if_neg (by omega)]
  have hne : ∀ i k, i ≠ b → H.get i = some k → (μ i).blk ≠ (μ b).blk := fun i k hi hk he => hi (hR.inj b i _ _ hb hk rfl he.symm).symm
  constructor
  · refine ⟨fun i k hi => ?_, fun i hi => ?_, fun i k hi => ?_, fun i j k1 k2 h1 h2 hm he => ?_, fun g hg' => ?_⟩
    · rw [hget] at hi
      split at hi
      · cases hi
      · split at hi
        · rename_i e; exact .inr e
        · exact .inl (hR.dom _ _ hi)
    · simp
      rcases hi with hi | rfl
      · have := hR.lt i hi; omega
      · omega
    · rw [hget] at hi
      split at hi
      · cases hi
      · rename_i hib
        split at hi
        · rename_i e; subst e
          obtain rfl := Option.some.inj hi
          simp only [if_true]
          rw [hg]
          refine ⟨cs', t, (0, 0), rfl, hsz, hin, fun _ => rfl, fun i c hc => ?_⟩
          obtain ⟨x, hx, hr⟩ := hl i c (row_cell hc)
          exact ⟨x, hx, hr.mono (fun _ h => .inl h) hmu⟩
        · rename_i e
          simp only [e, if_false]
          rw [hoth _ (hne i k hib hi)]
          exact (hR.blk i k hi).mono (fun _ h => .inl h) hmu
    · rw [hget] at h1 h2
      split at h1
      · cases h1
      · rename_i ib
        split at h2
        · cases h2
        · rename_i jb
          by_cases e1 : i = H.nx
          · by_cases e2 : j = H.nx
            · rw [e1, e2]
            · rw [if_neg e2] at h2
              simp only [e1, e2, if_true, if_false] at he
              exact absurd he.symm (hne j k2 jb h2)
          · by_cases e2 : j = H.nx
            · rw [if_neg e1] at h1
              simp only [e1, e2, if_true, if_false] at he
              exact absurd he (hne i k1 ib h1)
            · rw [if_neg e1] at h1
              rw [if_neg e2] at h2
              simp only [e1, e2, if_false] at he
              exact hR.inj i j k1 k2 h1 h2 hm he
    · obtain ⟨h1, h2⟩ := hR.glob g hg'
      have := hmu g h1
      exact ⟨.inl h1, by simp only [this]; exact h2⟩
  · refine ⟨hsame, by omega, fun i hi hn => hoth i (fun e => hn b _ hb rfl e.symm), fun i k hi hm => ?_, fun i k hi hk => ?_, fun i hi => hmu i hi, fun i hi => .inl hi, fun i hi hk => ?_, by simp, fun i hi hn => ?_, fun i k k' hi hk => ?_, fun i k hi hm => ?_⟩
    · rw [hget] at hi
      split at hi
      · cases hi
      · split at hi
        · rename_i e; subst e; exact .inl ⟨b, _, hb, rfl, by simp⟩
        · rename_i e; exact .inl ⟨i, k, hi, hm, by simp [e]⟩
    · rw [hget] at hk
      split at hk
      · cases hk
      · split at hk
        · rw [← Option.some.inj hk]; rfl
        · exact absurd (hR.lt' i k hk) (by omega)
    · rcases hk with hk | rfl
      · exact hk
      · omega
    · rw [hget, hn]
      rw [if_neg (show ¬ i = H.nx by omega)]
      simp
    · rw [hget] at hk
      have := hR.lt' i k hi
      split at hk
      · cases hk
      · rw [if_neg (show ¬ i = H.nx by omega), hi] at hk
        rw [Option.some.inj hk]
    · have := hR.lt' i k hi
      rw [hget, if_neg (fun e => by subst e; rw [hb] at hi; rw [← Option.some.inj hi] at hm; cases hm), if_neg (by omega)]
      exact hi

theorem append_ok (hR : Rel G μ K H w) {t t' e e' ty : TypeId} {i : TypeInfo} {z : Value} (ht : P.underlying t = some (.slice e)) (ht' : P.underlying t' = some (.slice e')) (hi : P.info? e = some i) (hz : i.zero = some z) (hzs : z.cells.size = i.size)
    {s v : V} {xs xx : Value} {m : Nat} {nc : List C} (hs : RV μ K s xs) {vx : V} (hx : RV μ K vx xx) (hsrc : srcCells H i.size vx = some (m, nc)) (h : aAppend H i.size i.bytes s m nc = some (v, H')) :
    ∃ x w' μ' K', (Builtin.append_ #[t, t'] ty #[xs, xx]).run P w = .ok x w' ∧ RV μ' K' v x ∧ Rel G μ' K' H' w' ∧ Fr μ K H w μ' K' H' w' := by
  obtain ⟨hlen, hncl, news, hnews, hfirst⟩ := src_ok (P := P) hR hx hsrc
  have hnl : news.length = m * i.size := by rw [← hncl]; exact hnews.len.symm
  have hfm : ∀ d, (Builtin.firstCells i.size m xx).run P { w with drawn := d } = .ok news.toArray { w with drawn := d } := fun d => by
    have := hfirst m (Nat.le_refl _) d
    rwa [List.take_of_length_le (by omega)] at this
  have hfm0 : (Builtin.firstCells i.size m xx).run P w = .ok news.toArray w := hfm w.drawn
  -- a fresh row of the model with the old cells and the new ones
  have fresh : ∀ (olds : List C) (oldv : List Value) (rest : Array Value) (len cap : Nat), All2 (RC μ K) olds oldv → olds.length = len * i.size → len + m ≤ cap → rest.size = (cap - (len + m)) * i.size → ∀ d, w.drawn ≤ d →
      ∃ μ' K', RV μ' K' (.one (.slc H.nx 0 (len + m) (len + m) i.size false)) (.slice (some ⟨w.heap.size, 0, none⟩) (len + m) cap) ∧
        Rel G μ' K' (H.push (.row (olds ++ nc).length (olds ++ nc) .lf true)) { w with drawn := d, heap := w.heap.push (.cells (oldv.toArray ++ news.toArray ++ rest) e) } ∧
        Fr μ K H w μ' K' (H.push (.row (olds ++ nc).length (olds ++ nc) .lf true)) { w with drawn := d, heap := w.heap.push (.cells (oldv.toArray ++ news.toArray ++ rest) e) } := by
    intro olds oldv rest len cap ho hol hcap hrest d hdd
    have hsize : (oldv.toArray ++ news.toArray ++ rest).size = cap * i.size := by
      have h1 := ho.len
      simp only [Array.size_append, List.size_toArray, hrest, hnl, ← h1, hol]
      rw [← Nat.add_mul, ← Nat.add_mul]
      congr 1; omega
    have hrb : RB μ K ⟨w.heap.size, 0, cap * i.size⟩ (.row (olds ++ nc).length (olds ++ nc) .lf true) (some (.cells (oldv.toArray ++ news.toArray ++ rest) e)) := by
      refine ⟨_, e, (0, 0), rfl, hsize, ?_, fun _ => rfl, fun j c hc => ?_⟩
      · rw [hsize]
        simp only [List.length_append, hol, hncl, ← Nat.add_mul, Nat.zero_add]
        exact Nat.mul_le_mul_right _ hcap
      · obtain ⟨x, hx, hr⟩ := (ho.append hnews).at j c (row_cell hc)
        refine ⟨x, ?_, hr⟩
        have hj : j < (oldv ++ news).length := (List.getElem?_eq_some_iff.1 hx).1
        simp only [Nat.zero_add]
        rw [Array.getElem?_append_left (by simpa using hj)]
        rw [← hx]
        simp
    obtain ⟨h1, h2⟩ := hR.push (d := d) hdd rfl hrb
    exact ⟨_, _, ⟨.inr rfl, _, cap, rfl, Nat.le_refl _, hcap, by simp, .inr ⟨by simp [Pl.addr], by simp⟩⟩, h1, h2⟩
  cases s with
  | one c =>
    cases c <;> simp only [aAppend] at h <;> try (cases h; done)
    case slc b o len cap e0 ex =>
      split at h
      · cases h
      · rename_i he
        obtain rfl : e0 = i.size := by simpa using he
        obtain ⟨hb, ad, c, hxs, h1, h2, h3, h4⟩ : RC μ K (.slc b o len cap i.size ex) xs := hs
        subst hxs
        split at h
        · rename_i hfit
          simp only [Option.map_eq_some_iff, Prod.mk.injEq] at h
          obtain ⟨H1, hst, rfl, rfl⟩ := h
          have hrun := run_append_fits (P := P) (ty := ty) (base := some ad) (sl := len) (sc := c) ht ht' hi hlen hfm0 (by omega)
          rcases h4 with h4 | ⟨rfl, h5⟩
          · have hm0 : m = 0 := by omega
            have hn0 : news = [] := List.eq_nil_of_length_eq_zero (by rw [hnl, hm0]; simp)
            have hc0 : nc = [] := List.eq_nil_of_length_eq_zero (by rw [hncl, hm0]; simp)
            subst hn0 hc0
            simp only [Hp.stores, Option.some.injEq] at hst
            subst hst
            refine ⟨_, w, μ, K, by rw [hrun]; simp [storeCells], ⟨hb, ad, c, rfl, by omega, h2, h3, .inl h4⟩, hR, Fr.refl hR⟩
          · obtain ⟨w', hrun', hR', hF'⟩ := Rel.stores (P := P) (o := o + len * i.size) (i := 0) hR hst hnews
            refine ⟨_, w', μ, K, ?_, ⟨hb, _, c, rfl, hfit, h2, h3, .inr ⟨rfl, h5⟩⟩, hR', hF'⟩
            have hrun2 : (storeCells ((μ b).addr (o + len * i.size)) news).run P w = .ok () w' := hrun'
            rw [hrun]
            simp only [addr_add]
            rw [hrun2]
            rfl
        · rename_i hnfit
          split at h
          · rename_i hbound
            split at h
            · cases h
            · rename_i olds hold
              obtain ⟨oldv, hov, hcells⟩ := hR.cells hold
              have hol := loads_len hold
              have hovl : oldv.length = len * i.size := by rw [← hol]; exact hov.len.symm
              have holds : ∀ d, (Builtin.firstCells i.size len (.slice (some ad) len c)).run P { w with drawn := d } = .ok oldv.toArray { w with drawn := d } := fun d => by
                by_cases hl0 : len = 0
                · subst hl0
                  have : oldv = [] := List.eq_nil_of_length_eq_zero (by rw [hovl]; simp)
                  subst this
                  simp [Builtin.firstCells, loadCells, loadCellsFrom]
                · rcases h4 with h4 | ⟨rfl, _⟩
                  · omega
                  · have := cells_run (P := P) (w := { w with drawn := d }) (ad := (μ b).addr o) (xs := oldv) (i := 0) (acc := #[]) fun j y hy => by
                      rw [addr_add, Nat.zero_add]; exact hcells j y hy
                    rw [hovl] at this
                    simpa [Builtin.firstCells, loadCells] using this
              -- the model's own growth
              have grows : c < len + m → ∃ x d rest ncap, w.drawn ≤ d ∧ len + m ≤ ncap ∧ rest.size = (ncap - (len + m)) * i.size ∧ x = Value.slice (some ⟨w.heap.size, 0, none⟩) (len + m) ncap ∧
                  (Builtin.append_ #[t, t'] ty #[.slice (some ad) len c, xx]).run P w = .ok x { w with drawn := d, heap := w.heap.push (.cells (oldv.toArray ++ news.toArray ++ rest) e) } := by
                intro hgr
                obtain ⟨ncap, rest, d, g0, g1, g2, g3⟩ := run_append_grows (P := P) (ty := ty) ht ht' hi hz hzs (base := some ad) (sl := len) (sc := c) hlen hfm holds hgr hbound.1 hbound.2
                exact ⟨_, d, rest, ncap, g0, g1, g2, rfl, g3⟩
              cases ex with
              | true =>
                simp only [if_true, Option.some.injEq, Prod.mk.injEq] at h
                obtain ⟨rfl, rfl⟩ := h
                obtain ⟨x, d, rest, ncap, g0, g1, g2, rfl, g3⟩ := grows (by have := h3 rfl; omega)
                obtain ⟨μ', K', f1, f2, f3⟩ := fresh olds oldv rest len ncap hov hol g1 g2 d g0
                exact ⟨_, _, μ', K', g3, f1, f2, f3⟩
              | false =>
                simp only [Bool.false_eq_true, if_false] at h
                split at h
                · rename_i hmut
                  simp only [Option.some.injEq, Prod.mk.injEq] at h
                  obtain ⟨rfl, rfl⟩ := h
                  obtain ⟨nb, zb, mb, hgb⟩ := Hp.mutRow_inv hmut
                  by_cases hroom : len + m ≤ c
                  · -- in place
                    have hrun := run_append_fits (P := P) (ty := ty) (base := some ad) (sl := len) (sc := c) ht ht' hi hlen hfm0 hroom
                    rcases h4 with h4 | ⟨rfl, h5⟩
                    · omega
                    · obtain ⟨cs, tt, fz, k1, k2, k3, k4, k5⟩ := hR.blk b _ hgb
                      obtain rfl := k4 rfl
                      have hroom' : (len + m) * i.size ≤ c * i.size := Nat.mul_le_mul_right _ hroom
                      rw [Nat.add_mul] at hroom'
                      obtain ⟨w', cs', q1, q2, q3, q4, q5, q6, q7, q8, q9⟩ := store_conc (P := P) (g := (μ b).blk) (t := tt) (xs := news) (w := w) (cs := cs) (q := (μ b).off + (o + len * i.size)) (i := 0) k1 hnews.oneC (by omega)
                      have hext := hR.extend (o := o) hgb (w' := w') (cs' := cs') (t := tt) (l := olds ++ nc) q2 (by omega) q5 q6 ⟨q7, q8, q9⟩ (by simp only [List.length_append]; omega) (fun j cc hj => by
                        rw [q4]
                        by_cases hjl : j < olds.length
                        · rw [if_neg (by omega)]
                          rw [List.getElem?_append_left hjl] at hj
                          obtain ⟨x, hx', hr⟩ := hov.at j cc hj
                          have hcx := hcells j x hx'
                          rw [cell_at k1] at hcx
                          exact ⟨x, by rw [Nat.add_assoc]; exact hcx, hr⟩
                        · rw [List.getElem?_append_right (by omega)] at hj
                          have hjn : j - olds.length < nc.length := (List.getElem?_eq_some_iff.1 hj).1
                          rw [if_pos (by omega)]
                          obtain ⟨x, hx', hr⟩ := hnews.at _ cc hj
                          exact ⟨x, by rw [show (μ b).off + o + j - ((μ b).off + (o + len * i.size) + 0) = j - olds.length by omega]; exact hx', hr⟩)
                      refine ⟨_, w', _, _, ?_, ⟨.inr rfl, (μ b).addr o, c, rfl, Nat.le_refl _, hroom, by simp, .inr ⟨by simp [Pl.addr], by simp; exact h5⟩⟩, hext.1, hext.2⟩
                      rw [hrun]
                      simp only [addr_add]
                      have : (storeCells ((μ b).addr (o + len * i.size)) news).run P w = .ok () w' := q1
                      rw [this]
                      rfl
                  · obtain ⟨x, d, rest, ncap, g0, g1, g2, rfl, g3⟩ := grows (by omega)
                    obtain ⟨μ', K', f1, f2, f3⟩ := fresh olds oldv rest len ncap hov hol g1 g2 d g0
                    refine ⟨_, _, μ', K', g3, f1, f2.sub (fun j k hj => ?_) rfl, f3.trans hR.lt' (Fr.del f2 b (fun bk hbk => by
                      rw [Hp.get_push, if_neg (by have := hR.lt' b _ hgb; omega), hgb] at hbk
                      rw [← Option.some.inj hbk]; rfl))⟩
                    rw [Hp.get_del] at hj
                    split at hj
                    · cases hj
                    · exact hj
                · cases h
          · cases h
    case nils =>
      have hxs : xs = .slice none 0 0 := hs
      subst hxs
      split at h
      · rename_i hm0
        simp only [Option.some.injEq, Prod.mk.injEq] at h
        obtain ⟨rfl, rfl⟩ := h
        subst hm0
        have hrun := run_append_fits (P := P) (ty := ty) (base := none) (sl := 0) (sc := 0) ht ht' hi hlen hfm0 (by omega)
        exact ⟨_, w, μ, K, hrun, rfl, hR, Fr.refl hR⟩
      · rename_i hm0
        split at h
        · rename_i hbound
          simp only [Option.some.injEq, Prod.mk.injEq] at h
          obtain ⟨rfl, rfl⟩ := h
          obtain ⟨ncap, rest, d, g0, g1, g2, g3⟩ := run_append_grows (P := P) (ty := ty) ht ht' hi hz hzs (base := none) (sl := 0) (sc := 0) (olds := #[]) hlen hfm (fun d => by simp [Builtin.firstCells]) (by omega) (by simpa using hbound.1) (by omega)
          obtain ⟨μ', K', f1, f2, f3⟩ := fresh [] [] rest 0 ncap trivial (by simp) g1 g2 d g0
          simp only [Nat.zero_add, List.nil_append] at f1 f2 f3
          refine ⟨_, _, μ', K', g3, ?_, f2, f3⟩
          simpa using f1
        · cases h
  | agg l => simp [aAppend] at h
  | tup l => simp [aAppend] at h
end
end Go.Ab

/- Operations that write agree with the model's. -/
namespace Go.Ab

/-- what an operation hands on: a value, or nothing -/
def Done (nx : Next) (x : Value) : Prop := nx = .value x ∨ (nx = .skip ∧ x = Go.undef)

section
variable {P : Program} {G n : Nat} {μ : Nat → Pl} {K : Nat → Prop} {H H' : Hp} {w : World} {F : T V} {a : Act}

/-- a map's entries are replaced -/
theorem Rel.setMap (hR : Rel G μ K H w) {b : Nat} {es es' : List (V × V)} {ces : Array MapEntry} {clk : Nat} (hb : H.get b = some (.mp es))
    (ha : All2 (fun (e : V × V) (x : MapEntry) => RV1 μ K e.1 x.key ∧ RV1 μ K e.2 x.val) es' ces.toList) (c2 : Nat) (hclk : clk = c2) :
    Rel G μ K (H.add b (.mp es')) { w with heap := w.heap.setIfInBounds (μ b).blk (.map ces clk) } ∧ Fr μ K H w μ K (H.add b (.mp es')) { w with heap := w.heap.setIfInBounds (μ b).blk (.map ces clk) } := by
  have hlt := hR.blk_lt hb
  have hh : ∀ i, (w.heap.setIfInBounds (μ b).blk (.map ces clk))[i]? = if i = (μ b).blk then some (.map ces clk) else w.heap[i]? := fun i => by
    rw [Array.getElem?_setIfInBounds]
    by_cases e : (μ b).blk = i
    · subst e; simp [hlt]
    · rw [if_neg e, if_neg (fun h => e h.symm)]
  constructor
  · refine ⟨fun i k hi => ?_, hR.lt, fun i k hi => ?_, fun i j k1 k2 h1 h2 hm he => ?_, hR.glob⟩
    · rw [Hp.get_add] at hi
      split at hi
      · rename_i e; subst e; exact hR.dom _ _ hb
      · exact hR.dom _ _ hi
    · rw [Hp.get_add] at hi
      simp only [hh]
      split at hi
      · rename_i e; subst e
        obtain rfl := Option.some.inj hi
        exact ⟨ces, clk, by simp, ha⟩
      · rename_i e
        rw [if_neg (fun he => e (hR.inj b i _ _ hb hi rfl he.symm).symm)]
        exact hR.blk i k hi
    · rw [Hp.get_add] at h1 h2
      have f1 : ∃ k, H.get i = some k ∧ k.mut = true := by
        split at h1
        · rename_i e; subst e; exact ⟨_, hb, rfl⟩
        · exact ⟨_, h1, hm⟩
      have f2 : ∃ k, H.get j = some k := by
        split at h2
        · rename_i e; subst e; exact ⟨_, hb⟩
        · exact ⟨_, h2⟩
      obtain ⟨_, g1, gm⟩ := f1
      obtain ⟨_, g2⟩ := f2
      exact hR.inj _ _ _ _ g1 g2 gm he
  · refine ⟨⟨rfl, rfl, rfl, Nat.le_refl _⟩, by simp, fun i _ hne => ?_, fun i k hi hm => ?_, fun i k hi hk => ?_, fun _ _ => rfl, fun _ h => h, fun _ _ h => h, Nat.le_refl _, fun i hi hn => ?_, fun i k1 k2 e1 e2 => ?_, fun i k1 e1 hm => ?_⟩
    · simp only [hh]
      rw [if_neg (fun e => hne b _ hb rfl e.symm)]
    · rw [Hp.get_add] at hi
      split at hi
      · rename_i e; subst e; exact .inl ⟨i, _, hb, rfl, rfl⟩
      · exact .inl ⟨i, k, hi, hm, rfl⟩
    · rw [Hp.get_add] at hk
      split at hk
      · obtain rfl := Option.some.inj hk; rfl
      · exact absurd (hR.lt' i k hk) (by omega)
    · rw [Hp.get_add]
      split
      · rename_i e; subst e; rw [hb] at hn; cases hn
      · exact hn
    · rw [Hp.get_add] at e2
      split at e2
      · rename_i e; subst e; rw [hb] at e1
        rw [← Option.some.inj e1, ← Option.some.inj e2]; rfl
      · rw [e1] at e2; rw [Option.some.inj e2]
    · rw [Hp.get_add]
      split
      · rename_i e; subst e; rw [hb] at e1; rw [← Option.some.inj e1] at hm; cases hm
      · exact e1

theorem isOne_rv {v : V} {x : Value} (h : isOne v = true) (hv : RV μ K v x) : RV1 μ K v x := by
  cases v with
  | one c => exact hv
  | agg l => exact hv
  | tup l => simp [isOne] at h

theorem eff_ok (hR : Rel G μ K H w) (hF : FRel μ K n F a.tmps) {o : Oper} {p : EffOp} {v : V} (hc : cpEff P G n o = some p) (h : aEff F H p = some (v, H')) :
    ∃ nx x w' μ' K', (execOp a.eval o).run P w = .ok nx w' ∧ Done nx x ∧ RV μ' K' v x ∧ Rel G μ' K' H' w' ∧ Fr μ K H w μ' K' H' w' := by
  unfold cpEff at hc
  split at hc
  case _ t x y ho =>
    split at hc
    · rename_i s dx dy hs hx hy
      obtain rfl := Option.some.inj hc
      have vx := cO_ok hR hF hx
      have vy := cO_ok hR hF hy
      simp only [aEff] at h
      split at h
      · rename_i b o' cs ex ec
        split at h
        · rename_i hlen
          simp only [Option.map_eq_some_iff, Prod.mk.injEq] at h
          obtain ⟨H1, hst, rfl, rfl⟩ := h
          rw [ex] at vx
          obtain ⟨hk, vx'⟩ : K b ∧ a.eval x = .pointer (some ((μ b).addr o')) := vx
          have hcs := cells1_ok vy ec
          obtain ⟨w', hrun, hR', hF'⟩ := Rel.stores (P := P) (o := o') (i := 0) hR hst hcs
          refine ⟨.skip, Go.undef, w', μ, K, ?_, .inr ⟨rfl, rfl⟩, RV.undef, hR', hF'⟩
          have hsz : (a.eval y).cells.size = s := by have := hcs.len; simp at this; omega
          have hrun' : (storeCells ((μ b).addr o') (a.eval y).cells.toList).run P w = .ok () w' := hrun
          simp [execOp, ho, Instr.storeAt, vx', Instr.sureAddr, storeVar, sizeT_run hs, hsz, hrun']
        · cases h
      · cases h
    · cases hc
  case _ t m k x ho =>
    split at hc
    · rename_i kt et dm dk dx hu hm hk hx
      split at hc
      · rename_i k0 hkt
        obtain rfl := Option.some.inj hc
        have vm := cO_ok hR hF hm
        have vk := cO_ok hR hF hk
        have vx := cO_ok hR hF hx
        simp only [aEff] at h
        split at h
        · rename_i b em
          split at h
          · rename_i es hget
            split at h
            · rename_i hcond
              rw [Bool.and_eq_true] at hcond
              obtain ⟨kk, q, hq⟩ := intKey_inv hcond.1
              rw [em] at vm
              rw [hq] at vk
              have vk' : a.eval k = .int kk q := vk
              obtain ⟨hkb, vm'⟩ : K b ∧ a.eval m = .map (some (μ b).blk) := vm
              have vx1 := isOne_rv hcond.2 vx
              obtain ⟨ces, clk, hob, hall⟩ := hR.blk b _ hget
              have hobj : (getObj (μ b).blk).run P w = .ok (.map ces clk) w := by simp [getObj, Sem.run, hob]
              have hset : ∀ ob, (setObj (μ b).blk ob).run P w = .ok () { w with heap := w.heap.setIfInBounds (μ b).blk ob } := fun ob => by simp [setObj, Sem.run, hob]
              rw [hq] at h
              split at h
              · rename_i hf
                simp only [Option.some.injEq, Prod.mk.injEq] at h
                obtain ⟨rfl, rfl⟩ := h
                rcases mfind_ok (k0 := k0) hall hf with ⟨_, h2⟩ | ⟨j, v, x, h1, _⟩
                · obtain ⟨r1, r2⟩ := hR.setMap (es' := es ++ [(.one (.int kk q), dx.ev F)]) (ces := ces.push { key := .int kk q, val := a.eval x, born := clk }) (clk := clk + 1) hget (by
                    simp only [Array.toList_push]
                    exact hall.append ⟨⟨rfl, vx1⟩, trivial⟩) _ rfl
                  refine ⟨.skip, Go.undef, _, μ, K, ?_, .inr ⟨rfl, rfl⟩, RV.undef, r1, r2⟩
                  simp [execOp, ho, Instr.mapUpdate, vm', vk', run_underlying hu, hobj, checkKey_int (d := 9999) hkt, Instr.findKey, run_underlying hkt, h2, hset]
                · cases h1
              · rename_i jj vv hf
                simp only [Option.some.injEq, Prod.mk.injEq] at h
                obtain ⟨rfl, rfl⟩ := h
                rcases mfind_ok (k0 := k0) hall hf with ⟨h1, _⟩ | ⟨j, v, y, h1, h2, h3, _, e', ce, h5, h6, h7, h8, h9⟩
                · cases h1
                · obtain ⟨rfl, rfl⟩ : jj = j ∧ vv = v := by simpa using h1
                  have h7' : ces[jj]? = some ce := by simpa using h7
                  obtain ⟨r1, r2⟩ := hR.setMap (es' := mset es jj (dx.ev F)) (ces := ces.modify jj fun e => { e with key := .int kk q, val := a.eval x }) (clk := clk) hget (by
                    refine All2.mk (by have := hall.len; simp [mset] at this ⊢; exact this) fun i e1 e2 g1 g2 => ?_
                    simp only [mset, List.getElem?_modify] at g1
                    rw [Array.getElem?_toList, Array.getElem?_modify] at g2
                    by_cases hij : jj = i
                    · subst hij
                      simp only [if_true, Option.map_eq_map, Option.map_eq_some_iff] at g1 g2
                      obtain ⟨e0, g1, rfl⟩ := g1
                      obtain ⟨c0, g2, rfl⟩ := g2
                      have hee : e0 = e' := by
                        have : es[jj]? = some e' := by simpa using h5
                        rw [this] at g1; exact (Option.some.inj g1).symm
                      subst hee
                      exact ⟨by rw [h9]; exact rfl, vx1⟩
                    · simp only [hij, if_false] at g1 g2
                      have g1' : es[i]? = some e1 := by simpa using g1
                      obtain ⟨b', hb', hr⟩ := hall.at i e1 g1'
                      rw [Array.getElem?_toList, g2] at hb'
                      obtain rfl := Option.some.inj hb'
                      exact hr) _ rfl
                  refine ⟨.skip, Go.undef, _, μ, K, ?_, .inr ⟨rfl, rfl⟩, RV.undef, r1, r2⟩
                  have hstay : (Instr.keyThatStays ce.key (.int kk q)).run P w = .ok (.int kk q) w := by rw [h8]; simp [Instr.keyThatStays, Instr.sameBits]
                  simp [execOp, ho, Instr.mapUpdate, vm', vk', run_underlying hu, hobj, checkKey_int (d := 9999) hkt, Instr.findKey, run_underlying hkt, h2, h7', hstay, hset]
              · cases h
            · cases h
          · cases h
        · cases h
      · cases hc
    · cases hc
  case _ args ts ho =>
    split at hc
    · rename_i s x t t' hargs hts
      have hargs' : args = #[s, x] := by cases args; simp_all
      have hts' : ts = #[t, t'] := by cases ts; simp_all
      subst hargs' hts'
      split at hc
      · rename_i e e' ds dx hu hu' hs hx
        split at hc
        · rename_i i z hi hz
          split at hc
          · rename_i hzl
            obtain rfl := Option.some.inj hc
            have vs := cO_ok hR hF hs
            have vx := cO_ok hR hF hx
            simp only [aEff] at h
            split at h
            · rename_i m news hsrc
              obtain ⟨i', zv, hi', hzv, hall⟩ := zeroL_ok (μ := μ) (K := K) hz
              obtain rfl : i = i' := by rw [hi] at hi'; exact Option.some.inj hi'
              have hzs : zv.cells.size = i.size := by have := hall.len; simp at this; omega
              obtain ⟨r, w', μ', K', h1, h2, h3, h4⟩ := append_ok (P := P) (ty := o.type) hR hu hu' hi hzv hzs vs vx hsrc h
              exact ⟨.value r, r, w', μ', K', by simp [execOp, ho, resolve, invoke, builtin, h1], .inl rfl, h2, h3, h4⟩
            · cases h
          · cases hc
        · cases hc
      · cases hc
    · cases hc
  case _ args ts ho =>
    split at hc
    · rename_i s x t rest hargs hts
      have hargs' : args = #[s, x] := by cases args; simp_all
      subst hargs'
      have hts' : ts[0]? = some t := by cases ts; simp_all
      split at hc
      · rename_i e ds dx hu hs hx
        simp only [Option.map_eq_some_iff] at hc
        obtain ⟨k, hk, rfl⟩ := hc
        have vs := cO_ok hR hF hs
        have vx := cO_ok hR hF hx
        simp only [aEff] at h
        split at h
        · rename_i sm em hsrc
          simp only [Option.some.injEq, Prod.mk.injEq] at h
          obtain ⟨rfl, rfl⟩ := h
          obtain ⟨m, cs⟩ := sm
          obtain ⟨hlen, hcl, xs, hxs, hfirst⟩ := src_ok (P := P) hR vx hsrc
          rw [em] at vs
          have vs' : a.eval s = .slice none 0 0 := vs
          have hf0 := hfirst 0 (by omega) w.drawn
          have hf0' : (Builtin.firstCells k 0 (a.eval x)).run P w = .ok #[] w := by simpa using hf0
          refine ⟨.value (.int .i64 0), .int .i64 0, w, μ, K, ?_, .inl rfl, rfl, hR, Fr.refl hR⟩
          have hmin : Nat.min m 0 = 0 := Nat.min_zero m
          simp [execOp, ho, resolve, invoke, builtin, Builtin.copy_, hts', vs', run_underlying hu, hlen, sizeT_run hk, hf0', goInt]
        · rename_i b o' len cap e0 ex m cs em hsrc
          split at h
          · rename_i he
            subst he
            simp only [Option.map_eq_some_iff, Prod.mk.injEq] at h
            obtain ⟨H1, hst, rfl, rfl⟩ := h
            obtain ⟨hlen, hcl, xs, hxs, hfirst⟩ := src_ok (P := P) hR vx hsrc
            rw [em] at vs
            obtain ⟨hb, ad, c, vs', h1, h2, h3, h4⟩ : RC μ K (.slc b o' len cap e0 ex) (a.eval s) := vs
            have hf0 := hfirst (min m len) (by omega) w.drawn
            have hf0' : (Builtin.firstCells e0 (min m len) (a.eval x)).run P w = .ok (xs.take (min m len * e0)).toArray w := hf0
            rcases h4 with h4 | ⟨rfl, h5⟩
            · have hl0 : len = 0 := by omega
              subst hl0
              simp only [Nat.min_zero, Nat.zero_mul, List.take_zero, Hp.stores, Option.some.injEq] at hst
              subst hst
              refine ⟨.value (.int .i64 0), .int .i64 0, w, μ, K, ?_, .inl rfl, by simp; rfl, hR, Fr.refl hR⟩
              simp only [Nat.min_zero, Nat.zero_mul, List.take_zero] at hf0'
              simp [execOp, ho, resolve, invoke, builtin, Builtin.copy_, hts', vs', run_underlying hu, hlen, sizeT_run hk, hf0', goInt, storeCells]
            · obtain ⟨w', hrun, hR', hF'⟩ := Rel.stores (P := P) (o := o') (i := 0) hR hst (hxs.take (min m len * e0))
              refine ⟨.value (.int .i64 (min m len : Nat)), .int .i64 (min m len : Nat), w', μ, K, ?_, .inl rfl, rfl, hR', hF'⟩
              have hrun' : (storeCells ((μ b).addr o') (xs.take (min m len * e0))).run P w = .ok () w' := hrun
              have hmin : Nat.min m len = min m len := rfl
              simp [execOp, ho, resolve, invoke, builtin, Builtin.copy_, hts', vs', run_underlying hu, hlen, sizeT_run hk, hf0', goInt, hrun']
          · cases h
        · cases h
      · cases hc
    · cases hc
  case _ args ts ho =>
    split at hc
    · rename_i x t hargs hts
      have hargs' : args = #[x] := by cases args; simp_all
      have hts' : ts = #[t] := by cases ts; simp_all
      subst hargs' hts'
      split at hc
      · rename_i e dx hu hx
        split at hc
        · rename_i k z hk hz
          split at hc
          · rename_i hzl
            obtain rfl := Option.some.inj hc
            have vx := cO_ok hR hF hx
            simp only [aEff] at h
            split at h
            · rename_i em
              simp only [Option.some.injEq, Prod.mk.injEq] at h
              obtain ⟨rfl, rfl⟩ := h
              rw [em] at vx
              have vx' : a.eval x = .slice none 0 0 := vx
              refine ⟨.value (.tuple #[]), .tuple #[], w, μ, K, ?_, .inl rfl, RV.undef, hR, Fr.refl hR⟩
              simp [execOp, ho, resolve, invoke, builtin, Builtin.clear_, vx', run_underlying hu]
            · rename_i b o' len cap e0 ex em
              split at h
              · rename_i he
                subst he
                simp only [Option.map_eq_some_iff, Prod.mk.injEq] at h
                obtain ⟨H1, hst, rfl, rfl⟩ := h
                rw [em] at vx
                obtain ⟨hb, ad, c, vx', h1, h2, h3, h4⟩ : RC μ K (.slc b o' len cap e0 ex) (a.eval x) := vx
                obtain ⟨i', zv, hi', hzv, hall⟩ := zeroL_ok (μ := μ) (K := K) hz
                have hzs : zv.cells.size = e0 := by have := hall.len; simp at this; omega
                by_cases hl0 : len = 0
                · subst hl0
                  simp only [patt, Nat.zero_mul, List.range_zero, List.map_nil, Hp.stores, Option.some.injEq] at hst
                  subst hst
                  refine ⟨.value (.tuple #[]), .tuple #[], w, μ, K, ?_, .inl rfl, RV.undef, hR, Fr.refl hR⟩
                  simp [execOp, ho, resolve, invoke, builtin, Builtin.clear_, vx', run_underlying hu]
                · rcases h4 with h4 | ⟨rfl, h5⟩
                  · omega
                  · have hz0 := (zeros_ok hall (len * e0)).resolve_right (by omega)
                    obtain ⟨w', hrun, hR', hF'⟩ := Rel.stores (P := P) (o := o') (i := 0) hR hst hz0
                    refine ⟨.value (.tuple #[]), .tuple #[], w', μ, K, ?_, .inl rfl, RV.undef, hR', hF'⟩
                    have hzc : Builtin.zeroCells zv.cells len = (Array.range (len * e0)).map (zv.cells[· % zv.cells.size]!) := by simp [Builtin.zeroCells, hzs]
                    have hrun' : (storeCells ((μ b).addr o') (Builtin.zeroCells zv.cells len).toList).run P w = .ok () w' := by rw [hzc]; exact hrun
                    obtain ⟨len', rfl⟩ : ∃ l, len = l + 1 := ⟨len - 1, by omega⟩
                    have hzr : (zeroValue e).run P w = .ok zv w := by simp [zeroValue, typeInfo, hi', hzv]
                    simp [execOp, ho, resolve, invoke, builtin, Builtin.clear_, vx', run_underlying hu, hzr, hrun']
              · cases h
            · cases h
          · cases hc
        · cases hc
      · cases hc
    · cases hc
  case _ => cases hc
end
end Go.Ab

/- Lists of operations, calls, and one operation's agreement with the model's. -/
namespace Go.Ab

inductive SOp where
  | p (o : PureOp)
  | l (o : LoadOp)
  | a (o : AllocOp)
  | e (o : EffOp)
  | cf (f : FuncId) (args : List Opd)
  | cv (x : Opd) (args : List Opd)

structure SOper where
  id : Nat
  dst : Option Nat
  op : SOp
  guard : Option (Nat × Bool)
  aid : Option Nat
  watch : List Nat
  keep : Bool

def setO (F : T V) (d : Option Nat) (v : V) : T V :=
  match d with
  | some d => F.set d (some v)
  | none => F

def wantedA (g : Option (Nat × Bool)) (F : T V) : Bool :=
  match g with
  | none => true
  | some (t, want) => match (F.get t).getD V.undef with
    | .one (.bool b) => b == want
    | _ => false

/-- a function that a call enters -/
def isFn (P : Program) (f : FuncId) : Bool :=
  match P.funcs[f]? with
  | some fn => fn.name != "runtime.NumGoroutine" && fn.body.isSome
  | none => false

def ptrV (p : Nat × Nat) : V := .one (.ptr p.1 p.2)

/-- WHAT A CALL COMES TO: whatever the world, related to the heap H: it returns, and the value and the world are related to a value and a heap of which R holds. -/
def ACalls (P : Program) (G : Nat) (f : FuncId) (args : List V) (H : Hp) (R : V → Hp → Prop) : Prop :=
  ∀ (μ : Nat → Pl) (K : Nat → Prop) (w : World) (xs : List Value), Rel G μ K H w → All2 (RV μ K) args xs →
    Calls P f xs.toArray w fun e w' => ∃ x, e = .returned x ∧ ∃ v H' μ' K', R v H' ∧ RV μ' K' v x ∧ Rel G μ' K' H' w' ∧ Fr μ K H w μ' K' H' w'

abbrev Ctx := List (Nat × (Hp → Prop))

def watchOk (ws : List Nat) (ctx : Ctx) (H : Hp) : Prop :=
  match ws with
  | [] => True
  | _ => ∀ k ∈ ws, ∀ p, (k, p) ∈ ctx → p H

def wOps (P : Program) (G base : Nat) (Q : T V → Hp → Prop) : List SOper → Ctx → T V → Hp → Prop
  | [], _, F, H => Q F H
  | o :: r, ctx, F, H =>
    if wantedA o.guard F then
      match o.op with
      | .p op => match aPure F op with
        | some v => wOps P G base Q r ctx (setO F o.dst v) H
        | none => False
      | .l op => match aLoad F H op with
        | some v => wOps P G base Q r (if o.keep then (o.id, fun H' => aLoad F H' op = some v) :: ctx else ctx) (setO F o.dst v) H
        | none => False
      | .a op => match aAlloc F op with
        | some (bk, g) => match o.aid with
          | none => wOps P G base Q r ctx (setO F o.dst (g H.nx)) (H.push bk)
          | some k => wOps P G base Q r ctx (setO F o.dst (g (base + k))) (H.add (base + k) bk)
        | none => False
      | .e op => match aEff F H op with
        | some (v, H') => watchOk o.watch ctx H' ∧ wOps P G base Q r ctx (setO F o.dst v) H'
        | none => False
      | .cf f args => ACalls P G f (args.map (·.ev F)) H fun v H' => watchOk o.watch ctx H' ∧ wOps P G base Q r ctx (setO F o.dst v) H'
      | .cv x args => match x.ev F with
        | .one (.fn f caps) => isFn P f = true ∧ ACalls P G f (args.map (·.ev F) ++ caps.map ptrV) H fun v H' => watchOk o.watch ctx H' ∧ wOps P G base Q r ctx (setO F o.dst v) H'
        | _ => False
    else wOps P G base Q r ctx (setO F o.dst V.undef) H

def cpOp (P : Program) (G n : Nat) (o : Oper) : Option SOp :=
  match cpPure P G n o with
  | some p => some (.p p)
  | none => match cpLoad P G n o with
    | some p => some (.l p)
    | none => match cpAlloc P G n o with
      | some p => some (.a p)
      | none => match cpEff P G n o with
        | some p => some (.e p)
        | none => match o.op with
          | .call { callee := .value (.func f), args := args, argTypes := _ } => if isFn P f then (cOs G n args.toList).map (.cf f) else none
          | .call { callee := .value (.tmp t), args := args, argTypes := _ } => match cO G n (.tmp t), cOs G n args.toList with
            | some x, some l => some (.cv x l)
            | _, _ => none
          | _ => none

def cGuard (n : Nat) (ops : Array Oper) : Option (Nat × Bool) → Option (Option (Nat × Bool))
  | none => some none
  | some (j, want) => match (ops[j]?).bind (·.dst) with
    | some t => if t < n then some (some (t, want)) else none
    | none => none

def cDst (n : Nat) : Option Tmp → Bool
  | none => true
  | some d => d < n

/-- the abstract operation s stands for the model's operation o of the region ops -/
def Fits (P : Program) (G n : Nat) (ops : Array Oper) (o : Oper) (s : SOper) : Prop :=
  cpOp P G n o = some s.op ∧ s.dst = o.dst ∧ cDst n o.dst = true ∧ cGuard n ops o.guard = some s.guard

section
variable {P : Program} {G n : Nat} {μ : Nat → Pl} {K : Nat → Prop} {H H' : Hp} {w : World} {F : T V} {a : Act}

theorem FRel.mono {μ' : Nat → Pl} {K' : Nat → Prop} {tmps : Array Value} (hF : FRel μ K n F tmps) (hK : ∀ b, K b → K' b) (hμ : ∀ b, K b → μ' b = μ b) : FRel μ' K' n F tmps :=
  ⟨hF.1, fun i hi => (hF.2 i hi).mono hK hμ⟩

theorem FRel.put (hF : FRel μ K n F a.tmps) {d : Option Tmp} (hd : cDst n d = true) {v : V} {x : Value} (hv : RV μ K v x) : FRel μ K n (setO F d v) (a.put d x).tmps := by
  cases d with
  | none => exact hF
  | some d =>
    simp only [cDst, decide_eq_true_eq] at hd
    refine ⟨by simp [Act.put]; exact hF.1, fun i hi => ?_⟩
    simp only [setO, Act.put]
    by_cases e : i = d
    · subst e
      have : i < a.tmps.size := by rw [hF.1]; exact hi
      simp [this, hv]
    · rw [T.get_set_ne _ _ e]
      have h1 := hF.2 i hi
      have : (a.tmps.setIfInBounds d x).getD i Go.undef = a.tmps.getD i Go.undef := by
        simp only [Array.getD_eq_getD_getElem?]
        rw [Array.getElem?_setIfInBounds_ne (fun h => e h.symm)]
      rw [this]
      exact h1

theorem RV.not_bool {v : V} {b : Bool} (h : RV μ K v (.bool b)) : v = .one (.bool b) := by
  cases v with
  | one c =>
    have h' : RC μ K c (.bool b) := h
    cases c <;> simp only [RC] at h'
    all_goals first
      | (injection h' with h'; rw [h'])
      | (obtain ⟨_, _, _, h', _⟩ := h'; cases h')
      | (obtain ⟨_, h'⟩ := h'; cases h')
      | cases h'
  | agg l => obtain ⟨_, h, _⟩ := h; cases h
  | tup l => obtain ⟨_, h, _⟩ := h; cases h

theorem wanted_ok (hF : FRel μ K n F a.tmps) {ops : Array Oper} {o : Oper} {g : Option (Nat × Bool)} (hg : cGuard n ops o.guard = some g) : Region.wanted o (yielded ops a.tmps) = wantedA g F := by
  unfold Region.wanted
  cases hog : o.guard with
  | none => simp only [hog, cGuard, Option.some.injEq] at hg; subst hg; rfl
  | some jw =>
    obtain ⟨j, want⟩ := jw
    simp only [hog, cGuard] at hg
    cases hd : (ops[j]?).bind (·.dst) with
    | none => simp [hd] at hg
    | some t =>
      simp only [hd] at hg
      split at hg
      · rename_i ht
        obtain rfl := Option.some.inj hg
        have hv := hF.2 t ht
        have hts : t < a.tmps.size := by rw [hF.1]; exact ht
        have hget : a.tmps[t]? = some (a.tmps.getD t Go.undef) := by simp [hts]
        simp only [yielded, hd, Option.bind_some, hget, wantedA]
        generalize a.tmps.getD t Go.undef = x at *
        generalize (F.get t).getD V.undef = v at *
        cases x with
        | bool b =>
          rw [hv.not_bool]
          cases b <;> cases want <;> rfl
        | _ =>
          have hnb : ∀ b, v ≠ .one (.bool b) := by
            rintro b rfl
            cases (show _ = Value.bool b from hv)
          cases v with
          | one c => cases c <;> first | rfl | exact absurd rfl (hnb _)
          | agg l => rfl
          | tup l => rfl
      · cases hg

theorem isFn_run {f : FuncId} (h : isFn P f = true) (args : Array Value) (w : World) : (callFunc f args).run P w = .ok (.enter f args) w := by
  unfold isFn at h
  cases hf : P.funcs[f]? with
  | none => simp [hf] at h
  | some fn =>
    simp only [hf, Bool.and_eq_true, bne_iff_ne, ne_eq] at h
    obtain ⟨bd, hb⟩ := Option.isSome_iff_exists.1 h.2
    simp [callFunc, hf, h.1, hb]

/-- what is watched stays when a block is added -/
def CtxSt0 (ctx : Ctx) : Prop := ∀ k p, (k, p) ∈ ctx → ∀ (H : Hp) (b : Nat) (bk : B), H.get b = none → p H → p (H.add b bk)
theorem cell_add {H : Hp} {b i x : Nat} {bk : B} {c : C} (hn : H.get x = none) (h : H.cell b i = some c) : (H.add x bk).cell b i = some c := by
  unfold Hp.cell at h ⊢
  by_cases e : b = x
  · subst e; simp [hn] at h
  · rw [Hp.get_add_ne _ _ e]; exact h
theorem loads_add {H : Hp} {x : Nat} {bk : B} (hn : H.get x = none) : ∀ {m b o : Nat} {l : List C}, H.loads b o m = some l → (H.add x bk).loads b o m = some l
  | 0, _, _, _, h => h
  | m + 1, b, o, l, h => by
    simp only [Hp.loads] at h ⊢
    cases hc : H.cell b o with
    | none => simp [hc] at h
    | some c =>
      simp only [hc] at h
      simp only [cell_add hn hc]
      cases hl : H.loads b (o + 1) m with
      | none => simp [hl] at h
      | some l' => simp only [hl] at h; simp only [loads_add hn hl]; exact h
theorem load_add {F : T V} {H : Hp} {op : LoadOp} {v : V} {x : Nat} {bk : B} (hn : H.get x = none) (h : aLoad F H op = some v) : aLoad F (H.add x bk) op = some v := by
  have hm : ∀ b es, H.get b = some (.mp es) → (H.add x bk).get b = some (.mp es) := fun b es hb => by
    rw [Hp.get_add_ne _ _ (fun e => by subst e; rw [hn] at hb; cases hb)]; exact hb
  cases op with
  | load agg n a =>
    simp only [aLoad] at h ⊢
    split at h
    · cases agg with
      | true =>
        simp only [if_true, Option.map_eq_some_iff] at h ⊢
        obtain ⟨l, hl, rfl⟩ := h
        exact ⟨l, loads_add hn hl, rfl⟩
      | false =>
        simp only [Bool.false_eq_true, if_false, Option.map_eq_some_iff] at h ⊢
        obtain ⟨c, hc, rfl⟩ := h
        exact ⟨c, cell_add hn hc, rfl⟩
    · cases h
  | lookup z ok m k =>
    simp only [aLoad] at h ⊢
    split at h
    · rename_i hk
      rw [if_pos hk]
      split at h
      · exact h
      · rename_i b hb
        split at h
        · rename_i es hes
          simp only [hm _ _ hes]
          exact h
        · cases h
      · cases h
    · cases h
  | mlen m =>
    simp only [aLoad] at h ⊢
    split at h
    · exact h
    · rename_i b hb
      split at h
      · rename_i es hes
        simp only [hm _ _ hes]
        exact h
      · cases h
    · cases h
theorem CtxSt0.of {ctx : Ctx} (h : CtxSt0 ctx) (b : Bool) (i : Nat) (op : LoadOp) (F : T V) (v : V) : CtxSt0 (if b then (i, fun H' => aLoad F H' op = some v) :: ctx else ctx) := by
  intro k p hp
  split at hp
  · rcases List.mem_cons.1 hp with hp | hp
    · injection hp with _ hp
      subst hp
      exact fun H b bk hn hh => load_add hn hh
    · exact h k p hp
  · exact h k p hp

/-- ONE OPERATION. -/
theorem op_ok {ops : Array Oper} {o : Oper} {s : SOper} {r : List SOper} {ctx : Ctx} {base i : Nat} {Q : T V → Hp → Prop} {Q' : Exit → Act → World → Prop} {Kont : Act → World → Prop}
    {μ0 : Nat → Pl} {K0 : Nat → Prop} {H0 : Hp} {w0 : World} (hlt0 : ∀ b bk, H0.get b = some bk → b < H0.nx)
    (ho : ops[i]? = some o) (hfit : Fits P G n ops o s) (hR : Rel G μ K H w) (hF : FRel μ K n F a.tmps) (hFr : Fr μ0 K0 H0 w0 μ K H w)
    (hrs : ∀ k, s.aid = some k → ¬ K (base + k) ∧ base + k < H.nx ∧ H0.nx ≤ base + k)
    (hw : wOps P G base Q (s :: r) ctx F H)
    (hK : ∀ (μ' : Nat → Pl) (K' : Nat → Prop) (F' : T V) (H' : Hp) (a' : Act) (w' : World) (ctx' : Ctx), Rel G μ' K' H' w' → FRel μ' K' n F' a'.tmps → Fr μ0 K0 H0 w0 μ' K' H' w' → a'.defers = a.defers →
      H.nx ≤ H'.nx → (∀ b, b < H.nx → K' b → K b ∨ ∃ k, s.aid = some k ∧ b = base + k) → (∃ v, F' = setO F s.dst v) → (CtxSt0 ctx → CtxSt0 ctx') → wOps P G base Q r ctx' F' H' → Kont a' w') :
    wpOp P ops Q' i Kont a w := by
  obtain ⟨hop, hdst, hd, hgd⟩ := hfit
  have hput : ∀ x, (a.put o.dst x).defers = a.defers := fun x => by cases o.dst <;> rfl
  unfold wpOp
  rw [ho]
  simp only
  rw [wanted_ok hF hgd]
  rw [wOps] at hw
  cases hwa : wantedA s.guard F with
  | false =>
    simp only [hwa, Bool.false_eq_true, if_false] at hw ⊢
    rw [hdst] at hw
    exact hK μ K _ H _ w ctx hR (hF.put hd RV.undef) hFr (hput _) (Nat.le_refl _) (fun b _ h => .inl h) ⟨_, by rw [hdst]⟩ id hw
  | true =>
    simp only [hwa, if_true] at hw ⊢
    left
    unfold Oper.wp
    rw [hdst] at hw
    -- what follows a value
    have val : ∀ (v : V) (x : Value) (ctx' : Ctx), RV μ K v x → (CtxSt0 ctx → CtxSt0 ctx') → wOps P G base Q r ctx' (setO F o.dst v) H → Kont (a.put o.dst x) w := fun v x ctx' hv hcs hw' =>
      hK μ K _ H _ w ctx' hR (hF.put hd hv) hFr (hput _) (Nat.le_refl _) (fun b _ h => .inl h) ⟨v, by rw [hdst]⟩ hcs hw'
    -- what follows a call
    have call : ∀ (f : FuncId) (args : List V) (xs : List Value) (nx : Result Next), All2 (RV μ K) args xs → nx = .ok (.enter f xs.toArray) w →
        ACalls P G f args H (fun v H' => watchOk s.watch ctx H' ∧ wOps P G base Q r ctx (setO F o.dst v) H') → o.upon P a Kont Q' nx := by
      intro f args xs nx ha hnx hc
      subst hnx
      rw [Oper.upon_enter]
      refine (hc μ K w xs hR ha).mono fun e w' he => ?_
      obtain ⟨x, rfl, v, H', μ', K', ⟨_, h1⟩, h2, h3, h4⟩ := he
      exact hK μ' K' _ H' _ w' ctx h3 ((hF.mono h4.kk h4.mu).put hd h2) (hFr.trans hlt0 h4) (hput _) h4.nx (fun b hb h => .inl (h4.knew b hb h)) ⟨v, by rw [hdst]⟩ id h1
    unfold cpOp at hop
    cases hp : cpPure P G n o with
    | some p =>
      simp only [hp, Option.some.injEq] at hop
      rw [← hop] at hw
      simp only at hw
      cases hv : aPure F p with
      | none => simp [hv] at hw
      | some v =>
        simp only [hv] at hw
        obtain ⟨x, hx, hr⟩ := pure_ok (P := P) hR hF hp hv
        rw [hx, Oper.upon_value]
        exact val v x ctx hr id hw
    | none =>
      simp only [hp] at hop
      cases hl : cpLoad P G n o with
      | some p =>
        simp only [hl, Option.some.injEq] at hop
        rw [← hop] at hw
        simp only at hw
        cases hv : aLoad F H p with
        | none => simp [hv] at hw
        | some v =>
          simp only [hv] at hw
          obtain ⟨x, hx, hr⟩ := load_ok (P := P) hR hF hl hv
          rw [hx, Oper.upon_value]
          exact val v x _ hr (fun h => h.of _ _ _ _ _) hw
      | none =>
        simp only [hl] at hop
        cases hal : cpAlloc P G n o with
        | some p =>
          simp only [hal, Option.some.injEq] at hop
          rw [← hop] at hw
          simp only at hw
          cases hv : aAlloc F p with
          | none => simp [hv] at hw
          | some bg =>
            obtain ⟨bk, g⟩ := bg
            simp only [hv] at hw
            obtain ⟨hm, x, obj, sz, hx, hrb, hval⟩ := alloc_ok (P := P) hR hF hal hv
            rw [hx, Oper.upon_value]
            have hnk : ¬ K H.nx := fun h => absurd (hR.lt _ h) (by omega)
            cases hai : s.aid with
            | none =>
              simp only [hai] at hw
              refine hK (fun i => if i = H.nx then ⟨w.heap.size, 0, sz⟩ else μ i) (fun i => K i ∨ i = H.nx) _ (H.push bk) _ { w with heap := w.heap.push obj } ctx (Rel.new hR hnk (by omega) (by omega) hm hrb)
                ((hF.mono (fun _ h => .inl h) (fun b hb => ?_)).put hd (hval H.nx _ _ (.inr rfl) (by simp))) (Fr.new hFr hnk hFr.nx hlt0 (by omega) hm) (hput _) (by simp) (fun b hb h => ?_) ⟨_, by rw [hdst]⟩ id hw
              · have := hR.lt b hb
                rw [if_neg (by omega)]
              · rcases h with h | h
                · exact .inl h
                · omega
            | some k =>
              simp only [hai] at hw
              obtain ⟨r1, r2, r3⟩ := hrs k hai
              refine hK (fun i => if i = base + k then ⟨w.heap.size, 0, sz⟩ else μ i) (fun i => K i ∨ i = base + k) _ (H.add (base + k) bk) _ { w with heap := w.heap.push obj } ctx (Rel.new hR r1 r2 (Nat.le_refl _) hm hrb)
                ((hF.mono (fun _ h => .inl h) (fun b hb => ?_)).put hd (hval (base + k) _ _ (.inr rfl) (by simp))) (Fr.new hFr r1 r3 hlt0 (Nat.le_refl _) hm) (hput _) (by simp) (fun b hb h => ?_) ⟨_, by rw [hdst]⟩ id hw
              · by_cases e : b = base + k
                · subst e; exact absurd hb r1
                · rw [if_neg e]
              · rcases h with h | h
                · exact .inl h
                · exact .inr ⟨k, hai, h⟩
        | none =>
          simp only [hal] at hop
          cases he : cpEff P G n o with
          | some p =>
            simp only [he, Option.some.injEq] at hop
            rw [← hop] at hw
            simp only at hw
            cases hv : aEff F H p with
            | none => simp [hv] at hw
            | some vH =>
              obtain ⟨v, H'⟩ := vH
              simp only [hv] at hw
              obtain ⟨nx, x, w', μ', K', h1, h2, h3, h4, h5⟩ := eff_ok (P := P) hR hF he hv
              have hk := hK μ' K' _ H' _ w' ctx h4 ((hF.mono h5.kk h5.mu).put hd h3) (hFr.trans hlt0 h5) (hput x) h5.nx (fun b hb h => .inl (h5.knew b hb h)) ⟨v, by rw [hdst]⟩ id hw.2
              rw [h1]
              rcases h2 with rfl | ⟨rfl, rfl⟩
              · rw [Oper.upon_value]; exact hk
              · rw [Oper.upon_skip]; exact hk
          | none =>
            simp only [he] at hop
            split at hop
            · rename_i f args ts hoo
              split at hop
              · rename_i hfn
                simp only [Option.map_eq_some_iff] at hop
                obtain ⟨ds, hds, hop⟩ := hop
                rw [← hop] at hw
                refine call f _ (args.toList.map a.eval) _ (cOs_ok hR hF hds) ?_ hw
                have harr : args.map a.eval = (args.toList.map a.eval).toArray := by apply Array.ext'; simp
                have hev : a.eval (.func f) = .func (.func f) #[] #[] := rfl
                simp [execOp, hoo, resolve, hev, Deferred.ofValue, invoke, isFn_run hfn, ← harr]
              · cases hop
            · rename_i t args ts hoo
              split at hop
              · rename_i x l hx hl'
                obtain hop := Option.some.inj hop
                rw [← hop] at hw
                simp only at hw
                have hv := cO_ok hR hF hx
                split at hw
                · rename_i f caps hxe
                  rw [hxe] at hv
                  obtain ⟨hkc, hv'⟩ : (∀ p ∈ caps, K p.1) ∧ a.eval (.tmp t) = .func (.func f) #[] (caps.map fun p => Value.pointer (some ((μ p.1).addr p.2))).toArray := hv
                  refine call f _ (args.toList.map a.eval ++ caps.map fun p => Value.pointer (some ((μ p.1).addr p.2))) _ ((cOs_ok hR hF hl').append ?_) ?_ hw.2
                  · refine All2.mk (by simp) fun j v x hv hx => ?_
                    simp only [List.getElem?_map, Option.map_eq_some_iff] at hv hx
                    obtain ⟨p, hp, rfl⟩ := hv
                    obtain ⟨p', hp', rfl⟩ := hx
                    rw [hp] at hp'
                    obtain rfl := Option.some.inj hp'
                    exact ⟨hkc p (List.mem_of_getElem? hp), rfl⟩
                  · simp [execOp, hoo, resolve, hv', Deferred.ofValue, invoke, isFn_run hw.1]
                · exact hw.elim
              · cases hop
            · cases hop
end
end Go.Ab

/- Regions whose order is fixed; the rules for code and functions. -/
namespace Go.Ab

/-- the indices idx and the abstract operations l name the same operations -/
def Aligned (P : Program) (G n : Nat) (ops : Array Oper) : List Nat → List SOper → Prop
  | [], [] => True
  | i :: idx, s :: l => (∃ o, ops[i]? = some o ∧ Fits P G n ops o s) ∧ Aligned P G n ops idx l
  | _, _ => False

section
variable {P : Program} {G n : Nat}

/-- where a piece of code may end, and how it stands to its beginning -/
def Ends (G n : Nat) (μ0 : Nat → Pl) (K0 : Nat → Prop) (H0 : Hp) (w0 : World) (Q : Exit → T V → Hp → Prop) (e : Exit) (a : Act) (w : World) : Prop :=
  a.defers = [] ∧ ∃ F H μ K, Q e F H ∧ Rel G μ K H w ∧ FRel μ K n F a.tmps ∧ Fr μ0 K0 H0 w0 μ K H w

/-- operations in a fixed order -/
theorem ord_ok {ops : Array Oper} {Q : T V → Hp → Prop} {base : Nat} {μ0 : Nat → Pl} {K0 : Nat → Prop} {H0 : Hp} {w0 : World} (hlt0 : ∀ b bk, H0.get b = some bk → b < H0.nx) {Q' : Exit → Act → World → Prop}
    (hQ : ∀ μ K F H a w, Q F H → Rel G μ K H w → FRel μ K n F a.tmps → Fr μ0 K0 H0 w0 μ K H w → a.defers = [] → Q' .normal a w) :
    ∀ {l : List SOper} {idx : List Nat} {ctx : Ctx} {F : T V} {H : Hp} {μ : Nat → Pl} {K : Nat → Prop} {a : Act} {w : World}, Aligned P G n ops idx l → (∀ s ∈ l, s.aid = none) → Rel G μ K H w → FRel μ K n F a.tmps → Fr μ0 K0 H0 w0 μ K H w → a.defers = [] →
      wOps P G base Q l ctx F H → wpOps P ops Q' idx a w
  | [], [], ctx, F, H, μ, K, a, w, _, _, hR, hF, hFr, hd, hw => by
    simp only [wpOps]
    exact hQ μ K F H a w hw hR hF hFr hd
  | s :: l, i :: idx, ctx, F, H, μ, K, a, w, hal, hai, hR, hF, hFr, hd, hw => by
    obtain ⟨⟨o, ho, hfit⟩, hal'⟩ := hal
    rw [wpOps_cons]
    refine op_ok hlt0 ho hfit hR hF hFr (fun k hk => by rw [hai s (by simp)] at hk; cases hk) hw fun μ' K' F' H' a' w' ctx' h1 h2 h3 h4 _ _ _ _ h6 => ?_
    exact ord_ok hlt0 hQ hal' (fun t ht => hai t (by simp [ht])) h1 h2 h3 (h4.trans hd) h6
  | [], _ :: _, _, _, _, _, _, _, _, h, _, _, _, _, _, _ => h.elim
  | _ :: _, [], _, _, _, _, _, _, _, h, _, _, _, _, _, _ => h.elim

/-- WHAT CODE COMES TO: whatever the world, related to F and H, it ends as Q says. -/
def AWP (P : Program) (G n : Nat) (c : Code) (Q : Exit → T V → Hp → Prop) (F : T V) (H : Hp) : Prop :=
  ∀ (μ : Nat → Pl) (K : Nat → Prop) (w : World) (a : Act), Rel G μ K H w → FRel μ K n F a.tmps → a.defers = [] → c.wp P (Ends G n μ K H w Q) a w

/-- a region whose order is fixed -/
theorem awp_region {id : Nat} {ops : Array Oper} {l : List SOper} {Q : Exit → T V → Hp → Prop} {F : T V} {H : Hp} (hal : Aligned P G n ops (List.range ops.size) l) (hai : ∀ s ∈ l, s.aid = none)
    (h : wOps P G H.nx (Q .normal) l [] F H) : AWP P G n (.region id ops false) Q F H := by
  intro μ K w a hR hF hd
  refine wp_region (ord_ok (Q := Q .normal) hR.lt' (fun μ' K' F' H' a' w' h1 h2 h3 h4 h5 => ⟨h5, F', H', μ', K', h1, h2, h3, h4⟩) hal hai hR hF (Fr.refl hR) hd h)

theorem awp_skip {Q : Exit → T V → Hp → Prop} {F : T V} {H : Hp} (h : Q .normal F H) : AWP P G n .skip Q F H :=
  fun _ _ _ _ hR hF hd => wp_skip ⟨hd, F, H, _, _, h, hR, hF, Fr.refl hR⟩
theorem awp_exit {Q : Exit → T V → Hp → Prop} {F : T V} {H : Hp} {id : Nat} (h : Q (.exit id) F H) : AWP P G n (.exit id) Q F H :=
  fun _ _ _ _ hR hF hd => wp_exit ⟨hd, F, H, _, _, h, hR, hF, Fr.refl hR⟩
theorem awp_ret {Q : Exit → T V → Hp → Prop} {F : T V} {H : Hp} (h : Q .ret F H) : AWP P G n .ret Q F H :=
  fun _ _ _ _ hR hF hd => wp_ret ⟨hd, F, H, _, _, h, hR, hF, Fr.refl hR⟩

def thenQ (next : T V → Hp → Prop) (Q : Exit → T V → Hp → Prop) : Exit → T V → Hp → Prop
  | .normal, F, H => next F H
  | e, F, H => Q e F H

theorem ends_trans {μ0 : Nat → Pl} {K0 : Nat → Prop} {H0 : Hp} {w0 : World} {μ : Nat → Pl} {K : Nat → Prop} {H : Hp} {w : World} (hlt : ∀ b bk, H0.get b = some bk → b < H0.nx) (hFr : Fr μ0 K0 H0 w0 μ K H w) {Q : Exit → T V → Hp → Prop} {e : Exit} {a : Act} {w' : World}
    (h : Ends G n μ K H w Q e a w') : Ends G n μ0 K0 H0 w0 Q e a w' := by
  obtain ⟨hd, F, H', μ', K', h1, h2, h3, h4⟩ := h
  exact ⟨hd, F, H', μ', K', h1, h2, h3, hFr.trans hlt h4⟩

theorem awp_seq {x y : Code} {Q : Exit → T V → Hp → Prop} {F : T V} {H : Hp} (h : AWP P G n x (thenQ (AWP P G n y Q) Q) F H) : AWP P G n (.seq x y) Q F H := by
  intro μ K w a hR hF hd
  refine wp_seq (wp_mono (h μ K w a hR hF hd) fun e a' w' he => ?_)
  obtain ⟨hd', F', H', μ', K', h1, h2, h3, h4⟩ := he
  cases e with
  | normal => exact wp_mono (h1 μ' K' w' a' h2 h3 hd') fun e a'' w'' he => ends_trans hR.lt' h4 he
  | exit id => exact ⟨hd', F', H', μ', K', h1, h2, h3, h4⟩
  | goto l => exact ⟨hd', F', H', μ', K', h1, h2, h3, h4⟩
  | ret => exact ⟨hd', F', H', μ', K', h1, h2, h3, h4⟩
  | panic ch => exact ⟨hd', F', H', μ', K', h1, h2, h3, h4⟩
  | outgrown => exact ⟨hd', F', H', μ', K', h1, h2, h3, h4⟩

theorem awp_cond {c : Operand} {d : Opd} {x y : Code} {Q : Exit → T V → Hp → Prop} {F : T V} {H : Hp} {t : Bool} (hc : cO G n c = some d) (ht : d.ev F = .one (.bool t)) (h : AWP P G n (if t then x else y) Q F H) : AWP P G n (.cond c x y) Q F H := by
  intro μ K w a hR hF hd
  have hv := cO_ok hR hF hc
  rw [ht] at hv
  exact wp_cond (t := t) hv (h μ K w a hR hF hd)

def blockQ (id : Nat) (Q : Exit → T V → Hp → Prop) : Exit → T V → Hp → Prop
  | .exit id', F, H => if id' = id then Q .normal F H else Q (.exit id') F H
  | e, F, H => Q e F H

theorem awp_block {id : Nat} {c : Code} {Q : Exit → T V → Hp → Prop} {F : T V} {H : Hp} (h : AWP P G n c (blockQ id Q) F H) : AWP P G n (.block id c) Q F H := by
  intro μ K w a hR hF hd
  refine wp_block (wp_mono (h μ K w a hR hF hd) fun e a' w' he => ?_)
  obtain ⟨hd', F', H', μ', K', h1, h2, h3, h4⟩ := he
  cases e with
  | exit id' =>
    simp only [blockQ] at h1
    simp only [Exit.inBlock]
    split
    · rename_i e; rw [if_pos e] at h1; exact ⟨hd', F', H', μ', K', h1, h2, h3, h4⟩
    · rename_i e; rw [if_neg e] at h1; exact ⟨hd', F', H', μ', K', h1, h2, h3, h4⟩
  | normal => exact ⟨hd', F', H', μ', K', h1, h2, h3, h4⟩
  | goto l => exact ⟨hd', F', H', μ', K', h1, h2, h3, h4⟩
  | ret => exact ⟨hd', F', H', μ', K', h1, h2, h3, h4⟩
  | panic ch => exact ⟨hd', F', H', μ', K', h1, h2, h3, h4⟩
  | outgrown => exact ⟨hd', F', H', μ', K', h1, h2, h3, h4⟩

/-- a loop: an invariant with a measure -/
theorem awp_loop {c : Code} {Q : Exit → T V → Hp → Prop} {F : T V} {H : Hp} (I : Nat → T V → Hp → Prop) {m : Nat} (h0 : I m F H) (round : ∀ m F H, I m F H → AWP P G n c (thenQ (fun F' H' => ∃ m', m' < m ∧ I m' F' H') Q) F H) : AWP P G n (.loop c) Q F H := by
  intro μ K w a hR hF hd
  -- the invariant of the model's loop: some m that I holds of; its measure: the least such m
  let J : Act → World → Nat → Prop := fun a' w' m => a'.defers = [] ∧ ∃ F' H' μ' K', I m F' H' ∧ Rel G μ' K' H' w' ∧ FRel μ' K' n F' a'.tmps ∧ Fr μ K H w μ' K' H' w'
  have main : ∀ m a' w', J a' w' m → ∀ (b : Frame) (k : List Item) (cs : List Frame), ∃ e a'' w'', Ends G n μ K H w Q e a'' w'' ∧ Arrives P (lone (b.at a' (.code c :: .inLoop c :: k)) cs w') b k cs e a'' w'' := by
    intro m
    induction m using Nat.strongRecOn with
    | _ m ih =>
      intro a' w' hJ b k cs
      obtain ⟨hd', F', H', μ', K', h1, h2, h3, h4⟩ := hJ
      obtain ⟨e, a1, w1, hq, harr⟩ := round m F' H' h1 μ' K' w' a' h2 h3 hd' b (.inLoop c :: k) cs
      obtain ⟨hd1, F1, H1, μ1, K1, g1, g2, g3, g4⟩ := hq
      cases e with
      | normal =>
        obtain ⟨m', hm', hI⟩ := g1
        obtain ⟨e2, a2, w2, hq2, harr2⟩ := ih m' hm' a1 w1 ⟨hd1, F1, H1, μ1, K1, hI, g2, g3, h4.trans hR.lt' g4⟩ b k cs
        exact ⟨e2, a2, w2, hq2, .of_steps (Steps.trans harr (.one step_inLoop)) harr2⟩
      | exit id => exact ⟨_, a1, w1, ⟨hd1, F1, H1, μ1, K1, g1, g2, g3, h4.trans hR.lt' g4⟩, .pass (x := .inLoop c) rfl (fun _ _ => .inl (by simp)) harr⟩
      | goto l => exact ⟨_, a1, w1, ⟨hd1, F1, H1, μ1, K1, g1, g2, g3, h4.trans hR.lt' g4⟩, .pass (x := .inLoop c) rfl (fun _ _ => .inl (by simp)) harr⟩
      | ret => exact ⟨_, a1, w1, ⟨hd1, F1, H1, μ1, K1, g1, g2, g3, h4.trans hR.lt' g4⟩, .pass (x := .inLoop c) rfl (fun _ _ => .inl (by simp)) harr⟩
      | panic ch => exact ⟨_, a1, w1, ⟨hd1, F1, H1, μ1, K1, g1, g2, g3, h4.trans hR.lt' g4⟩, .pass (x := .inLoop c) rfl (fun _ _ => .inl (by simp)) harr⟩
      | outgrown => exact ⟨_, a1, w1, ⟨hd1, F1, H1, μ1, K1, g1, g2, g3, h4.trans hR.lt' g4⟩, .pass (x := .inLoop c) rfl (fun _ _ => .inl (by simp)) harr⟩
  intro b k cs
  obtain ⟨e, a', w', hq, harr⟩ := main m a w ⟨hd, F, H, μ, K, h0, hR, hF, Fr.refl hR⟩ b k cs
  exact ⟨e, a', w', hq, .of_steps (.one step_loop) harr⟩

theorem awp_mono {c : Code} {Q Q' : Exit → T V → Hp → Prop} {F : T V} {H : Hp} (h : AWP P G n c Q F H) (hq : ∀ e F H, Q e F H → Q' e F H) : AWP P G n c Q' F H :=
  fun μ K w a hR hF hd => wp_mono (h μ K w a hR hF hd) fun _ _ _ ⟨hd', F', H', μ', K', h1, h2⟩ => ⟨hd', F', H', μ', K', hq _ _ _ h1, h2⟩

end
end Go.Ab

/- Operations whose order is open: two neighbours may be exchanged. -/
namespace Go.Ab

def Opd.tm : Opd → List Nat
  | .t n => [n]
  | .c _ => []
def otm : Option Opd → List Nat
  | some x => x.tm
  | none => []
def ltm (l : List Opd) : List Nat := l.flatMap Opd.tm
def ptm (l : List (Nat × Nat × Opd)) : List Nat := l.flatMap fun p => p.2.2.tm

def PureOp.tm : PureOp → List Nat
  | .mv x | .nilck x | .neg x | .not x | .conv _ x | .faddr _ x | .field _ _ _ x | .extract x _ | .len x | .nileq _ x | .slen x => x.tm
  | .pick c a b => c.tm ++ a.tm ++ b.tm
  | .build _ ps => ptm ps
  | .bin _ x y | .beq _ x y | .eqs _ _ x y | .iaddr _ x y | .aaddr _ _ x y | .aindex _ _ _ x y | .mm _ x y | .sindex x y => x.tm ++ y.tm
  | .mkfn _ l => ltm l
  | .slice _ x lo hi mx => x.tm ++ otm lo ++ otm hi ++ otm mx
  | .cint _ => []
def LoadOp.tm : LoadOp → List Nat
  | .load _ _ a => a.tm
  | .lookup _ _ m k => m.tm ++ k.tm
  | .mlen m => m.tm
def AllocOp.tm : AllocOp → List Nat
  | .alloc _ | .mkmap => []
  | .box x => x.tm
  | .bslice _ _ _ ps => ptm ps
  | .mkslice _ _ _ l c => l.tm ++ c.tm
def EffOp.tm : EffOp → List Nat
  | .store _ a x => a.tm ++ x.tm
  | .append _ _ s x => s.tm ++ x.tm
  | .copy _ d s => d.tm ++ s.tm
  | .mapupd m k x => m.tm ++ k.tm ++ x.tm
  | .clear _ _ x => x.tm
def SOp.tm : SOp → List Nat
  | .p o => o.tm
  | .l o => o.tm
  | .a o => o.tm
  | .e o => o.tm
  | .cf _ args => ltm args
  | .cv x args => x.tm ++ ltm args
def gtm : Option (Nat × Bool) → List Nat
  | some (t, _) => [t]
  | none => []
def SOper.tm (s : SOper) : List Nat := s.op.tm ++ gtm s.guard

section
variable {F : T V} {d : Nat} {v : Option V}

theorem ev_set {x : Opd} (h : d ∉ x.tm) : x.ev (F.set d v) = x.ev F := by
  cases x with
  | t n => simp only [Opd.tm, List.mem_singleton] at h; simp [Opd.ev, T.get_set_ne _ _ (fun e => h e.symm)]
  | c w => rfl
theorem evs_set : ∀ {l : List Opd}, d ∉ ltm l → l.map (·.ev (F.set d v)) = l.map (·.ev F)
  | [], _ => rfl
  | x :: l, h => by
    simp only [ltm, List.flatMap_cons, List.mem_append, not_or] at h
    simp [ev_set h.1, evs_set h.2]
theorem fill_set : ∀ {ps : List (Nat × Nat × Opd)} {z : List C}, d ∉ ptm ps → fillL (F.set d v) z ps = fillL F z ps
  | [], _, _ => rfl
  | (off, size, x) :: ps, z, h => by
    simp only [ptm, List.flatMap_cons, List.mem_append, not_or] at h
    simp only [fillL, ev_set h.1]
    cases cells1 (x.ev F) with
    | none => rfl
    | some cs => simp only; rw [fill_set h.2]
theorem caps_set : ∀ {l : List Opd}, d ∉ ltm l → capsL (F.set d v) l = capsL F l
  | [], _ => rfl
  | x :: l, h => by
    simp only [ltm, List.flatMap_cons, List.mem_append, not_or] at h
    simp only [capsL, ev_set h.1, caps_set h.2]
theorem bound_set {x : Option Opd} {k y : Nat} (h : d ∉ otm x) : aBound (F.set d v) k y x = aBound F k y x := by
  cases x with
  | none => rfl
  | some x => simp only [otm] at h; simp only [aBound, ev_set h]
theorem slice_set {esz : Nat} {x : V} {lo hi mx : Option Opd} (h1 : d ∉ otm lo) (h2 : d ∉ otm hi) (h3 : d ∉ otm mx) : aSlice (F.set d v) esz x lo hi mx = aSlice F esz x lo hi mx := by
  unfold aSlice
  simp only [bound_set h1, bound_set h2, bound_set h3]

theorem pure_set {o : PureOp} (h : d ∉ o.tm) : aPure (F.set d v) o = aPure F o := by
  cases o <;> simp only [PureOp.tm, List.mem_append, not_or] at h <;> simp only [aPure]
  all_goals first
    | rw [ev_set h]
    | rw [fill_set h]
    | rw [caps_set h]
    | rw [ev_set h.1, ev_set h.2]
    | rw [ev_set h.1.1, ev_set h.1.2, ev_set h.2]
    | rw [ev_set h.1.1.1, slice_set h.1.1.2 h.1.2 h.2]
theorem load_set {o : LoadOp} {H : Hp} (h : d ∉ o.tm) : aLoad (F.set d v) H o = aLoad F H o := by
  cases o <;> simp only [LoadOp.tm, List.mem_append, not_or] at h <;> simp only [aLoad]
  all_goals first
    | rw [ev_set h]
    | rw [ev_set h.1, ev_set h.2]
theorem alloc_set {o : AllocOp} (h : d ∉ o.tm) : aAlloc (F.set d v) o = aAlloc F o := by
  cases o <;> simp only [AllocOp.tm, List.mem_append, not_or] at h <;> simp only [aAlloc]
  all_goals first
    | rw [ev_set h]
    | rw [fill_set h]
    | rw [ev_set h.1, ev_set h.2]
theorem eff_set {o : EffOp} {H : Hp} (h : d ∉ o.tm) : aEff (F.set d v) H o = aEff F H o := by
  cases o <;> simp only [EffOp.tm, List.mem_append, not_or] at h <;> simp only [aEff]
  all_goals first
    | rw [ev_set h]
    | rw [ev_set h.1, ev_set h.2]
    | rw [ev_set h.1.1, ev_set h.1.2, ev_set h.2]
theorem wanted_set {g : Option (Nat × Bool)} (h : d ∉ gtm g) : wantedA g (F.set d v) = wantedA g F := by
  cases g with
  | none => rfl
  | some p => obtain ⟨t, b⟩ := p; simp only [gtm, List.mem_singleton] at h; simp [wantedA, T.get_set_ne _ _ (fun e => h e.symm)]
end

/-- the two operations name no temporary that the other one writes -/
def tmOk (y x : SOper) : Bool :=
  (match y.dst with
   | some d => !(x.tm.contains d) && x.dst != some d
   | none => true) &&
  (match x.dst with
   | some d => !(y.tm.contains d)
   | none => true)

inductive Kd where
  | p | l | a | e | c
def SOp.kd : SOp → Kd
  | .p _ => .p
  | .l _ => .l
  | .a _ => .a
  | .e _ => .e
  | .cf _ _ => .c
  | .cv _ _ => .c

/-- y, which stands before x, may be carried out after it -/
def swapOk (y x : SOper) : Bool :=
  tmOk y x && match y.op.kd, x.op.kd with
  | .p, _ => true
  | .l, .p | .l, .l => true
  | .l, .a => x.aid.isSome
  | .l, .e | .l, .c => y.keep && x.watch.contains y.id
  | .a, .p => true
  | .a, .a => y.aid.isSome && x.aid.isSome && y.aid != x.aid
  | .e, .p | .c, .p => true
  | .c, .a => x.aid.isSome
  | _, _ => false

section
variable {P : Program} {G base : Nat} {Q : T V → Hp → Prop}

theorem setO_comm {F : T V} {d e : Option Nat} {u v : V} (h : ∀ k, d = some k → e ≠ some k) : setO (setO F d u) e v = setO (setO F e v) d u := by
  cases d with
  | none => rfl
  | some d =>
    cases e with
    | none => rfl
    | some e => exact T.set_comm _ _ _ (fun he => h d rfl (by rw [he]))

theorem tmOk_spec {y x : SOper} (h : tmOk y x = true) : (∀ d, y.dst = some d → d ∉ x.op.tm ∧ d ∉ gtm x.guard ∧ x.dst ≠ some d) ∧ (∀ d, x.dst = some d → d ∉ y.op.tm ∧ d ∉ gtm y.guard) := by
  unfold tmOk at h
  rw [Bool.and_eq_true] at h
  refine ⟨fun d hd => ?_, fun d hd => ?_⟩
  · have h1 := h.1
    rw [hd] at h1
    simp [SOper.tm] at h1
    exact ⟨h1.1.1, h1.1.2, h1.2⟩
  · have h2 := h.2
    rw [hd] at h2
    simp [SOper.tm] at h2
    exact ⟨h2.1, h2.2⟩

/-- evaluation does not see what the other operation writes -/
structure Blind (s : SOper) (d : Option Nat) : Prop where
  pure : ∀ F v o, s.op = .p o → aPure (setO F d v) o = aPure F o
  load : ∀ F H v o, s.op = .l o → aLoad (setO F d v) H o = aLoad F H o
  alloc : ∀ F v o, s.op = .a o → aAlloc (setO F d v) o = aAlloc F o
  eff : ∀ F H v o, s.op = .e o → aEff (setO F d v) H o = aEff F H o
  cf : ∀ F v f l, s.op = .cf f l → l.map (·.ev (setO F d v)) = l.map (·.ev F)
  cv : ∀ F v x l, s.op = .cv x l → x.ev (setO F d v) = x.ev F ∧ l.map (·.ev (setO F d v)) = l.map (·.ev F)
  wanted : ∀ F v, wantedA s.guard (setO F d v) = wantedA s.guard F

theorem Blind.mk' {s : SOper} {d : Option Nat} (h : ∀ k, d = some k → k ∉ s.op.tm ∧ k ∉ gtm s.guard) : Blind s d := by
  cases d with
  | none => exact ⟨fun _ _ _ _ => rfl, fun _ _ _ _ _ => rfl, fun _ _ _ _ => rfl, fun _ _ _ _ _ => rfl, fun _ _ _ _ _ => rfl, fun _ _ _ _ _ => ⟨rfl, rfl⟩, fun _ _ => rfl⟩
  | some d =>
    obtain ⟨h1, h2⟩ := h d rfl
    refine ⟨fun F v o ho => ?_, fun F H v o ho => ?_, fun F v o ho => ?_, fun F H v o ho => ?_, fun F v f l ho => ?_, fun F v x l ho => ?_, fun F v => wanted_set h2⟩
    · rw [ho] at h1; exact pure_set h1
    · rw [ho] at h1; exact load_set h1
    · rw [ho] at h1; exact alloc_set h1
    · rw [ho] at h1; exact eff_set h1
    · rw [ho] at h1; exact evs_set h1
    · rw [ho] at h1
      simp only [SOp.tm, List.mem_append, not_or] at h1
      exact ⟨ev_set h1.1, evs_set h1.2⟩
end
end Go.Ab

/- Operations whose order is open: two neighbours may be exchanged. -/
namespace Go.Ab
section
variable {P : Program} {G base : Nat} {Q : T V → Hp → Prop}

theorem ACalls.mono {f : FuncId} {args : List V} {H : Hp} {R R' : V → Hp → Prop} (h : ACalls P G f args H R) (hr : ∀ v H', R v H' → R' v H') : ACalls P G f args H R' :=
  fun μ K w xs hR ha => (h μ K w xs hR ha).mono fun _ _ ⟨x, he, v, H', μ', K', h1, h2⟩ => ⟨x, he, v, H', μ', K', hr _ _ h1, h2⟩

/-- what every call keeps: names that are reserved stay free -/
theorem ACalls.keeps {f : FuncId} {args : List V} {H : Hp} {R : V → Hp → Prop} (h : ACalls P G f args H R) : ACalls P G f args H fun v H' => R v H' ∧ H.nx ≤ H'.nx ∧ ∀ b, b < H.nx → H.get b = none → H'.get b = none :=
  fun μ K w xs hR ha => (h μ K w xs hR ha).mono fun _ _ ⟨x, he, v, H', μ', K', h1, h2, h3, h4⟩ => ⟨x, he, v, H', μ', K', ⟨h1, h4.nx, h4.none⟩, h2, h3, h4⟩

/-- a call leaves a block alone that it does not know -/
theorem ACalls.frame {f : FuncId} {args : List V} {H : Hp} {R : V → Hp → Prop} (h : ACalls P G f args H R) {x : Nat} {bk : B} (hx : x < H.nx) (hn : H.get x = none) (hm : bk.mut = true) :
    ACalls P G f args (H.add x bk) fun v H'' => ∃ H', R v H' ∧ H'' = H'.add x bk := by
  intro μ K w xs hR ha
  have hget : ∀ (H : Hp) i, (H.add x bk).get i = if i = x then some bk else H.get i := fun H i => Hp.get_add H x i bk
  have hkx : K x := hR.dom x bk (by simp)
  have hne : ∀ i k, H.get i = some k → i ≠ x := fun i k hi e => by subst e; rw [hn] at hi; cases hi
  have hR1 : Rel G μ K H w := ⟨fun b k hb => hR.dom b k (by rw [hget, if_neg (hne b k hb)]; exact hb), hR.lt, fun b k hb => hR.blk b k (by rw [hget, if_neg (hne b k hb)]; exact hb),
    fun b b' k k' hb hb' => hR.inj b b' k k' (by rw [hget, if_neg (hne b k hb)]; exact hb) (by rw [hget, if_neg (hne b' k' hb')]; exact hb'), hR.glob⟩
  have hxx : (H.add x bk).get x = some bk := by simp
  have hblk := hR.blk x bk hxx
  have hbl := hR.blk_lt hxx
  -- no block of H that may be written lies there
  have hfar : ∀ b k, H.get b = some k → (μ b).blk ≠ (μ x).blk := fun b k hb he => hne b k hb (hR.inj x b bk k hxx (by rw [hget, if_neg (hne b k hb)]; exact hb) hm he.symm).symm
  refine (h μ K w xs hR1 ha).mono ?_
  rintro e w' ⟨y, rfl, v, H', μ', K', h1, h2, h3, h4⟩
  have hn' : H'.get x = none := h4.none x hx hn
  have hne' : ∀ i k, H'.get i = some k → i ≠ x := fun i k hi e => by subst e; rw [hn'] at hi; cases hi
  have hmux : μ' x = μ x := h4.mu x hkx
  have hkeep : w'.heap[(μ x).blk]? = w.heap[(μ x).blk]? := h4.keep _ hbl fun b k hb _ => hfar b k hb
  have hfar' : ∀ b k, H'.get b = some k → (μ' b).blk ≠ (μ x).blk := by
    intro b k hb he
    by_cases hlt : b < H.nx
    · cases hg : H.get b with
      | none => rw [h4.none b hlt hg] at hb; cases hb
      | some k0 =>
        rw [h4.mu b (hR1.dom b k0 hg)] at he
        exact hfar b k0 hg he
    · rcases h4.img b k hb (h4.newmut b k (by omega) hb) with ⟨b0, k0, g0, _, e0⟩ | hge
      · exact hfar b0 k0 g0 (e0.trans he)
      · omega
  refine ⟨y, rfl, v, H'.add x bk, μ', K', ⟨H', h1, rfl⟩, h2, ⟨fun b k hb => ?_, h3.lt, fun b k hb => ?_, fun b b' k k' hb hb' hm' he => ?_, h3.glob⟩, ?_⟩
  · rw [hget] at hb
    split at hb
    · rename_i e; subst e; exact h4.kk _ hkx
    · exact h3.dom b k hb
  · rw [hget] at hb
    split at hb
    · rename_i e; subst e
      obtain rfl := Option.some.inj hb
      rw [hmux, hkeep]
      exact hblk.mono h4.kk h4.mu
    · exact h3.blk b k hb
  · rw [hget] at hb hb'
    by_cases e1 : b = x
    · by_cases e2 : b' = x
      · rw [e1, e2]
      · rw [if_neg e2] at hb'
        rw [e1, hmux] at he
        exact absurd he.symm (hfar' b' k' hb')
    · by_cases e2 : b' = x
      · rw [if_neg e1] at hb
        rw [e2, hmux] at he
        exact absurd he (hfar' b k hb)
      · rw [if_neg e1] at hb
        rw [if_neg e2] at hb'
        exact h3.inj b b' k k' hb hb' hm' he
  · refine ⟨h4.same, h4.size, fun i hi hn => h4.keep i hi fun b k hb hm => hn b k (by rw [hget, if_neg (hne b k hb)]; exact hb) hm, fun b k hb hm' => ?_, fun b k hb hk => ?_, h4.mu, h4.kk, h4.knew, h4.nx, fun b hb hn => ?_, fun b k k' hb hb' => ?_, fun b k hb hm' => ?_⟩
    · rw [hget] at hb
      split at hb
      · rename_i e; subst e; exact .inl ⟨b, bk, by simp, hm, by rw [hmux]⟩
      · rcases h4.img b k hb hm' with ⟨b0, k0, g0, m0, e0⟩ | hge
        · exact .inl ⟨b0, k0, by rw [hget, if_neg (hne b0 k0 g0)]; exact g0, m0, e0⟩
        · exact .inr hge
    · rw [hget] at hk
      simp at hb
      rw [if_neg (by omega)] at hk
      exact h4.newmut b k hb hk
    · rw [hget] at hn ⊢
      split at hn
      · cases hn
      · rename_i e; rw [if_neg e]; exact h4.none b hb hn
    · rw [hget] at hb hb'
      split at hb
      · rename_i e; rw [if_pos e] at hb'; rw [Option.some.inj hb] at hb'; rw [Option.some.inj hb']
      · rename_i e; rw [if_neg e] at hb'; exact h4.stay b k k' hb hb'
    · rw [hget] at hb ⊢
      split at hb
      · rename_i e; rw [if_pos e]; exact hb
      · rename_i e; rw [if_neg e]; exact h4.ro b k hb hm'

/-- the watch is weaker with less to watch -/
theorem watch_mono {ws : List Nat} {ctx ctx' : Ctx} {H : Hp} (hs : ∀ x, x ∈ ctx' → x ∈ ctx) (h : watchOk ws ctx H) : watchOk ws ctx' H := by
  cases ws with
  | nil => trivial
  | cons k r => exact fun j hj p hp => h j hj p (hs _ hp)

theorem ctx_mono : ∀ {l : List SOper} {ctx ctx' : Ctx} {F : T V} {H : Hp}, (∀ x, x ∈ ctx' → x ∈ ctx) → wOps P G base Q l ctx F H → wOps P G base Q l ctx' F H
  | [], _, _, _, _, _, h => h
  | o :: r, ctx, ctx', F, H, hs, h => by
    rw [wOps] at h ⊢
    split at h
    · rename_i hw
      rw [if_pos hw]
      cases hop : o.op with
      | p op =>
        simp only [hop] at h ⊢
        cases hv : aPure F op with
        | none => simp [hv] at h
        | some v => simp only [hv] at h ⊢; exact ctx_mono hs h
      | l op =>
        simp only [hop] at h ⊢
        cases hv : aLoad F H op with
        | none => simp [hv] at h
        | some v =>
          simp only [hv] at h ⊢
          refine ctx_mono (fun x hx => ?_) h
          cases hk : o.keep with
          | false => simp only [hk, Bool.false_eq_true, if_false] at hx ⊢; exact hs x hx
          | true =>
            simp only [hk, if_true, List.mem_cons] at hx ⊢
            exact hx.imp id (hs x)
      | a op =>
        simp only [hop] at h ⊢
        cases hv : aAlloc F op with
        | none => simp [hv] at h
        | some v =>
          simp only [hv] at h ⊢
          cases hai : o.aid with
          | none => simp only [hai] at h ⊢; exact ctx_mono hs h
          | some k => simp only [hai] at h ⊢; exact ctx_mono hs h
      | e op =>
        simp only [hop] at h ⊢
        cases hv : aEff F H op with
        | none => simp [hv] at h
        | some v => simp only [hv] at h ⊢; exact ⟨watch_mono hs h.1, ctx_mono hs h.2⟩
      | cf f args =>
        simp only [hop] at h ⊢
        exact h.mono fun v H' hh => ⟨watch_mono hs hh.1, ctx_mono hs hh.2⟩
      | cv x args =>
        simp only [hop] at h ⊢
        split at h
        · exact ⟨h.1, h.2.mono fun v H' hh => ⟨watch_mono hs hh.1, ctx_mono hs hh.2⟩⟩
        · exact h.elim
    · rename_i hw
      rw [if_neg hw]
      exact ctx_mono hs h
end
end Go.Ab

/- Operations whose order is open: two neighbours may be exchanged. -/
namespace Go.Ab
section
variable {P : Program} {G base : Nat} {Q : T V → Hp → Prop}

def callOf (P : Program) (o : SOp) (F : T V) : Option (FuncId × List V) :=
  match o with
  | .cf f args => some (f, args.map (·.ev F))
  | .cv x args => match x.ev F with
    | .one (.fn f caps) => if isFn P f then some (f, args.map (·.ev F) ++ caps.map ptrV) else none
    | _ => none
  | _ => none

/-- an operation that comes to the value v, whatever the heap: a pure one, or one that is not wanted -/
def Plain (o : SOper) (F : T V) (v : V) : Prop := (wantedA o.guard F = false ∧ v = V.undef) ∨ (wantedA o.guard F = true ∧ ∃ op, o.op = .p op ∧ aPure F op = some v)

def ctxOf (o : SOper) (op : LoadOp) (F : T V) (v : V) (ctx : Ctx) : Ctx := if o.keep then (o.id, fun H' => aLoad F H' op = some v) :: ctx else ctx

def allocAt (base : Nat) (o : SOper) (H : Hp) : Nat := match o.aid with
  | none => H.nx
  | some k => base + k
def allocHp (base : Nat) (o : SOper) (H : Hp) (bk : B) : Hp := match o.aid with
  | none => H.push bk
  | some k => H.add (base + k) bk

/-- the ways of one operation -/
theorem wOps_inv {o : SOper} {r : List SOper} {ctx : Ctx} {F : T V} {H : Hp} (h : wOps P G base Q (o :: r) ctx F H) :
    (∃ v, Plain o F v ∧ wOps P G base Q r ctx (setO F o.dst v) H) ∨
    (wantedA o.guard F = true ∧ ∃ op v, o.op = .l op ∧ aLoad F H op = some v ∧ wOps P G base Q r (ctxOf o op F v ctx) (setO F o.dst v) H) ∨
    (wantedA o.guard F = true ∧ ∃ op bk g, o.op = .a op ∧ aAlloc F op = some (bk, g) ∧ wOps P G base Q r ctx (setO F o.dst (g (allocAt base o H))) (allocHp base o H bk)) ∨
    (wantedA o.guard F = true ∧ ∃ op v H', o.op = .e op ∧ aEff F H op = some (v, H') ∧ watchOk o.watch ctx H' ∧ wOps P G base Q r ctx (setO F o.dst v) H') ∨
    (wantedA o.guard F = true ∧ o.op.kd = .c ∧ ∃ f args, callOf P o.op F = some (f, args) ∧ ACalls P G f args H fun v H' => watchOk o.watch ctx H' ∧ wOps P G base Q r ctx (setO F o.dst v) H') := by
  rw [wOps] at h
  split at h
  · rename_i hw
    cases hop : o.op with
    | p op =>
      simp only [hop] at h
      cases hv : aPure F op with
      | none => simp [hv] at h
      | some v => simp only [hv] at h; exact .inl ⟨v, .inr ⟨hw, op, hop, hv⟩, h⟩
    | l op =>
      simp only [hop] at h
      cases hv : aLoad F H op with
      | none => simp [hv] at h
      | some v => simp only [hv] at h; exact .inr (.inl ⟨hw, op, v, rfl, hv, h⟩)
    | a op =>
      simp only [hop] at h
      cases hv : aAlloc F op with
      | none => simp [hv] at h
      | some bg =>
        simp only [hv] at h
        refine .inr (.inr (.inl ⟨hw, op, bg.1, bg.2, rfl, hv, ?_⟩))
        unfold allocAt allocHp
        cases hai : o.aid <;> simp only [hai] at h ⊢ <;> exact h
    | e op =>
      simp only [hop] at h
      cases hv : aEff F H op with
      | none => simp [hv] at h
      | some v => simp only [hv] at h; exact .inr (.inr (.inr (.inl ⟨hw, op, v.1, v.2, rfl, hv, h.1, h.2⟩)))
    | cf f args =>
      simp only [hop] at h
      exact .inr (.inr (.inr (.inr ⟨hw, rfl, f, _, rfl, h⟩)))
    | cv x args =>
      simp only [hop] at h
      split at h
      · rename_i f caps hx
        exact .inr (.inr (.inr (.inr ⟨hw, rfl, f, _, by simp [callOf, hx, h.1], h.2⟩)))
      · exact h.elim
  · rename_i hw
    exact .inl ⟨V.undef, .inl ⟨by simpa using hw, rfl⟩, h⟩

theorem wOps_plain {o : SOper} {r : List SOper} {ctx : Ctx} {F : T V} {H : Hp} {v : V} (hp : Plain o F v) (h : wOps P G base Q r ctx (setO F o.dst v) H) : wOps P G base Q (o :: r) ctx F H := by
  rw [wOps]
  rcases hp with ⟨hw, rfl⟩ | ⟨hw, op, hop, hv⟩
  · simpa [hw] using h
  · simpa [hw, hop, hv] using h
theorem wOps_load {o : SOper} {r : List SOper} {ctx : Ctx} {F : T V} {H : Hp} {v : V} {op : LoadOp} (hw : wantedA o.guard F = true) (hop : o.op = .l op) (hv : aLoad F H op = some v) (h : wOps P G base Q r (ctxOf o op F v ctx) (setO F o.dst v) H) :
    wOps P G base Q (o :: r) ctx F H := by
  rw [wOps]
  simp only [hw, if_true, hop, hv]
  exact h
theorem wOps_alloc {o : SOper} {r : List SOper} {ctx : Ctx} {F : T V} {H : Hp} {bk : B} {g : Nat → V} {op : AllocOp} (hw : wantedA o.guard F = true) (hop : o.op = .a op) (hv : aAlloc F op = some (bk, g))
    (h : wOps P G base Q r ctx (setO F o.dst (g (allocAt base o H))) (allocHp base o H bk)) : wOps P G base Q (o :: r) ctx F H := by
  rw [wOps]
  simp only [hw, if_true, hop, hv]
  unfold allocAt allocHp at h
  cases hai : o.aid <;> simp only [hai] at h ⊢ <;> exact h
theorem wOps_eff {o : SOper} {r : List SOper} {ctx : Ctx} {F : T V} {H H' : Hp} {v : V} {op : EffOp} (hw : wantedA o.guard F = true) (hop : o.op = .e op) (hv : aEff F H op = some (v, H')) (hwa : watchOk o.watch ctx H') (h : wOps P G base Q r ctx (setO F o.dst v) H') :
    wOps P G base Q (o :: r) ctx F H := by
  rw [wOps]
  simp only [hw, if_true, hop, hv]
  exact ⟨hwa, h⟩
theorem wOps_call {o : SOper} {r : List SOper} {ctx : Ctx} {F : T V} {H : Hp} {f : FuncId} {args : List V} (hw : wantedA o.guard F = true) (hc : callOf P o.op F = some (f, args))
    (h : ACalls P G f args H fun v H' => watchOk o.watch ctx H' ∧ wOps P G base Q r ctx (setO F o.dst v) H') : wOps P G base Q (o :: r) ctx F H := by
  rw [wOps]
  simp only [hw, if_true]
  cases hop : o.op <;> simp only [hop, callOf] at hc <;> try (cases hc; done)
  · obtain ⟨rfl, rfl⟩ : _ ∧ _ := by simpa using hc
    exact h
  · simp only
    split at hc
    · rename_i f' caps hx
      split at hc
      · rename_i hf
        obtain ⟨rfl, rfl⟩ : _ ∧ _ := by simpa using hc
        try simp only [hx]
        exact ⟨hf, h⟩
      · cases hc
    · cases hc

/-- names that are reserved and free -/
def Free (base : Nat) (ks : List Nat) (H : Hp) : Prop := ∀ k ∈ ks, base + k < H.nx ∧ H.get (base + k) = none

theorem stores_keeps : ∀ {l : List C} {H H' : Hp} {b o : Nat}, H.stores b o l = some H' → H'.nx = H.nx ∧ ∀ i, H.get i = none → H'.get i = none
  | [], H, H', b, o, h => by simp [Hp.stores] at h; subst h; exact ⟨rfl, fun _ h => h⟩
  | c :: l, H, H', b, o, h => by
    simp only [Hp.stores] at h
    cases hs : H.store b o c with
    | none => simp [hs] at h
    | some H1 =>
      simp only [hs] at h
      obtain ⟨h1, h2⟩ := stores_keeps h
      unfold Hp.store at hs
      split at hs
      · rename_i n z m hb
        split at hs
        · obtain rfl := Option.some.inj hs
          refine ⟨h1, fun i hi => h2 i ?_⟩
          rw [Hp.get_add]
          split
          · rename_i e; subst e; rw [hb] at hi; cases hi
          · exact hi
        · cases hs
      · cases hs

theorem eff_keeps {F : T V} {H H' : Hp} {op : EffOp} {v : V} (h : aEff F H op = some (v, H')) : H.nx ≤ H'.nx ∧ ∀ b, b < H.nx → H.get b = none → H'.get b = none := by
  cases op with
  | store n a x =>
    simp only [aEff] at h
    split at h
    · split at h
      · simp only [Option.map_eq_some_iff, Prod.mk.injEq] at h
        obtain ⟨H1, hs, _, rfl⟩ := h
        have := stores_keeps hs
        exact ⟨by omega, fun b _ hb => this.2 b hb⟩
      · cases h
    · cases h
  | append esz bytes s x =>
    simp only [aEff] at h
    split at h
    · rename_i m news _
      unfold aAppend at h
      split at h
      · split at h
        · simp only [Option.some.injEq, Prod.mk.injEq] at h; obtain ⟨_, rfl⟩ := h; exact ⟨Nat.le_refl _, fun _ _ h => h⟩
        · split at h
          · simp only [Option.some.injEq, Prod.mk.injEq] at h; obtain ⟨_, rfl⟩ := h
            exact ⟨by simp, fun b hb hn => by rw [Hp.get_push, if_neg (by omega)]; exact hn⟩
          · cases h
      · split at h
        · cases h
        · split at h
          · simp only [Option.map_eq_some_iff, Prod.mk.injEq] at h
            obtain ⟨H1, hs, _, rfl⟩ := h
            have := stores_keeps hs
            exact ⟨by omega, fun b _ hb => this.2 b hb⟩
          · split at h
            · split at h
              · cases h
              · split at h
                · simp only [Option.some.injEq, Prod.mk.injEq] at h; obtain ⟨_, rfl⟩ := h
                  exact ⟨by simp, fun b hb hn => by rw [Hp.get_push, if_neg (by omega)]; exact hn⟩
                · split at h
                  · simp only [Option.some.injEq, Prod.mk.injEq] at h; obtain ⟨_, rfl⟩ := h
                    refine ⟨by simp, fun b hb hn => ?_⟩
                    rw [Hp.get_del]
                    split
                    · rfl
                    · rw [Hp.get_push, if_neg (by omega)]; exact hn
                  · cases h
            · cases h
      · cases h
    · cases h
  | copy esz d s =>
    simp only [aEff] at h
    split at h
    · simp only [Option.some.injEq, Prod.mk.injEq] at h; obtain ⟨_, rfl⟩ := h; exact ⟨Nat.le_refl _, fun _ _ h => h⟩
    · split at h
      · simp only [Option.map_eq_some_iff, Prod.mk.injEq] at h
        obtain ⟨H1, hs, _, rfl⟩ := h
        have := stores_keeps hs
        exact ⟨by omega, fun b _ hb => this.2 b hb⟩
      · cases h
    · cases h
  | mapupd m k x =>
    simp only [aEff] at h
    split at h
    · split at h
      · rename_i b _ es hb
        split at h
        · split at h
          · simp only [Option.some.injEq, Prod.mk.injEq] at h; obtain ⟨_, rfl⟩ := h
            refine ⟨Nat.le_refl _, fun i _ hi => ?_⟩
            rw [Hp.get_add]
            split
            · rename_i e; subst e; rw [hb] at hi; cases hi
            · exact hi
          · simp only [Option.some.injEq, Prod.mk.injEq] at h; obtain ⟨_, rfl⟩ := h
            refine ⟨Nat.le_refl _, fun i _ hi => ?_⟩
            rw [Hp.get_add]
            split
            · rename_i e; subst e; rw [hb] at hi; cases hi
            · exact hi
          · cases h
        · cases h
      · cases h
    · cases h
  | clear esz z x =>
    simp only [aEff] at h
    split at h
    · simp only [Option.some.injEq, Prod.mk.injEq] at h; obtain ⟨_, rfl⟩ := h; exact ⟨Nat.le_refl _, fun _ _ h => h⟩
    · split at h
      · simp only [Option.map_eq_some_iff, Prod.mk.injEq] at h
        obtain ⟨H1, hs, _, rfl⟩ := h
        have := stores_keeps hs
        exact ⟨by omega, fun b _ hb => this.2 b hb⟩
      · cases h
    · cases h

theorem Free.of_keeps {ks : List Nat} {H H' : Hp} (hf : Free base ks H) (h : H.nx ≤ H'.nx ∧ ∀ b, b < H.nx → H.get b = none → H'.get b = none) : Free base ks H' :=
  fun k hk => ⟨by have := (hf k hk).1; omega, h.2 _ (hf k hk).1 (hf k hk).2⟩
theorem Free.of_alloc {ks : List Nat} {H : Hp} {o : SOper} (hf : Free base ks H) (bk : B) (hk : ∀ k, o.aid = some k → k ∉ ks) : Free base ks (allocHp base o H bk) := by
  unfold allocHp
  cases hai : o.aid with
  | none => exact fun k hk' => ⟨by have := (hf k hk').1; simp; omega, by rw [Hp.get_push, if_neg (by have := (hf k hk').1; omega)]; exact (hf k hk').2⟩
  | some j =>
    refine fun k hk' => ⟨(hf k hk').1, ?_⟩
    rw [Hp.get_add, if_neg (fun e => hk j hai (by have : k = j := by omega
                                                  rw [← this]; exact hk'))]
    exact (hf k hk').2

end
end Go.Ab

/- Operations whose order is open: any order comes to the same. -/
namespace Go.Ab
section
variable {P : Program} {G base : Nat} {Q : T V → Hp → Prop}

abbrev CtxSt := CtxSt0
theorem CtxSt.of {ctx : Ctx} (h : CtxSt ctx) (o : SOper) (op : LoadOp) (F : T V) (v : V) : CtxSt (ctxOf o op F v ctx) := CtxSt0.of h _ _ _ _ _

/-- the rest may be replaced, behind one operation -/
theorem step_mono {o : SOper} {r1 r2 : List SOper} {ctx : Ctx} {F : T V} {H : Hp} {ks : List Nat} (hst : CtxSt ctx) (hf : Free base ks H) (hai : ∀ k, o.aid = some k → k ∉ ks)
    (hr : ∀ ctx v H', CtxSt ctx → Free base ks H' → wOps P G base Q r1 ctx (setO F o.dst v) H' → wOps P G base Q r2 ctx (setO F o.dst v) H') (h : wOps P G base Q (o :: r1) ctx F H) : wOps P G base Q (o :: r2) ctx F H := by
  rcases wOps_inv h with ⟨v, hp, h⟩ | ⟨hw, op, v, hop, hv, h⟩ | ⟨hw, op, bk, g, hop, hv, h⟩ | ⟨hw, op, v, H', hop, hv, hwa, h⟩ | ⟨hw, _, f, args, hc, h⟩
  · exact wOps_plain hp (hr _ _ _ hst hf h)
  · exact wOps_load hw hop hv (hr _ _ _ (CtxSt.of hst _ _ _ _) hf h)
  · exact wOps_alloc hw hop hv (hr _ _ _ hst (hf.of_alloc bk hai) h)
  · exact wOps_eff hw hop hv hwa (hr _ _ _ hst (hf.of_keeps (eff_keeps hv)) h)
  · exact wOps_call hw hc (h.keeps.mono fun v H' hh => ⟨hh.1.1, hr _ _ _ hst (hf.of_keeps hh.2) hh.1.2⟩)

theorem alloc_mut {F : T V} {op : AllocOp} {bk : B} {g : Nat → V} (h : aAlloc F op = some (bk, g)) : bk.mut = true := by
  cases op <;> simp only [aAlloc] at h
  case alloc => simp only [Option.some.injEq, Prod.mk.injEq] at h; rw [← h.1]; rfl
  case mkmap => simp only [Option.some.injEq, Prod.mk.injEq] at h; rw [← h.1]; rfl
  all_goals (split at h <;> try (cases h; done))
  all_goals first
    | (simp only [Option.some.injEq, Prod.mk.injEq] at h; rw [← h.1]; rfl)
    | (split at h
       · simp only [Option.some.injEq, Prod.mk.injEq] at h; rw [← h.1]; rfl
       · cases h)

theorem Plain.blind {s : SOper} {d : Option Nat} (hb : Blind s d) {F : T V} {u v : V} : Plain s (setO F d u) v ↔ Plain s F v := by
  unfold Plain
  rw [hb.wanted]
  constructor
  · rintro (h | ⟨hw, op, hop, hv⟩)
    · exact .inl h
    · exact .inr ⟨hw, op, hop, by rwa [hb.pure F u op hop] at hv⟩
  · rintro (h | ⟨hw, op, hop, hv⟩)
    · exact .inl h
    · exact .inr ⟨hw, op, hop, by rwa [hb.pure F u op hop]⟩

theorem callOf_blind {s : SOper} {d : Option Nat} (hb : Blind s d) {F : T V} {u : V} : callOf P s.op (setO F d u) = callOf P s.op F := by
  cases hop : s.op with
  | cf f args => simp only [callOf, hb.cf F u f args hop]
  | cv x args => obtain ⟨h1, h2⟩ := hb.cv F u x args hop; simp only [callOf, h1, h2]
  | _ => rfl

/-- an operation that needs no heap has a value -/
def HasVal (x : SOper) (F : T V) : Prop := wantedA x.guard F = true → (∀ op, x.op = .p op → ∃ v, aPure F op = some v) ∧ (∀ op, x.op = .a op → ∃ bg, aAlloc F op = some bg)

theorem HasVal.blind {x : SOper} {d : Option Nat} (hb : Blind x d) {F : T V} {u : V} : HasVal x (setO F d u) ↔ HasVal x F := by
  unfold HasVal
  rw [hb.wanted]
  constructor
  · intro h hw
    refine ⟨fun op hop => ?_, fun op hop => ?_⟩
    · have := (h hw).1 op hop; rwa [hb.pure _ _ _ hop] at this
    · have := (h hw).2 op hop; rwa [hb.alloc _ _ _ hop] at this
  · intro h hw
    refine ⟨fun op hop => ?_, fun op hop => ?_⟩
    · rw [hb.pure _ _ _ hop]; exact (h hw).1 op hop
    · rw [hb.alloc _ _ _ hop]; exact (h hw).2 op hop

/-- TWO NEIGHBOURS ARE EXCHANGED. -/
theorem swap {y x : SOper} {r : List SOper} {ctx : Ctx} {F : T V} {H : Hp} (hok : swapOk y x = true) (hst : CtxSt ctx) (hval : HasVal x F) (hfr : ∀ k, (x.aid = some k ∨ y.aid = some k) → base + k < H.nx ∧ H.get (base + k) = none)
    (h : wOps P G base Q (y :: x :: r) ctx F H) : wOps P G base Q (x :: y :: r) ctx F H := by
  unfold swapOk at hok
  rw [Bool.and_eq_true] at hok
  obtain ⟨htm, hkd⟩ := hok
  obtain ⟨t1, t2⟩ := tmOk_spec htm
  have bx : Blind x y.dst := Blind.mk' fun k hk => ⟨(t1 k hk).1, (t1 k hk).2.1⟩
  have by_ : Blind y x.dst := Blind.mk' fun k hk => t2 k hk
  have hcomm : ∀ (F : T V) (u v : V), setO (setO F y.dst u) x.dst v = setO (setO F x.dst v) y.dst u := fun F u v => setO_comm fun k hk => (t1 k hk).2.2
  rcases wOps_inv h with ⟨vy, hpy, h⟩ | ⟨hwy, opy, vy, hopy, hvy, h⟩ | ⟨hwy, opy, bky, gy, hopy, hvy, h⟩ | ⟨hwy, opy, vy, Hy, hopy, hvy, hway, h⟩ | ⟨hwy, hky, fy, argsy, hcy, h⟩
  · -- y is plain
    rcases wOps_inv h with ⟨vx, hpx, h⟩ | ⟨hwx, opx, vx, hopx, hvx, h⟩ | ⟨hwx, opx, bkx, gx, hopx, hvx, h⟩ | ⟨hwx, opx, vx, Hx, hopx, hvx, hwax, h⟩ | ⟨hwx, hkx, fx, argsx, hcx, h⟩
    · rw [Plain.blind bx] at hpx
      exact wOps_plain hpx (wOps_plain ((Plain.blind by_).2 hpy) (by rw [← hcomm]; exact h))
    · rw [bx.wanted] at hwx
      rw [bx.load _ _ _ _ hopx] at hvx
      refine wOps_load hwx hopx hvx (wOps_plain ((Plain.blind by_).2 hpy) ?_)
      rw [← hcomm]
      refine ctx_mono (fun z hz => ?_) h
      unfold ctxOf at hz ⊢
      cases hk : x.keep with
      | false => simp only [hk, Bool.false_eq_true, if_false] at hz ⊢; exact hz
      | true =>
        simp only [hk, if_true, List.mem_cons] at hz ⊢
        rcases hz with rfl | hz
        · left
          congr 1
          funext H'
          rw [bx.load _ _ _ _ hopx]
        · exact .inr hz
    · rw [bx.wanted] at hwx
      rw [bx.alloc _ _ _ hopx] at hvx
      exact wOps_alloc hwx hopx hvx (wOps_plain ((Plain.blind by_).2 hpy) (by rw [← hcomm]; exact h))
    · rw [bx.wanted] at hwx
      rw [bx.eff _ _ _ _ hopx] at hvx
      exact wOps_eff hwx hopx hvx hwax (wOps_plain ((Plain.blind by_).2 hpy) (by rw [← hcomm]; exact h))
    · rw [bx.wanted] at hwx
      rw [callOf_blind bx] at hcx
      exact wOps_call hwx hcx (h.mono fun v H' hh => ⟨hh.1, wOps_plain ((Plain.blind by_).2 hpy) (by rw [← hcomm]; exact hh.2)⟩)
  · -- y loads
    have hyl : ∀ (F' : T V) (v : V) (H' : Hp), F' = setO F x.dst v → aLoad F H' opy = some vy → ∀ c, (∀ z, z ∈ c → z ∈ ctx) → wOps P G base Q r (ctxOf y opy F vy c) (setO F' y.dst vy) H' → wOps P G base Q (y :: r) c F' H' := by
      rintro F' v H' rfl hv c hc hh
      refine wOps_load (by rw [by_.wanted]; exact hwy) hopy (by rw [by_.load _ _ _ _ hopy]; exact hv) ?_
      refine ctx_mono (fun z hz => ?_) hh
      unfold ctxOf at hz ⊢
      cases hk : y.keep with
      | false => simp only [hk, Bool.false_eq_true, if_false] at hz ⊢; exact hz
      | true =>
        simp only [hk, if_true, List.mem_cons] at hz ⊢
        rcases hz with rfl | hz
        · left
          congr 1
          funext H'
          rw [by_.load _ _ _ _ hopy]
        · exact .inr hz
    rcases wOps_inv h with ⟨vx, hpx, h⟩ | ⟨hwx, opx, vx, hopx, hvx, h⟩ | ⟨hwx, opx, bkx, gx, hopx, hvx, h⟩ | ⟨hwx, opx, vx, Hx, hopx, hvx, hwax, h⟩ | ⟨hwx, hkx, fx, argsx, hcx, h⟩
    · rw [Plain.blind bx] at hpx
      exact wOps_plain hpx (hyl _ vx H rfl hvy ctx (fun _ h => h) (by rw [← hcomm]; exact h))
    · rw [bx.wanted] at hwx
      rw [bx.load _ _ _ _ hopx] at hvx
      refine wOps_load hwx hopx hvx ?_
      refine wOps_load (by rw [by_.wanted]; exact hwy) hopy (by rw [by_.load _ _ _ _ hopy]; exact hvy) ?_
      rw [← hcomm]
      refine ctx_mono (fun z hz => ?_) h
      unfold ctxOf at hz ⊢
      have e1 : ∀ u : V, (fun H' => aLoad (setO F y.dst u) H' opx = some vx) = fun H' => aLoad F H' opx = some vx := fun u => by funext H'; rw [bx.load _ _ _ _ hopx]
      have e2 : ∀ u : V, (fun H' => aLoad (setO F x.dst u) H' opy = some vy) = fun H' => aLoad F H' opy = some vy := fun u => by funext H'; rw [by_.load _ _ _ _ hopy]
      rw [e2] at hz
      rw [e1]
      cases hk : y.keep <;> cases hk' : x.keep <;> simp only [hk, hk', Bool.false_eq_true, if_false, if_true, List.mem_cons] at hz ⊢
      · exact hz
      · exact hz
      · exact hz
      · rcases hz with hz | hz | hz
        · exact .inr (.inl hz)
        · exact .inl hz
        · exact .inr (.inr hz)
    · rw [bx.wanted] at hwx
      rw [bx.alloc _ _ _ hopx] at hvx
      rw [hopy, hopx] at hkd
      simp only [SOp.kd] at hkd
      obtain ⟨k, hk⟩ := Option.isSome_iff_exists.1 hkd
      have hfree := hfr k (.inl hk)
      refine wOps_alloc hwx hopx hvx ?_
      refine hyl _ _ _ rfl ?_ ctx (fun _ h => h) (by rw [← hcomm]; exact h)
      unfold allocHp
      simp only [hk]
      exact load_add hfree.2 hvy
    · rw [bx.wanted] at hwx
      rw [bx.eff _ _ _ _ hopx] at hvx
      rw [hopy, hopx] at hkd
      simp only [SOp.kd, Bool.and_eq_true] at hkd
      have hwat : aLoad F Hx opy = some vy := by
        have hmem : y.id ∈ x.watch := by simpa using hkd.2
        cases hws : x.watch with
        | nil => rw [hws] at hmem; cases hmem
        | cons a l =>
          rw [hws] at hwax hmem
          exact hwax y.id hmem (fun H' => aLoad F H' opy = some vy) (by unfold ctxOf; rw [if_pos hkd.1]; exact List.mem_cons_self ..)
      refine wOps_eff hwx hopx hvx (watch_mono (fun z hz => ?_) hwax) (hyl _ vx Hx rfl hwat ctx (fun _ h => h) (by rw [← hcomm]; exact h))
      unfold ctxOf
      split
      · exact List.mem_cons_of_mem _ hz
      · exact hz
    · rw [bx.wanted] at hwx
      rw [callOf_blind bx] at hcx
      rw [hopy, hkx] at hkd
      simp only [SOp.kd, Bool.and_eq_true] at hkd
      have hmem : y.id ∈ x.watch := by simpa using hkd.2
      refine wOps_call hwx hcx (h.mono fun v H' hh => ?_)
      have hwat : aLoad F H' opy = some vy := by
        have hwax := hh.1
        cases hws : x.watch with
        | nil => rw [hws] at hmem; cases hmem
        | cons a l =>
          rw [hws] at hwax hmem
          exact hwax y.id hmem (fun H' => aLoad F H' opy = some vy) (by unfold ctxOf; rw [if_pos hkd.1]; exact List.mem_cons_self ..)
      refine ⟨watch_mono (fun z hz => ?_) hh.1, hyl _ v H' rfl hwat ctx (fun _ h => h) (by rw [← hcomm]; exact hh.2)⟩
      unfold ctxOf
      split
      · exact List.mem_cons_of_mem _ hz
      · exact hz
  · -- y makes a block
    rcases wOps_inv h with ⟨vx, hpx, h⟩ | ⟨hwx, opx, vx, hopx, hvx, h⟩ | ⟨hwx, opx, bkx, gx, hopx, hvx, h⟩ | ⟨hwx, opx, vx, Hx, hopx, hvx, hwax, h⟩ | ⟨hwx, hkx, fx, argsx, hcx, h⟩
    · rw [Plain.blind bx] at hpx
      exact wOps_plain hpx (wOps_alloc (by rw [by_.wanted]; exact hwy) hopy (by rw [by_.alloc _ _ _ hopy]; exact hvy) (by rw [← hcomm]; exact h))
    · rw [hopy, hopx] at hkd; simp [SOp.kd] at hkd
    · rw [bx.wanted] at hwx
      rw [bx.alloc _ _ _ hopx] at hvx
      rw [hopy, hopx] at hkd
      simp only [SOp.kd, Bool.and_eq_true] at hkd
      obtain ⟨k, hk⟩ := Option.isSome_iff_exists.1 hkd.1.1
      obtain ⟨j, hj⟩ := Option.isSome_iff_exists.1 hkd.1.2
      have hne : k ≠ j := by
        have := hkd.2
        rw [hk, hj] at this
        simpa using this
      refine wOps_alloc hwx hopx hvx (wOps_alloc (by rw [by_.wanted]; exact hwy) hopy (by rw [by_.alloc _ _ _ hopy]; exact hvy) ?_)
      rw [← hcomm]
      have e1 : allocAt base x (allocHp base y H bky) = allocAt base x H := by unfold allocAt; simp only [hj]
      have e2 : allocAt base y (allocHp base x H bkx) = allocAt base y H := by unfold allocAt; simp only [hk]
      have e3 : allocHp base y (allocHp base x H bkx) bky = allocHp base x (allocHp base y H bky) bkx := by
        unfold allocHp
        simp only [hk, hj]
        unfold Hp.add
        rw [T.set_comm _ _ _ (show base + j ≠ base + k by omega)]
      rw [e2, e3]
      rw [e1] at h
      exact h
    · rw [hopy, hopx] at hkd; simp [SOp.kd] at hkd
    · rw [hopy, hkx] at hkd; simp [SOp.kd] at hkd
  · -- y writes
    rcases wOps_inv h with ⟨vx, hpx, h⟩ | ⟨hwx, opx, vx, hopx, hvx, h⟩ | ⟨hwx, opx, bkx, gx, hopx, hvx, h⟩ | ⟨hwx, opx, vx, Hx, hopx, hvx, hwax, h⟩ | ⟨hwx, hkx, fx, argsx, hcx, h⟩
    · rw [Plain.blind bx] at hpx
      exact wOps_plain hpx (wOps_eff (by rw [by_.wanted]; exact hwy) hopy (by rw [by_.eff _ _ _ _ hopy]; exact hvy) hway (by rw [← hcomm]; exact h))
    · rw [hopy, hopx] at hkd; simp [SOp.kd] at hkd
    · rw [hopy, hopx] at hkd; simp [SOp.kd] at hkd
    · rw [hopy, hopx] at hkd; simp [SOp.kd] at hkd
    · rw [hopy, hkx] at hkd; simp [SOp.kd] at hkd
  · -- y calls
    -- what x is, before the call's outcome is known
    cases hwx : wantedA x.guard F with
    | false =>
      refine wOps_plain (.inl ⟨hwx, rfl⟩) (wOps_call (by rw [by_.wanted]; exact hwy) (by rw [callOf_blind by_]; exact hcy) (h.mono fun v H' hh => ⟨hh.1, ?_⟩))
      rw [← hcomm]
      have h2 := hh.2
      rw [wOps, bx.wanted, hwx] at h2
      simpa using h2
    | true =>
      cases hopx : x.op with
      | p op =>
        -- its value does not hang on the call
        obtain ⟨vx, hv⟩ := (hval hwx).1 op hopx
        refine wOps_plain (v := vx) (.inr ⟨hwx, op, hopx, hv⟩) (wOps_call (by rw [by_.wanted]; exact hwy) (by rw [callOf_blind by_]; exact hcy) (h.mono fun v H' hh => ⟨hh.1, ?_⟩))
        rw [← hcomm]
        have h2 := hh.2
        rw [wOps, bx.wanted, hwx] at h2
        simp only [if_true, hopx, bx.pure _ _ _ hopx, hv] at h2
        exact h2
      | a op =>
        obtain ⟨⟨bk, g⟩, hv⟩ := (hval hwx).2 op hopx
        rw [hky, hopx] at hkd
        simp only [SOp.kd] at hkd
        obtain ⟨k, hk⟩ := Option.isSome_iff_exists.1 hkd
        obtain ⟨hlt, hnone⟩ := hfr k (.inl hk)
        refine wOps_alloc hwx hopx hv (wOps_call (by rw [by_.wanted]; exact hwy) (by rw [callOf_blind by_]; exact hcy) ?_)
        have e1 : allocHp base x H bk = H.add (base + k) bk := by unfold allocHp; simp only [hk]
        have e2 : allocAt base x H = base + k := by unfold allocAt; simp only [hk]
        rw [e1, e2]
        refine (h.keeps.frame hlt hnone (alloc_mut hv)).mono ?_
        rintro v H'' ⟨H', ⟨⟨hw1, hw2⟩, hnx, hfree⟩, rfl⟩
        refine ⟨?_, ?_⟩
        · -- what is watched is still there
          have := hw1
          cases hws : y.watch with
          | nil => trivial
          | cons a l =>
            rw [hws] at this
            exact fun j hj p hp => hst j p hp _ _ _ (hfree _ hlt hnone) (this j hj p hp)
        · rw [← hcomm]
          rw [wOps, bx.wanted, hwx] at hw2
          simp only [if_true, hopx, bx.alloc _ _ _ hopx, hv, hk] at hw2
          exact hw2
      | l op => rw [hky, hopx] at hkd; simp [SOp.kd] at hkd
      | e op => rw [hky, hopx] at hkd; simp [SOp.kd] at hkd
      | cf f args => rw [hky, hopx] at hkd; simp [SOp.kd] at hkd
      | cv f args => rw [hky, hopx] at hkd; simp [SOp.kd] at hkd

/-- AN OPERATION IS DRAWN TO THE FRONT. -/
theorem pull {x : SOper} {post : List SOper} : ∀ {pre : List SOper} {ctx : Ctx} {F : T V} {H : Hp}, (∀ y ∈ pre, swapOk y x = true) → CtxSt ctx → HasVal x F →
    (∀ k ∈ (pre ++ [x]).filterMap (·.aid), base + k < H.nx ∧ H.get (base + k) = none) → ((pre ++ [x]).filterMap (·.aid)).Nodup →
    wOps P G base Q (pre ++ x :: post) ctx F H → wOps P G base Q (x :: (pre ++ post)) ctx F H
  | [], _, _, _, _, _, _, _, _, h => h
  | y :: pre, ctx, F, H, hok, hst, hval, hfr, hnd, h => by
    have hy := hok y (by simp)
    have hb : Blind x y.dst := by
      have := hy
      unfold swapOk at this
      rw [Bool.and_eq_true] at this
      obtain ⟨t1, _⟩ := tmOk_spec this.1
      exact Blind.mk' fun k hk => ⟨(t1 k hk).1, (t1 k hk).2.1⟩
    have hfm : ∀ k, y.aid = some k → k ∉ (pre ++ [x]).filterMap (·.aid) := fun k hk => by
      simp only [List.cons_append, List.filterMap_cons, hk, List.nodup_cons] at hnd
      exact hnd.1
    have hnd' : ((pre ++ [x]).filterMap (·.aid)).Nodup := by
      simp only [List.cons_append, List.filterMap_cons] at hnd
      cases hy' : y.aid with
      | none => rw [hy'] at hnd; exact hnd
      | some k => rw [hy'] at hnd; exact (List.nodup_cons.1 hnd).2
    have hfr' : Free base ((pre ++ [x]).filterMap (·.aid)) H := fun k hk => hfr k (by
      simp only [List.cons_append, List.filterMap_cons]
      cases y.aid with
      | none => exact hk
      | some j => exact List.mem_cons_of_mem _ hk)
    have h1 : wOps P G base Q (y :: x :: (pre ++ post)) ctx F H := step_mono hst hfr' hfm (fun ctx' v H' hst' hf' hh => pull (fun z hz => hok z (by simp [hz])) hst' ((HasVal.blind hb).2 hval) hf' hnd' hh) h
    refine swap hy hst hval (fun k hk => ?_) h1
    rcases hk with hk | hk
    · exact hfr' k (by simp [hk])
    · exact hfr k (by simp [hk])
end
end Go.Ab

/- A region whose order is open: whatever order is drawn, it ends as the abstract operations, in one order, say. -/
namespace Go.Ab
section
variable {P : Program} {G n base : Nat} {Q : T V → Hp → Prop}

/-- what an operation shows of a fact that does not hang on its outcome -/
theorem wpOp_const {ops : Array Oper} {i : Nat} {a : Act} {w : World} {T : Prop} (h : wpOp P ops (fun _ _ _ => False) i (fun _ _ => T) a w) : T := by
  unfold wpOp at h
  split at h
  · exact h
  · rename_i o ho
    split at h
    · rcases h with h | ⟨_, _, _, h⟩
      · unfold Oper.wp at h
        generalize (execOp a.eval o).run P w = r at h
        cases r with
        | ok nx w' =>
          cases nx <;> simp only [Oper.upon] at h <;> first
            | exact h
            | (obtain ⟨e, w'', fr, hR, _⟩ := h []
               cases e with
               | returned v => exact hR
               | panicked c => exact hR.elim
               | outgrown => obtain ⟨_, _, hh⟩ := hR; exact hh.elim)
            | (obtain ⟨v, w'', hR, _⟩ := h default []; exact hR)
            | exact h.elim
        | halt hh w' => cases hh <;> simp only [Oper.upon] at h <;> first | exact h.elim | exact h
      · exact h.elim
    · exact h

theorem hasVal_head {x : SOper} {post : List SOper} {ctx : Ctx} {F : T V} {H : Hp} (h : wOps P G base Q (x :: post) ctx F H) : HasVal x F := by
  intro hw
  rw [wOps, hw] at h
  simp only [if_true] at h
  refine ⟨fun op hop => ?_, fun op hop => ?_⟩
  · rw [hop] at h
    simp only at h
    cases hv : aPure F op with
    | none => simp [hv] at h
    | some v => exact ⟨v, rfl⟩
  · rw [hop] at h
    simp only at h
    cases hv : aAlloc F op with
    | none => simp [hv] at h
    | some v => exact ⟨v, rfl⟩

/-- an operation that does not hang on those before it has its value already -/
theorem reach {ops : Array Oper} {x : SOper} {post : List SOper} {μ0 : Nat → Pl} {K0 : Nat → Prop} {H0 : Hp} {w0 : World} (hlt0 : ∀ b bk, H0.get b = some bk → b < H0.nx) :
    ∀ {pre : List SOper} {idx : List Nat} {ctx : Ctx} {F : T V} {H : Hp} {μ : Nat → Pl} {K : Nat → Prop} {a : Act} {w : World}, Aligned P G n ops idx pre → (∀ y ∈ pre, Blind x y.dst) → Rel G μ K H w → FRel μ K n F a.tmps → Fr μ0 K0 H0 w0 μ K H w →
      (∀ y ∈ pre, ∀ k, y.aid = some k → ¬ K (base + k) ∧ base + k < H.nx ∧ H0.nx ≤ base + k) → (pre.filterMap (·.aid)).Nodup →
      wOps P G base Q (pre ++ x :: post) ctx F H → HasVal x F
  | [], [], ctx, F, H, μ, K, a, w, _, _, _, _, _, _, _, h => hasVal_head h
  | y :: pre, i :: idx, ctx, F, H, μ, K, a, w, hal, hbl, hR, hF, hFr, hrs, hnd, h => by
    obtain ⟨⟨o, ho, hfit⟩, hal'⟩ := hal
    have key : wpOp P ops (fun _ _ _ => False) i (fun _ _ => HasVal x F) a w := by
      refine op_ok hlt0 ho hfit hR hF hFr (hrs y (by simp)) h fun μ' K' F' H' a' w' ctx' h1 h2 h3 _ h5 h6 h7 _ h8 => ?_
      obtain ⟨v, rfl⟩ := h7
      have hnd' : (pre.filterMap (·.aid)).Nodup ∧ ∀ k, y.aid = some k → k ∉ pre.filterMap (·.aid) := by
        simp only [List.filterMap_cons] at hnd
        cases hy : y.aid with
        | none => rw [hy] at hnd; exact ⟨hnd, by simp⟩
        | some k => rw [hy] at hnd; exact ⟨(List.nodup_cons.1 hnd).2, fun j hj => by obtain rfl := Option.some.inj hj; exact (List.nodup_cons.1 hnd).1⟩
      have := reach hlt0 hal' (fun z hz => hbl z (by simp [hz])) h1 h2 h3 (fun z hz k hk => by
        obtain ⟨g1, g2, g3⟩ := hrs z (by simp [hz]) k hk
        refine ⟨fun hk' => ?_, by omega, g3⟩
        rcases h6 _ g2 hk' with h | ⟨j, hj, he⟩
        · exact g1 h
        · exact hnd'.2 j hj (by
            have : j = k := by omega
            rw [this]
            exact List.mem_filterMap.2 ⟨z, hz, hk⟩)) hnd'.1 h8
      exact (HasVal.blind (hbl y (by simp))).1 this
    exact wpOp_const key
  | [], _ :: _, _, _, _, _, _, _, _, h, _, _, _, _, _, _, _ => h.elim
  | _ :: _, [], _, _, _, _, _, _, _, h, _, _, _, _, _, _, _ => h.elim

/-- every earlier operation is one that the later one hangs on, or may be exchanged with it -/
def PairsOk (D : Nat → List Nat) : List Nat → List SOper → Prop
  | i :: idx, s :: l => (∀ j t, (j, t) ∈ idx.zip l → i ∈ D j ∨ swapOk s t = true) ∧ PairsOk D idx l
  | _, _ => True

theorem Aligned.len {ops : Array Oper} : ∀ {idx : List Nat} {l : List SOper}, Aligned P G n ops idx l → idx.length = l.length
  | [], [], _ => rfl
  | _ :: _, _ :: _, h => by simp [Aligned.len h.2]
  | [], _ :: _, h => h.elim
  | _ :: _, [], h => h.elim

/-- an index among others, with its operation -/
theorem Aligned.split {ops : Array Oper} {D : Nat → List Nat} : ∀ {idx : List Nat} {l : List SOper} {i : Nat}, Aligned P G n ops idx l → PairsOk D idx l → i ∈ idx →
    ∃ pi qi pre x post, idx = pi ++ i :: qi ∧ l = pre ++ x :: post ∧ Aligned P G n ops pi pre ∧ (∃ o, ops[i]? = some o ∧ Fits P G n ops o x) ∧ Aligned P G n ops (pi ++ qi) (pre ++ post) ∧ PairsOk D (pi ++ qi) (pre ++ post) ∧
      (∀ y ∈ pre, ∃ j ∈ pi, j ∈ D i ∨ swapOk y x = true)
  | j :: idx, s :: l, i, hal, hp, hi => by
    by_cases e : i = j
    · subst e
      exact ⟨[], idx, [], s, l, rfl, rfl, trivial, hal.1, hal.2, hp.2, by simp⟩
    · have hi' : i ∈ idx := by
        rcases List.mem_cons.1 hi with h | h
        · exact absurd h e
        · exact h
      obtain ⟨pi, qi, pre, x, post, h1, h2, h3, h4, h5, h6, h7⟩ := Aligned.split hal.2 hp.2 hi'
      have hl1 : pi.length = pre.length := h3.len
      refine ⟨j :: pi, qi, s :: pre, x, post, by rw [h1]; rfl, by rw [h2]; rfl, ⟨hal.1, h3⟩, h4, ⟨hal.1, h5⟩, ⟨fun j' t hjt => hp.1 j' t ?_, h6⟩, fun y hy => ?_⟩
      · rw [h1, h2, List.zip_append hl1]
        have hjt' : (j', t) ∈ (pi ++ qi).zip (pre ++ post) := hjt
        rw [List.zip_append hl1] at hjt'
        rcases List.mem_append.1 hjt' with h | h
        · exact List.mem_append.2 (.inl h)
        · exact List.mem_append.2 (.inr (by simp [h]))
      · rcases List.mem_cons.1 hy with rfl | hy
        · refine ⟨j, by simp, hp.1 i x ?_⟩
          rw [h1, h2, List.zip_append hl1]
          exact List.mem_append.2 (.inr (by simp))
        · obtain ⟨j', hj', hh⟩ := h7 y hy
          exact ⟨j', by simp [hj'], hh⟩
  | [], _, _, _, _, hi => by cases hi
  | _ :: _, [], _, hal, _, _ => hal.elim


/-- WHATEVER ORDER IS DRAWN. -/
theorem any_ok {ops : Array Oper} {D : Nat → List Nat} {μ0 : Nat → Pl} {K0 : Nat → Prop} {H0 : Hp} {w0 : World} (hlt0 : ∀ b bk, H0.get b = some bk → b < H0.nx) {Q' : Exit → Act → World → Prop}
    (hQ : ∀ μ K F H a w, Q F H → Rel G μ K H w → FRel μ K n F a.tmps → Fr μ0 K0 H0 w0 μ K H w → a.defers = [] → Q' .normal a w)
    (hD : ∀ i o, ops[i]? = some o → ∀ j ∈ D i, ∃ e ∈ o.after.toList, Region.binds .any e = true ∧ (e.on = j ∨ j ∈ D e.on))
    (hlow : ∀ i o, ops[i]? = some o → ∀ e ∈ o.after.toList, Region.binds .any e = true → e.on < i) :
    ∀ {fuel : Nat} {listed : Array Bool} {idx : List Nat} {l : List SOper} {ctx : Ctx} {F : T V} {H : Hp} {μ : Nat → Pl} {K : Nat → Prop} {a : Act} {w : World},
      listed.size = ops.size → (∀ i, i < ops.size → (listed.getD i true = false ↔ i ∈ idx)) → (∀ i ∈ idx, i < ops.size) → idx.Nodup → idx.length ≤ fuel →
      (∀ i, i < ops.size → i ∉ idx → ∀ j ∈ D i, j ∉ idx) → Aligned P G n ops idx l → PairsOk D idx l → (l.filterMap (·.aid)).Nodup → CtxSt ctx →
      (∀ s ∈ l, ∀ k, s.aid = some k → ¬ K (base + k) ∧ base + k < H.nx ∧ H0.nx ≤ base + k) →
      Rel G μ K H w → FRel μ K n F a.tmps → Fr μ0 K0 H0 w0 μ K H w → a.defers = [] → wOps P G base Q l ctx F H → wpAny P .any ops Q' fuel listed a w := by
  intro fuel
  induction fuel with
  | zero =>
    intro listed idx l ctx F H μ K a w hsz hlist hin hnd hlen hdc hal hp haid hst hrs hR hF hFr hd h
    have hidx : idx = [] := List.eq_nil_of_length_eq_zero (by omega)
    subst hidx
    cases l with
    | cons s l => exact hal.elim
    | nil =>
      refine ⟨?_, hQ μ K F H a w h hR hF hFr hd⟩
      unfold Region.ready
      rw [List.filter_eq_nil_iff]
      intro i hi
      have hi' : i < ops.size := by simpa using hi
      have := (hlist i hi').1
      cases hl : listed.getD i true with
      | true => simp
      | false => exact absurd (this hl) (by simp)
  | succ fuel ih =>
    intro listed idx l ctx F H μ K a w hsz hlist hin hnd hlen hdc hal hp haid hst hrs hR hF hFr hd h
    refine ⟨fun hready => ?_, fun i hi => ?_⟩
    · -- nothing is ready: then nothing is left
      have hidx : idx = [] := by
        cases hid : idx with
        | nil => rfl
        | cons i0 rest =>
          exfalso
          -- the least index that is left is ready
          obtain ⟨m, hm, hmin⟩ : ∃ m ∈ idx, ∀ j ∈ idx, m ≤ j := by
            have : ∀ (l : List Nat), l ≠ [] → ∃ m ∈ l, ∀ j ∈ l, m ≤ j := by
              intro l
              induction l with
              | nil => intro h; exact absurd rfl h
              | cons x l ihl =>
                intro _
                by_cases hl : l = []
                · subst hl; exact ⟨x, by simp, by simp⟩
                · obtain ⟨m, hm, hmin⟩ := ihl hl
                  by_cases hx : x ≤ m
                  · exact ⟨x, by simp, fun j hj => by
                      rcases List.mem_cons.1 hj with rfl | hj
                      · exact Nat.le_refl _
                      · exact Nat.le_trans hx (hmin j hj)⟩
                  · exact ⟨m, by simp [hm], fun j hj => by
                      rcases List.mem_cons.1 hj with rfl | hj
                      · omega
                      · exact hmin j hj⟩
            exact this idx (by rw [hid]; simp)
          have hms := hin m hm
          have hmr : m ∈ Region.ready .any ops listed := by
            unfold Region.ready
            rw [List.mem_filter]
            refine ⟨by simpa using hms, ?_⟩
            rw [(hlist m hms).2 hm]
            have ho : ops[m]? = some ops[m] := Array.getElem?_eq_getElem hms
            rw [ho]
            simp only [Bool.not_false, Bool.true_and, Option.map_some, Option.getD_some]
            rw [Array.all_eq_true_iff_forall_mem]
            intro e he
            cases hb : Region.binds .any e with
            | false => rfl
            | true =>
              have hlt := hlow m _ ho e (by simpa using he) hb
              have hes : e.on < ops.size := by omega
              have hne : e.on ∉ idx := fun h => absurd (hmin _ h) (by omega)
              have hl : listed.getD e.on true ≠ false := fun h => hne ((hlist _ hes).1 h)
              have hsz' : e.on < listed.size := by rw [hsz]; exact hes
              simp [hsz'] at hl ⊢
              exact hl
          rw [hready] at hmr
          cases hmr
      subst hidx
      cases l with
      | cons s l => exact hal.elim
      | nil => exact hQ μ K F H a w h hR hF hFr hd
    · -- one that is ready is drawn to the front
      unfold Region.ready at hi
      rw [List.mem_filter] at hi
      obtain ⟨hi1, hi2⟩ := hi
      have his : i < ops.size := by simpa using hi1
      rw [Bool.and_eq_true] at hi2
      have hun : listed.getD i true = false := by simpa using hi2.1
      have hii : i ∈ idx := (hlist i his).1 hun
      obtain ⟨pi, qi, pre, x, post, e1, e2, g1, ⟨o, ho, hfit⟩, g3, g4, g5⟩ := Aligned.split hal hp hii
      have hdeps : ∀ e ∈ o.after.toList, Region.binds .any e = true → e.on ∉ idx := by
        intro e he hb
        have h2 := hi2.2
        rw [ho] at h2
        simp only [Option.map_some, Option.getD_some] at h2
        rw [Array.all_eq_true_iff_forall_mem] at h2
        have h3 := h2 e (by simpa using he)
        rw [hb] at h3
        simp only [Bool.not_true, Bool.false_or] at h3
        have hes : e.on < ops.size := by have := hlow i o ho e he hb; omega
        intro hmem
        have h4 := (hlist _ hes).2 hmem
        have hsz' : e.on < listed.size := by rw [hsz]; exact hes
        simp [hsz'] at h3 h4
        rw [h3] at h4
        cases h4
      have hDi : ∀ j ∈ D i, j ∉ idx := by
        intro j hj
        obtain ⟨e, he, hb, hej⟩ := hD i o ho j hj
        have hen := hdeps e he hb
        rcases hej with rfl | hej
        · exact hen
        · exact hdc e.on (by have := hlow i o ho e he hb; omega) hen j hej
      have hsw : ∀ y ∈ pre, swapOk y x = true := by
        intro y hy
        obtain ⟨j, hj, hh⟩ := g5 y hy
        rcases hh with hh | hh
        · exact absurd (by rw [e1]; simp [hj]) (hDi j hh)
        · exact hh
      have hbl : ∀ y ∈ pre, Blind x y.dst := fun y hy => by
        have := hsw y hy
        unfold swapOk at this
        rw [Bool.and_eq_true] at this
        obtain ⟨t1, _⟩ := tmOk_spec this.1
        exact Blind.mk' fun k hk => ⟨(t1 k hk).1, (t1 k hk).2.1⟩
      rw [e2] at h haid hrs
      have hfm : (pre ++ x :: post).filterMap (·.aid) = (pre ++ [x]).filterMap (·.aid) ++ post.filterMap (·.aid) := by
        rw [show pre ++ x :: post = (pre ++ [x]) ++ post by simp, List.filterMap_append]
      have hnd1 : ((pre ++ [x]).filterMap (·.aid)).Nodup := by rw [hfm] at haid; exact (List.nodup_append.1 haid).1
      have hval : HasVal x F := reach hlt0 g1 hbl hR hF hFr (fun y hy k hk => hrs y (by simp [hy]) k hk) (by
        rw [List.filterMap_append] at hnd1; exact (List.nodup_append.1 hnd1).1) h
      have hfree : ∀ k ∈ (pre ++ [x]).filterMap (·.aid), base + k < H.nx ∧ H.get (base + k) = none := by
        intro k hk
        obtain ⟨s, hs, hk'⟩ := List.mem_filterMap.1 hk
        have hs' : s ∈ pre ++ x :: post := by
          rcases List.mem_append.1 hs with h | h
          · simp [h]
          · simp at h; subst h; simp
        obtain ⟨r1, r2, r3⟩ := hrs s hs' k hk'
        refine ⟨r2, ?_⟩
        cases hg : H.get (base + k) with
        | none => rfl
        | some bk => exact absurd (hR.dom _ _ hg) r1
      have h' := pull hsw hst hval hfree hnd1 h
      refine op_ok hlt0 ho hfit hR hF hFr (hrs x (by simp)) h' fun μ' K' F' H' a' w' ctx' k1 k2 k3 k4 k5 k6 _ k8 k9 => ?_
      have hidxlen : (pi ++ qi).length + 1 = idx.length := by rw [e1]; simp; omega
      have hndi : (pi ++ qi).Nodup ∧ i ∉ pi ++ qi := by
        rw [e1] at hnd
        have hperm : (pi ++ i :: qi).Perm (i :: (pi ++ qi)) := List.perm_middle
        have := (hperm.nodup_iff).1 hnd
        exact ⟨(List.nodup_cons.1 this).2, (List.nodup_cons.1 this).1⟩
      have hmem : ∀ j, j ∈ pi ++ qi ↔ j ∈ idx ∧ j ≠ i := by
        intro j
        rw [e1]
        constructor
        · intro hj
          refine ⟨?_, fun e => hndi.2 (e ▸ hj)⟩
          rcases List.mem_append.1 hj with h | h
          · simp [h]
          · simp [h]
        · rintro ⟨hj, hne⟩
          rcases List.mem_append.1 hj with h | h
          · simp [h]
          · rcases List.mem_cons.1 h with h | h
            · exact absurd h hne
            · simp [h]
      have haid' : ((pre ++ post).filterMap (·.aid)).Nodup ∧ ∀ k, x.aid = some k → k ∉ (pre ++ post).filterMap (·.aid) := by
        have hperm : (pre ++ x :: post).Perm (x :: (pre ++ post)) := List.perm_middle
        have h1 := ((hperm.filterMap (·.aid)).nodup_iff).1 haid
        simp only [List.filterMap_cons] at h1
        cases hx : x.aid with
        | none => rw [hx] at h1; exact ⟨h1, by simp⟩
        | some k => rw [hx] at h1; exact ⟨(List.nodup_cons.1 h1).2, fun j hj => by obtain rfl := Option.some.inj hj; exact (List.nodup_cons.1 h1).1⟩
      refine ih (by simpa using hsz) (fun j hj => ?_) (fun j hj => hin j ((hmem j).1 hj).1) hndi.1 (by omega) (fun j hj hjn k hk => ?_) g3 g4 haid'.1 (k8 hst) (fun s hs k hk => ?_) k1 k2 k3 (k4.trans hd) k9
      · rw [hmem]
        by_cases e : j = i
        · subst e
          have : (listed.setIfInBounds j true).getD j true = true := by
            have : j < listed.size := by rw [hsz]; exact his
            simp [this]
          rw [this]
          simp
        · have : (listed.setIfInBounds i true).getD j true = listed.getD j true := by
            simp only [Array.getD_eq_getD_getElem?]
            rw [Array.getElem?_setIfInBounds_ne (fun h => e h.symm)]
          rw [this, hlist j hj]
          simp [e]
      · -- still closed downwards
        rw [hmem] at hjn
        intro hkm
        have hkm' := ((hmem k).1 hkm).1
        by_cases e : j = i
        · subst e; exact hDi k hk hkm'
        · have hji : j ∉ idx := fun h => hjn ⟨h, e⟩
          exact hdc j hj hji k hk hkm'
      · have hs' : s ∈ pre ++ x :: post := by
          rcases List.mem_append.1 hs with h | h
          · simp [h]
          · simp [h]
        obtain ⟨r1, r2, r3⟩ := hrs s hs' k hk
        refine ⟨fun hk' => ?_, by omega, r3⟩
        rcases k6 _ r2 hk' with h | ⟨j, hj, he⟩
        · exact r1 h
        · exact haid'.2 j hj (by
            have : j = k := by omega
            rw [this]
            exact List.mem_filterMap.2 ⟨s, hs, hk⟩)
end
end Go.Ab

/- From the model's code to the abstract code; the rules for it. -/
namespace Go.Ab

inductive SC where
  | skip
  | ops (l : List SOper) (res : Nat)
  | seq (a b : SC)
  | cond (d : Opd) (a b : SC)
  | block (id : Nat) (a : SC)
  | loop (a : SC)
  | exit (id : Nat)
  | ret

/-- what is added to an operation: its reserved name, the loads it watches, whether it is watched -/
structure Extra where
  aid : Nat → Option Nat
  watch : Nat → List Nat
  keep : Nat → Bool

def cpOper (P : Program) (G n : Nat) (ops : Array Oper) (x : Extra) (i : Nat) : Option SOper :=
  match ops[i]? with
  | none => none
  | some o => match cpOp P G n o, cGuard n ops o.guard with
    | some op, some g => if cDst n o.dst then some ⟨i, o.dst, op, g, x.aid i, x.watch i, x.keep i⟩ else none
    | _, _ => none

def cpAll (P : Program) (G n : Nat) (ops : Array Oper) (x : Extra) : List Nat → Option (List SOper)
  | [] => some []
  | i :: r => match cpOper P G n ops x i, cpAll P G n ops x r with
    | some s, some l => some (s :: l)
    | _, _ => none

def noExtra : Extra := ⟨fun _ => none, fun _ => [], fun _ => false⟩

/-- all that each operation hangs on -/
def depsOf (ops : List Oper) : List (List Nat) :=
  ops.foldl (init := []) fun acc o => acc ++ [(o.after.toList.foldl (init := []) fun s e => if Region.binds .any e then (e.on :: acc.getD e.on []).foldl (fun s j => if s.contains j then s else j :: s) s else s)]

def Kd.light : Kd → Bool
  | .p => true
  | .l => true
  | _ => false

/-- light operations as early as may be, the others as the text has them -/
def sched (D : List (List Nat)) (kds : List Kd) : Nat → List Nat → List Nat → List Nat
  | 0, _, acc => acc.reverse
  | f + 1, rest, acc =>
    let ok := fun i => (D.getD i []).all fun j => acc.contains j
    match rest.find? fun i => (kds.getD i .e).light && ok i with
    | some i => sched D kds f (rest.filter (· != i)) (i :: acc)
    | none => match rest.find? fun i => !(kds.getD i .e).light with
      | some i => sched D kds f (rest.filter (· != i)) (i :: acc)
      | none => acc.reverse

def kdsOf (P : Program) (G n : Nat) (ops : List Oper) : List Kd := ops.map fun o => match cpOp P G n o with
  | some op => op.kd
  | none => .e

def Kd.isL : Kd → Bool
  | .l => true
  | _ => false
def Kd.isA : Kd → Bool
  | .a => true
  | _ => false
def Kd.isE : Kd → Bool
  | .e => true
  | .c => true
  | _ => false

/-- for each operation of the order: the loads before it that it does not hang on -/
def watches (D : List (List Nat)) (kds : List Kd) : List Nat → List Nat → List (Nat × List Nat)
  | [], _ => []
  | i :: r, ls =>
    if (kds.getD i .e).isE then (i, ls.filter fun j => !(D.getD i []).contains j) :: watches D kds r ls
    else watches D kds r (if (kds.getD i .e).isL then i :: ls else ls)

def pairsB (D : List (List Nat)) : List Nat → List SOper → Bool
  | i :: idx, s :: l => ((idx.zip l).all fun p => (D.getD p.1 []).contains i || swapOk s p.2) && pairsB D idx l
  | _, _ => true

def nodupB : List Nat → Bool
  | [] => true
  | i :: l => !l.contains i && nodupB l

def depB (D : List (List Nat)) (ops : Array Oper) (i : Nat) : Bool :=
  match ops[i]? with
  | none => true
  | some o => (D.getD i []).all (fun j => o.after.toList.any fun e => Region.binds .any e && (e.on == j || (D.getD e.on []).contains j)) && o.after.toList.all fun e => !Region.binds .any e || decide (e.on < i)

def drawB (D : List (List Nat)) (ops : Array Oper) (idx : List Nat) (l : List SOper) (res : Nat) : Bool :=
  pairsB D idx l && nodupB idx && idx.all (fun i => decide (i < ops.size)) && (List.range ops.size).all (fun i => idx.contains i) && (List.range ops.size).all (depB D ops) && nodupB (l.filterMap (·.aid)) && decide (idx.length ≤ ops.size) && (l.filterMap (·.aid)).all fun k => decide (k < res)

def cpDraw (P : Program) (G n : Nat) (ops : Array Oper) : Option (List SOper) :=
  let D := depsOf ops.toList
  let kds := kdsOf P G n ops.toList
  let idx := sched D kds ops.size (List.range ops.size) []
  let ws := watches D kds idx []
  let x : Extra := ⟨fun i => if (kds.getD i .e).isA then some i else none, fun i => ((ws.find? fun p => p.1 == i).map (·.2)).getD [], fun i => ws.any fun p => p.2.contains i⟩
  match cpAll P G n ops x idx with
  | none => none
  | some l => if drawB D ops idx l ops.size then some l else none

def cpCode (P : Program) (G n : Nat) : Code → Option SC
  | .skip => some .skip
  | .region _ ops draw =>
    if draw then (cpDraw P G n ops).map fun l => .ops l ops.size
    else (cpAll P G n ops noExtra (List.range ops.size)).map fun l => .ops l 0
  | .seq a b => match cpCode P G n a, cpCode P G n b with
    | some a, some b => some (.seq a b)
    | _, _ => none
  | .cond c a b => match cO G n c, cpCode P G n a, cpCode P G n b with
    | some d, some a, some b => some (.cond d a b)
    | _, _, _ => none
  | .block id a => (cpCode P G n a).map (.block id)
  | .loop a => (cpCode P G n a).map .loop
  | .exit id => some (.exit id)
  | .ret => some .ret
  | _ => none

inductive SRes where
  | t (n : Nat)
  | cell (agg : Bool) (k : Nat) (n : Nat)

def aRes (F : T V) (H : Hp) : SRes → Option V
  | .t n => some ((F.get n).getD V.undef)
  | .cell agg k n => aLoad F H (.load agg k (.t n))

def aResL (F : T V) (H : Hp) : List SRes → Option (List V)
  | [] => some []
  | r :: l => match aRes F H r, aResL F H l with
    | some v, some vs => if isOne v then some (v :: vs) else none
    | _, _ => none

def aResult (F : T V) (H : Hp) (rs : List SRes) : Option V :=
  match aResL F H rs with
  | some [v] => some v
  | some vs => some (.tup vs)
  | none => none

def cpRes (P : Program) (n : Nat) : List ResultVar → Option (List SRes)
  | [] => some []
  | .tmp t :: l => if t < n then (cpRes P n l).map (.t t :: ·) else none
  | .cell a t :: l => match isAggT P t, sizeT P t with
    | some g, some k => if a < n then (cpRes P n l).map (.cell g k a :: ·) else none
    | _, _ => none

structure SFn where
  n : Nat
  code : SC
  res : List SRes

def cpFn (P : Program) (G : Nat) (f : FuncId) : Option SFn :=
  match P.funcs[f]? with
  | none => none
  | some fn => match fn.body with
    | none => none
    | some c => match cpCode P G fn.ntmps c, cpRes P fn.ntmps fn.results.toList with
      | some s, some rs => some ⟨fn.ntmps, s, rs⟩
      | _, _ => none

def initF : List V → Nat → T V
  | [], _ => .lf
  | v :: l, i => (initF l (i + 1)).set i (some v)

def retQ (rs : List SRes) (R : V → Hp → Prop) : Exit → T V → Hp → Prop
  | .normal, F, H => match aResult F H rs with
    | some v => R v H
    | none => False
  | .ret, F, H => match aResult F H rs with
    | some v => R v H
    | none => False
  | _, _, _ => False

/-- WHAT ABSTRACT CODE COMES TO. -/
def SWP (P : Program) (G n : Nat) (s : SC) (Q : Exit → T V → Hp → Prop) (F : T V) (H : Hp) : Prop := ∀ c, cpCode P G n c = some s → AWP P G n c Q F H

section
variable {P : Program} {G n : Nat}

theorem cpOper_fits {ops : Array Oper} {x : Extra} {i : Nat} {s : SOper} (h : cpOper P G n ops x i = some s) : (∃ o, ops[i]? = some o ∧ Fits P G n ops o s) ∧ s.aid = x.aid i := by
  unfold cpOper at h
  split at h
  · cases h
  · rename_i o ho
    split at h
    · rename_i op g h1 h2
      split at h
      · rename_i h3
        obtain rfl := Option.some.inj h
        exact ⟨⟨o, ho, h1, rfl, h3, h2⟩, rfl⟩
      · cases h
    · cases h

theorem cpAll_aligned {ops : Array Oper} {x : Extra} : ∀ {idx : List Nat} {l : List SOper}, cpAll P G n ops x idx = some l → Aligned P G n ops idx l ∧ ∀ s ∈ l, ∃ i ∈ idx, s.aid = x.aid i
  | [], l, h => by simp [cpAll] at h; subst h; exact ⟨trivial, by simp⟩
  | i :: idx, l, h => by
    simp only [cpAll] at h
    split at h
    · rename_i s r h1 h2
      obtain rfl := Option.some.inj h
      obtain ⟨g1, g2⟩ := cpOper_fits h1
      obtain ⟨g3, g4⟩ := cpAll_aligned h2
      refine ⟨⟨g1, g3⟩, fun t ht => ?_⟩
      rcases List.mem_cons.1 ht with rfl | ht
      · exact ⟨i, by simp, g2⟩
      · obtain ⟨j, hj, e⟩ := g4 t ht; exact ⟨j, by simp [hj], e⟩
    · cases h

theorem pairsB_ok {D : List (List Nat)} : ∀ {idx : List Nat} {l : List SOper}, pairsB D idx l = true → PairsOk (fun i => D.getD i []) idx l
  | i :: idx, s :: l, h => by
    simp only [pairsB, Bool.and_eq_true, List.all_eq_true] at h
    refine ⟨fun j t hjt => ?_, pairsB_ok h.2⟩
    have := h.1 (j, t) hjt
    simp only [Bool.or_eq_true] at this
    exact this.imp (by simp) id
  | [], _, _ => trivial
  | _ :: _, [], _ => trivial

theorem nodupB_ok : ∀ {l : List Nat}, nodupB l = true → l.Nodup
  | [], _ => List.nodup_nil
  | i :: l, h => by
    simp only [nodupB, Bool.and_eq_true] at h
    exact List.nodup_cons.2 ⟨by simpa using h.1, nodupB_ok h.2⟩

theorem awp_draw (hm : P.follows .mixedOrders = true) {id res : Nat} {ops : Array Oper} {D : List (List Nat)} {idx : List Nat} {l : List SOper} (hal : Aligned P G n ops idx l) (hB : drawB D ops idx l res = true)
    {Q : Exit → T V → Hp → Prop} {F : T V} {H : Hp} (h : wOps P G H.nx (Q .normal) l [] F (H.skip res)) : AWP P G n (.region id ops true) Q F H := by
  intro μ K w a hR hF hd
  unfold drawB at hB
  simp only [Bool.and_eq_true, List.all_eq_true, decide_eq_true_eq, List.mem_range] at hB
  obtain ⟨⟨⟨⟨⟨⟨⟨h1, h2⟩, h3⟩, h4⟩, h5⟩, h6⟩, h8⟩, h7⟩ := hB
  have hdep : ∀ i o, ops[i]? = some o → depB D ops i = true := fun i o ho => h5 i (Array.getElem?_eq_some_iff.1 ho).1
  refine wp_region_any hm ?_
  have hR' := (hR.drawn (w.drawn + 1)).skip res
  refine any_ok (D := fun i => D.getD i []) (base := H.nx) (Q := Q .normal) (μ0 := μ) (K0 := K) (H0 := H) (w0 := w) hR.lt' (fun μ' K' F' H' a' w' g1 g2 g3 g4 g5 => ⟨g5, F', H', μ', K', g1, g2, g3, g4⟩) (fun i o ho j hj => ?_) (fun i o ho e he hb => ?_)
    (by simp) (fun i hi => ?_) (fun i hi => h3 i hi) (nodupB_ok h2) ?_ (fun i hi hni => ?_) hal (pairsB_ok h1) (nodupB_ok h6) (fun k p hp => by cases hp) (fun s hs k hk => ?_) hR' hF ((Fr.drawn hR _ (Nat.le_succ _)).trans hR.lt' (Fr.skip (hR.drawn _) res)) hd h
  · have := hdep i o ho
    unfold depB at this
    rw [ho] at this
    simp only [Bool.and_eq_true, List.all_eq_true, List.any_eq_true, Bool.or_eq_true] at this
    obtain ⟨e, he, hb, hh⟩ := this.1 j hj
    exact ⟨e, he, hb, hh.imp (by simp) (by simp)⟩
  · have := hdep i o ho
    unfold depB at this
    rw [ho] at this
    simp only [Bool.and_eq_true, List.all_eq_true, Bool.or_eq_true, decide_eq_true_eq, Bool.not_eq_true'] at this
    rcases this.2 e he with h | h
    · rw [hb] at h; cases h
    · exact h
  · constructor
    · intro _
      have := h4 i hi
      simpa using this
    · intro _; simp [hi]
  · exact h8
  · exact absurd (by have := h4 i hi; simpa using this) hni
  · have hk' : k < res := h7 k (List.mem_filterMap.2 ⟨s, hs, hk⟩)
    refine ⟨fun hkk => absurd (hR.lt _ hkk) (by omega), by simp; omega, by omega⟩

theorem swp_skip {Q : Exit → T V → Hp → Prop} {F : T V} {H : Hp} (h : Q .normal F H) : SWP P G n .skip Q F H := by
  intro c hc
  cases c <;> simp only [cpCode] at hc <;> try (cases hc; done)
  case skip => exact awp_skip h
  case region id ops draw => split at hc <;> simp at hc
  case seq a b => split at hc <;> cases hc
  case cond d a b => split at hc <;> cases hc
  case block id a => simp at hc
  case loop a => simp at hc

theorem swp_ops (hm : P.follows .mixedOrders = true) {l : List SOper} {res : Nat} {Q : Exit → T V → Hp → Prop} {F : T V} {H : Hp} (h : wOps P G H.nx (Q .normal) l [] F (H.skip res)) : SWP P G n (.ops l res) Q F H := by
  intro c hc
  cases c <;> simp only [cpCode] at hc <;> try (cases hc; done)
  case region id ops draw =>
    cases draw with
    | false =>
      simp only [Bool.false_eq_true, if_false, Option.map_eq_some_iff, SC.ops.injEq] at hc
      obtain ⟨l', hl, rfl, rfl⟩ := hc
      obtain ⟨h1, h2⟩ := cpAll_aligned hl
      exact awp_region h1 (fun s hs => by obtain ⟨i, _, e⟩ := h2 s hs; exact e) h
    | true =>
      simp only [if_true, Option.map_eq_some_iff, SC.ops.injEq] at hc
      obtain ⟨l', hl, rfl, rfl⟩ := hc
      unfold cpDraw at hl
      simp only at hl
      split at hl
      · cases hl
      · rename_i l'' hall
        split at hl
        · rename_i hB
          obtain rfl := Option.some.inj hl
          exact awp_draw hm (cpAll_aligned hall).1 hB h
        · cases hl
  case seq a b => split at hc <;> cases hc
  case cond d a b => split at hc <;> cases hc
  case block id a => simp at hc
  case loop a => simp at hc

theorem swp_seq {a b : SC} {Q : Exit → T V → Hp → Prop} {F : T V} {H : Hp} (h : SWP P G n a (thenQ (SWP P G n b Q) Q) F H) : SWP P G n (.seq a b) Q F H := by
  intro c hc
  cases c <;> simp only [cpCode] at hc <;> try (cases hc; done)
  case seq x y =>
    split at hc
    · rename_i x' y' hx hy
      simp only [Option.some.injEq, SC.seq.injEq] at hc
      obtain ⟨rfl, rfl⟩ := hc
      refine awp_seq (awp_mono (h x hx) fun e F' H' he => ?_)
      cases e with
      | normal => exact (show SWP P G n y' Q F' H' from he) y hy
      | _ => exact he
    · cases hc
  case region id ops draw => split at hc <;> simp at hc
  case cond d a b => split at hc <;> cases hc
  case block id a => simp at hc
  case loop a => simp at hc

theorem swp_cond {d : Opd} {a b : SC} {Q : Exit → T V → Hp → Prop} {F : T V} {H : Hp} {t : Bool} (ht : d.ev F = .one (.bool t)) (h : SWP P G n (if t then a else b) Q F H) : SWP P G n (.cond d a b) Q F H := by
  intro c hc
  cases c <;> simp only [cpCode] at hc <;> try (cases hc; done)
  case cond o x y =>
    split at hc
    · rename_i d' x' y' h1 hx hy
      simp only [Option.some.injEq, SC.cond.injEq] at hc
      obtain ⟨rfl, rfl, rfl⟩ := hc
      refine awp_cond h1 ht ?_
      cases t
      · exact h y hy
      · exact h x hx
    · cases hc
  case region id ops draw => split at hc <;> simp at hc
  case seq a b => split at hc <;> cases hc
  case block id a => simp at hc
  case loop a => simp at hc

theorem swp_block {id : Nat} {a : SC} {Q : Exit → T V → Hp → Prop} {F : T V} {H : Hp} (h : SWP P G n a (blockQ id Q) F H) : SWP P G n (.block id a) Q F H := by
  intro c hc
  cases c <;> simp only [cpCode] at hc <;> try (cases hc; done)
  case block id' x =>
    simp only [Option.map_eq_some_iff, SC.block.injEq] at hc
    obtain ⟨x', hx, rfl, rfl⟩ := hc
    exact awp_block (h x hx)
  case region id ops draw => split at hc <;> simp at hc
  case seq a b => split at hc <;> cases hc
  case cond d a b => split at hc <;> cases hc
  case loop a => simp at hc

theorem swp_loop {a : SC} {Q : Exit → T V → Hp → Prop} {F : T V} {H : Hp} (I : Nat → T V → Hp → Prop) {m : Nat} (h0 : I m F H) (round : ∀ m F H, I m F H → SWP P G n a (thenQ (fun F' H' => ∃ m', m' < m ∧ I m' F' H') Q) F H) : SWP P G n (.loop a) Q F H := by
  intro c hc
  cases c <;> simp only [cpCode] at hc <;> try (cases hc; done)
  case loop x =>
    simp only [Option.map_eq_some_iff, SC.loop.injEq] at hc
    obtain ⟨x', hx, rfl⟩ := hc
    exact awp_loop I h0 fun m F H hI => round m F H hI x hx
  case region id ops draw => split at hc <;> simp at hc
  case seq a b => split at hc <;> cases hc
  case cond d a b => split at hc <;> cases hc
  case block id a => simp at hc

theorem swp_exit {id : Nat} {Q : Exit → T V → Hp → Prop} {F : T V} {H : Hp} (h : Q (.exit id) F H) : SWP P G n (.exit id) Q F H := by
  intro c hc
  cases c <;> simp only [cpCode] at hc <;> try (cases hc; done)
  case exit id' => simp only [Option.some.injEq, SC.exit.injEq] at hc; subst hc; exact awp_exit h
  case region id ops draw => split at hc <;> simp at hc
  case seq a b => split at hc <;> cases hc
  case cond d a b => split at hc <;> cases hc
  case block id a => simp at hc
  case loop a => simp at hc

theorem swp_ret {Q : Exit → T V → Hp → Prop} {F : T V} {H : Hp} (h : Q .ret F H) : SWP P G n .ret Q F H := by
  intro c hc
  cases c <;> simp only [cpCode] at hc <;> try (cases hc; done)
  case ret => exact awp_ret h
  case region id ops draw => split at hc <;> simp at hc
  case seq a b => split at hc <;> cases hc
  case cond d a b => split at hc <;> cases hc
  case block id a => simp at hc
  case loop a => simp at hc

theorem swp_mono {s : SC} {Q Q' : Exit → T V → Hp → Prop} {F : T V} {H : Hp} (h : SWP P G n s Q F H) (hq : ∀ e F H, Q e F H → Q' e F H) : SWP P G n s Q' F H :=
  fun c hc => awp_mono (h c hc) hq

/-- a heap that a world can have -/
def WF (H : Hp) : Prop := ∀ b bk, H.get b = some bk → b < H.nx

theorem swp_wf {s : SC} {Q : Exit → T V → Hp → Prop} {F : T V} {H : Hp} (h : WF H → SWP P G n s Q F H) : SWP P G n s Q F H :=
  fun c hc μ K w a hR hF hd => h hR.lt' c hc μ K w a hR hF hd
theorem acalls_wf {f : FuncId} {args : List V} {H : Hp} {R : V → Hp → Prop} (h : WF H → ACalls P G f args H R) : ACalls P G f args H R :=
  fun μ K w xs hR ha => h hR.lt' μ K w xs hR ha
theorem ACalls.wf {f : FuncId} {args : List V} {H : Hp} {R : V → Hp → Prop} (h : ACalls P G f args H R) : ACalls P G f args H fun v H' => R v H' ∧ WF H' :=
  fun μ K w xs hR ha => (h μ K w xs hR ha).mono fun _ _ ⟨x, he, v, H', μ', K', h1, h2, h3, h4⟩ => ⟨x, he, v, H', μ', K', ⟨h1, h3.lt'⟩, h2, h3, h4⟩

theorem initF_get : ∀ {l : List V} {i j : Nat}, (initF l i).get j = if i ≤ j then l[j - i]? else none
  | [], i, j => by simp [initF]
  | v :: l, i, j => by
    simp only [initF]
    rw [T.get_set]
    by_cases e : j = i
    · subst e; simp
    · rw [if_neg e, initF_get]
      by_cases h : i + 1 ≤ j
      · rw [if_pos h, if_pos (by omega), show j - i = (j - (i + 1)) + 1 by omega]; simp
      · rw [if_neg h, if_neg (by omega)]

def resOne (tmps : Array Value) : ResultVar → Sem Value
  | .tmp t => pure (tmps.getD t Go.undef)
  | .cell c t => do loadVar t (← asAddr (tmps.getD c Go.undef))

theorem mapM_head {rv : List ResultVar} {r : ResultVar} {f : ResultVar → Sem Value} {x : Value} {xs : List Value} {w : World} (h1 : (f r).run P w = .ok x w) (h2 : (rv.mapM f).run P w = .ok xs w) : ((r :: rv).mapM f).run P w = .ok (x :: xs) w := by
  rw [List.mapM_cons, Sem.run_bind, h1, Result.andThen_ok, Sem.run_bind, h2]
  rfl

theorem aRes_ok {μ : Nat → Pl} {K : Nat → Prop} {F : T V} {H : Hp} {w : World} {a : Act} (hR : Rel G μ K H w) (hF : FRel μ K n F a.tmps) : ∀ {rv : List ResultVar} {rs : List SRes} {vs : List V}, cpRes P n rv = some rs → aResL F H rs = some vs →
    ∃ xs : List Value, All2 (RV1 μ K) vs xs ∧ (rv.mapM (resOne a.tmps)).run P w = .ok xs w
  | [], rs, vs, h1, h2 => by
    simp [cpRes] at h1; subst h1
    simp [aResL] at h2; subst h2
    exact ⟨[], trivial, by simp⟩
  | .tmp t :: rv, rs, vs, h1, h2 => by
    simp only [cpRes] at h1
    split at h1
    · rename_i ht
      simp only [Option.map_eq_some_iff] at h1
      obtain ⟨rs', hrs, rfl⟩ := h1
      simp only [aResL, aRes] at h2
      split at h2
      · rename_i v vs' e1 e2
        split at h2
        · rename_i hone
          obtain rfl := Option.some.inj h2
          obtain rfl := Option.some.inj e1
          obtain ⟨xs, hall, hrun⟩ := aRes_ok hR hF hrs e2
          exact ⟨a.tmps.getD t Go.undef :: xs, ⟨isOne_rv hone (hF.2 t ht), hall⟩, mapM_head rfl hrun⟩
        · cases h2
      · cases h2
    · cases h1
  | .cell c t :: rv, rs, vs, h1, h2 => by
    simp only [cpRes] at h1
    split at h1
    · rename_i g k hg hk
      split at h1
      · rename_i hc
        simp only [Option.map_eq_some_iff] at h1
        obtain ⟨rs', hrs, rfl⟩ := h1
        simp only [aResL, aRes] at h2
        split at h2
        · rename_i v vs' e1 e2
          split at h2
          · rename_i hone
            obtain rfl := Option.some.inj h2
            obtain ⟨xs, hall, hrun⟩ := aRes_ok hR hF hrs e2
            have hv := hF.2 c hc
            simp only [aLoad, Opd.ev] at e1
            split at e1
            · rename_i b o he
              rw [he] at hv
              obtain ⟨hkb, hv'⟩ : K b ∧ a.tmps.getD c Go.undef = .pointer (some ((μ b).addr o)) := hv
              cases g with
              | true =>
                simp only [if_true, Option.map_eq_some_iff] at e1
                obtain ⟨l, hl, rfl⟩ := e1
                obtain ⟨ys, ha, hr⟩ := hR.loads (P := P) (n := k) (b := b) (o := o) (i := 0) (acc := #[]) hl
                have hr' : (loadCells ((μ b).addr o) k).run P w = .ok ys.toArray w := by simpa [loadCells] using hr
                refine ⟨.agg ys.toArray :: xs, ⟨⟨ys, rfl, ha⟩, hall⟩, mapM_head ?_ hrun⟩
                simp only [resOne, Sem.run_bind, hv', asAddr, Sem.run_pure, Result.andThen_ok, loadVar, isAggT_run hg, if_true, sizeT_run hk, hr']
              | false =>
                simp only [Bool.false_eq_true, if_false, Option.map_eq_some_iff] at e1
                obtain ⟨cc, hcc, rfl⟩ := e1
                obtain ⟨y, hy, hr⟩ := hR.cell hcc
                refine ⟨y :: xs, ⟨hr, hall⟩, mapM_head ?_ hrun⟩
                simp only [resOne, Sem.run_bind, hv', asAddr, Sem.run_pure, Result.andThen_ok, loadVar, isAggT_run hg, Bool.false_eq_true, if_false, run_load, hy]
            · cases e1
          · cases h2
        · cases h2
      · cases h1
    · cases h1

/-- A FUNCTION, BY ITS ABSTRACT BODY. -/
theorem fn_ok {f : FuncId} {sf : SFn} (hf : cpFn P G f = some sf) {args : List V} {H : Hp} {R : V → Hp → Prop} (hn : args.length ≤ sf.n) (h : SWP P G sf.n sf.code (retQ sf.res R) (initF args 0) H) : ACalls P G f args H R := by
  unfold cpFn at hf
  split at hf
  · cases hf
  · rename_i fn hfn
    split at hf
    · cases hf
    · rename_i c hb
      split at hf
      · rename_i s rs hs hrs
        obtain rfl := Option.some.inj hf
        intro μ K w xs hR ha
        refine calls_of_wp hfn hb ?_
        have hlen := ha.len
        have hF0 : FRel μ K fn.ntmps (initF args 0) (xs.toArray ++ Array.replicate (fn.ntmps - xs.toArray.size) Go.undef) := by
          refine ⟨by simp; simp at hn; omega, fun i hi => ?_⟩
          rw [initF_get]
          simp only [Nat.zero_le, if_true, Nat.sub_zero]
          by_cases hlt : i < xs.length
          · have h1 : args[i]? = some args[i] := List.getElem?_eq_getElem (by omega)
            rw [h1]
            obtain ⟨x, hx, hr⟩ := ha.at i _ h1
            have : (xs.toArray ++ Array.replicate (fn.ntmps - xs.toArray.size) Go.undef).getD i Go.undef = x := by
              simp [Array.getD_eq_getD_getElem?, Array.getElem?_append, hlt, List.getElem?_eq_getElem hlt] at hx ⊢
              exact hx
            rw [this]
            exact hr
          · have h1 : args[i]? = none := List.getElem?_eq_none (by omega)
            rw [h1]
            have : (xs.toArray ++ Array.replicate (fn.ntmps - xs.toArray.size) Go.undef).getD i Go.undef = Go.undef := by
              simp only [Array.getD_eq_getD_getElem?, Array.getElem?_append]
              rw [if_neg (by simpa using hlt)]
              rw [Array.getElem?_replicate]
              split <;> rfl
            rw [this]
            exact RV.undef
        refine wp_mono (h c hs μ K w ⟨_, []⟩ hR hF0 rfl) fun e a' w' he => ?_
        obtain ⟨hd, F', H', μ', K', h1, h2, h3, h4⟩ := he
        have fin : (match aResult F' H' rs with
            | some v => R v H'
            | none => False) → a'.defers = [] ∧ ∃ v, (results fn a'.tmps).run P w' = .ok v w' ∧ ∃ x, Ending.returned v = .returned x ∧ ∃ v H' μ' K', R v H' ∧ RV μ' K' v x ∧ Rel G μ' K' H' w' ∧ Fr μ K H w μ' K' H' w' := by
          intro hres
          refine ⟨hd, ?_⟩
          unfold aResult at hres
          cases hl : aResL F' H' rs with
          | none => simp [hl] at hres
          | some vs =>
            obtain ⟨ys, hall, hrun⟩ := aRes_ok (P := P) h2 h3 hrs hl
            have hrun' : (results fn a'.tmps).run P w' = .ok (if h : ys.toArray.size = 1 then ys.toArray[0] else .tuple ys.toArray) w' := by
              have he : results fn a'.tmps = (do let vs ← fn.results.mapM (resOne a'.tmps); pure (if h : vs.size = 1 then vs[0] else .tuple vs)) := by
                unfold results resOne
                rfl
              rw [he, Sem.run_bind, Array.mapM_eq_mapM_toList, Sem.run_map, hrun]
              rfl
            clear hrun
            match vs, ys, hall, hl, hrun' with
            | [v], [y], hall, hl, hrun' =>
              simp only [hl] at hres
              exact ⟨y, by rw [hrun']; rfl, y, rfl, v, H', μ', K', hres, RV.of1 hall.1, h2, h4⟩
            | [], [], _, hl, hrun' =>
              simp only [hl] at hres
              exact ⟨.tuple #[], by rw [hrun']; rfl, _, rfl, .tup [], H', μ', K', hres, RV.undef, h2, h4⟩
            | v1 :: v2 :: vs, y1 :: y2 :: ys, hall, hl, hrun' =>
              simp only [hl] at hres
              exact ⟨.tuple (y1 :: y2 :: ys).toArray, by rw [hrun']; simp, _, rfl, .tup (v1 :: v2 :: vs), H', μ', K', hres, ⟨_, rfl, hall⟩, h2, h4⟩
            | [], _ :: _, hall, _, _ => exact hall.elim
            | _ :: _, [], hall, _, _ => exact hall.elim
            | [_], _ :: _ :: _, hall, _, _ => exact hall.2.elim
            | _ :: _ :: _, [_], hall, _, _ => exact hall.2.elim
        cases e with
        | normal => exact fin h1
        | ret => exact fin h1
        | exit id => exact h1.elim
        | goto l => exact h1.elim
        | panic ch => exact h1.elim
        | outgrown => exact h1.elim
      · cases hf
end
end Go.Ab

/- An evaluator for closed calls, and calls beside memory that they do not know. -/
namespace Go.Ab

def Ceq : C → C → Bool
  | .bool a, .bool b => a == b
  | .int k a, .int k' b => decide (k = k') && decide (a = b)
  | .str a, .str b => decide (a.data = b.data)
  | .ptr b o, .ptr b' o' => decide (b = b') && decide (o = o')
  | .nilp, .nilp => true
  | .slc b o l c e x, .slc b' o' l' c' e' x' => decide (b = b') && decide (o = o') && decide (l = l') && decide (c = c') && decide (e = e') && (x == x')
  | .nils, .nils => true
  | .map b, .map b' => decide (b = b')
  | .nilm, .nilm => true
  | .fn f l, .fn f' l' => decide (f = f') && decide (l = l')
  | .nilf, .nilf => true
  | _, _ => false

theorem Ceq_ok {a b : C} (h : Ceq a b = true) : a = b := by
  cases a <;> cases b <;> simp [Ceq] at h <;> simp_all
  rename_i s t
  cases s; cases t; simp_all

def Leq : List C → List C → Bool
  | [], [] => true
  | a :: l, b :: m => Ceq a b && Leq l m
  | _, _ => false
theorem Leq_ok : ∀ {l m : List C}, Leq l m = true → l = m
  | [], [], _ => rfl
  | a :: l, b :: m, h => by
    simp only [Leq, Bool.and_eq_true] at h
    rw [Ceq_ok h.1, Leq_ok h.2]
  | [], _ :: _, h => by simp [Leq] at h
  | _ :: _, [], h => by simp [Leq] at h
def Veq : V → V → Bool
  | .one a, .one b => Ceq a b
  | .agg l, .agg m => Leq l m
  | _, _ => false
theorem Veq_ok {a b : V} (h : Veq a b = true) : a = b := by
  cases a <;> cases b <;> simp only [Veq] at h
  all_goals first
    | rw [Ceq_ok h]
    | rw [Leq_ok h]
    | cases h

abbrev ECtx := List (Nat × T V × LoadOp × V)

def watchE (ws : List Nat) (ctx : ECtx) (H : Hp) : Bool :=
  ws.all fun k => ctx.all fun e => e.1 != k || (match aLoad e.2.1 H e.2.2.1 with
    | some v => Veq v e.2.2.2
    | none => false)

def evOps (tb : Nat → Option SFn) (call : FuncId → List V → Hp → Option (V × Hp)) (base : Nat) : List SOper → ECtx → T V → Hp → Option (T V × Hp)
  | [], _, F, H => some (F, H)
  | o :: r, ctx, F, H =>
    match wantedA o.guard F with
    | true =>
      match o.op with
      | .p op => match aPure F op with
        | some v => evOps tb call base r ctx (setO F o.dst v) H
        | none => none
      | .l op => match aLoad F H op with
        | some v => evOps tb call base r (match o.keep with
          | true => (o.id, F, op, v) :: ctx
          | false => ctx) (setO F o.dst v) H
        | none => none
      | .a op => match aAlloc F op with
        | some (bk, g) => match o.aid with
          | none => evOps tb call base r ctx (setO F o.dst (g H.nx)) (H.push bk)
          | some k => evOps tb call base r ctx (setO F o.dst (g (base + k))) (H.add (base + k) bk)
        | none => none
      | .e op => match aEff F H op with
        | some (v, H') => match watchE o.watch ctx H' with
          | true => evOps tb call base r ctx (setO F o.dst v) H'
          | false => none
        | none => none
      | .cf f args => match call f (args.map (·.ev F)) H with
        | some (v, H') => match watchE o.watch ctx H' with
          | true => evOps tb call base r ctx (setO F o.dst v) H'
          | false => none
        | none => none
      | .cv x args => match x.ev F with
        | .one (.fn f caps) => match tb f with
          | some _ => match call f (args.map (·.ev F) ++ caps.map ptrV) H with
            | some (v, H') => match watchE o.watch ctx H' with
              | true => evOps tb call base r ctx (setO F o.dst v) H'
              | false => none
            | none => none
          | none => none
        | _ => none
    | false => evOps tb call base r ctx (setO F o.dst V.undef) H

inductive EE where
  | normal
  | exit (id : Nat)
  | ret
def EE.ex : EE → Exit
  | .normal => .normal
  | .exit id => .exit id
  | .ret => .ret

/-- a call, by an evaluator for code -/
def evCall (tb : Nat → Option SFn) (rec : SC → T V → Hp → Option (EE × T V × Hp)) (f : FuncId) (args : List V) (H : Hp) : Option (V × Hp) :=
  match tb f with
  | none => none
  | some sf => if args.length ≤ sf.n then
      match rec sf.code (initF args 0) H with
      | none => none
      | some (e, F', H') => match e with
        | .exit _ => none
        | _ => match aResult F' H' sf.res with
          | some v => some (v, H')
          | none => none
    else none

def evStep (tb : Nat → Option SFn) (rec : SC → T V → Hp → Option (EE × T V × Hp)) (s : SC) (F : T V) (H : Hp) : Option (EE × T V × Hp) :=
  match s with
  | .skip => some (.normal, F, H)
  | .ops l res => match evOps tb (evCall tb rec) H.nx l [] F (H.skip res) with
    | none => none
    | some (F', H') => some (.normal, F', H')
  | .seq a b => match rec a F H with
    | none => none
    | some (e, F', H') => match e with
      | .normal => rec b F' H'
      | e => some (e, F', H')
  | .cond d a b => match d.ev F with
    | .one (.bool t) => match t with
      | true => rec a F H
      | false => rec b F H
    | _ => none
  | .block id a => match rec a F H with
    | none => none
    | some (e, F', H') => match e with
      | .exit id' => if id' = id then some (.normal, F', H') else some (.exit id', F', H')
      | e => some (e, F', H')
  | .loop a => match rec a F H with
    | none => none
    | some (e, F', H') => match e with
      | .normal => rec (.loop a) F' H'
      | e => some (e, F', H')
  | .exit id => some (.exit id, F, H)
  | .ret => some (.ret, F, H)

def evC (tb : Nat → Option SFn) : Nat → SC → T V → Hp → Option (EE × T V × Hp)
  | 0 => fun _ _ _ => none
  | fuel + 1 => evStep tb (evC tb fuel)

def evF (tb : Nat → Option SFn) (fuel : Nat) (f : FuncId) (args : List V) (H : Hp) : Option (V × Hp) := evCall tb (evC tb fuel) f args H

/-- the table holds the program's functions -/
def TabOk (P : Program) (G : Nat) (tb : Nat → Option SFn) : Prop := ∀ f sf, tb f = some sf → cpFn P G f = some sf ∧ isFn P f = true

section
variable {P : Program} {G : Nat} {tb : Nat → Option SFn}

def ctxP (ctx : ECtx) : Ctx := ctx.map fun e => (e.1, fun H' => aLoad e.2.1 H' e.2.2.1 = some e.2.2.2)

theorem watchE_ok {ws : List Nat} {ctx : ECtx} {H : Hp} (h : watchE ws ctx H = true) : watchOk ws (ctxP ctx) H := by
  cases ws with
  | nil => trivial
  | cons w ws =>
    intro k hk p hp
    simp only [watchE, List.all_eq_true] at h
    have h1 := h k hk
    obtain ⟨e, he, hep⟩ := List.mem_map.1 hp
    have h2 := h1 e he
    injection hep with e1 e2
    subst e1 e2
    simp only [bne_self_eq_false, Bool.false_or] at h2
    cases hv : aLoad e.2.1 H e.2.2.1 with
    | none => simp [hv] at h2
    | some v => simp only [hv] at h2; show aLoad e.2.1 H e.2.2.1 = some e.2.2.2; rw [hv, Veq_ok h2]

theorem evOps_ok {call : FuncId → List V → Hp → Option (V × Hp)} (hcall : ∀ f args H v H', call f args H = some (v, H') → ACalls P G f args H fun v' H'' => v' = v ∧ H'' = H') (htb : TabOk P G tb) {base : Nat} {Q : T V → Hp → Prop} :
    ∀ {l : List SOper} {ctx : ECtx} {F F' : T V} {H H' : Hp}, evOps tb call base l ctx F H = some (F', H') → Q F' H' → wOps P G base Q l (ctxP ctx) F H
  | [], ctx, F, F', H, H', h, hq => by
    simp only [evOps, Option.some.injEq, Prod.mk.injEq] at h
    obtain ⟨rfl, rfl⟩ := h
    exact hq
  | o :: r, ctx, F, F', H, H', h, hq => by
    rw [evOps] at h
    rw [wOps]
    cases hw : wantedA o.guard F with
    | false =>
      simp only [hw] at h
      simp only [Bool.false_eq_true, if_false]
      exact evOps_ok hcall htb h hq
    | true =>
      simp only [hw] at h
      simp only [if_true]
      cases hop : o.op with
      | p op =>
        simp only [hop] at h ⊢
        cases hv : aPure F op with
        | none => simp [hv] at h
        | some v => simp only [hv] at h ⊢; exact evOps_ok hcall htb h hq
      | l op =>
        simp only [hop] at h ⊢
        cases hv : aLoad F H op with
        | none => simp [hv] at h
        | some v =>
          simp only [hv] at h ⊢
          cases hk : o.keep with
          | false => simp only [hk] at h; simp only [Bool.false_eq_true, if_false]; exact evOps_ok hcall htb h hq
          | true => simp only [hk] at h; simp only [if_true]; exact evOps_ok (ctx := (o.id, F, op, v) :: ctx) hcall htb h hq
      | a op =>
        simp only [hop] at h ⊢
        cases hv : aAlloc F op with
        | none => simp [hv] at h
        | some bg =>
          simp only [hv] at h ⊢
          cases hai : o.aid with
          | none => simp only [hai] at h ⊢; exact evOps_ok hcall htb h hq
          | some k => simp only [hai] at h ⊢; exact evOps_ok hcall htb h hq
      | e op =>
        simp only [hop] at h ⊢
        cases hv : aEff F H op with
        | none => simp [hv] at h
        | some vH =>
          simp only [hv] at h ⊢
          cases hwt : watchE o.watch ctx vH.2 with
          | false => simp [hwt] at h
          | true => simp only [hwt] at h; exact ⟨watchE_ok hwt, evOps_ok hcall htb h hq⟩
      | cf f args =>
        simp only [hop] at h ⊢
        cases hv : call f (args.map (·.ev F)) H with
        | none => simp [hv] at h
        | some vH =>
          simp only [hv] at h
          cases hwt : watchE o.watch ctx vH.2 with
          | false => simp [hwt] at h
          | true =>
            simp only [hwt] at h
            refine (hcall f _ H vH.1 vH.2 hv).mono ?_
            rintro v' H'' ⟨rfl, rfl⟩
            exact ⟨watchE_ok hwt, evOps_ok hcall htb h hq⟩
      | cv x args =>
        simp only [hop] at h ⊢
        split at h
        · rename_i f caps hx
          cases ht : tb f with
          | none => simp [ht] at h
          | some sf =>
            simp only [ht] at h
            try simp only [hx]
            refine ⟨(htb f sf ht).2, ?_⟩
            cases hv : call f (args.map (·.ev F) ++ caps.map ptrV) H with
            | none => simp [hv] at h
            | some vH =>
              simp only [hv] at h
              cases hwt : watchE o.watch ctx vH.2 with
              | false => simp [hwt] at h
              | true =>
                simp only [hwt] at h
                refine (hcall f _ H vH.1 vH.2 hv).mono ?_
                rintro v' H'' ⟨rfl, rfl⟩
                exact ⟨watchE_ok hwt, evOps_ok hcall htb h hq⟩
        · cases h

theorem evCall_ok {rec : SC → T V → Hp → Option (EE × T V × Hp)} (htb : TabOk P G tb) (hrec : ∀ {n : Nat} {s : SC} {F F' : T V} {H H' : Hp} {e : EE} {Q : Exit → T V → Hp → Prop}, rec s F H = some (e, F', H') → Q e.ex F' H' → SWP P G n s Q F H)
    {f : FuncId} {args : List V} {H H' : Hp} {v : V} (h : evCall tb rec f args H = some (v, H')) : ACalls P G f args H fun v' H'' => v' = v ∧ H'' = H' := by
  unfold evCall at h
  split at h
  · cases h
  · rename_i sf hsf
    split at h
    · rename_i hlen
      split at h
      · cases h
      · rename_i e2 F2 H4 hev2
        obtain ⟨hcp, _⟩ := htb f sf hsf
        cases e2 with
        | exit id => cases h
        | normal =>
          simp only at h
          split at h
          · rename_i v2 hres
            simp only [Option.some.injEq, Prod.mk.injEq] at h
            obtain ⟨rfl, rfl⟩ := h
            refine fn_ok hcp hlen (hrec hev2 ?_)
            simp only [EE.ex, retQ, hres]
            exact ⟨trivial, trivial⟩
          · cases h
        | ret =>
          simp only at h
          split at h
          · rename_i v2 hres
            simp only [Option.some.injEq, Prod.mk.injEq] at h
            obtain ⟨rfl, rfl⟩ := h
            refine fn_ok hcp hlen (hrec hev2 ?_)
            simp only [EE.ex, retQ, hres]
            exact ⟨trivial, trivial⟩
          · cases h
    · cases h

theorem evC_ok (hm : P.follows .mixedOrders = true) (htb : TabOk P G tb) : ∀ (fuel : Nat) {n : Nat} {s : SC} {F F' : T V} {H H' : Hp} {e : EE} {Q : Exit → T V → Hp → Prop}, evC tb fuel s F H = some (e, F', H') → Q e.ex F' H' → SWP P G n s Q F H := by
  intro fuel
  induction fuel using Nat.strongRecOn with
  | _ fuel ih =>
    intro n s F F' H H' e Q h hq
    cases fuel with
    | zero => cases h
    | succ fuel =>
      have h : evStep tb (evC tb fuel) s F H = some (e, F', H') := h
      have hrec : ∀ {n : Nat} {s : SC} {F F' : T V} {H H' : Hp} {e : EE} {Q : Exit → T V → Hp → Prop}, evC tb fuel s F H = some (e, F', H') → Q e.ex F' H' → SWP P G n s Q F H := fun h hq => ih fuel (by omega) h hq
      cases s with
      | skip =>
        simp only [evStep, Option.some.injEq, Prod.mk.injEq] at h
        obtain ⟨rfl, rfl, rfl⟩ := h
        exact swp_skip hq
      | ops l res =>
        simp only [evStep] at h
        split at h
        · cases h
        · rename_i F1 H1 hev
          simp only [Option.some.injEq, Prod.mk.injEq] at h
          obtain ⟨rfl, rfl, rfl⟩ := h
          exact swp_ops hm (evOps_ok (ctx := []) (fun f args H2 v H3 hc => evCall_ok htb hrec hc) htb hev hq)
      | seq a b =>
        simp only [evStep] at h
        split at h
        · cases h
        · rename_i e1 F1 H1 h1
          refine swp_seq ?_
          cases e1 with
          | normal => exact hrec h1 (hrec (Q := Q) h hq)
          | exit id =>
            simp only [Option.some.injEq, Prod.mk.injEq] at h
            obtain ⟨rfl, rfl, rfl⟩ := h
            exact hrec h1 hq
          | ret =>
            simp only [Option.some.injEq, Prod.mk.injEq] at h
            obtain ⟨rfl, rfl, rfl⟩ := h
            exact hrec h1 hq
      | cond d a b =>
        simp only [evStep] at h
        split at h
        · rename_i t ht
          cases t with
          | true => exact swp_cond (t := true) ht (hrec h hq)
          | false => exact swp_cond (t := false) ht (hrec h hq)
        · cases h
      | block id a =>
        simp only [evStep] at h
        split at h
        · cases h
        · rename_i e1 F1 H1 h1
          refine swp_block ?_
          cases e1 with
          | normal =>
            simp only [Option.some.injEq, Prod.mk.injEq] at h
            obtain ⟨rfl, rfl, rfl⟩ := h
            exact hrec h1 hq
          | ret =>
            simp only [Option.some.injEq, Prod.mk.injEq] at h
            obtain ⟨rfl, rfl, rfl⟩ := h
            exact hrec h1 hq
          | exit id' =>
            simp only at h
            refine hrec h1 ?_
            simp only [EE.ex, blockQ]
            split at h
            · rename_i hid
              simp only [Option.some.injEq, Prod.mk.injEq] at h
              obtain ⟨rfl, rfl, rfl⟩ := h
              rw [if_pos hid]; exact hq
            · rename_i hid
              simp only [Option.some.injEq, Prod.mk.injEq] at h
              obtain ⟨rfl, rfl, rfl⟩ := h
              rw [if_neg hid]; exact hq
      | loop a =>
        refine swp_loop (fun m F1 H1 => m ≤ fuel + 1 ∧ evC tb m (.loop a) F1 H1 = some (e, F', H')) (m := fuel + 1) ⟨Nat.le_refl _, h⟩ ?_
        rintro m F1 H1 ⟨hle, hev⟩
        cases m with
        | zero => cases hev
        | succ m =>
          have hev : evStep tb (evC tb m) (.loop a) F1 H1 = some (e, F', H') := hev
          simp only [evStep] at hev
          split at hev
          · cases hev
          · rename_i e1 F2 H2 h1
            cases e1 with
            | normal => exact ih m (by omega) h1 ⟨m, by omega, by omega, hev⟩
            | exit id =>
              simp only [Option.some.injEq, Prod.mk.injEq] at hev
              obtain ⟨rfl, rfl, rfl⟩ := hev
              exact ih m (by omega) h1 hq
            | ret =>
              simp only [Option.some.injEq, Prod.mk.injEq] at hev
              obtain ⟨rfl, rfl, rfl⟩ := hev
              exact ih m (by omega) h1 hq
      | exit id =>
        simp only [evStep, Option.some.injEq, Prod.mk.injEq] at h
        obtain ⟨rfl, rfl, rfl⟩ := h
        exact swp_exit hq
      | ret =>
        simp only [evStep, Option.some.injEq, Prod.mk.injEq] at h
        obtain ⟨rfl, rfl, rfl⟩ := h
        exact swp_ret hq

/-- A CLOSED CALL, EVALUATED. -/
theorem evF_ok (hm : P.follows .mixedOrders = true) (htb : TabOk P G tb) {fuel : Nat} {f : FuncId} {args : List V} {H H' : Hp} {v : V} (h : evF tb fuel f args H = some (v, H')) : ACalls P G f args H fun v' H'' => v' = v ∧ H'' = H' :=
  evCall_ok htb (evC_ok hm htb fuel) h

def evVal (tb : Nat → Option SFn) (fuel : Nat) (f : FuncId) (args : List V) (H : Hp) : Option V := (evF tb fuel f args H).map (·.1)

theorem evVal_ok (hm : P.follows .mixedOrders = true) (htb : TabOk P G tb) {fuel : Nat} {f : FuncId} {args : List V} {H : Hp} {v : V} (h : evVal tb fuel f args H = some v) : ACalls P G f args H fun v' _ => v' = v := by
  unfold evVal at h
  simp only [Option.map_eq_some_iff] at h
  obtain ⟨⟨v', H'⟩, hh, rfl⟩ := h
  exact (evF_ok hm htb hh).mono fun _ _ h => h.1
end
end Go.Ab
