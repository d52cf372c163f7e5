/- Loads and new blocks. -/
import Derived.Test.YtejpbhindcglpaaDoorAbV
namespace Go.Ab

inductive LoadOp where
  | load (agg : Bool) (n : Nat) (a : Opd)
  | lookup (z : V) (ok : Bool) (m k : Opd)
  | mlen (m : Opd)

/-- equality of two keys that are numbers -/
def keyEq : V → V → Option Bool
  | .one (.int k a), .one (.int k' b) => if k = k' then some (a == b) else none
  | _, _ => none

def mfind (key : V) : List (V × V) → Nat → Option (Option (Nat × V))
  | [], _ => some none
  | e :: es, i =>
    match keyEq key e.1 with
    | some true => some (some (i, e.2))
    | some false => mfind key es (i + 1)
    | none => none

def okRes (ok : Bool) (v : V) (there : Bool) : V := if ok then .tup [v, .one (.bool there)] else v

def isIntKey : V → Bool
  | .one (.int _ _) => true
  | _ => false

def aLoad (F : T V) (H : Hp) : LoadOp → Option V
  | .load agg n a => match a.ev F with
    | .one (.ptr b o) => if agg then (H.loads b o n).map .agg else (H.cell b o).map .one
    | _ => none
  | .lookup z ok m k =>
    if isIntKey (k.ev F) then
      match m.ev F with
      | .one .nilm => some (okRes ok z false)
      | .one (.map b) => match H.get b with
        | some (.mp es) => match mfind (k.ev F) es 0 with
          | some none => some (okRes ok z false)
          | some (some (_, v)) => some (okRes ok v true)
          | none => none
        | _ => none
      | _ => none
    else none
  | .mlen m => match m.ev F with
    | .one .nilm => some (.one (.int .i64 0))
    | .one (.map b) => match H.get b with
      | some (.mp es) => some (.one (.int .i64 es.length))
      | _ => none
    | _ => none

inductive AllocOp where
  | alloc (z : List C)
  | box (x : Opd)
  | bslice (esz len : Nat) (z : List C) (ps : List (Nat × Nat × Opd))
  | mkslice (esz bytes : Nat) (z : List C) (l c : Opd)
  | mkmap

def patt (z : List C) (n : Nat) : List C := (List.range n).map fun i => z.getD (i % z.length) .nilp

def aAlloc (F : T V) : AllocOp → Option (B × (Nat → V))
  | .alloc z => some (.row z.length z .lf true, fun b => .one (.ptr b 0))
  | .box x => match cells1 (x.ev F) with
    | some cs => some (.row cs.length cs .lf true, fun b => .one (.ptr b 0))
    | none => none
  | .bslice esz len z ps => match fillL F (patt z (len * esz)) ps with
    | some cs => some (.row cs.length cs .lf true, fun b => .one (.slc b 0 len len esz true))
    | none => none
  | .mkslice esz bytes z l c => match l.ev F, c.ev F with
    | .one (.int _ l), .one (.int _ c) =>
      if 0 ≤ l ∧ l ≤ c ∧ bytes * c ≤ 281474976710656 ∧ c < 4611686018427387904 then
        some (.row (c.toNat * esz) z .lf true, fun b => .one (.slc b 0 l.toNat c.toNat esz true))
      else none
    | _, _ => none
  | .mkmap => some (.mp [], fun b => .one (.map b))

def cpLoad (P : Program) (G n : Nat) (o : Oper) : Option LoadOp :=
  match o.op with
  | .load t x => match isAggT P t, sizeT P t, cO G n x with
    | some g, some s, some d => some (.load g s d)
    | _, _, _ => none
  | .lookup t x i ok => match P.underlying t, cO G n x, cO G n i with
    | some (.map kt e), some m, some k => match P.underlying kt, P.info? e with
      | some (.int _), some ie => match ie.zero with
        | some z => (cV z).map fun z => .lookup z ok m k
        | none => none
      | _, _ => none
    | _, _, _ => none
  | .call { callee := .builtin .len, args := args, argTypes := ts } =>
    match args.toList, ts[0]? with
    | [x], some t => match P.underlying t with
      | some (.map _ _) => (cO G n x).map .mlen
      | _ => none
    | _, _ => none
  | _ => none

def cpAlloc (P : Program) (G n : Nat) (o : Oper) : Option AllocOp :=
  match o.op with
  | .alloc e => (zeroL P e).map .alloc
  | .box _ x => (cO G n x).map .box
  | .buildSlice t len parts => match P.underlying t with
    | some (.slice e) => match sizeT P e, zeroL P e with
      | some s, some z => if z.length = s ∧ 0 < s ∧ len * s ≤ 16777216 then (partsL G n (fun i => some (i * s, s)) parts.toList).map (.bslice s len z) else none
      | _, _ => none
    | _ => none
  | .makeSlice t l c => match P.underlying t with
    | some (.slice e) => match P.info? e, zeroL P e, cO G n l, cO G n c with
      | some i, some z, some l, some c => if z.length = i.size ∧ 0 < i.size then some (.mkslice i.size i.bytes z l c) else none
      | _, _, _, _ => none
    | _ => none
  | .makeMap _ none => some .mkmap
  | _ => none

section
variable {P : Program} {G n : Nat} {μ : Nat → Pl} {K : Nat → Prop} {H : Hp} {w : World} {F : T V} {a : Act}

theorem intKey_inv {v : V} (h : isIntKey v = true) : ∃ k m, v = .one (.int k m) := by
  cases v with
  | one c => cases c <;> simp [isIntKey] at h; exact ⟨_, _, rfl⟩
  | agg l => simp [isIntKey] at h
  | tup l => simp [isIntKey] at h

theorem mfind_ok {k0 kk : IntKind} {m : Int} : ∀ {es : List (V × V)} {ces : List MapEntry} {i : Nat} {r : Option (Nat × V)}, All2 (fun (e : V × V) (x : MapEntry) => RV1 μ K e.1 x.key ∧ RV1 μ K e.2 x.val) es ces →
    mfind (.one (.int kk m)) es i = some r →
    (r = none ∧ Instr.findNow (.int k0) (.int kk m) ces i = some none) ∨ ∃ j v x, r = some (j, v) ∧ Instr.findNow (.int k0) (.int kk m) ces i = some (some (j, x)) ∧ RV1 μ K v x ∧ i ≤ j ∧
      (∃ e ce, es[j - i]? = some e ∧ e.2 = v ∧ ces[j - i]? = some ce ∧ ce.key = .int kk m ∧ e.1 = .one (.int kk m))
  | [], [], i, r, _, h => by simp [mfind] at h; subst h; exact .inl ⟨rfl, by simp [Instr.findNow]⟩
  | e :: es, c :: ces, i, r, ha, h => by
    simp only [mfind] at h
    cases hk : keyEq (.one (.int kk m)) e.1 with
    | none => simp [hk] at h
    | some b =>
      obtain ⟨e1, e2⟩ := e
      have hkey : ∃ q, e1 = .one (.int kk q) ∧ b = (m == q) := by
        cases e1 with
        | one c' =>
          cases c' <;> simp only [keyEq] at hk <;> try (cases hk; done)
          split at hk
          · rename_i hkk; subst hkk; exact ⟨_, rfl, (Option.some.inj hk).symm⟩
          · cases hk
        | agg l => simp [keyEq] at hk
        | tup l => simp [keyEq] at hk
      obtain ⟨q, rfl, rfl⟩ := hkey
      have hck : c.key = .int kk q := ha.1.1
      simp only [Instr.findNow, hck, Instr.sameNow, if_true]
      cases hb : m == q with
      | true =>
        obtain rfl : m = q := by simpa using hb
        simp only [hk, hb, Option.some.injEq] at h
        subst h
        exact .inr ⟨i, e2, c.val, rfl, rfl, ha.1.2, Nat.le_refl _, ⟨_, e2⟩, c, by simp, rfl, by simp, hck, rfl⟩
      | false =>
        simp only [hk, hb] at h
        rcases mfind_ok (k0 := k0) ha.2 h with ⟨h1, h2⟩ | ⟨j, v, x, h1, h2, h3, h4, e', ce, h5⟩
        · exact .inl ⟨h1, h2⟩
        · refine .inr ⟨j, v, x, h1, h2, h3, by omega, e', ce, ?_⟩
          rw [show j - i = (j - (i + 1)) + 1 by omega]
          simpa using h5
  | [], _ :: _, _, _, ha, _ => ha.elim
  | _ :: _, [], _, _, ha, _ => ha.elim

theorem checkKey_int {e : Bool} {d : Nat} {t : TypeId} {k : IntKind} (h : P.underlying t = some (.int k)) (v : Value) : (Instr.checkKey e (d + 1) t v).run P w = .ok () w := by
  simp [Instr.checkKey, run_underlying h]

theorem load_ok (hR : Rel G μ K H w) (hF : FRel μ K n F a.tmps) {o : Oper} {p : LoadOp} {v : V} (hc : cpLoad P G n o = some p) (h : aLoad F H p = some v) :
    ∃ x, (execOp a.eval o).run P w = .ok (.value x) w ∧ RV μ K v x := by
  unfold cpLoad at hc
  split at hc
  case _ t x ho =>
    split at hc
    · rename_i g s d hg hs hx
      obtain rfl := Option.some.inj hc
      have hv := cO_ok hR hF hx
      simp only [aLoad] at h
      split at h
      · rename_i b o' he
        rw [he] at hv
        obtain ⟨hk, hv'⟩ : K b ∧ a.eval x = .pointer (some ((μ b).addr o')) := hv
        cases g with
        | true =>
          simp only [if_true, Option.map_eq_some_iff] at h
          obtain ⟨l, hl, rfl⟩ := h
          obtain ⟨xs, hall, hrun⟩ := hR.loads (P := P) (n := s) (b := b) (o := o') (i := 0) (acc := #[]) hl
          refine ⟨.agg xs.toArray, ?_, xs, rfl, hall⟩
          simp only [execOp, ho]
          refine run_value _ ?_
          simp [Instr.loadAt, hv', Instr.sureAddr, loadVar, isAggT_run hg, sizeT_run hs, loadCells, hrun]
        | false =>
          simp only [Bool.false_eq_true, if_false, Option.map_eq_some_iff] at h
          obtain ⟨c, hl, rfl⟩ := h
          obtain ⟨y, hy, hr⟩ := hR.cell hl
          exact ⟨y, by simp [execOp, ho, Instr.loadAt, hv', Instr.sureAddr, loadVar, isAggT_run hg, hy], hr⟩
      · cases h
    · cases hc
  case _ t x i ok ho =>
    split at hc
    · rename_i kt e m k hu hx hi
      split at hc
      · rename_i k0 ie hk hie
        split at hc
        · rename_i z hz
          simp only [Option.map_eq_some_iff] at hc
          obtain ⟨zv, hzv, rfl⟩ := hc
          have hv := cO_ok hR hF hx
          have hvi := cO_ok hR hF hi
          simp only [aLoad] at h
          split at h
          case isFalse => cases h
          rename_i hik
          obtain ⟨kk, q, hq⟩ := intKey_inv hik
          rw [hq] at hvi h
          have hvi' : a.eval i = .int kk q := hvi
          have hzero : (zeroValue e).run P w = .ok z w := by simp [zeroValue, typeInfo, hie, hz]
          have hz1 : RV1 μ K zv z := cV_ok hzv
          split at h
          · rename_i he
            obtain rfl := Option.some.inj h
            rw [he] at hv
            have hv' : a.eval x = .map none := hv
            refine ⟨if ok then .tuple #[z, .bool false] else z, ?_, ?_⟩
            · simp [execOp, ho, Instr.lookup, hv', hvi', run_underlying hu, checkKey_int (d := 9999) hk, Instr.findKey, run_underlying hk, Instr.findNow, hzero]
            · cases ok
              · simpa [okRes] using RV.of1 hz1
              · exact ⟨[z, .bool false], rfl, hz1, rfl, trivial⟩
          · rename_i b he
            rw [he] at hv
            obtain ⟨hkb, hv'⟩ : K b ∧ a.eval x = .map (some (μ b).blk) := hv
            split at h
            · rename_i es hget
              obtain ⟨ces, clk, hob, hall⟩ := hR.blk b _ hget
              have hobj : (getObj (μ b).blk).run P w = .ok (.map ces clk) w := by simp [getObj, Sem.run, hob]
              split at h
              · rename_i hf
                obtain rfl := Option.some.inj h
                rcases mfind_ok (k0 := k0) hall hf with ⟨_, h2⟩ | ⟨j, v, x, h1, _⟩
                · refine ⟨if ok then .tuple #[z, .bool false] else z, ?_, ?_⟩
                  · simp [execOp, ho, Instr.lookup, hv', hvi', run_underlying hu, hobj, checkKey_int (d := 9999) hk, Instr.findKey, run_underlying hk, h2, hzero]
                  · cases ok
                    · simpa [okRes] using RV.of1 hz1
                    · exact ⟨[z, .bool false], rfl, hz1, rfl, trivial⟩
                · cases h1
              · rename_i jj vv hf
                obtain rfl := Option.some.inj h
                rcases mfind_ok (k0 := k0) hall hf with ⟨h1, _⟩ | ⟨j, v, y, h1, h2, h3, _⟩
                · cases h1
                · obtain ⟨rfl, rfl⟩ : jj = j ∧ vv = v := by simpa using h1
                  refine ⟨if ok then .tuple #[y, .bool true] else y, ?_, ?_⟩
                  · simp [execOp, ho, Instr.lookup, hv', hvi', run_underlying hu, hobj, checkKey_int (d := 9999) hk, Instr.findKey, run_underlying hk, h2]
                  · cases ok
                    · simpa [okRes] using RV.of1 h3
                    · exact ⟨[y, .bool true], rfl, h3, rfl, trivial⟩
              · cases h
            · cases h
          · cases h
        · cases hc
      · cases hc
    · cases hc
  case _ args ts ho =>
    split at hc
    · rename_i x t hargs hts
      have hargs' : args = #[x] := by cases args; simp_all
      subst hargs'
      have hts' : ts[0]? = some t := hts
      split at hc
      · rename_i kt e hu
        simp only [Option.map_eq_some_iff] at hc
        obtain ⟨d, hd, rfl⟩ := hc
        have hv := cO_ok hR hF hd
        simp only [aLoad] at h
        split at h
        · rename_i he
          obtain rfl := Option.some.inj h
          rw [he] at hv
          have hv' : a.eval x = .map none := hv
          exact ⟨.int .i64 0, by simp [execOp, ho, resolve, invoke, builtin, Builtin.len_, hts', hv', run_underlying hu, goInt], rfl⟩
        · rename_i b he
          rw [he] at hv
          obtain ⟨hkb, hv'⟩ : K b ∧ a.eval x = .map (some (μ b).blk) := hv
          split at h
          · rename_i es hget
            obtain rfl := Option.some.inj h
            obtain ⟨ces, clk, hob, hall⟩ := hR.blk b _ hget
            have hobj : (getObj (μ b).blk).run P w = .ok (.map ces clk) w := by simp [getObj, Sem.run, hob]
            have hlen := hall.len
            exact ⟨.int .i64 es.length, by simp [execOp, ho, resolve, invoke, builtin, Builtin.len_, hts', hv', run_underlying hu, goInt, hobj, hlen], rfl⟩
          · cases h
        · cases h
      · cases hc
    · cases hc
  case _ => cases hc
end
end Go.Ab
