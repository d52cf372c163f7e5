/- Operations that touch no memory: from the model's to the abstract ones, and that they agree. -/
import Derived.Test.YtejpbhindcglpaaDoorAbP
import Derived.Laws.Tables
import Derived.Laws.StructEq
namespace Go.Ab

/-- whether a type is a struct or an array; none if it is not known -/
def isAggT (P : Program) (t : TypeId) : Option Bool :=
  match P.underlying t with
  | some (.struct _) => some true
  | some (.array _ _) => some true
  | some _ => some false
  | none => none

def zeroL (P : Program) (t : TypeId) : Option (List C) :=
  match P.info? t with
  | some i => match i.zero with
    | some z => cL z.cells.toList
    | none => none
  | none => none

def sizeT (P : Program) (t : TypeId) : Option Nat := (P.info? t).map (·.size)

def partsL (G n : Nat) (place : Nat → Option (Nat × Nat)) : List (Nat × Operand) → Option (List (Nat × Nat × Opd))
  | [] => some []
  | (i, x) :: r =>
    match place i, cO G n x, partsL G n place r with
    | some (off, size), some d, some l => some ((off, size, d) :: l)
    | _, _, _ => none

def buildPlaces (P : Program) (t : TypeId) : Option (Nat → Option (Nat × Nat)) :=
  match P.underlying t with
  | some (.array _ e) => (sizeT P e).map fun s => fun i => some (i * s, s)
  | some (.struct fields) => (fields.toList.mapM (fun f => (P.info? f.type).map fun i => (f.offset, i.size))).map fun pl => (pl.toArray[·]?)
  | _ => none

/-- the offsets of the fields that are compared, if all are numbers or truths -/
def eqOffs (P : Program) : List Field → Option (List (Nat × Bool))
  | [] => some []
  | f :: r =>
    if f.name ≠ "_" then
      match P.underlying f.type, eqOffs P r with
      | some (.int _), some l => some ((f.offset, false) :: l)
      | some .bool, some l => some ((f.offset, true) :: l)
      | _, _ => none
    else eqOffs P r

def cOo (G n : Nat) : Option Operand → Option (Option Opd)
  | none => some none
  | some x => (cO G n x).map some

def cpBin (P : Program) (G n : Nat) (op : BinOp) (t : TypeId) (x y : Operand) : Option PureOp :=
  match cO G n x, cO G n y with
  | some a, some b =>
    match P.underlying t with
    | some (.int _) => some (.bin op a b)
    | some .bool => match op with
      | .eql => some (.beq false a b)
      | .neq => some (.beq true a b)
      | _ => none
    | some (.struct fs) =>
      if P.stoodInHeld t || P.eqGuardType P.depth t then none else
      match eqOffs P fs.toList with
      | none => none
      | some ks => match op with
        | .eql => some (.eqs false ks a b)
        | .neq => some (.eqs true ks a b)
        | _ => none
    | some (.slice _) => match y, op with
      | .const (.slice none _ _), .eql => some (.nileq false a)
      | .const (.slice none _ _), .neq => some (.nileq true a)
      | _, _ => none
    | _ => none
  | _, _ => none

def cpPure (P : Program) (G n : Nat) (o : Oper) : Option PureOp :=
  match o.op with
  | .move x => (cO G n x).map .mv
  | .assign x => (cO G n x).map .mv
  | .pick c a b => match cO G n c, cO G n a, cO G n b with
    | some c, some a, some b => some (.pick c a b)
    | _, _, _ => none
  | .build t parts => match zeroL P t, buildPlaces P t with
    | some z, some pl => (partsL G n pl parts.toList).map (.build z)
    | _, _ => none
  | .nilCheck x => (cO G n x).map .nilck
  | .binOp op t x y _ => cpBin P G n op t x y
  | .unOp .neg _ x => (cO G n x).map .neg
  | .unOp .not _ x => (cO G n x).map .not
  | .convert src dst x => match P.underlying src, P.underlying dst, cO G n x with
    | some (.int _), some (.int k), some d => some (.conv k d)
    | _, _, _ => none
  | .makeFunc (.func f) first caps => if first.size = 0 then (cOs G n caps.toList).map (.mkfn f) else none
  | .slice t x lo hi mx => match P.underlying t, cO G n x, cOo G n lo, cOo G n hi, cOo G n mx with
    | some (.slice e), some d, some lo, some hi, some mx => match sizeT P e with
      | some s => if mx.isSome && hi.isNone then none else some (.slice s d lo hi mx)
      | none => none
    | _, _, _, _, _ => none
  | .fieldAddr s x f => match P.underlying s, cO G n x with
    | some (.struct fs), some d => match fs[f]? with
      | some fd => match sizeT P fd.type with
        | some (_ + 1) => some (.faddr fd.offset d)
        | _ => none
      | none => none
    | _, _ => none
  | .field s x f => match P.underlying s, cO G n x with
    | some (.struct fs), some d => match fs[f]? with
      | some fd => match sizeT P fd.type, isAggT P fd.type with
        | some k, some g => some (.field g fd.offset k d)
        | _, _ => none
      | none => none
    | _, _ => none
  | .indexAddr t x i => match P.underlying t, cO G n x, cO G n i with
    | some (.slice e), some d, some j => (sizeT P e).map fun s => .iaddr s d j
    | some (.array len e), some d, some j => (sizeT P e).map fun s => .aaddr len s d j
    | _, _, _ => none
  | .index t x i => match P.underlying t, cO G n x, cO G n i with
    | some (.array len e), some d, some j => match sizeT P e, isAggT P e with
      | some s, some g => some (.aindex len s g d j)
      | _, _ => none
    | some .string, some d, some j => some (.sindex d j)
    | _, _, _ => none
  | .extract x i => (cO G n x).map fun d => .extract d i
  | .call { callee := .builtin .len, args := args, argTypes := ts } =>
    match args.toList, ts[0]? with
    | [x], some t => match P.underlying t with
      | some (.slice _) => (cO G n x).map .len
      | some (.array k _) => some (.cint k)
      | some .string => (cO G n x).map .slen
      | _ => none
    | _, _ => none
  | .call { callee := .builtin .max, args := args, argTypes := _ } =>
    match args.toList with
    | [x, y] => match cO G n x, cO G n y with
      | some a, some b => some (.mm true a b)
      | _, _ => none
    | _ => none
  | .call { callee := .builtin .min, args := args, argTypes := _ } =>
    match args.toList with
    | [x, y] => match cO G n x, cO G n y with
      | some a, some b => some (.mm false a b)
      | _, _ => none
    | _ => none
  | _ => none

section
variable {P : Program} {G n : Nat} {μ : Nat → Pl} {K : Nat → Prop} {H : Hp} {w : World} {F : T V} {a : Act}

theorem run_value (s : Sem Value) {x : Value} {w' : World} (h : s.run P w = .ok x w') : (do let r ← s; pure (Next.value r) : Sem Next).run P w = .ok (.value x) w' := by
  simp [h]

theorem sizeT_run {t : TypeId} {s : Nat} (h : sizeT P t = some s) (w : World) : (sizeOf t).run P w = .ok s w := by
  unfold sizeT at h
  cases hi : P.info? t with
  | none => simp [hi] at h
  | some i => simp [hi] at h; simp [sizeOf, typeInfo, hi, h]
theorem isAggT_run {t : TypeId} {g : Bool} (h : isAggT P t = some g) (w : World) : (isAgg t).run P w = .ok g w := by
  unfold isAggT at h
  cases hu : P.underlying t with
  | none => simp [hu] at h
  | some d => cases d <;> simp [hu] at h <;> subst h <;> simp [isAgg, run_underlying hu]

theorem cells1_ok {v : V} {x : Value} {l : List C} (h : RV μ K v x) (hl : cells1 v = some l) : All2 (RC μ K) l x.cells.toList := by
  cases v with
  | one c => simp [cells1] at hl; subst hl; exact RV1.cells (v := .one c) h
  | agg m => simp [cells1] at hl; subst hl; exact RV1.cells (v := .agg m) h
  | tup m => simp [cells1] at hl

/-- writing a list into an array, place after place -/
theorem foldl_set : ∀ (vs : List Value) (k off : Nat) (cs : Array Value), off + k + vs.length ≤ cs.size →
    ((vs.zipIdx k).foldl (fun cs (c, j) => cs.setIfInBounds (off + j) c) cs).toList = cs.toList.take (off + k) ++ vs ++ cs.toList.drop (off + k + vs.length)
  | [], k, off, cs, _ => by simp
  | v :: vs, k, off, cs, h => by
    simp only [List.length_cons] at h
    rw [List.zipIdx_cons, List.foldl_cons, foldl_set vs (k + 1) off _ (by simp; omega)]
    simp only [Array.toList_setIfInBounds]
    rw [show off + (k + 1) = (off + k) + 1 by omega]
    apply List.ext_getElem?
    intro i
    simp only [List.getElem?_append, List.length_append, List.length_take, List.length_set, Array.length_toList, List.getElem?_take, List.getElem?_drop, List.getElem?_set, List.length_cons]
    have e1 : min (off + k + 1) cs.size = off + k + 1 := by omega
    have e2 : min (off + k) cs.size = off + k := by omega
    rw [e1, e2]
    by_cases h1 : i < off + k
    · rw [if_pos (by omega), if_pos (by omega), if_pos (by omega), if_neg (by omega), if_pos (by omega), if_pos h1, if_pos h1]
    · by_cases h2 : i = off + k
      · subst h2
        rw [if_pos (by omega), if_pos (by omega), if_pos (by omega), if_pos rfl, if_pos (by omega), if_pos (by omega), if_neg (by omega)]
        simp
      · by_cases h3 : i < off + k + 1 + vs.length
        · rw [if_pos (by omega), if_neg (by omega), if_pos (by omega), if_neg (by omega), show i - (off + k) = (i - (off + k + 1)) + 1 by omega]
          simp
        · rw [if_neg (by omega), if_neg (by omega), if_neg (by omega)]
          congr 1
          omega

theorem fill_ok (hR : Rel G μ K H w) (hF : FRel μ K n F a.tmps) {place : Nat → Option (Nat × Nat)} : ∀ {parts : List (Nat × Operand)} {ps : List (Nat × Nat × Opd)} {z z' : List C} {zc : Array Value},
    partsL G n place parts = some ps → fillL F z ps = some z' → All2 (RC μ K) z zc.toList →
    ∃ cs : Array Value, Instr.fill place zc (parts.map fun p => (p.1, a.eval p.2)) = some cs ∧ All2 (RC μ K) z' cs.toList
  | [], ps, z, z', zc, hp, hf, hz => by
    simp [partsL] at hp; subst hp
    simp [fillL] at hf; subst hf
    exact ⟨zc, by simp [Instr.fill], hz⟩
  | (i, x) :: r, ps, z, z', zc, hp, hf, hz => by
    simp only [partsL] at hp
    cases h1 : place i with
    | none => simp [h1] at hp
    | some os =>
      obtain ⟨off, size⟩ := os
      cases h2 : cO G n x with
      | none => simp [h1, h2] at hp
      | some d =>
        cases h3 : partsL G n place r with
        | none => simp [h1, h2, h3] at hp
        | some l =>
          simp only [h1, h2, h3, Option.some.injEq] at hp
          subst hp
          simp only [fillL] at hf
          cases h4 : cells1 (d.ev F) with
          | none => simp [h4] at hf
          | some cs =>
            simp only [h4] at hf
            split at hf
            · rename_i hc
              have hx := cells1_ok (cO_ok hR hF h2) h4
              have hlx : (a.eval x).cells.size = size := by have := hx.len; simp at this; omega
              have hlz := hz.len
              simp at hlz
              have key := foldl_set (a.eval x).cells.toList 0 off zc (by simp; omega)
              obtain ⟨cs', hfill, hall⟩ := fill_ok hR hF (zc := (a.eval x).cells.zipIdx.foldl (fun cs (c, j) => cs.setIfInBounds (off + j) c) zc) h3 hf (by
                rw [← Array.foldl_toList]
                rw [Array.toList_zipIdx]
                rw [key]
                have e : off + 0 + (a.eval x).cells.toList.length = off + size := by simp; omega
                rw [e, Nat.add_zero]
                exact ((hz.take off).append hx).append (hz.drop (off + size)))
              refine ⟨cs', ?_, hall⟩
              simp only [List.map_cons, Instr.fill, h1]
              rw [if_neg (by simp; omega)]
              exact hfill
            · cases hf

theorem zeroL_ok {t : TypeId} {z : List C} (h : zeroL P t = some z) : ∃ i v, P.info? t = some i ∧ i.zero = some v ∧ All2 (RC μ K) z v.cells.toList := by
  unfold zeroL at h
  cases hi : P.info? t with
  | none => simp [hi] at h
  | some i =>
    cases hz : i.zero with
    | none => simp [hi, hz] at h
    | some v => simp only [hi, hz] at h; exact ⟨i, v, rfl, hz, cL_ok h⟩

theorem build_ok (hR : Rel G μ K H w) (hF : FRel μ K n F a.tmps) {t : TypeId} {parts : Array (Nat × Operand)} {z z' : List C} {pl : Nat → Option (Nat × Nat)} {ps : List (Nat × Nat × Opd)}
    (hz : zeroL P t = some z) (hb : buildPlaces P t = some pl) (hp : partsL G n pl parts.toList = some ps) (hf : fillL F z ps = some z') :
    ∃ cs : Array Value, (Instr.build t (parts.map fun (i, x) => (i, a.eval x))).run P w = .ok (.agg cs) w ∧ All2 (RC μ K) z' cs.toList := by
  obtain ⟨i, v, hi, hv, hall⟩ := zeroL_ok (μ := μ) (K := K) hz
  obtain ⟨cs, hfill, hall'⟩ := fill_ok hR hF hp hf hall
  refine ⟨cs, run_build w t _ cs ?_, hall'⟩
  have hl : (parts.map fun (i, x) => (i, a.eval x)).toList = parts.toList.map fun p => (p.1, a.eval p.2) := by simp
  rw [hl]
  unfold Program.built
  unfold buildPlaces at hb
  cases hu : P.underlying t with
  | none => simp [hu] at hb
  | some d =>
    cases d <;> try (simp [hu] at hb; done)
    case array k e =>
      simp only [hu, sizeT, Option.map_map, Option.map_eq_some_iff] at hb
      obtain ⟨ie, hie, rfl⟩ := hb
      simp only [hi, hv, hie]
      exact hfill
    case struct fields =>
      simp only [hu, Option.map_eq_some_iff] at hb
      obtain ⟨places, hpl, rfl⟩ := hb
      simp only [hi, hv, hpl]
      exact hfill

theorem part_ok {t : TypeId} {g : Bool} {s off : Nat} {l : List C} {xs : List Value} {v : V} (hg : isAggT P t = some g) (hs : sizeT P t = some s) (hl : All2 (RC μ K) l xs) (h : aPart g off s l = some v) :
    ∃ x, (part t xs.toArray off).run P w = .ok x w ∧ RV μ K v x := by
  unfold aPart at h
  cases g with
  | true =>
    simp only [if_true] at h
    split at h
    · obtain rfl := Option.some.inj h
      refine ⟨.agg (xs.toArray.extract off (off + s)), by simp [part, isAggT_run hg, sizeT_run hs], (xs.drop off).take s, ?_, (hl.drop off).take s⟩
      congr 1
      apply Array.ext'
      simp [List.extract_eq_take_drop]
    · cases h
  | false =>
    simp only [Bool.false_eq_true, if_false, Option.map_eq_some_iff] at h
    obtain ⟨c, hc, rfl⟩ := h
    obtain ⟨x, hx, hr⟩ := hl.at off c hc
    exact ⟨x, by simp [part, isAggT_run hg, hx], hr⟩
end
end Go.Ab
