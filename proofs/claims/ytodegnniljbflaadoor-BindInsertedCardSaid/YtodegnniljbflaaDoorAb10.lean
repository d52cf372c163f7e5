/- The functions are the program's. -/
import Derived.Test.YtodegnniljbflaaDoorAb9
import Derived.Test.YtodegnniljbflaaDoorRows
set_option linter.unusedVariables false
set_option linter.unusedSimpArgs false
namespace Go.Ac
open Go.Ab Go.Proofs
set_option maxRecDepth 100000
theorem cp3 : cpFn Tryd.prog 6 3 = some f3 := by kernel_rfl
theorem cp4 : cpFn Tryd.prog 6 4 = some f4 := by kernel_rfl
theorem cp5 : cpFn Tryd.prog 6 5 = some f5 := by kernel_rfl
theorem cp6 : cpFn Tryd.prog 6 6 = some f6 := by kernel_rfl
theorem cp7 : cpFn Tryd.prog 6 7 = some f7 := by kernel_rfl
theorem cp8 : cpFn Tryd.prog 6 8 = some f8 := by kernel_rfl
theorem cp9 : cpFn Tryd.prog 6 9 = some f9 := by kernel_rfl
theorem cp10 : cpFn Tryd.prog 6 10 = some f10 := by kernel_rfl
theorem cp11 : cpFn Tryd.prog 6 11 = some f11 := by kernel_rfl
theorem cp12 : cpFn Tryd.prog 6 12 = some f12 := by kernel_rfl
theorem cp13 : cpFn Tryd.prog 6 13 = some f13 := by kernel_rfl
theorem cp14 : cpFn Tryd.prog 6 14 = some f14 := by kernel_rfl
theorem cp16 : cpFn Tryd.prog 6 16 = some f16 := by kernel_rfl
theorem cp17 : cpFn Tryd.prog 6 17 = some f17 := by kernel_rfl
theorem cp18 : cpFn Tryd.prog 6 18 = some f18 := by kernel_rfl
theorem cp19 : cpFn Tryd.prog 6 19 = some f19 := by kernel_rfl
theorem cp20 : cpFn Tryd.prog 6 20 = some f20 := by kernel_rfl
theorem cp21 : cpFn Tryd.prog 6 21 = some f21 := by kernel_rfl
theorem cp22 : cpFn Tryd.prog 6 22 = some f22 := by kernel_rfl
theorem cp23 : cpFn Tryd.prog 6 23 = some f23 := by kernel_rfl
theorem cp24 : cpFn Tryd.prog 6 24 = some f24 := by kernel_rfl
theorem cp25 : cpFn Tryd.prog 6 25 = some f25 := by kernel_rfl
theorem cp26 : cpFn Tryd.prog 6 26 = some f26 := by kernel_rfl
theorem cp27 : cpFn Tryd.prog 6 27 = some f27 := by kernel_rfl
theorem cp28 : cpFn Tryd.prog 6 28 = some f28 := by kernel_rfl
theorem cp29 : cpFn Tryd.prog 6 29 = some f29 := by kernel_rfl
theorem cp30 : cpFn Tryd.prog 6 30 = some f30 := by kernel_rfl
theorem cp31 : cpFn Tryd.prog 6 31 = some f31 := by kernel_rfl
theorem cp32 : cpFn Tryd.prog 6 32 = some f32 := by kernel_rfl
theorem cp33 : cpFn Tryd.prog 6 33 = some f33 := by kernel_rfl
theorem cp34 : cpFn Tryd.prog 6 34 = some f34 := by kernel_rfl
theorem cp35 : cpFn Tryd.prog 6 35 = some f35 := by kernel_rfl
theorem cp36 : cpFn Tryd.prog 6 36 = some f36 := by kernel_rfl
theorem cp37 : cpFn Tryd.prog 6 37 = some f37 := by kernel_rfl
theorem cp38 : cpFn Tryd.prog 6 38 = some f38 := by kernel_rfl
theorem cp39 : cpFn Tryd.prog 6 39 = some f39 := by kernel_rfl
theorem cp40 : cpFn Tryd.prog 6 40 = some f40 := by kernel_rfl
theorem cp41 : cpFn Tryd.prog 6 41 = some f41 := by kernel_rfl
theorem cp42 : cpFn Tryd.prog 6 42 = some f42 := by kernel_rfl
theorem cp43 : cpFn Tryd.prog 6 43 = some f43 := by kernel_rfl
theorem cp44 : cpFn Tryd.prog 6 44 = some f44 := by kernel_rfl
theorem cp45 : cpFn Tryd.prog 6 45 = some f45 := by kernel_rfl
theorem cp46 : cpFn Tryd.prog 6 46 = some f46 := by kernel_rfl
theorem cp47 : cpFn Tryd.prog 6 47 = some f47 := by kernel_rfl
theorem cp48 : cpFn Tryd.prog 6 48 = some f48 := by kernel_rfl
theorem cp49 : cpFn Tryd.prog 6 49 = some f49 := by kernel_rfl
theorem cp50 : cpFn Tryd.prog 6 50 = some f50 := by kernel_rfl
theorem cp52 : cpFn Tryd.prog 6 52 = some f52 := by kernel_rfl
theorem cp53 : cpFn Tryd.prog 6 53 = some f53 := by kernel_rfl
theorem cp54 : cpFn Tryd.prog 6 54 = some f54 := by kernel_rfl
theorem cp55 : cpFn Tryd.prog 6 55 = some f55 := by kernel_rfl
theorem cp56 : cpFn Tryd.prog 6 56 = some f56 := by kernel_rfl
theorem cp57 : cpFn Tryd.prog 6 57 = some f57 := by kernel_rfl
theorem cp58 : cpFn Tryd.prog 6 58 = some f58 := by kernel_rfl
theorem cp59 : cpFn Tryd.prog 6 59 = some f59 := by kernel_rfl
theorem cp60 : cpFn Tryd.prog 6 60 = some f60 := by kernel_rfl
end Go.Ac

/- Tables of functions. -/
namespace Go.Ab
namespace T
variable {α : Type}
def list : T α → List (Nat × α)
  | lf => []
  | nd v l r => (match v with | some x => [(0, x)] | none => []) ++ (l.list.map (fun p => (2 * p.1 + 1, p.2)) ++ r.list.map (fun p => (2 * p.1 + 2, p.2)))
theorem mem_list : ∀ (t : T α) (n : Nat) (x : α), t.get n = some x → (n, x) ∈ t.list
  | lf, _, _, h => by cases h
  | nd v l r, n, x, h => by
    rw [get_nd] at h
    simp only [list, List.mem_append, List.mem_map]
    split at h
    · rename_i e
      subst e; subst h
      exact .inl (by simp)
    · split at h
      · exact .inr (.inl ⟨(n / 2, x), mem_list l _ _ h, by simp; omega⟩)
      · exact .inr (.inr ⟨(n / 2 - 1, x), mem_list r _ _ h, by simp; omega⟩)
end T
theorem tabOk_of {P : Program} {G : Nat} {t : T SFn} (h : ∀ e ∈ t.list, cpFn P G e.1 = some e.2 ∧ isFn P e.1 = true) : TabOk P G t.get := fun f sf hf => h (f, sf) (T.mem_list t f sf hf)
end Go.Ab

/- The table is the program's. -/
namespace Go.Ac
open Go.Ab Go.Proofs
set_option maxRecDepth 100000
theorem tabList : tab.list = [(3, f3), (7, f7), (31, f31), (47, f47), (23, f23), (39, f39), (55, f55), (11, f11), (19, f19), (35, f35), (27, f27), (43, f43), (59, f59), (5, f5), (9, f9), (17, f17), (33, f33), (49, f49), (25, f25), (41, f41), (57, f57), (13, f13), (21, f21), (37, f37), (53, f53), (29, f29), (45, f45), (4, f4), (8, f8), (16, f16), (32, f32), (48, f48), (24, f24), (40, f40), (56, f56), (12, f12), (20, f20), (36, f36), (52, f52), (28, f28), (44, f44), (60, f60), (6, f6), (10, f10), (18, f18), (34, f34), (50, f50), (26, f26), (42, f42), (58, f58), (14, f14), (22, f22), (38, f38), (54, f54), (30, f30), (46, f46)] := by kernel_rfl
theorem is3 : isFn Tryd.prog 3 = true := by kernel_rfl
theorem is4 : isFn Tryd.prog 4 = true := by kernel_rfl
theorem is5 : isFn Tryd.prog 5 = true := by kernel_rfl
theorem is6 : isFn Tryd.prog 6 = true := by kernel_rfl
theorem is7 : isFn Tryd.prog 7 = true := by kernel_rfl
theorem is8 : isFn Tryd.prog 8 = true := by kernel_rfl
theorem is9 : isFn Tryd.prog 9 = true := by kernel_rfl
theorem is10 : isFn Tryd.prog 10 = true := by kernel_rfl
theorem is11 : isFn Tryd.prog 11 = true := by kernel_rfl
theorem is12 : isFn Tryd.prog 12 = true := by kernel_rfl
theorem is13 : isFn Tryd.prog 13 = true := by kernel_rfl
theorem is14 : isFn Tryd.prog 14 = true := by kernel_rfl
theorem is16 : isFn Tryd.prog 16 = true := by kernel_rfl
theorem is17 : isFn Tryd.prog 17 = true := by kernel_rfl
theorem is18 : isFn Tryd.prog 18 = true := by kernel_rfl
theorem is19 : isFn Tryd.prog 19 = true := by kernel_rfl
theorem is20 : isFn Tryd.prog 20 = true := by kernel_rfl
theorem is21 : isFn Tryd.prog 21 = true := by kernel_rfl
theorem is22 : isFn Tryd.prog 22 = true := by kernel_rfl
theorem is23 : isFn Tryd.prog 23 = true := by kernel_rfl
theorem is24 : isFn Tryd.prog 24 = true := by kernel_rfl
theorem is25 : isFn Tryd.prog 25 = true := by kernel_rfl
theorem is26 : isFn Tryd.prog 26 = true := by kernel_rfl
theorem is27 : isFn Tryd.prog 27 = true := by kernel_rfl
theorem is28 : isFn Tryd.prog 28 = true := by kernel_rfl
theorem is29 : isFn Tryd.prog 29 = true := by kernel_rfl
theorem is30 : isFn Tryd.prog 30 = true := by kernel_rfl
theorem is31 : isFn Tryd.prog 31 = true := by kernel_rfl
theorem is32 : isFn Tryd.prog 32 = true := by kernel_rfl
theorem is33 : isFn Tryd.prog 33 = true := by kernel_rfl
theorem is34 : isFn Tryd.prog 34 = true := by kernel_rfl
theorem is35 : isFn Tryd.prog 35 = true := by kernel_rfl
theorem is36 : isFn Tryd.prog 36 = true := by kernel_rfl
theorem is37 : isFn Tryd.prog 37 = true := by kernel_rfl
theorem is38 : isFn Tryd.prog 38 = true := by kernel_rfl
theorem is39 : isFn Tryd.prog 39 = true := by kernel_rfl
theorem is40 : isFn Tryd.prog 40 = true := by kernel_rfl
theorem is41 : isFn Tryd.prog 41 = true := by kernel_rfl
theorem is42 : isFn Tryd.prog 42 = true := by kernel_rfl
theorem is43 : isFn Tryd.prog 43 = true := by kernel_rfl
theorem is44 : isFn Tryd.prog 44 = true := by kernel_rfl
theorem is45 : isFn Tryd.prog 45 = true := by kernel_rfl
theorem is46 : isFn Tryd.prog 46 = true := by kernel_rfl
theorem is47 : isFn Tryd.prog 47 = true := by kernel_rfl
theorem is48 : isFn Tryd.prog 48 = true := by kernel_rfl
theorem is49 : isFn Tryd.prog 49 = true := by kernel_rfl
theorem is50 : isFn Tryd.prog 50 = true := by kernel_rfl
theorem is52 : isFn Tryd.prog 52 = true := by kernel_rfl
theorem is53 : isFn Tryd.prog 53 = true := by kernel_rfl
theorem is54 : isFn Tryd.prog 54 = true := by kernel_rfl
theorem is55 : isFn Tryd.prog 55 = true := by kernel_rfl
theorem is56 : isFn Tryd.prog 56 = true := by kernel_rfl
theorem is57 : isFn Tryd.prog 57 = true := by kernel_rfl
theorem is58 : isFn Tryd.prog 58 = true := by kernel_rfl
theorem is59 : isFn Tryd.prog 59 = true := by kernel_rfl
theorem is60 : isFn Tryd.prog 60 = true := by kernel_rfl
theorem tabOk : TabOk Tryd.prog 6 tab.get := by
  refine tabOk_of ?_
  rw [tabList]
  refine List.forall_mem_cons.2 ⟨⟨cp3, is3⟩, ?_⟩
  refine List.forall_mem_cons.2 ⟨⟨cp7, is7⟩, ?_⟩
  refine List.forall_mem_cons.2 ⟨⟨cp31, is31⟩, ?_⟩
  refine List.forall_mem_cons.2 ⟨⟨cp47, is47⟩, ?_⟩
  refine List.forall_mem_cons.2 ⟨⟨cp23, is23⟩, ?_⟩
  refine List.forall_mem_cons.2 ⟨⟨cp39, is39⟩, ?_⟩
  refine List.forall_mem_cons.2 ⟨⟨cp55, is55⟩, ?_⟩
  refine List.forall_mem_cons.2 ⟨⟨cp11, is11⟩, ?_⟩
  refine List.forall_mem_cons.2 ⟨⟨cp19, is19⟩, ?_⟩
  refine List.forall_mem_cons.2 ⟨⟨cp35, is35⟩, ?_⟩
  refine List.forall_mem_cons.2 ⟨⟨cp27, is27⟩, ?_⟩
  refine List.forall_mem_cons.2 ⟨⟨cp43, is43⟩, ?_⟩
  refine List.forall_mem_cons.2 ⟨⟨cp59, is59⟩, ?_⟩
  refine List.forall_mem_cons.2 ⟨⟨cp5, is5⟩, ?_⟩
  refine List.forall_mem_cons.2 ⟨⟨cp9, is9⟩, ?_⟩
  refine List.forall_mem_cons.2 ⟨⟨cp17, is17⟩, ?_⟩
  refine List.forall_mem_cons.2 ⟨⟨cp33, is33⟩, ?_⟩
  refine List.forall_mem_cons.2 ⟨⟨cp49, is49⟩, ?_⟩
  refine List.forall_mem_cons.2 ⟨⟨cp25, is25⟩, ?_⟩
  refine List.forall_mem_cons.2 ⟨⟨cp41, is41⟩, ?_⟩
  refine List.forall_mem_cons.2 ⟨⟨cp57, is57⟩, ?_⟩
  refine List.forall_mem_cons.2 ⟨⟨cp13, is13⟩, ?_⟩
  refine List.forall_mem_cons.2 ⟨⟨cp21, is21⟩, ?_⟩
  refine List.forall_mem_cons.2 ⟨⟨cp37, is37⟩, ?_⟩
  refine List.forall_mem_cons.2 ⟨⟨cp53, is53⟩, ?_⟩
  refine List.forall_mem_cons.2 ⟨⟨cp29, is29⟩, ?_⟩
  refine List.forall_mem_cons.2 ⟨⟨cp45, is45⟩, ?_⟩
  refine List.forall_mem_cons.2 ⟨⟨cp4, is4⟩, ?_⟩
  refine List.forall_mem_cons.2 ⟨⟨cp8, is8⟩, ?_⟩
  refine List.forall_mem_cons.2 ⟨⟨cp16, is16⟩, ?_⟩
  refine List.forall_mem_cons.2 ⟨⟨cp32, is32⟩, ?_⟩
  refine List.forall_mem_cons.2 ⟨⟨cp48, is48⟩, ?_⟩
  refine List.forall_mem_cons.2 ⟨⟨cp24, is24⟩, ?_⟩
  refine List.forall_mem_cons.2 ⟨⟨cp40, is40⟩, ?_⟩
  refine List.forall_mem_cons.2 ⟨⟨cp56, is56⟩, ?_⟩
  refine List.forall_mem_cons.2 ⟨⟨cp12, is12⟩, ?_⟩
  refine List.forall_mem_cons.2 ⟨⟨cp20, is20⟩, ?_⟩
  refine List.forall_mem_cons.2 ⟨⟨cp36, is36⟩, ?_⟩
  refine List.forall_mem_cons.2 ⟨⟨cp52, is52⟩, ?_⟩
  refine List.forall_mem_cons.2 ⟨⟨cp28, is28⟩, ?_⟩
  refine List.forall_mem_cons.2 ⟨⟨cp44, is44⟩, ?_⟩
  refine List.forall_mem_cons.2 ⟨⟨cp60, is60⟩, ?_⟩
  refine List.forall_mem_cons.2 ⟨⟨cp6, is6⟩, ?_⟩
  refine List.forall_mem_cons.2 ⟨⟨cp10, is10⟩, ?_⟩
  refine List.forall_mem_cons.2 ⟨⟨cp18, is18⟩, ?_⟩
  refine List.forall_mem_cons.2 ⟨⟨cp34, is34⟩, ?_⟩
  refine List.forall_mem_cons.2 ⟨⟨cp50, is50⟩, ?_⟩
  refine List.forall_mem_cons.2 ⟨⟨cp26, is26⟩, ?_⟩
  refine List.forall_mem_cons.2 ⟨⟨cp42, is42⟩, ?_⟩
  refine List.forall_mem_cons.2 ⟨⟨cp58, is58⟩, ?_⟩
  refine List.forall_mem_cons.2 ⟨⟨cp14, is14⟩, ?_⟩
  refine List.forall_mem_cons.2 ⟨⟨cp22, is22⟩, ?_⟩
  refine List.forall_mem_cons.2 ⟨⟨cp38, is38⟩, ?_⟩
  refine List.forall_mem_cons.2 ⟨⟨cp54, is54⟩, ?_⟩
  refine List.forall_mem_cons.2 ⟨⟨cp30, is30⟩, ?_⟩
  refine List.forall_mem_cons.2 ⟨⟨cp46, is46⟩, ?_⟩
  intro x hx
  cases hx
end Go.Ac

/- Closed calls with frozen arguments, evaluated by the kernel. -/
namespace Go.Ab

mutual
/-- a frozen value laid in a heap; empty slices are left out -/
def layF : FD → Hp → Option (C × Hp)
  | .c x, H => match x.closed with
    | true => some (x, H)
    | false => none
  | .sl esz n l, H => match layFs l H with
    | some (c :: cs, H1) => match Nat.beq (c :: cs).length (n * esz) with
      | true => some (.slc H1.nx 0 n n esz false, H1.push (.row (c :: cs).length (c :: cs) .lf false))
      | false => none
    | _ => none
def layFs : List FD → Hp → Option (List C × Hp)
  | [], H => some ([], H)
  | d :: l, H => match layF d H with
    | some (c, H1) => match layFs l H1 with
      | some (cs, H2) => some (c :: cs, H2)
      | none => none
    | none => none
end
def layV : DV → Hp → Option (V × Hp)
  | .one (.f d), H => match layF d H with
    | some (c, H1) => some (.one c, H1)
    | none => none
  | .agg l, H => match allF l with
    | some fs => match layFs fs H with
      | some (cs, H1) => some (.agg cs, H1)
      | none => none
    | none => none
  | _, _ => none
def layVs : List DV → Hp → Option (List V × Hp)
  | [], H => some ([], H)
  | d :: l, H => match layV d H with
    | some (v, H1) => match layVs l H1 with
      | some (vs, H2) => some (v :: vs, H2)
      | none => none
    | none => none

section
variable {G : Nat} {μ μ0 : Nat → Pl} {K K0 : Nat → Prop} {Ĥ : Hp} {w : World} {Z : Nat → Prop}
theorem gr_noMut {μ μ' : Nat → Pl} {K K' : Nat → Prop} {H H' : Hp} (g : Gr μ K H μ' K' H') (hN : NoMut H) : NoMut H' := fun b bk h => (g.new b bk h).elim (hN b bk) id
mutual
theorem layF_ok (hR : Rel G μ K Ĥ w) : ∀ (d : FD) {H0 H1 : Hp} {μ0 : Nat → Pl} {K0 : Nat → Prop} {c0 c : C} {x : Value}, layF d H0 = some (c0, H1) → RF Z Ĥ d c → RC μ K c x → Rel G μ0 K0 H0 w → NoMut H0 →
    ∃ μ1 K1, Rel G μ1 K1 H1 w ∧ RC μ1 K1 c0 x ∧ Gr μ0 K0 H0 μ1 K1 H1
  | .c y, H0, H1, μ0, K0, c0, c, x, h, hr, hx, h0, hN => by
    simp only [layF] at h
    split at h
    · rename_i hc
      obtain ⟨rfl, rfl⟩ := Prod.mk.inj (Option.some.inj h)
      cases hr
      exact ⟨μ0, K0, h0, RC.closed hc hx, Gr.refl _ _ _⟩
    · cases h
  | .sl esz n l, H0, H1, μ0, K0, c0, c, x, h, hr, hx, h0, hN => by
    simp only [layF] at h
    split at h
    · rename_i y ys H2 hl
      split at h
      · rename_i hlen
        obtain ⟨rfl, rfl⟩ := Prod.mk.inj (Option.some.inj h)
        have hlen := Nat.eq_of_beq_eq_true hlen
        cases hr with
        | nil => simp [layFs] at hl
        | sl hz hll hn hld hall =>
          rename_i b o cap ex cs
          obtain ⟨hKb, a, c', rfl, h1, h2, h3, h4⟩ := hx
          have hcl := loads_len hld
          have hpos : 0 < n * esz := by rw [← hlen]; simp
          have hn0 : 0 < n := Nat.pos_of_mul_pos_right hpos
          rcases h4 with h4 | ⟨rfl, h5⟩
          · omega
          obtain ⟨bk, hbk⟩ : ∃ bk, Ĥ.get b = some bk := by
            cases hg : Ĥ.get b with
            | none =>
              have := loads_cell (i := 0) hld hpos
              rw [List.getElem?_eq_getElem (by omega)] at this
              simp [Hp.cell, hg] at this
            | some bk => exact ⟨bk, rfl⟩
          have hcell : ∀ j, j < n * esz → bk.cell (o + j) = cs[j]? := fun j hj => by
            have := loads_cell (i := j) hld hj
            simp only [Hp.cell, hbk, Option.bind_some] at this
            exact this
          have hB := hR.blk b bk hbk
          cases bk with
          | mp es =>
            have := hcell 0 hpos
            rw [List.getElem?_eq_getElem (by omega)] at this
            cases this
          | lp =>
            have := hcell 0 hpos
            rw [List.getElem?_eq_getElem (by omega)] at this
            cases this
          | row nb z m rw =>
            obtain ⟨cs', t, fz, e1, e2, e3, e4, e5⟩ := hB
            have hob : o + n * esz ≤ nb := by
              have := hcell (n * esz - 1) (by omega)
              rw [List.getElem?_eq_getElem (by omega)] at this
              simp only [B.cell] at this
              split at this
              · omega
              · cases this
            have hex : ∀ j, j < n * esz → ∃ x, cs'[(μ b).off + o + j]? = some x ∧ ∀ c, cs[j]? = some c → RC μ K c x := fun j hj => by
              obtain ⟨x, hx1, hx2⟩ := e5 (o + j) cs[j] (by rw [hcell j hj, List.getElem?_eq_getElem (by omega)])
              refine ⟨x, by rw [Nat.add_assoc]; exact hx1, fun c hc => ?_⟩
              rw [List.getElem?_eq_getElem (by omega)] at hc
              rw [← Option.some.inj hc]; exact hx2
            obtain ⟨xs, hxl, hxs⟩ : ∃ xs : List Value, xs.length = n * esz ∧ ∀ j x, xs[j]? = some x → cs'[(μ b).off + o + j]? = some x ∧ ∀ c, cs[j]? = some c → RC μ K c x := by
              refine ⟨(List.range (n * esz)).map fun j => (cs'[(μ b).off + o + j]?).getD Go.undef, by simp, fun j x hj => ?_⟩
              have hjl : j < n * esz := by have := (List.getElem?_eq_some_iff.1 hj).1; simpa using this
              obtain ⟨x', g1, g2⟩ := hex j hjl
              rw [List.getElem?_map, List.getElem?_range hjl] at hj
              simp only [Option.map_some, Option.some.injEq, g1, Option.getD_some] at hj
              subst hj
              exact ⟨g1, g2⟩
            have ha : All2 (RF Z Ĥ) l cs := All2.mk (by omega) hall
            have hb : All2 (RC μ K) cs xs := All2.mk (by omega) fun j c x hc hx => (hxs j x hx).2 c hc
            obtain ⟨μ1, K1, R1, a1, g1⟩ := layFs_ok hR l hl ha hb h0 hN
            have hyl : (y :: ys).length = n * esz := hlen
            obtain ⟨R2, g2⟩ := R1.newRo (gr_noMut g1 hN) (p := ⟨(μ b).blk, (μ b).off + o, (μ b).size⟩) (cs := y :: ys) e1 e2 (by rw [hyl]; show (μ b).off + o + _ ≤ _; omega) (fun i c hc => by
              obtain ⟨x, hx, hr⟩ := a1.at i c hc
              exact ⟨x, (hxs i x hx).1, hr⟩)
            refine ⟨_, _, R2, ⟨.inr rfl, (μ b).addr o, c', rfl, Nat.le_refl _, by omega, fun h => (by cases h), .inr ⟨?_, ?_⟩⟩, g1.trans g2⟩
            · simp [Pl.addr]
            · simp only [if_true]; omega
      · cases h
    · cases h
theorem layFs_ok (hR : Rel G μ K Ĥ w) : ∀ (l : List FD) {H0 H1 : Hp} {μ0 : Nat → Pl} {K0 : Nat → Prop} {cs0 cs : List C} {xs : List Value}, layFs l H0 = some (cs0, H1) → All2 (RF Z Ĥ) l cs → All2 (RC μ K) cs xs → Rel G μ0 K0 H0 w → NoMut H0 →
    ∃ μ1 K1, Rel G μ1 K1 H1 w ∧ All2 (RC μ1 K1) cs0 xs ∧ Gr μ0 K0 H0 μ1 K1 H1
  | [], H0, H1, μ0, K0, cs0, cs, xs, h, hr, hx, h0, hN => by
    simp only [layFs, Option.some.injEq, Prod.mk.injEq] at h
    obtain ⟨rfl, rfl⟩ := h
    match cs, hr with
    | [], _ =>
      match xs, hx with
      | [], _ => exact ⟨μ0, K0, h0, trivial, Gr.refl _ _ _⟩
  | d :: l, H0, H1, μ0, K0, cs0, cs, xs, h, hr, hx, h0, hN => by
    simp only [layFs] at h
    split at h
    · rename_i c1 H2 h1
      split at h
      · rename_i cs1 H3 h2
        obtain ⟨rfl, rfl⟩ := Prod.mk.inj (Option.some.inj h)
        match cs, hr with
        | c :: cs, ⟨r1, r2⟩ =>
          match xs, hx with
          | x :: xs, ⟨x1, x2⟩ =>
            obtain ⟨μ1, K1, R1, a1, g1⟩ := layF_ok hR d h1 r1 x1 h0 hN
            obtain ⟨μ2, K2, R2, a2, g2⟩ := layFs_ok hR l h2 r2 x2 R1 (gr_noMut g1 hN)
            exact ⟨μ2, K2, R2, ⟨a1.mono g2.kk g2.mu, a2⟩, g1.trans g2⟩
      · cases h
    · cases h
end
theorem allF_rf {Z : Nat → Prop} {H : Hp} {β : Beta} : ∀ {l : List DC} {fs : List FD} {cs : List C}, allF l = some fs → All2 (RD Z H β) l cs → All2 (RF Z H) fs cs := fun h hr => allF_ok h hr
theorem layVs_ok (hR : Rel G μ K Ĥ w) : ∀ (l : List DV) {H0 H1 : Hp} {μ0 : Nat → Pl} {K0 : Nat → Prop} {vs0 vs : List V} {xs : List Value}, layVs l H0 = some (vs0, H1) → All2 (RDV Z Ĥ nob) l vs → All2 (RV μ K) vs xs → Rel G μ0 K0 H0 w → NoMut H0 →
    ∃ μ1 K1, Rel G μ1 K1 H1 w ∧ All2 (RV μ1 K1) vs0 xs ∧ Gr μ0 K0 H0 μ1 K1 H1
  | [], H0, H1, μ0, K0, cs0, cs, xs, h, hr, hx, h0, hN => by
    simp only [layVs, Option.some.injEq, Prod.mk.injEq] at h
    obtain ⟨rfl, rfl⟩ := h
    match cs, hr with
    | [], _ =>
      match xs, hx with
      | [], _ => exact ⟨μ0, K0, h0, trivial, Gr.refl _ _ _⟩
  | d :: l, H0, H1, μ0, K0, cs0, cs, xs, h, hr, hx, h0, hN => by
    simp only [layVs] at h
    split at h
    · rename_i v1 H2 h1
      split at h
      · rename_i vs1 H3 h2
        obtain ⟨rfl, rfl⟩ := Prod.mk.inj (Option.some.inj h)
        match cs, hr with
        | v :: vs, ⟨r1, r2⟩ =>
          match xs, hx with
          | x :: xs, ⟨x1, x2⟩ =>
            have hone : ∃ μ1 K1, Rel G μ1 K1 H2 w ∧ RV μ1 K1 v1 x ∧ Gr μ0 K0 H0 μ1 K1 H2 := by
              unfold layV at h1
              split at h1
              · rename_i d
                split at h1
                · rename_i c H4 hc
                  obtain ⟨rfl, rfl⟩ := Prod.mk.inj (Option.some.inj h1)
                  obtain ⟨c', rfl, r1⟩ := r1
                  exact layF_ok hR d hc r1 x1 h0 hN
                · cases h1
              · rename_i dl
                split at h1
                · rename_i fs hfs
                  split at h1
                  · rename_i cs1 H4 hc
                    obtain ⟨rfl, rfl⟩ := Prod.mk.inj (Option.some.inj h1)
                    obtain ⟨cs', rfl, r1⟩ := r1
                    obtain ⟨ys, rfl, x1⟩ := x1
                    obtain ⟨μ1, K1, R1, a1, g1⟩ := layFs_ok hR fs hc (allF_rf hfs r1) x1 h0 hN
                    exact ⟨μ1, K1, R1, ⟨ys, rfl, a1⟩, g1⟩
                  · cases h1
                · cases h1
              · cases h1
            obtain ⟨μ1, K1, R1, a1, g1⟩ := hone
            obtain ⟨μ2, K2, R2, a2, g2⟩ := layVs_ok hR l h2 r2 x2 R1 (gr_noMut g1 hN)
            exact ⟨μ2, K2, R2, ⟨a1.mono g2.kk g2.mu, a2⟩, g1.trans g2⟩
      · cases h
    · cases h
end
end Go.Ab

/- Closed calls with frozen arguments, evaluated: what they hand back. -/
namespace Go.Ab

/-- names from lo on become names from lo' on -/
def shN (lo lo' : Nat) : C → C
  | .slc b o n cap esz ex => .slc (b - lo + lo') o n cap esz ex
  | c => c
/-- no address but of slices from lo on -/
def okN (lo : Nat) : C → Bool
  | .slc b _ _ _ _ _ => Nat.ble lo b
  | c => c.closed
def shRow (lo lo' : Nat) : Option B → Option B
  | some (.row n z m true) => match ((List.range n).map fun i => ((B.row n z m true).cell i).getD .nilp).all (okN lo) with
    | true => some (.row n (((List.range n).map fun i => ((B.row n z m true).cell i).getD .nilp).map (shN lo lo')) .lf true)
    | false => none
  | _ => none
def okRow (lo : Nat) (o : Option B) : Bool := (shRow lo 0 o).isSome
def rdL (f : C → Option FD) : List C → Option (List FD)
  | [] => some []
  | c :: l => match f c with
    | some d => match rdL f l with
      | some r => some (d :: r)
      | none => none
    | none => none
def rdF (H : Hp) (lo : Nat) : Nat → C → Option FD
  | 0, _ => none
  | k + 1, c => match c.closed with
    | true => some (.c c)
    | false => match c with
      | .slc b o n cap esz _ => match Nat.ble lo b && Nat.ble n cap && okRow lo (H.get b) with
        | true => match H.loads b o (n * esz) with
          | some cs => match rdL (rdF H lo k) cs with
            | some l => some (.sl esz n l)
            | none => none
          | none => none
        | false => none
      | _ => none
def rdV1 (H : Hp) (lo k : Nat) : V → Option DV
  | .one c => (rdF H lo k c).map fun d => .one (.f d)
  | .agg l => (rdL (rdF H lo k) l).map fun ds => .agg (ds.map .f)
  | .tup _ => none
def rdVs (H : Hp) (lo k : Nat) : List V → Option (List DV)
  | [] => some []
  | v :: l => match rdV1 H lo k v with
    | some d => match rdVs H lo k l with
      | some r => some (d :: r)
      | none => none
    | none => none
def rdV (H : Hp) (lo k : Nat) : V → Option DV
  | .tup l => (rdVs H lo k l).map .tup
  | v => rdV1 H lo k v
def shV1 (lo lo' : Nat) : V → V
  | .one c => .one (shN lo lo' c)
  | .agg l => .agg (l.map (shN lo lo'))
  | .tup l => .tup l
def shVV (lo lo' : Nat) : V → V
  | .tup l => .tup (l.map (shV1 lo lo'))
  | v => shV1 lo lo' v

/-- rows put behind a heap -/
def addN (Ĥ : Hp) (g : Nat → Option B) : Nat → T B
  | 0 => Ĥ.m
  | k + 1 => match g k with
    | some b => (addN Ĥ g k).set (Ĥ.nx + k) (some b)
    | none => addN Ĥ g k
theorem addN_get {Ĥ : Hp} (hw : WF Ĥ) (g : Nat → Option B) : ∀ (k b : Nat), (addN Ĥ g k).get b = if b < Ĥ.nx then Ĥ.get b else if b < Ĥ.nx + k then g (b - Ĥ.nx) else none
  | 0, b => by
    simp only [addN]
    split
    · rfl
    · rw [if_neg (by omega)]
      cases h : Ĥ.m.get b with
      | none => rfl
      | some bk => exact absurd (hw b bk h) (by omega)
  | k + 1, b => by
    have ih := addN_get hw g k b
    simp only [addN]
    cases hg : g k with
    | none =>
      simp only
      rw [ih]
      split
      · rfl
      · by_cases h1 : b < Ĥ.nx + k
        · rw [if_pos h1, if_pos (by omega)]
        · rw [if_neg h1]
          by_cases h2 : b < Ĥ.nx + (k + 1)
          · rw [if_pos h2, show b - Ĥ.nx = k by omega, hg]
          · rw [if_neg h2]
    | some bk =>
      simp only
      rw [T.get_set]
      by_cases h0 : b = Ĥ.nx + k
      · subst h0
        rw [if_pos rfl, if_neg (by omega), if_pos (by omega), show Ĥ.nx + k - Ĥ.nx = k by omega, hg]
      · rw [if_neg h0, ih]
        split
        · rfl
        · by_cases h1 : b < Ĥ.nx + k
          · rw [if_pos h1, if_pos (by omega)]
          · rw [if_neg h1, if_neg (by omega)]

/-- the heap with what was made -/
def outH (Ĥ : Hp) (H' : Hp) (lo : Nat) : Hp := ⟨addN Ĥ (fun j => shRow lo Ĥ.nx (H'.get (lo + j))) (H'.nx - lo), Ĥ.nx + (H'.nx - lo)⟩
theorem outH_get {Ĥ H' : Hp} (hw : WF Ĥ) (lo b : Nat) : (outH Ĥ H' lo).get b = if b < Ĥ.nx then Ĥ.get b else if b < Ĥ.nx + (H'.nx - lo) then shRow lo Ĥ.nx (H'.get (lo + (b - Ĥ.nx))) else none := addN_get hw _ _ _

theorem shRow_some {lo lo' : Nat} {o : Option B} {bk : B} (h : shRow lo lo' o = some bk) : ∃ (n : Nat) (z : List C) (m : T C) (rw : Bool) (l : List C), o = some (.row n z m rw) ∧ rw = true ∧ bk = .row n (l.map (shN lo lo')) .lf true ∧ l.length = n ∧ ∀ i c, (B.row n z m rw).cell i = some c → l[i]? = some c ∧ okN lo c = true := by
  unfold shRow at h
  split at h
  · rename_i n z m
    split at h
    · rename_i hall
      refine ⟨n, z, m, true, _, rfl, rfl, (Option.some.inj h).symm, by simp, fun i c hc => ?_⟩
      have hi : i < n := by
        simp only [B.cell] at hc
        split at hc
        · assumption
        · cases hc
      have hc' : (B.row n z m true).cell i = some c := hc
      have e : ((List.range n).map fun i => ((B.row n z m true).cell i).getD .nilp)[i]? = some c := by
        rw [List.getElem?_map, List.getElem?_range hi]
        simp only [Option.map_some, hc', Option.getD_some]
      refine ⟨e, ?_⟩
      rw [List.all_eq_true] at hall
      exact hall c (List.mem_of_getElem? e)
    · cases h
  · cases h
theorem shRow_ok {lo lo' : Nat} {o : Option B} (h : okRow lo o = true) : ∃ bk, shRow lo lo' o = some bk := by
  unfold okRow at h
  obtain ⟨bk, hb⟩ := Option.isSome_iff_exists.1 h
  cases o with
  | none => cases hb
  | some x =>
    cases x with
    | mp es => cases hb
    | lp => cases hb
    | row n z m rw =>
      cases rw with
      | false => cases hb
      | true =>
      unfold shRow at hb ⊢
      simp only at hb ⊢
      cases hall : ((List.range n).map fun i => ((B.row n z m true).cell i).getD .nilp).all (okN lo) with
      | true => exact ⟨_, rfl⟩
      | false => rw [hall] at hb; cases hb
/-- a cell of a row that was put behind -/
theorem outH_cell {Ĥ H' : Hp} (hw : WF Ĥ) (hw' : WF H') {lo b i : Nat} {c : C} (hb : lo ≤ b) (hok : okRow lo (H'.get b) = true) (hc : H'.cell b i = some c) : (outH Ĥ H' lo).cell (b - lo + Ĥ.nx) i = some (shN lo Ĥ.nx c) := by
  obtain ⟨bk, hbk⟩ := shRow_ok (lo' := Ĥ.nx) hok
  obtain ⟨n, z, m, rw, l, e1, _, rfl, e3, e4⟩ := shRow_some hbk
  have hlt := hw' b _ e1
  have hg : (outH Ĥ H' lo).get (b - lo + Ĥ.nx) = some (.row n (l.map (shN lo Ĥ.nx)) .lf true) := by
    rw [outH_get hw, if_neg (by omega), if_pos (by omega), show lo + (b - lo + Ĥ.nx - Ĥ.nx) = b by omega]
    exact hbk
  simp only [Hp.cell, e1, Option.bind_some] at hc
  obtain ⟨h1, h2⟩ := e4 i c hc
  have hi : i < n := by have := (List.getElem?_eq_some_iff.1 h1).1; omega
  simp only [Hp.cell, hg, Option.bind_some, B.cell, if_pos hi, T.get_lf, Option.getD_none, List.length_map, e3, Nat.mod_eq_of_lt hi, List.getD_eq_getElem?_getD, List.getElem?_map, h1, Option.map_some, Option.getD_some]
theorem outH_loads {Ĥ H' : Hp} (hw : WF Ĥ) (hw' : WF H') {lo b : Nat} (hb : lo ≤ b) (hok : okRow lo (H'.get b) = true) : ∀ {k o : Nat} {cs : List C}, H'.loads b o k = some cs → (outH Ĥ H' lo).loads (b - lo + Ĥ.nx) o k = some (cs.map (shN lo Ĥ.nx))
  | 0, _, _, h => by obtain rfl := Option.some.inj h; rfl
  | k + 1, o, cs, h => by
    simp only [Hp.loads] at h ⊢
    cases hc : H'.cell b o with
    | none => simp [hc] at h
    | some c =>
      simp only [hc] at h
      simp only [outH_cell hw hw' hb hok hc]
      cases hr : H'.loads b (o + 1) k with
      | none => simp [hr] at h
      | some r =>
        simp only [hr, Option.some.injEq] at h
        subst h
        simp only [outH_loads hw hw' hb hok hr, List.map_cons]
theorem shN_closed {lo lo' : Nat} {c : C} (h : c.closed = true) : shN lo lo' c = c := by
  cases c <;> first | rfl | cases h
theorem rdL_all {f : C → Option FD} {R : FD → C → Prop} {g : C → C} (hf : ∀ c d, f c = some d → R d (g c)) : ∀ {l : List C} {r : List FD}, rdL f l = some r → All2 R r (l.map g)
  | [], r, h => by obtain rfl := Option.some.inj h; trivial
  | c :: l, r, h => by
    simp only [rdL] at h
    split at h
    · rename_i d hd
      split at h
      · rename_i r' hr
        obtain rfl := Option.some.inj h
        exact ⟨hf c d hd, rdL_all hf hr⟩
      · cases h
    · cases h
theorem rdF_ok {Ĥ H' : Hp} (hw : WF Ĥ) (hw' : WF H') {lo : Nat} {Z : Nat → Prop} (hZ : ∀ b, Ĥ.nx ≤ b → b < Ĥ.nx + (H'.nx - lo) → Z b) : ∀ (k : Nat) (c : C) (d : FD), rdF H' lo k c = some d → RF Z (outH Ĥ H' lo) d (shN lo Ĥ.nx c)
  | 0, c, d, h => by cases h
  | k + 1, c, d, h => by
    simp only [rdF] at h
    split at h
    · rename_i hc
      obtain rfl := Option.some.inj h
      rw [shN_closed hc]
      exact .c c hc
    · cases c with
      | slc b o n cap esz ex =>
        simp only at h
        split at h
        · rename_i hcond
          simp only [Bool.and_eq_true] at hcond
          obtain ⟨⟨h1, h2⟩, h3⟩ := hcond
          have h1 := Nat.le_of_ble_eq_true h1
          have h2 := Nat.le_of_ble_eq_true h2
          split at h
          · rename_i cs hcs
            split at h
            · rename_i l hl
              obtain rfl := Option.some.inj h
              have ha := rdL_all (R := RF Z (outH Ĥ H' lo)) (g := shN lo Ĥ.nx) (fun c d hcd => rdF_ok hw hw' hZ k c d hcd) hl
              have hcl := loads_len hcs
              have hbl : b < H'.nx := by
                obtain ⟨bk, hbk⟩ := shRow_ok (lo' := Ĥ.nx) h3
                obtain ⟨n', z, m, rw, l', e1, _⟩ := shRow_some hbk
                exact hw' b _ e1
              refine .sl (fun _ => hZ _ (by omega) (by omega)) ?_ h2 (outH_loads hw hw' h1 h3 hcs) fun i d c hd hc => ?_
              · have := ha.len; rw [this, List.length_map, hcl]
              · obtain ⟨c', hc', hr⟩ := ha.at i d hd
                rw [hc] at hc'
                obtain rfl := Option.some.inj hc'
                exact hr
            · cases h
          · cases h
        · cases h
      | _ => cases h
theorem f_all {Z : Nat → Prop} {H : Hp} {β : Beta} : ∀ {ds : List FD} {cs : List C}, All2 (RF Z H) ds cs → All2 (RD Z H β) (ds.map .f) cs := fun h => all2_map_f h
theorem rdV1_ok {Ĥ H' : Hp} (hw : WF Ĥ) (hw' : WF H') {lo : Nat} {Z : Nat → Prop} (hZ : ∀ b, Ĥ.nx ≤ b → b < Ĥ.nx + (H'.nx - lo) → Z b) {k : Nat} {v : V} {d : DV} (h : rdV1 H' lo k v = some d) : RDV1 Z (outH Ĥ H' lo) nob d (shV1 lo Ĥ.nx v) := by
  cases v with
  | one c =>
    simp only [rdV1, Option.map_eq_some_iff] at h
    obtain ⟨x, hx, rfl⟩ := h
    exact ⟨_, rfl, rdF_ok hw hw' hZ k c x hx⟩
  | agg l =>
    simp only [rdV1, Option.map_eq_some_iff] at h
    obtain ⟨x, hx, rfl⟩ := h
    exact ⟨_, rfl, f_all (rdL_all (R := RF Z (outH Ĥ H' lo)) (g := shN lo Ĥ.nx) (fun c d hcd => rdF_ok hw hw' hZ k c d hcd) hx)⟩
  | tup l => cases h
theorem rdVs_ok {Ĥ H' : Hp} (hw : WF Ĥ) (hw' : WF H') {lo : Nat} {Z : Nat → Prop} (hZ : ∀ b, Ĥ.nx ≤ b → b < Ĥ.nx + (H'.nx - lo) → Z b) {k : Nat} : ∀ {l : List V} {ds : List DV}, rdVs H' lo k l = some ds → All2 (RDV1 Z (outH Ĥ H' lo) nob) ds (l.map (shV1 lo Ĥ.nx))
  | [], ds, h => by obtain rfl := Option.some.inj h; trivial
  | v :: l, ds, h => by
    simp only [rdVs] at h
    split at h
    · rename_i d hd
      split at h
      · rename_i r' hr
        obtain rfl := Option.some.inj h
        exact ⟨rdV1_ok hw hw' hZ hd, rdVs_ok hw hw' hZ hr⟩
      · cases h
    · cases h
theorem rdV_ok {Ĥ H' : Hp} (hw : WF Ĥ) (hw' : WF H') {lo : Nat} {Z : Nat → Prop} (hZ : ∀ b, Ĥ.nx ≤ b → b < Ĥ.nx + (H'.nx - lo) → Z b) {k : Nat} {v : V} {d : DV} (h : rdV H' lo k v = some d) : RDV Z (outH Ĥ H' lo) nob d (shVV lo Ĥ.nx v) := by
  cases v with
  | tup l =>
    simp only [rdV, Option.map_eq_some_iff] at h
    obtain ⟨ds, hds, rfl⟩ := h
    exact ⟨_, rfl, rdVs_ok hw hw' hZ hds⟩
  | one c => exact RDV.of1 (rdV1_ok hw hw' hZ (k := k) (show rdV1 H' lo k (.one c) = some d from h))
  | agg l => exact RDV.of1 (rdV1_ok hw hw' hZ (k := k) (show rdV1 H' lo k (.agg l) = some d from h))
end Go.Ab

/- Closed calls with frozen arguments, evaluated: the contract. -/
namespace Go.Ab

def refLt (n : Nat) : C → Bool
  | .slc b _ _ _ _ _ => Nat.blt b n
  | .ptr b _ => Nat.blt b n
  | .map b => Nat.blt b n
  | .yld b => Nat.blt b n
  | .fn _ caps => caps.isEmpty
  | _ => true
def evD (tb : Nat → Option SFn) (fuel : Nat) (f : FuncId) (ds : List DV) (GH : Hp) : Option DV :=
  match layVs ds GH with
  | some (args, H0) => match evF tb fuel f args H0 with
    | some (v, H') => rdV H' H0.nx 50 v
    | none => none
  | none => none
/-- what is asked of the globals -/
structure GHok (G : Nat) (GH : Hp) : Prop where
  nx : G ≤ GH.nx
  wf : WF GH
  ro : NoMut GH
  ref : ∀ b bk i c, GH.get b = some bk → bk.cell i = some c → refLt GH.nx c = true

section
variable {P : Program} {G : Nat} {GH : Hp} {tb : Nat → Option SFn}
theorem RC.ref {μ : Nat → Pl} {K : Nat → Prop} {n : Nat} {c : C} {x : Value} (h : RC μ K c x) (hc : refLt n c = true) : RC μ (fun b => b < n ∧ K b) c x := by
  cases c with
  | ptr b o => exact ⟨⟨Nat.le_of_ble_eq_true hc, h.1⟩, h.2⟩
  | slc b o len cap esz ex => exact ⟨⟨Nat.le_of_ble_eq_true hc, h.1⟩, h.2⟩
  | map b => exact ⟨⟨Nat.le_of_ble_eq_true hc, h.1⟩, h.2⟩
  | yld b => exact ⟨⟨Nat.le_of_ble_eq_true hc, h.1⟩, h.2⟩
  | fn f caps =>
    simp only [refLt, List.isEmpty_iff] at hc
    subst hc
    exact ⟨fun p hp => (by cases hp), h.2⟩
  | _ => exact h
theorem shN_rc {μ μ' : Nat → Pl} {K K' : Nat → Prop} {lo lo' : Nat} (hK : ∀ b, lo ≤ b → K b → K' (b - lo + lo')) (hμ : ∀ b, lo ≤ b → K b → μ' (b - lo + lo') = μ b) {c : C} {x : Value} (h : RC μ K c x) (hc : okN lo c = true) : RC μ' K' (shN lo lo' c) x := by
  cases c with
  | slc b o n cap esz ex =>
    have hb := Nat.le_of_ble_eq_true hc
    obtain ⟨h1, a, c, h2, h3, h4, h5, h6⟩ := h
    exact ⟨hK b hb h1, a, c, h2, h3, h4, h5, by rw [hμ b hb h1]; exact h6⟩
  | ptr b o => cases hc
  | map b => cases hc
  | yld b => cases hc
  | fn f caps => exact RC.closed (show (C.fn f caps).closed = true from hc) h
  | _ => exact h

theorem rdF_oks {H' : Hp} {lo : Nat} : ∀ {k : Nat} {c : C} {d : FD}, rdF H' lo k c = some d → okN lo c = true
  | 0, c, d, h => by cases h
  | k + 1, c, d, h => by
    simp only [rdF] at h
    split at h
    · rename_i hc
      cases c <;> first | exact hc | cases hc
    · cases c with
      | slc b o n cap esz ex =>
        simp only at h
        split at h
        · rename_i hcond
          simp only [Bool.and_eq_true] at hcond
          exact hcond.1.1
        · cases h
      | _ => cases h
theorem rdL_oks {H' : Hp} {lo k : Nat} : ∀ {l : List C} {r : List FD}, rdL (rdF H' lo k) l = some r → ∀ c ∈ l, okN lo c = true
  | [], _, _, c, hc => by cases hc
  | x :: l, r, h, c, hc => by
    simp only [rdL] at h
    split at h
    · rename_i d hd
      split at h
      · rename_i r' hr
        rcases List.mem_cons.1 hc with rfl | hc
        · exact rdF_oks hd
        · exact rdL_oks hr c hc
      · cases h
    · cases h
theorem rc_all {μ μ' : Nat → Pl} {K K' : Nat → Prop} {lo lo' : Nat} (hK : ∀ b, lo ≤ b → K b → K' (b - lo + lo')) (hμ : ∀ b, lo ≤ b → K b → μ' (b - lo + lo') = μ b) : ∀ {l : List C} {xs : List Value}, All2 (RC μ K) l xs → (∀ c ∈ l, okN lo c = true) → All2 (RC μ' K') (l.map (shN lo lo')) xs
  | [], [], _, _ => trivial
  | c :: l, x :: xs, h, ho => ⟨shN_rc hK hμ h.1 (ho c (by simp)), rc_all hK hμ h.2 fun c hc => ho c (by simp [hc])⟩
  | [], _ :: _, h, _ => h.elim
  | _ :: _, [], h, _ => h.elim
theorem rv1_sh {μ μ' : Nat → Pl} {K K' : Nat → Prop} {lo lo' : Nat} (hK : ∀ b, lo ≤ b → K b → K' (b - lo + lo')) (hμ : ∀ b, lo ≤ b → K b → μ' (b - lo + lo') = μ b) {H' : Hp} {k : Nat} {v : V} {d : DV} {x : Value} (hd : rdV1 H' lo k v = some d) (h : RV1 μ K v x) : RV1 μ' K' (shV1 lo lo' v) x := by
  cases v with
  | one c =>
    simp only [rdV1, Option.map_eq_some_iff] at hd
    obtain ⟨y, hy, _⟩ := hd
    exact shN_rc hK hμ h (rdF_oks hy)
  | agg l =>
    simp only [rdV1, Option.map_eq_some_iff] at hd
    obtain ⟨y, hy, _⟩ := hd
    obtain ⟨xs, rfl, ha⟩ := h
    exact ⟨xs, rfl, rc_all hK hμ ha (rdL_oks hy)⟩
  | tup l => cases hd
theorem rv_shs {μ μ' : Nat → Pl} {K K' : Nat → Prop} {lo lo' : Nat} (hK : ∀ b, lo ≤ b → K b → K' (b - lo + lo')) (hμ : ∀ b, lo ≤ b → K b → μ' (b - lo + lo') = μ b) {H' : Hp} {k : Nat} : ∀ {l : List V} {ds : List DV} {xs : List Value}, rdVs H' lo k l = some ds → All2 (RV1 μ K) l xs → All2 (RV1 μ' K') (l.map (shV1 lo lo')) xs
  | [], _, [], _, _ => trivial
  | v :: l, ds, x :: xs, h, ha => by
    simp only [rdVs] at h
    split at h
    · rename_i d hd
      split at h
      · rename_i r' hr
        exact ⟨rv1_sh hK hμ hd ha.1, rv_shs hK hμ hr ha.2⟩
      · cases h
    · cases h
  | [], _, _ :: _, _, h => h.elim
  | _ :: _, _, [], _, h => h.elim
theorem rv_sh {μ μ' : Nat → Pl} {K K' : Nat → Prop} {lo lo' : Nat} (hK : ∀ b, lo ≤ b → K b → K' (b - lo + lo')) (hμ : ∀ b, lo ≤ b → K b → μ' (b - lo + lo') = μ b) {H' : Hp} {k : Nat} {v : V} {d : DV} {x : Value} (hd : rdV H' lo k v = some d) (h : RV μ K v x) : RV μ' K' (shVV lo lo' v) x := by
  cases v with
  | tup l =>
    simp only [rdV, Option.map_eq_some_iff] at hd
    obtain ⟨ds, hds, _⟩ := hd
    obtain ⟨xs, rfl, ha⟩ := h
    exact ⟨xs, rfl, rv_shs hK hμ hds ha⟩
  | one c => exact RV.of1 (rv1_sh hK hμ (k := k) (show rdV1 H' lo k (.one c) = some d from hd) h)
  | agg l => exact RV.of1 (rv1_sh hK hμ (k := k) (show rdV1 H' lo k (.agg l) = some d from hd) h)

/-- A CLOSED CALL WITH FROZEN ARGUMENTS, EVALUATED. -/
theorem evD_ok (hm : P.follows .mixedOrders = true) (htb : TabOk P G tb) (hg : GHok G GH) {fuel : Nat} {f : FuncId} {ds : List DV} {d : DV} (h : evD tb fuel f ds GH = some d) : DCalls P G GH f ds fun d' => d' = d := by
  unfold evD at h
  split at h
  · rename_i args0 H0 hlay
    split at h
    · rename_i v0 H1 hev
      intro Ĥ Z args hw hz hGH hargs μ K w xs hR hxs
      -- the globals alone
      have R0 : Rel G μ (fun b => b < GH.nx ∧ K b) GH w := by
        refine ⟨fun b bk hb => ⟨hg.wf b bk hb, hR.dom b bk (hGH b bk hb).2⟩, fun b hb => hb.1, fun b bk hb => ?_, fun b b' bk bk' hb _ hm => ?_, fun g hgl => ⟨⟨Nat.lt_of_lt_of_le hgl hg.nx, (hR.glob g hgl).1⟩, (hR.glob g hgl).2⟩⟩
        · have hb' := hR.blk b bk (hGH b bk hb).2
          have hro := hg.ro b bk hb
          cases bk with
          | mp es => cases hro
          | lp => cases hro
          | row n z m rw =>
            obtain ⟨cs, t, fz, e1, e2, e3, e4, e5⟩ := hb'
            exact ⟨cs, t, fz, e1, e2, e3, e4, fun i c hcc => by
              obtain ⟨x, hx, hr⟩ := e5 i c hcc
              exact ⟨x, hx, hr.ref (hg.ref b _ i c hb hcc)⟩⟩
        · rw [hg.ro b bk hb] at hm; cases hm
      obtain ⟨μ1, K1, R1, a1, g1⟩ := layVs_ok hR ds hlay hargs hxs R0 hg.ro
      have N1 := gr_noMut g1 hg.ro
      refine (evF_ok hm htb hev μ1 K1 w xs R1 a1).mono ?_
      rintro e w' ⟨x, rfl, v, H2, μ2, K2, ⟨rfl, rfl⟩, h2, h3, h4⟩
      have hkeep : ∀ i, i < w.heap.size → w'.heap[i]? = w.heap[i]? := fun i hi => h4.keep i hi fun b bk hb hm => by rw [N1 b bk hb] at hm; cases hm
      have hnx := h4.nx
      have hlt : ∀ b, K b → b < Ĥ.nx := hR.lt
      obtain ⟨μ3, hμ3⟩ : ∃ μ3 : Nat → Pl, ∀ b, μ3 b = if b < Ĥ.nx then μ b else μ2 (H0.nx + (b - Ĥ.nx)) := ⟨_, fun _ => rfl⟩
      obtain ⟨K3, hK3⟩ : ∃ K3 : Nat → Prop, ∀ b, K3 b = if b < Ĥ.nx then K b else K2 (H0.nx + (b - Ĥ.nx)) := ⟨_, fun _ => rfl⟩
      have hmu : ∀ b, K b → μ3 b = μ b := fun b hb => by rw [hμ3, if_pos (hlt b hb)]
      have hkk : ∀ b, K b → K3 b := fun b hb => by rw [hK3, if_pos (hlt b hb)]; exact hb
      have sK : ∀ b, H0.nx ≤ b → K2 b → K3 (b - H0.nx + Ĥ.nx) := fun b hb hk => by
        rw [hK3, if_neg (show ¬ b - H0.nx + Ĥ.nx < Ĥ.nx by omega)]
        rw [show H0.nx + (b - H0.nx + Ĥ.nx - Ĥ.nx) = b by omega]; exact hk
      have sμ : ∀ b, H0.nx ≤ b → K2 b → μ3 (b - H0.nx + Ĥ.nx) = μ2 b := fun b hb hk => by
        rw [hμ3, if_neg (show ¬ b - H0.nx + Ĥ.nx < Ĥ.nx by omega)]
        rw [show H0.nx + (b - H0.nx + Ĥ.nx - Ĥ.nx) = b by omega]
      -- a block of the new heap
      have hcase : ∀ b bk, (outH Ĥ H2 H0.nx).get b = some bk → (b < Ĥ.nx ∧ Ĥ.get b = some bk) ∨ (¬ b < Ĥ.nx ∧ b < Ĥ.nx + (H2.nx - H0.nx) ∧ ∃ n z m rw l, H2.get (H0.nx + (b - Ĥ.nx)) = some (.row n z m rw) ∧ bk = .row n (List.map (shN H0.nx Ĥ.nx) l) .lf true ∧ l.length = n ∧ (∀ i c, (B.row n z m rw).cell i = some c → l[i]? = some c ∧ okN H0.nx c = true) ∧ rw = true ∧ w.heap.size ≤ (μ2 (H0.nx + (b - Ĥ.nx))).blk) := fun b bk hb => by
        rw [outH_get hw] at hb
        split at hb
        · rename_i hlt; exact .inl ⟨hlt, hb⟩
        · rename_i hnlt
          split at hb
          · rename_i hlt2
            obtain ⟨n, z, m, rw, l, e1, hmut, e2, e3, e4⟩ := shRow_some hb
            refine .inr ⟨hnlt, hlt2, n, z, m, rw, l, e1, e2, e3, e4, hmut, ?_⟩
            rcases h4.img _ _ e1 hmut with ⟨b0, k0, g0, m0, _⟩ | hge
            · rw [N1 b0 k0 g0] at m0; cases m0
            · exact hge
          · cases hb
      have hold : ∀ b, b < Ĥ.nx → (outH Ĥ H2 H0.nx).get b = Ĥ.get b := fun b hb => by rw [outH_get hw, if_pos hb]
      refine ⟨x, rfl, shVV H0.nx Ĥ.nx v, outH Ĥ H2 H0.nx, μ3, K3, ⟨?_, ?_, hold, d, ?_, rfl⟩, rv_sh sK sμ h h2, ⟨?_, ?_, ?_, ?_, ?_⟩, ?_⟩
      · intro b bk hb
        show b < Ĥ.nx + _
        rcases hcase b bk hb with ⟨h, _⟩ | ⟨_, h, _⟩ <;> omega
      · show Ĥ.nx ≤ Ĥ.nx + _; omega
      · exact rdV_ok hw h3.lt' (fun b h1 h2 => .inr ⟨h1, h2⟩) h
      · intro b bk hb
        rcases hcase b bk hb with ⟨h1, h2⟩ | ⟨h1, h2, n, z, m, rw, l, e1, _⟩
        · exact hkk b (hR.dom b bk h2)
        · rw [hK3, if_neg h1]; exact h3.dom _ _ e1
      · intro b hb
        show b < Ĥ.nx + _
        by_cases h1 : b < Ĥ.nx
        · omega
        · rw [hK3, if_neg h1] at hb
          have := h3.lt _ hb
          omega
      · intro b bk hb
        rcases hcase b bk hb with ⟨h1, h2⟩ | ⟨h1, h2, n, z, m, rw, l, e1, rfl, e3, e4, e5, e6⟩
        · rw [hmu b (hR.dom b bk h2), hkeep _ (hR.blk_lt h2)]
          exact (hR.blk b bk h2).mono hkk hmu
        · rw [hμ3, if_neg h1]
          obtain ⟨cs, t, fz, q1, q2, q3, q4, q5⟩ := h3.blk _ _ e1
          refine ⟨cs, t, fz, q1, q2, q3, fun _ => q4 e5, fun i c hc => ?_⟩
          simp only [B.cell] at hc
          split at hc
          · rename_i hi
            simp only [T.get_lf, Option.getD_none, List.length_map, e3, Nat.mod_eq_of_lt hi, List.getD_eq_getElem?_getD, List.getElem?_map, Option.some.injEq] at hc
            obtain ⟨c0, hc0⟩ : ∃ c0, (B.row n z m rw).cell i = some c0 := by simp only [B.cell, if_pos hi]; exact ⟨_, rfl⟩
            obtain ⟨k1, k2⟩ := e4 i c0 hc0
            rw [k1] at hc
            simp only [Option.map_some, Option.getD_some] at hc
            subst hc
            obtain ⟨y, hy, hr⟩ := q5 i c0 hc0
            exact ⟨y, hy, shN_rc sK sμ hr k2⟩
          · cases hc
      · intro b b' bk bk' hb hb' hm he
        rcases hcase b bk hb with ⟨h1, h2⟩ | ⟨h1, h2, n, z, m, rw, l, e1, rfl, e3, e4, e5, e6⟩
        · rcases hcase b' bk' hb' with ⟨k1, k2⟩ | ⟨k1, k2, n', z', m', rw', l', f1, rfl, f3, f4, f5, f6⟩
          · rw [hmu b (hR.dom b bk h2), hmu b' (hR.dom b' bk' k2)] at he
            exact hR.inj b b' bk bk' h2 k2 hm he
          · rw [hmu b (hR.dom b bk h2)] at he
            rw [hμ3, if_neg k1] at he
            have := hR.blk_lt h2
            omega
        · rcases hcase b' bk' hb' with ⟨k1, k2⟩ | ⟨k1, k2, n', z', m', rw', l', f1, rfl, f3, f4, f5, f6⟩
          · rw [hmu b' (hR.dom b' bk' k2)] at he
            rw [hμ3, if_neg h1] at he
            have := hR.blk_lt k2
            omega
          · rw [hμ3, if_neg h1, hμ3, if_neg k1] at he
            have := h3.inj _ _ _ _ e1 f1 e5 he
            omega
      · intro g hgl
        have := hR.glob g hgl
        refine ⟨hkk g this.1, ?_⟩
        rw [hmu g this.1]; exact this.2
      · refine ⟨h4.same, h4.size, fun i hi _ => hkeep i hi, fun b bk hb hm => ?_, fun b bk hb hgt => ?_, hmu, hkk, fun b hb hk => ?_, ?_, fun b hb hn => ?_, fun b bk bk' hb hb' => ?_, fun b bk hb _ => ?_⟩
        · rcases hcase b bk hb with ⟨h1, h2⟩ | ⟨h1, h2, n, z, m, rw, l, e1, rfl, e3, e4, e5, e6⟩
          · exact .inl ⟨b, bk, h2, hm, by rw [hmu b (hR.dom b bk h2)]⟩
          · right; rw [hμ3, if_neg h1]; exact e6
        · rcases hcase b bk hgt with ⟨h1, h2⟩ | ⟨h1, h2, n, z, m, rw, l, e1, rfl, e3, e4, e5, e6⟩
          · omega
          · exact .inl rfl
        · rw [hK3, if_pos hb] at hk; exact hk
        · show Ĥ.nx ≤ Ĥ.nx + _; omega
        · rw [hold b hb]; exact hn
        · rw [hold b (hw b bk hb), hb] at hb'; rw [Option.some.inj hb']
        · rw [hold b (hw b bk hb)]; exact hb
    · cases h
  · cases h
end
end Go.Ab

/- Deep values: parts of slices. -/
namespace Go.Ab
/-- a bound of a slice expression -/
def bnd (E : DEnv) (d : Nat) : Option Opd → Option Nat
  | none => some d
  | some x => match ro E x with
    | some (.one (.f (.c (.int _ (.ofNat i))))) => some i
    | _ => none
section
variable {p : Par} {base rs : Nat} {Q : DEnv → Bx → Nat → Prop} {r : List SOper} {W : Wt} {A : List Nat} {E : DEnv} {S : Bx} {nk : Nat} {id : Nat} {dst : Option Nat} {aid : Option Nat} {ws : List Nat} {keep : Bool}
theorem bnd_ok {Z : Nat → Prop} {β : Beta} {H : Hp} {F : T V} (hE : ER Z β H E F) {d i y : Nat} {x : Option Opd} (h : bnd E d x = some i) (hy : i ≤ y) : aBound F d y x = some i := by
  cases x with
  | none => obtain rfl := Option.some.inj h; simp only [aBound, if_pos hy]
  | some x =>
    simp only [bnd] at h
    split at h
    · rename_i hx
      obtain rfl := Option.some.inj h
      simp only [aBound, int_of hE hx]
      rw [if_pos ⟨Int.natCast_nonneg _, Int.ofNat_le.2 hy⟩]
      rfl
    · cases h
theorem dw_slo {esz : Nat} {x : Opd} {lo hi : Option Opd} {k o n l h o' n' : Nat} (hx : ro E x = some (.one (.own k o n esz))) (hlo : bnd E 0 lo = some l) (hhi : bnd E n hi = some h) (h1 : l ≤ h) (h2 : h ≤ n) (ho : o + l * esz = o') (hn : h - l = n') (hd : DPW p base rs Q r W A (setD E dst (.one (.own k o' n' esz))) S nk) : DPW p base rs Q (⟨id, dst, .p (.slice esz x lo hi none), none, aid, ws, keep⟩ :: r) W A E S nk := by
  subst ho; subst hn
  refine dw_pv (fun {Z β H F} hE => ?_) hd
  obtain ⟨c, hc, hr⟩ := ro_ok hE hx
  rcases hr with ⟨g1, rfl, rfl, rfl⟩ | ⟨b, N, cap, ex, g1, rfl, g2, g3⟩
  · have e1 : h = 0 := by omega
    have e2 : l = 0 := by omega
    subst e1; subst e2
    refine ⟨.one .nils, ?_, _, rfl, .inl ⟨g1, rfl, by simp, rfl⟩⟩
    simp only [aPure, hc, aSlice, bnd_ok hE hlo (Nat.le_refl 0), bnd_ok hE hhi (Nat.le_refl 0)]
    rfl
  · refine ⟨.one (.slc b (o + l * esz) (h - l) (cap - l) esz ex), ?_, _, rfl, .inr ⟨b, N, cap - l, ex, g1, rfl, by omega, ?_⟩⟩
    · have hm : aBound F cap cap none = some cap := by simp [aBound]
      simp only [aPure, hc, aSlice]
      rw [if_neg (by simp), hm]
      simp only [bnd_ok hE hhi (show h ≤ cap by omega), bnd_ok hE hlo h1]
      simp
    · have : (cap - l) * esz + l * esz = cap * esz := by rw [← Nat.add_mul]; congr 1; omega
      omega
theorem dw_slf {esz : Nat} {x : Opd} {lo hi : Option Opd} {n l h n' : Nat} {m q : List FD} (hx : ro E x = some (.one (.f (.sl esz n m)))) (hlo : bnd E 0 lo = some l) (hhi : bnd E n hi = some h) (h1 : l ≤ h) (h2 : h ≤ n) (hn : h - l = n') (hq : subL m (l * esz) (n' * esz) = some q) (hd : DPW p base rs Q r W A (setD E dst (.one (.f (.sl esz n' q)))) S nk) : DPW p base rs Q (⟨id, dst, .p (.slice esz x lo hi none), none, aid, ws, keep⟩ :: r) W A E S nk := by
  subst hn
  refine dw_pv (fun {Z β H F} hE => ?_) hd
  obtain ⟨c, hc, hr⟩ := ro_ok hE hx
  obtain ⟨hle, hqe⟩ := subL_some hq
  cases hr with
  | nil =>
    have e1 : h = 0 := by omega
    have e2 : l = 0 := by omega
    subst e1; subst e2
    obtain rfl : q = [] := by rw [hqe]; simp
    refine ⟨.one .nils, ?_, _, rfl, .nil esz⟩
    simp only [aPure, hc, aSlice, bnd_ok hE hlo (Nat.le_refl 0), bnd_ok hE hhi (Nat.le_refl 0)]
    rfl
  | sl hz hl hcap hld hel =>
    rename_i b o cap ex cs
    have hlen : m.length = cs.length := by rw [hl, loads_len hld]
    refine ⟨.one (.slc b (o + l * esz) (h - l) (cap - l) esz ex), ?_, _, rfl, .sl (cs := (cs.drop (l * esz)).take ((h - l) * esz)) (fun h0 => hz ?_) ?_ (by omega) (loads_at hld (by omega)) fun i d c hd hc => ?_⟩
    · have hm : aBound F cap cap none = some cap := by simp [aBound]
      simp only [aPure, hc, aSlice]
      rw [if_neg (by simp), hm]
      simp only [bnd_ok hE hhi (show h ≤ cap by omega), bnd_ok hE hlo h1]
      simp
    · have : (h - l) * esz ≤ n * esz := Nat.mul_le_mul_right _ (by omega)
      omega
    · rw [hqe, List.length_take, List.length_drop]; omega
    · rw [hqe] at hd
      have ha := ((All2.mk hlen hel).drop (l * esz)).take ((h - l) * esz)
      obtain ⟨c', hc', hr'⟩ := ha.at i d hd
      rw [hc] at hc'
      obtain rfl := Option.some.inj hc'
      exact hr'
end
end Go.Ab

/- Deep values: trees (slices of rows of the call's own). -/
namespace Go.Ab

def newT (β : Beta) (k : Nat) (σ : Nat → Option Slot) : Beta := fun κ => if κ.1 = k then σ κ.2 else β κ
theorem newT_self (β : Beta) (k i : Nat) (σ : Nat → Option Slot) : newT β k σ (k, i) = σ i := by simp [newT]
theorem newT_ne (β : Beta) {k : Nat} {κ : Key} (σ : Nat → Option Slot) (h : κ.1 ≠ k) : newT β k σ κ = β κ := by simp [newT, h]

/-- names of box k become names of box j: pointers into it, slices of it -/
def rtC (k j : Nat) : DC → DC
  | .ptr a o => match Nat.beq a k with
    | true => .ptr j o
    | false => .ptr a o
  | .own a o n e => match Nat.beq a k with
    | true => .own j o n e
    | false => .own a o n e
  | d => d
def rtV (k j : Nat) : DV → DV
  | .one d => .one (rtC k j d)
  | .agg l => .agg (l.map (rtC k j))
  | .tup l => .tup l
def rtB (k j : Nat) : Bk → Bk
  | .cells l => .cells (l.map (rtC k j))
  | .data l => .data l
  | .tree l => .tree l
  | .mp ks l => .mp ks l
  | .mt es => .mt es

section
variable {p : Par} {Z : Nat → Prop} {β : Beta} {H H' : Hp} {S S0 : Bx} {nk : Nat}
theorem SR.bleT (h : SR p Z β H S nk) (σ : Nat → Option Slot) : BLe β (newT β nk σ) := fun κ t hk => by
  have := h.lt1 hk
  rw [newT_ne _ _ (by omega)]; exact hk

/-- a tree gets a new name; its blocks are those of boxes that are left, or new ones -/
theorem SR.tree (h : SR p Z β H S nk) (hS0 : ∀ k x, lk S0 k = some x → ∃ y, lk S k = some y) (hS1 : ∀ κ x, lk2 S0 κ = some x → ∃ s, β κ = some s ∧ BoxR p Z H β x s) {rows : List (List FD)} {σ : Nat → Option Slot} (hnx : H.nx ≤ H'.nx) (hw : WF H')
    (hg : ∀ b, (Z b ∨ ∃ κ x N, lk2 S0 κ = some x ∧ β κ = some (.blk b N)) → H'.get b = H.get b)
    (hlt : ∀ i b N, σ i = some (.blk b N) → b < H'.nx)
    (hlo : ∀ i b N, σ i = some (.blk b N) → p.lo ≤ b)
    (hinj : ∀ i j b N N', σ i = some (.blk b N) → σ j = some (.blk b N') → i = j)
    (hdis : ∀ i b N (κ : Key) x M, σ i = some (.blk b N) → lk S0 κ.1 = some x → β κ ≠ some (.blk b M))
    (hbox0 : ∃ s, σ 0 = some s ∧ BoxR p Z H' (newT β nk σ) (.cells (rowsV nk 0 rows)) s)
    (hbox : ∀ i r, rows[i]? = some r → ∃ s, σ (i + 1) = some s ∧ BoxR p Z H' (newT β nk σ) (.data r) s) :
    SR p Z (newT β nk σ) H' ((nk, .tree rows) :: S0) (nk + 1) ∧ ZLe Z H Z H' ∧ BLe β (newT β nk σ) := by
  have hB := h.bleT σ
  have hzg : ∀ b', Z b' → H'.get b' = H.get b' := fun b' hb' => hg b' (.inl hb')
  have hZ : ZLe Z H Z H' := ZLe.of_get (fun _ h => h) hzg
  refine ⟨⟨hw, Nat.le_trans h.lo hnx, fun b' hb' => Nat.lt_of_lt_of_le (h.z b' hb') hnx, h.zlo, h.zz, fun b' bk hb' => ?_, fun κ hκ => ?_, fun κ b' N hκ => ?_, fun κ y hκ => ?_, fun κ κ' y y' b' N N' hj hj' hs hs' => ?_, fun κ b' N hκ => ?_, fun κ hκ h0 => by rw [newT_ne _ _ (by have := h.ancn; omega)]; exact h.anch κ hκ h0, Nat.le_succ_of_le h.ancn⟩, hZ, hB⟩
  · obtain ⟨h1, h2⟩ := h.glob b' bk hb'
    exact ⟨h1, by rw [hzg b' h1]; exact h2⟩
  · rw [newT_ne _ _ (by omega)]; exact h.nk κ (by omega)
  · by_cases e : κ.1 = nk
    · simp only [newT, if_pos e] at hκ; exact hlt _ _ _ hκ
    · rw [newT_ne _ _ e] at hκ; exact Nat.lt_of_lt_of_le (h.bd κ b' N hκ) hnx
  · obtain ⟨j, i⟩ := κ
    by_cases e : j = nk
    · subst e
      have hl : lk ((j, .tree rows) :: S0) j = some (.tree rows) := by rw [lk_cons, if_pos rfl]
      cases i with
      | zero =>
        simp only [lk2, hl] at hκ
        obtain rfl := Option.some.inj hκ
        obtain ⟨s, h1, h2⟩ := hbox0
        exact ⟨s, by rw [newT_self]; exact h1, h2⟩
      | succ i =>
        simp only [lk2, hl] at hκ
        cases hr : rows[i]? with
        | none => rw [hr] at hκ; cases hκ
        | some r =>
          rw [hr] at hκ
          obtain rfl := Option.some.inj hκ
          obtain ⟨s, h1, h2⟩ := hbox i r hr
          exact ⟨s, by rw [newT_self]; exact h1, h2⟩
    · have hκ' : lk2 S0 (j, i) = some y := by
        rw [← hκ]; exact lk2_congr (by rw [lk_cons, if_neg (fun h => e h.symm)])
      obtain ⟨s, hs, hbx⟩ := hS1 (j, i) y hκ'
      refine ⟨s, hB _ s hs, hbx.mono hB hnx fun b' hb' => ?_⟩
      rcases hb' with hb' | ⟨N, rfl⟩
      · exact hzg b' hb'
      · exact hg b' (.inr ⟨(j, i), y, N, hκ', hs⟩)
  · obtain ⟨j, i⟩ := κ
    obtain ⟨j', i'⟩ := κ'
    simp only at hj hj'
    by_cases e1 : j = nk
    · subst e1
      rw [newT_self] at hs
      by_cases e2 : j' = j
      · subst e2
        rw [newT_self] at hs'
        rw [hinj i i' b' N N' hs hs']
      · rw [newT_ne _ _ e2] at hs'
        rw [lk_cons, if_neg (fun h => e2 h.symm)] at hj'
        exact absurd hs' (hdis i b' N (j', i') y' N' hs hj')
    · rw [newT_ne _ _ e1] at hs
      rw [lk_cons, if_neg (fun h => e1 h.symm)] at hj
      by_cases e2 : j' = nk
      · subst e2
        rw [newT_self] at hs'
        exact absurd hs (hdis i' b' N' (j, i) y N hs' hj)
      · rw [newT_ne _ _ e2] at hs'
        rw [lk_cons, if_neg (fun h => e2 h.symm)] at hj'
        obtain ⟨z1, g1⟩ := hS0 j y hj
        obtain ⟨z2, g2⟩ := hS0 j' y' hj'
        exact h.inj _ _ z1 z2 b' N N' g1 g2 hs hs'
  · by_cases e : κ.1 = nk
    · simp only [newT, if_pos e] at hκ; exact hlo _ _ _ hκ
    · rw [newT_ne _ _ e] at hκ; exact h.blo κ b' N hκ
theorem rtC_ok {k : Nat} {σ : Nat → Option Slot} (h : SR p Z β H S nk) (h0 : σ 0 = β (k, 0)) (hZ : ZLe Z H Z H') {d : DC} {c : C} (hr : RD Z H β d c) : RD Z H' (newT β nk σ) (rtC k nk d) c := by
  have hB := h.bleT σ
  cases d with
  | ptr a o =>
    simp only [rtC]
    by_cases e : a = k
    · subst e
      rw [beq_self]
      obtain ⟨b, N, h1, h2⟩ := hr
      exact ⟨b, N, by rw [newT_self, h0]; exact h1, h2⟩
    · rw [beq_ne e]; exact hr.mono hZ hB
  | own a o n e' =>
    simp only [rtC]
    by_cases e : a = k
    · subst e
      rw [beq_self]
      rcases hr with ⟨h1, h2⟩ | ⟨b, N, cap, ex, h1, h2⟩
      · exact .inl ⟨by rw [newT_self, h0]; exact h1, h2⟩
      · exact .inr ⟨b, N, cap, ex, by rw [newT_self, h0]; exact h1, h2⟩
    · rw [beq_ne e]; exact hr.mono hZ hB
  | f d => exact RD.mono (d := .f d) hZ hB hr
  | g b o => exact hr
  | fptr l => exact RD.mono (d := .fptr l) hZ hB hr
  | fn f l => exact RD.mono (d := .fn f l) hZ hB hr
  | any => trivial
  | om a => exact RD.mono (d := .om a) hZ (h.bleT σ) hr
  | yl a => exact RD.mono (d := .yl a) hZ (h.bleT σ) hr
  | trow a i o n => exact RD.mono (d := .trow a i o n) hZ hB hr
  | tptr a i o => exact RD.mono (d := .tptr a i o) hZ hB hr
theorem rtL_ok {k : Nat} {σ : Nat → Option Slot} (h : SR p Z β H S nk) (h0 : σ 0 = β (k, 0)) (hZ : ZLe Z H Z H') : ∀ {l : List DC} {cs : List C}, All2 (RD Z H β) l cs → All2 (RD Z H' (newT β nk σ)) (l.map (rtC k nk)) cs
  | [], [], _ => trivial
  | _ :: _, _ :: _, hr => ⟨rtC_ok h h0 hZ hr.1, rtL_ok h h0 hZ hr.2⟩
  | [], _ :: _, hr => hr.elim
  | _ :: _, [], hr => hr.elim
theorem rtE_ok {k : Nat} {σ : Nat → Option Slot} {E : DEnv} {F : T V} (h : SR p Z β H S nk) (h0 : σ 0 = β (k, 0)) (hZ : ZLe Z H Z H') (hE : ER Z β H E F) : ER Z (newT β nk σ) H' (mapS (rtV k nk) E) F := fun n d hd => by
  rw [lk_mapS] at hd
  cases hl : lk E n with
  | none => rw [hl] at hd; cases hd
  | some y =>
    rw [hl] at hd
    obtain rfl := Option.some.inj hd
    obtain ⟨v, hv, hr⟩ := hE n y hl
    refine ⟨v, hv, ?_⟩
    cases y with
    | one d => obtain ⟨c, rfl, hr⟩ := hr; exact ⟨c, rfl, rtC_ok h h0 hZ hr⟩
    | agg m => obtain ⟨c, rfl, hr⟩ := hr; exact ⟨c, rfl, rtL_ok h h0 hZ hr⟩
    | tup m => exact RDV.mono (d := .tup m) hZ (h.bleT σ) hr
/-- the names in boxes change -/
theorem lk2_rt {k j : Nat} {S : Bx} {κ : Key} {y : Bk} (hy : lk2 (mapS (rtB k j) S) κ = some y) : ∃ x, lk2 S κ = some x ∧ (y = rtB k j x ∨ y = x) := by
  obtain ⟨z, hz⟩ := lk2_lk hy
  rw [lk_mapS] at hz
  cases hl : lk S κ.1 with
  | none => rw [hl] at hz; cases hz
  | some x =>
    have hlk : lk (mapS (rtB k j) S) κ.1 = some (rtB k j x) := by rw [lk_mapS, hl]; rfl
    obtain ⟨a, i⟩ := κ
    simp only at hl hlk
    cases i with
    | zero =>
      simp only [lk2, hl]
      simp only [lk2, hlk] at hy
      cases x with
      | cells m => exact ⟨_, rfl, .inl (Option.some.inj hy).symm⟩
      | data m => exact ⟨_, rfl, .inl (Option.some.inj hy).symm⟩
      | tree rows => exact ⟨_, rfl, .inr (Option.some.inj hy).symm⟩
      | mp ks l => exact ⟨_, rfl, .inr (Option.some.inj hy).symm⟩
      | mt es => exact ⟨_, rfl, .inr (Option.some.inj hy).symm⟩
    | succ i =>
      simp only [lk2, hl]
      simp only [lk2, hlk] at hy
      cases x with
      | cells m => cases hy
      | data m => cases hy
      | tree rows =>
        cases hr : rows[i]? with
        | none => simp only [rtB, hr] at hy; cases hy
        | some r => simp only [rtB, hr] at hy; exact ⟨.data r, by simp only [hr]; rfl, .inr (Option.some.inj hy).symm⟩
      | mp ks l => cases hy
      | mt es => exact ⟨_, hy, .inr rfl⟩
theorem SR.rtS {k : Nat} {σ : Nat → Option Slot} {rows : List (List FD)} (h : SR p Z β H S nk) (h0 : σ 0 = β (k, 0)) (hZ : ZLe Z H Z H') (hS0 : ∀ κ x, lk2 S0 κ = some x → lk2 S κ = some x) (hne : ∀ κ x, lk2 S0 κ = some x → κ.1 ≠ nk) (hT : SR p Z (newT β nk σ) H' ((nk, .tree rows) :: S0) (nk + 1)) (hg : ∀ b, (∃ κ x N, lk2 S0 κ = some x ∧ β κ = some (.blk b N)) → H'.get b = H.get b) (hnx : H.nx ≤ H'.nx) : SR p Z (newT β nk σ) H' ((nk, .tree rows) :: mapS (rtB k nk) S0) (nk + 1) := by
  refine ⟨hT.wf, hT.lo, hT.z, hT.zlo, hT.zz, hT.glob, hT.nk, hT.bd, fun κ y hκ => ?_, fun κ κ' y y' b N N' hj hj' hs hs' => ?_, hT.blo, hT.anch, hT.ancn⟩
  · by_cases e : κ.1 = nk
    · refine hT.box κ y ?_
      rw [← hκ]
      exact lk2_congr (by rw [lk_cons, lk_cons, if_pos e.symm, if_pos e.symm])
    · have hκ' : lk2 (mapS (rtB k nk) S0) κ = some y := by
        rw [← hκ]; exact lk2_congr (by rw [lk_cons, if_neg (fun h => e h.symm)])
      obtain ⟨x, hx, hyx⟩ := lk2_rt hκ'
      have hxT : lk2 ((nk, .tree rows) :: S0) κ = some x := by
        rw [← hx]; exact lk2_congr (by rw [lk_cons, if_neg (fun h => e h.symm)])
      obtain ⟨s, hs, hbx⟩ := hT.box κ x hxT
      rcases hyx with rfl | rfl
      · refine ⟨s, hs, ?_⟩
        cases s with
        | nil => cases x <;> simpa [BoxR, rtB, Bk.len] using hbx
        | blk b N =>
          cases x with
          | cells m =>
            obtain ⟨s0, hs0, hb0⟩ := h.box κ _ (hS0 κ _ hx)
            have := h.bleT σ κ s0 hs0
            rw [hs] at this
            obtain rfl := Option.some.inj this
            obtain ⟨g1, g2, g3, cs, rest, g4, g5, g6⟩ := hb0
            exact ⟨g1, g2, by omega, cs, rest, g4.same (hg b ⟨κ, _, N, hx, hs0⟩), g5, rtL_ok h h0 hZ g6⟩
          | data m => exact hbx
          | tree m => exact hbx
          | mp ks l => exact hbx
          | mt es => exact hbx
      · exact ⟨s, hs, hbx⟩
  · have f : ∀ a w, lk ((nk, .tree rows) :: mapS (rtB k nk) S0) a = some w → ∃ w', lk ((nk, .tree rows) :: S0) a = some w' := fun a w hw => by
      rw [lk_cons] at hw ⊢
      split at hw
      · rename_i e; exact ⟨_, by rw [if_pos e]⟩
      · rename_i e
        rw [lk_mapS] at hw
        cases hl : lk S0 a with
        | none => rw [hl] at hw; cases hw
        | some q => exact ⟨q, by rw [if_neg e]⟩
    obtain ⟨z1, e1⟩ := f _ y hj
    obtain ⟨z2, e2⟩ := f _ y' hj'
    exact hT.inj κ κ' z1 z2 b N N' e1 e2 hs hs'
end
end Go.Ab

/- Deep values: operations on trees. -/
namespace Go.Ab

theorem rowsV_set (k : Nat) : ∀ (i : Nat) (rows : List (List FD)) (j : Nat) (r r' : List FD), rows[j]? = some r → r'.length = r.length → rowsV k i (rows.set j r') = rowsV k i rows
  | _, [], _, _, _, h, _ => by simp at h
  | i, q :: rs, 0, r, r', h, hl => by simp at h; subst h; simp [rowsV, hl]
  | i, q :: rs, j + 1, r, r', h, hl => by
    simp only [List.set_cons_succ, rowsV]
    rw [rowsV_set k (i + 1) rs j r r' (by simpa using h) hl]
/-- the rows of another tree, whose slots are the same -/
theorem rowsV_rel {Z : Nat → Prop} {H H' : Hp} {β β' : Beta} {k k' : Nat} {rows rows' : List (List FD)} {cs cs' : List C} (hl : rows'.length = cs'.length) (h : ∀ i r c, rows'[i]? = some r → cs'[i]? = some c → RD Z H' β' (.trow k' i 0 r.length) c) : All2 (RD Z H' β') (rowsV k' 0 rows') cs' := by
  refine All2.mk (by rw [rowsV_len]; exact hl) fun i d c hd hc => ?_
  rw [rowsV_at] at hd
  cases hr : rows'[i]? with
  | none => rw [hr] at hd; cases hd
  | some r =>
    rw [hr] at hd
    simp only [Option.map_some, Option.some.injEq, Nat.zero_add] at hd
    subst hd
    exact h i r c hr hc

section
variable {p : Par} {base rs : Nat} {Q : DEnv → Bx → Nat → Prop} {r : List SOper} {W : Wt} {A : List Nat} {E : DEnv} {S : Bx} {nk : Nat} {id : Nat} {dst : Option Nat} {aid : Option Nat} {ws : List Nat} {keep : Bool}

theorem AR.tree {Z : Nat → Prop} {β : Beta} {H H' : Hp} {σ : Nat → Option Slot} (hA : AR p base rs A Z β H) (hnx : H.nx ≤ H'.nx) (hg : ∀ j, j < rs → j ∉ A → H'.get (base + j) = H.get (base + j)) (hb : ∀ j, j < rs → j ∉ A → ∀ i N, σ i ≠ some (.blk (base + j) N)) : AR p base rs A Z (newT β nk σ) H' := by
  refine ⟨hA.1, fun j hj hjA => ?_⟩
  obtain ⟨h1, h2, h3, h4⟩ := hA.2 j hj hjA
  refine ⟨by omega, by rw [hg j hj hjA]; exact h2, h3, fun κ M => ?_⟩
  by_cases e : κ.1 = nk
  · simp only [newT, if_pos e]; exact hb j hj hjA _ M
  · rw [newT_ne _ _ e]; exact h4 κ M

/-- MAKE A TREE of rows that are nil yet -/
theorem mkt_core {Z : Nat → Prop} {β : Beta} {H H' : Hp} {n b : Nat} (hS : SR p Z β H S nk) (hz : ¬ Z b) (hβ : ∀ κ N, β κ ≠ some (.blk b N)) (hlo : p.lo ≤ b) (hb : b < H'.nx) (hnx : H.nx ≤ H'.nx) (hw : WF H') (hg : ∀ b', b' ≠ b → H'.get b' = H.get b') (hr : H'.get b = some (.row (n * 1) [.nils] .lf true)) :
    ∃ σ, SR p Z (newT β nk σ) H' ((nk, .tree (List.replicate n [])) :: S) (nk + 1) ∧ ZLe Z H Z H' ∧ BLe β (newT β nk σ) ∧ σ 0 = some (.blk b n) ∧ ∀ i c N, σ i = some (.blk c N) → c = b := by
  have hs0 : ∀ i c N, (fun i => match i with | 0 => some (Slot.blk b n) | i + 1 => if i < n then some Slot.nil else none) i = some (Slot.blk c N) → c = b ∧ i = 0 := fun i c N h => by
    cases i with
    | zero => exact ⟨(Slot.blk.inj (Option.some.inj h)).1.symm, rfl⟩
    | succ i =>
      simp only at h
      split at h <;> cases h
  refine ⟨fun i => match i with | 0 => some (.blk b n) | i + 1 => if i < n then some .nil else none, ?_⟩
  obtain ⟨g1, g2, g3⟩ := hS.tree (S0 := S) (H' := H') (rows := List.replicate n []) (σ := fun i => match i with | 0 => some (.blk b n) | i + 1 => if i < n then some .nil else none) (fun k x h => ⟨x, h⟩) hS.box hnx hw
    (fun c hc => hg c fun e => by
      rcases hc with hc | ⟨κ, x, N, _, hc⟩
      · exact hz (e ▸ hc)
      · exact hβ κ N (e ▸ hc))
    (fun i c N h => by rw [(hs0 i c N h).1]; exact hb)
    (fun i c N h => by rw [(hs0 i c N h).1]; exact hlo)
    (fun i j c N N' h h' => by rw [(hs0 i c N h).2, (hs0 j c N' h').2])
    (fun i c N κ x M h _ => by rw [(hs0 i c N h).1]; exact hβ κ M)
    ⟨_, rfl, hz, hlo, hb, List.replicate n .nils, [], by
      rw [List.append_nil]
      have := row_pat (z := [.nils]) (M := n * 1) (by simp) b H' hr
      have e : (List.range (n * 1)).map (fun i => [C.nils].getD (i % [C.nils].length) .nilp) = List.replicate n C.nils := by
        refine List.ext_getElem? fun i => ?_
        rw [List.getElem?_map]
        by_cases hi : i < n
        · rw [List.getElem?_range (by omega), List.getElem?_replicate, if_pos hi]; simp [Nat.mod_one]
        · rw [List.getElem?_eq_none (by simp; omega), List.getElem?_replicate, if_neg hi]; rfl
      rw [e] at this; exact this, (by simp [lenOk, Bk.shape]), by
      refine rowsV_rel (k := 0) (rows := []) (cs := []) (H := H) (β := β) (by simp) fun i r c h1 h2 => ?_
      rw [List.getElem?_replicate] at h1 h2
      split at h1
      · rename_i hi
        rw [if_pos hi] at h2
        obtain rfl := Option.some.inj h1
        obtain rfl := Option.some.inj h2
        exact .inl ⟨by rw [newT_self]; simp only [if_pos hi], rfl, rfl, rfl⟩
      · cases h1⟩
    (fun i r h => by
      rw [List.getElem?_replicate] at h
      split at h
      · rename_i hi
        obtain rfl := Option.some.inj h
        exact ⟨.nil, by simp only [if_pos hi], rfl⟩
      · cases h)
  exact ⟨g1, g2, g3, rfl, fun i c N h => (hs0 i c N h).1⟩
theorem mkt_alloc {bytes n : Nat} {lo co : Opd} {k k' : IntKind} (hl : ro E lo = some (.one (.f (.c (.int k (n : Nat)))))) (hc : ro E co = some (.one (.f (.c (.int k' (n : Nat)))))) (hb : bytes * n ≤ 281474976710656) (hm : n < 4611686018427387904) {Z : Nat → Prop} {β : Beta} {H : Hp} {F : T V} (hE : ER Z β H E F) : aAlloc F (.mkslice 1 bytes [.nils] lo co) = some (.row (n * 1) [.nils] .lf true, fun b => .one (.slc b 0 n n 1 true)) := by
  simp only [aAlloc, int_of hE hl, int_of hE hc]
  rw [if_pos ⟨by omega, by omega, by omega, by omega⟩]
  simp
theorem dw_mkt {bytes n : Nat} {lo co : Opd} {k k' : IntKind} (hl : ro E lo = some (.one (.f (.c (.int k (n : Nat)))))) (hc : ro E co = some (.one (.f (.c (.int k' (n : Nat)))))) (hb : bytes * n ≤ 281474976710656) (hm : n < 4611686018427387904)
    (h : DPW p base rs Q r W A (setD E dst (.one (.own nk 0 n 1))) ((nk, .tree (List.replicate n [])) :: S) (nk + 1)) : DPW p base rs Q (⟨id, dst, .a (.mkslice 1 bytes [.nils] lo co), none, none, ws, keep⟩ :: r) W A E S nk := .mk fun Z β H F c hS hE hC hA => by
  simp only [wOps, wantedA, if_true, mkt_alloc hl hc hb hm hE]
  have hfr : H.get H.nx = none := hS.wf.fresh (Nat.le_refl _)
  have hg : ∀ b', b' ≠ H.nx → (H.push (.row (n * 1) [.nils] .lf true)).get b' = H.get b' := fun b' hb' => by rw [Hp.get_push, if_neg hb']
  obtain ⟨σ, hS', hZ, hB, s0, s1⟩ := mkt_core (n := n) (b := H.nx) (H' := H.push (.row (n * 1) [.nils] .lf true)) hS (fun hz => absurd (hS.z _ hz) (by omega)) (fun k N hk => absurd (hS.bd k _ N hk) (by omega)) hS.lo (by simp) (by simp) (hS.wf.push _) hg (by rw [Hp.get_push, if_pos rfl])
  refine h.run Z _ _ _ c hS' ((hE.mono hZ hB).set dst ⟨_, rfl, .inr ⟨H.nx, n, n, true, by rw [newT_self]; exact s0, rfl, Nat.le_refl _, by omega⟩⟩) (hC.new hZ hB hg hfr) (hA.tree (by simp) (fun j hj hjA => hg _ ?_) fun j hj hjA i N e => ?_)
  · have := (hA.2 j hj hjA).1; omega
  · have := s1 i _ N e
    have := (hA.2 j hj hjA).1; omega
theorem dw_mkti {bytes n : Nat} {lo co : Opd} {k k' : IntKind} {i : Nat} (hi : Nat.blt i rs = true) (hA' : A.elem i = false) (hl : ro E lo = some (.one (.f (.c (.int k (n : Nat)))))) (hc : ro E co = some (.one (.f (.c (.int k' (n : Nat)))))) (hb : bytes * n ≤ 281474976710656) (hm : n < 4611686018427387904)
    (h : DPW p base rs Q r W (i :: A) (setD E dst (.one (.own nk 0 n 1))) ((nk, .tree (List.replicate n [])) :: S) (nk + 1)) : DPW p base rs Q (⟨id, dst, .a (.mkslice 1 bytes [.nils] lo co), none, some i, ws, keep⟩ :: r) W A E S nk := .mk fun Z β H F c hS hE hC hA => by
  simp only [wOps, wantedA, if_true, mkt_alloc hl hc hb hm hE]
  have hi' : i < rs := Nat.le_of_ble_eq_true hi
  have hiA : i ∉ A := fun h => by rw [List.elem_eq_true_of_mem h] at hA'; cases hA'
  obtain ⟨g1, g2, g3, g4⟩ := hA.2 i hi' hiA
  have hg : ∀ b', b' ≠ base + i → (H.add (base + i) (.row (n * 1) [.nils] .lf true)).get b' = H.get b' := fun b' hb' => Hp.get_add_ne _ _ hb'
  have hw : WF (H.add (base + i) (.row (n * 1) [.nils] .lf true)) := fun b k hb => by
    rw [Hp.get_add] at hb
    split at hb
    · simp; omega
    · exact hS.wf b k hb
  obtain ⟨σ, hS', hZ, hB, s0, s1⟩ := mkt_core (n := n) (b := base + i) (H' := H.add (base + i) (.row (n * 1) [.nils] .lf true)) hS g3 g4 (by have := hA.1; omega) (by simpa using g1) (by simp) hw hg (by simp)
  have hA2 : AR p base rs (i :: A) Z β H := ⟨hA.1, fun j hj hjA => hA.2 j hj fun h => hjA (by simp [h])⟩
  refine h.run Z _ _ _ c hS' ((hE.mono hZ hB).set dst ⟨_, rfl, .inr ⟨base + i, n, n, true, by rw [newT_self]; exact s0, rfl, Nat.le_refl _, by omega⟩⟩) (hC.new hZ hB hg g2) (hA2.tree (by simp) (fun j hj hjA => hg _ ?_) fun j hj hjA i' N e => ?_)
  · intro e; exact hjA (by simp; omega)
  · have := s1 i' _ N e
    exact hjA (by simp; omega)

/-- A ROW IS WRITTEN -/
theorem SR.updT {Z : Nat → Prop} {β : Beta} {H H' : Hp} (h : SR p Z β H S nk) {k i b N : Nat} {rows : List (List FD)} {q q' : List FD} {cs rest : List C} (hk : lk S k = some (.tree rows)) (hi : rows[i]? = some q) (hs : β (k, i + 1) = some (.blk b N)) (hl : q'.length = q.length) (hx : All2 (RF Z H) q' cs) (hg : ∀ b', b' ≠ b → H'.get b' = H.get b') (hnx : H'.nx = H.nx) (hr : Row H' b (cs ++ rest)) (hN : (cs ++ rest).length = N) :
    SR p Z β H' (put k (.tree (rows.set i q')) S) nk ∧ ZLe Z H Z H' := by
  have hk2 := lk2_row hk hi
  obtain ⟨s, hs', hbx⟩ := h.box (k, i + 1) _ hk2
  rw [hs] at hs'
  obtain rfl := Option.some.inj hs'
  obtain ⟨hz, hlo, hlt, _⟩ := hbx
  have hzg : ∀ b', Z b' → H'.get b' = H.get b' := fun b' hb' => hg b' fun e => hz (e ▸ hb')
  have hZ : ZLe Z H Z H' := ZLe.of_get (fun _ h => h) hzg
  have hil : i < rows.length := (List.getElem?_eq_some_iff.1 hi).1
  have hoth : ∀ (κ : Key) y, κ ≠ (k, i + 1) → lk2 S κ = some y → ∃ s, β κ = some s ∧ BoxR p Z H' β y s := fun κ y hne hy => by
    obtain ⟨s, hsj, hbj⟩ := h.box κ y hy
    obtain ⟨z, hz⟩ := lk2_lk hy
    refine ⟨s, hsj, hbj.mono (BLe.refl _) (by omega) fun b' hb' => ?_⟩
    rcases hb' with hb' | ⟨M, rfl⟩
    · exact hzg b' hb'
    · exact hg b' fun e' => hne (h.inj κ (k, i + 1) z _ b M N hz hk (e' ▸ hsj) hs)
  refine ⟨⟨fun b' bk hb' => ?_, by rw [hnx]; exact h.lo, fun b' hb' => by rw [hnx]; exact h.z b' hb', h.zlo, h.zz, fun b' bk hb' => ?_, h.nk, fun k b' N hk => by rw [hnx]; exact h.bd k b' N hk, fun κ y hκ => ?_, fun j j' y y' b' M M' hj hj' hsj hsj' => ?_, h.blo, h.anch, h.ancn⟩, hZ⟩
  · rw [hnx]
    by_cases e : b' = b
    · omega
    · rw [hg b' e] at hb'; exact h.wf b' bk hb'
  · obtain ⟨h1, h2⟩ := h.glob b' bk hb'
    exact ⟨h1, by rw [hzg b' h1]; exact h2⟩
  · obtain ⟨j, t⟩ := κ
    by_cases e : j = k
    · subst e
      have hl' : lk (put j (.tree (rows.set i q')) S) j = some (.tree (rows.set i q')) := by rw [lk_put, if_pos rfl, hk]; rfl
      cases t with
      | zero =>
        simp only [lk2, hl', rowsV_set j 0 rows i q q' hi hl] at hκ
        exact hoth (j, 0) y (by simp) (by simp only [lk2, hk]; exact hκ)
      | succ t =>
        simp only [lk2, hl', List.getElem?_set] at hκ
        by_cases et : i = t
        · subst et
          rw [if_pos rfl, if_pos hil] at hκ
          obtain rfl := Option.some.inj hκ
          exact ⟨_, hs, hz, hlo, by omega, cs, rest, hr, hN, All2.mono (fun _ _ => RF.mono hZ) hx⟩
        · rw [if_neg et] at hκ
          exact hoth (j, t + 1) y (fun h => et (by simp at h; omega)) (by simp only [lk2, hk]; exact hκ)
    · have : lk2 S (j, t) = some y := by rw [← hκ]; exact (lk2_congr (by rw [lk_put, if_neg e])).symm
      exact hoth (j, t) y (fun h => e (Prod.mk.inj h).1) this
  · rw [lk_put] at hj hj'
    have f : ∀ a z, (if a = k then Option.map (fun _ => Bk.tree (rows.set i q')) (lk S a) else lk S a) = some z → ∃ z', lk S a = some z' := fun a z hz => by
      split at hz
      · cases hl : lk S a with
        | none => rw [hl] at hz; cases hz
        | some q => exact ⟨q, rfl⟩
      · exact ⟨z, hz⟩
    obtain ⟨z1, e1⟩ := f j.1 y hj
    obtain ⟨z2, e2⟩ := f j'.1 y' hj'
    exact h.inj j j' z1 z2 b' M M' e1 e2 hsj hsj'
theorem dw_stt {a v : Opd} {k i o : Nat} {rows : List (List FD)} {q : List FD} {x : FD} (ha : ro E a = some (.one (.tptr k i o))) (hv : ro E v = some (.one (.f x))) (hk : lk S k = some (.tree rows)) (hi : rows[i]? = some q) (ho : o < q.length) (hw : wOk0 S k W = true)
    (h : DPW p base rs Q r W A (setD E dst .undef) (put k (.tree (rows.set i (q.set o x))) S) nk) : DPW p base rs Q (⟨id, dst, .e (.store 1 a v), none, aid, ws, keep⟩ :: r) W A E S nk := .mk fun Z β H F c hS hE hC hA => by
  obtain ⟨ca, hca, b, N, hb, rfl⟩ := ro_ok hE ha
  obtain ⟨cv, hcv, hrv⟩ := ro_ok hE hv
  obtain ⟨s, hs, hbx⟩ := hS.box (k, i + 1) _ (lk2_row hk hi)
  rw [hb] at hs
  obtain rfl := Option.some.inj hs
  obtain ⟨hz, hlo, hlt, cs, rest, hrow, hN, hrel⟩ := hbx
  have hN : (cs ++ rest).length = _ := hN
  have hlen : q.length = cs.length := All2.len hrel
  obtain ⟨H', e1, e2, e3, e4⟩ := hrow.stores (cs := [cv]) (i := o) (by simp; omega)
  rw [setL_app [cv] cs rest o (by simp; omega)] at e2
  obtain ⟨hS', hZ⟩ := hS.updT (q' := q.set o x) (cs := setL cs o [cv]) (rest := rest) hk hi hb (by simp) (All2.set hrel o hrv) e3 e4 e2 (by rw [List.length_append, setL_len, ← List.length_append]; exact hN)
  simp only [wOps, wantedA, if_true, aEff, hca, hcv, cells1]
  rw [if_pos (by simp), e1]
  have hC' := hC.upd (k := (k, i + 1)) hS hk hZ e3 hb hw
  exact ⟨hC'.watch ws, h.run Z β H' _ c hS' ((hE.mono hZ (BLe.refl _)).set dst undef_ok) hC' (hA.upd e4 e3 hb)⟩
/-- a row is copied over another of the same length -/
theorem dw_cpt {x y : Opd} {k i n : Nat} {rows : List (List FD)} {q l : List FD} {d : DV} (hx : ro E x = some (.one (.trow k i 0 n))) (hy : ro E y = some d) (hk : lk S k = some (.tree rows)) (hi : rows[i]? = some q) (hq : q.length = n) (hd : SrcR S 1 d n l) (hw : wOk0 S k W = true)
    (h : DPW p base rs Q r W A (setD E dst (.int n)) (put k (.tree (rows.set i l)) S) nk) : DPW p base rs Q (⟨id, dst, .e (.copy 1 x y), none, aid, ws, keep⟩ :: r) W A E S nk := .mk fun Z β H F c hS hE hC hA => by
  obtain ⟨news, hn1, hn2, hn3⟩ := dsrc_ok hS hE hy hd
  rw [Nat.mul_one] at hn3
  have hil : i < rows.length := (List.getElem?_eq_some_iff.1 hi).1
  obtain ⟨cx, hcx, hrx⟩ := ro_ok hE hx
  simp only [wOps, wantedA, if_true, aEff, hcx, hn1]
  rcases hrx with ⟨g1, rfl, _, rfl⟩ | ⟨b, N, cap, ex, hb, rfl, hcap, hcN⟩
  · have e1 : q = [] := List.eq_nil_of_length_eq_zero hq
    have e2 : l = [] := List.eq_nil_of_length_eq_zero (by rw [hn2.len, hn3])
    subst e1; subst e2
    have hset : rows.set i [] = rows := by
      refine List.ext_getElem? fun j => ?_
      rw [List.getElem?_set]
      split
      · rename_i e; subst e; rw [hi]
      · rfl
    rw [hset] at h
    have hSp : SR p Z β H (put k (.tree rows) S) nk := hS.keepS fun j z hj => by
      rw [lk_put] at hj
      split at hj
      · rename_i e; subst e; rw [hk] at hj ⊢; exact hj
      · exact hj
    exact ⟨hC.watch ws, h.run Z β H _ c hSp (hE.set dst ⟨_, rfl, .c _ rfl⟩) hC hA⟩
  · obtain ⟨s, hs, hbx⟩ := hS.box (k, i + 1) _ (lk2_row hk hi)
    rw [hb] at hs
    obtain rfl := Option.some.inj hs
    obtain ⟨hz, hlo, hlt, cs, rest, hrow, hN, hrel⟩ := hbx
    have hN : (cs ++ rest).length = _ := hN
    have hlen : q.length = cs.length := All2.len hrel
    have htk : news.take (min n n * 1) = news := List.take_of_length_le (by omega)
    obtain ⟨H', e1, e2, e3, e4⟩ := hrow.stores (cs := news) (i := 0) (by simp; omega)
    rw [setL_app news cs rest 0 (by omega)] at e2
    have hset : setL cs 0 news = news := by
      have := dsetL_mid [] cs news [] (by omega)
      simpa using this
    rw [hset] at e2
    obtain ⟨hS', hZ⟩ := hS.updT (q' := l) (cs := news) (rest := rest) hk hi hb (by rw [hn2.len]; omega) hn2 e3 e4 e2 (by rw [← hN]; simp; omega)
    simp only [if_true, htk, e1]
    have hC' := hC.upd (k := (k, i + 1)) hS hk hZ e3 hb hw
    have hmin : ((min n n : Nat) : Int) = (n : Int) := by rw [Nat.min_self]
    simp only [Option.map_some, hmin]
    exact ⟨hC'.watch ws, h.run Z β H' _ c hS' ((hE.mono hZ (BLe.refl _)).set dst ⟨_, rfl, .c _ rfl⟩) hC' (hA.upd e4 e3 hb)⟩

/-- A BOX BECOMES A ROW of a tree, which gets a new name -/
theorem dw_strow {a v : Opd} {k k' o n : Nat} {rows : List (List FD)} {q : List FD} (ha : ro E a = some (.one (.ptr k o))) (hv : ro E v = some (.one (.own k' 0 n 1))) (hk : lk S k = some (.tree rows)) (hk' : lk S k' = some (.data q)) (hn : q.length = n) (ho : o < rows.length) (hw : wOk0 S k W = true)
    (h : DPW p base rs Q r W A (setD (mapS (rtV k nk) E) dst .undef) ((nk, .tree (rows.set o q)) :: mapS (rtB k nk) (era k' (era k S))) (nk + 1)) : DPW p base rs Q (⟨id, dst, .e (.store 1 a v), none, aid, ws, keep⟩ :: r) W A E S nk := .mk fun Z β H F c hS hE hC hA => by
  obtain ⟨ca, hca, b, N, hb, rfl⟩ := ro_ok hE ha
  obtain ⟨cv, hcv, hrv⟩ := ro_ok hE hv
  have hk0 : lk2 S (k, 0) = some (.cells (rowsV k 0 rows)) := by simp only [lk2, hk]
  have hkk : k' ≠ k := fun e => by subst e; rw [hk] at hk'; cases hk'
  obtain ⟨s, hs, hbx⟩ := hS.box (k, 0) _ hk0
  rw [hb] at hs
  obtain rfl := Option.some.inj hs
  obtain ⟨hz, hlo, hlt, cs, rest, hrow, hN, hrel⟩ := hbx
  have hN : (cs ++ rest).length = _ := hN
  have hlen : (rowsV k 0 rows).length = cs.length := All2.len hrel
  rw [rowsV_len] at hlen
  obtain ⟨H', e1, e2, e3, e4⟩ := hrow.stores (cs := [cv]) (i := o) (by simp; omega)
  rw [setL_app [cv] cs rest o (by simp; omega)] at e2
  have hwf : WF H' := fun b' bk hb' => by
    rw [e4]
    by_cases e : b' = b
    · omega
    · rw [e3 b' e] at hb'; exact hS.wf b' bk hb'
  -- the keys of the new tree's slots
  let κ : Nat → Option Key := fun i => match i with
    | 0 => some (k, 0)
    | i + 1 => if i = o then some (k', 0) else if i < rows.length then some (k, i + 1) else none
  let σ : Nat → Option Slot := fun i => (κ i).bind β
  have hσ : ∀ i s, σ i = some s → ∃ a, κ i = some a ∧ β a = some s := fun i s h => by
    simp only [σ, Option.bind_eq_some_iff] at h; exact h
  have hκlive : ∀ i a, κ i = some a → (a.1 = k ∨ a.1 = k') ∧ ∃ x, lk S a.1 = some x := fun i a h => by
    cases i with
    | zero => obtain rfl := Option.some.inj h; exact ⟨.inl rfl, _, hk⟩
    | succ i =>
      simp only [κ] at h
      split at h
      · obtain rfl := Option.some.inj h; exact ⟨.inr rfl, _, hk'⟩
      · split at h
        · obtain rfl := Option.some.inj h; exact ⟨.inl rfl, _, hk⟩
        · cases h
  have hκinj : ∀ i j a, κ i = some a → κ j = some a → i = j := fun i j a h1 h2 => by
    cases i with
    | zero =>
      obtain rfl := Option.some.inj h1
      cases j with
      | zero => rfl
      | succ j =>
        simp only [κ] at h2
        split at h2
        · have := Option.some.inj h2; simp at this; exact absurd this hkk
        · split at h2
          · have := Option.some.inj h2; simp at this
          · cases h2
    | succ i =>
      cases j with
      | zero =>
        obtain rfl := Option.some.inj h2
        simp only [κ] at h1
        split at h1
        · have := Option.some.inj h1; simp at this; exact absurd this hkk
        · split at h1
          · have := Option.some.inj h1; simp at this
          · cases h1
      | succ j =>
        simp only [κ] at h1 h2
        split at h1
        · rename_i ei
          obtain rfl := Option.some.inj h1
          split at h2
          · omega
          · split at h2
            · have := Option.some.inj h2; simp at this
            · cases h2
        · split at h1
          · obtain rfl := Option.some.inj h1
            split at h2
            · have := Option.some.inj h2; simp at this
            · split at h2
              · have := Option.some.inj h2; simp at this; omega
              · cases h2
          · cases h1
  have hσ0 : σ 0 = β (k, 0) := by simp [σ, κ]
  have hera : ∀ j x, lk (era k' (era k S)) j = some x → lk S j = some x ∧ j ≠ k ∧ j ≠ k' := fun j x hj => by
    rw [lk_era, lk_era] at hj
    split at hj
    · cases hj
    · split at hj
      · cases hj
      · exact ⟨hj, by assumption, by assumption⟩
  have hera2 : ∀ a x, lk2 (era k' (era k S)) a = some x → lk2 S a = some x ∧ a.1 ≠ k ∧ a.1 ≠ k' := fun a x ha => by
    rw [lk2_era, lk2_era] at ha
    split at ha
    · cases ha
    · split at ha
      · cases ha
      · exact ⟨ha, by assumption, by assumption⟩
  have hgL : ∀ b', (Z b' ∨ ∃ a x N, lk2 (era k' (era k S)) a = some x ∧ β a = some (.blk b' N)) → H'.get b' = H.get b' := fun b' hb' => e3 b' fun e => by
    rcases hb' with hb' | ⟨a, x, M, ha, hb'⟩
    · exact hz (e ▸ hb')
    · obtain ⟨h1, h2, _⟩ := hera2 a x ha
      obtain ⟨y, hy⟩ := lk2_lk h1
      exact h2 (by rw [hS.inj a (k, 0) y _ b M N hy hk (e ▸ hb') hb])
  have hBe := hS.bleT σ
  have hZe : ZLe Z H Z H' := ZLe.of_get (fun _ h => h) fun b' hb' => hgL b' (.inl hb')
  obtain ⟨hT, hZ, hB⟩ := hS.tree (S0 := era k' (era k S)) (H' := H') (rows := rows.set o q) (σ := σ) (fun j x hj => ⟨x, (hera j x hj).1⟩) (fun a x ha => hS.box a x (hera2 a x ha).1) (by omega) hwf hgL
    (fun i c M h => by obtain ⟨a, _, h2⟩ := hσ i _ h; rw [e4]; exact hS.bd a c M h2)
    (fun i c M h => by obtain ⟨a, _, h2⟩ := hσ i _ h; exact hS.blo a c M h2)
    (fun i j c M M' h1 h2 => by
      obtain ⟨a1, g1, g2⟩ := hσ i _ h1
      obtain ⟨a2, g3, g4⟩ := hσ j _ h2
      obtain ⟨_, x1, l1⟩ := hκlive i a1 g1
      obtain ⟨_, x2, l2⟩ := hκlive j a2 g3
      have := hS.inj a1 a2 x1 x2 c M M' l1 l2 g2 g4
      subst this
      exact hκinj i j a1 g1 g3)
    (fun i c M a x M' h1 ha hb' => by
      obtain ⟨a1, g1, g2⟩ := hσ i _ h1
      obtain ⟨w, x1, l1⟩ := hκlive i a1 g1
      obtain ⟨l2, n1, n2⟩ := hera a.1 x ha
      have := hS.inj a1 a x1 x c M M' l1 l2 g2 hb'
      subst this
      exact w.elim n1 n2)
    ⟨_, hσ0.trans hb, hz, hlo, by omega, setL cs o [cv], rest, e2, by rw [List.length_append, setL_len, ← List.length_append]; exact hN, by
      refine rowsV_rel (k := 0) (rows := []) (cs := []) (H := H) (β := β) (by rw [setL_len]; simp; omega) fun i t d h1 h2 => ?_
      simp only [setL, List.getElem?_set] at h1 h2
      by_cases ei : o = i
      · subst ei
        rw [if_pos rfl, if_pos (by omega)] at h1 h2
        obtain rfl := Option.some.inj h1
        obtain rfl := Option.some.inj h2
        have hs1 : σ (o + 1) = β (k', 0) := by simp [σ, κ]
        rw [hn]
        rcases hrv with ⟨w1, w2⟩ | ⟨b1, N1, cap, ex, w1, w2⟩
        · exact .inl ⟨by rw [newT_self, hs1]; exact w1, w2⟩
        · exact .inr ⟨b1, N1, cap, ex, by rw [newT_self, hs1]; exact w1, w2⟩
      · rw [if_neg ei] at h1 h2
        have hil : i < rows.length := (List.getElem?_eq_some_iff.1 h1).1
        have ei' : ¬ i = o := fun h => ei h.symm
        have hs1 : σ (i + 1) = β (k, i + 1) := by simp only [σ, κ, if_neg ei', if_pos hil, Option.bind_some]
        obtain ⟨c', hc', hr'⟩ := hrel.at i (.trow k i 0 t.length) (by rw [rowsV_at, h1]; simp)
        rw [h2] at hc'
        obtain rfl := Option.some.inj hc'
        rcases hr' with ⟨w1, w2⟩ | ⟨b1, N1, cap, ex, w1, w2⟩
        · exact .inl ⟨by rw [newT_self, hs1]; exact w1, w2⟩
        · exact .inr ⟨b1, N1, cap, ex, by rw [newT_self, hs1]; exact w1, w2⟩⟩
    (fun i t h1 => by
      have fin : ∀ a x, lk2 S a = some x → a ≠ (k, 0) → (∃ y, lk S a.1 = some y) → ∃ s, β a = some s ∧ BoxR p Z H' (newT β nk σ) x s := fun a x ha hne ⟨y, hy⟩ => by
        obtain ⟨s, hs, hbx⟩ := hS.box a x ha
        refine ⟨s, hs, hbx.mono hBe (by omega) fun b' hb' => ?_⟩
        rcases hb' with hb' | ⟨M, rfl⟩
        · exact hgL b' (.inl hb')
        · exact e3 b' fun e => hne (hS.inj a (k, 0) y _ b M N hy hk (e ▸ hs) hb)
      simp only [List.getElem?_set] at h1
      by_cases ei : o = i
      · subst ei
        rw [if_pos rfl, if_pos ho] at h1
        obtain rfl := Option.some.inj h1
        have hs1 : σ (o + 1) = β (k', 0) := by simp [σ, κ]
        rw [hs1]
        exact fin (k', 0) _ (lk2_of hk' rfl) (fun h => hkk (Prod.mk.inj h).1) ⟨_, hk'⟩
      · rw [if_neg ei] at h1
        have hil : i < rows.length := (List.getElem?_eq_some_iff.1 h1).1
        have ei' : ¬ i = o := fun h => ei h.symm
        have hs1 : σ (i + 1) = β (k, i + 1) := by simp only [σ, κ, if_neg ei', if_pos hil, Option.bind_some]
        rw [hs1]
        exact fin (k, i + 1) _ (lk2_row hk h1) (by simp) ⟨_, hk⟩)
  have hT' := hS.rtS (k := k) hσ0 hZ (fun a x ha => (hera2 a x ha).1) (fun a x ha e => by
    obtain ⟨y, hy⟩ := lk2_lk (hera2 a x ha).1
    have := hS.lt hy
    omega) hT (fun b' ⟨a, x, M, h1, h2⟩ => hgL b' (.inr ⟨a, x, M, h1, h2⟩)) (by omega)
  simp only [wOps, wantedA, if_true, aEff, hca, hcv, cells1]
  rw [if_pos (by simp), e1]
  have hC' := (hC.upd (k := (k, 0)) hS hk hZ e3 hb hw).step (ZLe.refl Z H') hB fun _ _ _ _ _ _ _ _ _ _ _ _ _ h => h
  refine ⟨hC'.watch ws, h.run Z _ H' _ c hT' ((rtE_ok hS hσ0 hZ hE).set dst undef_ok) hC' (hA.tree (by omega) (fun j hj hjA => e3 _ fun e => (hA.2 j hj hjA).2.2.2 (k, 0) N (by rw [e]; exact hb)) fun j hj hjA i M hM => ?_)⟩
  obtain ⟨a, _, g2⟩ := hσ i _ hM
  exact (hA.2 j hj hjA).2.2.2 a M g2
end
end Go.Ab

/- Deep values: rows appended to a tree; calls that hand back memory of their own. -/
namespace Go.Ab
section
variable {p : Par} {base rs : Nat} {Q : DEnv → Bx → Nat → Prop} {r : List SOper} {W : Wt} {A : List Nat} {E : DEnv} {S : Bx} {nk : Nat} {id : Nat} {dst : Option Nat} {aid : Option Nat} {ws : List Nat} {keep : Bool}
theorem CR.repl0 {Z : Nat → Prop} {β β' : Beta} {H H' : Hp} {b k : Nat} {c : Ctx} {x : Bk} (hS : SR p Z β H S nk) (hk : lk S k = some x) (hC : CR W Z β H c) (hZ : ZLe Z H Z H') (hB : BLe β β') (hg : ∀ b', b' ≠ b → (∀ N, β (k, 0) ≠ some (.blk b' N)) → H'.get b' = H.get b') (hb : (∃ N, β (k, 0) = some (.blk b N)) ∨ H.nx ≤ b) (hw : wOk0 S k W = true) : CR W Z β' H' c := hC.step hZ hB fun y hy j o n e b' N' i q hj _ _ hq => by
  obtain ⟨⟨z, hz⟩, hne⟩ := wOk0_mem hw y hy j o n e
  have h2 : ∀ N, β (k, 0) ≠ some (.blk b' N) := fun N e' => hne (by rw [hS.inj j (k, 0) z x b' N' N hz hk hj e'])
  have h1 : b' ≠ b := fun e' => by
    rcases hb with ⟨M, hM⟩ | hb
    · exact h2 M (e' ▸ hM)
    · have := hS.bd j b' N' hj; omega
  unfold Hp.cell at hq ⊢
  rw [hg b' h1 h2]; exact hq

/-- A ROW IS APPENDED to a tree, which gets a new name -/
theorem dw_appt {bytes : Nat} {s v : Opd} {k kv k' n m : Nat} {rows : List (List FD)} {q : List FD} (hs : ro E s = some (.one (.own k 0 n 1))) (hv : ro E v = some (.one (.own kv 0 1 1))) (hk : lk S k = some (.tree rows)) (hn : rows.length = n) (hkv : lk S kv = some (.cells [.own k' 0 m 1])) (hk' : lk S k' = some (.data q)) (hq : q.length = m) (hbb : (n + 1) * bytes ≤ 140737488355328) (h62 : n + 1 < 4611686018427387904) (hw : wOk0 S k W = true)
    (h : DPW p base rs Q r W A (setD E dst (.one (.own nk 0 (n + 1) 1))) ((nk, .tree (rows ++ [q])) :: era k' (era kv (era k S))) (nk + 1)) : DPW p base rs Q (⟨id, dst, .e (.append 1 bytes s v), none, aid, ws, keep⟩ :: r) W A E S nk := .mk fun Z β H F c hS hE hC hA => by
  obtain ⟨cs', hcs', hrs⟩ := ro_ok hE hs
  obtain ⟨cv', hcv', hrv⟩ := ro_ok hE hv
  have hk0 : lk2 S (k, 0) = some (.cells (rowsV k 0 rows)) := by simp only [lk2, hk]
  have hkk : k' ≠ k := fun e => by subst e; rw [hk] at hk'; cases hk'
  -- the row that is added
  obtain ⟨cv, hsrc, hcv⟩ : ∃ cv, srcCells H 1 (v.ev F) = some (1, [cv]) ∧ RD Z H β (.own k' 0 m 1) cv := by
    rcases hrv with ⟨_, h0, _⟩ | ⟨b, N, cap, ex, hb, rfl, _, _⟩
    · cases h0
    · obtain ⟨s, hs, hbx⟩ := hS.box (kv, 0) _ (lk2_of hkv rfl)
      rw [hb] at hs
      obtain rfl := Option.some.inj hs
      obtain ⟨_, _, _, cs, rest, hrow, hN, hrel⟩ := hbx
      have hN : (cs ++ rest).length = _ := hN
      match cs, hrel with
      | [cv], hrel =>
        refine ⟨cv, ?_, hrel.1⟩
        have := loads_take hrow.2 (m := 1) (by simp)
        rw [hcv']
        simp only [srcCells, if_true, Nat.mul_one, this]
        rfl
  obtain ⟨sk, hsk, hbx⟩ := hS.box (k, 0) _ hk0
  simp only [wOps, wantedA, if_true, aEff, hsrc, hcs']
  let κ : Nat → Option Key := fun i => if i < n then some (k, i + 1) else if i = n then some (k', 0) else none
  have hκlive : ∀ i a, κ i = some a → (a.1 = k ∨ a.1 = k') ∧ a ≠ (k, 0) ∧ ∃ x, lk S a.1 = some x := fun i a h => by
    simp only [κ] at h
    split at h
    · obtain rfl := Option.some.inj h; exact ⟨.inl rfl, by simp, _, hk⟩
    · split at h
      · obtain rfl := Option.some.inj h; exact ⟨.inr rfl, fun h => hkk (Prod.mk.inj h).1, _, hk'⟩
      · cases h
  have hκinj : ∀ i j a, κ i = some a → κ j = some a → i = j := fun i j a h1 h2 => by
    simp only [κ] at h1 h2
    split at h1
    · obtain rfl := Option.some.inj h1
      split at h2
      · have := Option.some.inj h2; simp at this; omega
      · split at h2
        · have := Option.some.inj h2; simp at this
        · cases h2
    · split at h1
      · obtain rfl := Option.some.inj h1
        split at h2
        · have := Option.some.inj h2; simp at this
        · split at h2
          · omega
          · cases h2
      · cases h1
  have hera : ∀ j x, lk (era k' (era kv (era k S))) j = some x → lk S j = some x ∧ j ≠ k ∧ j ≠ k' := fun j x hj => by
    rw [lk_era, lk_era, lk_era] at hj
    split at hj
    · cases hj
    · split at hj
      · cases hj
      · split at hj
        · cases hj
        · exact ⟨hj, by assumption, by assumption⟩
  have hera2 : ∀ a x, lk2 (era k' (era kv (era k S))) a = some x → lk2 S a = some x ∧ a.1 ≠ k ∧ a.1 ≠ k' := fun a x ha => by
    rw [lk2_era, lk2_era, lk2_era] at ha
    split at ha
    · cases ha
    · split at ha
      · cases ha
      · split at ha
        · cases ha
        · exact ⟨ha, by assumption, by assumption⟩
  have hzk : ∀ b' N, Z b' → β (k, 0) ≠ some (.blk b' N) := fun b' N hz e => by
    rw [hsk] at e
    obtain rfl := Option.some.inj e
    exact hbx.1 hz
  have hfin : ∀ (H' : Hp) (b : Nat) (olds rest : List C) (cap : Nat) (ex : Bool), (All2 (RD Z H β) (rowsV k 0 rows) olds) → ((∃ N, β (k, 0) = some (.blk b N)) ∨ (b = H.nx)) → b < H'.nx → H.nx ≤ H'.nx → WF H' → (∀ b', b' ≠ b → (∀ N, β (k, 0) ≠ some (.blk b' N)) → H'.get b' = H.get b') → Row H' b ((olds ++ [cv]) ++ rest) → n + 1 ≤ cap → cap * 1 ≤ ((olds ++ [cv]) ++ rest).length →
      watchOk ws c H' ∧ wOps p.P p.G base (fun F' H' => ∃ E' S' nk' Z' β', SR p Z' β' H' S' nk' ∧ ER Z' β' H' E' F' ∧ Q E' S' nk') r c (setO F dst (.one (.slc b 0 (n + 1) cap 1 ex))) H' := by
    intro H' b olds rest cap ex hol hb hbl hnx hwf hg hrow hcap hcl
    have hb' : (∃ N, β (k, 0) = some (.blk b N)) ∨ H.nx ≤ b := hb.imp (fun h => h) fun e => by omega
    have hlen := hol.len
    rw [rowsV_len] at hlen
    let σ : Nat → Option Slot := fun i => match i with
      | 0 => some (.blk b ((olds ++ [cv]) ++ rest).length)
      | i + 1 => (κ i).bind β
    have hσ : ∀ i s, σ (i + 1) = some s → ∃ a, κ i = some a ∧ β a = some s := fun i s h => by
      simp only [σ, Option.bind_eq_some_iff] at h; exact h
    -- the blocks of the rows are not the outer one
    have hrowne : ∀ i c' M, σ (i + 1) = some (.blk c' M) → c' ≠ b ∧ c' < H.nx ∧ ∀ N, β (k, 0) ≠ some (.blk c' N) := fun i c' M h => by
      obtain ⟨a, g1, g2⟩ := hσ i _ h
      obtain ⟨_, n1, x, l1⟩ := hκlive i a g1
      have hb0 : ∀ N, β (k, 0) ≠ some (.blk c' N) := fun N e => n1 (hS.inj a (k, 0) x _ c' M N l1 hk g2 e)
      have := hS.bd a c' M g2
      refine ⟨fun e => ?_, this, hb0⟩
      rcases hb with ⟨N, hN⟩ | hN
      · exact hb0 N (e ▸ hN)
      · omega
    have hzb : ¬ Z b := by
      rcases hb with ⟨N, hN⟩ | hN
      · exact fun hz => hzk b N hz hN
      · exact fun hz => absurd (hS.z _ hz) (by omega)
    have hlob : p.lo ≤ b := by
      rcases hb with ⟨N, hN⟩ | hN
      · exact hS.lo2 hk0 hN
      · have := hS.lo; omega
    have hgL : ∀ b', (Z b' ∨ ∃ a x N, lk2 (era k' (era kv (era k S))) a = some x ∧ β a = some (.blk b' N)) → H'.get b' = H.get b' := fun b' hb1 => by
      rcases hb1 with hb1 | ⟨a, x, M, ha, hb1⟩
      · exact hg b' (fun e => hzb (e ▸ hb1)) fun N => hzk b' N hb1
      · obtain ⟨h1, h2, _⟩ := hera2 a x ha
        obtain ⟨y, hy⟩ := lk2_lk h1
        have h3 : ∀ N, β (k, 0) ≠ some (.blk b' N) := fun N e => h2 (by rw [hS.inj a (k, 0) y _ b' M N hy hk hb1 e])
        refine hg b' (fun e => ?_) h3
        rcases hb with ⟨N, hN⟩ | hN
        · exact h3 N (e ▸ hN)
        · have := hS.bd a b' M hb1; omega
    have hBe := hS.bleT σ
    obtain ⟨hT, hZ, hB⟩ := hS.tree (S0 := era k' (era kv (era k S))) (H' := H') (rows := rows ++ [q]) (σ := σ) (fun j x hj => ⟨x, (hera j x hj).1⟩) (fun a x ha => hS.box a x (hera2 a x ha).1) hnx hwf hgL
      (fun i c' M h => by
        cases i with
        | zero => obtain ⟨rfl, _⟩ := Slot.blk.inj (Option.some.inj h); exact hbl
        | succ i => have := (hrowne i c' M h).2.1; omega)
      (fun i c' M h => by
        cases i with
        | zero => obtain ⟨rfl, _⟩ := Slot.blk.inj (Option.some.inj h); exact hlob
        | succ i => obtain ⟨a, _, h2⟩ := hσ i _ h; exact hS.blo a c' M h2)
      (fun i j c' M M' h1 h2 => by
        cases i with
        | zero =>
          obtain ⟨rfl, _⟩ := Slot.blk.inj (Option.some.inj h1)
          cases j with
          | zero => rfl
          | succ j => exact absurd rfl (hrowne j _ _ h2).1
        | succ i =>
          cases j with
          | zero => obtain ⟨rfl, _⟩ := Slot.blk.inj (Option.some.inj h2); exact absurd rfl (hrowne i _ _ h1).1
          | succ j =>
            obtain ⟨a1, g1, g2⟩ := hσ i _ h1
            obtain ⟨a2, g3, g4⟩ := hσ j _ h2
            obtain ⟨_, _, x1, l1⟩ := hκlive i a1 g1
            obtain ⟨_, _, x2, l2⟩ := hκlive j a2 g3
            have := hS.inj a1 a2 x1 x2 c' M M' l1 l2 g2 g4
            subst this
            rw [hκinj i j a1 g1 g3])
      (fun i c' M a x M' h1 ha hb1 => by
        obtain ⟨l2, n1, n2⟩ := hera a.1 x ha
        cases i with
        | zero =>
          obtain ⟨rfl, _⟩ := Slot.blk.inj (Option.some.inj h1)
          rcases hb with ⟨N, hN⟩ | hN
          · exact n1 (by rw [hS.inj a (k, 0) x _ _ M' N l2 hk hb1 hN])
          · have := hS.bd a _ M' hb1; omega
        | succ i =>
          obtain ⟨a1, g1, g2⟩ := hσ i _ h1
          obtain ⟨w, _, x1, l1⟩ := hκlive i a1 g1
          have := hS.inj a1 a x1 x c' M M' l1 l2 g2 hb1
          subst this
          exact w.elim n1 n2)
      ⟨_, rfl, hzb, hlob, hbl, olds ++ [cv], rest, hrow, rfl, by
        refine rowsV_rel (k := 0) (rows := []) (cs := []) (H := H) (β := β) (by simp; omega) fun i t d h1 h2 => ?_
        by_cases ei : i < n
        · rw [List.getElem?_append_left (by omega)] at h1 h2
          have hs1 : σ (i + 1) = β (k, i + 1) := by simp only [σ, κ, if_pos ei, Option.bind_some]
          obtain ⟨c', hc', hr'⟩ := hol.at i (.trow k i 0 t.length) (by rw [rowsV_at, h1]; simp)
          rw [h2] at hc'
          obtain rfl := Option.some.inj hc'
          rcases hr' with ⟨w1, w2⟩ | ⟨b1, N1, cap, ex, w1, w2⟩
          · exact .inl ⟨by rw [newT_self, hs1]; exact w1, w2⟩
          · exact .inr ⟨b1, N1, cap, ex, by rw [newT_self, hs1]; exact w1, w2⟩
        · have hi : i = n := by
            have := (List.getElem?_eq_some_iff.1 h1).1
            simp at this; omega
          subst hi
          rw [List.getElem?_append_right (by omega), hn] at h1
          rw [List.getElem?_append_right (by omega), ← hlen, hn] at h2
          simp at h1 h2
          subst h1; subst h2
          have hs1 : σ (i + 1) = β (k', 0) := by simp [σ, κ]
          rw [hq]
          rcases hcv with ⟨w1, w2⟩ | ⟨b1, N1, cap, ex, w1, w2⟩
          · exact .inl ⟨by rw [newT_self, hs1]; exact w1, w2⟩
          · exact .inr ⟨b1, N1, cap, ex, by rw [newT_self, hs1]; exact w1, w2⟩⟩
      (fun i t h1 => by
        have fin : ∀ a x, κ i = some a → lk2 S a = some x → ∃ s, σ (i + 1) = some s ∧ BoxR p Z H' (newT β nk σ) x s := fun a x hκ ha => by
          obtain ⟨s, hs, hbx⟩ := hS.box a x ha
          have hσi : σ (i + 1) = some s := by simp only [σ, hκ, Option.bind_some, hs]
          refine ⟨s, hσi, hbx.mono hBe hnx fun b' hb' => ?_⟩
          rcases hb' with hb' | ⟨M, rfl⟩
          · exact hgL b' (.inl hb')
          · obtain ⟨w1, _, w3⟩ := hrowne i b' M hσi
            exact hg b' w1 w3
        by_cases ei : i < n
        · rw [List.getElem?_append_left (by omega)] at h1
          exact fin (k, i + 1) _ (by simp only [κ, if_pos ei]) (lk2_row hk h1)
        · have hi : i = n := by
            have := (List.getElem?_eq_some_iff.1 h1).1
            simp at this; omega
          subst hi
          rw [List.getElem?_append_right (by omega), hn] at h1
          simp at h1
          subst h1
          exact fin (k', 0) _ (by simp [κ]) (lk2_of hk' rfl))
    have hC' := hC.repl0 hS hk hZ hB hg hb' hw
    refine ⟨hC'.watch ws, h.run Z _ H' _ c hT ((hE.mono hZ hB).set dst ⟨_, rfl, .inr ⟨b, _, cap, ex, by rw [newT_self], rfl, hcap, by omega⟩⟩) hC' (hA.tree hnx (fun j hj hjA => ?_) fun j hj hjA i M hM => ?_)⟩
    · obtain ⟨h1, h2, h3, h4⟩ := hA.2 j hj hjA
      refine hg _ (fun e => ?_) fun N => h4 (k, 0) N
      rcases hb with ⟨N, hN⟩ | hN
      · exact h4 (k, 0) N (by rw [e]; exact hN)
      · omega
    · obtain ⟨h1, h2, h3, h4⟩ := hA.2 j hj hjA
      cases i with
      | zero =>
        obtain ⟨e, _⟩ := Slot.blk.inj (Option.some.inj hM)
        rcases hb with ⟨N, hN⟩ | hN
        · exact h4 (k, 0) N (by rw [← e]; exact hN)
        · omega
      | succ i =>
        obtain ⟨a, _, g2⟩ := hσ i _ hM
        exact h4 a M g2
  rcases hrs with ⟨hnil, h0, _, rfl⟩ | ⟨b, N, cap, ex, hb, rfl, hcap, hcN⟩
  · have hr0 : rows = [] := List.eq_nil_of_length_eq_zero (by omega)
    subst hr0
    obtain rfl : n = 0 := h0
    simp only [aAppend]
    rw [if_neg (by decide), if_pos ⟨by omega, by omega⟩]
    exact hfin (H.push (.row 1 [cv] .lf true)) H.nx [] [] 1 false trivial (.inr rfl) (by simp) (by simp) (hS.wf.push _) (fun b' hb' _ => by rw [Hp.get_push, if_neg hb']) (by simpa using Row.new (H := H) [cv]) (by omega) (by simp)
  · rw [hb] at hsk
    obtain rfl := Option.some.inj hsk
    obtain ⟨hz, hlo, hlt, cells, rest, hrow, hN, hrel⟩ := hbx
    have hN : (cells ++ rest).length = _ := hN
    have hlen : (rowsV k 0 rows).length = cells.length := All2.len hrel
    rw [rowsV_len] at hlen
    simp only [aAppend]
    rw [if_neg (by simp)]
    by_cases hfit : n + 1 ≤ cap
    · rw [if_pos hfit, Nat.zero_add, Nat.mul_one]
      obtain ⟨rest', x, hrest⟩ : ∃ rest' x, rest = x :: rest' := by
        cases rest with
        | nil => simp at hN; omega
        | cons x rest' => exact ⟨rest', x, rfl⟩
      subst hrest
      obtain ⟨H', e1, e2, e3, e4⟩ := hrow.stores (cs := [cv]) (i := n) (by simp; omega)
      rw [e1]
      have hset : setL (cells ++ x :: rest') n [cv] = (cells ++ [cv]) ++ rest' := by
        have := dsetL_mid cells [x] [cv] rest' rfl
        rw [← hlen, hn] at this
        simpa using this
      rw [hset] at e2
      refine hfin H' b cells rest' cap ex hrel (.inl ⟨N, hb⟩) (by omega) (by omega) (fun b' bk hb' => ?_) (fun b' hb' _ => e3 b' hb') e2 hfit ?_
      · rw [e4]
        by_cases e : b' = b
        · omega
        · rw [e3 b' e] at hb'; exact hS.wf b' bk hb'
      · simp at hN ⊢; omega
    · rw [if_neg hfit, if_pos ⟨hbb, h62⟩]
      have hld : H.loads b 0 (n * 1) = some cells := by
        have := loads_take hrow.2 (m := n * 1) (by simp; omega)
        rw [this, List.take_append_of_le_length (by omega), List.take_of_length_le (by omega)]
      rw [hld]
      have hrow' := Row.new (H := H) (cells ++ [cv])
      cases ex with
      | true =>
        simp only [if_true]
        exact hfin _ H.nx cells [] (n + 1) false hrel (.inr rfl) (by simp) (by simp) (hS.wf.push _) (fun b' hb' _ => by rw [Hp.get_push, if_neg hb']) (by rw [List.append_nil]; exact hrow') (Nat.le_refl _) (by simp; omega)
      | false =>
        simp only [Bool.false_eq_true, if_false, hrow.mut, if_true]
        refine hfin _ H.nx cells [] (n + 1) false hrel (.inr rfl) (by simp) (by simp) (fun b' bk hb' => ?_) (fun b' hb' hne => ?_) (by rw [List.append_nil]; exact hrow'.same (by rw [Hp.get_del, if_neg (by omega)])) (Nat.le_refl _) (by simp; omega)
        · rw [Hp.get_del] at hb'
          split at hb'
          · cases hb'
          · exact hS.wf.push _ b' bk hb'
        · rw [Hp.get_del, if_neg (fun (e : b' = b) => hne N (by rw [e]; exact hb)), Hp.get_push, if_neg hb']
end
end Go.Ab

/- Deep values: calls that hand back memory of their own. -/
namespace Go.Ab

section
variable {p : Par} {n : Nat} {Q : Exit → DEnv → Bx → Nat → Prop} {E : DEnv} {S : Bx} {nk : Nat}
theorem virtT_ok {Z : Nat → Prop} {β : Beta} {H : Hp} (hS : SR p Z β H S nk) : ∃ σ, SR p Z (newT β nk σ) H ((nk, .tree []) :: S) (nk + 1) ∧ BLe β (newT β nk σ) ∧ σ 0 = some .nil := by
  have hno : ∀ i c N, (fun i => match i with | 0 => some Slot.nil | _ + 1 => none) i = some (Slot.blk c N) → False := fun i c N h => by
    cases i <;> cases h
  obtain ⟨g1, g2, g3⟩ := hS.tree (S0 := S) (H' := H) (rows := []) (σ := fun i => match i with | 0 => some .nil | _ + 1 => none) (fun k x h => ⟨x, h⟩) hS.box (Nat.le_refl _) hS.wf (fun _ _ => rfl) (fun i c N h => (hno i c N h).elim) (fun i c N h => (hno i c N h).elim) (fun i j c N N' h => (hno i c N h).elim) (fun i c N κ x M h => (hno i c N h).elim) ⟨_, rfl, rfl⟩ (fun i r h => by simp at h)
  exact ⟨_, g1, g3, rfl⟩
theorem ds_virtT {s : SC} (kb i : Nat) {l : List DC} (hk : lk S kb = some (.cells l)) (hi : l[i]? = some (.f (.c .nils))) (h : DPS p n s Q E ((nk, .tree []) :: put kb (.cells (l.set i (.own nk 0 0 1))) S) (nk + 1)) : DPS p n s Q E S nk := .mk fun Z β H F hS hE => by
  obtain ⟨σ, hT, hB, h0⟩ := virtT_ok hS
  have hkn := hS.lt hk
  have hkT : lk ((nk, .tree []) :: S) kb = some (.cells l) := by rw [lk_cons, if_neg (by omega)]; exact hk
  refine h.run Z _ H F ?_ (hE.mono (ZLe.refl Z H) hB)
  have hput : ∀ j, lk ((nk, .tree []) :: put kb (.cells (l.set i (.own nk 0 0 1))) S) j = lk (put kb (.cells (l.set i (.own nk 0 0 1))) ((nk, .tree []) :: S)) j := fun j => by
    simp only [put, beq_ne (show nk ≠ kb by omega)]
  refine ⟨hT.wf, hT.lo, hT.z, hT.zlo, hT.zz, hT.glob, hT.nk, hT.bd, fun κ y hκ => ?_, fun κ κ' y y' b N N' hj hj' => ?_, hT.blo, hT.anch, hT.ancn⟩
  · rw [lk2_congr (hput κ.1), lk2_put hkT rfl] at hκ
    split at hκ
    · rename_i e
      split at hκ
      · rename_i e2
        obtain rfl := key_eq e e2
        obtain rfl := Option.some.inj hκ
        obtain ⟨s, hs, hbx⟩ := hT.box (kb, 0) _ (lk2_of hkT rfl)
        refine ⟨s, hs, ?_⟩
        cases s with
        | nil =>
          have : l = [] := List.eq_nil_of_length_eq_zero hbx
          subst this; cases hi
        | blk b N =>
          obtain ⟨g1, g2, g3, cs, rest, g4, g5, g6⟩ := hbx
          refine ⟨g1, g2, g3, cs, rest, g4, g5, ?_⟩
          obtain ⟨c, hc, hr⟩ := All2.at g6 i _ hi
          cases hr
          have hset : cs.set i .nils = cs := by
            refine List.ext_getElem? fun j => ?_
            rw [List.getElem?_set]
            split
            · rename_i ej; subst ej; rw [hc]; first | rfl | rw [if_pos (List.getElem?_eq_some_iff.1 hc).1]
            · rfl
          show All2 _ _ _
          rw [← hset]
          exact All2.set g6 i (.inl ⟨by rw [newT_self]; exact h0, rfl, rfl, rfl⟩)
      · cases hκ
    · exact hT.box κ y hκ
  · rw [hput] at hj hj'
    rw [lk_put] at hj hj'
    have f : ∀ a z, (if a = kb then Option.map (fun _ => Bk.cells (l.set i (.own nk 0 0 1))) (lk ((nk, .tree []) :: S) a) else lk ((nk, .tree []) :: S) a) = some z → ∃ z', lk ((nk, .tree []) :: S) a = some z' := fun a z hz => by
      split at hz
      · cases hl : lk ((nk, .tree []) :: S) a with
        | none => rw [hl] at hz; cases hz
        | some q => exact ⟨q, rfl⟩
      · exact ⟨z, hz⟩
    obtain ⟨z1, e1⟩ := f κ.1 y hj
    obtain ⟨z2, e2⟩ := f κ'.1 y' hj'
    exact hT.inj κ κ' z1 z2 b N N' e1 e2
end

/-- WHAT A CALL COMES TO THAT HANDS BACK MEMORY OF ITS OWN -/
def DCallsO (P : Program) (G : Nat) (GH : Hp) (f : FuncId) (ds : List DV) (R : DV → Bx → Nat → Prop) : Prop := ∀ (H : Hp) (Z : Nat → Prop) (args : List V), WF H → (∀ b, Z b → b < H.nx) → (∀ b bk, GH.get b = some bk → Z b ∧ H.get b = some bk) → All2 (RDV Z H nob) ds args →
  ACalls P G f args H fun v H' => H.nx ≤ H'.nx ∧ (∀ b, b < H.nx → H'.get b = H.get b) ∧ ∃ d S' nk' Z' β', SR (Par.base P G GH Z H.nx) Z' β' H' S' nk' ∧ RDV Z' H' β' d v ∧ R d S' nk'

section
variable {p : Par} {E : DEnv} {S : Bx} {nk : Nat}
theorem one_of {Z : Nat → Prop} {β : Beta} {H : Hp} {d : DV} {v : V} (hr : RDV Z H β d v) (hd : isOneD d = true) : isOne v = true ∧ RDV1 Z H β d v := by
  cases d with
  | one d => obtain ⟨c, rfl, hr⟩ := hr; exact ⟨rfl, c, rfl, hr⟩
  | agg l => obtain ⟨c, rfl, hr⟩ := hr; exact ⟨rfl, c, rfl, hr⟩
  | tup l => cases hd
theorem resDLO_ok {Z : Nat → Prop} {β : Beta} {H : Hp} {F : T V} (hS : SR p Z β H S nk) (hE : ER Z β H E F) : ∀ {l : List SRes} {ds : List DV}, resDL p E S l = some ds → allB isOneD ds = true → ∃ vs, aResL F H l = some vs ∧ All2 (RDV1 Z H β) ds vs
  | [], ds, h, _ => by obtain rfl := Option.some.inj h; exact ⟨[], rfl, trivial⟩
  | r :: l, ds, h, hf => by
    simp only [resDL] at h
    split at h
    · rename_i d q h1 h2
      obtain rfl := Option.some.inj h
      have f1 := allB_mem hf d (by simp)
      have f2 : allB isOneD q = true := by simp only [allB, f1] at hf; exact hf
      obtain ⟨v, e1, e2⟩ := resD_ok hS hE h1
      obtain ⟨vs, e3, e4⟩ := resDLO_ok hS hE h2 f2
      obtain ⟨o1, o2⟩ := one_of e2 f1
      exact ⟨v :: vs, by simp only [aResL, e1, e3, o1, if_true], o2, e4⟩
    · cases h
def onesD : DV → Bool
  | .tup l => allB isOneD l
  | _ => true
theorem resultO_ok {Z : Nat → Prop} {β : Beta} {H : Hp} {F : T V} (hS : SR p Z β H S nk) (hE : ER Z β H E F) {rs : List SRes} {d : DV} (h : resultD p E S rs = some d) (hf : onesD d = true) : ∃ v, aResult F H rs = some v ∧ RDV Z H β d v := by
  unfold resultD at h
  have one : ∀ d', resDL p E S rs = some [d'] → isOneD d' = true → ∃ v, aResult F H rs = some v ∧ RDV Z H β d' v := fun d' hd' hf' => by
    obtain ⟨vs, h1, h2⟩ := resDLO_ok hS hE hd' (by simp [allB, hf'])
    match vs, h1, h2 with
    | [v], h1, h2 => exact ⟨v, by simp only [aResult, h1], RDV.of1 h2.1⟩
  split at h
  · rename_i c hd'
    obtain rfl := Option.some.inj h
    exact one _ hd' rfl
  · rename_i l hd'
    obtain rfl := Option.some.inj h
    exact one _ hd' rfl
  · cases h
  · rename_i ds hn1 hn2 hn3 hds
    obtain rfl := Option.some.inj h
    obtain ⟨vs, h1, h2⟩ := resDLO_ok hS hE hds hf
    refine ⟨.tup vs, ?_, vs, rfl, h2⟩
    have hl := h2.len
    unfold aResult
    rw [h1]
    match vs, hl with
    | [], _ => rfl
    | [v], hl =>
      match ds, hl with
      | [.one d], _ => exact (hn1 d rfl).elim
      | [.agg d], _ => exact (hn2 d rfl).elim
      | [.tup d], _ => exact (hn3 d rfl).elim
    | _ :: _ :: _, _ => rfl
  · cases h
end
def retO (p : Par) (rs : List SRes) (R : DV → Bx → Nat → Prop) : Exit → DEnv → Bx → Nat → Prop
  | .normal, E, S, nk => ∃ d, resultD p E S rs = some d ∧ onesD d = true ∧ ∃ S0, SubA S0 S ∧ R d S0 nk
  | .ret, E, S, nk => ∃ d, resultD p E S rs = some d ∧ onesD d = true ∧ ∃ S0, SubA S0 S ∧ R d S0 nk
  | _, _, _, _ => False
/-- A FUNCTION'S CONTRACT -/
theorem dfnO_ok {P : Program} {G : Nat} {GH : Hp} {f : FuncId} {sf : SFn} (hf : cpFn P G f = some sf) {ds : List DV} {R : DV → Bx → Nat → Prop} (hn : Nat.ble ds.length sf.n = true) (hG : ∀ b bk, GH.get b = some bk → bk.ro = some bk) (h : ∀ Z0 lo, DPS (Par.base P G GH Z0 lo) sf.n sf.code (retO (Par.base P G GH Z0 lo) sf.res R) (argsD ds 0) [] 0) : DCallsO P G GH f ds R := by
  intro H Z args hw hz hg ha
  have hro : ACalls P G f args H.ro fun v H1 => ∃ d S' nk' Z' β', SR (Par.base P G GH Z H.nx) Z' β' H1 S' nk' ∧ RDV Z' H1 β' d v ∧ R d S' nk' := by
    have hwr : WF H.ro := fun b bk hb => by
      rw [Hp.get_ro, Option.bind_eq_some_iff] at hb
      obtain ⟨x, hx, _⟩ := hb
      exact hw b x hx
    refine (fn_ok hf (by rw [← ha.len]; exact Nat.le_of_ble_eq_true hn) ?_)
    have hS : SR (Par.base P G GH Z H.nx) Z nob H.ro [] 0 := ⟨hwr, Nat.le_refl _, hz, fun b hb => .inl hb, fun b hb => hb, fun b bk hb => (by rcases hb with hb | ⟨_, hb⟩; exact ⟨(hg b bk hb).1, by rw [Hp.get_ro, (hg b bk hb).2]; exact hG b bk hb⟩; cases hb), fun _ _ => rfl, fun _ _ _ hk => (by cases hk), fun κ x hk => (by obtain ⟨y, hy⟩ := lk2_lk hk; cases hy), fun _ _ _ _ _ _ _ hk => (by cases hk), fun _ _ _ hk => (by cases hk), fun _ _ _ => rfl, Nat.le_refl _⟩
    have hE : ER Z nob H.ro (argsD ds 0) (initF args 0) := argsD_ok 0 (ha.mono fun _ _ hr => RDV.mono (ZLe.of_le (fun _ h => h) (Le.ro H)) (BLe.refl nob) hr)
    refine swp_mono ((h Z H.nx).run Z nob H.ro _ hS hE) fun e F' H' ⟨E', S', nk', Z', β', h1, h2, h3⟩ => ?_
    have fin : (∃ d, resultD (Par.base P G GH Z H.nx) E' S' sf.res = some d ∧ onesD d = true ∧ ∃ S0, SubA S0 S' ∧ R d S0 nk') → ∃ v, aResult F' H' sf.res = some v ∧ ∃ d S' nk' Z' β', SR (Par.base P G GH Z H.nx) Z' β' H' S' nk' ∧ RDV Z' H' β' d v ∧ R d S' nk' := fun ⟨d, hd, hfr, S0, hsub, hR⟩ => by
      obtain ⟨v, hv, hr⟩ := resultO_ok h1 h2 hd hfr
      exact ⟨v, hv, d, S0, nk', Z', β', h1.keepS hsub, hr, hR⟩
    cases e with
    | normal => obtain ⟨v, hv, hr⟩ := fin h3; simp only [retQ, hv]; exact hr
    | ret => obtain ⟨v, hv, hr⟩ := fin h3; simp only [retQ, hv]; exact hr
    | _ => exact h3.elim
  refine (ACalls.none (ACalls.wf (ACalls.grow hro))).mono ?_
  rintro v H' ⟨⟨⟨H1, ⟨d, S', nk', Z', β', hS1, hr, hR⟩, e1, e2, e3, e4, e5⟩, hw'⟩, hno⟩
  have hnx : H'.nx = H1.nx := by rw [e1]; rfl
  have hold : ∀ b, b < H.nx → H'.get b = H.get b := fun b hb => by
    cases hgb : H.get b with
    | none => exact hno b hb hgb
    | some bk => exact e3 b bk hgb
  have hZ : ZLe Z' H1 Z' H' := ZLe.of_le (fun _ h => h) e5
  refine ⟨by omega, hold, d, S', nk', Z', β', ⟨hw', by simp only; omega, fun b hb => by rw [hnx]; exact hS1.z b hb, hS1.zlo, hS1.zz, fun b bk hb => ⟨(hS1.glob b bk hb).1, ?_⟩, hS1.nk, fun κ b N hκ => by rw [hnx]; exact hS1.bd κ b N hκ, fun κ x hκ => ?_, hS1.inj, hS1.blo, hS1.anch, hS1.ancn⟩, hr.mono hZ (BLe.refl β'), hR⟩
  · rcases hb with hb | ⟨_, hb⟩
    · rw [hold b (hz b (hg b bk hb).1)]; exact (hg b bk hb).2
    · cases hb
  · obtain ⟨s, hs, hbx⟩ := hS1.box κ x hκ
    refine ⟨s, hs, ?_⟩
    cases s with
    | nil => exact hbx
    | blk b N =>
      obtain ⟨h1, h2, h3, cs, rest, h4, h5, h6⟩ := hbx
      exact ⟨h1, h2, by omega, cs, rest, h4.same (e4 b h2), h5, Bk.rel_mono hZ (BLe.refl _) h6⟩

/-- names are raised by n -/
def shP (n : Nat) : List (Nat × Nat) → List (Nat × Nat)
  | [] => []
  | (k, o) :: r => (k + n, o) :: shP n r
def shC (n : Nat) : DC → DC
  | .ptr k o => .ptr (k + n) o
  | .own k o m e => .own (k + n) o m e
  | .tptr k i o => .tptr (k + n) i o
  | .trow k i o m => .trow (k + n) i o m
  | .fn f l => .fn f (shP n l)
  | .om k => .om (k + n)
  | .yl k => .yl (k + n)
  | d => d
def shD : Nat → DV → DV
  | n, .one d => .one (shC n d)
  | n, .agg l => .agg (l.map (shC n))
  | _, .tup l => .tup l
def shV (n : Nat) : DV → DV
  | .one d => .one (shC n d)
  | .agg l => .agg (l.map (shC n))
  | .tup l => .tup (l.map (shD n))
def shB (n : Nat) : Bk → Bk
  | .cells l => .cells (l.map (shC n))
  | .data l => .data l
  | .tree l => .tree l
  | .mp ks l => .mp ks (l.map (shC n))
  | .mt es => .mt (mtMap (shC n) es)
theorem shB_shape (n : Nat) (x : Bk) : (shB n x).shape = x.shape := by cases x <;> rfl
def shS (n : Nat) : Bx → Bx → Bx
  | [], T => T
  | (k, x) :: r, T => (k + n, shB n x) :: shS n r T
section
variable {Z : Nat → Prop} {H : Hp} {β β' : Beta} {n : Nat}
theorem shP_ok (hβ : ∀ k i, β' (k + n, i) = β (k, i)) : ∀ {l l' : List (Nat × Nat)}, capsR β l l' → capsR β' (shP n l) l'
  | [], [], _ => trivial
  | (_, _) :: _, (_, _) :: _, h => ⟨h.1, by obtain ⟨N, hN⟩ := h.2.1; exact ⟨N, by rw [hβ]; exact hN⟩, shP_ok hβ h.2.2⟩
  | [], _ :: _, h => h.elim
  | (_, _) :: _, [], h => h.elim
theorem shC_ok (hβ : ∀ k i, β' (k + n, i) = β (k, i)) {d : DC} {c : C} (h : RD Z H β d c) : RD Z H β' (shC n d) c := by
  cases d with
  | ptr k o => obtain ⟨b, N, h1, h2⟩ := h; exact ⟨b, N, by rw [hβ]; exact h1, h2⟩
  | tptr k i o => obtain ⟨b, N, h1, h2⟩ := h; exact ⟨b, N, by rw [hβ]; exact h1, h2⟩
  | own k o m e =>
    rcases h with ⟨h1, h2⟩ | ⟨b, N, cap, ex, h1, h2⟩
    · exact .inl ⟨by rw [hβ]; exact h1, h2⟩
    · exact .inr ⟨b, N, cap, ex, by rw [hβ]; exact h1, h2⟩
  | trow k i o m =>
    rcases h with ⟨h1, h2⟩ | ⟨b, N, cap, ex, h1, h2⟩
    · exact .inl ⟨by rw [hβ]; exact h1, h2⟩
    · exact .inr ⟨b, N, cap, ex, by rw [hβ]; exact h1, h2⟩
  | fn f l => obtain ⟨l', h1, h2⟩ := h; exact ⟨l', h1, shP_ok hβ h2⟩
  | f d => exact h
  | g b o => exact h
  | fptr l => exact h
  | any => trivial
  | om k => obtain ⟨b, N, h1, h2⟩ := h; exact ⟨b, N, by rw [hβ]; exact h1, h2⟩
  | yl k => obtain ⟨b, N, h1, h2⟩ := h; exact ⟨b, N, by rw [hβ]; exact h1, h2⟩
theorem shL_ok (hβ : ∀ k i, β' (k + n, i) = β (k, i)) : ∀ {l : List DC} {cs : List C}, All2 (RD Z H β) l cs → All2 (RD Z H β') (l.map (shC n)) cs
  | [], [], _ => trivial
  | _ :: _, _ :: _, h => ⟨shC_ok hβ h.1, shL_ok hβ h.2⟩
  | [], _ :: _, h => h.elim
  | _ :: _, [], h => h.elim
theorem shD_ok (hβ : ∀ k i, β' (k + n, i) = β (k, i)) {d : DV} {v : V} (h : RDV1 Z H β d v) : RDV1 Z H β' (shD n d) v := by
  cases d with
  | one d => obtain ⟨c, rfl, h⟩ := h; exact ⟨c, rfl, shC_ok hβ h⟩
  | agg l => obtain ⟨c, rfl, h⟩ := h; exact ⟨c, rfl, shL_ok hβ h⟩
  | tup l => exact h.elim
theorem shV_ok (hβ : ∀ k i, β' (k + n, i) = β (k, i)) {d : DV} {v : V} (h : RDV Z H β d v) : RDV Z H β' (shV n d) v := by
  cases d with
  | one d => obtain ⟨c, rfl, h⟩ := h; exact ⟨c, rfl, shC_ok hβ h⟩
  | agg l => obtain ⟨c, rfl, h⟩ := h; exact ⟨c, rfl, shL_ok hβ h⟩
  | tup l =>
    obtain ⟨c, rfl, h⟩ := h
    refine ⟨c, rfl, ?_⟩
    have key : ∀ {l : List DV} {cs : List V}, All2 (RDV1 Z H β) l cs → All2 (RDV1 Z H β') (l.map (shD n)) cs := by
      intro l
      induction l with
      | nil => intro cs h; cases cs with
        | nil => trivial
        | cons _ _ => exact h.elim
      | cons d l ih => intro cs h; cases cs with
        | nil => exact h.elim
        | cons c cs => exact ⟨shD_ok hβ h.1, ih h.2⟩
    exact key h
theorem shRows (k : Nat) : ∀ (i : Nat) (rows : List (List FD)), (rowsV k i rows).map (shC n) = rowsV (k + n) i rows
  | _, [] => rfl
  | i, r :: rs => by simp only [rowsV, List.map_cons, shRows k (i + 1) rs, shC]
end
theorem lk_shS (n : Nat) (T : Bx) (hT : ∀ k x, lk T k = some x → k < n) : ∀ (S : Bx) (k : Nat), lk (shS n S T) k = if k < n then lk T k else (lk S (k - n)).map (shB n)
  | [], k => by
    simp only [shS, lk]
    split
    · rfl
    · rename_i hk
      cases hl : lk T k with
      | none => rfl
      | some x => exact absurd (hT k x hl) hk
  | (j, x) :: S, k => by
    simp only [shS, lk_cons]
    rw [lk_shS n T hT S k]
    by_cases hk : k < n
    · rw [if_pos hk, if_pos hk, if_neg (by omega)]
    · rw [if_neg hk, if_neg hk]
      by_cases e : j + n = k
      · rw [if_pos e, if_pos (by omega)]; rfl
      · rw [if_neg e, if_neg (by omega)]
theorem lk2_shS (n : Nat) (T : Bx) (hT : ∀ k x, lk T k = some x → k < n) (S : Bx) (κ : Key) : lk2 (shS n S T) κ = if κ.1 < n then lk2 T κ else (lk2 S (κ.1 - n, κ.2)).map (shB n) := by
  obtain ⟨k, i⟩ := κ
  have hl := lk_shS n T hT S k
  by_cases hk : k < n
  · rw [if_pos hk] at hl ⊢
    exact lk2_congr hl
  · rw [if_neg hk] at hl
    simp only [if_neg hk]
    cases i with
    | zero =>
      simp only [lk2, hl]
      cases hs : lk S (k - n) with
      | none => rfl
      | some x =>
        cases x with
        | tree rows => simp only [Option.map_some, shB, shRows]; rw [Nat.sub_add_cancel (by omega)]
        | cells l => rfl
        | data l => rfl
        | mp ks l => rfl
        | mt es =>
          simp only [Option.map_some, shB]
          rw [mtV_map (shC n) (k - n) k (fun _ => rfl) (fun i m => by simp only [shC]; rw [Nat.sub_add_cancel (by omega)])]
    | succ i =>
      simp only [lk2, hl]
      cases hs : lk S (k - n) with
      | none => rfl
      | some x =>
        cases x with
        | tree rows =>
          simp only [Option.map_some, shB]
          cases rows[i]? <;> rfl
        | cells l => rfl
        | data l => rfl
        | mp ks l => rfl
        | mt es =>
          show mtRow (mtMap (shC n) es)[i]? = (mtRow es[i]?).map (shB n)
          rw [mtRow_map]
          cases hm : mtRow es[i]? with
          | none => rfl
          | some x => obtain ⟨_, r, _, rfl⟩ := mtRow_at hm; rfl
section
variable {p : Par} {base rs : Nat} {Q : DEnv → Bx → Nat → Prop} {r : List SOper} {W : Wt} {A : List Nat} {E : DEnv} {S : Bx} {nk : Nat} {id : Nat} {dst : Option Nat} {aid : Option Nat} {ws : List Nat} {keep : Bool}
theorem dw_cfr {f : FuncId} {args : List Opd} {ds : List DV} {R : DV → Bx → Nat → Prop} (hvs : ros E args = some ds) (hf : allB frV ds = true) (hc : DCallsO p.P p.G p.GH f ds R) (h : ∀ d S' nk', R d S' nk' → DPW p base rs Q r W A (setD E dst (shV nk d)) (shS nk S' S) (nk' + nk)) : DPW p base rs Q (⟨id, dst, .cf f args, none, aid, ws, keep⟩ :: r) W A E S nk := .mk fun Z β H F c hS hE hC hA => by
  simp only [wOps, wantedA, if_true]
  refine (hc H Z _ hS.wf hS.z (fun b bk hb => hS.glob b bk (.inl hb)) (frVL_ok hf (ros_ok hE hvs))).mono ?_
  rintro v H' ⟨hnx, hg, d, S', nk', Z', β', hS', hr, hR⟩
  have hz1 : ∀ b, Z b → Z' b := hS'.zz
  have hz2 : ∀ b, Z' b → b < H.nx → Z b := fun b hb hl => (hS'.zlo b hb).elim (fun h => h) fun h => by simp only at h; omega
  have hZ : ZLe Z H Z' H' := ZLe.of_get hz1 fun b hb => hg b (hS.z b hb)
  let β'' : Beta := fun κ => if κ.1 < nk then β κ else β' (κ.1 - nk, κ.2)
  have hβ : ∀ k i, β'' (k + nk, i) = β' (k, i) := fun k i => by simp only [β'', if_neg (show ¬ k + nk < nk by omega), Nat.add_sub_cancel]
  have hlo : ∀ κ, κ.1 < nk → β'' κ = β κ := fun κ h => by simp [β'', h]
  have hhi : ∀ κ : Key, ¬ κ.1 < nk → β'' κ = β' (κ.1 - nk, κ.2) := fun κ h => by simp [β'', h]
  have hB : BLe β β'' := fun κ s hκ => by rw [hlo κ (hS.lt1 hκ)]; exact hκ
  have hT : ∀ k x, lk S k = some x → k < nk := fun k x hk => hS.lt hk
  have hnew : ∀ (κ : Key) x b N, lk S' κ.1 = some x → β' κ = some (.blk b N) → (∃ y, lk2 S' κ = some y) → H.nx ≤ b := fun κ x b N _ hb ⟨y, hy⟩ => hS'.lo2 hy hb
  have hSS : SR p Z' β'' H' (shS nk S' S) (nk' + nk) := by
    refine ⟨hS'.wf, Nat.le_trans hS.lo hnx, hS'.z, fun b hb => ?_, fun b hb => hz1 b (hS.zz b hb), fun b bk hb => ?_, fun κ hκ => ?_, fun κ b N hκ => ?_, fun κ x hκ => ?_, fun κ κ' x x' b N N' hκ hκ' h1 h2 => ?_, fun κ b N hκ => ?_, fun κ hκ h0 => by rw [hlo κ (Nat.lt_of_lt_of_le hκ hS.ancn)]; exact hS.anch κ hκ h0, by have := hS.ancn; omega⟩
    · rcases hS'.zlo b hb with h | h
      · exact hS.zlo b h
      · exact .inr (Nat.le_trans hS.lo h)
    · obtain ⟨h1, h2⟩ := hS.glob b bk hb
      exact ⟨hz1 b h1, by rw [hg b (hS.z b h1)]; exact h2⟩
    · rw [hhi κ (by omega)]; exact hS'.nk _ (by simp only; omega)
    · by_cases hk : κ.1 < nk
      · rw [hlo κ hk] at hκ; exact Nat.lt_of_lt_of_le (hS.bd κ b N hκ) hnx
      · rw [hhi κ hk] at hκ; exact hS'.bd _ b N hκ
    · rw [lk2_shS nk S hT] at hκ
      by_cases hk : κ.1 < nk
      · rw [if_pos hk] at hκ
        obtain ⟨s, hs, hbx⟩ := hS.box κ x hκ
        refine ⟨s, hB κ s hs, ?_⟩
        cases s with
        | nil => exact hbx
        | blk b N =>
          obtain ⟨g1, g2, g3, cs, rest, g4, g5, g6⟩ := hbx
          exact ⟨fun h => g1 (hz2 b h g3), g2, by omega, cs, rest, g4.same (hg b g3), g5, Bk.rel_mono hZ hB g6⟩
      · rw [if_neg hk] at hκ
        cases hs : lk2 S' (κ.1 - nk, κ.2) with
        | none => rw [hs] at hκ; cases hκ
        | some y =>
          rw [hs] at hκ
          obtain rfl := Option.some.inj hκ
          obtain ⟨s, hs', hbx⟩ := hS'.box _ y hs
          refine ⟨s, by rw [hhi κ hk]; exact hs', ?_⟩
          cases s with
          | nil => cases y <;> simpa [BoxR, shB, Bk.len, mtMap] using hbx
          | blk b N =>
            obtain ⟨g1, g2, g3, cs, rest, g4, g5, g6⟩ := hbx
            refine ⟨g1, Nat.le_trans hS.lo g2, g3, cs, rest, by rw [shB_shape]; exact g4, by rw [shB_shape]; exact g5, ?_⟩
            cases y with
            | cells l => exact shL_ok hβ g6
            | data l => exact g6
            | tree l => exact g6.elim
            | mp ks l => exact shL_ok hβ g6
            | mt es => exact g6.elim
    · rw [lk_shS nk S hT] at hκ hκ'
      by_cases hk : κ.1 < nk
      · rw [if_pos hk] at hκ
        rw [hlo κ hk] at h1
        by_cases hk' : κ'.1 < nk
        · rw [if_pos hk'] at hκ'
          rw [hlo κ' hk'] at h2
          exact hS.inj κ κ' x x' b N N' hκ hκ' h1 h2
        · rw [hhi κ' hk'] at h2
          exact absurd (hS'.blo _ _ _ h2) fun hge => by have := hS.bd κ b N h1; simp only at hge; omega
      · rw [if_neg hk] at hκ
        rw [hhi κ hk] at h1
        by_cases hk' : κ'.1 < nk
        · rw [hlo κ' hk'] at h2
          exact absurd (hS'.blo _ _ _ h1) fun hge => by have := hS.bd κ' b N' h2; simp only at hge; omega
        · rw [if_neg hk'] at hκ'
          rw [hhi κ' hk'] at h2
          cases e1 : lk S' (κ.1 - nk) with
          | none => rw [e1] at hκ; cases hκ
          | some z1 =>
            cases e2 : lk S' (κ'.1 - nk) with
            | none => rw [e2] at hκ'; cases hκ'
            | some z2 =>
              have := hS'.inj (κ.1 - nk, κ.2) (κ'.1 - nk, κ'.2) z1 z2 b N N' e1 e2 h1 h2
              obtain ⟨q1, q2⟩ := Prod.mk.inj this
              obtain ⟨a, i⟩ := κ
              obtain ⟨a', i'⟩ := κ'
              simp only at hk hk' q1 q2
              rw [q2, show a = a' by omega]
    · by_cases hk : κ.1 < nk
      · rw [hlo κ hk] at hκ; exact hS.blo κ b N hκ
      · rw [hhi κ hk] at hκ; exact Nat.le_trans hS.lo (hS'.blo _ b N hκ)
  have hC' := hC.same hZ hB hg hS.wf
  refine ⟨hC'.watch ws, (h d S' nk' hR).run _ β'' H' _ c hSS ((hE.mono hZ hB).set dst (shV_ok hβ hr)) hC' ⟨hA.1, fun j hj hjA => ?_⟩⟩
  obtain ⟨h1, h2, h3, h4⟩ := hA.2 j hj hjA
  refine ⟨by omega, by rw [hg _ h1]; exact h2, fun h => h3 (hz2 _ h h1), fun κ N hκ => ?_⟩
  by_cases hk : κ.1 < nk
  · rw [hlo κ hk] at hκ; exact h4 κ N hκ
  · rw [hhi κ hk] at hκ
    have := hS'.blo _ _ _ hκ
    simp only at this; omega
end
end Go.Ab

/- Calls that change boxes of their caller. -/
namespace Go.Ab

/-- names of whole boxes keep their meaning -/
def BLe0 (β β' : Beta) : Prop := ∀ k s, β (k, 0) = some s → β' (k, 0) = some s
def noTC : DC → Bool
  | .trow _ _ _ _ => false
  | .tptr _ _ _ => false
  | _ => true
def noT1 : DV → Bool
  | .one d => noTC d
  | .agg l => allB noTC l
  | .tup _ => false
def noTV : DV → Bool
  | .tup l => allB noT1 l
  | .one d => noTC d
  | .agg l => allB noTC l
def noT : DEnv → Bool
  | [] => true
  | (_, d) :: E => match noTV d with
    | true => noT E
    | false => false
section
variable {Z Z' : Nat → Prop} {H H' : Hp} {β β' : Beta}
theorem caps0 (hb : BLe0 β β') : ∀ {l l' : List (Nat × Nat)}, capsR β l l' → capsR β' l l'
  | [], [], _ => trivial
  | (_, _) :: _, (_, _) :: _, ⟨h1, ⟨N, h2⟩, h3⟩ => ⟨h1, ⟨N, hb _ _ h2⟩, caps0 hb h3⟩
theorem RD.mono0 (h : ZLe Z H Z' H') (hb : BLe0 β β') {d : DC} {c : C} (ht : noTC d = true) (hr : RD Z H β d c) : RD Z' H' β' d c := by
  cases d with
  | f d => exact RF.mono h hr
  | g b o => exact hr
  | ptr k o => obtain ⟨b, N, h1, h2⟩ := hr; exact ⟨b, N, hb _ _ h1, h2⟩
  | own k o n esz =>
    rcases hr with ⟨h1, h2⟩ | ⟨b, N, cap, ex, h1, h2⟩
    · exact .inl ⟨hb _ _ h1, h2⟩
    · exact .inr ⟨b, N, cap, ex, hb _ _ h1, h2⟩
  | fptr l => obtain ⟨b, o, cs, h1, h2, h3, h4⟩ := hr; exact ⟨b, o, cs, h1, (h b h2).1, h.loads h2 h3, h4.mono fun _ _ => RF.mono h⟩
  | fn f caps => obtain ⟨caps', h1, h2⟩ := hr; exact ⟨caps', h1, caps0 hb h2⟩
  | any => trivial
  | om k => obtain ⟨b, N, h1, h2⟩ := hr; exact ⟨b, N, hb _ _ h1, h2⟩
  | yl k => obtain ⟨b, N, h1, h2⟩ := hr; exact ⟨b, N, hb _ _ h1, h2⟩
  | tptr k i o => cases ht
  | trow k i o n => cases ht
theorem RDL.mono0 (h : ZLe Z H Z' H') (hb : BLe0 β β') : ∀ {l : List DC} {cs : List C}, allB noTC l = true → All2 (RD Z H β) l cs → All2 (RD Z' H' β') l cs
  | [], [], _, _ => trivial
  | d :: l, c :: cs, ha, hr => by
    have h1 := allB_mem ha d (by simp)
    have h2 : allB noTC l = true := by simp only [allB, h1] at ha; exact ha
    exact ⟨RD.mono0 h hb h1 hr.1, RDL.mono0 h hb h2 hr.2⟩
  | [], _ :: _, _, hr => hr.elim
  | _ :: _, [], _, hr => hr.elim
theorem RDV1.mono0 (h : ZLe Z H Z' H') (hb : BLe0 β β') {d : DV} {v : V} (ht : noT1 d = true) (hr : RDV1 Z H β d v) : RDV1 Z' H' β' d v := by
  cases d with
  | one d => obtain ⟨c, h1, h2⟩ := hr; exact ⟨c, h1, RD.mono0 h hb ht h2⟩
  | agg l => obtain ⟨c, h1, h2⟩ := hr; exact ⟨c, h1, RDL.mono0 h hb ht h2⟩
  | tup l => cases ht
theorem RDV1L.mono0 (h : ZLe Z H Z' H') (hb : BLe0 β β') : ∀ {l : List DV} {vs : List V}, allB noT1 l = true → All2 (RDV1 Z H β) l vs → All2 (RDV1 Z' H' β') l vs
  | [], [], _, _ => trivial
  | d :: l, c :: cs, ha, hr => by
    have h1 := allB_mem ha d (by simp)
    have h2 : allB noT1 l = true := by simp only [allB, h1] at ha; exact ha
    exact ⟨RDV1.mono0 h hb h1 hr.1, RDV1L.mono0 h hb h2 hr.2⟩
  | [], _ :: _, _, hr => hr.elim
  | _ :: _, [], _, hr => hr.elim
theorem RDV.mono0 (h : ZLe Z H Z' H') (hb : BLe0 β β') {d : DV} {v : V} (ht : noTV d = true) (hr : RDV Z H β d v) : RDV Z' H' β' d v := by
  cases d with
  | one d => exact RDV1.mono0 (d := .one d) h hb ht hr
  | agg l => exact RDV1.mono0 (d := .agg l) h hb ht hr
  | tup l => obtain ⟨vs, h1, h2⟩ := hr; exact ⟨vs, h1, RDV1L.mono0 h hb ht h2⟩
theorem noT_lk : ∀ {E : DEnv} {n : Nat} {d : DV}, noT E = true → lk E n = some d → noTV d = true
  | [], _, _, _, h => by cases h
  | (k, x) :: E, n, d, ht, h => by
    simp only [noT] at ht
    split at ht
    · rename_i hx
      rw [lk_cons] at h
      split at h
      · obtain rfl := Option.some.inj h; exact hx
      · exact noT_lk ht h
    · cases ht
theorem ER.mono0 (h : ZLe Z H Z' H') (hb : BLe0 β β') {E : DEnv} {F : T V} (ht : noT E = true) (hr : ER Z β H E F) : ER Z' β' H' E F := fun n d hd => by
  obtain ⟨v, h1, h2⟩ := hr n d hd
  exact ⟨v, h1, RDV.mono0 h hb (noT_lk ht hd) h2⟩
end

/-- WHAT A CALL COMES TO THAT IS HANDED NAMES OF BOXES -/
def DX (p : Par) (f : FuncId) (ds : List DV) (S : Bx) (nk : Nat) (R : DV → Bx → Nat → Prop) : Prop := ∀ Z β H args, SR p Z β H S nk → All2 (RDV Z H β) ds args →
  ACalls p.P p.G f args H fun v H' => ∃ d S' nk' Z' β', SR p Z' β' H' S' nk' ∧ RDV Z' H' β' d v ∧ ZLe Z H Z' H' ∧ BLe0 β β' ∧ R d S' nk'
theorem DX.mono {p : Par} {f : FuncId} {ds : List DV} {S : Bx} {nk : Nat} {R R' : DV → Bx → Nat → Prop} (h : DX p f ds S nk R) (hr : ∀ d S nk, R d S nk → R' d S nk) : DX p f ds S nk R' := fun Z β H args h1 h2 => (h Z β H args h1 h2).mono fun _ _ ⟨d, S', nk', Z', β', g1, g2, g3, g4, g5⟩ => ⟨d, S', nk', Z', β', g1, g2, g3, g4, hr _ _ _ g5⟩

/-- all names and all that is frozen held fast -/
abbrev Par.hold (p : Par) (Z : Nat → Prop) (nk : Nat) (β : Beta) (H : Hp) : Par := ⟨p.P, p.G, p.GH, Z, p.lo, nk, β, H, none⟩
theorem SR.hold {p : Par} {Z : Nat → Prop} {β : Beta} {H : Hp} {S : Bx} {nk : Nat} (h : SR p Z β H S nk) : SR (p.hold Z nk β H) Z β H S nk :=
  ⟨h.wf, h.lo, h.z, fun _ hb => .inl hb, fun _ hb => hb, fun b bk hb => hb.elim (fun hb => h.glob b bk (.inl hb)) fun hb => hb, h.nk, h.bd, h.box, h.inj, h.blo, fun _ _ _ => rfl, Nat.le_refl _⟩
theorem SR.free {p : Par} {Z Z' : Nat → Prop} {β β' : Beta} {H H' : Hp} {S S' : Bx} {nk nk' : Nat} (h : SR p Z β H S nk) (h' : SR (p.hold Z nk β H) Z' β' H' S' nk') : SR p Z' β' H' S' nk' ∧ ZLe Z H Z' H' ∧ BLe0 β β' := by
  have hz : ∀ b, Z b → Z' b := h'.zz
  refine ⟨⟨h'.wf, h'.lo, h'.z, fun b hb => (h'.zlo b hb).elim (h.zlo b) .inr, fun b hb => hz b (h.zz b hb), fun b bk hb => h'.glob b bk (.inr (h.glob b bk hb)), h'.nk, h'.bd, h'.box, h'.inj, h'.blo, fun κ hκ h0 => ?_, Nat.le_trans h.ancn h'.ancn⟩, fun b hb => ⟨hz b hb, fun i c hc => ?_⟩, fun k s hκ => ?_⟩
  · exact (h'.anch κ (Nat.lt_of_lt_of_le hκ h.ancn) h0).trans (h.anch κ hκ h0)
  · unfold Hp.cell at hc ⊢
    cases hg : H.get b with
    | none => rw [hg] at hc; cases hc
    | some bk => rw [(h'.glob b bk (.inr ⟨hb, hg⟩)).2]; rw [hg] at hc; exact hc
  · exact (h'.anch (k, 0) (h.lt1 hκ) rfl).trans hκ

/-- A FUNCTION'S CONTRACT -/
theorem dx_ok {p : Par} {f : FuncId} {sf : SFn} (hf : cpFn p.P p.G f = some sf) {ds : List DV} {S : Bx} {nk : Nat} {R : DV → Bx → Nat → Prop} (hn : Nat.ble ds.length sf.n = true)
    (h : ∀ Z β H, DPS (p.hold Z nk β H) sf.n sf.code (retO (p.hold Z nk β H) sf.res R) (argsD ds 0) S nk) : DX p f ds S nk R := by
  intro Z β H args hS ha
  refine fn_ok hf (by rw [← ha.len]; exact Nat.le_of_ble_eq_true hn) ?_
  refine swp_mono ((h Z β H).run Z β H _ hS.hold (argsD_ok 0 ha)) fun e F' H' ⟨E', S', nk', Z', β', h1, h2, h3⟩ => ?_
  have fin : (∃ d, resultD (p.hold Z nk β H) E' S' sf.res = some d ∧ onesD d = true ∧ ∃ S0, SubA S0 S' ∧ R d S0 nk') → ∃ v, aResult F' H' sf.res = some v ∧ ∃ d S' nk' Z' β', SR p Z' β' H' S' nk' ∧ RDV Z' H' β' d v ∧ ZLe Z H Z' H' ∧ BLe0 β β' ∧ R d S' nk' := fun ⟨d, hd, hfr, S0, hsub, hR⟩ => by
    obtain ⟨v, hv, hr⟩ := resultO_ok h1 h2 hd hfr
    obtain ⟨g1, g2, g3⟩ := hS.free (h1.keepS hsub)
    exact ⟨v, hv, d, S0, nk', Z', β', g1, hr, g2, g3, hR⟩
  cases e with
  | normal => obtain ⟨v, hv, hr⟩ := fin h3; simp only [retQ, hv]; exact hr
  | ret => obtain ⟨v, hv, hr⟩ := fin h3; simp only [retQ, hv]; exact hr
  | _ => exact h3.elim

def noW : Wt → Bool
  | [] => true
  | (_, none) :: W => noW W
  | _ :: _ => false
theorem CR.noW {W : Wt} {Z Z' : Nat → Prop} {β β' : Beta} {H H' : Hp} {c : Ctx} (h : CR W Z β H c) (hW : ∀ y ∈ W, y.2 = none) (hZ : ZLe Z H Z' H') : CR W Z' β' H' c := fun x hx => by
  obtain ⟨y, hy, hw⟩ := h x hx
  refine ⟨y, hy, ?_⟩
  have e := hW y hy
  obtain ⟨y1, y2⟩ := y
  simp only at e
  subst e
  obtain ⟨b, hb, hq⟩ := hw
  exact ⟨b, (hZ b hb).1, fun H'' hh => hq H'' fun i c hc => hh i c ((hZ b hb).2 i c hc)⟩
theorem noW_mem : ∀ {W : Wt}, noW W = true → ∀ y ∈ W, y.2 = none
  | [], _, y, hy => by cases hy
  | (_, none) :: W, h, y, hy => by
    rcases List.mem_cons.1 hy with rfl | hy
    · rfl
    · exact noW_mem (W := W) h y hy
  | (_, some _) :: _, h, _, _ => by cases h

/-- captured variables as arguments -/
def capsA : List (Nat × Nat) → List DV
  | [] => []
  | (k, o) :: r => .one (.ptr k o) :: capsA r
theorem capsA_ok {Z : Nat → Prop} {β : Beta} {H : Hp} : ∀ {l l' : List (Nat × Nat)}, capsR β l l' → All2 (RDV Z H β) (capsA l) (l'.map ptrV)
  | [], [], _ => trivial
  | (k, o) :: r, (b, o') :: r', ⟨h1, ⟨N, h2⟩, h3⟩ => ⟨⟨_, rfl, b, N, h2, by rw [h1]⟩, capsA_ok h3⟩

section
variable {p : Par} {base rs : Nat} {Q : DEnv → Bx → Nat → Prop} {r : List SOper} {W : Wt} {A : List Nat} {E : DEnv} {S : Bx} {nk : Nat} {id : Nat} {dst : Option Nat} {aid : Option Nat} {ws : List Nat} {keep : Bool}
theorem dw_cx {f : FuncId} {args : List Opd} {ds : List DV} {R : DV → Bx → Nat → Prop} (hvs : ros E args = some ds) (hW : noW W = true) (hT : noT E = true) (hc : DX p f ds S nk R) (h : ∀ d S' nk', R d S' nk' → DPW p base 0 Q r W A (setD E dst d) S' nk') : DPW p base rs Q (⟨id, dst, .cf f args, none, aid, ws, keep⟩ :: r) W A E S nk := .mk fun Z β H F c hS hE hC hA => by
  simp only [wOps, wantedA, if_true]
  refine (hc Z β H _ hS (ros_ok hE hvs)).mono ?_
  rintro v H' ⟨d, S', nk', Z', β', hS', hr, hZ, hB, hR⟩
  have hC' : CR W Z' β' H' c := hC.noW (noW_mem hW) hZ
  exact ⟨hC'.watch ws, (h d S' nk' hR).run Z' β' H' _ c hS' ((hE.mono0 hZ hB hT).set dst hr) hC' ⟨hA.1, fun j hj => absurd hj (by omega)⟩⟩
theorem dw_cxv {x : Opd} {f : FuncId} {caps : List (Nat × Nat)} {args : List Opd} {ds : List DV} {R : DV → Bx → Nat → Prop} (hx : ro E x = some (.one (.fn f caps))) (hf : isFn p.P f = true) (hvs : ros E args = some ds) (hW : noW W = true) (hT : noT E = true) (hc : DX p f (ds ++ capsA caps) S nk R) (h : ∀ d S' nk', R d S' nk' → DPW p base 0 Q r W A (setD E dst d) S' nk') : DPW p base rs Q (⟨id, dst, .cv x args, none, aid, ws, keep⟩ :: r) W A E S nk := .mk fun Z β H F c hS hE hC hA => by
  obtain ⟨cx, hcx, caps', rfl, hcaps⟩ := ro_ok hE hx
  simp only [wOps, wantedA, if_true, hcx]
  refine ⟨hf, ?_⟩
  refine (hc Z β H _ hS ((ros_ok hE hvs).append (capsA_ok hcaps))).mono ?_
  rintro v H' ⟨d, S', nk', Z', β', hS', hr, hZ, hB, hR⟩
  have hC' : CR W Z' β' H' c := hC.noW (noW_mem hW) hZ
  exact ⟨hC'.watch ws, (h d S' nk' hR).run Z' β' H' _ c hS' ((hE.mono0 hZ hB hT).set dst hr) hC' ⟨hA.1, fun j hj => absurd hj (by omega)⟩⟩
/-- a function without captured variables -/
theorem dw_cv0 {x : Opd} {f : FuncId} {args : List Opd} {ds : List DV} {R : DV → Prop} (hx : ro E x = some (.one (.f (.c (.fn f []))))) (hfn : isFn p.P f = true) (hvs : ros E args = some ds) (hf : allB frV ds = true) (hc : DCalls p.P p.G p.GH f ds R) (h : ∀ d, R d → DPW p base rs Q r W A (setD E dst d) S nk) : DPW p base rs Q (⟨id, dst, .cv x args, none, aid, ws, keep⟩ :: r) W A E S nk := .mk fun Z β H F c hS hE hC hA => by
  have hw := (dw_cf (id := id) (dst := dst) (aid := aid) (ws := ws) (keep := keep) hvs hf hc h).run Z β H F c hS hE hC hA
  obtain ⟨cx, hcx, hr⟩ := ro_ok hE hx
  cases hr
  simp only [wOps, wantedA, if_true] at hw
  simp only [wOps, wantedA, if_true, hcx, List.map_nil, List.append_nil]
  exact ⟨hfn, hw⟩
end
end Go.Ab

/- Maps of rows: made, looked up, written. -/
namespace Go.Ab

/-- no part of the rows of kb is named -/
def noKC (kb : Nat) : DC → Bool
  | .trow k _ _ _ => !(Nat.beq k kb)
  | .tptr k _ _ => !(Nat.beq k kb)
  | _ => true
def noK1 (kb : Nat) : DV → Bool
  | .one d => noKC kb d
  | .agg l => allB (noKC kb) l
  | .tup _ => false
def noKV (kb : Nat) : DV → Bool
  | .tup l => allB (noK1 kb) l
  | .one d => noKC kb d
  | .agg l => allB (noKC kb) l
def noKE (kb : Nat) : DEnv → Bool
  | [] => true
  | (_, d) :: E => match noKV kb d with
    | true => noKE kb E
    | false => false
def noKM (kb : Nat) : List (Int × ME) → Bool
  | [] => true
  | (_, .row _) :: es => noKM kb es
  | (_, .out c) :: es => match noKC kb c with
    | true => noKM kb es
    | false => false
def noKB (kb : Nat) : Bk → Bool
  | .cells l => allB (noKC kb) l
  | .mp _ l => allB (noKC kb) l
  | .mt es => noKM kb es
  | _ => true
def noKS (kb : Nat) : Bx → Bool
  | [] => true
  | (k, x) :: S => match Nat.beq k kb with
    | true => noKS kb S
    | false => match noKB kb x with
      | true => noKS kb S
      | false => false

/-- names beside the rows of kb keep their meaning -/
def BLeK (kb : Nat) (β β' : Beta) : Prop := ∀ κ s, (κ.1 ≠ kb ∨ κ.2 = 0) → β κ = some s → β' κ = some s
section
variable {Z : Nat → Prop} {H H' : Hp} {β β' : Beta} {kb : Nat}
theorem capsK (hb : BLeK kb β β') : ∀ {l l' : List (Nat × Nat)}, capsR β l l' → capsR β' l l'
  | [], [], _ => trivial
  | (_, _) :: _, (_, _) :: _, ⟨h1, ⟨N, h2⟩, h3⟩ => ⟨h1, ⟨N, hb _ _ (.inr rfl) h2⟩, capsK hb h3⟩
theorem ne_of_bnot {k : Nat} (h : (!(Nat.beq k kb)) = true) : k ≠ kb := by
  rintro rfl
  rw [beq_self] at h
  cases h
theorem RD.monoK (hb : BLeK kb β β') {d : DC} {c : C} (ht : noKC kb d = true) (hr : RD Z H β d c) : RD Z H β' d c := by
  cases d with
  | f d => exact hr
  | g b o => exact hr
  | ptr k o => obtain ⟨b, N, h1, h2⟩ := hr; exact ⟨b, N, hb _ _ (.inr rfl) h1, h2⟩
  | own k o n esz =>
    rcases hr with ⟨h1, h2⟩ | ⟨b, N, cap, ex, h1, h2⟩
    · exact .inl ⟨hb _ _ (.inr rfl) h1, h2⟩
    · exact .inr ⟨b, N, cap, ex, hb _ _ (.inr rfl) h1, h2⟩
  | fptr l => exact hr
  | fn f caps => obtain ⟨caps', h1, h2⟩ := hr; exact ⟨caps', h1, capsK hb h2⟩
  | any => trivial
  | om k => obtain ⟨b, N, h1, h2⟩ := hr; exact ⟨b, N, hb _ _ (.inr rfl) h1, h2⟩
  | yl k => obtain ⟨b, N, h1, h2⟩ := hr; exact ⟨b, N, hb _ _ (.inr rfl) h1, h2⟩
  | tptr k i o => obtain ⟨b, N, h1, h2⟩ := hr; exact ⟨b, N, hb _ _ (.inl (ne_of_bnot ht)) h1, h2⟩
  | trow k i o n =>
    rcases hr with ⟨h1, h2⟩ | ⟨b, N, cap, ex, h1, h2⟩
    · exact .inl ⟨hb _ _ (.inl (ne_of_bnot ht)) h1, h2⟩
    · exact .inr ⟨b, N, cap, ex, hb _ _ (.inl (ne_of_bnot ht)) h1, h2⟩
theorem RDL.monoK (hb : BLeK kb β β') : ∀ {l : List DC} {cs : List C}, allB (noKC kb) l = true → All2 (RD Z H β) l cs → All2 (RD Z H β') l cs
  | [], [], _, _ => trivial
  | d :: l, c :: cs, ha, hr => by
    have h1 := allB_mem ha d (by simp)
    have h2 : allB (noKC kb) l = true := by simp only [allB, h1] at ha; exact ha
    exact ⟨RD.monoK hb h1 hr.1, RDL.monoK hb h2 hr.2⟩
  | [], _ :: _, _, hr => hr.elim
  | _ :: _, [], _, hr => hr.elim
theorem RDV1.monoK (hb : BLeK kb β β') {d : DV} {v : V} (ht : noK1 kb d = true) (hr : RDV1 Z H β d v) : RDV1 Z H β' d v := by
  cases d with
  | one d => obtain ⟨c, h1, h2⟩ := hr; exact ⟨c, h1, RD.monoK hb ht h2⟩
  | agg l => obtain ⟨c, h1, h2⟩ := hr; exact ⟨c, h1, RDL.monoK hb ht h2⟩
  | tup l => cases ht
theorem RDV1L.monoK (hb : BLeK kb β β') : ∀ {l : List DV} {vs : List V}, allB (noK1 kb) l = true → All2 (RDV1 Z H β) l vs → All2 (RDV1 Z H β') l vs
  | [], [], _, _ => trivial
  | d :: l, c :: cs, ha, hr => by
    have h1 := allB_mem ha d (by simp)
    have h2 : allB (noK1 kb) l = true := by simp only [allB, h1] at ha; exact ha
    exact ⟨RDV1.monoK hb h1 hr.1, RDV1L.monoK hb h2 hr.2⟩
  | [], _ :: _, _, hr => hr.elim
  | _ :: _, [], _, hr => hr.elim
theorem RDV.monoK (hb : BLeK kb β β') {d : DV} {v : V} (ht : noKV kb d = true) (hr : RDV Z H β d v) : RDV Z H β' d v := by
  cases d with
  | one d => exact RDV1.monoK (d := .one d) hb ht hr
  | agg l => exact RDV1.monoK (d := .agg l) hb ht hr
  | tup l => obtain ⟨vs, h1, h2⟩ := hr; exact ⟨vs, h1, RDV1L.monoK hb ht h2⟩
theorem noKE_lk : ∀ {E : DEnv} {n : Nat} {d : DV}, noKE kb E = true → lk E n = some d → noKV kb d = true
  | [], _, _, _, h => by cases h
  | (k, x) :: E, n, d, ht, h => by
    simp only [noKE] at ht
    split at ht
    · rename_i hx
      rw [lk_cons] at h
      split at h
      · obtain rfl := Option.some.inj h; exact hx
      · exact noKE_lk ht h
    · cases ht
theorem ER.monoK (hb : BLeK kb β β') {E : DEnv} {F : T V} (ht : noKE kb E = true) (hr : ER Z β H E F) : ER Z β' H E F := fun n d hd => by
  obtain ⟨v, h1, h2⟩ := hr n d hd
  exact ⟨v, h1, RDV.monoK hb (noKE_lk ht hd) h2⟩
theorem noKS_lk : ∀ {S : Bx} {k : Nat} {x : Bk}, noKS kb S = true → lk S k = some x → k ≠ kb → noKB kb x = true
  | [], _, _, _, h, _ => by cases h
  | (j, y) :: S, k, x, ht, h, hne => by
    simp only [noKS] at ht
    rw [lk_cons] at h
    split at h
    · rename_i e
      subst e
      obtain rfl := Option.some.inj h
      rw [beq_ne hne] at ht
      simp only at ht
      split at ht
      · rename_i hx; exact hx
      · cases ht
    · split at ht
      · exact noKS_lk ht h hne
      · split at ht
        · exact noKS_lk ht h hne
        · cases ht
theorem noK_rows {j : Nat} (hj : j ≠ kb) : ∀ (i : Nat) (rows : List (List FD)), allB (noKC kb) (rowsV j i rows) = true
  | _, [] => rfl
  | i, r :: rs => by simp only [rowsV, allB, noKC, beq_ne hj, noK_rows hj (i + 1) rs, Bool.not_false]
theorem noK_mt {j : Nat} (hj : j ≠ kb) : ∀ (i : Nat) (es : List (Int × ME)), noKM kb es = true → allB (noKC kb) (mtV j i es) = true
  | _, [], _ => rfl
  | i, (_, .row r) :: es, h => by
    have e0 : ∀ y : Int, noKC kb (.f (.c (.int .i64 y))) = true := fun _ => rfl
    have e1 : noKC kb (.trow j i 0 r.length) = true := by simp only [noKC, beq_ne hj, Bool.not_false]
    simp only [mtV, allB, e0, e1, noK_mt hj (i + 1) es h]
  | i, (_, .out c) :: es, h => by
    have e0 : ∀ y : Int, noKC kb (.f (.c (.int .i64 y))) = true := fun _ => rfl
    simp only [noKM] at h
    split at h
    · rename_i hc; simp only [mtV, allB, e0, hc, noK_mt hj (i + 1) es h]
    · cases h
theorem lk2_noK {S : Bx} {κ : Key} {x : Bk} (hs : noKS kb S = true) (h : lk2 S κ = some x) (hne : κ.1 ≠ kb) : noKB kb x = true := by
  obtain ⟨j, i⟩ := κ
  obtain ⟨y, hy⟩ := lk2_lk h
  have ho := noKS_lk hs hy hne
  simp only at hy hne
  cases i with
  | zero =>
    simp only [lk2, hy] at h
    cases y with
    | cells m => obtain rfl := Option.some.inj h; exact ho
    | data m => obtain rfl := Option.some.inj h; exact ho
    | tree rows => obtain rfl := Option.some.inj h; exact noK_rows hne 0 rows
    | mp ks m => obtain rfl := Option.some.inj h; exact ho
    | mt es => obtain rfl := Option.some.inj h; exact noK_mt hne 0 es ho
  | succ i =>
    simp only [lk2, hy] at h
    cases y with
    | cells m => cases h
    | data m => cases h
    | tree rows =>
      cases hr : rows[i]? with
      | none => simp only [hr] at h; cases h
      | some r => simp only [hr] at h; obtain rfl := Option.some.inj h; rfl
    | mp ks m => cases h
    | mt es => obtain ⟨_, r, _, rfl⟩ := mtRow_at h; rfl
theorem BoxR.monoK {p : Par} (hb : BLeK kb β β') {x : Bk} {s : Slot} (hx : noKB kb x = true) (h : BoxR p Z H β x s) : BoxR p Z H β' x s := by
  cases s with
  | nil => exact h
  | blk b N =>
    obtain ⟨h1, h2, h3, cs, rest, h4, h5, h6⟩ := h
    refine ⟨h1, h2, h3, cs, rest, h4, h5, ?_⟩
    cases x with
    | cells m => exact RDL.monoK hb hx h6
    | data m => exact h6
    | tree m => exact h6
    | mp ks m => exact RDL.monoK hb hx h6
    | mt es => exact h6
end

/-- the entries of a map of rows, and those of its block -/
def EntR (Z : Nat → Prop) (H : Hp) (β : Beta) (kb : Nat) : Nat → List (Int × ME) → List (V × V) → Prop
  | _, [], [] => True
  | i, (y, .row r) :: es, (k, v) :: es' => k = .one (.int .i64 y) ∧ (∃ c, v = .one c ∧ RD Z H β (.trow kb i 0 r.length) c) ∧ EntR Z H β kb (i + 1) es es'
  | i, (y, .out d) :: es, (k, v) :: es' => k = .one (.int .i64 y) ∧ (∃ c, v = .one c ∧ RD Z H β d c) ∧ EntR Z H β kb (i + 1) es es'
  | _, _, _ => False
theorem ent_of {Z : Nat → Prop} {H : Hp} {β : Beta} {kb : Nat} : ∀ {i : Nat} {es : List (Int × ME)} {es' : List (V × V)}, (∀ e ∈ es', keyOk 0 e.1 ∧ ∃ c, e.2 = .one c) → All2 (RD Z H β) (mtV kb i es) (MF es') → EntR Z H β kb i es es'
  | i, [], [], _, _ => trivial
  | i, [], (k, v) :: es', hk, h => by
    obtain ⟨⟨c, h1⟩, c', h2⟩ := hk (k, v) (by simp)
    simp only at h1 h2
    subst h1 h2
    exact h.elim
  | i, (y, .row r) :: es, [], hk, h => h.elim
  | i, (y, .out d) :: es, [], hk, h => h.elim
  | i, (y, .row r) :: es, (k, v) :: es', hk, h => by
    obtain ⟨⟨c, h1⟩, c', h2⟩ := hk (k, v) (by simp)
    simp only at h1 h2
    subst h1 h2
    obtain ⟨g1, g2, g3⟩ := (h : RD Z H β (.f (.c (.int .i64 y))) c ∧ RD Z H β (.trow kb i 0 r.length) c' ∧ All2 (RD Z H β) (mtV kb (i + 1) es) (MF es'))
    cases g1
    exact ⟨rfl, ⟨c', rfl, g2⟩, ent_of (fun e he => hk e (by simp [he])) g3⟩
  | i, (y, .out d) :: es, (k, v) :: es', hk, h => by
    obtain ⟨⟨c, h1⟩, c', h2⟩ := hk (k, v) (by simp)
    simp only at h1 h2
    subst h1 h2
    obtain ⟨g1, g2, g3⟩ := (h : RD Z H β (.f (.c (.int .i64 y))) c ∧ RD Z H β d c' ∧ All2 (RD Z H β) (mtV kb (i + 1) es) (MF es'))
    cases g1
    exact ⟨rfl, ⟨c', rfl, g2⟩, ent_of (fun e he => hk e (by simp [he])) g3⟩
theorem ent_to {Z : Nat → Prop} {H : Hp} {β : Beta} {kb : Nat} : ∀ {i : Nat} {es : List (Int × ME)} {es' : List (V × V)}, EntR Z H β kb i es es' → (∀ e ∈ es', keyOk 0 e.1 ∧ ∃ c, e.2 = .one c) ∧ All2 (RD Z H β) (mtV kb i es) (MF es')
  | i, [], [], _ => ⟨by simp, trivial⟩
  | i, [], _ :: _, h => h.elim
  | i, (y, .row r) :: es, [], h => h.elim
  | i, (y, .out d) :: es, [], h => h.elim
  | i, (y, .row r) :: es, (k, v) :: es', ⟨h1, ⟨c, h2, h3⟩, h4⟩ => by
    subst h1 h2
    obtain ⟨g1, g2⟩ := ent_to h4
    refine ⟨fun e he => ?_, RF.c _ rfl, h3, g2⟩
    rcases List.mem_cons.1 he with rfl | he
    · exact ⟨⟨_, rfl⟩, _, rfl⟩
    · exact g1 e he
  | i, (y, .out d) :: es, (k, v) :: es', ⟨h1, ⟨c, h2, h3⟩, h4⟩ => by
    subst h1 h2
    obtain ⟨g1, g2⟩ := ent_to h4
    refine ⟨fun e he => ?_, RF.c _ rfl, h3, g2⟩
    rcases List.mem_cons.1 he with rfl | he
    · exact ⟨⟨_, rfl⟩, _, rfl⟩
    · exact g1 e he
/-- the value at a key -/
def ME.val (kb i : Nat) : ME → DC
  | .row r => .trow kb i 0 r.length
  | .out d => d
theorem EntR.len {Z : Nat → Prop} {H : Hp} {β : Beta} {kb : Nat} : ∀ {i : Nat} {es : List (Int × ME)} {es' : List (V × V)}, EntR Z H β kb i es es' → es.length = es'.length
  | i, [], [], _ => rfl
  | i, [], _ :: _, h => h.elim
  | i, (y, .row r) :: es, [], h => h.elim
  | i, (y, .out d) :: es, [], h => h.elim
  | i, (y, .row r) :: es, (k, v) :: es', ⟨_, _, h4⟩ => by simp [h4.len]
  | i, (y, .out d) :: es, (k, v) :: es', ⟨_, _, h4⟩ => by simp [h4.len]
theorem EntR.cons {Z : Nat → Prop} {H : Hp} {β : Beta} {kb i : Nat} {e : Int × ME} {es : List (Int × ME)} {x : V × V} {es' : List (V × V)} : EntR Z H β kb i (e :: es) (x :: es') ↔ x.1 = .one (.int .i64 e.1) ∧ (∃ c, x.2 = .one c ∧ RD Z H β (e.2.val kb i) c) ∧ EntR Z H β kb (i + 1) es es' := by
  obtain ⟨y, e⟩ := e
  obtain ⟨k, v⟩ := x
  cases e <;> rfl
theorem EntR.at {Z : Nat → Prop} {H : Hp} {β : Beta} {kb : Nat} : ∀ {j i : Nat} {es : List (Int × ME)} {es' : List (V × V)} {e : Int × ME}, EntR Z H β kb j es es' → es[i]? = some e → ∃ c, es'[i]? = some (.one (.int .i64 e.1), .one c) ∧ RD Z H β (e.2.val kb (j + i)) c
  | j, i, [], [], e, _, h => by simp at h
  | j, i, [], _ :: _, e, h, _ => h.elim
  | j, i, (y, .row r) :: es, [], e, h, _ => h.elim
  | j, i, (y, .out d) :: es, [], e, h, _ => h.elim
  | j, 0, e0 :: es, x :: es', e, h, he => by
    obtain ⟨h1, ⟨c, h2, h3⟩, _⟩ := EntR.cons.1 h
    simp at he; subst he
    exact ⟨c, by simp [← h1, ← h2], h3⟩
  | j, i + 1, e0 :: es, x :: es', e, h, he => by
    obtain ⟨_, _, h3⟩ := EntR.cons.1 h
    obtain ⟨c, g1, g2⟩ := EntR.at h3 (by simpa using he)
    exact ⟨c, by simpa using g1, by rw [show j + (i + 1) = j + 1 + i by omega]; exact g2⟩
theorem EntR.mono {Z Z' : Nat → Prop} {H H' : Hp} {β β' : Beta} {kb kb' : Nat} : ∀ {j : Nat} {es es1 : List (Int × ME)} {es' : List (V × V)}, EntR Z H β kb j es es' → es1.length = es.length → (∀ (i : Nat) (e e1 : Int × ME), es[i]? = some e → es1[i]? = some e1 → e1.1 = e.1 ∧ ∀ c, RD Z H β (e.2.val kb (j + i)) c → RD Z' H' β' (e1.2.val kb' (j + i)) c) → EntR Z' H' β' kb' j es1 es'
  | j, [], [], [], _, _, _ => trivial
  | j, e :: es, e1 :: es1, x :: es', h, hl, hm => by
    obtain ⟨h1, ⟨c, h2, h3⟩, h4⟩ := EntR.cons.1 h
    obtain ⟨g1, g2⟩ := hm 0 e e1 rfl rfl
    refine EntR.cons.2 ⟨by rw [h1, g1], ⟨c, h2, g2 c h3⟩, EntR.mono h4 (by simpa using hl) fun i a b ha hb => ?_⟩
    have := hm (i + 1) a b (by simpa using ha) (by simpa using hb)
    rw [show j + 1 + i = j + (i + 1) by omega]
    exact this
  | j, [], _ :: _, _, _, hl, _ => by simp at hl
  | j, _ :: _, [], _, _, hl, _ => by simp at hl
  | j, [], [], _ :: _, h, _, _ => h.elim
  | j, (y, .row r) :: es, _ :: _, [], h, _, _ => h.elim
  | j, (y, .out d) :: es, _ :: _, [], h, _, _ => h.elim
theorem EntR.find {Z : Nat → Prop} {H : Hp} {β : Beta} {kb : Nat} {y : Int} : ∀ {j n : Nat} {es : List (Int × ME)} {es' : List (V × V)} {i : Nat} {e : Int × ME}, EntR Z H β kb j es es' → es[i]? = some e → e.1 = y → (∀ (j : Nat) (e : Int × ME), j < i → es[j]? = some e → e.1 ≠ y) → ∃ v, mfind (.one (.int .i64 y)) es' n = some (some (n + i, v)) ∧ es'[i]? = some (.one (.int .i64 y), v)
  | j, n, [], _, i, e, _, h, _, _ => by simp at h
  | j, n, (y', .row r) :: es, [], i, e, h, _, _, _ => h.elim
  | j, n, (y', .out d) :: es, [], i, e, h, _, _, _ => h.elim
  | j, n, e0 :: es, x :: es', i, e, h, he, hy, hf => by
    obtain ⟨h1, ⟨c, h2, h3⟩, h4⟩ := EntR.cons.1 h
    obtain ⟨k, v⟩ := x
    simp only at h1 h2
    subst h1 h2
    cases i with
    | zero =>
      simp at he; subst he
      refine ⟨.one c, ?_, by simp [hy]⟩
      simp [mfind, keyEq, hy]
    | succ i =>
      have hne := hf 0 e0 (by omega) rfl
      obtain ⟨v, g1, g2⟩ := EntR.find (n := n + 1) h4 (by simpa using he) hy (fun j' e' hj' he' => hf (j' + 1) e' (by omega) (by simpa using he'))
      refine ⟨v, ?_, by simpa using g2⟩
      have : (y == e0.1) = false := by simpa using fun h => hne h.symm
      simp only [mfind, keyEq, if_true, this]
      rw [g1, show n + 1 + i = n + (i + 1) by omega]
theorem EntR.none {Z : Nat → Prop} {H : Hp} {β : Beta} {kb : Nat} {y : Int} : ∀ {j n : Nat} {es : List (Int × ME)} {es' : List (V × V)}, EntR Z H β kb j es es' → (∀ e ∈ es, e.1 ≠ y) → mfind (.one (.int .i64 y)) es' n = some none
  | j, n, [], [], _, _ => rfl
  | j, n, [], _ :: _, h, _ => h.elim
  | j, n, (y', .row r) :: es, [], h, _ => h.elim
  | j, n, (y', .out d) :: es, [], h, _ => h.elim
  | j, n, e0 :: es, x :: es', h, hf => by
    obtain ⟨h1, ⟨c, h2, h3⟩, h4⟩ := EntR.cons.1 h
    obtain ⟨k, v⟩ := x
    simp only at h1 h2
    subst h1 h2
    have : (y == e0.1) = false := by simpa using fun h => hf e0 (by simp) h.symm
    simp only [mfind, keyEq, if_true, this]
    exact EntR.none h4 fun e he => hf e (by simp [he])
end Go.Ab

/- Maps of rows: the rules. -/
namespace Go.Ab

section
variable {p : Par} {base rs : Nat} {Q : DEnv → Bx → Nat → Prop} {r : List SOper} {W : Wt} {A : List Nat} {E : DEnv} {S : Bx} {nk : Nat} {id : Nat} {dst : Option Nat} {aid : Option Nat} {ws : List Nat} {keep : Bool}

theorem SR.congr2 {S' : Bx} {Z : Nat → Prop} {β : Beta} {H : Hp} (h : SR p Z β H S nk) (h2 : ∀ κ x, lk2 S' κ = some x → lk2 S κ = some x) (h1 : ∀ k x, lk S' k = some x → ∃ y, lk S k = some y) : SR p Z β H S' nk :=
  ⟨h.wf, h.lo, h.z, h.zlo, h.zz, h.glob, h.nk, h.bd, fun κ x hk => h.box κ x (h2 κ x hk), fun κ κ' x x' b N N' hk hk' => by
    obtain ⟨y, hy⟩ := h1 _ _ hk
    obtain ⟨y', hy'⟩ := h1 _ _ hk'
    exact h.inj κ κ' y y' b N N' hy hy', h.blo, h.anch, h.ancn⟩
theorem conv_mt0 {k : Nat} {Z : Nat → Prop} {β : Beta} {H : Hp} (h : SR p Z β H ((k, .mp (.m 0) []) :: S) nk) : SR p Z β H ((k, .mt []) :: S) nk := by
  refine h.congr2 (fun κ x hk => ?_) fun j x hj => ?_
  · obtain ⟨j, i⟩ := κ
    by_cases e : k = j
    · subst e
      cases i with
      | zero => simp only [lk2, lk_cons, if_true] at hk ⊢; exact hk
      | succ i => simp only [lk2, lk_cons, if_true] at hk; simp [mtRow] at hk
    · rw [← hk]
      exact lk2_congr (by rw [lk_cons, lk_cons, if_neg e, if_neg e])
  · rw [lk_cons] at hj ⊢
    split at hj
    · rename_i e; rw [if_pos e]; exact ⟨_, rfl⟩
    · rename_i e; rw [if_neg e]; exact ⟨x, hj⟩
theorem dw_mkmap (h : DPW p base rs Q r W A (setD E dst (.one (.om nk))) ((nk, .mt []) :: S) (nk + 1)) : DPW p base rs Q (⟨id, dst, .a .mkmap, none, none, ws, keep⟩ :: r) W A E S nk := .mk fun Z β H F c hS hE hC hA => by
  simp only [wOps, wantedA, if_true, aAlloc]
  have hfr : H.get H.nx = none := hS.wf.fresh (Nat.le_refl _)
  have hg : ∀ b', b' ≠ H.nx → (H.push (.mp [])).get b' = H.get b' := fun b' hb' => by rw [Hp.get_push, if_neg hb']
  have hz : ¬ Z H.nx := fun hz => absurd (hS.z _ hz) (by omega)
  obtain ⟨hS', hZ, hB⟩ := hS.newB (x := .mp (.m 0) []) (b := H.nx) (N0 := 0) (H' := H.push (.mp [])) rfl (fun β' hB hZ => ⟨hz, hS.lo, by simp, [], [], ⟨[], by rw [Hp.get_push, if_pos rfl], by simp, rfl⟩, rfl, trivial⟩) hz (fun k N hk => absurd (hS.bd k _ N hk) (by omega)) hS.lo (by simp) (by simp) (hS.wf.push _) hg
  exact h.run Z _ _ _ c (conv_mt0 hS') ((hE.mono hZ hB).set dst ⟨_, rfl, _, _, updB_self _ _ _, rfl⟩) (hC.new hZ hB hg hfr) (hA.new (by simp) hg fun j hj hjA e => by have := (hA.2 j hj hjA).1; omega)

/-- what is in the block of a map of rows -/
theorem SR.mtb {Z : Nat → Prop} {β : Beta} {H : Hp} (hS : SR p Z β H S nk) {kb : Nat} {es : List (Int × ME)} (hb : lk S kb = some (.mt es)) {c : C} (hr : RD Z H β (.om kb) c) : ∃ b N es', c = .map b ∧ β (kb, 0) = some (.blk b N) ∧ ¬ Z b ∧ p.lo ≤ b ∧ b < H.nx ∧ H.get b = some (.mp es') ∧ EntR Z H β kb 0 es es' := by
  obtain ⟨b, N, h1, rfl⟩ := hr
  obtain ⟨s, hs, hbx⟩ := hS.box (kb, 0) (.mp (.m 0) (mtV kb 0 es)) (by simp only [lk2, hb])
  rw [h1] at hs
  obtain rfl := Option.some.inj hs
  obtain ⟨g1, g2, g3, cs, rest, ⟨es', g4, g5, g6⟩, g8, g7⟩ := hbx
  have g8 : rest = [] := g8
  subst g8
  rw [List.append_nil] at g6
  exact ⟨b, N, es', rfl, h1, g1, g2, g3, g4, ent_of g5 (by rw [g6]; exact g7)⟩
theorem dw_mlook0 {z : C} {m k : Opd} {kb : Nat} {y : Int} {es : List (Int × ME)} (hm : ro E m = some (.one (.om kb))) (hk : ro E k = some (.one (.f (.c (.int .i64 y))))) (hb : lk S kb = some (.mt es)) (hn : ∀ e ∈ es, e.1 ≠ y) (hz : z.closed = true)
    (h : DPW p base rs Q r W A (setD E dst (.one (.f (.c z)))) S nk) : DPW p base rs Q (⟨id, dst, .l (.lookup (.one z) false m k), none, aid, ws, false⟩ :: r) W A E S nk := .mk fun Z β H F c hS hE hC hA => by
  obtain ⟨cm, hcm, hrm⟩ := ro_ok hE hm
  obtain ⟨b, N, es', rfl, h1, h2, h3, h4, h5, h6⟩ := hS.mtb hb hrm
  simp only [wOps, wantedA, if_true, aLoad, hcm, int_of hE hk, isIntKey, h5, h6.none hn, okRes, Bool.false_eq_true, if_false]
  exact h.run Z β H _ c hS (hE.set dst (exact_ok hz)) hC hA

/-- the row of a key gets a name of its own -/
def outB (β : Beta) (nk kb i : Nat) : Beta := fun κ => if κ = (nk, 0) then β (kb, i + 1) else if κ = (kb, i + 1) then none else β κ
theorem wOk0_ne {kb : Nat} (h : wOk0 S kb W = true) : ∀ y ∈ W, ∀ (j : Key) o n, y.2 = some (j, o, n) → j.1 ≠ kb := fun y hy j o n e => (wOk0_mem h y hy j o n e).2
theorem CR.monoK {Z : Nat → Prop} {β β' : Beta} {H : Hp} {c : Ctx} {kb : Nat} (h : CR W Z β H c) (hw : ∀ y ∈ W, ∀ (j : Key) o n, y.2 = some (j, o, n) → j.1 ≠ kb) (hb : BLeK kb β β') : CR W Z β' H c := fun x hx => by
  obtain ⟨y, hy, hq⟩ := h x hx
  refine ⟨y, hy, ?_⟩
  obtain ⟨y1, y2⟩ := y
  match y2, hq, hy with
  | none, hq, _ => exact hq
  | some (k, o, n), ⟨b, N, h1, h2⟩, hy => exact ⟨b, N, hb _ _ (.inl (hw _ hy k o n rfl)) h1, h2⟩
theorem AR.monoK {Z : Nat → Prop} {β β' : Beta} {H : Hp} (h : AR p base rs A Z β H) (hb : ∀ κ b N, β' κ = some (.blk b N) → ∃ κ' N', β κ' = some (.blk b N')) : AR p base rs A Z β' H := ⟨h.1, fun j hj hjA => by
  obtain ⟨h1, h2, h3, h4⟩ := h.2 j hj hjA
  refine ⟨h1, h2, h3, fun k N hk => ?_⟩
  obtain ⟨κ', N', hk'⟩ := hb k _ N hk
  exact h4 κ' N' hk'⟩
theorem set_at {α : Type} {l : List α} {i j : Nat} {x e : α} (h : (l.set i x)[j]? = some e) : (j = i ∧ e = x) ∨ (j ≠ i ∧ l[j]? = some e) := by
  rw [List.getElem?_set] at h
  split at h
  · rename_i e'
    split at h
    · exact .inl ⟨e'.symm, (Option.some.inj h).symm⟩
    · cases h
  · rename_i e'; exact .inr ⟨fun h => e' h.symm, h⟩
theorem noKM_at {kb : Nat} : ∀ {es : List (Int × ME)} {i : Nat} {y : Int} {d : DC}, noKM kb es = true → es[i]? = some (y, .out d) → noKC kb d = true
  | [], _, _, _, _, h => by simp at h
  | (_, .row _) :: es, 0, _, _, _, h => by simp at h
  | (_, .row _) :: es, i + 1, _, _, hk, h => noKM_at (es := es) hk (by simpa using h)
  | (_, .out c) :: es, i, _, _, hk, h => by
    simp only [noKM] at hk
    split at hk
    · rename_i hc
      cases i with
      | zero => simp at h; rw [← h.2]; exact hc
      | succ i => exact noKM_at (es := es) hk (by simpa using h)
    · cases hk
theorem lk2_mt_put {S : Bx} {kb : Nat} {es es1 : List (Int × ME)} (hb : lk S kb = some (.mt es)) (κ : Key) : lk2 (put kb (.mt es1) S) κ = if κ.1 = kb then (match κ.2 with | 0 => some (.mp (.m 0) (mtV kb 0 es1)) | i + 1 => mtRow es1[i]?) else lk2 S κ := by
  obtain ⟨k, i⟩ := κ
  by_cases e : k = kb
  · subst e
    rw [if_pos rfl]
    have hl : lk (put k (.mt es1) S) k = some (.mt es1) := by rw [lk_put, if_pos rfl, hb]; rfl
    cases i with
    | zero => simp only [lk2, hl]
    | succ i => simp only [lk2, hl]
  · rw [if_neg e]
    exact lk2_congr (by rw [lk_put, if_neg e])
theorem SR.detach {Z : Nat → Prop} {β : Beta} {H : Hp} (hS : SR p Z β H S nk) {kb i : Nat} {y : Int} {es : List (Int × ME)} {q : List FD} (hb : lk S kb = some (.mt es)) (hi : es[i]? = some (y, .row q)) (hKS : noKS kb S = true) (hKM : noKM kb es = true) :
    SR p Z (outB β nk kb i) H ((nk, .data q) :: put kb (.mt (es.set i (y, .out (.own nk 0 q.length 1)))) S) (nk + 1) ∧ BLeK kb β (outB β nk kb i) ∧ (∀ κ b N, outB β nk kb i κ = some (.blk b N) → ∃ κ' N', β κ' = some (.blk b N')) := by
  have hkn := hS.lt hb
  have hrow : lk2 S (kb, i + 1) = some (.data q) := by simp only [lk2, hb, hi, mtRow]
  have hself : outB β nk kb i (nk, 0) = β (kb, i + 1) := by simp [outB]
  have hgone : outB β nk kb i (kb, i + 1) = none := by simp [outB]
  have hoth : ∀ κ, κ ≠ (nk, 0) → κ ≠ (kb, i + 1) → outB β nk kb i κ = β κ := fun κ h1 h2 => by simp [outB, h1, h2]
  have hB : BLeK kb β (outB β nk kb i) := fun κ s hne hκ => by
    rw [hoth κ (fun e => by have := hS.lt1 hκ; rw [e] at this; simp only at this; omega) (fun e => by rw [e] at hne; simp at hne)]
    exact hκ
  have himg : ∀ κ b N, outB β nk kb i κ = some (.blk b N) → ∃ κ', β κ' = some (.blk b N) ∧ ((κ = (nk, 0) ∧ κ' = (kb, i + 1)) ∨ (κ ≠ (nk, 0) ∧ κ ≠ (kb, i + 1) ∧ κ' = κ)) := fun κ b N h => by
    by_cases e1 : κ = (nk, 0)
    · subst e1; rw [hself] at h; exact ⟨_, h, .inl ⟨rfl, rfl⟩⟩
    · by_cases e2 : κ = (kb, i + 1)
      · subst e2; rw [hgone] at h; cases h
      · rw [hoth κ e1 e2] at h; exact ⟨κ, h, .inr ⟨e1, e2, rfl⟩⟩
  refine ⟨⟨hS.wf, hS.lo, hS.z, hS.zlo, hS.zz, hS.glob, fun κ hκ => ?_, fun κ b N hκ => ?_, fun κ x hκ => ?_, fun κ κ' x x' b N N' hj hj' h1 h2 => ?_, fun κ b N hκ => ?_, fun κ hκ h0 => ?_, Nat.le_succ_of_le hS.ancn⟩, hB, fun κ b N h => by obtain ⟨κ', h', _⟩ := himg κ b N h; exact ⟨κ', N, h'⟩⟩
  · rw [hoth κ (fun e => by rw [e] at hκ; simp only at hκ; omega) (fun e => by rw [e] at hκ; simp only at hκ; omega)]
    exact hS.nk κ (by omega)
  · obtain ⟨κ', h', _⟩ := himg κ b N hκ
    exact hS.bd κ' b N h'
  · rw [lk2_cons rfl] at hκ
    split at hκ
    · rename_i e1
      split at hκ
      · rename_i e2
        obtain rfl := key_eq e1 e2
        obtain rfl := Option.some.inj hκ
        obtain ⟨s, hs, hbx⟩ := hS.box _ _ hrow
        refine ⟨s, by rw [hself]; exact hs, ?_⟩
        exact BoxR.monoK hB rfl hbx
      · cases hκ
    · rename_i e1
      rw [lk2_mt_put hb] at hκ
      split at hκ
      · rename_i e2
        obtain ⟨k, j⟩ := κ
        simp only at e2
        subst e2
        cases j with
        | zero =>
          simp only at hκ
          obtain rfl := Option.some.inj hκ
          obtain ⟨s, hs, hbx⟩ := hS.box (k, 0) (.mp (.m 0) (mtV k 0 es)) (by simp only [lk2, hb])
          refine ⟨s, hB _ _ (.inr rfl) hs, ?_⟩
          cases s with
          | nil =>
            have : es = [] := by
              cases es with
              | nil => rfl
              | cons e es => obtain ⟨y', e⟩ := e; cases e <;> cases hbx
            subst this; simp at hi
          | blk b N =>
            obtain ⟨g1, g2, g3, cs, rest, ⟨es', g4, g5, g6⟩, g8, g7⟩ := hbx
            have g8 : rest = [] := g8
            subst g8
            rw [List.append_nil] at g6
            have hent := ent_of (kb := k) (i := 0) g5 (by rw [g6]; exact g7)
            have hent' : EntR Z H (outB β nk k i) k 0 (es.set i (y, .out (.own nk 0 q.length 1))) es' := hent.mono (by simp) fun j e e1 he he1 => by
              rw [Nat.zero_add]
              rcases set_at he1 with ⟨rfl, rfl⟩ | ⟨hne, he1⟩
              · rw [hi] at he
                obtain rfl := Option.some.inj he
                refine ⟨rfl, fun c hc => ?_⟩
                rcases hc with ⟨h1, h2⟩ | ⟨b', N', cap, ex, h1, h2⟩
                · exact .inl ⟨by rw [hself]; exact h1, h2⟩
                · exact .inr ⟨b', N', cap, ex, by rw [hself]; exact h1, h2⟩
              · rw [he] at he1
                obtain rfl := Option.some.inj he1
                refine ⟨rfl, fun c hc => ?_⟩
                obtain ⟨y', e⟩ := e
                cases e with
                | out d => exact RD.monoK hB (noKM_at hKM he) hc
                | row r =>
                  have hk1 : outB β nk k i (k, j + 1) = β (k, j + 1) := hoth _ (fun e => by have := (Prod.mk.inj e).1; omega) (fun e => by have := (Prod.mk.inj e).2; omega)
                  rcases hc with ⟨h1, h2⟩ | ⟨b', N', cap, ex, h1, h2⟩
                  · exact .inl ⟨hk1.trans h1, h2⟩
                  · exact .inr ⟨b', N', cap, ex, hk1.trans h1, h2⟩
            obtain ⟨t1, t2⟩ := ent_to hent'
            exact ⟨g1, g2, g3, MF es', [], ⟨es', g4, t1, by simp⟩, rfl, t2⟩
        | succ j =>
          simp only at hκ
          obtain ⟨y', r', h1, rfl⟩ := mtRow_at hκ
          rcases set_at h1 with ⟨rfl, h2⟩ | ⟨hne, h2⟩
          · cases h2
          · obtain ⟨s, hs, hbx⟩ := hS.box (k, j + 1) (.data r') (by simp only [lk2, hb, h2, mtRow])
            exact ⟨s, by rw [hoth _ (fun e => by have := (Prod.mk.inj e).1; omega) (fun e => by have := (Prod.mk.inj e).2; omega)]; exact hs, BoxR.monoK hB rfl hbx⟩
      · rename_i e2
        obtain ⟨s, hs, hbx⟩ := hS.box κ x hκ
        exact ⟨s, hB _ _ (.inl e2) hs, BoxR.monoK hB (lk2_noK hKS hκ e2) hbx⟩
  · have live : ∀ (κ : Key) w, lk ((nk, .data q) :: put kb (.mt (es.set i (y, .out (.own nk 0 q.length 1)))) S) κ.1 = some w → κ.1 ≠ nk → ∃ w', lk S κ.1 = some w' := fun κ w hw hne => by
      rw [lk_cons, if_neg (fun h => hne h.symm), lk_put] at hw
      split at hw
      · cases hl : lk S κ.1 with
        | none => rw [hl] at hw; cases hw
        | some w' => exact ⟨w', rfl⟩
      · exact ⟨w, hw⟩
    obtain ⟨κ1, b1, c1⟩ := himg κ b N h1
    obtain ⟨κ2, b2, c2⟩ := himg κ' b N' h2
    have l1 : ∃ w, lk S κ1.1 = some w := by
      rcases c1 with ⟨_, rfl⟩ | ⟨e1, _, rfl⟩
      · exact ⟨_, hb⟩
      · exact live κ1 x hj (fun e => by have := hS.lt1 b1; omega)
    have l2 : ∃ w, lk S κ2.1 = some w := by
      rcases c2 with ⟨_, rfl⟩ | ⟨e1, _, rfl⟩
      · exact ⟨_, hb⟩
      · exact live κ2 x' hj' (fun e => by have := hS.lt1 b2; omega)
    obtain ⟨w1, l1⟩ := l1
    obtain ⟨w2, l2⟩ := l2
    have := hS.inj κ1 κ2 w1 w2 b N N' l1 l2 b1 b2
    rcases c1 with ⟨r1, r2⟩ | ⟨r1, r2, r3⟩
    · rcases c2 with ⟨s1, s2⟩ | ⟨s1, s2, s3⟩
      · rw [r1, s1]
      · exact absurd (by rw [← s3, ← this, r2]) s2
    · rcases c2 with ⟨s1, s2⟩ | ⟨s1, s2, s3⟩
      · exact absurd (by rw [← r3, this, s2]) r2
      · rw [← r3, this, s3]
  · obtain ⟨κ', h', _⟩ := himg κ b N hκ
    exact hS.blo κ' b N h'
  · have := hS.ancn
    rw [hoth κ (fun e => by rw [e] at hκ; simp only at hκ; omega) (fun e => by rw [e] at h0; cases h0)]
    exact hS.anch κ hκ h0
end
end Go.Ab

/- Maps of rows: looked up, put back, written. -/
namespace Go.Ab
section
variable {p : Par} {base rs n : Nat} {Q : DEnv → Bx → Nat → Prop} {r : List SOper} {W : Wt} {A : List Nat} {E : DEnv} {S : Bx} {nk : Nat} {id : Nat} {dst : Option Nat} {aid : Option Nat} {ws : List Nat} {keep : Bool}

theorem dw_mlook {z : V} {m k : Opd} {kb i : Nat} {y : Int} {es : List (Int × ME)} {q : List FD} (hm : ro E m = some (.one (.om kb))) (hk : ro E k = some (.one (.f (.c (.int .i64 y))))) (hb : lk S kb = some (.mt es)) (hi : es[i]? = some (y, .row q)) (hf : ∀ (j : Nat) (e : Int × ME), j < i → es[j]? = some e → e.1 ≠ y) (hKS : noKS kb S = true) (hKM : noKM kb es = true) (hKE : noKE kb E = true) (hW : wOk0 S kb W = true)
    (h : DPW p base rs Q r W A (setD E dst (.one (.own nk 0 q.length 1))) ((nk, .data q) :: put kb (.mt (es.set i (y, .out (.own nk 0 q.length 1)))) S) (nk + 1)) : DPW p base rs Q (⟨id, dst, .l (.lookup z false m k), none, aid, ws, false⟩ :: r) W A E S nk := .mk fun Z β H F c hS hE hC hA => by
  obtain ⟨cm, hcm, hrm⟩ := ro_ok hE hm
  obtain ⟨b, N, es', rfl, h1, h2, h3, h4, h5, h6⟩ := hS.mtb hb hrm
  obtain ⟨v, g1, g2⟩ := h6.find (n := 0) hi rfl hf
  obtain ⟨cv, g3, g4⟩ := h6.at hi
  rw [g2] at g3
  obtain ⟨_, rfl⟩ := Prod.mk.inj (Option.some.inj g3)
  obtain ⟨hS', hB, himg⟩ := hS.detach hb hi hKS hKM
  simp only [wOps, wantedA, if_true, aLoad, hcm, int_of hE hk, isIntKey, h5, g1, okRes, Bool.false_eq_true, if_false]
  refine h.run Z _ H _ c hS' ((hE.monoK hB hKE).set dst ⟨_, rfl, ?_⟩) (hC.monoK (wOk0_ne hW) hB) (hA.monoK himg)
  have hself : outB β nk kb i (nk, 0) = β (kb, i + 1) := by simp [outB]
  rw [Nat.zero_add] at g4
  rcases g4 with ⟨e1, e2⟩ | ⟨b', N', cap, ex, e1, e2⟩
  · exact .inl ⟨by rw [hself]; exact e1, e2⟩
  · exact .inr ⟨b', N', cap, ex, by rw [hself]; exact e1, e2⟩

/-- a row with a name of its own is the map's again -/
def inB (β : Beta) (kd kb i : Nat) : Beta := fun κ => if κ = (kb, i + 1) then β (kd, 0) else β κ
theorem SR.attach {Z : Nat → Prop} {β : Beta} {H : Hp} (hS : SR p Z β H S nk) {kb kd i : Nat} {y : Int} {es : List (Int × ME)} {q : List FD} (hb : lk S kb = some (.mt es)) (hd : lk S kd = some (.data q)) (hi : es[i]? = some (y, .out (.own kd 0 q.length 1))) (hKS : noKS kb S = true) (hKM : noKM kb es = true) :
    SR p Z (inB β kd kb i) H (era kd (put kb (.mt (es.set i (y, .row q))) S)) nk ∧ BLeK kb β (inB β kd kb i) ∧ (∀ κ b N, inB β kd kb i κ = some (.blk b N) → ∃ κ' N', β κ' = some (.blk b N')) := by
  have hkn := hS.lt hb
  have hdn := hS.lt hd
  have hne : kd ≠ kb := fun e => by rw [e, hb] at hd; cases hd
  have hself : inB β kd kb i (kb, i + 1) = β (kd, 0) := by simp [inB]
  have hoth : ∀ κ, κ ≠ (kb, i + 1) → inB β kd kb i κ = β κ := fun κ h => by simp [inB, h]
  have hB : BLeK kb β (inB β kd kb i) := fun κ s hn hκ => by
    rw [hoth κ (fun e => by rw [e] at hn; simp at hn)]
    exact hκ
  have himg : ∀ κ b N, inB β kd kb i κ = some (.blk b N) → ∃ κ', β κ' = some (.blk b N) ∧ ((κ = (kb, i + 1) ∧ κ' = (kd, 0)) ∨ (κ ≠ (kb, i + 1) ∧ κ' = κ)) := fun κ b N h => by
    by_cases e2 : κ = (kb, i + 1)
    · subst e2; rw [hself] at h; exact ⟨_, h, .inl ⟨rfl, rfl⟩⟩
    · rw [hoth κ e2] at h; exact ⟨κ, h, .inr ⟨e2, rfl⟩⟩
  refine ⟨⟨hS.wf, hS.lo, hS.z, hS.zlo, hS.zz, hS.glob, fun κ hκ => ?_, fun κ b N hκ => ?_, fun κ x hκ => ?_, fun κ κ' x x' b N N' hj hj' h1 h2 => ?_, fun κ b N hκ => ?_, fun κ hκ h0 => ?_, hS.ancn⟩, hB, fun κ b N h => by obtain ⟨κ', h', _⟩ := himg κ b N h; exact ⟨κ', N, h'⟩⟩
  · rw [hoth κ (fun e => by rw [e] at hκ; simp only at hκ; omega)]
    exact hS.nk κ hκ
  · obtain ⟨κ', h', _⟩ := himg κ b N hκ
    exact hS.bd κ' b N h'
  · rw [lk2_era] at hκ
    split at hκ
    · cases hκ
    · rename_i e1
      rw [lk2_mt_put hb] at hκ
      split at hκ
      · rename_i e2
        obtain ⟨k, j⟩ := κ
        simp only at e2
        subst e2
        cases j with
        | zero =>
          simp only at hκ
          obtain rfl := Option.some.inj hκ
          obtain ⟨s, hs, hbx⟩ := hS.box (k, 0) (.mp (.m 0) (mtV k 0 es)) (by simp only [lk2, hb])
          refine ⟨s, hB _ _ (.inr rfl) hs, ?_⟩
          cases s with
          | nil =>
            have : es = [] := by
              cases es with
              | nil => rfl
              | cons e es => obtain ⟨y', e⟩ := e; cases e <;> cases hbx
            subst this; simp at hi
          | blk b N =>
            obtain ⟨g1, g2, g3, cs, rest, ⟨es', g4, g5, g6⟩, g8, g7⟩ := hbx
            have g8 : rest = [] := g8
            subst g8
            rw [List.append_nil] at g6
            have hent := ent_of (kb := k) (i := 0) g5 (by rw [g6]; exact g7)
            have hent' : EntR Z H (inB β kd k i) k 0 (es.set i (y, .row q)) es' := hent.mono (by simp) fun j e e1 he he1 => by
              rw [Nat.zero_add]
              rcases set_at he1 with ⟨rfl, rfl⟩ | ⟨hne', he1⟩
              · rw [hi] at he
                obtain rfl := Option.some.inj he
                refine ⟨rfl, fun c hc => ?_⟩
                rcases hc with ⟨h1, h2⟩ | ⟨b', N', cap, ex, h1, h2⟩
                · exact .inl ⟨by rw [hself]; exact h1, h2⟩
                · exact .inr ⟨b', N', cap, ex, by rw [hself]; exact h1, h2⟩
              · rw [he] at he1
                obtain rfl := Option.some.inj he1
                refine ⟨rfl, fun c hc => ?_⟩
                obtain ⟨y', e⟩ := e
                cases e with
                | out d => exact RD.monoK hB (noKM_at hKM he) hc
                | row r =>
                  have hk1 : inB β kd k i (k, j + 1) = β (k, j + 1) := hoth _ (fun e => by have := (Prod.mk.inj e).2; omega)
                  rcases hc with ⟨h1, h2⟩ | ⟨b', N', cap, ex, h1, h2⟩
                  · exact .inl ⟨hk1.trans h1, h2⟩
                  · exact .inr ⟨b', N', cap, ex, hk1.trans h1, h2⟩
            obtain ⟨t1, t2⟩ := ent_to hent'
            exact ⟨g1, g2, g3, MF es', [], ⟨es', g4, t1, by simp⟩, rfl, t2⟩
        | succ j =>
          simp only at hκ
          obtain ⟨y', r', h1, rfl⟩ := mtRow_at hκ
          rcases set_at h1 with ⟨rfl, h2⟩ | ⟨hne', h2⟩
          · obtain ⟨_, h2⟩ := Prod.mk.inj h2
            obtain rfl := ME.row.inj h2
            obtain ⟨s, hs, hbx⟩ := hS.box (kd, 0) (.data r') (lk2_of hd rfl)
            exact ⟨s, by rw [hself]; exact hs, BoxR.monoK hB rfl hbx⟩
          · obtain ⟨s, hs, hbx⟩ := hS.box (k, j + 1) (.data r') (by simp only [lk2, hb, h2, mtRow])
            exact ⟨s, by rw [hoth _ (fun e => by have := (Prod.mk.inj e).2; omega)]; exact hs, BoxR.monoK hB rfl hbx⟩
      · rename_i e2
        obtain ⟨s, hs, hbx⟩ := hS.box κ x hκ
        exact ⟨s, hB _ _ (.inl e2) hs, BoxR.monoK hB (lk2_noK hKS hκ e2) hbx⟩
  · have live : ∀ (κ : Key) w, lk (era kd (put kb (.mt (es.set i (y, .row q))) S)) κ.1 = some w → κ.1 ≠ kd ∧ ∃ w', lk S κ.1 = some w' := fun κ w hw => by
      rw [lk_era] at hw
      split at hw
      · cases hw
      · rename_i e
        rw [lk_put] at hw
        split at hw
        · cases hl : lk S κ.1 with
          | none => rw [hl] at hw; cases hw
          | some w' => exact ⟨e, w', rfl⟩
        · exact ⟨e, w, hw⟩
    obtain ⟨κ1, b1, c1⟩ := himg κ b N h1
    obtain ⟨κ2, b2, c2⟩ := himg κ' b N' h2
    obtain ⟨n1, w1, l1⟩ := live κ x hj
    obtain ⟨n2, w2, l2⟩ := live κ' x' hj'
    have l1' : ∃ w, lk S κ1.1 = some w := by
      rcases c1 with ⟨_, rfl⟩ | ⟨_, rfl⟩
      · exact ⟨_, hd⟩
      · exact ⟨_, l1⟩
    have l2' : ∃ w, lk S κ2.1 = some w := by
      rcases c2 with ⟨_, rfl⟩ | ⟨_, rfl⟩
      · exact ⟨_, hd⟩
      · exact ⟨_, l2⟩
    obtain ⟨w1', l1'⟩ := l1'
    obtain ⟨w2', l2'⟩ := l2'
    have := hS.inj κ1 κ2 w1' w2' b N N' l1' l2' b1 b2
    rcases c1 with ⟨r1, r2⟩ | ⟨r1, r2⟩
    · rcases c2 with ⟨s1, s2⟩ | ⟨s1, s2⟩
      · rw [r1, s1]
      · exact absurd (by rw [← s2, ← this, r2]) n2
    · rcases c2 with ⟨s1, s2⟩ | ⟨s1, s2⟩
      · exact absurd (by rw [← r2, this, s2]) n1
      · rw [← r2, this, s2]
  · obtain ⟨κ', h', _⟩ := himg κ b N hκ
    exact hS.blo κ' b N h'
  · rw [hoth κ (fun e => by rw [e] at h0; cases h0)]
    exact hS.anch κ hκ h0
theorem ds_att {s : SC} {Q : Exit → DEnv → Bx → Nat → Prop} (kb kd i : Nat) {y : Int} {es : List (Int × ME)} {q : List FD} (hb : lk S kb = some (.mt es)) (hd : lk S kd = some (.data q)) (hi : es[i]? = some (y, .out (.own kd 0 q.length 1))) (hKS : noKS kb S = true) (hKM : noKM kb es = true) (hKE : noKE kb E = true)
    (h : DPS p n s Q E (era kd (put kb (.mt (es.set i (y, .row q))) S)) nk) : DPS p n s Q E S nk := .mk fun Z β H F hS hE => by
  obtain ⟨hS', hB, _⟩ := hS.attach hb hd hi hKS hKM
  exact h.run Z _ H F hS' (hE.monoK hB hKE)
theorem dw_att {l : List SOper} (kb kd i : Nat) {y : Int} {es : List (Int × ME)} {q : List FD} (hb : lk S kb = some (.mt es)) (hd : lk S kd = some (.data q)) (hi : es[i]? = some (y, .out (.own kd 0 q.length 1))) (hKS : noKS kb S = true) (hKM : noKM kb es = true) (hKE : noKE kb E = true) (hW : wOk0 S kb W = true)
    (h : DPW p base rs Q l W A E (era kd (put kb (.mt (es.set i (y, .row q))) S)) nk) : DPW p base rs Q l W A E S nk := .mk fun Z β H F c hS hE hC hA => by
  obtain ⟨hS', hB, himg⟩ := hS.attach hb hd hi hKS hKM
  exact h.run Z _ H F c hS' (hE.monoK hB hKE) (hC.monoK (wOk0_ne hW) hB) (hA.monoK himg)

/-- a map of rows is written -/
theorem SR.mtupd {Z : Nat → Prop} {β : Beta} {H : Hp} (hS : SR p Z β H S nk) {kb b N : Nat} {es es1 : List (Int × ME)} {es' : List (V × V)} (hb : lk S kb = some (.mt es)) (hs : β (kb, 0) = some (.blk b N)) (he : EntR Z H β kb 0 es1 es') (hrows : ∀ (i : Nat) (x : Bk), mtRow es1[i]? = some x → mtRow es[i]? = some x) :
    SR p Z β (H.add b (.mp es')) (put kb (.mt es1) S) nk ∧ ZLe Z H Z (H.add b (.mp es')) := by
  obtain ⟨s, hs', hbx⟩ := hS.box (kb, 0) (.mp (.m 0) (mtV kb 0 es)) (by simp only [lk2, hb])
  rw [hs] at hs'
  obtain rfl := Option.some.inj hs'
  obtain ⟨hz, hlo, hlt, _⟩ := hbx
  have hg : ∀ b', b' ≠ b → (H.add b (.mp es')).get b' = H.get b' := fun b' hb' => Hp.get_add_ne _ _ hb'
  have hzg : ∀ b', Z b' → (H.add b (.mp es')).get b' = H.get b' := fun b' hb' => hg b' fun e => hz (e ▸ hb')
  have hZ : ZLe Z H Z (H.add b (.mp es')) := ZLe.of_get (fun _ h => h) hzg
  refine ⟨⟨fun b' bk hb' => ?_, hS.lo, hS.z, hS.zlo, hS.zz, fun b' bk hb' => ?_, hS.nk, hS.bd, fun κ x hκ => ?_, fun κ κ' x x' b' M M' hj hj' => ?_, hS.blo, hS.anch, hS.ancn⟩, hZ⟩
  · rw [Hp.get_add] at hb'
    split at hb'
    · rename_i e; subst e; exact hlt
    · exact hS.wf b' bk hb'
  · obtain ⟨h1, h2⟩ := hS.glob b' bk hb'
    exact ⟨h1, by rw [hzg b' h1]; exact h2⟩
  · have old : ∀ (κ : Key) x, lk2 S κ = some x → κ ≠ (kb, 0) → ∃ s, β κ = some s ∧ BoxR p Z (H.add b (.mp es')) β x s := fun κ x hκ hne => by
      obtain ⟨s, hsj, hbj⟩ := hS.box κ x hκ
      obtain ⟨z, hz'⟩ := lk2_lk hκ
      refine ⟨s, hsj, BoxR.mono (H := H) (BLe.refl _) (Nat.le_refl _ : H.nx ≤ (H.add b (.mp es')).nx) (fun b' hb' => ?_) hbj⟩
      rcases hb' with hb' | ⟨M, rfl⟩
      · exact hzg b' hb'
      · exact hg b' fun e' => hne (hS.inj κ (kb, 0) z _ b M N hz' hb (e' ▸ hsj) hs)
    rw [lk2_mt_put hb] at hκ
    split at hκ
    · rename_i e
      obtain ⟨k, j⟩ := κ
      simp only at e
      subst e
      cases j with
      | zero =>
        simp only at hκ
        obtain rfl := Option.some.inj hκ
        obtain ⟨t1, t2⟩ := ent_to he
        exact ⟨_, hs, hz, hlo, hlt, MF es', [], ⟨es', by simp, t1, by simp⟩, rfl, All2.mono (fun _ _ => RD.mono hZ (BLe.refl _)) t2⟩
      | succ j =>
        simp only at hκ
        exact old (k, j + 1) x (by simp only [lk2, hb]; exact hrows j x hκ) (fun e => by cases (Prod.mk.inj e).2)
    · rename_i e
      exact old κ x hκ fun e' => e (by rw [e'])
  · have f : ∀ i z, lk (put kb (.mt es1) S) i = some z → ∃ z', lk S i = some z' := fun i z hz => by
      rw [lk_put] at hz
      split at hz
      · cases hl : lk S i with
        | none => rw [hl] at hz; cases hz
        | some q => exact ⟨q, rfl⟩
      · exact ⟨z, hz⟩
    obtain ⟨z1, e1⟩ := f _ x hj
    obtain ⟨z2, e2⟩ := f _ x' hj'
    exact hS.inj κ κ' z1 z2 b' M M' e1 e2
theorem EntR.set {Z : Nat → Prop} {H : Hp} {β : Beta} {kb : Nat} {d : DC} {cv : C} {y : Int} : ∀ {j i : Nat} {es : List (Int × ME)} {es' : List (V × V)} {e : ME}, EntR Z H β kb j es es' → es[i]? = some (y, e) → RD Z H β d cv → EntR Z H β kb j (es.set i (y, .out d)) (mset es' i (.one cv))
  | j, i, [], _, e, _, h, _ => by simp at h
  | j, i, (_, .row _) :: es, [], e, h, _, _ => h.elim
  | j, i, (_, .out _) :: es, [], e, h, _, _ => h.elim
  | j, 0, e0 :: es, x :: es', e, h, hi, hd => by
    obtain ⟨h1, _, h3⟩ := EntR.cons.1 h
    simp at hi; subst hi
    exact EntR.cons.2 ⟨h1, ⟨cv, rfl, hd⟩, h3⟩
  | j, i + 1, e0 :: es, x :: es', e, h, hi, hd => by
    obtain ⟨h1, h2, h3⟩ := EntR.cons.1 h
    have := EntR.set h3 (by simpa using hi) hd
    exact EntR.cons.2 ⟨h1, h2, this⟩
theorem EntR.push {Z : Nat → Prop} {H : Hp} {β : Beta} {kb : Nat} {d : DC} {cv : C} {y : Int} : ∀ {j : Nat} {es : List (Int × ME)} {es' : List (V × V)}, EntR Z H β kb j es es' → RD Z H β d cv → EntR Z H β kb j (es ++ [(y, .out d)]) (es' ++ [(.one (.int .i64 y), .one cv)])
  | j, [], [], _, hd => ⟨rfl, ⟨cv, rfl, hd⟩, trivial⟩
  | j, [], _ :: _, h, _ => h.elim
  | j, (_, .row _) :: es, [], h, _ => h.elim
  | j, (_, .out _) :: es, [], h, _ => h.elim
  | j, e0 :: es, x :: es', h, hd => by
    obtain ⟨h1, h2, h3⟩ := EntR.cons.1 h
    exact EntR.cons.2 ⟨h1, h2, EntR.push h3 hd⟩
theorem CR.mtupd {Z : Nat → Prop} {β : Beta} {H H' : Hp} {b kb N : Nat} {c : Ctx} {x : Bk} (hS : SR p Z β H S nk) (hk : lk S kb = some x) (hC : CR W Z β H c) (hZ : ZLe Z H Z H') (hg : ∀ b', b' ≠ b → H'.get b' = H.get b') (hb : β (kb, 0) = some (.blk b N)) (hw : wOk0 S kb W = true) : CR W Z β H' c := CR.upd (k := (kb, 0)) hS hk hC hZ hg hb hw
theorem dw_mupd {m k x : Opd} {kb i : Nat} {y : Int} {es : List (Int × ME)} {e : ME} {d : DC} (hm : ro E m = some (.one (.om kb))) (hk : ro E k = some (.one (.f (.c (.int .i64 y))))) (hx : ro E x = some (.one d)) (hb : lk S kb = some (.mt es)) (hi : es[i]? = some (y, e)) (hf : ∀ (j : Nat) (e : Int × ME), j < i → es[j]? = some e → e.1 ≠ y) (hW : wOk0 S kb W = true)
    (h : DPW p base rs Q r W A (setD E dst .undef) (put kb (.mt (es.set i (y, .out d))) S) nk) : DPW p base rs Q (⟨id, dst, .e (.mapupd m k x), none, aid, ws, keep⟩ :: r) W A E S nk := .mk fun Z β H F c hS hE hC hA => by
  obtain ⟨cm, hcm, hrm⟩ := ro_ok hE hm
  obtain ⟨cx, hcx, hrx⟩ := ro_ok hE hx
  obtain ⟨b, N, es', rfl, h1, h2, h3, h4, h5, h6⟩ := hS.mtb hb hrm
  obtain ⟨v, g1, g2⟩ := h6.find (n := 0) hi rfl hf
  obtain ⟨hS', hZ⟩ := hS.mtupd (es1 := es.set i (y, .out d)) hb h1 (h6.set hi hrx) (fun j z hz => by
    obtain ⟨y', r', t1, rfl⟩ := mtRow_at hz
    rcases set_at t1 with ⟨_, t2⟩ | ⟨_, t2⟩
    · cases t2
    · rw [t2]; rfl)
  simp only [wOps, wantedA, if_true, aEff, hcm, int_of hE hk, isIntKey, hcx, isOne, h5, g1, Bool.and_self, Nat.zero_add]
  have hg : ∀ b', b' ≠ b → (H.add b (.mp (mset es' i (.one cx)))).get b' = H.get b' := fun b' hb' => Hp.get_add_ne _ _ hb'
  have hC' := hC.mtupd hS hb hZ hg h1 hW
  exact ⟨hC'.watch ws, h.run Z β _ _ c hS' ((hE.mono hZ (BLe.refl _)).set dst undef_ok) hC' (hA.upd rfl hg h1)⟩
theorem dw_mupd0 {m k x : Opd} {kb : Nat} {y : Int} {es : List (Int × ME)} {d : DC} (hm : ro E m = some (.one (.om kb))) (hk : ro E k = some (.one (.f (.c (.int .i64 y))))) (hx : ro E x = some (.one d)) (hb : lk S kb = some (.mt es)) (hn : ∀ e ∈ es, e.1 ≠ y) (hW : wOk0 S kb W = true)
    (h : DPW p base rs Q r W A (setD E dst .undef) (put kb (.mt (es ++ [(y, .out d)])) S) nk) : DPW p base rs Q (⟨id, dst, .e (.mapupd m k x), none, aid, ws, keep⟩ :: r) W A E S nk := .mk fun Z β H F c hS hE hC hA => by
  obtain ⟨cm, hcm, hrm⟩ := ro_ok hE hm
  obtain ⟨cx, hcx, hrx⟩ := ro_ok hE hx
  obtain ⟨b, N, es', rfl, h1, h2, h3, h4, h5, h6⟩ := hS.mtb hb hrm
  obtain ⟨hS', hZ⟩ := hS.mtupd (es1 := es ++ [(y, .out d)]) hb h1 (h6.push hrx) (fun j z hz => by
    obtain ⟨y', r', t1, rfl⟩ := mtRow_at hz
    rw [List.getElem?_append] at t1
    split at t1
    · rw [t1]; rfl
    · rw [List.getElem?_singleton] at t1
      split at t1
      · cases t1
      · cases t1)
  simp only [wOps, wantedA, if_true, aEff, hcm, int_of hE hk, isIntKey, hcx, isOne, h5, h6.none hn, Bool.and_self]
  have hg : ∀ b', b' ≠ b → (H.add b (.mp (es' ++ [(.one (.int .i64 y), .one cx)]))).get b' = H.get b' := fun b' hb' => Hp.get_add_ne _ _ hb'
  have hC' := hC.mtupd hS hb hZ hg h1 hW
  exact ⟨hC'.watch ws, h.run Z β _ _ c hS' ((hE.mono hZ (BLe.refl _)).set dst undef_ok) hC' (hA.upd rfl hg h1)⟩
end
end Go.Ab

/- Calls that change boxes of their caller, beside watched loads. -/
namespace Go.Ab
/-- values that fix the cell -/
def exD : DC → Bool
  | .f (.c _) => true
  | .g _ _ => true
  | .ptr _ _ => true
  | .om _ => true
  | .yl _ => true
  | _ => false
def wSame (S S' : Bx) : Wt → Prop
  | [] => True
  | (_, none) :: W => wSame S S' W
  | (_, some ((k, i), o, n)) :: W => i = 0 ∧ (∃ l, lk S k = some (.cells l) ∧ lk S' k = some (.cells l) ∧ allB exD l = true ∧ Nat.ble (o + n) l.length = true) ∧ wSame S S' W
section
variable {Z Z' : Nat → Prop} {H H' : Hp} {β β' : Beta}
theorem exD_ok {d : DC} {c c' : C} (hd : exD d = true) (hb : BLe0 β β') (h : RD Z H β d c) (h' : RD Z' H' β' d c') : c' = c := by
  cases d with
  | f d => cases d with
    | c x => cases h; cases h'; rfl
    | sl => cases hd
  | g b o =>
    have h : c = .ptr b o := h
    have h' : c' = .ptr b o := h'
    rw [h, h']
  | ptr k o =>
    obtain ⟨b, N, h1, rfl⟩ := h
    obtain ⟨b', N', h2, rfl⟩ := h'
    rw [hb _ _ h1] at h2
    rw [(Slot.blk.inj (Option.some.inj h2)).1]
  | om k =>
    obtain ⟨b, N, h1, rfl⟩ := h
    obtain ⟨b', N', h2, rfl⟩ := h'
    rw [hb _ _ h1] at h2
    rw [(Slot.blk.inj (Option.some.inj h2)).1]
  | yl k =>
    obtain ⟨b, N, h1, rfl⟩ := h
    obtain ⟨b', N', h2, rfl⟩ := h'
    rw [hb _ _ h1] at h2
    rw [(Slot.blk.inj (Option.some.inj h2)).1]
  | _ => cases hd
theorem exDL_ok (hb : BLe0 β β') : ∀ {l : List DC} {cs cs' : List C}, allB exD l = true → All2 (RD Z H β) l cs → All2 (RD Z' H' β') l cs' → cs' = cs
  | [], [], [], _, _, _ => rfl
  | d :: l, c :: cs, c' :: cs', ha, h, h' => by
    have h1 := allB_mem ha d (by simp)
    have h2 : allB exD l = true := by simp only [allB, h1] at ha; exact ha
    rw [exD_ok h1 hb h.1 h'.1, exDL_ok hb h2 h.2 h'.2]
  | [], [], _ :: _, _, _, h => h.elim
  | [], _ :: _, _, _, h, _ => h.elim
  | _ :: _, [], _, _, h, _ => h.elim
  | _ :: _, _ :: _, [], _, _, h => h.elim
end
section
variable {p : Par} {base rs : Nat} {Q : DEnv → Bx → Nat → Prop} {r : List SOper} {W : Wt} {A : List Nat} {E : DEnv} {S : Bx} {nk : Nat} {id : Nat} {dst : Option Nat} {aid : Option Nat} {ws : List Nat} {keep : Bool}
theorem wSame_mem {S S' : Bx} : ∀ {W : Wt}, wSame S S' W → ∀ y ∈ W, y.2 = none ∨ ∃ k o n l, y.2 = some ((k, 0), o, n) ∧ lk S k = some (.cells l) ∧ lk S' k = some (.cells l) ∧ allB exD l = true ∧ o + n ≤ l.length
  | [], _, y, hy => by cases hy
  | (_, none) :: W, h, y, hy => by
    rcases List.mem_cons.1 hy with rfl | hy
    · exact .inl rfl
    · exact wSame_mem (W := W) h y hy
  | (_, some ((k, i), o, n)) :: W, ⟨h0, ⟨l, h1, h2, h3, h4⟩, h5⟩, y, hy => by
    rcases List.mem_cons.1 hy with rfl | hy
    · subst h0
      exact .inr ⟨k, o, n, l, rfl, h1, h2, h3, Nat.le_of_ble_eq_true h4⟩
    · exact wSame_mem (W := W) h5 y hy
theorem CR.wsame {S' : Bx} {nk' : Nat} {Z Z' : Nat → Prop} {β β' : Beta} {H H' : Hp} {c : Ctx} (h : CR W Z β H c) (hS : SR p Z β H S nk) (hS' : SR p Z' β' H' S' nk') (hZ : ZLe Z H Z' H') (hB : BLe0 β β') (hW : wSame S S' W) : CR W Z' β' H' c := fun x hx => by
  obtain ⟨y, hy, hw⟩ := h x hx
  refine ⟨y, hy, ?_⟩
  rcases wSame_mem hW y hy with e | ⟨k, o, n, l, e, h1, h2, h3, h4⟩
  · obtain ⟨y1, y2⟩ := y
    simp only at e
    subst e
    obtain ⟨b, hb, hq⟩ := hw
    exact ⟨b, (hZ b hb).1, fun H'' hh => hq H'' fun i c hc => hh i c ((hZ b hb).2 i c hc)⟩
  · obtain ⟨y1, y2⟩ := y
    simp only at e
    subst e
    obtain ⟨b, N, hb, hq⟩ := hw
    refine ⟨b, N, hB _ _ hb, fun H'' hh => hq H'' fun i c g1 g2 hc => hh i c g1 g2 ?_⟩
    obtain ⟨s, hs, hbx⟩ := hS.box (k, 0) _ (lk2_of h1 rfl)
    obtain ⟨s', hs', hbx'⟩ := hS'.box (k, 0) _ (lk2_of h2 rfl)
    rw [hb] at hs
    obtain rfl := Option.some.inj hs
    rw [hB _ _ hb] at hs'
    obtain rfl := Option.some.inj hs'
    obtain ⟨_, _, _, cs, rest, r1, _, r2⟩ := hbx
    obtain ⟨_, _, _, cs', rest', r1', _, r2'⟩ := hbx'
    have r1 : Row H b (cs ++ rest) := r1
    have r1' : Row H' b (cs' ++ rest') := r1'
    obtain rfl := exDL_ok hB h3 r2 r2'
    have hl : l.length = cs'.length := All2.len r2
    have hi : i < cs'.length := by omega
    have k1 := loads_cell r1.2 (i := i) (by simp; omega)
    have k2 := loads_cell r1'.2 (i := i) (by simp; omega)
    rw [Nat.zero_add] at k1 k2
    rw [k1, List.getElem?_append_left hi] at hc
    rw [k2, List.getElem?_append_left hi]
    exact hc
theorem dw_cxw {f : FuncId} {args : List Opd} {ds : List DV} {R : DV → Bx → Nat → Prop} (hvs : ros E args = some ds) (hT : noT E = true) (hc : DX p f ds S nk R) (h : ∀ d S' nk', R d S' nk' → wSame S S' W ∧ DPW p base 0 Q r W A (setD E dst d) S' nk') : DPW p base rs Q (⟨id, dst, .cf f args, none, aid, ws, keep⟩ :: r) W A E S nk := .mk fun Z β H F c hS hE hC hA => by
  simp only [wOps, wantedA, if_true]
  refine (hc Z β H _ hS (ros_ok hE hvs)).mono ?_
  rintro v H' ⟨d, S', nk', Z', β', hS', hr, hZ, hB, hR⟩
  obtain ⟨hw, h⟩ := h d S' nk' hR
  have hC' : CR W Z' β' H' c := hC.wsame hS hS' hZ hB hw
  exact ⟨hC'.watch ws, h.run Z' β' H' _ c hS' ((hE.mono0 hZ hB hT).set dst hr) hC' ⟨hA.1, fun j hj => absurd hj (by omega)⟩⟩
end
end Go.Ab

/- Rules: a nil slice in a region; clear. -/
namespace Go.Ab
section
variable {p : Par} {base rs : Nat} {Q : DEnv → Bx → Nat → Prop} {r : List SOper} {W : Wt} {A : List Nat} {E : DEnv} {S : Bx} {nk : Nat} {id : Nat} {dst : Option Nat} {aid : Option Nat} {ws : List Nat} {keep : Bool}
/-- a nil slice in a region, to which will be appended -/
theorem dw_virt {l : List SOper} (t esz : Nat) (ht : lk E t = some (.one (.f (.c .nils)))) (h : DPW p base rs Q l W A ((t, .one (.own nk 0 0 esz)) :: E) ((nk, .data []) :: S) (nk + 1)) : DPW p base rs Q l W A E S nk := .mk fun Z β H F c hS hE hC hA => by
  refine h.run Z _ H F c (virt_ok hS) (fun k d hd => ?_) (hC.step (ZLe.refl Z H) (hS.ble .nil) fun _ _ _ _ _ _ _ _ _ _ _ _ _ h => h) ⟨hA.1, fun j hj hjA => ?_⟩
  · rw [lk_cons] at hd
    split at hd
    · rename_i e; subst e
      obtain rfl := Option.some.inj hd
      obtain ⟨v, hv, c, rfl, hr⟩ := hE _ _ ht
      cases hr
      exact ⟨_, hv, _, rfl, .inl ⟨updB_self _ _ _, rfl, rfl, rfl⟩⟩
    · exact hE.mono (ZLe.refl Z H) (hS.ble .nil) k d hd
  · obtain ⟨a1, a2, a3, a4⟩ := hA.2 j hj hjA
    refine ⟨a1, a2, a3, fun k N hk => ?_⟩
    unfold updB at hk
    split at hk
    · cases hk
    · exact a4 k N hk
theorem patt_rel {Z : Nat → Prop} {H : Hp} {zf : List FD} {z : List C} (hz : zeq zf z) (hp : 0 < z.length) (n : Nat) : All2 (RF Z H) (reps' zf n) (patt z (n * z.length)) := by
  obtain ⟨cs, rest, h1, h2⟩ := mk_rel (Z := Z) (H := H) hz hp (Nat.le_refl (n * z.length))
  have hl : zf.length = z.length := (zeq_ok (Z := Z) (H := H) hz).len
  have h3 := h2.len
  rw [reps'_len, hl] at h3
  have h4 : ((List.range (n * z.length)).map fun i => z.getD (i % z.length) .nilp).length = n * z.length := by simp
  rw [h1, List.length_append] at h4
  have : rest = [] := List.eq_nil_of_length_eq_zero (by omega)
  subst this
  unfold patt
  rw [h1, List.append_nil]
  exact h2
theorem dw_clr {esz k o n : Nat} {z : List C} {zf : List FD} {x : Opd} {l : List FD} (hx : ro E x = some (.one (.own k o n esz))) (hk : lk S k = some (.data l)) (hle : o + n * esz ≤ l.length) (hz : zeq zf z) (hze : z.length = esz) (hp : 0 < esz) (hn : 0 < n) (hw : wOk S k W = true)
    (h : DPW p base rs Q r W A (setD E dst .undef) (put k (.data (setLs l o (reps' zf n))) S) nk) : DPW p base rs Q (⟨id, dst, .e (.clear esz z x), none, aid, ws, keep⟩ :: r) W A E S nk := .mk fun Z β H F c hS hE hC hA => by
  subst hze
  obtain ⟨ca, hca, hr⟩ := ro_ok hE hx
  rcases hr with ⟨_, h0, _⟩ | ⟨b, N, cap, ex, hb, rfl, hcap, hN'⟩
  · omega
  have hfl := wOk_flat hw hk
  have hsh := wOk_row hw hk
  obtain ⟨s, hs, hbx⟩ := hS.box (k, 0) _ (lk2_of hk hfl)
  rw [hb] at hs
  obtain rfl := Option.some.inj hs
  obtain ⟨hzb, hlo, hlt, cs, rest, hrow, hN, hrel⟩ := hbx
  have hN : (cs ++ rest).length = N := hN
  have hrow : Row H b (cs ++ rest) := hrow
  have hlen : l.length = cs.length := Bk.rel_len hrel
  have hk2 := patt_rel (Z := Z) (H := H) hz hp n
  have hkl := hk2.len
  have hpl : (patt z (n * z.length)).length = n * z.length := by simp [patt]
  obtain ⟨H', e1, e2, e3, e4⟩ := hrow.stores (cs := patt z (n * z.length)) (i := o) (by simp; omega)
  rw [setL_app _ cs rest o (by omega)] at e2
  obtain ⟨hS', hZ⟩ := hS.upd (x' := .data (setLs l o (reps' zf n))) (cs := setL cs o (patt z (n * z.length))) (rest := rest) hk hfl hb (All2.setLs hk2 o hrel) e3 e4 rfl e2 (by rw [List.length_append, setL_len, ← List.length_append]; exact hN)
  simp only [wOps, wantedA, if_true, aEff, hca]
  rw [e1]
  have hC' := hC.upd (k := (k, 0)) hS hk hZ e3 hb (wOk_0 hw)
  exact ⟨hC'.watch ws, h.run Z β H' _ c hS' ((hE.mono hZ (BLe.refl _)).set dst undef_ok) hC' (hA.upd e4 e3 hb)⟩
end
end Go.Ab

/- Ranges over functions, in the deep layer. -/
namespace Go.Ab

/-- the temporaries that a record keeps -/
def envL (E : DEnv) : List Nat → Option (List DC)
  | [] => some []
  | t :: ts => match lk E t, envL E ts with
    | some (.one d), some l => some (d :: l)
    | _, _ => none
def envOf : List Nat → List DC → DEnv
  | t :: ts, d :: l => (t, .one d) :: envOf ts l
  | _, _ => []
/-- a round's parameters -/
def setPsD (E : DEnv) : List Nat → List DV → DEnv
  | t :: ps, d :: ds => setPsD (setD E (some t) d) ps ds
  | _, _ => E

section
variable {Z Z' : Nat → Prop} {β β' : Beta} {H H' : Hp} {E : DEnv} {F : T V}
theorem envL_ok (hE : ER Z β H E F) : ∀ {ts : List Nat} {l : List DC}, envL E ts = some l → ∃ cs, TsR F ts cs ∧ All2 (RD Z H β) l cs
  | [], l, h => by simp [envL] at h; subst h; exact ⟨[], trivial, trivial⟩
  | t :: ts, l, h => by
    simp only [envL] at h
    split at h
    · rename_i d r h1 h2
      obtain rfl := Option.some.inj h
      obtain ⟨v, e1, c, rfl, hr⟩ := hE t _ h1
      obtain ⟨cs, e2, e3⟩ := envL_ok hE h2
      exact ⟨c :: cs, ⟨e1, e2⟩, hr, e3⟩
    · cases h
theorem envOf_ok : ∀ {ts : List Nat} {l : List DC} {cs : List C}, TsR F ts cs → All2 (RD Z H β) l cs → ER Z β H (envOf ts l) F
  | [], _, _, _, _ => fun n d hd => by cases hd
  | _ :: _, [], _, _, _ => fun n d hd => by cases hd
  | t :: ts, d :: l, [], h, _ => h.elim
  | t :: ts, d :: l, c :: cs, h, ha => fun n x hx => by
    simp only [envOf] at hx
    rw [lk_cons] at hx
    split at hx
    · rename_i e
      subst e
      obtain rfl := Option.some.inj hx
      exact ⟨_, h.1, c, rfl, ha.1⟩
    · exact envOf_ok h.2 ha.2 n x hx
theorem setPsD_ok : ∀ {ps : List Nat} {ds : List DV} {args : List V} {E : DEnv} {F : T V}, ER Z β H E F → All2 (RDV Z H β) ds args → ER Z β H (setPsD E ps ds) (setPs F ps args)
  | [], _, _, _, _, hE, _ => by simpa [setPsD, setPs] using hE
  | _ :: _, [], [], _, _, hE, _ => hE
  | t :: ps, d :: ds, v :: args, E, F, hE, ha => setPsD_ok (ps := ps) (hE.set (some t) ha.1) ha.2
  | _ :: _, [], _ :: _, _, _, _, ha => ha.elim
  | _ :: _, _ :: _, [], _, _, _, ha => ha.elim
end

/-- .. while a round goes on -/
abbrev Par.round (p : Par) (ρ : Nat) (Z : Nat → Prop) (nk : Nat) (β : Beta) (H : Hp) : Par := ⟨p.P, p.G, p.GH, Z, p.lo, nk, β, H, some ρ⟩
theorem SR.round {p : Par} {Z : Nat → Prop} {β : Beta} {H : Hp} {S : Bx} {nk : Nat} (h : SR p Z β H S nk) (ρ : Nat) : SR (p.round ρ Z nk β H) Z β H S nk :=
  let h := h.hold
  ⟨h.wf, h.lo, h.z, h.zlo, h.zz, h.glob, h.nk, h.bd, h.box, h.inj, h.blo, h.anch, h.ancn⟩
theorem SR.unround {p : Par} {Z Z' : Nat → Prop} {β β' : Beta} {H H' : Hp} {S' : Bx} {nk nk' : Nat} {ρ : Nat} (h : SR (p.round ρ Z nk β H) Z' β' H' S' nk') : SR (p.hold Z nk β H) Z' β' H' S' nk' :=
  ⟨h.wf, h.lo, h.z, h.zlo, h.zz, h.glob, h.nk, h.bd, h.box, h.inj, h.blo, h.anch, h.ancn⟩

/-- how a round may end -/
def roundD (k : Nat) (R : DV → Bx → Nat → Prop) : Exit → DEnv → Bx → Nat → Prop
  | .normal, _, S, nk => ∃ st j f n ts ps sg bd l, lk S k = some (.mp (.lp st j f n ts ps sg bd) l) ∧ R (.bool true) (put k (.mp (.lp .ready none f n ts ps sg bd) l) S) nk
  | .ret, _, S, nk => ∃ st j f n ts ps sg bd l, lk S k = some (.mp (.lp st j f n ts ps sg bd) l) ∧ R (.bool false) (put k (.mp (.lp .done (some .ret) f n ts ps sg bd) l) S) nk
  | .exit id, _, S, nk => ∃ st j f n ts ps sg bd l, lk S k = some (.mp (.lp st j f n ts ps sg bd) l) ∧ R (.bool false) (put k (.mp (.lp .done (some (.exit id)) f n ts ps sg bd) l) S) nk
  | _, _, _, _ => False

section
variable {p : Par} {Z : Nat → Prop} {β : Beta} {H : Hp} {S : Bx} {nk : Nat}
/-- what is in the block of a record -/
theorem SR.lpb (hS : SR p Z β H S nk) {k b N : Nat} {st : LoopState} {j : Option Code} {f : FuncId} {n : Nat} {ts ps : List Nat} {sg bd : Code} {l : List DC} (hb : lk S k = some (.mp (.lp st j f n ts ps sg bd) l)) (hs : β (k, 0) = some (.blk b N)) :
    ∃ F cs, H.get b = some (.lp st j f n F ps.toArray sg bd) ∧ TsR F ts cs ∧ All2 (RD Z H β) l cs := by
  obtain ⟨s, hs', hbx⟩ := hS.box (k, 0) _ (lk2_of hb rfl)
  rw [hs] at hs'
  obtain rfl := Option.some.inj hs'
  obtain ⟨g1, g2, g3, cs, rest, ⟨F, g4, g5⟩, g8, g7⟩ := hbx
  have g8 : rest = [] := g8
  subst g8
  rw [List.append_nil] at g5
  exact ⟨F, cs, g4, g5, g7⟩
/-- a record's state is changed -/
theorem SR.lpSet (hS : SR p Z β H S nk) {k b N : Nat} {st st' : LoopState} {j j' : Option Code} {f : FuncId} {n : Nat} {F : T V} {ts ps : List Nat} {sg bd : Code} {l : List DC} (hb : lk S k = some (.mp (.lp st j f n ts ps sg bd) l)) (hs : β (k, 0) = some (.blk b N)) (hF : H.get b = some (.lp st j f n F ps.toArray sg bd)) :
    SR p Z β (H.add b (.lp st' j' f n F ps.toArray sg bd)) (put k (.mp (.lp st' j' f n ts ps sg bd) l) S) nk ∧ ZLe Z H Z (H.add b (.lp st' j' f n F ps.toArray sg bd)) := by
  obtain ⟨F', cs, g4, g5, g7⟩ := hS.lpb hb hs
  rw [hF] at g4
  obtain rfl : F = F' := by simpa using g4
  refine hS.updK (x' := .mp (.lp st' j' f n ts ps sg bd) l) (rest := []) (cs := cs) hb rfl hs g7 (fun b' hb' => Hp.get_add_ne _ _ hb') rfl ⟨F, by simp, by simpa using g5⟩ rfl

/-- THE BODY, AS YIELD'S CALL SEES IT -/
theorem ayield_d {k b N : Nat} {j : Option Code} {f : FuncId} {n : Nat} {ts ps : List Nat} {sg bd : Code} {sa sb : SC} {l : List DC} {ds : List DV} {args : List V} {R : DV → Bx → Nat → Prop} (hS : SR p Z β H S nk) (hb : lk S k = some (.mp (.lp .ready j f n ts ps sg bd) l)) (hs : β (k, 0) = some (.blk b N))
    (hlen : ds.length = ps.length) (ha : All2 (RDV Z H β) ds args) (hsg : cpCode p.P p.G n sg = some sa) (hbd : cpCode p.P p.G n bd = some sb)
    (h : ∀ ρ Z β H, DPS (p.round ρ Z nk β H) n sa (fun e E1 S1 nk1 => e = .normal ∧ ∃ st j1 f1 n1 ts1 ps1 sg1 bd1 l1, st = .ready ∧ lk S1 k = some (.mp (.lp st j1 f1 n1 ts1 ps1 sg1 bd1) l1) ∧ DPS (p.round ρ Z nk β H) n sb (roundD k R) E1 (put k (.mp (.lp .busy j1 f1 n1 ts1 ps1 sg1 bd1) l1) S1) nk1) (setPsD (envOf ts l) ps ds) S nk) :
    AYield p.P p.G b args H fun v H' => ∃ d S' nk' Z' β', SR p Z' β' H' S' nk' ∧ RDV Z' H' β' d v ∧ ZLe Z H Z' H' ∧ BLe0 β β' ∧ R d S' nk' := by
  obtain ⟨F0, cs, g4, g5, g7⟩ := hS.lpb hb hs
  have hkn := hS.lt hb
  refine syield_ok g4 (by rw [← ha.len, hlen]; simp) hsg hbd fun ρ => ?_
  refine swp_mono ((h ρ Z β H).run Z β H _ (hS.round ρ) (setPsD_ok (envOf_ok g5 g7) ha)) fun e F1 H1 he => ?_
  obtain ⟨E1, S1, nk1, Z1, β1, h1, h2, he', st, j1, f1, n1, ts1, ps1, sg1, bd1, l1, hst, hb1, hbody⟩ := he
  subst he' hst
  have hs1 : β1 (k, 0) = some (.blk b N) := (h1.anch (k, 0) hkn rfl).trans hs
  obtain ⟨F1', cs1, q4, q5, q7⟩ := h1.lpb hb1 hs1
  refine ⟨rfl, j1, f1, n1, F1', ps1.toArray, sg1, bd1, q4, ?_⟩
  obtain ⟨u1, u2⟩ := h1.lpSet (st' := .busy) (j' := j1) hb1 hs1 q4
  have hE1 := h2.mono u2 (BLe.refl _)
  refine swp_mono (hbody.run Z1 β1 _ _ u1 hE1) fun e F2 H2 ⟨E2, S2, nk2, Z2, β2, v1, v2, hq⟩ => ?_
  have hs2 : β2 (k, 0) = some (.blk b N) := (v1.anch (k, 0) hkn rfl).trans hs
  have fin : ∀ (t : Bool) (st' : LoopState) (j' : Option Code), (∃ st j f n ts ps sg bd l, lk S2 k = some (.mp (.lp st j f n ts ps sg bd) l) ∧ R (.bool t) (put k (.mp (.lp st' j' f n ts ps sg bd) l) S2) nk2) →
      ∃ st j f n F ps sg bd, H2.get b = some (.lp st j f n F ps sg bd) ∧ ∃ d S' nk' Z' β', SR p Z' β' (H2.add b (.lp st' j' f n F ps sg bd)) S' nk' ∧ RDV Z' (H2.add b (.lp st' j' f n F ps sg bd)) β' d (.bool t) ∧ ZLe Z H Z' (H2.add b (.lp st' j' f n F ps sg bd)) ∧ BLe0 β β' ∧ R d S' nk' := by
    rintro t st' j' ⟨st, j, f, n, ts, ps, sg, bd, l, hb2, hR⟩
    obtain ⟨F2', cs2, w4, w5, w7⟩ := v1.lpb hb2 hs2
    obtain ⟨x1, x2⟩ := v1.lpSet (st' := st') (j' := j') hb2 hs2 w4
    obtain ⟨y1, y2, y3⟩ := hS.free x1.unround
    exact ⟨st, j, f, n, F2', ps.toArray, sg, bd, w4, _, _, _, Z2, β2, y1, exact_ok rfl, y2, y3, hR⟩
  cases e with
  | normal => exact fin true .ready none hq
  | ret => exact fin false .done (some .ret) hq
  | exit id => exact fin false .done (some (.exit id)) hq
  | _ => exact hq.elim
end

section
variable {p : Par} {base rs : Nat} {Q : DEnv → Bx → Nat → Prop} {r : List SOper} {W : Wt} {A : List Nat} {E : DEnv} {S : Bx} {nk : Nat} {id : Nat} {dst : Option Nat} {aid : Option Nat} {ws : List Nat} {keep : Bool}
/-- yield is called -/
theorem dw_yl {x : Opd} {args : List Opd} {ds : List DV} {k : Nat} {j : Option Code} {f : FuncId} {n : Nat} {ts ps : List Nat} {sg bd : Code} {sa sb : SC} {l : List DC} {R : DV → Bx → Nat → Prop} (hx : ro E x = some (.one (.yl k))) (hvs : ros E args = some ds) (hb : lk S k = some (.mp (.lp .ready j f n ts ps sg bd) l))
    (hlen : ds.length = ps.length) (hW : noW W = true) (hT : noT E = true) (hsg : cpCode p.P p.G n sg = some sa) (hbd : cpCode p.P p.G n bd = some sb)
    (hc : ∀ ρ Z β H, DPS (p.round ρ Z nk β H) n sa (fun e E1 S1 nk1 => e = .normal ∧ ∃ st j1 f1 n1 ts1 ps1 sg1 bd1 l1, st = .ready ∧ lk S1 k = some (.mp (.lp st j1 f1 n1 ts1 ps1 sg1 bd1) l1) ∧ DPS (p.round ρ Z nk β H) n sb (roundD k R) E1 (put k (.mp (.lp .busy j1 f1 n1 ts1 ps1 sg1 bd1) l1) S1) nk1) (setPsD (envOf ts l) ps ds) S nk)
    (h : ∀ d S' nk', R d S' nk' → DPW p base 0 Q r W A (setD E dst d) S' nk') : DPW p base rs Q (⟨id, dst, .cv x args, none, aid, ws, keep⟩ :: r) W A E S nk := .mk fun Z β H F c hS hE hC hA => by
  obtain ⟨cx, hcx, b, N, hs, rfl⟩ := ro_ok hE hx
  simp only [wOps, wantedA, if_true, hcx]
  refine (ayield_d hS hb hs hlen (ros_ok hE hvs) hsg hbd hc).mono ?_
  rintro v H' ⟨d, S', nk', Z', β', hS', hr, hZ, hB, hR⟩
  have hC' : CR W Z' β' H' c := hC.noW (noW_mem hW) hZ
  exact ⟨hC'.watch ws, (h d S' nk' hR).run Z' β' H' _ c hS' ((hE.mono0 hZ hB hT).set dst hr) hC' ⟨hA.1, fun j hj => absurd hj (by omega)⟩⟩
end

section
variable {p : Par} {base rs : Nat} {Q : DEnv → Bx → Nat → Prop} {r : List SOper} {W : Wt} {A : List Nat} {E : DEnv} {S : Bx} {nk : Nat} {id : Nat} {dst : Option Nat} {aid : Option Nat} {ws : List Nat} {keep : Bool}
/-- a function without captured variables that changes boxes of its caller -/
theorem dw_cxv0 {x : Opd} {f : FuncId} {args : List Opd} {ds : List DV} {R : DV → Bx → Nat → Prop} (hx : ro E x = some (.one (.f (.c (.fn f []))))) (hf : isFn p.P f = true) (hvs : ros E args = some ds) (hW : noW W = true) (hT : noT E = true) (hc : DX p f ds S nk R) (h : ∀ d S' nk', R d S' nk' → DPW p base 0 Q r W A (setD E dst d) S' nk') : DPW p base rs Q (⟨id, dst, .cv x args, none, aid, ws, keep⟩ :: r) W A E S nk := .mk fun Z β H F c hS hE hC hA => by
  have hw := (dw_cx (id := id) (dst := dst) (aid := aid) (ws := ws) (keep := keep) (rs := rs) hvs hW hT hc h).run Z β H F c hS hE hC hA
  obtain ⟨cx, hcx, hr⟩ := ro_ok hE hx
  cases hr
  simp only [wOps, wantedA, if_true] at hw
  simp only [wOps, wantedA, if_true, hcx, List.map_nil, List.append_nil]
  exact ⟨hf, hw⟩
end

/-- how a range over a function goes on -/
def jumpD (Q : Exit → DEnv → Bx → Nat → Prop) : Option Code → DEnv → Bx → Nat → Prop
  | none => Q .normal
  | some .ret => Q .ret
  | some (.exit id) => Q (.exit id)
  | _ => fun _ _ _ => False

section
variable {p : Par} {n : Nat} {Q : Exit → DEnv → Bx → Nat → Prop} {E : DEnv} {S : Bx} {nk : Nat}
/-- THE STATEMENT -/
theorem ds_rf (hρ : p.ρ = none) {d : Opd} {ps : List Nat} {sa sb : SC} {f : FuncId} {caps : List (Nat × Nat)} (ts : List Nat) {l : List DC} (hd : ro E d = some (.one (.fn f caps))) (hf : isFn p.P f = true) (hT : noT E = true) (hl : envL E ts = some l)
    (h : ∀ fid sg bd, cpCode p.P p.G n sg = some sa → cpCode p.P p.G n bd = some sb → DX p f (.one (.yl nk) :: capsA caps) ((nk, .mp (.lp .ready none fid n ts ps sg bd) l) :: S) (nk + 1)
      fun _ S' nk' => ∃ st j f1 n1 ts1 ps1 sg1 bd1 l1, lk S' nk = some (.mp (.lp st j f1 n1 ts1 ps1 sg1 bd1) l1) ∧ st ≠ .busy ∧ jumpD Q j E (era nk S') nk') : DPS p n (.rf d ps sa sb) Q E S nk := .mk fun Z β H F hS hE => by
  obtain ⟨cx, hcx, caps', rfl, hcaps⟩ := ro_ok hE hd
  obtain ⟨cs, hts, hcs⟩ := envL_ok hE hl
  rw [hρ]
  refine swp_rf hcx hf fun fid sg bd hsg hbd => ?_
  have hfr : H.get H.nx = none := hS.wf.fresh (Nat.le_refl _)
  have hg : ∀ b', b' ≠ H.nx → (H.push (.lp .ready none fid n F ps.toArray sg bd)).get b' = H.get b' := fun b' hb' => by rw [Hp.get_push, if_neg hb']
  have hz : ¬ Z H.nx := fun hz => absurd (hS.z _ hz) (by omega)
  obtain ⟨hS', hZ, hB⟩ := hS.newB (x := .mp (.lp .ready none fid n ts ps sg bd) l) (b := H.nx) (N0 := 0) (H' := H.push (.lp .ready none fid n F ps.toArray sg bd)) rfl
    (fun β' hB hZ => ⟨hz, hS.lo, by simp, cs, [], ⟨F, by rw [Hp.get_push, if_pos rfl], by simpa using hts⟩, rfl, Bk.rel_mono (x := .mp (.lp .ready none fid n ts ps sg bd) l) hZ hB hcs⟩) hz (fun k N hk => absurd (hS.bd k _ N hk) (by omega)) hS.lo (by simp) (by simp) (hS.wf.push _) hg
  have hBs : updB β nk (.blk H.nx 0) (nk, 0) = some (.blk H.nx 0) := updB_self _ _ _
  have hargs : All2 (RDV Z (H.push (.lp .ready none fid n F ps.toArray sg bd)) (updB β nk (.blk H.nx 0))) (.one (.yl nk) :: capsA caps) (.one (.yld H.nx) :: caps'.map ptrV) := ⟨⟨_, rfl, _, _, hBs, rfl⟩, capsA_ok (capsR.mono hB hcaps)⟩
  refine ((h fid sg bd hsg hbd) Z _ _ _ hS' hargs).mono ?_
  rintro v H' ⟨d', S', nk', Z', β', hS2, _, hZ2, hB2, st, j, f1, n1, ts1, ps1, sg1, bd1, l1, hb, hst, hj⟩
  have hs2 : β' (nk, 0) = some (.blk H.nx 0) := hB2 _ _ hBs
  obtain ⟨F1, cs1, w4, w5, w7⟩ := hS2.lpb hb hs2
  obtain ⟨x1, x2⟩ := hS2.lpSet (st' := .exhausted) (j' := j) hb hs2 w4
  refine ⟨st, j, f1, n1, F1, ps1.toArray, sg1, bd1, w4, hst, ?_⟩
  have hS3 : SR p Z' β' (H'.add H.nx (.lp .exhausted j f1 n1 F1 ps1.toArray sg1 bd1)) (era nk S') nk' := x1.keepS fun k x hk => by
    rw [lk_era] at hk
    split at hk
    · cases hk
    · rename_i e
      rw [lk_put, if_neg e]; exact hk
  have hE3 : ER Z' β' (H'.add H.nx (.lp .exhausted j f1 n1 F1 ps1.toArray sg1 bd1)) E F := (((hE.mono hZ hB).mono0 hZ2 hB2 hT).mono x2 (BLe.refl _))
  cases j with
  | none => exact ⟨_, _, _, _, _, hS3, hE3, hj⟩
  | some c => cases c <;> first | exact ⟨_, _, _, _, _, hS3, hE3, hj⟩ | exact hj.elim
end
end Go.Ab

/- Law 34: the globals; generic steps. -/
namespace Go.Ac
open Go.Ab Go.Proofs
set_option linter.unusedSimpArgs false

theorem subL_flat {α : Type} {f : α → List FD} {e : Nat} (hf : ∀ x, (f x).length = e) : ∀ {l : List α} {i : Nat} {x : α}, l[i]? = some x → subL (l.flatMap f) (i * e) e = some (f x)
  | [], i, x, h => by simp at h
  | y :: l, 0, x, h => by
    simp at h; subst h
    have := hf y
    rw [Nat.zero_mul, subL_of (by simp; omega)]
    simp [List.take_append_of_le_length, ← this]
  | y :: l, i + 1, x, h => by
    have ih := subL_flat hf (l := l) (i := i) (x := x) (by simpa using h)
    have hy := hf y
    obtain ⟨h1, h2⟩ := subL_some ih
    rw [List.flatMap_cons, Nat.add_mul, Nat.one_mul, subL_of (by rw [List.length_append]; omega)]
    rw [show i * e + e = (f y).length + i * e by omega, ← List.drop_drop, List.drop_append_of_le_length (Nat.le_refl _), List.drop_length, List.nil_append, ← h2]
theorem flat_length {α : Type} {f : α → List FD} {e : Nat} (hf : ∀ x, (f x).length = e) (l : List α) : (l.flatMap f).length = l.length * e := by
  induction l with
  | nil => simp
  | cons x l ih => simp [ih, hf x, Nat.add_mul]; omega
theorem subL_all {α : Type} (l : List α) {n : Nat} (h : l.length = n) : subL l 0 n = some l := by
  subst h
  rw [subL_of (by omega)]
  simp

def u8 (n : Int) : C := .int .u8 n
def offs : B := .row 12 [.int .i64 0, .int .i64 0, .int .i64 0, .int .i64 1, .int .i64 0, .int .i64 2, .int .i64 1, .int .i64 0, .int .i64 1, .int .i64 1, .int .i64 1, .int .i64 2] .lf false
def lets : B := .row 26 [u8 1, u8 3, u8 9, u8 25, u8 17, u8 11, u8 27, u8 19, u8 10, u8 26, u8 5, u8 7, u8 13, u8 29, u8 21, u8 15, u8 31, u8 23, u8 14, u8 30, u8 37, u8 39, u8 58, u8 45, u8 61, u8 53] .lf false
def digs : B := .row 10 [u8 26, u8 1, u8 3, u8 9, u8 25, u8 17, u8 11, u8 27, u8 19, u8 10] .lf false
def GH : Hp := ⟨.nd (some offs) (.nd (some lets) .lf .lf) (.nd (some digs) .lf .lf), 6⟩
abbrev DK (f : FuncId) (ds : List DV) (R : DV → Prop) : Prop := DCalls Tryd.prog 6 GH f ds R
theorem GHget (b : Nat) : GH.get b = if b = 0 then some offs else if b = 1 then some lets else if b = 2 then some digs else none := by
  match b with
  | 0 => rfl
  | 1 => rfl
  | 2 => rfl
  | b + 3 =>
    simp [Hp.get, GH, T.get_nd]
    split
    · split <;> first | rfl | omega
    · split <;> first | rfl | omega
theorem GHro : ∀ b bk, GH.get b = some bk → bk.ro = some bk := by
  intro b bk h
  rw [GHget] at h
  split at h
  · rw [← Option.some.inj h]; rfl
  · split at h
    · rw [← Option.some.inj h]; rfl
    · split at h
      · rw [← Option.some.inj h]; rfl
      · cases h
theorem mix : Tryd.prog.follows .mixedOrders = true := by kernel_rfl

/-- a label's cells -/
abbrev Lb := Int × Int
def lbD (p : Lb) : DV := .agg [.f (.c (.int .i64 p.1)), .f (.c (.int .i64 p.2))]
def lbF (p : Lb) : List FD := [.c (.int .i64 p.1), .c (.int .i64 p.2)]
theorem aEqs_lb (p q : Lb) : aEqs [.int .i64 p.1, .int .i64 p.2] [.int .i64 q.1, .int .i64 q.2] [(0, false), (1, false)] = some (decide (p = q)) := by
  obtain ⟨p1, p2⟩ := p
  obtain ⟨q1, q2⟩ := q
  simp only [aEqs, aEq, List.getElem?_cons_zero, List.getElem?_cons_succ, if_true]
  by_cases h1 : p1 = q1
  · by_cases h2 : p2 = q2
    · subst h1; subst h2; simp
    · have e2 : (p2 == q2) = false := by simpa using h2
      subst h1; simp [h2, e2]
  · have e1 : (p1 == q1) = false := by simpa using h1
    simp [h1, e1]
/-- labels that are compared -/
theorem d_eqlb {neg : Bool} {E : DEnv} {x y : Opd} {p q : Lb} (hx : ro E x = some (.agg [.f (.c (.int .i64 p.1)), .f (.c (.int .i64 p.2))])) (hy : ro E y = some (.agg [.f (.c (.int .i64 q.1)), .f (.c (.int .i64 q.2))])) : dPure E (.eqs neg [(0, false), (1, false)] x y) = some (.bool (match neg with | true => !decide (p = q) | false => decide (p = q))) := by
  have ex : exO E x = some (.agg [.int .i64 p.1, .int .i64 p.2]) := by simp [exO, hx, exV, exL, exC]
  have ey : exO E y = some (.agg [.int .i64 q.1, .int .i64 q.2]) := by simp [exO, hy, exV, exL, exC]
  simp only [dPure, dEx, PureOp.opds, allB, isEx, ex, ey, Option.isSome_some, PureOp.mp, rx, aPure, Opd.ev, aEqs_lb]
  cases neg <;> rfl

/-- a label follows another -/
def foll (a b : Lb) : Bool := (decide (b = (a.1 + 1, 0)) && decide (b.1 ≤ 9999)) || (decide (b = (a.1, a.2 + 1)) && decide (b.2 ≤ 2))
end Go.Ac

/- Grids and cells: the plain part. -/
namespace Go.Ac
open Go.Ab Go.Proofs
set_option linter.unusedSimpArgs false

def boF (b : Bool) : FD := .c (.bool b)
abbrev DotsL := List (List Bool)
def rowsF (d : DotsL) : List (List FD) := d.map (·.map boF)
/-- a grid that is no more written -/
def gridD (w h : Int) (d : DotsL) : DV := .agg [.f (.c (.int .i64 w)), .f (.c (.int .i64 h)), .f (.sl 1 d.length ((rowsF d).map rowF))]
def blankD (w h : Nat) : DotsL := List.replicate h (List.replicate w false)
theorem rowsF_len (d : DotsL) : (rowsF d).length = d.length := by simp [rowsF]
theorem rowsF_at {d : DotsL} {y : Nat} {r : List Bool} (h : d[y]? = some r) : (rowsF d)[y]? = some (r.map boF) := by simp [rowsF, h]
theorem rowsF_set (d : DotsL) (y : Nat) (r : List Bool) : (rowsF d).set y (r.map boF) = rowsF (d.set y r) := by simp [rowsF, List.map_set]
theorem boF_set (r : List Bool) (x : Nat) (b : Bool) : (r.map boF).set x (boF b) = (r.set x b).map boF := by simp [List.map_set]
theorem boF_at {r : List Bool} {x : Nat} {b : Bool} (h : r[x]? = some b) : (r.map boF)[x]? = some (boF b) := by simp [h]
theorem reps_false (n : Nat) : reps' [.c (.bool false)] n = (List.replicate n false).map boF := by rw [reps'_one]; simp [boF]

def Sz (w h : Nat) (d : DotsL) : Prop := d.length = h ∧ ∀ r ∈ d, r.length = w
def dot (d : DotsL) (x y : Nat) : Bool := match d[y]? with
  | some r => (r[x]?).getD false
  | none => false
def setDot (d : DotsL) (x y : Nat) (b : Bool) : DotsL := match d[y]? with
  | some r => d.set y (r.set x b)
  | none => d
theorem Sz.row {w h : Nat} {d : DotsL} (hd : Sz w h d) {y : Nat} (hy : y < h) : ∃ r, d[y]? = some r ∧ r.length = w := by
  have hl : y < d.length := by rw [hd.1]; exact hy
  exact ⟨d[y], List.getElem?_eq_getElem hl, hd.2 _ (List.getElem_mem hl)⟩
theorem Sz.cell {w h : Nat} {d : DotsL} (hd : Sz w h d) {x y : Nat} (hx : x < w) (hy : y < h) : ∃ r, d[y]? = some r ∧ r.length = w ∧ r[x]? = some (dot d x y) := by
  obtain ⟨r, h1, h2⟩ := hd.row hy
  refine ⟨r, h1, h2, ?_⟩
  have : x < r.length := by omega
  simp [dot, h1, List.getElem?_eq_getElem this]
theorem Sz.set {w h : Nat} {d : DotsL} (hd : Sz w h d) (x y : Nat) (b : Bool) : Sz w h (setDot d x y b) := by
  unfold setDot
  split
  · rename_i r hr
    refine ⟨by simpa using hd.1, fun q hq => ?_⟩
    rcases List.mem_or_eq_of_mem_set hq with h | h
    · exact hd.2 q h
    · subst h; simpa using hd.2 r (List.mem_of_getElem? hr)
  · exact hd
theorem dot_set {w h : Nat} {d : DotsL} (hd : Sz w h d) {x y : Nat} (hx : x < w) (hy : y < h) (b : Bool) (i j : Nat) : dot (setDot d x y b) i j = if i = x ∧ j = y then b else dot d i j := by
  obtain ⟨r, h1, h2⟩ := hd.row hy
  have hyl : y < d.length := by rw [hd.1]; exact hy
  simp only [setDot, h1, dot, List.getElem?_set]
  by_cases e : y = j
  · subst e
    rw [if_pos rfl, if_pos hyl]
    simp only [h1, List.getElem?_set]
    by_cases e2 : x = i
    · subst e2; rw [if_pos rfl, if_pos (by omega)]; simp
    · rw [if_neg e2, if_neg (fun h => e2 h.1.symm)]
  · rw [if_neg e, if_neg (fun h => e h.2.symm)]
theorem Sz.ext {w h : Nat} {d d' : DotsL} (hd : Sz w h d) (hd' : Sz w h d') (he : ∀ x y, x < w → y < h → dot d x y = dot d' x y) : d = d' := by
  refine List.ext_getElem? fun y => ?_
  by_cases hy : y < h
  · obtain ⟨r, h1, h2⟩ := hd.row hy
    obtain ⟨r', h1', h2'⟩ := hd'.row hy
    rw [h1, h1']
    congr 1
    refine List.ext_getElem? fun x => ?_
    by_cases hx : x < w
    · obtain ⟨_, g1, _, g2⟩ := hd.cell hx hy
      obtain ⟨_, g1', _, g2'⟩ := hd'.cell hx hy
      rw [h1] at g1; rw [h1'] at g1'
      obtain rfl := Option.some.inj g1
      obtain rfl := Option.some.inj g1'
      rw [g2, g2', he x y hx hy]
    · rw [List.getElem?_eq_none (by omega), List.getElem?_eq_none (by omega)]
  · rw [List.getElem?_eq_none (by rw [hd.1]; omega), List.getElem?_eq_none (by rw [hd'.1]; omega)]
theorem Sz.blankD (w h : Nat) : Sz w h (blankD w h) := ⟨by simp [Ac.blankD], fun r hr => by
  obtain ⟨_, rfl⟩ := List.mem_replicate.1 hr
  simp⟩
theorem dot_blank (w h x y : Nat) : dot (blankD w h) x y = false := by
  unfold dot
  split
  · rename_i r hr
    simp only [blankD, List.getElem?_replicate] at hr
    split at hr
    · obtain rfl := Option.some.inj hr
      rw [List.getElem?_replicate]
      split <;> rfl
    · cases hr
  · rfl
theorem rowsF_setDot {d : DotsL} {y : Nat} {r : List Bool} (h : d[y]? = some r) (x : Nat) (b : Bool) : (rowsF d).set y ((r.map boF).set x (.c (.bool b))) = rowsF (setDot d x y b) := by
  simp only [setDot, h]
  rw [← rowsF_set, ← boF_set]; rfl
theorem rowF_at {rows : List (List FD)} {y : Nat} {r : List FD} (h : rows[y]? = some r) : subL (rows.map rowF) (y * 1) 1 = some [rowF r] := by
  have hl := (List.getElem?_eq_some_iff.1 h).1
  rw [Nat.mul_one, subL_of (by simp; omega)]
  congr 1
  refine List.ext_getElem? fun j => ?_
  rw [List.getElem?_take]
  split
  · rename_i hj
    obtain rfl : j = 0 := by omega
    rw [List.getElem?_drop, List.getElem?_map, Nat.add_zero, h]
    rfl
  · rw [List.getElem?_eq_none (by simp; omega)]
theorem one_at {r : List FD} {x : Nat} {b : FD} (h : r[x]? = some b) : subL r (x * 1) 1 = some [b] := by
  have hl := (List.getElem?_eq_some_iff.1 h).1
  rw [Nat.mul_one, subL_of (by omega)]
  congr 1
  refine List.ext_getElem? fun j => ?_
  rw [List.getElem?_take]
  split
  · rename_i hj
    obtain rfl : j = 0 := by omega
    rw [List.getElem?_drop, Nat.add_zero, h]
    rfl
  · rw [List.getElem?_eq_none (by simp; omega)]

theorem neq_self (a : Int) : (a != a) = false := by simp
/-- copied up to the row y, and there up to the column x -/
def Cp (w h : Nat) (d : DotsL) (y x : Nat) (cur : DotsL) : Prop := Sz w h cur ∧ ∀ i j, i < w → j < h → dot cur i j = if j < y ∨ (j = y ∧ i < x) then dot d i j else false
theorem Cp.start (w h : Nat) (d : DotsL) : Cp w h d 0 0 (blankD w h) := ⟨Sz.blankD w h, fun i j _ _ => by rw [dot_blank, if_neg (by omega)]⟩
theorem Cp.step {w h : Nat} {d : DotsL} {y x : Nat} {cur : DotsL} (hc : Cp w h d y x cur) (hx : x < w) (hy : y < h) : Cp w h d y (x + 1) (setDot cur x y (dot d x y)) := by
  refine ⟨hc.1.set _ _ _, fun i j hi hj => ?_⟩
  rw [dot_set hc.1 hx hy]
  split
  · rename_i e
    rw [if_pos (by omega), e.1, e.2]
  · rename_i e
    rw [hc.2 i j hi hj]
    by_cases h1 : j < y ∨ (j = y ∧ i < x)
    · rw [if_pos h1, if_pos (by omega)]
    · rw [if_neg h1, if_neg (by omega)]
theorem Cp.next {w h : Nat} {d : DotsL} {y : Nat} {cur : DotsL} (hc : Cp w h d y w cur) : Cp w h d (y + 1) 0 cur := ⟨hc.1, fun i j hi hj => by
  rw [hc.2 i j hi hj]
  by_cases h1 : j < y ∨ (j = y ∧ i < w)
  · rw [if_pos h1, if_pos (by omega)]
  · rw [if_neg h1, if_neg (by omega)]⟩
theorem Cp.fin {w h : Nat} {d : DotsL} {cur : DotsL} (hd : Sz w h d) (hc : Cp w h d h 0 cur) : cur = d := hc.1.ext hd fun i j hi hj => by
  rw [hc.2 i j hi hj, if_pos (by omega)]
def cF (c : Int) : FD := .c (.int .u8 c)
abbrev Cells := List (List Int)
def cellsF (l : Cells) : List (List FD) := l.map (·.map cF)
def cellsV (l : Cells) : DV := .one (.f (.sl 1 l.length ((cellsF l).map rowF)))
def bitC (c : Int) (k : Nat) : Bool := (IntKind.u8.wrap ((BitVec.ofInt 8 (c.fdiv (2 ^ (min k 8))) &&& BitVec.ofInt 8 1).toNat : Int) == 1)
def bitAt (l : Cells) (x y : Nat) : Bool := match l[y / 3]? with
  | some r => match r[x / 2]? with
    | some c => bitC c (x % 2 * 3 + y % 3)
    | none => false
  | none => false
def fromC (w h : Nat) (l : Cells) : DotsL := (List.range h).map fun y => (List.range w).map fun x => bitAt l x y
theorem fromC_sz (w h : Nat) (l : Cells) : Sz w h (fromC w h l) := ⟨by simp [fromC], fun r hr => by
  simp only [fromC, List.mem_map] at hr
  obtain ⟨y, _, rfl⟩ := hr
  simp⟩
theorem fromC_dot {w h : Nat} (l : Cells) {x y : Nat} (hx : x < w) (hy : y < h) : dot (fromC w h l) x y = bitAt l x y := by
  simp [dot, fromC, hx, hy]
theorem cellsF_at {l : Cells} {y : Nat} {r : List Int} (h : l[y]? = some r) : (cellsF l)[y]? = some (r.map cF) := by simp [cellsF, h]
theorem cF_at {r : List Int} {x : Nat} {b : Int} (h : r[x]? = some b) : (r.map cF)[x]? = some (cF b) := by simp [h]

theorem tm {a : Int} {b : Int} (h : 0 ≤ a) : a.tmod b = a % b := Int.tmod_eq_emod_of_nonneg h
theorem td {a : Int} {b : Int} (h : 0 ≤ a) : a.tdiv b = a / b := Int.tdiv_eq_ediv_of_nonneg h
/-- done: the rows before r; in it the cells before i; in that one the dots before k -/
def Dn (r i k x y : Nat) : Prop := y / 3 < r ∨ (y / 3 = r ∧ (x / 2 < i ∨ (x / 2 = i ∧ x % 2 * 3 + y % 3 < k)))
instance (r i k x y : Nat) : Decidable (Dn r i k x y) := by unfold Dn; infer_instance
def Fc (w h : Nat) (l : Cells) (r i k : Nat) (cur : DotsL) : Prop := Sz w h cur ∧ ∀ x y, x < w → y < h → dot cur x y = if Dn r i k x y then bitAt l x y else false
theorem Fc.start (w h : Nat) (l : Cells) : Fc w h l 0 0 0 (blankD w h) := ⟨Sz.blankD w h, fun x y _ _ => by rw [dot_blank, if_neg (by unfold Dn; omega)]⟩
theorem bit_here {l : Cells} {r i k : Nat} {row : List Int} {c : Int} (h1 : l[r]? = some row) (h2 : row[i]? = some c) (hk : k < 6) {x y : Nat} (hx : x = 2 * i + k / 3) (hy : y = 3 * r + k % 3) : bitAt l x y = bitC c k := by
  have e1 : y / 3 = r := by omega
  have e2 : x / 2 = i := by omega
  have e3 : x % 2 * 3 + y % 3 = k := by omega
  simp only [bitAt, e1, h1, e2, h2, e3]
theorem Fc.step {w h : Nat} {l : Cells} {r i k : Nat} {cur : DotsL} {row : List Int} {c : Int} (hc : Fc w h l r i k cur) (h1 : l[r]? = some row) (h2 : row[i]? = some c) (hk : k < 6) (hw : 2 * i + 1 < w) (hh : 3 * r + 2 < h) : Fc w h l r i (k + 1) (setDot cur (2 * i + k / 3) (3 * r + k % 3) (bitC c k)) := by
  refine ⟨hc.1.set _ _ _, fun x y hx hy => ?_⟩
  rw [dot_set hc.1 (by omega) (by omega)]
  split
  · rename_i e
    rw [if_pos (by unfold Dn; omega), bit_here h1 h2 hk e.1 e.2]
  · rename_i e
    rw [hc.2 x y hx hy]
    by_cases hd : Dn r i k x y
    · rw [if_pos hd, if_pos (by unfold Dn at hd ⊢; omega)]
    · rw [if_neg hd, if_neg (by unfold Dn at hd ⊢; omega)]
theorem Fc.skip {w h : Nat} {l : Cells} {r i k : Nat} {cur : DotsL} {row : List Int} {c : Int} (hc : Fc w h l r i k cur) (h1 : l[r]? = some row) (h2 : row[i]? = some c) (hk : k < 6) (hb : bitC c k = false) : Fc w h l r i (k + 1) cur := by
  refine ⟨hc.1, fun x y hx hy => ?_⟩
  rw [hc.2 x y hx hy]
  by_cases hd : Dn r i k x y
  · rw [if_pos hd, if_pos (by unfold Dn at hd ⊢; omega)]
  · rw [if_neg hd]
    by_cases hd2 : Dn r i (k + 1) x y
    · rw [if_pos hd2, bit_here h1 h2 hk (x := x) (y := y) (by unfold Dn at hd hd2; omega) (by unfold Dn at hd hd2; omega), hb]
    · rw [if_neg hd2]
theorem Fc.cell {w h : Nat} {l : Cells} {r i : Nat} {cur : DotsL} (hc : Fc w h l r i 6 cur) : Fc w h l r (i + 1) 0 cur := ⟨hc.1, fun x y hx hy => by
  rw [hc.2 x y hx hy]
  by_cases hd : Dn r i 6 x y
  · rw [if_pos hd, if_pos (by unfold Dn at hd ⊢; omega)]
  · rw [if_neg hd, if_neg (by unfold Dn at hd ⊢; omega)]⟩
theorem Fc.row {w h : Nat} {l : Cells} {r : Nat} {cur : DotsL} {row : List Int} (h1 : l[r]? = some row) (hc : Fc w h l r row.length 0 cur) : Fc w h l (r + 1) 0 0 cur := ⟨hc.1, fun x y hx hy => by
  rw [hc.2 x y hx hy]
  by_cases hd : Dn r row.length 0 x y
  · rw [if_pos hd, if_pos (by unfold Dn at hd ⊢; omega)]
  · rw [if_neg hd]
    by_cases hd2 : Dn (r + 1) 0 0 x y
    · rw [if_pos hd2]
      have e1 : y / 3 = r := by unfold Dn at hd hd2; omega
      have e2 : row[x / 2]? = none := List.getElem?_eq_none (by unfold Dn at hd hd2; omega)
      simp only [bitAt, e1, h1, e2]
    · rw [if_neg hd2]⟩
theorem Fc.fin {w h : Nat} {l : Cells} {cur : DotsL} (hc : Fc w h l l.length 0 0 cur) : cur = fromC w h l := hc.1.ext (fromC_sz w h l) fun x y hx hy => by
  rw [hc.2 x y hx hy, fromC_dot l hx hy]
  by_cases hd : Dn l.length 0 0 x y
  · rw [if_pos hd]
  · rw [if_neg hd]
    have : l[y / 3]? = none := List.getElem?_eq_none (by unfold Dn at hd; omega)
    simp only [bitAt, this]

def orC (a : Int) (k : Nat) : Int := IntKind.u8.wrap ((BitVec.ofInt 8 a ||| BitVec.ofInt 8 (IntKind.u8.wrap (1 * 2 ^ (min k 8)))).toNat : Int)
def cellUp (d : DotsL) (r i : Nat) : Nat → Int
  | 0 => 0
  | k + 1 => if dot d (2 * i + k / 3) (3 * r + k % 3) = true then orC (cellUp d r i k) k else cellUp d r i k
def rowAt (d : DotsL) (q r i k : Nat) : List Int := (List.range q).map fun t => if t < i then cellUp d r t 6 else if t = i then cellUp d r i k else 0
def toC' (n m : Nat) (d : DotsL) : Cells := (List.range (m / 3)).map fun r => (List.range (n / 2)).map fun i => cellUp d r i 6
theorem rowAt_len (d : DotsL) (q r i k : Nat) : (rowAt d q r i k).length = q := by simp [rowAt]
theorem rowAt_at (d : DotsL) {q r i k t : Nat} (ht : t < q) : (rowAt d q r i k)[t]? = some (if t < i then cellUp d r t 6 else if t = i then cellUp d r i k else 0) := by simp [rowAt, ht]
theorem rowAt_start (d : DotsL) (q r : Nat) : rowAt d q r 0 0 = List.replicate q 0 := by
  refine List.ext_getElem? fun t => ?_
  by_cases ht : t < q
  · rw [rowAt_at d ht, List.getElem?_replicate, if_pos ht, if_neg (by omega)]
    split <;> rfl
  · rw [List.getElem?_eq_none (by rw [rowAt_len]; omega), List.getElem?_eq_none (by simp; omega)]
theorem rowAt_set (d : DotsL) {q r i k : Nat} (hd : dot d (2 * i + k / 3) (3 * r + k % 3) = true) : (rowAt d q r i k).set i (orC (cellUp d r i k) k) = rowAt d q r i (k + 1) := by
  refine List.ext_getElem? fun t => ?_
  by_cases ht : t < q
  · rw [List.getElem?_set, rowAt_at d ht, rowAt_at d ht]
    by_cases e : i = t
    · subst e
      rw [if_pos rfl, if_pos (by rw [rowAt_len]; omega), if_neg (by omega), if_pos rfl, cellUp, if_pos hd]
    · have e' : ¬ t = i := fun h => e h.symm
      rw [if_neg e]
      simp only [if_neg e']
  · rw [List.getElem?_eq_none (by rw [List.length_set, rowAt_len]; omega), List.getElem?_eq_none (by rw [rowAt_len]; omega)]
theorem rowAt_skip (d : DotsL) {q r i k : Nat} (hd : dot d (2 * i + k / 3) (3 * r + k % 3) = false) : rowAt d q r i (k + 1) = rowAt d q r i k := by
  simp only [rowAt, cellUp, hd, Bool.false_eq_true, if_false]
theorem rowAt_next (d : DotsL) (q r i : Nat) : rowAt d q r (i + 1) 0 = rowAt d q r i 6 := by
  refine List.ext_getElem? fun t => ?_
  by_cases ht : t < q
  · rw [rowAt_at d ht, rowAt_at d ht]
    by_cases h1 : t < i
    · rw [if_pos (by omega), if_pos h1]
    · rw [if_neg h1]
      by_cases h2 : t = i
      · subst h2; rw [if_pos (by omega), if_pos rfl]
      · rw [if_neg (by omega), if_neg h2]
        split <;> rfl
  · rw [List.getElem?_eq_none (by rw [rowAt_len]; omega), List.getElem?_eq_none (by rw [rowAt_len]; omega)]
theorem rowAt_fin (d : DotsL) (q r k : Nat) : rowAt d q r q k = (List.range q).map fun i => cellUp d r i 6 := by
  refine List.ext_getElem? fun t => ?_
  by_cases ht : t < q
  · rw [rowAt_at d ht, if_pos ht]; simp [ht]
  · rw [List.getElem?_eq_none (by rw [rowAt_len]; omega), List.getElem?_eq_none (by simp; omega)]
theorem cellsF_set (X : Cells) (y : Nat) (r : List Int) : (cellsF X).set y (r.map cF) = cellsF (X.set y r) := by simp [cellsF, List.map_set]
theorem cellsF_setc {X : Cells} {y : Nat} {r : List Int} (x : Nat) (c : Int) : (cellsF (X.set y r)).set y ((r.map cF).set x (.c (.int .u8 c))) = cellsF (X.set y (r.set x c)) := by
  rw [show (r.map cF).set x (.c (.int .u8 c)) = (r.set x c).map cF by simp [List.map_set, cF], cellsF_set, List.set_set]
theorem cellsF_len (X : Cells) : (cellsF X).length = X.length := by simp [cellsF]
theorem reps_zero (n : Nat) : reps' [.c (.int .u8 0)] n = (List.replicate n (0 : Int)).map cF := by rw [reps'_one]; simp [cF]

def noCells : DV := .tup [.one (.f (.c .nils)), .int 1]
/-- the cell that has the dots b -/
def cellB (b : Nat → Bool) : Nat → Int
  | 0 => 0
  | k + 1 => if b k = true then orC (cellB b k) k else cellB b k
theorem cellUp_B (d : DotsL) (r i : Nat) : ∀ k, cellUp d r i k = cellB (fun k => dot d (2 * i + k / 3) (3 * r + k % 3)) k
  | 0 => rfl
  | k + 1 => by simp only [cellUp, cellB, cellUp_B d r i k]
theorem cellB_congr {b b' : Nat → Bool} : ∀ {k : Nat}, (∀ j, j < k → b j = b' j) → cellB b k = cellB b' k
  | 0, _ => rfl
  | k + 1, h => by
    simp only [cellB]
    rw [cellB_congr (k := k) fun j hj => h j (by omega), h k (by omega)]
theorem cellB_bits : ∀ c : Fin 64, cellB (bitC (c.val : Int)) 6 = (c.val : Int) := by decide +kernel
theorem cellB_none : cellB (fun _ => false) 6 = 0 := rfl
theorem bitC_cellB : ∀ (b0 b1 b2 b3 b4 b5 : Bool) (k : Fin 6), bitC (cellB (fun k => match k with | 0 => b0 | 1 => b1 | 2 => b2 | 3 => b3 | 4 => b4 | _ => b5) 6) k.val = (match k.val with | 0 => b0 | 1 => b1 | 2 => b2 | 3 => b3 | 4 => b4 | _ => b5) := by decide +kernel
theorem cellB_lt : ∀ (b0 b1 b2 b3 b4 b5 : Bool), 0 ≤ cellB (fun k => match k with | 0 => b0 | 1 => b1 | 2 => b2 | 3 => b3 | 4 => b4 | _ => b5) 6 ∧ cellB (fun k => match k with | 0 => b0 | 1 => b1 | 2 => b2 | 3 => b3 | 4 => b4 | _ => b5) 6 < 64 := by decide +kernel
theorem cellUp_from {n m : Nat} {l : Cells} (hp : ∀ r ∈ l, ∀ c ∈ r, 0 ≤ c ∧ c < 64) {r i : Nat} (hr : 3 * r + 2 < m) (hi : 2 * i + 1 < n) : cellUp (fromC n m l) r i 6 = match l[r]? with
    | some row => (row[i]?).getD 0
    | none => 0 := by
  have key : ∀ k, k < 6 → dot (fromC n m l) (2 * i + k / 3) (3 * r + k % 3) = match l[r]? with
      | some row => match row[i]? with
        | some c => bitC c k
        | none => false
      | none => false := fun k hk => by
    rw [fromC_dot l (by omega) (by omega)]
    have e1 : (3 * r + k % 3) / 3 = r := by omega
    have e2 : (2 * i + k / 3) / 2 = i := by omega
    have e3 : (2 * i + k / 3) % 2 * 3 + (3 * r + k % 3) % 3 = k := by omega
    simp only [bitAt, e1, e2, e3]
    try (cases l[r]? with
      | none => rfl
      | some row => cases hri : row[i]? <;> simp only [hri])
  rw [cellUp_B, cellB_congr key]
  cases hrow : l[r]? with
  | none => simp only; exact cellB_none
  | some row =>
    simp only
    cases hc : row[i]? with
    | none => simp only; exact cellB_none
    | some c =>
      simp only [Option.getD_some]
      obtain ⟨h1, h2⟩ := hp row (List.mem_of_getElem? hrow) c (List.mem_of_getElem? hc)
      have := cellB_bits ⟨c.toNat, by omega⟩
      simp only [Int.toNat_of_nonneg h1] at this
      exact this

end Go.Ac

/- Deep contracts: the cells of a grid. -/
namespace Go.Ac
open Go.Ab Go.Proofs
set_option linter.unusedSimpArgs false

theorem d_valid {w h : Nat} {d : DotsL} (hw : w ≤ 200) (hh : h ≤ 200) (hd : Sz w h d) : DK 50 [gridD w h d] fun d => d = .bool true := by
  refine dfn_ok cp50 rfl GHro fun Z0 lo => ?_
  have hl := hd.1
  have g1 : decide ((w : Int) < 0) = false := by simp
  have g2 : decide ((w : Int) > 200) = false := by simp; omega
  have g3 : decide ((h : Int) < 0) = false := by simp
  have g4 : decide ((h : Int) > 200) = false := by simp; omega
  have g5 : (((d.length : Nat) : Int) != (h : Int)) = false := by simp [hl]
  repeat (first | refine dw_want rfl rfl ?_ | refine dw_pickF rfl rfl ?_ | refine dw_pB rfl (by assumption) ?_ | refine dw_p rfl ?_ | refine dw_l rfl ?_ | refine dw_a rfl ?_ | refine dw_nil ?_ | refine ds_seq ?_ | refine ds_ops mix (fun base => ?_))
  refine ds_if rfl (fun ht => by cases ht) (fun _ => ?_)
  repeat (first | refine dw_p rfl ?_ | refine dw_l rfl ?_ | refine dw_nil ?_ | refine ds_seq ?_ | refine ds_ops mix (fun base => ?_) | refine ds_skip ?_ | refine ds_block ?_)
  refine ds_loop (fun m E S nk => ∃ k : Nat, k + m = d.length ∧ E = [(1, .one (.ptr 0 0)), (32, .one (.f (.sl 1 d.length ((rowsF d).map rowF)))), (33, .int d.length), (34, .int k)] ∧ S = [(0, .cells [.f (.c (.int .i64 w)), .f (.c (.int .i64 h)), .f (.sl 1 d.length ((rowsF d).map rowF))])] ∧ nk = 1) ⟨d.length, _, _, _, [], ?wk, 0, by omega, rfl, rfl, rfl⟩ ?_
  case wk => exact ⟨by repeat (first | exact trivial | refine ⟨by first | rfl | exact congrArg (fun z => some (DV.int z)) (dwrap (by omega) (by omega)), rfl, ?_⟩), by repeat (first | exact trivial | refine ⟨by first | rfl | exact congrArg (fun z => some (Bk.data z)) (by assumption), rfl, rfl, ?_⟩), rfl, rfl⟩
  rintro m E S nk ⟨k, hk, rfl, rfl, rfl⟩
  repeat (first | refine dw_p rfl ?_ | refine dw_nil ?_ | refine ds_seq ?_ | refine ds_ops mix (fun base => ?_))
  refine ds_if rfl (fun ht => ?_) (fun ht => ?_)
  · simp at ht
    obtain ⟨r, hr, hrl⟩ := hd.row (y := k) (by omega)
    have e1 := rowF_at (rowsF_at hr)
    have e2 : ((((r.map boF).length : Nat) : Int) != (w : Int)) = false := by simp [hrl]
    repeat (first | refine dw_pB rfl (by assumption) ?_ | refine dw_p rfl ?_ | refine dw_l rfl ?_ | refine dw_if rfl rfl (by omega) (by decide) (by assumption) ?_ | refine dw_nil ?_ | refine ds_seq ?_ | refine ds_ops mix (fun base => ?_) | refine ds_skip ?_ | refine ds_block ?_)
    refine ds_if rfl (fun ht => by cases ht) (fun _ => ?_)
    repeat (first | refine dw_p rfl ?_ | refine dw_nil ?_ | refine ds_ops mix (fun base => ?_) | refine ds_skip ?_)
    refine ⟨m - 1, by omega, _, _, _, [], ?wk1, k + 1, by omega, rfl, rfl, rfl⟩
    case wk1 => exact ⟨by repeat (first | exact trivial | refine ⟨by first | rfl | exact congrArg (fun z => some (DV.int z)) (dwrap (by omega) (by omega)), rfl, ?_⟩), by repeat (first | exact trivial | refine ⟨by first | rfl | exact congrArg (fun z => some (Bk.data z)) (by assumption), rfl, rfl, ?_⟩), rfl, rfl⟩
  · simp at ht
    repeat (first | refine dw_p rfl ?_ | refine dw_nil ?_ | refine ds_seq ?_ | refine ds_ops mix (fun base => ?_) | refine ds_exit ?_)
    exact ds_ret ⟨_, rfl, rfl, rfl⟩

set_option maxHeartbeats 8000000 in
theorem d_to {n m : Nat} {d : DotsL} (hn : n ≤ 200) (hm : m ≤ 200) (hd : Sz n m d) : DK 42 [gridD n m d] fun e => (n % 2 = 0 ∧ m % 3 = 0 ∧ e = .tup [cellsV (toC' n m d), .int 0]) ∨ (¬ (n % 2 = 0 ∧ m % 3 = 0) ∧ e = noCells) := by
  refine dfn_ok cp42 rfl GHro fun Z0 lo => ?_
  repeat (first | refine dw_p rfl ?_ | refine dw_l rfl ?_ | refine dw_a rfl ?_ | refine dw_nil ?_ | refine ds_seq ?_ | refine ds_ops mix (fun base => ?_))
  refine dw_cf rfl rfl (d_valid hn hm hd) ?_
  rintro _ rfl
  repeat (first | refine dw_want rfl rfl ?_ | refine dw_pickF rfl rfl ?_ | refine dw_pick rfl (by first | exact fun _ => rfl | exact fun h => (by simp only [if_pos h]; rfl) | exact fun h => (by simp only [h, if_true, if_false]; rfl)) (by first | exact fun _ => rfl | exact fun h => (by simp only [if_pos h]; rfl) | exact fun h => (by simp only [h, if_true, if_false]; rfl)) ?_ | refine dw_p rfl ?_ | refine dw_l rfl ?_ | refine dw_pg rfl (by first | exact fun _ => rfl | exact fun h => (by simp only [if_pos h]; rfl) | exact fun h => (by simp only [h, if_true, if_false]; rfl)) ?_ | refine dw_lg rfl (by first | exact fun _ => rfl | exact fun h => (by simp only [if_pos h]; rfl) | exact fun h => (by simp only [h, if_true, if_false]; rfl)) ?_ | refine dw_nil ?_)
  refine ds_if rfl (fun ht => ?_) (fun ht => ?_)
  · simp only [Bool.if_true_left, Bool.or_eq_true, Bool.or_eq_false_iff, decide_eq_true_eq, decide_eq_false_iff_not, tm (Int.natCast_nonneg n), tm (Int.natCast_nonneg m), bne_iff_ne] at ht
    repeat (first | refine dw_p rfl ?_ | refine dw_nil ?_ | refine ds_seq ?_ | refine ds_ops mix (fun base => ?_))
    exact ds_ret ⟨_, rfl, rfl, .inr ⟨by omega, rfl⟩⟩
  · have ht' : ¬ _ := fun h => Bool.false_ne_true (ht.symm.trans h)
    simp only [Bool.if_true_left, Bool.or_eq_true, decide_eq_true_eq, tm (Int.natCast_nonneg n), tm (Int.natCast_nonneg m), bne_iff_ne] at ht'
    have hn2 : n % 2 = 0 := by omega
    have hm3 : m % 3 = 0 := by omega
    clear ht ht'
    have hdl := hd.1
    have hw2 : IntKind.i64.wrap ((n : Int).tdiv 2) = ((n / 2 : Nat) : Int) := by rw [td (by omega), dwrap (by omega) (by omega)]; omega
    have hw3 : IntKind.i64.wrap ((m : Int).tdiv 3) = ((m / 3 : Nat) : Int) := by rw [td (by omega), dwrap (by omega) (by omega)]; omega
    repeat (first | refine dw_p rfl ?_ | refine dw_l rfl ?_ | refine ds_seq ?_ | refine ds_ops mix (fun base => ?_) | refine ds_skip ?_)
    rw [hw3]
    refine dw_mkt (n := m / 3) rfl rfl (by omega) (by omega) ?_
    repeat (first | refine dw_p rfl ?_ | refine dw_nil ?_ | refine ds_seq ?_ | refine ds_ops mix (fun base => ?_) | refine ds_block ?_)
    refine ds_keep (SubA.cons (k := 1) rfl (SubA.cons (k := 4) rfl (SubA.cons (k := 28) rfl (SubA.cons (k := 29) rfl (SubA.nil _))))) (SubA.refl _) ?_
    refine ds_loop (fun k E S nk => ∃ r : Nat, r + k = m / 3 ∧ ∃ cur : Cells, cur.length = m / 3 ∧ (∀ j, j < r → cur[j]? = some ((List.range (n / 2)).map fun i => cellUp d j i 6)) ∧ E = [(1, .one (.ptr 0 0)), (4, .one (.own 1 0 (m / 3) 1)), (28, .int (m / 3 : Nat)), (29, .int r)] ∧ S = [(0, .cells [.f (.c (.int .i64 n)), .f (.c (.int .i64 m)), .f (.sl 1 d.length ((rowsF d).map rowF))]), (1, .tree (cellsF cur))] ∧ nk = 2) ⟨m / 3, _, _, _, [], ?wk, 0, by omega, List.replicate (m / 3) [], by simp, by omega, rfl, rfl, rfl⟩ ?_
    case wk => exact ⟨by repeat (first | exact trivial | refine ⟨rfl, rfl, ?_⟩), ⟨rfl, rfl, rfl, congrArg (fun z => some (Bk.tree z)) (by simp [cellsF]), rfl, rfl, trivial⟩, rfl, rfl⟩
    rintro k E S nk ⟨r, hr, cur, hcl, hcur, rfl, rfl, rfl⟩
    repeat (first | refine dw_p rfl ?_ | refine dw_nil ?_ | refine ds_seq ?_ | refine ds_ops mix (fun base => ?_))
    refine ds_if rfl (fun ht => ?_) (fun ht => ?_)
    · simp at ht
      have ht : r < m / 3 := by omega
      repeat (first | refine dw_p rfl ?_ | refine dw_l rfl ?_ | refine dw_nil ?_ | refine ds_seq ?_ | refine ds_ops mix (fun base => ?_) | refine ds_skip ?_ | refine ds_block ?_)
      rw [hw2]
      refine dw_mk [.c (.int .u8 0)] rfl rfl ⟨rfl, rfl, trivial⟩ rfl (by decide) (Nat.le_refl _) (by omega) (by omega) ?_
      repeat (first | refine dw_io1 rfl rfl (by omega) (by omega) ?_)
      refine dw_strow (o := r) rfl rfl rfl rfl (by rw [reps'_len]; simp) (by rw [cellsF_len]; omega) rfl ?_
      rw [reps_zero, cellsF_set, ← rowAt_start d (n / 2) r]
      have hget : ∀ row, (cur.set r row)[r]? = some row := fun row => by rw [List.getElem?_set, if_pos rfl, if_pos (by omega)]
      have e1 := cellsF_at (hget (rowAt d (n / 2) r 0 0))
      repeat (first | refine dw_p rfl ?_ | refine dw_io1 rfl rfl (by omega) (by omega) ?_ | refine dw_l (dload_tree rfl rfl (by assumption)) ?_ | refine dw_nil ?_ | refine ds_seq ?_ | refine ds_ops mix (fun base => ?_) | refine ds_block ?_)
      refine ds_keep (SubA.cons (k := 1) rfl (SubA.cons (k := 4) rfl (SubA.cons (k := 5) rfl (SubA.cons (k := 28) rfl (SubA.cons (k := 29) rfl (SubA.cons (k := 43) rfl (SubA.cons (k := 44) rfl (SubA.nil _)))))))) (SubA.refl _) ?_
      refine ds_loop (fun k2 E S nk => ∃ i : Nat, i + k2 = n / 2 ∧ E = [(1, .one (.ptr 0 0)), (4, .one (.own 3 0 (m / 3) 1)), (5, .int r), (28, .int (m / 3 : Nat)), (29, .int r), (43, .int (n / 2 : Nat)), (44, .int i)] ∧ S = [(0, .cells [.f (.c (.int .i64 n)), .f (.c (.int .i64 m)), .f (.sl 1 d.length ((rowsF d).map rowF))]), (3, .tree (cellsF (cur.set r (rowAt d (n / 2) r i 0))))] ∧ nk = 4) ⟨n / 2, _, _, _, [], ?wk1, 0, by omega, rfl, rfl, rfl⟩ ?_
      case wk1 => exact ⟨⟨rfl, rfl, rfl, rfl, rfl, rfl, rfl, rfl, rfl, rfl, congrArg (fun z : Nat => some (DV.int z)) (by simp [rowAt_len]), rfl, rfl, rfl, trivial⟩, by repeat (first | exact trivial | refine ⟨rfl, rfl, rfl, ?_⟩), rfl, rfl⟩
      rintro k2 E S nk ⟨i, hi, rfl, rfl, rfl⟩
      repeat (first | refine dw_p rfl ?_ | refine dw_nil ?_ | refine ds_seq ?_ | refine ds_ops mix (fun base => ?_))
      refine ds_if rfl (fun ht3 => ?_) (fun ht3 => ?_)
      · simp at ht3
        have ht3 : i < n / 2 := by omega
        repeat (first | refine dw_p rfl ?_ | refine dw_nil ?_ | refine ds_seq ?_ | refine ds_ops mix (fun base => ?_) | refine ds_skip ?_ | refine ds_block ?_)
        refine ds_keep (SubA.cons (k := 1) rfl (SubA.cons (k := 4) rfl (SubA.cons (k := 5) rfl (SubA.cons (k := 6) rfl (SubA.cons (k := 28) rfl (SubA.cons (k := 29) rfl (SubA.cons (k := 43) rfl (SubA.cons (k := 44) rfl (SubA.cons (k := 47) rfl (SubA.nil _)))))))))) (SubA.refl _) ?_
        refine ds_loop (fun k3 E S nk => ∃ j : Nat, j + k3 = 6 ∧ E = [(1, .one (.ptr 0 0)), (4, .one (.own 3 0 (m / 3) 1)), (5, .int r), (6, .int i), (28, .int (m / 3 : Nat)), (29, .int r), (43, .int (n / 2 : Nat)), (44, .int i), (47, .int j)] ∧ S = [(0, .cells [.f (.c (.int .i64 n)), .f (.c (.int .i64 m)), .f (.sl 1 d.length ((rowsF d).map rowF))]), (3, .tree (cellsF (cur.set r (rowAt d (n / 2) r i j))))] ∧ nk = 4) ⟨6, _, _, _, [], ?wk2, 0, by omega, rfl, rfl, rfl⟩ ?_
        case wk2 => exact ⟨by repeat (first | exact trivial | refine ⟨by first | rfl | exact congrArg (fun z => some (DV.int z)) (dwrap (by omega) (by omega)), rfl, ?_⟩), by repeat (first | exact trivial | refine ⟨by first | rfl | exact congrArg (fun z => some (Bk.data z)) (by assumption), rfl, rfl, ?_⟩), rfl, rfl⟩
        rintro k3 E S nk ⟨j, hj, rfl, rfl, rfl⟩
        repeat (first | refine dw_p rfl ?_ | refine dw_nil ?_ | refine ds_seq ?_ | refine ds_ops mix (fun base => ?_))
        refine ds_if rfl (fun ht5 => ?_) (fun ht5 => ?_)
        · simp at ht5
          have hy : 3 * r + j % 3 < m := by omega
          have hx : 2 * i + j / 3 < n := by omega
          obtain ⟨q, hq, hql, hqx⟩ := hd.cell hx hy
          have e2 := rowF_at (rowsF_at hq)
          have e3 := one_at (boF_at hqx)
          have l2 : 2 * i + j / 3 < (q.map boF).length := by simp; omega
          have e4 := cellsF_at (hget (rowAt d (n / 2) r i j))
          have e5 := cF_at (show (rowAt d (n / 2) r i j)[i]? = some (cellUp d r i j) by rw [rowAt_at d ht3, if_neg (by omega), if_pos rfl])
          have l3 : i < ((rowAt d (n / 2) r i j).map cF).length := by rw [List.length_map, rowAt_len]; exact ht3
          have hset := cellsF_setc (X := cur) (y := r) (r := rowAt d (n / 2) r i j) i (orC (cellUp d r i j) j)
          have hst := rowAt_set d (q := n / 2) (r := r) (i := i) (k := j)
          have hsk := rowAt_skip d (q := n / 2) (r := r) (i := i) (k := j)
          have w1 : IntKind.i64.wrap (3 * (r : Int)) = ((3 * r : Nat) : Int) := by rw [dwrap (by omega) (by omega)]; omega
          have w2 : IntKind.i64.wrap (2 * (i : Int)) = ((2 * i : Nat) : Int) := by rw [dwrap (by omega) (by omega)]; omega
          have hj6 : j = 0 ∨ j = 1 ∨ j = 2 ∨ j = 3 ∨ j = 4 ∨ j = 5 := by omega
          rcases hj6 with rfl | rfl | rfl | rfl | rfl | rfl
          · have w3 : IntKind.i64.wrap (((3 * r : Nat) : Int) + 0) = ((3 * r + 0 % 3 : Nat) : Int) := by rw [dwrap (by omega) (by omega)]; omega
            have w4 : IntKind.i64.wrap (((2 * i : Nat) : Int) + 0) = ((2 * i + 0 / 3 : Nat) : Int) := by rw [dwrap (by omega) (by omega)]; omega
            repeat (first | refine dw_p rfl ?_ | refine dw_l rfl ?_ | refine dw_nil ?_ | refine ds_seq ?_ | refine ds_ops mix (fun base => ?_) | refine ds_skip ?_ | refine ds_block ?_)
            rw [w1, w3]
            repeat (first | refine dw_p rfl ?_ | refine dw_l rfl ?_ | refine dw_if rfl rfl (by omega) (by decide) (by assumption) ?_)
            rw [w2, w4]
            repeat (first | refine dw_l rfl ?_ | refine dw_if rfl rfl (by omega) (by decide) (by assumption) ?_ | refine dw_nil ?_)
            refine ds_if (t := dot d (2 * i + 0 / 3) (3 * r + 0 % 3)) rfl (fun hb => ?_) (fun hb => ?_)
            · repeat (first | refine dw_p rfl ?_ | refine dw_io1 rfl rfl (by omega) (by omega) ?_ | refine dw_it0 rfl rfl (by omega) (by omega) ?_ | refine dw_l (dload_tree rfl rfl (by assumption)) ?_ | refine dw_l (dload_tptr rfl rfl (by assumption) (by assumption)) ?_ | refine ds_ops mix (fun base => ?_))
              refine dw_stt (i := r) (o := i) (x := .c (.int .u8 (orC (cellUp d r i 0) 0))) rfl rfl rfl e4 l3 rfl ?_
              rw [hset, hst hb]
              repeat (first | refine dw_p rfl ?_ | refine dw_nil ?_ | refine ds_ops mix (fun base => ?_))
              refine ⟨k3 - 1, by omega, _, _, _, [], ?wk3, 0 + 1, by omega, rfl, rfl, rfl⟩
              case wk3 => exact ⟨by repeat (first | exact trivial | refine ⟨by first | rfl | exact congrArg (fun z => some (DV.int z)) (dwrap (by omega) (by omega)), rfl, ?_⟩), by repeat (first | exact trivial | refine ⟨by first | rfl | exact congrArg (fun z => some (Bk.data z)) (by assumption), rfl, rfl, ?_⟩), rfl, rfl⟩
            · rw [← hsk hb]
              repeat (first | refine dw_p rfl ?_ | refine dw_nil ?_ | refine ds_ops mix (fun base => ?_) | refine ds_skip ?_)
              refine ⟨k3 - 1, by omega, _, _, _, [], ?wk3, 0 + 1, by omega, rfl, rfl, rfl⟩
              case wk3 => exact ⟨by repeat (first | exact trivial | refine ⟨by first | rfl | exact congrArg (fun z => some (DV.int z)) (dwrap (by omega) (by omega)), rfl, ?_⟩), by repeat (first | exact trivial | refine ⟨by first | rfl | exact congrArg (fun z => some (Bk.data z)) (by assumption), rfl, rfl, ?_⟩), rfl, rfl⟩
          · have w3 : IntKind.i64.wrap (((3 * r : Nat) : Int) + 1) = ((3 * r + 1 % 3 : Nat) : Int) := by rw [dwrap (by omega) (by omega)]; omega
            have w4 : IntKind.i64.wrap (((2 * i : Nat) : Int) + 0) = ((2 * i + 1 / 3 : Nat) : Int) := by rw [dwrap (by omega) (by omega)]; omega
            repeat (first | refine dw_p rfl ?_ | refine dw_l rfl ?_ | refine dw_nil ?_ | refine ds_seq ?_ | refine ds_ops mix (fun base => ?_) | refine ds_skip ?_ | refine ds_block ?_)
            rw [w1, w3]
            repeat (first | refine dw_p rfl ?_ | refine dw_l rfl ?_ | refine dw_if rfl rfl (by omega) (by decide) (by assumption) ?_)
            rw [w2, w4]
            repeat (first | refine dw_l rfl ?_ | refine dw_if rfl rfl (by omega) (by decide) (by assumption) ?_ | refine dw_nil ?_)
            refine ds_if (t := dot d (2 * i + 1 / 3) (3 * r + 1 % 3)) rfl (fun hb => ?_) (fun hb => ?_)
            · repeat (first | refine dw_p rfl ?_ | refine dw_io1 rfl rfl (by omega) (by omega) ?_ | refine dw_it0 rfl rfl (by omega) (by omega) ?_ | refine dw_l (dload_tree rfl rfl (by assumption)) ?_ | refine dw_l (dload_tptr rfl rfl (by assumption) (by assumption)) ?_ | refine ds_ops mix (fun base => ?_))
              refine dw_stt (i := r) (o := i) (x := .c (.int .u8 (orC (cellUp d r i 1) 1))) rfl rfl rfl e4 l3 rfl ?_
              rw [hset, hst hb]
              repeat (first | refine dw_p rfl ?_ | refine dw_nil ?_ | refine ds_ops mix (fun base => ?_))
              refine ⟨k3 - 1, by omega, _, _, _, [], ?wk3, 1 + 1, by omega, rfl, rfl, rfl⟩
              case wk3 => exact ⟨by repeat (first | exact trivial | refine ⟨by first | rfl | exact congrArg (fun z => some (DV.int z)) (dwrap (by omega) (by omega)), rfl, ?_⟩), by repeat (first | exact trivial | refine ⟨by first | rfl | exact congrArg (fun z => some (Bk.data z)) (by assumption), rfl, rfl, ?_⟩), rfl, rfl⟩
            · rw [← hsk hb]
              repeat (first | refine dw_p rfl ?_ | refine dw_nil ?_ | refine ds_ops mix (fun base => ?_) | refine ds_skip ?_)
              refine ⟨k3 - 1, by omega, _, _, _, [], ?wk3, 1 + 1, by omega, rfl, rfl, rfl⟩
              case wk3 => exact ⟨by repeat (first | exact trivial | refine ⟨by first | rfl | exact congrArg (fun z => some (DV.int z)) (dwrap (by omega) (by omega)), rfl, ?_⟩), by repeat (first | exact trivial | refine ⟨by first | rfl | exact congrArg (fun z => some (Bk.data z)) (by assumption), rfl, rfl, ?_⟩), rfl, rfl⟩
          · have w3 : IntKind.i64.wrap (((3 * r : Nat) : Int) + 2) = ((3 * r + 2 % 3 : Nat) : Int) := by rw [dwrap (by omega) (by omega)]; omega
            have w4 : IntKind.i64.wrap (((2 * i : Nat) : Int) + 0) = ((2 * i + 2 / 3 : Nat) : Int) := by rw [dwrap (by omega) (by omega)]; omega
            repeat (first | refine dw_p rfl ?_ | refine dw_l rfl ?_ | refine dw_nil ?_ | refine ds_seq ?_ | refine ds_ops mix (fun base => ?_) | refine ds_skip ?_ | refine ds_block ?_)
            rw [w1, w3]
            repeat (first | refine dw_p rfl ?_ | refine dw_l rfl ?_ | refine dw_if rfl rfl (by omega) (by decide) (by assumption) ?_)
            rw [w2, w4]
            repeat (first | refine dw_l rfl ?_ | refine dw_if rfl rfl (by omega) (by decide) (by assumption) ?_ | refine dw_nil ?_)
            refine ds_if (t := dot d (2 * i + 2 / 3) (3 * r + 2 % 3)) rfl (fun hb => ?_) (fun hb => ?_)
            · repeat (first | refine dw_p rfl ?_ | refine dw_io1 rfl rfl (by omega) (by omega) ?_ | refine dw_it0 rfl rfl (by omega) (by omega) ?_ | refine dw_l (dload_tree rfl rfl (by assumption)) ?_ | refine dw_l (dload_tptr rfl rfl (by assumption) (by assumption)) ?_ | refine ds_ops mix (fun base => ?_))
              refine dw_stt (i := r) (o := i) (x := .c (.int .u8 (orC (cellUp d r i 2) 2))) rfl rfl rfl e4 l3 rfl ?_
              rw [hset, hst hb]
              repeat (first | refine dw_p rfl ?_ | refine dw_nil ?_ | refine ds_ops mix (fun base => ?_))
              refine ⟨k3 - 1, by omega, _, _, _, [], ?wk3, 2 + 1, by omega, rfl, rfl, rfl⟩
              case wk3 => exact ⟨by repeat (first | exact trivial | refine ⟨by first | rfl | exact congrArg (fun z => some (DV.int z)) (dwrap (by omega) (by omega)), rfl, ?_⟩), by repeat (first | exact trivial | refine ⟨by first | rfl | exact congrArg (fun z => some (Bk.data z)) (by assumption), rfl, rfl, ?_⟩), rfl, rfl⟩
            · rw [← hsk hb]
              repeat (first | refine dw_p rfl ?_ | refine dw_nil ?_ | refine ds_ops mix (fun base => ?_) | refine ds_skip ?_)
              refine ⟨k3 - 1, by omega, _, _, _, [], ?wk3, 2 + 1, by omega, rfl, rfl, rfl⟩
              case wk3 => exact ⟨by repeat (first | exact trivial | refine ⟨by first | rfl | exact congrArg (fun z => some (DV.int z)) (dwrap (by omega) (by omega)), rfl, ?_⟩), by repeat (first | exact trivial | refine ⟨by first | rfl | exact congrArg (fun z => some (Bk.data z)) (by assumption), rfl, rfl, ?_⟩), rfl, rfl⟩
          · have w3 : IntKind.i64.wrap (((3 * r : Nat) : Int) + 0) = ((3 * r + 3 % 3 : Nat) : Int) := by rw [dwrap (by omega) (by omega)]; omega
            have w4 : IntKind.i64.wrap (((2 * i : Nat) : Int) + 1) = ((2 * i + 3 / 3 : Nat) : Int) := by rw [dwrap (by omega) (by omega)]; omega
            repeat (first | refine dw_p rfl ?_ | refine dw_l rfl ?_ | refine dw_nil ?_ | refine ds_seq ?_ | refine ds_ops mix (fun base => ?_) | refine ds_skip ?_ | refine ds_block ?_)
            rw [w1, w3]
            repeat (first | refine dw_p rfl ?_ | refine dw_l rfl ?_ | refine dw_if rfl rfl (by omega) (by decide) (by assumption) ?_)
            rw [w2, w4]
            repeat (first | refine dw_l rfl ?_ | refine dw_if rfl rfl (by omega) (by decide) (by assumption) ?_ | refine dw_nil ?_)
            refine ds_if (t := dot d (2 * i + 3 / 3) (3 * r + 3 % 3)) rfl (fun hb => ?_) (fun hb => ?_)
            · repeat (first | refine dw_p rfl ?_ | refine dw_io1 rfl rfl (by omega) (by omega) ?_ | refine dw_it0 rfl rfl (by omega) (by omega) ?_ | refine dw_l (dload_tree rfl rfl (by assumption)) ?_ | refine dw_l (dload_tptr rfl rfl (by assumption) (by assumption)) ?_ | refine ds_ops mix (fun base => ?_))
              refine dw_stt (i := r) (o := i) (x := .c (.int .u8 (orC (cellUp d r i 3) 3))) rfl rfl rfl e4 l3 rfl ?_
              rw [hset, hst hb]
              repeat (first | refine dw_p rfl ?_ | refine dw_nil ?_ | refine ds_ops mix (fun base => ?_))
              refine ⟨k3 - 1, by omega, _, _, _, [], ?wk3, 3 + 1, by omega, rfl, rfl, rfl⟩
              case wk3 => exact ⟨by repeat (first | exact trivial | refine ⟨by first | rfl | exact congrArg (fun z => some (DV.int z)) (dwrap (by omega) (by omega)), rfl, ?_⟩), by repeat (first | exact trivial | refine ⟨by first | rfl | exact congrArg (fun z => some (Bk.data z)) (by assumption), rfl, rfl, ?_⟩), rfl, rfl⟩
            · rw [← hsk hb]
              repeat (first | refine dw_p rfl ?_ | refine dw_nil ?_ | refine ds_ops mix (fun base => ?_) | refine ds_skip ?_)
              refine ⟨k3 - 1, by omega, _, _, _, [], ?wk3, 3 + 1, by omega, rfl, rfl, rfl⟩
              case wk3 => exact ⟨by repeat (first | exact trivial | refine ⟨by first | rfl | exact congrArg (fun z => some (DV.int z)) (dwrap (by omega) (by omega)), rfl, ?_⟩), by repeat (first | exact trivial | refine ⟨by first | rfl | exact congrArg (fun z => some (Bk.data z)) (by assumption), rfl, rfl, ?_⟩), rfl, rfl⟩
          · have w3 : IntKind.i64.wrap (((3 * r : Nat) : Int) + 1) = ((3 * r + 4 % 3 : Nat) : Int) := by rw [dwrap (by omega) (by omega)]; omega
            have w4 : IntKind.i64.wrap (((2 * i : Nat) : Int) + 1) = ((2 * i + 4 / 3 : Nat) : Int) := by rw [dwrap (by omega) (by omega)]; omega
            repeat (first | refine dw_p rfl ?_ | refine dw_l rfl ?_ | refine dw_nil ?_ | refine ds_seq ?_ | refine ds_ops mix (fun base => ?_) | refine ds_skip ?_ | refine ds_block ?_)
            rw [w1, w3]
            repeat (first | refine dw_p rfl ?_ | refine dw_l rfl ?_ | refine dw_if rfl rfl (by omega) (by decide) (by assumption) ?_)
            rw [w2, w4]
            repeat (first | refine dw_l rfl ?_ | refine dw_if rfl rfl (by omega) (by decide) (by assumption) ?_ | refine dw_nil ?_)
            refine ds_if (t := dot d (2 * i + 4 / 3) (3 * r + 4 % 3)) rfl (fun hb => ?_) (fun hb => ?_)
            · repeat (first | refine dw_p rfl ?_ | refine dw_io1 rfl rfl (by omega) (by omega) ?_ | refine dw_it0 rfl rfl (by omega) (by omega) ?_ | refine dw_l (dload_tree rfl rfl (by assumption)) ?_ | refine dw_l (dload_tptr rfl rfl (by assumption) (by assumption)) ?_ | refine ds_ops mix (fun base => ?_))
              refine dw_stt (i := r) (o := i) (x := .c (.int .u8 (orC (cellUp d r i 4) 4))) rfl rfl rfl e4 l3 rfl ?_
              rw [hset, hst hb]
              repeat (first | refine dw_p rfl ?_ | refine dw_nil ?_ | refine ds_ops mix (fun base => ?_))
              refine ⟨k3 - 1, by omega, _, _, _, [], ?wk3, 4 + 1, by omega, rfl, rfl, rfl⟩
              case wk3 => exact ⟨by repeat (first | exact trivial | refine ⟨by first | rfl | exact congrArg (fun z => some (DV.int z)) (dwrap (by omega) (by omega)), rfl, ?_⟩), by repeat (first | exact trivial | refine ⟨by first | rfl | exact congrArg (fun z => some (Bk.data z)) (by assumption), rfl, rfl, ?_⟩), rfl, rfl⟩
            · rw [← hsk hb]
              repeat (first | refine dw_p rfl ?_ | refine dw_nil ?_ | refine ds_ops mix (fun base => ?_) | refine ds_skip ?_)
              refine ⟨k3 - 1, by omega, _, _, _, [], ?wk3, 4 + 1, by omega, rfl, rfl, rfl⟩
              case wk3 => exact ⟨by repeat (first | exact trivial | refine ⟨by first | rfl | exact congrArg (fun z => some (DV.int z)) (dwrap (by omega) (by omega)), rfl, ?_⟩), by repeat (first | exact trivial | refine ⟨by first | rfl | exact congrArg (fun z => some (Bk.data z)) (by assumption), rfl, rfl, ?_⟩), rfl, rfl⟩
          · have w3 : IntKind.i64.wrap (((3 * r : Nat) : Int) + 2) = ((3 * r + 5 % 3 : Nat) : Int) := by rw [dwrap (by omega) (by omega)]; omega
            have w4 : IntKind.i64.wrap (((2 * i : Nat) : Int) + 1) = ((2 * i + 5 / 3 : Nat) : Int) := by rw [dwrap (by omega) (by omega)]; omega
            repeat (first | refine dw_p rfl ?_ | refine dw_l rfl ?_ | refine dw_nil ?_ | refine ds_seq ?_ | refine ds_ops mix (fun base => ?_) | refine ds_skip ?_ | refine ds_block ?_)
            rw [w1, w3]
            repeat (first | refine dw_p rfl ?_ | refine dw_l rfl ?_ | refine dw_if rfl rfl (by omega) (by decide) (by assumption) ?_)
            rw [w2, w4]
            repeat (first | refine dw_l rfl ?_ | refine dw_if rfl rfl (by omega) (by decide) (by assumption) ?_ | refine dw_nil ?_)
            refine ds_if (t := dot d (2 * i + 5 / 3) (3 * r + 5 % 3)) rfl (fun hb => ?_) (fun hb => ?_)
            · repeat (first | refine dw_p rfl ?_ | refine dw_io1 rfl rfl (by omega) (by omega) ?_ | refine dw_it0 rfl rfl (by omega) (by omega) ?_ | refine dw_l (dload_tree rfl rfl (by assumption)) ?_ | refine dw_l (dload_tptr rfl rfl (by assumption) (by assumption)) ?_ | refine ds_ops mix (fun base => ?_))
              refine dw_stt (i := r) (o := i) (x := .c (.int .u8 (orC (cellUp d r i 5) 5))) rfl rfl rfl e4 l3 rfl ?_
              rw [hset, hst hb]
              repeat (first | refine dw_p rfl ?_ | refine dw_nil ?_ | refine ds_ops mix (fun base => ?_))
              refine ⟨k3 - 1, by omega, _, _, _, [], ?wk3, 5 + 1, by omega, rfl, rfl, rfl⟩
              case wk3 => exact ⟨by repeat (first | exact trivial | refine ⟨by first | rfl | exact congrArg (fun z => some (DV.int z)) (dwrap (by omega) (by omega)), rfl, ?_⟩), by repeat (first | exact trivial | refine ⟨by first | rfl | exact congrArg (fun z => some (Bk.data z)) (by assumption), rfl, rfl, ?_⟩), rfl, rfl⟩
            · rw [← hsk hb]
              repeat (first | refine dw_p rfl ?_ | refine dw_nil ?_ | refine ds_ops mix (fun base => ?_) | refine ds_skip ?_)
              refine ⟨k3 - 1, by omega, _, _, _, [], ?wk3, 5 + 1, by omega, rfl, rfl, rfl⟩
              case wk3 => exact ⟨by repeat (first | exact trivial | refine ⟨by first | rfl | exact congrArg (fun z => some (DV.int z)) (dwrap (by omega) (by omega)), rfl, ?_⟩), by repeat (first | exact trivial | refine ⟨by first | rfl | exact congrArg (fun z => some (Bk.data z)) (by assumption), rfl, rfl, ?_⟩), rfl, rfl⟩
        · simp at ht5
          obtain rfl : j = 6 := by omega
          rw [← rowAt_next]
          repeat (first | refine dw_p rfl ?_ | refine dw_nil ?_ | refine ds_ops mix (fun base => ?_) | refine ds_exit ?_)
          refine ⟨k2 - 1, by omega, _, _, _, [], ?wk4, i + 1, by omega, rfl, rfl, rfl⟩
          case wk4 => exact ⟨by repeat (first | exact trivial | refine ⟨by first | rfl | exact congrArg (fun z => some (DV.int z)) (dwrap (by omega) (by omega)), rfl, ?_⟩), by repeat (first | exact trivial | refine ⟨by first | rfl | exact congrArg (fun z => some (Bk.data z)) (by assumption), rfl, rfl, ?_⟩), rfl, rfl⟩
      · simp at ht3
        obtain rfl : i = n / 2 := by omega
        rw [rowAt_fin]
        repeat (first | refine dw_p rfl ?_ | refine dw_nil ?_ | refine ds_ops mix (fun base => ?_) | refine ds_exit ?_)
        refine ⟨k - 1, by omega, _, _, _, [(1, 3)], ?wk5, r + 1, by omega, cur.set r ((List.range (n / 2)).map fun i => cellUp d r i 6), by simpa using hcl, fun t ht => ?_, rfl, rfl, rfl⟩
        case wk5 => exact ⟨by repeat (first | exact trivial | refine ⟨by first | rfl | exact congrArg (fun z => some (DV.int z)) (dwrap (by omega) (by omega)), rfl, ?_⟩), by repeat (first | exact trivial | refine ⟨by first | rfl | exact congrArg (fun z => some (Bk.data z)) (by assumption), rfl, rfl, ?_⟩), rfl, rfl⟩
        rw [List.getElem?_set]
        by_cases e : r = t
        · subst e; rw [if_pos rfl, if_pos (by omega)]
        · rw [if_neg e]; exact hcur t (by omega)
    · simp at ht
      obtain rfl : r = m / 3 := by omega
      have hfin : cur = toC' n m d := by
        refine List.ext_getElem? fun t => ?_
        by_cases ht : t < m / 3
        · rw [hcur t ht]; simp [toC', ht]
        · rw [List.getElem?_eq_none (by omega), List.getElem?_eq_none (by simp [toC']; omega)]
      subst hfin
      have hlen : m / 3 = (cellsF (toC' n m d)).length := by rw [cellsF_len]; exact hcl.symm
      refine ds_keep (SubA.cons (k := 4) rfl (SubA.nil _)) (SubA.cons (k := 1) rfl (SubA.nil _)) ?_
      refine ds_frzT 1 rfl (by repeat' (first | exact trivial | rfl | assumption | refine ⟨?_, ?_⟩)) (by repeat' (first | exact trivial | rfl | assumption | refine ⟨?_, ?_⟩)) ?_
      repeat (first | refine dw_p rfl ?_ | refine dw_nil ?_ | refine ds_seq ?_ | refine ds_ops mix (fun base => ?_) | refine ds_exit ?_)
      refine ds_ret ⟨_, rfl, rfl, .inl ⟨hn2, hm3, ?_⟩⟩
      simp only [cellsV, hcl]
      rfl
end Go.Ac

/- Law 34: the dots of a page. -/
namespace Go.Ac
open Go.Ab Go.Proofs
set_option linter.unusedSimpArgs false

def cellAt (l : Cells) (i j : Nat) : Int := match l[i]? with
  | some r => (r[j]?).getD 0
  | none => 0
theorem d_hasC {c : Int} {k : Nat} (hk : k < 6) : DK 23 [.one (.f (.c (.int .u8 c))), .int ((k + 1 : Nat) : Int)] fun d => d = .bool (bitC c k) := by
  refine dfn_ok cp23 rfl GHro fun Z0 lo => ?_
  have hk6 : k = 0 ∨ k = 1 ∨ k = 2 ∨ k = 3 ∨ k = 4 ∨ k = 5 := by omega
  rcases hk6 with rfl | rfl | rfl | rfl | rfl | rfl <;>
  · repeat (first | refine dw_p rfl ?_ | refine dw_nil ?_ | refine ds_seq ?_ | refine ds_ops mix (fun base => ?_))
    exact ds_ret ⟨_, rfl, rfl, rfl⟩
theorem d_cell {l : Cells} {i j : Nat} : DK 24 [cellsV l, .int i, .int j] fun d => d = .one (.f (.c (.int .u8 (cellAt l i j)))) := by
  refine dfn_ok cp24 rfl GHro fun Z0 lo => ?_
  by_cases h1 : i < l.length
  · obtain ⟨r, hr⟩ : ∃ r, l[i]? = some r := ⟨_, List.getElem?_eq_getElem h1⟩
    have g1 : decide ((i : Int) ≥ l.length) = false := by simp; omega
    have e1 := rowF_at (cellsF_at hr)
    by_cases h2 : j < r.length
    · obtain ⟨c, hc⟩ : ∃ c, r[j]? = some c := ⟨_, List.getElem?_eq_getElem h2⟩
      have g2 : decide ((j : Int) ≥ (r.map cF).length) = false := by simp; omega
      have e2 := one_at (cF_at hc)
      have l2 : j < (r.map cF).length := by simp; omega
      repeat (first | refine dw_want rfl rfl ?_ | refine dw_pickF rfl rfl ?_ | refine dw_pB rfl (by assumption) ?_ | refine dw_p rfl ?_ | refine dw_l rfl ?_ | refine dw_if rfl rfl (by omega) (by decide) (by assumption) ?_ | refine dw_nil ?_ | refine ds_seq ?_ | refine ds_ops mix (fun base => ?_))
      refine ds_if rfl (fun ht => by cases ht) (fun _ => ?_)
      repeat (first | refine dw_p rfl ?_ | refine dw_l rfl ?_ | refine dw_if rfl rfl (by omega) (by decide) (by assumption) ?_ | refine dw_nil ?_ | refine ds_seq ?_ | refine ds_ops mix (fun base => ?_) | refine ds_skip ?_)
      refine ds_ret ⟨_, rfl, rfl, ?_⟩
      simp [cellAt, hr, hc, cF]
    · have g2 : decide ((j : Int) ≥ (r.map cF).length) = true := by simp; omega
      repeat (first | refine dw_want rfl rfl ?_ | refine dw_pickF rfl rfl ?_ | refine dw_pB rfl (by assumption) ?_ | refine dw_p rfl ?_ | refine dw_l rfl ?_ | refine dw_if rfl rfl (by omega) (by decide) (by assumption) ?_ | refine dw_nil ?_ | refine ds_seq ?_ | refine ds_ops mix (fun base => ?_))
      refine ds_if rfl (fun _ => ?_) (fun ht => by cases ht)
      repeat (first | refine dw_p rfl ?_ | refine dw_nil ?_ | refine ds_seq ?_ | refine ds_ops mix (fun base => ?_))
      refine ds_ret ⟨_, rfl, rfl, ?_⟩
      have : r[j]? = none := List.getElem?_eq_none (by omega)
      simp [cellAt, hr, this]
  · have g1 : decide ((i : Int) ≥ l.length) = true := by simp; omega
    have : l[i]? = none := List.getElem?_eq_none (by omega)
    repeat (first | refine dw_skip rfl rfl ?_ | refine dw_pickT rfl rfl ?_ | refine dw_pB rfl (by assumption) ?_ | refine dw_p rfl ?_ | refine dw_nil ?_ | refine ds_seq ?_ | refine ds_ops mix (fun base => ?_))
    refine ds_if rfl (fun _ => ?_) (fun ht => by cases ht)
    repeat (first | refine dw_p rfl ?_ | refine dw_nil ?_ | refine ds_seq ?_ | refine ds_ops mix (fun base => ?_))
    refine ds_ret ⟨_, rfl, rfl, ?_⟩
    simp [cellAt, this]
theorem d_cell0 {i j : Nat} : DK 24 [.one (.f (.c .nils)), .int i, .int j] fun d => d = .one (.f (.c (.int .u8 0))) := by
  refine dfn_ok cp24 rfl GHro fun Z0 lo => ?_
  have g1 : decide ((i : Int) ≥ 0) = true := by simp
  repeat (first | refine dw_skip rfl rfl ?_ | refine dw_pickT rfl rfl ?_ | refine dw_pB rfl (by assumption) ?_ | refine dw_p rfl ?_ | refine dw_nil ?_ | refine ds_seq ?_ | refine ds_ops mix (fun base => ?_))
  refine ds_if rfl (fun _ => ?_) (fun ht => by cases ht)
  repeat (first | refine dw_p rfl ?_ | refine dw_nil ?_ | refine ds_seq ?_ | refine ds_ops mix (fun base => ?_))
  exact ds_ret ⟨_, rfl, rfl, rfl⟩
theorem bitAt_cell (l : Cells) (x y : Nat) : bitAt l x y = bitC (cellAt l (y / 3) (x / 2)) (x % 2 * 3 + y % 3) := by
  have h6 : x % 2 * 3 + y % 3 < 6 := by omega
  have h0 : ∀ k, k < 6 → bitC 0 k = false := by
    intro k hk
    have hk6 : k = 0 ∨ k = 1 ∨ k = 2 ∨ k = 3 ∨ k = 4 ∨ k = 5 := by omega
    rcases hk6 with rfl | rfl | rfl | rfl | rfl | rfl <;> decide +kernel
  simp only [bitAt, cellAt]
  cases l[y / 3]? with
  | none => exact (h0 _ h6).symm
  | some r =>
    simp only
    cases r[x / 2]? with
    | none => exact (h0 _ h6).symm
    | some c => rfl
theorem raised_ok {pg : DV} {b : Int} {x y : Nat} (hx : x < 1000000) (hy : y < 1000000) (hp : DK 24 [pg, .int (y / 3 : Nat), .int (x / 2 : Nat)] fun d => d = .one (.f (.c (.int .u8 b)))) (hf : frV pg = true) : DK 17 [pg, .int x, .int y] fun d => d = .bool (bitC b (x % 2 * 3 + y % 3)) := by
  refine dfn_ok cp17 rfl GHro fun Z0 lo => ?_
  have w1 : IntKind.i64.wrap ((y : Int).tdiv 3) = ((y / 3 : Nat) : Int) := by rw [Int.tdiv_eq_ediv_of_nonneg (by omega), dwrap (by omega) (by omega)]; omega
  have w2 : IntKind.i64.wrap ((x : Int).tdiv 2) = ((x / 2 : Nat) : Int) := by rw [Int.tdiv_eq_ediv_of_nonneg (by omega), dwrap (by omega) (by omega)]; omega
  have hk6 : x % 2 * 3 + y % 3 < 6 := by omega
  have w3 : IntKind.i64.wrap (IntKind.i64.wrap (IntKind.i64.wrap ((x : Int).tmod 2 * 3) + (y : Int).tmod 3) + 1) = ((x % 2 * 3 + y % 3 + 1 : Nat) : Int) := by
    rw [Int.tmod_eq_emod_of_nonneg (by omega), Int.tmod_eq_emod_of_nonneg (by omega), show IntKind.i64.wrap ((x : Int) % 2 * 3) = (x : Int) % 2 * 3 from dwrap (by omega) (by omega), show IntKind.i64.wrap ((x : Int) % 2 * 3 + (y : Int) % 3) = (x : Int) % 2 * 3 + (y : Int) % 3 from dwrap (by omega) (by omega), dwrap (by omega) (by omega)]; omega
  repeat (first | refine dw_p rfl ?_ | refine dw_nil ?_ | refine ds_seq ?_ | refine ds_ops mix (fun base => ?_))
  rw [w1, w2]
  refine dw_cf rfl (by unfold allB; rw [hf]; rfl) hp ?_
  rintro _ rfl
  repeat (first | refine dw_p rfl ?_)
  rw [w3]
  refine dw_cf rfl rfl (d_hasC hk6) ?_
  rintro _ rfl
  repeat (first | refine dw_p rfl ?_ | refine dw_nil ?_)
  exact ds_ret ⟨_, rfl, rfl, rfl⟩
end Go.Ac

/- Law 34: a label that follows another. -/
namespace Go.Ac
open Go.Ab Go.Proofs
set_option linter.unusedSimpArgs false

theorem d_followed {a b : Lb} (ha : 0 ≤ a.1 ∧ a.1 < 100000 ∧ 0 ≤ a.2 ∧ a.2 < 100000) : DK 32 [lbD a, lbD b] fun d => d = .bool (foll a b) := by
  have e1 : IntKind.i64.wrap (a.1 + 1) = a.1 + 1 := dwrap (by omega) (by omega)
  have e2 : IntKind.i64.wrap (a.2 + 1) = a.2 + 1 := dwrap (by omega) (by omega)
  refine dfn_ok cp32 rfl GHro fun Z0 lo => ?_
  repeat (first | refine dw_p rfl ?_ | refine dw_l rfl ?_ | refine dw_lk rfl ?_ | refine dw_a rfl ?_ | refine dw_ai rfl rfl rfl ?_ | refine dw_st rfl rfl rfl rfl rfl (Nat.le_of_ble_eq_true rfl) rfl ?_ | refine dw_nil ?_ | refine ds_seq ?_ | refine ds_ops mix (fun base => ?_))
  have q2 : ∀ (E : DEnv) x y, ro E x = some (.agg [.f (.c (.int .i64 b.1)), .f (.c (.int .i64 b.2))]) → ro E y = some (.agg [.f (.c (.int .i64 a.1)), .f (.c (.int .i64 (IntKind.i64.wrap (a.2 + 1))))]) → dPure E (.eqs false [(0, false), (1, false)] x y) = some (.bool (decide (b = (a.1, a.2 + 1)))) := fun E x y hx hy => by
    rw [e2] at hy
    exact d_eqlb (p := b) (q := (a.1, a.2 + 1)) hx hy
  have q1 : ∀ (E : DEnv) x y, ro E x = some (.agg [.f (.c (.int .i64 b.1)), .f (.c (.int .i64 b.2))]) → ro E y = some (.agg [.f (.c (.int .i64 (IntKind.i64.wrap (a.1 + 1)))), .f (.c (.int .i64 0))]) → dPure E (.eqs false [(0, false), (1, false)] x y) = some (.bool (decide (b = (a.1 + 1, 0)))) := fun E x y hx hy => by
    rw [e1] at hy
    exact d_eqlb (p := b) (q := (a.1 + 1, 0)) hx hy
  refine dw_p (q1 _ _ _ rfl rfl) ?_
  obtain ⟨t1, h1⟩ : ∃ t, decide (b = (a.1 + 1, (0 : Int))) = t := ⟨_, rfl⟩
  obtain ⟨t2, h2⟩ : ∃ t, decide (b.1 ≤ 9999) = t := ⟨_, rfl⟩
  obtain ⟨t3, h3⟩ : ∃ t, decide (b = (a.1, a.2 + 1)) = t := ⟨_, rfl⟩
  obtain ⟨t4, h4⟩ : ∃ t, decide (b.2 ≤ 2) = t := ⟨_, rfl⟩
  have hf : foll a b = ((t1 && t2) || (t3 && t4)) := by rw [foll, h1, h2, h3, h4]
  rw [hf]
  cases t1 with
  | true =>
    have h3' : t3 = false := by
      rw [← h3, of_decide_eq_true h1]
      simp
      omega
    subst h3'
    cases t2 with
    | true =>
      repeat (first | refine dw_want rfl rfl ?_ | refine dw_skip rfl rfl ?_ | refine dw_skipU rfl ?_ | refine dw_pickT rfl rfl ?_ | refine dw_pB rfl (by assumption) ?_ | refine dw_p rfl ?_ | refine dw_l rfl ?_ | refine dw_nil ?_)
      exact ds_ret ⟨_, rfl, rfl, rfl⟩
    | false =>
      repeat (first | refine dw_want rfl rfl ?_ | refine dw_pickT rfl rfl ?_ | refine dw_pB rfl (by assumption) ?_ | refine dw_p rfl ?_ | refine dw_l rfl ?_)
      refine dw_p (q2 _ _ _ rfl rfl) ?_
      repeat (first | refine dw_want rfl rfl ?_ | refine dw_skip rfl rfl ?_ | refine dw_pickF rfl rfl ?_ | refine dw_pB rfl (by assumption) ?_ | refine dw_p rfl ?_ | refine dw_nil ?_)
      exact ds_ret ⟨_, rfl, rfl, rfl⟩
  | false =>
    repeat (first | refine dw_want rfl rfl ?_ | refine dw_skip rfl rfl ?_ | refine dw_pickF rfl rfl ?_ | refine dw_pB rfl (by assumption) ?_ | refine dw_p rfl ?_ | refine dw_l rfl ?_)
    refine dw_p (q2 _ _ _ rfl rfl) ?_
    cases t3 with
    | true =>
      cases t4 <;>
      · repeat (first | refine dw_want rfl rfl ?_ | refine dw_pickT rfl rfl ?_ | refine dw_pickF rfl rfl ?_ | refine dw_pB rfl (by assumption) ?_ | refine dw_p rfl ?_ | refine dw_l rfl ?_ | refine dw_nil ?_)
        exact ds_ret ⟨_, rfl, rfl, rfl⟩
    | false =>
      repeat (first | refine dw_want rfl rfl ?_ | refine dw_skip rfl rfl ?_ | refine dw_pickF rfl rfl ?_ | refine dw_pB rfl (by assumption) ?_ | refine dw_p rfl ?_ | refine dw_nil ?_)
      exact ds_ret ⟨_, rfl, rfl, rfl⟩
end Go.Ac

/- Law 34: the conditions. -/
namespace Go.Ac
open Go.Ab Go.Proofs
set_option linter.unusedSimpArgs false

/-- a plate's cells -/
structure Pq where
  w : Int
  h : Int
  u : FD
  d : FD
def pqF (q : Pq) : List FD := [.c (.int .i64 q.w), .c (.int .i64 q.h), q.u, q.d]
def pqsC (l : List Pq) : DC := .f (.sl 4 l.length (l.flatMap pqF))
theorem pqF_at {l : List Pq} {i : Nat} {x : Pq} (h : l[i]? = some x) : subL (l.flatMap pqF) (i * 4) 4 = some (pqF x) := subL_flat (e := 4) (fun _ => rfl) h
noncomputable abbrev parA (Z0 : Nat → Prop) (lo anc : Nat) (β0 : Beta) (H1 : Hp) : Par := ⟨Tryd.prog, 6, GH, Z0, lo, anc, β0, H1, none⟩
abbrev DKX (f : FuncId) (ds : List DV) (S : Bx) (nk : Nat) (R : DV → Bx → Nat → Prop) : Prop := ∀ Z0 lo anc β0 H1, DX (parA Z0 lo anc β0 H1) f ds S nk R
theorem dkx_ok {f : FuncId} {sf : SFn} (hf : cpFn Tryd.prog 6 f = some sf) {ds : List DV} {S : Bx} {nk : Nat} {R : DV → Bx → Nat → Prop} (hn : Nat.ble ds.length sf.n = true)
    (h : ∀ Z β H lo, DPS (parA Z lo nk β H) sf.n sf.code (retO (parA Z lo nk β H) sf.res R) (argsD ds 0) S nk) : DKX f ds S nk R := fun Z0 lo anc β0 H1 => dx_ok (p := parA Z0 lo anc β0 H1) hf hn fun Z β H => h Z β H lo

theorem x_size {l : List Pq} {i : Nat} {q q0 : Pq} {lv : DC} {S0 : Bx} {nk : Nat} (hq : l[i]? = some q) (hq0 : l[0]? = some q0) : DKX 29 [.one (.ptr 3 0), .int i] ((3, .cells [pqsC l, lv]) :: S0) nk fun d S' nk' => d = .int (if q.w ≠ q0.w ∨ q.h ≠ q0.h then 340 else 0) ∧ S' = (3, .cells [pqsC l, lv]) :: S0 ∧ nk' = nk := by
  refine dkx_ok cp29 rfl fun Z β H lo => ?_
  have hi : i < l.length := (List.getElem?_eq_some_iff.1 hq).1
  have e1 := pqF_at hq
  have e2 := pqF_at hq0
  obtain ⟨t1, h1⟩ : ∃ t, (q.w != q0.w) = t := ⟨_, rfl⟩
  obtain ⟨t2, h2⟩ : ∃ t, (q.h != q0.h) = t := ⟨_, rfl⟩
  cases t1 with
  | true =>
    repeat (first | refine dw_skip rfl rfl ?_ | refine dw_pickT rfl rfl ?_ | refine dw_pB rfl (by assumption) ?_ | refine dw_p rfl ?_ | refine dw_l rfl ?_ | refine dw_if0 rfl rfl (by omega) (by decide) (by assumption) ?_ | refine dw_if rfl rfl (by omega) (by decide) (by assumption) ?_ | refine dw_nil ?_ | refine ds_seq ?_ | refine ds_ops mix (fun base => ?_))
    refine ds_if rfl (fun ht => ?_) (fun ht => by simp at ht)
    repeat (first | refine dw_p rfl ?_ | refine dw_nil ?_ | refine ds_seq ?_ | refine ds_ops mix (fun base => ?_))
    refine ds_ret ⟨_, rfl, rfl, _, SubA.refl _, ?_, rfl, rfl⟩
    rw [if_pos (.inl (by simpa using h1))]
  | false =>
    have n1 : ¬ q.w ≠ q0.w := by simpa using h1
    cases t2 with
    | true =>
      repeat (first | refine dw_want rfl rfl ?_ | refine dw_pickF rfl rfl ?_ | refine dw_pB rfl (by assumption) ?_ | refine dw_p rfl ?_ | refine dw_l rfl ?_ | refine dw_if0 rfl rfl (by omega) (by decide) (by assumption) ?_ | refine dw_if rfl rfl (by omega) (by decide) (by assumption) ?_ | refine dw_nil ?_ | refine ds_seq ?_ | refine ds_ops mix (fun base => ?_))
      refine ds_if rfl (fun ht => ?_) (fun ht => by simp at ht)
      repeat (first | refine dw_p rfl ?_ | refine dw_nil ?_ | refine ds_seq ?_ | refine ds_ops mix (fun base => ?_))
      refine ds_ret ⟨_, rfl, rfl, _, SubA.refl _, ?_, rfl, rfl⟩
      rw [if_pos (.inr (by simpa using h2))]
    | false =>
      have n2 : ¬ q.h ≠ q0.h := by simpa using h2
      repeat (first | refine dw_want rfl rfl ?_ | refine dw_pickF rfl rfl ?_ | refine dw_pB rfl (by assumption) ?_ | refine dw_p rfl ?_ | refine dw_l rfl ?_ | refine dw_if0 rfl rfl (by omega) (by decide) (by assumption) ?_ | refine dw_if rfl rfl (by omega) (by decide) (by assumption) ?_ | refine dw_nil ?_ | refine ds_seq ?_ | refine ds_ops mix (fun base => ?_))
      refine ds_if rfl (fun ht => by simp at ht) (fun ht => ?_)
      repeat (first | refine dw_p rfl ?_ | refine dw_nil ?_ | refine ds_seq ?_ | refine ds_ops mix (fun base => ?_) | refine ds_skip ?_)
      refine ds_ret ⟨_, rfl, rfl, _, SubA.refl _, ?_, rfl, rfl⟩
      rw [if_neg (fun h => h.elim n1 n2)]
end Go.Ac

/- Law 34: the conditions: labels. -/
namespace Go.Ac
open Go.Ab Go.Proofs
set_option linter.unusedSimpArgs false

/-- a leaf's cells -/
structure Lf where
  lb : Lb
  f : FD
  b : FD
def lfF (x : Lf) : List FD := [.c (.int .i64 x.lb.1), .c (.int .i64 x.lb.2), x.f, x.b]
theorem lfF_at {l : List Lf} {i : Nat} {x : Lf} (h : l[i]? = some x) : subL (l.flatMap lfF) (i * 4) 4 = some (lfF x) := subL_flat (e := 4) (fun _ => rfl) h
theorem lfF_lb {l : List Lf} {i : Nat} {x : Lf} (h : l[i]? = some x) : subL (l.flatMap lfF) (i * 4 + 0) 2 = some (lbF x.lb) := by
  obtain ⟨h1, h2⟩ := subL_some (lfF_at h)
  rw [Nat.add_zero, subL_of (by omega)]
  have : ((l.flatMap lfF).drop (i * 4)).take 2 = (((l.flatMap lfF).drop (i * 4)).take 4).take 2 := by rw [List.take_take]; simp
  rw [this, ← h2]
  rfl

theorem sub_put {S : Bx} {k : Nat} {x y : Bk} (h : lk S k = none) : SubA S (put k y ((k, x) :: S)) := fun j v hj => by
  rw [lk_put, lk_cons]
  by_cases e : j = k
  · subst e; rw [h] at hj; cases hj
  · rw [if_neg e, if_neg (fun h => e h.symm)]; exact hj

theorem x_label0 {lfs : List Lf} {x : Lf} {pl : DC} {S0 : Bx} (h0 : lfs = [x]) (hS0 : lk S0 7 = none) : DKX 30 [.one (.ptr 3 0), .int 0] ((3, .cells [pl, .own 6 0 1 4]) :: (6, .data (lfs.flatMap lfF)) :: S0) 7
    fun d S' nk' => d = .int (if x.lb = (1, 0) then 0 else 340) ∧ S' = (3, .cells [pl, .own 6 0 1 4]) :: (6, .data (lfs.flatMap lfF)) :: S0 ∧ nk' = 8 := by
  subst h0
  refine dkx_ok cp30 rfl fun Z β H lo => ?_
  repeat (first | refine dw_p rfl ?_ | refine dw_l rfl ?_ | refine dw_io0 rfl rfl (by omega) (by omega) ?_ | refine dw_a rfl ?_ | refine dw_st rfl rfl rfl rfl rfl (Nat.le_of_ble_eq_true rfl) rfl ?_ | refine dw_nil ?_ | refine ds_seq ?_ | refine ds_ops mix (fun base => ?_))
  refine ds_if rfl (fun _ => ?_) (fun ht => by simp at ht)
  repeat (first | refine dw_p rfl ?_ | refine dw_l rfl ?_ | refine ds_seq ?_ | refine ds_ops mix (fun base => ?_))
  refine dw_p (d_eqlb (p := x.lb) (q := (1, 0)) rfl rfl) ?_
  obtain ⟨t1, h1⟩ : ∃ t, decide (x.lb = ((1 : Int), (0 : Int))) = t := ⟨_, rfl⟩
  repeat (first | refine dw_nil ?_)
  refine ds_if rfl (fun ht => ?_) (fun ht => ?_)
  · repeat (first | refine dw_p rfl ?_ | refine dw_nil ?_ | refine ds_seq ?_ | refine ds_ops mix (fun base => ?_))
    refine ds_ret ⟨_, rfl, rfl, _, sub_put hS0, ?_, rfl, rfl⟩
    rw [if_neg (by simpa using ht)]
  · repeat (first | refine dw_p rfl ?_ | refine dw_nil ?_ | refine ds_seq ?_ | refine ds_ops mix (fun base => ?_) | refine ds_skip ?_)
    refine ds_ret ⟨_, rfl, rfl, _, sub_put hS0, ?_, rfl, rfl⟩
    rw [if_pos (by simpa using ht)]

/-- .. the next ones -/
theorem x_labelS {lfs : List Lf} {i : Nat} {a x : Lf} {pl : DC} {S0 : Bx} (hS0 : lk S0 7 = none) (ha : lfs[i]? = some a) (hx : lfs[i + 1]? = some x) (hn : lfs.length = i + 2) (hi : i < 1000000) (hb : 0 ≤ a.lb.1 ∧ a.lb.1 < 100000 ∧ 0 ≤ a.lb.2 ∧ a.lb.2 < 100000) :
    DKX 30 [.one (.ptr 3 0), .int ((i + 1 : Nat) : Int)] ((3, .cells [pl, .own 6 0 lfs.length 4]) :: (6, .data (lfs.flatMap lfF)) :: S0) 7
    fun d S' nk' => d = .int (if foll a.lb x.lb = true then 0 else 340) ∧ S' = (3, .cells [pl, .own 6 0 lfs.length 4]) :: (6, .data (lfs.flatMap lfF)) :: S0 ∧ nk' = 8 := by
  refine dkx_ok cp30 rfl fun Z β H lo => ?_
  have q1 := lfF_lb hx
  have q1' : subL (lfs.flatMap lfF) (Int.toNat ((i + 1 : Nat) : Int) * 4 + 0) 2 = some (lbF x.lb) := q1
  have q2 := lfF_lb ha
  have q2' : subL (lfs.flatMap lfF) (Int.toNat ((i : Nat) : Int) * 4 + 0) 2 = some (lbF a.lb) := q2
  repeat (first | refine dw_p rfl ?_ | refine dw_l rfl ?_ | refine dw_io0 rfl rfl (by omega) (by omega) ?_ | refine dw_l (dload_data rfl rfl (by assumption) rfl) ?_ | refine dw_a rfl ?_ | refine dw_st rfl rfl rfl rfl rfl (Nat.le_of_ble_eq_true rfl) rfl ?_ | refine dw_nil ?_ | refine ds_seq ?_ | refine ds_ops mix (fun base => ?_))
  refine ds_if rfl (fun ht => ?_) (fun _ => ?_)
  · have : ((i + 1 : Nat) : Int) = 0 := by simpa using ht
    omega
  repeat (first | refine dw_p rfl ?_ | refine dw_l rfl ?_ | refine ds_seq ?_ | refine ds_ops mix (fun base => ?_) | refine ds_skip ?_)
  rw [show IntKind.i64.wrap (((i + 1 : Nat) : Int) - 1) = ((i : Nat) : Int) by rw [dwrap (by omega) (by omega)]; omega]
  repeat (first | refine dw_p rfl ?_ | refine dw_l rfl ?_ | refine dw_io0 rfl rfl (by omega) (by omega) ?_ | refine dw_l (dload_data rfl rfl (by assumption) rfl) ?_)
  refine dw_cf rfl rfl (d_followed (a := a.lb) (b := x.lb) hb) ?_
  rintro _ rfl
  repeat (first | refine dw_p rfl ?_ | refine dw_nil ?_)
  refine ds_if rfl (fun ht => ?_) (fun ht => ?_)
  · repeat (first | refine dw_p rfl ?_ | refine dw_nil ?_ | refine ds_seq ?_ | refine ds_ops mix (fun base => ?_))
    refine ds_ret ⟨_, rfl, rfl, _, sub_put hS0, ?_, rfl, rfl⟩
    rw [if_neg (by simpa using ht)]
  · repeat (first | refine dw_p rfl ?_ | refine dw_nil ?_ | refine ds_seq ?_ | refine ds_ops mix (fun base => ?_) | refine ds_skip ?_)
    refine ds_ret ⟨_, rfl, rfl, _, sub_put hS0, ?_, rfl, rfl⟩
    rw [if_pos (by simpa using ht)]
end Go.Ac
