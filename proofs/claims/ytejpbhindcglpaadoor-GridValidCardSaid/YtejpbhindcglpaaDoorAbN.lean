/- New blocks. -/
import Derived.Test.YtejpbhindcglpaaDoorAbL
namespace Go.Ab
section
variable {P : Program} {G n : Nat} {μ : Nat → Pl} {K : Nat → Prop} {H : Hp} {w : World} {F : T V} {a : Act}

theorem row_cell {l : List C} {i : Nat} {c : C} (h : (B.row l.length l .lf true).cell i = some c) : l[i]? = some c := by
  simp only [B.cell, T.get_lf, Option.getD_none] at h
  split at h
  · rename_i hi
    rw [Nat.mod_eq_of_lt hi] at h
    rw [← h, List.getElem?_eq_getElem hi]
    simp [List.getD_eq_getElem?_getD, hi]
  · cases h

theorem RB.of_list {l : List C} {cs : Array Value} {t : TypeId} {p : Pl} (hp : p.off = 0) (hs : p.size = cs.size) (h : All2 (RC μ K) l cs.toList) : RB μ K p (.row l.length l .lf true) (some (.cells cs t)) := by
  have hl := h.len
  simp at hl
  refine ⟨cs, t, (0, 0), rfl, hs.symm, by omega, fun _ => rfl, fun i c hc => ?_⟩
  obtain ⟨x, hx, hr⟩ := h.at i c (row_cell hc)
  exact ⟨x, by rw [hp]; simpa using hx, hr⟩

theorem zeros_ok {z : List C} {zc : Array Value} (h : All2 (RC μ K) z zc.toList) (m : Nat) : All2 (RC μ K) (patt z m) ((Array.range m).map (zc[· % zc.size]!)).toList ∨ z.length = 0 := by
  by_cases h0 : z.length = 0
  · exact .inr h0
  · left
    have hl := h.len
    simp at hl
    refine All2.mk (by simp [patt]) fun i c x hc hx => ?_
    have hi : i < m := by
      have := (List.getElem?_eq_some_iff.1 hc).1
      simpa [patt] using this
    simp [patt, hi] at hc
    simp [hi] at hx
    have hmod : i % z.length < z.length := Nat.mod_lt _ (by omega)
    have hmod' : i % zc.size < zc.size := by rw [← hl]; exact hmod
    obtain ⟨y, hy, hr⟩ := h.at (i % z.length) c (by rw [← hc, List.getElem?_eq_getElem hmod]; simp)
    rw [← hx, getElem!_pos zc _ hmod']
    rw [hl] at hy
    have hy2 : zc.toList[i % zc.size]? = some zc[i % zc.size] := by rw [List.getElem?_eq_getElem (by simpa using hmod')]; simp
    rw [hy2] at hy
    obtain rfl := Option.some.inj hy
    exact hr

theorem patt_cell {z : List C} {m i : Nat} {c : C} (h : (B.row m z .lf true).cell i = some c) : (patt z m)[i]? = some c := by
  simp only [B.cell, T.get_lf, Option.getD_none] at h
  split at h
  · rename_i hi
    rw [← h]
    simp [patt, hi]
  · cases h

theorem RB.of_patt {z : List C} {m : Nat} {cs : Array Value} {t : TypeId} {p : Pl} (hp : p.off = 0) (hs : p.size = cs.size) (h : All2 (RC μ K) (patt z m) cs.toList) : RB μ K p (.row m z .lf true) (some (.cells cs t)) := by
  have hl := h.len
  simp [patt] at hl
  refine ⟨cs, t, (0, 0), rfl, hs.symm, by omega, fun _ => rfl, fun i c hc => ?_⟩
  obtain ⟨x, hx, hr⟩ := h.at i c (patt_cell hc)
  exact ⟨x, by rw [hp]; simpa using hx, hr⟩

theorem wrap_small {c : Int} (h0 : 0 ≤ c) (h1 : c < 4611686018427387904) : IntKind.i64.wrap c = c := by
  simp [IntKind.wrap, IntKind.bits, IntKind.signed]
  omega

theorem alloc_ok (hR : Rel G μ K H w) (hF : FRel μ K n F a.tmps) {o : Oper} {p : AllocOp} {bk : B} {g : Nat → V} (hc : cpAlloc P G n o = some p) (h : aAlloc F p = some (bk, g)) :
    bk.mut = true ∧ ∃ x obj sz, (execOp a.eval o).run P w = .ok (.value x) { w with heap := w.heap.push obj } ∧ RB μ K ⟨w.heap.size, 0, sz⟩ bk (some obj) ∧
      ∀ (b : Nat) (μ' : Nat → Pl) (K' : Nat → Prop), K' b → μ' b = ⟨w.heap.size, 0, sz⟩ → RV μ' K' (g b) x := by
  unfold cpAlloc at hc
  split at hc
  case _ e ho =>
    simp only [Option.map_eq_some_iff] at hc
    obtain ⟨z, hz, rfl⟩ := hc
    simp only [aAlloc, Option.some.injEq, Prod.mk.injEq] at h
    obtain ⟨rfl, rfl⟩ := h
    obtain ⟨i, v, hi, hv, hall⟩ := zeroL_ok (μ := μ) (K := K) hz
    refine ⟨rfl, .pointer (some ⟨w.heap.size, 0, none⟩), .cells v.cells e, v.cells.size, ?_, RB.of_list rfl rfl hall, fun b μ' K' hk hm => ⟨hk, by simp [Pl.addr, hm]⟩⟩
    simp [execOp, ho, Instr.alloc, zeroValue, typeInfo, hi, hv, newVar, newRow]
  case _ e x ho =>
    simp only [Option.map_eq_some_iff] at hc
    obtain ⟨d, hd, rfl⟩ := hc
    simp only [aAlloc] at h
    split at h
    · rename_i cs hcs
      simp only [Option.some.injEq, Prod.mk.injEq] at h
      obtain ⟨rfl, rfl⟩ := h
      refine ⟨rfl, .pointer (some ⟨w.heap.size, 0, none⟩), .cells (a.eval x).cells e, (a.eval x).cells.size, ?_, RB.of_list rfl rfl (cells1_ok (cO_ok hR hF hd) hcs), fun b μ' K' hk hm => ⟨hk, by simp [Pl.addr, hm]⟩⟩
      simp [execOp, ho, Instr.box, newVar, newRow]
    · cases h
  case _ t len parts ho =>
    split at hc
    · rename_i e hu
      split at hc
      · rename_i s z hs hz
        split at hc
        · rename_i hlen
          simp only [Option.map_eq_some_iff] at hc
          obtain ⟨ps, hps, rfl⟩ := hc
          simp only [aAlloc] at h
          split at h
          · rename_i cs hcs
            simp only [Option.some.injEq, Prod.mk.injEq] at h
            obtain ⟨rfl, rfl⟩ := h
            obtain ⟨i, v, hi, hv, hall⟩ := zeroL_ok (μ := μ) (K := K) hz
            have hz0 := (zeros_ok hall (len * s)).resolve_right (by omega)
            obtain ⟨arr, hfill, hall'⟩ := fill_ok hR hF hps hcs hz0
            have hvl := hall.len
            have hcl : cs.length = len * s := by
              have h1 := hall'.len
              have hfl : ∀ (z z' : List C) (ps : List (Nat × Nat × Opd)), fillL F z ps = some z' → z'.length = z.length := by
                intro z z' ps
                induction ps generalizing z with
                | nil => intro h; simp [fillL] at h; rw [h]
                | cons q ps ih =>
                  obtain ⟨off, size, x⟩ := q
                  intro h
                  simp only [fillL] at h
                  split at h
                  · cases h
                  · split at h
                    · rename_i hq
                      rw [ih _ h]
                      simp
                      omega
                    · cases h
              rw [hfl _ _ _ hcs]; simp [patt]
            have harr : arr.size = len * s := by have := hall'.len; simp at this; omega
            refine ⟨rfl, .slice (some ⟨w.heap.size, 0, none⟩) len len, .cells arr e, arr.size, ?_, RB.of_list rfl rfl hall', fun b μ' K' hk hm => ⟨hk, _, len, rfl, Nat.le_refl _, Nat.le_refl _, fun _ => rfl, .inr ⟨by simp [Pl.addr, hm], by simp [hm, harr]⟩⟩⟩
            simp only [execOp, ho]
            have hzs : v.cells ≠ #[] := by
              intro h0
              rw [h0] at hvl
              have := hlen.1
              have := hlen.2.1
              simp only [List.length_nil] at hvl
              omega
            by_cases hl0 : len * s = 0
            · have hzero : ((Array.range (len * s)).map ((#[] : Array Value)[· % (#[] : Array Value).size]!)) = ((Array.range (len * s)).map (v.cells[· % v.cells.size]!)) := by rw [hl0]; simp
              have hnot : ¬ (len * s > 2 ^ 24) := by omega
              simp only [Instr.buildSlice, Sem.run_bind, run_underlying hu, Result.andThen_ok, sizeT_run hs, Sem.run_ite, hnot, if_false, Sem.run_pure, hl0, if_true]
              rw [hl0] at hfill
              have hz1 : ((Array.range 0).map ((#[] : Array Value)[· % (#[] : Array Value).size]!)) = ((Array.range 0).map (v.cells[· % v.cells.size]!)) := by simp
              rw [hz1]
              have hparts : (parts.map fun (i, x) => (i, a.eval x)).toList = parts.toList.map fun p => (p.1, a.eval p.2) := by simp
              rw [hparts, hfill]
              simp [newRow]
            · have hnot : ¬ (len * s > 2 ^ 24) := by omega
              simp only [Instr.buildSlice, Sem.run_bind, run_underlying hu, Result.andThen_ok, sizeT_run hs, Sem.run_ite, hnot, if_false, Sem.run_pure, hl0]
              have hzv : (zeroValue e).run P w = .ok v w := by simp [zeroValue, typeInfo, hi, hv]
              simp only [hzv, Result.andThen_ok]
              have hparts : (parts.map fun (i, x) => (i, a.eval x)).toList = parts.toList.map fun p => (p.1, a.eval p.2) := by simp
              rw [hparts, hfill]
              simp [newRow]
          · cases h
        · cases hc
      · cases hc
    · cases hc
  case _ t l c ho =>
    split at hc
    · rename_i e hu
      split at hc
      · rename_i i z dl dc hi hz hl hcc
        split at hc
        · rename_i hsz
          obtain rfl := Option.some.inj hc
          have vl := cO_ok hR hF hl
          have vc := cO_ok hR hF hcc
          simp only [aAlloc] at h
          split at h
          · rename_i kl l' kc c' el ec
            split at h
            · rename_i hb
              simp only [Option.some.injEq, Prod.mk.injEq] at h
              obtain ⟨rfl, rfl⟩ := h
              rw [el] at vl
              rw [ec] at vc
              have vl' : a.eval l = .int kl l' := vl
              have vc' : a.eval c = .int kc c' := vc
              obtain ⟨i', v, hi', hv, hall⟩ := zeroL_ok (μ := μ) (K := K) hz
              obtain rfl : i = i' := by rw [hi] at hi'; exact Option.some.inj hi'
              have hvl := hall.len
              have hz0 := (zeros_ok hall (c'.toNat * i.size)).resolve_right (by omega)
              have harr : ((Array.range (c'.toNat * i.size)).map (v.cells[· % v.cells.size]!)).size = c'.toNat * i.size := by simp
              refine ⟨rfl, .slice (some ⟨w.heap.size, 0, none⟩) l'.toNat c'.toNat, .cells ((Array.range (c'.toNat * i.size)).map (v.cells[· % v.cells.size]!)) e, c'.toNat * i.size, ?_, RB.of_patt rfl (by simp) hz0,
                fun b μ' K' hk hm => ⟨hk, _, c'.toNat, rfl, by omega, Nat.le_refl _, fun _ => rfl, .inr ⟨by simp [Pl.addr, hm], by simp [hm]⟩⟩⟩
              simp only [execOp, ho]
              refine run_value _ ?_
              have w1 := wrap_small (c := l') hb.1 (by omega)
              have w2 := wrap_small (c := c') (by omega) hb.2.2.2
              have t1 : (decide (c' < 0) || decide ((i.bytes : Int) * c' > 2 ^ 48)) = false := by
                have := hb.2.2.1
                simp; omega
              have t2 : ((decide (c' < 0) || decide ((i.bytes : Int) * c' > 2 ^ 48)) = true ∨ l' < 0) = False := by
                rw [t1]; simp; omega
              simp only [Instr.makeSlice, Sem.run_bind, run_underlying hu, Result.andThen_ok, vl', vc', asInt, asIntOf, Sem.run_pure, typeInfo, run_program, hi, w1, w2]
              have hcond : ((decide (c' < 0) || decide ((i.bytes : Int) * c' > 2 ^ 48)) || decide (l' < 0) || decide (l' > c')) = false := by
                rw [t1]; simp; omega
              rw [hcond]
              simp only [Bool.false_eq_true, if_false, Sem.run_bind, Sem.run_pure, Result.andThen_ok, run_askRoom, sizeT_run (show sizeT P e = some i.size by simp [sizeT, hi])]
              by_cases hl0 : c'.toNat * i.size = 0
              · have r0 : ∀ f : Nat → Value, (Array.range 0).map f = #[] := fun f => Array.eq_empty_of_size_eq_zero (by simp)
                simp [hl0, newRow, r0]
              · have hzv : (zeroValue e).run P w = .ok v w := by simp [zeroValue, typeInfo, hi, hv]
                simp [hl0, hzv, newRow]
            · cases h
          · cases h
        · cases hc
      · cases hc
    · cases hc
  case _ t ho =>
    obtain rfl := Option.some.inj hc
    simp only [aAlloc, Option.some.injEq, Prod.mk.injEq] at h
    obtain ⟨rfl, rfl⟩ := h
    refine ⟨rfl, .map (some w.heap.size), .map #[] 0, 0, ?_, ⟨#[], 0, rfl, trivial⟩, fun b μ' K' hk hm => ⟨hk, by simp [hm]⟩⟩
    simp [execOp, ho, Instr.makeMap]
  case _ => cases hc
end
end Go.Ab
