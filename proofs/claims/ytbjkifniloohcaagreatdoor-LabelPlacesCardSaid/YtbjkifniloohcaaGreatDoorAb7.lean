/- Contracts of functions of the program over the abstract semantics. -/
import Derived.Test.YtbjkifniloohcaaGreatDoorAb6
import Derived.Test.YtbjkifniloohcaaGreatDoorRows
set_option linter.unusedVariables false
set_option linter.unusedSimpArgs false
namespace Go.Ae
open Go.Ab Go.Proofs
set_option maxRecDepth 100000
theorem cp3 : cpFn Tryz.prog 1 3 = some f3 := by kernel_rfl
theorem cp4 : cpFn Tryz.prog 1 4 = some f4 := by kernel_rfl
theorem cp5 : cpFn Tryz.prog 1 5 = some f5 := by kernel_rfl
theorem cp6 : cpFn Tryz.prog 1 6 = some f6 := by kernel_rfl
theorem cp7 : cpFn Tryz.prog 1 7 = some f7 := by kernel_rfl
theorem cp8 : cpFn Tryz.prog 1 8 = some f8 := by kernel_rfl
theorem cp9 : cpFn Tryz.prog 1 9 = some f9 := by kernel_rfl
theorem cp10 : cpFn Tryz.prog 1 10 = some f10 := by kernel_rfl
theorem cp11 : cpFn Tryz.prog 1 11 = some f11 := by kernel_rfl
theorem cp12 : cpFn Tryz.prog 1 12 = some f12 := by kernel_rfl
theorem cp13 : cpFn Tryz.prog 1 13 = some f13 := by kernel_rfl
theorem cp14 : cpFn Tryz.prog 1 14 = some f14 := by kernel_rfl
theorem cp15 : cpFn Tryz.prog 1 15 = some f15 := by kernel_rfl
theorem cp16 : cpFn Tryz.prog 1 16 = some f16 := by kernel_rfl
theorem cp17 : cpFn Tryz.prog 1 17 = some f17 := by kernel_rfl
theorem cp18 : cpFn Tryz.prog 1 18 = some f18 := by kernel_rfl
theorem cp19 : cpFn Tryz.prog 1 19 = some f19 := by kernel_rfl
theorem cp20 : cpFn Tryz.prog 1 20 = some f20 := by kernel_rfl
theorem cp21 : cpFn Tryz.prog 1 21 = some f21 := by kernel_rfl
theorem cp22 : cpFn Tryz.prog 1 22 = some f22 := by kernel_rfl
theorem cp23 : cpFn Tryz.prog 1 23 = some f23 := by kernel_rfl
theorem cp24 : cpFn Tryz.prog 1 24 = some f24 := by kernel_rfl
theorem cp25 : cpFn Tryz.prog 1 25 = some f25 := by kernel_rfl
theorem cp26 : cpFn Tryz.prog 1 26 = some f26 := by kernel_rfl
theorem cp27 : cpFn Tryz.prog 1 27 = some f27 := by kernel_rfl
theorem cp28 : cpFn Tryz.prog 1 28 = some f28 := by kernel_rfl
theorem cp29 : cpFn Tryz.prog 1 29 = some f29 := by kernel_rfl
theorem cp30 : cpFn Tryz.prog 1 30 = some f30 := by kernel_rfl
theorem cp31 : cpFn Tryz.prog 1 31 = some f31 := by kernel_rfl
theorem cp32 : cpFn Tryz.prog 1 32 = some f32 := by kernel_rfl
theorem cp33 : cpFn Tryz.prog 1 33 = some f33 := by kernel_rfl
theorem cp34 : cpFn Tryz.prog 1 34 = some f34 := by kernel_rfl
theorem cp35 : cpFn Tryz.prog 1 35 = some f35 := by kernel_rfl
theorem cp36 : cpFn Tryz.prog 1 36 = some f36 := by kernel_rfl
theorem cp37 : cpFn Tryz.prog 1 37 = some f37 := by kernel_rfl
theorem cp38 : cpFn Tryz.prog 1 38 = some f38 := by kernel_rfl
theorem cp39 : cpFn Tryz.prog 1 39 = some f39 := by kernel_rfl
theorem cp40 : cpFn Tryz.prog 1 40 = some f40 := by kernel_rfl
theorem cp41 : cpFn Tryz.prog 1 41 = some f41 := by kernel_rfl
theorem cp42 : cpFn Tryz.prog 1 42 = some f42 := by kernel_rfl
theorem cp43 : cpFn Tryz.prog 1 43 = some f43 := by kernel_rfl
theorem cp44 : cpFn Tryz.prog 1 44 = some f44 := by kernel_rfl
theorem cp45 : cpFn Tryz.prog 1 45 = some f45 := by kernel_rfl
theorem cp46 : cpFn Tryz.prog 1 46 = some f46 := by kernel_rfl
theorem cp47 : cpFn Tryz.prog 1 47 = some f47 := by kernel_rfl
theorem cp48 : cpFn Tryz.prog 1 48 = some f48 := by kernel_rfl
theorem cp49 : cpFn Tryz.prog 1 49 = some f49 := by kernel_rfl
theorem cp50 : cpFn Tryz.prog 1 50 = some f50 := by kernel_rfl
theorem cp51 : cpFn Tryz.prog 1 51 = some f51 := by kernel_rfl
theorem cp52 : cpFn Tryz.prog 1 52 = some f52 := by kernel_rfl
theorem cp53 : cpFn Tryz.prog 1 53 = some f53 := by kernel_rfl
theorem cp54 : cpFn Tryz.prog 1 54 = some f54 := by kernel_rfl
theorem cp55 : cpFn Tryz.prog 1 55 = some f55 := by kernel_rfl
theorem cp56 : cpFn Tryz.prog 1 56 = some f56 := by kernel_rfl
theorem cp57 : cpFn Tryz.prog 1 57 = some f57 := by kernel_rfl
theorem cp58 : cpFn Tryz.prog 1 58 = some f58 := by kernel_rfl
theorem cp59 : cpFn Tryz.prog 1 59 = some f59 := by kernel_rfl
theorem cp61 : cpFn Tryz.prog 1 61 = some f61 := by kernel_rfl
theorem cp62 : cpFn Tryz.prog 1 62 = some f62 := by kernel_rfl
theorem cp63 : cpFn Tryz.prog 1 63 = some f63 := by kernel_rfl
theorem cp64 : cpFn Tryz.prog 1 64 = some f64 := by kernel_rfl
theorem cp65 : cpFn Tryz.prog 1 65 = some f65 := by kernel_rfl
theorem cp66 : cpFn Tryz.prog 1 66 = some f66 := by kernel_rfl
theorem cp67 : cpFn Tryz.prog 1 67 = some f67 := by kernel_rfl
theorem cp68 : cpFn Tryz.prog 1 68 = some f68 := by kernel_rfl
theorem cp69 : cpFn Tryz.prog 1 69 = some f69 := by kernel_rfl
theorem cp70 : cpFn Tryz.prog 1 70 = some f70 := by kernel_rfl
theorem cp71 : cpFn Tryz.prog 1 71 = some f71 := by kernel_rfl
theorem cp72 : cpFn Tryz.prog 1 72 = some f72 := by kernel_rfl
theorem cp73 : cpFn Tryz.prog 1 73 = some f73 := by kernel_rfl
theorem cp74 : cpFn Tryz.prog 1 74 = some f74 := by kernel_rfl
theorem cp75 : cpFn Tryz.prog 1 75 = some f75 := by kernel_rfl
theorem cp76 : cpFn Tryz.prog 1 76 = some f76 := by kernel_rfl
theorem cp77 : cpFn Tryz.prog 1 77 = some f77 := by kernel_rfl
theorem cp78 : cpFn Tryz.prog 1 78 = some f78 := by kernel_rfl
theorem cp81 : cpFn Tryz.prog 1 81 = some f81 := by kernel_rfl
theorem cp82 : cpFn Tryz.prog 1 82 = some f82 := by kernel_rfl
theorem cp83 : cpFn Tryz.prog 1 83 = some f83 := by kernel_rfl
theorem cp84 : cpFn Tryz.prog 1 84 = some f84 := by kernel_rfl
theorem cp86 : cpFn Tryz.prog 1 86 = some f86 := by kernel_rfl
theorem cp87 : cpFn Tryz.prog 1 87 = some f87 := by kernel_rfl
theorem cp88 : cpFn Tryz.prog 1 88 = some f88 := by kernel_rfl
theorem cp90 : cpFn Tryz.prog 1 90 = some f90 := by kernel_rfl
theorem cp93 : cpFn Tryz.prog 1 93 = some f93 := by kernel_rfl
theorem cp95 : cpFn Tryz.prog 1 95 = some f95 := by kernel_rfl
theorem cp104 : cpFn Tryz.prog 1 104 = some f104 := by kernel_rfl
theorem cp105 : cpFn Tryz.prog 1 105 = some f105 := by kernel_rfl
end Go.Ae

namespace Go.Ab
structure Ext (H H' : Hp) : Prop where
 get : ∀ b bk, H.get b = some bk -> H'.get b = some bk
 nx : H.nx <= H'.nx
theorem Ext.refl (H : Hp) : Ext H H := ⟨fun _ _ h => h, Nat.le_refl _⟩
theorem Ext.trans {H H' H'' : Hp} (h : Ext H H') (k : Ext H' H'') : Ext H H'' := ⟨fun b bk hb => k.get b bk (h.get b bk hb), Nat.le_trans h.nx k.nx⟩
theorem Ext.push {H H' : Hp} (hw : WF H') (h : Ext H H') (bk : B) : Ext H (H'.push bk) :=
 ⟨fun b k hb => by rw [Hp.get_push, if_neg (by have := hw b k (h.get b k hb); omega)]; exact h.get b k hb, by have := h.nx; simp; omega⟩
theorem Ext.skip {H H' : Hp} (h : Ext H H') (n : Nat) : Ext H (H'.skip n) := ⟨h.get, by have := h.nx; simp; omega⟩
theorem Ext.cell {H H' : Hp} (h : Ext H H') {b i : Nat} {c : C} (hc : H.cell b i = some c) : H'.cell b i = some c := by
 unfold Hp.cell at hc ⊢
 cases hb : H.get b with
 | none => simp [hb] at hc
 | some bk => rw [h.get b bk hb]; simpa [hb] using hc
theorem Ext.loads {H H' : Hp} (h : Ext H H') : ∀ {n b o : Nat} {l : List C}, H.loads b o n = some l -> H'.loads b o n = some l
 | 0, _, _, _, hl => hl
 | n + 1, b, o, l, hl => by
  simp only [Hp.loads] at hl ⊢
  cases hc : H.cell b o with
  | none => simp [hc] at hl
  | some c =>
   simp only [hc] at hl
   simp only [h.cell hc]
   cases hr : H.loads b (o + 1) n with
   | none => simp [hr] at hl
   | some r => simp only [hr] at hl; simp only [h.loads hr]; exact hl
theorem WF.push {H : Hp} (h : WF H) (bk : B) : WF (H.push bk) := fun b k hb => by
 rw [Hp.get_push] at hb
 split at hb
 ·rename_i e; simp; omega
 ·have := h b k hb; simp; omega
theorem WF.skip {H : Hp} (h : WF H) (n : Nat) : WF (H.skip n) := fun b k hb => by have := h b k hb; simp; omega
theorem WF.fresh {H : Hp} (h : WF H) {b : Nat} (hb : H.nx <= b) : H.get b = none := by
 cases hg : H.get b with
 | none => rfl
 | some k => have := h b k hg; omega
theorem loads_drop {H : Hp} {b : Nat} : ∀ {m o n : Nat} {l : List C}, H.loads b o n = some l -> m <= n -> H.loads b (o + m) (n - m) = some (l.drop m)
 | 0, o, n, l, h, _ => by simpa using h
 | m + 1, o, 0, l, h, hm => by omega
 | m + 1, o, n + 1, l, h, hm => by
  simp only [Hp.loads] at h
  split at h
  ·cases h
  ·split at h
   ·cases h
   ·rename_i c _ l' hl'
    obtain rfl := Option.some.inj h
    have := loads_drop (m := m) hl' (by omega)
    rw [show o + (m + 1) = o + 1 + m by omega, show n + 1 - (m + 1) = n - m by omega]
    simpa using this
theorem loads_take {H : Hp} {b : Nat} : ∀ {m o n : Nat} {l : List C}, H.loads b o n = some l -> m <= n -> H.loads b o m = some (l.take m)
 | 0, o, n, l, h, _ => by simp [Hp.loads]
 | m + 1, o, 0, l, h, hm => by omega
 | m + 1, o, n + 1, l, h, hm => by
  simp only [Hp.loads] at h ⊢
  split at h
  ·cases h
  ·rename_i c hc
   split at h
   ·cases h
   ·rename_i l' hl'
    obtain rfl := Option.some.inj h
    simp [loads_take (m := m) hl' (by omega)]
theorem loads_at {H : Hp} {b o n i k : Nat} {l : List C} (h : H.loads b o n = some l) (hk : i + k <= n) : H.loads b (o + i) k = some ((l.drop i).take k) :=
 loads_take (loads_drop h (by omega)) (by omega)
theorem loads_cell {H : Hp} {b o n i : Nat} {l : List C} (h : H.loads b o n = some l) (hi : i < n) : H.cell b (o + i) = l[i]? := by
 have := loads_at (i := i) (k := 1) h (by omega)
 simp only [Hp.loads] at this
 cases hc : H.cell b (o + i) with
 | none => simp [hc] at this
 | some c =>
  simp only [hc, Option.some.injEq] at this
  have hl : i < l.length := by rw [loads_len h]; exact hi
  have h2 : (List.take 1 (List.drop i l))[0]? = some l[i] := by rw [List.drop_eq_getElem_cons hl]; simp
  rw [<- this] at h2
  simp at h2
  rw [List.getElem?_eq_getElem hl, h2]
theorem loads_row {H : Hp} {b : Nat} {cs : List C} {rw : Bool} (h : H.get b = some (.row cs.length cs .lf rw)) : H.loads b 0 cs.length = some cs := by
 have key : ∀ (m o : Nat), o + m = cs.length -> H.loads b o m = some (cs.drop o) := by
  intro m
  induction m with
  | zero => intro o ho; simp only [Hp.loads]; rw [List.drop_of_length_le (by omega)]
  | succ m ih =>
   intro o ho
   have hlt : o < cs.length := by omega
   have hc : H.cell b o = some cs[o] := by
    simp only [Hp.cell, h, Option.bind_some, B.cell, hlt, if_true, T.get_lf, Option.getD_none, Nat.mod_eq_of_lt hlt]
    simp [List.getD_eq_getElem?_getD, hlt]
   simp only [Hp.loads, hc, ih (o + 1) (by omega)]
   rw [List.drop_eq_getElem_cons hlt]
 simpa using key cs.length 0 (by omega)
def Sl (H : Hp) (esz n : Nat) (l : List C) (v : V) : Prop := l.length = n * esz /\ ((v = .one .nils /\ n = 0) \/ ∃ b o cap ex, v = .one (.slc b o n cap esz ex) /\ H.loads b o (n * esz) = some l)
theorem Sl.ext {H H' : Hp} {esz n : Nat} {l : List C} {v : V} (h : Sl H esz n l v) (he : Ext H H') : Sl H' esz n l v := by
 refine ⟨h.1, ?_⟩
 rcases h.2 with h|⟨b, o, cap, ex, hv, hl⟩
 ·exact .inl h
 ·exact .inr ⟨b, o, cap, ex, hv, he.loads hl⟩
theorem Sl.len {H : Hp} {esz n : Nat} {l : List C} {v : V} (h : Sl H esz n l v) : lenV v = some (.one (.int .i64 n)) := by
 rcases h.2 with ⟨rfl, rfl⟩|⟨b, o, cap, ex, rfl, _⟩ <;> simp [lenV]
theorem Sl.at {H : Hp} {esz n : Nat} {l : List C} {v : V} (h : Sl H esz n l v) {k : Nat} (hk : k < n) (kd : IntKind) : ∃ b o, iaddrV esz v (.one (.int kd k)) = some (.one (.ptr b o)) /\ H.loads b o esz = some ((l.drop (k * esz)).take esz) := by
 rcases h.2 with ⟨_, rfl⟩|⟨b, o, cap, ex, rfl, hl⟩
 ·omega
 ·refine ⟨b, o + k * esz, by simp [iaddrV]; omega, loads_at hl ?_⟩
  have : (k + 1) * esz <= n * esz := Nat.mul_le_mul_right _ hk
  rw [Nat.add_mul] at this
  omega
abbrev Pt := Int × Int
def ptC (p : Pt) : List C := [.int .i64 p.1, .int .i64 p.2]
def ptsC (l : List Pt) : List C := l.flatMap ptC
def ptV (p : Pt) : V := .agg (ptC p)
def Pts (H : Hp) (l : List Pt) (v : V) : Prop := Sl H 2 l.length (ptsC l) v
theorem ptsC_len : ∀ l : List Pt, (ptsC l).length = l.length * 2
 | [] => rfl
 | p :: l => by simp only [ptsC, List.flatMap_cons, List.length_append, List.length_cons]; rw [show (l.flatMap ptC) = ptsC l from rfl, ptsC_len l]; simp [ptC]; omega
theorem ptsC_at : ∀ {l : List Pt} {i : Nat} {p : Pt}, l[i]? = some p -> ((ptsC l).drop (i * 2)).take 2 = ptC p
 | [], i, p, h => by simp at h
 | q :: l, 0, p, h => by simp at h; subst h; simp [ptsC, ptC]
 | q :: l, i + 1, p, h => by
  have := ptsC_at (l := l) (i := i) (p := p) (by simpa using h)
  simp only [ptsC, List.flatMap_cons]
  rw [show (i + 1) * 2 = (ptC q).length + i * 2 by simp [ptC]; omega, List.drop_append, List.drop_of_length_le (by simp [ptC]), List.nil_append]
  rw [show (ptC q).length + i * 2 - (ptC q).length = i * 2 by omega]
  exact this
theorem Pts.at {H : Hp} {l : List Pt} {v : V} (h : Pts H l v) {k : Nat} {p : Pt} (hk : l[k]? = some p) (kd : IntKind) : ∃ b o, iaddrV 2 v (.one (.int kd k)) = some (.one (.ptr b o)) /\ H.loads b o 2 = some (ptC p) := by
 obtain ⟨b, o, h1, h2⟩ := Sl.at h (List.getElem?_eq_some_iff.1 hk).1 kd
 exact ⟨b, o, h1, by rw [h2, ptsC_at hk]⟩
theorem Pts.len {H : Hp} {l : List Pt} {v : V} (h : Pts H l v) : lenV v = some (.one (.int .i64 l.length)) := Sl.len h
theorem Pts.ext {H H' : Hp} {l : List Pt} {v : V} (h : Pts H l v) (he : Ext H H') : Pts H' l v := Sl.ext h he
@[simp] theorem Hp.loads_skip (H : Hp) (k : Nat) : ∀ (n b o : Nat), (H.skip k).loads b o n = H.loads b o n
 | 0, _, _ => rfl
 | n + 1, b, o => by
  simp only [Hp.loads]
  rw [Hp.loads_skip H k n b (o + 1)]
  rfl
@[simp] theorem Hp.cell_skip (H : Hp) (k b i : Nat) : (H.skip k).cell b i = H.cell b i := rfl
def Row (H : Hp) (b : Nat) (l : List C) : Prop := (∃ z m, H.get b = some (.row l.length z m true)) /\ H.loads b 0 l.length = some l
theorem loads_congr {H H' : Hp} {b : Nat} (h : H'.get b = H.get b) : ∀ (n o : Nat), H'.loads b o n = H.loads b o n
 | 0, _ => rfl
 | n + 1, o => by
  have hc : H'.cell b o = H.cell b o := by unfold Hp.cell; rw [h]
  simp only [Hp.loads, hc, loads_congr h n (o + 1)]
theorem Row.same {H H' : Hp} {b : Nat} {l : List C} (h : Row H b l) (hg : H'.get b = H.get b) : Row H' b l := ⟨by rw [hg]; exact h.1, by rw [loads_congr hg]; exact h.2⟩
theorem Row.lt {H : Hp} {b : Nat} {l : List C} (h : Row H b l) (hw : WF H) : b < H.nx := by obtain ⟨⟨z, m, hg⟩, _⟩ := h; exact hw b _ hg
theorem Row.mut {H : Hp} {b : Nat} {l : List C} (h : Row H b l) : H.mutRow b = true := by obtain ⟨⟨z, m, hg⟩, _⟩ := h; simp [Hp.mutRow, hg]
theorem Row.new {H : Hp} (l : List C) : Row (H.push (.row l.length l .lf true)) H.nx l :=
 ⟨⟨l, .lf, by rw [Hp.get_push, if_pos rfl]⟩, loads_row (rw := true) (by rw [Hp.get_push, if_pos rfl])⟩
theorem loads_set {H : Hp} {b : Nat} {N : Nat} {z : List C} {m : T C} {i : Nat} {c : C} (hg : H.get b = some (.row N z m true)) (hi : i < N) : ∀ {n o : Nat} {l : List C}, H.loads b o n = some l ->
  (H.add b (.row N z (m.set i (some c)) true)).loads b o n = some (if o <= i then l.set (i - o) c else l)
 | 0, o, l, h => by
  simp only [Hp.loads, Option.some.injEq] at h ⊢
  subst h; simp
 | n + 1, o, l, h => by
  simp only [Hp.loads] at h ⊢
  split at h
  ·cases h
  ·rename_i c0 hc0
   split at h
   ·cases h
   ·rename_i l' hl'
    obtain rfl := Option.some.inj h
    have hcell : (H.add b (.row N z (m.set i (some c)) true)).cell b o = some (if o = i then c else c0) := by
     simp only [Hp.cell, Hp.get_add_self, Option.bind_some, row_set hi]
     split
     ·rfl
     ·simpa [Hp.cell, hg] using hc0
    rw [hcell]
    simp only
    rw [loads_set hg hi hl']
    by_cases e1 : o = i
    ·subst e1
     rw [if_neg (by omega)]
     simp
    ·by_cases e2 : o <= i
     ·rw [if_pos (by omega), if_neg e1, if_pos e2, show i - o = (i - (o + 1)) + 1 by omega]
      simp
     ·rw [if_neg (by omega), if_neg e1, if_neg e2]
theorem Row.store {H : Hp} {b : Nat} {l : List C} (h : Row H b l) {i : Nat} (hi : i < l.length) (c : C) :
  ∃ H', H.store b i c = some H' /\ Row H' b (l.set i c) /\ (∀ b', b' ≠ b -> H'.get b' = H.get b') /\ H'.nx = H.nx := by
 obtain ⟨⟨z, m, hg⟩, hl⟩ := h
 refine ⟨_, by simp only [Hp.store, hg, hi, if_true]; rfl, ⟨⟨z, m.set i (some c), by simp⟩, ?_⟩, fun b' hb' => Hp.get_add_ne _ _ hb', rfl⟩
 rw [List.length_set, loads_set hg hi hl]
 simp
def setL (l : List C) (i : Nat) : List C -> List C
 | [] => l
 | c :: cs => setL (l.set i c) (i + 1) cs
theorem setL_len : ∀ (cs l : List C) (i : Nat), (setL l i cs).length = l.length
 | [], _, _ => rfl
 | c :: cs, l, i => by rw [setL, setL_len]; simp
theorem Row.stores : ∀ {cs : List C} {H : Hp} {b : Nat} {l : List C}, Row H b l -> ∀ {i : Nat}, i + cs.length <= l.length ->
  ∃ H', H.stores b i cs = some H' /\ Row H' b (setL l i cs) /\ (∀ b', b' ≠ b -> H'.get b' = H.get b') /\ H'.nx = H.nx
 | [], H, b, l, h, i, _ => ⟨H, rfl, h, fun _ _ => rfl, rfl⟩
 | c :: cs, H, b, l, h, i, hi => by
  simp only [List.length_cons] at hi
  obtain ⟨H1, h1, h2, h3, h4⟩ := h.store (i := i) (by omega) c
  obtain ⟨H2, g1, g2, g3, g4⟩ := Row.stores (cs := cs) h2 (i := i + 1) (by simp; omega)
  exact ⟨H2, by simp only [Hp.stores, h1, g1], g2, fun b' hb' => (g3 b' hb').trans (h3 b' hb'), by rw [g4, h4]⟩
def Own (H : Hp) (lo esz n : Nat) (cs : List C) (v : V) : Prop := cs.length = n * esz /\ ((v = .one .nils /\ n = 0) \/ ∃ b ex, v = .one (.slc b 0 n n esz ex) /\ lo <= b /\ Row H b cs)
def ownB : V -> Option Nat
 | .one (.slc b _ _ _ _ _) => some b
 | _ => none
theorem Own.same {H H' : Hp} {lo esz n : Nat} {cs : List C} {v : V} (h : Own H lo esz n cs v) (hg : ∀ b, ownB v = some b -> H'.get b = H.get b) : Own H' lo esz n cs v := by
 refine ⟨h.1, ?_⟩
 rcases h.2 with h'|⟨b, ex, rfl, hl, hr⟩
 ·exact .inl h'
 ·exact .inr ⟨b, ex, rfl, hl, hr.same (hg b rfl)⟩
theorem Own.append {H : Hp} {lo esz bytes n : Nat} {cs : List C} {v : V} (h : Own H lo esz n cs v) (hw : WF H) (hlo : lo <= H.nx) {m : Nat} {news : List C} (hn : news.length = m * esz) (hm : 0 < m) (hb : (n + m) * bytes <= 140737488355328) (h62 : n + m < 4611686018427387904) :
  ∃ v' H', aAppend H esz bytes v m news = some (v', H') /\ Own H' lo esz (n + m) (cs ++ news) v' /\ ownB v' = some H.nx /\ (∀ b, b ≠ H.nx -> ownB v ≠ some b -> H'.get b = H.get b) /\ H'.nx = H.nx + 1 /\ WF H' := by
 have hl := h.1
 rcases h.2 with ⟨rfl, rfl⟩|⟨b, ex, rfl, hlb, hr⟩
 ·have : cs = [] := List.eq_nil_of_length_eq_zero (by simpa using hl)
  subst this
  rw [Nat.zero_add] at hb h62
  refine ⟨.one (.slc H.nx 0 m m esz false), H.push (.row news.length news .lf true), by simp only [aAppend]; rw [if_neg (by omega), if_pos ⟨hb, h62⟩], ⟨by simp [hn], .inr ⟨H.nx, false, by simp, hlo, ?_⟩⟩, rfl, fun b hb _ => by rw [Hp.get_push, if_neg hb], rfl, hw.push _⟩
  simpa using Row.new (H := H) news
 ·have hbl := hr.lt hw
  have hlen : (cs ++ news).length = (n + m) * esz := by simp [hl, hn, Nat.add_mul]
  have hld : H.loads b 0 (n * esz) = some cs := by rw [<- hl]; exact hr.2
  cases ex with
  | true =>
   refine ⟨.one (.slc H.nx 0 (n + m) (n + m) esz false), H.push (.row (cs ++ news).length (cs ++ news) .lf true), by simp only [aAppend]; rw [if_neg (by simp), if_neg (by omega), if_pos ⟨hb, h62⟩, hld]; simp only [if_true], ⟨hlen, .inr ⟨_, _, rfl, hlo, Row.new _⟩⟩, rfl, fun b' hb' _ => by rw [Hp.get_push, if_neg hb'], rfl, hw.push _⟩
  | false =>
   refine ⟨.one (.slc H.nx 0 (n + m) (n + m) esz false), (H.push (.row (cs ++ news).length (cs ++ news) .lf true)).del b, by simp only [aAppend]; rw [if_neg (by simp), if_neg (by omega), if_pos ⟨hb, h62⟩, hld]; simp only [Bool.false_eq_true, if_false, hr.mut, if_true], ⟨hlen, .inr ⟨H.nx, false, rfl, hlo, (Row.new _).same ?_⟩⟩, rfl, fun b' hb' ho => ?_, rfl, fun b' k hk => ?_⟩
   ·rw [Hp.get_del, if_neg (by omega)]
   ·rw [Hp.get_del, if_neg (fun e => ho (by simp [ownB, e])), Hp.get_push, if_neg hb']
   ·rw [Hp.get_del] at hk
    split at hk
    ·cases hk
    ·exact hw.push _ b' k hk
end Go.Ab

namespace Go.Ab
namespace T
variable {α β : Type}
def bindT (f : α -> Option β) : T α -> T β
 | lf => lf
 | nd v l r => nd (v.bind f) (bindT f l) (bindT f r)
theorem get_bindT (f : α -> Option β) : ∀ (t : T α) (n : Nat), (t.bindT f).get n = (t.get n).bind f
 | lf, _ => rfl
 | nd v l r, n => by
  simp only [bindT, get_nd]
  split
  ·rfl
  ·split
   ·exact get_bindT f l _
   ·exact get_bindT f r _
def over : T α -> T α -> T α
 | lf, t => t
 | nd v l r, lf => nd v l r
 | nd v l r, nd v' l' r' => nd (v.or v') (over l l') (over r r')
theorem get_over : ∀ (t t' : T α) (n : Nat), (t.over t').get n = (t.get n).or (t'.get n)
 | lf, _, _ => by simp [over]
 | nd v l r, lf, n => by simp [over]
 | nd v l r, nd v' l' r', n => by
  simp only [over, get_nd]
  split
  ·rfl
  ·split
   ·exact get_over l l' _
   ·exact get_over r r' _
end T
def B.ro : B -> Option B
 | .row n z m _ => some (.row n z m false)
 | .mp _ => none
 | .lp .. => none
 | .st .. => none
 | .it .. => none
def Hp.ro (H : Hp) : Hp := ⟨H.m.bindT B.ro, H.nx⟩
theorem Hp.get_ro (H : Hp) (b : Nat) : H.ro.get b = (H.get b).bind B.ro := T.get_bindT _ _ _
@[simp] theorem Hp.nx_ro (H : Hp) : H.ro.nx = H.nx := rfl
theorem B.ro_mut {x y : B} (h : x.ro = some y) : y.mut = false := by
 cases x with
 | row n z m rw => simp only [B.ro, Option.some.injEq] at h; subst h; rfl
 | mp es => cases h
 | lp => cases h
 | st => cases h
 | it => cases h
theorem B.ro_cell {x y : B} (h : x.ro = some y) (i : Nat) : y.cell i = x.cell i := by
 cases x with
 | row n z m rw => simp only [B.ro, Option.some.injEq] at h; subst h; rfl
 | mp es => cases h
 | lp => cases h
 | st => cases h
 | it => cases h
theorem Hp.cell_ro (H : Hp) (b i : Nat) : H.ro.cell b i = H.cell b i := by
 unfold Hp.cell
 rw [Hp.get_ro]
 cases h : H.get b with
 | none => rfl
 | some x =>
  cases x with
  | row n z m rw => rfl
  | mp es => rfl
  | lp => rfl
  | st => rfl
  | it => rfl
theorem Hp.ro_mut {H : Hp} {b : Nat} {bk : B} (h : H.ro.get b = some bk) : bk.mut = false := by
 rw [Hp.get_ro, Option.bind_eq_some_iff] at h
 obtain ⟨x, _, hx⟩ := h
 exact B.ro_mut hx
def Le (H H' : Hp) : Prop := ∀ b i c, H.cell b i = some c -> H'.cell b i = some c
theorem Ext.le {H H' : Hp} (h : Ext H H') : Le H H' := fun _ _ _ hc => h.cell hc
theorem Le.ro (H : Hp) : Le H H.ro := fun b i c h => by rw [Hp.cell_ro]; exact h
theorem Le.loads {H H' : Hp} (h : Le H H') : ∀ {n b o : Nat} {l : List C}, H.loads b o n = some l -> H'.loads b o n = some l
 | 0, _, _, _, hl => hl
 | n + 1, b, o, l, hl => by
  simp only [Hp.loads] at hl ⊢
  cases hc : H.cell b o with
  | none => simp [hc] at hl
  | some c =>
   simp only [hc] at hl
   simp only [h _ _ _ hc]
   cases hr : H.loads b (o + 1) n with
   | none => simp [hr] at hl
   | some r => simp only [hr] at hl; simp only [h.loads hr]; exact hl
theorem Sl.le {H H' : Hp} {esz n : Nat} {l : List C} {v : V} (h : Sl H esz n l v) (he : Le H H') : Sl H' esz n l v := by
 refine ⟨h.1, ?_⟩
 rcases h.2 with h|⟨b, o, cap, ex, hv, hl⟩
 ·exact .inl h
 ·exact .inr ⟨b, o, cap, ex, hv, he.loads hl⟩
theorem Pts.le {H H' : Hp} {l : List Pt} {v : V} (h : Pts H l v) (he : Le H H') : Pts H' l v := Sl.le h he
def C.closed : C -> Bool
 | .bool _ => true
 | .int _ _ => true
 | .str _ => true
 | .nilp => true
 | .nils => true
 | .nilm => true
 | .nilf => true
 | .fn _ caps => caps.isEmpty
 | _ => false
def V.closed1 : V -> Bool
 | .one c => c.closed
 | .agg l => l.all C.closed
 | .tup _ => false
def V.closed : V -> Bool
 | .one c => c.closed
 | .agg l => l.all C.closed
 | .tup l => l.all V.closed1
section
variable {μ μ' : Nat -> Pl} {K K' : Nat -> Prop}
theorem RC.closed {c : C} {x : Value} (hc : c.closed = true) (h : RC μ K c x) : RC μ' K' c x := by
 cases c with
 | ptr b o => cases hc
 | slc b o len cap esz ex => cases hc
 | map b => cases hc
 | yld b => cases hc
 | fn f caps =>
  simp only [C.closed, List.isEmpty_iff] at hc
  subst hc
  exact ⟨fun p hp => (by cases hp), h.2⟩
 | _ => exact h
theorem RCs.closed : ∀ {l : List C} {xs : List Value}, l.all C.closed = true -> All2 (RC μ K) l xs -> All2 (RC μ' K') l xs
 | [], [], _, _ => trivial
 | _ :: _, _ :: _, hc, hh => by
  simp only [List.all_cons, Bool.and_eq_true] at hc
  exact ⟨RC.closed hc.1 hh.1, RCs.closed hc.2 hh.2⟩
 | [], _ :: _, _, hh => hh.elim
 | _ :: _, [], _, hh => hh.elim
theorem RV1.closed {v : V} {x : Value} (hc : v.closed1 = true) (h : RV1 μ K v x) : RV1 μ' K' v x := by
 cases v with
 | one c => exact RC.closed hc h
 | agg l => obtain ⟨xs, hx, ha⟩ := h; exact ⟨xs, hx, RCs.closed hc ha⟩
 | tup l => exact h.elim
theorem RV1s.closed : ∀ {l : List V} {xs : List Value}, l.all V.closed1 = true -> All2 (RV1 μ K) l xs -> All2 (RV1 μ' K') l xs
 | [], [], _, _ => trivial
 | _ :: _, _ :: _, hc, hh => by
  simp only [List.all_cons, Bool.and_eq_true] at hc
  exact ⟨RV1.closed hc.1 hh.1, RV1s.closed hc.2 hh.2⟩
 | [], _ :: _, _, hh => hh.elim
 | _ :: _, [], _, hh => hh.elim
theorem RV.closed {v : V} {x : Value} (hc : v.closed = true) (h : RV μ K v x) : RV μ' K' v x := by
 cases v with
 | one c => exact RC.closed hc h
 | agg l => obtain ⟨xs, hx, ha⟩ := h; exact ⟨xs, hx, RCs.closed hc ha⟩
 | tup l => obtain ⟨xs, hx, ha⟩ := h; exact ⟨xs, hx, RV1s.closed hc ha⟩
end
section
variable {P : Program} {G : Nat}
theorem Rel.toRo {μ : Nat -> Pl} {K : Nat -> Prop} {H : Hp} {w : World} (hR : Rel G μ K H w) : Rel G μ K H.ro w := by
 refine ⟨fun b bk h => ?_, hR.lt, fun b bk h => ?_, fun b b' bk bk' h _ hm => ?_, hR.glob⟩
 ·rw [Hp.get_ro, Option.bind_eq_some_iff] at h
  obtain ⟨x, hx, _⟩ := h
  exact hR.dom b x hx
 ·rw [Hp.get_ro, Option.bind_eq_some_iff] at h
  obtain ⟨x, hx, h⟩ := h
  have hb := hR.blk b x hx
  cases x with
  | mp es => cases h
  | lp => cases h
  | st => cases h
  | it => cases h
  | row n z m rw =>
   simp only [B.ro, Option.some.injEq] at h
   subst h
   obtain ⟨cs, t, fz, h1, h2, h3, h4, h5⟩ := hb
   exact ⟨cs, t, fz, h1, h2, h3, fun h => (by cases h), fun i c hc => h5 i c hc⟩
 ·rw [Hp.ro_mut h] at hm; cases hm
theorem ACalls.pure {f : FuncId} {args : List V} {H : Hp} {R : V -> Hp -> Prop} (h : ACalls P G f args H.ro R) (hc : ∀ v H', R v H' -> v.closed = true) : ACalls P G f args H fun v H' => (∃ H1, R v H1) /\ H' = H := by
 intro μ K w xs hR ha
 refine (h μ K w xs hR.toRo ha).mono ?_
 rintro e w' ⟨x, rfl, v, H', μ', K', h1, h2, h3, h4⟩
 have hkeep : ∀ i, i < w.heap.size -> w'.heap[i]? = w.heap[i]? := fun i hi => h4.keep i hi fun b bk hb hm => by rw [Hp.ro_mut hb] at hm; cases hm
 refine ⟨x, rfl, v, H, μ, K, ⟨⟨H', h1⟩, rfl⟩, h2.closed (hc v H' h1), ⟨hR.dom, hR.lt, fun b bk hb => ?_, hR.inj, hR.glob⟩, ?_⟩
 ·rw [hkeep _ (hR.blk_lt hb)]; exact hR.blk b bk hb
 ·have r := Fr.refl hR
  exact ⟨h4.same, h4.size, fun i hi _ => hkeep i hi, r.img, r.newmut, r.mu, r.kk, r.knew, r.nx, r.none, r.stay, r.ro⟩
def Hp.over (H H1 : Hp) : Hp := ⟨H.m.over H1.m, H1.nx⟩
theorem Hp.get_over (H H1 : Hp) (b : Nat) : (H.over H1).get b = (H.get b).or (H1.get b) := T.get_over _ _ _
theorem ACalls.grow {f : FuncId} {args : List V} {H : Hp} {R : V -> Hp -> Prop} (h : ACalls P G f args H.ro R) :
  ACalls P G f args H fun v H' => ∃ H1, R v H1 /\ H' = H.over H1 /\ H.nx <= H1.nx /\ (∀ b bk, H.get b = some bk -> H'.get b = some bk) /\ (∀ b, H.nx <= b -> H'.get b = H1.get b) /\ Le H1 H' := by
 intro μ K w xs hR ha
 refine (h μ K w xs hR.toRo ha).mono ?_
 rintro e w' ⟨x, rfl, v, H1, μ', K', h1, h2, h3, h4⟩
 have hkeep : ∀ i, i < w.heap.size -> w'.heap[i]? = w.heap[i]? := fun i hi => h4.keep i hi fun b bk hb hm => by rw [Hp.ro_mut hb] at hm; cases hm
 have hold : ∀ b bk, H.get b = some bk -> (H.over H1).get b = some bk := fun b bk hb => by rw [Hp.get_over, hb]; rfl
 have hno : ∀ b, H.nx <= b -> H.get b = none := fun b hb => by
  cases hg : H.get b with
  | none => rfl
  | some k => have := hR.lt' b k hg; omega
 have hnew : ∀ b, H.nx <= b -> (H.over H1).get b = H1.get b := fun b hb => by rw [Hp.get_over, hno b hb]; rfl
 have hcase : ∀ b bk, (H.over H1).get b = some bk -> H.get b = some bk \/ (H.get b = none /\ H1.get b = some bk /\ H.nx <= b /\ (bk.mut = true \/ (K' b /\ w.heap.size <= (μ' b).blk)) /\ w.heap.size <= (μ' b).blk) := by
  intro b bk hb
  rw [Hp.get_over] at hb
  cases hg : H.get b with
  | some k => rw [hg] at hb; exact .inl hb
  | none =>
   rw [hg] at hb
   have hb : H1.get b = some bk := hb
   by_cases hlt : b < H.nx
   ·have := h4.none b hlt (by rw [Hp.get_ro, hg]; rfl)
    rw [this] at hb; cases hb
   ·have hm := h4.newmut b bk (by simpa using hlt) hb
    refine .inr ⟨rfl, hb, by omega, hm, ?_⟩
    rcases hm with hm|⟨_, hge⟩
    ·rcases h4.img b bk hb hm with ⟨b0, k0, g0, m0, _⟩|hge
     ·rw [Hp.ro_mut g0] at m0; cases m0
     ·exact hge
    ·exact hge
 have hmu : ∀ b bk, H.get b = some bk -> μ' b = μ b := fun b bk hb => h4.mu b (hR.dom b bk hb)
 refine ⟨x, rfl, v, H.over H1, μ', K', ⟨H1, h1, rfl, h4.nx, hold, hnew, fun b i c hc => ?_⟩, h2, ⟨fun b bk hb => ?_, h3.lt, fun b bk hb => ?_, fun b b' bk bk' hb hb' hm he => ?_, h3.glob⟩, ?_⟩
 ·unfold Hp.cell at hc ⊢
  rw [Hp.get_over]
  cases hg : H.get b with
  | none => exact hc
  | some k =>
   simp only [Option.some_or, Option.bind_some]
   cases hk : k.ro with
   | none =>
    have hrn : H.ro.get b = none := by rw [Hp.get_ro, hg]; exact hk
    rw [h4.none b (hR.lt' b k hg) hrn] at hc
    cases hc
   | some k' =>
    have hrn : H.ro.get b = some k' := by rw [Hp.get_ro, hg]; exact hk
    rw [h4.ro b k' hrn (B.ro_mut hk)] at hc
    simpa [B.ro_cell hk] using hc
 ·rcases hcase b bk hb with ho|⟨_, hn, _⟩
  ·exact h4.kk b (hR.dom b bk ho)
  ·exact h3.dom b bk hn
 ·rcases hcase b bk hb with ho|⟨_, hn, _⟩
  ·rw [hmu b bk ho, hkeep _ (hR.blk_lt ho)]
   exact (hR.blk b bk ho).mono h4.kk h4.mu
  ·exact h3.blk b bk hn
 ·rcases hcase b bk hb with ho|⟨_, hn, hge, hm1, hsz⟩
  ·rcases hcase b' bk' hb' with ho'|⟨_, hn', _, _, hsz'⟩
   ·rw [hmu b bk ho, hmu b' bk' ho'] at he
    exact hR.inj b b' bk bk' ho ho' hm he
   ·rw [hmu b bk ho] at he
    have := hR.blk_lt ho
    omega
  ·rcases hcase b' bk' hb' with ho'|⟨_, hn', _⟩
   ·rw [hmu b' bk' ho'] at he
    have := hR.blk_lt ho'
    omega
   ·exact h3.inj b b' bk bk' hn hn' hm he
 ·refine ⟨h4.same, h4.size, fun i hi _ => hkeep i hi, fun b bk hb hm => ?_, fun b bk hb hg => ?_, h4.mu, h4.kk, h4.knew, h4.nx, fun b hb hn => ?_, fun b bk bk' hb hb' => ?_, fun b bk hb _ => hold b bk hb⟩
  ·rcases hcase b bk hb with ho|⟨_, _, _, _, hsz⟩
   ·exact .inl ⟨b, bk, ho, hm, by rw [hmu b bk ho]⟩
   ·exact .inr hsz
  ·rcases hcase b bk hg with ho|⟨_, _, _, hm, _⟩
   ·have := hR.lt' b bk ho; omega
   ·exact hm
  ·cases hg : (H.over H1).get b with
   | none => rfl
   | some k =>
    rcases hcase b k hg with ho|⟨_, _, hge, _⟩
    ·rw [hn] at ho; cases ho
    ·omega
  ·rw [hold b bk hb] at hb'; rw [Option.some.inj hb']
end
end Go.Ab

namespace Go.Ab
namespace T
variable {α : Type}
def list : T α -> List (Nat × α)
 | lf => []
 | nd v l r => (match v with|some x => [(0, x)]|none => []) ++ (l.list.map (fun p => (2 * p.1 + 1, p.2)) ++ r.list.map (fun p => (2 * p.1 + 2, p.2)))
end T
end Go.Ab

namespace Go.Ae
open Go.Ab Go.Proofs
set_option maxRecDepth 100000
theorem is3 : isFn Tryz.prog 3 = true := by kernel_rfl
theorem is4 : isFn Tryz.prog 4 = true := by kernel_rfl
theorem is5 : isFn Tryz.prog 5 = true := by kernel_rfl
theorem is6 : isFn Tryz.prog 6 = true := by kernel_rfl
theorem is7 : isFn Tryz.prog 7 = true := by kernel_rfl
theorem is8 : isFn Tryz.prog 8 = true := by kernel_rfl
theorem is9 : isFn Tryz.prog 9 = true := by kernel_rfl
theorem is10 : isFn Tryz.prog 10 = true := by kernel_rfl
theorem is11 : isFn Tryz.prog 11 = true := by kernel_rfl
theorem is12 : isFn Tryz.prog 12 = true := by kernel_rfl
theorem is13 : isFn Tryz.prog 13 = true := by kernel_rfl
theorem is14 : isFn Tryz.prog 14 = true := by kernel_rfl
theorem is15 : isFn Tryz.prog 15 = true := by kernel_rfl
theorem is16 : isFn Tryz.prog 16 = true := by kernel_rfl
theorem is17 : isFn Tryz.prog 17 = true := by kernel_rfl
theorem is18 : isFn Tryz.prog 18 = true := by kernel_rfl
theorem is19 : isFn Tryz.prog 19 = true := by kernel_rfl
theorem is20 : isFn Tryz.prog 20 = true := by kernel_rfl
theorem is21 : isFn Tryz.prog 21 = true := by kernel_rfl
theorem is22 : isFn Tryz.prog 22 = true := by kernel_rfl
theorem is23 : isFn Tryz.prog 23 = true := by kernel_rfl
theorem is24 : isFn Tryz.prog 24 = true := by kernel_rfl
theorem is25 : isFn Tryz.prog 25 = true := by kernel_rfl
theorem is26 : isFn Tryz.prog 26 = true := by kernel_rfl
theorem is27 : isFn Tryz.prog 27 = true := by kernel_rfl
theorem is28 : isFn Tryz.prog 28 = true := by kernel_rfl
theorem is29 : isFn Tryz.prog 29 = true := by kernel_rfl
theorem is30 : isFn Tryz.prog 30 = true := by kernel_rfl
theorem is31 : isFn Tryz.prog 31 = true := by kernel_rfl
theorem is32 : isFn Tryz.prog 32 = true := by kernel_rfl
theorem is33 : isFn Tryz.prog 33 = true := by kernel_rfl
theorem is34 : isFn Tryz.prog 34 = true := by kernel_rfl
theorem is35 : isFn Tryz.prog 35 = true := by kernel_rfl
theorem is36 : isFn Tryz.prog 36 = true := by kernel_rfl
theorem is37 : isFn Tryz.prog 37 = true := by kernel_rfl
theorem is38 : isFn Tryz.prog 38 = true := by kernel_rfl
theorem is39 : isFn Tryz.prog 39 = true := by kernel_rfl
theorem is40 : isFn Tryz.prog 40 = true := by kernel_rfl
theorem is41 : isFn Tryz.prog 41 = true := by kernel_rfl
theorem is42 : isFn Tryz.prog 42 = true := by kernel_rfl
theorem is43 : isFn Tryz.prog 43 = true := by kernel_rfl
theorem is44 : isFn Tryz.prog 44 = true := by kernel_rfl
theorem is45 : isFn Tryz.prog 45 = true := by kernel_rfl
theorem is46 : isFn Tryz.prog 46 = true := by kernel_rfl
theorem is47 : isFn Tryz.prog 47 = true := by kernel_rfl
theorem is48 : isFn Tryz.prog 48 = true := by kernel_rfl
theorem is49 : isFn Tryz.prog 49 = true := by kernel_rfl
theorem is50 : isFn Tryz.prog 50 = true := by kernel_rfl
theorem is51 : isFn Tryz.prog 51 = true := by kernel_rfl
theorem is52 : isFn Tryz.prog 52 = true := by kernel_rfl
theorem is53 : isFn Tryz.prog 53 = true := by kernel_rfl
theorem is54 : isFn Tryz.prog 54 = true := by kernel_rfl
theorem is55 : isFn Tryz.prog 55 = true := by kernel_rfl
theorem is56 : isFn Tryz.prog 56 = true := by kernel_rfl
theorem is57 : isFn Tryz.prog 57 = true := by kernel_rfl
theorem is58 : isFn Tryz.prog 58 = true := by kernel_rfl
theorem is59 : isFn Tryz.prog 59 = true := by kernel_rfl
theorem is61 : isFn Tryz.prog 61 = true := by kernel_rfl
theorem is62 : isFn Tryz.prog 62 = true := by kernel_rfl
theorem is63 : isFn Tryz.prog 63 = true := by kernel_rfl
theorem is64 : isFn Tryz.prog 64 = true := by kernel_rfl
theorem is65 : isFn Tryz.prog 65 = true := by kernel_rfl
theorem is66 : isFn Tryz.prog 66 = true := by kernel_rfl
theorem is67 : isFn Tryz.prog 67 = true := by kernel_rfl
theorem is68 : isFn Tryz.prog 68 = true := by kernel_rfl
theorem is69 : isFn Tryz.prog 69 = true := by kernel_rfl
theorem is70 : isFn Tryz.prog 70 = true := by kernel_rfl
theorem is71 : isFn Tryz.prog 71 = true := by kernel_rfl
theorem is72 : isFn Tryz.prog 72 = true := by kernel_rfl
theorem is73 : isFn Tryz.prog 73 = true := by kernel_rfl
theorem is74 : isFn Tryz.prog 74 = true := by kernel_rfl
theorem is75 : isFn Tryz.prog 75 = true := by kernel_rfl
theorem is76 : isFn Tryz.prog 76 = true := by kernel_rfl
theorem is77 : isFn Tryz.prog 77 = true := by kernel_rfl
theorem is78 : isFn Tryz.prog 78 = true := by kernel_rfl
theorem is81 : isFn Tryz.prog 81 = true := by kernel_rfl
theorem is82 : isFn Tryz.prog 82 = true := by kernel_rfl
theorem is83 : isFn Tryz.prog 83 = true := by kernel_rfl
theorem is84 : isFn Tryz.prog 84 = true := by kernel_rfl
theorem is86 : isFn Tryz.prog 86 = true := by kernel_rfl
theorem is87 : isFn Tryz.prog 87 = true := by kernel_rfl
theorem is88 : isFn Tryz.prog 88 = true := by kernel_rfl
theorem is90 : isFn Tryz.prog 90 = true := by kernel_rfl
theorem is93 : isFn Tryz.prog 93 = true := by kernel_rfl
theorem is95 : isFn Tryz.prog 95 = true := by kernel_rfl
theorem is104 : isFn Tryz.prog 104 = true := by kernel_rfl
theorem is105 : isFn Tryz.prog 105 = true := by kernel_rfl
end Go.Ae

namespace Go.Ab
abbrev Env := List (Nat × V)
def look : Env -> Nat -> Option V
 | [], _ => none
 | (k, v) :: E, n => match Nat.beq k n with
  | true => some v
  | false => look E n
def Sub (E : Env) (F : T V) : Prop := ∀ n v, look E n = some v -> F.get n = some v
def SubE (E E' : Env) : Prop := ∀ n v, look E n = some v -> look E' n = some v
theorem SubE.nil (E : Env) : SubE [] E := fun _ _ h => by cases h
theorem look_cons (k : Nat) (v : V) (E : Env) (n : Nat) : look ((k, v) :: E) n = if k = n then some v else look E n := by
 simp only [look]
 by_cases h : k = n
 ·subst h; simp
 ·rw [if_neg h]
  have : Nat.beq k n = false := by cases hb : Nat.beq k n with
   | true => exact absurd (Nat.eq_of_beq_eq_true hb) h
   | false => rfl
  rw [this]
theorem SubE.cons {E E' : Env} {k : Nat} {v : V} (h : look E' k = some v) (hr : SubE E E') : SubE ((k, v) :: E) E' := fun n x hx => by
 rw [look_cons] at hx
 split at hx
 ·rename_i e; subst e; rw [h]; exact hx
 ·exact hr n x hx
theorem Sub.of {E E' : Env} {F : T V} (h : Sub E' F) (hs : SubE E E') : Sub E F := fun n v hv => h n v (hs n v hv)
def setE (E : Env) : Option Nat -> V -> Env
 | some d, v => (d, v) :: E
 | none, _ => E
theorem Sub.set {E : Env} {F : T V} (h : Sub E F) (d : Option Nat) (v : V) : Sub (setE E d v) (setO F d v) := by
 cases d with
 | none => exact h
 | some d =>
  intro n x hx
  simp only [setE, look_cons] at hx
  simp only [setO, T.get_set]
  split at hx
  ·rename_i e; subst e; rw [if_pos rfl]; exact hx
  ·rename_i e; rw [if_neg (fun h => e h.symm)]; exact h n x hx
def res (E : Env) : Opd -> Opd
 | .t n => match look E n with
  | some v => .c v
  | none => .t n
 | .c v => .c v
def okO (E : Env) : Opd -> Bool
 | .t n => (look E n).isSome
 | .c _ => true
theorem res_ev {E : Env} {F : T V} (h : Sub E F) {o : Opd} (ho : okO E o = true) : (res E o).ev .lf = o.ev F := by
 cases o with
 | c v => rfl
 | t n =>
  simp only [okO, Option.isSome_iff_exists] at ho
  obtain ⟨v, hv⟩ := ho
  simp [res, hv, Opd.ev, h n v hv]
def mapPs (f : Opd -> Opd) : List (Nat × Nat × Opd) -> List (Nat × Nat × Opd)
 | [] => []
 | (a, b, x) :: r => (a, b, f x) :: mapPs f r
def psOpds : List (Nat × Nat × Opd) -> List Opd
 | [] => []
 | (_, _, x) :: r => x :: psOpds r
def mapO (f : Opd -> Opd) : Option Opd -> Option Opd
 | none => none
 | some x => some (f x)
def oOpds : Option Opd -> List Opd
 | none => []
 | some x => [x]
def PureOp.mp (f : Opd -> Opd) : PureOp -> PureOp
 | .mv x => .mv (f x)
 | .pick c a b => .pick (f c) (f a) (f b)
 | .build z ps => .build z (mapPs f ps)
 | .nilck x => .nilck (f x)
 | .bin op x y => .bin op (f x) (f y)
 | .beq n x y => .beq n (f x) (f y)
 | .eqs n ks x y => .eqs n ks (f x) (f y)
 | .neg x => .neg (f x)
 | .not x => .not (f x)
 | .conv k x => .conv k (f x)
 | .mkfn g caps => .mkfn g (caps.map f)
 | .slice e x lo hi mx => .slice e (f x) (mapO f lo) (mapO f hi) (mapO f mx)
 | .faddr o x => .faddr o (f x)
 | .field a o n x => .field a o n (f x)
 | .iaddr e x i => .iaddr e (f x) (f i)
 | .aaddr l e x i => .aaddr l e (f x) (f i)
 | .aindex l e a x i => .aindex l e a (f x) (f i)
 | .extract x i => .extract (f x) i
 | .len x => .len (f x)
 | .mm b x y => .mm b (f x) (f y)
 | .nileq n x => .nileq n (f x)
 | .cint n => .cint n
 | .sindex x i => .sindex (f x) (f i)
 | .slen x => .slen (f x)
 | .sslice x lo hi => .sslice (f x) (mapO f lo) (mapO f hi)
 | .cap x => .cap (f x)
def PureOp.opds : PureOp -> List Opd
 | .mv x => [x]
 | .pick c a b => [c, a, b]
 | .build _ ps => psOpds ps
 | .nilck x => [x]
 | .bin _ x y => [x, y]
 | .beq _ x y => [x, y]
 | .eqs _ _ x y => [x, y]
 | .neg x => [x]
 | .not x => [x]
 | .conv _ x => [x]
 | .mkfn _ caps => caps
 | .slice _ x lo hi mx => x :: (oOpds lo ++ (oOpds hi ++ oOpds mx))
 | .faddr _ x => [x]
 | .field _ _ _ x => [x]
 | .iaddr _ x i => [x, i]
 | .aaddr _ _ x i => [x, i]
 | .aindex _ _ _ x i => [x, i]
 | .extract x _ => [x]
 | .len x => [x]
 | .mm _ x y => [x, y]
 | .nileq _ x => [x]
 | .cint _ => []
 | .sindex x i => [x, i]
 | .slen x => [x]
 | .sslice x lo hi => x :: (oOpds lo ++ oOpds hi)
 | .cap x => [x]
section
variable {f : Opd -> Opd} {F F' : T V}
theorem fill_mp : ∀ {ps : List (Nat × Nat × Opd)} {z : List C}, (∀ o ∈ psOpds ps, (f o).ev F' = o.ev F) -> fillL F' z (mapPs f ps) = fillL F z ps
 | [], _, _ => rfl
 | (a, b, x) :: r, z, h => by
  simp only [mapPs, fillL, h x (by simp [psOpds])]
  split
  ·rfl
  ·split
   ·exact fill_mp fun o ho => h o (by simp [psOpds, ho])
   ·rfl
theorem caps_mp : ∀ {l : List Opd}, (∀ o ∈ l, (f o).ev F' = o.ev F) -> capsL F' (l.map f) = capsL F l
 | [], _ => rfl
 | x :: l, h => by
  simp only [List.map_cons, capsL, h x (by simp), caps_mp (l := l) fun o ho => h o (by simp [ho])]
theorem bound_mp {d y : Nat} {x : Option Opd} (h : ∀ o ∈ oOpds x, (f o).ev F' = o.ev F) : aBound F' d y (mapO f x) = aBound F d y x := by
 cases x with
 | none => rfl
 | some x => simp only [mapO, aBound, h x (by simp [oOpds])]
theorem sslice_mp {v : V} {lo hi : Option Opd} (h : ∀ o ∈ oOpds lo ++ oOpds hi, (f o).ev F' = o.ev F) : aSslice F' v (mapO f lo) (mapO f hi) = aSslice F v lo hi := by
 unfold aSslice
 have h1 : ∀ k y, aBound F' k y (mapO f lo) = aBound F k y lo := fun k y => by
  cases lo with
  | none => rfl
  | some x => simp only [mapO, aBound, h x (by simp [oOpds])]
 have h2 : ∀ k y, aBound F' k y (mapO f hi) = aBound F k y hi := fun k y => by
  cases hi with
  | none => rfl
  | some x => simp only [mapO, aBound, h x (by simp [oOpds])]
 simp only [h1, h2]
theorem slice_mp {e : Nat} {v : V} {lo hi mx : Option Opd} (h : ∀ o ∈ oOpds lo ++ (oOpds hi ++ oOpds mx), (f o).ev F' = o.ev F) : aSlice F' e v (mapO f lo) (mapO f hi) (mapO f mx) = aSlice F e v lo hi mx := by
 have h1 : ∀ d y, aBound F' d y (mapO f lo) = aBound F d y lo := fun _ _ => bound_mp fun o ho => h o (by simp [ho])
 have h2 : ∀ d y, aBound F' d y (mapO f hi) = aBound F d y hi := fun _ _ => bound_mp fun o ho => h o (by simp [ho])
 have h3 : ∀ d y, aBound F' d y (mapO f mx) = aBound F d y mx := fun _ _ => bound_mp fun o ho => h o (by simp [ho])
 have h4 : (mapO f mx).isSome = mx.isSome := by cases mx <;> rfl
 simp only [aSlice, h1, h2, h3, h4]
theorem pure_mp {op : PureOp} (h : ∀ o ∈ op.opds, (f o).ev F' = o.ev F) : aPure F' (op.mp f) = aPure F op := by
 cases op with
 | build z ps => simp only [PureOp.mp, aPure, fill_mp h]
 | mkfn g caps =>
  have h' : ∀ o ∈ caps, (f o).ev F' = o.ev F := h
  simp only [PureOp.mp, aPure, caps_mp h']
 | sslice x lo hi =>
  simp only [PureOp.mp, aPure]
  rw [h x (by simp [PureOp.opds]), sslice_mp fun o ho => h o (by simp only [PureOp.opds, List.mem_cons]; exact .inr ho)]
 | slice e x lo hi mx =>
  simp only [PureOp.mp, aPure]
  rw [h x (by simp [PureOp.opds]), slice_mp fun o ho => h o (by simp only [PureOp.opds, List.mem_cons]; exact .inr ho)]
 | _ => simp only [PureOp.opds, List.mem_cons, List.not_mem_nil, or_false, forall_eq_or_imp, forall_eq] at h <;> simp only [PureOp.mp, aPure, h]
def LoadOp.mp (f : Opd -> Opd) : LoadOp -> LoadOp
 | .load a n x => .load a n (f x)
 | .lookup z ok m k => .lookup z ok (f m) (f k)
 | .mlen m => .mlen (f m)
def LoadOp.opds : LoadOp -> List Opd
 | .load _ _ x => [x]
 | .lookup _ _ m k => [m, k]
 | .mlen m => [m]
theorem load_mp {H : Hp} {op : LoadOp} (h : ∀ o ∈ op.opds, (f o).ev F' = o.ev F) : aLoad F' H (op.mp f) = aLoad F H op := by
 cases op <;> simp only [LoadOp.opds, List.mem_cons, List.not_mem_nil, or_false, forall_eq_or_imp, forall_eq] at h <;> simp only [LoadOp.mp, aLoad, h]
def AllocOp.mp (f : Opd -> Opd) : AllocOp -> AllocOp
 | .alloc z => .alloc z
 | .box x => .box (f x)
 | .bslice e l z ps => .bslice e l z (mapPs f ps)
 | .mkslice e b z l c => .mkslice e b z (f l) (f c)
 | .mkmap => .mkmap
 | .mkst => .mkst
def AllocOp.opds : AllocOp -> List Opd
 | .alloc _ => []
 | .box x => [x]
 | .bslice _ _ _ ps => psOpds ps
 | .mkslice _ _ _ l c => [l, c]
 | .mkmap => []
 | .mkst => []
theorem alloc_mp {op : AllocOp} (h : ∀ o ∈ op.opds, (f o).ev F' = o.ev F) : aAlloc F' (op.mp f) = aAlloc F op := by
 cases op with
 | bslice e l z ps => simp only [AllocOp.mp, aAlloc, fill_mp h]
 | _ => simp only [AllocOp.opds, List.mem_cons, List.not_mem_nil, or_false, forall_eq_or_imp, forall_eq] at h <;> simp only [AllocOp.mp, aAlloc, h]
def EffOp.mp (f : Opd -> Opd) : EffOp -> EffOp
 | .store n a x => .store n (f a) (f x)
 | .append e b s x => .append e b (f s) (f x)
 | .copy e d s => .copy e (f d) (f s)
 | .mapupd m k x => .mapupd (f m) (f k) (f x)
 | .clear e z x => .clear e z (f x)
 | .appendz e b z s x => .appendz e b z (f s) (f x)
 | .sbytes x => .sbytes (f x)
 | .stupd m k x => .stupd (f m) (f k) (f x)
 | .rng m => .rng (f m)
 | .ent m => .ent (f m)
def EffOp.opds : EffOp -> List Opd
 | .store _ a x => [a, x]
 | .append _ _ s x => [s, x]
 | .copy _ d s => [d, s]
 | .mapupd m k x => [m, k, x]
 | .clear _ _ x => [x]
 | .appendz _ _ _ s x => [s, x]
 | .sbytes x => [x]
 | .stupd m k x => [m, k, x]
 | .rng m => [m]
 | .ent m => [m]
theorem eff_mp {H : Hp} {op : EffOp} (h : ∀ o ∈ op.opds, (f o).ev F' = o.ev F) : aEff F' H (op.mp f) = aEff F H op := by
 cases op <;> simp only [EffOp.opds, List.mem_cons, List.not_mem_nil, or_false, forall_eq_or_imp, forall_eq] at h <;> simp only [EffOp.mp, aEff, h]
end
theorem all_ev {E : Env} {F : T V} (h : Sub E F) {l : List Opd} (hl : l.all (okO E) = true) : ∀ o ∈ l, (res E o).ev .lf = o.ev F := fun o ho => res_ev h (List.all_eq_true.1 hl o ho)
def CtxLe (c0 c : Ctx) : Prop := ∀ x ∈ c, ∃ y ∈ c0, y.1 = x.1 /\ ∀ H, y.2 H -> x.2 H
theorem CtxLe.watch {c0 c : Ctx} (h : CtxLe c0 c) {ws : List Nat} {H : Hp} (hw : watchOk ws c0 H) : watchOk ws c H := by
 cases ws with
 | nil => trivial
 | cons k r =>
  intro j hj p hp
  obtain ⟨y, hy, e, hh⟩ := h (j, p) hp
  obtain ⟨y1, y2⟩ := y
  simp only at e
  subst e
  exact hh H (hw _ hj y2 hy)
theorem CtxLe.cons {c0 c : Ctx} (h : CtxLe c0 c) (k : Nat) {p0 p : Hp -> Prop} (hp : ∀ H, p0 H -> p H) : CtxLe ((k, p0) :: c0) ((k, p) :: c) := fun x hx => by
 rcases List.mem_cons.1 hx with rfl|hx
 ·exact ⟨(k, p0), by simp, rfl, hp⟩
 ·obtain ⟨y, hy, r⟩ := h x hx
  exact ⟨y, by simp [hy], r⟩
section
variable {P : Program} {G base : Nat} {Q : Env -> Hp -> Prop} {r : List SOper} {ctx : Ctx} {E : Env} {H : Hp} {id : Nat} {dst : Option Nat} {aid : Option Nat} {ws : List Nat} {keep : Bool}
def PW (P : Program) (G base : Nat) (Q : Env -> Hp -> Prop) (l : List SOper) (ctx : Ctx) (E : Env) (H : Hp) : Prop :=
 ∀ F c, Sub E F -> CtxLe ctx c -> wOps P G base (fun F' H' => ∃ E', Sub E' F' /\ Q E' H') l c F H
theorem pw_nil (h : Q E H) : PW P G base Q [] ctx E H := fun _ _ hs _ => ⟨E, hs, h⟩
theorem pw_p {op : PureOp} {v : V} (hk : op.opds.all (okO E) = true) (hv : aPure .lf (op.mp (res E)) = some v) (h : PW P G base Q r ctx (setE E dst v) H) : PW P G base Q (⟨id, dst, .p op, none, aid, ws, keep⟩ :: r) ctx E H := by
 intro F c hs hc
 rw [pure_mp (all_ev hs hk)] at hv
 simp only [wOps, wantedA, if_true, hv]
 exact h _ c (hs.set dst v) hc
theorem pw_mvt {n : Nat} {v : V} (hv : look E n = some v) (h : PW P G base Q r ctx (setE E dst v) H) : PW P G base Q (⟨id, dst, .p (.mv (.t n)), none, aid, ws, keep⟩ :: r) ctx E H :=
 pw_p (by simp [PureOp.opds, okO, hv]) (by simp [PureOp.mp, aPure, res, hv, Opd.ev]) h
theorem pw_mvc {v : V} (h : PW P G base Q r ctx (setE E dst v) H) : PW P G base Q (⟨id, dst, .p (.mv (.c v)), none, aid, ws, keep⟩ :: r) ctx E H :=
 pw_p rfl rfl h
theorem pw_l {op : LoadOp} {v : V} (hk : op.opds.all (okO E) = true) (hv : aLoad .lf H (op.mp (res E)) = some v) (h : PW P G base Q r ctx (setE E dst v) H) : PW P G base Q (⟨id, dst, .l op, none, aid, ws, false⟩ :: r) ctx E H := by
 intro F c hs hc
 rw [load_mp (all_ev hs hk)] at hv
 simp only [wOps, wantedA, if_true, hv, Bool.false_eq_true, if_false]
 exact h _ c (hs.set dst v) hc
theorem pw_lk {op : LoadOp} {v : V} (hk : op.opds.all (okO E) = true) (hv : aLoad .lf H (op.mp (res E)) = some v) (h : PW P G base Q r ((id, fun H' => aLoad .lf H' (op.mp (res E)) = some v) :: ctx) (setE E dst v) H) : PW P G base Q (⟨id, dst, .l op, none, aid, ws, true⟩ :: r) ctx E H := by
 intro F c hs hc
 have hv' := hv
 rw [load_mp (all_ev hs hk)] at hv'
 simp only [wOps, wantedA, if_true, hv']
 exact h _ _ (hs.set dst v) (hc.cons id fun H' hh => by rw [load_mp (all_ev hs hk)] at hh; exact hh)
theorem pw_l1 {n : Nat} {a : Opd} {b o : Nat} {c : C} (hk : okO E a = true) (ha : (res E a).ev .lf = .one (.ptr b o)) (hc : H.cell b o = some c) (h : PW P G base Q r ctx (setE E dst (.one c)) H) : PW P G base Q (⟨id, dst, .l (.load false n a), none, aid, ws, false⟩ :: r) ctx E H :=
 pw_l (by simp [LoadOp.opds, hk]) (by simp [LoadOp.mp, aLoad, ha, hc]) h
theorem pw_ln {n : Nat} {a : Opd} {b o : Nat} {l : List C} (hk : okO E a = true) (ha : (res E a).ev .lf = .one (.ptr b o)) (hc : H.loads b o n = some l) (h : PW P G base Q r ctx (setE E dst (.agg l)) H) : PW P G base Q (⟨id, dst, .l (.load true n a), none, aid, ws, false⟩ :: r) ctx E H :=
 pw_l (by simp [LoadOp.opds, hk]) (by simp [LoadOp.mp, aLoad, ha, hc]) h
theorem pw_a {op : AllocOp} {bk : B} {g : Nat -> V} (hk : op.opds.all (okO E) = true) (hv : aAlloc .lf (op.mp (res E)) = some (bk, g)) (h : PW P G base Q r ctx (setE E dst (g H.nx)) (H.push bk)) : PW P G base Q (⟨id, dst, .a op, none, none, ws, keep⟩ :: r) ctx E H := by
 intro F c hs hc
 rw [alloc_mp (all_ev hs hk)] at hv
 simp only [wOps, wantedA, if_true, hv]
 exact h _ c (hs.set dst _) hc
theorem pw_aid {op : AllocOp} {bk : B} {g : Nat -> V} {k : Nat} (hk : op.opds.all (okO E) = true) (hv : aAlloc .lf (op.mp (res E)) = some (bk, g)) (h : PW P G base Q r ctx (setE E dst (g (base + k))) (H.add (base + k) bk)) : PW P G base Q (⟨id, dst, .a op, none, some k, ws, keep⟩ :: r) ctx E H := by
 intro F c hs hc
 rw [alloc_mp (all_ev hs hk)] at hv
 simp only [wOps, wantedA, if_true, hv]
 exact h _ c (hs.set dst _) hc
theorem pw_e {op : EffOp} {v : V} {H' : Hp} (hk : op.opds.all (okO E) = true) (hv : aEff .lf H (op.mp (res E)) = some (v, H')) (hw : watchOk ws ctx H') (h : PW P G base Q r ctx (setE E dst v) H') : PW P G base Q (⟨id, dst, .e op, none, aid, ws, keep⟩ :: r) ctx E H := by
 intro F c hs hc
 rw [eff_mp (all_ev hs hk)] at hv
 simp only [wOps, wantedA, if_true, hv]
 exact ⟨hc.watch hw, h _ c (hs.set dst _) hc⟩
theorem args_ev {F : T V} (hs : Sub E F) : ∀ {args : List Opd}, args.all (okO E) = true -> args.map (·.ev F) = args.map (fun a => (res E a).ev .lf)
 | [], _ => rfl
 | a :: l, h => by
  simp only [List.all_cons, Bool.and_eq_true] at h
  simp only [List.map_cons, res_ev hs h.1, args_ev hs h.2]
theorem pw_cf {f : FuncId} {args : List Opd} {vs : List V} (hk : args.all (okO E) = true) (hvs : args.map (fun a => (res E a).ev .lf) = vs) (h : ACalls P G f vs H fun v H' => watchOk ws ctx H' /\ PW P G base Q r ctx (setE E dst v) H') : PW P G base Q (⟨id, dst, .cf f args, none, aid, ws, keep⟩ :: r) ctx E H := by
 intro F c hs hc
 subst hvs
 simp only [wOps, wantedA, if_true]
 rw [args_ev hs hk]
 exact h.mono fun v H' hh => ⟨hc.watch hh.1, hh.2 _ c (hs.set dst v) hc⟩
theorem pw_want {op : SOp} {g : Nat} {t want : Bool} (hg : look E g = some (.one (.bool t))) (ht : t = want) (h : PW P G base Q (⟨id, dst, op, none, aid, ws, keep⟩ :: r) ctx E H) : PW P G base Q (⟨id, dst, op, some (g, want), aid, ws, keep⟩ :: r) ctx E H := by
 intro F c hs hc
 have := h F c hs hc
 have hw : wantedA (some (g, want)) F = true := by simp [wantedA, hs g _ hg, ht]
 rw [wOps] at this ⊢
 simp only [wantedA, if_true] at this
 simp only [hw, if_true]
 exact this
theorem pw_skip {op : SOp} {g : Nat} {t want : Bool} (hg : look E g = some (.one (.bool t))) (ht : t = !want) (h : PW P G base Q r ctx (setE E dst V.undef) H) : PW P G base Q (⟨id, dst, op, some (g, want), aid, ws, keep⟩ :: r) ctx E H := by
 intro F c hs hc
 have hw : wantedA (some (g, want)) F = false := by simp [wantedA, hs g _ hg, ht]
 rw [wOps]
 simp only [hw, Bool.false_eq_true, if_false]
 exact h _ c (hs.set dst _) hc
theorem pw_pg {op : PureOp} {v : V} {g : Nat} {t want : Bool} (hg : look E g = some (.one (.bool t))) (hk : op.opds.all (okO E) = true) (hv : t = want -> aPure .lf (op.mp (res E)) = some v) (h : PW P G base Q r ctx (setE E dst (if t = want then v else V.undef)) H) : PW P G base Q (⟨id, dst, .p op, some (g, want), aid, ws, keep⟩ :: r) ctx E H := by
 by_cases ht : t = want
 ·exact pw_want hg ht (pw_p hk (hv ht) (by rw [if_pos ht] at h; exact h))
 ·exact pw_skip hg (by cases t <;> cases want <;> simp_all) (by rw [if_neg ht] at h; exact h)
theorem pw_lg {op : LoadOp} {v : V} {g : Nat} {t want : Bool} (hg : look E g = some (.one (.bool t))) (hk : op.opds.all (okO E) = true) (hv : t = want -> aLoad .lf H (op.mp (res E)) = some v) (h : PW P G base Q r ctx (setE E dst (if t = want then v else V.undef)) H) : PW P G base Q (⟨id, dst, .l op, some (g, want), aid, ws, false⟩ :: r) ctx E H := by
 by_cases ht : t = want
 ·exact pw_want hg ht (pw_l hk (hv ht) (by rw [if_pos ht] at h; exact h))
 ·exact pw_skip hg (by cases t <;> cases want <;> simp_all) (by rw [if_neg ht] at h; exact h)
theorem pw_lg1 {n : Nat} {a : Opd} {b o : Nat} {c : C} {g : Nat} {t want : Bool} (hg : look E g = some (.one (.bool t))) (hk : okO E a = true) (ha : t = want -> (res E a).ev .lf = .one (.ptr b o)) (hc : H.cell b o = some c) (h : PW P G base Q r ctx (setE E dst (if t = want then .one c else V.undef)) H) : PW P G base Q (⟨id, dst, .l (.load false n a), some (g, want), aid, ws, false⟩ :: r) ctx E H :=
 pw_lg hg (by simp [LoadOp.opds, hk]) (fun ht => by simp [LoadOp.mp, aLoad, ha ht, hc]) h
theorem pw_pick {c a b : Opd} {t x y : Bool} (hk : [c, a, b].all (okO E) = true) (hc : (res E c).ev .lf = .one (.bool t)) (ha : t = true -> (res E a).ev .lf = .one (.bool x)) (hb : t = false -> (res E b).ev .lf = .one (.bool y)) (h : PW P G base Q r ctx (setE E dst (.one (.bool (if t = true then x else y)))) H) : PW P G base Q (⟨id, dst, .p (.pick c a b), none, aid, ws, keep⟩ :: r) ctx E H := by
 refine pw_p (v := .one (.bool (if t = true then x else y))) hk ?_ h
 simp only [PureOp.mp, aPure, hc]
 cases t with
 | true => simp [ha rfl]
 | false => simp [hb rfl]
end
def PS (P : Program) (G n : Nat) (s : SC) (Q : Exit -> Env -> Hp -> Prop) (E : Env) (H : Hp) : Prop := ∀ F, Sub E F -> SWP P G n s (fun e F' H' => ∃ E', Sub E' F' /\ Q e E' H') F H
def thenE (next : Env -> Hp -> Prop) (Q : Exit -> Env -> Hp -> Prop) : Exit -> Env -> Hp -> Prop
 | .normal, E, H => next E H
 | e, E, H => Q e E H
def blockE (id : Nat) (Q : Exit -> Env -> Hp -> Prop) : Exit -> Env -> Hp -> Prop
 | .exit id', E, H => if id' = id then Q .normal E H else Q (.exit id') E H
 | e, E, H => Q e E H
section
variable {P : Program} {G n : Nat} {Q : Exit -> Env -> Hp -> Prop} {E : Env} {H : Hp}
theorem ps_sub {s : SC} {E' : Env} (hs : SubE E' E) (h : PS P G n s Q E' H) : PS P G n s Q E H := fun F hF => h F (hF.of hs)
theorem ps_skip (h : Q .normal E H) : PS P G n .skip Q E H := fun _ hF => swp_skip ⟨E, hF, h⟩
theorem ps_exit {id : Nat} (h : Q (.exit id) E H) : PS P G n (.exit id) Q E H := fun _ hF => swp_exit ⟨E, hF, h⟩
theorem ps_ret (h : Q .ret E H) : PS P G n .ret Q E H := fun _ hF => swp_ret ⟨E, hF, h⟩
theorem ps_ops (hm : P.follows .mixedOrders = true) {l : List SOper} {rs : Nat} (h : PW P G H.nx (Q .normal) l [] E (H.skip rs)) : PS P G n (.ops l rs) Q E H := fun F hF => swp_ops hm (h F [] hF fun _ hx => by cases hx)
theorem ps_ops0 (hm : P.follows .mixedOrders = true) {l : List SOper} (h : PW P G H.nx (Q .normal) l [] E H) : PS P G n (.ops l 0) Q E H := ps_ops hm h
theorem ps_seq {a b : SC} (h : PS P G n a (thenE (PS P G n b Q) Q) E H) : PS P G n (.seq a b) Q E H := fun F hF => swp_seq (swp_mono (h F hF) fun e F' H' ⟨E', h1, h2⟩ => by
 cases e with
 | normal => exact h2 F' h1
 | _ => exact ⟨E', h1, h2⟩)
theorem ps_cond {d : Opd} {a b : SC} {t : Bool} (hk : okO E d = true) (ht : (res E d).ev .lf = .one (.bool t)) (h : PS P G n (if t then a else b) Q E H) : PS P G n (.cond d a b) Q E H := fun F hF => swp_cond (t := t) (by rw [<- res_ev hF hk]; exact ht) (h F hF)
theorem ps_if {d : Opd} {a b : SC} {t : Bool} (hk : okO E d = true) (ht : (res E d).ev .lf = .one (.bool t)) (h1 : t = true -> PS P G n a Q E H) (h2 : t = false -> PS P G n b Q E H) : PS P G n (.cond d a b) Q E H := ps_cond hk ht (by
 cases t with
 | true => exact h1 rfl
 | false => exact h2 rfl)
theorem ps_block {id : Nat} {a : SC} (h : PS P G n a (blockE id Q) E H) : PS P G n (.block id a) Q E H := fun F hF => swp_block (swp_mono (h F hF) fun e F' H' ⟨E', h1, h2⟩ => by
 cases e with
 | exit id' =>
  simp only [blockE] at h2
  simp only [blockQ]
  split
  ·rename_i e; rw [if_pos e] at h2; exact ⟨E', h1, h2⟩
  ·rename_i e; rw [if_neg e] at h2; exact ⟨E', h1, h2⟩
 | _ => exact ⟨E', h1, h2⟩)
theorem ps_loop {a : SC} (I : Nat -> Env -> Hp -> Prop) {m : Nat} (h0 : ∃ E0, SubE E0 E /\ I m E0 H) (round : ∀ m E H, WF H -> I m E H -> PS P G n a (thenE (fun E' H' => ∃ m', m' < m /\ ∃ E0, SubE E0 E' /\ I m' E0 H') Q) E H) : PS P G n (.loop a) Q E H := fun F hF => by
 obtain ⟨E0, hs, hI⟩ := h0
 refine swp_loop (fun m F H => ∃ E, Sub E F /\ I m E H) ⟨E0, hF.of hs, hI⟩ ?_
 rintro m F H ⟨E, hF, hI⟩
 refine swp_wf fun hw => swp_mono (round m E H hw hI F hF) fun e F' H' ⟨E', h1, h2⟩ => ?_
 cases e with
 | normal =>
  obtain ⟨m', hm', E0, hs, hI'⟩ := h2
  exact ⟨m', hm', E0, h1.of hs, hI'⟩
 | _ => exact ⟨E', h1, h2⟩
def argsE : List V -> Nat -> Env
 | [], _ => []
 | v :: l, i => (i, v) :: argsE l (i + 1)
theorem argsE_sub : ∀ (args : List V) (i : Nat), Sub (argsE args i) (initF args i)
 | [], _ => fun _ _ h => by cases h
 | v :: l, i => fun n x h => by
  simp only [argsE, look_cons] at h
  simp only [initF, T.get_set]
  split at h
  ·rename_i e; subst e; rw [if_pos rfl]; exact h
  ·rename_i e; rw [if_neg (fun h => e h.symm)]; exact argsE_sub l (i + 1) n x h
def resE (E : Env) (H : Hp) : SRes -> Option V
 | .t n => look E n
 | .cell agg k n => match look E n with
  | some v => aLoad .lf H (.load agg k (.c v))
  | none => none
def resEL (E : Env) (H : Hp) : List SRes -> Option (List V)
 | [] => some []
 | r :: l => match resE E H r, resEL E H l with
  | some v, some vs => if isOne v then some (v :: vs) else none
  | _, _ => none
def resultE (E : Env) (H : Hp) (rs : List SRes) : Option V :=
 match resEL E H rs with
 | some [v] => some v
 | some vs => some (.tup vs)
 | none => none
theorem resE_ok {F : T V} (hs : Sub E F) {r : SRes} {v : V} (h : resE E H r = some v) : aRes F H r = some v := by
 cases r with
 | t n => simp only [resE] at h; simp [aRes, hs n v h]
 | cell agg k n =>
  simp only [resE] at h
  split at h
  ·rename_i x hx
   simp only [aRes, aLoad, Opd.ev, hs n x hx, Option.getD_some] at h ⊢
   exact h
  ·cases h
theorem resEL_ok {F : T V} (hs : Sub E F) : ∀ {l : List SRes} {vs : List V}, resEL E H l = some vs -> aResL F H l = some vs
 | [], vs, h => h
 | r :: l, vs, h => by
  simp only [resEL] at h
  cases h1 : resE E H r with
  | none => simp [h1] at h
  | some v =>
   cases h2 : resEL E H l with
   | none => simp [h1, h2] at h
   | some vs' =>
    simp only [h1, h2] at h
    simp only [aResL, resE_ok hs h1, resEL_ok hs h2]
    exact h
theorem resultE_ok {F : T V} (hs : Sub E F) {rs : List SRes} {v : V} (h : resultE E H rs = some v) : aResult F H rs = some v := by
 unfold resultE at h
 unfold aResult
 cases h1 : resEL E H rs with
 | none => simp [h1] at h
 | some vs => rw [resEL_ok hs h1]; rw [h1] at h; exact h
def retE (rs : List SRes) (R : V -> Hp -> Prop) : Exit -> Env -> Hp -> Prop
 | .normal, E, H => ∃ v, resultE E H rs = some v /\ R v H
 | .ret, E, H => ∃ v, resultE E H rs = some v /\ R v H
 | _, _, _ => False
theorem pfn_ok {f : FuncId} {sf : SFn} (hf : cpFn P G f = some sf) {args : List V} {R : V -> Hp -> Prop} (hn : args.length <= sf.n) (h : WF H -> PS P G sf.n sf.code (retE sf.res R) (argsE args 0) H) : ACalls P G f args H R := by
 refine acalls_wf fun hw => fn_ok hf hn (swp_mono (h hw _ (argsE_sub args 0)) fun e F' H' ⟨E', h1, h2⟩ => ?_)
 cases e with
 | normal => obtain ⟨v, hv, hR⟩ := h2; simp only [retQ, resultE_ok h1 hv]; exact hR
 | ret => obtain ⟨v, hv, hR⟩ := h2; simp only [retQ, resultE_ok h1 hv]; exact hR
 | _ => exact h2.elim
end
end Go.Ab
namespace Go.Ab
section
variable {P : Program} {G base : Nat} {Q : Env -> Hp -> Prop} {r : List SOper} {ctx : Ctx} {E : Env} {H H' : Hp} {id : Nat} {dst : Option Nat} {aid : Option Nat} {ws : List Nat} {keep : Bool}
theorem pw_stn {n : Nat} {a x : Opd} {b o : Nat} {l : List C} (hk : [a, x].all (okO E) = true) (ha : (res E a).ev .lf = .one (.ptr b o)) (hx : (res E x).ev .lf = .agg l) (hn : l.length = n) (hs : H.stores b o l = some H') (hw : watchOk ws ctx H') (h : PW P G base Q r ctx (setE E dst V.undef) H') : PW P G base Q (⟨id, dst, .e (.store n a x), none, aid, ws, keep⟩ :: r) ctx E H :=
 pw_e hk (by simp [EffOp.mp, aEff, ha, hx, cells1, hn, hs]) hw h
theorem pw_app {esz bytes m : Nat} {s x : Opd} {sv xv v' : V} {news : List C} (hk : [s, x].all (okO E) = true) (hs : (res E s).ev .lf = sv) (hx : (res E x).ev .lf = xv) (hc : srcCells H esz xv = some (m, news)) (ha : aAppend H esz bytes sv m news = some (v', H')) (hw : watchOk ws ctx H') (h : PW P G base Q r ctx (setE E dst v') H') : PW P G base Q (⟨id, dst, .e (.append esz bytes s x), none, aid, ws, keep⟩ :: r) ctx E H :=
 pw_e hk (by simp [EffOp.mp, aEff, hs, hx, hc, ha]) hw h
end
end Go.Ab
namespace Go.Ab
section
variable {P : Program} {G base : Nat} {Q : Env -> Hp -> Prop} {r : List SOper} {ctx : Ctx} {E : Env} {H H' : Hp} {id : Nat} {dst : Option Nat} {aid : Option Nat} {ws : List Nat} {keep : Bool}
theorem pw_max {x y : Opd} {k : IntKind} {a b : Int} (hk : [x, y].all (okO E) = true) (hx : (res E x).ev .lf = .one (.int k a)) (hy : (res E y).ev .lf = .one (.int k b)) (h : PW P G base Q r ctx (setE E dst (.one (.int k (max a b)))) H) : PW P G base Q (⟨id, dst, .p (.mm true x y), none, aid, ws, keep⟩ :: r) ctx E H := by
 refine pw_p (v := .one (.int k (max a b))) hk ?_ h
 simp only [PureOp.mp, aPure, hx, hy, if_true]
 congr 3
 split <;> omega
end
end Go.Ab
namespace Go.Ab
section
variable {P : Program} {G base : Nat} {Q : Env -> Hp -> Prop} {r : List SOper} {ctx : Ctx} {E : Env} {H H' : Hp} {id : Nat} {dst : Option Nat} {aid : Option Nat} {ws : List Nat} {keep : Bool}
theorem b1_ev {esz : Nat} {z : List C} {x : Opd} {cs : List C} (hx : cells1 ((res E x).ev .lf) = some cs) (hn : cs.length = esz) : aAlloc .lf (AllocOp.mp (res E) (.bslice esz 1 z [(0, esz, x)])) = some (.row cs.length cs .lf true, fun b => .one (.slc b 0 1 1 esz true)) := by
 simp only [AllocOp.mp, aAlloc, mapPs, fillL, hx, hn]
 have hp : (patt z (1 * esz)).length = esz := by simp [patt]
 rw [if_pos ⟨trivial, by rw [hp]; omega⟩]
 simp only [List.take_zero, List.nil_append, Nat.zero_add]
 rw [List.drop_of_length_le (by rw [hp]; omega), List.append_nil, hn]
theorem pw_b1 {esz : Nat} {z : List C} {x : Opd} {cs : List C} (hk : okO E x = true) (hx : cells1 ((res E x).ev .lf) = some cs) (hn : cs.length = esz)
  (h : PW P G base Q r ctx (setE E dst (.one (.slc H.nx 0 1 1 esz true))) (H.push (.row cs.length cs .lf true))) : PW P G base Q (⟨id, dst, .a (.bslice esz 1 z [(0, esz, x)]), none, none, ws, keep⟩ :: r) ctx E H :=
 pw_a (by simp [AllocOp.opds, psOpds, hk]) (b1_ev hx hn) h
theorem pw_b1i {esz : Nat} {z : List C} {x : Opd} {cs : List C} {j : Nat} (hk : okO E x = true) (hx : cells1 ((res E x).ev .lf) = some cs) (hn : cs.length = esz)
  (h : PW P G base Q r ctx (setE E dst (.one (.slc (base + j) 0 1 1 esz true))) (H.add (base + j) (.row cs.length cs .lf true))) : PW P G base Q (⟨id, dst, .a (.bslice esz 1 z [(0, esz, x)]), none, some j, ws, keep⟩ :: r) ctx E H :=
 pw_aid (by simp [AllocOp.opds, psOpds, hk]) (b1_ev hx hn) h
theorem src_row {b n esz cap : Nat} {cs : List C} {ex : Bool} (h : H.loads b 0 (n * esz) = some cs) : srcCells H esz (.one (.slc b 0 n cap esz ex)) = some (n, cs) := by simp [srcCells, h]
end
end Go.Ab
namespace Go.Ab
theorem watch_all {ws : List Nat} {ctx : Ctx} {H : Hp} (h : ∀ x ∈ ctx, x.2 H) : watchOk ws ctx H := by
 cases ws with
 | nil => trivial
 | cons k r => exact fun j _ p hp => h (j, p) hp
section
variable {P : Program} {G base : Nat} {Q : Env -> Hp -> Prop} {r : List SOper} {ctx : Ctx} {E : Env} {H H' : Hp} {id : Nat} {dst : Option Nat} {aid : Option Nat} {ws : List Nat} {keep : Bool}
theorem pw_ctx {l : List SOper} {c0 : Ctx} (hc : CtxLe c0 ctx) (h : PW P G base Q l c0 E H) : PW P G base Q l ctx E H := fun F c hF hc' => h F c hF fun x hx => by
 obtain ⟨y, hy, e, hh⟩ := hc' x hx
 obtain ⟨y0, hy0, e0, hh0⟩ := hc y hy
 exact ⟨y0, hy0, e0.trans e, fun H h => hh H (hh0 H h)⟩
theorem pw_lk1 {n : Nat} {a : Opd} {b o : Nat} {c : C} (hk : okO E a = true) (ha : (res E a).ev .lf = .one (.ptr b o)) (hc : H.cell b o = some c) (h : PW P G base Q r ((id, fun H' => H'.cell b o = some c) :: ctx) (setE E dst (.one c)) H) : PW P G base Q (⟨id, dst, .l (.load false n a), none, aid, ws, true⟩ :: r) ctx E H :=
 pw_lk (by simp [LoadOp.opds, hk]) (by simp [LoadOp.mp, aLoad, ha, hc]) (pw_ctx (CtxLe.cons (fun x hx => ⟨x, hx, rfl, fun _ h => h⟩) id fun H' hh => by simp [LoadOp.mp, aLoad, ha, hh]) h)
theorem pw_rem {x y : Opd} {k : IntKind} {a b : Int} (hk : [x, y].all (okO E) = true) (hx : (res E x).ev .lf = .one (.int k a)) (hy : (res E y).ev .lf = .one (.int k b)) (hb : b ≠ 0) (h : PW P G base Q r ctx (setE E dst (.one (.int k (a.tmod b)))) H) : PW P G base Q (⟨id, dst, .p (.bin .rem x y), none, aid, ws, keep⟩ :: r) ctx E H :=
 pw_p (v := .one (.int k (a.tmod b))) hk (by simp [PureOp.mp, aPure, hx, hy, aBin, hb]) h
theorem pw_quo {x y : Opd} {k : IntKind} {a b : Int} (hk : [x, y].all (okO E) = true) (hx : (res E x).ev .lf = .one (.int k a)) (hy : (res E y).ev .lf = .one (.int k b)) (hb : b ≠ 0) (h : PW P G base Q r ctx (setE E dst (.one (.int k (k.wrap (a.tdiv b))))) H) : PW P G base Q (⟨id, dst, .p (.bin .quo x y), none, aid, ws, keep⟩ :: r) ctx E H :=
 pw_p (v := .one (.int k (k.wrap (a.tdiv b)))) hk (by simp [PureOp.mp, aPure, hx, hy, aBin, hb]) h
end
end Go.Ab
namespace Go.Ab
def allCtx (H : Hp) : Ctx -> Prop
 | [] => True
 | x :: c => x.2 H /\ allCtx H c
theorem allCtx.mem {H : Hp} : ∀ {c : Ctx}, allCtx H c -> ∀ x ∈ c, x.2 H
 | [], _, _, hx => by cases hx
 | y :: c, h, x, hx => by
  rcases List.mem_cons.1 hx with rfl|hx
  ·exact h.1
  ·exact allCtx.mem h.2 x hx
section
variable {P : Program} {G base : Nat} {Q : Env -> Hp -> Prop} {r : List SOper} {ctx : Ctx} {E : Env} {H H' : Hp} {id : Nat} {dst : Option Nat} {aid : Option Nat} {ws : List Nat} {keep : Bool}
theorem pw_cfp {f : FuncId} {args : List Opd} {vs : List V} {v0 : V} (hk : args.all (okO E) = true) (hvs : args.map (fun a => (res E a).ev .lf) = vs) (hc : ACalls P G f vs H fun v H' => v = v0 /\ H' = H) (hx : allCtx H ctx) (h : PW P G base Q r ctx (setE E dst v0) H) : PW P G base Q (⟨id, dst, .cf f args, none, aid, ws, keep⟩ :: r) ctx E H :=
 pw_cf hk hvs (hc.mono fun v H' ⟨e1, e2⟩ => by subst e1; subst e2; exact ⟨watch_all hx.mem, h⟩)
end
end Go.Ab
namespace Go.Ab
section
variable {P : Program} {G base : Nat} {Q : Env -> Hp -> Prop} {r : List SOper} {ctx : Ctx} {E : Env} {H H' : Hp} {id : Nat} {dst : Option Nat} {aid : Option Nat} {ws : List Nat} {keep : Bool}
theorem pw_mkc {esz bytes n m : Nat} {z : List C} {l c : Opd} {k k' : IntKind} (hk : [l, c].all (okO E) = true) (hl : (res E l).ev .lf = .one (.int k n)) (hc : (res E c).ev .lf = .one (.int k' m)) (hnm : n <= m) (hb : bytes * m <= 281474976710656) (hn : m < 4611686018427387904)
  (h : PW P G base Q r ctx (setE E dst (.one (.slc H.nx 0 n m esz true))) (H.push (.row (m * esz) z .lf true))) : PW P G base Q (⟨id, dst, .a (.mkslice esz bytes z l c), none, none, ws, keep⟩ :: r) ctx E H :=
 pw_a (bk := .row (m * esz) z .lf true) (g := fun b => .one (.slc b 0 n m esz true)) hk (by
  simp only [AllocOp.mp, aAlloc, hl, hc]
  rw [if_pos ⟨by omega, by omega, by omega, by omega⟩]
  simp) h
end
end Go.Ab

namespace Go.Ab
inductive FD where
 | c (x : C)
 | sl (esz n : Nat) (l : List FD)
inductive DC where
 | f (d : FD)
 | g (b o : Nat)
 | ptr (k o : Nat)
 | own (k o n esz : Nat)
 | fptr (l : List FD)
 | fn (f : FuncId) (caps : List (Nat × Nat))
 | any
 | trow (k i o n : Nat)
 | tptr (k i o : Nat)
 | om (k : Nat)
 | yl (k : Nat)
inductive DV where
 | one (c : DC)
 | agg (l : List DC)
 | tup (l : List DV)
abbrev DV.int (n : Int) : DV := .one (.f (.c (.int .i64 n)))
abbrev DV.bool (b : Bool) : DV := .one (.f (.c (.bool b)))
abbrev DV.undef : DV := .tup []
inductive ME where
 | row (r : List FD)
 | out (c : DC)
inductive Sh where
 | m (ks : Nat)
 | lp (st : LoopState) (j : Option Code) (f : FuncId) (n : Nat) (ts : List Nat) (ps : List Nat) (sg bd : Code)
 /-- a map with structures as keys, whole -/
 | st (es : List (V × V × Nat)) (clk : Nat)
 /-- an iteration over one; its one cell is the map -/
 | it (since : Nat) (seen : List Nat) (last : Nat)
inductive Bk where
 | cells (l : List DC)
 | data (l : List FD)
 | tree (rows : List (List FD))
 | mp (ks : Sh) (l : List DC)
 | mt (es : List (Int × ME))
inductive Slot where
 | nil
 | blk (b N : Nat)
inductive RF (Z : Nat -> Prop) (H : Hp) : FD -> C -> Prop where
 | c (x : C) : x.closed = true -> RF Z H (.c x) x
 | nil (esz : Nat) : RF Z H (.sl esz 0 []) .nils
 | sl {esz n b o cap : Nat} {ex : Bool} {l : List FD} {cs : List C} : (0 < n * esz -> Z b) -> l.length = n * esz -> n <= cap -> H.loads b o (n * esz) = some cs -> (∀ (i : Nat) d c, l[i]? = some d -> cs[i]? = some c -> RF Z H d c) -> RF Z H (.sl esz n l) (.slc b o n cap esz ex)
abbrev Key := Nat × Nat
abbrev Beta := Key -> Option Slot
def capsR (β : Beta) : List (Nat × Nat) -> List (Nat × Nat) -> Prop
 | [], [] => True
 | (k, o) :: r, (b, o') :: r' => o' = o /\ (∃ N, β (k, 0) = some (.blk b N)) /\ capsR β r r'
 | _, _ => False
def RD (Z : Nat -> Prop) (H : Hp) (β : Beta) : DC -> C -> Prop
 | .f d, c => RF Z H d c
 | .g b o, c => c = .ptr b o
 | .ptr k o, c => ∃ b N, β (k, 0) = some (.blk b N) /\ c = .ptr b o
 | .own k o n esz, c => (β (k, 0) = some .nil /\ n = 0 /\ o = 0 /\ c = .nils) \/ ∃ b N cap ex, β (k, 0) = some (.blk b N) /\ c = .slc b o n cap esz ex /\ n <= cap /\ o + cap * esz <= N
 | .fptr l, c => ∃ b o cs, c = .ptr b o /\ Z b /\ H.loads b o l.length = some cs /\ All2 (RF Z H) l cs
 | .fn f caps, c => ∃ caps', c = .fn f caps' /\ capsR β caps caps'
 | .any, _ => True
 | .tptr k i o, c => ∃ b N, β (k, i + 1) = some (.blk b N) /\ c = .ptr b o
 | .om k, c => ∃ b N, β (k, 0) = some (.blk b N) /\ c = .map b
 | .yl k, c => ∃ b N, β (k, 0) = some (.blk b N) /\ c = .yld b
 | .trow k i o n, c => (β (k, i + 1) = some .nil /\ n = 0 /\ o = 0 /\ c = .nils) \/ ∃ b N cap ex, β (k, i + 1) = some (.blk b N) /\ c = .slc b o n cap 1 ex /\ n <= cap /\ o + cap * 1 <= N
def RDV1 (Z : Nat -> Prop) (H : Hp) (β : Beta) : DV -> V -> Prop
 | .one d, v => ∃ c, v = .one c /\ RD Z H β d c
 | .agg l, v => ∃ cs, v = .agg cs /\ All2 (RD Z H β) l cs
 | .tup _, _ => False
def RDV (Z : Nat -> Prop) (H : Hp) (β : Beta) : DV -> V -> Prop
 | .tup l, v => ∃ vs, v = .tup vs /\ All2 (RDV1 Z H β) l vs
 | d, v => RDV1 Z H β d v
def Bk.rel (Z : Nat -> Prop) (H : Hp) (β : Beta) : Bk -> List C -> Prop
 | .cells l, cs => All2 (RD Z H β) l cs
 | .data l, cs => All2 (RF Z H) l cs
 | .tree _, _ => False
 | .mp _ l, cs => All2 (RD Z H β) l cs
 | .mt _, _ => False
def Bk.len : Bk -> Nat
 | .cells l => l.length
 | .data l => l.length
 | .tree rows => rows.length
 | .mp _ l => l.length
 | .mt es => es.length
def Bk.flat : Bk -> Bool
 | .tree _ => false
 | .mt _ => false
 | _ => true
def Bk.shape : Bk -> Option Sh
 | .mp ks _ => some ks
 | _ => none
def keyOk : Nat -> V -> Prop
 | 0, v => ∃ c, v = .one c
 | n + 1, v => ∃ l, v = .agg l /\ l.length = n + 1
def MF : List (V × V) -> List C
 | [] => []
 | (k, v) :: es => k.cells ++ v.cells ++ MF es
def TsR (F : T V) : List Nat -> List C -> Prop
 | [], [] => True
 | t :: ts, c :: cs => F.get t = some (.one c) /\ TsR F ts cs
 | _, _ => False
def RowK : Option Sh -> Hp -> Nat -> List C -> Prop
 | none, H, b, cs => Row H b cs
 | some (.m ks), H, b, cs => ∃ es, H.get b = some (.mp es) /\ (∀ e ∈ es, keyOk ks e.1 /\ ∃ c, e.2 = .one c) /\ MF es = cs
 | some (.lp st j f n ts ps sg bd), H, b, cs => ∃ F, H.get b = some (.lp st j f n F ps.toArray sg bd) /\ TsR F ts cs
 | some (.st es clk), H, b, cs => ∃ _ : Unit, H.get b = some (.st es clk) /\ cs = []
 | some (.it since seen last), H, b, cs => ∃ mb, H.get b = some (.it mb since seen last) /\ cs = [.map mb]
def lenOk : Option Sh -> Nat -> Nat -> List C -> Prop
 | none, n, N, _ => n = N
 | some _, _, _, rest => rest = []
theorem lenOk.of {s : Option Sh} {n N : Nat} {rest : List C} (hs : s = none) (h : n = N) : lenOk s n N rest := by subst hs; exact h
theorem RowK.same {s : Option Sh} {H H' : Hp} {b : Nat} {cs : List C} (h : RowK s H b cs) (hg : H'.get b = H.get b) : RowK s H' b cs := by
 cases s with
 | none => exact Row.same h hg
 | some ks => cases ks <;> (obtain ⟨es, h1, h2⟩ := h; exact ⟨es, by rw [hg]; exact h1, h2⟩)
abbrev DEnv := List (Nat × DV)
abbrev Bx := List (Nat × Bk)
def lk {α : Type} : List (Nat × α) -> Nat -> Option α
 | [], _ => none
 | (k, v) :: E, n => match Nat.beq k n with
  | true => some v
  | false => lk E n
theorem beq_self (k : Nat) : Nat.beq k k = true := by simp
theorem beq_ne {k n : Nat} (h : k ≠ n) : Nat.beq k n = false := by
 cases hb : Nat.beq k n with
 | true => exact absurd (Nat.eq_of_beq_eq_true hb) h
 | false => rfl
theorem lk_cons {α : Type} (k : Nat) (v : α) (E : List (Nat × α)) (n : Nat) : lk ((k, v) :: E) n = if k = n then some v else lk E n := by
 simp only [lk]
 by_cases h : k = n
 ·subst h; simp
 ·rw [if_neg h, beq_ne h]
def era {α : Type} (k : Nat) : List (Nat × α) -> List (Nat × α)
 | [] => []
 | (j, v) :: E => match Nat.beq j k with
  | true => era k E
  | false => (j, v) :: era k E
theorem lk_era {α : Type} (k n : Nat) : ∀ E : List (Nat × α), lk (era k E) n = if n = k then none else lk E n
 | [] => by simp [era, lk]
 | (j, v) :: E => by
  simp only [era]
  by_cases h : j = k
  ·subst h
   rw [beq_self, lk_cons]
   simp only
   rw [lk_era j n E]
   by_cases h2 : n = j
   ·rw [if_pos h2, if_pos h2]
   ·rw [if_neg h2, if_neg h2, if_neg (fun h => h2 h.symm)]
  ·rw [beq_ne h]
   simp only
   rw [lk_cons, lk_cons, lk_era k n E]
   by_cases h2 : j = n
   ·rw [if_pos h2, if_neg (by omega), if_pos h2]
   ·rw [if_neg h2, if_neg h2]
def put {α : Type} (k : Nat) (v : α) : List (Nat × α) -> List (Nat × α)
 | [] => []
 | (j, u) :: E => match Nat.beq j k with
  | true => (j, v) :: E
  | false => (j, u) :: put k v E
theorem lk_put {α : Type} (k : Nat) (v : α) (n : Nat) : ∀ E : List (Nat × α), lk (put k v E) n = if n = k then (lk E n).map (fun _ => v) else lk E n
 | [] => by simp [put, lk]
 | (j, u) :: E => by
  simp only [put]
  by_cases h : j = k
  ·subst h
   rw [beq_self]
   simp only
   rw [lk_cons, lk_cons]
   by_cases h2 : n = j
   ·subst h2; simp
   ·rw [if_neg h2, if_neg (fun h => h2 h.symm), if_neg (fun h => h2 h.symm)]
  ·rw [beq_ne h]
   simp only
   rw [lk_cons, lk_cons, lk_put k v n E]
   by_cases h2 : j = n
   ·rw [if_pos h2, if_pos h2, if_neg (by omega)]
   ·rw [if_neg h2, if_neg h2]
def rowsV (k : Nat) : Nat -> List (List FD) -> List DC
 | _, [] => []
 | i, r :: rs => .trow k i 0 r.length :: rowsV k (i + 1) rs
def mtV (k : Nat) : Nat -> List (Int × ME) -> List DC
 | _, [] => []
 | i, (y, .row r) :: es => .f (.c (.int .i64 y)) :: .trow k i 0 r.length :: mtV k (i + 1) es
 | i, (y, .out c) :: es => .f (.c (.int .i64 y)) :: c :: mtV k (i + 1) es
def mtRow : Option (Int × ME) -> Option Bk
 | some (_, .row r) => some (.data r)
 | _ => none
def lk2 (S : Bx) : Key -> Option Bk
 | (k, 0) => match lk S k with
  | some (.tree rows) => some (.cells (rowsV k 0 rows))
  | some (.mt es) => some (.mp (.m 0) (mtV k 0 es))
  | o => o
 | (k, i + 1) => match lk S k with
  | some (.tree rows) => (rows[i]?).map .data
  | some (.mt es) => mtRow es[i]?
  | _ => none
theorem mtRow_at {o : Option (Int × ME)} {x : Bk} (h : mtRow o = some x) : ∃ y r, o = some (y, .row r) /\ x = .data r := by
 unfold mtRow at h
 split at h
 ·exact ⟨_, _, rfl, (Option.some.inj h).symm⟩
 ·cases h
def ME.map (f : DC -> DC) : ME -> ME
 | .row r => .row r
 | .out c => .out (f c)
def mtMap (f : DC -> DC) (es : List (Int × ME)) : List (Int × ME) := es.map fun e => (e.1, e.2.map f)
theorem mtRow_map (f : DC -> DC) (es : List (Int × ME)) (i : Nat) : mtRow (mtMap f es)[i]? = mtRow es[i]? := by
 unfold mtMap
 rw [List.getElem?_map]
 cases es[i]? with
 | none => rfl
 | some e => obtain ⟨y, e⟩ := e; cases e <;> rfl
theorem mtV_map (f : DC -> DC) (k k' : Nat) (hf : ∀ x, f (.f x) = .f x) (ht : ∀ i n, f (.trow k i 0 n) = .trow k' i 0 n) : ∀ (i : Nat) (es : List (Int × ME)), mtV k' i (mtMap f es) = (mtV k i es).map f
 | _, [] => rfl
 | i, (y, .row r) :: es => by
  have := mtV_map f k k' hf ht (i + 1) es
  simp only [mtMap, List.map_cons, ME.map, mtV, hf, ht] at this ⊢
  rw [this]
 | i, (y, .out c) :: es => by
  have := mtV_map f k k' hf ht (i + 1) es
  simp only [mtMap, List.map_cons, ME.map, mtV, hf] at this ⊢
  rw [this]
theorem rowsV_len (k : Nat) : ∀ (i : Nat) (rs : List (List FD)), (rowsV k i rs).length = rs.length
 | _, [] => rfl
 | i, _ :: rs => by simp [rowsV, rowsV_len k (i + 1) rs]
theorem rowsV_at (k : Nat) : ∀ (i : Nat) (rs : List (List FD)) (j : Nat), (rowsV k i rs)[j]? = (rs[j]?).map fun r => .trow k (i + j) 0 r.length
 | _, [], j => by simp [rowsV]
 | i, r :: rs, 0 => by simp [rowsV]
 | i, r :: rs, j + 1 => by
  simp only [rowsV, List.getElem?_cons_succ, rowsV_at k (i + 1) rs j]
  rw [show i + 1 + j = i + (j + 1) by omega]
theorem lk2_lk {S : Bx} {κ : Key} {x : Bk} (h : lk2 S κ = some x) : ∃ y, lk S κ.1 = some y := by
 obtain ⟨k, i⟩ := κ
 cases i with
 | zero =>
  simp only [lk2] at h
  cases hl : lk S k with
  | none => rw [hl] at h; cases h
  | some y => exact ⟨y, rfl⟩
 | succ i =>
  simp only [lk2] at h
  cases hl : lk S k with
  | none => rw [hl] at h; cases h
  | some y => exact ⟨y, rfl⟩
theorem lk2_of {S : Bx} {k : Nat} {x : Bk} (h : lk S k = some x) (hx : x.flat = true) : lk2 S (k, 0) = some x := by
 simp only [lk2, h]
 cases x with
 | tree rows => cases hx
 | cells l => rfl
 | data l => rfl
 | mp ks l => rfl
 | mt es => cases hx
theorem lk2_flat {S : Bx} {k i : Nat} {x y : Bk} (h : lk S k = some x) (hx : x.flat = true) (hy : lk2 S (k, i) = some y) : i = 0 /\ y = x := by
 cases i with
 | zero => rw [lk2_of h hx] at hy; exact ⟨rfl, (Option.some.inj hy).symm⟩
 | succ i =>
  simp only [lk2, h] at hy
  cases x with
  | tree rows => cases hx
  | cells l => cases hy
  | data l => cases hy
  | mp ks l => cases hy
  | mt es => cases hx
theorem lk2_congr {S S' : Bx} {κ : Key} (h : lk S κ.1 = lk S' κ.1) : lk2 S κ = lk2 S' κ := by
 obtain ⟨k, i⟩ := κ
 cases i with
 | zero => simp only [lk2]; rw [h]
 | succ i => simp only [lk2]; rw [h]
theorem lk2_none {S : Bx} {κ : Key} (h : lk S κ.1 = none) : lk2 S κ = none := by
 cases hl : lk2 S κ with
 | none => rfl
 | some x => obtain ⟨y, hy⟩ := lk2_lk hl; rw [h] at hy; cases hy
structure Par where
 P : Program
 G : Nat
 GH : Hp
 Z0 : Nat -> Prop
 lo : Nat
 anc : Nat
 β0 : Beta
 H1 : Hp
 /-- whose round it is -/
 ρ : Option Nat
abbrev Par.base (P : Program) (G : Nat) (GH : Hp) (Z0 : Nat -> Prop) (lo : Nat) : Par := ⟨P, G, GH, Z0, lo, 0, fun _ => none, ⟨.lf, 0⟩, none⟩
def Par.fix (p : Par) (b : Nat) (bk : B) : Prop := p.GH.get b = some bk \/ (p.Z0 b /\ p.H1.get b = some bk)
def BoxR (p : Par) (Z : Nat -> Prop) (H : Hp) (β : Beta) (x : Bk) : Slot -> Prop
 | .nil => x.len = 0
 | .blk b N => ¬ Z b /\ p.lo <= b /\ b < H.nx /\ ∃ cs rest, RowK x.shape H b (cs ++ rest) /\ lenOk x.shape (cs ++ rest).length N rest /\ x.rel Z H β cs
structure SR (p : Par) (Z : Nat -> Prop) (β : Beta) (H : Hp) (S : Bx) (nn : Nat) : Prop where
 wf : WF H
 lo : p.lo <= H.nx
 z : ∀ b, Z b -> b < H.nx
 zlo : ∀ b, Z b -> p.Z0 b \/ p.lo <= b
 zz : ∀ b, p.Z0 b -> Z b
 glob : ∀ b bk, p.fix b bk -> Z b /\ H.get b = some bk
 nk : ∀ κ : Key, nn <= κ.1 -> β κ = none
 bd : ∀ κ b N, β κ = some (.blk b N) -> b < H.nx
 box : ∀ κ x, lk2 S κ = some x -> ∃ s, β κ = some s /\ BoxR p Z H β x s
 inj : ∀ (κ κ' : Key) x x' b N N', lk S κ.1 = some x -> lk S κ'.1 = some x' -> β κ = some (.blk b N) -> β κ' = some (.blk b N') -> κ = κ'
 blo : ∀ κ b N, β κ = some (.blk b N) -> p.lo <= b
 anch : ∀ κ : Key, κ.1 < p.anc -> κ.2 = 0 -> β κ = p.β0 κ
 ancn : p.anc <= nn
def ER (Z : Nat -> Prop) (β : Beta) (H : Hp) (E : DEnv) (F : T V) : Prop := ∀ n d, lk E n = some d -> ∃ v, F.get n = some v /\ RDV Z H β d v
section
variable {Z Z' : Nat -> Prop} {H H' : Hp} {β β' : Beta}
def ZLe (Z : Nat -> Prop) (H : Hp) (Z' : Nat -> Prop) (H' : Hp) : Prop := ∀ b, Z b -> Z' b /\ ∀ i c, H.cell b i = some c -> H'.cell b i = some c
theorem ZLe.loads (h : ZLe Z H Z' H') {b : Nat} (hb : Z b) : ∀ {n o : Nat} {l : List C}, H.loads b o n = some l -> H'.loads b o n = some l
 | 0, _, _, hl => hl
 | n + 1, o, l, hl => by
  simp only [Hp.loads] at hl ⊢
  cases hc : H.cell b o with
  | none => simp [hc] at hl
  | some c =>
   simp only [hc] at hl
   simp only [(h b hb).2 _ _ hc]
   cases hr : H.loads b (o + 1) n with
   | none => simp [hr] at hl
   | some r => simp only [hr] at hl; simp only [h.loads hb hr]; exact hl
theorem RF.mono (h : ZLe Z H Z' H') {d : FD} {c : C} (hr : RF Z H d c) : RF Z' H' d c := by
 induction hr with
 | c x hx => exact .c x hx
 | nil e => exact .nil e
 | sl hz hl hn hld _ ih =>
  rename_i esz n _ _ _ _ _ _ _
  refine .sl (fun h0 => (h _ (hz h0)).1) hl hn ?_ ih
  by_cases h0 : 0 < n * esz
  ·exact h.loads (hz h0) hld
  ·have h1 : n * esz = 0 := by omega
   rw [h1] at hld ⊢
   exact hld
def BLe (β β' : Beta) : Prop := ∀ k s, β k = some s -> β' k = some s
theorem capsR.mono (hb : BLe β β') : ∀ {l l' : List (Nat × Nat)}, capsR β l l' -> capsR β' l l'
 | [], [], _ => trivial
 | (_, _) :: _, (_, _) :: _, ⟨h1, ⟨N, h2⟩, h3⟩ => ⟨h1, ⟨N, hb _ _ h2⟩, capsR.mono hb h3⟩
theorem RD.mono (h : ZLe Z H Z' H') (hb : BLe β β') {d : DC} {c : C} (hr : RD Z H β d c) : RD Z' H' β' d c := by
 cases d with
 | f d => exact RF.mono h hr
 | g b o => exact hr
 | ptr k o => obtain ⟨b, N, h1, h2⟩ := hr; exact ⟨b, N, hb _ _ h1, h2⟩
 | own k o n esz =>
  rcases hr with ⟨h1, h2⟩|⟨b, N, cap, ex, h1, h2⟩
  ·exact .inl ⟨hb _ _ h1, h2⟩
  ·exact .inr ⟨b, N, cap, ex, hb _ _ h1, h2⟩
 | fptr l => obtain ⟨b, o, cs, h1, h2, h3, h4⟩ := hr; exact ⟨b, o, cs, h1, (h b h2).1, h.loads h2 h3, h4.mono fun _ _ => RF.mono h⟩
 | fn f caps => obtain ⟨caps', h1, h2⟩ := hr; exact ⟨caps', h1, h2.mono hb⟩
 | any => trivial
 | om k => obtain ⟨b, N, h1, h2⟩ := hr; exact ⟨b, N, hb _ _ h1, h2⟩
 | yl k => obtain ⟨b, N, h1, h2⟩ := hr; exact ⟨b, N, hb _ _ h1, h2⟩
 | tptr k i o => obtain ⟨b, N, h1, h2⟩ := hr; exact ⟨b, N, hb _ _ h1, h2⟩
 | trow k i o n =>
  rcases hr with ⟨h1, h2⟩|⟨b, N, cap, ex, h1, h2⟩
  ·exact .inl ⟨hb _ _ h1, h2⟩
  ·exact .inr ⟨b, N, cap, ex, hb _ _ h1, h2⟩
theorem RDV1.mono (h : ZLe Z H Z' H') (hb : BLe β β') {d : DV} {v : V} (hr : RDV1 Z H β d v) : RDV1 Z' H' β' d v := by
 cases d with
 | one d => obtain ⟨c, h1, h2⟩ := hr; exact ⟨c, h1, h2.mono h hb⟩
 | agg l => obtain ⟨c, h1, h2⟩ := hr; exact ⟨c, h1, h2.mono fun _ _ => RD.mono h hb⟩
 | tup l => exact hr.elim
theorem RDV.mono (h : ZLe Z H Z' H') (hb : BLe β β') {d : DV} {v : V} (hr : RDV Z H β d v) : RDV Z' H' β' d v := by
 cases d with
 | one d => exact RDV1.mono (d := .one d) h hb hr
 | agg l => exact RDV1.mono (d := .agg l) h hb hr
 | tup l => obtain ⟨vs, h1, h2⟩ := hr; exact ⟨vs, h1, h2.mono fun _ _ => RDV1.mono h hb⟩
theorem RDV.of1 {d : DV} {v : V} (h : RDV1 Z H β d v) : RDV Z H β d v := by
 cases d with
 | one c => exact h
 | agg l => exact h
 | tup l => exact h.elim
theorem Bk.rel_mono (h : ZLe Z H Z' H') (hb : BLe β β') {x : Bk} {cs : List C} (hr : x.rel Z H β cs) : x.rel Z' H' β' cs := by
 cases x with
 | cells l => exact All2.mono (fun _ _ => RD.mono h hb) hr
 | data l => exact All2.mono (fun _ _ => RF.mono h) hr
 | tree rows => exact hr.elim
 | mp ks l => exact All2.mono (fun _ _ => RD.mono h hb) hr
 | mt es => exact hr.elim
theorem Bk.rel_len {x : Bk} {cs : List C} (hr : x.rel Z H β cs) : x.len = cs.length := by
 cases x with
 | cells l => exact All2.len hr
 | data l => exact All2.len hr
 | tree rows => exact hr.elim
 | mp ks l => exact All2.len hr
 | mt es => exact hr.elim
theorem Bk.rel_flat {x : Bk} {cs : List C} (hr : x.rel Z H β cs) : x.flat = true := by
 cases x with
 | tree rows => exact hr.elim
 | mt es => exact hr.elim
 | _ => rfl
theorem ER.mono (h : ZLe Z H Z' H') (hb : BLe β β') {E : DEnv} {F : T V} (hr : ER Z β H E F) : ER Z' β' H' E F := fun n d hd => by
 obtain ⟨v, h1, h2⟩ := hr n d hd
 exact ⟨v, h1, h2.mono h hb⟩
theorem ZLe.refl (Z : Nat -> Prop) (H : Hp) : ZLe Z H Z H := fun _ h => ⟨h, fun _ _ h => h⟩
theorem ZLe.of_get (hz : ∀ b, Z b -> Z' b) (hg : ∀ b, Z b -> H'.get b = H.get b) : ZLe Z H Z' H' := fun b h => ⟨hz b h, fun i c hc => by unfold Hp.cell at hc ⊢; rw [hg b h]; exact hc⟩
theorem BLe.refl (β : Beta) : BLe β β := fun _ _ h => h
theorem ZLe.of_le (hz : ∀ b, Z b -> Z' b) (hl : Le H H') : ZLe Z H Z' H' := fun b h => ⟨hz b h, fun i c hc => hl b i c hc⟩
def setD (E : DEnv) : Option Nat -> DV -> DEnv
 | some d, v => (d, v) :: E
 | none, _ => E
theorem ER.set {E : DEnv} {F : T V} (h : ER Z β H E F) (d : Option Nat) {x : DV} {v : V} (hv : RDV Z H β x v) : ER Z β H (setD E d x) (setO F d v) := by
 cases d with
 | none => exact h
 | some d =>
  intro n y hy
  simp only [setD, lk_cons] at hy
  simp only [setO, T.get_set]
  split at hy
  ·rename_i e; subst e; rw [if_pos rfl]; obtain rfl := Option.some.inj hy; exact ⟨v, rfl, hv⟩
  ·rename_i e; rw [if_neg (fun h => e h.symm)]; exact h n y hy
def toC : C -> DC
 | .ptr b o => .g b o
 | .slc _ _ _ _ _ _ => .any
 | .map _ => .any
 | .yld _ => .any
 | .fn f [] => .f (.c (.fn f []))
 | .fn _ _ => .any
 | c => .f (.c c)
def toD : V -> DV
 | .one c => .one (toC c)
 | .agg l => .agg (l.map toC)
 | .tup _ => .one .any
theorem toC_ok (c : C) : RD Z H β (toC c) c := by
 cases c with
 | fn f caps => cases caps with
  | nil => exact .c _ rfl
  | cons _ _ => trivial
 | ptr b o => rfl
 | slc => trivial
 | map => trivial
 | yld => trivial
 | _ => exact .c _ rfl
theorem toCs_ok : ∀ l : List C, All2 (RD Z H β) (l.map toC) l
 | [] => trivial
 | c :: l => ⟨toC_ok c, toCs_ok l⟩
theorem toD_ok (v : V) (hv : isOne v = true) : RDV1 Z H β (toD v) v := by
 cases v with
 | one c => exact ⟨c, rfl, toC_ok c⟩
 | agg l => exact ⟨l, rfl, toCs_ok l⟩
 | tup l => cases hv
def ro (E : DEnv) : Opd -> Option DV
 | .t n => lk E n
 | .c (.one (.int k n)) => some (.one (.f (.c (.int k n))))
 | .c (.one (.bool b)) => some (.one (.f (.c (.bool b))))
 | .c (.one c) => some (.one (toC c))
 | .c (.agg l) => some (.agg (l.map toC))
 | .c (.tup _) => none
theorem ro_ok {E : DEnv} {F : T V} (h : ER Z β H E F) {o : Opd} {d : DV} (ho : ro E o = some d) : RDV Z H β d (o.ev F) := by
 cases o with
 | t n =>
  obtain ⟨v, h1, h2⟩ := h n d ho
  simp only [Opd.ev, h1, Option.getD_some]
  exact h2
 | c v =>
  cases v with
  | one c => cases c <;> (obtain rfl := Option.some.inj ho; exact RDV.of1 (toD_ok (.one _) rfl))
  | agg l => obtain rfl := Option.some.inj ho; exact RDV.of1 (toD_ok (.agg l) rfl)
  | tup l => cases ho
def exC : DC -> Option C
 | .f (.c x) => some x
 | _ => none
def exL : List DC -> Option (List C)
 | [] => some []
 | d :: l => match exC d, exL l with
  | some c, some r => some (c :: r)
  | _, _ => none
def exV : DV -> Option V
 | .one d => match exC d with
  | some c => some (.one c)
  | none => none
 | .agg l => match exL l with
  | some r => some (.agg r)
  | none => none
 | .tup _ => none
theorem exC_ok {d : DC} {x c : C} (h : exC d = some x) (hr : RD Z H β d c) : c = x := by
 cases d with
 | f d => cases d with
  | c y => obtain rfl := Option.some.inj h; cases hr; rfl
  | sl => cases h
 | _ => cases h
theorem exL_ok : ∀ {l : List DC} {xs cs : List C}, exL l = some xs -> All2 (RD Z H β) l cs -> cs = xs
 | [], xs, [], h, _ => by obtain rfl := Option.some.inj h; rfl
 | d :: l, xs, c :: cs, h, hr => by
  simp only [exL] at h
  split at h
  ·rename_i x r h1 h2
   obtain rfl := Option.some.inj h
   rw [exC_ok h1 hr.1, exL_ok h2 hr.2]
  ·cases h
 | [], _, _ :: _, _, hr => hr.elim
 | _ :: _, _, [], _, hr => hr.elim
theorem exV_ok {d : DV} {x v : V} (h : exV d = some x) (hr : RDV Z H β d v) : v = x := by
 cases d with
 | one d =>
  obtain ⟨c, rfl, hr⟩ := hr
  simp only [exV] at h
  split at h
  ·rename_i y hy; obtain rfl := Option.some.inj h; rw [exC_ok hy hr]
  ·cases h
 | agg l =>
  obtain ⟨c, rfl, hr⟩ := hr
  simp only [exV] at h
  split at h
  ·rename_i y hy; obtain rfl := Option.some.inj h; rw [exL_ok hy hr]
  ·cases h
 | tup l => cases h
end
end Go.Ab

namespace Go.Ab
def subL {α : Type} (l : List α) (o n : Nat) : Option (List α) := match Nat.ble (o + n) l.length with
 | true => some ((l.drop o).take n)
 | false => none
theorem subL_some {α : Type} {l r : List α} {o n : Nat} (h : subL l o n = some r) : o + n <= l.length /\ r = (l.drop o).take n := by
 unfold subL at h
 split at h
 ·rename_i e; exact ⟨Nat.le_of_ble_eq_true e, (Option.some.inj h).symm⟩
 ·cases h
theorem subL_of {α : Type} {l : List α} {o n : Nat} (h : o + n <= l.length) : subL l o n = some ((l.drop o).take n) := by
 unfold subL
 rw [Nat.ble_eq_true_of_le h]
def dPart (agg : Bool) (off n : Nat) (l : List DC) : Option DV :=
 match agg with
 | true => match subL l off n with
  | some r => some (.agg r)
  | none => none
 | false => match l[off]? with
  | some c => some (.one c)
  | none => none
def cellsD : DV -> Option (List DC)
 | .one c => some [c]
 | .agg l => some l
 | .tup _ => none
def fillD (E : DEnv) : List DC -> List (Nat × Nat × Opd) -> Option (List DC)
 | z, [] => some z
 | z, (off, size, x) :: r => match ro E x with
  | none => none
  | some d => match cellsD d with
   | none => none
   | some cs => match Nat.beq cs.length size, Nat.ble (off + size) z.length with
    | true, true => fillD E (z.take off ++ cs ++ z.drop (off + size)) r
    | _, _ => none
def exO (E : DEnv) (o : Opd) : Option V := match ro E o with
 | some d => exV d
 | none => none
def rx (E : DEnv) (o : Opd) : Opd := match exO E o with
 | some v => .c v
 | none => o
def isEx (E : DEnv) (o : Opd) : Bool := (exO E o).isSome
def allB {α : Type} (f : α -> Bool) : List α -> Bool
 | [] => true
 | x :: l => match f x with
  | true => allB f l
  | false => false
theorem allB_mem {α : Type} {f : α -> Bool} : ∀ {l : List α}, allB f l = true -> ∀ x ∈ l, f x = true
 | [], _, x, hx => by cases hx
 | y :: l, h, x, hx => by
  simp only [allB] at h
  split at h
  ·rename_i e
   rcases List.mem_cons.1 hx with rfl|hx
   ·exact e
   ·exact allB_mem h x hx
  ·cases h
def toD1 : Option V -> Option DV
 | some (.one (.int k n)) => some (.one (.f (.c (.int k n))))
 | some (.one (.bool b)) => some (.one (.f (.c (.bool b))))
 | some (.one c) => some (.one (toC c))
 | some (.agg l) => some (.agg (l.map toC))
 | _ => none
def dEx (E : DEnv) (op : PureOp) : Option DV := match allB (isEx E) op.opds with
 | true => toD1 (aPure .lf (op.mp (rx E)))
 | false => none
def capsD (E : DEnv) : List Opd -> Option (List (Nat × Nat))
 | [] => some []
 | x :: l => match ro E x, capsD E l with
  | some (.one (.ptr k o)), some r => some ((k, o) :: r)
  | _, _ => none
def idx (j : Int) (len : Nat) : Option Nat := match j with
 | .ofNat n => match Nat.blt n len with
  | true => some n
  | false => none
 | .negSucc _ => none
theorem idx_ok {j : Int} {len n : Nat} (h : idx j len = some n) : j = n /\ n < len := by
 unfold idx at h
 split at h
 ·split at h
  ·rename_i e
   obtain rfl := Option.some.inj h
   exact ⟨rfl, Nat.le_of_ble_eq_true e⟩
  ·cases h
 ·cases h
def lenD : DC -> Option DV
 | .own _ _ n _ => some (.int n)
 | .trow _ _ _ n => some (.int n)
 | .f (.sl _ n _) => some (.int n)
 | .f (.c .nils) => some (.int 0)
 | _ => none
def dPure (E : DEnv) : PureOp -> Option DV
 | .mv x => ro E x
 | .build z ps => match fillD E (z.map toC) ps with
  | some l => some (.agg l)
  | none => none
 | .nilck x => match ro E x with
  | some (.one (.ptr k o)) => some (.one (.ptr k o))
  | some (.one (.g b o)) => some (.one (.g b o))
  | some (.one (.fptr l)) => some (.one (.fptr l))
  | some (.one (.tptr k i o)) => some (.one (.tptr k i o))
  | some (.one (.fn f l)) => some (.one (.fn f l))
  | some (.one (.f (.c (.fn f l)))) => some (.one (.f (.c (.fn f l))))
  | _ => none
 | .mkfn f caps => match capsD E caps with
  | some [] => some (.one (.f (.c (.fn f []))))
  | some l => some (.one (.fn f l))
  | none => none
 | .faddr off x => match ro E x with
  | some (.one (.ptr k o)) => some (.one (.ptr k (o + off)))
  | some (.one (.g b o)) => some (.one (.g b (o + off)))
  | some (.one (.fptr l)) => some (.one (.fptr (l.drop off)))
  | _ => none
 | .field agg off n x => match ro E x with
  | some (.agg l) => dPart agg off n l
  | _ => none
 | .aaddr len esz x i => match ro E x, ro E i with
  | some (.one (.ptr k o)), some (.one (.f (.c (.int _ j)))) => match idx j len with
   | some n => some (.one (.ptr k (o + n * esz)))
   | none => none
  | some (.one (.fptr l)), some (.one (.f (.c (.int _ j)))) => match idx j len with
   | some n => some (.one (.fptr (l.drop (n * esz))))
   | none => none
  | some (.one (.g b o)), some (.one (.f (.c (.int _ j)))) => match idx j len with
   | some n => some (.one (.g b (o + n * esz)))
   | none => none
  | _, _ => none
 | .aindex len esz agg x i => match ro E x, ro E i with
  | some (.agg l), some (.one (.f (.c (.int _ j)))) => match idx j len with
   | some n => dPart agg (n * esz) esz l
   | none => none
  | _, _ => none
 | .extract x i => match ro E x with
  | some (.tup l) => l[i]?
  | _ => none
 | .len x => match ro E x with
  | some (.one d) => lenD d
  | _ => none
 | .nileq neg x => match ro E x with
  | some (.one (.f (.c .nils))) => some (.bool !neg)
  | some (.one (.f (.sl _ (_ + 1) _))) => some (.bool neg)
  | some (.one (.own _ _ (_ + 1) _)) => some (.bool neg)
  | _ => none
 | op => dEx E op
section
variable {Z : Nat -> Prop} {H : Hp} {β : Beta} {E : DEnv} {F : T V}
theorem rx_ok (h : ER Z β H E F) {o : Opd} (ho : isEx E o = true) : (rx E o).ev .lf = o.ev F := by
 unfold isEx at ho
 obtain ⟨v, hv⟩ := Option.isSome_iff_exists.1 ho
 simp only [rx, hv, Opd.ev]
 unfold exO at hv
 split at hv
 ·rename_i d hd
  exact (exV_ok hv (ro_ok h hd)).symm
 ·cases hv
theorem dEx_ok (h : ER Z β H E F) {op : PureOp} {d : DV} (hd : dEx E op = some d) : ∃ v, aPure F op = some v /\ RDV Z H β d v := by
 unfold dEx at hd
 split at hd
 ·rename_i hall
  rw [pure_mp (F := F) fun o ho => rx_ok h (allB_mem hall o ho)] at hd
  unfold toD1 at hd
  split at hd
  ·rename_i hc; obtain rfl := Option.some.inj hd; exact ⟨_, hc, _, rfl, .c _ rfl⟩
  ·rename_i hc; obtain rfl := Option.some.inj hd; exact ⟨_, hc, _, rfl, .c _ rfl⟩
  ·rename_i c _ _ hc; obtain rfl := Option.some.inj hd; exact ⟨_, hc, c, rfl, toC_ok c⟩
  ·rename_i l hc; obtain rfl := Option.some.inj hd; exact ⟨_, hc, l, rfl, toCs_ok l⟩
  ·cases hd
 ·cases hd
theorem dpart_ok {agg : Bool} {off n : Nat} {l : List DC} {cs : List C} (hr : All2 (RD Z H β) l cs) {d : DV} (hd : dPart agg off n l = some d) : ∃ v, aPart agg off n cs = some v /\ RDV Z H β d v := by
 unfold dPart at hd
 split at hd
 ·split at hd
  ·rename_i r hs
   obtain rfl := Option.some.inj hd
   obtain ⟨h1, rfl⟩ := subL_some hs
   refine ⟨.agg ((cs.drop off).take n), ?_, _, rfl, (hr.drop off).take n⟩
   simp only [aPart, if_true]
   rw [if_pos (by rw [<- hr.len]; exact h1)]
  ·cases hd
 ·split at hd
  ·rename_i c hc
   obtain rfl := Option.some.inj hd
   obtain ⟨x, hx, hrx⟩ := hr.at off c hc
   refine ⟨.one x, ?_, x, rfl, hrx⟩
   simp [aPart, hx]
  ·cases hd
theorem cellsD_ok {d : DV} {v : V} {l : List DC} (hr : RDV Z H β d v) (hl : cellsD d = some l) : ∃ cs, cells1 v = some cs /\ All2 (RD Z H β) l cs := by
 cases d with
 | one d => obtain ⟨c, rfl, hr⟩ := hr; obtain rfl := Option.some.inj hl; exact ⟨_, rfl, hr, trivial⟩
 | agg l' => obtain ⟨c, rfl, hr⟩ := hr; obtain rfl := Option.some.inj hl; exact ⟨_, rfl, hr⟩
 | tup l' => cases hl
theorem fillD_ok (h : ER Z β H E F) : ∀ {ps : List (Nat × Nat × Opd)} {z l : List DC} {zs : List C}, All2 (RD Z H β) z zs -> fillD E z ps = some l -> ∃ cs, fillL F zs ps = some cs /\ All2 (RD Z H β) l cs
 | [], z, l, zs, hz, hl => by obtain rfl := Option.some.inj hl; exact ⟨zs, rfl, hz⟩
 | (off, size, x) :: r, z, l, zs, hz, hl => by
  simp only [fillD] at hl
  split at hl
  ·cases hl
  ·rename_i d hd
   split at hl
   ·cases hl
   ·rename_i cs hcs
    split at hl
    ·rename_i e1 e2
     obtain ⟨ks, hk1, hk2⟩ := cellsD_ok (ro_ok h hd) hcs
     have e1' := Nat.eq_of_beq_eq_true e1
     have e2' := Nat.le_of_ble_eq_true e2
     obtain ⟨cs', g1, g2⟩ := fillD_ok h (((hz.take off).append hk2).append (hz.drop (off + size))) hl
     refine ⟨cs', ?_, g2⟩
     simp only [fillL, hk1]
     rw [if_pos ⟨by rw [<- hk2.len]; exact e1', by rw [<- hz.len]; exact e2'⟩]
     exact g1
    ·cases hl
theorem capsD_ok (h : ER Z β H E F) : ∀ {l : List Opd} {r : List (Nat × Nat)}, capsD E l = some r -> ∃ r', capsL F l = some r' /\ capsR β r r'
 | [], r, hr => by obtain rfl := Option.some.inj hr; exact ⟨[], rfl, trivial⟩
 | x :: l, r, hr => by
  simp only [capsD] at hr
  split at hr
  ·rename_i k o r0 h1 h2
   obtain rfl := Option.some.inj hr
   obtain ⟨r', g1, g2⟩ := capsD_ok h h2
   obtain ⟨c, hc, b, N, hb, rfl⟩ := ro_ok h h1
   exact ⟨(b, o) :: r', by simp only [capsL, hc, g1], rfl, ⟨N, hb⟩, g2⟩
  ·cases hr
theorem fdrop {l : List FD} {b o : Nat} {cs : List C} (h1 : H.loads b o l.length = some cs) (h2 : All2 (RF Z H) l cs) (off : Nat) : ∃ cs', H.loads b (o + off) (l.drop off).length = some cs' /\ All2 (RF Z H) (l.drop off) cs' := by
 by_cases ho : off <= l.length
 ·refine ⟨cs.drop off, ?_, h2.drop off⟩
  rw [List.length_drop]
  exact loads_drop h1 ho
 ·refine ⟨[], ?_, ?_⟩
  ·rw [List.length_drop, show l.length - off = 0 by omega]; rfl
  ·rw [List.drop_of_length_le (by omega)]; trivial
theorem dPure_ok (h : ER Z β H E F) {op : PureOp} {d : DV} (hd : dPure E op = some d) : ∃ v, aPure F op = some v /\ RDV Z H β d v := by
 cases op with
 | mv x => exact ⟨_, rfl, ro_ok h hd⟩
 | build z ps =>
  simp only [dPure] at hd
  split at hd
  ·rename_i l hl
   obtain rfl := Option.some.inj hd
   obtain ⟨cs, h1, h2⟩ := fillD_ok h (toCs_ok z) hl
   exact ⟨.agg cs, by simp [aPure, h1], cs, rfl, h2⟩
  ·cases hd
 | nilck x =>
  simp only [dPure] at hd
  split at hd
  all_goals try (cases hd; done)
  all_goals (rename_i hx; obtain rfl := Option.some.inj hd; have hr := ro_ok h hx)
  ·obtain ⟨c, hc, b, N, hb, rfl⟩ := hr
   exact ⟨_, by simp only [aPure, hc], _, rfl, b, N, hb, rfl⟩
  ·obtain ⟨c, hc, rfl⟩ := hr
   exact ⟨_, by simp only [aPure, hc], _, rfl, rfl⟩
  ·obtain ⟨c, hc, b, o, cs, rfl, h2⟩ := hr
   exact ⟨_, by simp only [aPure, hc], _, rfl, b, o, cs, rfl, h2⟩
  ·obtain ⟨c, hc, b, N, hb, rfl⟩ := hr
   exact ⟨_, by simp only [aPure, hc], _, rfl, b, N, hb, rfl⟩
  ·obtain ⟨c, hc, l', rfl, h2⟩ := hr
   exact ⟨_, by simp only [aPure, hc], _, rfl, l', rfl, h2⟩
  ·obtain ⟨c, hc, h2⟩ := hr
   cases h2
   rename_i h2
   exact ⟨_, by simp only [aPure, hc], _, rfl, .c _ h2⟩
 | mkfn f caps =>
  simp only [dPure] at hd
  split at hd
  ·rename_i hc
   obtain rfl := Option.some.inj hd
   obtain ⟨r', h1, h2⟩ := capsD_ok h hc
   cases r' with
   | nil => exact ⟨.one (.fn f []), by simp [aPure, h1], _, rfl, .c _ rfl⟩
   | cons _ _ => exact h2.elim
  ·rename_i l _ hc
   obtain rfl := Option.some.inj hd
   obtain ⟨r', h1, h2⟩ := capsD_ok h hc
   exact ⟨.one (.fn f r'), by simp [aPure, h1], _, rfl, r', rfl, h2⟩
  ·cases hd
 | faddr off x =>
  simp only [dPure] at hd
  split at hd
  all_goals try (cases hd; done)
  all_goals (rename_i hx; obtain rfl := Option.some.inj hd; have hr := ro_ok h hx)
  ·obtain ⟨c, hc, b, N, hb, rfl⟩ := hr
   exact ⟨_, by simp only [aPure, hc], _, rfl, b, N, hb, rfl⟩
  ·obtain ⟨c, hc, rfl⟩ := hr
   exact ⟨_, by simp only [aPure, hc], _, rfl, rfl⟩
  ·obtain ⟨c, hc, b, o, cs, rfl, h2, h3, h4⟩ := hr
   obtain ⟨cs', g1, g2⟩ := fdrop h3 h4 off
   exact ⟨_, by simp only [aPure, hc], _, rfl, b, _, cs', rfl, h2, g1, g2⟩
 | field agg off n x =>
  simp only [dPure] at hd
  split at hd
  ·rename_i l hx
   obtain ⟨cs, hc, hr⟩ := ro_ok h hx
   obtain ⟨v, h1, h2⟩ := dpart_ok hr hd
   exact ⟨v, by simp only [aPure, hc, h1], h2⟩
  ·cases hd
 | aaddr len esz x i =>
  simp only [dPure] at hd
  split at hd
  all_goals try (cases hd; done)
  all_goals
   split at hd
   all_goals try (cases hd; done)
   rename_i hx hi _ n hn
   obtain rfl := Option.some.inj hd
   obtain ⟨ci, hci, hri⟩ := ro_ok h hi
   cases hri
   obtain ⟨rfl, hlt⟩ := idx_ok hn
   have hr := ro_ok h hx
  ·obtain ⟨c, hc, b, N, hb, rfl⟩ := hr
   refine ⟨_, by simp only [aPure, hc, hci]; rw [if_pos ⟨by omega, by omega⟩, Int.toNat_natCast], _, rfl, b, N, hb, rfl⟩
  ·obtain ⟨c, hc, b, o, cs, rfl, h2, h3, h4⟩ := hr
   obtain ⟨cs', g1, g2⟩ := fdrop h3 h4 (n * esz)
   refine ⟨_, by simp only [aPure, hc, hci]; rw [if_pos ⟨by omega, by omega⟩, Int.toNat_natCast], _, rfl, b, _, cs', rfl, h2, g1, g2⟩
  ·obtain ⟨c, hc, rfl⟩ := hr
   exact ⟨_, by simp only [aPure, hc, hci]; rw [if_pos ⟨by omega, by omega⟩, Int.toNat_natCast], _, rfl, rfl⟩
 | aindex len esz agg x i =>
  simp only [dPure] at hd
  split at hd
  ·rename_i hx hi
   split at hd
   ·rename_i n hn
    obtain ⟨cs, hc, hr⟩ := ro_ok h hx
    obtain ⟨ci, hci, hri⟩ := ro_ok h hi
    cases hri
    obtain ⟨rfl, hlt⟩ := idx_ok hn
    obtain ⟨v, h1, h2⟩ := dpart_ok hr hd
    exact ⟨v, by simp only [aPure, hc, hci]; rw [if_pos ⟨by omega, by omega⟩, Int.toNat_natCast, h1], h2⟩
   ·cases hd
  ·cases hd
 | extract x i =>
  simp only [dPure] at hd
  split at hd
  ·rename_i l hx
   obtain ⟨vs, hc, hr⟩ := ro_ok h hx
   obtain ⟨v, h1, h2⟩ := hr.at i d hd
   exact ⟨v, by simp only [aPure, hc, h1], RDV.of1 h2⟩
  ·cases hd
 | len x =>
  simp only [dPure] at hd
  split at hd
  ·rename_i e hx
   obtain ⟨c, hc, hr⟩ := ro_ok h hx
   unfold lenD at hd
   split at hd
   ·obtain rfl := Option.some.inj hd
    rcases hr with ⟨_, rfl, _, rfl⟩|⟨b, N, cap, ex, _, rfl, _⟩
    ·exact ⟨_, by simp only [aPure, hc, lenV]; rfl, _, rfl, .c _ rfl⟩
    ·exact ⟨_, by simp only [aPure, hc, lenV], _, rfl, .c _ rfl⟩
   ·obtain rfl := Option.some.inj hd
    rcases hr with ⟨_, rfl, _, rfl⟩|⟨b, N, cap, ex, _, rfl, _⟩
    ·exact ⟨_, by simp only [aPure, hc, lenV]; rfl, _, rfl, .c _ rfl⟩
    ·exact ⟨_, by simp only [aPure, hc, lenV], _, rfl, .c _ rfl⟩
   ·obtain rfl := Option.some.inj hd
    cases hr with
    | nil => exact ⟨_, by simp only [aPure, hc, lenV]; rfl, _, rfl, .c _ rfl⟩
    | sl => exact ⟨_, by simp only [aPure, hc, lenV], _, rfl, .c _ rfl⟩
   ·obtain rfl := Option.some.inj hd
    cases hr
    exact ⟨_, by simp only [aPure, hc, lenV], _, rfl, .c _ rfl⟩
   ·cases hd
  ·cases hd
 | nileq neg x =>
  simp only [dPure] at hd
  split at hd
  all_goals try (cases hd; done)
  all_goals (rename_i hx; obtain rfl := Option.some.inj hd; obtain ⟨c, hc, hr⟩ := ro_ok h hx)
  ·cases hr
   exact ⟨_, by simp only [aPure, hc], _, rfl, .c _ rfl⟩
  ·cases hr with
   | sl => exact ⟨_, by simp only [aPure, hc], _, rfl, .c _ rfl⟩
  ·rcases hr with ⟨_, h0, _⟩|⟨b, N, cap, ex, _, rfl, _⟩
   ·cases h0
   ·exact ⟨_, by simp only [aPure, hc], _, rfl, .c _ rfl⟩
 | _ => exact dEx_ok h hd
end
end Go.Ab

namespace Go.Ab
def updB (β : Beta) (k : Nat) (s : Slot) : Beta := fun j => if j = (k, 0) then some s else β j
theorem updB_self (β : Beta) (k : Nat) (s : Slot) : updB β k s (k, 0) = some s := by simp [updB]
theorem updB_ne (β : Beta) {k : Nat} {j : Key} (s : Slot) (h : j ≠ (k, 0)) : updB β k s j = β j := by simp [updB, h]
theorem updB_ne1 (β : Beta) {k : Nat} {j : Key} (s : Slot) (h : j.1 ≠ k) : updB β k s j = β j := updB_ne β s fun e => h (by rw [e])
theorem lk2_cons {k : Nat} {x : Bk} (hx : x.flat = true) (S : Bx) (κ : Key) : lk2 ((k, x) :: S) κ = if κ.1 = k then (if κ.2 = 0 then some x else none) else lk2 S κ := by
 obtain ⟨j, i⟩ := κ
 by_cases h : j = k
 ·subst h
  have hl : lk ((j, x) :: S) j = some x := by rw [lk_cons, if_pos rfl]
  simp only [if_true]
  cases i with
  | zero => rw [lk2_of hl hx, if_pos rfl]
  | succ i =>
   rw [if_neg (by simp)]
   cases h2 : lk2 ((j, x) :: S) (j, i + 1) with
   | none => rfl
   | some y => exact absurd (lk2_flat hl hx h2).1 (by simp)
 ·simp only [if_neg h]
  exact lk2_congr (by rw [lk_cons, if_neg (fun e => h e.symm)])
theorem lk2_era (k : Nat) (S : Bx) (κ : Key) : lk2 (era k S) κ = if κ.1 = k then none else lk2 S κ := by
 by_cases h : κ.1 = k
 ·rw [if_pos h]; exact lk2_none (by rw [lk_era, if_pos h])
 ·rw [if_neg h]; exact lk2_congr (by rw [lk_era, if_neg h])
theorem lk2_put {k : Nat} {x x' : Bk} {S : Bx} (hk : lk S k = some x) (hx' : x'.flat = true) (κ : Key) : lk2 (put k x' S) κ = if κ.1 = k then (if κ.2 = 0 then some x' else none) else lk2 S κ := by
 obtain ⟨j, i⟩ := κ
 by_cases h : j = k
 ·subst h
  have hl : lk (put j x' S) j = some x' := by rw [lk_put, if_pos rfl, hk]; rfl
  simp only [if_true]
  cases i with
  | zero => rw [lk2_of hl hx', if_pos rfl]
  | succ i =>
   rw [if_neg (by simp)]
   cases h2 : lk2 (put j x' S) (j, i + 1) with
   | none => rfl
   | some y => exact absurd (lk2_flat hl hx' h2).1 (by simp)
 ·simp only [if_neg h]
  exact lk2_congr (by rw [lk_put, if_neg h])
theorem key_eq {κ : Key} {k : Nat} (h1 : κ.1 = k) (h2 : κ.2 = 0) : κ = (k, 0) := by obtain ⟨a, b⟩ := κ; simp only at h1 h2; rw [h1, h2]
section
variable {p : Par} {Z : Nat -> Prop} {β : Beta} {H H' : Hp} {S : Bx} {nk : Nat}
theorem SR.ble (h : SR p Z β H S nk) (s : Slot) : BLe β (updB β nk s) := fun k t hk => by
 by_cases e : k.1 = nk
 ·rw [h.nk k (by omega)] at hk; cases hk
 ·rw [updB_ne1 _ _ e]; exact hk
theorem SR.lt (h : SR p Z β H S nk) {k : Nat} {x : Bk} (hk : lk S k = some x) : k < nk := by
 have : ∃ y, lk2 S (k, 0) = some y := by
  simp only [lk2, hk]
  cases x with
  | tree rows => exact ⟨_, rfl⟩
  | mp ks l => exact ⟨_, rfl⟩
  | mt es => exact ⟨_, rfl⟩
  | cells l => exact ⟨_, rfl⟩
  | data l => exact ⟨_, rfl⟩
 obtain ⟨y, hy⟩ := this
 obtain ⟨s, hs, _⟩ := h.box (k, 0) y hy
 by_cases e : nk <= k
 ·rw [h.nk (k, 0) e] at hs; cases hs
 ·omega
theorem SR.lt1 (h : SR p Z β H S nk) {κ : Key} {s : Slot} (hk : β κ = some s) : κ.1 < nk := by
 by_cases e : nk <= κ.1
 ·rw [h.nk κ e] at hk; cases hk
 ·omega
theorem BoxR.mono {x : Bk} {s : Slot} {β' : Beta} (hb : BLe β β') (hnx : H.nx <= H'.nx) (hg : ∀ b, (Z b \/ ∃ N, s = .blk b N) -> H'.get b = H.get b) (h : BoxR p Z H β x s) : BoxR p Z H' β' x s := by
 cases s with
 | nil => exact h
 | blk b N =>
  obtain ⟨h1, h2, h3, cs, rest, h4, h5, h6⟩ := h
  exact ⟨h1, h2, by omega, cs, rest, h4.same (hg b (.inr ⟨N, rfl⟩)), h5, Bk.rel_mono (ZLe.of_get (fun _ h => h) fun b hb => hg b (.inl hb)) hb h6⟩
theorem SR.newB (h : SR p Z β H S nk) {x : Bk} {b N0 : Nat} (hfl : x.flat = true) (hbx : ∀ β', BLe β β' -> ZLe Z H Z H' -> BoxR p Z H' β' x (.blk b N0)) (hz : ¬ Z b) (hβ : ∀ κ N, β κ ≠ some (.blk b N)) (hlo : p.lo <= b) (hb : b < H'.nx) (hnx : H.nx <= H'.nx) (hw : WF H') (hg : ∀ b', b' ≠ b -> H'.get b' = H.get b') :
  SR p Z (updB β nk (.blk b N0)) H' ((nk, x) :: S) (nk + 1) /\ ZLe Z H Z H' /\ BLe β (updB β nk (.blk b N0)) := by
 have hzg : ∀ b', Z b' -> H'.get b' = H.get b' := fun b' hb' => hg b' fun e => hz (e ▸ hb')
 have hZ : ZLe Z H Z H' := ZLe.of_get (fun _ h => h) hzg
 have hB := h.ble (.blk b N0)
 refine ⟨⟨hw, Nat.le_trans h.lo hnx, fun b' hb' => Nat.lt_of_lt_of_le (h.z b' hb') hnx, h.zlo, h.zz, fun b' bk hb' => ?_, fun k hk => ?_, fun k b' N hk => ?_, fun k y hk => ?_, fun k k' y y' b' N N' hk hk' hs hs' => ?_, fun k b' N hk => ?_, fun κ hκ h0 => by rw [updB_ne1 _ _ (by have := h.ancn; omega)]; exact h.anch κ hκ h0, Nat.le_succ_of_le h.ancn⟩, hZ, hB⟩
 ·obtain ⟨h1, h2⟩ := h.glob b' bk hb'
  exact ⟨h1, by rw [hzg b' h1]; exact h2⟩
 ·rw [updB_ne1 _ _ (by omega)]; exact h.nk k (by omega)
 ·by_cases e : k = (nk, 0)
  ·subst e; rw [updB_self] at hk
   obtain ⟨rfl, rfl⟩ := Slot.blk.inj (Option.some.inj hk)
   exact hb
  ·rw [updB_ne _ _ e] at hk; exact Nat.lt_of_lt_of_le (h.bd k b' N hk) hnx
 ·rw [lk2_cons hfl] at hk
  split at hk
  ·rename_i e
   split at hk
   ·rename_i e2
    obtain rfl := key_eq e e2
    obtain rfl := Option.some.inj hk
    exact ⟨_, updB_self _ _ _, hbx _ hB hZ⟩
   ·cases hk
  ·obtain ⟨s, hs, hbx⟩ := h.box k y hk
   refine ⟨s, hB k s hs, hbx.mono hB hnx fun b' hb' => ?_⟩
   rcases hb' with hb'|⟨N, rfl⟩
   ·exact hzg b' hb'
   ·exact hg b' fun e => hβ k N (by rw [hs, e])
 ·by_cases e1 : k = (nk, 0)
  ·by_cases e2 : k' = (nk, 0)
   ·rw [e1, e2]
   ·rw [updB_ne _ _ e2] at hs'
    rw [e1, updB_self] at hs
    obtain ⟨rfl, rfl⟩ := Slot.blk.inj (Option.some.inj hs)
    exact absurd hs' (hβ _ _)
  ·rw [updB_ne _ _ e1] at hs
   by_cases e2 : k' = (nk, 0)
   ·rw [e2, updB_self] at hs'
    obtain ⟨rfl, rfl⟩ := Slot.blk.inj (Option.some.inj hs')
    exact absurd hs (hβ _ _)
   ·rw [updB_ne _ _ e2] at hs'
    have n1 := h.lt1 hs
    have n2 := h.lt1 hs'
    rw [lk_cons, if_neg (by omega)] at hk hk'
    exact h.inj k k' y y' b' N N' hk hk' hs hs'
 ·by_cases e : k = (nk, 0)
  ·subst e; rw [updB_self] at hk
   obtain ⟨rfl, rfl⟩ := Slot.blk.inj (Option.some.inj hk)
   exact hlo
  ·rw [updB_ne _ _ e] at hk; exact h.blo k b' N hk
theorem SR.new (h : SR p Z β H S nk) {x : Bk} {b : Nat} {cs rest : List C} (hsh : x.shape = none) (hx : x.rel Z H β cs) (hz : ¬ Z b) (hβ : ∀ κ N, β κ ≠ some (.blk b N)) (hlo : p.lo <= b) (hb : b < H'.nx) (hnx : H.nx <= H'.nx) (hw : WF H') (hg : ∀ b', b' ≠ b -> H'.get b' = H.get b') (hr : Row H' b (cs ++ rest)) :
  SR p Z (updB β nk (.blk b (cs ++ rest).length)) H' ((nk, x) :: S) (nk + 1) /\ ZLe Z H Z H' /\ BLe β (updB β nk (.blk b (cs ++ rest).length)) :=
 h.newB (Bk.rel_flat hx) (fun β' hB hZ => ⟨hz, hlo, hb, cs, rest, by rw [hsh]; exact hr, lenOk.of hsh rfl, Bk.rel_mono hZ hB hx⟩) hz hβ hlo hb hnx hw hg
theorem SR.updK (h : SR p Z β H S nk) {k b N : Nat} {x x' : Bk} {cs rest : List C} (hk : lk S k = some x) (hfl : x.flat = true) (hs : β (k, 0) = some (.blk b N)) (hx : x'.rel Z H β cs) (hg : ∀ b', b' ≠ b -> H'.get b' = H.get b') (hnx : H'.nx = H.nx) (hr : RowK x'.shape H' b (cs ++ rest)) (hN : lenOk x'.shape (cs ++ rest).length N rest) :
  SR p Z β H' (put k x' S) nk /\ ZLe Z H Z H' := by
 obtain ⟨s, hs', hbx⟩ := h.box (k, 0) x (lk2_of hk hfl)
 rw [hs] at hs'
 obtain rfl := Option.some.inj hs'
 obtain ⟨hz, hlo, hlt, _⟩ := hbx
 have hzg : ∀ b', Z b' -> H'.get b' = H.get b' := fun b' hb' => hg b' fun e => hz (e ▸ hb')
 have hZ : ZLe Z H Z H' := ZLe.of_get (fun _ h => h) hzg
 refine ⟨⟨fun b' bk hb' => ?_, by rw [hnx]; exact h.lo, fun b' hb' => by rw [hnx]; exact h.z b' hb', h.zlo, h.zz, fun b' bk hb' => ?_, h.nk, fun k b' N hk => by rw [hnx]; exact h.bd k b' N hk, fun j y hj => ?_, fun j j' y y' b' M M' hj hj' hsj hsj' => ?_, h.blo, h.anch, h.ancn⟩, hZ⟩
 ·rw [hnx]
  by_cases e : b' = b
  ·omega
  ·rw [hg b' e] at hb'; exact h.wf b' bk hb'
 ·obtain ⟨h1, h2⟩ := h.glob b' bk hb'
  exact ⟨h1, by rw [hzg b' h1]; exact h2⟩
 ·rw [lk2_put hk (Bk.rel_flat hx)] at hj
  split at hj
  ·rename_i e
   split at hj
   ·rename_i e2
    obtain rfl := key_eq e e2
    obtain rfl := Option.some.inj hj
    exact ⟨_, hs, hz, hlo, by omega, cs, rest, hr, hN, Bk.rel_mono hZ (BLe.refl _) hx⟩
   ·cases hj
  ·rename_i e
   obtain ⟨s, hsj, hbj⟩ := h.box j y hj
   obtain ⟨z, hz⟩ := lk2_lk hj
   refine ⟨s, hsj, hbj.mono (BLe.refl _) (by omega) fun b' hb' => ?_⟩
   rcases hb' with hb'|⟨M, rfl⟩
   ·exact hzg b' hb'
   ·exact hg b' fun e' => e (by rw [h.inj j (k, 0) z x b M N hz hk (e' ▸ hsj) hs])
 ·rw [lk_put] at hj hj'
  have f : ∀ i z, (if i = k then Option.map (fun _ => x') (lk S i) else lk S i) = some z -> ∃ z', lk S i = some z' := fun i z hz => by
   split at hz
   ·cases hl : lk S i with
    | none => rw [hl] at hz; cases hz
    | some q => exact ⟨q, rfl⟩
   ·exact ⟨z, hz⟩
  obtain ⟨z1, e1⟩ := f j.1 y hj
  obtain ⟨z2, e2⟩ := f j'.1 y' hj'
  exact h.inj j j' z1 z2 b' M M' e1 e2 hsj hsj'
theorem SR.upd (h : SR p Z β H S nk) {k b N : Nat} {x x' : Bk} {cs rest : List C} (hk : lk S k = some x) (hfl : x.flat = true) (hs : β (k, 0) = some (.blk b N)) (hx : x'.rel Z H β cs) (hg : ∀ b', b' ≠ b -> H'.get b' = H.get b') (hnx : H'.nx = H.nx) (hsh : x'.shape = none) (hr : Row H' b (cs ++ rest)) (hN : (cs ++ rest).length = N) :
  SR p Z β H' (put k x' S) nk /\ ZLe Z H Z H' := h.updK hk hfl hs hx hg hnx (by rw [hsh]; exact hr) (lenOk.of hsh hN)
theorem SR.replace (h : SR p Z β H S nk) {k : Nat} {x x' : Bk} {b : Nat} {cs rest : List C} (hk : lk S k = some x) (hfl : x.flat = true) (hx : x'.rel Z H β cs) (hb : (∃ N, β (k, 0) = some (.blk b N)) \/ (¬ Z b /\ (∀ κ N, β κ ≠ some (.blk b N)) /\ p.lo <= b)) (hbl : b < H'.nx) (hnx : H.nx <= H'.nx) (hw : WF H') (hg : ∀ b', b' ≠ b -> (∀ N, β (k, 0) ≠ some (.blk b' N)) -> H'.get b' = H.get b') (hsh : x'.shape = none) (hr : Row H' b (cs ++ rest)) :
  SR p Z (updB β nk (.blk b (cs ++ rest).length)) H' ((nk, x') :: era k S) (nk + 1) /\ ZLe Z H Z H' /\ BLe β (updB β nk (.blk b (cs ++ rest).length)) := by
 have hkn := h.lt hk
 obtain ⟨sk, hsk, hbk⟩ := h.box (k, 0) x (lk2_of hk hfl)
 have hzk : ∀ b' N, Z b' -> β (k, 0) ≠ some (.blk b' N) := fun b' N hz e => by
  rw [hsk] at e
  obtain rfl := Option.some.inj e
  exact hbk.1 hz
 have hzb : ¬ Z b := by
  rcases hb with ⟨N, hN⟩|⟨hz, _⟩
  ·exact fun hz => hzk b N hz hN
  ·exact hz
 have hlob : p.lo <= b := by
  rcases hb with ⟨N, hN⟩|⟨_, _, hlo⟩
  ·rw [hsk] at hN; obtain rfl := Option.some.inj hN; exact hbk.2.1
  ·exact hlo
 have hzg : ∀ b', Z b' -> H'.get b' = H.get b' := fun b' hb' => hg b' (fun e => hzb (e ▸ hb')) fun N => hzk b' N hb'
 have hZ : ZLe Z H Z H' := ZLe.of_get (fun _ h => h) hzg
 have hB := h.ble (.blk b (cs ++ rest).length)
 have hoth : ∀ (j : Key) y N, lk S j.1 = some y -> j.1 ≠ k -> β j ≠ some (.blk b N) := fun j y N hj hjk e => by
  rcases hb with ⟨M, hM⟩|⟨_, hno, _⟩
  ·exact hjk (by rw [h.inj j (k, 0) y x b N M hj hk e hM])
  ·exact hno j N e
 refine ⟨⟨hw, Nat.le_trans h.lo hnx, fun b' hb' => Nat.lt_of_lt_of_le (h.z b' hb') hnx, h.zlo, h.zz, fun b' bk hb' => ?_, fun k hk => ?_, fun k b' N hk => ?_, fun j y hj => ?_, fun j j' y y' b' N N' hj hj' hs hs' => ?_, fun k b' N hk => ?_, fun κ hκ h0 => by rw [updB_ne1 _ _ (by have := h.ancn; omega)]; exact h.anch κ hκ h0, Nat.le_succ_of_le h.ancn⟩, hZ, hB⟩
 ·obtain ⟨h1, h2⟩ := h.glob b' bk hb'
  exact ⟨h1, by rw [hzg b' h1]; exact h2⟩
 ·rw [updB_ne1 _ _ (by omega)]; exact h.nk k (by omega)
 ·by_cases e : k = (nk, 0)
  ·subst e; rw [updB_self] at hk
   obtain ⟨rfl, rfl⟩ := Slot.blk.inj (Option.some.inj hk)
   exact hbl
  ·rw [updB_ne _ _ e] at hk; exact Nat.lt_of_lt_of_le (h.bd k b' N hk) hnx
 ·rw [lk2_cons (Bk.rel_flat hx), lk2_era] at hj
  split at hj
  ·rename_i e
   split at hj
   ·rename_i e2
    obtain rfl := key_eq e e2
    obtain rfl := Option.some.inj hj
    exact ⟨_, updB_self _ _ _, hzb, hlob, hbl, cs, rest, by rw [hsh]; exact hr, lenOk.of hsh rfl, Bk.rel_mono hZ hB hx⟩
   ·cases hj
  ·split at hj
   ·cases hj
   ·rename_i e e2
    obtain ⟨s, hs, hbx⟩ := h.box j y hj
    obtain ⟨z, hz⟩ := lk2_lk hj
    refine ⟨s, hB j s hs, hbx.mono hB hnx fun b' hb' => ?_⟩
    rcases hb' with hb'|⟨N, rfl⟩
    ·exact hzg b' hb'
    ·exact hg b' (fun e' => hoth j z N hz e2 (e' ▸ hs)) fun M eM => e2 (by rw [h.inj j (k, 0) z x b' N M hz hk hs eM])
 ·have live : ∀ (κ : Key) w s, lk ((nk, x') :: era k S) κ.1 = some w -> κ ≠ (nk, 0) -> β κ = some s -> lk S κ.1 = some w /\ κ.1 ≠ k := fun κ w s hl hne hs => by
   have := h.lt1 hs
   rw [lk_cons, if_neg (by omega), lk_era] at hl
   split at hl
   ·cases hl
   ·exact ⟨hl, by assumption⟩
  by_cases e1 : j = (nk, 0)
  ·by_cases e2 : j' = (nk, 0)
   ·rw [e1, e2]
   ·rw [updB_ne _ _ e2] at hs'
    rw [e1, updB_self] at hs
    obtain ⟨rfl, rfl⟩ := Slot.blk.inj (Option.some.inj hs)
    obtain ⟨l1, l2⟩ := live j' y' _ hj' e2 hs'
    exact absurd hs' (hoth j' y' N' l1 l2)
  ·rw [updB_ne _ _ e1] at hs
   obtain ⟨l1, l2⟩ := live j y _ hj e1 hs
   by_cases e2 : j' = (nk, 0)
   ·rw [e2, updB_self] at hs'
    obtain ⟨rfl, rfl⟩ := Slot.blk.inj (Option.some.inj hs')
    exact absurd hs (hoth j y N l1 l2)
   ·rw [updB_ne _ _ e2] at hs'
    obtain ⟨l3, l4⟩ := live j' y' _ hj' e2 hs'
    exact h.inj j j' y y' b' N N' l1 l3 hs hs'
 ·by_cases e : k = (nk, 0)
  ·subst e; rw [updB_self] at hk
   obtain ⟨rfl, rfl⟩ := Slot.blk.inj (Option.some.inj hk)
   exact hlob
  ·rw [updB_ne _ _ e] at hk; exact h.blo k b' N hk
end
end Go.Ab

namespace Go.Ab
abbrev Wt := List (Nat × Option (Key × Nat × Nat))
def WR (Z : Nat -> Prop) (β : Beta) (H : Hp) : Option (Key × Nat × Nat) -> (Hp -> Prop) -> Prop
 | none, q => ∃ b, Z b /\ ∀ H' : Hp, (∀ i c, H.cell b i = some c -> H'.cell b i = some c) -> q H'
 | some (k, o, n), q => ∃ b N, β k = some (.blk b N) /\ ∀ H' : Hp, (∀ i c, o <= i -> i < o + n -> H.cell b i = some c -> H'.cell b i = some c) -> q H'
def CR (W : Wt) (Z : Nat -> Prop) (β : Beta) (H : Hp) (c : Ctx) : Prop := ∀ x ∈ c, ∃ y ∈ W, WR Z β H y.2 x.2
def AR (p : Par) (base rs : Nat) (A : List Nat) (Z : Nat -> Prop) (β : Beta) (H : Hp) : Prop := p.lo <= base /\ ∀ j, j < rs -> j ∉ A -> base + j < H.nx /\ H.get (base + j) = none /\ ¬ Z (base + j) /\ ∀ k N, β k ≠ some (.blk (base + j) N)
structure DPW (p : Par) (base rs : Nat) (Q : DEnv -> Bx -> Nat -> Prop) (l : List SOper) (W : Wt) (A : List Nat) (E : DEnv) (S : Bx) (nk : Nat) : Prop where
 run : ∀ Z β H F c, SR p Z β H S nk -> ER Z β H E F -> CR W Z β H c -> AR p base rs A Z β H ->
  wOps p.P p.G base (fun F' H' => ∃ E' S' nk' Z' β', SR p Z' β' H' S' nk' /\ ER Z' β' H' E' F' /\ Q E' S' nk') l c F H
section
variable {Z Z' : Nat -> Prop} {β β' : Beta} {H H' : Hp} {W : Wt} {c : Ctx}
theorem CR.watch (h : CR W Z β H c) (ws : List Nat) : watchOk ws c H := watch_all fun x hx => by
 obtain ⟨y, _, hy⟩ := h x hx
 obtain ⟨_, y2⟩ := y
 match y2, hy with
 | none, ⟨b, _, hq⟩ => exact hq H fun _ _ h => h
 | some (k, o, n), ⟨b, N, _, hq⟩ => exact hq H fun _ _ _ _ h => h
theorem CR.step (h : CR W Z β H c) (hZ : ZLe Z H Z' H') (hB : BLe β β') (hk : ∀ y ∈ W, ∀ k o n, y.2 = some (k, o, n) -> ∀ b N i x, β k = some (.blk b N) -> o <= i -> i < o + n -> H.cell b i = some x -> H'.cell b i = some x) : CR W Z' β' H' c := fun x hx => by
 obtain ⟨y, hy, hw⟩ := h x hx
 refine ⟨y, hy, ?_⟩
 obtain ⟨y1, y2⟩ := y
 match y2, hw, hy with
 | none, ⟨b, hb, hq⟩, _ => exact ⟨b, (hZ b hb).1, fun H'' hh => hq H'' fun i c hc => hh i c ((hZ b hb).2 i c hc)⟩
 | some (k, o, n), ⟨b, N, hb, hq⟩, hy => exact ⟨b, N, hB k _ hb, fun H'' hh => hq H'' fun i c h1 h2 hc => hh i c h1 h2 (hk _ hy k o n rfl b N i c hb h1 h2 hc)⟩
theorem CR.same (h : CR W Z β H c) (hZ : ZLe Z H Z' H') (hB : BLe β β') (hg : ∀ b, b < H.nx -> H'.get b = H.get b) (hw : WF H) : CR W Z' β' H' c := h.step hZ hB fun y hy k o n e b N i x hb _ _ hx => by
 unfold Hp.cell at hx ⊢
 cases hgb : H.get b with
 | none => simp [hgb] at hx
 | some bk => rw [hg b (hw b bk hgb)]; exact hx
end
def wOk0 (S : Bx) (k : Nat) : Wt -> Bool
 | [] => true
 | (_, none) :: r => wOk0 S k r
 | (_, some ((j, _), _, _)) :: r => match lk S j with
  | none => false
  | some _ => match Nat.beq j k with
   | true => false
   | false => wOk0 S k r
def isFlatO : Option Bk -> Bool
 | some (.tree _) => false
 | some (.mp _ _) => false
 | some (.mt _) => false
 | _ => true
def wOk (S : Bx) (k : Nat) (W : Wt) : Bool := match isFlatO (lk S k) with
 | true => wOk0 S k W
 | false => false
theorem wOk_flat {S : Bx} {k : Nat} {W : Wt} {x : Bk} (h : wOk S k W = true) (hk : lk S k = some x) : x.flat = true := by
 unfold wOk at h
 rw [hk] at h
 cases x with
 | tree rows => cases h
 | mp ks l => cases h
 | mt es => cases h
 | cells l => rfl
 | data l => rfl
theorem wOk_row {S : Bx} {k : Nat} {W : Wt} {x : Bk} (h : wOk S k W = true) (hk : lk S k = some x) : x.shape = none := by
 unfold wOk at h
 rw [hk] at h
 cases x with
 | tree rows => cases h
 | mp ks l => cases h
 | mt es => cases h
 | cells l => rfl
 | data l => rfl
theorem wOk0_mem {S : Bx} {k : Nat} : ∀ {W : Wt}, wOk0 S k W = true -> ∀ y ∈ W, ∀ (j : Key) o n, y.2 = some (j, o, n) -> (∃ x, lk S j.1 = some x) /\ j.1 ≠ k
 | [], _, y, hy => by cases hy
 | (i, none) :: r, h, y, hy => by
  rcases List.mem_cons.1 hy with rfl|hy
  ·intro j o n e; cases e
  ·exact wOk0_mem (W := r) h y hy
 | (i, some ((j', j2), o', n')) :: r, h, y, hy => by
  simp only [wOk0] at h
  split at h
  ·cases h
  ·rename_i x hx
   split at h
   ·cases h
   ·rename_i e
    rcases List.mem_cons.1 hy with rfl|hy
    ·intro j o n e'
     obtain ⟨rfl, _⟩ := Prod.mk.inj (Option.some.inj e')
     exact ⟨⟨x, hx⟩, fun h => by simp only at h; subst h; simp at e⟩
    ·exact wOk0_mem (W := r) h y hy
theorem wOk_mem {S : Bx} {k : Nat} {W : Wt} (h : wOk S k W = true) : ∀ y ∈ W, ∀ (j : Key) o n, y.2 = some (j, o, n) -> (∃ x, lk S j.1 = some x) /\ j.1 ≠ k := by
 unfold wOk at h
 split at h
 ·exact wOk0_mem h
 ·cases h
section
variable {p : Par} {base rs : Nat} {Q : DEnv -> Bx -> Nat -> Prop} {r : List SOper} {W : Wt} {A : List Nat} {E : DEnv} {S : Bx} {nk : Nat} {id : Nat} {dst : Option Nat} {aid : Option Nat} {ws : List Nat} {keep : Bool}
theorem dw_nil (h : Q E S nk) : DPW p base rs Q [] W A E S nk := .mk fun Z β H F c hS hE _ _ => ⟨E, S, nk, Z, β, hS, hE, h⟩
theorem dw_p {op : PureOp} {d : DV} (hd : dPure E op = some d) (h : DPW p base rs Q r W A (setD E dst d) S nk) : DPW p base rs Q (⟨id, dst, .p op, none, aid, ws, keep⟩ :: r) W A E S nk := .mk fun Z β H F c hS hE hC hA => by
 obtain ⟨v, hv, hr⟩ := dPure_ok hE hd
 simp only [wOps, wantedA, if_true, hv]
 exact h.run Z β H _ c hS (hE.set dst hr) hC hA
theorem dw_pv {op : PureOp} {d : DV} (hd : ∀ {Z β H F}, ER Z β H E F -> ∃ v, aPure F op = some v /\ RDV Z H β d v) (h : DPW p base rs Q r W A (setD E dst d) S nk) : DPW p base rs Q (⟨id, dst, .p op, none, aid, ws, keep⟩ :: r) W A E S nk := .mk fun Z β H F c hS hE hC hA => by
 obtain ⟨v, hv, hr⟩ := hd hE
 simp only [wOps, wantedA, if_true, hv]
 exact h.run Z β H _ c hS (hE.set dst hr) hC hA
theorem exact_ok {Z : Nat -> Prop} {β : Beta} {H : Hp} {c : C} (hc : c.closed = true) : RDV Z H β (.one (.f (.c c))) (.one c) := ⟨c, rfl, .c c hc⟩
theorem int_of {Z : Nat -> Prop} {β : Beta} {H : Hp} {F : T V} (hE : ER Z β H E F) {o : Opd} {c : C} (h : ro E o = some (.one (.f (.c c)))) : o.ev F = .one c := by
 obtain ⟨x, hx, hr⟩ := ro_ok hE h
 cases hr
 exact hx
theorem dw_max {x y : Opd} {k : IntKind} {a b : Int} (hx : ro E x = some (.one (.f (.c (.int k a))))) (hy : ro E y = some (.one (.f (.c (.int k b))))) (h : DPW p base rs Q r W A (setD E dst (.one (.f (.c (.int k (max a b)))))) S nk) : DPW p base rs Q (⟨id, dst, .p (.mm true x y), none, aid, ws, keep⟩ :: r) W A E S nk := by
 refine dw_pv (fun {Z β H F} hE => ⟨.one (.int k (max a b)), ?_, exact_ok rfl⟩) h
 simp only [aPure, int_of hE hx, int_of hE hy, if_true]
 congr 3; split <;> omega
theorem dw_min {x y : Opd} {k : IntKind} {a b : Int} (hx : ro E x = some (.one (.f (.c (.int k a))))) (hy : ro E y = some (.one (.f (.c (.int k b))))) (h : DPW p base rs Q r W A (setD E dst (.one (.f (.c (.int k (min a b)))))) S nk) : DPW p base rs Q (⟨id, dst, .p (.mm false x y), none, aid, ws, keep⟩ :: r) W A E S nk := by
 refine dw_pv (fun {Z β H F} hE => ⟨.one (.int k (min a b)), ?_, exact_ok rfl⟩) h
 simp only [aPure, int_of hE hx, int_of hE hy, if_true, Bool.false_eq_true, if_false]
 congr 3; split <;> omega
theorem dw_rem {x y : Opd} {k : IntKind} {a b : Int} (hx : ro E x = some (.one (.f (.c (.int k a))))) (hy : ro E y = some (.one (.f (.c (.int k b))))) (hb : b ≠ 0) (h : DPW p base rs Q r W A (setD E dst (.one (.f (.c (.int k (a.tmod b)))))) S nk) : DPW p base rs Q (⟨id, dst, .p (.bin .rem x y), none, aid, ws, keep⟩ :: r) W A E S nk :=
 dw_pv (fun {Z β H F} hE => ⟨.one (.int k (a.tmod b)), by simp [aPure, int_of hE hx, int_of hE hy, aBin, hb], exact_ok rfl⟩) h
theorem dw_pick {o a b : Opd} {t x y : Bool} (hc : ro E o = some (.bool t)) (ha : t = true -> ro E a = some (.bool x)) (hb : t = false -> ro E b = some (.bool y)) (h : DPW p base rs Q r W A (setD E dst (.bool (if t = true then x else y))) S nk) : DPW p base rs Q (⟨id, dst, .p (.pick o a b), none, aid, ws, keep⟩ :: r) W A E S nk := by
 refine dw_pv (fun {Z β H F} hE => ⟨.one (.bool (if t = true then x else y)), ?_, exact_ok rfl⟩) h
 simp only [aPure, int_of hE hc]
 cases t with
 | true => simp [int_of hE (ha rfl)]
 | false => simp [int_of hE (hb rfl)]
theorem dw_pickT {o a b : Opd} {d : DV} (hc : ro E o = some (.bool true)) (ha : ro E a = some d) (h : DPW p base rs Q r W A (setD E dst d) S nk) : DPW p base rs Q (⟨id, dst, .p (.pick o a b), none, aid, ws, keep⟩ :: r) W A E S nk :=
 dw_pv (fun {Z β H F} hE => ⟨_, by simp only [aPure, int_of hE hc, if_true], ro_ok hE ha⟩) h
theorem dw_pickF {o a b : Opd} {d : DV} (hc : ro E o = some (.bool false)) (hb : ro E b = some d) (h : DPW p base rs Q r W A (setD E dst d) S nk) : DPW p base rs Q (⟨id, dst, .p (.pick o a b), none, aid, ws, keep⟩ :: r) W A E S nk :=
 dw_pv (fun {Z β H F} hE => ⟨_, by simp only [aPure, int_of hE hc, Bool.false_eq_true, if_false], ro_ok hE hb⟩) h
theorem dw_io {esz : Nat} {x i : Opd} {k o n : Nat} {kd : IntKind} {j : Int} (hx : ro E x = some (.one (.own k o n esz))) (hi : ro E i = some (.one (.f (.c (.int kd j))))) (h0 : 0 <= j) (h1 : j < n) (h : DPW p base rs Q r W A (setD E dst (.one (.ptr k (o + j.toNat * esz)))) S nk) : DPW p base rs Q (⟨id, dst, .p (.iaddr esz x i), none, aid, ws, keep⟩ :: r) W A E S nk := by
 refine dw_pv (fun {Z β H F} hE => ?_) h
 obtain ⟨c, hc, hr⟩ := ro_ok hE hx
 rcases hr with ⟨_, h2, _⟩|⟨b, N, cap, ex, h2, rfl, _⟩
 ·omega
 ·exact ⟨.one (.ptr b (o + j.toNat * esz)), by simp only [aPure, hc, int_of hE hi, iaddrV]; rw [if_pos ⟨trivial, h0, h1⟩], _, rfl, b, N, h2, rfl⟩
theorem dw_io0 {esz : Nat} {x i : Opd} {k n : Nat} {kd : IntKind} {j : Int} (hx : ro E x = some (.one (.own k 0 n esz))) (hi : ro E i = some (.one (.f (.c (.int kd j))))) (h0 : 0 <= j) (h1 : j < n) (h : DPW p base rs Q r W A (setD E dst (.one (.ptr k (j.toNat * esz)))) S nk) : DPW p base rs Q (⟨id, dst, .p (.iaddr esz x i), none, aid, ws, keep⟩ :: r) W A E S nk :=
 dw_io hx hi h0 h1 (by rw [Nat.zero_add]; exact h)
theorem sl_at {Z : Nat -> Prop} {H : Hp} {esz n : Nat} {l q : List FD} {c : C} (hr : RF Z H (.sl esz n l) c) {j : Nat} (hj : j < n) (he : 0 < esz) (hq : subL l (j * esz) esz = some q) : ∃ b o cap ex cs, c = .slc b o n cap esz ex /\ Z b /\ H.loads b (o + j * esz) q.length = some cs /\ All2 (RF Z H) q cs := by
 obtain ⟨hle, rfl⟩ := subL_some hq
 cases hr with
 | nil => omega
 | sl hz hl hn hld hel =>
  rename_i b o cap ex cs
  refine ⟨b, o, cap, ex, (cs.drop (j * esz)).take esz, rfl, hz (Nat.mul_pos (by omega) he), ?_, ?_⟩
  ·rw [List.length_take, List.length_drop, show min esz (l.length - j * esz) = esz by omega]
   exact loads_at hld (by omega)
  ·have hlen : l.length = cs.length := by rw [hl, loads_len hld]
   exact ((All2.mk hlen hel).drop _).take _
theorem dw_if {esz : Nat} {x i : Opd} {n : Nat} {l q : List FD} {kd : IntKind} {j : Nat} (hx : ro E x = some (.one (.f (.sl esz n l)))) (hi : ro E i = some (.one (.f (.c (.int kd (j : Nat)))))) (h1 : j < n) (he : 0 < esz) (hq : subL l (j * esz) esz = some q) (h : DPW p base rs Q r W A (setD E dst (.one (.fptr q))) S nk) : DPW p base rs Q (⟨id, dst, .p (.iaddr esz x i), none, aid, ws, keep⟩ :: r) W A E S nk := by
 refine dw_pv (fun {Z β H F} hE => ?_) h
 obtain ⟨c, hc, hr⟩ := ro_ok hE hx
 obtain ⟨b, o, cap, ex, cs, rfl, hz, hl, ha⟩ := sl_at hr h1 he hq
 refine ⟨.one (.ptr b (o + j * esz)), ?_, _, rfl, b, _, cs, rfl, hz, hl, ha⟩
 simp only [aPure, hc, int_of hE hi, iaddrV]
 rw [if_pos ⟨trivial, by omega, by omega⟩, Int.toNat_natCast]
theorem dw_if0 {esz : Nat} {x i : Opd} {n : Nat} {l q : List FD} {kd : IntKind} (hx : ro E x = some (.one (.f (.sl esz n l)))) (hi : ro E i = some (.one (.f (.c (.int kd 0))))) (h1 : 0 < n) (he : 0 < esz) (hq : subL l (0 * esz) esz = some q) (h : DPW p base rs Q r W A (setD E dst (.one (.fptr q))) S nk) : DPW p base rs Q (⟨id, dst, .p (.iaddr esz x i), none, aid, ws, keep⟩ :: r) W A E S nk := dw_if (j := 0) hx hi h1 he hq h
theorem undef_ok {Z : Nat -> Prop} {β : Beta} {H : Hp} : RDV Z H β .undef V.undef := ⟨[], rfl, trivial⟩
theorem dw_want {op : SOp} {g : Nat} {t want : Bool} (hg : lk E g = some (.bool t)) (ht : t = want) (h : DPW p base rs Q (⟨id, dst, op, none, aid, ws, keep⟩ :: r) W A E S nk) : DPW p base rs Q (⟨id, dst, op, some (g, want), aid, ws, keep⟩ :: r) W A E S nk := .mk fun Z β H F c hS hE hC hA => by
 have h' := h.run Z β H F c hS hE hC hA
 obtain ⟨v, hv, x, rfl, hr⟩ := hE g _ hg
 cases hr
 have hw : wantedA (some (g, want)) F = true := by simp [wantedA, hv, ht]
 rw [wOps] at h' ⊢
 simp only [wantedA, if_true] at h'
 simp only [hw, if_true]
 exact h'
theorem dw_skip {op : SOp} {g : Nat} {t want : Bool} (hg : lk E g = some (.bool t)) (ht : t = !want) (h : DPW p base rs Q r W A (setD E dst .undef) S nk) : DPW p base rs Q (⟨id, dst, op, some (g, want), aid, ws, keep⟩ :: r) W A E S nk := .mk fun Z β H F c hS hE hC hA => by
 obtain ⟨v, hv, x, rfl, hr⟩ := hE g _ hg
 cases hr
 have hw : wantedA (some (g, want)) F = false := by simp [wantedA, hv, ht]
 rw [wOps]
 simp only [hw, Bool.false_eq_true, if_false]
 exact h.run Z β H _ c hS (hE.set dst undef_ok) hC hA
theorem dw_skipU {op : SOp} {g : Nat} {want : Bool} (hg : lk E g = some .undef) (h : DPW p base rs Q r W A (setD E dst .undef) S nk) : DPW p base rs Q (⟨id, dst, op, some (g, want), aid, ws, keep⟩ :: r) W A E S nk := .mk fun Z β H F c hS hE hC hA => by
 obtain ⟨v, hv, x, rfl, hr⟩ := hE g _ hg
 have hw : wantedA (some (g, want)) F = false := by simp [wantedA, hv]
 rw [wOps]
 simp only [hw, Bool.false_eq_true, if_false]
 exact h.run Z β H _ c hS (hE.set dst undef_ok) hC hA
theorem dw_by {op : SOp} {g : Nat} {t want : Bool} (hg : lk E g = some (.bool t)) (h1 : t = want -> DPW p base rs Q (⟨id, dst, op, none, aid, ws, keep⟩ :: r) W A E S nk) (h2 : t = !want -> DPW p base rs Q r W A (setD E dst .undef) S nk) : DPW p base rs Q (⟨id, dst, op, some (g, want), aid, ws, keep⟩ :: r) W A E S nk := by
 by_cases ht : t = want
 ·exact dw_want hg ht (h1 ht)
 ·have hb : ∀ a b : Bool, ¬ a = b -> a = !b := by decide
  have ht' := hb t want ht
  exact dw_skip hg ht' (h2 ht')
theorem dw_pg {op : PureOp} {d : DV} {g : Nat} {t want : Bool} (hg : lk E g = some (.bool t)) (hd : t = want -> dPure E op = some d) (h : DPW p base rs Q r W A (setD E dst (if t = want then d else .undef)) S nk) : DPW p base rs Q (⟨id, dst, .p op, some (g, want), aid, ws, keep⟩ :: r) W A E S nk :=
 dw_by hg (fun ht => dw_p (hd ht) (by rw [if_pos ht] at h; exact h)) (fun ht => by rw [if_neg (by rw [ht]; cases want <;> decide)] at h; exact h)
def rdC (p : Par) (S : Bx) : DC -> Nat -> Option (List DC)
 | .ptr k o, n => match lk S k with
  | some (.cells l) => subL l o n
  | some (.data l) => match subL l o n with
   | some q => some (q.map .f)
   | none => none
  | some (.tree rows) => subL (rowsV k 0 rows) o n
  | _ => none
 | .tptr k i o, n => match lk S k with
  | some (.tree rows) => match rows[i]? with
   | some r => match subL r o n with
    | some q => some (q.map .f)
    | none => none
   | none => none
  | _ => none
 | .fptr l, n => match subL l 0 n with
  | some q => some (q.map .f)
  | none => none
 | .g b o, n => match p.GH.get b, p.GH.loads b o n with
  | some _, some q => some (q.map toC)
  | _, _ => none
 | _, _ => none
def wtC : DC -> Nat -> Option (Key × Nat × Nat)
 | .ptr k o, n => some ((k, 0), o, n)
 | .tptr k i o, n => some ((k, i + 1), o, n)
 | _, _ => none
theorem all2_map_f {Z : Nat -> Prop} {H : Hp} {β : Beta} : ∀ {l : List FD} {cs : List C}, All2 (RF Z H) l cs -> All2 (RD Z H β) (l.map .f) cs
 | [], [], _ => trivial
 | _ :: _, _ :: _, h => ⟨h.1, all2_map_f h.2⟩
 | [], _ :: _, h => h.elim
 | _ :: _, [], h => h.elim
theorem rdC_ok {Z : Nat -> Prop} {β : Beta} {H : Hp} (hS : SR p Z β H S nk) {d : DC} {c : C} (hr : RD Z H β d c) {n : Nat} {l : List DC} (hl : rdC p S d n = some l) :
  ∃ b o cs, c = .ptr b o /\ H.loads b o n = some cs /\ All2 (RD Z H β) l cs /\ ∀ q : Hp -> Prop, (∀ H' : Hp, (∀ i x, o <= i -> i < o + n -> H.cell b i = some x -> H'.cell b i = some x) -> q H') -> WR Z β H (wtC d n) q := by
 have key : ∀ {κ : Key} {o : Nat} {x : Bk} {q : List DC}, lk2 S κ = some x -> x.shape = none -> (∀ cs, x.rel Z H β cs -> All2 (RD Z H β) q ((cs.drop o).take n)) -> o + n <= x.len -> (∃ b N, β κ = some (.blk b N) /\ c = .ptr b o) -> ∃ b o' cs, c = .ptr b o' /\ H.loads b o' n = some cs /\ All2 (RD Z H β) q cs /\ ∀ q : Hp -> Prop, (∀ H' : Hp, (∀ i x, o' <= i -> i < o' + n -> H.cell b i = some x -> H'.cell b i = some x) -> q H') -> WR Z β H (some (κ, o, n)) q := by
  intro κ o x q hk hsh hq hle hr
  obtain ⟨b, N, hb, rfl⟩ := hr
  obtain ⟨s, hs, hbx⟩ := hS.box κ x hk
  rw [hb] at hs
  obtain rfl := Option.some.inj hs
  obtain ⟨_, _, _, cs, rest, hrow, hN, hrel⟩ := hbx
  rw [hsh] at hrow
  have hrow : Row H b (cs ++ rest) := hrow
  have hlen := Bk.rel_len hrel
  refine ⟨b, o, (cs.drop o).take n, rfl, ?_, hq cs hrel, fun q hq => ⟨b, N, hb, hq⟩⟩
  have h1 : H.loads b (0 + o) n = some (((cs ++ rest).drop o).take n) := loads_at hrow.2 (by simp; omega)
  rw [Nat.zero_add] at h1
  rw [h1, List.drop_append_of_le_length (by omega), List.take_append_of_le_length (by simp; omega)]
 cases d with
 | ptr k o =>
  simp only [rdC] at hl
  split at hl
  ·rename_i l0 hk
   obtain ⟨h1, rfl⟩ := subL_some hl
   exact key (lk2_of hk rfl) rfl (fun cs hrel => (All2.drop hrel o).take n) h1 hr
  ·rename_i l0 hk
   split at hl
   ·rename_i q hq
    obtain rfl := Option.some.inj hl
    obtain ⟨h1, rfl⟩ := subL_some hq
    exact key (lk2_of hk rfl) rfl (fun cs hrel => all2_map_f ((All2.drop hrel o).take n)) h1 hr
   ·cases hl
  ·rename_i rows hk
   obtain ⟨h1, rfl⟩ := subL_some hl
   exact key (κ := (k, 0)) (x := .cells (rowsV k 0 rows)) (by simp only [lk2, hk]) rfl (fun cs hrel => (All2.drop hrel o).take n) h1 hr
  ·cases hl
 | tptr k i o =>
  simp only [rdC] at hl
  split at hl
  ·rename_i rows hk
   split at hl
   ·rename_i r hri
    split at hl
    ·rename_i q hq
     obtain rfl := Option.some.inj hl
     obtain ⟨h1, rfl⟩ := subL_some hq
     exact key (κ := (k, i + 1)) (x := .data r) (by simp only [lk2, hk, hri]; rfl) rfl (fun cs hrel => all2_map_f ((All2.drop hrel o).take n)) h1 hr
    ·cases hl
   ·cases hl
  ·cases hl
 | fptr l0 =>
  simp only [rdC] at hl
  split at hl
  ·rename_i q hq
   obtain rfl := Option.some.inj hl
   obtain ⟨h1, rfl⟩ := subL_some hq
   obtain ⟨b, o, cs, rfl, hz, hld, ha⟩ := hr
   refine ⟨b, o, cs.take n, rfl, loads_take hld (by omega), all2_map_f (by simpa using ha.take n), fun q hq => ⟨b, hz, fun H' hh => hq H' fun i x _ _ hx => hh i x hx⟩⟩
  ·cases hl
 | g b o =>
  simp only [rdC] at hl
  split at hl
  ·rename_i bk q hn hq
   obtain rfl := Option.some.inj hl
   obtain rfl : c = .ptr b o := hr
   obtain ⟨h1, h2⟩ := hS.glob b bk (.inl hn)
   refine ⟨b, o, q, rfl, by rw [loads_congr (H := p.GH) (by rw [h2, hn])]; exact hq, toCs_ok q, fun q hq => ⟨b, h1, fun H' hh => hq H' fun i x _ _ hx => hh i x hx⟩⟩
  ·cases hl
 | _ => cases hl
def dLoad (p : Par) (E : DEnv) (S : Bx) (agg : Bool) (n : Nat) (a : Opd) : Option DV := match ro E a with
 | some (.one d) => match agg with
  | true => match rdC p S d n with
   | some l => some (.agg l)
   | none => none
  | false => match rdC p S d 1 with
   | some (x :: _) => some (.one x)
   | _ => none
 | _ => none
def ldN (agg : Bool) (n : Nat) : Nat := match agg with
 | true => n
 | false => 1
def wtO (E : DEnv) (a : Opd) (agg : Bool) (n : Nat) : Option (Key × Nat × Nat) := match ro E a with
 | some (.one d) => wtC d (ldN agg n)
 | _ => none
theorem cell_loads {H : Hp} {b o n : Nat} {x : C} {l : List C} (h : H.loads b o (n + 1) = some (x :: l)) : H.cell b o = some x := by
 have := loads_cell (i := 0) h (by omega)
 simpa using this
theorem loads_keep {H H' : Hp} {b : Nat} : ∀ {n o : Nat} {l : List C}, H.loads b o n = some l -> (∀ i x, o <= i -> i < o + n -> H.cell b i = some x -> H'.cell b i = some x) -> H'.loads b o n = some l
 | 0, _, _, hl, _ => hl
 | n + 1, o, l, hl, hh => by
  simp only [Hp.loads] at hl ⊢
  cases hc : H.cell b o with
  | none => simp [hc] at hl
  | some c =>
   simp only [hc] at hl
   simp only [hh o c (by omega) (by omega) hc]
   cases hr : H.loads b (o + 1) n with
   | none => simp [hr] at hl
   | some r => simp only [hr] at hl; simp only [loads_keep hr fun i x h1 h2 => hh i x (by omega) (by omega)]; exact hl
theorem dLoad_ok {Z : Nat -> Prop} {β : Beta} {H : Hp} {F : T V} (hS : SR p Z β H S nk) (hE : ER Z β H E F) {agg : Bool} {n : Nat} {a : Opd} {d : DV} (hd : dLoad p E S agg n a = some d) :
  ∃ v, aLoad F H (.load agg n a) = some v /\ RDV1 Z H β d v /\ WR Z β H (wtO E a agg n) fun H' => aLoad F H' (.load agg n a) = some v := by
 unfold dLoad at hd
 split at hd
 ·rename_i e he
  have hwt : wtO E a agg n = wtC e (ldN agg n) := by simp only [wtO, he]
  rw [hwt]
  obtain ⟨x, hx, hr⟩ := ro_ok hE he
  cases agg with
  | true =>
   simp only [ldN] at hd ⊢
   split at hd
   ·rename_i l hl
    obtain rfl := Option.some.inj hd
    obtain ⟨b, o, cs, rfl, h1, h2, h3⟩ := rdC_ok hS hr hl
    refine ⟨.agg cs, by simp [aLoad, hx, h1], ⟨cs, rfl, h2⟩, h3 _ fun H' hh => ?_⟩
    simp [aLoad, hx, loads_keep h1 hh]
   ·cases hd
  | false =>
   simp only [ldN] at hd ⊢
   split at hd
   ·rename_i x' l hl
    obtain rfl := Option.some.inj hd
    obtain ⟨b, o, cs, rfl, h1, h2, h3⟩ := rdC_ok hS hr hl
    cases cs with
    | nil => exact h2.elim
    | cons y cs =>
     have hcell := cell_loads h1
     refine ⟨.one y, by simp [aLoad, hx, hcell], ⟨y, rfl, h2.1⟩, h3 _ fun H' hh => ?_⟩
     simp [aLoad, hx, hh o y (by omega) (by omega) hcell]
   ·cases hd
 ·cases hd
theorem dw_l {agg : Bool} {n : Nat} {a : Opd} {d : DV} (hd : dLoad p E S agg n a = some d) (h : DPW p base rs Q r W A (setD E dst d) S nk) : DPW p base rs Q (⟨id, dst, .l (.load agg n a), none, aid, ws, false⟩ :: r) W A E S nk := .mk fun Z β H F c hS hE hC hA => by
 obtain ⟨v, hv, hr, _⟩ := dLoad_ok hS hE hd
 simp only [wOps, wantedA, if_true, hv, Bool.false_eq_true, if_false]
 exact h.run Z β H _ c hS (hE.set dst (RDV.of1 hr)) hC hA
theorem dw_lk {agg : Bool} {n : Nat} {a : Opd} {d : DV} (hd : dLoad p E S agg n a = some d) (h : DPW p base rs Q r ((id, wtO E a agg n) :: W) A (setD E dst d) S nk) : DPW p base rs Q (⟨id, dst, .l (.load agg n a), none, aid, ws, true⟩ :: r) W A E S nk := .mk fun Z β H F c hS hE hC hA => by
 obtain ⟨v, hv, hr, hw⟩ := dLoad_ok hS hE hd
 simp only [wOps, wantedA, if_true, hv]
 refine h.run Z β H _ _ hS (hE.set dst (RDV.of1 hr)) (fun x hx => ?_) hA
 rcases List.mem_cons.1 hx with rfl|hx
 ·exact ⟨(id, wtO E a agg n), List.mem_cons_self, hw⟩
 ·obtain ⟨y, hy, hr⟩ := hC x hx
  exact ⟨y, by simp [hy], hr⟩
theorem dw_lg {agg : Bool} {n : Nat} {a : Opd} {d : DV} {g : Nat} {t want : Bool} (hg : lk E g = some (.bool t)) (hd : t = want -> dLoad p E S agg n a = some d) (h : DPW p base rs Q r W A (setD E dst (if t = want then d else .undef)) S nk) : DPW p base rs Q (⟨id, dst, .l (.load agg n a), some (g, want), aid, ws, false⟩ :: r) W A E S nk :=
 dw_by hg (fun ht => dw_l (hd ht) (by rw [if_pos ht] at h; exact h)) (fun ht => by rw [if_neg (by rw [ht]; cases want <;> decide)] at h; exact h)
theorem dload_data {agg : Bool} {n k o : Nat} {a : Opd} {l q : List FD} (ha : ro E a = some (.one (.ptr k o))) (hk : lk S k = some (.data l)) (hl : subL l o (ldN agg n) = some q) {d : DV} (hd : (match agg, q with|true, q => some (.agg (q.map .f))|false, x :: _ => some (.one (.f x))|false, [] => none) = some d) : dLoad p E S agg n a = some d := by
 cases agg with
 | true => simp only [ldN] at hl hd; simp only [dLoad, ha, rdC, hk, hl]; exact hd
 | false =>
  simp only [ldN] at hl
  cases q with
  | nil => cases hd
  | cons x q => simp only at hd; simp only [dLoad, ha, rdC, hk, hl, List.map_cons]; exact hd
theorem dload_tree {n k o : Nat} {a : Opd} {rows : List (List FD)} {r : List FD} (ha : ro E a = some (.one (.ptr k o))) (hk : lk S k = some (.tree rows)) (hl : rows[o]? = some r) : dLoad p E S false n a = some (.one (.trow k o 0 r.length)) := by
 have h1 : o < rows.length := (List.getElem?_eq_some_iff.1 hl).1
 have h2 : subL (rowsV k 0 rows) o 1 = some [.trow k o 0 r.length] := by
  rw [subL_of (by rw [rowsV_len]; omega)]
  congr 1
  refine List.ext_getElem? fun j => ?_
  rw [List.getElem?_take]
  split
  ·rename_i hj
   obtain rfl : j = 0 := by omega
   rw [List.getElem?_drop, rowsV_at, Nat.add_zero, hl]
   simp
  ·rename_i hj
   rw [List.getElem?_eq_none (by simp; omega)]
 simp only [dLoad, ha, rdC, hk, h2]
theorem dload_tptr {n k i o : Nat} {a : Opd} {rows : List (List FD)} {r : List FD} {x : FD} (ha : ro E a = some (.one (.tptr k i o))) (hk : lk S k = some (.tree rows)) (hi : rows[i]? = some r) (ho : r[o]? = some x) : dLoad p E S false n a = some (.one (.f x)) := by
 have h1 : o < r.length := (List.getElem?_eq_some_iff.1 ho).1
 have h2 : subL r o 1 = some [x] := by
  rw [subL_of (by omega)]
  congr 1
  refine List.ext_getElem? fun j => ?_
  rw [List.getElem?_take]
  split
  ·rename_i hj
   obtain rfl : j = 0 := by omega
   rw [List.getElem?_drop, Nat.add_zero, ho]
   simp
  ·rename_i hj
   rw [List.getElem?_eq_none (by simp; omega)]
 simp only [dLoad, ha, rdC, hk, hi, h2, List.map_cons]
theorem dw_it {x i : Opd} {k t o n : Nat} {kd : IntKind} {j : Int} (hx : ro E x = some (.one (.trow k t o n))) (hi : ro E i = some (.one (.f (.c (.int kd j))))) (h0 : 0 <= j) (h1 : j < n) (h : DPW p base rs Q r W A (setD E dst (.one (.tptr k t (o + j.toNat * 1)))) S nk) : DPW p base rs Q (⟨id, dst, .p (.iaddr 1 x i), none, aid, ws, keep⟩ :: r) W A E S nk := by
 refine dw_pv (fun {Z β H F} hE => ?_) h
 obtain ⟨c, hc, hr⟩ := ro_ok hE hx
 rcases hr with ⟨_, h2, _⟩|⟨b, N, cap, ex, h2, rfl, _⟩
 ·omega
 ·exact ⟨.one (.ptr b (o + j.toNat * 1)), by simp only [aPure, hc, int_of hE hi, iaddrV]; rw [if_pos ⟨trivial, h0, h1⟩], _, rfl, b, N, h2, rfl⟩
theorem dw_it0 {x i : Opd} {k t n : Nat} {kd : IntKind} {j : Int} (hx : ro E x = some (.one (.trow k t 0 n))) (hi : ro E i = some (.one (.f (.c (.int kd j))))) (h0 : 0 <= j) (h1 : j < n) (h : DPW p base rs Q r W A (setD E dst (.one (.tptr k t j.toNat))) S nk) : DPW p base rs Q (⟨id, dst, .p (.iaddr 1 x i), none, aid, ws, keep⟩ :: r) W A E S nk :=
 dw_it hx hi h0 h1 (by rw [Nat.zero_add, Nat.mul_one]; exact h)
theorem dw_io1 {x i : Opd} {k n : Nat} {kd : IntKind} {j : Int} (hx : ro E x = some (.one (.own k 0 n 1))) (hi : ro E i = some (.one (.f (.c (.int kd j))))) (h0 : 0 <= j) (h1 : j < n) (h : DPW p base rs Q r W A (setD E dst (.one (.ptr k j.toNat))) S nk) : DPW p base rs Q (⟨id, dst, .p (.iaddr 1 x i), none, aid, ws, keep⟩ :: r) W A E S nk :=
 dw_io hx hi h0 h1 (by rw [Nat.zero_add, Nat.mul_one]; exact h)
end
end Go.Ab

namespace Go.Ab
def allF : List DC -> Option (List FD)
 | [] => some []
 | .f d :: l => match allF l with
  | some r => some (d :: r)
  | none => none
 | _ :: _ => none
def mkBk (l : List DC) : Bk := match allF l with
 | some r => .data r
 | none => .cells l
section
variable {Z : Nat -> Prop} {H : Hp} {β : Beta}
theorem allF_ok : ∀ {l : List DC} {r : List FD} {cs : List C}, allF l = some r -> All2 (RD Z H β) l cs -> All2 (RF Z H) r cs
 | [], r, [], h, _ => by obtain rfl := Option.some.inj h; trivial
 | .f d :: l, r, c :: cs, h, hr => by
  simp only [allF] at h
  split at h
  ·rename_i q hq
   obtain rfl := Option.some.inj h
   exact ⟨hr.1, allF_ok hq hr.2⟩
  ·cases h
 | [], _, _ :: _, _, hr => hr.elim
 | _ :: _, _, [], _, hr => hr.elim
 | .g _ _ :: _, _, _ :: _, h, _ => by cases h
 | .ptr _ _ :: _, _, _ :: _, h, _ => by cases h
 | .own _ _ _ _ :: _, _, _ :: _, h, _ => by cases h
 | .fptr _ :: _, _, _ :: _, h, _ => by cases h
 | .fn _ _ :: _, _, _ :: _, h, _ => by cases h
 | .any :: _, _, _ :: _, h, _ => by cases h
 | .om _ :: _, _, _ :: _, h, _ => by cases h
 | .yl _ :: _, _, _ :: _, h, _ => by cases h
 | .trow _ _ _ _ :: _, _, _ :: _, h, _ => by cases h
 | .tptr _ _ _ :: _, _, _ :: _, h, _ => by cases h
theorem mkBk_ok {l : List DC} {cs : List C} (h : All2 (RD Z H β) l cs) : (mkBk l).rel Z H β cs := by
 unfold mkBk
 split
 ·rename_i r hr; exact allF_ok hr h
 ·exact h
end
theorem mkBk_shape (l : List DC) : (mkBk l).shape = none := by
 unfold mkBk
 split <;> rfl
theorem fillL_len {F : T V} : ∀ {ps : List (Nat × Nat × Opd)} {z l : List C}, fillL F z ps = some l -> l.length = z.length
 | [], z, l, h => by rw [Option.some.inj h]
 | (off, size, x) :: r, z, l, h => by
  simp only [fillL] at h
  split at h
  ·cases h
  ·rename_i cs _
   split at h
   ·rename_i e
    rw [fillL_len h]
    simp only [List.length_append, List.length_take, List.length_drop]
    omega
   ·cases h
def dAlloc (E : DEnv) (nk : Nat) : AllocOp -> Option (Bk × DV)
 | .alloc z => some (.cells (z.map toC), .one (.ptr nk 0))
 | .box x => match ro E x with
  | some d => match cellsD d with
   | some l => some (.cells l, .one (.ptr nk 0))
   | none => none
  | none => none
 | .bslice esz len z ps => match fillD E ((patt z (len * esz)).map toC) ps with
  | some l => some (mkBk l, .one (.own nk 0 len esz))
  | none => none
 | _ => none
theorem dAlloc_shape {E : DEnv} {nk : Nat} {op : AllocOp} {x : Bk} {d : DV} (h : dAlloc E nk op = some (x, d)) : x.shape = none := by
 cases op with
 | alloc z => obtain ⟨rfl, rfl⟩ := Prod.mk.inj (Option.some.inj h); rfl
 | box o =>
  simp only [dAlloc] at h
  split at h
  ·split at h
   ·obtain ⟨rfl, rfl⟩ := Prod.mk.inj (Option.some.inj h); rfl
   ·cases h
  ·cases h
 | bslice esz len z ps =>
  simp only [dAlloc] at h
  split at h
  ·obtain ⟨rfl, rfl⟩ := Prod.mk.inj (Option.some.inj h); exact mkBk_shape _
  ·cases h
 | _ => cases h
section
variable {p : Par} {Z : Nat -> Prop} {H : Hp} {β : Beta} {E : DEnv} {F : T V} {nk : Nat}
theorem dAlloc_ok (hE : ER Z β H E F) {op : AllocOp} {x : Bk} {d : DV} (h : dAlloc E nk op = some (x, d)) : ∃ cs g, aAlloc F op = some (.row cs.length cs .lf true, g) /\ x.rel Z H β cs /\ ∀ b H' Z' β', β' (nk, 0) = some (.blk b cs.length) -> RDV Z' H' β' d (g b) := by
 cases op with
 | alloc z =>
  obtain ⟨rfl, rfl⟩ := Prod.mk.inj (Option.some.inj h)
  exact ⟨z, _, rfl, toCs_ok z, fun b H' Z' β' hb => ⟨_, rfl, b, _, hb, rfl⟩⟩
 | box o =>
  simp only [dAlloc] at h
  split at h
  ·rename_i d' hd'
   split at h
   ·rename_i l hl
    obtain ⟨rfl, rfl⟩ := Prod.mk.inj (Option.some.inj h)
    obtain ⟨cs, h1, h2⟩ := cellsD_ok (ro_ok hE hd') hl
    exact ⟨cs, fun b => .one (.ptr b 0), by simp only [aAlloc, h1], h2, fun b H' Z' β' hb => ⟨_, rfl, b, _, hb, rfl⟩⟩
   ·cases h
  ·cases h
 | bslice esz len z ps =>
  simp only [dAlloc] at h
  split at h
  ·rename_i l hl
   obtain ⟨rfl, rfl⟩ := Prod.mk.inj (Option.some.inj h)
   obtain ⟨cs, h1, h2⟩ := fillD_ok hE (toCs_ok _) hl
   have hlen := fillL_len h1
   refine ⟨cs, fun b => .one (.slc b 0 len len esz true), by simp only [aAlloc, h1], mkBk_ok h2, fun b H' Z' β' hb => ⟨_, rfl, .inr ⟨b, cs.length, len, true, hb, rfl, Nat.le_refl _, ?_⟩⟩⟩
   rw [hlen]; simp [patt]
  ·cases h
 | _ => cases h
end
section
variable {p : Par} {base rs : Nat} {Q : DEnv -> Bx -> Nat -> Prop} {r : List SOper} {W : Wt} {A : List Nat} {E : DEnv} {S : Bx} {nk : Nat} {id : Nat} {dst : Option Nat} {aid : Option Nat} {ws : List Nat} {keep : Bool}
theorem AR.new {Z : Nat -> Prop} {β : Beta} {H H' : Hp} {b N : Nat} (hA : AR p base rs A Z β H) (hnx : H.nx <= H'.nx) (hg : ∀ b', b' ≠ b -> H'.get b' = H.get b') (hb : ∀ j, j < rs -> j ∉ A -> base + j ≠ b) : AR p base rs A Z (updB β nk (.blk b N)) H' := by
 refine ⟨hA.1, fun j hj hjA => ?_⟩
 obtain ⟨h1, h2, h3, h4⟩ := hA.2 j hj hjA
 refine ⟨by omega, by rw [hg _ (hb j hj hjA)]; exact h2, h3, fun k M => ?_⟩
 by_cases e : k = (nk, 0)
 ·subst e; rw [updB_self]; intro h
  exact hb j hj hjA (Slot.blk.inj (Option.some.inj h)).1.symm
 ·rw [updB_ne _ _ e]; exact h4 k M
theorem CR.new {Z : Nat -> Prop} {β β' : Beta} {H H' : Hp} {b : Nat} {c : Ctx} (hC : CR W Z β H c) (hZ : ZLe Z H Z H') (hB : BLe β β') (hg : ∀ b', b' ≠ b -> H'.get b' = H.get b') (hb : H.get b = none) : CR W Z β' H' c := hC.step hZ hB fun y _ k o n _ b' N i x _ _ _ hx => by
 unfold Hp.cell at hx ⊢
 by_cases e : b' = b
 ·subst e; rw [hb] at hx; cases hx
 ·rw [hg b' e]; exact hx
theorem dw_anew {op : AllocOp} {x : Bk} {d : DV} (hsh : x.shape = none) (hd : ∀ {Z : Nat -> Prop} {β : Beta} {H : Hp} {F : T V}, ER Z β H E F -> ∃ bk g cs rest, aAlloc F op = some (bk, g) /\ (∀ b H', H'.get b = some bk -> Row H' b (cs ++ rest)) /\ x.rel Z H β cs /\ ∀ b (H' : Hp) (Z' : Nat -> Prop) β', β' (nk, 0) = some (.blk b (cs ++ rest).length) -> RDV Z' H' β' d (g b))
  (h : DPW p base rs Q r W A (setD E dst d) ((nk, x) :: S) (nk + 1)) : DPW p base rs Q (⟨id, dst, .a op, none, none, ws, keep⟩ :: r) W A E S nk := .mk fun Z β H F c hS hE hC hA => by
 obtain ⟨bk, g, cs, rest, h1, h2, h3, h4⟩ := hd hE
 simp only [wOps, wantedA, if_true, h1]
 have hfr : H.get H.nx = none := hS.wf.fresh (Nat.le_refl _)
 have hg : ∀ b', b' ≠ H.nx -> (H.push bk).get b' = H.get b' := fun b' hb' => by rw [Hp.get_push, if_neg hb']
 obtain ⟨hS', hZ, hB⟩ := hS.new (x := x) (b := H.nx) (H' := H.push bk) (cs := cs) (rest := rest) hsh h3 (fun hz => absurd (hS.z _ hz) (by omega)) (fun k N hk => absurd (hS.bd k _ N hk) (by omega)) hS.lo (by simp) (by simp) (hS.wf.push _) hg (h2 _ _ (by rw [Hp.get_push, if_pos rfl]))
 exact h.run Z _ _ _ c hS' ((hE.mono hZ hB).set dst (h4 _ _ _ _ (updB_self _ _ _))) (hC.new hZ hB hg hfr) (hA.new (by simp) hg fun j hj hjA e => by have := (hA.2 j hj hjA).1; omega)
theorem dw_anewi {op : AllocOp} {x : Bk} {d : DV} {i : Nat} (hi : Nat.blt i rs = true) (hA' : A.elem i = false) (hsh : x.shape = none) (hd : ∀ {Z : Nat -> Prop} {β : Beta} {H : Hp} {F : T V}, ER Z β H E F -> ∃ bk g cs rest, aAlloc F op = some (bk, g) /\ (∀ b H', H'.get b = some bk -> Row H' b (cs ++ rest)) /\ x.rel Z H β cs /\ ∀ b (H' : Hp) (Z' : Nat -> Prop) β', β' (nk, 0) = some (.blk b (cs ++ rest).length) -> RDV Z' H' β' d (g b))
  (h : DPW p base rs Q r W (i :: A) (setD E dst d) ((nk, x) :: S) (nk + 1)) : DPW p base rs Q (⟨id, dst, .a op, none, some i, ws, keep⟩ :: r) W A E S nk := .mk fun Z β H F c hS hE hC hA => by
 obtain ⟨bk, g, cs, rest, h1, h2, h3, h4⟩ := hd hE
 simp only [wOps, wantedA, if_true, h1]
 have hi' : i < rs := Nat.le_of_ble_eq_true hi
 have hiA : i ∉ A := fun h => by rw [List.elem_eq_true_of_mem h] at hA'; cases hA'
 obtain ⟨g1, g2, g3, g4⟩ := hA.2 i hi' hiA
 have hg : ∀ b', b' ≠ base + i -> (H.add (base + i) bk).get b' = H.get b' := fun b' hb' => Hp.get_add_ne _ _ hb'
 have hw : WF (H.add (base + i) bk) := fun b k hb => by
  rw [Hp.get_add] at hb
  split at hb
  ·simp; omega
  ·exact hS.wf b k hb
 obtain ⟨hS', hZ, hB⟩ := hS.new (x := x) (b := base + i) (H' := H.add (base + i) bk) (cs := cs) (rest := rest) hsh h3 g3 g4 (by have := hA.1; omega) (by simpa using g1) (by simp) hw hg (h2 _ _ (by simp))
 refine h.run Z _ _ _ c hS' ((hE.mono hZ hB).set dst (h4 _ _ _ _ (updB_self _ _ _))) (hC.new hZ hB hg g2) ?_
 have hA2 : AR p base rs (i :: A) Z β H := ⟨hA.1, fun j hj hjA => hA.2 j hj fun h => hjA (by simp [h])⟩
 exact hA2.new (by simp) hg fun j hj hjA e => hjA (by simp; omega)
theorem row_of {cs : List C} (b : Nat) (H' : Hp) (h : H'.get b = some (.row cs.length cs .lf true)) : Row H' b (cs ++ []) := by
 rw [List.append_nil]
 exact ⟨⟨cs, .lf, h⟩, loads_row (rw := true) h⟩
theorem dw_a {op : AllocOp} {x : Bk} {d : DV} (hd : dAlloc E nk op = some (x, d)) (h : DPW p base rs Q r W A (setD E dst d) ((nk, x) :: S) (nk + 1)) : DPW p base rs Q (⟨id, dst, .a op, none, none, ws, keep⟩ :: r) W A E S nk :=
 dw_anew (dAlloc_shape hd) (fun hE => by
  obtain ⟨cs, g, h1, h2, h3⟩ := dAlloc_ok hE hd
  exact ⟨_, g, cs, [], h1, row_of, h2, fun b H' Z' β' hb => h3 b H' Z' β' (by simpa using hb)⟩) h
theorem dw_ai {op : AllocOp} {x : Bk} {d : DV} {i : Nat} (hi : Nat.blt i rs = true) (hA' : A.elem i = false) (hd : dAlloc E nk op = some (x, d)) (h : DPW p base rs Q r W (i :: A) (setD E dst d) ((nk, x) :: S) (nk + 1)) : DPW p base rs Q (⟨id, dst, .a op, none, some i, ws, keep⟩ :: r) W A E S nk :=
 dw_anewi hi hA' (dAlloc_shape hd) (fun hE => by
  obtain ⟨cs, g, h1, h2, h3⟩ := dAlloc_ok hE hd
  exact ⟨_, g, cs, [], h1, row_of, h2, fun b H' Z' β' hb => h3 b H' Z' β' (by simpa using hb)⟩) h
def zok : List FD -> List C -> Bool
 | [], [] => true
 | .c _ :: l, x :: m => x.closed && zok l m
 | .sl _ 0 [] :: l, .nils :: m => zok l m
 | _, _ => false
def zeq : List FD -> List C -> Prop
 | [], [] => True
 | .c y :: l, x :: m => y = x /\ x.closed = true /\ zeq l m
 | .sl _ n q :: l, x :: m => n = 0 /\ q = [] /\ x = .nils /\ zeq l m
 | _, _ => False
theorem zeq_ok {Z : Nat -> Prop} {H : Hp} : ∀ {l : List FD} {m : List C}, zeq l m -> All2 (RF Z H) l m
 | [], [], _ => trivial
 | .c y :: l, x :: m, h => by obtain ⟨rfl, h1, h2⟩ := h; exact ⟨.c _ h1, zeq_ok h2⟩
 | .sl e n q :: l, x :: m, h => by obtain ⟨rfl, rfl, rfl, h2⟩ := h; exact ⟨.nil e, zeq_ok h2⟩
 | [], _ :: _, h => h.elim
 | .c _ :: _, [], h => h.elim
 | .sl _ _ _ :: _, [], h => h.elim
def reps' (z : List FD) : Nat -> List FD
 | 0 => []
 | n + 1 => z ++ reps' z n
theorem reps'_len (z : List FD) : ∀ n, (reps' z n).length = n * z.length
 | 0 => by simp [reps']
 | n + 1 => by simp [reps', reps'_len z n, Nat.add_mul]; omega
theorem reps'_at (z : List FD) : ∀ (n i : Nat), i < n * z.length -> (reps' z n)[i]? = z[i % z.length]?
 | 0, i, h => by simp at h
 | n + 1, i, h => by
  simp only [reps']
  by_cases hi : i < z.length
  ·rw [List.getElem?_append_left hi, Nat.mod_eq_of_lt hi]
  ·rw [List.getElem?_append_right (by omega), reps'_at z n (i - z.length) (by rw [Nat.add_mul, Nat.one_mul] at h; omega)]
   congr 1
   exact (Nat.mod_eq_sub_mod (by omega)).symm
theorem reps'_one (x : FD) : ∀ n, reps' [x] n = List.replicate n x
 | 0 => rfl
 | n + 1 => by simp [reps', reps'_one x n, List.replicate_succ]
theorem row_pat {z : List C} {M : Nat} (hz : 0 < z.length) (b : Nat) (H' : Hp) (h : H'.get b = some (.row M z .lf true)) : Row H' b ((List.range M).map fun i => z.getD (i % z.length) .nilp) := by
 refine ⟨⟨z, .lf, by simpa using h⟩, ?_⟩
 have key : ∀ (m o : Nat), o + m = M -> H'.loads b o m = some ((List.range' o m).map fun i => z.getD (i % z.length) .nilp) := by
  intro m
  induction m with
  | zero => intro o _; rfl
  | succ m ih =>
   intro o ho
   have hc : H'.cell b o = some (z.getD (o % z.length) .nilp) := by simp [Hp.cell, h, B.cell, show o < M by omega]
   simp only [Hp.loads, hc, ih (o + 1) (by omega), List.range'_succ, List.map_cons]
 have := key M 0 (by omega)
 simpa [List.range_eq_range'] using this
theorem mk_rel {Z : Nat -> Prop} {H : Hp} {zf : List FD} {z : List C} (hz : zeq zf z) (hp : 0 < z.length) {n M : Nat} (hn : n * z.length <= M) : ∃ cs rest, (List.range M).map (fun i => z.getD (i % z.length) .nilp) = cs ++ rest /\ All2 (RF Z H) (reps' zf n) cs := by
 have ha := zeq_ok (Z := Z) (H := H) hz
 have hl := ha.len
 refine ⟨((List.range M).map (fun i => z.getD (i % z.length) .nilp)).take (n * z.length), _, (List.take_append_drop _ _).symm, All2.mk ?_ fun i d c hd hc => ?_⟩
 ·rw [reps'_len, hl]; simp; omega
 ·have hi : i < n * zf.length := by rw [<- reps'_len]; exact (List.getElem?_eq_some_iff.1 hd).1
  rw [reps'_at zf n i hi] at hd
  obtain ⟨x, hx, hr⟩ := ha.at _ d hd
  rw [List.getElem?_take, if_pos (by rw [<- hl]; exact hi), List.getElem?_map, List.getElem?_range (by rw [hl] at hi; omega)] at hc
  simp only [Option.map_some, Option.some.injEq] at hc
  rw [<- hl] at hc
  rw [List.getD_eq_getElem?_getD, hx] at hc
  simp only [Option.getD_some] at hc
  exact hc ▸ hr
theorem mk_ok {esz bytes n m : Nat} {z : List C} {zf : List FD} {lo co : Opd} {k k' : IntKind} (hl : ro E lo = some (.one (.f (.c (.int k (n : Nat)))))) (hc : ro E co = some (.one (.f (.c (.int k' (m : Nat)))))) (hz : zeq zf z) (hze : z.length = esz) (hp : 0 < esz) (hnm : n <= m) (hb : bytes * m <= 281474976710656) (hm : m < 4611686018427387904)
  {Z : Nat -> Prop} {β : Beta} {H : Hp} {F : T V} (hE : ER Z β H E F) : ∃ bk g cs rest, aAlloc F (.mkslice esz bytes z lo co) = some (bk, g) /\ (∀ b H', H'.get b = some bk -> Row H' b (cs ++ rest)) /\ (Bk.data (reps' zf n)).rel Z H β cs /\ ∀ b (H' : Hp) (Z' : Nat -> Prop) β', β' (nk, 0) = some (.blk b (cs ++ rest).length) -> RDV Z' H' β' (.one (.own nk 0 n esz)) (g b) := by
 obtain ⟨cs, rest, h1, h2⟩ := mk_rel (Z := Z) (H := H) hz (by omega) (n := n) (M := m * esz) (by rw [hze]; exact Nat.mul_le_mul_right _ hnm)
 refine ⟨.row (m * esz) z .lf true, fun b => .one (.slc b 0 n m esz true), cs, rest, ?_, fun b H' hb => ?_, h2, fun b H' Z' β' hb => ⟨_, rfl, .inr ⟨b, _, m, true, hb, rfl, hnm, ?_⟩⟩⟩
 ·simp only [aAlloc, int_of hE hl, int_of hE hc]
  rw [if_pos ⟨by omega, by omega, by omega, by omega⟩]
  simp
 ·rw [<- h1]; exact row_pat (by omega) b H' hb
 ·rw [<- h1]; simp
theorem dw_mk {esz bytes n m : Nat} {z : List C} (zf : List FD) {lo co : Opd} {k k' : IntKind} (hl : ro E lo = some (.one (.f (.c (.int k (n : Nat)))))) (hc : ro E co = some (.one (.f (.c (.int k' (m : Nat)))))) (hz : zeq zf z) (hze : z.length = esz) (hp : 0 < esz) (hnm : n <= m) (hb : bytes * m <= 281474976710656) (hm : m < 4611686018427387904)
  (h : DPW p base rs Q r W A (setD E dst (.one (.own nk 0 n esz))) ((nk, .data (reps' zf n)) :: S) (nk + 1)) : DPW p base rs Q (⟨id, dst, .a (.mkslice esz bytes z lo co), none, none, ws, keep⟩ :: r) W A E S nk :=
 dw_anew (x := .data (reps' zf n)) rfl (fun hE => mk_ok hl hc hz hze hp hnm hb hm hE) h
end
end Go.Ab

namespace Go.Ab
def setLs {α : Type} (l : List α) (i : Nat) : List α -> List α
 | [] => l
 | c :: cs => setLs (l.set i c) (i + 1) cs
theorem setL_app : ∀ (cs l rest : List C) (i : Nat), i + cs.length <= l.length -> setL (l ++ rest) i cs = setL l i cs ++ rest
 | [], _, _, _, _ => rfl
 | c :: cs, l, rest, i, h => by
  simp only [List.length_cons] at h
  simp only [setL]
  rw [List.set_append_left _ _ (by omega)]
  exact setL_app cs _ rest (i + 1) (by simp; omega)
theorem All2.set {α β : Type} {R : α -> β -> Prop} : ∀ {l : List α} {m : List β}, All2 R l m -> ∀ (i : Nat) {a : α} {b : β}, R a b -> All2 R (l.set i a) (m.set i b)
 | [], [], _, _, _, _, _ => trivial
 | _ :: _, _ :: _, h, 0, _, _, hr => ⟨hr, h.2⟩
 | _ :: _, _ :: _, h, i + 1, _, _, hr => ⟨h.1, All2.set h.2 i hr⟩
 | [], _ :: _, h, _, _, _, _ => h.elim
 | _ :: _, [], h, _, _, _, _ => h.elim
theorem All2.setLs {α : Type} {R : α -> C -> Prop} : ∀ {ds : List α} {cs : List C}, All2 R ds cs -> ∀ {l : List α} {m : List C} (i : Nat), All2 R l m -> All2 R (setLs l i ds) (setL m i cs)
 | [], [], _, _, _, _, h => h
 | _ :: _, _ :: _, hd, _, _, i, h => All2.setLs hd.2 (i + 1) (All2.set h i hd.1)
 | [], _ :: _, h, _, _, _, _ => h.elim
 | _ :: _, [], h, _, _, _, _ => h.elim
theorem dsetL_mid : ∀ (pre old cs rest : List C), cs.length = old.length -> setL (pre ++ (old ++ rest)) pre.length cs = pre ++ (cs ++ rest)
 | _, [], [], _, _ => by simp [setL]
 | pre, o :: old, c :: cs, rest, h => by
  simp only [setL]
  have e : (pre ++ (o :: old ++ rest)).set pre.length c = (pre ++ [c]) ++ (old ++ rest) := by simp
  rw [e]
  have := dsetL_mid (pre ++ [c]) old cs rest (by simpa using h)
  simp only [List.length_append, List.length_cons, List.length_nil] at this
  rw [this]; simp
 | _, [], _ :: _, _, h => by simp at h
 | _, _ :: _, [], _, h => by simp at h
def stB (x : Bk) (o : Nat) (l : List DC) : Bk := match x with
 | .cells m => .cells (setLs m o l)
 | .data m => match allF l with
  | some q => .data (setLs m o q)
  | none => .cells (setLs (m.map .f) o l)
 | x => x
section
variable {p : Par} {base rs : Nat} {Q : DEnv -> Bx -> Nat -> Prop} {r : List SOper} {W : Wt} {A : List Nat} {E : DEnv} {S : Bx} {nk : Nat} {id : Nat} {dst : Option Nat} {aid : Option Nat} {ws : List Nat} {keep : Bool}
theorem wOk_0 {k : Nat} (h : wOk S k W = true) : wOk0 S k W = true := by
 unfold wOk at h
 split at h
 ·exact h
 ·cases h
theorem stB_ok {Z : Nat -> Prop} {β : Beta} {H : Hp} {x : Bk} {o : Nat} {l : List DC} {cs ks : List C} (hsh : x.shape = none) (hx : x.rel Z H β cs) (hl : All2 (RD Z H β) l ks) : (stB x o l).rel Z H β (setL cs o ks) := by
 cases x with
 | cells m => exact All2.setLs hl o hx
 | data m =>
  simp only [stB]
  split
  ·rename_i q hq
   exact All2.setLs (allF_ok hq hl) o hx
  ·exact All2.setLs hl o (all2_map_f hx)
 | tree rows => exact hx.elim
 | mp ks l => cases hsh
 | mt es => exact hx.elim
theorem stB_shape {x : Bk} {o : Nat} {l : List DC} (hsh : x.shape = none) : (stB x o l).shape = none := by
 cases x with
 | cells m => rfl
 | data m => simp only [stB]; split <;> rfl
 | tree rows => rfl
 | mp ks l => cases hsh
 | mt es => rfl
theorem AR.upd {Z : Nat -> Prop} {β : Beta} {H H' : Hp} {b : Nat} (hA : AR p base rs A Z β H) (hnx : H'.nx = H.nx) (hg : ∀ b', b' ≠ b -> H'.get b' = H.get b') {k : Key} {N : Nat} (hb : β k = some (.blk b N)) : AR p base rs A Z β H' := by
 refine ⟨hA.1, fun j hj hjA => ?_⟩
 obtain ⟨h1, h2, h3, h4⟩ := hA.2 j hj hjA
 exact ⟨by omega, by rw [hg _ (fun e => h4 k N (by rw [e]; exact hb))]; exact h2, h3, h4⟩
theorem CR.upd {Z : Nat -> Prop} {β : Beta} {H H' : Hp} {b : Nat} {k : Key} {N : Nat} {c : Ctx} {x : Bk} (hS : SR p Z β H S nk) (hk : lk S k.1 = some x) (hC : CR W Z β H c) (hZ : ZLe Z H Z H') (hg : ∀ b', b' ≠ b -> H'.get b' = H.get b') (hb : β k = some (.blk b N)) (hw : wOk0 S k.1 W = true) : CR W Z β H' c := hC.step hZ (BLe.refl _) fun y hy j o n e b' N' i q hj _ _ hq => by
 obtain ⟨⟨z, hz⟩, hne⟩ := wOk0_mem hw y hy j o n e
 have : b' ≠ b := fun e' => hne (by rw [hS.inj j k z x b N' N hz hk (e' ▸ hj) hb])
 unfold Hp.cell at hq ⊢
 rw [hg b' this]; exact hq
theorem dw_st {n : Nat} {a v : Opd} {k o : Nat} {x : Bk} {d : DV} {l : List DC} (ha : ro E a = some (.one (.ptr k o))) (hv : ro E v = some d) (hl : cellsD d = some l) (hn : l.length = n) (hk : lk S k = some x) (hle : o + n <= x.len) (hw : wOk S k W = true)
  (h : DPW p base rs Q r W A (setD E dst .undef) (put k (stB x o l) S) nk) : DPW p base rs Q (⟨id, dst, .e (.store n a v), none, aid, ws, keep⟩ :: r) W A E S nk := .mk fun Z β H F c hS hE hC hA => by
 obtain ⟨ca, hca, b, N, hb, rfl⟩ := ro_ok hE ha
 obtain ⟨ks, hk1, hk2⟩ := cellsD_ok (ro_ok hE hv) hl
 have hfl := wOk_flat hw hk
 have hsh := wOk_row hw hk
 obtain ⟨s, hs, hbx⟩ := hS.box (k, 0) x (lk2_of hk hfl)
 rw [hb] at hs
 obtain rfl := Option.some.inj hs
 obtain ⟨hz, hlo, hlt, cs, rest, hrow, hN, hrel⟩ := hbx
 rw [hsh] at hrow hN
 have hN : (cs ++ rest).length = N := hN
 have hrow : Row H b (cs ++ rest) := hrow
 have hlen := Bk.rel_len hrel
 have hkl := hk2.len
 obtain ⟨H', e1, e2, e3, e4⟩ := hrow.stores (cs := ks) (i := o) (by simp; omega)
 rw [setL_app ks cs rest o (by omega)] at e2
 obtain ⟨hS', hZ⟩ := hS.upd (x' := stB x o l) (cs := setL cs o ks) (rest := rest) hk hfl hb (stB_ok hsh hrel hk2) e3 e4 (stB_shape hsh) e2 (by rw [List.length_append, setL_len, <- List.length_append]; exact hN)
 simp only [wOps, wantedA, if_true, aEff, hca, hk1]
 rw [if_pos (by omega), e1]
 have hC' := hC.upd (k := (k, 0)) hS hk hZ e3 hb (wOk_0 hw)
 exact ⟨hC'.watch ws, h.run Z β H' _ c hS' ((hE.mono hZ (BLe.refl _)).set dst undef_ok) hC' (hA.upd e4 e3 hb)⟩
def SrcR (S : Bx) (esz : Nat) (d : DV) (m : Nat) (q : List FD) : Prop := match d with
 | .one (.own k o m' e) => m' = m /\ e = esz /\ ∃ l, lk S k = some (.data l) /\ subL l o (m * esz) = some q
 | .one (.f (.sl e m' l)) => m' = m /\ e = esz /\ l = q
 | .one (.f (.c .nils)) => m = 0 /\ q = []
 | _ => False
theorem own_loads {Z : Nat -> Prop} {β : Beta} {H : Hp} (hS : SR p Z β H S nk) {k o n esz : Nat} {c : C} (hr : RD Z H β (.own k o n esz) c) {l q : List FD} (hk : lk S k = some (.data l)) (hq : subL l o (n * esz) = some q) : ∃ cs, All2 (RF Z H) q cs /\ ((c = .nils /\ n = 0 /\ cs = []) \/ ∃ b cap ex N, β (k, 0) = some (.blk b N) /\ c = .slc b o n cap esz ex /\ n <= cap /\ H.loads b o (n * esz) = some cs) := by
 obtain ⟨hle, rfl⟩ := subL_some hq
 rcases hr with ⟨_, rfl, rfl, rfl⟩|⟨b, N, cap, ex, hb, rfl, hcap, _⟩
 ·exact ⟨[], by simp; trivial, .inl ⟨rfl, rfl, rfl⟩⟩
 ·obtain ⟨s, hs, hbx⟩ := hS.box (k, 0) _ (lk2_of hk rfl)
  rw [hb] at hs
  obtain rfl := Option.some.inj hs
  obtain ⟨_, _, _, cs, rest, hrow, hN, hrel⟩ := hbx
  have hN : (cs ++ rest).length = _ := hN
  have hlen := Bk.rel_len hrel
  simp only [Bk.len] at hlen
  refine ⟨(cs.drop o).take (n * esz), (All2.drop hrel o).take _, .inr ⟨b, cap, ex, N, hb, rfl, hcap, ?_⟩⟩
  have h1 : H.loads b (0 + o) (n * esz) = some (((cs ++ rest).drop o).take (n * esz)) := loads_at hrow.2 (by simp; omega)
  rw [Nat.zero_add] at h1
  rw [h1, List.drop_append_of_le_length (by omega), List.take_append_of_le_length (by simp; omega)]
theorem dsrc_ok {Z : Nat -> Prop} {β : Beta} {H : Hp} {F : T V} (hS : SR p Z β H S nk) (hE : ER Z β H E F) {x : Opd} {d : DV} (hx : ro E x = some d) {esz m : Nat} {q : List FD} (hd : SrcR S esz d m q) : ∃ cs, srcCells H esz (x.ev F) = some (m, cs) /\ All2 (RF Z H) q cs /\ cs.length = m * esz := by
 have hr := ro_ok hE hx
 unfold SrcR at hd
 split at hd
 ·obtain ⟨rfl, rfl, l, hk, hq⟩ := hd
  obtain ⟨c, hc, hr⟩ := hr
  obtain ⟨cs, h1, h2⟩ := own_loads hS hr hk hq
  rcases h2 with ⟨rfl, rfl, rfl⟩|⟨b, cap, ex, N, _, rfl, _, h2⟩
  ·exact ⟨[], by rw [hc]; rfl, h1, by simp⟩
  ·exact ⟨cs, by rw [hc]; simp [srcCells, h2], h1, loads_len h2⟩
 ·obtain ⟨rfl, rfl, rfl⟩ := hd
  obtain ⟨c, hc, hr⟩ := hr
  cases hr with
  | nil => exact ⟨[], by rw [hc]; rfl, trivial, by simp⟩
  | sl hz hl hn hld hel =>
   rename_i b o cap ex cs
   exact ⟨cs, by rw [hc]; simp [srcCells, hld], All2.mk (by rw [hl, loads_len hld]) hel, loads_len hld⟩
 ·obtain ⟨rfl, rfl⟩ := hd
  obtain ⟨c, hc, hr⟩ := hr
  cases hr
  exact ⟨[], by rw [hc]; rfl, trivial, by simp⟩
 ·exact hd.elim
theorem AR.repl {Z : Nat -> Prop} {β : Beta} {H H' : Hp} {b N : Nat} {k : Key} (hA : AR p base rs A Z β H) (hnx : H.nx <= H'.nx) (hg : ∀ b', b' ≠ b -> (∀ N, β k ≠ some (.blk b' N)) -> H'.get b' = H.get b') (hb : (∃ N, β k = some (.blk b N)) \/ H.nx <= b) : AR p base rs A Z (updB β nk (.blk b N)) H' := by
 refine ⟨hA.1, fun j hj hjA => ?_⟩
 obtain ⟨h1, h2, h3, h4⟩ := hA.2 j hj hjA
 have hne : base + j ≠ b := fun e => by
  rcases hb with ⟨M, hM⟩|hb
  ·exact h4 k M (e ▸ hM)
  ·omega
 refine ⟨by omega, by rw [hg _ hne fun M => h4 k M]; exact h2, h3, fun i M => ?_⟩
 by_cases e : i = (nk, 0)
 ·subst e; rw [updB_self]; intro h
  exact hne (Slot.blk.inj (Option.some.inj h)).1.symm
 ·rw [updB_ne _ _ e]; exact h4 i M
theorem CR.repl {Z : Nat -> Prop} {β β' : Beta} {H H' : Hp} {b k : Nat} {c : Ctx} {x : Bk} (hS : SR p Z β H S nk) (hk : lk S k = some x) (hC : CR W Z β H c) (hZ : ZLe Z H Z H') (hB : BLe β β') (hg : ∀ b', b' ≠ b -> (∀ N, β (k, 0) ≠ some (.blk b' N)) -> H'.get b' = H.get b') (hb : (∃ N, β (k, 0) = some (.blk b N)) \/ H.nx <= b) (hw : wOk S k W = true) : CR W Z β' H' c := hC.step hZ hB fun y hy j o n e b' N' i q hj _ _ hq => by
 obtain ⟨⟨z, hz⟩, hne⟩ := wOk_mem hw y hy j o n e
 have h2 : ∀ N, β (k, 0) ≠ some (.blk b' N) := fun N e' => hne (by rw [hS.inj j (k, 0) z x b' N' N hz hk hj e'])
 have h1 : b' ≠ b := fun e' => by
  rcases hb with ⟨M, hM⟩|hb
  ·exact h2 M (e' ▸ hM)
  ·have := hS.bd j b' N' hj; omega
 unfold Hp.cell at hq ⊢
 rw [hg b' h1 h2]; exact hq
theorem SR.keepS {Z : Nat -> Prop} {β : Beta} {H : Hp} {S0 : Bx} (hS : SR p Z β H S nk) (h2 : ∀ k x, lk S0 k = some x -> lk S k = some x) : SR p Z β H S0 nk :=
 ⟨hS.wf, hS.lo, hS.z, hS.zlo, hS.zz, hS.glob, hS.nk, hS.bd, fun k x hk => hS.box k x (by
  obtain ⟨y, hy⟩ := lk2_lk hk
  rw [lk2_congr (S' := S0) (by rw [hy, h2 _ _ hy])]; exact hk), fun k k' x x' b N N' hk hk' => hS.inj k k' x x' b N N' (h2 _ x hk) (h2 _ x' hk'), hS.blo, hS.anch, hS.ancn⟩
theorem virt_ok {Z : Nat -> Prop} {β : Beta} {H : Hp} (hS : SR p Z β H S nk) : SR p Z (updB β nk .nil) H ((nk, .data []) :: S) (nk + 1) := by
 have hB := hS.ble .nil
 refine ⟨hS.wf, hS.lo, hS.z, hS.zlo, hS.zz, hS.glob, fun j hj => ?_, fun j b' N hj => ?_, fun j y hj => ?_, fun j j' y y' b' N N' hj hj' e1 e2 => ?_, fun j b' N hj => ?_, fun κ hκ h0 => by rw [updB_ne1 _ _ (by have := hS.ancn; omega)]; exact hS.anch κ hκ h0, Nat.le_succ_of_le hS.ancn⟩
 ·rw [updB_ne1 _ _ (by omega)]; exact hS.nk j (by omega)
 ·by_cases e : j = (nk, 0)
  ·subst e; rw [updB_self] at hj; cases hj
  ·rw [updB_ne _ _ e] at hj; exact hS.bd j b' N hj
 ·rw [lk2_cons rfl] at hj
  split at hj
  ·rename_i e
   split at hj
   ·rename_i e2
    obtain rfl := key_eq e e2
    obtain rfl := Option.some.inj hj
    exact ⟨_, updB_self _ _ _, rfl⟩
   ·cases hj
  ·obtain ⟨s, hs, hbx⟩ := hS.box j y hj
   exact ⟨s, hB j s hs, hbx.mono hB (Nat.le_refl _) fun _ _ => rfl⟩
 ·by_cases e : j = (nk, 0)
  ·subst e; rw [updB_self] at e1; cases e1
  ·rw [updB_ne _ _ e] at e1
   by_cases e' : j' = (nk, 0)
   ·subst e'; rw [updB_self] at e2; cases e2
   ·rw [updB_ne _ _ e'] at e2
    have n1 := hS.lt1 e1
    have n2 := hS.lt1 e2
    rw [lk_cons, if_neg (by omega)] at hj hj'
    exact hS.inj j j' y y' b' N N' hj hj' e1 e2
 ·by_cases e : j = (nk, 0)
  ·subst e; rw [updB_self] at hj; cases hj
  ·rw [updB_ne _ _ e] at hj; exact hS.blo j b' N hj
theorem dw_app {esz bytes : Nat} {s v : Opd} {k n m : Nat} {l q l' : List FD} {d : DV} (hs : ro E s = some (.one (.own k 0 n esz))) (hv : ro E v = some d) (hk : lk S k = some (.data l)) (hl' : subL l 0 (n * esz) = some l') (hd : SrcR S esz d m q) (hbb : (n + m) * bytes <= 140737488355328) (h62 : n + m < 4611686018427387904) (he : 0 < esz) (hw : wOk S k W = true)
  (h : DPW p base rs Q r W A (setD E dst (.one (.own nk 0 (n + m) esz))) ((nk, .data (l' ++ q)) :: era k S) (nk + 1)) : DPW p base rs Q (⟨id, dst, .e (.append esz bytes s v), none, aid, ws, keep⟩ :: r) W A E S nk := .mk fun Z β H F c hS hE hC hA => by
 obtain ⟨news, hn1, hn2, hn3⟩ := dsrc_ok hS hE hv hd
 obtain ⟨cs, hcs, hr⟩ := ro_ok hE hs
 obtain ⟨hle, hl'e⟩ := subL_some hl'
 rw [Nat.zero_add] at hle
 rw [List.drop_zero] at hl'e
 obtain ⟨sk, hsk, hbx⟩ := hS.box (k, 0) _ (lk2_of hk rfl)
 simp only [wOps, wantedA, if_true, aEff, hn1, hcs]
 have hfin : ∀ (H' : Hp) (b : Nat) (ys rest : List C) (cap : Nat) (ex : Bool), All2 (RF Z H) (l' ++ q) ys -> ((∃ N, β (k, 0) = some (.blk b N)) \/ (b = H.nx)) -> b < H'.nx -> H.nx <= H'.nx -> WF H' -> (∀ b', b' ≠ b -> (∀ N, β (k, 0) ≠ some (.blk b' N)) -> H'.get b' = H.get b') -> Row H' b (ys ++ rest) -> n + m <= cap -> cap * esz <= (ys ++ rest).length ->
   watchOk ws c H' /\ wOps p.P p.G base (fun F' H' => ∃ E' S' nk' Z' β', SR p Z' β' H' S' nk' /\ ER Z' β' H' E' F' /\ Q E' S' nk') r c (setO F dst (.one (.slc b 0 (n + m) cap esz ex))) H' := by
  intro H' b ys rest cap ex hys hb hbl hnx hwf hg hrow hcap hcl
  have hb' : (∃ N, β (k, 0) = some (.blk b N)) \/ H.nx <= b := hb.imp (fun h => h) fun e => by omega
  obtain ⟨hS', hZ, hB⟩ := hS.replace (x' := .data (l' ++ q)) hk rfl hys (hb.imp (fun h => h) fun e => by subst e; exact ⟨fun hz => absurd (hS.z _ hz) (by omega), fun k N hk => absurd (hS.bd k _ N hk) (by omega), hS.lo⟩) hbl hnx hwf hg rfl hrow
  have hC' := hC.repl hS hk hZ hB hg hb' hw
  exact ⟨hC'.watch ws, h.run Z _ H' _ c hS' ((hE.mono hZ hB).set dst ⟨_, rfl, .inr ⟨b, _, cap, ex, updB_self _ _ _, rfl, hcap, by omega⟩⟩) hC' (hA.repl hnx hg hb')⟩
 rcases hr with ⟨hnil, rfl, _, rfl⟩|⟨b, N, cap, ex, hb, rfl, hcap, hcN⟩
 ·have hl0 : l' = [] := by rw [hl'e]; simp
  subst hl0
  simp only [aAppend]
  rw [Nat.zero_add] at hbb h62
  by_cases hm : m = 0
  ·subst hm
   rw [if_pos rfl]
   have hq0 : q = [] := List.eq_nil_of_length_eq_zero (by rw [hn2.len, hn3]; simp)
   subst hq0
   refine ⟨hC.watch ws, ?_⟩
   have hB := hS.ble .nil
   have hkn := hS.lt hk
   have hZ := ZLe.refl Z H
   have hS' : SR p Z (updB β nk .nil) H ((nk, .data []) :: era k S) (nk + 1) := by
    exact (virt_ok hS).keepS fun j y hj => by
     rw [lk_cons] at hj ⊢
     split at hj
     ·rename_i e; rw [if_pos e]; exact hj
     ·rename_i e
      rw [if_neg e]
      rw [lk_era] at hj
      split at hj
      ·cases hj
      ·exact hj
   refine h.run Z _ H _ c hS' ((hE.mono hZ hB).set dst ⟨_, rfl, .inl ⟨updB_self _ _ _, rfl, rfl, rfl⟩⟩) (hC.step hZ hB fun _ _ _ _ _ _ _ _ _ _ _ _ _ h => h) ⟨hA.1, fun j hj hjA => ?_⟩
   obtain ⟨h1, h2, h3, h4⟩ := hA.2 j hj hjA
   refine ⟨h1, h2, h3, fun i M => ?_⟩
   by_cases e : i = (nk, 0)
   ·subst e; rw [updB_self]; intro h; cases h
   ·rw [updB_ne _ _ e]; exact h4 i M
  ·rw [if_neg hm, if_pos ⟨hbb, h62⟩]
   have := hfin (H.push (.row news.length news .lf true)) H.nx news [] m false (by simpa using hn2) (.inr rfl) (by simp) (by simp) (hS.wf.push _) (fun b' hb' _ => by rw [Hp.get_push, if_neg hb']) (by rw [List.append_nil]; exact Row.new news) (by omega) (by simp [hn3])
   rw [Nat.zero_add] at this
   exact this
 ·rw [hb] at hsk
  obtain rfl := Option.some.inj hsk
  obtain ⟨hz, hlo, hlt, cells, rest, hrow, hN, hrel⟩ := hbx
  have hN : (cells ++ rest).length = _ := hN
  have hlen : l.length = cells.length := Bk.rel_len hrel
  have hoN : n * esz <= N := by
   have : n * esz <= cap * esz := Nat.mul_le_mul_right _ hcap
   omega
  have hpre : All2 (RF Z H) l' (cells.take (n * esz)) := by rw [hl'e]; exact All2.take hrel _
  simp only [aAppend]
  rw [if_neg (by simp)]
  by_cases hfit : n + m <= cap
  ·rw [if_pos hfit, Nat.zero_add]
   have hcm : (n + m) * esz <= cap * esz := Nat.mul_le_mul_right _ hfit
   rw [Nat.add_mul] at hcm
   have hsplit : cells ++ rest = cells.take (n * esz) ++ ((cells ++ rest).drop (n * esz)).take (m * esz) ++ (cells ++ rest).drop (n * esz + m * esz) := by
    rw [List.append_assoc, <- List.drop_drop, List.take_append_drop, <- List.take_append_of_le_length (l₁ := cells) (l₂ := rest) (by omega), List.take_append_drop]
   obtain ⟨H', e1, e2, e3, e4⟩ := hrow.stores (cs := news) (i := n * esz) (by rw [hN, hn3]; omega)
   rw [e1]
   have hset : setL (cells ++ rest) (n * esz) news = (cells.take (n * esz) ++ news) ++ (cells ++ rest).drop (n * esz + m * esz) := by
    conv => lhs; rw [hsplit, List.append_assoc]
    have := dsetL_mid (cells.take (n * esz)) (((cells ++ rest).drop (n * esz)).take (m * esz)) news ((cells ++ rest).drop (n * esz + m * esz)) (by rw [hn3, List.length_take, List.length_drop, hN]; omega)
    rw [List.length_take, Nat.min_eq_left (by omega)] at this
    rw [this, List.append_assoc]
   rw [hset] at e2
   refine hfin H' b (cells.take (n * esz) ++ news) _ cap ex (hpre.append hn2) (.inl ⟨N, hb⟩) (by omega) (by omega) (fun b' bk hb' => ?_) (fun b' hb' _ => e3 b' hb') e2 hfit ?_
   ·rw [e4]
    by_cases e : b' = b
    ·omega
    ·rw [e3 b' e] at hb'; exact hS.wf b' bk hb'
   ·have h1 := congrArg List.length hset
    rw [setL_len] at h1
    omega
  ·rw [if_neg hfit, if_pos ⟨hbb, h62⟩]
   have hld : H.loads b 0 (n * esz) = some (cells.take (n * esz)) := by
    have := loads_take hrow.2 (m := n * esz) (by omega)
    rw [this, List.take_append_of_le_length (by omega)]
   rw [hld]
   have hlen2 : (cells.take (n * esz) ++ news).length = (n + m) * esz := by
    rw [List.length_append, List.length_take, hn3, Nat.add_mul]; omega
   have hrow' := Row.new (H := H) (cells.take (n * esz) ++ news)
   cases ex with
   | true =>
    simp only [if_true]
    exact hfin _ H.nx (cells.take (n * esz) ++ news) [] (n + m) false (hpre.append hn2) (.inr rfl) (by simp) (by simp) (hS.wf.push _) (fun b' hb' _ => by rw [Hp.get_push, if_neg hb']) (by rw [List.append_nil]; exact hrow') (Nat.le_refl _) (by rw [List.append_nil, hlen2]; exact Nat.le_refl _)
   | false =>
    simp only [Bool.false_eq_true, if_false, hrow.mut, if_true]
    refine hfin _ H.nx (cells.take (n * esz) ++ news) [] (n + m) false (hpre.append hn2) (.inr rfl) (by simp) (by simp) (fun b' bk hb' => ?_) (fun b' hb' hne => ?_) (by rw [List.append_nil]; exact hrow'.same (by rw [Hp.get_del, if_neg (by omega)])) (Nat.le_refl _) (by rw [List.append_nil, hlen2]; exact Nat.le_refl _)
    ·rw [Hp.get_del] at hb'
     split at hb'
     ·cases hb'
     ·exact hS.wf.push _ b' bk hb'
    ·rw [Hp.get_del, if_neg (fun (e : b' = b) => hne N (by rw [e]; exact hb)), Hp.get_push, if_neg hb']
end
end Go.Ab

namespace Go.Ab
def frC : DC -> Bool
 | .f _ => true
 | .g _ _ => true
 | .fptr _ => true
 | _ => false
def fr1 : DV -> Bool
 | .one d => frC d
 | .agg l => allB frC l
 | .tup _ => false
def frV : DV -> Bool
 | .tup l => allB fr1 l
 | .one d => frC d
 | .agg l => allB frC l
def nob : Beta := fun _ => none
theorem nob_le (β : Beta) : BLe nob β := fun _ _ h => by cases h
section
variable {Z Z' : Nat -> Prop} {H H' : Hp} {β β' : Beta}
theorem frC_ok {d : DC} {c : C} (h : frC d = true) (hr : RD Z H β d c) : RD Z H β' d c := by
 cases d with
 | f d => exact hr
 | g b o => exact hr
 | fptr l => exact hr
 | _ => cases h
theorem frL_ok : ∀ {l : List DC} {cs : List C}, allB frC l = true -> All2 (RD Z H β) l cs -> All2 (RD Z H β') l cs
 | [], [], _, _ => trivial
 | d :: l, c :: cs, h, hr => by
  have h1 := allB_mem h d (by simp)
  have h2 : allB frC l = true := by simp only [allB, h1] at h; exact h
  exact ⟨frC_ok h1 hr.1, frL_ok h2 hr.2⟩
 | [], _ :: _, _, hr => hr.elim
 | _ :: _, [], _, hr => hr.elim
theorem fr1_ok {d : DV} {v : V} (h : fr1 d = true) (hr : RDV1 Z H β d v) : RDV1 Z H β' d v := by
 cases d with
 | one d => obtain ⟨c, rfl, hr⟩ := hr; exact ⟨c, rfl, frC_ok h hr⟩
 | agg l => obtain ⟨c, rfl, hr⟩ := hr; exact ⟨c, rfl, frL_ok h hr⟩
 | tup l => cases h
theorem fr1L_ok : ∀ {l : List DV} {cs : List V}, allB fr1 l = true -> All2 (RDV1 Z H β) l cs -> All2 (RDV1 Z H β') l cs
 | [], [], _, _ => trivial
 | d :: l, c :: cs, h, hr => by
  have h1 := allB_mem h d (by simp)
  have h2 : allB fr1 l = true := by simp only [allB, h1] at h; exact h
  exact ⟨fr1_ok h1 hr.1, fr1L_ok h2 hr.2⟩
 | [], _ :: _, _, hr => hr.elim
 | _ :: _, [], _, hr => hr.elim
theorem frV_ok {d : DV} {v : V} (h : frV d = true) (hr : RDV Z H β d v) : RDV Z H β' d v := by
 cases d with
 | one d => obtain ⟨c, rfl, hr⟩ := hr; exact ⟨c, rfl, frC_ok h hr⟩
 | agg l => obtain ⟨c, rfl, hr⟩ := hr; exact ⟨c, rfl, frL_ok h hr⟩
 | tup l => obtain ⟨c, rfl, hr⟩ := hr; exact ⟨c, rfl, fr1L_ok h hr⟩
theorem frVL_ok : ∀ {l : List DV} {cs : List V}, allB frV l = true -> All2 (RDV Z H β) l cs -> All2 (RDV Z H β') l cs
 | [], [], _, _ => trivial
 | d :: l, c :: cs, h, hr => by
  have h1 := allB_mem h d (by simp)
  have h2 : allB frV l = true := by simp only [allB, h1] at h; exact h
  exact ⟨frV_ok h1 hr.1, frVL_ok h2 hr.2⟩
 | [], _ :: _, _, hr => hr.elim
 | _ :: _, [], _, hr => hr.elim
end
def clC : DC -> Bool
 | .f (.c _) => true
 | _ => false
def cl1 : DV -> Bool
 | .one d => clC d
 | .agg l => allB clC l
 | .tup _ => false
def clV : DV -> Bool
 | .tup l => allB cl1 l
 | .one d => clC d
 | .agg l => allB clC l
section
variable {Z Z' : Nat -> Prop} {H H' : Hp} {β β' : Beta}
theorem clC_ok {d : DC} {c : C} (h : clC d = true) (hr : RD Z H β d c) : RD Z' H' β' d c := by
 cases d with
 | f d => cases d with
  | c x => cases hr with
   | c _ hx => exact RF.c _ hx
  | sl => cases h
 | _ => cases h
theorem clL_ok : ∀ {l : List DC} {cs : List C}, allB clC l = true -> All2 (RD Z H β) l cs -> All2 (RD Z' H' β') l cs
 | [], [], _, _ => trivial
 | d :: l, c :: cs, h, hr => by
  have h1 := allB_mem h d (by simp)
  have h2 : allB clC l = true := by simp only [allB, h1] at h; exact h
  exact ⟨clC_ok h1 hr.1, clL_ok h2 hr.2⟩
 | [], _ :: _, _, hr => hr.elim
 | _ :: _, [], _, hr => hr.elim
theorem cl1_ok {d : DV} {v : V} (h : cl1 d = true) (hr : RDV1 Z H β d v) : RDV1 Z' H' β' d v := by
 cases d with
 | one d => obtain ⟨c, rfl, hr⟩ := hr; exact ⟨c, rfl, clC_ok h hr⟩
 | agg l => obtain ⟨c, rfl, hr⟩ := hr; exact ⟨c, rfl, clL_ok h hr⟩
 | tup l => cases h
theorem cl1L_ok : ∀ {l : List DV} {cs : List V}, allB cl1 l = true -> All2 (RDV1 Z H β) l cs -> All2 (RDV1 Z' H' β') l cs
 | [], [], _, _ => trivial
 | d :: l, c :: cs, h, hr => by
  have h1 := allB_mem h d (by simp)
  have h2 : allB cl1 l = true := by simp only [allB, h1] at h; exact h
  exact ⟨cl1_ok h1 hr.1, cl1L_ok h2 hr.2⟩
 | [], _ :: _, _, hr => hr.elim
 | _ :: _, [], _, hr => hr.elim
theorem clV_ok {d : DV} {v : V} (h : clV d = true) (hr : RDV Z H β d v) : RDV Z' H' β' d v := by
 cases d with
 | one d => obtain ⟨c, rfl, hr⟩ := hr; exact ⟨c, rfl, clC_ok h hr⟩
 | agg l => obtain ⟨c, rfl, hr⟩ := hr; exact ⟨c, rfl, clL_ok h hr⟩
 | tup l => obtain ⟨c, rfl, hr⟩ := hr; exact ⟨c, rfl, cl1L_ok h hr⟩
end
def DCalls (P : Program) (G : Nat) (GH : Hp) (f : FuncId) (ds : List DV) (R : DV -> Prop) : Prop := ∀ (H : Hp) (Z : Nat -> Prop) (args : List V), WF H -> (∀ b, Z b -> b < H.nx) -> (∀ b bk, GH.get b = some bk -> Z b /\ H.get b = some bk) -> All2 (RDV Z H nob) ds args ->
 ACalls P G f args H fun v H' => WF H' /\ H.nx <= H'.nx /\ (∀ b, b < H.nx -> H'.get b = H.get b) /\ ∃ d, RDV (fun b => Z b \/ (H.nx <= b /\ b < H'.nx)) H' nob d v /\ R d
theorem DCalls.mono {P : Program} {G : Nat} {GH : Hp} {f : FuncId} {ds : List DV} {R R' : DV -> Prop} (h : DCalls P G GH f ds R) (hr : ∀ d, R d -> R' d) : DCalls P G GH f ds R' := fun H Z args h1 h2 h3 h4 => (h H Z args h1 h2 h3 h4).mono fun _ _ ⟨g1, g2, g3, d, g4, g5⟩ => ⟨g1, g2, g3, d, g4, hr d g5⟩
theorem ACalls.none {P : Program} {G : Nat} {f : FuncId} {args : List V} {H : Hp} {R : V -> Hp -> Prop} (h : ACalls P G f args H R) : ACalls P G f args H fun v H' => R v H' /\ ∀ b, b < H.nx -> H.get b = none -> H'.get b = none := fun μ K w xs hR ha => (h μ K w xs hR ha).mono fun _ _ ⟨x, e, v, H', μ', K', h1, h2, h3, h4⟩ => ⟨x, e, v, H', μ', K', ⟨h1, h4.none⟩, h2, h3, h4⟩
def ros (E : DEnv) : List Opd -> Option (List DV)
 | [] => some []
 | x :: l => match ro E x, ros E l with
  | some d, some r => some (d :: r)
  | _, _ => none
theorem ros_ok {Z : Nat -> Prop} {β : Beta} {H : Hp} {E : DEnv} {F : T V} (h : ER Z β H E F) : ∀ {args : List Opd} {ds : List DV}, ros E args = some ds -> All2 (RDV Z H β) ds (args.map (·.ev F))
 | [], ds, hd => by obtain rfl := Option.some.inj hd; trivial
 | x :: l, ds, hd => by
  simp only [ros] at hd
  split at hd
  ·rename_i d q h1 h2
   obtain rfl := Option.some.inj hd
   exact ⟨ro_ok h h1, ros_ok h h2⟩
  ·cases hd
def rowF (r : List FD) : FD := .sl 1 r.length r
def viewC (S : Bx) : DC -> DC -> Prop
 | .own k o n esz, e => match lk S k with
  | some (.tree rows) => o = 0 /\ n = rows.length /\ esz = 1 /\ e = .f (.sl 1 n (rows.map rowF))
  | _ => ∃ l q, lk S k = some (.data l) /\ subL l o (n * esz) = some q /\ e = .f (.sl esz n q)
 | .trow k i o n, e => ∃ rows r q, lk S k = some (.tree rows) /\ rows[i]? = some r /\ subL r o n = some q /\ e = .f (.sl 1 n q)
 | d, e => frC d = true /\ e = d
def viewV (S : Bx) : DV -> DV -> Prop
 | .one d, e => ∃ x, e = .one x /\ viewC S d x
 | .agg l, e => ∃ m, e = .agg m /\ All2 (viewC S) l m
 | .tup _, _ => False
section
variable {p : Par} {base rs : Nat} {Q : DEnv -> Bx -> Nat -> Prop} {r : List SOper} {W : Wt} {A : List Nat} {E : DEnv} {S : Bx} {nk : Nat} {id : Nat} {dst : Option Nat} {aid : Option Nat} {ws : List Nat} {keep : Bool}
theorem SR.grow {Z : Nat -> Prop} {β : Beta} {H H' : Hp} (hS : SR p Z β H S nk) {Z' : Nat -> Prop} (hz : ∀ b, Z' b ↔ Z b \/ (H.nx <= b /\ Z' b)) (hzz : ∀ b, Z' b -> b < H'.nx) (hw : WF H') (hnx : H.nx <= H'.nx) (hg : ∀ b, b < H.nx -> H'.get b = H.get b) : SR p Z' β H' S nk /\ ZLe Z H Z' H' := by
 have hz1 : ∀ b, Z b -> Z' b := fun b hb => (hz b).2 (.inl hb)
 have hz2 : ∀ b, Z' b -> b < H.nx -> Z b := fun b hb hl => ((hz b).1 hb).elim (fun h => h) fun h => by omega
 have hZ : ZLe Z H Z' H' := ZLe.of_get hz1 fun b hb => hg b (hS.z b hb)
 refine ⟨⟨hw, Nat.le_trans hS.lo hnx, hzz, fun b hb => ?_, fun b hb => hz1 b (hS.zz b hb), fun b bk hb => ?_, hS.nk, fun k b N hk => Nat.lt_of_lt_of_le (hS.bd k b N hk) hnx, fun k x hk => ?_, hS.inj, hS.blo, hS.anch, hS.ancn⟩, hZ⟩
 ·rcases (hz b).1 hb with h|h
  ·exact hS.zlo b h
  ·exact .inr (Nat.le_trans hS.lo h.1)
 ·obtain ⟨h1, h2⟩ := hS.glob b bk hb
  exact ⟨hz1 b h1, by rw [hg b (hS.z b h1)]; exact h2⟩
 ·obtain ⟨s, hs, hbx⟩ := hS.box k x hk
  refine ⟨s, hs, ?_⟩
  cases s with
  | nil => exact hbx
  | blk b N =>
   obtain ⟨h1, h2, h3, cs, rest, h4, h5, h6⟩ := hbx
   exact ⟨fun h => h1 (hz2 b h h3), h2, by omega, cs, rest, h4.same (hg b h3), h5, Bk.rel_mono hZ (BLe.refl _) h6⟩
theorem AR.grow {Z Z' : Nat -> Prop} {β : Beta} {H H' : Hp} (hA : AR p base rs A Z β H) (hz : ∀ b, Z' b ↔ Z b \/ (H.nx <= b /\ Z' b)) (hnx : H.nx <= H'.nx) (hg : ∀ b, b < H.nx -> H'.get b = H.get b) : AR p base rs A Z' β H' := ⟨hA.1, fun j hj hjA => by
 obtain ⟨h1, h2, h3, h4⟩ := hA.2 j hj hjA
 exact ⟨by omega, by rw [hg _ h1]; exact h2, fun h => ((hz _).1 h).elim h3 fun h => by omega, h4⟩⟩
theorem dw_cf {f : FuncId} {args : List Opd} {ds : List DV} {R : DV -> Prop} (hvs : ros E args = some ds) (hf : allB frV ds = true) (hc : DCalls p.P p.G p.GH f ds R) (h : ∀ d, R d -> DPW p base rs Q r W A (setD E dst d) S nk) : DPW p base rs Q (⟨id, dst, .cf f args, none, aid, ws, keep⟩ :: r) W A E S nk := .mk fun Z β H F c hS hE hC hA => by
 simp only [wOps, wantedA, if_true]
 refine (hc H Z _ hS.wf hS.z (fun b bk hb => hS.glob b bk (.inl hb)) (frVL_ok hf (ros_ok hE hvs))).mono ?_
 rintro v H' ⟨hw, hnx, hg, d, hr, hR⟩
 have hz : ∀ b, (Z b \/ (H.nx <= b /\ b < H'.nx)) ↔ Z b \/ (H.nx <= b /\ (Z b \/ (H.nx <= b /\ b < H'.nx))) := fun b => ⟨fun h => h.elim .inl fun h => .inr ⟨h.1, .inr h⟩, fun h => h.elim .inl fun h => h.2⟩
 obtain ⟨hS', hZ⟩ := hS.grow (Z' := fun b => Z b \/ (H.nx <= b /\ b < H'.nx)) hz (fun b hb => hb.elim (fun h => Nat.lt_of_lt_of_le (hS.z b h) hnx) fun h => h.2) hw hnx hg
 have hC' := hC.same hZ (BLe.refl β) hg hS.wf
 exact ⟨hC'.watch ws, (h d hR).run _ β H' _ c hS' ((hE.mono hZ (BLe.refl _)).set dst (hr.mono (ZLe.refl _ _) (nob_le β))) hC' (hA.grow hz hnx hg)⟩
theorem key_loads {Z : Nat -> Prop} {β : Beta} {H : Hp} (hS : SR p Z β H S nk) {κ : Key} {o n esz : Nat} {c : C} (hr : (β κ = some .nil /\ n = 0 /\ o = 0 /\ c = .nils) \/ ∃ b N cap ex, β κ = some (.blk b N) /\ c = .slc b o n cap esz ex /\ n <= cap /\ o + cap * esz <= N) {l q : List FD} (hk : lk2 S κ = some (.data l)) (hq : subL l o (n * esz) = some q) : ∃ cs, All2 (RF Z H) q cs /\ ((c = .nils /\ n = 0 /\ cs = []) \/ ∃ b cap ex N, β κ = some (.blk b N) /\ c = .slc b o n cap esz ex /\ n <= cap /\ H.loads b o (n * esz) = some cs) := by
 obtain ⟨hle, rfl⟩ := subL_some hq
 rcases hr with ⟨_, rfl, rfl, rfl⟩|⟨b, N, cap, ex, hb, rfl, hcap, _⟩
 ·exact ⟨[], by simp; trivial, .inl ⟨rfl, rfl, rfl⟩⟩
 ·obtain ⟨s, hs, hbx⟩ := hS.box κ _ hk
  rw [hb] at hs
  obtain rfl := Option.some.inj hs
  obtain ⟨_, _, _, cs, rest, hrow, hN, hrel⟩ := hbx
  have hN : (cs ++ rest).length = _ := hN
  have hlen := Bk.rel_len hrel
  simp only [Bk.len] at hlen
  refine ⟨(cs.drop o).take (n * esz), (All2.drop hrel o).take _, .inr ⟨b, cap, ex, N, hb, rfl, hcap, ?_⟩⟩
  have h1 : H.loads b (0 + o) (n * esz) = some (((cs ++ rest).drop o).take (n * esz)) := loads_at hrow.2 (by simp; omega)
  rw [Nat.zero_add] at h1
  rw [h1, List.drop_append_of_le_length (by omega), List.take_append_of_le_length (by simp; omega)]
theorem key_frz {Z Z' : Nat -> Prop} {β : Beta} {H : Hp} (hS : SR p Z β H S nk) (hZ : ZLe Z H Z' H) {κ : Key} {o n esz : Nat} {c : C} (hr : (β κ = some .nil /\ n = 0 /\ o = 0 /\ c = .nils) \/ ∃ b N cap ex, β κ = some (.blk b N) /\ c = .slc b o n cap esz ex /\ n <= cap /\ o + cap * esz <= N) {l q : List FD} (hk : lk2 S κ = some (.data l)) (hq : subL l o (n * esz) = some q) (hz : ∀ b N, β κ = some (.blk b N) -> Z' b) : RF Z' H (.sl esz n q) c := by
 have hql : q.length = n * esz := by obtain ⟨h1, rfl⟩ := subL_some hq; simp; omega
 obtain ⟨cs, h1, h2⟩ := key_loads hS hr hk hq
 rcases h2 with ⟨rfl, rfl, rfl⟩|⟨b, cap, ex, N, hb, rfl, hcap, h2⟩
 ·have : q = [] := List.eq_nil_of_length_eq_zero (by simpa using hql)
  subst this
  exact .nil esz
 ·refine .sl (fun _ => hz b N hb) hql hcap h2 fun i d c hd hc => ?_
  obtain ⟨c', hc', hr'⟩ := h1.at i d hd
  rw [hc] at hc'
  obtain rfl := Option.some.inj hc'
  exact RF.mono hZ hr'
theorem lk2_row {k i : Nat} {rows : List (List FD)} {r : List FD} (hk : lk S k = some (.tree rows)) (hi : rows[i]? = some r) : lk2 S (k, i + 1) = some (.data r) := by simp only [lk2, hk, hi]; rfl
theorem tree_frz {Z Z' : Nat -> Prop} {β : Beta} {H : Hp} (hS : SR p Z β H S nk) (hZ : ZLe Z H Z' H) {k : Nat} {rows : List (List FD)} {c : C} (hk : lk S k = some (.tree rows)) (hr : RD Z H β (.own k 0 rows.length 1) c) (hz : ∀ i b N x, lk2 S (k, i) = some x -> β (k, i) = some (.blk b N) -> Z' b) : RF Z' H (.sl 1 rows.length (rows.map rowF)) c := by
 have hk0 : lk2 S (k, 0) = some (.cells (rowsV k 0 rows)) := by simp only [lk2, hk]
 rcases hr with ⟨_, h0, _, rfl⟩|⟨b, N, cap, ex, hb, rfl, hcap, _⟩
 ·have : rows = [] := List.eq_nil_of_length_eq_zero h0
  subst this
  exact .nil 1
 ·obtain ⟨s, hs, hbx⟩ := hS.box (k, 0) _ hk0
  rw [hb] at hs
  obtain rfl := Option.some.inj hs
  obtain ⟨_, _, _, cs, rest, hrow, hN, hrel⟩ := hbx
  have hN : (cs ++ rest).length = _ := hN
  have hlen : (rowsV k 0 rows).length = cs.length := All2.len hrel
  rw [rowsV_len] at hlen
  refine .sl (cs := cs) (fun _ => hz 0 b N _ hk0 hb) (by simp) hcap ?_ fun i d c hd hc => ?_
  ·rw [Nat.mul_one, hlen]
   have := loads_take hrow.2 (m := cs.length) (by simp)
   rw [this, List.take_left]
  ·rw [List.getElem?_map] at hd
   cases hri : rows[i]? with
   | none => rw [hri] at hd; cases hd
   | some r =>
    rw [hri] at hd
    obtain rfl := Option.some.inj hd
    obtain ⟨c', hc', hrr⟩ := All2.at hrel i (.trow k i 0 r.length) (by rw [rowsV_at, hri]; simp)
    rw [hc] at hc'
    obtain rfl := Option.some.inj hc'
    exact key_frz (esz := 1) hS hZ hrr (lk2_row hk hri) (by rw [subL_of (by simp)]; simp) fun b N => hz (i + 1) b N _ (lk2_row hk hri)
theorem viewC_ok {Z : Nat -> Prop} {β : Beta} {H : Hp} (hS : SR p Z β H S nk) {d e : DC} {c : C} (hv : viewC S d e) (hr : RD Z H β d c) : RD (fun b => Z b \/ ∃ (k : Key) (x : Bk) (N : Nat), lk S k.1 = some x /\ β k = some (.blk b N)) H nob e c := by
 have hZ : ZLe Z H (fun b => Z b \/ ∃ (k : Key) (x : Bk) (N : Nat), lk S k.1 = some x /\ β k = some (.blk b N)) H := fun b hb => ⟨.inl hb, fun _ _ h => h⟩
 have key : ∀ d, frC d = true -> e = d -> RD Z H β d c -> RD (fun b => Z b \/ ∃ (k : Key) (x : Bk) (N : Nat), lk S k.1 = some x /\ β k = some (.blk b N)) H nob e c := fun d hf he hr => by
  subst he
  exact frC_ok hf (hr.mono hZ (BLe.refl β))
 cases d with
 | own k o n esz =>
  simp only [viewC] at hv
  split at hv
  rotate_left
  ·obtain ⟨l, q, hk, hq, rfl⟩ := hv
   exact key_frz hS hZ hr (lk2_of hk rfl) hq fun b N hb => .inr ⟨(k, 0), _, N, hk, hb⟩
  ·rename_i rows hk
   obtain ⟨rfl, rfl, rfl, rfl⟩ := hv
   exact tree_frz hS hZ hk hr fun i b N _ _ hb => .inr ⟨(k, i), _, N, hk, hb⟩
 | trow k i o n =>
  obtain ⟨rows, r, q, hk, hri, hq, rfl⟩ := hv
  exact key_frz (esz := 1) hS hZ hr (lk2_row hk hri) (by rw [Nat.mul_one]; exact hq) fun b N hb => .inr ⟨(k, i + 1), _, N, hk, hb⟩
 | f d => exact key _ hv.1 hv.2 hr
 | g b o => exact key _ hv.1 hv.2 hr
 | fptr l => exact key _ hv.1 hv.2 hr
 | _ => cases hv.1
theorem viewCL_ok {Z : Nat -> Prop} {β : Beta} {H : Hp} (hS : SR p Z β H S nk) : ∀ {l m : List DC} {cs : List C}, All2 (viewC S) l m -> All2 (RD Z H β) l cs -> All2 (RD (fun b => Z b \/ ∃ (k : Key) (x : Bk) (N : Nat), lk S k.1 = some x /\ β k = some (.blk b N)) H nob) m cs
 | [], [], [], _, _ => trivial
 | _ :: _, _ :: _, _ :: _, h, hr => ⟨viewC_ok hS h.1 hr.1, viewCL_ok hS h.2 hr.2⟩
 | [], _ :: _, _, h, _ => h.elim
 | _ :: _, [], _, h, _ => h.elim
 | [], [], _ :: _, _, hr => hr.elim
 | _ :: _, _ :: _, [], _, hr => hr.elim
theorem viewV_ok {Z : Nat -> Prop} {β : Beta} {H : Hp} (hS : SR p Z β H S nk) {d e : DV} {v : V} (hv : viewV S d e) (hr : RDV Z H β d v) : RDV (fun b => Z b \/ ∃ (k : Key) (x : Bk) (N : Nat), lk S k.1 = some x /\ β k = some (.blk b N)) H nob e v := by
 cases d with
 | one d => obtain ⟨x, rfl, hv⟩ := hv; obtain ⟨c, rfl, hr⟩ := hr; exact ⟨c, rfl, viewC_ok hS hv hr⟩
 | agg l => obtain ⟨x, rfl, hv⟩ := hv; obtain ⟨c, rfl, hr⟩ := hr; exact ⟨c, rfl, viewCL_ok hS hv hr⟩
 | tup l => exact hv.elim
theorem viewVL_ok {Z : Nat -> Prop} {β : Beta} {H : Hp} (hS : SR p Z β H S nk) : ∀ {l m : List DV} {cs : List V}, All2 (viewV S) l m -> All2 (RDV Z H β) l cs -> All2 (RDV (fun b => Z b \/ ∃ (k : Key) (x : Bk) (N : Nat), lk S k.1 = some x /\ β k = some (.blk b N)) H nob) m cs
 | [], [], [], _, _ => trivial
 | _ :: _, _ :: _, _ :: _, h, hr => ⟨viewV_ok hS h.1 hr.1, viewVL_ok hS h.2 hr.2⟩
 | [], _ :: _, _, h, _ => h.elim
 | _ :: _, [], _, h, _ => h.elim
 | [], [], _ :: _, _, hr => hr.elim
 | _ :: _, _ :: _, [], _, hr => hr.elim
theorem dw_cfo {f : FuncId} {args : List Opd} {vs ds : List DV} {R : DV -> Prop} (hvs : ros E args = some vs) (hf : All2 (viewV S) vs ds) (hc : DCalls p.P p.G p.GH f ds R) (hcl : ∀ d, R d -> clV d = true) (h : ∀ d, R d -> DPW p base rs Q r W A (setD E dst d) S nk) : DPW p base rs Q (⟨id, dst, .cf f args, none, aid, ws, keep⟩ :: r) W A E S nk := .mk fun Z β H F c hS hE hC hA => by
 simp only [wOps, wantedA, if_true]
 refine (hc H _ _ hS.wf (fun b hb => hb.elim (hS.z b) fun ⟨k, x, N, _, h2⟩ => hS.bd k b N h2) (fun b bk hb => ⟨.inl (hS.glob b bk (.inl hb)).1, (hS.glob b bk (.inl hb)).2⟩) (viewVL_ok hS hf (ros_ok hE hvs))).mono ?_
 rintro v H' ⟨hw, hnx, hg, d, hr, hR⟩
 have hz : ∀ b, Z b ↔ Z b \/ (H.nx <= b /\ Z b) := fun b => ⟨.inl, fun h => h.elim (fun h => h) fun h => h.2⟩
 obtain ⟨hS', hZ⟩ := hS.grow hz (fun b h => Nat.lt_of_lt_of_le (hS.z b h) hnx) hw hnx hg
 have hC' := hC.same hZ (BLe.refl β) hg hS.wf
 exact ⟨hC'.watch ws, (h d hR).run _ β H' _ c hS' ((hE.mono hZ (BLe.refl _)).set dst (clV_ok (hcl d hR) hr)) hC' (hA.grow hz hnx hg)⟩
end
def fzC (k : Nat) (l : List FD) : DC -> DC
 | .own j o n e => match Nat.beq j k with
  | true => .f (.sl e n l)
  | false => .own j o n e
 | .trow j i o n => match Nat.beq j k with
  | true => .any
  | false => .trow j i o n
 | d => d
def okC (k : Nat) (ok : Nat -> Nat -> Nat -> Prop) : DC -> Prop
 | .own j o n e => match Nat.beq j k with
  | true => ok o n e
  | false => True
 | _ => True
def okL (k : Nat) (ok : Nat -> Nat -> Nat -> Prop) : List DC -> Prop
 | [] => True
 | d :: r => okC k ok d /\ okL k ok r
def okW (l : List FD) (o n e : Nat) : Prop := o = 0 /\ l.length = n * e
def fzV (k : Nat) (l : List FD) : DV -> DV
 | .one d => .one (fzC k l d)
 | .agg m => .agg (m.map (fzC k l))
 | .tup m => .tup m
def okV (k : Nat) (ok : Nat -> Nat -> Nat -> Prop) : DV -> Prop
 | .one d => okC k ok d
 | .agg m => okL k ok m
 | .tup _ => True
def fzB (k : Nat) (l : List FD) : Bk -> Bk
 | .cells m => .cells (m.map (fzC k l))
 | .data m => .data m
 | .tree rows => .tree rows
 | .mp ks m => .mp ks (m.map (fzC k l))
 | .mt es => .mt (mtMap (fzC k l) es)
def okM (k : Nat) (ok : Nat -> Nat -> Nat -> Prop) : List (Int × ME) -> Prop
 | [] => True
 | (_, .row _) :: es => okM k ok es
 | (_, .out c) :: es => okC k ok c /\ okM k ok es
def okB (k : Nat) (ok : Nat -> Nat -> Nat -> Prop) : Bk -> Prop
 | .cells m => okL k ok m
 | .data _ => True
 | .tree _ => True
 | .mp _ m => okL k ok m
 | .mt es => okM k ok es
def mapS {α : Type} (f : α -> α) : List (Nat × α) -> List (Nat × α)
 | [] => []
 | (k, x) :: r => (k, f x) :: mapS f r
def okS {α : Type} (f : α -> Prop) : List (Nat × α) -> Prop
 | [] => True
 | (_, x) :: r => f x /\ okS f r
theorem lk_mapS {α : Type} (f : α -> α) (n : Nat) : ∀ E : List (Nat × α), lk (mapS f E) n = (lk E n).map f
 | [] => rfl
 | (k, x) :: r => by
  simp only [mapS, lk_cons]
  split
  ·rfl
  ·exact lk_mapS f n r
theorem okS_lk {α : Type} {f : α -> Prop} {n : Nat} {x : α} : ∀ {E : List (Nat × α)}, okS f E -> lk E n = some x -> f x
 | [], _, h => by cases h
 | (k, y) :: r, ho, h => by
  rw [lk_cons] at h
  split at h
  ·obtain rfl := Option.some.inj h; exact ho.1
  ·exact okS_lk ho.2 h
section
variable {p : Par} {base rs : Nat} {Q : DEnv -> Bx -> Nat -> Prop} {W : Wt} {A : List Nat} {E : DEnv} {S : Bx} {nk : Nat}
theorem fzC_row {k : Nat} {l : List FD} {j : Nat} (hj : j ≠ k) : ∀ (i : Nat) (rows : List (List FD)), (rowsV j i rows).map (fzC k l) = rowsV j i rows
 | _, [] => rfl
 | i, r :: rs => by simp only [rowsV, List.map_cons, fzC_row hj (i + 1) rs, fzC, beq_ne hj]
theorem lk2_fz {k : Nat} {l : List FD} {S : Bx} {κ : Key} {y : Bk} (hy : lk2 (mapS (fzB k l) (era k S)) κ = some y) : κ.1 ≠ k /\ ∃ x, lk2 S κ = some x /\ y = fzB k l x := by
 obtain ⟨z, hz⟩ := lk2_lk hy
 rw [lk_mapS, lk_era] at hz
 split at hz
 ·cases hz
 ·rename_i hne
  refine ⟨hne, ?_⟩
  cases hl : lk S κ.1 with
  | none => rw [hl] at hz; cases hz
  | some x =>
   have hlk : lk (mapS (fzB k l) (era k S)) κ.1 = some (fzB k l x) := by rw [lk_mapS, lk_era, if_neg hne, hl]; rfl
   obtain ⟨j, i⟩ := κ
   simp only at hl hlk hne
   cases i with
   | zero =>
    simp only [lk2, hl]
    simp only [lk2, hlk] at hy
    cases x with
    | cells m => exact ⟨_, rfl, (Option.some.inj hy).symm⟩
    | data m => exact ⟨_, rfl, (Option.some.inj hy).symm⟩
    | tree rows => refine ⟨_, rfl, ?_⟩; rw [<- Option.some.inj hy]; simp only [fzB, fzC_row hne]
    | mp ks m => exact ⟨_, rfl, (Option.some.inj hy).symm⟩
    | mt es => refine ⟨_, rfl, ?_⟩; rw [<- Option.some.inj hy]; simp only [fzB]; rw [mtV_map (fzC k l) j j (fun _ => rfl) (fun i n => by simp only [fzC, beq_ne hne])]
   | succ i =>
    simp only [lk2, hl]
    simp only [lk2, hlk] at hy
    cases x with
    | cells m => cases hy
    | data m => cases hy
    | tree rows =>
     cases hr : rows[i]? with
     | none => simp only [fzB, hr] at hy; cases hy
     | some r => simp only [fzB, hr] at hy; exact ⟨.data r, by simp only [hr]; rfl, (Option.some.inj hy).symm⟩
    | mp ks m => cases hy
    | mt es =>
     simp only [fzB, mtRow_map] at hy
     obtain ⟨y', r, h1, rfl⟩ := mtRow_at hy
     exact ⟨.data r, by simp only [h1, mtRow], rfl⟩
theorem okL_rows {k : Nat} {ok : Nat -> Nat -> Nat -> Prop} (j : Nat) : ∀ (i : Nat) (rows : List (List FD)), okL k ok (rowsV j i rows)
 | _, [] => trivial
 | i, _ :: rs => ⟨trivial, okL_rows j (i + 1) rs⟩
theorem okL_mt {k : Nat} {ok : Nat -> Nat -> Nat -> Prop} (j : Nat) : ∀ (i : Nat) (es : List (Int × ME)), okM k ok es -> okL k ok (mtV j i es)
 | _, [], _ => trivial
 | i, (_, .row _) :: es, h => ⟨trivial, trivial, okL_mt j (i + 1) es h⟩
 | i, (_, .out _) :: es, h => ⟨trivial, h.1, okL_mt j (i + 1) es h.2⟩
theorem lk2_okB {k : Nat} {ok : Nat -> Nat -> Nat -> Prop} {S : Bx} {κ : Key} {z : Bk} (hlk : ∀ {n : Nat} {x : Bk}, lk S n = some x -> okB k ok x) (hz : lk2 S κ = some z) : okB k ok z := by
 obtain ⟨j, i⟩ := κ
 obtain ⟨x, hx⟩ := lk2_lk hz
 have ho := hlk hx
 cases i with
 | zero =>
  simp only [lk2] at hz hx
  rw [hx] at hz
  cases x with
  | cells m => obtain rfl := Option.some.inj hz; exact ho
  | data m => obtain rfl := Option.some.inj hz; exact ho
  | tree rows => obtain rfl := Option.some.inj hz; exact okL_rows j 0 rows
  | mp ks m => obtain rfl := Option.some.inj hz; exact ho
  | mt es => obtain rfl := Option.some.inj hz; exact okL_mt j 0 es ho
 | succ i =>
  simp only [lk2] at hz hx
  rw [hx] at hz
  cases x with
  | cells m => cases hz
  | data m => cases hz
  | tree rows =>
   cases hr : rows[i]? with
   | none => simp only [hr] at hz; cases hz
   | some r => simp only [hr] at hz; obtain rfl := Option.some.inj hz; trivial
  | mp ks m => cases hz
  | mt es => obtain ⟨_, r, _, rfl⟩ := mtRow_at hz; trivial
theorem fzB_shape (k : Nat) (l : List FD) (x : Bk) : (fzB k l x).shape = x.shape := by cases x <;> rfl
theorem SR.lo2 {Z : Nat -> Prop} {β : Beta} {H : Hp} (hS : SR p Z β H S nk) {κ : Key} {x : Bk} {b N : Nat} (hk : lk2 S κ = some x) (hb : β κ = some (.blk b N)) : p.lo <= b := by
 obtain ⟨s, hs, hbx⟩ := hS.box κ x hk
 rw [hb] at hs
 obtain rfl := Option.some.inj hs
 exact hbx.2.1
theorem frz_core {Z : Nat -> Prop} {β : Beta} {H : Hp} {F : T V} (hS : SR p Z β H S nk) (hE : ER Z β H E F) {k : Nat} {x : Bk} {l : List FD} {ok : Nat -> Nat -> Nat -> Prop} (hk : lk S k = some x)
  (hall : ∀ {Z'}, ZLe Z H Z' H -> (∀ i b N x, lk2 S (k, i) = some x -> β (k, i) = some (.blk b N) -> Z' b) -> ∀ o n e c, ok o n e -> RD Z H β (.own k o n e) c -> RF Z' H (.sl e n l) c) (hoE : okS (okV k ok) E) (hoS : okS (okB k ok) S) :
  ∃ Z', SR p Z' β H (mapS (fzB k l) (era k S)) nk /\ ER Z' β H (mapS (fzV k l) E) F /\ ZLe Z H Z' H /\ ∀ b, Z' b ↔ Z b \/ ∃ i N x, lk2 S (k, i) = some x /\ β (k, i) = some (.blk b N) := by
 have hZ : ZLe Z H (fun b => Z b \/ ∃ i N x, lk2 S (k, i) = some x /\ β (k, i) = some (.blk b N)) H := fun b hb => ⟨.inl hb, fun _ _ h => h⟩
 have hC : ∀ d c, okC k ok d -> RD Z H β d c -> RD (fun b => Z b \/ ∃ i N x, lk2 S (k, i) = some x /\ β (k, i) = some (.blk b N)) H β (fzC k l d) c := fun d c ho hr => by
  cases d with
  | own j o n e =>
   simp only [fzC, okC] at ho ⊢
   by_cases hj : j = k
   ·subst hj
    rw [beq_self] at ho ⊢
    exact hall hZ (fun i b N x hx hb => .inr ⟨i, N, x, hx, hb⟩) o n e c ho hr
   ·rw [beq_ne hj]
    simp only
    exact hr.mono hZ (BLe.refl β)
  | trow j i o n =>
   simp only [fzC]
   by_cases hj : j = k
   ·subst hj; rw [beq_self]; trivial
   ·rw [beq_ne hj]; exact hr
  | f d => exact RD.mono (d := .f d) hZ (BLe.refl β) hr
  | g b o => exact hr
  | ptr j o => exact hr
  | tptr j i o => exact hr
  | fptr q => exact RD.mono (d := .fptr q) hZ (BLe.refl β) hr
  | fn f caps => exact hr
  | any => trivial
  | om j => exact hr
  | yl j => exact hr
 have hL : ∀ {m : List DC} {cs : List C}, okL k ok m -> All2 (RD Z H β) m cs -> All2 (RD (fun b => Z b \/ ∃ i N x, lk2 S (k, i) = some x /\ β (k, i) = some (.blk b N)) H β) (m.map (fzC k l)) cs := by
  intro m
  induction m with
  | nil => intro cs _ h; cases cs with
   | nil => trivial
   | cons _ _ => exact h.elim
  | cons d m ih => intro cs ho h; cases cs with
   | nil => exact h.elim
   | cons c cs => exact ⟨hC d c ho.1 h.1, ih ho.2 h.2⟩
 refine ⟨fun b => Z b \/ ∃ i N x, lk2 S (k, i) = some x /\ β (k, i) = some (.blk b N), ⟨hS.wf, hS.lo, fun b hb => hb.elim (hS.z b) fun ⟨i, N, _, _, h⟩ => hS.bd _ b N h, fun b hb => ?_, fun b hb => .inl (hS.zz b hb), fun b bk hb => ⟨.inl (hS.glob b bk hb).1, (hS.glob b bk hb).2⟩, hS.nk, hS.bd, fun j y hj => ?_, fun j j' y y' b N N' hj hj' h1 h2 => ?_, hS.blo, hS.anch, hS.ancn⟩, fun n d hd => ?_, hZ, fun b => Iff.rfl⟩
 ·rcases hb with hb|⟨i, N, x, hx, hb⟩
  ·exact hS.zlo b hb
  ·exact .inr (hS.lo2 hx hb)
 ·obtain ⟨hne, z, hz, rfl⟩ := lk2_fz hj
  obtain ⟨s, hs, hbx⟩ := hS.box j z hz
  obtain ⟨w, hw⟩ := lk2_lk hz
  refine ⟨s, hs, ?_⟩
  cases s with
  | nil => cases z <;> simpa [BoxR, fzB, Bk.len, mtMap] using hbx
  | blk b N =>
   obtain ⟨h1, h2, h3, cs, rest, h4, h5, h6⟩ := hbx
   have hoz := lk2_okB (fun hx => okS_lk hoS hx) hz
   refine ⟨fun h => h.elim h1 fun ⟨i, M, _, _, hM⟩ => hne (by rw [hS.inj j (k, i) w _ b N M hw hk hs hM]), h2, h3, cs, rest, by rw [fzB_shape]; exact h4, by rw [fzB_shape]; exact h5, ?_⟩
   cases z with
   | cells m => exact hL hoz h6
   | data m => exact All2.mono (fun _ _ => RF.mono hZ) h6
   | tree m => exact h6.elim
   | mp ks m => exact hL hoz h6
   | mt es => exact h6.elim
 ·have f : ∀ (κ : Key) w, lk (mapS (fzB k l) (era k S)) κ.1 = some w -> ∃ z, lk S κ.1 = some z := fun κ w hw => by
   rw [lk_mapS, lk_era] at hw
   split at hw
   ·cases hw
   ·cases e : lk S κ.1 with
    | none => rw [e] at hw; cases hw
    | some z => exact ⟨z, rfl⟩
  obtain ⟨z1, e1⟩ := f j y hj
  obtain ⟨z2, e2⟩ := f j' y' hj'
  exact hS.inj j j' z1 z2 b N N' e1 e2 h1 h2
 ·rw [lk_mapS] at hd
  cases hl : lk E n with
  | none => rw [hl] at hd; cases hd
  | some y =>
   rw [hl] at hd
   obtain rfl := Option.some.inj hd
   obtain ⟨v, hv, hr⟩ := hE n y hl
   refine ⟨v, hv, ?_⟩
   have hoy := okS_lk hoE hl
   cases y with
   | one d => obtain ⟨c, rfl, hr⟩ := hr; exact ⟨c, rfl, hC d c hoy hr⟩
   | agg m => obtain ⟨c, rfl, hr⟩ := hr; exact ⟨c, rfl, hL hoy hr⟩
   | tup m => exact RDV.mono (d := .tup m) hZ (BLe.refl β) hr
theorem frz_ok {Z : Nat -> Prop} {β : Beta} {H : Hp} {F : T V} (hS : SR p Z β H S nk) (hE : ER Z β H E F) {k : Nat} {l : List FD} (hk : lk S k = some (.data l)) (hoE : okS (okV k (okW l)) E) (hoS : okS (okB k (okW l)) S) :
  ∃ Z', SR p Z' β H (mapS (fzB k l) (era k S)) nk /\ ER Z' β H (mapS (fzV k l) E) F /\ ZLe Z H Z' H /\ ∀ b, Z' b ↔ Z b \/ ∃ i N x, lk2 S (k, i) = some x /\ β (k, i) = some (.blk b N) :=
 frz_core hS hE hk (fun {Z'} hZ hz o n e c ho hr => key_frz hS hZ hr (lk2_of hk rfl) (by obtain ⟨rfl, h⟩ := ho; rw [subL_of (by omega), List.drop_zero, List.take_of_length_le (by omega)]) fun b N => hz 0 b N _ (lk2_of hk rfl)) hoE hoS
theorem dw_frz {l : List SOper} (k : Nat) {m : List FD} (hk : lk S k = some (.data m)) (hoE : okS (okV k (okW m)) E) (hoS : okS (okB k (okW m)) S) (h : DPW p base rs Q l W A (mapS (fzV k m) E) (mapS (fzB k m) (era k S)) nk) : DPW p base rs Q l W A E S nk := .mk fun Z β H F c hS hE hC hA => by
 obtain ⟨Z', hS', hE', hZ, hz⟩ := frz_ok hS hE hk hoE hoS
 refine h.run Z' β H F c hS' hE' (hC.step hZ (BLe.refl β) fun _ _ _ _ _ _ _ _ _ _ _ _ _ h => h) ⟨hA.1, fun j hj hjA => ?_⟩
 obtain ⟨h1, h2, h3, h4⟩ := hA.2 j hj hjA
 exact ⟨h1, h2, fun h => ((hz _).1 h).elim h3 fun ⟨i, N, _, _, hN⟩ => h4 _ N hN, h4⟩
end
end Go.Ab

namespace Go.Ab
structure DPS (p : Par) (n : Nat) (s : SC) (Q : Exit -> DEnv -> Bx -> Nat -> Prop) (E : DEnv) (S : Bx) (nk : Nat) : Prop where
 run : ∀ Z β H F, SR p Z β H S nk -> ER Z β H E F -> SWPr p.ρ p.P p.G n s (fun e F' H' => ∃ E' S' nk' Z' β', SR p Z' β' H' S' nk' /\ ER Z' β' H' E' F' /\ Q e E' S' nk') F H
def thenD (next : DEnv -> Bx -> Nat -> Prop) (Q : Exit -> DEnv -> Bx -> Nat -> Prop) : Exit -> DEnv -> Bx -> Nat -> Prop
 | .normal, E, S, nk => next E S nk
 | e, E, S, nk => Q e E S nk
def blockD (id : Nat) (Q : Exit -> DEnv -> Bx -> Nat -> Prop) : Exit -> DEnv -> Bx -> Nat -> Prop
 | .exit id', E, S, nk => match Nat.beq id' id with
  | true => Q .normal E S nk
  | false => Q (.exit id') E S nk
 | e, E, S, nk => Q e E S nk
def rn (ρ : List (Nat × Nat)) (k : Nat) : Nat := match lk ρ k with
 | some j => j
 | none => k
def rnP (ρ : List (Nat × Nat)) : List (Nat × Nat) -> List (Nat × Nat)
 | [] => []
 | (k, o) :: r => (rn ρ k, o) :: rnP ρ r
def rnC (ρ : List (Nat × Nat)) : DC -> DC
 | .ptr k o => .ptr (rn ρ k) o
 | .tptr k i o => .tptr (rn ρ k) i o
 | .trow k i o n => .trow (rn ρ k) i o n
 | .own k o n e => .own (rn ρ k) o n e
 | .om k => .om (rn ρ k)
 | .yl k => .yl (rn ρ k)
 | .fn f caps => .fn f (rnP ρ caps)
 | d => d
def rnL (ρ : List (Nat × Nat)) : List DC -> List DC
 | [] => []
 | d :: l => rnC ρ d :: rnL ρ l
def rnV (ρ : List (Nat × Nat)) : DV -> DV
 | .one d => .one (rnC ρ d)
 | .agg l => .agg (rnL ρ l)
 | .tup l => .tup l
def rnB (ρ : List (Nat × Nat)) : Bk -> Bk
 | .cells l => .cells (rnL ρ l)
 | .data l => .data l
 | .tree l => .tree l
 | .mp ks l => .mp ks (rnL ρ l)
 | .mt es => .mt (mtMap (rnC ρ) es)
theorem rnL_map (ρ : List (Nat × Nat)) : ∀ l : List DC, rnL ρ l = l.map (rnC ρ)
 | [] => rfl
 | d :: l => by simp only [rnL, List.map_cons, rnL_map ρ l]
theorem rnB_shape (ρ : List (Nat × Nat)) (x : Bk) : (rnB ρ x).shape = x.shape := by cases x <;> rfl
def smP (n : Nat) : List (Nat × Nat) -> Bool
 | [] => true
 | (k, _) :: r => match Nat.blt k n with
  | true => smP n r
  | false => false
def smC (n : Nat) : DC -> Bool
 | .ptr k _ => Nat.blt k n
 | .tptr k _ _ => Nat.blt k n
 | .trow k _ _ _ => Nat.blt k n
 | .own k _ _ _ => Nat.blt k n
 | .om k => Nat.blt k n
 | .yl k => Nat.blt k n
 | .fn _ caps => smP n caps
 | _ => true
def smV (n : Nat) : DV -> Bool
 | .one d => smC n d
 | .agg l => allB (smC n) l
 | .tup l => allB fr1 l
def smM (n : Nat) : List (Int × ME) -> Bool
 | [] => true
 | (_, .row _) :: es => smM n es
 | (_, .out c) :: es => match smC n c with
  | true => smM n es
  | false => false
def smB (n : Nat) : Bk -> Bool
 | .cells l => allB (smC n) l
 | .data _ => true
 | .tree _ => true
 | .mp _ l => allB (smC n) l
 | .mt es => smM n es
def WkE (ρ : List (Nat × Nat)) (n0 : Nat) (E : DEnv) : DEnv -> Prop
 | [] => True
 | (t, v) :: r => lk E t = some (rnV ρ v) /\ smV n0 v = true /\ WkE ρ n0 E r
def WkS (ρ : List (Nat × Nat)) (n0 : Nat) (S : Bx) : Bx -> Prop
 | [] => True
 | (k, x) :: r => lk S (rn ρ k) = some (rnB ρ x) /\ smB n0 x = true /\ Nat.blt k n0 = true /\ WkS ρ n0 S r
def injB (ρ : List (Nat × Nat)) : Bx -> List Nat -> Bool
 | [], _ => true
 | (k, _) :: r, seen => match seen.elem (rn ρ k) with
  | true => false
  | false => injB ρ r (rn ρ k :: seen)
def rnBeta (ρ : List (Nat × Nat)) (n0 : Nat) (β : Beta) : Beta := fun κ => if κ.1 < n0 then β (rn ρ κ.1, κ.2) else none
def ancOk (n0 : Nat) (ρ : List (Nat × Nat)) : Nat -> Bool
 | 0 => true
 | a + 1 => match Nat.ble (a + 1) n0 with
  | true => allB (fun q => Nat.ble (a + 1) q.1) ρ
  | false => false
theorem ancOk_n {n0 : Nat} {ρ : List (Nat × Nat)} {a : Nat} (h : ancOk n0 ρ a = true) : a <= n0 := by
 cases a with
 | zero => omega
 | succ a =>
  simp only [ancOk] at h
  split at h
  ·rename_i e; exact Nat.le_of_ble_eq_true e
  ·cases h
theorem ancOk_rn {n0 k : Nat} {ρ : List (Nat × Nat)} {a : Nat} (h : ancOk n0 ρ a = true) (hk : k < a) : rn ρ k = k := by
 cases a with
 | zero => omega
 | succ a =>
  simp only [ancOk] at h
  split at h
  ·unfold rn
   cases hl : lk ρ k with
   | none => rfl
   | some j =>
    exfalso
    have key : ∀ l : List (Nat × Nat), allB (fun q => Nat.ble (a + 1) q.1) l = true -> lk l k = some j -> False := by
     intro l
     induction l with
     | nil => intro _ h; cases h
     | cons q l ih =>
      intro ha hl
      have h1 := allB_mem ha q (by simp)
      have h1' := Nat.le_of_ble_eq_true h1
      have h2 : allB (fun q : Nat × Nat => Nat.ble (a + 1) q.1) l = true := by simp only [allB, h1] at ha; exact ha
      obtain ⟨q1, q2⟩ := q
      rw [lk_cons] at hl
      split at hl
      ·simp only at h1'; omega
      ·exact ih h2 hl
    exact key ρ h hl
  ·cases h
structure Wk (p : Par) (ρ : List (Nat × Nat)) (n0 : Nat) (E0 : DEnv) (S0 : Bx) (E : DEnv) (S : Bx) : Prop where
 e : WkE ρ n0 E E0
 s : WkS ρ n0 S S0
 i : injB ρ S0 [] = true
 a : ancOk n0 ρ p.anc = true
theorem WkE.at {ρ : List (Nat × Nat)} {n0 : Nat} {E : DEnv} {t : Nat} {v : DV} : ∀ {E0 : DEnv}, WkE ρ n0 E E0 -> lk E0 t = some v -> lk E t = some (rnV ρ v) /\ smV n0 v = true
 | [], _, h => by cases h
 | (t', v') :: r, hw, h => by
  rw [lk_cons] at h
  split at h
  ·rename_i e; subst e; obtain rfl := Option.some.inj h; exact ⟨hw.1, hw.2.1⟩
  ·exact WkE.at hw.2.2 h
theorem WkS.at {ρ : List (Nat × Nat)} {n0 : Nat} {S : Bx} {k : Nat} {x : Bk} : ∀ {S0 : Bx}, WkS ρ n0 S S0 -> lk S0 k = some x -> lk S (rn ρ k) = some (rnB ρ x) /\ smB n0 x = true /\ k < n0
 | [], _, h => by cases h
 | (t', v') :: r, hw, h => by
  rw [lk_cons] at h
  split at h
  ·rename_i e; subst e; obtain rfl := Option.some.inj h; exact ⟨hw.1, hw.2.1, Nat.le_of_ble_eq_true hw.2.2.1⟩
  ·exact WkS.at hw.2.2.2 h
theorem inj_seen {ρ : List (Nat × Nat)} {k : Nat} {x : Bk} : ∀ {S0 : Bx} {seen : List Nat}, injB ρ S0 seen = true -> lk S0 k = some x -> rn ρ k ∉ seen
 | [], _, _, h => by cases h
 | (j, y) :: r, seen, hi, h => by
  simp only [injB] at hi
  split at hi
  ·cases hi
  ·rename_i e
   rw [lk_cons] at h
   split at h
   ·rename_i ej; subst ej
    exact fun hm => by rw [List.elem_eq_true_of_mem hm] at e; cases e
   ·exact fun hm => inj_seen hi h (by simp [hm])
theorem inj_ok {ρ : List (Nat × Nat)} {k k' : Nat} {x x' : Bk} : ∀ {S0 : Bx} {seen : List Nat}, injB ρ S0 seen = true -> lk S0 k = some x -> lk S0 k' = some x' -> rn ρ k = rn ρ k' -> k = k'
 | [], _, _, h, _, _ => by cases h
 | (j, y) :: r, seen, hi, h, h', e => by
  simp only [injB] at hi
  split at hi
  ·cases hi
  ·rw [lk_cons] at h h'
   split at h
   ·rename_i ej; subst ej
    split at h'
    ·rename_i ej; exact ej
    ·exact absurd (by simp [e]) (inj_seen hi h')
   ·split at h'
    ·rename_i ej; subst ej
     exact absurd (by simp [e]) (inj_seen hi h)
    ·exact inj_ok hi h h' e
theorem rnL_rows (ρ : List (Nat × Nat)) (k : Nat) : ∀ (i : Nat) (rows : List (List FD)), rnL ρ (rowsV k i rows) = rowsV (rn ρ k) i rows
 | _, [] => rfl
 | i, r :: rs => by simp only [rowsV, rnL, rnC, rnL_rows ρ k (i + 1) rs]
theorem smL_rows {n k : Nat} (h : k < n) : ∀ (i : Nat) (rows : List (List FD)), allB (smC n) (rowsV k i rows) = true
 | _, [] => rfl
 | i, r :: rs => by
  have : Nat.blt k n = true := Nat.ble_eq_true_of_le h
  simp only [rowsV, allB, smC, this, smL_rows h (i + 1) rs]
theorem smL_mt {n k : Nat} (h : k < n) : ∀ (i : Nat) (es : List (Int × ME)), smM n es = true -> allB (smC n) (mtV k i es) = true
 | _, [], _ => rfl
 | i, (_, .row r) :: es, hs => by
  have : Nat.blt k n = true := Nat.ble_eq_true_of_le h
  simp only [mtV, allB, smC, this, smL_mt h (i + 1) es hs]
 | i, (_, .out c) :: es, hs => by
  simp only [smM] at hs
  split at hs
  ·rename_i hc
   have e0 : ∀ y : Int, smC n (.f (.c (.int .i64 y))) = true := fun _ => rfl
   simp only [mtV, allB, e0, hc, smL_mt h (i + 1) es hs]
  ·cases hs
section
variable {p : Par} {E E0 : DEnv} {S S0 : Bx} {nk n0 : Nat} {ρ : List (Nat × Nat)}
theorem wk_ok2 {Z : Nat -> Prop} {β : Beta} {H : Hp} {F : T V} (hS : SR p Z β H S nk) (hE : ER Z β H E F) (hw : Wk p ρ n0 E0 S0 E S) : SR p Z (rnBeta ρ n0 β) H S0 n0 /\ ER Z (rnBeta ρ n0 β) H E0 F := by
 have hb0 : ∀ k i, k < n0 -> rnBeta ρ n0 β (k, i) = β (rn ρ k, i) := fun k i hk => by simp [rnBeta, hk]
 have hP : ∀ {l l' : List (Nat × Nat)}, smP n0 l = true -> capsR β (rnP ρ l) l' -> capsR (rnBeta ρ n0 β) l l' := by
  intro l
  induction l with
  | nil => intro l' _ h; cases l' with
   | nil => trivial
   | cons _ _ => exact h.elim
  | cons q l ih =>
   obtain ⟨k, o⟩ := q
   intro l' hs h
   simp only [smP] at hs
   split at hs
   ·rename_i hk
    cases l' with
    | nil => exact h.elim
    | cons q' l' =>
     obtain ⟨b, o'⟩ := q'
     exact ⟨h.1, by obtain ⟨N, hN⟩ := h.2.1; exact ⟨N, by rw [hb0 k 0 (Nat.le_of_ble_eq_true hk)]; exact hN⟩, ih hs h.2.2⟩
   ·cases hs
 have hC : ∀ d c, smC n0 d = true -> RD Z H β (rnC ρ d) c -> RD Z H (rnBeta ρ n0 β) d c := fun d c hs hr => by
  cases d with
  | ptr k o => obtain ⟨b, N, h1, h2⟩ := hr; exact ⟨b, N, by rw [hb0 k 0 (Nat.le_of_ble_eq_true hs)]; exact h1, h2⟩
  | tptr k i o => obtain ⟨b, N, h1, h2⟩ := hr; exact ⟨b, N, by rw [hb0 k (i + 1) (Nat.le_of_ble_eq_true hs)]; exact h1, h2⟩
  | trow k i o n =>
   have hk := Nat.le_of_ble_eq_true hs
   rcases hr with ⟨h1, h2⟩|⟨b, N, cap, ex, h1, h2⟩
   ·exact .inl ⟨by rw [hb0 k (i + 1) hk]; exact h1, h2⟩
   ·exact .inr ⟨b, N, cap, ex, by rw [hb0 k (i + 1) hk]; exact h1, h2⟩
  | own k o n e =>
   have hk := Nat.le_of_ble_eq_true hs
   rcases hr with ⟨h1, h2⟩|⟨b, N, cap, ex, h1, h2⟩
   ·exact .inl ⟨by rw [hb0 k 0 hk]; exact h1, h2⟩
   ·exact .inr ⟨b, N, cap, ex, by rw [hb0 k 0 hk]; exact h1, h2⟩
  | om k => obtain ⟨b, N, h1, h2⟩ := hr; exact ⟨b, N, by rw [hb0 k 0 (Nat.le_of_ble_eq_true hs)]; exact h1, h2⟩
  | yl k => obtain ⟨b, N, h1, h2⟩ := hr; exact ⟨b, N, by rw [hb0 k 0 (Nat.le_of_ble_eq_true hs)]; exact h1, h2⟩
  | fn f caps => obtain ⟨l', h1, h2⟩ := hr; exact ⟨l', h1, hP hs h2⟩
  | _ => exact hr
 have hL : ∀ {l : List DC} {cs : List C}, allB (smC n0) l = true -> All2 (RD Z H β) (rnL ρ l) cs -> All2 (RD Z H (rnBeta ρ n0 β)) l cs := by
  intro l
  induction l with
  | nil => intro cs _ h; cases cs with
   | nil => trivial
   | cons _ _ => exact h.elim
  | cons d l ih => intro cs ho h; cases cs with
   | nil => exact h.elim
   | cons c cs =>
    have h1 := allB_mem ho d (by simp)
    have h2 : allB (smC n0) l = true := by simp only [allB, h1] at ho; exact ho
    exact ⟨hC d c h1 h.1, ih h2 h.2⟩
 refine ⟨⟨hS.wf, hS.lo, hS.z, hS.zlo, hS.zz, hS.glob, fun k hk => by simp [rnBeta]; omega, fun k b N hk => ?_, fun k x hk => ?_, fun k k' x x' b N N' hk hk' h1 h2 => ?_, fun k b N hk => ?_, fun κ hκ hz0 => by rw [hb0 κ.1 κ.2 (Nat.lt_of_lt_of_le hκ (ancOk_n hw.a)), ancOk_rn hw.a hκ]; exact hS.anch κ hκ hz0, ancOk_n hw.a⟩, fun t v ht => ?_⟩
 ·by_cases hkn : k.1 < n0
  ·rw [hb0 k.1 k.2 hkn] at hk; exact hS.bd _ b N hk
  ·simp [rnBeta, hkn] at hk
 ·obtain ⟨y, hy⟩ := lk2_lk hk
  obtain ⟨h1, h2, h3⟩ := hw.s.at hy
  obtain ⟨j, i⟩ := k
  have hk2 : lk2 S (rn ρ j, i) = some (rnB ρ x) := by
   simp only at hy h1
   cases i with
   | zero =>
    simp only [lk2, hy] at hk
    simp only [lk2, h1]
    cases y with
    | tree rows => obtain rfl := Option.some.inj hk; simp only [rnB, rnL_rows]
    | mp ks l => obtain rfl := Option.some.inj hk; rfl
    | mt es => obtain rfl := Option.some.inj hk; simp only [rnB, rnL_map]; rw [mtV_map (rnC ρ) j (rn ρ j) (fun _ => rfl) (fun _ _ => rfl)]
    | cells l => obtain rfl := Option.some.inj hk; rfl
    | data l => obtain rfl := Option.some.inj hk; rfl
   | succ i =>
    simp only [lk2, hy] at hk
    simp only [lk2, h1]
    cases y with
    | tree rows =>
     cases hr : rows[i]? with
     | none => simp only [hr] at hk; cases hk
     | some r => simp only [hr] at hk; obtain rfl := Option.some.inj hk; simp only [rnB, hr]; rfl
    | mp ks l => cases hk
    | mt es =>
     obtain ⟨y', r, e1, rfl⟩ := mtRow_at hk
     show mtRow (mtMap (rnC ρ) es)[i]? = _
     rw [mtRow_map, e1]; rfl
    | cells l => cases hk
    | data l => cases hk
  have hsm : smB n0 x = true := by
   simp only at hy
   cases i with
   | zero =>
    simp only [lk2, hy] at hk
    cases y with
    | tree rows => obtain rfl := Option.some.inj hk; exact smL_rows h3 0 rows
    | mp ks l => obtain rfl := Option.some.inj hk; exact h2
    | mt es => obtain rfl := Option.some.inj hk; exact smL_mt h3 0 es h2
    | cells l => obtain rfl := Option.some.inj hk; exact h2
    | data l => obtain rfl := Option.some.inj hk; exact h2
   | succ i =>
    simp only [lk2, hy] at hk
    cases y with
    | tree rows =>
     cases hr : rows[i]? with
     | none => simp only [hr] at hk; cases hk
     | some r => simp only [hr] at hk; obtain rfl := Option.some.inj hk; rfl
    | mp ks l => cases hk
    | mt es => obtain ⟨y', r, e1, rfl⟩ := mtRow_at hk; rfl
    | cells l => cases hk
    | data l => cases hk
  obtain ⟨s, hs, hbx⟩ := hS.box _ _ hk2
  refine ⟨s, by rw [hb0 j i h3]; exact hs, ?_⟩
  cases s with
  | nil => cases x with
   | cells l => cases l with
    | nil => rfl
    | cons _ _ => cases hbx
   | data l => exact hbx
   | tree l => exact hbx
   | mp ks l => cases l with
    | nil => rfl
    | cons _ _ => cases hbx
   | mt es => cases es with
    | nil => rfl
    | cons _ _ => cases hbx
  | blk b N =>
   obtain ⟨g1, g2, g3, cs, rest, g4, g5, g6⟩ := hbx
   refine ⟨g1, g2, g3, cs, rest, by rw [rnB_shape] at g4; exact g4, by rw [rnB_shape] at g5; exact g5, ?_⟩
   cases x with
   | cells l => exact hL hsm g6
   | data l => exact g6
   | tree l => exact g6
   | mp ks l => exact hL hsm g6
   | mt es => exact g6
 ·have k1 := (hw.s.at hk).2.2
  have k2 := (hw.s.at hk').2.2
  obtain ⟨k, i⟩ := k
  obtain ⟨k', i'⟩ := k'
  simp only at k1 k2 hk hk'
  rw [hb0 k i k1] at h1
  rw [hb0 k' i' k2] at h2
  have := hS.inj (rn ρ k, i) (rn ρ k', i') _ _ b N N' (hw.s.at hk).1 (hw.s.at hk').1 h1 h2
  obtain ⟨e1, rfl⟩ := Prod.mk.inj this
  rw [inj_ok hw.i hk hk' e1]
 ·by_cases hkn : k.1 < n0
  ·rw [hb0 k.1 k.2 hkn] at hk; exact hS.blo _ b N hk
  ·simp [rnBeta, hkn] at hk
 ·obtain ⟨h1, h2⟩ := hw.e.at ht
  obtain ⟨v', hv', hr⟩ := hE t _ h1
  refine ⟨v', hv', ?_⟩
  cases v with
  | one d => obtain ⟨c, rfl, hr⟩ := hr; exact ⟨c, rfl, hC d c h2 hr⟩
  | agg l => obtain ⟨c, rfl, hr⟩ := hr; exact ⟨c, rfl, hL h2 hr⟩
  | tup l => obtain ⟨c, rfl, hr⟩ := hr; exact ⟨c, rfl, fr1L_ok h2 hr⟩
theorem wk_ok {Z : Nat -> Prop} {β : Beta} {H : Hp} {F : T V} (hS : SR p Z β H S nk) (hE : ER Z β H E F) (hw : Wk p ρ n0 E0 S0 E S) : ∃ β0, SR p Z β0 H S0 n0 /\ ER Z β0 H E0 F := ⟨_, wk_ok2 hS hE hw⟩
end
section
variable {p : Par} {n : Nat} {Q : Exit -> DEnv -> Bx -> Nat -> Prop} {E : DEnv} {S : Bx} {nk : Nat}
theorem ds_wk {s : SC} {E0 : DEnv} {S0 : Bx} {n0 : Nat} (ρ : List (Nat × Nat)) (hw : Wk p ρ n0 E0 S0 E S) (h : DPS p n s Q E0 S0 n0) : DPS p n s Q E S nk := .mk fun Z β H F hS hE => by
 obtain ⟨β0, h1, h2⟩ := wk_ok hS hE hw
 exact h.run Z β0 H F h1 h2
theorem ds_frz {s : SC} (k : Nat) {m : List FD} (hk : lk S k = some (.data m)) (hoE : okS (okV k (okW m)) E) (hoS : okS (okB k (okW m)) S) (h : DPS p n s Q (mapS (fzV k m) E) (mapS (fzB k m) (era k S)) nk) : DPS p n s Q E S nk := .mk fun Z β H F hS hE => by
 obtain ⟨Z', hS', hE', _, _⟩ := frz_ok hS hE hk hoE hoS
 exact h.run Z' β H F hS' hE'
theorem ds_skip (h : Q .normal E S nk) : DPS p n .skip Q E S nk := .mk fun Z β H F hS hE => swp_skip ⟨E, S, nk, Z, β, hS, hE, h⟩
theorem ds_exit {id : Nat} (h : Q (.exit id) E S nk) : DPS p n (.exit id) Q E S nk := .mk fun Z β H F hS hE => swp_exit ⟨E, S, nk, Z, β, hS, hE, h⟩
theorem ds_ret (h : Q .ret E S nk) : DPS p n .ret Q E S nk := .mk fun Z β H F hS hE => swp_ret ⟨E, S, nk, Z, β, hS, hE, h⟩
theorem ds_ops (hm : p.P.follows .mixedOrders = true) {l : List SOper} {rs : Nat} (h : ∀ base, DPW p base rs (Q .normal) l [] [] E S nk) : DPS p n (.ops l rs) Q E S nk := .mk fun Z β H F hS hE => by
 refine swp_ops hm ((h H.nx).run Z β (H.skip rs) F [] ?_ (ER.mono (H := H) (H' := H.skip rs) (ZLe.of_get (fun _ h => h) fun _ _ => rfl) (BLe.refl β) hE) (fun x hx => by cases hx) ⟨hS.lo, fun j hj _ => ⟨by simp; omega, hS.wf.fresh (by omega), fun hz => absurd (hS.z _ hz) (by omega), fun k N hk => absurd (hS.bd k _ N hk) (by omega)⟩⟩)
 exact ⟨hS.wf.skip rs, by simp; have := hS.lo; omega, fun b hb => by simp; have := hS.z b hb; omega, hS.zlo, hS.zz, hS.glob, hS.nk, fun k b N hk => by simp; have := hS.bd k b N hk; omega, fun k x hk => by
  obtain ⟨s, hs, hbx⟩ := hS.box k x hk
  exact ⟨s, hs, BoxR.mono (H := H) (H' := H.skip rs) (BLe.refl β) (by simp) (fun _ _ => rfl) hbx⟩, hS.inj, hS.blo, hS.anch, hS.ancn⟩
theorem ds_seq {a b : SC} (h : DPS p n a (thenD (DPS p n b Q) Q) E S nk) : DPS p n (.seq a b) Q E S nk := .mk fun Z β H F hS hE => swp_seq (swp_mono (h.run Z β H F hS hE) fun e F' H' ⟨E', S', nk', Z', β', h1, h2, h3⟩ => by
 cases e with
 | normal => exact h3.run Z' β' H' F' h1 h2
 | _ => exact ⟨E', S', nk', Z', β', h1, h2, h3⟩)
theorem ds_if {d : Opd} {a b : SC} {t : Bool} (ht : ro E d = some (.bool t)) (h1 : t = true -> DPS p n a Q E S nk) (h2 : t = false -> DPS p n b Q E S nk) : DPS p n (.cond d a b) Q E S nk := .mk fun Z β H F hS hE => by
 refine swp_cond (t := t) (int_of hE ht) ?_
 cases t with
 | true => exact (h1 rfl).run Z β H F hS hE
 | false => exact (h2 rfl).run Z β H F hS hE
theorem ds_block {id : Nat} {a : SC} (h : DPS p n a (blockD id Q) E S nk) : DPS p n (.block id a) Q E S nk := .mk fun Z β H F hS hE => swp_block (swp_mono (h.run Z β H F hS hE) fun e F' H' ⟨E', S', nk', Z', β', h1, h2, h3⟩ => by
 cases e with
 | exit id' =>
  simp only [blockD] at h3
  simp only [blockQ]
  by_cases e : id' = id
  ·subst e; rw [beq_self] at h3; rw [if_pos rfl]; exact ⟨E', S', nk', Z', β', h1, h2, h3⟩
  ·rw [beq_ne e] at h3; rw [if_neg e]; exact ⟨E', S', nk', Z', β', h1, h2, h3⟩
 | _ => exact ⟨E', S', nk', Z', β', h1, h2, h3⟩)
theorem ds_loop {a : SC} (I : Nat -> DEnv -> Bx -> Nat -> Prop) (h0 : ∃ m E0 S0 n0 ρ, Wk p ρ n0 E0 S0 E S /\ I m E0 S0 n0) (round : ∀ m E S nk, I m E S nk -> DPS p n a (thenD (fun E' S' _ => ∃ m', m' < m /\ ∃ E0 S0 n0 ρ, Wk p ρ n0 E0 S0 E' S' /\ I m' E0 S0 n0) Q) E S nk) : DPS p n (.loop a) Q E S nk := .mk fun Z β H F hS hE => by
 obtain ⟨m, E0, S0, n0, ρ, hw, hI⟩ := h0
 obtain ⟨β0, g1, g2⟩ := wk_ok hS hE hw
 refine swp_loop (fun m F H => ∃ E S nk Z β, SR p Z β H S nk /\ ER Z β H E F /\ I m E S nk) (m := m) ⟨E0, S0, n0, Z, β0, g1, g2, hI⟩ ?_
 rintro m F H ⟨E, S, nk, Z, β, hS, hE, hI⟩
 refine swp_mono ((round m E S nk hI).run Z β H F hS hE) fun e F' H' ⟨E', S', nk', Z', β', h1, h2, h3⟩ => ?_
 cases e with
 | normal =>
  obtain ⟨m', hm', E1, S1, n1, ρ1, hw1, hI1⟩ := h3
  obtain ⟨β1, g1, g2⟩ := wk_ok h1 h2 hw1
  exact ⟨m', hm', E1, S1, n1, Z', β1, g1, g2, hI1⟩
 | _ => exact ⟨E', S', nk', Z', β', h1, h2, h3⟩
theorem ds_virt {s : SC} (t esz : Nat) (ht : lk E t = some (.one (.f (.c .nils)))) (h : DPS p n s Q ((t, .one (.own nk 0 0 esz)) :: E) ((nk, .data []) :: S) (nk + 1)) : DPS p n s Q E S nk := .mk fun Z β H F hS hE => by
 refine h.run Z _ H F (virt_ok hS) fun k d hd => ?_
 rw [lk_cons] at hd
 split at hd
 ·rename_i e; subst e
  obtain rfl := Option.some.inj hd
  obtain ⟨v, hv, c, rfl, hr⟩ := hE _ _ ht
  cases hr
  exact ⟨_, hv, _, rfl, .inl ⟨updB_self _ _ _, rfl, rfl, rfl⟩⟩
 ·exact hE.mono (ZLe.refl Z H) (hS.ble .nil) k d hd
theorem ds_nil {s : SC} (t esz : Nat) (ht : lk E t = some (.one (.f (.c .nils)))) (h : DPS p n s Q ((t, .one (.f (.sl esz 0 []))) :: E) S nk) : DPS p n s Q E S nk := .mk fun Z β H F hS hE => by
 refine h.run Z β H F hS fun k d hd => ?_
 rw [lk_cons] at hd
 split at hd
 ·rename_i e; subst e
  obtain rfl := Option.some.inj hd
  obtain ⟨v, hv, c, rfl, hr⟩ := hE _ _ ht
  cases hr
  exact ⟨_, hv, _, rfl, RF.nil esz⟩
 ·exact hE k d hd
end
def argsD : List DV -> Nat -> DEnv
 | [], _ => []
 | d :: l, i => (i, d) :: argsD l (i + 1)
theorem argsD_ok {Z : Nat -> Prop} {β : Beta} {H : Hp} : ∀ {ds : List DV} {args : List V} (i : Nat), All2 (RDV Z H β) ds args -> ER Z β H (argsD ds i) (initF args i)
 | [], [], _, _ => fun _ _ h => by cases h
 | d :: ds, v :: args, i, h => fun n x hx => by
  simp only [argsD, lk_cons] at hx
  simp only [initF, T.get_set]
  split at hx
  ·rename_i e; subst e; rw [if_pos rfl]; obtain rfl := Option.some.inj hx; exact ⟨v, rfl, h.1⟩
  ·rename_i e; rw [if_neg (fun h => e h.symm)]; exact argsD_ok (i + 1) h.2 n x hx
 | [], _ :: _, _, h => h.elim
 | _ :: _, [], _, h => h.elim
def resD (p : Par) (E : DEnv) (S : Bx) : SRes -> Option DV
 | .t n => lk E n
 | .cell agg k n => dLoad p E S agg k (.t n)
def resDL (p : Par) (E : DEnv) (S : Bx) : List SRes -> Option (List DV)
 | [] => some []
 | r :: l => match resD p E S r, resDL p E S l with
  | some d, some ds => some (d :: ds)
  | _, _ => none
def resultD (p : Par) (E : DEnv) (S : Bx) (rs : List SRes) : Option DV := match resDL p E S rs with
 | some [.one c] => some (.one c)
 | some [.agg l] => some (.agg l)
 | some [.tup _] => none
 | some ds => some (.tup ds)
 | none => none
def isOneD : DV -> Bool
 | .tup _ => false
 | _ => true
section
variable {p : Par} {E : DEnv} {S : Bx} {nk : Nat}
theorem resD_ok {Z : Nat -> Prop} {β : Beta} {H : Hp} {F : T V} (hS : SR p Z β H S nk) (hE : ER Z β H E F) {r : SRes} {d : DV} (h : resD p E S r = some d) : ∃ v, aRes F H r = some v /\ RDV Z H β d v := by
 cases r with
 | t n => obtain ⟨v, hv, hr⟩ := hE n d h; exact ⟨v, by simp [aRes, hv], hr⟩
 | cell agg k n => obtain ⟨v, hv, hr, _⟩ := dLoad_ok hS hE h; exact ⟨v, hv, RDV.of1 hr⟩
theorem fr_one {Z : Nat -> Prop} {β : Beta} {H : Hp} {d : DV} {v : V} (hr : RDV Z H β d v) (hd : fr1 d = true) : isOne v = true /\ RDV1 Z H β d v := by
 cases d with
 | one d => obtain ⟨c, rfl, hr⟩ := hr; exact ⟨rfl, c, rfl, hr⟩
 | agg l => obtain ⟨c, rfl, hr⟩ := hr; exact ⟨rfl, c, rfl, hr⟩
 | tup l => cases hd
theorem resDL_ok {Z : Nat -> Prop} {β : Beta} {H : Hp} {F : T V} (hS : SR p Z β H S nk) (hE : ER Z β H E F) : ∀ {l : List SRes} {ds : List DV}, resDL p E S l = some ds -> allB fr1 ds = true -> ∃ vs, aResL F H l = some vs /\ All2 (RDV1 Z H β) ds vs
 | [], ds, h, _ => by obtain rfl := Option.some.inj h; exact ⟨[], rfl, trivial⟩
 | r :: l, ds, h, hf => by
  simp only [resDL] at h
  split at h
  ·rename_i d q h1 h2
   obtain rfl := Option.some.inj h
   have f1 := allB_mem hf d (by simp)
   have f2 : allB fr1 q = true := by simp only [allB, f1] at hf; exact hf
   obtain ⟨v, e1, e2⟩ := resD_ok hS hE h1
   obtain ⟨vs, e3, e4⟩ := resDL_ok hS hE h2 f2
   obtain ⟨o1, o2⟩ := fr_one e2 f1
   exact ⟨v :: vs, by simp only [aResL, e1, e3, o1, if_true], o2, e4⟩
  ·cases h
theorem resultD_ok {Z : Nat -> Prop} {β : Beta} {H : Hp} {F : T V} (hS : SR p Z β H S nk) (hE : ER Z β H E F) {rs : List SRes} {d : DV} (h : resultD p E S rs = some d) (hf : frV d = true) : ∃ v, aResult F H rs = some v /\ RDV Z H nob d v := by
 unfold resultD at h
 have one : ∀ d', resDL p E S rs = some [d'] -> fr1 d' = true -> ∃ v, aResult F H rs = some v /\ RDV Z H nob d' v := fun d' hd' hf' => by
  obtain ⟨vs, h1, h2⟩ := resDL_ok hS hE hd' (by simp [allB, hf'])
  match vs, h1, h2 with
  | [v], h1, h2 => exact ⟨v, by simp only [aResult, h1], RDV.of1 (fr1_ok hf' h2.1)⟩
 split at h
 ·rename_i c hd'
  obtain rfl := Option.some.inj h
  exact one _ hd' hf
 ·rename_i l hd'
  obtain rfl := Option.some.inj h
  exact one _ hd' hf
 ·cases h
 ·rename_i ds hn1 hn2 hn3 hds
  obtain rfl := Option.some.inj h
  obtain ⟨vs, h1, h2⟩ := resDL_ok hS hE hds hf
  refine ⟨.tup vs, ?_, vs, rfl, fr1L_ok hf h2⟩
  have hl := h2.len
  unfold aResult
  rw [h1]
  match vs, hl with
  | [], _ => rfl
  | [v], hl =>
   match ds, hl with
   | [.one d], _ => exact (hn1 d rfl).elim
   | [.agg d], _ => exact (hn2 d rfl).elim
   | [.tup d], _ => exact (hn3 d rfl).elim
  | _ :: _ :: _, _ => rfl
 ·cases h
end
def retD (p : Par) (rs : List SRes) (R : DV -> Prop) : Exit -> DEnv -> Bx -> Nat -> Prop
 | .normal, E, S, _ => ∃ d, resultD p E S rs = some d /\ frV d = true /\ R d
 | .ret, E, S, _ => ∃ d, resultD p E S rs = some d /\ frV d = true /\ R d
 | _, _, _, _ => False
theorem dfn_ok {P : Program} {G : Nat} {GH : Hp} {f : FuncId} {sf : SFn} (hf : cpFn P G f = some sf) {ds : List DV} {R : DV -> Prop} (hn : Nat.ble ds.length sf.n = true) (hG : ∀ b bk, GH.get b = some bk -> bk.ro = some bk) (h : ∀ Z0 lo, DPS (Par.base P G GH Z0 lo) sf.n sf.code (retD (Par.base P G GH Z0 lo) sf.res R) (argsD ds 0) [] 0) : DCalls P G GH f ds R := by
 intro H Z args hw hz hg ha
 have hro : ACalls P G f args H.ro fun v H1 => WF H1 /\ H.nx <= H1.nx /\ ∃ d Z1, (∀ b, Z1 b -> Z b \/ H.nx <= b) /\ (∀ b, Z1 b -> b < H1.nx) /\ RDV Z1 H1 nob d v /\ R d := by
  have hwr : WF H.ro := fun b bk hb => by
   rw [Hp.get_ro, Option.bind_eq_some_iff] at hb
   obtain ⟨x, hx, _⟩ := hb
   exact hw b x hx
  refine (fn_ok hf (by rw [<- ha.len]; exact Nat.le_of_ble_eq_true hn) ?_)
  have hS : SR (Par.base P G GH Z H.nx) Z nob H.ro [] 0 := ⟨hwr, Nat.le_refl _, hz, fun b hb => .inl hb, fun b hb => hb, fun b bk hb => (by rcases hb with hb|⟨_, hb⟩; exact ⟨(hg b bk hb).1, by rw [Hp.get_ro, (hg b bk hb).2]; exact hG b bk hb⟩; cases hb), fun _ _ => rfl, fun _ _ _ hk => (by cases hk), fun κ x hk => (by obtain ⟨y, hy⟩ := lk2_lk hk; cases hy), fun _ _ _ _ _ _ _ hk => (by cases hk), fun _ _ _ hk => (by cases hk), fun _ _ _ => rfl, Nat.le_refl _⟩
  have hE : ER Z nob H.ro (argsD ds 0) (initF args 0) := argsD_ok 0 (ha.mono fun _ _ hr => RDV.mono (ZLe.of_le (fun _ h => h) (Le.ro H)) (BLe.refl nob) hr)
  refine swp_mono ((h Z H.nx).run Z nob H.ro _ hS hE) fun e F' H' ⟨E', S', nk', Z', β', h1, h2, h3⟩ => ?_
  have fin : (∃ d, resultD (Par.base P G GH Z H.nx) E' S' sf.res = some d /\ frV d = true /\ R d) -> ∃ v, aResult F' H' sf.res = some v /\ WF H' /\ H.nx <= H'.nx /\ ∃ d Z1, (∀ b, Z1 b -> Z b \/ H.nx <= b) /\ (∀ b, Z1 b -> b < H'.nx) /\ RDV Z1 H' nob d v /\ R d := fun ⟨d, hd, hfr, hR⟩ => by
   obtain ⟨v, hv, hr⟩ := resultD_ok h1 h2 hd hfr
   exact ⟨v, hv, h1.wf, h1.lo, d, Z', h1.zlo, h1.z, hr, hR⟩
  cases e with
  | normal => obtain ⟨v, hv, hr⟩ := fin h3; simp only [retQ, hv]; exact hr
  | ret => obtain ⟨v, hv, hr⟩ := fin h3; simp only [retQ, hv]; exact hr
  | _ => exact h3.elim
 refine (ACalls.none (ACalls.wf (ACalls.grow hro))).mono ?_
 rintro v H' ⟨⟨⟨H1, ⟨w1, n1, d, Z1, z1, z2, hr, hR⟩, e1, e2, e3, e4, e5⟩, hw'⟩, hno⟩
 have hnx : H'.nx = H1.nx := by rw [e1]; rfl
 refine ⟨hw', by omega, fun b hb => ?_, d, hr.mono (ZLe.of_le (fun b hb => ?_) e5) (BLe.refl nob), hR⟩
 ·cases hgb : H.get b with
  | none => exact hno b hb hgb
  | some bk => exact e3 b bk hgb
 ·rcases z1 b hb with h|h
  ·exact .inl h
  ·exact .inr ⟨h, by rw [hnx]; exact z2 b hb⟩
end Go.Ab

namespace Go.Ab
def SubA {α : Type} (E0 E : List (Nat × α)) : Prop := ∀ k v, lk E0 k = some v -> lk E k = some v
theorem SubA.nil {α : Type} (E : List (Nat × α)) : SubA [] E := fun _ _ h => by cases h
theorem SubA.refl {α : Type} (E : List (Nat × α)) : SubA E E := fun _ _ h => h
theorem SubA.cons {α : Type} {E0 E : List (Nat × α)} {k : Nat} {v : α} (h : lk E k = some v) (hr : SubA E0 E) : SubA ((k, v) :: E0) E := fun n x hx => by
 rw [lk_cons] at hx
 split at hx
 ·rename_i e; subst e; rw [h]; exact hx
 ·exact hr n x hx
section
variable {p : Par} {n : Nat} {Q : Exit -> DEnv -> Bx -> Nat -> Prop} {E E0 : DEnv} {S S0 : Bx} {nk : Nat}
theorem keep_ok {Z : Nat -> Prop} {β : Beta} {H : Hp} {F : T V} (hS : SR p Z β H S nk) (hE : ER Z β H E F) (h1 : SubA E0 E) (h2 : SubA S0 S) : SR p Z β H S0 nk /\ ER Z β H E0 F :=
 ⟨hS.keepS h2, fun t d ht => hE t d (h1 t d ht)⟩
theorem ds_keep {s : SC} (h1 : SubA E0 E) (h2 : SubA S0 S) (h : DPS p n s Q E0 S0 nk) : DPS p n s Q E S nk := .mk fun Z β H F hS hE => by
 obtain ⟨g1, g2⟩ := keep_ok hS hE h1 h2
 exact h.run Z β H F g1 g2
end
section
variable {p : Par} {base rs : Nat} {Q : DEnv -> Bx -> Nat -> Prop} {l : List SOper} {W : Wt} {A : List Nat} {E E0 : DEnv} {S S0 : Bx} {nk : Nat}
theorem dw_keep (h1 : SubA E0 E) (h2 : SubA S0 S) (h : DPW p base rs Q l W A E0 S0 nk) : DPW p base rs Q l W A E S nk := .mk fun Z β H F c hS hE hC hA => by
 obtain ⟨g1, g2⟩ := keep_ok hS hE h1 h2
 exact h.run Z β H F c g1 g2 hC hA
end
section
variable {p : Par} {base rs : Nat} {Q : DEnv -> Bx -> Nat -> Prop} {r : List SOper} {W : Wt} {A : List Nat} {E : DEnv} {S : Bx} {nk : Nat} {id : Nat} {dst : Option Nat} {aid : Option Nat} {ws : List Nat} {keep : Bool}
theorem dw_pB {op : PureOp} {t b : Bool} (hd : dPure E op = some (.bool t)) (ht : t = b) (h : DPW p base rs Q r W A (setD E dst (.bool b)) S nk) : DPW p base rs Q (⟨id, dst, .p op, none, aid, ws, keep⟩ :: r) W A E S nk := dw_p hd (ht ▸ h)
end
theorem dwrap {n : Int} (h1 : -9223372036854775808 <= n) (h2 : n < 9223372036854775808) : IntKind.i64.wrap n = n := by
 simp [IntKind.wrap, IntKind.signed, IntKind.bits]
 split <;> omega
theorem exVL_ok {Z : Nat -> Prop} {H : Hp} {β : Beta} : ∀ {ds : List DV} {vs args : List V}, All2 (fun d v => exV d = some v) ds vs -> All2 (RDV Z H β) ds args -> args = vs
 | [], [], [], _, _ => rfl
 | _ :: _, _ :: _, _ :: _, h, hr => by rw [exV_ok h.1 hr.1, exVL_ok h.2 hr.2]
 | [], _ :: _, _, h, _ => h.elim
 | _ :: _, [], _, h, _ => h.elim
 | [], [], _ :: _, _, hr => hr.elim
 | _ :: _, _ :: _, [], _, hr => hr.elim
theorem DCalls.of_pure {P : Program} {G : Nat} {GH : Hp} {f : FuncId} {ds : List DV} {vs : List V} {c : C} (hex : All2 (fun d v => exV d = some v) ds vs) (hc : c.closed = true) (h : ∀ H, (∀ b bk, GH.get b = some bk -> H.get b = some bk) -> ACalls P G f vs H fun v H' => v = .one c /\ H' = H) : DCalls P G GH f ds fun d => d = .one (.f (.c c)) := fun H Z args hw hz hg ha => by
 rw [exVL_ok hex ha]
 refine (h H fun b bk hb => (hg b bk hb).2).mono ?_
 rintro v H' ⟨rfl, rfl⟩
 exact ⟨hw, Nat.le_refl _, fun _ _ => rfl, _, exact_ok hc, rfl⟩
end Go.Ab

namespace Go.Ab
theorem oM {P : Prop} (h : P := by omega) : P := h
theorem aM {P : Prop} (h : P := by assumption) : P := h
theorem cgI {n : Int} (h1 : -9223372036854775808 ≤ n) (h2 : n < 9223372036854775808) : some (DV.int (IntKind.i64.wrap n)) = some (DV.int n) := congrArg (fun z => some (DV.int z)) (dwrap h1 h2)
theorem cgD {x y : List FD} (h : x = y) : some (Bk.data x) = some (Bk.data y) := congrArg (fun z => some (Bk.data z)) h
theorem wkA {P : Prop} (h : P := by exact ⟨by repeat (first | exact trivial | refine ⟨by first | rfl | exact cgI (by omega) (by omega), rfl, ?_⟩), by repeat (first | exact trivial | refine ⟨by first | rfl | exact cgD (by assumption), rfl, rfl, ?_⟩), rfl, rfl⟩) : P := h
theorem okZ {P : Prop} (h : P := by repeat' (first | exact trivial | rfl | assumption | refine ⟨?_, ?_⟩)) : P := h
theorem dgA {P : Prop} (h : P := by first | exact fun _ => rfl | exact fun h => (by simp only [if_pos h]; rfl) | exact fun h => (by simp only [h, if_true, if_false]; rfl)) : P := h
end Go.Ab
