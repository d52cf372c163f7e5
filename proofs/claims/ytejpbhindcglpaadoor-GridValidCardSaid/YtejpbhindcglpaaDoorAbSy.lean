/- Words for symbolic evaluation: heaps that grow, and what slices hold. -/
import Derived.Test.YtejpbhindcglpaaDoorAbZ
namespace Go.Ab

theorem Hp.skip_zero (H : Hp) : H.skip 0 = H := rfl

/-- H' has all that H has -/
structure Ext (H H' : Hp) : Prop where
  get : ∀ b bk, H.get b = some bk → H'.get b = some bk
  nx : H.nx ≤ H'.nx

theorem Ext.refl (H : Hp) : Ext H H := ⟨fun _ _ h => h, Nat.le_refl _⟩
theorem Ext.trans {H H' H'' : Hp} (h : Ext H H') (k : Ext H' H'') : Ext H H'' := ⟨fun b bk hb => k.get b bk (h.get b bk hb), Nat.le_trans h.nx k.nx⟩
theorem Ext.push {H H' : Hp} (hw : WF H') (h : Ext H H') (bk : B) : Ext H (H'.push bk) :=
  ⟨fun b k hb => by rw [Hp.get_push, if_neg (by have := hw b k (h.get b k hb); omega)]; exact h.get b k hb, by have := h.nx; simp; omega⟩
theorem Ext.add {H H' : Hp} (h : Ext H H') {b : Nat} (hn : H.get b = none) (bk : B) : Ext H (H'.add b bk) :=
  ⟨fun c k hc => by rw [Hp.get_add, if_neg (fun e => by subst e; rw [hn] at hc; cases hc)]; exact h.get c k hc, h.nx⟩
theorem Ext.skip {H H' : Hp} (h : Ext H H') (n : Nat) : Ext H (H'.skip n) := ⟨h.get, by have := h.nx; simp; omega⟩

theorem Ext.cell {H H' : Hp} (h : Ext H H') {b i : Nat} {c : C} (hc : H.cell b i = some c) : H'.cell b i = some c := by
  unfold Hp.cell at hc ⊢
  cases hb : H.get b with
  | none => simp [hb] at hc
  | some bk => rw [h.get b bk hb]; simpa [hb] using hc
theorem Ext.loads {H H' : Hp} (h : Ext H H') : ∀ {n b o : Nat} {l : List C}, H.loads b o n = some l → H'.loads b o n = some l
  | 0, _, _, _, hl => hl
  | n + 1, b, o, l, hl => by
    simp only [Hp.loads] at hl ⊢
    cases hc : H.cell b o with
    | none => simp [hc] at hl
    | some c =>
      simp only [hc] at hl
      simp only [h.cell hc]
      cases hr : H.loads b (o + 1) n with
      | none => simp [hr] at hl
      | some r => simp only [hr] at hl; simp only [h.loads hr]; exact hl

theorem WF.push {H : Hp} (h : WF H) (bk : B) : WF (H.push bk) := fun b k hb => by
  rw [Hp.get_push] at hb
  split at hb
  · rename_i e; simp; omega
  · have := h b k hb; simp; omega
theorem WF.skip {H : Hp} (h : WF H) (n : Nat) : WF (H.skip n) := fun b k hb => by have := h b k hb; simp; omega
theorem WF.fresh {H : Hp} (h : WF H) {b : Nat} (hb : H.nx ≤ b) : H.get b = none := by
  cases hg : H.get b with
  | none => rfl
  | some k => have := h b k hg; omega

/-- a part of the cells -/
theorem loads_drop {H : Hp} {b : Nat} : ∀ {m o n : Nat} {l : List C}, H.loads b o n = some l → m ≤ n → H.loads b (o + m) (n - m) = some (l.drop m)
  | 0, o, n, l, h, _ => by simpa using h
  | m + 1, o, 0, l, h, hm => by omega
  | m + 1, o, n + 1, l, h, hm => by
    simp only [Hp.loads] at h
    split at h
    · cases h
    · split at h
      · cases h
      · rename_i c _ l' hl'
        obtain rfl := Option.some.inj h
        have := loads_drop (m := m) hl' (by omega)
        rw [show o + (m + 1) = o + 1 + m by omega, show n + 1 - (m + 1) = n - m by omega]
        simpa using this
theorem loads_take {H : Hp} {b : Nat} : ∀ {m o n : Nat} {l : List C}, H.loads b o n = some l → m ≤ n → H.loads b o m = some (l.take m)
  | 0, o, n, l, h, _ => by simp [Hp.loads]
  | m + 1, o, 0, l, h, hm => by omega
  | m + 1, o, n + 1, l, h, hm => by
    simp only [Hp.loads] at h ⊢
    split at h
    · cases h
    · rename_i c hc
      split at h
      · cases h
      · rename_i l' hl'
        obtain rfl := Option.some.inj h
        simp [loads_take (m := m) hl' (by omega)]
theorem loads_at {H : Hp} {b o n i k : Nat} {l : List C} (h : H.loads b o n = some l) (hk : i + k ≤ n) : H.loads b (o + i) k = some ((l.drop i).take k) :=
  loads_take (loads_drop h (by omega)) (by omega)
theorem loads_cell {H : Hp} {b o n i : Nat} {l : List C} (h : H.loads b o n = some l) (hi : i < n) : H.cell b (o + i) = l[i]? := by
  have := loads_at (i := i) (k := 1) h (by omega)
  simp only [Hp.loads] at this
  cases hc : H.cell b (o + i) with
  | none => simp [hc] at this
  | some c =>
    simp only [hc, Option.some.injEq] at this
    have hl : i < l.length := by rw [loads_len h]; exact hi
    have h2 : (List.take 1 (List.drop i l))[0]? = some l[i] := by rw [List.drop_eq_getElem_cons hl]; simp
    rw [← this] at h2
    simp at h2
    rw [List.getElem?_eq_getElem hl, h2]

/-- a row that was just made reads as its list -/
theorem loads_row {H : Hp} {b : Nat} {cs : List C} {rw : Bool} (h : H.get b = some (.row cs.length cs .lf rw)) : H.loads b 0 cs.length = some cs := by
  have key : ∀ (m o : Nat), o + m = cs.length → H.loads b o m = some (cs.drop o) := by
    intro m
    induction m with
    | zero => intro o ho; simp only [Hp.loads]; rw [List.drop_of_length_le (by omega)]
    | succ m ih =>
      intro o ho
      have hlt : o < cs.length := by omega
      have hc : H.cell b o = some cs[o] := by
        simp only [Hp.cell, h, Option.bind_some, B.cell, hlt, if_true, T.get_lf, Option.getD_none, Nat.mod_eq_of_lt hlt]
        simp [List.getD_eq_getElem?_getD, hlt]
      simp only [Hp.loads, hc, ih (o + 1) (by omega)]
      rw [List.drop_eq_getElem_cons hlt]
  simpa using key cs.length 0 (by omega)

/-- THE SLICE v HAS n ELEMENTS OF esz CELLS, WHICH ARE l. -/
def Sl (H : Hp) (esz n : Nat) (l : List C) (v : V) : Prop := l.length = n * esz ∧ ((v = .one .nils ∧ n = 0) ∨ ∃ b o cap ex, v = .one (.slc b o n cap esz ex) ∧ H.loads b o (n * esz) = some l)

theorem Sl.ext {H H' : Hp} {esz n : Nat} {l : List C} {v : V} (h : Sl H esz n l v) (he : Ext H H') : Sl H' esz n l v := by
  refine ⟨h.1, ?_⟩
  rcases h.2 with h | ⟨b, o, cap, ex, hv, hl⟩
  · exact .inl h
  · exact .inr ⟨b, o, cap, ex, hv, he.loads hl⟩
theorem Sl.len {H : Hp} {esz n : Nat} {l : List C} {v : V} (h : Sl H esz n l v) : lenV v = some (.one (.int .i64 n)) := by
  rcases h.2 with ⟨rfl, rfl⟩ | ⟨b, o, cap, ex, rfl, _⟩ <;> simp [lenV]
/-- its elements: where they lie, and their cells -/
theorem Sl.at {H : Hp} {esz n : Nat} {l : List C} {v : V} (h : Sl H esz n l v) {k : Nat} (hk : k < n) (kd : IntKind) : ∃ b o, iaddrV esz v (.one (.int kd k)) = some (.one (.ptr b o)) ∧ H.loads b o esz = some ((l.drop (k * esz)).take esz) := by
  rcases h.2 with ⟨_, rfl⟩ | ⟨b, o, cap, ex, rfl, hl⟩
  · omega
  · refine ⟨b, o + k * esz, by simp [iaddrV]; omega, loads_at hl ?_⟩
    have : (k + 1) * esz ≤ n * esz := Nat.mul_le_mul_right _ hk
    rw [Nat.add_mul] at this
    omega

/-- points, as pairs of numbers -/
abbrev Pt := Int × Int
def ptC (p : Pt) : List C := [.int .i64 p.1, .int .i64 p.2]
def ptsC (l : List Pt) : List C := l.flatMap ptC
def ptV (p : Pt) : V := .agg (ptC p)
def Pts (H : Hp) (l : List Pt) (v : V) : Prop := Sl H 2 l.length (ptsC l) v

theorem ptsC_len : ∀ l : List Pt, (ptsC l).length = l.length * 2
  | [] => rfl
  | p :: l => by simp only [ptsC, List.flatMap_cons, List.length_append, List.length_cons]; rw [show (l.flatMap ptC) = ptsC l from rfl, ptsC_len l]; simp [ptC]; omega
theorem ptsC_at : ∀ {l : List Pt} {i : Nat} {p : Pt}, l[i]? = some p → ((ptsC l).drop (i * 2)).take 2 = ptC p
  | [], i, p, h => by simp at h
  | q :: l, 0, p, h => by simp at h; subst h; simp [ptsC, ptC]
  | q :: l, i + 1, p, h => by
    have := ptsC_at (l := l) (i := i) (p := p) (by simpa using h)
    simp only [ptsC, List.flatMap_cons]
    rw [show (i + 1) * 2 = (ptC q).length + i * 2 by simp [ptC]; omega, List.drop_append, List.drop_of_length_le (by simp [ptC]), List.nil_append]
    rw [show (ptC q).length + i * 2 - (ptC q).length = i * 2 by omega]
    exact this
theorem Pts.at {H : Hp} {l : List Pt} {v : V} (h : Pts H l v) {k : Nat} {p : Pt} (hk : l[k]? = some p) (kd : IntKind) : ∃ b o, iaddrV 2 v (.one (.int kd k)) = some (.one (.ptr b o)) ∧ H.loads b o 2 = some (ptC p) := by
  obtain ⟨b, o, h1, h2⟩ := Sl.at h (List.getElem?_eq_some_iff.1 hk).1 kd
  exact ⟨b, o, h1, by rw [h2, ptsC_at hk]⟩
theorem Pts.len {H : Hp} {l : List Pt} {v : V} (h : Pts H l v) : lenV v = some (.one (.int .i64 l.length)) := Sl.len h
theorem Pts.ext {H H' : Hp} {l : List Pt} {v : V} (h : Pts H l v) (he : Ext H H') : Pts H' l v := Sl.ext h he

@[simp] theorem Hp.loads_skip (H : Hp) (k : Nat) : ∀ (n b o : Nat), (H.skip k).loads b o n = H.loads b o n
  | 0, _, _ => rfl
  | n + 1, b, o => by
    simp only [Hp.loads]
    rw [Hp.loads_skip H k n b (o + 1)]
    rfl
@[simp] theorem Hp.cell_skip (H : Hp) (k b i : Nat) : (H.skip k).cell b i = H.cell b i := rfl

/-- what was there at the beginning is there, but for blocks from lo on -/
structure Keep (lo : Nat) (H H' : Hp) : Prop where
  get : ∀ b bk, b < lo → H.get b = some bk → H'.get b = some bk
  nx : H.nx ≤ H'.nx
theorem Keep.refl (lo : Nat) (H : Hp) : Keep lo H H := ⟨fun _ _ _ h => h, Nat.le_refl _⟩
theorem Keep.trans {lo : Nat} {H H' H'' : Hp} (h : Keep lo H H') (k : Keep lo H' H'') : Keep lo H H'' := ⟨fun b bk hb h1 => k.get b bk hb (h.get b bk hb h1), Nat.le_trans h.nx k.nx⟩
theorem Keep.of_ext {lo : Nat} {H H' : Hp} (h : Ext H H') : Keep lo H H' := ⟨fun b bk _ h1 => h.get b bk h1, h.nx⟩
theorem Keep.ext {H H' : Hp} (hw : WF H) (h : Keep H.nx H H') : Ext H H' := ⟨fun b bk hb => h.get b bk (hw b bk hb) hb, h.nx⟩
theorem Keep.mono {lo lo' : Nat} {H H' : Hp} (h : Keep lo H H') (hl : lo' ≤ lo) : Keep lo' H H' := ⟨fun b bk hb h1 => h.get b bk (by omega) h1, h.nx⟩
theorem Keep.cell {lo : Nat} {H H' : Hp} (h : Keep lo H H') {b i : Nat} {c : C} (hb : b < lo) (hc : H.cell b i = some c) : H'.cell b i = some c := by
  unfold Hp.cell at hc ⊢
  cases hg : H.get b with
  | none => simp [hg] at hc
  | some bk => rw [h.get b bk hb hg]; simpa [hg] using hc
theorem Keep.loads {lo : Nat} {H H' : Hp} (h : Keep lo H H') {b : Nat} (hb : b < lo) : ∀ {n o : Nat} {l : List C}, H.loads b o n = some l → H'.loads b o n = some l
  | 0, _, _, hl => hl
  | n + 1, o, l, hl => by
    simp only [Hp.loads] at hl ⊢
    cases hc : H.cell b o with
    | none => simp [hc] at hl
    | some c =>
      simp only [hc] at hl
      simp only [h.cell hb hc]
      cases hr : H.loads b (o + 1) n with
      | none => simp [hr] at hl
      | some r => simp only [hr] at hl; simp only [h.loads hb hr]; exact hl

/-- THE BLOCK b MAY BE WRITTEN AND HOLDS JUST l. -/
def Row (H : Hp) (b : Nat) (l : List C) : Prop := (∃ z m, H.get b = some (.row l.length z m true)) ∧ H.loads b 0 l.length = some l

theorem loads_congr {H H' : Hp} {b : Nat} (h : H'.get b = H.get b) : ∀ (n o : Nat), H'.loads b o n = H.loads b o n
  | 0, _ => rfl
  | n + 1, o => by
    have hc : H'.cell b o = H.cell b o := by unfold Hp.cell; rw [h]
    simp only [Hp.loads, hc, loads_congr h n (o + 1)]
theorem Row.same {H H' : Hp} {b : Nat} {l : List C} (h : Row H b l) (hg : H'.get b = H.get b) : Row H' b l := ⟨by rw [hg]; exact h.1, by rw [loads_congr hg]; exact h.2⟩
theorem Row.lt {H : Hp} {b : Nat} {l : List C} (h : Row H b l) (hw : WF H) : b < H.nx := by obtain ⟨⟨z, m, hg⟩, _⟩ := h; exact hw b _ hg
theorem Row.mut {H : Hp} {b : Nat} {l : List C} (h : Row H b l) : H.mutRow b = true := by obtain ⟨⟨z, m, hg⟩, _⟩ := h; simp [Hp.mutRow, hg]
theorem Row.new {H : Hp} (l : List C) : Row (H.push (.row l.length l .lf true)) H.nx l :=
  ⟨⟨l, .lf, by rw [Hp.get_push, if_pos rfl]⟩, loads_row (rw := true) (by rw [Hp.get_push, if_pos rfl])⟩
theorem Row.newAt {H : Hp} (b : Nat) (l : List C) : Row (H.add b (.row l.length l .lf true)) b l :=
  ⟨⟨l, .lf, by simp⟩, loads_row (rw := true) (by simp)⟩

theorem loads_set {H : Hp} {b : Nat} {N : Nat} {z : List C} {m : T C} {i : Nat} {c : C} (hg : H.get b = some (.row N z m true)) (hi : i < N) : ∀ {n o : Nat} {l : List C}, H.loads b o n = some l →
    (H.add b (.row N z (m.set i (some c)) true)).loads b o n = some (if o ≤ i then l.set (i - o) c else l)
  | 0, o, l, h => by
    simp only [Hp.loads, Option.some.injEq] at h ⊢
    subst h; simp
  | n + 1, o, l, h => by
    simp only [Hp.loads] at h ⊢
    split at h
    · cases h
    · rename_i c0 hc0
      split at h
      · cases h
      · rename_i l' hl'
        obtain rfl := Option.some.inj h
        have hcell : (H.add b (.row N z (m.set i (some c)) true)).cell b o = some (if o = i then c else c0) := by
          simp only [Hp.cell, Hp.get_add_self, Option.bind_some, row_set hi]
          split
          · rfl
          · simpa [Hp.cell, hg] using hc0
        rw [hcell]
        simp only
        rw [loads_set hg hi hl']
        by_cases e1 : o = i
        · subst e1
          rw [if_neg (by omega)]
          simp
        · by_cases e2 : o ≤ i
          · rw [if_pos (by omega), if_neg e1, if_pos e2, show i - o = (i - (o + 1)) + 1 by omega]
            simp
          · rw [if_neg (by omega), if_neg e1, if_neg e2]

/-- a store into such a block -/
theorem Row.store {H : Hp} {b : Nat} {l : List C} (h : Row H b l) {i : Nat} (hi : i < l.length) (c : C) :
    ∃ H', H.store b i c = some H' ∧ Row H' b (l.set i c) ∧ (∀ b', b' ≠ b → H'.get b' = H.get b') ∧ H'.nx = H.nx := by
  obtain ⟨⟨z, m, hg⟩, hl⟩ := h
  refine ⟨_, by simp only [Hp.store, hg, hi, if_true]; rfl, ⟨⟨z, m.set i (some c), by simp⟩, ?_⟩, fun b' hb' => Hp.get_add_ne _ _ hb', rfl⟩
  rw [List.length_set, loads_set hg hi hl]
  simp

/-- several cells are stored -/
def setL (l : List C) (i : Nat) : List C → List C
  | [] => l
  | c :: cs => setL (l.set i c) (i + 1) cs
theorem setL_len : ∀ (cs l : List C) (i : Nat), (setL l i cs).length = l.length
  | [], _, _ => rfl
  | c :: cs, l, i => by rw [setL, setL_len]; simp
theorem Row.stores : ∀ {cs : List C} {H : Hp} {b : Nat} {l : List C}, Row H b l → ∀ {i : Nat}, i + cs.length ≤ l.length →
    ∃ H', H.stores b i cs = some H' ∧ Row H' b (setL l i cs) ∧ (∀ b', b' ≠ b → H'.get b' = H.get b') ∧ H'.nx = H.nx
  | [], H, b, l, h, i, _ => ⟨H, rfl, h, fun _ _ => rfl, rfl⟩
  | c :: cs, H, b, l, h, i, hi => by
    simp only [List.length_cons] at hi
    obtain ⟨H1, h1, h2, h3, h4⟩ := h.store (i := i) (by omega) c
    obtain ⟨H2, g1, g2, g3, g4⟩ := Row.stores (cs := cs) h2 (i := i + 1) (by simp; omega)
    exact ⟨H2, by simp only [Hp.stores, h1, g1], g2, fun b' hb' => (g3 b' hb').trans (h3 b' hb'), by rw [g4, h4]⟩

/-- A SLICE OF THE CALL'S OWN THAT GROWS BY append: nil, or all of a block. -/
def Own (H : Hp) (lo esz n : Nat) (cs : List C) (v : V) : Prop := cs.length = n * esz ∧ ((v = .one .nils ∧ n = 0) ∨ ∃ b ex, v = .one (.slc b 0 n n esz ex) ∧ lo ≤ b ∧ Row H b cs)
/-- the block of such a slice -/
def ownB : V → Option Nat
  | .one (.slc b _ _ _ _ _) => some b
  | _ => none

theorem Own.nil (H : Hp) (lo esz : Nat) : Own H lo esz 0 [] (.one .nils) := ⟨by simp, .inl ⟨rfl, rfl⟩⟩
theorem Own.same {H H' : Hp} {lo esz n : Nat} {cs : List C} {v : V} (h : Own H lo esz n cs v) (hg : ∀ b, ownB v = some b → H'.get b = H.get b) : Own H' lo esz n cs v := by
  refine ⟨h.1, ?_⟩
  rcases h.2 with h' | ⟨b, ex, rfl, hl, hr⟩
  · exact .inl h'
  · exact .inr ⟨b, ex, rfl, hl, hr.same (hg b rfl)⟩
theorem Own.sl {H : Hp} {lo esz n : Nat} {cs : List C} {v : V} (h : Own H lo esz n cs v) : Sl H esz n cs v := by
  refine ⟨h.1, ?_⟩
  rcases h.2 with h' | ⟨b, ex, rfl, hl, hr⟩
  · exact .inl h'
  · exact .inr ⟨b, 0, n, ex, rfl, by rw [← h.1]; exact hr.2⟩

theorem Own.append {H : Hp} {lo esz bytes n : Nat} {cs : List C} {v : V} (h : Own H lo esz n cs v) (hw : WF H) (hlo : lo ≤ H.nx) {m : Nat} {news : List C} (hn : news.length = m * esz) (hm : 0 < m) (hb : (n + m) * bytes ≤ 140737488355328) (h62 : n + m < 4611686018427387904) :
    ∃ v' H', aAppend H esz bytes v m news = some (v', H') ∧ Own H' lo esz (n + m) (cs ++ news) v' ∧ ownB v' = some H.nx ∧ (∀ b, b ≠ H.nx → ownB v ≠ some b → H'.get b = H.get b) ∧ H'.nx = H.nx + 1 ∧ WF H' := by
  have hl := h.1
  rcases h.2 with ⟨rfl, rfl⟩ | ⟨b, ex, rfl, hlb, hr⟩
  · have : cs = [] := List.eq_nil_of_length_eq_zero (by simpa using hl)
    subst this
    rw [Nat.zero_add] at hb h62
    refine ⟨.one (.slc H.nx 0 m m esz false), H.push (.row news.length news .lf true), by simp only [aAppend]; rw [if_neg (by omega), if_pos ⟨hb, h62⟩], ⟨by simp [hn], .inr ⟨H.nx, false, by simp, hlo, ?_⟩⟩, rfl, fun b hb _ => by rw [Hp.get_push, if_neg hb], rfl, hw.push _⟩
    simpa using Row.new (H := H) news
  · have hbl := hr.lt hw
    have hlen : (cs ++ news).length = (n + m) * esz := by simp [hl, hn, Nat.add_mul]
    have hld : H.loads b 0 (n * esz) = some cs := by rw [← hl]; exact hr.2
    cases ex with
    | true =>
      refine ⟨.one (.slc H.nx 0 (n + m) (n + m) esz false), H.push (.row (cs ++ news).length (cs ++ news) .lf true), by simp only [aAppend]; rw [if_neg (by simp), if_neg (by omega), if_pos ⟨hb, h62⟩, hld]; simp only [if_true], ⟨hlen, .inr ⟨_, _, rfl, hlo, Row.new _⟩⟩, rfl, fun b' hb' _ => by rw [Hp.get_push, if_neg hb'], rfl, hw.push _⟩
    | false =>
      refine ⟨.one (.slc H.nx 0 (n + m) (n + m) esz false), (H.push (.row (cs ++ news).length (cs ++ news) .lf true)).del b, by simp only [aAppend]; rw [if_neg (by simp), if_neg (by omega), if_pos ⟨hb, h62⟩, hld]; simp only [Bool.false_eq_true, if_false, hr.mut, if_true], ⟨hlen, .inr ⟨H.nx, false, rfl, hlo, (Row.new _).same ?_⟩⟩, rfl, fun b' hb' ho => ?_, rfl, fun b' k hk => ?_⟩
      · rw [Hp.get_del, if_neg (by omega)]
      · rw [Hp.get_del, if_neg (fun e => ho (by simp [ownB, e])), Hp.get_push, if_neg hb']
      · rw [Hp.get_del] at hk
        split at hk
        · cases hk
        · exact hw.push _ b' k hk
end Go.Ab
