/- Grids: rows of truths. -/
import Derived.Test.YtejpbhindcglpaaDoorAb6
set_option linter.unusedVariables false
set_option linter.unusedSimpArgs false
namespace Go.Ab

/-- the value is a grid's dots: rows of truths -/
def Dots (H : Hp) (d : List (List Bool)) (v : V) : Prop := ∃ cs, Sl H 1 d.length cs v ∧ All2 (fun (r : List Bool) c => Sl H 1 r.length (r.map .bool) (.one c)) d cs
theorem Dots.le {H H' : Hp} {d : List (List Bool)} {v : V} (h : Dots H d v) (he : Le H H') : Dots H' d v := by
  obtain ⟨cs, h1, h2⟩ := h
  exact ⟨cs, h1.le he, h2.mono fun _ _ h => h.le he⟩
theorem Dots.len {H : Hp} {d : List (List Bool)} {v : V} (h : Dots H d v) : lenV v = some (.int d.length) := by
  obtain ⟨cs, h1, _⟩ := h
  exact h1.len
theorem Dots.at {H : Hp} {d : List (List Bool)} {v : V} (h : Dots H d v) {k : Nat} {r : List Bool} (hk : d[k]? = some r) (kd : IntKind) : ∃ b o c, iaddrV 1 v (.one (.int kd k)) = some (.one (.ptr b o)) ∧ H.cell b o = some c ∧ Sl H 1 r.length (r.map .bool) (.one c) := by
  obtain ⟨cs, h1, h2⟩ := h
  obtain ⟨b, o, e1, e2⟩ := h1.at (List.getElem?_eq_some_iff.1 hk).1 kd
  obtain ⟨c, hc, hs⟩ := h2.at k r hk
  refine ⟨b, o, c, e1, ?_, hs⟩
  have := loads_cell (i := 0) e2 (by omega)
  simp only [Nat.add_zero, Nat.mul_one] at this
  rw [this]
  simpa [List.getElem?_take, List.getElem?_drop] using hc

def validB (w h : Int) (d : List (List Bool)) : Bool := decide (0 ≤ w) && decide (w ≤ 200) && decide (0 ≤ h) && decide (h ≤ 200) && ((d.length : Int) == h) && d.all fun r => (r.length : Int) == w
end Go.Ab
namespace Go.Ab
/-- a variable's new box -/
theorem new_box {H : Hp} (hw : WF H) (cs : List C) {n : Nat} (hn : cs.length = n) : WF (H.push (.row n cs .lf true)) ∧ Ext H (H.push (.row n cs .lf true)) ∧ Row (H.push (.row n cs .lf true)) H.nx cs := by
  subst hn
  exact ⟨hw.push _, Ext.push hw (Ext.refl H) _, Row.new cs⟩
theorem Row.cell {H : Hp} {b : Nat} {l : List C} (h : Row H b l) {i : Nat} {c : C} (hc : l[i]? = some c) : H.cell b i = some c := by
  have := loads_cell (i := i) h.2 (List.getElem?_eq_some_iff.1 hc).1
  rw [Nat.zero_add] at this
  rw [this, hc]
theorem Row.ext {H H' : Hp} {b : Nat} {l : List C} (h : Row H b l) (he : Ext H H') : Row H' b l := by
  obtain ⟨⟨z, m, hg⟩, hl⟩ := h
  exact ⟨⟨z, m, he.get _ _ hg⟩, he.loads hl⟩
end Go.Ab
namespace Go.Ab
theorem wrap_i64 {n : Int} (h1 : -9223372036854775808 ≤ n) (h2 : n < 9223372036854775808) : IntKind.i64.wrap n = n := by
  simp [IntKind.wrap, IntKind.signed, IntKind.bits]
  split <;> omega
end Go.Ab
namespace Go.Ab
/-- A GRID'S DOTS THAT THE CALL MADE: all their blocks lie from lo on below hi, and no two are the same. -/
def GOwn (H : Hp) (lo hi : Nat) (d : List (List Bool)) (c : C) : Prop := ∃ (cs : List C) (bs : List Nat), Own H lo 1 d.length cs (.one c) ∧ (∀ b, ownB (.one c) = some b → b < hi) ∧ bs.length = d.length ∧ bs.Nodup ∧ (∀ b ∈ bs, lo ≤ b ∧ b < hi ∧ ownB (.one c) ≠ some b) ∧
  ∀ (i : Nat) r, d[i]? = some r → ∃ b, bs[i]? = some b ∧ cs[i]? = some (.slc b 0 r.length r.length 1 true) ∧ Row H b (r.map .bool)
theorem Row.sl {H : Hp} {b : Nat} {l : List C} (h : Row H b l) {n cap : Nat} {ex : Bool} (hn : l.length = n) : Sl H 1 n l (.one (.slc b 0 n cap 1 ex)) := ⟨by simp [hn], .inr ⟨b, 0, cap, ex, rfl, by rw [Nat.mul_one, ← hn]; exact h.2⟩⟩
theorem GOwn.dots {H : Hp} {lo hi : Nat} {d : List (List Bool)} {c : C} (h : GOwn H lo hi d c) : Dots H d (.one c) := by
  obtain ⟨cs, bs, h1, _, h2, _, _, h3⟩ := h
  refine ⟨cs, h1.sl, All2.mk (by rw [h1.1]; simp) fun i r x hr hx => ?_⟩
  obtain ⟨b, _, hc, hrow⟩ := h3 i r hr
  rw [hc] at hx
  obtain rfl := Option.some.inj hx
  exact hrow.sl (by simp)
theorem GOwn.nil (H : Hp) (lo hi : Nat) : GOwn H lo hi [] .nils := ⟨[], [], Own.nil H lo 1, fun b h => (by cases h), rfl, List.nodup_nil, fun b h => (by cases h), fun i r h => (by simp at h)⟩
theorem GOwn.same {H H' : Hp} {lo hi : Nat} {d : List (List Bool)} {c : C} (h : GOwn H lo hi d c) (hg : ∀ b, lo ≤ b → b < hi → H'.get b = H.get b) : GOwn H' lo hi d c := by
  obtain ⟨cs, bs, h1, hb, h2, h3, h4, h5⟩ := h
  refine ⟨cs, bs, h1.same fun b e => hg b ?_ (hb b e), hb, h2, h3, h4, fun i r hr => ?_⟩
  · rcases h1.2 with ⟨h, _⟩ | ⟨b', ex, hv, hl, _⟩
    · rw [h] at e; cases e
    · rw [hv] at e; obtain rfl := Option.some.inj e; exact hl
  · obtain ⟨b, e1, e2, e3⟩ := h5 i r hr
    have := h4 b (List.mem_of_getElem? e1)
    exact ⟨b, e1, e2, e3.same (hg b this.1 this.2.1)⟩
theorem GOwn.hi {H : Hp} {lo hi hi' : Nat} {d : List (List Bool)} {c : C} (h : GOwn H lo hi d c) (hh : hi ≤ hi') : GOwn H lo hi' d c := by
  obtain ⟨cs, bs, h1, hb, h2, h3, h4, h5⟩ := h
  exact ⟨cs, bs, h1, fun b e => Nat.lt_of_lt_of_le (hb b e) hh, h2, h3, fun b e => ⟨(h4 b e).1, Nat.lt_of_lt_of_le (h4 b e).2.1 hh, (h4 b e).2.2⟩, h5⟩
theorem GOwn.lo {H : Hp} {lo lo' hi : Nat} {d : List (List Bool)} {c : C} (h : GOwn H lo hi d c) (hh : lo' ≤ lo) : GOwn H lo' hi d c := by
  obtain ⟨cs, bs, h1, hb, h2, h3, h4, h5⟩ := h
  refine ⟨cs, bs, ⟨h1.1, ?_⟩, hb, h2, h3, fun b e => ⟨Nat.le_trans hh (h4 b e).1, (h4 b e).2⟩, h5⟩
  rcases h1.2 with h | ⟨b, ex, hv, hl, hr⟩
  · exact .inl h
  · exact .inr ⟨b, ex, hv, Nat.le_trans hh hl, hr⟩
theorem GOwn.snoc {H : Hp} {lo hi : Nat} {d : List (List Bool)} {c : C} (h : GOwn H lo hi d c) (hw : WF H) {b : Nat} {r : List Bool} (hlo : lo ≤ hi) (hb : hi ≤ b) (hr : Row H b (r.map .bool)) (hd : d.length < 1000000) :
    ∃ c' H', aAppend H 1 24 (.one c) 1 [.slc b 0 r.length r.length 1 true] = some (.one c', H') ∧ GOwn H' lo H'.nx (d ++ [r]) c' ∧ (∀ b', b' < H.nx → (b' < lo ∨ hi ≤ b') → H'.get b' = H.get b') ∧ H'.nx = H.nx + 1 ∧ WF H' := by
  obtain ⟨cs, bs, h1, hbd, h2, h3, h4, h5⟩ := h
  have hbn : b < H.nx := hr.lt hw
  have hlob : ∀ x, ownB (.one c) = some x → lo ≤ x := by
    intro x e
    rcases h1.2 with ⟨h, _⟩ | ⟨b', ex, hv, hl, _⟩
    · rw [h] at e; cases e
    · rw [hv] at e; obtain rfl := Option.some.inj e; exact hl
  obtain ⟨v', H', e1, e2, e3, e4, e5, e6⟩ := h1.append (bytes := 24) hw (by omega) (m := 1) (news := [.slc b 0 r.length r.length 1 true]) rfl (by omega) (by omega) (by omega)
  obtain ⟨c', rfl⟩ : ∃ c', v' = .one c' := by
    rcases e2.2 with ⟨h, _⟩ | ⟨b', ex, hv, _⟩
    · exact ⟨_, h⟩
    · exact ⟨_, hv⟩
  have hold : ∀ b', b' < H.nx → ownB (.one c) ≠ some b' → H'.get b' = H.get b' := fun b' h1 h2 => e4 b' (by omega) h2
  refine ⟨c', H', e1, ⟨cs ++ [.slc b 0 r.length r.length 1 true], bs ++ [b], by simpa using e2, fun x hx => ?_, by simp [h2], ?_, fun x hx => ?_, fun i r' hr' => ?_⟩, fun b' hb' hc => hold b' hb' fun e => ?_, e5, e6⟩
  · rw [e3] at hx; obtain rfl := Option.some.inj hx; omega
  · rw [List.nodup_append]
    refine ⟨h3, by simp, fun x hx y hy e => ?_⟩
    simp at hy
    have := (h4 x hx).2.1
    omega
  · rcases List.mem_append.1 hx with hx | hx
    · have := h4 x hx
      exact ⟨this.1, by omega, by rw [e3]; intro e; have := Option.some.inj e; omega⟩
    · simp at hx
      subst hx
      exact ⟨by omega, by omega, by rw [e3]; intro e; have := Option.some.inj e; omega⟩
  · by_cases hi' : i < d.length
    · rw [List.getElem?_append_left hi'] at hr'
      obtain ⟨x, g1, g2, g3⟩ := h5 i r' hr'
      have hx := h4 x (List.mem_of_getElem? g1)
      refine ⟨x, by rw [List.getElem?_append_left (by omega)]; exact g1, ?_, g3.same (hold x (g3.lt hw) hx.2.2)⟩
      rw [List.getElem?_append_left (List.getElem?_eq_some_iff.1 g2).1]; exact g2
    · have hid : i = d.length := by
        have := (List.getElem?_eq_some_iff.1 hr').1
        simp at this
        omega
      subst hid
      simp at hr'
      subst hr'
      have hcl : cs.length = d.length := by rw [h1.1]; simp
      refine ⟨b, by rw [← h2]; simp, by rw [← hcl]; simp, hr.same (hold b hbn fun e => ?_)⟩
      have := hbd b e
      omega
  · have := hbd b' e
    have := hlob b' e
    omega
end Go.Ab
namespace Go.Ab
theorem validB_blank (w h : Nat) (hw : w ≤ 200) (hh : h ≤ 200) : validB w h (List.replicate h (List.replicate w false)) = true := by
  simp [validB]
  omega
/-- a row of a grid is exchanged -/
theorem Own.setAt {H : Hp} {lo n : Nat} {cs : List C} {c : C} (h : Own H lo 1 n cs (.one c)) {i : Nat} (hi : i < n) (kd : IntKind) (x : C) : ∃ b H', ownB (.one c) = some b ∧ lo ≤ b ∧ iaddrV 1 (.one c) (.one (.int kd i)) = some (.one (.ptr b i)) ∧ H.store b i x = some H' ∧ Own H' lo 1 n (cs.set i x) (.one c) ∧ (∀ b', b' ≠ b → H'.get b' = H.get b') ∧ H'.nx = H.nx := by
  obtain ⟨hl, h⟩ := h
  rcases h with ⟨_, rfl⟩ | ⟨b, ex, hv, hlo, hr⟩
  · omega
  · obtain ⟨H', e1, e2, e3, e4⟩ := hr.store (i := i) (by omega) x
    obtain rfl := V.one.inj hv
    refine ⟨b, H', rfl, hlo, by simp [iaddrV]; omega, e1, ⟨by simp [hl], .inr ⟨b, ex, rfl, hlo, e2⟩⟩, e3, e4⟩
end Go.Ab
namespace Go.Ab
theorem GOwn.setRow {H : Hp} {lo hi : Nat} {d : List (List Bool)} {c : C} (h : GOwn H lo hi d c) {i b : Nat} {r : List Bool} (hi' : i < d.length) (hb : hi ≤ b) (hr : Row H b (r.map .bool)) (kd : IntKind) : ∃ bo H', lo ≤ bo ∧ bo < hi ∧ iaddrV 1 (.one c) (.one (.int kd i)) = some (.one (.ptr bo i)) ∧ H.store bo i (.slc b 0 r.length r.length 1 true) = some H' ∧ (∀ b', b' ≠ bo → H'.get b' = H.get b') ∧ H'.nx = H.nx ∧
    ∀ H'' : Hp, (∀ b', (lo ≤ b' ∧ b' < hi) ∨ b' = b → H''.get b' = H'.get b') → Dots H'' (d.set i r) (.one c) := by
  obtain ⟨cs, bs, h1, hbd, h2, h3, h4, h5⟩ := h
  obtain ⟨bo, H', e1, e2, e3, e4, e5, e6, e7⟩ := h1.setAt hi' kd (.slc b 0 r.length r.length 1 true)
  have hbo := hbd bo e1
  refine ⟨bo, H', e2, hbo, e3, e4, e6, e7, fun H'' hh => ?_⟩
  have o2 : Own H'' lo 1 d.length (cs.set i (.slc b 0 r.length r.length 1 true)) (.one c) := e5.same fun x hx => by
    rw [e1] at hx; obtain rfl := Option.some.inj hx
    exact hh _ (.inl ⟨e2, hbo⟩)
  have hcl : cs.length = d.length := by rw [h1.1]; simp
  refine ⟨cs.set i (.slc b 0 r.length r.length 1 true), by simpa using o2.sl, All2.mk (by simp [hcl]) fun j r' x' hr' hx' => ?_⟩
  by_cases e : j = i
  · subst e
    rw [List.getElem?_set_self (by omega)] at hr' hx'
    obtain rfl := Option.some.inj hr'
    obtain rfl := Option.some.inj hx'
    exact ((hr.same (e6 b (by omega))).same (hh b (.inr rfl))).sl (by simp)
  · rw [List.getElem?_set_ne (fun h => e h.symm)] at hr' hx'
    obtain ⟨bj, g1, g2, g3⟩ := h5 j r' hr'
    rw [g2] at hx'
    obtain rfl := Option.some.inj hx'
    have hj := h4 bj (List.mem_of_getElem? g1)
    exact ((g3.same (e6 bj (fun h => hj.2.2 (by rw [e1, h])))).same (hh bj (.inl ⟨hj.1, hj.2.1⟩))).sl (by simp)
theorem wrap_u8 (z : Int) : 0 ≤ IntKind.u8.wrap z ∧ IntKind.u8.wrap z < 256 := by
  simp [IntKind.wrap, IntKind.signed, IntKind.bits]
  omega
theorem tmod_bd (a : Int) {b : Int} (hb : 0 < b) : -b < a.tmod b ∧ a.tmod b < b := by
  refine ⟨?_, Int.tmod_lt_of_pos a hb⟩
  rcases Int.le_total 0 a with h | h
  · have := Int.tmod_nonneg b h; omega
  · have h1 : (-a).tmod b < b := Int.tmod_lt_of_pos _ hb
    rw [Int.neg_tmod] at h1
    omega
end Go.Ab
namespace Go.Ab
theorem setL_append : ∀ (pre cs rest : List C), cs.length = rest.length → setL (pre ++ rest) pre.length cs = pre ++ cs
  | _, [], [], _ => by simp [setL]
  | pre, c :: cs, r :: rest, h => by
    simp only [setL]
    have e : (pre ++ r :: rest).set pre.length c = (pre ++ [c]) ++ rest := by simp
    rw [e]
    have := setL_append (pre ++ [c]) cs rest (by simpa using h)
    simp only [List.length_append, List.length_cons, List.length_nil] at this
    rw [this]; simp
  | _, [], _ :: _, h => by simp at h
  | _, _ :: _, [], h => by simp at h
theorem setL_all (cs z : List C) (h : cs.length = z.length) : setL z 0 cs = cs := by simpa using setL_append [] cs z h
/-- a new variable of several cells, and its first value -/
theorem new_var {H : Hp} (hw : WF H) (z cs : List C) (hn : cs.length = z.length) : ∃ H3, (H.push (.row z.length z .lf true)).stores H.nx 0 cs = some H3 ∧ WF H3 ∧ Ext H H3 ∧ Row H3 H.nx cs ∧ H3.nx = H.nx + 1 := by
  obtain ⟨hw1, hx, hb⟩ := new_box hw z rfl
  obtain ⟨H3, s1, s2, s3, s4⟩ := hb.stores (cs := cs) (i := 0) (by omega)
  rw [setL_all cs z hn] at s2
  refine ⟨H3, s1, fun b bk h => ?_, ⟨fun b bk h => ?_, by rw [s4]; simp⟩, s2, by rw [s4]; simp⟩
  · rw [s4]
    by_cases e : b = H.nx
    · subst e; simp
    · rw [s3 b e] at h; exact hw1 b bk h
  · rw [s3 b (by have := hw b bk h; omega)]
    exact hx.get b bk h
end Go.Ab
namespace Go.Ab
/-- A LIST OF POINTS THAT THE CALL MADE. -/
def POwn (H : Hp) (lo hi : Nat) (l : List Pt) (v : V) : Prop := Own H lo 2 l.length (ptsC l) v ∧ ∀ b, ownB v = some b → lo ≤ b ∧ b < hi
theorem POwn.pts {H : Hp} {lo hi : Nat} {l : List Pt} {v : V} (h : POwn H lo hi l v) : Pts H l v := h.1.sl
theorem POwn.same {H H' : Hp} {lo hi : Nat} {l : List Pt} {v : V} (h : POwn H lo hi l v) (hg : ∀ b, ownB v = some b → H'.get b = H.get b) : POwn H' lo hi l v := ⟨h.1.same hg, h.2⟩
theorem POwn.mono {H : Hp} {lo lo' hi hi' : Nat} {l : List Pt} {v : V} (h : POwn H lo hi l v) (hlo : lo' ≤ lo) (hhi : hi ≤ hi') : POwn H lo' hi' l v := by
  refine ⟨⟨h.1.1, ?_⟩, fun b hb => by have := h.2 b hb; omega⟩
  rcases h.1.2 with h | ⟨b, ex, hv, hl, hr⟩
  · exact .inl h
  · exact .inr ⟨b, ex, hv, by omega, hr⟩
theorem POwn.nils (H : Hp) (lo hi : Nat) : POwn H lo hi [] (.one .nils) := ⟨Own.nil H lo 2, fun b h => by cases h⟩
/-- the empty literal -/
theorem POwn.none {H : Hp} {lo hi b : Nat} (hb : H.get b = some (.row 0 [] .lf true)) (h1 : lo ≤ b) (h2 : b < hi) : POwn H lo hi [] (.one (.slc b 0 0 0 2 true)) :=
  ⟨⟨rfl, .inr ⟨b, true, rfl, h1, ⟨[], .lf, hb⟩, rfl⟩⟩, fun x hx => by obtain rfl := Option.some.inj hx; exact ⟨h1, h2⟩⟩
theorem POwn.append1 {H H1 : Hp} {lo hi : Nat} {l : List Pt} {v : V} {bb : Nat} {p : Pt} (h : POwn H lo hi l v) (hhi : hi ≤ H.nx) (hw1 : WF H1) (hold : ∀ b, b < H.nx → H1.get b = H.get b) (hnx : H.nx ≤ H1.nx) (hbb : H1.get bb = some (.row 2 (ptC p) .lf true)) (hlo : lo ≤ H.nx) (hlen : l.length < 1000000000) :
    ∃ v' H', srcCells H1 2 (.one (.slc bb 0 1 1 2 true)) = some (1, ptC p) ∧ aAppend H1 2 16 v 1 (ptC p) = some (v', H') ∧ POwn H' lo H'.nx (l ++ [p]) v' ∧ (∀ b, b < H.nx → ownB v ≠ some b → H'.get b = H.get b) ∧ H.nx ≤ H'.nx ∧ WF H' := by
  have hsrc : H1.loads bb 0 (1 * 2) = some (ptC p) := loads_row (cs := ptC p) (rw := true) hbb
  have h1 : Own H1 lo 2 l.length (ptsC l) v := h.1.same fun b hb => hold b (by have := h.2 b hb; omega)
  obtain ⟨v', H', e1, e2, e3, e4, e5, e6⟩ := h1.append (bytes := 16) hw1 (by omega) (m := 1) (news := ptC p) rfl (by omega) (by omega) (by omega)
  refine ⟨v', H', src_row hsrc, e1, ⟨?_, fun b hb => ?_⟩, fun b hb hne => ?_, by omega, e6⟩
  · have : ptsC (l ++ [p]) = ptsC l ++ ptC p := by simp [ptsC]
    rw [this, List.length_append]
    exact e2
  · rw [e3] at hb; obtain rfl := Option.some.inj hb; omega
  · rw [e4 b (by omega) hne, hold b hb]
end Go.Ab
namespace Go.Ab
theorem POwn.one {H : Hp} {lo hi : Nat} {l : List Pt} {v : V} (h : POwn H lo hi l v) : ∃ c, v = .one c := by
  rcases h.1.2 with ⟨h, _⟩ | ⟨b, ex, hv, _⟩
  · exact ⟨_, h⟩
  · exact ⟨_, hv⟩
end Go.Ab
namespace Go.Ab
theorem setL_mid : ∀ (pre old cs rest : List C), cs.length = old.length → setL (pre ++ (old ++ rest)) pre.length cs = pre ++ (cs ++ rest)
  | _, [], [], _, _ => by simp [setL]
  | pre, o :: old, c :: cs, rest, h => by
    simp only [setL]
    have e : (pre ++ (o :: old ++ rest)).set pre.length c = (pre ++ [c]) ++ (old ++ rest) := by simp
    rw [e]
    have := setL_mid (pre ++ [c]) old cs rest (by simpa using h)
    simp only [List.length_append, List.length_cons, List.length_nil] at this
    rw [this]; simp
  | _, [], _ :: _, _, h => by simp at h
  | _, _ :: _, [], _, h => by simp at h
/-- a list with room: the first cells are its points -/
def PRoom (H : Hp) (b cap : Nat) (l : List Pt) : Prop := ∃ rest, rest.length = (cap - l.length) * 2 ∧ l.length ≤ cap ∧ Row H b (ptsC l ++ rest)
theorem PRoom.append {H : Hp} {b cap : Nat} {l : List Pt} (h : PRoom H b cap l) (hc : l.length < cap) (bytes : Nat) (ex : Bool) (p : Pt) : ∃ H', aAppend H 2 bytes (.one (.slc b 0 l.length cap 2 ex)) 1 (ptC p) = some (.one (.slc b 0 (l.length + 1) cap 2 ex), H') ∧ PRoom H' b cap (l ++ [p]) ∧ (∀ b', b' ≠ b → H'.get b' = H.get b') ∧ H'.nx = H.nx := by
  obtain ⟨rest, h1, h2, h3⟩ := h
  obtain ⟨H', e1, e2, e3, e4⟩ := h3.stores (cs := ptC p) (i := l.length * 2) (by simp [ptsC_len, h1, ptC]; omega)
  refine ⟨H', ?_, ⟨rest.drop 2, by simp [h1]; omega, by simp; omega, ?_⟩, e3, e4⟩
  · simp only [aAppend]
    rw [if_neg (by simp), if_pos (by omega), Nat.zero_add, e1]
    rfl
  · have e5 : ptsC (l ++ [p]) = ptsC l ++ ptC p := by simp [ptsC]
    have e6 : ptsC l ++ rest = ptsC l ++ (rest.take 2 ++ rest.drop 2) := by rw [List.take_append_drop]
    rw [e6, ← ptsC_len, setL_mid _ _ _ _ (by simp [ptC, h1]; omega)] at e2
    rw [e5, List.append_assoc]
    exact e2
end Go.Ab
namespace Go.Ab
theorem loads_some {H : Hp} {b n : Nat} {z : List C} {m : T C} {rw : Bool} (h : H.get b = some (.row n z m rw)) : ∀ (k o : Nat), o + k ≤ n → ∃ cs, cs.length = k ∧ H.loads b o k = some cs
  | 0, o, _ => ⟨[], rfl, rfl⟩
  | k + 1, o, hk => by
    obtain ⟨cs, h1, h2⟩ := loads_some h k (o + 1) (by omega)
    have hc : H.cell b o = some ((m.get o).getD (z.getD (o % z.length) .nilp)) := by simp [Hp.cell, h, B.cell, show o < n by omega]
    exact ⟨(m.get o).getD (z.getD (o % z.length) .nilp) :: cs, by simp [h1], by simp only [Hp.loads, hc, h2]⟩
theorem Row.some {H : Hp} {b n : Nat} {z : List C} {m : T C} (h : H.get b = some (.row n z m true)) : ∃ cs, cs.length = n ∧ Row H b cs := by
  obtain ⟨cs, h1, h2⟩ := loads_some h n 0 (by omega)
  exact ⟨cs, h1, ⟨z, m, by rw [h1]; exact h⟩, by rw [h1]; exact h2⟩
theorem PRoom.new {H : Hp} {b cap : Nat} {z : List C} (h : H.get b = some (.row (cap * 2) z .lf true)) : PRoom H b cap [] := by
  obtain ⟨cs, h1, h2⟩ := Row.some h
  exact ⟨cs, by simp [h1], by simp, by simpa [ptsC] using h2⟩
theorem PRoom.same {H H' : Hp} {b cap : Nat} {l : List Pt} (h : PRoom H b cap l) (hg : H'.get b = H.get b) : PRoom H' b cap l := by
  obtain ⟨r, h1, h2, h3⟩ := h
  exact ⟨r, h1, h2, h3.same hg⟩
theorem PRoom.full {H : Hp} {lo hi b cap : Nat} {l : List Pt} {ex : Bool} (h : PRoom H b cap l) (hc : l.length = cap) (h1 : lo ≤ b) (h2 : b < hi) : POwn H lo hi l (.one (.slc b 0 l.length cap 2 ex)) := by
  obtain ⟨r, g1, g2, g3⟩ := h
  have : r = [] := List.eq_nil_of_length_eq_zero (by rw [g1, hc]; simp)
  subst this
  rw [List.append_nil] at g3
  subst hc
  exact ⟨⟨ptsC_len l, .inr ⟨b, ex, rfl, h1, g3⟩⟩, fun x hx => by obtain rfl := Option.some.inj hx; exact ⟨h1, h2⟩⟩
end Go.Ab

namespace Go.Ab.Fn
open Go.Ab Go.Proofs
set_option linter.unusedSimpArgs false

theorem valid_ro {H : Hp} {d : List (List Bool)} {w h : Int} {c : C} (hg : Dots H d (.one c)) : ACalls Tryd.prog 1 12 [.agg [.int .i64 w, .int .i64 h, c]] H fun v _ => v = .bool (validB w h d) := by
  refine pfn_ok cp12 (by simp [f12]) fun hwf => ?_
  refine ps_seq (ps_ops0 mix ?_)
  refine pw_a rfl rfl (pw_mvc (pw_nil ?_))
  obtain ⟨hw1, hx, hb⟩ := new_box hwf [.int .i64 w, .int .i64 h, c] rfl
  have hg1 := hg.le hx.le
  have c0 := hb.cell (i := 0) rfl
  have c1 := hb.cell (i := 1) rfl
  have c2 := hb.cell (i := 2) rfl
  have hl := hg1.len
  refine ps_seq (ps_seq (ps_ops0 mix ?_))
  unfold f12r1
  repeat (first | refine pw_pick rfl rfl (by first | exact fun _ => rfl | exact fun h => (by simp only [if_pos h]; rfl) | exact fun h => (by simp only [if_pos h]; assumption)) (by first | exact fun _ => rfl | exact fun h => (by simp only [if_pos h]; rfl) | exact fun h => (by simp only [if_pos h]; assumption)) ?_ | refine pw_mvt rfl ?_ | refine pw_p rfl rfl ?_ | refine pw_l1 rfl rfl (by assumption) ?_ | refine pw_pg rfl rfl (by first | exact fun _ => rfl | exact fun _ => (by assumption) | exact fun h => (by simp only [if_pos h]; rfl) | exact fun h => (by simp only [if_pos h]; assumption)) ?_ | refine pw_lg1 rfl rfl (by first | exact fun _ => rfl | exact fun h => (by simp only [if_pos h]; rfl) | exact fun h => (by simp only [if_pos h]; assumption)) (by assumption) ?_)
  refine pw_nil ?_
  refine ps_sub (SubE.cons (k := 1) rfl (SubE.cons (k := 30) rfl (SubE.nil _))) ?_
  generalize (H.push _) = H1 at *
  generalize H.nx = b1 at *
  refine ps_if rfl rfl (fun ht => ?_) (fun ht => ?_)
  · refine ps_seq (ps_ops0 mix (pw_mvc (pw_nil (ps_ret ⟨_, rfl, ?_⟩))))
    congr 2
    symm
    simp only [validB]
    simp at ht ⊢
    omega
  · refine ps_skip (ps_seq (ps_seq (ps_ops0 mix ?_)))
    simp at ht
    unfold f12r3
    repeat (first | refine pw_mvc ?_ | refine pw_p rfl rfl ?_ | refine pw_l1 rfl rfl (by assumption) ?_ | refine pw_p rfl (by assumption) ?_)
    refine pw_nil (ps_block (ps_loop (fun m E H' => H' = H1 ∧ ∃ k : Nat, k + m = d.length ∧ E = [(1, .one (.ptr b1 0)), (32, .one c), (33, .int d.length), (34, .int k)] ∧ ∀ i r, i < k → d[i]? = some r → (r.length : Int) = w) (m := d.length) ⟨_, (SubE.cons (k := 1) rfl (SubE.cons (k := 32) rfl (SubE.cons (k := 33) rfl (SubE.cons (k := 34) rfl (SubE.nil _))))), rfl, 0, by omega, rfl, by omega⟩ ?_))
    rintro m E H' hwf' ⟨rfl, k, hk, rfl, hno⟩
    refine ps_seq (ps_ops0 mix ?_)
    unfold f12r4
    repeat (first | refine pw_p rfl rfl ?_)
    refine pw_nil (ps_seq (ps_if rfl rfl (fun ht2 => ?_) (fun ht2 => ?_)))
    · refine ps_skip (ps_seq (ps_block (ps_seq (ps_ops0 mix ?_))))
      simp at ht2
      obtain ⟨r, hr⟩ : ∃ r, d[k]? = some r := ⟨_, List.getElem?_eq_getElem (by omega)⟩
      obtain ⟨b, o, cr, e1, e2, e3⟩ := hg1.at hr .i64
      have e4 := e3.len
      unfold f12r5
      repeat (first | refine pw_mvt rfl ?_ | refine pw_l1 rfl rfl (by assumption) ?_ | refine pw_p rfl (by assumption) ?_)
      refine pw_nil (ps_seq (ps_ops0 mix ?_))
      unfold f12r6
      repeat (first | refine pw_mvt rfl ?_ | refine pw_p rfl rfl ?_ | refine pw_l1 rfl rfl (by assumption) ?_ | refine pw_p rfl (by assumption) ?_)
      refine pw_nil (ps_if rfl rfl (fun ht3 => ?_) (fun ht3 => ?_))
      · refine ps_seq (ps_ops0 mix (pw_mvc (pw_nil (ps_ret ⟨_, rfl, ?_⟩))))
        congr 2
        symm
        simp only [validB]
        simp at ht3 ⊢
        intro _ _ _ _ _
        exact ⟨r, List.mem_of_getElem? hr, ht3⟩
      · refine ps_skip (ps_ops0 mix ?_)
        unfold f12r8
        repeat (first | refine pw_mvt rfl ?_ | refine pw_p rfl rfl ?_)
        refine pw_nil ⟨m - 1, by omega, _, (SubE.cons (k := 1) rfl (SubE.cons (k := 32) rfl (SubE.cons (k := 33) rfl (SubE.cons (k := 34) rfl (SubE.nil _))))), rfl, k + 1, by omega, ?_, ?_⟩
        · rw [wrap_i64 (by omega) (by omega)]; rfl
        · intro i r' hi hr'
          by_cases e : i = k
          · subst e
            rw [hr] at hr'
            obtain rfl := Option.some.inj hr'
            simpa using ht3
          · exact hno i r' (by omega) hr'
    · refine ps_exit (ps_seq (ps_ops0 mix (pw_mvc (pw_nil (ps_ret ⟨_, rfl, ?_⟩)))))
      simp at ht2
      congr 2
      symm
      simp only [validB]
      simp
      refine ⟨by omega, fun r hr => ?_⟩
      obtain ⟨i, hi⟩ := List.getElem?_of_mem hr
      exact hno i r (by have := (List.getElem?_eq_some_iff.1 hi).1; omega) hi
theorem valid_ok {H : Hp} {d : List (List Bool)} {w h : Int} {c : C} (hg : Dots H d (.one c)) : ACalls Tryd.prog 1 12 [.agg [.int .i64 w, .int .i64 h, c]] H fun v H' => v = .bool (validB w h d) ∧ H' = H :=
  (ACalls.pure (valid_ro (hg.le (Le.ro H))) (fun v _ h => by rw [h]; rfl)).mono fun v H' ⟨⟨_, h⟩, e⟩ => ⟨h, e⟩
end Go.Ab.Fn

namespace Go.Ab.Fn
open Go.Ab Go.Proofs
set_option linter.unusedSimpArgs false

theorem rvalid_ro {H : Hp} {d : List (List Bool)} {w h : Int} {c : C} (hg : Dots H d (.one c)) : ACalls Tryd.prog 1 13 [.agg [.int .i64 w, .int .i64 h, c]] H fun v _ => v = .bool (validB w h d) := by
  refine pfn_ok cp13 (by simp [f13]) fun hwf => ?_
  refine ps_seq (ps_ops0 mix ?_)
  refine pw_a rfl rfl (pw_mvc (pw_nil ?_))
  obtain ⟨hw1, hx, hb⟩ := new_box hwf [.int .i64 w, .int .i64 h, c] rfl
  have hg1 := hg.le hx.le
  have c0 := hb.cell (i := 0) rfl
  have c1 := hb.cell (i := 1) rfl
  have c2 := hb.cell (i := 2) rfl
  have hl := hg1.len
  refine ps_seq (ps_seq (ps_ops0 mix ?_))
  unfold f13r1
  repeat (first | refine pw_pick rfl rfl (by first | exact fun _ => rfl | exact fun h => (by simp only [if_pos h]; rfl) | exact fun h => (by simp only [if_pos h]; assumption)) (by first | exact fun _ => rfl | exact fun h => (by simp only [if_pos h]; rfl) | exact fun h => (by simp only [if_pos h]; assumption)) ?_ | refine pw_mvt rfl ?_ | refine pw_p rfl rfl ?_ | refine pw_l1 rfl rfl (by assumption) ?_ | refine pw_pg rfl rfl (by first | exact fun _ => rfl | exact fun _ => (by assumption) | exact fun h => (by simp only [if_pos h]; rfl) | exact fun h => (by simp only [if_pos h]; assumption)) ?_ | refine pw_lg1 rfl rfl (by first | exact fun _ => rfl | exact fun h => (by simp only [if_pos h]; rfl) | exact fun h => (by simp only [if_pos h]; assumption)) (by assumption) ?_)
  refine pw_nil ?_
  refine ps_sub (SubE.cons (k := 1) rfl (SubE.cons (k := 29) rfl (SubE.nil _))) ?_
  generalize (H.push _) = H1 at *
  generalize H.nx = b1 at *
  refine ps_if rfl rfl (fun ht => ?_) (fun ht => ?_)
  · refine ps_seq (ps_ops0 mix (pw_mvc (pw_nil (ps_ret ⟨_, rfl, ?_⟩))))
    congr 2
    symm
    simp only [validB]
    simp at ht ⊢
    omega
  · refine ps_skip (ps_seq (ps_seq (ps_ops0 mix ?_)))
    simp at ht
    unfold f13r3
    repeat (first | refine pw_mvc ?_)
    refine pw_nil (ps_block (ps_loop (fun m E H' => (∀ b i, H'.cell b i = H1.cell b i) ∧ ∃ k : Nat, k + m = d.length ∧ E = [(1, .one (.ptr b1 0)), (3, .int k)] ∧ ∀ i r, i < k → d[i]? = some r → (r.length : Int) = w) (m := d.length) ⟨_, (SubE.cons (k := 1) rfl (SubE.cons (k := 3) rfl (SubE.nil _))), fun _ _ => rfl, 0, by omega, rfl, by omega⟩ ?_))
    rintro m E H' hwf' ⟨hH, k, hk, rfl, hno⟩
    refine ps_seq (ps_seq (ps_ops0 mix ?_))
    replace hg1 := hg1.le (fun b i c h => by rw [hH]; exact h : Le H1 H')
    rw [← hH] at c0 c1 c2
    unfold f13r4
    repeat (first | refine pw_mvt rfl ?_ | refine pw_p rfl rfl ?_ | refine pw_l1 rfl rfl (by assumption) ?_)
    refine pw_nil (ps_if rfl rfl (fun ht2 => ?_) (fun ht2 => ?_))
    · refine ps_skip (ps_seq (ps_block (ps_seq (ps_ops mix ?_))))
      simp at ht2
      obtain ⟨r, hr⟩ : ∃ r, d[k]? = some r := ⟨_, List.getElem?_eq_getElem (by omega)⟩
      obtain ⟨b, o, cr, e1, e2, e3⟩ := hg1.at hr .i64
      have e4 := e3.len
      unfold f13r5
      repeat (first | refine pw_mvt rfl ?_ | refine pw_p rfl rfl ?_ | refine pw_l1 rfl rfl (by assumption) ?_ | refine pw_p rfl (by assumption) ?_)
      refine pw_nil (ps_if rfl rfl (fun ht3 => ?_) (fun ht3 => ?_))
      · refine ps_seq (ps_ops0 mix (pw_mvc (pw_nil (ps_ret ⟨_, rfl, ?_⟩))))
        congr 2
        symm
        simp only [validB]
        simp at ht3 ⊢
        intro _ _ _ _ _
        exact ⟨r, List.mem_of_getElem? hr, ht3⟩
      · refine ps_skip (ps_ops0 mix ?_)
        unfold f13r7
        repeat (first | refine pw_mvt rfl ?_ | refine pw_p rfl rfl ?_)
        refine pw_nil ⟨m - 1, by omega, _, (SubE.cons (k := 1) rfl (SubE.cons (k := 3) rfl (SubE.nil _))), fun b i => hH b i, k + 1, by omega, ?_, ?_⟩
        · rw [wrap_i64 (by omega) (by omega)]; rfl
        · intro i r' hi hr'
          by_cases e : i = k
          · subst e
            rw [hr] at hr'
            obtain rfl := Option.some.inj hr'
            simpa using ht3
          · exact hno i r' (by omega) hr'
    · refine ps_exit (ps_seq (ps_ops0 mix (pw_mvc (pw_nil (ps_ret ⟨_, rfl, ?_⟩)))))
      simp at ht2
      congr 2
      symm
      simp only [validB]
      simp
      refine ⟨by omega, fun r hr => ?_⟩
      obtain ⟨i, hi⟩ := List.getElem?_of_mem hr
      exact hno i r (by have := (List.getElem?_eq_some_iff.1 hi).1; omega) hi
theorem rvalid_ok {H : Hp} {d : List (List Bool)} {w h : Int} {c : C} (hg : Dots H d (.one c)) : ACalls Tryd.prog 1 13 [.agg [.int .i64 w, .int .i64 h, c]] H fun v H' => v = .bool (validB w h d) ∧ H' = H :=
  (ACalls.pure (rvalid_ro (hg.le (Le.ro H))) (fun v _ h => by rw [h]; rfl)).mono fun v H' ⟨⟨_, h⟩, e⟩ => ⟨h, e⟩
end Go.Ab.Fn

namespace Go.Ab.Fn
open Go.Ab Go.Proofs
set_option linter.unusedSimpArgs false

def blank (w h : Nat) : List (List Bool) := List.replicate h (List.replicate w false)
theorem blank_succ (w k : Nat) : blank w (k + 1) = blank w k ++ [List.replicate w false] := by simp [blank, List.replicate_succ']

theorem rnew_ro {H : Hp} {w h : Int} {W K : Nat} (hW : min (max w 0) 200 = W) (hK : min (max h 0) 200 = K) : ACalls Tryd.prog 1 11 [.int w, .int h] H fun v H' => ∃ c, v = .agg [.int .i64 W, .int .i64 K, c] ∧ GOwn H' H.nx H'.nx (blank W K) c := by
  refine pfn_ok cp11 (by simp [f11]) fun hwf => ?_
  refine ps_seq (ps_ops0 mix (pw_a rfl rfl (pw_nil ?_)))
  obtain ⟨hw1, hx, hb⟩ := new_box hwf [.int .i64 0, .int .i64 0, .nils] rfl
  refine ps_seq (ps_ops0 mix ?_)
  unfold f11r1
  repeat (first | refine pw_mvt rfl ?_ | refine pw_max rfl rfl rfl ?_ | refine pw_min rfl rfl rfl ?_ | refine pw_p rfl rfl ?_)
  rw [hW, hK]
  obtain ⟨hw2, hx2, hb2⟩ := new_box hw1 [.int .i64 0, .int .i64 0, .nils] rfl
  obtain ⟨H3, s1, s2, s3, s4⟩ := hb2.stores (cs := [.int .i64 W, .int .i64 K, .nils]) (i := 0) (by simp)
  refine pw_a rfl rfl (pw_stn rfl rfl rfl rfl s1 trivial (pw_nil (ps_seq (ps_seq (ps_ops0 mix (pw_mvc (pw_nil ?_)))))))
  have hbx := (hb.ext hx2).same (s3 _ (by simp))
  have hn3 : H3.nx = H.nx + 2 := by rw [s4]; simp
  refine ps_block (ps_loop (fun m E H' => ∃ k : Nat, k + m = K ∧ ∃ c, E = [(4, .one (.ptr H.nx 0)), (5, .one (.ptr (H.nx + 1) 0)), (6, .int k)] ∧ H.nx + 2 ≤ H'.nx ∧ Row H' H.nx [.int .i64 0, .int .i64 0, .nils] ∧ Row H' (H.nx + 1) [.int .i64 W, .int .i64 K, c] ∧ GOwn H' (H.nx + 2) H'.nx (blank W k) c) (m := K) ⟨_, (SubE.cons (k := 4) rfl (SubE.cons (k := 5) rfl (SubE.cons (k := 6) rfl (SubE.nil _)))), 0, by omega, .nils, rfl, by omega, hbx, s2, GOwn.nil _ _ _⟩ ?_)
  rintro m E H' hwf' ⟨k, hk, c, rfl, hn, r4, r5, hg⟩
  have c0 := r5.cell (i := 0) rfl
  have c1 := r5.cell (i := 1) rfl
  have c2 := r5.cell (i := 2) rfl
  refine ps_seq (ps_seq (ps_ops0 mix ?_))
  unfold f11r3
  repeat (first | refine pw_mvt rfl ?_ | refine pw_p rfl rfl ?_ | refine pw_l1 rfl rfl (by assumption) ?_)
  refine pw_nil (ps_if rfl rfl (fun ht2 => ?_) (fun ht2 => ?_))
  · refine ps_skip (ps_seq (ps_block (ps_ops mix ?_)))
    unfold f11r4
    repeat (first | refine pw_p rfl rfl ?_ | refine pw_l1 rfl rfl (by assumption) ?_)
    simp at ht2
    have hW' : W ≤ 200 := by omega
    have hK' : K ≤ 200 := by omega
    refine pw_mki rfl rfl rfl (by omega) (by omega) (pw_b1i rfl rfl rfl ?_)
    have g4 : ∀ H2 : Hp, (∀ b, b < H'.nx → H2.get b = H'.get b) → GOwn H2 (H.nx + 2) H'.nx (blank W k) c := fun H2 h2 => hg.same fun b _ hb => h2 b hb
    generalize hH2 : Hp.add (Hp.add (Hp.skip H' 9) _ _) _ _ = H2
    have hold : ∀ b, b < H'.nx → H2.get b = H'.get b := fun b hb => by rw [← hH2, Hp.get_add_ne _ _ (by omega), Hp.get_add_ne _ _ (by omega), Hp.get_skip]
    have hrow : Row H2 (H'.nx + 4) ((List.replicate W false).map .bool) := by
      rw [List.map_replicate]
      refine Row.fill ?_
      rw [← hH2, Hp.get_add_ne _ _ (by omega), Hp.get_add_self, Nat.mul_one]
    have hsrc : H2.loads (H'.nx + 5) 0 (1 * 1) = some [.slc (H'.nx + 4) 0 W W 1 true] := by
      refine loads_row (cs := [.slc (H'.nx + 4) 0 W W 1 true]) (rw := true) ?_
      rw [← hH2, Hp.get_add_self]
    have hn2 : H2.nx = H'.nx + 9 := by rw [← hH2]; simp
    have hw2 : WF H2 := by
      intro b bk hb
      by_cases h1 : b < H'.nx
      · omega
      · rw [← hH2] at hb
        rw [Hp.get_add] at hb
        split at hb
        · omega
        · rw [Hp.get_add] at hb
          split at hb
          · omega
          · rw [Hp.get_skip] at hb
            have := hwf' b bk hb
            omega
    obtain ⟨c', H5, a1, a2, a3, a4, a5⟩ := (g4 H2 hold).snoc hw2 (r := List.replicate W false) hn (by omega) hrow (by simp [blank]; omega)
    rw [List.length_replicate] at a1
    refine pw_app rfl rfl rfl (src_row hsrc) a1 trivial ?_
    have r4' := (r4.same (hold _ (by omega))).same (a3 _ (by omega) (.inl (by omega)))
    have r5' := (r5.same (hold _ (by omega))).same (a3 _ (by omega) (.inl (by omega)))
    obtain ⟨H6, t1, t2, t3, t4⟩ := r5'.store (i := 2) (by simp) c'
    refine pw_p rfl rfl (pw_st1 rfl rfl rfl t1 trivial (pw_nil (ps_ops0 mix ?_)))
    unfold f11r5
    repeat (first | refine pw_mvt rfl ?_ | refine pw_p rfl rfl ?_)
    refine pw_nil ⟨m - 1, by omega, _, (SubE.cons (k := 4) rfl (SubE.cons (k := 5) rfl (SubE.cons (k := 6) rfl (SubE.nil _)))), k + 1, by omega, c', ?_, by omega, r4'.same (t3 _ (by omega)), t2, ?_⟩
    · rw [wrap_i64 (by omega) (by omega)]; rfl
    · rw [blank_succ, t4]
      exact a2.same fun b hb _ => t3 b (by omega)
  · simp at ht2
    obtain rfl : k = K := by omega
    obtain ⟨H6, t1, t2, t3, t4⟩ := r4.stores (cs := [.int .i64 W, .int .i64 k, c]) (i := 0) (by simp)
    refine ps_exit (ps_seq (ps_ops0 mix ?_))
    unfold f11r6
    refine pw_ln rfl rfl r5.2 (pw_stn rfl rfl rfl rfl t1 trivial (pw_nil (ps_ret ?_)))
    have hl : H6.loads H.nx 0 3 = some [.int .i64 W, .int .i64 k, c] := t2.2
    refine ⟨.agg [.int .i64 W, .int .i64 k, c], by simp [resultE, resEL, resE, f11, look, setE, aLoad, Opd.ev, hl, isOne], c, rfl, ?_⟩
    rw [t4]
    exact (hg.same fun b hb _ => t3 b (by omega)).lo (by omega)
theorem rnew_ok {H : Hp} {w h : Int} {W K : Nat} (hW : min (max w 0) 200 = W) (hK : min (max h 0) 200 = K) : ACalls Tryd.prog 1 11 [.int w, .int h] H fun v H' => ∃ c, v = .agg [.int .i64 W, .int .i64 K, c] ∧ GOwn H' H.nx H'.nx (blank W K) c ∧ Ext H H' :=
  (ACalls.grow (rnew_ro hW hK)).mono fun v H' ⟨H1, ⟨c, hv, hg⟩, e1, e2, e3, e4, _⟩ => ⟨c, hv, by
    subst e1
    exact (hg.same fun b hb _ => e4 b hb), e3, by subst e1; exact e2⟩
end Go.Ab.Fn

namespace Go.Ab.Fn
open Go.Ab Go.Proofs
set_option linter.unusedSimpArgs false

theorem wrap64 {n : Int} (h1 : -9223372036854775808 ≤ n) (h2 : n < 9223372036854775808) : IntKind.i64.wrap n = n := wrap_i64 h1 h2

/-- the absolute value, in grid -/
theorem abs_ok {H : Hp} {n : Int} (h : -4000000000000000000 < n) (h' : n < 4000000000000000000) : ACalls Tryd.prog 1 55 [.int n] H fun v H' => v = .int (max n (-n)) ∧ H' = H := by
  refine pfn_ok cp55 (by simp [f55]) fun hwf => ?_
  repeat (first | refine pw_mvt rfl ?_ | refine pw_mvc ?_ | refine pw_p rfl rfl ?_ | refine pw_nil ?_ | refine ps_seq ?_ | refine ps_ops0 mix ?_)
  refine ps_if rfl rfl (fun ht => ?_) (fun ht => ?_)
  · repeat (first | refine pw_mvt rfl ?_ | refine pw_p rfl rfl ?_ | refine pw_nil ?_ | refine ps_seq ?_ | refine ps_ops0 mix ?_)
    refine ps_ret ⟨_, rfl, ?_, rfl⟩
    simp at ht
    rw [wrap_i64 (by omega) (by omega)]
    congr 2; omega
  · repeat (first | refine pw_mvt rfl ?_ | refine pw_nil ?_ | refine ps_seq ?_ | refine ps_ops0 mix ?_ | refine ps_skip ?_)
    refine ps_ret ⟨_, rfl, ?_, rfl⟩
    simp at ht
    congr 2; omega
/-- the absolute value, in the reference -/
theorem rabs_ok {H : Hp} {n : Int} (h : -4000000000000000000 < n) (h' : n < 4000000000000000000) : ACalls Tryd.prog 1 43 [.int n] H fun v H' => v = .int (max n (-n)) ∧ H' = H := by
  refine pfn_ok cp43 (by simp [f43]) fun hwf => ?_
  repeat (first | refine pw_mvt rfl ?_ | refine pw_max rfl rfl rfl ?_ | refine pw_mvc ?_ | refine pw_p rfl rfl ?_ | refine pw_nil ?_ | refine ps_seq ?_ | refine ps_ops0 mix ?_)
  refine ps_ret ⟨_, rfl, ?_, rfl⟩
  rw [wrap_i64 (by omega) (by omega)]
  congr 3; omega

def far (p q : Pt) : Int := max (max (p.1 - q.1) (-(p.1 - q.1))) (max (p.2 - q.2) (-(p.2 - q.2)))
def Small (B : Int) (p : Pt) : Prop := -B ≤ p.1 ∧ p.1 ≤ B ∧ -B ≤ p.2 ∧ p.2 ≤ B

theorem apart_ro {H : Hp} {p q : Pt} (hp : Small 1000000000000000000 p) (hq : Small 1000000000000000000 q) : ACalls Tryd.prog 1 41 [ptV p, ptV q] H fun v _ => v = .int (far p q) := by
  obtain ⟨p1, p2, p3, p4⟩ := hp
  obtain ⟨q1, q2, q3, q4⟩ := hq
  refine pfn_ok cp41 (by simp [f41]) fun hwf => ?_
  obtain ⟨hw1, hx1, hb1⟩ := new_box hwf (ptC p) rfl
  obtain ⟨hw2, hx2, hb2⟩ := new_box hw1 (ptC q) rfl
  refine ps_seq (ps_ops0 mix (pw_a rfl rfl (pw_a rfl rfl (pw_mvc (pw_nil ?_)))))
  replace hb1 := hb1.ext hx2
  have c0 := hb1.cell (i := 0) rfl
  have c1 := hb1.cell (i := 1) rfl
  have d0 := hb2.cell (i := 0) rfl
  have d1 := hb2.cell (i := 1) rfl
  generalize ((H.push _).push _) = H2 at *
  refine ps_seq (ps_ops mix ?_)
  repeat (first | refine pw_p rfl rfl ?_ | refine pw_l1 rfl rfl (by assumption) ?_ | refine pw_lk1 rfl rfl (by assumption) ?_)
  rw [wrap_i64 (n := p.1 - q.1) (by omega) (by omega)]
  rw [wrap_i64 (n := p.2 - q.2) (by omega) (by omega)]
  refine pw_cfp rfl rfl (abs_ok (by omega) (by omega)) (by repeat (first | exact trivial | refine ⟨by assumption, ?_⟩)) (pw_cfp rfl rfl (abs_ok (by omega) (by omega)) (by repeat (first | exact trivial | refine ⟨by assumption, ?_⟩)) ?_)
  repeat (first | refine pw_mvt rfl ?_ | refine pw_max rfl rfl rfl ?_ | refine pw_nil ?_)
  exact ps_ret ⟨_, rfl, rfl⟩
theorem apart_ok {H : Hp} {p q : Pt} (hp : Small 1000000000000000000 p) (hq : Small 1000000000000000000 q) : ACalls Tryd.prog 1 41 [ptV p, ptV q] H fun v H' => v = .int (far p q) ∧ H' = H :=
  (ACalls.pure (apart_ro hp hq) (fun v _ h => by rw [h]; rfl)).mono fun v H' ⟨⟨_, h⟩, e⟩ => ⟨h, e⟩
theorem rfar_ro {H : Hp} {p q : Pt} (hp : Small 1000000000000000000 p) (hq : Small 1000000000000000000 q) : ACalls Tryd.prog 1 15 [ptV p, ptV q] H fun v _ => v = .int (far p q) := by
  obtain ⟨p1, p2, p3, p4⟩ := hp
  obtain ⟨q1, q2, q3, q4⟩ := hq
  refine pfn_ok cp15 (by simp [f15]) fun hwf => ?_
  obtain ⟨hw1, hx1, hb1⟩ := new_box hwf (ptC p) rfl
  obtain ⟨hw2, hx2, hb2⟩ := new_box hw1 (ptC q) rfl
  refine ps_seq (ps_ops0 mix (pw_a rfl rfl (pw_a rfl rfl (pw_mvc (pw_nil ?_)))))
  replace hb1 := hb1.ext hx2
  have c0 := hb1.cell (i := 0) rfl
  have c1 := hb1.cell (i := 1) rfl
  have d0 := hb2.cell (i := 0) rfl
  have d1 := hb2.cell (i := 1) rfl
  generalize ((H.push _).push _) = H2 at *
  refine ps_seq (ps_ops mix ?_)
  repeat (first | refine pw_p rfl rfl ?_ | refine pw_l1 rfl rfl (by assumption) ?_ | refine pw_lk1 rfl rfl (by assumption) ?_)
  rw [wrap_i64 (n := p.1 - q.1) (by omega) (by omega)]
  rw [wrap_i64 (n := p.2 - q.2) (by omega) (by omega)]
  refine pw_cfp rfl rfl (rabs_ok (by omega) (by omega)) (by repeat (first | exact trivial | refine ⟨by assumption, ?_⟩)) (pw_cfp rfl rfl (rabs_ok (by omega) (by omega)) (by repeat (first | exact trivial | refine ⟨by assumption, ?_⟩)) ?_)
  repeat (first | refine pw_mvt rfl ?_ | refine pw_max rfl rfl rfl ?_ | refine pw_nil ?_)
  exact ps_ret ⟨_, rfl, rfl⟩
theorem rfar_ok {H : Hp} {p q : Pt} (hp : Small 1000000000000000000 p) (hq : Small 1000000000000000000 q) : ACalls Tryd.prog 1 15 [ptV p, ptV q] H fun v H' => v = .int (far p q) ∧ H' = H :=
  (ACalls.pure (rfar_ro hp hq) (fun v _ h => by rw [h]; rfl)).mono fun v H' ⟨⟨_, h⟩, e⟩ => ⟨h, e⟩

end Go.Ab.Fn

/- Deep contracts: distances. -/
namespace Go.Ab.Fn
open Go.Ab Go.Proofs
set_option linter.unusedSimpArgs false

theorem d_sanity : DK 10 [] fun d => d = .bool true := DCalls.of_pure (vs := []) trivial rfl fun H hH => sanity_ok (hH 0 _ rfl)
theorem d_apart {p q : Pt2} (hp : Small 1000000000000000000 p) (hq : Small 1000000000000000000 q) : DK 41 [ptD p, ptD q] fun d => d = .int (far p q) := DCalls.of_pure (vs := [ptV p, ptV q]) ⟨rfl, rfl, trivial⟩ rfl fun H _ => apart_ok hp hq
theorem d_far {p q : Pt2} (hp : Small 1000000000000000000 p) (hq : Small 1000000000000000000 q) : DK 15 [ptD p, ptD q] fun d => d = .int (far p q) := DCalls.of_pure (vs := [ptV p, ptV q]) ⟨rfl, rfl, trivial⟩ rfl fun H _ => rfar_ok hp hq

theorem aEqs_pt (p q : Pt2) : aEqs [.int .i64 p.1, .int .i64 p.2] [.int .i64 q.1, .int .i64 q.2] [(0, false), (1, false)] = some (decide (p = q)) := by
  obtain ⟨p1, p2⟩ := p
  obtain ⟨q1, q2⟩ := q
  simp only [aEqs, aEq, List.getElem?_cons_zero, List.getElem?_cons_succ, if_true]
  by_cases h1 : p1 = q1
  · by_cases h2 : p2 = q2
    · subst h1; subst h2; simp
    · have e2 : (p2 == q2) = false := by simpa using h2
      subst h1; simp [h2, e2]
  · have e1 : (p1 == q1) = false := by simpa using h1
    simp [h1, e1]
/-- points that are compared -/
theorem d_eqpt {neg : Bool} {E : DEnv} {x y : Opd} {p q : Pt2} (hx : ro E x = some (.agg [.f (.c (.int .i64 p.1)), .f (.c (.int .i64 p.2))])) (hy : ro E y = some (.agg [.f (.c (.int .i64 q.1)), .f (.c (.int .i64 q.2))])) : dPure E (.eqs neg [(0, false), (1, false)] x y) = some (.bool (match neg with | true => !decide (p = q) | false => decide (p = q))) := by
  have ex : exO E x = some (.agg [.int .i64 p.1, .int .i64 p.2]) := by simp [exO, hx, exV, exL, exC]
  have ey : exO E y = some (.agg [.int .i64 q.1, .int .i64 q.2]) := by simp [exO, hy, exV, exL, exC]
  simp only [dPure, dEx, PureOp.opds, allB, isEx, ex, ey, Option.isSome_some, PureOp.mp, rx, aPure, Opd.ev, aEqs_pt]
  cases neg <;> rfl

theorem d_has {l : List Pt2} {p : Pt2} (hn : l.length < 1000000000000) : DK 20 [ptsD l, ptD p] fun d => d = .bool (decide (p ∈ l)) := by
  refine dfn_ok cp20 rfl GHro fun Z0 lo => ?_
  repeat (first | refine dw_p rfl ?_ | refine dw_a rfl ?_ | refine dw_nil ?_ | refine ds_seq ?_ | refine ds_ops mix (fun base => ?_) | refine ds_block ?_)
  refine ds_loop (fun m E S nk => ∃ k : Nat, k + m = l.length ∧ E = [(0, ptsD l), (3, .one (.ptr 0 0)), (5, .int k)] ∧ S = [(0, .cells [.f (.c (.int .i64 p.1)), .f (.c (.int .i64 p.2))])] ∧ nk = 1 ∧ p ∉ l.take k) ⟨l.length, _, _, _, [], ?wk, 0, by omega, rfl, rfl, rfl, by simp⟩ ?_
  case wk => exact ⟨by repeat (first | exact trivial | refine ⟨by first | rfl | exact congrArg (fun z => some (DV.int z)) (dwrap (by omega) (by omega)), rfl, ?_⟩), by repeat (first | exact trivial | refine ⟨by first | rfl | exact congrArg (fun z => some (Bk.data z)) (by assumption), rfl, rfl, ?_⟩), rfl, rfl⟩
  rintro m E S nk ⟨k, hk, rfl, rfl, rfl, hno⟩
  repeat (first | refine dw_p rfl ?_ | refine dw_nil ?_ | refine ds_seq ?_ | refine ds_ops mix (fun base => ?_))
  refine ds_if rfl (fun ht => ?_) (fun ht => ?_)
  · simp at ht
    obtain ⟨q, hq⟩ : ∃ q, l[k]? = some q := ⟨_, List.getElem?_eq_getElem (by omega)⟩
    have e1 := ptF_at hq
    repeat (first | refine dw_p rfl ?_ | refine dw_l rfl ?_ | refine dw_if rfl rfl (by omega) (by decide) (by assumption) ?_ | refine ds_seq ?_ | refine ds_ops mix (fun base => ?_) | refine ds_skip ?_ | refine ds_block ?_)
    refine dw_p (d_eqpt (p := q) (q := p) rfl rfl) ?_
    repeat (first | refine dw_nil ?_)
    refine ds_if rfl (fun ht2 => ?_) (fun ht2 => ?_)
    · simp at ht2
      repeat (first | refine dw_p rfl ?_ | refine dw_nil ?_ | refine ds_seq ?_ | refine ds_ops mix (fun base => ?_))
      refine ds_ret ⟨_, rfl, rfl, ?_⟩
      rw [decide_eq_true (by rw [← ht2]; exact List.mem_of_getElem? hq)]
    · simp at ht2
      repeat (first | refine dw_p rfl ?_ | refine dw_nil ?_ | refine ds_ops mix (fun base => ?_) | refine ds_skip ?_)
      refine ⟨m - 1, by omega, _, _, _, [], ?wk, k + 1, by omega, rfl, rfl, rfl, ?_⟩
      case wk => exact ⟨by repeat (first | exact trivial | refine ⟨by first | rfl | exact congrArg (fun z => some (DV.int z)) (dwrap (by omega) (by omega)), rfl, ?_⟩), by repeat (first | exact trivial | refine ⟨by first | rfl | exact congrArg (fun z => some (Bk.data z)) (by assumption), rfl, rfl, ?_⟩), rfl, rfl⟩
      rw [List.take_add_one, hq]
      simp
      exact ⟨hno, fun h => ht2 h.symm⟩
  · simp at ht
    repeat (first | refine dw_p rfl ?_ | refine dw_nil ?_ | refine ds_seq ?_ | refine ds_ops mix (fun base => ?_) | refine ds_exit ?_)
    refine ds_ret ⟨_, rfl, rfl, ?_⟩
    obtain rfl : k = l.length := by omega
    rw [List.take_length] at hno
    rw [decide_eq_false hno]

def fars (a b : List Pt2) : List Int := a.flatMap fun p => b.map (far p)
def dist (a b : List Pt2) : Int := match a, b with
  | [], _ => -1
  | _, [] => -1
  | p :: _, q :: _ => (fars a b).foldl min (far p q)
def Smalls (l : List Pt2) : Prop := ∀ p ∈ l, Small 1000000000000000000 p


theorem foldl_min_le : ∀ (l : List Int) (x : Int), l.foldl min x ≤ x ∧ ∀ y ∈ l, l.foldl min x ≤ y
  | [], x => ⟨by simp, by simp⟩
  | y :: l, x => by
    have h := foldl_min_le l (min x y)
    simp only [List.foldl_cons]
    refine ⟨by omega, fun z hz => ?_⟩
    rcases List.mem_cons.1 hz with rfl | hz
    · omega
    · exact h.2 z hz
theorem foldl_min_mem : ∀ (l : List Int) (x : Int), l.foldl min x = x ∨ l.foldl min x ∈ l
  | [], x => .inl rfl
  | y :: l, x => by
    simp only [List.foldl_cons]
    rcases foldl_min_mem l (min x y) with h | h
    · rw [h]
      by_cases hxy : x ≤ y
      · exact .inl (by omega)
      · exact .inr (by simp; omega)
    · exact .inr (by simp [h])

theorem d_distance {a b : List Pt2} (ha : Smalls a) (hb : Smalls b) (hn : a.length ≤ 256) (hm : b.length ≤ 256) : DK 19 [ptsD a, ptsD b] fun d => d = .int (dist a b) := by
  refine dfn_ok cp19 rfl GHro fun Z0 lo => ?_
  repeat (first | refine dw_pick rfl (by first | exact fun _ => rfl | exact fun h => (by simp only [if_pos h]; rfl) | exact fun h => (by simp only [h, if_true, if_false]; rfl)) (by first | exact fun _ => rfl | exact fun h => (by simp only [if_pos h]; rfl) | exact fun h => (by simp only [h, if_true, if_false]; rfl)) ?_ | refine dw_p rfl ?_ | refine dw_pg rfl (by first | exact fun _ => rfl | exact fun h => (by simp only [if_pos h]; rfl) | exact fun h => (by simp only [h, if_true, if_false]; rfl)) ?_ | refine dw_nil ?_ | refine ds_seq ?_ | refine ds_ops mix (fun base => ?_))
  refine ds_if rfl (fun ht => ?_) (fun ht => ?_)
  · simp at ht
    repeat (first | refine dw_p rfl ?_ | refine dw_nil ?_ | refine ds_seq ?_ | refine ds_ops mix (fun base => ?_))
    refine ds_ret ⟨_, rfl, rfl, ?_⟩
    cases a with
    | nil => rfl
    | cons p a => cases b with
      | nil => rfl
      | cons q b => simp at ht
  · simp only [Bool.if_true_left, Bool.or_eq_false_iff, decide_eq_false_iff_not, ← List.length_eq_zero_iff] at ht
    simp at ht
    obtain ⟨ht1, ht2⟩ := ht
    obtain ⟨p0, a', rfl⟩ : ∃ q l, a = q :: l := List.exists_cons_of_ne_nil ht1
    obtain ⟨q0, b', rfl⟩ : ∃ q l, b = q :: l := List.exists_cons_of_ne_nil ht2
    have e1 : subL ((p0 :: a').flatMap ptF) (0 * 2) 2 = some (ptF p0) := ptF_at rfl
    have e2 : subL ((q0 :: b').flatMap ptF) (0 * 2) 2 = some (ptF q0) := ptF_at rfl
    have hp0 := ha p0 (by simp)
    have hq0 := hb q0 (by simp)
    have hl1 : 0 < (p0 :: a').length := by simp
    have hl2 : 0 < (q0 :: b').length := by simp
    have hdist : dist (p0 :: a') (q0 :: b') = (fars (p0 :: a') (q0 :: b')).foldl min (far p0 q0) := rfl
    rw [hdist]
    generalize hga : p0 :: a' = a at *
    generalize hgb : q0 :: b' = b at *
    refine ds_keep (SubA.cons (k := 0) rfl (SubA.cons (k := 1) rfl (SubA.nil _))) (SubA.nil _) ?_
    have hle : (a.length : Int) * b.length ≤ 256 * 256 := Int.mul_le_mul (by omega) (by omega) (by omega) (by omega)
    have h0 : (0 : Int) ≤ (a.length : Int) * b.length := Int.mul_nonneg (by omega) (by omega)
    iterate 10 (first | refine dw_p rfl ?_ | refine ds_seq ?_ | refine ds_ops mix (fun base => ?_) | refine ds_skip ?_)
    rw [show decide (IntKind.i64.wrap ((a.length : Int) * b.length) > 65536) = false by rw [dwrap (by omega) (by omega)]; simp; omega]
    repeat (first | refine dw_skip rfl rfl ?_ | refine dw_pickF rfl rfl ?_ | refine dw_p rfl ?_ | refine dw_nil ?_)
    refine ds_if rfl (fun ht => by cases ht) (fun _ => ?_)
    repeat (first | refine dw_p rfl ?_ | refine dw_l rfl ?_ | refine dw_if0 rfl rfl (by omega) (by decide) (by assumption) ?_ | refine ds_seq ?_ | refine ds_ops mix (fun base => ?_) | refine ds_skip ?_)
    refine dw_cf rfl rfl (d_apart hp0 hq0) ?_
    rintro _ rfl
    repeat (first | refine dw_p rfl ?_ | refine dw_nil ?_ | refine ds_seq ?_ | refine ds_ops mix (fun base => ?_) | refine ds_block ?_)
    refine ds_loop (fun m E S nk => ∃ k : Nat, k + m = a.length ∧ E = [(1, ptsD b), (5, .int ((fars (a.take k) b).foldl min (far p0 q0))), (42, ptsD a), (43, .int a.length), (44, .int k)] ∧ S = [] ∧ nk = 0) ⟨a.length, _, _, _, [], ?wk, 0, by omega, rfl, rfl, rfl⟩ ?_
    case wk => exact ⟨by repeat (first | exact trivial | refine ⟨by first | rfl | exact congrArg (fun z => some (DV.int z)) (dwrap (by omega) (by omega)), rfl, ?_⟩), by repeat (first | exact trivial | refine ⟨by first | rfl | exact congrArg (fun z => some (Bk.data z)) (by assumption), rfl, rfl, ?_⟩), rfl, rfl⟩
    rintro m E S nk ⟨k, hk, rfl, rfl, rfl⟩
    repeat (first | refine dw_p rfl ?_ | refine dw_nil ?_ | refine ds_seq ?_ | refine ds_ops mix (fun base => ?_))
    refine ds_if rfl (fun ht => ?_) (fun ht => ?_)
    · simp at ht
      obtain ⟨p, hp⟩ : ∃ q, a[k]? = some q := ⟨_, List.getElem?_eq_getElem (by omega)⟩
      have e3 := ptF_at hp
      have hps := ha p (List.mem_of_getElem? hp)
      repeat (first | refine dw_p rfl ?_ | refine dw_l rfl ?_ | refine dw_if rfl rfl (by omega) (by decide) (by assumption) ?_ | refine dw_a rfl ?_ | refine dw_st rfl rfl rfl rfl rfl (Nat.le_of_ble_eq_true rfl) rfl ?_ | refine dw_nil ?_ | refine ds_seq ?_ | refine ds_ops mix (fun base => ?_) | refine ds_skip ?_ | refine ds_block ?_)
      refine ds_loop (fun m E S nk => ∃ j : Nat, j + m = b.length ∧ E = [(1, ptsD b), (5, .int (((b.take j).map (far p)).foldl min ((fars (a.take k) b).foldl min (far p0 q0)))), (7, .one (.ptr 0 0)), (42, ptsD a), (43, .int a.length), (44, .int k), (48, ptsD b), (49, .int b.length), (50, .int j)] ∧ S = [(0, .cells [.f (.c (.int .i64 p.1)), .f (.c (.int .i64 p.2))])] ∧ nk = 1) ⟨b.length, _, _, _, [], ?wk2, 0, by omega, rfl, rfl, rfl⟩ ?_
      case wk2 => exact ⟨by repeat (first | exact trivial | refine ⟨by first | rfl | exact congrArg (fun z => some (DV.int z)) (dwrap (by omega) (by omega)), rfl, ?_⟩), by repeat (first | exact trivial | refine ⟨by first | rfl | exact congrArg (fun z => some (Bk.data z)) (by assumption), rfl, rfl, ?_⟩), rfl, rfl⟩
      rintro m2 E S nk ⟨j, hj, rfl, rfl, rfl⟩
      repeat (first | refine dw_p rfl ?_ | refine dw_nil ?_ | refine ds_seq ?_ | refine ds_ops mix (fun base => ?_))
      refine ds_if rfl (fun ht2 => ?_) (fun ht2 => ?_)
      · simp at ht2
        obtain ⟨q, hq⟩ : ∃ q, b[j]? = some q := ⟨_, List.getElem?_eq_getElem (by omega)⟩
        have e4 := ptF_at hq
        have hqs := hb q (List.mem_of_getElem? hq)
        repeat (first | refine dw_p rfl ?_ | refine dw_l rfl ?_ | refine dw_if rfl rfl (by omega) (by decide) (by assumption) ?_ | refine dw_a rfl ?_ | refine dw_st rfl rfl rfl rfl rfl (Nat.le_of_ble_eq_true rfl) rfl ?_ | refine dw_nil ?_ | refine ds_seq ?_ | refine ds_ops mix (fun base => ?_) | refine ds_skip ?_ | refine ds_block ?_)
        refine dw_cf rfl rfl (d_apart (p := p) (q := q) hps hqs) ?_
        rintro _ rfl
        repeat (first | refine dw_min rfl rfl ?_ | refine dw_p rfl ?_ | refine dw_nil ?_ | refine ds_ops mix (fun base => ?_))
        have hD : min (((b.take j).map (far p)).foldl min ((fars (a.take k) b).foldl min (far p0 q0))) (far p q) = ((b.take (j + 1)).map (far p)).foldl min ((fars (a.take k) b).foldl min (far p0 q0)) := by
          rw [List.take_add_one, hq]
          simp
        rw [hD]
        refine ⟨m2 - 1, by omega, _, _, _, [], ?wk3, j + 1, by omega, rfl, rfl, rfl⟩
        case wk3 => exact ⟨by repeat (first | exact trivial | refine ⟨by first | rfl | exact congrArg (fun z => some (DV.int z)) (dwrap (by omega) (by omega)), rfl, ?_⟩), by repeat (first | exact trivial | refine ⟨by first | rfl | exact congrArg (fun z => some (Bk.data z)) (by assumption), rfl, rfl, ?_⟩), rfl, rfl⟩
      · simp at ht2
        obtain rfl : j = b.length := by omega
        repeat (first | refine dw_p rfl ?_ | refine dw_nil ?_ | refine ds_ops mix (fun base => ?_) | refine ds_exit ?_)
        have hD : ((b.take b.length).map (far p)).foldl min ((fars (a.take k) b).foldl min (far p0 q0)) = (fars (a.take (k + 1)) b).foldl min (far p0 q0) := by
          rw [List.take_add_one, hp, List.take_length]
          simp [fars]
        rw [hD]
        refine ⟨m - 1, by omega, _, _, _, [], ?wk3, k + 1, by omega, rfl, rfl, rfl⟩
        case wk3 => exact ⟨by repeat (first | exact trivial | refine ⟨by first | rfl | exact congrArg (fun z => some (DV.int z)) (dwrap (by omega) (by omega)), rfl, ?_⟩), by repeat (first | exact trivial | refine ⟨by first | rfl | exact congrArg (fun z => some (Bk.data z)) (by assumption), rfl, rfl, ?_⟩), rfl, rfl⟩
    · simp at ht
      obtain rfl : k = a.length := by omega
      repeat (first | refine dw_p rfl ?_ | refine dw_nil ?_ | refine ds_seq ?_ | refine ds_ops mix (fun base => ?_) | refine ds_exit ?_)
      refine ds_ret ⟨_, rfl, rfl, ?_⟩
      rw [List.take_length]
end Go.Ab.Fn

/- Deep values: parts of slices. -/
namespace Go.Ab
/-- a bound of a slice expression -/
def bnd (E : DEnv) (d : Nat) : Option Opd → Option Nat
  | none => some d
  | some x => match ro E x with
    | some (.one (.f (.c (.int _ (.ofNat i))))) => some i
    | _ => none
section
variable {p : Par} {base rs : Nat} {Q : DEnv → Bx → Nat → Prop} {r : List SOper} {W : Wt} {A : List Nat} {E : DEnv} {S : Bx} {nk : Nat} {id : Nat} {dst : Option Nat} {aid : Option Nat} {ws : List Nat} {keep : Bool}
theorem bnd_ok {Z : Nat → Prop} {β : Beta} {H : Hp} {F : T V} (hE : ER Z β H E F) {d i y : Nat} {x : Option Opd} (h : bnd E d x = some i) (hy : i ≤ y) : aBound F d y x = some i := by
  cases x with
  | none => obtain rfl := Option.some.inj h; simp only [aBound, if_pos hy]
  | some x =>
    simp only [bnd] at h
    split at h
    · rename_i hx
      obtain rfl := Option.some.inj h
      simp only [aBound, int_of hE hx]
      rw [if_pos ⟨Int.natCast_nonneg _, Int.ofNat_le.2 hy⟩]
      rfl
    · cases h
theorem dw_slo {esz : Nat} {x : Opd} {lo hi : Option Opd} {k o n l h o' n' : Nat} (hx : ro E x = some (.one (.own k o n esz))) (hlo : bnd E 0 lo = some l) (hhi : bnd E n hi = some h) (h1 : l ≤ h) (h2 : h ≤ n) (ho : o + l * esz = o') (hn : h - l = n') (hd : DPW p base rs Q r W A (setD E dst (.one (.own k o' n' esz))) S nk) : DPW p base rs Q (⟨id, dst, .p (.slice esz x lo hi none), none, aid, ws, keep⟩ :: r) W A E S nk := by
  subst ho; subst hn
  refine dw_pv (fun {Z β H F} hE => ?_) hd
  obtain ⟨c, hc, hr⟩ := ro_ok hE hx
  rcases hr with ⟨g1, rfl, rfl, rfl⟩ | ⟨b, N, cap, ex, g1, rfl, g2, g3⟩
  · have e1 : h = 0 := by omega
    have e2 : l = 0 := by omega
    subst e1; subst e2
    refine ⟨.one .nils, ?_, _, rfl, .inl ⟨g1, rfl, by simp, rfl⟩⟩
    simp only [aPure, hc, aSlice, bnd_ok hE hlo (Nat.le_refl 0), bnd_ok hE hhi (Nat.le_refl 0)]
    rfl
  · refine ⟨.one (.slc b (o + l * esz) (h - l) (cap - l) esz ex), ?_, _, rfl, .inr ⟨b, N, cap - l, ex, g1, rfl, by omega, ?_⟩⟩
    · have hm : aBound F cap cap none = some cap := by simp [aBound]
      simp only [aPure, hc, aSlice]
      rw [if_neg (by simp), hm]
      simp only [bnd_ok hE hhi (show h ≤ cap by omega), bnd_ok hE hlo h1]
      simp
    · have : (cap - l) * esz + l * esz = cap * esz := by rw [← Nat.add_mul]; congr 1; omega
      omega
theorem dw_slf {esz : Nat} {x : Opd} {lo hi : Option Opd} {n l h n' : Nat} {m q : List FD} (hx : ro E x = some (.one (.f (.sl esz n m)))) (hlo : bnd E 0 lo = some l) (hhi : bnd E n hi = some h) (h1 : l ≤ h) (h2 : h ≤ n) (hn : h - l = n') (hq : subL m (l * esz) (n' * esz) = some q) (hd : DPW p base rs Q r W A (setD E dst (.one (.f (.sl esz n' q)))) S nk) : DPW p base rs Q (⟨id, dst, .p (.slice esz x lo hi none), none, aid, ws, keep⟩ :: r) W A E S nk := by
  subst hn
  refine dw_pv (fun {Z β H F} hE => ?_) hd
  obtain ⟨c, hc, hr⟩ := ro_ok hE hx
  obtain ⟨hle, hqe⟩ := subL_some hq
  cases hr with
  | nil =>
    have e1 : h = 0 := by omega
    have e2 : l = 0 := by omega
    subst e1; subst e2
    obtain rfl : q = [] := by rw [hqe]; simp
    refine ⟨.one .nils, ?_, _, rfl, .nil esz⟩
    simp only [aPure, hc, aSlice, bnd_ok hE hlo (Nat.le_refl 0), bnd_ok hE hhi (Nat.le_refl 0)]
    rfl
  | sl hz hl hcap hld hel =>
    rename_i b o cap ex cs
    have hlen : m.length = cs.length := by rw [hl, loads_len hld]
    refine ⟨.one (.slc b (o + l * esz) (h - l) (cap - l) esz ex), ?_, _, rfl, .sl (cs := (cs.drop (l * esz)).take ((h - l) * esz)) (fun h0 => hz ?_) ?_ (by omega) (loads_at hld (by omega)) fun i d c hd hc => ?_⟩
    · have hm : aBound F cap cap none = some cap := by simp [aBound]
      simp only [aPure, hc, aSlice]
      rw [if_neg (by simp), hm]
      simp only [bnd_ok hE hhi (show h ≤ cap by omega), bnd_ok hE hlo h1]
      simp
    · have : (h - l) * esz ≤ n * esz := Nat.mul_le_mul_right _ (by omega)
      omega
    · rw [hqe, List.length_take, List.length_drop]; omega
    · rw [hqe] at hd
      have ha := ((All2.mk hlen hel).drop (l * esz)).take ((h - l) * esz)
      obtain ⟨c', hc', hr'⟩ := ha.at i d hd
      rw [hc] at hc'
      obtain rfl := Option.some.inj hc'
      exact hr'
end
end Go.Ab

/- Deep contracts: points by rows. -/
namespace Go.Ab.Fn
open Go.Ab Go.Proofs
set_option linter.unusedSimpArgs false

def before (a b : Pt2) : Bool := if decide (a.2 < b.2) = true then true else if (a.2 == b.2) = true then decide (a.1 < b.1) else false
theorem d_before {a b : Pt2} : DK 23 [ptD a, ptD b] fun d => d = .bool (before a b) := by
  refine dfn_ok cp23 rfl GHro fun Z0 lo => ?_
  by_cases h1 : a.2 < b.2
  · have g1 : decide (a.2 < b.2) = true := by simpa using h1
    repeat (first | refine dw_skip rfl rfl ?_ | refine dw_skipU rfl ?_ | refine dw_pickT rfl rfl ?_ | refine dw_pB rfl (by assumption) ?_ | refine dw_p rfl ?_ | refine dw_l rfl ?_ | refine dw_a rfl ?_ | refine dw_nil ?_ | refine ds_seq ?_ | refine ds_ops mix (fun base => ?_))
    exact ds_ret ⟨_, rfl, rfl, by simp [before, h1]⟩
  · have g1 : decide (a.2 < b.2) = false := by simpa using h1
    by_cases h2 : a.2 = b.2
    · have g2 : (a.2 == b.2) = true := by simpa using h2
      repeat (first | refine dw_want rfl rfl ?_ | refine dw_pickT rfl rfl ?_ | refine dw_pickF rfl rfl ?_ | refine dw_pB rfl (by assumption) ?_ | refine dw_p rfl ?_ | refine dw_l rfl ?_ | refine dw_a rfl ?_ | refine dw_nil ?_ | refine ds_seq ?_ | refine ds_ops mix (fun base => ?_))
      exact ds_ret ⟨_, rfl, rfl, by simp [before, h1, h2]⟩
    · have g2 : (a.2 == b.2) = false := by simpa using h2
      repeat (first | refine dw_want rfl rfl ?_ | refine dw_skip rfl rfl ?_ | refine dw_pickF rfl rfl ?_ | refine dw_pB rfl (by assumption) ?_ | refine dw_p rfl ?_ | refine dw_l rfl ?_ | refine dw_a rfl ?_ | refine dw_nil ?_ | refine ds_seq ?_ | refine ds_ops mix (fun base => ?_))
      exact ds_ret ⟨_, rfl, rfl, by simp [before, h1, h2]⟩

def posR (x : Pt2) (out : List Pt2) : Nat → Nat
  | 0 => 0
  | n + 1 => match out[n]? with
    | some z => if before x z = true then posR x out n else n + 1
    | none => n + 1
def insP (x : Pt2) (out : List Pt2) : List Pt2 := out.take (posR x out out.length) ++ [x] ++ out.drop (posR x out out.length)
def addP (out : List Pt2) (x : Pt2) : List Pt2 := if x ∈ out then out else insP x out
def sortedP (l : List Pt2) : List Pt2 := l.foldl addP []
theorem posR_le (x : Pt2) (out : List Pt2) : ∀ n, posR x out n ≤ n
  | 0 => Nat.le_refl 0
  | n + 1 => by
    simp only [posR]
    have := posR_le x out n
    split
    · split <;> omega
    · omega
theorem sortedP_len : ∀ (l out : List Pt2), (l.foldl addP out).length ≤ out.length + l.length
  | [], out => by simp
  | x :: l, out => by
    have := sortedP_len l (addP out x)
    have h2 : (addP out x).length ≤ out.length + 1 := by
      unfold addP
      split
      · omega
      · simp [insP]; omega
    simp only [List.foldl_cons, List.length_cons]
    omega

set_option maxHeartbeats 4000000 in
theorem d_sorted {l : List Pt2} (hn : l.length < 1000000) : DK 22 [ptsD l] fun d => d = ptsD (sortedP l) := by
  refine dfn_ok cp22 rfl GHro fun Z0 lo => ?_
  repeat (first | refine dw_p rfl ?_ | refine dw_a rfl ?_ | refine dw_nil ?_ | refine ds_seq ?_ | refine ds_ops mix (fun base => ?_) | refine ds_block ?_)
  refine ds_loop (fun m E S nk => ∃ k : Nat, k + m = l.length ∧ ∃ out : List Pt2, out = sortedP (l.take k) ∧ E = [(0, ptsD l), (3, .one (.own 0 0 out.length 2)), (4, .int k)] ∧ S = [(0, .data (out.flatMap ptF))] ∧ nk = 1) ⟨l.length, _, _, _, [], ?wk, 0, by omega, [], rfl, rfl, rfl, rfl⟩ ?_
  case wk => exact ⟨by repeat (first | exact trivial | refine ⟨by first | rfl | exact congrArg (fun z => some (DV.int z)) (dwrap (by omega) (by omega)), rfl, ?_⟩), by repeat (first | exact trivial | refine ⟨by first | rfl | exact congrArg (fun z => some (Bk.data z)) (by assumption), rfl, rfl, ?_⟩), rfl, rfl⟩
  rintro m E S nk ⟨k, hk, out, hout, rfl, rfl, rfl⟩
  have hol : out.length ≤ 1000000 := by
    have := sortedP_len (l.take k) []
    rw [hout, sortedP]
    simp at this
    omega
  have hflat := ptF_len out
  repeat (first | refine dw_p rfl ?_ | refine dw_nil ?_ | refine ds_seq ?_ | refine ds_ops mix (fun base => ?_))
  refine ds_if rfl (fun ht => ?_) (fun ht => ?_)
  · simp at ht
    obtain ⟨x, hx⟩ : ∃ x, l[k]? = some x := ⟨_, List.getElem?_eq_getElem (by omega)⟩
    have e1 := ptF_at hx
    have hstep : sortedP (l.take (k + 1)) = addP out x := by
      rw [List.take_add_one, hx, hout, sortedP, sortedP]
      simp
    repeat (first | refine dw_p rfl ?_ | refine dw_l rfl ?_ | refine dw_if rfl rfl (by omega) (by decide) (by assumption) ?_ | refine ds_seq ?_ | refine ds_ops mix (fun base => ?_) | refine ds_skip ?_ | refine ds_block ?_)
    refine dw_cfo (ds := [.one _, ptD x]) rfl ⟨⟨_, rfl, _, _, rfl, subL_all _ hflat, rfl⟩, ⟨_, rfl, ⟨rfl, rfl⟩, ⟨rfl, rfl⟩, trivial⟩, trivial⟩ (d_has (l := out) (p := x) (by omega)) (by rintro _ rfl; rfl) ?_
    rintro _ rfl
    repeat (first | refine dw_nil ?_)
    refine ds_if rfl (fun ht2 => ?_) (fun ht2 => ?_)
    · simp at ht2
      repeat (first | refine dw_p rfl ?_ | refine dw_nil ?_ | refine ds_ops mix (fun base => ?_) | refine ds_exit ?_)
      refine ⟨m - 1, by omega, _, _, _, [], ?wk1, k + 1, by omega, out, ?ho, rfl, rfl, rfl⟩
      case wk1 => exact ⟨by repeat (first | exact trivial | refine ⟨by first | rfl | exact congrArg (fun z => some (DV.int z)) (dwrap (by omega) (by omega)), rfl, ?_⟩), by repeat (first | exact trivial | refine ⟨by first | rfl | exact congrArg (fun z => some (Bk.data z)) (by assumption), rfl, rfl, ?_⟩), rfl, rfl⟩
      case ho => rw [hstep, addP, if_pos ht2]
    · simp at ht2
      repeat (first | refine dw_p rfl ?_ | refine dw_nil ?_ | refine ds_seq ?_ | refine ds_ops mix (fun base => ?_) | refine ds_skip ?_ | refine ds_block ?_)
      refine ds_loop (fun m E S nk => ∃ j : Nat, j = m ∧ j ≤ out.length ∧ posR x out j = posR x out out.length ∧ E = [(0, ptsD l), (3, .one (.own 0 0 out.length 2)), (4, .int k), (5, .int j)] ∧ S = [(0, .data (out.flatMap ptF))] ∧ nk = 1) ⟨out.length, _, _, _, [], ?wk2, out.length, rfl, Nat.le_refl _, rfl, rfl, rfl, rfl⟩ ?_
      case wk2 => exact ⟨by repeat (first | exact trivial | refine ⟨by first | rfl | exact congrArg (fun z => some (DV.int z)) (dwrap (by omega) (by omega)), rfl, ?_⟩), by repeat (first | exact trivial | refine ⟨by first | rfl | exact congrArg (fun z => some (Bk.data z)) (by assumption), rfl, rfl, ?_⟩), rfl, rfl⟩
      rintro m2 E S nk ⟨j, hj, hjl, hpos, rfl, rfl, rfl⟩
      have fin : j = posR x out out.length → ∀ Q : Exit → DEnv → Bx → Nat → Prop, Q .normal [(0, ptsD l), (3, .one (.own 5 0 (insP x out).length 2)), (4, .int k)] [(5, .data ((insP x out).flatMap ptF))] 6 → DPS (Par.base Tryd.prog 1 (H00 1) Z0 lo) f22.n (.seq (.ops f22r8 0) (.seq (.ops f22r9 10) (.ops f22r10 0))) Q [(0, ptsD l), (3, .one (.own 0 0 out.length 2)), (4, .int k), (5, .int j)] [(0, .data (out.flatMap ptF))] 1 := by
        intro hjp Q hQ
        have hsplit : out.flatMap ptF = (out.take j).flatMap ptF ++ (out.drop j).flatMap ptF := by rw [← List.flatMap_append, List.take_append_drop]
        have hlt : ((out.take j).flatMap ptF).length = j * 2 := by rw [ptF_len, List.length_take]; omega
        have hld : ((out.drop j).flatMap ptF).length = (out.length - j) * 2 := by rw [ptF_len, List.length_drop]
        have htake : subL (out.flatMap ptF) 0 (j * 2) = some ((out.take j).flatMap ptF) := by
          rw [subL_of (by omega), hsplit, List.drop_zero, List.take_append_of_le_length (by omega), List.take_of_length_le (by omega)]
        have hdrop : subL (out.flatMap ptF) (j * 2) ((out.length - j) * 2) = some ((out.drop j).flatMap ptF) := by
          rw [subL_of (by omega), hsplit, ← hlt, List.drop_left, List.take_of_length_le (by omega)]
        have hL : j + 1 + (out.length - j) = (insP x out).length := by simp [insP, ← hjp]; omega
        have hD : ((out.take j).flatMap ptF ++ [.c (.int .i64 x.1), .c (.int .i64 x.2)]) ++ (out.drop j).flatMap ptF = (insP x out).flatMap ptF := by
          rw [insP, ← hjp, List.flatMap_append, List.flatMap_append]; rfl
        repeat (first | refine dw_p rfl ?_ | refine dw_a rfl ?_ | refine ds_seq ?_ | refine ds_ops mix (fun base => ?_))
        refine dw_slo (o' := j * 2) (n' := out.length - j) rfl rfl rfl hjl (Nat.le_refl _) (by omega) rfl ?_
        refine dw_app (l' := []) (q := (out.drop j).flatMap ptF) (m := out.length - j) rfl rfl rfl rfl ⟨rfl, rfl, _, rfl, hdrop⟩ (by omega) (by omega) (by decide) rfl ?_
        rw [Nat.zero_add (out.length - j), List.nil_append]
        repeat (first | refine dw_p rfl ?_ | refine dw_nil ?_ | refine ds_seq ?_ | refine ds_ops mix (fun base => ?_))
        refine dw_slo (o' := 0) (n' := j) rfl rfl rfl (Nat.zero_le _) hjl (by omega) (by omega) ?_
        repeat (first | refine dw_p rfl ?_ | refine dw_l rfl ?_ | refine dw_if rfl rfl (by omega) (by decide) (by assumption) ?_ | refine dw_ai rfl rfl rfl ?_)
        refine dw_app (l' := (out.take j).flatMap ptF) (q := [.c (.int .i64 x.1), .c (.int .i64 x.2)]) rfl rfl rfl htake ⟨rfl, rfl, _, rfl, rfl⟩ (by omega) (by omega) (by decide) rfl ?_
        repeat (first | refine dw_p rfl ?_ | refine dw_nil ?_ | refine ds_ops mix (fun base => ?_))
        refine dw_app (q := (out.drop j).flatMap ptF) (m := out.length - j) rfl rfl rfl (subL_all _ (by rw [List.length_append, hlt]; simp; omega)) ⟨rfl, rfl, _, rfl, subL_all _ hld⟩ (by omega) (by omega) (by decide) rfl ?_
        rw [hL, hD]
        refine dw_p rfl ?_
        refine dw_keep (SubA.cons (k := 0) rfl (SubA.cons (k := 3) rfl (SubA.cons (k := 4) rfl (SubA.nil _)))) (SubA.cons (k := 5) rfl (SubA.nil _)) ?_
        exact dw_nil hQ
      by_cases hj0 : j = 0
      · have g0 : decide ((j : Int) > 0) = false := by simp; omega
        repeat (first | refine dw_skip rfl rfl ?_ | refine dw_pickF rfl rfl ?_ | refine dw_pB rfl (by assumption) ?_ | refine dw_p rfl ?_ | refine dw_nil ?_ | refine ds_seq ?_ | refine ds_ops mix (fun base => ?_))
        refine ds_if rfl (fun ht => by cases ht) (fun _ => ?_)
        refine ds_exit ?_
        refine ds_keep (SubA.cons (k := 0) rfl (SubA.cons (k := 3) rfl (SubA.cons (k := 4) rfl (SubA.cons (k := 5) rfl (SubA.nil _))))) (SubA.cons (k := 0) rfl (SubA.nil _)) ?_
        refine fin (by rw [← hpos, hj0]; rfl) _ ?_
        repeat (first | refine dw_p rfl ?_ | refine dw_nil ?_ | refine ds_ops mix (fun base => ?_))
        refine ⟨m - 1, by omega, _, _, _, [(0, 5)], ?wa, k + 1, by omega, insP x out, ?ha, rfl, rfl, rfl⟩
        case wa => exact ⟨by repeat (first | exact trivial | refine ⟨by first | rfl | exact congrArg (fun z => some (DV.int z)) (dwrap (by omega) (by omega)), rfl, ?_⟩), by repeat (first | exact trivial | refine ⟨by first | rfl | exact congrArg (fun z => some (Bk.data z)) (by assumption), rfl, rfl, ?_⟩), rfl, rfl⟩
        case ha => rw [hstep, addP, if_neg ht2]
      · obtain ⟨i, rfl⟩ : ∃ i, j = i + 1 := ⟨j - 1, by omega⟩
        have g0 : decide (((i + 1 : Nat) : Int) > 0) = true := by simp
        obtain ⟨z, hz⟩ : ∃ z, out[i]? = some z := ⟨_, List.getElem?_eq_getElem (by omega)⟩
        have ez := ptF_at hz
        have hp1 : posR x out (i + 1) = if before x z = true then posR x out i else i + 1 := by simp only [posR, hz]
        repeat (first | refine dw_want rfl rfl ?_ | refine dw_pB rfl (by assumption) ?_ | refine dw_p rfl ?_ | refine dw_l rfl ?_ | refine dw_if rfl rfl (by omega) (by decide) (by assumption) ?_ | refine ds_seq ?_ | refine ds_ops mix (fun base => ?_))
        rw [show IntKind.i64.wrap (((i + 1 : Nat) : Int) - 1) = (i : Nat) by rw [dwrap (by omega) (by omega)]; omega]
        repeat (first | refine dw_want rfl rfl ?_ | refine dw_io0 rfl rfl (by omega) (by omega) ?_ | refine dw_l (dload_data rfl rfl (by assumption) rfl) ?_)
        refine dw_cf rfl rfl (d_before (a := x) (b := z)) ?_
        rintro _ rfl
        cases hb : before x z with
        | true =>
          repeat (first | refine dw_pickT rfl rfl ?_ | refine dw_nil ?_)
          refine ds_if rfl (fun _ => ?_) (fun ht => by cases ht)
          repeat (first | refine dw_p rfl ?_ | refine dw_nil ?_ | refine ds_ops mix (fun base => ?_) | refine ds_skip ?_ | refine ds_block ?_)
          rw [show IntKind.i64.wrap (((i + 1 : Nat) : Int) - 1) = (i : Nat) by rw [dwrap (by omega) (by omega)]; omega]
          refine ⟨i, by omega, _, _, _, [], ?wk3, i, rfl, by omega, ?hp, rfl, rfl, rfl⟩
          case wk3 => exact ⟨by repeat (first | exact trivial | refine ⟨by first | rfl | exact congrArg (fun z => some (DV.int z)) (dwrap (by omega) (by omega)), rfl, ?_⟩), by repeat (first | exact trivial | refine ⟨by first | rfl | exact congrArg (fun z => some (Bk.data z)) (by assumption), rfl, rfl, ?_⟩), rfl, rfl⟩
          case hp => rw [← hpos, hp1, if_pos hb]
        | false =>
          repeat (first | refine dw_pickT rfl rfl ?_ | refine dw_nil ?_)
          refine ds_if rfl (fun ht => by cases ht) (fun _ => ?_)
          refine ds_exit ?_
          refine ds_keep (SubA.cons (k := 0) rfl (SubA.cons (k := 3) rfl (SubA.cons (k := 4) rfl (SubA.cons (k := 5) rfl (SubA.nil _))))) (SubA.cons (k := 0) rfl (SubA.nil _)) ?_
          refine fin (by rw [← hpos, hp1, if_neg (by rw [hb]; decide)]) _ ?_
          repeat (first | refine dw_p rfl ?_ | refine dw_nil ?_ | refine ds_ops mix (fun base => ?_))
          refine ⟨m - 1, by omega, _, _, _, [(0, 5)], ?wb, k + 1, by omega, insP x out, ?hb2, rfl, rfl, rfl⟩
          case wb => exact ⟨by repeat (first | exact trivial | refine ⟨by first | rfl | exact congrArg (fun z => some (DV.int z)) (dwrap (by omega) (by omega)), rfl, ?_⟩), by repeat (first | exact trivial | refine ⟨by first | rfl | exact congrArg (fun z => some (Bk.data z)) (by assumption), rfl, rfl, ?_⟩), rfl, rfl⟩
          case hb2 => rw [hstep, addP, if_neg ht2]
  · simp at ht
    refine ds_keep (SubA.cons (k := 3) rfl (SubA.nil _)) (SubA.cons (k := 0) rfl (SubA.nil _)) ?_
    refine ds_frz 0 rfl (by repeat' (first | exact trivial | rfl | assumption | refine ⟨?_, ?_⟩)) (by repeat' (first | exact trivial | rfl | assumption | refine ⟨?_, ?_⟩)) ?_
    repeat (first | refine dw_p rfl ?_ | refine dw_nil ?_ | refine ds_seq ?_ | refine ds_ops mix (fun base => ?_) | refine ds_exit ?_)
    refine ds_ret ⟨_, rfl, rfl, ?_⟩
    rw [List.take_of_length_le (by omega)] at hout
    subst hout
    rfl
end Go.Ab.Fn
