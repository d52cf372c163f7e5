/- Grids: rows of truths. -/
import Derived.Test.YtejpbhindcglpaaDoorAbSc
import Derived.Test.YtejpbhindcglpaaDoorAbPw
namespace Go.Ab

/-- the value is a grid's dots: rows of truths -/
def Dots (H : Hp) (d : List (List Bool)) (v : V) : Prop := ∃ cs, Sl H 1 d.length cs v ∧ All2 (fun (r : List Bool) c => Sl H 1 r.length (r.map .bool) (.one c)) d cs
theorem Dots.le {H H' : Hp} {d : List (List Bool)} {v : V} (h : Dots H d v) (he : Le H H') : Dots H' d v := by
  obtain ⟨cs, h1, h2⟩ := h
  exact ⟨cs, h1.le he, h2.mono fun _ _ h => h.le he⟩
theorem Dots.len {H : Hp} {d : List (List Bool)} {v : V} (h : Dots H d v) : lenV v = some (.int d.length) := by
  obtain ⟨cs, h1, _⟩ := h
  exact h1.len
theorem Dots.at {H : Hp} {d : List (List Bool)} {v : V} (h : Dots H d v) {k : Nat} {r : List Bool} (hk : d[k]? = some r) (kd : IntKind) : ∃ b o c, iaddrV 1 v (.one (.int kd k)) = some (.one (.ptr b o)) ∧ H.cell b o = some c ∧ Sl H 1 r.length (r.map .bool) (.one c) := by
  obtain ⟨cs, h1, h2⟩ := h
  obtain ⟨b, o, e1, e2⟩ := h1.at (List.getElem?_eq_some_iff.1 hk).1 kd
  obtain ⟨c, hc, hs⟩ := h2.at k r hk
  refine ⟨b, o, c, e1, ?_, hs⟩
  have := loads_cell (i := 0) e2 (by omega)
  simp only [Nat.add_zero, Nat.mul_one] at this
  rw [this]
  simpa [List.getElem?_take, List.getElem?_drop] using hc

def validB (w h : Int) (d : List (List Bool)) : Bool := decide (0 ≤ w) && decide (w ≤ 200) && decide (0 ≤ h) && decide (h ≤ 200) && ((d.length : Int) == h) && d.all fun r => (r.length : Int) == w
end Go.Ab
namespace Go.Ab
/-- a variable's new box -/
theorem new_box {H : Hp} (hw : WF H) (cs : List C) {n : Nat} (hn : cs.length = n) : WF (H.push (.row n cs .lf true)) ∧ Ext H (H.push (.row n cs .lf true)) ∧ Row (H.push (.row n cs .lf true)) H.nx cs := by
  subst hn
  exact ⟨hw.push _, Ext.push hw (Ext.refl H) _, Row.new cs⟩
theorem Row.cell {H : Hp} {b : Nat} {l : List C} (h : Row H b l) {i : Nat} {c : C} (hc : l[i]? = some c) : H.cell b i = some c := by
  have := loads_cell (i := i) h.2 (List.getElem?_eq_some_iff.1 hc).1
  rw [Nat.zero_add] at this
  rw [this, hc]
theorem Row.ext {H H' : Hp} {b : Nat} {l : List C} (h : Row H b l) (he : Ext H H') : Row H' b l := by
  obtain ⟨⟨z, m, hg⟩, hl⟩ := h
  exact ⟨⟨z, m, he.get _ _ hg⟩, he.loads hl⟩
end Go.Ab
namespace Go.Ab
theorem wrap_i64 {n : Int} (h1 : -9223372036854775808 ≤ n) (h2 : n < 9223372036854775808) : IntKind.i64.wrap n = n := by
  simp [IntKind.wrap, IntKind.signed, IntKind.bits]
  split <;> omega
end Go.Ab
namespace Go.Ab
/-- A GRID'S DOTS THAT THE CALL MADE: all their blocks lie from lo on below hi, and no two are the same. -/
def GOwn (H : Hp) (lo hi : Nat) (d : List (List Bool)) (c : C) : Prop := ∃ (cs : List C) (bs : List Nat), Own H lo 1 d.length cs (.one c) ∧ (∀ b, ownB (.one c) = some b → b < hi) ∧ bs.length = d.length ∧ bs.Nodup ∧ (∀ b ∈ bs, lo ≤ b ∧ b < hi ∧ ownB (.one c) ≠ some b) ∧
  ∀ (i : Nat) r, d[i]? = some r → ∃ b, bs[i]? = some b ∧ cs[i]? = some (.slc b 0 r.length r.length 1 true) ∧ Row H b (r.map .bool)
theorem Row.sl {H : Hp} {b : Nat} {l : List C} (h : Row H b l) {n cap : Nat} {ex : Bool} (hn : l.length = n) : Sl H 1 n l (.one (.slc b 0 n cap 1 ex)) := ⟨by simp [hn], .inr ⟨b, 0, cap, ex, rfl, by rw [Nat.mul_one, ← hn]; exact h.2⟩⟩
theorem GOwn.dots {H : Hp} {lo hi : Nat} {d : List (List Bool)} {c : C} (h : GOwn H lo hi d c) : Dots H d (.one c) := by
  obtain ⟨cs, bs, h1, _, h2, _, _, h3⟩ := h
  refine ⟨cs, h1.sl, All2.mk (by rw [h1.1]; simp) fun i r x hr hx => ?_⟩
  obtain ⟨b, _, hc, hrow⟩ := h3 i r hr
  rw [hc] at hx
  obtain rfl := Option.some.inj hx
  exact hrow.sl (by simp)
theorem GOwn.nil (H : Hp) (lo hi : Nat) : GOwn H lo hi [] .nils := ⟨[], [], Own.nil H lo 1, fun b h => (by cases h), rfl, List.nodup_nil, fun b h => (by cases h), fun i r h => (by simp at h)⟩
theorem GOwn.same {H H' : Hp} {lo hi : Nat} {d : List (List Bool)} {c : C} (h : GOwn H lo hi d c) (hg : ∀ b, lo ≤ b → b < hi → H'.get b = H.get b) : GOwn H' lo hi d c := by
  obtain ⟨cs, bs, h1, hb, h2, h3, h4, h5⟩ := h
  refine ⟨cs, bs, h1.same fun b e => hg b ?_ (hb b e), hb, h2, h3, h4, fun i r hr => ?_⟩
  · rcases h1.2 with ⟨h, _⟩ | ⟨b', ex, hv, hl, _⟩
    · rw [h] at e; cases e
    · rw [hv] at e; obtain rfl := Option.some.inj e; exact hl
  · obtain ⟨b, e1, e2, e3⟩ := h5 i r hr
    have := h4 b (List.mem_of_getElem? e1)
    exact ⟨b, e1, e2, e3.same (hg b this.1 this.2.1)⟩
theorem GOwn.hi {H : Hp} {lo hi hi' : Nat} {d : List (List Bool)} {c : C} (h : GOwn H lo hi d c) (hh : hi ≤ hi') : GOwn H lo hi' d c := by
  obtain ⟨cs, bs, h1, hb, h2, h3, h4, h5⟩ := h
  exact ⟨cs, bs, h1, fun b e => Nat.lt_of_lt_of_le (hb b e) hh, h2, h3, fun b e => ⟨(h4 b e).1, Nat.lt_of_lt_of_le (h4 b e).2.1 hh, (h4 b e).2.2⟩, h5⟩
theorem GOwn.lo {H : Hp} {lo lo' hi : Nat} {d : List (List Bool)} {c : C} (h : GOwn H lo hi d c) (hh : lo' ≤ lo) : GOwn H lo' hi d c := by
  obtain ⟨cs, bs, h1, hb, h2, h3, h4, h5⟩ := h
  refine ⟨cs, bs, ⟨h1.1, ?_⟩, hb, h2, h3, fun b e => ⟨Nat.le_trans hh (h4 b e).1, (h4 b e).2⟩, h5⟩
  rcases h1.2 with h | ⟨b, ex, hv, hl, hr⟩
  · exact .inl h
  · exact .inr ⟨b, ex, hv, Nat.le_trans hh hl, hr⟩
theorem GOwn.snoc {H : Hp} {lo hi : Nat} {d : List (List Bool)} {c : C} (h : GOwn H lo hi d c) (hw : WF H) {b : Nat} {r : List Bool} (hlo : lo ≤ hi) (hb : hi ≤ b) (hr : Row H b (r.map .bool)) (hd : d.length < 1000000) :
    ∃ c' H', aAppend H 1 24 (.one c) 1 [.slc b 0 r.length r.length 1 true] = some (.one c', H') ∧ GOwn H' lo H'.nx (d ++ [r]) c' ∧ (∀ b', b' < H.nx → (b' < lo ∨ hi ≤ b') → H'.get b' = H.get b') ∧ H'.nx = H.nx + 1 ∧ WF H' := by
  obtain ⟨cs, bs, h1, hbd, h2, h3, h4, h5⟩ := h
  have hbn : b < H.nx := hr.lt hw
  have hlob : ∀ x, ownB (.one c) = some x → lo ≤ x := by
    intro x e
    rcases h1.2 with ⟨h, _⟩ | ⟨b', ex, hv, hl, _⟩
    · rw [h] at e; cases e
    · rw [hv] at e; obtain rfl := Option.some.inj e; exact hl
  obtain ⟨v', H', e1, e2, e3, e4, e5, e6⟩ := h1.append (bytes := 24) hw (by omega) (m := 1) (news := [.slc b 0 r.length r.length 1 true]) rfl (by omega) (by omega) (by omega)
  obtain ⟨c', rfl⟩ : ∃ c', v' = .one c' := by
    rcases e2.2 with ⟨h, _⟩ | ⟨b', ex, hv, _⟩
    · exact ⟨_, h⟩
    · exact ⟨_, hv⟩
  have hold : ∀ b', b' < H.nx → ownB (.one c) ≠ some b' → H'.get b' = H.get b' := fun b' h1 h2 => e4 b' (by omega) h2
  refine ⟨c', H', e1, ⟨cs ++ [.slc b 0 r.length r.length 1 true], bs ++ [b], by simpa using e2, fun x hx => ?_, by simp [h2], ?_, fun x hx => ?_, fun i r' hr' => ?_⟩, fun b' hb' hc => hold b' hb' fun e => ?_, e5, e6⟩
  · rw [e3] at hx; obtain rfl := Option.some.inj hx; omega
  · rw [List.nodup_append]
    refine ⟨h3, by simp, fun x hx y hy e => ?_⟩
    simp at hy
    have := (h4 x hx).2.1
    omega
  · rcases List.mem_append.1 hx with hx | hx
    · have := h4 x hx
      exact ⟨this.1, by omega, by rw [e3]; intro e; have := Option.some.inj e; omega⟩
    · simp at hx
      subst hx
      exact ⟨by omega, by omega, by rw [e3]; intro e; have := Option.some.inj e; omega⟩
  · by_cases hi' : i < d.length
    · rw [List.getElem?_append_left hi'] at hr'
      obtain ⟨x, g1, g2, g3⟩ := h5 i r' hr'
      have hx := h4 x (List.mem_of_getElem? g1)
      refine ⟨x, by rw [List.getElem?_append_left (by omega)]; exact g1, ?_, g3.same (hold x (g3.lt hw) hx.2.2)⟩
      rw [List.getElem?_append_left (List.getElem?_eq_some_iff.1 g2).1]; exact g2
    · have hid : i = d.length := by
        have := (List.getElem?_eq_some_iff.1 hr').1
        simp at this
        omega
      subst hid
      simp at hr'
      subst hr'
      have hcl : cs.length = d.length := by rw [h1.1]; simp
      refine ⟨b, by rw [← h2]; simp, by rw [← hcl]; simp, hr.same (hold b hbn fun e => ?_)⟩
      have := hbd b e
      omega
  · have := hbd b' e
    have := hlob b' e
    omega
end Go.Ab
namespace Go.Ab
theorem validB_blank (w h : Nat) (hw : w ≤ 200) (hh : h ≤ 200) : validB w h (List.replicate h (List.replicate w false)) = true := by
  simp [validB]
  omega
/-- a row of a grid is exchanged -/
theorem Own.setAt {H : Hp} {lo n : Nat} {cs : List C} {c : C} (h : Own H lo 1 n cs (.one c)) {i : Nat} (hi : i < n) (kd : IntKind) (x : C) : ∃ b H', ownB (.one c) = some b ∧ lo ≤ b ∧ iaddrV 1 (.one c) (.one (.int kd i)) = some (.one (.ptr b i)) ∧ H.store b i x = some H' ∧ Own H' lo 1 n (cs.set i x) (.one c) ∧ (∀ b', b' ≠ b → H'.get b' = H.get b') ∧ H'.nx = H.nx := by
  obtain ⟨hl, h⟩ := h
  rcases h with ⟨_, rfl⟩ | ⟨b, ex, hv, hlo, hr⟩
  · omega
  · obtain ⟨H', e1, e2, e3, e4⟩ := hr.store (i := i) (by omega) x
    obtain rfl := V.one.inj hv
    refine ⟨b, H', rfl, hlo, by simp [iaddrV]; omega, e1, ⟨by simp [hl], .inr ⟨b, ex, rfl, hlo, e2⟩⟩, e3, e4⟩
end Go.Ab
namespace Go.Ab
theorem GOwn.setRow {H : Hp} {lo hi : Nat} {d : List (List Bool)} {c : C} (h : GOwn H lo hi d c) {i b : Nat} {r : List Bool} (hi' : i < d.length) (hb : hi ≤ b) (hr : Row H b (r.map .bool)) (kd : IntKind) : ∃ bo H', lo ≤ bo ∧ bo < hi ∧ iaddrV 1 (.one c) (.one (.int kd i)) = some (.one (.ptr bo i)) ∧ H.store bo i (.slc b 0 r.length r.length 1 true) = some H' ∧ (∀ b', b' ≠ bo → H'.get b' = H.get b') ∧ H'.nx = H.nx ∧
    ∀ H'' : Hp, (∀ b', (lo ≤ b' ∧ b' < hi) ∨ b' = b → H''.get b' = H'.get b') → Dots H'' (d.set i r) (.one c) := by
  obtain ⟨cs, bs, h1, hbd, h2, h3, h4, h5⟩ := h
  obtain ⟨bo, H', e1, e2, e3, e4, e5, e6, e7⟩ := h1.setAt hi' kd (.slc b 0 r.length r.length 1 true)
  have hbo := hbd bo e1
  refine ⟨bo, H', e2, hbo, e3, e4, e6, e7, fun H'' hh => ?_⟩
  have o2 : Own H'' lo 1 d.length (cs.set i (.slc b 0 r.length r.length 1 true)) (.one c) := e5.same fun x hx => by
    rw [e1] at hx; obtain rfl := Option.some.inj hx
    exact hh _ (.inl ⟨e2, hbo⟩)
  have hcl : cs.length = d.length := by rw [h1.1]; simp
  refine ⟨cs.set i (.slc b 0 r.length r.length 1 true), by simpa using o2.sl, All2.mk (by simp [hcl]) fun j r' x' hr' hx' => ?_⟩
  by_cases e : j = i
  · subst e
    rw [List.getElem?_set_self (by omega)] at hr' hx'
    obtain rfl := Option.some.inj hr'
    obtain rfl := Option.some.inj hx'
    exact ((hr.same (e6 b (by omega))).same (hh b (.inr rfl))).sl (by simp)
  · rw [List.getElem?_set_ne (fun h => e h.symm)] at hr' hx'
    obtain ⟨bj, g1, g2, g3⟩ := h5 j r' hr'
    rw [g2] at hx'
    obtain rfl := Option.some.inj hx'
    have hj := h4 bj (List.mem_of_getElem? g1)
    exact ((g3.same (e6 bj (fun h => hj.2.2 (by rw [e1, h])))).same (hh bj (.inl ⟨hj.1, hj.2.1⟩))).sl (by simp)
theorem wrap_u8 (z : Int) : 0 ≤ IntKind.u8.wrap z ∧ IntKind.u8.wrap z < 256 := by
  simp [IntKind.wrap, IntKind.signed, IntKind.bits]
  omega
theorem tmod_bd (a : Int) {b : Int} (hb : 0 < b) : -b < a.tmod b ∧ a.tmod b < b := by
  refine ⟨?_, Int.tmod_lt_of_pos a hb⟩
  rcases Int.le_total 0 a with h | h
  · have := Int.tmod_nonneg b h; omega
  · have h1 : (-a).tmod b < b := Int.tmod_lt_of_pos _ hb
    rw [Int.neg_tmod] at h1
    omega
end Go.Ab
