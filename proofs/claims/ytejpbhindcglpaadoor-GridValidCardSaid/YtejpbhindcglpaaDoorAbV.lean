/- Every operation that touches no memory agrees with the model's. -/
import Derived.Test.YtejpbhindcglpaaDoorAbU
namespace Go.Ab
section
variable {P : Program} {G n : Nat} {μ : Nat → Pl} {K : Nat → Prop} {H : Hp} {w : World} {F : T V} {a : Act}

theorem pure_ok (hR : Rel G μ K H w) (hF : FRel μ K n F a.tmps) {o : Oper} {p : PureOp} {v : V} (hc : cpPure P G n o = some p) (h : aPure F p = some v) :
    ∃ x, (execOp a.eval o).run P w = .ok (.value x) w ∧ RV μ K v x := by
  unfold cpPure at hc
  split at hc
  case _ x ho =>
    simp only [Option.map_eq_some_iff] at hc
    obtain ⟨d, hd, rfl⟩ := hc
    simp only [aPure, Option.some.injEq] at h; subst h
    exact ⟨_, by simp [execOp, ho], cO_ok hR hF hd⟩
  case _ x ho =>
    simp only [Option.map_eq_some_iff] at hc
    obtain ⟨d, hd, rfl⟩ := hc
    simp only [aPure, Option.some.injEq] at h; subst h
    exact ⟨_, by simp [execOp, ho], cO_ok hR hF hd⟩
  case _ c x y ho =>
    split at hc
    · rename_i dc dx dy h1 h2 h3
      obtain rfl := Option.some.inj hc
      simp only [aPure] at h
      split at h
      · rename_i t ht
        obtain rfl := Option.some.inj h
        have hc := cO_ok hR hF h1
        rw [ht] at hc
        have hc' : a.eval c = .bool t := hc
        refine ⟨_, by simp [execOp, ho, hc', asBool]; rfl, ?_⟩
        cases t
        · exact cO_ok hR hF h3
        · exact cO_ok hR hF h2
      · cases h
    · cases hc
  case _ t parts ho =>
    split at hc
    · rename_i z pl hz hpl
      simp only [Option.map_eq_some_iff] at hc
      obtain ⟨ps, hps, rfl⟩ := hc
      simp only [aPure, Option.map_eq_some_iff] at h
      obtain ⟨z', hf, rfl⟩ := h
      obtain ⟨cs, hrun, hall⟩ := build_ok (P := P) hR hF hz hpl hps hf
      exact ⟨.agg cs, by simp only [execOp, ho]; exact run_value _ hrun, cs.toList, by simp, hall⟩
    · cases hc
  case _ x ho =>
    simp only [Option.map_eq_some_iff] at hc
    obtain ⟨d, hd, rfl⟩ := hc
    have hv := cO_ok hR hF hd
    simp only [aPure] at h
    split at h
    · rename_i b o' he
      obtain rfl := Option.some.inj h
      rw [he] at hv
      obtain ⟨hk, hv'⟩ : K b ∧ a.eval x = .pointer (some ((μ b).addr o')) := hv
      exact ⟨_, by simp [execOp, ho, hv'], hk, rfl⟩
    · rename_i f cs he
      obtain rfl := Option.some.inj h
      rw [he] at hv
      have hv' := hv
      obtain ⟨hk, hv'⟩ : (∀ p ∈ cs, K p.1) ∧ a.eval x = .func (.func f) #[] (cs.map fun p => Value.pointer (some ((μ p.1).addr p.2))).toArray := hv
      exact ⟨_, by simp [execOp, ho, hv'], hk, rfl⟩
    · cases h
  case _ op t x y yt ho =>
    obtain ⟨r, hr, hrv⟩ := cpBin_ok hR hF hc h
    exact ⟨r, by simp only [execOp, ho]; exact run_value _ hr, hrv⟩
  case _ t x ho =>
    simp only [Option.map_eq_some_iff] at hc
    obtain ⟨d, hd, rfl⟩ := hc
    have hv := cO_ok hR hF hd
    simp only [aPure] at h
    split at h
    · rename_i k m he
      obtain rfl := Option.some.inj h
      rw [he] at hv
      have hv' : a.eval x = .int k m := hv
      exact ⟨_, by simp [execOp, ho, hv', Op.unary, Op.intArith], rfl⟩
    · cases h
  case _ t x ho =>
    simp only [Option.map_eq_some_iff] at hc
    obtain ⟨d, hd, rfl⟩ := hc
    have hv := cO_ok hR hF hd
    simp only [aPure] at h
    split at h
    · rename_i b he
      obtain rfl := Option.some.inj h
      rw [he] at hv
      have hv' : a.eval x = .bool b := hv
      exact ⟨_, by simp [execOp, ho, hv', Op.unary], rfl⟩
    · cases h
  case _ src dst x ho =>
    split at hc
    · rename_i k0 k d hs hd hx
      obtain rfl := Option.some.inj hc
      have hv := cO_ok hR hF hx
      simp only [aPure] at h
      split at h
      · rename_i k' m he
        obtain rfl := Option.some.inj h
        rw [he] at hv
        have hv' : a.eval x = .int k' m := hv
        exact ⟨_, by simp [execOp, ho, hv', convert, run_underlying hs, run_underlying hd, Conv.intToInt], rfl⟩
      · cases h
    · cases hc
  case _ f first caps ho =>
    split at hc
    case isFalse => cases hc
    rename_i hfst
    obtain rfl := Array.eq_empty_of_size_eq_zero hfst
    simp only [Option.map_eq_some_iff] at hc
    obtain ⟨ds, hds, rfl⟩ := hc
    simp only [aPure, Option.map_eq_some_iff] at h
    obtain ⟨l, hl, rfl⟩ := h
    obtain ⟨h1, h2⟩ := caps_ok hR hF hds hl
    refine ⟨.func (.func f) #[] (caps.map a.eval), by simp [execOp, ho, Instr.makeFunc], h1, ?_⟩
    congr 1
    apply Array.ext'
    simpa using h2
  case _ t x lo hi mx ho =>
    split at hc
    · rename_i e d dlo dhi dmx hu hx hlo hhi hmx
      split at hc
      · rename_i s hs
        split at hc
        · cases hc
        · rename_i hm
          obtain rfl := Option.some.inj hc
          obtain ⟨r, hr, hrv⟩ := slice_ok (P := P) hR hF hu hs hx hlo hhi hmx (by cases dmx <;> cases dhi <;> simp_all) h
          exact ⟨r, by simp only [execOp, ho]; exact run_value _ hr, hrv⟩
      · cases hc
    · cases hc
  case _ s x f ho =>
    split at hc
    · rename_i fs d hu hx
      split at hc
      · rename_i fd hfd
        split at hc
        · rename_i k hk
          obtain rfl := Option.some.inj hc
          have hv := cO_ok hR hF hx
          simp only [aPure] at h
          split at h
          · rename_i b o' he
            obtain rfl := Option.some.inj h
            rw [he] at hv
            obtain ⟨hkb, hv'⟩ : K b ∧ a.eval x = .pointer (some ((μ b).addr o')) := hv
            exact ⟨_, by simp [execOp, ho, hv', Instr.fieldAt, run_underlying hu, hfd, Instr.sureAddr, fieldPlace, sizeT_run hk, addr_add], hkb, rfl⟩
          · cases h
        · cases hc
      · cases hc
    · cases hc
  case _ s x f ho =>
    split at hc
    · rename_i fs d hu hx
      split at hc
      · rename_i fd hfd
        split at hc
        · rename_i k g hk hg
          obtain rfl := Option.some.inj hc
          have hv := cO_ok hR hF hx
          simp only [aPure] at h
          split at h
          · rename_i l he
            rw [he] at hv
            obtain ⟨xs, hv', hall⟩ : ∃ xs : List Value, a.eval x = .agg xs.toArray ∧ All2 (RC μ K) l xs := hv
            obtain ⟨r, hr, hrv⟩ := part_ok (w := w) hg hk hall h
            exact ⟨r, by simp [execOp, ho, hv', Instr.field, run_underlying hu, hfd, asAgg, hr], hrv⟩
          · cases h
        · cases hc
      · cases hc
    · cases hc
  case _ t x i ho =>
    split at hc
    · rename_i e d j hu hx hi
      simp only [Option.map_eq_some_iff] at hc
      obtain ⟨s, hs, rfl⟩ := hc
      have hv := cO_ok hR hF hx
      have hvi := cO_ok hR hF hi
      simp only [aPure, iaddrV] at h
      split at h
      · rename_i b o' len cap e' ex k m he hi'
        split at h
        · rename_i hb
          obtain rfl := Option.some.inj h
          rw [he] at hv
          rw [hi'] at hvi
          have hvi' : a.eval i = .int k m := hvi
          obtain ⟨c, hv', _, hk, _⟩ := RC.slc_at hv (by omega)
          exact ⟨_, by simp [execOp, ho, hv', hvi', Instr.indexAt, asIntOf, run_underlying hu, hb.2.1, hb.2.2, sizeT_run hs, addr_add], hk, rfl⟩
        · cases h
      · cases h
    · rename_i len e d j hu hx hi
      simp only [Option.map_eq_some_iff] at hc
      obtain ⟨s, hs, rfl⟩ := hc
      have hv := cO_ok hR hF hx
      have hvi := cO_ok hR hF hi
      simp only [aPure] at h
      split at h
      · rename_i b o' k m he hi'
        split at h
        · rename_i hb
          obtain rfl := Option.some.inj h
          rw [he] at hv
          rw [hi'] at hvi
          have hvi' : a.eval i = .int k m := hvi
          obtain ⟨hk, hv'⟩ : K b ∧ a.eval x = .pointer (some ((μ b).addr o')) := hv
          exact ⟨_, by simp [execOp, ho, hv', hvi', Instr.indexAt, asIntOf, run_underlying hu, Instr.sureAddr, hb.1, hb.2, sizeT_run hs, addr_add], hk, rfl⟩
        · cases h
      · cases h
    · cases hc
  case _ t x i ho =>
    split at hc
    · rename_i len e d j hu hx hi
      split at hc
      · rename_i s g hs hg
        obtain rfl := Option.some.inj hc
        have hv := cO_ok hR hF hx
        have hvi := cO_ok hR hF hi
        simp only [aPure] at h
        split at h
        · rename_i l k m he hi'
          split at h
          · rename_i hb
            rw [he] at hv
            rw [hi'] at hvi
            have hvi' : a.eval i = .int k m := hvi
            obtain ⟨xs, hv', hall⟩ : ∃ xs : List Value, a.eval x = .agg xs.toArray ∧ All2 (RC μ K) l xs := hv
            obtain ⟨r, hr, hrv⟩ := part_ok (w := w) hg hs hall h
            exact ⟨r, by simp [execOp, ho, hv', hvi', Instr.index, asIntOf, run_underlying hu, hb.1, hb.2, sizeT_run hs, hr], hrv⟩
          · cases h
        · cases h
      · cases hc
    · rename_i d j hu hx hi
      obtain rfl := Option.some.inj hc
      have hv := cO_ok hR hF hx
      have hvi := cO_ok hR hF hi
      simp only [aPure] at h
      split at h
      · rename_i s k m he hi'
        split at h
        · rename_i hm
          split at h
          · rename_i b hb
            obtain rfl := Option.some.inj h
            rw [he] at hv
            rw [hi'] at hvi
            have hvi' : a.eval i = .int k m := hvi
            have hv' : a.eval x = .string s := hv
            exact ⟨.int .u8 b.toNat, by simp [execOp, ho, hv', hvi', Instr.index, asIntOf, run_underlying hu, hm, hb], rfl⟩
          · cases h
        · cases h
      · cases h
    · cases hc
  case _ x i ho =>
    simp only [Option.map_eq_some_iff] at hc
    obtain ⟨d, hd, rfl⟩ := hc
    have hv := cO_ok hR hF hd
    simp only [aPure] at h
    split at h
    · rename_i l he
      rw [he] at hv
      obtain ⟨xs, hv', hall⟩ : ∃ xs : List Value, a.eval x = .tuple xs.toArray ∧ All2 (RV1 μ K) l xs := hv
      obtain ⟨r, hr, hrv⟩ := hall.at i v h
      exact ⟨r, by simp [execOp, ho, hv', Instr.extract, hr], RV.of1 hrv⟩
    · cases h
  case _ args ts ho =>
    split at hc
    · rename_i x t hargs hts
      have hargs' : args = #[x] := by cases args; simp_all
      subst hargs'
      have hts' : ts[0]? = some t := hts
      split at hc
      · rename_i e hu
        simp only [Option.map_eq_some_iff] at hc
        obtain ⟨d, hd, rfl⟩ := hc
        have hv := cO_ok hR hF hd
        simp only [aPure, lenV] at h
        split at h
        · rename_i b o' len cap e' ex he
          obtain rfl := Option.some.inj h
          rw [he] at hv
          obtain ⟨_, ad, c, hv', _⟩ : RC μ K (.slc b o' len cap e' ex) (a.eval x) := hv
          exact ⟨.int .i64 len, by simp [execOp, ho, resolve, invoke, builtin, Builtin.len_, hts', hv', run_underlying hu, goInt], rfl⟩
        · rename_i he
          obtain rfl := Option.some.inj h
          rw [he] at hv
          have hv' : a.eval x = .slice none 0 0 := hv
          exact ⟨.int .i64 0, by simp [execOp, ho, resolve, invoke, builtin, Builtin.len_, hts', hv', run_underlying hu, goInt], rfl⟩
        · cases h
      · rename_i k e hu
        obtain rfl := Option.some.inj hc
        simp only [aPure, Option.some.injEq] at h
        subst h
        exact ⟨.int .i64 k, by simp [execOp, ho, resolve, invoke, builtin, Builtin.len_, hts', run_underlying hu, goInt], rfl⟩
      · rename_i hu
        simp only [Option.map_eq_some_iff] at hc
        obtain ⟨d, hd, rfl⟩ := hc
        have hv := cO_ok hR hF hd
        simp only [aPure] at h
        split at h
        · rename_i s he
          obtain rfl := Option.some.inj h
          rw [he] at hv
          have hv' : a.eval x = .string s := hv
          exact ⟨.int .i64 s.size, by simp [execOp, ho, resolve, invoke, builtin, Builtin.len_, hts', hv', run_underlying hu, goInt], rfl⟩
        · cases h
      · cases hc
    · cases hc
  case _ args ts ho =>
    split at hc
    · rename_i x y hargs
      have hargs' : args = #[x, y] := by cases args; simp_all
      subst hargs'
      split at hc
      · rename_i dx dy hx hy
        obtain rfl := Option.some.inj hc
        have vx := cO_ok hR hF hx
        have vy := cO_ok hR hF hy
        simp only [aPure] at h
        split at h
        · rename_i k p k' q ex ey
          split at h
          · rename_i hk
            subst hk
            obtain rfl := Option.some.inj h
            rw [ex] at vx
            rw [ey] at vy
            have e1 : a.eval x = .int k p := vx
            have e2 : a.eval y = .int k q := vy
            exact ⟨.int k (if p < q then q else p), by simp [execOp, ho, resolve, invoke, builtin, Builtin.max_, Builtin.max2, e1, e2], by simp [RV, RV1, RC]⟩
          · cases h
        · cases h
      · cases hc
    · cases hc
  case _ args ts ho =>
    split at hc
    · rename_i x y hargs
      have hargs' : args = #[x, y] := by cases args; simp_all
      subst hargs'
      split at hc
      · rename_i dx dy hx hy
        obtain rfl := Option.some.inj hc
        have vx := cO_ok hR hF hx
        have vy := cO_ok hR hF hy
        simp only [aPure] at h
        split at h
        · rename_i k p k' q ex ey
          split at h
          · rename_i hk
            subst hk
            obtain rfl := Option.some.inj h
            rw [ex] at vx
            rw [ey] at vy
            have e1 : a.eval x = .int k p := vx
            have e2 : a.eval y = .int k q := vy
            exact ⟨.int k (if q < p then q else p), by simp [execOp, ho, resolve, invoke, builtin, Builtin.min_, Builtin.min2, e1, e2], by simp [RV, RV1, RC]⟩
          · cases h
        · cases h
      · cases hc
    · cases hc
  case _ => cases hc
end
end Go.Ab
