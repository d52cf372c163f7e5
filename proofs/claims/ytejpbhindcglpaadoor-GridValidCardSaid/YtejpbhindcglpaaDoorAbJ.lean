/- Operations whose order is open: any order comes to the same. -/
import Derived.Test.YtejpbhindcglpaaDoorAbI
namespace Go.Ab
section
variable {P : Program} {G base : Nat} {Q : T V → Hp → Prop}

abbrev CtxSt := CtxSt0
theorem CtxSt.of {ctx : Ctx} (h : CtxSt ctx) (o : SOper) (op : LoadOp) (F : T V) (v : V) : CtxSt (ctxOf o op F v ctx) := CtxSt0.of h _ _ _ _ _

/-- the rest may be replaced, behind one operation -/
theorem step_mono {o : SOper} {r1 r2 : List SOper} {ctx : Ctx} {F : T V} {H : Hp} {ks : List Nat} (hst : CtxSt ctx) (hf : Free base ks H) (hai : ∀ k, o.aid = some k → k ∉ ks)
    (hr : ∀ ctx v H', CtxSt ctx → Free base ks H' → wOps P G base Q r1 ctx (setO F o.dst v) H' → wOps P G base Q r2 ctx (setO F o.dst v) H') (h : wOps P G base Q (o :: r1) ctx F H) : wOps P G base Q (o :: r2) ctx F H := by
  rcases wOps_inv h with ⟨v, hp, h⟩ | ⟨hw, op, v, hop, hv, h⟩ | ⟨hw, op, bk, g, hop, hv, h⟩ | ⟨hw, op, v, H', hop, hv, hwa, h⟩ | ⟨hw, _, f, args, hc, h⟩
  · exact wOps_plain hp (hr _ _ _ hst hf h)
  · exact wOps_load hw hop hv (hr _ _ _ (CtxSt.of hst _ _ _ _) hf h)
  · exact wOps_alloc hw hop hv (hr _ _ _ hst (hf.of_alloc bk hai) h)
  · exact wOps_eff hw hop hv hwa (hr _ _ _ hst (hf.of_keeps (eff_keeps hv)) h)
  · exact wOps_call hw hc (h.keeps.mono fun v H' hh => ⟨hh.1.1, hr _ _ _ hst (hf.of_keeps hh.2) hh.1.2⟩)

theorem alloc_mut {F : T V} {op : AllocOp} {bk : B} {g : Nat → V} (h : aAlloc F op = some (bk, g)) : bk.mut = true := by
  cases op <;> simp only [aAlloc] at h
  case alloc => simp only [Option.some.injEq, Prod.mk.injEq] at h; rw [← h.1]; rfl
  case mkmap => simp only [Option.some.injEq, Prod.mk.injEq] at h; rw [← h.1]; rfl
  all_goals (split at h <;> try (cases h; done))
  all_goals first
    | (simp only [Option.some.injEq, Prod.mk.injEq] at h; rw [← h.1]; rfl)
    | (split at h
       · simp only [Option.some.injEq, Prod.mk.injEq] at h; rw [← h.1]; rfl
       · cases h)

theorem Plain.blind {s : SOper} {d : Option Nat} (hb : Blind s d) {F : T V} {u v : V} : Plain s (setO F d u) v ↔ Plain s F v := by
  unfold Plain
  rw [hb.wanted]
  constructor
  · rintro (h | ⟨hw, op, hop, hv⟩)
    · exact .inl h
    · exact .inr ⟨hw, op, hop, by rwa [hb.pure F u op hop] at hv⟩
  · rintro (h | ⟨hw, op, hop, hv⟩)
    · exact .inl h
    · exact .inr ⟨hw, op, hop, by rwa [hb.pure F u op hop]⟩

theorem callOf_blind {s : SOper} {d : Option Nat} (hb : Blind s d) {F : T V} {u : V} : callOf P s.op (setO F d u) = callOf P s.op F := by
  cases hop : s.op with
  | cf f args => simp only [callOf, hb.cf F u f args hop]
  | cv x args => obtain ⟨h1, h2⟩ := hb.cv F u x args hop; simp only [callOf, h1, h2]
  | _ => rfl

/-- an operation that needs no heap has a value -/
def HasVal (x : SOper) (F : T V) : Prop := wantedA x.guard F = true → (∀ op, x.op = .p op → ∃ v, aPure F op = some v) ∧ (∀ op, x.op = .a op → ∃ bg, aAlloc F op = some bg)

theorem HasVal.blind {x : SOper} {d : Option Nat} (hb : Blind x d) {F : T V} {u : V} : HasVal x (setO F d u) ↔ HasVal x F := by
  unfold HasVal
  rw [hb.wanted]
  constructor
  · intro h hw
    refine ⟨fun op hop => ?_, fun op hop => ?_⟩
    · have := (h hw).1 op hop; rwa [hb.pure _ _ _ hop] at this
    · have := (h hw).2 op hop; rwa [hb.alloc _ _ _ hop] at this
  · intro h hw
    refine ⟨fun op hop => ?_, fun op hop => ?_⟩
    · rw [hb.pure _ _ _ hop]; exact (h hw).1 op hop
    · rw [hb.alloc _ _ _ hop]; exact (h hw).2 op hop

/-- TWO NEIGHBOURS ARE EXCHANGED. -/
theorem swap {y x : SOper} {r : List SOper} {ctx : Ctx} {F : T V} {H : Hp} (hok : swapOk y x = true) (hst : CtxSt ctx) (hval : HasVal x F) (hfr : ∀ k, (x.aid = some k ∨ y.aid = some k) → base + k < H.nx ∧ H.get (base + k) = none)
    (h : wOps P G base Q (y :: x :: r) ctx F H) : wOps P G base Q (x :: y :: r) ctx F H := by
  unfold swapOk at hok
  rw [Bool.and_eq_true] at hok
  obtain ⟨htm, hkd⟩ := hok
  obtain ⟨t1, t2⟩ := tmOk_spec htm
  have bx : Blind x y.dst := Blind.mk' fun k hk => ⟨(t1 k hk).1, (t1 k hk).2.1⟩
  have by_ : Blind y x.dst := Blind.mk' fun k hk => t2 k hk
  have hcomm : ∀ (F : T V) (u v : V), setO (setO F y.dst u) x.dst v = setO (setO F x.dst v) y.dst u := fun F u v => setO_comm fun k hk => (t1 k hk).2.2
  rcases wOps_inv h with ⟨vy, hpy, h⟩ | ⟨hwy, opy, vy, hopy, hvy, h⟩ | ⟨hwy, opy, bky, gy, hopy, hvy, h⟩ | ⟨hwy, opy, vy, Hy, hopy, hvy, hway, h⟩ | ⟨hwy, hky, fy, argsy, hcy, h⟩
  · -- y is plain
    rcases wOps_inv h with ⟨vx, hpx, h⟩ | ⟨hwx, opx, vx, hopx, hvx, h⟩ | ⟨hwx, opx, bkx, gx, hopx, hvx, h⟩ | ⟨hwx, opx, vx, Hx, hopx, hvx, hwax, h⟩ | ⟨hwx, hkx, fx, argsx, hcx, h⟩
    · rw [Plain.blind bx] at hpx
      exact wOps_plain hpx (wOps_plain ((Plain.blind by_).2 hpy) (by rw [← hcomm]; exact h))
    · rw [bx.wanted] at hwx
      rw [bx.load _ _ _ _ hopx] at hvx
      refine wOps_load hwx hopx hvx (wOps_plain ((Plain.blind by_).2 hpy) ?_)
      rw [← hcomm]
      refine ctx_mono (fun z hz => ?_) h
      unfold ctxOf at hz ⊢
      cases hk : x.keep with
      | false => simp only [hk, Bool.false_eq_true, if_false] at hz ⊢; exact hz
      | true =>
        simp only [hk, if_true, List.mem_cons] at hz ⊢
        rcases hz with rfl | hz
        · left
          congr 1
          funext H'
          rw [bx.load _ _ _ _ hopx]
        · exact .inr hz
    · rw [bx.wanted] at hwx
      rw [bx.alloc _ _ _ hopx] at hvx
      exact wOps_alloc hwx hopx hvx (wOps_plain ((Plain.blind by_).2 hpy) (by rw [← hcomm]; exact h))
    · rw [bx.wanted] at hwx
      rw [bx.eff _ _ _ _ hopx] at hvx
      exact wOps_eff hwx hopx hvx hwax (wOps_plain ((Plain.blind by_).2 hpy) (by rw [← hcomm]; exact h))
    · rw [bx.wanted] at hwx
      rw [callOf_blind bx] at hcx
      exact wOps_call hwx hcx (h.mono fun v H' hh => ⟨hh.1, wOps_plain ((Plain.blind by_).2 hpy) (by rw [← hcomm]; exact hh.2)⟩)
  · -- y loads
    have hyl : ∀ (F' : T V) (v : V) (H' : Hp), F' = setO F x.dst v → aLoad F H' opy = some vy → ∀ c, (∀ z, z ∈ c → z ∈ ctx) → wOps P G base Q r (ctxOf y opy F vy c) (setO F' y.dst vy) H' → wOps P G base Q (y :: r) c F' H' := by
      rintro F' v H' rfl hv c hc hh
      refine wOps_load (by rw [by_.wanted]; exact hwy) hopy (by rw [by_.load _ _ _ _ hopy]; exact hv) ?_
      refine ctx_mono (fun z hz => ?_) hh
      unfold ctxOf at hz ⊢
      cases hk : y.keep with
      | false => simp only [hk, Bool.false_eq_true, if_false] at hz ⊢; exact hz
      | true =>
        simp only [hk, if_true, List.mem_cons] at hz ⊢
        rcases hz with rfl | hz
        · left
          congr 1
          funext H'
          rw [by_.load _ _ _ _ hopy]
        · exact .inr hz
    rcases wOps_inv h with ⟨vx, hpx, h⟩ | ⟨hwx, opx, vx, hopx, hvx, h⟩ | ⟨hwx, opx, bkx, gx, hopx, hvx, h⟩ | ⟨hwx, opx, vx, Hx, hopx, hvx, hwax, h⟩ | ⟨hwx, hkx, fx, argsx, hcx, h⟩
    · rw [Plain.blind bx] at hpx
      exact wOps_plain hpx (hyl _ vx H rfl hvy ctx (fun _ h => h) (by rw [← hcomm]; exact h))
    · rw [bx.wanted] at hwx
      rw [bx.load _ _ _ _ hopx] at hvx
      refine wOps_load hwx hopx hvx ?_
      refine wOps_load (by rw [by_.wanted]; exact hwy) hopy (by rw [by_.load _ _ _ _ hopy]; exact hvy) ?_
      rw [← hcomm]
      refine ctx_mono (fun z hz => ?_) h
      unfold ctxOf at hz ⊢
      have e1 : ∀ u : V, (fun H' => aLoad (setO F y.dst u) H' opx = some vx) = fun H' => aLoad F H' opx = some vx := fun u => by funext H'; rw [bx.load _ _ _ _ hopx]
      have e2 : ∀ u : V, (fun H' => aLoad (setO F x.dst u) H' opy = some vy) = fun H' => aLoad F H' opy = some vy := fun u => by funext H'; rw [by_.load _ _ _ _ hopy]
      rw [e2] at hz
      rw [e1]
      cases hk : y.keep <;> cases hk' : x.keep <;> simp only [hk, hk', Bool.false_eq_true, if_false, if_true, List.mem_cons] at hz ⊢
      · exact hz
      · exact hz
      · exact hz
      · rcases hz with hz | hz | hz
        · exact .inr (.inl hz)
        · exact .inl hz
        · exact .inr (.inr hz)
    · rw [bx.wanted] at hwx
      rw [bx.alloc _ _ _ hopx] at hvx
      rw [hopy, hopx] at hkd
      simp only [SOp.kd] at hkd
      obtain ⟨k, hk⟩ := Option.isSome_iff_exists.1 hkd
      have hfree := hfr k (.inl hk)
      refine wOps_alloc hwx hopx hvx ?_
      refine hyl _ _ _ rfl ?_ ctx (fun _ h => h) (by rw [← hcomm]; exact h)
      unfold allocHp
      simp only [hk]
      exact load_add hfree.2 hvy
    · rw [bx.wanted] at hwx
      rw [bx.eff _ _ _ _ hopx] at hvx
      rw [hopy, hopx] at hkd
      simp only [SOp.kd, Bool.and_eq_true] at hkd
      have hwat : aLoad F Hx opy = some vy := by
        have hmem : y.id ∈ x.watch := by simpa using hkd.2
        cases hws : x.watch with
        | nil => rw [hws] at hmem; cases hmem
        | cons a l =>
          rw [hws] at hwax hmem
          exact hwax y.id hmem (fun H' => aLoad F H' opy = some vy) (by unfold ctxOf; rw [if_pos hkd.1]; exact List.mem_cons_self ..)
      refine wOps_eff hwx hopx hvx (watch_mono (fun z hz => ?_) hwax) (hyl _ vx Hx rfl hwat ctx (fun _ h => h) (by rw [← hcomm]; exact h))
      unfold ctxOf
      split
      · exact List.mem_cons_of_mem _ hz
      · exact hz
    · rw [bx.wanted] at hwx
      rw [callOf_blind bx] at hcx
      rw [hopy, hkx] at hkd
      simp only [SOp.kd, Bool.and_eq_true] at hkd
      have hmem : y.id ∈ x.watch := by simpa using hkd.2
      refine wOps_call hwx hcx (h.mono fun v H' hh => ?_)
      have hwat : aLoad F H' opy = some vy := by
        have hwax := hh.1
        cases hws : x.watch with
        | nil => rw [hws] at hmem; cases hmem
        | cons a l =>
          rw [hws] at hwax hmem
          exact hwax y.id hmem (fun H' => aLoad F H' opy = some vy) (by unfold ctxOf; rw [if_pos hkd.1]; exact List.mem_cons_self ..)
      refine ⟨watch_mono (fun z hz => ?_) hh.1, hyl _ v H' rfl hwat ctx (fun _ h => h) (by rw [← hcomm]; exact hh.2)⟩
      unfold ctxOf
      split
      · exact List.mem_cons_of_mem _ hz
      · exact hz
  · -- y makes a block
    rcases wOps_inv h with ⟨vx, hpx, h⟩ | ⟨hwx, opx, vx, hopx, hvx, h⟩ | ⟨hwx, opx, bkx, gx, hopx, hvx, h⟩ | ⟨hwx, opx, vx, Hx, hopx, hvx, hwax, h⟩ | ⟨hwx, hkx, fx, argsx, hcx, h⟩
    · rw [Plain.blind bx] at hpx
      exact wOps_plain hpx (wOps_alloc (by rw [by_.wanted]; exact hwy) hopy (by rw [by_.alloc _ _ _ hopy]; exact hvy) (by rw [← hcomm]; exact h))
    · rw [hopy, hopx] at hkd; simp [SOp.kd] at hkd
    · rw [bx.wanted] at hwx
      rw [bx.alloc _ _ _ hopx] at hvx
      rw [hopy, hopx] at hkd
      simp only [SOp.kd, Bool.and_eq_true] at hkd
      obtain ⟨k, hk⟩ := Option.isSome_iff_exists.1 hkd.1.1
      obtain ⟨j, hj⟩ := Option.isSome_iff_exists.1 hkd.1.2
      have hne : k ≠ j := by
        have := hkd.2
        rw [hk, hj] at this
        simpa using this
      refine wOps_alloc hwx hopx hvx (wOps_alloc (by rw [by_.wanted]; exact hwy) hopy (by rw [by_.alloc _ _ _ hopy]; exact hvy) ?_)
      rw [← hcomm]
      have e1 : allocAt base x (allocHp base y H bky) = allocAt base x H := by unfold allocAt; simp only [hj]
      have e2 : allocAt base y (allocHp base x H bkx) = allocAt base y H := by unfold allocAt; simp only [hk]
      have e3 : allocHp base y (allocHp base x H bkx) bky = allocHp base x (allocHp base y H bky) bkx := by
        unfold allocHp
        simp only [hk, hj]
        unfold Hp.add
        rw [T.set_comm _ _ _ (show base + j ≠ base + k by omega)]
      rw [e2, e3]
      rw [e1] at h
      exact h
    · rw [hopy, hopx] at hkd; simp [SOp.kd] at hkd
    · rw [hopy, hkx] at hkd; simp [SOp.kd] at hkd
  · -- y writes
    rcases wOps_inv h with ⟨vx, hpx, h⟩ | ⟨hwx, opx, vx, hopx, hvx, h⟩ | ⟨hwx, opx, bkx, gx, hopx, hvx, h⟩ | ⟨hwx, opx, vx, Hx, hopx, hvx, hwax, h⟩ | ⟨hwx, hkx, fx, argsx, hcx, h⟩
    · rw [Plain.blind bx] at hpx
      exact wOps_plain hpx (wOps_eff (by rw [by_.wanted]; exact hwy) hopy (by rw [by_.eff _ _ _ _ hopy]; exact hvy) hway (by rw [← hcomm]; exact h))
    · rw [hopy, hopx] at hkd; simp [SOp.kd] at hkd
    · rw [hopy, hopx] at hkd; simp [SOp.kd] at hkd
    · rw [hopy, hopx] at hkd; simp [SOp.kd] at hkd
    · rw [hopy, hkx] at hkd; simp [SOp.kd] at hkd
  · -- y calls
    -- what x is, before the call's outcome is known
    cases hwx : wantedA x.guard F with
    | false =>
      refine wOps_plain (.inl ⟨hwx, rfl⟩) (wOps_call (by rw [by_.wanted]; exact hwy) (by rw [callOf_blind by_]; exact hcy) (h.mono fun v H' hh => ⟨hh.1, ?_⟩))
      rw [← hcomm]
      have h2 := hh.2
      rw [wOps, bx.wanted, hwx] at h2
      simpa using h2
    | true =>
      cases hopx : x.op with
      | p op =>
        -- its value does not hang on the call
        obtain ⟨vx, hv⟩ := (hval hwx).1 op hopx
        refine wOps_plain (v := vx) (.inr ⟨hwx, op, hopx, hv⟩) (wOps_call (by rw [by_.wanted]; exact hwy) (by rw [callOf_blind by_]; exact hcy) (h.mono fun v H' hh => ⟨hh.1, ?_⟩))
        rw [← hcomm]
        have h2 := hh.2
        rw [wOps, bx.wanted, hwx] at h2
        simp only [if_true, hopx, bx.pure _ _ _ hopx, hv] at h2
        exact h2
      | a op =>
        obtain ⟨⟨bk, g⟩, hv⟩ := (hval hwx).2 op hopx
        rw [hky, hopx] at hkd
        simp only [SOp.kd] at hkd
        obtain ⟨k, hk⟩ := Option.isSome_iff_exists.1 hkd
        obtain ⟨hlt, hnone⟩ := hfr k (.inl hk)
        refine wOps_alloc hwx hopx hv (wOps_call (by rw [by_.wanted]; exact hwy) (by rw [callOf_blind by_]; exact hcy) ?_)
        have e1 : allocHp base x H bk = H.add (base + k) bk := by unfold allocHp; simp only [hk]
        have e2 : allocAt base x H = base + k := by unfold allocAt; simp only [hk]
        rw [e1, e2]
        refine (h.keeps.frame hlt hnone (alloc_mut hv)).mono ?_
        rintro v H'' ⟨H', ⟨⟨hw1, hw2⟩, hnx, hfree⟩, rfl⟩
        refine ⟨?_, ?_⟩
        · -- what is watched is still there
          have := hw1
          cases hws : y.watch with
          | nil => trivial
          | cons a l =>
            rw [hws] at this
            exact fun j hj p hp => hst j p hp _ _ _ (hfree _ hlt hnone) (this j hj p hp)
        · rw [← hcomm]
          rw [wOps, bx.wanted, hwx] at hw2
          simp only [if_true, hopx, bx.alloc _ _ _ hopx, hv, hk] at hw2
          exact hw2
      | l op => rw [hky, hopx] at hkd; simp [SOp.kd] at hkd
      | e op => rw [hky, hopx] at hkd; simp [SOp.kd] at hkd
      | cf f args => rw [hky, hopx] at hkd; simp [SOp.kd] at hkd
      | cv f args => rw [hky, hopx] at hkd; simp [SOp.kd] at hkd

/-- AN OPERATION IS DRAWN TO THE FRONT. -/
theorem pull {x : SOper} {post : List SOper} : ∀ {pre : List SOper} {ctx : Ctx} {F : T V} {H : Hp}, (∀ y ∈ pre, swapOk y x = true) → CtxSt ctx → HasVal x F →
    (∀ k ∈ (pre ++ [x]).filterMap (·.aid), base + k < H.nx ∧ H.get (base + k) = none) → ((pre ++ [x]).filterMap (·.aid)).Nodup →
    wOps P G base Q (pre ++ x :: post) ctx F H → wOps P G base Q (x :: (pre ++ post)) ctx F H
  | [], _, _, _, _, _, _, _, _, h => h
  | y :: pre, ctx, F, H, hok, hst, hval, hfr, hnd, h => by
    have hy := hok y (by simp)
    have hb : Blind x y.dst := by
      have := hy
      unfold swapOk at this
      rw [Bool.and_eq_true] at this
      obtain ⟨t1, _⟩ := tmOk_spec this.1
      exact Blind.mk' fun k hk => ⟨(t1 k hk).1, (t1 k hk).2.1⟩
    have hfm : ∀ k, y.aid = some k → k ∉ (pre ++ [x]).filterMap (·.aid) := fun k hk => by
      simp only [List.cons_append, List.filterMap_cons, hk, List.nodup_cons] at hnd
      exact hnd.1
    have hnd' : ((pre ++ [x]).filterMap (·.aid)).Nodup := by
      simp only [List.cons_append, List.filterMap_cons] at hnd
      cases hy' : y.aid with
      | none => rw [hy'] at hnd; exact hnd
      | some k => rw [hy'] at hnd; exact (List.nodup_cons.1 hnd).2
    have hfr' : Free base ((pre ++ [x]).filterMap (·.aid)) H := fun k hk => hfr k (by
      simp only [List.cons_append, List.filterMap_cons]
      cases y.aid with
      | none => exact hk
      | some j => exact List.mem_cons_of_mem _ hk)
    have h1 : wOps P G base Q (y :: x :: (pre ++ post)) ctx F H := step_mono hst hfr' hfm (fun ctx' v H' hst' hf' hh => pull (fun z hz => hok z (by simp [hz])) hst' ((HasVal.blind hb).2 hval) hf' hnd' hh) h
    refine swap hy hst hval (fun k hk => ?_) h1
    rcases hk with hk | hk
    · exact hfr' k (by simp [hk])
    · exact hfr k (by simp [hk])
end
end Go.Ab
