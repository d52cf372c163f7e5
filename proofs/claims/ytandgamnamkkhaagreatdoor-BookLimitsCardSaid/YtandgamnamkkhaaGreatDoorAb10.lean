/- Contracts of functions of the program over the abstract semantics. -/
import Derived.Test.YtandgamnamkkhaaGreatDoorAb9
set_option linter.unusedVariables false
set_option linter.unusedSimpArgs false
namespace Go.Ab
section
variable {P : Program} {G n base : Nat} {QP : Hp -> Prop} {Q : T V -> Hp -> Prop}
theorem wpOp_const {ρ : Option (Option Nat)} {nn : Nat} {ops : Array Oper} {i : Nat} {a : Act} {w : World} {T : Prop} (h : wpOpIn (fen ρ) nn P ops (fun _ _ _ => False) i (fun _ _ => T) a w) : T := by
  unfold wpOpIn at h
  split at h
  · exact h
  · rename_i o ho
    split at h
    · unfold Oper.wpIn at h
      replace h := h.2
      generalize (o.semAt (fen ρ).round a.eval).run P w = r at h
      cases r with
      | ok nx w' =>
        cases nx <;> simp only [Oper.uponIn] at h <;> first
          | exact h
          | (obtain ⟨_, h⟩ := h
             obtain ⟨e, w'', fr, hR, _⟩ := h.2 [] fen_room
             cases e with
             | returned v => exact hR
             | panicked c => exact hR.elim
             | outgrown => obtain ⟨_, _, hh⟩ := hR; exact hh.elim)
          | (obtain ⟨_, h⟩ := h
             obtain ⟨e, w'', hR, _⟩ := h.2 default [] fen_room
             cases e with
             | returned v => exact hR
             | panicked c => exact hR.elim
             | outgrown => obtain ⟨_, _, hh⟩ := hR; exact hh.elim)
          | (obtain ⟨v, w'', hR, _⟩ := h.2 default [] fen_room; exact hR)
          | exact h.elim
      | halt hh w' => cases hh <;> simp only [Oper.uponIn] at h <;> first|exact h.elim|exact h
    · exact h.2
theorem hasVal_head {x : SOper} {post : List SOper} {ctx : Ctx} {F : T V} {H : Hp} (h : wOps P G base QP Q (x :: post) ctx F H) : HasVal x F := by
  intro hw
  rw [wOps, hw] at h
  simp only [if_true] at h
  refine ⟨fun op hop => ?_, fun op hop => ?_⟩
  · rw [hop] at h
    simp only at h
    cases hv : aPure F op with
    | none => simp [hv] at h
    | some v => exact ⟨v, rfl⟩
  · rw [hop] at h
    simp only at h
    cases hv : aAlloc F op with
    | none => simp [hv] at h
    | some v => exact ⟨v, rfl⟩
theorem reach {ops : Array Oper} {x : SOper} {post : List SOper} {μ0 : Nat -> Pl} {K0 : Nat -> Prop} {H0 : Hp} {w0 : World} (hlt0 : ∀ b bk, H0.get b = some bk -> b < H0.nx) :
    ∀ {pre : List SOper} {idx : List Nat} {ctx : Ctx} {F : T V} {H : Hp} {μ : Nat -> Pl} {K : Nat -> Prop} {a : Act} {w : World}, Aligned P G n ops idx pre -> (∀ y ∈ pre, Blind x y.dst) -> ((∀ H, ¬ QP H) \/ ∀ y ∈ pre, y.op.isC = false) -> Rel G μ K H w -> FRel μ K n F a.tmps -> Fr μ0 K0 H0 w0 μ K H w ->
      (∀ y ∈ pre, ∀ k, y.aid = some k -> ¬ K (base + k) /\ base + k < H.nx /\ H0.nx <= base + k) -> (pre.filterMap (·.aid)).Nodup ->
      wOps P G base QP Q (pre ++ x :: post) ctx F H -> HasVal x F
  | [], [], ctx, F, H, μ, K, a, w, _, _, _, _, _, _, _, _, h => hasVal_head h
  | y :: pre, i :: idx, ctx, F, H, μ, K, a, w, hal, hbl, hqp, hR, hF, hFr, hrs, hnd, h => by
    obtain ⟨⟨o, ho, hfit⟩, hal'⟩ := hal
    have key : wpOpIn (fen none) 0 P ops (fun _ _ _ => False) i (fun _ _ => HasVal x F) a w := by
      refine op_ok hlt0 ho hfit hR hF hFr (hrs y (by simp)) h (fun μ' K' F' H' a' w' ctx' h1 h2 h3 _ h5 h6 h7 _ h8 => ?_) fun μ' K' H' w' ch hc hq _ _ _ _ => hqp.elim (fun h => h _ hq) fun h => by rw [h y (by simp)] at hc; cases hc
      obtain ⟨v, rfl⟩ := h7
      have hnd' : (pre.filterMap (·.aid)).Nodup /\ ∀ k, y.aid = some k -> k ∉ pre.filterMap (·.aid) := by
        simp only [List.filterMap_cons] at hnd
        cases hy : y.aid with
        | none => rw [hy] at hnd; exact ⟨hnd, by simp⟩
        | some k => rw [hy] at hnd; exact ⟨(List.nodup_cons.1 hnd).2, fun j hj => by obtain rfl := Option.some.inj hj; exact (List.nodup_cons.1 hnd).1⟩
      have := reach hlt0 hal' (fun z hz => hbl z (by simp [hz])) (hqp.imp id fun h z hz => h z (by simp [hz])) h1 h2 h3 (fun z hz k hk => by
        obtain ⟨g1, g2, g3⟩ := hrs z (by simp [hz]) k hk
        refine ⟨fun hk' => ?_, by omega, g3⟩
        rcases h6 _ g2 hk' with h|⟨j, hj, he⟩
        · exact g1 h
        · exact hnd'.2 j hj (by
            have : j = k := by omega
            rw [this]
            exact List.mem_filterMap.2 ⟨z, hz, hk⟩)) hnd'.1 h8
      exact (HasVal.blind (hbl y (by simp))).1 this
    exact wpOp_const key
  | [], _ :: _, _, _, _, _, _, _, _, h, _, _, _, _, _, _, _, _ => h.elim
  | _ :: _, [], _, _, _, _, _, _, _, h, _, _, _, _, _, _, _, _ => h.elim
def swapS (b : Bool) (y x : SOper) : Bool := swapOk y x && !(b && y.op.isC)
def PairsOk (b : Bool) (D : Nat -> List Nat) : List Nat -> List SOper -> Prop
  | i :: idx, s :: l => (∀ j t, (j, t) ∈ idx.zip l -> i ∈ D j \/ swapS b s t = true) /\ PairsOk b D idx l
  | _, _ => True
theorem Aligned.len {ops : Array Oper} : ∀ {idx : List Nat} {l : List SOper}, Aligned P G n ops idx l -> idx.length = l.length
  | [], [], _ => rfl
  | _ :: _, _ :: _, h => by simp [Aligned.len h.2]
  | [], _ :: _, h => h.elim
  | _ :: _, [], h => h.elim
theorem Aligned.split {ops : Array Oper} {b : Bool} {D : Nat -> List Nat} : ∀ {idx : List Nat} {l : List SOper} {i : Nat}, Aligned P G n ops idx l -> PairsOk b D idx l -> i ∈ idx ->
    ∃ pi qi pre x post, idx = pi ++ i :: qi /\ l = pre ++ x :: post /\ Aligned P G n ops pi pre /\ (∃ o, ops[i]? = some o /\ Fits P G n ops o x) /\ Aligned P G n ops (pi ++ qi) (pre ++ post) /\ PairsOk b D (pi ++ qi) (pre ++ post) /\
      (∀ y ∈ pre, ∃ j ∈ pi, j ∈ D i \/ swapS b y x = true)
  | j :: idx, s :: l, i, hal, hp, hi => by
    by_cases e : i = j
    · subst e
      exact ⟨[], idx, [], s, l, rfl, rfl, trivial, hal.1, hal.2, hp.2, by simp⟩
    · have hi' : i ∈ idx := by
        rcases List.mem_cons.1 hi with h|h
        · exact absurd h e
        · exact h
      obtain ⟨pi, qi, pre, x, post, h1, h2, h3, h4, h5, h6, h7⟩ := Aligned.split hal.2 hp.2 hi'
      have hl1 : pi.length = pre.length := h3.len
      refine ⟨j :: pi, qi, s :: pre, x, post, by rw [h1]; rfl, by rw [h2]; rfl, ⟨hal.1, h3⟩, h4, ⟨hal.1, h5⟩, ⟨fun j' t hjt => hp.1 j' t ?_, h6⟩, fun y hy => ?_⟩
      · rw [h1, h2, List.zip_append hl1]
        have hjt' : (j', t) ∈ (pi ++ qi).zip (pre ++ post) := hjt
        rw [List.zip_append hl1] at hjt'
        rcases List.mem_append.1 hjt' with h|h
        · exact List.mem_append.2 (.inl h)
        · exact List.mem_append.2 (.inr (by simp [h]))
      · rcases List.mem_cons.1 hy with rfl|hy
        · refine ⟨j, by simp, hp.1 i x ?_⟩
          rw [h1, h2, List.zip_append hl1]
          exact List.mem_append.2 (.inr (by simp))
        · obtain ⟨j', hj', hh⟩ := h7 y hy
          exact ⟨j', by simp [hj'], hh⟩
  | [], _, _, _, _, hi => by cases hi
  | _ :: _, [], _, hal, _, _ => hal.elim
theorem any_ok {ρ : Option (Option Nat)} {nn : Nat} {DD : List Deferred} {ops : Array Oper} {b : Bool} {F0 : T V} {ds : List Nat} {D : Nat -> List Nat} {μ0 : Nat -> Pl} {K0 : Nat -> Prop} {H0 : Hp} {w0 : World} (hlt0 : ∀ b bk, H0.get b = some bk -> b < H0.nx) {Q' : Exit -> Act -> World -> Prop}
    (hQ : ∀ μ K F H a w, Q F H -> Rel G μ K H w -> FRel μ K n F a.tmps -> Fr μ0 K0 H0 w0 μ K H w -> (∀ t, t ∉ ds -> F.get t = F0.get t) -> a.defers = DD -> Q' .normal a w)
    (hP : ∀ μ K F H a w ch, QP H -> okCh ch -> Rel G μ K H w -> FRel μ K n F a.tmps -> Fr μ0 K0 H0 w0 μ K H w -> (∀ t, t ∉ ds -> F.get t = F0.get t) -> a.defers = DD -> Q' (.panic ch) a w) (hb : b = true \/ ∀ H, ¬ QP H)
    (hD : ∀ i o, ops[i]? = some o -> ∀ j ∈ D i, ∃ e ∈ o.after.toList, Region.binds .any e = true /\ (e.on = j \/ j ∈ D e.on))
    (hlow : ∀ i o, ops[i]? = some o -> ∀ e ∈ o.after.toList, Region.binds .any e = true -> e.on < i) :
    ∀ {fuel : Nat} {listed : Array Bool} {idx : List Nat} {l : List SOper} {ctx : Ctx} {F : T V} {H : Hp} {μ : Nat -> Pl} {K : Nat -> Prop} {a : Act} {w : World},
      listed.size = ops.size -> (∀ i, i < ops.size -> (listed.getD i true = false ↔ i ∈ idx)) -> (∀ i ∈ idx, i < ops.size) -> idx.Nodup -> idx.length <= fuel ->
      (∀ i, i < ops.size -> i ∉ idx -> ∀ j ∈ D i, j ∉ idx) -> Aligned P G n ops idx l -> PairsOk b D idx l -> (l.filterMap (·.aid)).Nodup -> CtxSt ctx ->
      (∀ s ∈ l, ∀ k, s.aid = some k -> ¬ K (base + k) /\ base + k < H.nx /\ H0.nx <= base + k) ->
      Rel G μ K H w -> FRel μ K n F a.tmps -> Fr μ0 K0 H0 w0 μ K H w -> (∀ s ∈ l, ∀ d, s.dst = some d -> d ∈ ds) -> (∀ t, t ∉ ds -> F.get t = F0.get t) -> a.defers = DD -> wOps P G base QP Q l ctx F H -> wpAnyIn (fen ρ) nn P .any ops Q' fuel listed a w := by
  intro fuel
  induction fuel with
  | zero =>
    intro listed idx l ctx F H μ K a w hsz hlist hin hnd hlen hdc hal hp haid hst hrs hR hF hFr hdd hag hd h
    have hidx : idx = [] := List.eq_nil_of_length_eq_zero (by omega)
    subst hidx
    cases l with
    | cons s l => exact hal.elim
    | nil =>
      refine ⟨?_, hQ μ K F H a w h hR hF hFr hag hd⟩
      unfold Region.ready
      rw [List.filter_eq_nil_iff]
      intro i hi
      have hi' : i < ops.size := by simpa using hi
      have := (hlist i hi').1
      cases hl : listed.getD i true with
      | true => simp
      | false => exact absurd (this hl) (by simp)
  | succ fuel ih =>
    intro listed idx l ctx F H μ K a w hsz hlist hin hnd hlen hdc hal hp haid hst hrs hR hF hFr hdd hag hd h
    refine ⟨fun hready => ?_, fun i hi => ?_⟩
    · -- nothing is ready: then nothing is left
      have hidx : idx = [] := by
        cases hid : idx with
        | nil => rfl
        | cons i0 rest =>
          exfalso
          obtain ⟨m, hm, hmin⟩ : ∃ m ∈ idx, ∀ j ∈ idx, m <= j := by
            have : ∀ (l : List Nat), l ≠ [] -> ∃ m ∈ l, ∀ j ∈ l, m <= j := by
              intro l
              induction l with
              | nil => intro h; exact absurd rfl h
              | cons x l ihl =>
                intro _
                by_cases hl : l = []
                · subst hl; exact ⟨x, by simp, by simp⟩
                · obtain ⟨m, hm, hmin⟩ := ihl hl
                  by_cases hx : x <= m
                  · exact ⟨x, by simp, fun j hj => by
                      rcases List.mem_cons.1 hj with rfl|hj
                      · exact Nat.le_refl _
                      · exact Nat.le_trans hx (hmin j hj)⟩
                  · exact ⟨m, by simp [hm], fun j hj => by
                      rcases List.mem_cons.1 hj with rfl|hj
                      · omega
                      · exact hmin j hj⟩
            exact this idx (by rw [hid]; simp)
          have hms := hin m hm
          have hmr : m ∈ Region.ready .any ops listed := by
            unfold Region.ready
            rw [List.mem_filter]
            refine ⟨by simpa using hms, ?_⟩
            rw [(hlist m hms).2 hm]
            have ho : ops[m]? = some ops[m] := Array.getElem?_eq_getElem hms
            rw [ho]
            simp only [Bool.not_false, Bool.true_and, Option.map_some, Option.getD_some]
            rw [Array.all_eq_true_iff_forall_mem]
            intro e he
            cases hb : Region.binds .any e with
            | false => rfl
            | true =>
              have hlt := hlow m _ ho e (by simpa using he) hb
              have hes : e.on < ops.size := by omega
              have hne : e.on ∉ idx := fun h => absurd (hmin _ h) (by omega)
              have hl : listed.getD e.on true ≠ false := fun h => hne ((hlist _ hes).1 h)
              have hsz' : e.on < listed.size := by rw [hsz]; exact hes
              simp [hsz'] at hl ⊢
              exact hl
          rw [hready] at hmr
          cases hmr
      subst hidx
      cases l with
      | cons s l => exact hal.elim
      | nil => exact hQ μ K F H a w h hR hF hFr hag hd
    · -- one that is ready is drawn to the front
      unfold Region.ready at hi
      rw [List.mem_filter] at hi
      obtain ⟨hi1, hi2⟩ := hi
      have his : i < ops.size := by simpa using hi1
      rw [Bool.and_eq_true] at hi2
      have hun : listed.getD i true = false := by simpa using hi2.1
      have hii : i ∈ idx := (hlist i his).1 hun
      obtain ⟨pi, qi, pre, x, post, e1, e2, g1, ⟨o, ho, hfit⟩, g3, g4, g5⟩ := Aligned.split hal hp hii
      have hdeps : ∀ e ∈ o.after.toList, Region.binds .any e = true -> e.on ∉ idx := by
        intro e he hb
        have h2 := hi2.2
        rw [ho] at h2
        simp only [Option.map_some, Option.getD_some] at h2
        rw [Array.all_eq_true_iff_forall_mem] at h2
        have h3 := h2 e (by simpa using he)
        rw [hb] at h3
        simp only [Bool.not_true, Bool.false_or] at h3
        have hes : e.on < ops.size := by have := hlow i o ho e he hb; omega
        intro hmem
        have h4 := (hlist _ hes).2 hmem
        have hsz' : e.on < listed.size := by rw [hsz]; exact hes
        simp [hsz'] at h3 h4
        rw [h3] at h4
        cases h4
      have hDi : ∀ j ∈ D i, j ∉ idx := by
        intro j hj
        obtain ⟨e, he, hb, hej⟩ := hD i o ho j hj
        have hen := hdeps e he hb
        rcases hej with rfl|hej
        · exact hen
        · exact hdc e.on (by have := hlow i o ho e he hb; omega) hen j hej
      have hsw0 : ∀ y ∈ pre, swapS b y x = true := by
        intro y hy
        obtain ⟨j, hj, hh⟩ := g5 y hy
        rcases hh with hh|hh
        · exact absurd (by rw [e1]; simp [hj]) (hDi j hh)
        · exact hh
      have hsw : ∀ y ∈ pre, swapOk y x = true := fun y hy => by
        have := hsw0 y hy
        unfold swapS at this
        rw [Bool.and_eq_true] at this
        exact this.1
      have hqp : (∀ H, ¬ QP H) \/ ∀ y ∈ pre, y.op.isC = false := by
        rcases hb with rfl|hb
        · refine .inr fun y hy => ?_
          have := hsw0 y hy
          unfold swapS at this
          rw [Bool.and_eq_true] at this
          simpa using this.2
        · exact .inl hb
      have hbl : ∀ y ∈ pre, Blind x y.dst := fun y hy => by
        have := hsw y hy
        unfold swapOk at this
        rw [Bool.and_eq_true] at this
        obtain ⟨t1, _⟩ := tmOk_spec this.1
        exact Blind.mk' fun k hk => ⟨(t1 k hk).1, (t1 k hk).2.1⟩
      rw [e2] at h haid hrs hdd
      have hfm : (pre ++ x :: post).filterMap (·.aid) = (pre ++ [x]).filterMap (·.aid) ++ post.filterMap (·.aid) := by
        rw [show pre ++ x :: post = (pre ++ [x]) ++ post by simp, List.filterMap_append]
      have hnd1 : ((pre ++ [x]).filterMap (·.aid)).Nodup := by rw [hfm] at haid; exact (List.nodup_append.1 haid).1
      have hval : HasVal x F := reach hlt0 g1 hbl hqp hR hF hFr (fun y hy k hk => hrs y (by simp [hy]) k hk) (by
        rw [List.filterMap_append] at hnd1; exact (List.nodup_append.1 hnd1).1) h
      have hfree : ∀ k ∈ (pre ++ [x]).filterMap (·.aid), base + k < H.nx /\ H.get (base + k) = none := by
        intro k hk
        obtain ⟨s, hs, hk'⟩ := List.mem_filterMap.1 hk
        have hs' : s ∈ pre ++ x :: post := by
          rcases List.mem_append.1 hs with h|h
          · simp [h]
          · simp at h; subst h; simp
        obtain ⟨r1, r2, r3⟩ := hrs s hs' k hk'
        refine ⟨r2, ?_⟩
        cases hg : H.get (base + k) with
        | none => rfl
        | some bk => exact absurd (hR.dom _ _ hg) r1
      have h' := pull hsw hqp hst hval hfree hnd1 h
      refine op_ok hlt0 ho hfit hR hF hFr (hrs x (by simp)) h' (fun μ' K' F' H' a' w' ctx' k1 k2 k3 k4 k5 k6 k7 k8 k9 => ?_) fun μ' K' H' w' ch _ q1 q2 q3 q4 q5 => hP μ' K' F H' a w' ch q1 q2 q3 q4 q5 hag hd
      have hidxlen : (pi ++ qi).length + 1 = idx.length := by rw [e1]; simp; omega
      have hndi : (pi ++ qi).Nodup /\ i ∉ pi ++ qi := by
        rw [e1] at hnd
        have hperm : (pi ++ i :: qi).Perm (i :: (pi ++ qi)) := List.perm_middle
        have := (hperm.nodup_iff).1 hnd
        exact ⟨(List.nodup_cons.1 this).2, (List.nodup_cons.1 this).1⟩
      have hmem : ∀ j, j ∈ pi ++ qi ↔ j ∈ idx /\ j ≠ i := by
        intro j
        rw [e1]
        constructor
        · intro hj
          refine ⟨?_, fun e => hndi.2 (e ▸ hj)⟩
          rcases List.mem_append.1 hj with h|h
          · simp [h]
          · simp [h]
        · rintro ⟨hj, hne⟩
          rcases List.mem_append.1 hj with h|h
          · simp [h]
          · rcases List.mem_cons.1 h with h|h
            · exact absurd h hne
            · simp [h]
      have haid' : ((pre ++ post).filterMap (·.aid)).Nodup /\ ∀ k, x.aid = some k -> k ∉ (pre ++ post).filterMap (·.aid) := by
        have hperm : (pre ++ x :: post).Perm (x :: (pre ++ post)) := List.perm_middle
        have h1 := ((hperm.filterMap (·.aid)).nodup_iff).1 haid
        simp only [List.filterMap_cons] at h1
        cases hx : x.aid with
        | none => rw [hx] at h1; exact ⟨h1, by simp⟩
        | some k => rw [hx] at h1; exact ⟨(List.nodup_cons.1 h1).2, fun j hj => by obtain rfl := Option.some.inj hj; exact (List.nodup_cons.1 h1).1⟩
      refine ih (by simpa using hsz) (fun j hj => ?_) (fun j hj => hin j ((hmem j).1 hj).1) hndi.1 (by omega) (fun j hj hjn k hk => ?_) g3 g4 haid'.1 (k8 hst) (fun s hs k hk => ?_) k1 k2 k3 (fun s hs d hsd => hdd s (by rcases List.mem_append.1 hs with h|h <;> simp [h]) d hsd) (fun t ht => ?_) (k4.trans hd) k9
      · rw [hmem]
        by_cases e : j = i
        · subst e
          have : (listed.setIfInBounds j true).getD j true = true := by
            have : j < listed.size := by rw [hsz]; exact his
            simp [this]
          rw [this]
          simp
        · have : (listed.setIfInBounds i true).getD j true = listed.getD j true := by
            simp only [Array.getD_eq_getD_getElem?]
            rw [Array.getElem?_setIfInBounds_ne (fun h => e h.symm)]
          rw [this, hlist j hj]
          simp [e]
      · -- still closed downwards
        rw [hmem] at hjn
        intro hkm
        have hkm' := ((hmem k).1 hkm).1
        by_cases e : j = i
        · subst e; exact hDi k hk hkm'
        · have hji : j ∉ idx := fun h => hjn ⟨h, e⟩
          exact hdc j hj hji k hk hkm'
      · have hs' : s ∈ pre ++ x :: post := by
          rcases List.mem_append.1 hs with h|h
          · simp [h]
          · simp [h]
        obtain ⟨r1, r2, r3⟩ := hrs s hs' k hk
        refine ⟨fun hk' => ?_, by omega, r3⟩
        rcases k6 _ r2 hk' with h|⟨j, hj, he⟩
        · exact r1 h
        · exact haid'.2 j hj (by
            have : j = k := by omega
            rw [this]
            exact List.mem_filterMap.2 ⟨s, hs, hk⟩)
      · obtain ⟨v, rfl⟩ := k7
        rw [<- hag t ht]
        cases hsd : x.dst with
        | none => rfl
        | some d => exact T.get_set_ne _ _ fun e => by subst e; exact ht (hdd x (by simp) _ hsd)
end
end Go.Ab

namespace Go.Ab
section
variable {P : Program} {G n : Nat} {ρ : Option (Option Nat)} {μ : Nat -> Pl} {K : Nat -> Prop} {H H' : Hp} {w : World}
theorem DkL.put {s : Nat} {r : Nat} : ∀ {D : List Deferred} {L : List V}, DkL μ K s w D L -> r ∉ D.filterMap markR -> ∀ o, DkL μ K s (w.putObj r o) D L
 | [], _, h, _, _ => h
 | d :: D, L, hd, hr, o => by
  rcases hd with ⟨r', rfl, h1, h2, h3⟩|⟨f, caps, L', h1, h2, rfl, h3⟩
  ·have hr' : r ≠ r' /\ r ∉ D.filterMap markR := by
    have : r ∉ r' :: D.filterMap markR := hr
    simpa using this
   refine .inl ⟨r', rfl, h1, ?_, DkL.put h3 hr'.2 o⟩
   rw [World.putObj_heap_other (fun e => hr'.1 e.symm)]
   exact h2
  ·exact .inr ⟨f, caps, L', h1, h2, rfl, DkL.put h3 hr o⟩
theorem Rel.mark (hR : Rel G μ K H w) {r : Nat} {ds : Option (List Deferred)} (hr : w.heap[r]? = some (.deferred ds)) (o : Obj) : Rel G μ K H (w.putObj r o) :=
 ⟨hR.dom, hR.lt, fun b bk hb => by
  have hB := hR.blk b bk hb
  by_cases e : (μ b).blk = r
  ·rw [e, hr] at hB
   cases bk with
   | row n z m rw => obtain ⟨_, _, _, h, _⟩ := hB; cases h
   | mp es => obtain ⟨_, _, h, _⟩ := hB; cases h
   | lp st j f n F ps sg bd => obtain ⟨_, _, h, _⟩ := hB; cases h
   | st => obtain ⟨_, _, h, _⟩ := hB; cases h
   | it => obtain ⟨_, _, h, _⟩ := hB; cases h
   | tr => obtain ⟨_, _, h, _⟩ := hB; cases h
  ·rw [World.putObj_heap_other e]; exact hB, hR.inj, hR.glob⟩
theorem Fr.mark {μ0 : Nat -> Pl} {K0 : Nat -> Prop} {H0 : Hp} {w0 : World} (h : Fr μ0 K0 H0 w0 μ K H w) {r : Nat} (hr : w0.heap.size <= r) (o : Obj) : Fr μ0 K0 H0 w0 μ K H (w.putObj r o) :=
 ⟨h.same, by simpa using h.size, fun i hi hne => by rw [World.putObj_heap_other (by omega)]; exact h.keep i hi hne, h.img, h.newmut, h.mu, h.kk, h.knew, h.nx, h.none, h.stay, h.ro⟩
def modeR : Bool -> FrameMode -> Prop
 | false, u => u = .returning
 | true, u => ∃ ch, u = .panicking ch /\ okCh ch
def ADef (P : Program) (G : Nat) (f : FuncId) (args : List V) (pan : Bool) (H : Hp) (R : Bool -> Hp -> Prop) : Prop :=
 ∀ (μ : Nat -> Pl) (K : Nat -> Prop) (w : World) (xs : List Value) (u : FrameMode), Rel G μ K H w -> All2 (RV μ K) args xs -> modeR pan u ->
  CallsDIn Fence.wide 0 P f xs.toArray u w fun e u' w' => ∃ x, e = .returned x /\ ∃ pan' H' μ' K', modeR pan' (settle u') /\ R pan' H' /\ Rel G μ' K' H' w' /\ Fr μ K H w μ' K' H' w'
def leaveQ (P : Program) (G : Nat) (fin : Bool -> Hp -> Prop) : List V -> Bool -> Hp -> Prop
 | [], pan, H => fin pan H
 | .one (.fn f caps) :: L, pan, H => isFn P f = true /\ ADef P G f (caps.map ptrV) pan H fun pan' H' => leaveQ P G fin L pan' H'
 | _ :: _, _, _ => False
theorem modeR.run {b : Bool} {u : FrameMode} (h : modeR b u) : u ≠ .run := by
 cases b with
 | false => rw [show u = .returning from h]; simp
 | true => obtain ⟨ch, rfl, _⟩ := h; simp
theorem leave_ok {μ0 μ1 : Nat -> Pl} {K0 K1 : Nat -> Prop} {H0 : Hp} {w0 : World} (hlt0 : ∀ b bk, H0.get b = some bk -> b < H0.nx) {fn : Func} {tmps : Array Value} {R : Ending -> World -> Prop} {fin : Bool -> Hp -> Prop}
  (hfin : ∀ pan H μ K w u, fin pan H -> modeR pan u -> Rel G μ K H w -> Fr μ0 K0 H0 w0 μ K H w -> (∀ b, K1 b -> K b) -> (∀ b, K1 b -> μ b = μ1 b) -> LeavesIn Fence.wide 0 P fn tmps R [] u w) : ∀ {D : List Deferred} {L : List V} {pan : Bool} {u : FrameMode} {μ : Nat -> Pl} {K : Nat -> Prop} {H : Hp} {w : World}, w0.heap.size <= w.heap.size -> (D.filterMap markR).Nodup -> DkL μ K w0.heap.size w D L -> Rel G μ K H w -> Fr μ0 K0 H0 w0 μ K H w -> (∀ b, K1 b -> K b) -> (∀ b, K1 b -> μ b = μ1 b) -> modeR pan u ->
  leaveQ P G fin L pan H -> LeavesInM Fence.wide 0 P fn tmps R D u w
 | [], L, pan, u, μ, K, H, w, _, _, hd, hR, hFr, hk, hmu, hm, h => by
  have hd : L = [] := hd
  subst hd
  exact hfin pan H μ K w u h hm hR hFr hk hmu
 | d :: D, L, pan, u, μ, K, H, w, hs, hnd, hd, hR, hFr, hk, hmu, hm, h => by
  refine ⟨hm.run, ?_⟩
  rcases hd with ⟨r, rfl, h1, h2, h3⟩|⟨f, caps, L', rfl, h2, rfl, h3⟩
  ·have hnd' := List.nodup_cons.1 (show (r :: D.filterMap markR).Nodup from hnd)
   refine .inl ⟨r, _, rfl, run_takeDeferred h2, leave_ok hlt0 hfin (by simpa using hs) hnd'.2 (DkL.put h3 hnd'.1 _) (hR.mark h2 _) (hFr.mark h1 _) hk hmu hm h⟩
  ·obtain ⟨hf, hc⟩ := h
   refine .inr ⟨(fun h => absurd h (by decide)), _, _, f, (caps.map fun p => Value.pointer (some ((μ p.1).addr p.2))).toArray, rfl, ?_, fun _ _ => trivial, ?_⟩
   ·simp [invoke, isFn_run hf]
   ·have ha : All2 (RV μ K) (caps.map ptrV) (caps.map fun p => Value.pointer (some ((μ p.1).addr p.2))) := by
     refine All2.mk (by simp) fun j v x hv hx => ?_
     simp only [List.getElem?_map, Option.map_eq_some_iff] at hv hx
     obtain ⟨p, hp, rfl⟩ := hv
     obtain ⟨p', hp', rfl⟩ := hx
     rw [hp] at hp'
     obtain rfl := Option.some.inj hp'
     exact ⟨h2 p (List.mem_of_getElem? hp), rfl⟩
    refine (hc μ K w _ u hR ha hm).mono fun e u' w' he => ?_
    obtain ⟨x, rfl, pan', H', μ', K', k1, k2, k3, k4⟩ := he
    exact leave_ok hlt0 hfin (Nat.le_trans hs k4.size) hnd (h3.fr hR k4) k3 (hFr.trans hlt0 k4) (fun b hb => k4.kk b (hk b hb)) (fun b hb => (k4.mu b (hk b hb)).trans (hmu b hb)) k1 k2
end
end Go.Ab

namespace Go.Ab
inductive SC where
 | skip
 /-- operations; st: one of them may panic -/
 | ops (l : List SOper) (res : Nat) (st : Bool)
 /-- operations, and a deferred call behind them; .. and a panic -/
 | df (l : List SOper) (d : Opd)
 | pn (l : List SOper) (d : Opd)
 | seq (a b : SC)
 | cond (d : Opd) (a b : SC)
 | block (id : Nat) (a : SC)
 | loop (a : SC)
 | exit (id : Nat)
 | ret
 /-- a range over a function: the function, a round's parameters, what it assigns, what it does -/
 | rf (d : Opd) (ps : List Nat) (a b : SC)
 | scope (a : SC)
 /-- not covered: no run comes here -/
 | no
structure Extra where
 aid : Nat -> Option Nat
 watch : Nat -> List Nat
 keep : Nat -> Bool
def cpOper (P : Program) (G n : Nat) (ops : Array Oper) (x : Extra) (i : Nat) : Option SOper :=
 match ops[i]? with
 | none => none
 | some o => match cpOp P G n o, cGuard n ops o.guard with
  | some op, some g => if cDst n o.dst then some ⟨i, o.dst, op, g, x.aid i, x.watch i, x.keep i⟩ else none
  | _, _ => none
def cpAll (P : Program) (G n : Nat) (ops : Array Oper) (x : Extra) : List Nat -> Option (List SOper)
 | [] => some []
 | i :: r => match cpOper P G n ops x i, cpAll P G n ops x r with
  | some s, some l => some (s :: l)
  | _, _ => none
def noExtra : Extra := ⟨fun _ => none, fun _ => [], fun _ => false⟩
def depsOf (ops : List Oper) : List (List Nat) :=
 ops.foldl (init := []) fun acc o => acc ++ [(o.after.toList.foldl (init := []) fun s e => if Region.binds .any e then (e.on :: acc.getD e.on []).foldl (fun s j => if s.contains j then s else j :: s) s else s)]
def Kd.light : Kd -> Bool
 | .p => true
 | .l => true
 | _ => false
def sched (D : List (List Nat)) (kds : List Kd) : Nat -> List Nat -> List Nat -> List Nat
 | 0, _, acc => acc.reverse
 | f + 1, rest, acc =>
  let ok := fun i => (D.getD i []).all fun j => acc.contains j
  match rest.find? fun i => (kds.getD i .e).light && ok i with
  | some i => sched D kds f (rest.filter (· != i)) (i :: acc)
  | none => match rest.find? fun i => !(kds.getD i .e).light with
   | some i => sched D kds f (rest.filter (· != i)) (i :: acc)
   | none => acc.reverse
def kdsOf (P : Program) (G n : Nat) (ops : List Oper) : List Kd := ops.map fun o => match cpOp P G n o with
 | some op => op.kd
 | none => .e
def Kd.isL : Kd -> Bool
 | .l => true
 | _ => false
def Kd.isA : Kd -> Bool
 | .a => true
 | _ => false
def Kd.isE : Kd -> Bool
 | .e => true
 | .c => true
 | _ => false
def watches (D : List (List Nat)) (kds : List Kd) : List Nat -> List Nat -> List (Nat × List Nat)
 | [], _ => []
 | i :: r, ls =>
  if (kds.getD i .e).isE then (i, ls.filter fun j => !(D.getD i []).contains j) :: watches D kds r ls
  else watches D kds r (if (kds.getD i .e).isL then i :: ls else ls)
def pairsB (b : Bool) (D : List (List Nat)) : List Nat -> List SOper -> Bool
 | i :: idx, s :: l => ((idx.zip l).all fun p => (D.getD p.1 []).contains i || swapS b s p.2) && pairsB b D idx l
 | _, _ => true
def nodupB : List Nat -> Bool
 | [] => true
 | i :: l => !l.contains i && nodupB l
def depB (D : List (List Nat)) (ops : Array Oper) (i : Nat) : Bool :=
 match ops[i]? with
 | none => true
 | some o => (D.getD i []).all (fun j => o.after.toList.any fun e => Region.binds .any e && (e.on == j || (D.getD e.on []).contains j)) && o.after.toList.all fun e => !Region.binds .any e || decide (e.on < i)
def drawB (b : Bool) (D : List (List Nat)) (ops : Array Oper) (idx : List Nat) (l : List SOper) (res : Nat) : Bool :=
 pairsB b D idx l && nodupB idx && idx.all (fun i => decide (i < ops.size)) && (List.range ops.size).all (fun i => idx.contains i) && (List.range ops.size).all (depB D ops) && nodupB (l.filterMap (·.aid)) && decide (idx.length <= ops.size) && (l.filterMap (·.aid)).all fun k => decide (k < res)
def sched2 (D : List (List Nat)) (kds : List Kd) : Nat -> List Nat -> List Nat -> List Nat
 | 0, _, acc => acc.reverse
 | f + 1, rest, acc =>
  let ok := fun i => (D.getD i []).all fun j => acc.contains j
  match rest.find? fun i => (kds.getD i .e).light && ok i with
  | some i => sched2 D kds f (rest.filter (· != i)) (i :: acc)
  | none => match rest.find? fun i => (kds.getD i .e).isE && ok i with
   | some i => sched2 D kds f (rest.filter (· != i)) (i :: acc)
   | none => match rest.find? fun i => !(kds.getD i .e).light with
    | some i => sched2 D kds f (rest.filter (· != i)) (i :: acc)
    | none => acc.reverse
def cpDrawBy (P : Program) (G n : Nat) (ops : Array Oper) (idx : List Nat) : Option (List SOper × Bool) :=
 let D := depsOf ops.toList
 let kds := kdsOf P G n ops.toList
 let ws := watches D kds idx []
 let x : Extra := ⟨fun i => if (kds.getD i .e).isA then some i else none, fun i => ((ws.find? fun p => p.1 == i).map (·.2)).getD [], fun i => ws.any fun p => p.2.contains i⟩
 match cpAll P G n ops x idx with
 | none => none
 | some l => if drawB true D ops idx l ops.size then some (l, true) else if drawB false D ops idx l ops.size then some (l, false) else none
def cpDraw (P : Program) (G n : Nat) (ops : Array Oper) : Option (List SOper × Bool) :=
 match cpDrawBy P G n ops (sched (depsOf ops.toList) (kdsOf P G n ops.toList) ops.size (List.range ops.size) []) with
 | some l => some l
 | none => cpDrawBy P G n ops (sched2 (depsOf ops.toList) (kdsOf P G n ops.toList) ops.size (List.range ops.size) [])
def cpFix (P : Program) (G n : Nat) (ops : Array Oper) : Option SC :=
 match ops[ops.size - 1]? with
 | some o => match o.op, o.guard, o.dst with
  | .defer { callee := .value c, args := args, argTypes := _ }, none, none => if args.isEmpty then match cO G n c, cpAll P G n ops noExtra (List.range (ops.size - 1)) with
   | some d, some l => some (.df l d)
   | _, _ => none
   else none
  | .panic c, none, _ => match cO G n c, cpAll P G n ops noExtra (List.range (ops.size - 1)) with
   | some d, some l => some (.pn l d)
   | _, _ => none
  | _, _, _ => (cpAll P G n ops noExtra (List.range ops.size)).map fun l => .ops l 0 true
 | none => (cpAll P G n ops noExtra (List.range ops.size)).map fun l => .ops l 0 true
def cpCode (P : Program) (G n : Nat) : Code -> Option SC
 | .skip => some .skip
 | .region _ ops draw =>
  if draw then (cpDraw P G n ops).map fun l => .ops l.1 ops.size l.2
  else cpFix P G n ops
 | .seq a b => match cpCode P G n a, cpCode P G n b with
  | some a, some b => some (.seq a b)
  | _, _ => none
 | .cond c a b => match cO G n c, cpCode P G n a, cpCode P G n b with
  | some d, some a, some b => some (.cond d a b)
  | _, _, _ => none
 | .block id a => (cpCode P G n a).map (.block id)
 | .loop a => (cpCode P G n a).map .loop
 | .exit id => some (.exit id)
 | .ret => some .ret
 | .rangeFunc g ps sg bd => match cO G n g, cpCode P G n sg, cpCode P G n bd with
  | some d, some a, some b => some (.rf d ps.toList a b)
  | _, _, _ => none
 | .scope a => (cpCode P G n a).map .scope
 | .label _ => some .skip
 | _ => some .no
inductive SRes where
 | t (n : Nat)
 | cell (agg : Bool) (k : Nat) (n : Nat)
def aRes (F : T V) (H : Hp) : SRes -> Option V
 | .t n => some ((F.get n).getD V.undef)
 | .cell agg k n => aLoad F H (.load agg k (.t n))
def aResL (F : T V) (H : Hp) : List SRes -> Option (List V)
 | [] => some []
 | r :: l => match aRes F H r, aResL F H l with
  | some v, some vs => if isOne v then some (v :: vs) else none
  | _, _ => none
def aResult (F : T V) (H : Hp) (rs : List SRes) : Option V :=
 match aResL F H rs with
 | some [v] => some v
 | some vs => some (.tup vs)
 | none => none
def cpRes (P : Program) (n : Nat) : List ResultVar -> Option (List SRes)
 | [] => some []
 | .tmp t :: l => if t < n then (cpRes P n l).map (.t t :: ·) else none
 | .cell a t :: l => match isAggT P t, sizeT P t with
  | some g, some k => if a < n then (cpRes P n l).map (.cell g k a :: ·) else none
  | _, _ => none
structure SFn where
 n : Nat
 code : SC
 res : List SRes
def cpFn (P : Program) (G : Nat) (f : FuncId) : Option SFn :=
 match P.funcs[f]? with
 | none => none
 | some fn => match fn.body with
  | none => none
  | some c => match cpCode P G fn.ntmps c, cpRes P fn.ntmps fn.results.toList with
   | some s, some rs => some ⟨fn.ntmps, s, rs⟩
   | _, _ => none
def initF : List V -> Nat -> T V
 | [], _ => .lf
 | v :: l, i => (initF l (i + 1)).set i (some v)
def retQ (rs : List SRes) (R : V -> Hp -> Prop) : Exit -> T V -> Hp -> Prop
 | .normal, F, H => match aResult F H rs with
  | some v => R v H
  | none => False
 | .ret, F, H => match aResult F H rs with
  | some v => R v H
  | none => False
 | _, _, _ => False
def finQ (rs : List SRes) (R : V -> Hp -> Prop) (S : Hp -> Prop) (F : T V) : Bool -> Hp -> Prop
 | false, H => match aResult F H rs with
  | some v => R v H
  | none => False
 | true, H => S H
def retG (ρ : Option (Option Nat)) (P : Program) (G : Nat) (rs : List SRes) (R : V -> Hp -> Prop) (S : Hp -> Prop) : Exit -> T V -> Hp -> Prop
 | .normal, F, H => leaveQ P G (finQ rs R S F) (dL ρ F) false H
 | .ret, F, H => leaveQ P G (finQ rs R S F) (dL ρ F) false H
 | .panic _, F, H => leaveQ P G (finQ rs R S F) (dL ρ F) true H
 | _, _, _ => False
def SWPr (ρ : Option (Option Nat)) (P : Program) (G n : Nat) (s : SC) (Q : Exit -> T V -> Hp -> Prop) (F : T V) (H : Hp) : Prop := ∀ c, cpCode P G n c = some s -> AWPr ρ P G n c Q F H
abbrev SWP := SWPr none
section
variable {P : Program} {G n : Nat} {ρ : Option (Option Nat)}
theorem cpOper_fits {ops : Array Oper} {x : Extra} {i : Nat} {s : SOper} (h : cpOper P G n ops x i = some s) : (∃ o, ops[i]? = some o /\ Fits P G n ops o s) /\ s.aid = x.aid i := by
 unfold cpOper at h
 split at h
 ·cases h
 ·rename_i o ho
  split at h
  ·rename_i op g h1 h2
   split at h
   ·rename_i h3
    obtain rfl := Option.some.inj h
    exact ⟨⟨o, ho, h1, rfl, h3, h2⟩, rfl⟩
   ·cases h
  ·cases h
theorem cpAll_aligned {ops : Array Oper} {x : Extra} : ∀ {idx : List Nat} {l : List SOper}, cpAll P G n ops x idx = some l -> Aligned P G n ops idx l /\ ∀ s ∈ l, ∃ i ∈ idx, s.aid = x.aid i
 | [], l, h => by simp [cpAll] at h; subst h; exact ⟨trivial, by simp⟩
 | i :: idx, l, h => by
  simp only [cpAll] at h
  split at h
  ·rename_i s r h1 h2
   obtain rfl := Option.some.inj h
   obtain ⟨g1, g2⟩ := cpOper_fits h1
   obtain ⟨g3, g4⟩ := cpAll_aligned h2
   refine ⟨⟨g1, g3⟩, fun t ht => ?_⟩
   rcases List.mem_cons.1 ht with rfl|ht
   ·exact ⟨i, by simp, g2⟩
   ·obtain ⟨j, hj, e⟩ := g4 t ht; exact ⟨j, by simp [hj], e⟩
  ·cases h
theorem pairsB_ok {b : Bool} {D : List (List Nat)} : ∀ {idx : List Nat} {l : List SOper}, pairsB b D idx l = true -> PairsOk b (fun i => D.getD i []) idx l
 | i :: idx, s :: l, h => by
  simp only [pairsB, Bool.and_eq_true, List.all_eq_true] at h
  refine ⟨fun j t hjt => ?_, pairsB_ok h.2⟩
  have := h.1 (j, t) hjt
  simp only [Bool.or_eq_true] at this
  exact this.imp (by simp) id
 | [], _, _ => trivial
 | _ :: _, [], _ => trivial
theorem nodupB_ok : ∀ {l : List Nat}, nodupB l = true -> l.Nodup
 | [], _ => List.nodup_nil
 | i :: l, h => by
  simp only [nodupB, Bool.and_eq_true] at h
  exact List.nodup_cons.2 ⟨by simpa using h.1, nodupB_ok h.2⟩
theorem awp_draw (hm : P.follows .mixedOrders = true) {id res : Nat} {ops : Array Oper} {b : Bool} {D : List (List Nat)} {idx : List Nat} {l : List SOper} (hal : Aligned P G n ops idx l) (hB : drawB b D ops idx l res = true)
  {Q : Exit -> T V -> Hp -> Prop} {F : T V} {H : Hp} (h : wOps P G H.nx (if b then panQ Q (dstsOf l) F else fun _ => False) (Q .normal) l [] F (H.skip res)) : AWPr ρ P G n (.region id ops true) Q F H := by
 intro s μ K w a hR hF hd
 unfold drawB at hB
 simp only [Bool.and_eq_true, List.all_eq_true, decide_eq_true_eq, List.mem_range] at hB
 obtain ⟨⟨⟨⟨⟨⟨⟨h1, h2⟩, h3⟩, h4⟩, h5⟩, h6⟩, h8⟩, h7⟩ := hB
 have hdep : ∀ i o, ops[i]? = some o -> depB D ops i = true := fun i o ho => h5 i (Array.getElem?_eq_some_iff.1 ho).1
 refine wpIn_region_any hm ?_
 have hR' := (hR.drawn (w.drawn + 1)).skip res
 refine any_ok (D := fun i => D.getD i []) (b := b) (F0 := F) (ds := dstsOf l) (base := H.nx) (QP := if b then panQ Q (dstsOf l) F else fun _ => False) (Q := Q .normal) (μ0 := μ) (K0 := K) (H0 := H) (w0 := w) hR.lt' (fun μ' K' F' H' a' w' g1 g2 g3 g4 hag g5 => ⟨F', H', μ', K', g1, g2, g3, g4, by rw [g5, dL_agree hd.1 hal.dsts hag]; exact hd.fr hR g4⟩) (fun μ' K' F' H' a' w' ch g0 hch g2 g3 g4 hag g5 => ?_) ?_ (fun i o ho j hj => ?_) (fun i o ho e he hb => ?_)
  (by simp) (fun i hi => ?_) (fun i hi => h3 i hi) (nodupB_ok h2) ?_ (fun i hi hni => ?_) hal (pairsB_ok h1) (nodupB_ok h6) (fun k p hp => by cases hp) (fun s hs k hk => ?_) hR' hF ((Fr.drawn hR _ (Nat.le_succ _)).trans hR.lt' (Fr.skip (hR.drawn _) res)) dstsOf_mem (fun _ _ => rfl) rfl h
 ·cases b with
  | false => exact g0.elim
  | true => exact ⟨F', H', μ', K', ⟨hch, g0 F' hag⟩, g2, g3, g4, by rw [g5, dL_agree hd.1 hal.dsts hag]; exact hd.fr hR g4⟩
 ·cases b with
  | false => exact .inr fun _ h => h
  | true => exact .inl rfl
 ·have := hdep i o ho
  unfold depB at this
  rw [ho] at this
  simp only [Bool.and_eq_true, List.all_eq_true, List.any_eq_true, Bool.or_eq_true] at this
  obtain ⟨e, he, hb, hh⟩ := this.1 j hj
  exact ⟨e, he, hb, hh.imp (by simp) (by simp)⟩
 ·have := hdep i o ho
  unfold depB at this
  rw [ho] at this
  simp only [Bool.and_eq_true, List.all_eq_true, Bool.or_eq_true, decide_eq_true_eq, Bool.not_eq_true'] at this
  rcases this.2 e he with h|h
  ·rw [hb] at h; cases h
  ·exact h
 ·constructor
  ·intro _
   have := h4 i hi
   simpa using this
  ·intro _; simp [hi]
 ·exact h8
 ·exact absurd (by have := h4 i hi; simpa using this) hni
 ·have hk' : k < res := h7 k (List.mem_filterMap.2 ⟨s, hs, hk⟩)
  refine ⟨fun hkk => absurd (hR.lt _ hkk) (by omega), by simp; omega, by omega⟩
def SC.isReg : SC -> Bool
 | .ops .. => true
 | .df .. => true
 | .pn .. => true
 | _ => false
theorem cpFix_inv {ops : Array Oper} {s : SC} (h : cpFix P G n ops = some s) :
  (∃ l, s = .ops l 0 true /\ cpAll P G n ops noExtra (List.range ops.size) = some l) \/
  (∃ o k c ts l d, s = .df l d /\ ops.size = k + 1 /\ ops[k]? = some o /\ o.op = .defer { callee := .value c, args := #[], argTypes := ts } /\ o.guard = none /\ o.dst = none /\ cO G n c = some d /\ cpAll P G n ops noExtra (List.range k) = some l) \/
  (∃ o k c l d, s = .pn l d /\ ops.size = k + 1 /\ ops[k]? = some o /\ o.op = .panic c /\ o.guard = none /\ cO G n c = some d /\ cpAll P G n ops noExtra (List.range k) = some l) := by
 unfold cpFix at h
 split at h
 ·rename_i o ho
  have hk : ∃ k, ops.size = k + 1 /\ ops.size - 1 = k := by
   have := (Array.getElem?_eq_some_iff.1 ho).1
   exact ⟨ops.size - 1, by omega, rfl⟩
  obtain ⟨k, hk1, hk2⟩ := hk
  rw [hk2] at ho h
  split at h
  ·rename_i c args ts h1 h2 h3
   split at h
   ·rename_i he
    split at h
    ·rename_i d l hd hl
     obtain rfl := Option.some.inj h
     have he' : args = #[] := by simpa using he
     subst he'
     exact .inr (.inl ⟨o, k, c, ts, l, d, rfl, hk1, ho, h1, h2, h3, hd, hl⟩)
    ·cases h
   ·cases h
  ·rename_i c h1 h2
   split at h
   ·rename_i d l hd hl
    obtain rfl := Option.some.inj h
    exact .inr (.inr ⟨o, k, c, l, d, rfl, hk1, ho, h1, h2, hd, hl⟩)
   ·cases h
  ·simp only [Option.map_eq_some_iff] at h
   obtain ⟨l, hl, rfl⟩ := h
   exact .inl ⟨l, rfl, hl⟩
 ·simp only [Option.map_eq_some_iff] at h
  obtain ⟨l, hl, rfl⟩ := h
  exact .inl ⟨l, rfl, hl⟩
theorem reg_isReg {draw : Bool} {ops : Array Oper} {s : SC} (h : (if draw = true then (cpDraw P G n ops).map fun l => SC.ops l.1 ops.size l.2 else cpFix P G n ops) = some s) : s.isReg = true := by
 split at h
 ·simp only [Option.map_eq_some_iff] at h
  obtain ⟨l, _, rfl⟩ := h
  rfl
 ·rcases cpFix_inv h with ⟨l, rfl, _⟩|⟨o, k, c, ts, l, d, rfl, _⟩|⟨o, k, c, l, d, rfl, _⟩ <;> rfl
theorem swp_skip {Q : Exit -> T V -> Hp -> Prop} {F : T V} {H : Hp} (h : Q .normal F H) : SWPr ρ P G n .skip Q F H := by
 intro c hc
 cases c <;> simp only [cpCode] at hc <;> try (cases hc; done)
 case skip => exact awp_skip h
 case label l => exact awp_label h
 case region id ops draw => exact absurd (reg_isReg hc) (by simp [SC.isReg])
 case seq a b => split at hc <;> cases hc
 case rangeFunc g ps a b => split at hc <;> cases hc
 case cond d a b => split at hc <;> cases hc
 case block id a => simp at hc
 case loop a => simp at hc
 case scope a => simp at hc
theorem swp_ops (hm : P.follows .mixedOrders = true) {l : List SOper} {res : Nat} {st : Bool} {Q : Exit -> T V -> Hp -> Prop} {F : T V} {H : Hp} (h : wOps P G H.nx (if st then panQ Q (dstsOf l) F else fun _ => False) (Q .normal) l [] F (H.skip res)) : SWPr ρ P G n (.ops l res st) Q F H := by
 intro c hc
 cases c <;> simp only [cpCode] at hc <;> try (cases hc; done)
 case region id ops draw =>
  cases draw with
  | false =>
   simp only [Bool.false_eq_true, if_false] at hc
   rcases cpFix_inv hc with ⟨l', he, hl⟩|⟨o, k, c, ts, l, d, he, _⟩|⟨o, k, c, l, d, he, _⟩
   ·injection he with e1 e2 e3
    subst e1 e2 e3
    obtain ⟨h1, h2⟩ := cpAll_aligned hl
    exact awp_region h1 (fun s hs => by obtain ⟨i, _, e⟩ := h2 s hs; exact e) h
   ·cases he
   ·cases he
  | true =>
   simp only [if_true, Option.map_eq_some_iff, SC.ops.injEq] at hc
   obtain ⟨l', hl, rfl, rfl, rfl⟩ := hc
   have by_ : ∀ idx (l'' : List SOper × Bool), cpDrawBy P G n ops idx = some l'' -> wOps P G H.nx (if l''.2 then panQ Q (dstsOf l''.1) F else fun _ => False) (Q .normal) l''.1 [] F (H.skip ops.size) -> AWPr ρ P G n (.region id ops true) Q F H := by
    intro idx l'' hl h
    unfold cpDrawBy at hl
    simp only at hl
    split at hl
    ·cases hl
    ·rename_i l3 hall
     split at hl
     ·rename_i hB
      obtain rfl := Option.some.inj hl
      exact awp_draw hm (cpAll_aligned hall).1 hB h
     ·split at hl
      ·rename_i hB
       obtain rfl := Option.some.inj hl
       exact awp_draw hm (cpAll_aligned hall).1 hB h
      ·cases hl
   unfold cpDraw at hl
   split at hl
   ·rename_i l2 h2
    obtain rfl := Option.some.inj hl
    exact by_ _ _ h2 h
   ·exact by_ _ _ hl h
 case seq a b => split at hc <;> cases hc
 case rangeFunc g ps a b => split at hc <;> cases hc
 case cond d a b => split at hc <;> cases hc
 case block id a => simp at hc
 case loop a => simp at hc
 case scope a => simp at hc
theorem swp_df {l : List SOper} {d : Opd} {Q : Exit -> T V -> Hp -> Prop} {F : T V} {H : Hp} (h : wOps P G H.nx (panQ Q (dstsOf l) F) (fun F' H' => ∃ f caps, d.ev F' = .one (.fn f caps) /\ Q .normal (F'.set DEFI (some (.tup (.one (.fn f caps) :: defsOf F')))) H') l [] F H) : SWPr (some none) P G n (.df l d) Q F H := by
 intro c hc
 cases c <;> simp only [cpCode] at hc <;> try (cases hc; done)
 case region id ops draw =>
  cases draw with
  | false =>
   simp only [Bool.false_eq_true, if_false] at hc
   rcases cpFix_inv hc with ⟨l', he, hl⟩|⟨o, k, c, ts, l', d', he, hk, ho, hoo, hg, hdst, hd, hl⟩|⟨o, k, c, l', d', he, _⟩
   ·cases he
   ·injection he with e1 e2
    subst e1 e2
    obtain ⟨h1, h2⟩ := cpAll_aligned hl
    exact awp_df hk h1 (fun s hs => by obtain ⟨i, _, e⟩ := h2 s hs; exact e) ho hoo hg hdst hd h
   ·cases he
  | true =>
   simp only [if_true, Option.map_eq_some_iff] at hc
   obtain ⟨_, _, he⟩ := hc
   cases he
 case seq a b => split at hc <;> cases hc
 case rangeFunc g ps a b => split at hc <;> cases hc
 case cond d a b => split at hc <;> cases hc
 case block id a => simp at hc
 case loop a => simp at hc
 case scope a => simp at hc
theorem swp_pn {l : List SOper} {d : Opd} {Q : Exit -> T V -> Hp -> Prop} {F : T V} {H : Hp} (h : wOps P G H.nx (panQ Q (dstsOf l) F) (fun F' H' => d.ev F' = .one .ifa /\ panQ Q (dstsOf l) F H') l [] F H) : SWPr ρ P G n (.pn l d) Q F H := by
 intro c hc
 cases c <;> simp only [cpCode] at hc <;> try (cases hc; done)
 case region id ops draw =>
  cases draw with
  | false =>
   simp only [Bool.false_eq_true, if_false] at hc
   rcases cpFix_inv hc with ⟨l', he, hl⟩|⟨o, k, c, ts, l', d', he, _⟩|⟨o, k, c, l', d', he, hk, ho, hoo, hg, hd, hl⟩
   ·cases he
   ·cases he
   ·injection he with e1 e2
    subst e1 e2
    obtain ⟨h1, h2⟩ := cpAll_aligned hl
    exact awp_pn hk h1 (fun s hs => by obtain ⟨i, _, e⟩ := h2 s hs; exact e) ho hoo hg hd h
  | true =>
   simp only [if_true, Option.map_eq_some_iff] at hc
   obtain ⟨_, _, he⟩ := hc
   cases he
 case seq a b => split at hc <;> cases hc
 case rangeFunc g ps a b => split at hc <;> cases hc
 case cond d a b => split at hc <;> cases hc
 case block id a => simp at hc
 case loop a => simp at hc
 case scope a => simp at hc
theorem swp_seq {a b : SC} {Q : Exit -> T V -> Hp -> Prop} {F : T V} {H : Hp} (h : SWPr ρ P G n a (thenQ (SWPr ρ P G n b Q) Q) F H) : SWPr ρ P G n (.seq a b) Q F H := by
 intro c hc
 cases c <;> simp only [cpCode] at hc <;> try (cases hc; done)
 case seq x y =>
  split at hc
  ·rename_i x' y' hx hy
   simp only [Option.some.injEq, SC.seq.injEq] at hc
   obtain ⟨rfl, rfl⟩ := hc
   refine awp_seq (awp_mono (h x hx) fun e F' H' he => ?_)
   cases e with
   | normal => exact (show SWPr ρ P G n y' Q F' H' from he) y hy
   | _ => exact he
  ·cases hc
 case region id ops draw => exact absurd (reg_isReg hc) (by simp [SC.isReg])
 case cond d a b => split at hc <;> cases hc
 case block id a => simp at hc
 case loop a => simp at hc
 case scope a => simp at hc
 case rangeFunc g ps a b => split at hc <;> cases hc
theorem swp_cond {d : Opd} {a b : SC} {Q : Exit -> T V -> Hp -> Prop} {F : T V} {H : Hp} {t : Bool} (ht : d.ev F = .one (.bool t)) (h : SWPr ρ P G n (if t then a else b) Q F H) : SWPr ρ P G n (.cond d a b) Q F H := by
 intro c hc
 cases c <;> simp only [cpCode] at hc <;> try (cases hc; done)
 case cond o x y =>
  split at hc
  ·rename_i d' x' y' h1 hx hy
   simp only [Option.some.injEq, SC.cond.injEq] at hc
   obtain ⟨rfl, rfl, rfl⟩ := hc
   refine awp_cond h1 ht ?_
   cases t
   ·exact h y hy
   ·exact h x hx
  ·cases hc
 case region id ops draw => exact absurd (reg_isReg hc) (by simp [SC.isReg])
 case seq a b => split at hc <;> cases hc
 case rangeFunc g ps a b => split at hc <;> cases hc
 case block id a => simp at hc
 case loop a => simp at hc
 case scope a => simp at hc
theorem swp_block {id : Nat} {a : SC} {Q : Exit -> T V -> Hp -> Prop} {F : T V} {H : Hp} (h : SWPr ρ P G n a (blockQ id Q) F H) : SWPr ρ P G n (.block id a) Q F H := by
 intro c hc
 cases c <;> simp only [cpCode] at hc <;> try (cases hc; done)
 case block id' x =>
  simp only [Option.map_eq_some_iff, SC.block.injEq] at hc
  obtain ⟨x', hx, rfl, rfl⟩ := hc
  exact awp_block (h x hx)
 case region id ops draw => exact absurd (reg_isReg hc) (by simp [SC.isReg])
 case seq a b => split at hc <;> cases hc
 case rangeFunc g ps a b => split at hc <;> cases hc
 case cond d a b => split at hc <;> cases hc
 case loop a => simp at hc
 case scope a => simp at hc
theorem swp_loop {a : SC} {Q : Exit -> T V -> Hp -> Prop} {F : T V} {H : Hp} (I : Nat -> T V -> Hp -> Prop) {m : Nat} (h0 : I m F H) (round : ∀ m F H, I m F H -> SWPr ρ P G n a (thenQ (fun F' H' => ∃ m', m' < m /\ I m' F' H') Q) F H) : SWPr ρ P G n (.loop a) Q F H := by
 intro c hc
 cases c <;> simp only [cpCode] at hc <;> try (cases hc; done)
 case loop x =>
  simp only [Option.map_eq_some_iff, SC.loop.injEq] at hc
  obtain ⟨x', hx, rfl⟩ := hc
  exact awp_loop I h0 fun m F H hI => round m F H hI x hx
 case region id ops draw => exact absurd (reg_isReg hc) (by simp [SC.isReg])
 case seq a b => split at hc <;> cases hc
 case rangeFunc g ps a b => split at hc <;> cases hc
 case cond d a b => split at hc <;> cases hc
 case block id a => simp at hc
 case scope a => simp at hc
theorem swp_scope {a : SC} {Q : Exit -> T V -> Hp -> Prop} {F : T V} {H : Hp} (h : SWPr ρ P G n a (scopeQ Q) F H) : SWPr ρ P G n (.scope a) Q F H := by
 intro c hc
 cases c <;> simp only [cpCode] at hc <;> try (cases hc; done)
 case scope x =>
  simp only [Option.map_eq_some_iff, SC.scope.injEq] at hc
  obtain ⟨x', hx, rfl⟩ := hc
  exact awp_scope (h x hx)
 case rangeFunc g ps a b => split at hc <;> cases hc
 case region id ops draw => exact absurd (reg_isReg hc) (by simp [SC.isReg])
 case seq a b => split at hc <;> cases hc
 case cond d a b => split at hc <;> cases hc
 case block id a => simp at hc
 case loop a => simp at hc
theorem swp_exit {id : Nat} {Q : Exit -> T V -> Hp -> Prop} {F : T V} {H : Hp} (h : Q (.exit id) F H) : SWPr ρ P G n (.exit id) Q F H := by
 intro c hc
 cases c <;> simp only [cpCode] at hc <;> try (cases hc; done)
 case exit id' => simp only [Option.some.injEq, SC.exit.injEq] at hc; subst hc; exact awp_exit h
 case region id ops draw => exact absurd (reg_isReg hc) (by simp [SC.isReg])
 case seq a b => split at hc <;> cases hc
 case rangeFunc g ps a b => split at hc <;> cases hc
 case cond d a b => split at hc <;> cases hc
 case block id a => simp at hc
 case loop a => simp at hc
 case scope a => simp at hc
theorem swp_ret {Q : Exit -> T V -> Hp -> Prop} {F : T V} {H : Hp} (h : Q .ret F H) : SWPr ρ P G n .ret Q F H := by
 intro c hc
 cases c <;> simp only [cpCode] at hc <;> try (cases hc; done)
 case ret => exact awp_ret h
 case region id ops draw => exact absurd (reg_isReg hc) (by simp [SC.isReg])
 case seq a b => split at hc <;> cases hc
 case rangeFunc g ps a b => split at hc <;> cases hc
 case cond d a b => split at hc <;> cases hc
 case block id a => simp at hc
 case loop a => simp at hc
 case scope a => simp at hc
theorem swp_mono {s : SC} {Q Q' : Exit -> T V -> Hp -> Prop} {F : T V} {H : Hp} (h : SWPr ρ P G n s Q F H) (hq : ∀ e F H, Q e F H -> Q' e F H) : SWPr ρ P G n s Q' F H :=
 fun c hc => awp_mono (h c hc) hq
def WF (H : Hp) : Prop := ∀ b bk, H.get b = some bk -> b < H.nx
theorem ACalls.wf {f : FuncId} {args : List V} {H : Hp} {R : V -> Hp -> Prop} (h : ACalls P G f args H R) : ACalls P G f args H fun v H' => R v H' /\ WF H' :=
 fun μ K w xs hR ha => (h μ K w xs hR ha).mono fun _ _ ⟨x, he, v, H', μ', K', h1, h2, h3, h4⟩ => ⟨x, he, v, H', μ', K', ⟨h1, h3.lt'⟩, h2, h3, h4⟩
theorem initF_get : ∀ {l : List V} {i j : Nat}, (initF l i).get j = if i <= j then l[j - i]? else none
 | [], i, j => by simp [initF]
 | v :: l, i, j => by
  simp only [initF]
  rw [T.get_set]
  by_cases e : j = i
  ·subst e; simp
  ·rw [if_neg e, initF_get]
   by_cases h : i + 1 <= j
   ·rw [if_pos h, if_pos (by omega), show j - i = (j - (i + 1)) + 1 by omega]; simp
   ·rw [if_neg h, if_neg (by omega)]
def resOne (tmps : Array Value) : ResultVar -> Sem Value
 | .tmp t => pure (tmps.getD t Go.undef)
 | .cell c t => do loadVar t (<- asAddr (tmps.getD c Go.undef))
theorem mapM_head {rv : List ResultVar} {r : ResultVar} {f : ResultVar -> Sem Value} {x : Value} {xs : List Value} {w : World} (h1 : (f r).run P w = .ok x w) (h2 : (rv.mapM f).run P w = .ok xs w) : ((r :: rv).mapM f).run P w = .ok (x :: xs) w := by
 rw [List.mapM_cons, Sem.run_bind, h1, Result.andThen_ok, Sem.run_bind, h2]
 rfl
theorem aRes_ok {μ : Nat -> Pl} {K : Nat -> Prop} {F : T V} {H : Hp} {w : World} {a : Act} (hR : Rel G μ K H w) (hF : FRel μ K n F a.tmps) : ∀ {rv : List ResultVar} {rs : List SRes} {vs : List V}, cpRes P n rv = some rs -> aResL F H rs = some vs ->
  ∃ xs : List Value, All2 (RV1 μ K) vs xs /\ (rv.mapM (resOne a.tmps)).run P w = .ok xs w
 | [], rs, vs, h1, h2 => by
  simp [cpRes] at h1; subst h1
  simp [aResL] at h2; subst h2
  exact ⟨[], trivial, by simp⟩
 | .tmp t :: rv, rs, vs, h1, h2 => by
  simp only [cpRes] at h1
  split at h1
  ·rename_i ht
   simp only [Option.map_eq_some_iff] at h1
   obtain ⟨rs', hrs, rfl⟩ := h1
   simp only [aResL, aRes] at h2
   split at h2
   ·rename_i v vs' e1 e2
    split at h2
    ·rename_i hone
     obtain rfl := Option.some.inj h2
     obtain rfl := Option.some.inj e1
     obtain ⟨xs, hall, hrun⟩ := aRes_ok hR hF hrs e2
     exact ⟨a.tmps.getD t Go.undef :: xs, ⟨isOne_rv hone (hF.2 t ht), hall⟩, mapM_head rfl hrun⟩
    ·cases h2
   ·cases h2
  ·cases h1
 | .cell c t :: rv, rs, vs, h1, h2 => by
  simp only [cpRes] at h1
  split at h1
  ·rename_i g k hg hk
   split at h1
   ·rename_i hc
    simp only [Option.map_eq_some_iff] at h1
    obtain ⟨rs', hrs, rfl⟩ := h1
    simp only [aResL, aRes] at h2
    split at h2
    ·rename_i v vs' e1 e2
     split at h2
     ·rename_i hone
      obtain rfl := Option.some.inj h2
      obtain ⟨xs, hall, hrun⟩ := aRes_ok hR hF hrs e2
      have hv := hF.2 c hc
      simp only [aLoad, Opd.ev] at e1
      split at e1
      ·rename_i b o he
       rw [he] at hv
       obtain ⟨hkb, hv'⟩ : K b /\ a.tmps.getD c Go.undef = .pointer (some ((μ b).addr o)) := hv
       cases g with
       | true =>
        simp only [if_true, Option.map_eq_some_iff] at e1
        obtain ⟨l, hl, rfl⟩ := e1
        obtain ⟨ys, ha, hr⟩ := hR.loads (P := P) (n := k) (b := b) (o := o) (i := 0) (acc := #[]) hl
        have hr' : (loadCells ((μ b).addr o) k).run P w = .ok ys.toArray w := by simpa [loadCells] using hr
        refine ⟨.agg ys.toArray :: xs, ⟨⟨ys, rfl, ha⟩, hall⟩, mapM_head ?_ hrun⟩
        simp only [resOne, Sem.run_bind, hv', asAddr, Sem.run_pure, Result.andThen_ok, loadVar, isAggT_run hg, if_true, sizeT_run hk, hr']
       | false =>
        simp only [Bool.false_eq_true, if_false, Option.map_eq_some_iff] at e1
        obtain ⟨cc, hcc, rfl⟩ := e1
        obtain ⟨y, hy, hr⟩ := hR.cell hcc
        refine ⟨y :: xs, ⟨hr, hall⟩, mapM_head ?_ hrun⟩
        simp only [resOne, Sem.run_bind, hv', asAddr, Sem.run_pure, Result.andThen_ok, loadVar, isAggT_run hg, Bool.false_eq_true, if_false, run_load, hy]
      ·cases e1
     ·cases h2
    ·cases h2
   ·cases h1
  ·cases h1
theorem initF_ok {μ : Nat -> Pl} {K : Nat -> Prop} {args : List V} {xs : List Value} {n : Nat} (hn : args.length <= n) (ha : All2 (RV μ K) args xs) : FRel μ K n (initF args 0) (xs.toArray ++ Array.replicate (n - xs.toArray.size) Go.undef) := by
 have hlen := ha.len
 refine ⟨by simp; omega, fun i hi => ?_⟩
 rw [initF_get]
 simp only [Nat.zero_le, if_true, Nat.sub_zero]
 by_cases hlt : i < xs.length
 ·have h1 : args[i]? = some args[i] := List.getElem?_eq_getElem (by omega)
  rw [h1]
  obtain ⟨x, hx, hr⟩ := ha.at i _ h1
  have : (xs.toArray ++ Array.replicate (n - xs.toArray.size) Go.undef).getD i Go.undef = x := by
   simp [Array.getD_eq_getD_getElem?, Array.getElem?_append, hlt, List.getElem?_eq_getElem hlt] at hx ⊢
   exact hx
  rw [this]
  exact hr
 ·have h1 : args[i]? = none := List.getElem?_eq_none (by omega)
  rw [h1]
  have : (xs.toArray ++ Array.replicate (n - xs.toArray.size) Go.undef).getD i Go.undef = Go.undef := by
   simp only [Array.getD_eq_getD_getElem?, Array.getElem?_append]
   rw [if_neg (by simpa using hlt)]
   rw [Array.getElem?_replicate]
   split <;> rfl
  rw [this]
  exact RV.undef
theorem fnG_ok {ρ : Option (Option Nat)} {f : FuncId} {sf : SFn} (hf : cpFn P G f = some sf) {args : List V} {H : Hp} {R : V -> Hp -> Prop} {S : Hp -> Prop} (hn : args.length <= sf.n) (hρ : ρ = none \/ ρ = some none /\ sf.n <= DEFI) (h : SWPr ρ P G sf.n sf.code (retG ρ P G sf.res R S) (initF args 0) H) : ACallsP P G f args H R S := by
 unfold cpFn at hf
 split at hf
 ·cases hf
 ·rename_i fn hfn
  split at hf
  ·cases hf
  ·rename_i c hb
   split at hf
   ·rename_i s rs hs hrs
    obtain rfl := Option.some.inj hf
    intro μ K w xs hR ha
    have hfen : fen ρ = Fence.wide := by rcases hρ with rfl|⟨rfl, _⟩ <;> rfl
    refine (callsIn_wide (n := 0)).1 (callsIn_of_wp_marks hfn hb trivial ?_)
    have hlen := ha.len
    have hF0 : FRel μ K fn.ntmps (initF args 0) (xs.toArray ++ Array.replicate (fn.ntmps - xs.toArray.size) Go.undef) := initF_ok hn ha
    have hL0 : dL ρ (initF args 0) = [] := by
     rcases hρ with rfl|⟨rfl, hle⟩
     ·rfl
     ·have hn' : args.length <= fn.ntmps := hn
      have hle' : fn.ntmps <= DEFI := hle
      have : (initF args 0).get DEFI = none := by
       rw [initF_get]
       simp only [Nat.zero_le, if_true]
       exact List.getElem?_eq_none (by omega)
      simp only [dL, defsOf, this]
    have hw := h c hs w.heap.size μ K w ⟨_, []⟩ hR hF0 (by rw [hL0]; exact Dok.nil w (fun e => hρ.elim (fun h => by rw [h] at e; cases e) fun h => h.2) (Nat.le_refl _))
    rw [hfen] at hw
    refine wpIn_mono hw fun e a' w' he => ?_
    obtain ⟨F', H', μ', K', h1, h3, h4', h5, hd⟩ := he
    have door : ∀ (pan : Bool) (u : FrameMode), modeR pan u -> leaveQ P G (finQ rs R S F') (dL ρ F') pan H' -> LeavesInM Fence.wide 0 P fn a'.tmps (AEnd G μ K H w R S) a'.defers u w' := by
     intro pan u hm hl
     refine leave_ok (μ1 := μ') (K1 := K') hR.lt' (fun pan H1 μ1 K1 w1 u hfin hm hR1 hFr1 hk hmu => ?_) hd.2.1 hd.2.2.1 hd.2.2.2 h3 h5 (fun _ h => h) (fun _ _ => rfl) hm hl
     cases pan with
     | true =>
      obtain ⟨ch, rfl, hch⟩ := hm
      exact .inr ⟨ch, rfl, hch, H1, μ1, K1, hfin, hR1, hFr1⟩
     | false =>
      obtain rfl : u = .returning := hm
      have hres : (match aResult F' H1 rs with
       | some v => R v H1
       | none => False) := hfin
      have h4 : FRel μ1 K1 fn.ntmps F' a'.tmps := h4'.mono hk hmu
      unfold aResult at hres
      cases hl : aResL F' H1 rs with
      | none => simp [hl] at hres
      | some vs =>
       obtain ⟨ys, hall, hrun⟩ := aRes_ok (P := P) hR1 h4 hrs hl
       have hrun' : (results fn a'.tmps).run P w1 = .ok (if h : ys.toArray.size = 1 then ys.toArray[0] else .tuple ys.toArray) w1 := by
        have he : results fn a'.tmps = (do let vs <- fn.results.mapM (resOne a'.tmps); pure (if h : vs.size = 1 then vs[0] else .tuple vs)) := by
         unfold results resOne
         rfl
        rw [he, Sem.run_bind, Array.mapM_eq_mapM_toList, Sem.run_map, hrun]
        rfl
       clear hrun
       match vs, ys, hall, hl, hrun' with
       | [v], [y], hall, hl, hrun' =>
        simp only [hl] at hres
        exact ⟨y, by rw [hrun']; rfl, .inl ⟨y, rfl, v, H1, μ1, K1, hres, RV.of1 hall.1, hR1, hFr1⟩⟩
       | [], [], _, hl, hrun' =>
        simp only [hl] at hres
        exact ⟨.tuple #[], by rw [hrun']; rfl, .inl ⟨_, rfl, .tup [], H1, μ1, K1, hres, RV.undef, hR1, hFr1⟩⟩
       | v1 :: v2 :: vs, y1 :: y2 :: ys, hall, hl, hrun' =>
        simp only [hl] at hres
        exact ⟨.tuple (y1 :: y2 :: ys).toArray, by rw [hrun']; simp, .inl ⟨_, rfl, .tup (v1 :: v2 :: vs), H1, μ1, K1, hres, ⟨_, rfl, hall⟩, hR1, hFr1⟩⟩
       | [], _ :: _, hall, _, _ => exact hall.elim
       | _ :: _, [], hall, _, _ => exact hall.elim
       | [_], _ :: _ :: _, hall, _, _ => exact hall.2.elim
       | _ :: _ :: _, [_], hall, _, _ => exact hall.2.elim
    cases e with
    | normal => exact door false .returning rfl h1
    | ret => exact door false .returning rfl h1
    | panic ch => exact door true (.panicking ch) ⟨ch, rfl, h1.1⟩ h1.2
    | exit id => exact h1.elim
    | goto l => exact h1.elim
    | outgrown => exact h1.elim
   ·cases hf
theorem fn_ok {f : FuncId} {sf : SFn} (hf : cpFn P G f = some sf) {args : List V} {H : Hp} {R : V -> Hp -> Prop} (hn : args.length <= sf.n) (h : SWP P G sf.n sf.code (retQ sf.res R) (initF args 0) H) : ACalls P G f args H R :=
 ACallsP.of (fnG_ok (ρ := none) hf hn (.inl rfl) (swp_mono h fun e F H he => by
  cases e with
  | normal => exact he
  | ret => exact he
  | _ => exact he.elim))
end
end Go.Ab
