/- Deep values: operations on trees. -/
import Derived.Test.YtejpbhindcglpaaDoorAb7
set_option linter.unusedVariables false
set_option linter.unusedSimpArgs false
namespace Go.Ab

theorem rowsV_set (k : Nat) : ∀ (i : Nat) (rows : List (List FD)) (j : Nat) (r r' : List FD), rows[j]? = some r → r'.length = r.length → rowsV k i (rows.set j r') = rowsV k i rows
  | _, [], _, _, _, h, _ => by simp at h
  | i, q :: rs, 0, r, r', h, hl => by simp at h; subst h; simp [rowsV, hl]
  | i, q :: rs, j + 1, r, r', h, hl => by
    simp only [List.set_cons_succ, rowsV]
    rw [rowsV_set k (i + 1) rs j r r' (by simpa using h) hl]
/-- the rows of another tree, whose slots are the same -/
theorem rowsV_rel {Z : Nat → Prop} {H H' : Hp} {β β' : Beta} {k k' : Nat} {rows rows' : List (List FD)} {cs cs' : List C} (hl : rows'.length = cs'.length) (h : ∀ i r c, rows'[i]? = some r → cs'[i]? = some c → RD Z H' β' (.trow k' i 0 r.length) c) : All2 (RD Z H' β') (rowsV k' 0 rows') cs' := by
  refine All2.mk (by rw [rowsV_len]; exact hl) fun i d c hd hc => ?_
  rw [rowsV_at] at hd
  cases hr : rows'[i]? with
  | none => rw [hr] at hd; cases hd
  | some r =>
    rw [hr] at hd
    simp only [Option.map_some, Option.some.injEq, Nat.zero_add] at hd
    subst hd
    exact h i r c hr hc

section
variable {p : Par} {base rs : Nat} {Q : DEnv → Bx → Nat → Prop} {r : List SOper} {W : Wt} {A : List Nat} {E : DEnv} {S : Bx} {nk : Nat} {id : Nat} {dst : Option Nat} {aid : Option Nat} {ws : List Nat} {keep : Bool}

theorem AR.tree {Z : Nat → Prop} {β : Beta} {H H' : Hp} {σ : Nat → Option Slot} (hA : AR p base rs A Z β H) (hnx : H.nx ≤ H'.nx) (hg : ∀ j, j < rs → j ∉ A → H'.get (base + j) = H.get (base + j)) (hb : ∀ j, j < rs → j ∉ A → ∀ i N, σ i ≠ some (.blk (base + j) N)) : AR p base rs A Z (newT β nk σ) H' := by
  refine ⟨hA.1, fun j hj hjA => ?_⟩
  obtain ⟨h1, h2, h3, h4⟩ := hA.2 j hj hjA
  refine ⟨by omega, by rw [hg j hj hjA]; exact h2, h3, fun κ M => ?_⟩
  by_cases e : κ.1 = nk
  · simp only [newT, if_pos e]; exact hb j hj hjA _ M
  · rw [newT_ne _ _ e]; exact h4 κ M

/-- MAKE A TREE of rows that are nil yet -/
theorem mkt_core {Z : Nat → Prop} {β : Beta} {H H' : Hp} {n b : Nat} (hS : SR p Z β H S nk) (hz : ¬ Z b) (hβ : ∀ κ N, β κ ≠ some (.blk b N)) (hlo : p.lo ≤ b) (hb : b < H'.nx) (hnx : H.nx ≤ H'.nx) (hw : WF H') (hg : ∀ b', b' ≠ b → H'.get b' = H.get b') (hr : H'.get b = some (.row (n * 1) [.nils] .lf true)) :
    ∃ σ, SR p Z (newT β nk σ) H' ((nk, .tree (List.replicate n [])) :: S) (nk + 1) ∧ ZLe Z H Z H' ∧ BLe β (newT β nk σ) ∧ σ 0 = some (.blk b n) ∧ ∀ i c N, σ i = some (.blk c N) → c = b := by
  have hs0 : ∀ i c N, (fun i => match i with | 0 => some (Slot.blk b n) | i + 1 => if i < n then some Slot.nil else none) i = some (Slot.blk c N) → c = b ∧ i = 0 := fun i c N h => by
    cases i with
    | zero => exact ⟨(Slot.blk.inj (Option.some.inj h)).1.symm, rfl⟩
    | succ i =>
      simp only at h
      split at h <;> cases h
  refine ⟨fun i => match i with | 0 => some (.blk b n) | i + 1 => if i < n then some .nil else none, ?_⟩
  obtain ⟨g1, g2, g3⟩ := hS.tree (S0 := S) (H' := H') (rows := List.replicate n []) (σ := fun i => match i with | 0 => some (.blk b n) | i + 1 => if i < n then some .nil else none) (fun k x h => ⟨x, h⟩) hS.box hnx hw
    (fun c hc => hg c fun e => by
      rcases hc with hc | ⟨κ, x, N, _, hc⟩
      · exact hz (e ▸ hc)
      · exact hβ κ N (e ▸ hc))
    (fun i c N h => by rw [(hs0 i c N h).1]; exact hb)
    (fun i c N h => by rw [(hs0 i c N h).1]; exact hlo)
    (fun i j c N N' h h' => by rw [(hs0 i c N h).2, (hs0 j c N' h').2])
    (fun i c N κ x M h _ => by rw [(hs0 i c N h).1]; exact hβ κ M)
    ⟨_, rfl, hz, hlo, hb, List.replicate n .nils, [], by
      rw [List.append_nil]
      have := row_pat (z := [.nils]) (M := n * 1) (by simp) b H' hr
      have e : (List.range (n * 1)).map (fun i => [C.nils].getD (i % [C.nils].length) .nilp) = List.replicate n C.nils := by
        refine List.ext_getElem? fun i => ?_
        rw [List.getElem?_map]
        by_cases hi : i < n
        · rw [List.getElem?_range (by omega), List.getElem?_replicate, if_pos hi]; simp [Nat.mod_one]
        · rw [List.getElem?_eq_none (by simp; omega), List.getElem?_replicate, if_neg hi]; rfl
      rw [e] at this; exact this, by simp, by
      refine rowsV_rel (k := 0) (rows := []) (cs := []) (H := H) (β := β) (by simp) fun i r c h1 h2 => ?_
      rw [List.getElem?_replicate] at h1 h2
      split at h1
      · rename_i hi
        rw [if_pos hi] at h2
        obtain rfl := Option.some.inj h1
        obtain rfl := Option.some.inj h2
        exact .inl ⟨by rw [newT_self]; simp only [if_pos hi], rfl, rfl, rfl⟩
      · cases h1⟩
    (fun i r h => by
      rw [List.getElem?_replicate] at h
      split at h
      · rename_i hi
        obtain rfl := Option.some.inj h
        exact ⟨.nil, by simp only [if_pos hi], rfl⟩
      · cases h)
  exact ⟨g1, g2, g3, rfl, fun i c N h => (hs0 i c N h).1⟩
theorem mkt_alloc {bytes n : Nat} {lo co : Opd} {k k' : IntKind} (hl : ro E lo = some (.one (.f (.c (.int k (n : Nat)))))) (hc : ro E co = some (.one (.f (.c (.int k' (n : Nat)))))) (hb : bytes * n ≤ 281474976710656) (hm : n < 4611686018427387904) {Z : Nat → Prop} {β : Beta} {H : Hp} {F : T V} (hE : ER Z β H E F) : aAlloc F (.mkslice 1 bytes [.nils] lo co) = some (.row (n * 1) [.nils] .lf true, fun b => .one (.slc b 0 n n 1 true)) := by
  simp only [aAlloc, int_of hE hl, int_of hE hc]
  rw [if_pos ⟨by omega, by omega, by omega, by omega⟩]
  simp
theorem dw_mkt {bytes n : Nat} {lo co : Opd} {k k' : IntKind} (hl : ro E lo = some (.one (.f (.c (.int k (n : Nat)))))) (hc : ro E co = some (.one (.f (.c (.int k' (n : Nat)))))) (hb : bytes * n ≤ 281474976710656) (hm : n < 4611686018427387904)
    (h : DPW p base rs Q r W A (setD E dst (.one (.own nk 0 n 1))) ((nk, .tree (List.replicate n [])) :: S) (nk + 1)) : DPW p base rs Q (⟨id, dst, .a (.mkslice 1 bytes [.nils] lo co), none, none, ws, keep⟩ :: r) W A E S nk := .mk fun Z β H F c hS hE hC hA => by
  simp only [wOps, wantedA, if_true, mkt_alloc hl hc hb hm hE]
  have hfr : H.get H.nx = none := hS.wf.fresh (Nat.le_refl _)
  have hg : ∀ b', b' ≠ H.nx → (H.push (.row (n * 1) [.nils] .lf true)).get b' = H.get b' := fun b' hb' => by rw [Hp.get_push, if_neg hb']
  obtain ⟨σ, hS', hZ, hB, s0, s1⟩ := mkt_core (n := n) (b := H.nx) (H' := H.push (.row (n * 1) [.nils] .lf true)) hS (fun hz => absurd (hS.z _ hz) (by omega)) (fun k N hk => absurd (hS.bd k _ N hk) (by omega)) hS.lo (by simp) (by simp) (hS.wf.push _) hg (by rw [Hp.get_push, if_pos rfl])
  refine h.run Z _ _ _ c hS' ((hE.mono hZ hB).set dst ⟨_, rfl, .inr ⟨H.nx, n, n, true, by rw [newT_self]; exact s0, rfl, Nat.le_refl _, by omega⟩⟩) (hC.new hZ hB hg hfr) (hA.tree (by simp) (fun j hj hjA => hg _ ?_) fun j hj hjA i N e => ?_)
  · have := (hA.2 j hj hjA).1; omega
  · have := s1 i _ N e
    have := (hA.2 j hj hjA).1; omega
theorem dw_mkti {bytes n : Nat} {lo co : Opd} {k k' : IntKind} {i : Nat} (hi : Nat.blt i rs = true) (hA' : A.elem i = false) (hl : ro E lo = some (.one (.f (.c (.int k (n : Nat)))))) (hc : ro E co = some (.one (.f (.c (.int k' (n : Nat)))))) (hb : bytes * n ≤ 281474976710656) (hm : n < 4611686018427387904)
    (h : DPW p base rs Q r W (i :: A) (setD E dst (.one (.own nk 0 n 1))) ((nk, .tree (List.replicate n [])) :: S) (nk + 1)) : DPW p base rs Q (⟨id, dst, .a (.mkslice 1 bytes [.nils] lo co), none, some i, ws, keep⟩ :: r) W A E S nk := .mk fun Z β H F c hS hE hC hA => by
  simp only [wOps, wantedA, if_true, mkt_alloc hl hc hb hm hE]
  have hi' : i < rs := Nat.le_of_ble_eq_true hi
  have hiA : i ∉ A := fun h => by rw [List.elem_eq_true_of_mem h] at hA'; cases hA'
  obtain ⟨g1, g2, g3, g4⟩ := hA.2 i hi' hiA
  have hg : ∀ b', b' ≠ base + i → (H.add (base + i) (.row (n * 1) [.nils] .lf true)).get b' = H.get b' := fun b' hb' => Hp.get_add_ne _ _ hb'
  have hw : WF (H.add (base + i) (.row (n * 1) [.nils] .lf true)) := fun b k hb => by
    rw [Hp.get_add] at hb
    split at hb
    · simp; omega
    · exact hS.wf b k hb
  obtain ⟨σ, hS', hZ, hB, s0, s1⟩ := mkt_core (n := n) (b := base + i) (H' := H.add (base + i) (.row (n * 1) [.nils] .lf true)) hS g3 g4 (by have := hA.1; omega) (by simpa using g1) (by simp) hw hg (by simp)
  have hA2 : AR p base rs (i :: A) Z β H := ⟨hA.1, fun j hj hjA => hA.2 j hj fun h => hjA (by simp [h])⟩
  refine h.run Z _ _ _ c hS' ((hE.mono hZ hB).set dst ⟨_, rfl, .inr ⟨base + i, n, n, true, by rw [newT_self]; exact s0, rfl, Nat.le_refl _, by omega⟩⟩) (hC.new hZ hB hg g2) (hA2.tree (by simp) (fun j hj hjA => hg _ ?_) fun j hj hjA i' N e => ?_)
  · intro e; exact hjA (by simp; omega)
  · have := s1 i' _ N e
    exact hjA (by simp; omega)

/-- A ROW IS WRITTEN -/
theorem SR.updT {Z : Nat → Prop} {β : Beta} {H H' : Hp} (h : SR p Z β H S nk) {k i b N : Nat} {rows : List (List FD)} {q q' : List FD} {cs rest : List C} (hk : lk S k = some (.tree rows)) (hi : rows[i]? = some q) (hs : β (k, i + 1) = some (.blk b N)) (hl : q'.length = q.length) (hx : All2 (RF Z H) q' cs) (hg : ∀ b', b' ≠ b → H'.get b' = H.get b') (hnx : H'.nx = H.nx) (hr : Row H' b (cs ++ rest)) (hN : (cs ++ rest).length = N) :
    SR p Z β H' (put k (.tree (rows.set i q')) S) nk ∧ ZLe Z H Z H' := by
  have hk2 := lk2_row hk hi
  obtain ⟨s, hs', hbx⟩ := h.box (k, i + 1) _ hk2
  rw [hs] at hs'
  obtain rfl := Option.some.inj hs'
  obtain ⟨hz, hlo, hlt, _⟩ := hbx
  have hzg : ∀ b', Z b' → H'.get b' = H.get b' := fun b' hb' => hg b' fun e => hz (e ▸ hb')
  have hZ : ZLe Z H Z H' := ZLe.of_get (fun _ h => h) hzg
  have hil : i < rows.length := (List.getElem?_eq_some_iff.1 hi).1
  have hoth : ∀ (κ : Key) y, κ ≠ (k, i + 1) → lk2 S κ = some y → ∃ s, β κ = some s ∧ BoxR p Z H' β y s := fun κ y hne hy => by
    obtain ⟨s, hsj, hbj⟩ := h.box κ y hy
    obtain ⟨z, hz⟩ := lk2_lk hy
    refine ⟨s, hsj, hbj.mono (BLe.refl _) (by omega) fun b' hb' => ?_⟩
    rcases hb' with hb' | ⟨M, rfl⟩
    · exact hzg b' hb'
    · exact hg b' fun e' => hne (h.inj κ (k, i + 1) z _ b M N hz hk (e' ▸ hsj) hs)
  refine ⟨⟨fun b' bk hb' => ?_, by rw [hnx]; exact h.lo, fun b' hb' => by rw [hnx]; exact h.z b' hb', h.zlo, h.zz, fun b' bk hb' => ?_, h.nk, fun k b' N hk => by rw [hnx]; exact h.bd k b' N hk, fun κ y hκ => ?_, fun j j' y y' b' M M' hj hj' hsj hsj' => ?_, h.blo⟩, hZ⟩
  · rw [hnx]
    by_cases e : b' = b
    · omega
    · rw [hg b' e] at hb'; exact h.wf b' bk hb'
  · obtain ⟨h1, h2⟩ := h.glob b' bk hb'
    exact ⟨h1, by rw [hzg b' h1]; exact h2⟩
  · obtain ⟨j, t⟩ := κ
    by_cases e : j = k
    · subst e
      have hl' : lk (put j (.tree (rows.set i q')) S) j = some (.tree (rows.set i q')) := by rw [lk_put, if_pos rfl, hk]; rfl
      cases t with
      | zero =>
        simp only [lk2, hl', rowsV_set j 0 rows i q q' hi hl] at hκ
        exact hoth (j, 0) y (by simp) (by simp only [lk2, hk]; exact hκ)
      | succ t =>
        simp only [lk2, hl', List.getElem?_set] at hκ
        by_cases et : i = t
        · subst et
          rw [if_pos rfl, if_pos hil] at hκ
          obtain rfl := Option.some.inj hκ
          exact ⟨_, hs, hz, hlo, by omega, cs, rest, hr, hN, All2.mono (fun _ _ => RF.mono hZ) hx⟩
        · rw [if_neg et] at hκ
          exact hoth (j, t + 1) y (fun h => et (by simp at h; omega)) (by simp only [lk2, hk]; exact hκ)
    · have : lk2 S (j, t) = some y := by rw [← hκ]; exact (lk2_congr (by rw [lk_put, if_neg e])).symm
      exact hoth (j, t) y (fun h => e (Prod.mk.inj h).1) this
  · rw [lk_put] at hj hj'
    have f : ∀ a z, (if a = k then Option.map (fun _ => Bk.tree (rows.set i q')) (lk S a) else lk S a) = some z → ∃ z', lk S a = some z' := fun a z hz => by
      split at hz
      · cases hl : lk S a with
        | none => rw [hl] at hz; cases hz
        | some q => exact ⟨q, rfl⟩
      · exact ⟨z, hz⟩
    obtain ⟨z1, e1⟩ := f j.1 y hj
    obtain ⟨z2, e2⟩ := f j'.1 y' hj'
    exact h.inj j j' z1 z2 b' M M' e1 e2 hsj hsj'
theorem dw_stt {a v : Opd} {k i o : Nat} {rows : List (List FD)} {q : List FD} {x : FD} (ha : ro E a = some (.one (.tptr k i o))) (hv : ro E v = some (.one (.f x))) (hk : lk S k = some (.tree rows)) (hi : rows[i]? = some q) (ho : o < q.length) (hw : wOk0 S k W = true)
    (h : DPW p base rs Q r W A (setD E dst .undef) (put k (.tree (rows.set i (q.set o x))) S) nk) : DPW p base rs Q (⟨id, dst, .e (.store 1 a v), none, aid, ws, keep⟩ :: r) W A E S nk := .mk fun Z β H F c hS hE hC hA => by
  obtain ⟨ca, hca, b, N, hb, rfl⟩ := ro_ok hE ha
  obtain ⟨cv, hcv, hrv⟩ := ro_ok hE hv
  obtain ⟨s, hs, hbx⟩ := hS.box (k, i + 1) _ (lk2_row hk hi)
  rw [hb] at hs
  obtain rfl := Option.some.inj hs
  obtain ⟨hz, hlo, hlt, cs, rest, hrow, hN, hrel⟩ := hbx
  have hlen : q.length = cs.length := All2.len hrel
  obtain ⟨H', e1, e2, e3, e4⟩ := hrow.stores (cs := [cv]) (i := o) (by simp; omega)
  rw [setL_app [cv] cs rest o (by simp; omega)] at e2
  obtain ⟨hS', hZ⟩ := hS.updT (q' := q.set o x) (cs := setL cs o [cv]) (rest := rest) hk hi hb (by simp) (All2.set hrel o hrv) e3 e4 e2 (by rw [List.length_append, setL_len, ← List.length_append]; exact hN)
  simp only [wOps, wantedA, if_true, aEff, hca, hcv, cells1]
  rw [if_pos (by simp), e1]
  have hC' := hC.upd (k := (k, i + 1)) hS hk hZ e3 hb hw
  exact ⟨hC'.watch ws, h.run Z β H' _ c hS' ((hE.mono hZ (BLe.refl _)).set dst undef_ok) hC' (hA.upd e4 e3 hb)⟩
/-- a row is copied over another of the same length -/
theorem dw_cpt {x y : Opd} {k i n : Nat} {rows : List (List FD)} {q l : List FD} {d : DV} (hx : ro E x = some (.one (.trow k i 0 n))) (hy : ro E y = some d) (hk : lk S k = some (.tree rows)) (hi : rows[i]? = some q) (hq : q.length = n) (hd : SrcR S 1 d n l) (hw : wOk0 S k W = true)
    (h : DPW p base rs Q r W A (setD E dst (.int n)) (put k (.tree (rows.set i l)) S) nk) : DPW p base rs Q (⟨id, dst, .e (.copy 1 x y), none, aid, ws, keep⟩ :: r) W A E S nk := .mk fun Z β H F c hS hE hC hA => by
  obtain ⟨news, hn1, hn2, hn3⟩ := dsrc_ok hS hE hy hd
  rw [Nat.mul_one] at hn3
  have hil : i < rows.length := (List.getElem?_eq_some_iff.1 hi).1
  obtain ⟨cx, hcx, hrx⟩ := ro_ok hE hx
  simp only [wOps, wantedA, if_true, aEff, hcx, hn1]
  rcases hrx with ⟨g1, rfl, _, rfl⟩ | ⟨b, N, cap, ex, hb, rfl, hcap, hcN⟩
  · have e1 : q = [] := List.eq_nil_of_length_eq_zero hq
    have e2 : l = [] := List.eq_nil_of_length_eq_zero (by rw [hn2.len, hn3])
    subst e1; subst e2
    have hset : rows.set i [] = rows := by
      refine List.ext_getElem? fun j => ?_
      rw [List.getElem?_set]
      split
      · rename_i e; subst e; rw [hi]
      · rfl
    rw [hset] at h
    have hSp : SR p Z β H (put k (.tree rows) S) nk := hS.keepS fun j z hj => by
      rw [lk_put] at hj
      split at hj
      · rename_i e; subst e; rw [hk] at hj ⊢; exact hj
      · exact hj
    exact ⟨hC.watch ws, h.run Z β H _ c hSp (hE.set dst ⟨_, rfl, .c _ rfl⟩) hC hA⟩
  · obtain ⟨s, hs, hbx⟩ := hS.box (k, i + 1) _ (lk2_row hk hi)
    rw [hb] at hs
    obtain rfl := Option.some.inj hs
    obtain ⟨hz, hlo, hlt, cs, rest, hrow, hN, hrel⟩ := hbx
    have hlen : q.length = cs.length := All2.len hrel
    have htk : news.take (min n n * 1) = news := List.take_of_length_le (by omega)
    obtain ⟨H', e1, e2, e3, e4⟩ := hrow.stores (cs := news) (i := 0) (by simp; omega)
    rw [setL_app news cs rest 0 (by omega)] at e2
    have hset : setL cs 0 news = news := by
      have := dsetL_mid [] cs news [] (by omega)
      simpa using this
    rw [hset] at e2
    obtain ⟨hS', hZ⟩ := hS.updT (q' := l) (cs := news) (rest := rest) hk hi hb (by rw [hn2.len]; omega) hn2 e3 e4 e2 (by rw [← hN]; simp; omega)
    simp only [if_true, htk, e1]
    have hC' := hC.upd (k := (k, i + 1)) hS hk hZ e3 hb hw
    have hmin : ((min n n : Nat) : Int) = (n : Int) := by rw [Nat.min_self]
    simp only [Option.map_some, hmin]
    exact ⟨hC'.watch ws, h.run Z β H' _ c hS' ((hE.mono hZ (BLe.refl _)).set dst ⟨_, rfl, .c _ rfl⟩) hC' (hA.upd e4 e3 hb)⟩

/-- A BOX BECOMES A ROW of a tree, which gets a new name -/
theorem dw_strow {a v : Opd} {k k' o n : Nat} {rows : List (List FD)} {q : List FD} (ha : ro E a = some (.one (.ptr k o))) (hv : ro E v = some (.one (.own k' 0 n 1))) (hk : lk S k = some (.tree rows)) (hk' : lk S k' = some (.data q)) (hn : q.length = n) (ho : o < rows.length) (hw : wOk0 S k W = true)
    (h : DPW p base rs Q r W A (setD (mapS (rtV k nk) E) dst .undef) ((nk, .tree (rows.set o q)) :: mapS (rtB k nk) (era k' (era k S))) (nk + 1)) : DPW p base rs Q (⟨id, dst, .e (.store 1 a v), none, aid, ws, keep⟩ :: r) W A E S nk := .mk fun Z β H F c hS hE hC hA => by
  obtain ⟨ca, hca, b, N, hb, rfl⟩ := ro_ok hE ha
  obtain ⟨cv, hcv, hrv⟩ := ro_ok hE hv
  have hk0 : lk2 S (k, 0) = some (.cells (rowsV k 0 rows)) := by simp only [lk2, hk]
  have hkk : k' ≠ k := fun e => by subst e; rw [hk] at hk'; cases hk'
  obtain ⟨s, hs, hbx⟩ := hS.box (k, 0) _ hk0
  rw [hb] at hs
  obtain rfl := Option.some.inj hs
  obtain ⟨hz, hlo, hlt, cs, rest, hrow, hN, hrel⟩ := hbx
  have hlen : (rowsV k 0 rows).length = cs.length := All2.len hrel
  rw [rowsV_len] at hlen
  obtain ⟨H', e1, e2, e3, e4⟩ := hrow.stores (cs := [cv]) (i := o) (by simp; omega)
  rw [setL_app [cv] cs rest o (by simp; omega)] at e2
  have hwf : WF H' := fun b' bk hb' => by
    rw [e4]
    by_cases e : b' = b
    · omega
    · rw [e3 b' e] at hb'; exact hS.wf b' bk hb'
  -- the keys of the new tree's slots
  let κ : Nat → Option Key := fun i => match i with
    | 0 => some (k, 0)
    | i + 1 => if i = o then some (k', 0) else if i < rows.length then some (k, i + 1) else none
  let σ : Nat → Option Slot := fun i => (κ i).bind β
  have hσ : ∀ i s, σ i = some s → ∃ a, κ i = some a ∧ β a = some s := fun i s h => by
    simp only [σ, Option.bind_eq_some_iff] at h; exact h
  have hκlive : ∀ i a, κ i = some a → (a.1 = k ∨ a.1 = k') ∧ ∃ x, lk S a.1 = some x := fun i a h => by
    cases i with
    | zero => obtain rfl := Option.some.inj h; exact ⟨.inl rfl, _, hk⟩
    | succ i =>
      simp only [κ] at h
      split at h
      · obtain rfl := Option.some.inj h; exact ⟨.inr rfl, _, hk'⟩
      · split at h
        · obtain rfl := Option.some.inj h; exact ⟨.inl rfl, _, hk⟩
        · cases h
  have hκinj : ∀ i j a, κ i = some a → κ j = some a → i = j := fun i j a h1 h2 => by
    cases i with
    | zero =>
      obtain rfl := Option.some.inj h1
      cases j with
      | zero => rfl
      | succ j =>
        simp only [κ] at h2
        split at h2
        · have := Option.some.inj h2; simp at this; exact absurd this hkk
        · split at h2
          · have := Option.some.inj h2; simp at this
          · cases h2
    | succ i =>
      cases j with
      | zero =>
        obtain rfl := Option.some.inj h2
        simp only [κ] at h1
        split at h1
        · have := Option.some.inj h1; simp at this; exact absurd this hkk
        · split at h1
          · have := Option.some.inj h1; simp at this
          · cases h1
      | succ j =>
        simp only [κ] at h1 h2
        split at h1
        · rename_i ei
          obtain rfl := Option.some.inj h1
          split at h2
          · omega
          · split at h2
            · have := Option.some.inj h2; simp at this
            · cases h2
        · split at h1
          · obtain rfl := Option.some.inj h1
            split at h2
            · have := Option.some.inj h2; simp at this
            · split at h2
              · have := Option.some.inj h2; simp at this; omega
              · cases h2
          · cases h1
  have hσ0 : σ 0 = β (k, 0) := by simp [σ, κ]
  have hera : ∀ j x, lk (era k' (era k S)) j = some x → lk S j = some x ∧ j ≠ k ∧ j ≠ k' := fun j x hj => by
    rw [lk_era, lk_era] at hj
    split at hj
    · cases hj
    · split at hj
      · cases hj
      · exact ⟨hj, by assumption, by assumption⟩
  have hera2 : ∀ a x, lk2 (era k' (era k S)) a = some x → lk2 S a = some x ∧ a.1 ≠ k ∧ a.1 ≠ k' := fun a x ha => by
    rw [lk2_era, lk2_era] at ha
    split at ha
    · cases ha
    · split at ha
      · cases ha
      · exact ⟨ha, by assumption, by assumption⟩
  have hgL : ∀ b', (Z b' ∨ ∃ a x N, lk2 (era k' (era k S)) a = some x ∧ β a = some (.blk b' N)) → H'.get b' = H.get b' := fun b' hb' => e3 b' fun e => by
    rcases hb' with hb' | ⟨a, x, M, ha, hb'⟩
    · exact hz (e ▸ hb')
    · obtain ⟨h1, h2, _⟩ := hera2 a x ha
      obtain ⟨y, hy⟩ := lk2_lk h1
      exact h2 (by rw [hS.inj a (k, 0) y _ b M N hy hk (e ▸ hb') hb])
  have hBe := hS.bleT σ
  have hZe : ZLe Z H Z H' := ZLe.of_get (fun _ h => h) fun b' hb' => hgL b' (.inl hb')
  obtain ⟨hT, hZ, hB⟩ := hS.tree (S0 := era k' (era k S)) (H' := H') (rows := rows.set o q) (σ := σ) (fun j x hj => ⟨x, (hera j x hj).1⟩) (fun a x ha => hS.box a x (hera2 a x ha).1) (by omega) hwf hgL
    (fun i c M h => by obtain ⟨a, _, h2⟩ := hσ i _ h; rw [e4]; exact hS.bd a c M h2)
    (fun i c M h => by obtain ⟨a, _, h2⟩ := hσ i _ h; exact hS.blo a c M h2)
    (fun i j c M M' h1 h2 => by
      obtain ⟨a1, g1, g2⟩ := hσ i _ h1
      obtain ⟨a2, g3, g4⟩ := hσ j _ h2
      obtain ⟨_, x1, l1⟩ := hκlive i a1 g1
      obtain ⟨_, x2, l2⟩ := hκlive j a2 g3
      have := hS.inj a1 a2 x1 x2 c M M' l1 l2 g2 g4
      subst this
      exact hκinj i j a1 g1 g3)
    (fun i c M a x M' h1 ha hb' => by
      obtain ⟨a1, g1, g2⟩ := hσ i _ h1
      obtain ⟨w, x1, l1⟩ := hκlive i a1 g1
      obtain ⟨l2, n1, n2⟩ := hera a.1 x ha
      have := hS.inj a1 a x1 x c M M' l1 l2 g2 hb'
      subst this
      exact w.elim n1 n2)
    ⟨_, hσ0.trans hb, hz, hlo, by omega, setL cs o [cv], rest, e2, by rw [List.length_append, setL_len, ← List.length_append]; exact hN, by
      refine rowsV_rel (k := 0) (rows := []) (cs := []) (H := H) (β := β) (by rw [setL_len]; simp; omega) fun i t d h1 h2 => ?_
      simp only [setL, List.getElem?_set] at h1 h2
      by_cases ei : o = i
      · subst ei
        rw [if_pos rfl, if_pos (by omega)] at h1 h2
        obtain rfl := Option.some.inj h1
        obtain rfl := Option.some.inj h2
        have hs1 : σ (o + 1) = β (k', 0) := by simp [σ, κ]
        rw [hn]
        rcases hrv with ⟨w1, w2⟩ | ⟨b1, N1, cap, ex, w1, w2⟩
        · exact .inl ⟨by rw [newT_self, hs1]; exact w1, w2⟩
        · exact .inr ⟨b1, N1, cap, ex, by rw [newT_self, hs1]; exact w1, w2⟩
      · rw [if_neg ei] at h1 h2
        have hil : i < rows.length := (List.getElem?_eq_some_iff.1 h1).1
        have ei' : ¬ i = o := fun h => ei h.symm
        have hs1 : σ (i + 1) = β (k, i + 1) := by simp only [σ, κ, if_neg ei', if_pos hil, Option.bind_some]
        obtain ⟨c', hc', hr'⟩ := hrel.at i (.trow k i 0 t.length) (by rw [rowsV_at, h1]; simp)
        rw [h2] at hc'
        obtain rfl := Option.some.inj hc'
        rcases hr' with ⟨w1, w2⟩ | ⟨b1, N1, cap, ex, w1, w2⟩
        · exact .inl ⟨by rw [newT_self, hs1]; exact w1, w2⟩
        · exact .inr ⟨b1, N1, cap, ex, by rw [newT_self, hs1]; exact w1, w2⟩⟩
    (fun i t h1 => by
      have fin : ∀ a x, lk2 S a = some x → a ≠ (k, 0) → (∃ y, lk S a.1 = some y) → ∃ s, β a = some s ∧ BoxR p Z H' (newT β nk σ) x s := fun a x ha hne ⟨y, hy⟩ => by
        obtain ⟨s, hs, hbx⟩ := hS.box a x ha
        refine ⟨s, hs, hbx.mono hBe (by omega) fun b' hb' => ?_⟩
        rcases hb' with hb' | ⟨M, rfl⟩
        · exact hgL b' (.inl hb')
        · exact e3 b' fun e => hne (hS.inj a (k, 0) y _ b M N hy hk (e ▸ hs) hb)
      simp only [List.getElem?_set] at h1
      by_cases ei : o = i
      · subst ei
        rw [if_pos rfl, if_pos ho] at h1
        obtain rfl := Option.some.inj h1
        have hs1 : σ (o + 1) = β (k', 0) := by simp [σ, κ]
        rw [hs1]
        exact fin (k', 0) _ (lk2_of hk' rfl) (fun h => hkk (Prod.mk.inj h).1) ⟨_, hk'⟩
      · rw [if_neg ei] at h1
        have hil : i < rows.length := (List.getElem?_eq_some_iff.1 h1).1
        have ei' : ¬ i = o := fun h => ei h.symm
        have hs1 : σ (i + 1) = β (k, i + 1) := by simp only [σ, κ, if_neg ei', if_pos hil, Option.bind_some]
        rw [hs1]
        exact fin (k, i + 1) _ (lk2_row hk h1) (by simp) ⟨_, hk⟩)
  have hT' := hS.rtS (k := k) hσ0 hZ (fun a x ha => (hera2 a x ha).1) (fun a x ha e => by
    obtain ⟨y, hy⟩ := lk2_lk (hera2 a x ha).1
    have := hS.lt hy
    omega) hT (fun b' ⟨a, x, M, h1, h2⟩ => hgL b' (.inr ⟨a, x, M, h1, h2⟩)) (by omega)
  simp only [wOps, wantedA, if_true, aEff, hca, hcv, cells1]
  rw [if_pos (by simp), e1]
  have hC' := (hC.upd (k := (k, 0)) hS hk hZ e3 hb hw).step (ZLe.refl Z H') hB fun _ _ _ _ _ _ _ _ _ _ _ _ _ h => h
  refine ⟨hC'.watch ws, h.run Z _ H' _ c hT' ((rtE_ok hS hσ0 hZ hE).set dst undef_ok) hC' (hA.tree (by omega) (fun j hj hjA => e3 _ fun e => (hA.2 j hj hjA).2.2.2 (k, 0) N (by rw [e]; exact hb)) fun j hj hjA i M hM => ?_)⟩
  obtain ⟨a, _, g2⟩ := hσ i _ hM
  exact (hA.2 j hj hjA).2.2.2 a M g2
end
end Go.Ab

/- Deep values: rows appended to a tree; calls that hand back memory of their own. -/
namespace Go.Ab
section
variable {p : Par} {base rs : Nat} {Q : DEnv → Bx → Nat → Prop} {r : List SOper} {W : Wt} {A : List Nat} {E : DEnv} {S : Bx} {nk : Nat} {id : Nat} {dst : Option Nat} {aid : Option Nat} {ws : List Nat} {keep : Bool}
theorem CR.repl0 {Z : Nat → Prop} {β β' : Beta} {H H' : Hp} {b k : Nat} {c : Ctx} {x : Bk} (hS : SR p Z β H S nk) (hk : lk S k = some x) (hC : CR W Z β H c) (hZ : ZLe Z H Z H') (hB : BLe β β') (hg : ∀ b', b' ≠ b → (∀ N, β (k, 0) ≠ some (.blk b' N)) → H'.get b' = H.get b') (hb : (∃ N, β (k, 0) = some (.blk b N)) ∨ H.nx ≤ b) (hw : wOk0 S k W = true) : CR W Z β' H' c := hC.step hZ hB fun y hy j o n e b' N' i q hj _ _ hq => by
  obtain ⟨⟨z, hz⟩, hne⟩ := wOk0_mem hw y hy j o n e
  have h2 : ∀ N, β (k, 0) ≠ some (.blk b' N) := fun N e' => hne (by rw [hS.inj j (k, 0) z x b' N' N hz hk hj e'])
  have h1 : b' ≠ b := fun e' => by
    rcases hb with ⟨M, hM⟩ | hb
    · exact h2 M (e' ▸ hM)
    · have := hS.bd j b' N' hj; omega
  unfold Hp.cell at hq ⊢
  rw [hg b' h1 h2]; exact hq

/-- A ROW IS APPENDED to a tree, which gets a new name -/
theorem dw_appt {bytes : Nat} {s v : Opd} {k kv k' n m : Nat} {rows : List (List FD)} {q : List FD} (hs : ro E s = some (.one (.own k 0 n 1))) (hv : ro E v = some (.one (.own kv 0 1 1))) (hk : lk S k = some (.tree rows)) (hn : rows.length = n) (hkv : lk S kv = some (.cells [.own k' 0 m 1])) (hk' : lk S k' = some (.data q)) (hq : q.length = m) (hbb : (n + 1) * bytes ≤ 140737488355328) (h62 : n + 1 < 4611686018427387904) (hw : wOk0 S k W = true)
    (h : DPW p base rs Q r W A (setD E dst (.one (.own nk 0 (n + 1) 1))) ((nk, .tree (rows ++ [q])) :: era k' (era kv (era k S))) (nk + 1)) : DPW p base rs Q (⟨id, dst, .e (.append 1 bytes s v), none, aid, ws, keep⟩ :: r) W A E S nk := .mk fun Z β H F c hS hE hC hA => by
  obtain ⟨cs', hcs', hrs⟩ := ro_ok hE hs
  obtain ⟨cv', hcv', hrv⟩ := ro_ok hE hv
  have hk0 : lk2 S (k, 0) = some (.cells (rowsV k 0 rows)) := by simp only [lk2, hk]
  have hkk : k' ≠ k := fun e => by subst e; rw [hk] at hk'; cases hk'
  -- the row that is added
  obtain ⟨cv, hsrc, hcv⟩ : ∃ cv, srcCells H 1 (v.ev F) = some (1, [cv]) ∧ RD Z H β (.own k' 0 m 1) cv := by
    rcases hrv with ⟨_, h0, _⟩ | ⟨b, N, cap, ex, hb, rfl, _, _⟩
    · cases h0
    · obtain ⟨s, hs, hbx⟩ := hS.box (kv, 0) _ (lk2_of hkv rfl)
      rw [hb] at hs
      obtain rfl := Option.some.inj hs
      obtain ⟨_, _, _, cs, rest, hrow, hN, hrel⟩ := hbx
      match cs, hrel with
      | [cv], hrel =>
        refine ⟨cv, ?_, hrel.1⟩
        have := loads_take hrow.2 (m := 1) (by simp)
        rw [hcv']
        simp only [srcCells, if_true, Nat.mul_one, this]
        rfl
  obtain ⟨sk, hsk, hbx⟩ := hS.box (k, 0) _ hk0
  simp only [wOps, wantedA, if_true, aEff, hsrc, hcs']
  let κ : Nat → Option Key := fun i => if i < n then some (k, i + 1) else if i = n then some (k', 0) else none
  have hκlive : ∀ i a, κ i = some a → (a.1 = k ∨ a.1 = k') ∧ a ≠ (k, 0) ∧ ∃ x, lk S a.1 = some x := fun i a h => by
    simp only [κ] at h
    split at h
    · obtain rfl := Option.some.inj h; exact ⟨.inl rfl, by simp, _, hk⟩
    · split at h
      · obtain rfl := Option.some.inj h; exact ⟨.inr rfl, fun h => hkk (Prod.mk.inj h).1, _, hk'⟩
      · cases h
  have hκinj : ∀ i j a, κ i = some a → κ j = some a → i = j := fun i j a h1 h2 => by
    simp only [κ] at h1 h2
    split at h1
    · obtain rfl := Option.some.inj h1
      split at h2
      · have := Option.some.inj h2; simp at this; omega
      · split at h2
        · have := Option.some.inj h2; simp at this
        · cases h2
    · split at h1
      · obtain rfl := Option.some.inj h1
        split at h2
        · have := Option.some.inj h2; simp at this
        · split at h2
          · omega
          · cases h2
      · cases h1
  have hera : ∀ j x, lk (era k' (era kv (era k S))) j = some x → lk S j = some x ∧ j ≠ k ∧ j ≠ k' := fun j x hj => by
    rw [lk_era, lk_era, lk_era] at hj
    split at hj
    · cases hj
    · split at hj
      · cases hj
      · split at hj
        · cases hj
        · exact ⟨hj, by assumption, by assumption⟩
  have hera2 : ∀ a x, lk2 (era k' (era kv (era k S))) a = some x → lk2 S a = some x ∧ a.1 ≠ k ∧ a.1 ≠ k' := fun a x ha => by
    rw [lk2_era, lk2_era, lk2_era] at ha
    split at ha
    · cases ha
    · split at ha
      · cases ha
      · split at ha
        · cases ha
        · exact ⟨ha, by assumption, by assumption⟩
  have hzk : ∀ b' N, Z b' → β (k, 0) ≠ some (.blk b' N) := fun b' N hz e => by
    rw [hsk] at e
    obtain rfl := Option.some.inj e
    exact hbx.1 hz
  have hfin : ∀ (H' : Hp) (b : Nat) (olds rest : List C) (cap : Nat) (ex : Bool), (All2 (RD Z H β) (rowsV k 0 rows) olds) → ((∃ N, β (k, 0) = some (.blk b N)) ∨ (b = H.nx)) → b < H'.nx → H.nx ≤ H'.nx → WF H' → (∀ b', b' ≠ b → (∀ N, β (k, 0) ≠ some (.blk b' N)) → H'.get b' = H.get b') → Row H' b ((olds ++ [cv]) ++ rest) → n + 1 ≤ cap → cap * 1 ≤ ((olds ++ [cv]) ++ rest).length →
      watchOk ws c H' ∧ wOps p.P p.G base (fun F' H' => ∃ E' S' nk' Z' β', SR p Z' β' H' S' nk' ∧ ER Z' β' H' E' F' ∧ Q E' S' nk') r c (setO F dst (.one (.slc b 0 (n + 1) cap 1 ex))) H' := by
    intro H' b olds rest cap ex hol hb hbl hnx hwf hg hrow hcap hcl
    have hb' : (∃ N, β (k, 0) = some (.blk b N)) ∨ H.nx ≤ b := hb.imp (fun h => h) fun e => by omega
    have hlen := hol.len
    rw [rowsV_len] at hlen
    let σ : Nat → Option Slot := fun i => match i with
      | 0 => some (.blk b ((olds ++ [cv]) ++ rest).length)
      | i + 1 => (κ i).bind β
    have hσ : ∀ i s, σ (i + 1) = some s → ∃ a, κ i = some a ∧ β a = some s := fun i s h => by
      simp only [σ, Option.bind_eq_some_iff] at h; exact h
    -- the blocks of the rows are not the outer one
    have hrowne : ∀ i c' M, σ (i + 1) = some (.blk c' M) → c' ≠ b ∧ c' < H.nx ∧ ∀ N, β (k, 0) ≠ some (.blk c' N) := fun i c' M h => by
      obtain ⟨a, g1, g2⟩ := hσ i _ h
      obtain ⟨_, n1, x, l1⟩ := hκlive i a g1
      have hb0 : ∀ N, β (k, 0) ≠ some (.blk c' N) := fun N e => n1 (hS.inj a (k, 0) x _ c' M N l1 hk g2 e)
      have := hS.bd a c' M g2
      refine ⟨fun e => ?_, this, hb0⟩
      rcases hb with ⟨N, hN⟩ | hN
      · exact hb0 N (e ▸ hN)
      · omega
    have hzb : ¬ Z b := by
      rcases hb with ⟨N, hN⟩ | hN
      · exact fun hz => hzk b N hz hN
      · exact fun hz => absurd (hS.z _ hz) (by omega)
    have hlob : p.lo ≤ b := by
      rcases hb with ⟨N, hN⟩ | hN
      · exact hS.lo2 hk0 hN
      · have := hS.lo; omega
    have hgL : ∀ b', (Z b' ∨ ∃ a x N, lk2 (era k' (era kv (era k S))) a = some x ∧ β a = some (.blk b' N)) → H'.get b' = H.get b' := fun b' hb1 => by
      rcases hb1 with hb1 | ⟨a, x, M, ha, hb1⟩
      · exact hg b' (fun e => hzb (e ▸ hb1)) fun N => hzk b' N hb1
      · obtain ⟨h1, h2, _⟩ := hera2 a x ha
        obtain ⟨y, hy⟩ := lk2_lk h1
        have h3 : ∀ N, β (k, 0) ≠ some (.blk b' N) := fun N e => h2 (by rw [hS.inj a (k, 0) y _ b' M N hy hk hb1 e])
        refine hg b' (fun e => ?_) h3
        rcases hb with ⟨N, hN⟩ | hN
        · exact h3 N (e ▸ hN)
        · have := hS.bd a b' M hb1; omega
    have hBe := hS.bleT σ
    obtain ⟨hT, hZ, hB⟩ := hS.tree (S0 := era k' (era kv (era k S))) (H' := H') (rows := rows ++ [q]) (σ := σ) (fun j x hj => ⟨x, (hera j x hj).1⟩) (fun a x ha => hS.box a x (hera2 a x ha).1) hnx hwf hgL
      (fun i c' M h => by
        cases i with
        | zero => obtain ⟨rfl, _⟩ := Slot.blk.inj (Option.some.inj h); exact hbl
        | succ i => have := (hrowne i c' M h).2.1; omega)
      (fun i c' M h => by
        cases i with
        | zero => obtain ⟨rfl, _⟩ := Slot.blk.inj (Option.some.inj h); exact hlob
        | succ i => obtain ⟨a, _, h2⟩ := hσ i _ h; exact hS.blo a c' M h2)
      (fun i j c' M M' h1 h2 => by
        cases i with
        | zero =>
          obtain ⟨rfl, _⟩ := Slot.blk.inj (Option.some.inj h1)
          cases j with
          | zero => rfl
          | succ j => exact absurd rfl (hrowne j _ _ h2).1
        | succ i =>
          cases j with
          | zero => obtain ⟨rfl, _⟩ := Slot.blk.inj (Option.some.inj h2); exact absurd rfl (hrowne i _ _ h1).1
          | succ j =>
            obtain ⟨a1, g1, g2⟩ := hσ i _ h1
            obtain ⟨a2, g3, g4⟩ := hσ j _ h2
            obtain ⟨_, _, x1, l1⟩ := hκlive i a1 g1
            obtain ⟨_, _, x2, l2⟩ := hκlive j a2 g3
            have := hS.inj a1 a2 x1 x2 c' M M' l1 l2 g2 g4
            subst this
            rw [hκinj i j a1 g1 g3])
      (fun i c' M a x M' h1 ha hb1 => by
        obtain ⟨l2, n1, n2⟩ := hera a.1 x ha
        cases i with
        | zero =>
          obtain ⟨rfl, _⟩ := Slot.blk.inj (Option.some.inj h1)
          rcases hb with ⟨N, hN⟩ | hN
          · exact n1 (by rw [hS.inj a (k, 0) x _ _ M' N l2 hk hb1 hN])
          · have := hS.bd a _ M' hb1; omega
        | succ i =>
          obtain ⟨a1, g1, g2⟩ := hσ i _ h1
          obtain ⟨w, _, x1, l1⟩ := hκlive i a1 g1
          have := hS.inj a1 a x1 x c' M M' l1 l2 g2 hb1
          subst this
          exact w.elim n1 n2)
      ⟨_, rfl, hzb, hlob, hbl, olds ++ [cv], rest, hrow, rfl, by
        refine rowsV_rel (k := 0) (rows := []) (cs := []) (H := H) (β := β) (by simp; omega) fun i t d h1 h2 => ?_
        by_cases ei : i < n
        · rw [List.getElem?_append_left (by omega)] at h1 h2
          have hs1 : σ (i + 1) = β (k, i + 1) := by simp only [σ, κ, if_pos ei, Option.bind_some]
          obtain ⟨c', hc', hr'⟩ := hol.at i (.trow k i 0 t.length) (by rw [rowsV_at, h1]; simp)
          rw [h2] at hc'
          obtain rfl := Option.some.inj hc'
          rcases hr' with ⟨w1, w2⟩ | ⟨b1, N1, cap, ex, w1, w2⟩
          · exact .inl ⟨by rw [newT_self, hs1]; exact w1, w2⟩
          · exact .inr ⟨b1, N1, cap, ex, by rw [newT_self, hs1]; exact w1, w2⟩
        · have hi : i = n := by
            have := (List.getElem?_eq_some_iff.1 h1).1
            simp at this; omega
          subst hi
          rw [List.getElem?_append_right (by omega), hn] at h1
          rw [List.getElem?_append_right (by omega), ← hlen, hn] at h2
          simp at h1 h2
          subst h1; subst h2
          have hs1 : σ (i + 1) = β (k', 0) := by simp [σ, κ]
          rw [hq]
          rcases hcv with ⟨w1, w2⟩ | ⟨b1, N1, cap, ex, w1, w2⟩
          · exact .inl ⟨by rw [newT_self, hs1]; exact w1, w2⟩
          · exact .inr ⟨b1, N1, cap, ex, by rw [newT_self, hs1]; exact w1, w2⟩⟩
      (fun i t h1 => by
        have fin : ∀ a x, κ i = some a → lk2 S a = some x → ∃ s, σ (i + 1) = some s ∧ BoxR p Z H' (newT β nk σ) x s := fun a x hκ ha => by
          obtain ⟨s, hs, hbx⟩ := hS.box a x ha
          have hσi : σ (i + 1) = some s := by simp only [σ, hκ, Option.bind_some, hs]
          refine ⟨s, hσi, hbx.mono hBe hnx fun b' hb' => ?_⟩
          rcases hb' with hb' | ⟨M, rfl⟩
          · exact hgL b' (.inl hb')
          · obtain ⟨w1, _, w3⟩ := hrowne i b' M hσi
            exact hg b' w1 w3
        by_cases ei : i < n
        · rw [List.getElem?_append_left (by omega)] at h1
          exact fin (k, i + 1) _ (by simp only [κ, if_pos ei]) (lk2_row hk h1)
        · have hi : i = n := by
            have := (List.getElem?_eq_some_iff.1 h1).1
            simp at this; omega
          subst hi
          rw [List.getElem?_append_right (by omega), hn] at h1
          simp at h1
          subst h1
          exact fin (k', 0) _ (by simp [κ]) (lk2_of hk' rfl))
    have hC' := hC.repl0 hS hk hZ hB hg hb' hw
    refine ⟨hC'.watch ws, h.run Z _ H' _ c hT ((hE.mono hZ hB).set dst ⟨_, rfl, .inr ⟨b, _, cap, ex, by rw [newT_self], rfl, hcap, by omega⟩⟩) hC' (hA.tree hnx (fun j hj hjA => ?_) fun j hj hjA i M hM => ?_)⟩
    · obtain ⟨h1, h2, h3, h4⟩ := hA.2 j hj hjA
      refine hg _ (fun e => ?_) fun N => h4 (k, 0) N
      rcases hb with ⟨N, hN⟩ | hN
      · exact h4 (k, 0) N (by rw [e]; exact hN)
      · omega
    · obtain ⟨h1, h2, h3, h4⟩ := hA.2 j hj hjA
      cases i with
      | zero =>
        obtain ⟨e, _⟩ := Slot.blk.inj (Option.some.inj hM)
        rcases hb with ⟨N, hN⟩ | hN
        · exact h4 (k, 0) N (by rw [← e]; exact hN)
        · omega
      | succ i =>
        obtain ⟨a, _, g2⟩ := hσ i _ hM
        exact h4 a M g2
  rcases hrs with ⟨hnil, h0, _, rfl⟩ | ⟨b, N, cap, ex, hb, rfl, hcap, hcN⟩
  · have hr0 : rows = [] := List.eq_nil_of_length_eq_zero (by omega)
    subst hr0
    obtain rfl : n = 0 := h0
    simp only [aAppend]
    rw [if_neg (by decide), if_pos ⟨by omega, by omega⟩]
    exact hfin (H.push (.row 1 [cv] .lf true)) H.nx [] [] 1 false trivial (.inr rfl) (by simp) (by simp) (hS.wf.push _) (fun b' hb' _ => by rw [Hp.get_push, if_neg hb']) (by simpa using Row.new (H := H) [cv]) (by omega) (by simp)
  · rw [hb] at hsk
    obtain rfl := Option.some.inj hsk
    obtain ⟨hz, hlo, hlt, cells, rest, hrow, hN, hrel⟩ := hbx
    have hlen : (rowsV k 0 rows).length = cells.length := All2.len hrel
    rw [rowsV_len] at hlen
    simp only [aAppend]
    rw [if_neg (by simp)]
    by_cases hfit : n + 1 ≤ cap
    · rw [if_pos hfit, Nat.zero_add, Nat.mul_one]
      obtain ⟨rest', x, hrest⟩ : ∃ rest' x, rest = x :: rest' := by
        cases rest with
        | nil => simp at hN; omega
        | cons x rest' => exact ⟨rest', x, rfl⟩
      subst hrest
      obtain ⟨H', e1, e2, e3, e4⟩ := hrow.stores (cs := [cv]) (i := n) (by simp; omega)
      rw [e1]
      have hset : setL (cells ++ x :: rest') n [cv] = (cells ++ [cv]) ++ rest' := by
        have := dsetL_mid cells [x] [cv] rest' rfl
        rw [← hlen, hn] at this
        simpa using this
      rw [hset] at e2
      refine hfin H' b cells rest' cap ex hrel (.inl ⟨N, hb⟩) (by omega) (by omega) (fun b' bk hb' => ?_) (fun b' hb' _ => e3 b' hb') e2 hfit ?_
      · rw [e4]
        by_cases e : b' = b
        · omega
        · rw [e3 b' e] at hb'; exact hS.wf b' bk hb'
      · simp at hN ⊢; omega
    · rw [if_neg hfit, if_pos ⟨hbb, h62⟩]
      have hld : H.loads b 0 (n * 1) = some cells := by
        have := loads_take hrow.2 (m := n * 1) (by simp; omega)
        rw [this, List.take_append_of_le_length (by omega), List.take_of_length_le (by omega)]
      rw [hld]
      have hrow' := Row.new (H := H) (cells ++ [cv])
      cases ex with
      | true =>
        simp only [if_true]
        exact hfin _ H.nx cells [] (n + 1) false hrel (.inr rfl) (by simp) (by simp) (hS.wf.push _) (fun b' hb' _ => by rw [Hp.get_push, if_neg hb']) (by rw [List.append_nil]; exact hrow') (Nat.le_refl _) (by simp; omega)
      | false =>
        simp only [Bool.false_eq_true, if_false, hrow.mut, if_true]
        refine hfin _ H.nx cells [] (n + 1) false hrel (.inr rfl) (by simp) (by simp) (fun b' bk hb' => ?_) (fun b' hb' hne => ?_) (by rw [List.append_nil]; exact hrow'.same (by rw [Hp.get_del, if_neg (by omega)])) (Nat.le_refl _) (by simp; omega)
        · rw [Hp.get_del] at hb'
          split at hb'
          · cases hb'
          · exact hS.wf.push _ b' bk hb'
        · rw [Hp.get_del, if_neg (fun (e : b' = b) => hne N (by rw [e]; exact hb)), Hp.get_push, if_neg hb']
end
end Go.Ab

/- Deep values: calls that hand back memory of their own. -/
namespace Go.Ab

section
variable {p : Par} {n : Nat} {Q : Exit → DEnv → Bx → Nat → Prop} {E : DEnv} {S : Bx} {nk : Nat}
theorem virtT_ok {Z : Nat → Prop} {β : Beta} {H : Hp} (hS : SR p Z β H S nk) : ∃ σ, SR p Z (newT β nk σ) H ((nk, .tree []) :: S) (nk + 1) ∧ BLe β (newT β nk σ) ∧ σ 0 = some .nil := by
  have hno : ∀ i c N, (fun i => match i with | 0 => some Slot.nil | _ + 1 => none) i = some (Slot.blk c N) → False := fun i c N h => by
    cases i <;> cases h
  obtain ⟨g1, g2, g3⟩ := hS.tree (S0 := S) (H' := H) (rows := []) (σ := fun i => match i with | 0 => some .nil | _ + 1 => none) (fun k x h => ⟨x, h⟩) hS.box (Nat.le_refl _) hS.wf (fun _ _ => rfl) (fun i c N h => (hno i c N h).elim) (fun i c N h => (hno i c N h).elim) (fun i j c N N' h => (hno i c N h).elim) (fun i c N κ x M h => (hno i c N h).elim) ⟨_, rfl, rfl⟩ (fun i r h => by simp at h)
  exact ⟨_, g1, g3, rfl⟩
theorem ds_virtT {s : SC} (kb i : Nat) {l : List DC} (hk : lk S kb = some (.cells l)) (hi : l[i]? = some (.f (.c .nils))) (h : DPS p n s Q E ((nk, .tree []) :: put kb (.cells (l.set i (.own nk 0 0 1))) S) (nk + 1)) : DPS p n s Q E S nk := .mk fun Z β H F hS hE => by
  obtain ⟨σ, hT, hB, h0⟩ := virtT_ok hS
  have hkn := hS.lt hk
  have hkT : lk ((nk, .tree []) :: S) kb = some (.cells l) := by rw [lk_cons, if_neg (by omega)]; exact hk
  refine h.run Z _ H F ?_ (hE.mono (ZLe.refl Z H) hB)
  have hput : ∀ j, lk ((nk, .tree []) :: put kb (.cells (l.set i (.own nk 0 0 1))) S) j = lk (put kb (.cells (l.set i (.own nk 0 0 1))) ((nk, .tree []) :: S)) j := fun j => by
    simp only [put, beq_ne (show nk ≠ kb by omega)]
  refine ⟨hT.wf, hT.lo, hT.z, hT.zlo, hT.zz, hT.glob, hT.nk, hT.bd, fun κ y hκ => ?_, fun κ κ' y y' b N N' hj hj' => ?_, hT.blo⟩
  · rw [lk2_congr (hput κ.1), lk2_put hkT rfl] at hκ
    split at hκ
    · rename_i e
      split at hκ
      · rename_i e2
        obtain rfl := key_eq e e2
        obtain rfl := Option.some.inj hκ
        obtain ⟨s, hs, hbx⟩ := hT.box (kb, 0) _ (lk2_of hkT rfl)
        refine ⟨s, hs, ?_⟩
        cases s with
        | nil =>
          have : l = [] := List.eq_nil_of_length_eq_zero hbx
          subst this; cases hi
        | blk b N =>
          obtain ⟨g1, g2, g3, cs, rest, g4, g5, g6⟩ := hbx
          refine ⟨g1, g2, g3, cs, rest, g4, g5, ?_⟩
          obtain ⟨c, hc, hr⟩ := All2.at g6 i _ hi
          cases hr
          have hset : cs.set i .nils = cs := by
            refine List.ext_getElem? fun j => ?_
            rw [List.getElem?_set]
            split
            · rename_i ej; subst ej; rw [hc]; first | rfl | rw [if_pos (List.getElem?_eq_some_iff.1 hc).1]
            · rfl
          show All2 _ _ _
          rw [← hset]
          exact All2.set g6 i (.inl ⟨by rw [newT_self]; exact h0, rfl, rfl, rfl⟩)
      · cases hκ
    · exact hT.box κ y hκ
  · rw [hput] at hj hj'
    rw [lk_put] at hj hj'
    have f : ∀ a z, (if a = kb then Option.map (fun _ => Bk.cells (l.set i (.own nk 0 0 1))) (lk ((nk, .tree []) :: S) a) else lk ((nk, .tree []) :: S) a) = some z → ∃ z', lk ((nk, .tree []) :: S) a = some z' := fun a z hz => by
      split at hz
      · cases hl : lk ((nk, .tree []) :: S) a with
        | none => rw [hl] at hz; cases hz
        | some q => exact ⟨q, rfl⟩
      · exact ⟨z, hz⟩
    obtain ⟨z1, e1⟩ := f κ.1 y hj
    obtain ⟨z2, e2⟩ := f κ'.1 y' hj'
    exact hT.inj κ κ' z1 z2 b N N' e1 e2
end

/-- WHAT A CALL COMES TO THAT HANDS BACK MEMORY OF ITS OWN -/
def DCallsO (P : Program) (G : Nat) (GH : Hp) (f : FuncId) (ds : List DV) (R : DV → Bx → Nat → Prop) : Prop := ∀ (H : Hp) (Z : Nat → Prop) (args : List V), WF H → (∀ b, Z b → b < H.nx) → (∀ b bk, GH.get b = some bk → Z b ∧ H.get b = some bk) → All2 (RDV Z H nob) ds args →
  ACalls P G f args H fun v H' => H.nx ≤ H'.nx ∧ (∀ b, b < H.nx → H'.get b = H.get b) ∧ ∃ d S' nk' Z' β', SR ⟨P, G, GH, Z, H.nx⟩ Z' β' H' S' nk' ∧ RDV Z' H' β' d v ∧ R d S' nk'

section
variable {p : Par} {E : DEnv} {S : Bx} {nk : Nat}
theorem one_of {Z : Nat → Prop} {β : Beta} {H : Hp} {d : DV} {v : V} (hr : RDV Z H β d v) (hd : isOneD d = true) : isOne v = true ∧ RDV1 Z H β d v := by
  cases d with
  | one d => obtain ⟨c, rfl, hr⟩ := hr; exact ⟨rfl, c, rfl, hr⟩
  | agg l => obtain ⟨c, rfl, hr⟩ := hr; exact ⟨rfl, c, rfl, hr⟩
  | tup l => cases hd
theorem resDLO_ok {Z : Nat → Prop} {β : Beta} {H : Hp} {F : T V} (hS : SR p Z β H S nk) (hE : ER Z β H E F) : ∀ {l : List SRes} {ds : List DV}, resDL p E S l = some ds → allB isOneD ds = true → ∃ vs, aResL F H l = some vs ∧ All2 (RDV1 Z H β) ds vs
  | [], ds, h, _ => by obtain rfl := Option.some.inj h; exact ⟨[], rfl, trivial⟩
  | r :: l, ds, h, hf => by
    simp only [resDL] at h
    split at h
    · rename_i d q h1 h2
      obtain rfl := Option.some.inj h
      have f1 := allB_mem hf d (by simp)
      have f2 : allB isOneD q = true := by simp only [allB, f1] at hf; exact hf
      obtain ⟨v, e1, e2⟩ := resD_ok hS hE h1
      obtain ⟨vs, e3, e4⟩ := resDLO_ok hS hE h2 f2
      obtain ⟨o1, o2⟩ := one_of e2 f1
      exact ⟨v :: vs, by simp only [aResL, e1, e3, o1, if_true], o2, e4⟩
    · cases h
def onesD : DV → Bool
  | .tup l => allB isOneD l
  | _ => true
theorem resultO_ok {Z : Nat → Prop} {β : Beta} {H : Hp} {F : T V} (hS : SR p Z β H S nk) (hE : ER Z β H E F) {rs : List SRes} {d : DV} (h : resultD p E S rs = some d) (hf : onesD d = true) : ∃ v, aResult F H rs = some v ∧ RDV Z H β d v := by
  unfold resultD at h
  have one : ∀ d', resDL p E S rs = some [d'] → isOneD d' = true → ∃ v, aResult F H rs = some v ∧ RDV Z H β d' v := fun d' hd' hf' => by
    obtain ⟨vs, h1, h2⟩ := resDLO_ok hS hE hd' (by simp [allB, hf'])
    match vs, h1, h2 with
    | [v], h1, h2 => exact ⟨v, by simp only [aResult, h1], RDV.of1 h2.1⟩
  split at h
  · rename_i c hd'
    obtain rfl := Option.some.inj h
    exact one _ hd' rfl
  · rename_i l hd'
    obtain rfl := Option.some.inj h
    exact one _ hd' rfl
  · cases h
  · rename_i ds hn1 hn2 hn3 hds
    obtain rfl := Option.some.inj h
    obtain ⟨vs, h1, h2⟩ := resDLO_ok hS hE hds hf
    refine ⟨.tup vs, ?_, vs, rfl, h2⟩
    have hl := h2.len
    unfold aResult
    rw [h1]
    match vs, hl with
    | [], _ => rfl
    | [v], hl =>
      match ds, hl with
      | [.one d], _ => exact (hn1 d rfl).elim
      | [.agg d], _ => exact (hn2 d rfl).elim
      | [.tup d], _ => exact (hn3 d rfl).elim
    | _ :: _ :: _, _ => rfl
  · cases h
end
def retO (p : Par) (rs : List SRes) (R : DV → Bx → Nat → Prop) : Exit → DEnv → Bx → Nat → Prop
  | .normal, E, S, nk => ∃ d, resultD p E S rs = some d ∧ onesD d = true ∧ ∃ S0, SubA S0 S ∧ R d S0 nk
  | .ret, E, S, nk => ∃ d, resultD p E S rs = some d ∧ onesD d = true ∧ ∃ S0, SubA S0 S ∧ R d S0 nk
  | _, _, _, _ => False
/-- A FUNCTION'S CONTRACT -/
theorem dfnO_ok {P : Program} {G : Nat} {GH : Hp} {f : FuncId} {sf : SFn} (hf : cpFn P G f = some sf) {ds : List DV} {R : DV → Bx → Nat → Prop} (hn : Nat.ble ds.length sf.n = true) (hG : ∀ b bk, GH.get b = some bk → bk.ro = some bk) (h : ∀ Z0 lo, DPS ⟨P, G, GH, Z0, lo⟩ sf.n sf.code (retO ⟨P, G, GH, Z0, lo⟩ sf.res R) (argsD ds 0) [] 0) : DCallsO P G GH f ds R := by
  intro H Z args hw hz hg ha
  have hro : ACalls P G f args H.ro fun v H1 => ∃ d S' nk' Z' β', SR ⟨P, G, GH, Z, H.nx⟩ Z' β' H1 S' nk' ∧ RDV Z' H1 β' d v ∧ R d S' nk' := by
    have hwr : WF H.ro := fun b bk hb => by
      rw [Hp.get_ro, Option.bind_eq_some_iff] at hb
      obtain ⟨x, hx, _⟩ := hb
      exact hw b x hx
    refine (fn_ok hf (by rw [← ha.len]; exact Nat.le_of_ble_eq_true hn) ?_)
    have hS : SR ⟨P, G, GH, Z, H.nx⟩ Z nob H.ro [] 0 := ⟨hwr, Nat.le_refl _, hz, fun b hb => .inl hb, fun b hb => hb, fun b bk hb => ⟨(hg b bk hb).1, by rw [Hp.get_ro, (hg b bk hb).2]; exact hG b bk hb⟩, fun _ _ => rfl, fun _ _ _ hk => (by cases hk), fun κ x hk => (by obtain ⟨y, hy⟩ := lk2_lk hk; cases hy), fun _ _ _ _ _ _ _ hk => (by cases hk), fun _ _ _ hk => (by cases hk)⟩
    have hE : ER Z nob H.ro (argsD ds 0) (initF args 0) := argsD_ok 0 (ha.mono fun _ _ hr => RDV.mono (ZLe.of_le (fun _ h => h) (Le.ro H)) (BLe.refl nob) hr)
    refine swp_mono ((h Z H.nx).run Z nob H.ro _ hS hE) fun e F' H' ⟨E', S', nk', Z', β', h1, h2, h3⟩ => ?_
    have fin : (∃ d, resultD ⟨P, G, GH, Z, H.nx⟩ E' S' sf.res = some d ∧ onesD d = true ∧ ∃ S0, SubA S0 S' ∧ R d S0 nk') → ∃ v, aResult F' H' sf.res = some v ∧ ∃ d S' nk' Z' β', SR ⟨P, G, GH, Z, H.nx⟩ Z' β' H' S' nk' ∧ RDV Z' H' β' d v ∧ R d S' nk' := fun ⟨d, hd, hfr, S0, hsub, hR⟩ => by
      obtain ⟨v, hv, hr⟩ := resultO_ok h1 h2 hd hfr
      exact ⟨v, hv, d, S0, nk', Z', β', h1.keepS hsub, hr, hR⟩
    cases e with
    | normal => obtain ⟨v, hv, hr⟩ := fin h3; simp only [retQ, hv]; exact hr
    | ret => obtain ⟨v, hv, hr⟩ := fin h3; simp only [retQ, hv]; exact hr
    | _ => exact h3.elim
  refine (ACalls.none (ACalls.wf (ACalls.grow hro))).mono ?_
  rintro v H' ⟨⟨⟨H1, ⟨d, S', nk', Z', β', hS1, hr, hR⟩, e1, e2, e3, e4, e5⟩, hw'⟩, hno⟩
  have hnx : H'.nx = H1.nx := by rw [e1]; rfl
  have hold : ∀ b, b < H.nx → H'.get b = H.get b := fun b hb => by
    cases hgb : H.get b with
    | none => exact hno b hb hgb
    | some bk => exact e3 b bk hgb
  have hZ : ZLe Z' H1 Z' H' := ZLe.of_le (fun _ h => h) e5
  refine ⟨by omega, hold, d, S', nk', Z', β', ⟨hw', by simp only; omega, fun b hb => by rw [hnx]; exact hS1.z b hb, hS1.zlo, hS1.zz, fun b bk hb => ⟨(hS1.glob b bk hb).1, ?_⟩, hS1.nk, fun κ b N hκ => by rw [hnx]; exact hS1.bd κ b N hκ, fun κ x hκ => ?_, hS1.inj, hS1.blo⟩, hr.mono hZ (BLe.refl β'), hR⟩
  · rw [hold b (hz b (hg b bk hb).1)]; exact (hg b bk hb).2
  · obtain ⟨s, hs, hbx⟩ := hS1.box κ x hκ
    refine ⟨s, hs, ?_⟩
    cases s with
    | nil => exact hbx
    | blk b N =>
      obtain ⟨h1, h2, h3, cs, rest, h4, h5, h6⟩ := hbx
      exact ⟨h1, h2, by omega, cs, rest, h4.same (e4 b h2), h5, Bk.rel_mono hZ (BLe.refl _) h6⟩

/-- names are raised by n -/
def shP (n : Nat) : List (Nat × Nat) → List (Nat × Nat)
  | [] => []
  | (k, o) :: r => (k + n, o) :: shP n r
def shC (n : Nat) : DC → DC
  | .ptr k o => .ptr (k + n) o
  | .own k o m e => .own (k + n) o m e
  | .tptr k i o => .tptr (k + n) i o
  | .trow k i o m => .trow (k + n) i o m
  | .fn f l => .fn f (shP n l)
  | d => d
def shD : Nat → DV → DV
  | n, .one d => .one (shC n d)
  | n, .agg l => .agg (l.map (shC n))
  | _, .tup l => .tup l
def shV (n : Nat) : DV → DV
  | .one d => .one (shC n d)
  | .agg l => .agg (l.map (shC n))
  | .tup l => .tup (l.map (shD n))
def shB (n : Nat) : Bk → Bk
  | .cells l => .cells (l.map (shC n))
  | .data l => .data l
  | .tree l => .tree l
def shS (n : Nat) : Bx → Bx → Bx
  | [], T => T
  | (k, x) :: r, T => (k + n, shB n x) :: shS n r T
section
variable {Z : Nat → Prop} {H : Hp} {β β' : Beta} {n : Nat}
theorem shP_ok (hβ : ∀ k i, β' (k + n, i) = β (k, i)) : ∀ {l l' : List (Nat × Nat)}, capsR β l l' → capsR β' (shP n l) l'
  | [], [], _ => trivial
  | (_, _) :: _, (_, _) :: _, h => ⟨h.1, by obtain ⟨N, hN⟩ := h.2.1; exact ⟨N, by rw [hβ]; exact hN⟩, shP_ok hβ h.2.2⟩
  | [], _ :: _, h => h.elim
  | (_, _) :: _, [], h => h.elim
theorem shC_ok (hβ : ∀ k i, β' (k + n, i) = β (k, i)) {d : DC} {c : C} (h : RD Z H β d c) : RD Z H β' (shC n d) c := by
  cases d with
  | ptr k o => obtain ⟨b, N, h1, h2⟩ := h; exact ⟨b, N, by rw [hβ]; exact h1, h2⟩
  | tptr k i o => obtain ⟨b, N, h1, h2⟩ := h; exact ⟨b, N, by rw [hβ]; exact h1, h2⟩
  | own k o m e =>
    rcases h with ⟨h1, h2⟩ | ⟨b, N, cap, ex, h1, h2⟩
    · exact .inl ⟨by rw [hβ]; exact h1, h2⟩
    · exact .inr ⟨b, N, cap, ex, by rw [hβ]; exact h1, h2⟩
  | trow k i o m =>
    rcases h with ⟨h1, h2⟩ | ⟨b, N, cap, ex, h1, h2⟩
    · exact .inl ⟨by rw [hβ]; exact h1, h2⟩
    · exact .inr ⟨b, N, cap, ex, by rw [hβ]; exact h1, h2⟩
  | fn f l => obtain ⟨l', h1, h2⟩ := h; exact ⟨l', h1, shP_ok hβ h2⟩
  | f d => exact h
  | g b o => exact h
  | fptr l => exact h
  | any => trivial
theorem shL_ok (hβ : ∀ k i, β' (k + n, i) = β (k, i)) : ∀ {l : List DC} {cs : List C}, All2 (RD Z H β) l cs → All2 (RD Z H β') (l.map (shC n)) cs
  | [], [], _ => trivial
  | _ :: _, _ :: _, h => ⟨shC_ok hβ h.1, shL_ok hβ h.2⟩
  | [], _ :: _, h => h.elim
  | _ :: _, [], h => h.elim
theorem shD_ok (hβ : ∀ k i, β' (k + n, i) = β (k, i)) {d : DV} {v : V} (h : RDV1 Z H β d v) : RDV1 Z H β' (shD n d) v := by
  cases d with
  | one d => obtain ⟨c, rfl, h⟩ := h; exact ⟨c, rfl, shC_ok hβ h⟩
  | agg l => obtain ⟨c, rfl, h⟩ := h; exact ⟨c, rfl, shL_ok hβ h⟩
  | tup l => exact h.elim
theorem shV_ok (hβ : ∀ k i, β' (k + n, i) = β (k, i)) {d : DV} {v : V} (h : RDV Z H β d v) : RDV Z H β' (shV n d) v := by
  cases d with
  | one d => obtain ⟨c, rfl, h⟩ := h; exact ⟨c, rfl, shC_ok hβ h⟩
  | agg l => obtain ⟨c, rfl, h⟩ := h; exact ⟨c, rfl, shL_ok hβ h⟩
  | tup l =>
    obtain ⟨c, rfl, h⟩ := h
    refine ⟨c, rfl, ?_⟩
    have key : ∀ {l : List DV} {cs : List V}, All2 (RDV1 Z H β) l cs → All2 (RDV1 Z H β') (l.map (shD n)) cs := by
      intro l
      induction l with
      | nil => intro cs h; cases cs with
        | nil => trivial
        | cons _ _ => exact h.elim
      | cons d l ih => intro cs h; cases cs with
        | nil => exact h.elim
        | cons c cs => exact ⟨shD_ok hβ h.1, ih h.2⟩
    exact key h
theorem shRows (k : Nat) : ∀ (i : Nat) (rows : List (List FD)), (rowsV k i rows).map (shC n) = rowsV (k + n) i rows
  | _, [] => rfl
  | i, r :: rs => by simp only [rowsV, List.map_cons, shRows k (i + 1) rs, shC]
end
theorem lk_shS (n : Nat) (T : Bx) (hT : ∀ k x, lk T k = some x → k < n) : ∀ (S : Bx) (k : Nat), lk (shS n S T) k = if k < n then lk T k else (lk S (k - n)).map (shB n)
  | [], k => by
    simp only [shS, lk]
    split
    · rfl
    · rename_i hk
      cases hl : lk T k with
      | none => rfl
      | some x => exact absurd (hT k x hl) hk
  | (j, x) :: S, k => by
    simp only [shS, lk_cons]
    rw [lk_shS n T hT S k]
    by_cases hk : k < n
    · rw [if_pos hk, if_pos hk, if_neg (by omega)]
    · rw [if_neg hk, if_neg hk]
      by_cases e : j + n = k
      · rw [if_pos e, if_pos (by omega)]; rfl
      · rw [if_neg e, if_neg (by omega)]
theorem lk2_shS (n : Nat) (T : Bx) (hT : ∀ k x, lk T k = some x → k < n) (S : Bx) (κ : Key) : lk2 (shS n S T) κ = if κ.1 < n then lk2 T κ else (lk2 S (κ.1 - n, κ.2)).map (shB n) := by
  obtain ⟨k, i⟩ := κ
  have hl := lk_shS n T hT S k
  by_cases hk : k < n
  · rw [if_pos hk] at hl ⊢
    exact lk2_congr hl
  · rw [if_neg hk] at hl
    simp only [if_neg hk]
    cases i with
    | zero =>
      simp only [lk2, hl]
      cases hs : lk S (k - n) with
      | none => rfl
      | some x =>
        cases x with
        | tree rows => simp only [Option.map_some, shB, shRows]; rw [Nat.sub_add_cancel (by omega)]
        | cells l => rfl
        | data l => rfl
    | succ i =>
      simp only [lk2, hl]
      cases hs : lk S (k - n) with
      | none => rfl
      | some x =>
        cases x with
        | tree rows =>
          simp only [Option.map_some, shB]
          cases rows[i]? <;> rfl
        | cells l => rfl
        | data l => rfl
section
variable {p : Par} {base rs : Nat} {Q : DEnv → Bx → Nat → Prop} {r : List SOper} {W : Wt} {A : List Nat} {E : DEnv} {S : Bx} {nk : Nat} {id : Nat} {dst : Option Nat} {aid : Option Nat} {ws : List Nat} {keep : Bool}
theorem dw_cfr {f : FuncId} {args : List Opd} {ds : List DV} {R : DV → Bx → Nat → Prop} (hvs : ros E args = some ds) (hf : allB frV ds = true) (hc : DCallsO p.P p.G p.GH f ds R) (h : ∀ d S' nk', R d S' nk' → DPW p base rs Q r W A (setD E dst (shV nk d)) (shS nk S' S) (nk' + nk)) : DPW p base rs Q (⟨id, dst, .cf f args, none, aid, ws, keep⟩ :: r) W A E S nk := .mk fun Z β H F c hS hE hC hA => by
  simp only [wOps, wantedA, if_true]
  refine (hc H Z _ hS.wf hS.z hS.glob (frVL_ok hf (ros_ok hE hvs))).mono ?_
  rintro v H' ⟨hnx, hg, d, S', nk', Z', β', hS', hr, hR⟩
  have hz1 : ∀ b, Z b → Z' b := hS'.zz
  have hz2 : ∀ b, Z' b → b < H.nx → Z b := fun b hb hl => (hS'.zlo b hb).elim (fun h => h) fun h => by simp only at h; omega
  have hZ : ZLe Z H Z' H' := ZLe.of_get hz1 fun b hb => hg b (hS.z b hb)
  let β'' : Beta := fun κ => if κ.1 < nk then β κ else β' (κ.1 - nk, κ.2)
  have hβ : ∀ k i, β'' (k + nk, i) = β' (k, i) := fun k i => by simp only [β'', if_neg (show ¬ k + nk < nk by omega), Nat.add_sub_cancel]
  have hlo : ∀ κ, κ.1 < nk → β'' κ = β κ := fun κ h => by simp [β'', h]
  have hhi : ∀ κ : Key, ¬ κ.1 < nk → β'' κ = β' (κ.1 - nk, κ.2) := fun κ h => by simp [β'', h]
  have hB : BLe β β'' := fun κ s hκ => by rw [hlo κ (hS.lt1 hκ)]; exact hκ
  have hT : ∀ k x, lk S k = some x → k < nk := fun k x hk => hS.lt hk
  have hnew : ∀ (κ : Key) x b N, lk S' κ.1 = some x → β' κ = some (.blk b N) → (∃ y, lk2 S' κ = some y) → H.nx ≤ b := fun κ x b N _ hb ⟨y, hy⟩ => hS'.lo2 hy hb
  have hSS : SR p Z' β'' H' (shS nk S' S) (nk' + nk) := by
    refine ⟨hS'.wf, Nat.le_trans hS.lo hnx, hS'.z, fun b hb => ?_, fun b hb => hz1 b (hS.zz b hb), fun b bk hb => ?_, fun κ hκ => ?_, fun κ b N hκ => ?_, fun κ x hκ => ?_, fun κ κ' x x' b N N' hκ hκ' h1 h2 => ?_, fun κ b N hκ => ?_⟩
    · rcases hS'.zlo b hb with h | h
      · exact hS.zlo b h
      · exact .inr (Nat.le_trans hS.lo h)
    · obtain ⟨h1, h2⟩ := hS.glob b bk hb
      exact ⟨hz1 b h1, by rw [hg b (hS.z b h1)]; exact h2⟩
    · rw [hhi κ (by omega)]; exact hS'.nk _ (by simp only; omega)
    · by_cases hk : κ.1 < nk
      · rw [hlo κ hk] at hκ; exact Nat.lt_of_lt_of_le (hS.bd κ b N hκ) hnx
      · rw [hhi κ hk] at hκ; exact hS'.bd _ b N hκ
    · rw [lk2_shS nk S hT] at hκ
      by_cases hk : κ.1 < nk
      · rw [if_pos hk] at hκ
        obtain ⟨s, hs, hbx⟩ := hS.box κ x hκ
        refine ⟨s, hB κ s hs, ?_⟩
        cases s with
        | nil => exact hbx
        | blk b N =>
          obtain ⟨g1, g2, g3, cs, rest, g4, g5, g6⟩ := hbx
          exact ⟨fun h => g1 (hz2 b h g3), g2, by omega, cs, rest, g4.same (hg b g3), g5, Bk.rel_mono hZ hB g6⟩
      · rw [if_neg hk] at hκ
        cases hs : lk2 S' (κ.1 - nk, κ.2) with
        | none => rw [hs] at hκ; cases hκ
        | some y =>
          rw [hs] at hκ
          obtain rfl := Option.some.inj hκ
          obtain ⟨s, hs', hbx⟩ := hS'.box _ y hs
          refine ⟨s, by rw [hhi κ hk]; exact hs', ?_⟩
          cases s with
          | nil => cases y <;> simpa [BoxR, shB, Bk.len] using hbx
          | blk b N =>
            obtain ⟨g1, g2, g3, cs, rest, g4, g5, g6⟩ := hbx
            refine ⟨g1, Nat.le_trans hS.lo g2, g3, cs, rest, g4, g5, ?_⟩
            cases y with
            | cells l => exact shL_ok hβ g6
            | data l => exact g6
            | tree l => exact g6.elim
    · rw [lk_shS nk S hT] at hκ hκ'
      by_cases hk : κ.1 < nk
      · rw [if_pos hk] at hκ
        rw [hlo κ hk] at h1
        by_cases hk' : κ'.1 < nk
        · rw [if_pos hk'] at hκ'
          rw [hlo κ' hk'] at h2
          exact hS.inj κ κ' x x' b N N' hκ hκ' h1 h2
        · rw [hhi κ' hk'] at h2
          exact absurd (hS'.blo _ _ _ h2) fun hge => by have := hS.bd κ b N h1; simp only at hge; omega
      · rw [if_neg hk] at hκ
        rw [hhi κ hk] at h1
        by_cases hk' : κ'.1 < nk
        · rw [hlo κ' hk'] at h2
          exact absurd (hS'.blo _ _ _ h1) fun hge => by have := hS.bd κ' b N' h2; simp only at hge; omega
        · rw [if_neg hk'] at hκ'
          rw [hhi κ' hk'] at h2
          cases e1 : lk S' (κ.1 - nk) with
          | none => rw [e1] at hκ; cases hκ
          | some z1 =>
            cases e2 : lk S' (κ'.1 - nk) with
            | none => rw [e2] at hκ'; cases hκ'
            | some z2 =>
              have := hS'.inj (κ.1 - nk, κ.2) (κ'.1 - nk, κ'.2) z1 z2 b N N' e1 e2 h1 h2
              obtain ⟨q1, q2⟩ := Prod.mk.inj this
              obtain ⟨a, i⟩ := κ
              obtain ⟨a', i'⟩ := κ'
              simp only at hk hk' q1 q2
              rw [q2, show a = a' by omega]
    · by_cases hk : κ.1 < nk
      · rw [hlo κ hk] at hκ; exact hS.blo κ b N hκ
      · rw [hhi κ hk] at hκ; exact Nat.le_trans hS.lo (hS'.blo _ b N hκ)
  have hC' := hC.same hZ hB hg hS.wf
  refine ⟨hC'.watch ws, (h d S' nk' hR).run _ β'' H' _ c hSS ((hE.mono hZ hB).set dst (shV_ok hβ hr)) hC' ⟨hA.1, fun j hj hjA => ?_⟩⟩
  obtain ⟨h1, h2, h3, h4⟩ := hA.2 j hj hjA
  refine ⟨by omega, by rw [hg _ h1]; exact h2, fun h => h3 (hz2 _ h h1), fun κ N hκ => ?_⟩
  by_cases hk : κ.1 < nk
  · rw [hlo κ hk] at hκ; exact h4 κ N hκ
  · rw [hhi κ hk] at hκ
    have := hS'.blo _ _ _ hκ
    simp only at this; omega
end
end Go.Ab

/- Deep contracts: new grids. -/
namespace Go.Ab.Fn
open Go.Ab Go.Proofs
set_option linter.unusedSimpArgs false

abbrev DKO (f : FuncId) (ds : List DV) (R : DV → Bx → Nat → Prop) : Prop := DCallsO Tryd.prog 1 (H00 1) f ds R
def boF (b : Bool) : FD := .c (.bool b)
abbrev DotsL := List (List Bool)
def rowsF (d : DotsL) : List (List FD) := d.map (·.map boF)
/-- a grid that is no more written -/
def gridD (w h : Int) (d : DotsL) : DV := .agg [.f (.c (.int .i64 w)), .f (.c (.int .i64 h)), .f (.sl 1 d.length ((rowsF d).map rowF))]
def side (w : Int) : Int := min (max w 0) 200
def blankD (w h : Nat) : DotsL := List.replicate h (List.replicate w false)
theorem rowsF_len (d : DotsL) : (rowsF d).length = d.length := by simp [rowsF]
theorem rowsF_at {d : DotsL} {y : Nat} {r : List Bool} (h : d[y]? = some r) : (rowsF d)[y]? = some (r.map boF) := by simp [rowsF, h]
theorem rowsF_set (d : DotsL) (y : Nat) (r : List Bool) : (rowsF d).set y (r.map boF) = rowsF (d.set y r) := by simp [rowsF, List.map_set]
theorem boF_set (r : List Bool) (x : Nat) (b : Bool) : (r.map boF).set x (boF b) = (r.set x b).map boF := by simp [List.map_set]
theorem boF_at {r : List Bool} {x : Nat} {b : Bool} (h : r[x]? = some b) : (r.map boF)[x]? = some (boF b) := by simp [h]
theorem side_nat (w : Int) : ∃ n : Nat, side w = n ∧ n ≤ 200 := ⟨(side w).toNat, by unfold side; omega, by unfold side; omega⟩
theorem reps_false (n : Nat) : reps' [.c (.bool false)] n = (List.replicate n false).map boF := by rw [reps'_one]; simp [boF]

theorem o_rnew (w h : Int) : DKO 11 [.int w, .int h] fun d S nk => ∃ n m : Nat, side w = n ∧ side h = m ∧ n ≤ 200 ∧ m ≤ 200 ∧ d = .agg [.f (.c (.int .i64 n)), .f (.c (.int .i64 m)), .own 2 0 m 1] ∧ S = [(2, .tree (rowsF (blankD n m)))] ∧ nk = 3 := by
  refine dfnO_ok cp11 rfl GHro fun Z0 lo => ?_
  obtain ⟨n, hn, hn2⟩ := side_nat w
  obtain ⟨m, hm, hm2⟩ := side_nat h
  repeat (first | refine dw_max rfl rfl ?_ | refine dw_min rfl rfl ?_ | refine dw_p rfl ?_ | refine dw_a rfl ?_ | refine dw_st rfl rfl rfl rfl rfl (Nat.le_of_ble_eq_true rfl) rfl ?_ | refine dw_nil ?_ | refine ds_seq ?_ | refine ds_ops mix (fun base => ?_) | refine ds_block ?_)
  rw [show min (max w 0) 200 = (n : Int) from hn, show min (max h 0) 200 = (m : Int) from hm]
  refine ds_virtT 1 2 rfl rfl ?_
  refine ds_keep (SubA.cons (k := 4) rfl (SubA.cons (k := 5) rfl (SubA.cons (k := 6) rfl (SubA.nil _)))) (SubA.cons (k := 0) rfl (SubA.cons (k := 1) rfl (SubA.cons (k := 2) rfl (SubA.nil _)))) ?_
  refine ds_loop (fun k E S nk => ∃ y : Nat, y + k = m ∧ E = [(4, .one (.ptr 0 0)), (5, .one (.ptr 1 0)), (6, .int y)] ∧ S = [(0, .cells [.f (.c (.int .i64 0)), .f (.c (.int .i64 0)), .f (.c .nils)]), (1, .cells [.f (.c (.int .i64 n)), .f (.c (.int .i64 m)), .own 2 0 y 1]), (2, .tree (rowsF (blankD n y)))] ∧ nk = 3) ⟨m, _, _, _, [], ?wk, 0, by omega, rfl, rfl, rfl⟩ ?_
  case wk => exact ⟨by repeat (first | exact trivial | refine ⟨by first | rfl | exact congrArg (fun z => some (DV.int z)) (dwrap (by omega) (by omega)), rfl, ?_⟩), by repeat (first | exact trivial | refine ⟨by first | rfl | exact congrArg (fun z => some (Bk.data z)) (by assumption), rfl, rfl, ?_⟩), rfl⟩
  rintro k E S nk ⟨y, hy, rfl, rfl, rfl⟩
  repeat (first | refine dw_p rfl ?_ | refine dw_l rfl ?_ | refine dw_nil ?_ | refine ds_seq ?_ | refine ds_ops mix (fun base => ?_))
  refine ds_if rfl (fun ht => ?_) (fun ht => ?_)
  · simp at ht
    repeat (first | refine dw_p rfl ?_ | refine dw_l rfl ?_ | refine ds_seq ?_ | refine ds_ops mix (fun base => ?_) | refine ds_skip ?_ | refine ds_block ?_)
    refine dw_mki [.c (.bool false)] rfl rfl rfl rfl ⟨rfl, rfl, trivial⟩ rfl (by decide) (Nat.le_refl _) (by omega) (by omega) ?_
    repeat (first | refine dw_ai rfl rfl rfl ?_)
    refine dw_appt rfl rfl rfl (by simp [rowsF, blankD]) rfl rfl (by rw [reps'_len]; simp) (by omega) (by omega) rfl ?_
    rw [show rowsF (blankD n y) ++ [reps' [.c (.bool false)] n] = rowsF (blankD n (y + 1)) by rw [reps_false]; simp [rowsF, blankD, List.replicate_succ']]
    repeat (first | refine dw_p rfl ?_ | refine dw_st rfl rfl rfl rfl rfl (Nat.le_of_ble_eq_true rfl) rfl ?_ | refine dw_nil ?_ | refine ds_ops mix (fun base => ?_))
    refine ⟨k - 1, by omega, _, _, _, [(2, 5)], ?wk1, y + 1, by omega, rfl, rfl, rfl⟩
    case wk1 => exact ⟨by repeat (first | exact trivial | refine ⟨by first | rfl | exact congrArg (fun z => some (DV.int z)) (dwrap (by omega) (by omega)), rfl, ?_⟩), by repeat (first | exact trivial | refine ⟨by first | rfl | exact congrArg (fun z => some (Bk.data z)) (by assumption), rfl, rfl, ?_⟩), rfl⟩
  · simp at ht
    obtain rfl : y = m := by omega
    repeat (first | refine dw_l rfl ?_ | refine dw_st rfl rfl rfl rfl rfl (Nat.le_of_ble_eq_true rfl) rfl ?_ | refine dw_nil ?_ | refine ds_seq ?_ | refine ds_ops mix (fun base => ?_) | refine ds_exit ?_)
    refine ds_ret ⟨_, rfl, rfl, _, SubA.cons (k := 2) rfl (SubA.nil _), n, y, hn, hm, hn2, hm2, rfl, rfl, rfl⟩
end Go.Ab.Fn

/- Deep contracts: grids. -/
namespace Go.Ab.Fn
open Go.Ab Go.Proofs
set_option linter.unusedSimpArgs false

def Sz (w h : Nat) (d : DotsL) : Prop := d.length = h ∧ ∀ r ∈ d, r.length = w
def dot (d : DotsL) (x y : Nat) : Bool := match d[y]? with
  | some r => (r[x]?).getD false
  | none => false
def setDot (d : DotsL) (x y : Nat) (b : Bool) : DotsL := match d[y]? with
  | some r => d.set y (r.set x b)
  | none => d
theorem Sz.row {w h : Nat} {d : DotsL} (hd : Sz w h d) {y : Nat} (hy : y < h) : ∃ r, d[y]? = some r ∧ r.length = w := by
  have hl : y < d.length := by rw [hd.1]; exact hy
  exact ⟨d[y], List.getElem?_eq_getElem hl, hd.2 _ (List.getElem_mem hl)⟩
theorem Sz.cell {w h : Nat} {d : DotsL} (hd : Sz w h d) {x y : Nat} (hx : x < w) (hy : y < h) : ∃ r, d[y]? = some r ∧ r.length = w ∧ r[x]? = some (dot d x y) := by
  obtain ⟨r, h1, h2⟩ := hd.row hy
  refine ⟨r, h1, h2, ?_⟩
  have : x < r.length := by omega
  simp [dot, h1, List.getElem?_eq_getElem this]
theorem Sz.set {w h : Nat} {d : DotsL} (hd : Sz w h d) (x y : Nat) (b : Bool) : Sz w h (setDot d x y b) := by
  unfold setDot
  split
  · rename_i r hr
    refine ⟨by simpa using hd.1, fun q hq => ?_⟩
    rcases List.mem_or_eq_of_mem_set hq with h | h
    · exact hd.2 q h
    · subst h; simpa using hd.2 r (List.mem_of_getElem? hr)
  · exact hd
theorem dot_set {w h : Nat} {d : DotsL} (hd : Sz w h d) {x y : Nat} (hx : x < w) (hy : y < h) (b : Bool) (i j : Nat) : dot (setDot d x y b) i j = if i = x ∧ j = y then b else dot d i j := by
  obtain ⟨r, h1, h2⟩ := hd.row hy
  have hyl : y < d.length := by rw [hd.1]; exact hy
  simp only [setDot, h1, dot, List.getElem?_set]
  by_cases e : y = j
  · subst e
    rw [if_pos rfl, if_pos hyl]
    simp only [h1, List.getElem?_set]
    by_cases e2 : x = i
    · subst e2; rw [if_pos rfl, if_pos (by omega)]; simp
    · rw [if_neg e2, if_neg (fun h => e2 h.1.symm)]
  · rw [if_neg e, if_neg (fun h => e h.2.symm)]
theorem Sz.ext {w h : Nat} {d d' : DotsL} (hd : Sz w h d) (hd' : Sz w h d') (he : ∀ x y, x < w → y < h → dot d x y = dot d' x y) : d = d' := by
  refine List.ext_getElem? fun y => ?_
  by_cases hy : y < h
  · obtain ⟨r, h1, h2⟩ := hd.row hy
    obtain ⟨r', h1', h2'⟩ := hd'.row hy
    rw [h1, h1']
    congr 1
    refine List.ext_getElem? fun x => ?_
    by_cases hx : x < w
    · obtain ⟨_, g1, _, g2⟩ := hd.cell hx hy
      obtain ⟨_, g1', _, g2'⟩ := hd'.cell hx hy
      rw [h1] at g1; rw [h1'] at g1'
      obtain rfl := Option.some.inj g1
      obtain rfl := Option.some.inj g1'
      rw [g2, g2', he x y hx hy]
    · rw [List.getElem?_eq_none (by omega), List.getElem?_eq_none (by omega)]
  · rw [List.getElem?_eq_none (by rw [hd.1]; omega), List.getElem?_eq_none (by rw [hd'.1]; omega)]
theorem Sz.blankD (w h : Nat) : Sz w h (blankD w h) := ⟨by simp [Fn.blankD], fun r hr => by
  obtain ⟨_, rfl⟩ := List.mem_replicate.1 hr
  simp⟩
theorem dot_blank (w h x y : Nat) : dot (blankD w h) x y = false := by
  unfold dot
  split
  · rename_i r hr
    simp only [blankD, List.getElem?_replicate] at hr
    split at hr
    · obtain rfl := Option.some.inj hr
      rw [List.getElem?_replicate]
      split <;> rfl
    · cases hr
  · rfl
theorem rowsF_setDot {d : DotsL} {y : Nat} {r : List Bool} (h : d[y]? = some r) (x : Nat) (b : Bool) : (rowsF d).set y ((r.map boF).set x (.c (.bool b))) = rowsF (setDot d x y b) := by
  simp only [setDot, h]
  rw [← rowsF_set, ← boF_set]; rfl
theorem rowF_at {rows : List (List FD)} {y : Nat} {r : List FD} (h : rows[y]? = some r) : subL (rows.map rowF) (y * 1) 1 = some [rowF r] := by
  have hl := (List.getElem?_eq_some_iff.1 h).1
  rw [Nat.mul_one, subL_of (by simp; omega)]
  congr 1
  refine List.ext_getElem? fun j => ?_
  rw [List.getElem?_take]
  split
  · rename_i hj
    obtain rfl : j = 0 := by omega
    rw [List.getElem?_drop, List.getElem?_map, Nat.add_zero, h]
    rfl
  · rw [List.getElem?_eq_none (by simp; omega)]
theorem one_at {r : List FD} {x : Nat} {b : FD} (h : r[x]? = some b) : subL r (x * 1) 1 = some [b] := by
  have hl := (List.getElem?_eq_some_iff.1 h).1
  rw [Nat.mul_one, subL_of (by omega)]
  congr 1
  refine List.ext_getElem? fun j => ?_
  rw [List.getElem?_take]
  split
  · rename_i hj
    obtain rfl : j = 0 := by omega
    rw [List.getElem?_drop, Nat.add_zero, h]
    rfl
  · rw [List.getElem?_eq_none (by simp; omega)]

theorem o_new (w h : Int) : DKO 31 [.int w, .int h] fun d S nk => ∃ n m : Nat, side w = n ∧ side h = m ∧ n ≤ 200 ∧ m ≤ 200 ∧ d = .agg [.f (.c (.int .i64 n)), .f (.c (.int .i64 m)), .own 2 0 m 1] ∧ S = [(2, .tree (rowsF (blankD n m)))] ∧ nk = 3 := by
  refine dfnO_ok cp31 rfl GHro fun Z0 lo => ?_
  obtain ⟨n, hn, hn2⟩ := side_nat w
  obtain ⟨m, hm, hm2⟩ := side_nat h
  repeat (first | refine dw_max rfl rfl ?_ | refine dw_min rfl rfl ?_ | refine dw_p rfl ?_ | refine dw_a rfl ?_ | refine dw_nil ?_ | refine ds_seq ?_ | refine ds_ops mix (fun base => ?_))
  rw [show min (max w 0) 200 = (n : Int) from hn, show min (max h 0) 200 = (m : Int) from hm]
  refine dw_mkt (n := m) rfl rfl (by omega) (by omega) ?_
  repeat (first | refine dw_p rfl ?_ | refine dw_a rfl ?_ | refine dw_st rfl rfl rfl rfl rfl (Nat.le_of_ble_eq_true rfl) rfl ?_ | refine dw_nil ?_ | refine ds_seq ?_ | refine ds_ops mix (fun base => ?_) | refine ds_block ?_)
  refine ds_loop (fun k E S nk => ∃ y : Nat, y + k = m ∧ ∃ cur : DotsL, cur.length = m ∧ (∀ j, j < y → cur[j]? = some (List.replicate n false)) ∧ E = [(0, .int n), (4, .one (.ptr 0 0)), (5, .one (.ptr 1 0)), (18, .int m), (19, .int y)] ∧ S = [(0, .cells [.f (.c (.int .i64 0)), .f (.c (.int .i64 0)), .f (.c .nils)]), (1, .cells [.f (.c (.int .i64 n)), .f (.c (.int .i64 m)), .own 2 0 m 1]), (2, .tree (rowsF cur))] ∧ nk = 3) ⟨m, _, _, _, [(1, 2), (2, 1)], ?wk, 0, by omega, List.replicate m [], by simp, by omega, rfl, rfl, rfl⟩ ?_
  case wk => exact ⟨by repeat (first | exact trivial | refine ⟨rfl, rfl, ?_⟩), ⟨rfl, rfl, rfl, rfl, rfl, rfl, congrArg (fun z => some (Bk.tree z)) (by simp [rowsF]), rfl, rfl, trivial⟩, rfl⟩
  rintro k E S nk ⟨y, hy, cur, hcl, hcur, rfl, rfl, rfl⟩
  repeat (first | refine dw_p rfl ?_ | refine dw_nil ?_ | refine ds_seq ?_ | refine ds_ops mix (fun base => ?_))
  refine ds_if rfl (fun ht => ?_) (fun ht => ?_)
  · simp at ht
    repeat (first | refine dw_p rfl ?_ | refine dw_l rfl ?_ | refine dw_nil ?_ | refine ds_seq ?_ | refine ds_ops mix (fun base => ?_) | refine ds_skip ?_ | refine ds_block ?_)
    refine dw_mki [.c (.bool false)] rfl rfl rfl rfl ⟨rfl, rfl, trivial⟩ rfl (by decide) (Nat.le_refl _) (by omega) (by omega) ?_
    repeat (first | refine dw_io1 rfl rfl (by omega) (by omega) ?_)
    refine dw_strow rfl rfl rfl rfl (by rw [reps'_len]; simp) (by rw [rowsF_len]; simp; omega) rfl ?_
    rw [reps_false, Int.toNat_natCast, rowsF_set]
    repeat (first | refine dw_p rfl ?_ | refine dw_nil ?_ | refine ds_ops mix (fun base => ?_))
    refine ⟨k - 1, by omega, _, _, _, [(2, 4)], ?wk1, y + 1, by omega, cur.set y (List.replicate n false), by simpa using hcl, fun j hj => ?_, rfl, rfl, rfl⟩
    case wk1 => exact ⟨by repeat (first | exact trivial | refine ⟨by first | rfl | exact congrArg (fun z => some (DV.int z)) (dwrap (by omega) (by omega)), rfl, ?_⟩), by repeat (first | exact trivial | refine ⟨by first | rfl | exact congrArg (fun z => some (Bk.data z)) (by assumption), rfl, rfl, ?_⟩), rfl⟩
    rw [List.getElem?_set]
    split
    · rename_i e; rw [if_pos (by omega)]
    · exact hcur j (by omega)
  · simp at ht
    obtain rfl : y = m := by omega
    repeat (first | refine dw_l rfl ?_ | refine dw_st rfl rfl rfl rfl rfl (Nat.le_of_ble_eq_true rfl) rfl ?_ | refine dw_nil ?_ | refine ds_seq ?_ | refine ds_ops mix (fun base => ?_) | refine ds_exit ?_)
    refine ds_ret ⟨_, rfl, rfl, _, SubA.cons (k := 2) rfl (SubA.nil _), n, y, hn, hm, hn2, hm2, rfl, ?_, rfl⟩
    congr 4
    refine List.ext_getElem? fun j => ?_
    simp only [blankD, List.getElem?_replicate]
    split
    · rename_i hj; exact hcur j hj
    · rw [List.getElem?_eq_none (by omega)]

def onG (w h : Int) (p : Pt2) : Bool := decide (0 ≤ p.1 ∧ p.1 < w ∧ 0 ≤ p.2 ∧ p.2 < h)
theorem d_on {w h : Int} {x : FD} {p : Pt2} : DK 37 [.agg [.f (.c (.int .i64 w)), .f (.c (.int .i64 h)), .f x], ptD p] fun d => d = .bool (onG w h p) := by
  refine dfn_ok cp37 rfl GHro fun Z0 lo => ?_
  by_cases h1 : p.1 ≥ 0
  · have g1 : decide (p.1 ≥ 0) = true := by simpa using h1
    by_cases h2 : p.1 < w
    · have g2 : decide (p.1 < w) = true := by simpa using h2
      by_cases h3 : p.2 ≥ 0
      · have g3 : decide (p.2 ≥ 0) = true := by simpa using h3
        repeat (first | refine dw_want rfl rfl ?_ | refine dw_pickT rfl rfl ?_ | refine dw_pB rfl (by assumption) ?_ | refine dw_p rfl ?_ | refine dw_l rfl ?_ | refine dw_a rfl ?_ | refine dw_nil ?_ | refine ds_seq ?_ | refine ds_ops mix (fun base => ?_))
        refine ds_ret ⟨_, rfl, rfl, ?_⟩
        have e : (0 ≤ p.1 ∧ p.1 < w ∧ 0 ≤ p.2 ∧ p.2 < h) ↔ p.2 < h := by omega
        simp only [onG, e, if_true]
      · have g3 : decide (p.2 ≥ 0) = false := by simpa using h3
        repeat (first | refine dw_want rfl rfl ?_ | refine dw_skip rfl rfl ?_ | refine dw_pickT rfl rfl ?_ | refine dw_pickF rfl rfl ?_ | refine dw_pB rfl (by assumption) ?_ | refine dw_p rfl ?_ | refine dw_l rfl ?_ | refine dw_a rfl ?_ | refine dw_nil ?_ | refine ds_seq ?_ | refine ds_ops mix (fun base => ?_))
        exact ds_ret ⟨_, rfl, rfl, by simp [onG]; omega⟩
    · have g2 : decide (p.1 < w) = false := by simpa using h2
      repeat (first | refine dw_want rfl rfl ?_ | refine dw_skip rfl rfl ?_ | refine dw_pickT rfl rfl ?_ | refine dw_pickF rfl rfl ?_ | refine dw_pB rfl (by assumption) ?_ | refine dw_p rfl ?_ | refine dw_l rfl ?_ | refine dw_a rfl ?_ | refine dw_nil ?_ | refine ds_seq ?_ | refine ds_ops mix (fun base => ?_))
      exact ds_ret ⟨_, rfl, rfl, by simp [onG]; omega⟩
  · have g1 : decide (p.1 ≥ 0) = false := by simpa using h1
    repeat (first | refine dw_skip rfl rfl ?_ | refine dw_pickF rfl rfl ?_ | refine dw_pB rfl (by assumption) ?_ | refine dw_p rfl ?_ | refine dw_l rfl ?_ | refine dw_a rfl ?_ | refine dw_nil ?_ | refine ds_seq ?_ | refine ds_ops mix (fun base => ?_))
    exact ds_ret ⟨_, rfl, rfl, by simp [onG]; omega⟩
end Go.Ab.Fn

/- Deep contracts: grids that are valid, equal, plotted. -/
namespace Go.Ab.Fn
open Go.Ab Go.Proofs
set_option linter.unusedSimpArgs false

theorem neq_self (a : Int) : (a != a) = false := by simp
theorem d_valid {w h : Nat} {d : DotsL} (hw : w ≤ 200) (hh : h ≤ 200) (hd : Sz w h d) : DK 12 [gridD w h d] fun d => d = .bool true := by
  refine dfn_ok cp12 rfl GHro fun Z0 lo => ?_
  have hl := hd.1
  have g1 : decide ((w : Int) < 0) = false := by simp
  have g2 : decide ((w : Int) > 200) = false := by simp; omega
  have g3 : decide ((h : Int) < 0) = false := by simp
  have g4 : decide ((h : Int) > 200) = false := by simp; omega
  have g5 : (((d.length : Nat) : Int) != (h : Int)) = false := by simp [hl]
  repeat (first | refine dw_want rfl rfl ?_ | refine dw_pickF rfl rfl ?_ | refine dw_pB rfl (by assumption) ?_ | refine dw_p rfl ?_ | refine dw_l rfl ?_ | refine dw_a rfl ?_ | refine dw_nil ?_ | refine ds_seq ?_ | refine ds_ops mix (fun base => ?_))
  refine ds_if rfl (fun ht => by cases ht) (fun _ => ?_)
  repeat (first | refine dw_p rfl ?_ | refine dw_l rfl ?_ | refine dw_nil ?_ | refine ds_seq ?_ | refine ds_ops mix (fun base => ?_) | refine ds_skip ?_ | refine ds_block ?_)
  refine ds_loop (fun m E S nk => ∃ k : Nat, k + m = d.length ∧ E = [(1, .one (.ptr 0 0)), (32, .one (.f (.sl 1 d.length ((rowsF d).map rowF)))), (33, .int d.length), (34, .int k)] ∧ S = [(0, .cells [.f (.c (.int .i64 w)), .f (.c (.int .i64 h)), .f (.sl 1 d.length ((rowsF d).map rowF))])] ∧ nk = 1) ⟨d.length, _, _, _, [], ?wk, 0, by omega, rfl, rfl, rfl⟩ ?_
  case wk => exact ⟨by repeat (first | exact trivial | refine ⟨by first | rfl | exact congrArg (fun z => some (DV.int z)) (dwrap (by omega) (by omega)), rfl, ?_⟩), by repeat (first | exact trivial | refine ⟨by first | rfl | exact congrArg (fun z => some (Bk.data z)) (by assumption), rfl, rfl, ?_⟩), rfl⟩
  rintro m E S nk ⟨k, hk, rfl, rfl, rfl⟩
  repeat (first | refine dw_p rfl ?_ | refine dw_nil ?_ | refine ds_seq ?_ | refine ds_ops mix (fun base => ?_))
  refine ds_if rfl (fun ht => ?_) (fun ht => ?_)
  · simp at ht
    obtain ⟨r, hr, hrl⟩ := hd.row (y := k) (by omega)
    have e1 := rowF_at (rowsF_at hr)
    have e2 : ((((r.map boF).length : Nat) : Int) != (w : Int)) = false := by simp [hrl]
    repeat (first | refine dw_pB rfl (by assumption) ?_ | refine dw_p rfl ?_ | refine dw_l rfl ?_ | refine dw_if rfl rfl (by omega) (by decide) (by assumption) ?_ | refine dw_nil ?_ | refine ds_seq ?_ | refine ds_ops mix (fun base => ?_) | refine ds_skip ?_ | refine ds_block ?_)
    refine ds_if rfl (fun ht => by cases ht) (fun _ => ?_)
    repeat (first | refine dw_p rfl ?_ | refine dw_nil ?_ | refine ds_ops mix (fun base => ?_) | refine ds_skip ?_)
    refine ⟨m - 1, by omega, _, _, _, [], ?wk1, k + 1, by omega, rfl, rfl, rfl⟩
    case wk1 => exact ⟨by repeat (first | exact trivial | refine ⟨by first | rfl | exact congrArg (fun z => some (DV.int z)) (dwrap (by omega) (by omega)), rfl, ?_⟩), by repeat (first | exact trivial | refine ⟨by first | rfl | exact congrArg (fun z => some (Bk.data z)) (by assumption), rfl, rfl, ?_⟩), rfl⟩
  · simp at ht
    repeat (first | refine dw_p rfl ?_ | refine dw_nil ?_ | refine ds_seq ?_ | refine ds_ops mix (fun base => ?_) | refine ds_exit ?_)
    exact ds_ret ⟨_, rfl, rfl, rfl⟩

theorem d_rvalid {w h : Nat} {d : DotsL} (hw : w ≤ 200) (hh : h ≤ 200) (hd : Sz w h d) : DK 13 [gridD w h d] fun d => d = .bool true := by
  refine dfn_ok cp13 rfl GHro fun Z0 lo => ?_
  have hl := hd.1
  have g1 : decide ((w : Int) < 0) = false := by simp
  have g2 : decide ((w : Int) > 200) = false := by simp; omega
  have g3 : decide ((h : Int) < 0) = false := by simp
  have g4 : decide ((h : Int) > 200) = false := by simp; omega
  have g5 : (((d.length : Nat) : Int) != (h : Int)) = false := by simp [hl]
  repeat (first | refine dw_want rfl rfl ?_ | refine dw_pickF rfl rfl ?_ | refine dw_pB rfl (by assumption) ?_ | refine dw_p rfl ?_ | refine dw_l rfl ?_ | refine dw_a rfl ?_ | refine dw_nil ?_ | refine ds_seq ?_ | refine ds_ops mix (fun base => ?_))
  refine ds_if rfl (fun ht => by cases ht) (fun _ => ?_)
  repeat (first | refine dw_p rfl ?_ | refine dw_nil ?_ | refine ds_seq ?_ | refine ds_ops mix (fun base => ?_) | refine ds_skip ?_ | refine ds_block ?_)
  refine ds_loop (fun m E S nk => ∃ k : Nat, k + m = h ∧ E = [(1, .one (.ptr 0 0)), (3, .int k)] ∧ S = [(0, .cells [.f (.c (.int .i64 w)), .f (.c (.int .i64 h)), .f (.sl 1 d.length ((rowsF d).map rowF))])] ∧ nk = 1) ⟨h, _, _, _, [], ?wk, 0, by omega, rfl, rfl, rfl⟩ ?_
  case wk => exact ⟨by repeat (first | exact trivial | refine ⟨by first | rfl | exact congrArg (fun z => some (DV.int z)) (dwrap (by omega) (by omega)), rfl, ?_⟩), by repeat (first | exact trivial | refine ⟨by first | rfl | exact congrArg (fun z => some (Bk.data z)) (by assumption), rfl, rfl, ?_⟩), rfl⟩
  rintro m E S nk ⟨k, hk, rfl, rfl, rfl⟩
  repeat (first | refine dw_p rfl ?_ | refine dw_l rfl ?_ | refine dw_nil ?_ | refine ds_seq ?_ | refine ds_ops mix (fun base => ?_))
  refine ds_if rfl (fun ht => ?_) (fun ht => ?_)
  · simp at ht
    obtain ⟨r, hr, hrl⟩ := hd.row (y := k) (by omega)
    have e1 := rowF_at (rowsF_at hr)
    have e2 : ((((r.map boF).length : Nat) : Int) != (w : Int)) = false := by simp [hrl]
    repeat (first | refine dw_pB rfl (by assumption) ?_ | refine dw_p rfl ?_ | refine dw_l rfl ?_ | refine dw_if rfl rfl (by omega) (by decide) (by assumption) ?_ | refine dw_nil ?_ | refine ds_seq ?_ | refine ds_ops mix (fun base => ?_) | refine ds_skip ?_ | refine ds_block ?_)
    refine ds_if rfl (fun ht => by cases ht) (fun _ => ?_)
    repeat (first | refine dw_p rfl ?_ | refine dw_nil ?_ | refine ds_ops mix (fun base => ?_) | refine ds_skip ?_)
    refine ⟨m - 1, by omega, _, _, _, [], ?wk1, k + 1, by omega, rfl, rfl, rfl⟩
    case wk1 => exact ⟨by repeat (first | exact trivial | refine ⟨by first | rfl | exact congrArg (fun z => some (DV.int z)) (dwrap (by omega) (by omega)), rfl, ?_⟩), by repeat (first | exact trivial | refine ⟨by first | rfl | exact congrArg (fun z => some (Bk.data z)) (by assumption), rfl, rfl, ?_⟩), rfl⟩
  · simp at ht
    repeat (first | refine dw_p rfl ?_ | refine dw_nil ?_ | refine ds_seq ?_ | refine ds_ops mix (fun base => ?_) | refine ds_exit ?_)
    exact ds_ret ⟨_, rfl, rfl, rfl⟩

theorem d_sameG {w h : Int} {d : DotsL} (hl : d.length < 1000000) (hr : ∀ r ∈ d, r.length < 1000000) : DK 28 [gridD w h d, gridD w h d] fun d => d = .bool true := by
  refine dfn_ok cp28 rfl GHro fun Z0 lo => ?_
  have g1 : (w != w) = false := by simp
  have g2 : (h != h) = false := by simp
  have g3 : (((d.length : Nat) : Int) != ((d.length : Nat) : Int)) = false := by simp
  repeat (first | refine dw_want rfl rfl ?_ | refine dw_pickF rfl rfl ?_ | refine dw_pB rfl (by assumption) ?_ | refine dw_p rfl ?_ | refine dw_l rfl ?_ | refine dw_a rfl ?_ | refine dw_nil ?_ | refine ds_seq ?_ | refine ds_ops mix (fun base => ?_))
  refine ds_if rfl (fun ht => by cases ht) (fun _ => ?_)
  repeat (first | refine dw_p rfl ?_ | refine dw_nil ?_ | refine ds_seq ?_ | refine ds_ops mix (fun base => ?_) | refine ds_skip ?_ | refine ds_block ?_)
  refine ds_loop (fun m E S nk => ∃ k : Nat, k + m = d.length ∧ E = [(2, .one (.ptr 0 0)), (3, .one (.ptr 1 0)), (5, .int k)] ∧ S = [(0, .cells [.f (.c (.int .i64 w)), .f (.c (.int .i64 h)), .f (.sl 1 d.length ((rowsF d).map rowF))]), (1, .cells [.f (.c (.int .i64 w)), .f (.c (.int .i64 h)), .f (.sl 1 d.length ((rowsF d).map rowF))])] ∧ nk = 2) ⟨d.length, _, _, _, [], ?wk, 0, by omega, rfl, rfl, rfl⟩ ?_
  case wk => exact ⟨by repeat (first | exact trivial | refine ⟨by first | rfl | exact congrArg (fun z => some (DV.int z)) (dwrap (by omega) (by omega)), rfl, ?_⟩), by repeat (first | exact trivial | refine ⟨by first | rfl | exact congrArg (fun z => some (Bk.data z)) (by assumption), rfl, rfl, ?_⟩), rfl⟩
  rintro m E S nk ⟨k, hk, rfl, rfl, rfl⟩
  repeat (first | refine dw_p rfl ?_ | refine dw_l rfl ?_ | refine dw_nil ?_ | refine ds_seq ?_ | refine ds_ops mix (fun base => ?_))
  refine ds_if rfl (fun ht => ?_) (fun ht => ?_)
  · simp at ht
    obtain ⟨r, hrk⟩ : ∃ r, d[k]? = some r := ⟨_, List.getElem?_eq_getElem (by omega)⟩
    have hrl := hr r (List.mem_of_getElem? hrk)
    have e1 := rowF_at (rowsF_at hrk)
    have e2 : ((((r.map boF).length : Nat) : Int) != (((r.map boF).length : Nat) : Int)) = false := by simp
    repeat (first | refine dw_pB rfl (by assumption) ?_ | refine dw_p rfl ?_ | refine dw_l rfl ?_ | refine dw_if rfl rfl (by omega) (by decide) (by assumption) ?_ | refine dw_nil ?_ | refine ds_seq ?_ | refine ds_ops mix (fun base => ?_) | refine ds_skip ?_ | refine ds_block ?_)
    refine ds_if rfl (fun ht => by cases ht) (fun _ => ?_)
    repeat (first | refine dw_p rfl ?_ | refine dw_nil ?_ | refine ds_seq ?_ | refine ds_ops mix (fun base => ?_) | refine ds_skip ?_ | refine ds_block ?_)
    refine ds_loop (fun m2 E S nk => ∃ j : Nat, j + m2 = r.length ∧ E = [(2, .one (.ptr 0 0)), (3, .one (.ptr 1 0)), (5, .int k), (6, .int j)] ∧ S = [(0, .cells [.f (.c (.int .i64 w)), .f (.c (.int .i64 h)), .f (.sl 1 d.length ((rowsF d).map rowF))]), (1, .cells [.f (.c (.int .i64 w)), .f (.c (.int .i64 h)), .f (.sl 1 d.length ((rowsF d).map rowF))])] ∧ nk = 2) ⟨r.length, _, _, _, [], ?wk1, 0, by omega, rfl, rfl, rfl⟩ ?_
    case wk1 => exact ⟨by repeat (first | exact trivial | refine ⟨by first | rfl | exact congrArg (fun z => some (DV.int z)) (dwrap (by omega) (by omega)), rfl, ?_⟩), by repeat (first | exact trivial | refine ⟨by first | rfl | exact congrArg (fun z => some (Bk.data z)) (by assumption), rfl, rfl, ?_⟩), rfl⟩
    rintro m2 E S nk ⟨j, hj, rfl, rfl, rfl⟩
    repeat (first | refine dw_p rfl ?_ | refine dw_l rfl ?_ | refine dw_if rfl rfl (by omega) (by decide) (by assumption) ?_ | refine dw_nil ?_ | refine ds_seq ?_ | refine ds_ops mix (fun base => ?_))
    refine ds_if rfl (fun ht2 => ?_) (fun ht2 => ?_)
    · simp at ht2
      obtain ⟨b, hb⟩ : ∃ b, r[j]? = some b := ⟨_, List.getElem?_eq_getElem (by omega)⟩
      have e3 := one_at (boF_at hb)
      have hlm : j < (r.map boF).length := by simp; omega
      have e4 : (b != b) = false := by simp
      repeat (first | refine dw_pB rfl (by assumption) ?_ | refine dw_p rfl ?_ | refine dw_l rfl ?_ | refine dw_if rfl rfl (by omega) (by decide) (by assumption) ?_ | refine dw_nil ?_ | refine ds_seq ?_ | refine ds_ops mix (fun base => ?_) | refine ds_skip ?_ | refine ds_block ?_)
      refine ds_if rfl (fun ht => by simp at ht) (fun _ => ?_)
      repeat (first | refine dw_p rfl ?_ | refine dw_nil ?_ | refine ds_ops mix (fun base => ?_) | refine ds_skip ?_)
      refine ⟨m2 - 1, by omega, _, _, _, [], ?wk2, j + 1, by omega, rfl, rfl, rfl⟩
      case wk2 => exact ⟨by repeat (first | exact trivial | refine ⟨by first | rfl | exact congrArg (fun z => some (DV.int z)) (dwrap (by omega) (by omega)), rfl, ?_⟩), by repeat (first | exact trivial | refine ⟨by first | rfl | exact congrArg (fun z => some (Bk.data z)) (by assumption), rfl, rfl, ?_⟩), rfl⟩
    · simp at ht2
      repeat (first | refine dw_p rfl ?_ | refine dw_nil ?_ | refine ds_ops mix (fun base => ?_) | refine ds_exit ?_)
      refine ⟨m - 1, by omega, _, _, _, [], ?wk3, k + 1, by omega, rfl, rfl, rfl⟩
      case wk3 => exact ⟨by repeat (first | exact trivial | refine ⟨by first | rfl | exact congrArg (fun z => some (DV.int z)) (dwrap (by omega) (by omega)), rfl, ?_⟩), by repeat (first | exact trivial | refine ⟨by first | rfl | exact congrArg (fun z => some (Bk.data z)) (by assumption), rfl, rfl, ?_⟩), rfl⟩
  · simp at ht
    repeat (first | refine dw_p rfl ?_ | refine dw_nil ?_ | refine ds_seq ?_ | refine ds_ops mix (fun base => ?_) | refine ds_exit ?_)
    exact ds_ret ⟨_, rfl, rfl, rfl⟩
end Go.Ab.Fn

/- Deep contracts: plotted grids. -/
namespace Go.Ab.Fn
open Go.Ab Go.Proofs
set_option linter.unusedSimpArgs false

def plot1 (w h : Nat) (d : DotsL) (p : Pt2) : DotsL := if onG w h p = true then setDot d p.1.toNat p.2.toNat true else d
def plotP (w h : Nat) (d : DotsL) (l : List Pt2) : DotsL := l.foldl (plot1 w h) d
theorem plot1_sz {w h : Nat} {d : DotsL} (hd : Sz w h d) (p : Pt2) : Sz w h (plot1 w h d p) := by
  unfold plot1
  split
  · exact hd.set _ _ _
  · exact hd
theorem plotP_sz {w h : Nat} : ∀ (l : List Pt2) {d : DotsL}, Sz w h d → Sz w h (plotP w h d l)
  | [], _, hd => hd
  | p :: l, _, hd => plotP_sz l (plot1_sz hd p)
theorem plotP_take {w h : Nat} {d : DotsL} {l : List Pt2} {k : Nat} {p : Pt2} (hp : l[k]? = some p) : plotP w h d (l.take (k + 1)) = plot1 w h (plotP w h d (l.take k)) p := by
  rw [List.take_add_one, hp, plotP, plotP]
  simp
/-- copied up to the row y, and there up to the column x -/
def Cp (w h : Nat) (d : DotsL) (y x : Nat) (cur : DotsL) : Prop := Sz w h cur ∧ ∀ i j, i < w → j < h → dot cur i j = if j < y ∨ (j = y ∧ i < x) then dot d i j else false
theorem Cp.start (w h : Nat) (d : DotsL) : Cp w h d 0 0 (blankD w h) := ⟨Sz.blankD w h, fun i j _ _ => by rw [dot_blank, if_neg (by omega)]⟩
theorem Cp.step {w h : Nat} {d : DotsL} {y x : Nat} {cur : DotsL} (hc : Cp w h d y x cur) (hx : x < w) (hy : y < h) : Cp w h d y (x + 1) (setDot cur x y (dot d x y)) := by
  refine ⟨hc.1.set _ _ _, fun i j hi hj => ?_⟩
  rw [dot_set hc.1 hx hy]
  split
  · rename_i e
    rw [if_pos (by omega), e.1, e.2]
  · rename_i e
    rw [hc.2 i j hi hj]
    by_cases h1 : j < y ∨ (j = y ∧ i < x)
    · rw [if_pos h1, if_pos (by omega)]
    · rw [if_neg h1, if_neg (by omega)]
theorem Cp.next {w h : Nat} {d : DotsL} {y : Nat} {cur : DotsL} (hc : Cp w h d y w cur) : Cp w h d (y + 1) 0 cur := ⟨hc.1, fun i j hi hj => by
  rw [hc.2 i j hi hj]
  by_cases h1 : j < y ∨ (j = y ∧ i < w)
  · rw [if_pos h1, if_pos (by omega)]
  · rw [if_neg h1, if_neg (by omega)]⟩
theorem Cp.fin {w h : Nat} {d : DotsL} {cur : DotsL} (hd : Sz w h d) (hc : Cp w h d h 0 cur) : cur = d := hc.1.ext hd fun i j hi hj => by
  rw [hc.2 i j hi hj, if_pos (by omega)]
theorem side_of {w n : Nat} (h : side w = n) (hw : w ≤ 200) : n = w := by unfold side at h; omega

set_option maxHeartbeats 4000000 in
theorem d_rplot {w h : Nat} {d : DotsL} {l : List Pt2} (hw : w ≤ 200) (hh : h ≤ 200) (hd : Sz w h d) (hl : l.length < 1000000) : DK 33 [gridD w h d, ptsD l] fun r => r = gridD w h (plotP w h d l) := by
  refine dfn_ok cp33 rfl GHro fun Z0 lo => ?_
  repeat (first | refine dw_p rfl ?_ | refine dw_l rfl ?_ | refine dw_a rfl ?_ | refine dw_nil ?_ | refine ds_seq ?_ | refine ds_ops mix (fun base => ?_))
  refine dw_cfr rfl rfl (o_rnew w h) ?_
  rintro _ _ _ ⟨n, m, hn, hm, _, _, rfl, rfl, rfl⟩
  obtain rfl := side_of hn hw
  obtain rfl := side_of hm hh
  repeat (first | refine dw_p rfl ?_ | refine dw_a rfl ?_ | refine dw_st rfl rfl rfl rfl rfl (Nat.le_of_ble_eq_true rfl) rfl ?_ | refine dw_nil ?_ | refine ds_seq ?_ | refine ds_ops mix (fun base => ?_) | refine ds_block ?_)
  refine ds_keep (SubA.cons (k := 1) rfl (SubA.cons (k := 2) rfl (SubA.cons (k := 4) rfl (SubA.cons (k := 5) rfl (SubA.cons (k := 6) rfl (SubA.nil _)))))) (SubA.cons (k := 0) rfl (SubA.cons (k := 1) rfl (SubA.cons (k := 4) rfl (SubA.cons (k := 5) rfl (SubA.nil _))))) ?_
  refine ds_loop (fun k E S nk => ∃ y : Nat, y + k = m ∧ ∃ cur : DotsL, Cp n m d y 0 cur ∧ E = [(1, ptsD l), (2, .one (.ptr 0 0)), (4, .one (.ptr 1 0)), (5, .one (.ptr 5 0)), (6, .int y)] ∧ S = [(0, .cells [.f (.c (.int .i64 n)), .f (.c (.int .i64 m)), .f (.sl 1 d.length ((rowsF d).map rowF))]), (1, .cells [.f (.c (.int .i64 0)), .f (.c (.int .i64 0)), .f (.c .nils)]), (4, .tree (rowsF cur)), (5, .cells [.f (.c (.int .i64 n)), .f (.c (.int .i64 m)), .own 4 0 m 1])] ∧ nk = 6) ⟨m, _, _, _, [], ?wk, 0, by omega, blankD n m, Cp.start n m d, rfl, rfl, rfl⟩ ?_
  case wk => exact ⟨by repeat (first | exact trivial | refine ⟨by first | rfl | exact congrArg (fun z => some (DV.int z)) (dwrap (by omega) (by omega)), rfl, ?_⟩), by repeat (first | exact trivial | refine ⟨by first | rfl | exact congrArg (fun z => some (Bk.data z)) (by assumption), rfl, rfl, ?_⟩), rfl⟩
  rintro k E S nk ⟨y, hy, cur, hcur, rfl, rfl, rfl⟩
  repeat (first | refine dw_p rfl ?_ | refine dw_l rfl ?_ | refine dw_nil ?_ | refine ds_seq ?_ | refine ds_ops mix (fun base => ?_))
  refine ds_if rfl (fun ht => ?_) (fun ht => ?_)
  · simp at ht
    repeat (first | refine dw_p rfl ?_ | refine dw_nil ?_ | refine ds_seq ?_ | refine ds_ops mix (fun base => ?_) | refine ds_skip ?_ | refine ds_block ?_)
    refine ds_keep (SubA.cons (k := 1) rfl (SubA.cons (k := 2) rfl (SubA.cons (k := 4) rfl (SubA.cons (k := 5) rfl (SubA.cons (k := 6) rfl (SubA.cons (k := 7) rfl (SubA.nil _))))))) (SubA.refl _) ?_
    refine ds_loop (fun k2 E S nk => ∃ x : Nat, x + k2 = n ∧ ∃ cur : DotsL, Cp n m d y x cur ∧ E = [(1, ptsD l), (2, .one (.ptr 0 0)), (4, .one (.ptr 1 0)), (5, .one (.ptr 5 0)), (6, .int y), (7, .int x)] ∧ S = [(0, .cells [.f (.c (.int .i64 n)), .f (.c (.int .i64 m)), .f (.sl 1 d.length ((rowsF d).map rowF))]), (1, .cells [.f (.c (.int .i64 0)), .f (.c (.int .i64 0)), .f (.c .nils)]), (4, .tree (rowsF cur)), (5, .cells [.f (.c (.int .i64 n)), .f (.c (.int .i64 m)), .own 4 0 m 1])] ∧ nk = 6) ⟨n, _, _, _, [], ?wk1, 0, by omega, cur, hcur, rfl, rfl, rfl⟩ ?_
    case wk1 => exact ⟨by repeat (first | exact trivial | refine ⟨by first | rfl | exact congrArg (fun z => some (DV.int z)) (dwrap (by omega) (by omega)), rfl, ?_⟩), by repeat (first | exact trivial | refine ⟨by first | rfl | exact congrArg (fun z => some (Bk.data z)) (by assumption), rfl, rfl, ?_⟩), rfl⟩
    rintro k2 E S nk ⟨x, hx, cur, hcur, rfl, rfl, rfl⟩
    repeat (first | refine dw_p rfl ?_ | refine dw_l rfl ?_ | refine dw_nil ?_ | refine ds_seq ?_ | refine ds_ops mix (fun base => ?_))
    refine ds_if rfl (fun ht2 => ?_) (fun ht2 => ?_)
    · simp at ht2
      obtain ⟨r, hr, hrl, hrx⟩ := hd.cell (x := x) (y := y) (by omega) (by omega)
      obtain ⟨q, hq, hql⟩ := hcur.1.row (y := y) (by omega)
      have hdl := hd.1
      have e1 := rowF_at (rowsF_at hr)
      have e2 := one_at (boF_at hrx)
      have e3 := rowsF_at hq
      have l1 : x < (r.map boF).length := by simp; omega
      have l2 : x < (q.map boF).length := by simp; omega
      repeat (first | refine dw_p rfl ?_ | refine dw_l rfl ?_ | refine dw_io1 rfl rfl (by omega) (by omega) ?_ | refine dw_it0 rfl rfl (by omega) (by omega) ?_ | refine dw_if rfl rfl (by omega) (by decide) (by assumption) ?_ | refine dw_l (dload_tree rfl rfl (by assumption)) ?_ | refine ds_seq ?_ | refine ds_ops mix (fun base => ?_) | refine ds_skip ?_ | refine ds_block ?_)
      refine dw_stt (x := .c (.bool (dot d x y))) rfl rfl rfl e3 (by simpa using l2) rfl ?_
      rw [Int.toNat_natCast, Int.toNat_natCast, rowsF_setDot hq]
      repeat (first | refine dw_p rfl ?_ | refine dw_nil ?_ | refine ds_ops mix (fun base => ?_))
      refine ⟨k2 - 1, by omega, _, _, _, [], ?wk2, x + 1, by omega, _, hcur.step (by omega) (by omega), rfl, rfl, rfl⟩
      case wk2 => exact ⟨by repeat (first | exact trivial | refine ⟨by first | rfl | exact congrArg (fun z => some (DV.int z)) (dwrap (by omega) (by omega)), rfl, ?_⟩), by repeat (first | exact trivial | refine ⟨by first | rfl | exact congrArg (fun z => some (Bk.data z)) (by assumption), rfl, rfl, ?_⟩), rfl⟩
    · simp at ht2
      obtain rfl : x = n := by omega
      repeat (first | refine dw_p rfl ?_ | refine dw_nil ?_ | refine ds_ops mix (fun base => ?_) | refine ds_exit ?_)
      refine ⟨k - 1, by omega, _, _, _, [], ?wk3, y + 1, by omega, _, hcur.next, rfl, rfl, rfl⟩
      case wk3 => exact ⟨by repeat (first | exact trivial | refine ⟨by first | rfl | exact congrArg (fun z => some (DV.int z)) (dwrap (by omega) (by omega)), rfl, ?_⟩), by repeat (first | exact trivial | refine ⟨by first | rfl | exact congrArg (fun z => some (Bk.data z)) (by assumption), rfl, rfl, ?_⟩), rfl⟩
  · simp at ht
    obtain rfl : y = m := by omega
    obtain rfl := hcur.fin hd
    repeat (first | refine dw_p rfl ?_ | refine dw_nil ?_ | refine ds_seq ?_ | refine ds_ops mix (fun base => ?_) | refine ds_block ?_ | refine ds_exit ?_)
    refine ds_keep (SubA.cons (k := 1) rfl (SubA.cons (k := 2) rfl (SubA.cons (k := 4) rfl (SubA.cons (k := 5) rfl (SubA.cons (k := 8) rfl (SubA.nil _)))))) (SubA.refl _) ?_
    refine ds_loop (fun k E S nk => ∃ j : Nat, j + k = l.length ∧ E = [(1, ptsD l), (2, .one (.ptr 0 0)), (4, .one (.ptr 1 0)), (5, .one (.ptr 5 0)), (8, .int j)] ∧ S = [(0, .cells [.f (.c (.int .i64 n)), .f (.c (.int .i64 y)), .f (.sl 1 cur.length ((rowsF cur).map rowF))]), (1, .cells [.f (.c (.int .i64 0)), .f (.c (.int .i64 0)), .f (.c .nils)]), (4, .tree (rowsF (plotP n y cur (l.take j)))), (5, .cells [.f (.c (.int .i64 n)), .f (.c (.int .i64 y)), .own 4 0 y 1])] ∧ nk = 6) ⟨l.length, _, _, _, [], ?wk4, 0, by omega, rfl, rfl, rfl⟩ ?_
    case wk4 => exact ⟨by repeat (first | exact trivial | refine ⟨by first | rfl | exact congrArg (fun z => some (DV.int z)) (dwrap (by omega) (by omega)), rfl, ?_⟩), by repeat (first | exact trivial | refine ⟨by first | rfl | exact congrArg (fun z => some (Bk.data z)) (by assumption), rfl, rfl, ?_⟩), rfl⟩
    rintro k E S nk ⟨j, hj, rfl, rfl, rfl⟩
    repeat (first | refine dw_p rfl ?_ | refine dw_nil ?_ | refine ds_seq ?_ | refine ds_ops mix (fun base => ?_))
    refine ds_if rfl (fun ht2 => ?_) (fun ht2 => ?_)
    · simp at ht2
      obtain ⟨p, hp⟩ : ∃ p, l[j]? = some p := ⟨_, List.getElem?_eq_getElem (by omega)⟩
      have e1 := ptF_at hp
      have hstep := plotP_take (w := n) (h := y) (d := cur) hp
      repeat (first | refine dw_p rfl ?_ | refine dw_l rfl ?_ | refine dw_if rfl rfl (by omega) (by decide) (by assumption) ?_ | refine ds_seq ?_ | refine ds_ops mix (fun base => ?_) | refine ds_skip ?_ | refine ds_block ?_)
      refine dw_cf rfl rfl (d_on (p := p)) ?_
      rintro _ rfl
      repeat (first | refine dw_nil ?_)
      refine ds_if rfl (fun ht3 => ?_) (fun ht3 => ?_)
      · have hon : 0 ≤ p.1 ∧ p.1 < n ∧ 0 ≤ p.2 ∧ p.2 < y := by simpa [onG] using ht3
        have hsz := plotP_sz (w := n) (h := y) (l.take j) hd
        obtain ⟨q, hq, hql⟩ := hsz.row (y := p.2.toNat) (by omega)
        have e3 := rowsF_at hq
        have l2 : p.1 < ((q.map boF).length : Nat) := by simp; omega
        repeat (first | refine dw_p rfl ?_ | refine dw_l rfl ?_ | refine dw_io1 rfl rfl (by omega) (by omega) ?_ | refine dw_it0 rfl rfl (by omega) (by omega) ?_ | refine dw_if rfl rfl (by omega) (by decide) (by assumption) ?_ | refine dw_l (dload_tree rfl rfl (by assumption)) ?_ | refine ds_ops mix (fun base => ?_))
        refine dw_stt rfl rfl rfl e3 (by simp; omega) rfl ?_
        rw [rowsF_setDot hq, show setDot (plotP n y cur (l.take j)) p.1.toNat p.2.toNat true = plotP n y cur (l.take (j + 1)) by rw [hstep, plot1, if_pos ht3]]
        repeat (first | refine dw_p rfl ?_ | refine dw_nil ?_ | refine ds_ops mix (fun base => ?_))
        refine ⟨k - 1, by omega, _, _, _, [], ?wk5, j + 1, by omega, rfl, rfl, rfl⟩
        case wk5 => exact ⟨by repeat (first | exact trivial | refine ⟨by first | rfl | exact congrArg (fun z => some (DV.int z)) (dwrap (by omega) (by omega)), rfl, ?_⟩), by repeat (first | exact trivial | refine ⟨by first | rfl | exact congrArg (fun z => some (Bk.data z)) (by assumption), rfl, rfl, ?_⟩), rfl⟩
      · rw [show plotP n y cur (l.take j) = plotP n y cur (l.take (j + 1)) by rw [hstep, plot1, if_neg (by rw [ht3]; decide)]]
        repeat (first | refine dw_p rfl ?_ | refine dw_nil ?_ | refine ds_ops mix (fun base => ?_) | refine ds_skip ?_)
        refine ⟨k - 1, by omega, _, _, _, [], ?wk6, j + 1, by omega, rfl, rfl, rfl⟩
        case wk6 => exact ⟨by repeat (first | exact trivial | refine ⟨by first | rfl | exact congrArg (fun z => some (DV.int z)) (dwrap (by omega) (by omega)), rfl, ?_⟩), by repeat (first | exact trivial | refine ⟨by first | rfl | exact congrArg (fun z => some (Bk.data z)) (by assumption), rfl, rfl, ?_⟩), rfl⟩
    · simp at ht2
      have hsz := plotP_sz (w := n) (h := y) l hd
      have hlen : y = (rowsF (plotP n y cur l)).length := by rw [rowsF_len, hsz.1]
      obtain rfl : j = l.length := by omega
      rw [List.take_length]
      refine ds_keep (SubA.cons (k := 4) rfl (SubA.cons (k := 5) rfl (SubA.nil _))) (SubA.refl _) ?_
      refine ds_frzT 4 rfl (by repeat' (first | exact trivial | rfl | assumption | refine ⟨?_, ?_⟩)) (by repeat' (first | exact trivial | rfl | assumption | refine ⟨?_, ?_⟩)) ?_
      repeat (first | refine dw_l rfl ?_ | refine dw_st rfl rfl rfl rfl rfl (Nat.le_of_ble_eq_true rfl) rfl ?_ | refine dw_nil ?_ | refine ds_seq ?_ | refine ds_ops mix (fun base => ?_) | refine ds_exit ?_)
      refine ds_ret ⟨_, rfl, rfl, ?_⟩
      simp only [gridD, hsz.1]
      rfl

set_option maxHeartbeats 4000000 in
theorem d_plot {w h : Nat} {d : DotsL} {l : List Pt2} (hw : w ≤ 200) (hh : h ≤ 200) (hd : Sz w h d) (hl : l.length < 1000000) : DK 32 [gridD w h d, ptsD l] fun r => r = gridD w h (plotP w h d l) := by
  refine dfn_ok cp32 rfl GHro fun Z0 lo => ?_
  repeat (first | refine dw_l rfl ?_ | refine dw_a rfl ?_ | refine dw_nil ?_ | refine ds_seq ?_ | refine ds_ops mix (fun base => ?_))
  refine dw_cf rfl rfl (d_valid hw hh hd) ?_
  rintro _ rfl
  repeat (first | refine dw_p rfl ?_ | refine dw_nil ?_)
  refine ds_if rfl (fun ht => by cases ht) (fun _ => ?_)
  repeat (first | refine dw_p rfl ?_ | refine dw_l rfl ?_ | refine ds_seq ?_ | refine ds_ops mix (fun base => ?_) | refine ds_skip ?_)
  refine dw_cfr rfl rfl (o_new w h) ?_
  rintro _ _ _ ⟨n, m, hn, hm, _, _, rfl, rfl, rfl⟩
  obtain rfl := side_of hn hw
  obtain rfl := side_of hm hh
  repeat (first | refine dw_p rfl ?_ | refine dw_l rfl ?_ | refine dw_a rfl ?_ | refine dw_st rfl rfl rfl rfl rfl (Nat.le_of_ble_eq_true rfl) rfl ?_ | refine dw_nil ?_ | refine ds_seq ?_ | refine ds_ops mix (fun base => ?_) | refine ds_block ?_)
  refine ds_keep (SubA.cons (k := 1) rfl (SubA.cons (k := 2) rfl (SubA.cons (k := 4) rfl (SubA.cons (k := 5) rfl (SubA.cons (k := 19) rfl (SubA.cons (k := 20) rfl (SubA.nil _))))))) (SubA.cons (k := 0) rfl (SubA.cons (k := 1) rfl (SubA.cons (k := 4) rfl (SubA.cons (k := 5) rfl (SubA.nil _))))) ?_
  refine ds_loop (fun k E S nk => ∃ y : Nat, y + k = m ∧ ∃ cur : DotsL, Cp n m d y 0 cur ∧ E = [(1, ptsD l), (2, .one (.ptr 0 0)), (4, .one (.ptr 1 0)), (5, .one (.ptr 5 0)), (19, .int m), (20, .int y)] ∧ S = [(0, .cells [.f (.c (.int .i64 n)), .f (.c (.int .i64 m)), .f (.sl 1 d.length ((rowsF d).map rowF))]), (1, .cells [.f (.c (.int .i64 0)), .f (.c (.int .i64 0)), .f (.c .nils)]), (4, .tree (rowsF cur)), (5, .cells [.f (.c (.int .i64 n)), .f (.c (.int .i64 m)), .own 4 0 m 1])] ∧ nk = 6) ⟨m, _, _, _, [], ?wk, 0, by omega, blankD n m, Cp.start n m d, rfl, rfl, rfl⟩ ?_
  case wk => exact ⟨by repeat (first | exact trivial | refine ⟨by first | rfl | exact congrArg (fun z => some (DV.int z)) (dwrap (by omega) (by omega)), rfl, ?_⟩), by repeat (first | exact trivial | refine ⟨by first | rfl | exact congrArg (fun z => some (Bk.data z)) (by assumption), rfl, rfl, ?_⟩), rfl⟩
  rintro k E S nk ⟨y, hy, cur, hcur, rfl, rfl, rfl⟩
  repeat (first | refine dw_p rfl ?_ | refine dw_nil ?_ | refine ds_seq ?_ | refine ds_ops mix (fun base => ?_))
  refine ds_if rfl (fun ht => ?_) (fun ht => ?_)
  · simp at ht
    obtain ⟨r, hr, hrl⟩ := hd.row (y := y) (by omega)
    obtain ⟨q, hq, hql⟩ := hcur.1.row (y := y) (by omega)
    have hdl := hd.1
    have e1 := rowF_at (rowsF_at hr)
    have e3 := rowsF_at hq
    repeat (first | refine dw_p rfl ?_ | refine dw_l rfl ?_ | refine dw_io1 rfl rfl (by omega) (by omega) ?_ | refine dw_if rfl rfl (by omega) (by decide) (by assumption) ?_ | refine dw_l (dload_tree rfl rfl (by assumption)) ?_ | refine dw_nil ?_ | refine ds_seq ?_ | refine ds_ops mix (fun base => ?_) | refine ds_skip ?_ | refine ds_block ?_)
    refine dw_cpt (l := r.map boF) rfl rfl rfl e3 rfl ⟨by simp; omega, rfl, rfl⟩ rfl ?_
    rw [Int.toNat_natCast, rowsF_set]
    repeat (first | refine dw_p rfl ?_ | refine dw_nil ?_ | refine ds_ops mix (fun base => ?_))
    refine ⟨k - 1, by omega, _, _, _, [], ?wk2, y + 1, by omega, cur.set y r, ?_, rfl, rfl, rfl⟩
    case wk2 => exact ⟨by repeat (first | exact trivial | refine ⟨by first | rfl | exact congrArg (fun z => some (DV.int z)) (dwrap (by omega) (by omega)), rfl, ?_⟩), by repeat (first | exact trivial | refine ⟨by first | rfl | exact congrArg (fun z => some (Bk.data z)) (by assumption), rfl, rfl, ?_⟩), rfl⟩
    have hyl : y < cur.length := by rw [hcur.1.1]; omega
    refine ⟨⟨by simpa using hcur.1.1, fun t ht => ?_⟩, fun i j hi hj => ?_⟩
    · rcases List.mem_or_eq_of_mem_set ht with h | h
      · exact hcur.1.2 t h
      · subst h; exact hrl
    · simp only [dot, List.getElem?_set]
      by_cases e : y = j
      · subst e
        rw [if_pos rfl, if_pos hyl, if_pos (by omega), hr]
      · rw [if_neg e]
        have := hcur.2 i j hi hj
        simp only [dot] at this
        rw [this]
        by_cases h1 : j < y ∨ (j = y ∧ i < 0)
        · rw [if_pos h1, if_pos (by omega)]
        · rw [if_neg h1, if_neg (by omega)]
  · simp at ht
    obtain rfl : y = m := by omega
    obtain rfl := hcur.fin hd
    repeat (first | refine dw_p rfl ?_ | refine dw_nil ?_ | refine ds_seq ?_ | refine ds_ops mix (fun base => ?_) | refine ds_block ?_ | refine ds_exit ?_)
    refine ds_keep (SubA.cons (k := 2) rfl (SubA.cons (k := 4) rfl (SubA.cons (k := 5) rfl (SubA.cons (k := 35) rfl (SubA.cons (k := 36) rfl (SubA.cons (k := 37) rfl (SubA.nil _))))))) (SubA.refl _) ?_
    refine ds_loop (fun k E S nk => ∃ j : Nat, j + k = l.length ∧ E = [(2, .one (.ptr 0 0)), (4, .one (.ptr 1 0)), (5, .one (.ptr 5 0)), (35, ptsD l), (36, .int l.length), (37, .int j)] ∧ S = [(0, .cells [.f (.c (.int .i64 n)), .f (.c (.int .i64 y)), .f (.sl 1 cur.length ((rowsF cur).map rowF))]), (1, .cells [.f (.c (.int .i64 0)), .f (.c (.int .i64 0)), .f (.c .nils)]), (4, .tree (rowsF (plotP n y cur (l.take j)))), (5, .cells [.f (.c (.int .i64 n)), .f (.c (.int .i64 y)), .own 4 0 y 1])] ∧ nk = 6) ⟨l.length, _, _, _, [], ?wk4, 0, by omega, rfl, rfl, rfl⟩ ?_
    case wk4 => exact ⟨by repeat (first | exact trivial | refine ⟨by first | rfl | exact congrArg (fun z => some (DV.int z)) (dwrap (by omega) (by omega)), rfl, ?_⟩), by repeat (first | exact trivial | refine ⟨by first | rfl | exact congrArg (fun z => some (Bk.data z)) (by assumption), rfl, rfl, ?_⟩), rfl⟩
    rintro k E S nk ⟨j, hj, rfl, rfl, rfl⟩
    repeat (first | refine dw_p rfl ?_ | refine dw_nil ?_ | refine ds_seq ?_ | refine ds_ops mix (fun base => ?_))
    refine ds_if rfl (fun ht2 => ?_) (fun ht2 => ?_)
    · simp at ht2
      obtain ⟨p, hp⟩ : ∃ p, l[j]? = some p := ⟨_, List.getElem?_eq_getElem (by omega)⟩
      have e1 := ptF_at hp
      have hstep := plotP_take (w := n) (h := y) (d := cur) hp
      by_cases hon : 0 ≤ p.1 ∧ p.1 < n ∧ 0 ≤ p.2 ∧ p.2 < y
      · have g1 : decide (0 ≤ p.1) = true := by simpa using hon.1
        have g2 : decide (p.1 < (n : Int)) = true := by simpa using hon.2.1
        have g3 : decide (0 ≤ p.2) = true := by simpa using hon.2.2.1
        have g4 : decide (p.2 < (y : Int)) = true := by simpa using hon.2.2.2
        have ht3 : onG n y p = true := by simp [onG, hon]
        have hsz := plotP_sz (w := n) (h := y) (l.take j) hd
        obtain ⟨q, hq, hql⟩ := hsz.row (y := p.2.toNat) (by omega)
        have e3 := rowsF_at hq
        have l2 : p.1 < ((q.map boF).length : Nat) := by simp; omega
        repeat (first | refine dw_want rfl rfl ?_ | refine dw_pickT rfl rfl ?_ | refine dw_pB rfl (by assumption) ?_ | refine dw_p rfl ?_ | refine dw_l rfl ?_ | refine dw_if rfl rfl (by omega) (by decide) (by assumption) ?_ | refine dw_a rfl ?_ | refine dw_st rfl rfl rfl rfl rfl (Nat.le_of_ble_eq_true rfl) rfl ?_ | refine dw_nil ?_ | refine ds_seq ?_ | refine ds_ops mix (fun base => ?_) | refine ds_skip ?_ | refine ds_block ?_)
        refine ds_if rfl (fun _ => ?_) (fun ht => by cases ht)
        repeat (first | refine dw_p rfl ?_ | refine dw_l rfl ?_ | refine dw_io1 rfl rfl (by omega) (by omega) ?_ | refine dw_it0 rfl rfl (by omega) (by omega) ?_ | refine dw_l (dload_tree rfl rfl (by assumption)) ?_ | refine ds_ops mix (fun base => ?_))
        refine dw_stt rfl rfl rfl e3 (by simp; omega) rfl ?_
        rw [rowsF_setDot hq, show setDot (plotP n y cur (l.take j)) p.1.toNat p.2.toNat true = plotP n y cur (l.take (j + 1)) by rw [hstep, plot1, if_pos ht3]]
        repeat (first | refine dw_p rfl ?_ | refine dw_nil ?_ | refine ds_ops mix (fun base => ?_))
        refine ⟨k - 1, by omega, _, _, _, [], ?wk5, j + 1, by omega, rfl, rfl, rfl⟩
        case wk5 => exact ⟨by repeat (first | exact trivial | refine ⟨by first | rfl | exact congrArg (fun z => some (DV.int z)) (dwrap (by omega) (by omega)), rfl, ?_⟩), by repeat (first | exact trivial | refine ⟨by first | rfl | exact congrArg (fun z => some (Bk.data z)) (by assumption), rfl, rfl, ?_⟩), rfl⟩
      · have ht3 : plot1 n y (plotP n y cur (l.take j)) p = plotP n y cur (l.take j) := by
          rw [plot1, if_neg]; simpa [onG] using hon
        rw [ht3] at hstep
        have fin : ∀ Q : Exit → DEnv → Bx → Nat → Prop, Q .normal [(2, .one (.ptr 0 0)), (4, .one (.ptr 1 0)), (5, .one (.ptr 5 0)), (35, ptsD l), (36, .int l.length), (37, .int j)] [(0, .cells [.f (.c (.int .i64 n)), .f (.c (.int .i64 y)), .f (.sl 1 cur.length ((rowsF cur).map rowF))]), (1, .cells [.f (.c (.int .i64 0)), .f (.c (.int .i64 0)), .f (.c .nils)]), (4, .tree (rowsF (plotP n y cur (l.take j)))), (5, .cells [.f (.c (.int .i64 n)), .f (.c (.int .i64 y)), .own 4 0 y 1])] 7 → DPS ⟨Tryd.prog, 1, H00 1, Z0, lo⟩ f32.n (.seq (.ops f32r11 0) (.seq (.ops f32r12 0) (.cond (.t 62) (.ops f32r13 10) .skip))) Q [(2, .one (.ptr 0 0)), (4, .one (.ptr 1 0)), (5, .one (.ptr 5 0)), (35, ptsD l), (36, .int l.length), (37, .int j)] [(0, .cells [.f (.c (.int .i64 n)), .f (.c (.int .i64 y)), .f (.sl 1 cur.length ((rowsF cur).map rowF))]), (1, .cells [.f (.c (.int .i64 0)), .f (.c (.int .i64 0)), .f (.c .nils)]), (4, .tree (rowsF (plotP n y cur (l.take j)))), (5, .cells [.f (.c (.int .i64 n)), .f (.c (.int .i64 y)), .own 4 0 y 1])] 6 := by
          intro Q hQ
          have out : ∀ {E : DEnv} {S : Bx}, lk E 62 = some (.bool false) → SubA [(2, .one (.ptr 0 0)), (4, .one (.ptr 1 0)), (5, .one (.ptr 5 0)), (35, ptsD l), (36, .int l.length), (37, .int j)] E → SubA [(0, .cells [.f (.c (.int .i64 n)), .f (.c (.int .i64 y)), .f (.sl 1 cur.length ((rowsF cur).map rowF))]), (1, .cells [.f (.c (.int .i64 0)), .f (.c (.int .i64 0)), .f (.c .nils)]), (4, .tree (rowsF (plotP n y cur (l.take j)))), (5, .cells [.f (.c (.int .i64 n)), .f (.c (.int .i64 y)), .own 4 0 y 1])] S → DPS ⟨Tryd.prog, 1, H00 1, Z0, lo⟩ f32.n (.cond (.t 62) (.ops f32r13 10) .skip) Q E S 7 := fun h1 h2 h3 =>
            ds_if (t := false) h1 (fun h => by cases h) fun _ => ds_keep h2 h3 (ds_skip hQ)
          by_cases h1 : 0 ≤ p.1
          · have g1 : decide (0 ≤ p.1) = true := by simpa using h1
            by_cases h2 : p.1 < (n : Int)
            · have g2 : decide (p.1 < (n : Int)) = true := by simpa using h2
              by_cases h3 : 0 ≤ p.2
              · have g3 : decide (0 ≤ p.2) = true := by simpa using h3
                have g4 : decide (p.2 < (y : Int)) = false := by simp; omega
                repeat (first | refine dw_want rfl rfl ?_ | refine dw_pickT rfl rfl ?_ | refine dw_pB rfl (by assumption) ?_ | refine dw_p rfl ?_ | refine dw_l rfl ?_ | refine dw_if rfl rfl (by omega) (by decide) (by assumption) ?_ | refine dw_a rfl ?_ | refine dw_st rfl rfl rfl rfl rfl (Nat.le_of_ble_eq_true rfl) rfl ?_ | refine dw_nil ?_ | refine ds_seq ?_ | refine ds_ops mix (fun base => ?_))
                exact out rfl (SubA.cons rfl (SubA.cons rfl (SubA.cons rfl (SubA.cons rfl (SubA.cons rfl (SubA.cons rfl (SubA.nil _))))))) (SubA.cons rfl (SubA.cons rfl (SubA.cons rfl (SubA.cons rfl (SubA.nil _)))))
              · have g3 : decide (0 ≤ p.2) = false := by simpa using h3
                repeat (first | refine dw_want rfl rfl ?_ | refine dw_skip rfl rfl ?_ | refine dw_pickT rfl rfl ?_ | refine dw_pickF rfl rfl ?_ | refine dw_pB rfl (by assumption) ?_ | refine dw_p rfl ?_ | refine dw_l rfl ?_ | refine dw_if rfl rfl (by omega) (by decide) (by assumption) ?_ | refine dw_a rfl ?_ | refine dw_st rfl rfl rfl rfl rfl (Nat.le_of_ble_eq_true rfl) rfl ?_ | refine dw_nil ?_ | refine ds_seq ?_ | refine ds_ops mix (fun base => ?_))
                exact out rfl (SubA.cons rfl (SubA.cons rfl (SubA.cons rfl (SubA.cons rfl (SubA.cons rfl (SubA.cons rfl (SubA.nil _))))))) (SubA.cons rfl (SubA.cons rfl (SubA.cons rfl (SubA.cons rfl (SubA.nil _)))))
            · have g2 : decide (p.1 < (n : Int)) = false := by simpa using h2
              repeat (first | refine dw_want rfl rfl ?_ | refine dw_skip rfl rfl ?_ | refine dw_pickT rfl rfl ?_ | refine dw_pickF rfl rfl ?_ | refine dw_pB rfl (by assumption) ?_ | refine dw_p rfl ?_ | refine dw_l rfl ?_ | refine dw_if rfl rfl (by omega) (by decide) (by assumption) ?_ | refine dw_a rfl ?_ | refine dw_st rfl rfl rfl rfl rfl (Nat.le_of_ble_eq_true rfl) rfl ?_ | refine dw_nil ?_ | refine ds_seq ?_ | refine ds_ops mix (fun base => ?_))
              exact out rfl (SubA.cons rfl (SubA.cons rfl (SubA.cons rfl (SubA.cons rfl (SubA.cons rfl (SubA.cons rfl (SubA.nil _))))))) (SubA.cons rfl (SubA.cons rfl (SubA.cons rfl (SubA.cons rfl (SubA.nil _)))))
          · have g1 : decide (0 ≤ p.1) = false := by simpa using h1
            repeat (first | refine dw_skip rfl rfl ?_ | refine dw_pickF rfl rfl ?_ | refine dw_pB rfl (by assumption) ?_ | refine dw_p rfl ?_ | refine dw_l rfl ?_ | refine dw_if rfl rfl (by omega) (by decide) (by assumption) ?_ | refine dw_a rfl ?_ | refine dw_st rfl rfl rfl rfl rfl (Nat.le_of_ble_eq_true rfl) rfl ?_ | refine dw_nil ?_ | refine ds_seq ?_ | refine ds_ops mix (fun base => ?_))
            exact out rfl (SubA.cons rfl (SubA.cons rfl (SubA.cons rfl (SubA.cons rfl (SubA.cons rfl (SubA.cons rfl (SubA.nil _))))))) (SubA.cons rfl (SubA.cons rfl (SubA.cons rfl (SubA.cons rfl (SubA.nil _)))))
        refine ds_skip ?_
        refine ds_seq ?_
        refine ds_block ?_
        refine ds_keep (SubA.cons (k := 2) rfl (SubA.cons (k := 4) rfl (SubA.cons (k := 5) rfl (SubA.cons (k := 35) rfl (SubA.cons (k := 36) rfl (SubA.cons (k := 37) rfl (SubA.nil _))))))) (SubA.refl _) ?_
        refine fin _ ?_
        rw [← hstep]
        repeat (first | refine dw_p rfl ?_ | refine dw_nil ?_ | refine ds_ops mix (fun base => ?_))
        refine ⟨k - 1, by omega, _, _, _, [], ?wk6, j + 1, by omega, rfl, rfl, rfl⟩
        case wk6 => exact ⟨by repeat (first | exact trivial | refine ⟨by first | rfl | exact congrArg (fun z => some (DV.int z)) (dwrap (by omega) (by omega)), rfl, ?_⟩), by repeat (first | exact trivial | refine ⟨by first | rfl | exact congrArg (fun z => some (Bk.data z)) (by assumption), rfl, rfl, ?_⟩), rfl⟩
    · simp at ht2
      have hsz := plotP_sz (w := n) (h := y) l hd
      have hlen : y = (rowsF (plotP n y cur l)).length := by rw [rowsF_len, hsz.1]
      obtain rfl : j = l.length := by omega
      rw [List.take_length]
      refine ds_keep (SubA.cons (k := 4) rfl (SubA.cons (k := 5) rfl (SubA.nil _))) (SubA.refl _) ?_
      refine ds_frzT 4 rfl (by repeat' (first | exact trivial | rfl | assumption | refine ⟨?_, ?_⟩)) (by repeat' (first | exact trivial | rfl | assumption | refine ⟨?_, ?_⟩)) ?_
      repeat (first | refine dw_l rfl ?_ | refine dw_st rfl rfl rfl rfl rfl (Nat.le_of_ble_eq_true rfl) rfl ?_ | refine dw_nil ?_ | refine ds_seq ?_ | refine ds_ops mix (fun base => ?_) | refine ds_exit ?_)
      refine ds_ret ⟨_, rfl, rfl, ?_⟩
      simp only [gridD, hsz.1]
      rfl
end Go.Ab.Fn

/- Deep contracts: the points of a grid. -/
namespace Go.Ab.Fn
open Go.Ab Go.Proofs
set_option linter.unusedSimpArgs false

def rowPts (d : DotsL) (w y : Nat) : List Pt2 := ((List.range w).filter (dot d · y)).map fun (x : Nat) => ((x : Int), (y : Int))
def pointsP (d : DotsL) (w h : Nat) : List Pt2 := (List.range h).flatMap (rowPts d w)
theorem rowPts_succ (d : DotsL) (x y : Nat) : rowPts d (x + 1) y = rowPts d x y ++ if dot d x y = true then [((x : Int), (y : Int))] else [] := by
  simp only [rowPts, List.range_succ, List.filter_append, List.map_append]
  congr 1
  by_cases h : dot d x y = true
  · simp [h]
  · simp [h]
theorem rowPts_len (d : DotsL) (y : Nat) : ∀ w, (rowPts d w y).length ≤ w
  | 0 => by simp [rowPts]
  | w + 1 => by
    rw [rowPts_succ, List.length_append]
    have := rowPts_len d y w
    split <;> simp <;> omega
theorem pointsP_succ (d : DotsL) (w y : Nat) : pointsP d w (y + 1) = pointsP d w y ++ rowPts d w y := by simp [pointsP, List.range_succ]
theorem pointsP_len (d : DotsL) (w : Nat) : ∀ h, (pointsP d w h).length ≤ h * w
  | 0 => by simp [pointsP]
  | h + 1 => by
    have h1 := pointsP_len d w h
    have h2 := rowPts_len d h w
    rw [pointsP_succ, List.length_append, Nat.add_mul]
    omega

set_option maxHeartbeats 4000000 in
theorem d_points {w h : Nat} {d : DotsL} (hw : w ≤ 200) (hh : h ≤ 200) (hd : Sz w h d) : DK 34 [gridD w h d] fun r => r = ptsD (pointsP d w h) := by
  refine dfn_ok cp34 rfl GHro fun Z0 lo => ?_
  have hl := hd.1
  repeat (first | refine dw_p rfl ?_ | refine dw_l rfl ?_ | refine dw_a rfl ?_ | refine dw_nil ?_ | refine ds_seq ?_ | refine ds_ops mix (fun base => ?_) | refine ds_block ?_)
  refine ds_virt 3 2 rfl ?_
  refine ds_loop (fun k E S nk => ∃ y : Nat, y + k = h ∧ E = [(3, .one (.own 0 0 (pointsP d w y).length 2)), (9, .one (.f (.sl 1 d.length ((rowsF d).map rowF)))), (10, .int d.length), (11, .int y)] ∧ S = [(0, .data ((pointsP d w y).flatMap ptF))] ∧ nk = 1) ⟨h, _, _, _, [(0, 1)], ?wk, 0, by omega, rfl, rfl, rfl⟩ ?_
  case wk => exact ⟨by repeat (first | exact trivial | refine ⟨by first | rfl | exact congrArg (fun z => some (DV.int z)) (dwrap (by omega) (by omega)), rfl, ?_⟩), by repeat (first | exact trivial | refine ⟨by first | rfl | exact congrArg (fun z => some (Bk.data z)) (by assumption), rfl, rfl, ?_⟩), rfl⟩
  rintro k E S nk ⟨y, hy, rfl, rfl, rfl⟩
  have hpl : (pointsP d w y).length ≤ 200 * 200 := Nat.le_trans (pointsP_len d w y) (Nat.mul_le_mul (by omega) hw)
  repeat (first | refine dw_p rfl ?_ | refine dw_nil ?_ | refine ds_seq ?_ | refine ds_ops mix (fun base => ?_))
  refine ds_if rfl (fun ht => ?_) (fun ht => ?_)
  · simp at ht
    obtain ⟨r, hr, hrl⟩ := hd.row (y := y) (by omega)
    have e1 := rowF_at (rowsF_at hr)
    repeat (first | refine dw_p rfl ?_ | refine dw_l rfl ?_ | refine dw_if rfl rfl (by omega) (by decide) (by assumption) ?_ | refine dw_nil ?_ | refine ds_seq ?_ | refine ds_ops mix (fun base => ?_) | refine ds_skip ?_ | refine ds_block ?_)
    refine ds_loop (fun k2 E S nk => ∃ x : Nat, x + k2 = w ∧ ∃ l : List Pt2, l = pointsP d w y ++ rowPts d x y ∧ E = [(3, .one (.own 0 0 l.length 2)), (4, .int y), (9, .one (.f (.sl 1 d.length ((rowsF d).map rowF)))), (10, .int d.length), (11, .int y), (16, .one (.f (rowF (r.map boF)))), (17, .int (r.map boF).length), (18, .int x)] ∧ S = [(0, .data (l.flatMap ptF))] ∧ nk = 1) ⟨w, _, _, _, [], ?wk1, 0, by omega, pointsP d w y, by simp [rowPts], rfl, rfl, rfl⟩ ?_
    case wk1 => exact ⟨by repeat (first | exact trivial | refine ⟨by first | rfl | exact congrArg (fun z => some (DV.int z)) (dwrap (by omega) (by omega)), rfl, ?_⟩), by repeat (first | exact trivial | refine ⟨by first | rfl | exact congrArg (fun z => some (Bk.data z)) (by assumption), rfl, rfl, ?_⟩), rfl⟩
    rintro k2 E S nk ⟨x, hx, l, hll, rfl, rfl, rfl⟩
    have hl2 : l.length ≤ 200 * 200 + 200 := by
      have := rowPts_len d y x
      rw [hll, List.length_append]; omega
    repeat (first | refine dw_p rfl ?_ | refine dw_nil ?_ | refine ds_seq ?_ | refine ds_ops mix (fun base => ?_))
    refine ds_if rfl (fun ht2 => ?_) (fun ht2 => ?_)
    · simp at ht2
      obtain ⟨r', hr', _, hrx⟩ := hd.cell (x := x) (y := y) (by omega) (by omega)
      rw [hr] at hr'
      obtain rfl := Option.some.inj hr'
      have e2 := one_at (boF_at hrx)
      have l1 : x < (r.map boF).length := by simp; omega
      repeat (first | refine dw_p rfl ?_ | refine dw_l rfl ?_ | refine dw_if rfl rfl (by omega) (by decide) (by assumption) ?_ | refine dw_nil ?_ | refine ds_seq ?_ | refine ds_ops mix (fun base => ?_) | refine ds_skip ?_ | refine ds_block ?_)
      refine ds_if (t := dot d x y) rfl (fun ht3 => ?_) (fun ht3 => ?_)
      · repeat (first | refine dw_p rfl ?_ | refine dw_a rfl ?_ | refine ds_ops mix (fun base => ?_))
        refine dw_app (l' := l.flatMap ptF) (q := ptF ((x : Int), (y : Int))) rfl rfl rfl (subL_all _ (ptF_len l)) ⟨rfl, rfl, _, rfl, rfl⟩ (by omega) (by omega) (by decide) rfl ?_
        rw [show l.flatMap ptF ++ ptF ((x : Int), (y : Int)) = (l ++ [((x : Int), (y : Int))]).flatMap ptF by simp, show l.length + 1 = (l ++ [((x : Int), (y : Int))]).length by simp]
        repeat (first | refine dw_p rfl ?_ | refine dw_nil ?_ | refine ds_ops mix (fun base => ?_))
        refine ⟨k2 - 1, by omega, _, _, _, [(0, 2)], ?wk2, x + 1, by omega, l ++ [((x : Int), (y : Int))], ?_, rfl, rfl, rfl⟩
        case wk2 => exact ⟨by repeat (first | exact trivial | refine ⟨by first | rfl | exact congrArg (fun z => some (DV.int z)) (dwrap (by omega) (by omega)), rfl, ?_⟩), by repeat (first | exact trivial | refine ⟨by first | rfl | exact congrArg (fun z => some (Bk.data z)) (by assumption), rfl, rfl, ?_⟩), rfl⟩
        rw [rowPts_succ, if_pos ht3, hll, List.append_assoc]
      · repeat (first | refine dw_p rfl ?_ | refine dw_nil ?_ | refine ds_ops mix (fun base => ?_) | refine ds_skip ?_)
        refine ⟨k2 - 1, by omega, _, _, _, [], ?wk3, x + 1, by omega, l, ?_, rfl, rfl, rfl⟩
        case wk3 => exact ⟨by repeat (first | exact trivial | refine ⟨by first | rfl | exact congrArg (fun z => some (DV.int z)) (dwrap (by omega) (by omega)), rfl, ?_⟩), by repeat (first | exact trivial | refine ⟨by first | rfl | exact congrArg (fun z => some (Bk.data z)) (by assumption), rfl, rfl, ?_⟩), rfl⟩
        rw [rowPts_succ, if_neg (by rw [ht3]; decide), hll, List.append_nil]
    · simp at ht2
      obtain rfl : x = w := by omega
      rw [← pointsP_succ] at hll
      subst hll
      repeat (first | refine dw_p rfl ?_ | refine dw_nil ?_ | refine ds_ops mix (fun base => ?_) | refine ds_exit ?_)
      refine ⟨k - 1, by omega, _, _, _, [], ?wk4, y + 1, by omega, rfl, rfl, rfl⟩
      case wk4 => exact ⟨by repeat (first | exact trivial | refine ⟨by first | rfl | exact congrArg (fun z => some (DV.int z)) (dwrap (by omega) (by omega)), rfl, ?_⟩), by repeat (first | exact trivial | refine ⟨by first | rfl | exact congrArg (fun z => some (Bk.data z)) (by assumption), rfl, rfl, ?_⟩), rfl⟩
  · simp at ht
    obtain rfl : y = h := by omega
    have hflat := ptF_len (pointsP d w y)
    refine ds_keep (SubA.cons (k := 3) rfl (SubA.nil _)) (SubA.cons (k := 0) rfl (SubA.nil _)) ?_
    refine ds_frz 0 rfl (by repeat' (first | exact trivial | rfl | assumption | refine ⟨?_, ?_⟩)) (by repeat' (first | exact trivial | rfl | assumption | refine ⟨?_, ?_⟩)) ?_
    repeat (first | refine dw_p rfl ?_ | refine dw_nil ?_ | refine ds_seq ?_ | refine ds_ops mix (fun base => ?_) | refine ds_exit ?_)
    exact ds_ret ⟨_, rfl, rfl, rfl⟩

set_option maxHeartbeats 4000000 in
theorem d_rpoints {w h : Nat} {d : DotsL} (hw : w ≤ 200) (hh : h ≤ 200) (hd : Sz w h d) : DK 35 [gridD w h d] fun r => r = ptsD (pointsP d w h) := by
  refine dfn_ok cp35 rfl GHro fun Z0 lo => ?_
  have hl := hd.1
  repeat (first | refine dw_p rfl ?_ | refine dw_a rfl ?_ | refine dw_nil ?_ | refine ds_seq ?_ | refine ds_ops mix (fun base => ?_) | refine ds_block ?_)
  refine ds_loop (fun k E S nk => ∃ y : Nat, y + k = h ∧ E = [(1, .one (.ptr 0 0)), (3, .one (.own 1 0 (pointsP d w y).length 2)), (4, .int y)] ∧ S = [(0, .cells [.f (.c (.int .i64 w)), .f (.c (.int .i64 h)), .f (.sl 1 d.length ((rowsF d).map rowF))]), (1, .data ((pointsP d w y).flatMap ptF))] ∧ nk = 2) ⟨h, _, _, _, [], ?wk, 0, by omega, rfl, rfl, rfl⟩ ?_
  case wk => exact ⟨by repeat (first | exact trivial | refine ⟨by first | rfl | exact congrArg (fun z => some (DV.int z)) (dwrap (by omega) (by omega)), rfl, ?_⟩), by repeat (first | exact trivial | refine ⟨by first | rfl | exact congrArg (fun z => some (Bk.data z)) (by assumption), rfl, rfl, ?_⟩), rfl⟩
  rintro k E S nk ⟨y, hy, rfl, rfl, rfl⟩
  have hpl : (pointsP d w y).length ≤ 200 * 200 := Nat.le_trans (pointsP_len d w y) (Nat.mul_le_mul (by omega) hw)
  repeat (first | refine dw_p rfl ?_ | refine dw_l rfl ?_ | refine dw_nil ?_ | refine ds_seq ?_ | refine ds_ops mix (fun base => ?_))
  refine ds_if rfl (fun ht => ?_) (fun ht => ?_)
  · simp at ht
    obtain ⟨r, hr, hrl⟩ := hd.row (y := y) (by omega)
    have e1 := rowF_at (rowsF_at hr)
    repeat (first | refine dw_p rfl ?_ | refine dw_nil ?_ | refine ds_seq ?_ | refine ds_ops mix (fun base => ?_) | refine ds_skip ?_ | refine ds_block ?_)
    refine ds_loop (fun k2 E S nk => ∃ x : Nat, x + k2 = w ∧ ∃ l : List Pt2, l = pointsP d w y ++ rowPts d x y ∧ E = [(1, .one (.ptr 0 0)), (3, .one (.own 1 0 l.length 2)), (4, .int y), (5, .int x)] ∧ S = [(0, .cells [.f (.c (.int .i64 w)), .f (.c (.int .i64 h)), .f (.sl 1 d.length ((rowsF d).map rowF))]), (1, .data (l.flatMap ptF))] ∧ nk = 2) ⟨w, _, _, _, [], ?wk1, 0, by omega, pointsP d w y, by simp [rowPts], rfl, rfl, rfl⟩ ?_
    case wk1 => exact ⟨by repeat (first | exact trivial | refine ⟨by first | rfl | exact congrArg (fun z => some (DV.int z)) (dwrap (by omega) (by omega)), rfl, ?_⟩), by repeat (first | exact trivial | refine ⟨by first | rfl | exact congrArg (fun z => some (Bk.data z)) (by assumption), rfl, rfl, ?_⟩), rfl⟩
    rintro k2 E S nk ⟨x, hx, l, hll, rfl, rfl, rfl⟩
    have hl2 : l.length ≤ 200 * 200 + 200 := by
      have := rowPts_len d y x
      rw [hll, List.length_append]; omega
    repeat (first | refine dw_p rfl ?_ | refine dw_l rfl ?_ | refine dw_nil ?_ | refine ds_seq ?_ | refine ds_ops mix (fun base => ?_))
    refine ds_if rfl (fun ht2 => ?_) (fun ht2 => ?_)
    · simp at ht2
      obtain ⟨r', hr', _, hrx⟩ := hd.cell (x := x) (y := y) (by omega) (by omega)
      rw [hr] at hr'
      obtain rfl := Option.some.inj hr'
      have e2 := one_at (boF_at hrx)
      have l1 : x < (r.map boF).length := by simp; omega
      repeat (first | refine dw_p rfl ?_ | refine dw_l rfl ?_ | refine dw_if rfl rfl (by omega) (by decide) (by assumption) ?_ | refine dw_nil ?_ | refine ds_seq ?_ | refine ds_ops mix (fun base => ?_) | refine ds_skip ?_ | refine ds_block ?_)
      refine ds_if (t := dot d x y) rfl (fun ht3 => ?_) (fun ht3 => ?_)
      · repeat (first | refine dw_p rfl ?_ | refine dw_a rfl ?_ | refine ds_ops mix (fun base => ?_))
        refine dw_app (l' := l.flatMap ptF) (q := ptF ((x : Int), (y : Int))) rfl rfl rfl (subL_all _ (ptF_len l)) ⟨rfl, rfl, _, rfl, rfl⟩ (by omega) (by omega) (by decide) rfl ?_
        rw [show l.flatMap ptF ++ ptF ((x : Int), (y : Int)) = (l ++ [((x : Int), (y : Int))]).flatMap ptF by simp, show l.length + 1 = (l ++ [((x : Int), (y : Int))]).length by simp]
        repeat (first | refine dw_p rfl ?_ | refine dw_nil ?_ | refine ds_ops mix (fun base => ?_))
        refine ⟨k2 - 1, by omega, _, _, _, [(1, 3)], ?wk2, x + 1, by omega, l ++ [((x : Int), (y : Int))], ?_, rfl, rfl, rfl⟩
        case wk2 => exact ⟨by repeat (first | exact trivial | refine ⟨by first | rfl | exact congrArg (fun z => some (DV.int z)) (dwrap (by omega) (by omega)), rfl, ?_⟩), by repeat (first | exact trivial | refine ⟨by first | rfl | exact congrArg (fun z => some (Bk.data z)) (by assumption), rfl, rfl, ?_⟩), rfl⟩
        rw [rowPts_succ, if_pos ht3, hll, List.append_assoc]
      · repeat (first | refine dw_p rfl ?_ | refine dw_nil ?_ | refine ds_ops mix (fun base => ?_) | refine ds_skip ?_)
        refine ⟨k2 - 1, by omega, _, _, _, [], ?wk3, x + 1, by omega, l, ?_, rfl, rfl, rfl⟩
        case wk3 => exact ⟨by repeat (first | exact trivial | refine ⟨by first | rfl | exact congrArg (fun z => some (DV.int z)) (dwrap (by omega) (by omega)), rfl, ?_⟩), by repeat (first | exact trivial | refine ⟨by first | rfl | exact congrArg (fun z => some (Bk.data z)) (by assumption), rfl, rfl, ?_⟩), rfl⟩
        rw [rowPts_succ, if_neg (by rw [ht3]; decide), hll, List.append_nil]
    · simp at ht2
      obtain rfl : x = w := by omega
      rw [← pointsP_succ] at hll
      subst hll
      repeat (first | refine dw_p rfl ?_ | refine dw_nil ?_ | refine ds_ops mix (fun base => ?_) | refine ds_exit ?_)
      refine ⟨k - 1, by omega, _, _, _, [], ?wk4, y + 1, by omega, rfl, rfl, rfl⟩
      case wk4 => exact ⟨by repeat (first | exact trivial | refine ⟨by first | rfl | exact congrArg (fun z => some (DV.int z)) (dwrap (by omega) (by omega)), rfl, ?_⟩), by repeat (first | exact trivial | refine ⟨by first | rfl | exact congrArg (fun z => some (Bk.data z)) (by assumption), rfl, rfl, ?_⟩), rfl⟩
  · simp at ht
    obtain rfl : y = h := by omega
    have hflat := ptF_len (pointsP d w y)
    refine ds_keep (SubA.cons (k := 3) rfl (SubA.nil _)) (SubA.cons (k := 1) rfl (SubA.nil _)) ?_
    refine ds_frz 1 rfl (by repeat' (first | exact trivial | rfl | assumption | refine ⟨?_, ?_⟩)) (by repeat' (first | exact trivial | rfl | assumption | refine ⟨?_, ?_⟩)) ?_
    repeat (first | refine dw_p rfl ?_ | refine dw_nil ?_ | refine ds_seq ?_ | refine ds_ops mix (fun base => ?_) | refine ds_exit ?_)
    exact ds_ret ⟨_, rfl, rfl, rfl⟩
end Go.Ab.Fn

/- Deep contracts: grids from cells. -/
namespace Go.Ab.Fn
open Go.Ab Go.Proofs
set_option linter.unusedSimpArgs false

def cF (c : Int) : FD := .c (.int .u8 c)
abbrev Cells := List (List Int)
def cellsF (l : Cells) : List (List FD) := l.map (·.map cF)
def cellsV (l : Cells) : DV := .one (.f (.sl 1 l.length ((cellsF l).map rowF)))
def bitC (c : Int) (k : Nat) : Bool := (IntKind.u8.wrap ((BitVec.ofInt 8 (c.fdiv (2 ^ (min k 8))) &&& BitVec.ofInt 8 1).toNat : Int) == 1)
def fitH (l : Cells) (w h : Int) : Prop := 0 ≤ w ∧ w ≤ 200 ∧ w % 2 = 0 ∧ 0 ≤ h ∧ h ≤ 200 ∧ h % 3 = 0 ∧ (l.length : Int) ≤ h / 3
def fitR (l : Cells) (w : Int) : Prop := ∀ r ∈ l, (r.length : Int) ≤ w / 2 ∧ ∀ c ∈ r, c < 64
def bitAt (l : Cells) (x y : Nat) : Bool := match l[y / 3]? with
  | some r => match r[x / 2]? with
    | some c => bitC c (x % 2 * 3 + y % 3)
    | none => false
  | none => false
def fromC (w h : Nat) (l : Cells) : DotsL := (List.range h).map fun y => (List.range w).map fun x => bitAt l x y
theorem fromC_sz (w h : Nat) (l : Cells) : Sz w h (fromC w h l) := ⟨by simp [fromC], fun r hr => by
  simp only [fromC, List.mem_map] at hr
  obtain ⟨y, _, rfl⟩ := hr
  simp⟩
theorem fromC_dot {w h : Nat} (l : Cells) {x y : Nat} (hx : x < w) (hy : y < h) : dot (fromC w h l) x y = bitAt l x y := by
  simp [dot, fromC, hx, hy]
theorem cellsF_at {l : Cells} {y : Nat} {r : List Int} (h : l[y]? = some r) : (cellsF l)[y]? = some (r.map cF) := by simp [cellsF, h]
theorem cF_at {r : List Int} {x : Nat} {b : Int} (h : r[x]? = some b) : (r.map cF)[x]? = some (cF b) := by simp [h]

theorem tm {a : Int} {b : Int} (h : 0 ≤ a) : a.tmod b = a % b := Int.tmod_eq_emod_of_nonneg h
theorem td {a : Int} {b : Int} (h : 0 ≤ a) : a.tdiv b = a / b := Int.tdiv_eq_ediv_of_nonneg h
theorem hdr1 {l : Cells} {w h : Int} : ((((((w < 0 ∨ w > 200) ∨ (w.tmod 2 != 0) = true) ∨ h < 0) ∨ h > 200) ∨ (h.tmod 3 != 0) = true) ∨ (l.length : Int) > IntKind.i64.wrap (h.tdiv 3)) ↔ ¬ fitH l w h := by
  unfold fitH
  by_cases hw : 0 ≤ w
  · by_cases hh : 0 ≤ h
    · rw [tm hw, tm hh, td hh, bne_iff_ne, bne_iff_ne]
      by_cases h2 : h ≤ 200
      · rw [dwrap (by omega) (by omega)]; omega
      · constructor
        · intro _; omega
        · intro _; exact .inl (.inl (.inr (by omega)))
    · constructor
      · intro _; omega
      · intro _; exact .inl (.inl (.inl (.inr (by omega))))
  · constructor
    · intro _; omega
    · intro _; exact .inl (.inl (.inl (.inl (.inl (.inl (by omega))))))
/-- done: the rows before r; in it the cells before i; in that one the dots before k -/
def Dn (r i k x y : Nat) : Prop := y / 3 < r ∨ (y / 3 = r ∧ (x / 2 < i ∨ (x / 2 = i ∧ x % 2 * 3 + y % 3 < k)))
instance (r i k x y : Nat) : Decidable (Dn r i k x y) := by unfold Dn; infer_instance
def Fc (w h : Nat) (l : Cells) (r i k : Nat) (cur : DotsL) : Prop := Sz w h cur ∧ ∀ x y, x < w → y < h → dot cur x y = if Dn r i k x y then bitAt l x y else false
theorem Fc.start (w h : Nat) (l : Cells) : Fc w h l 0 0 0 (blankD w h) := ⟨Sz.blankD w h, fun x y _ _ => by rw [dot_blank, if_neg (by unfold Dn; omega)]⟩
theorem bit_here {l : Cells} {r i k : Nat} {row : List Int} {c : Int} (h1 : l[r]? = some row) (h2 : row[i]? = some c) (hk : k < 6) {x y : Nat} (hx : x = 2 * i + k / 3) (hy : y = 3 * r + k % 3) : bitAt l x y = bitC c k := by
  have e1 : y / 3 = r := by omega
  have e2 : x / 2 = i := by omega
  have e3 : x % 2 * 3 + y % 3 = k := by omega
  simp only [bitAt, e1, h1, e2, h2, e3]
theorem Fc.step {w h : Nat} {l : Cells} {r i k : Nat} {cur : DotsL} {row : List Int} {c : Int} (hc : Fc w h l r i k cur) (h1 : l[r]? = some row) (h2 : row[i]? = some c) (hk : k < 6) (hw : 2 * i + 1 < w) (hh : 3 * r + 2 < h) : Fc w h l r i (k + 1) (setDot cur (2 * i + k / 3) (3 * r + k % 3) (bitC c k)) := by
  refine ⟨hc.1.set _ _ _, fun x y hx hy => ?_⟩
  rw [dot_set hc.1 (by omega) (by omega)]
  split
  · rename_i e
    rw [if_pos (by unfold Dn; omega), bit_here h1 h2 hk e.1 e.2]
  · rename_i e
    rw [hc.2 x y hx hy]
    by_cases hd : Dn r i k x y
    · rw [if_pos hd, if_pos (by unfold Dn at hd ⊢; omega)]
    · rw [if_neg hd, if_neg (by unfold Dn at hd ⊢; omega)]
theorem Fc.skip {w h : Nat} {l : Cells} {r i k : Nat} {cur : DotsL} {row : List Int} {c : Int} (hc : Fc w h l r i k cur) (h1 : l[r]? = some row) (h2 : row[i]? = some c) (hk : k < 6) (hb : bitC c k = false) : Fc w h l r i (k + 1) cur := by
  refine ⟨hc.1, fun x y hx hy => ?_⟩
  rw [hc.2 x y hx hy]
  by_cases hd : Dn r i k x y
  · rw [if_pos hd, if_pos (by unfold Dn at hd ⊢; omega)]
  · rw [if_neg hd]
    by_cases hd2 : Dn r i (k + 1) x y
    · rw [if_pos hd2, bit_here h1 h2 hk (x := x) (y := y) (by unfold Dn at hd hd2; omega) (by unfold Dn at hd hd2; omega), hb]
    · rw [if_neg hd2]
theorem Fc.cell {w h : Nat} {l : Cells} {r i : Nat} {cur : DotsL} (hc : Fc w h l r i 6 cur) : Fc w h l r (i + 1) 0 cur := ⟨hc.1, fun x y hx hy => by
  rw [hc.2 x y hx hy]
  by_cases hd : Dn r i 6 x y
  · rw [if_pos hd, if_pos (by unfold Dn at hd ⊢; omega)]
  · rw [if_neg hd, if_neg (by unfold Dn at hd ⊢; omega)]⟩
theorem Fc.row {w h : Nat} {l : Cells} {r : Nat} {cur : DotsL} {row : List Int} (h1 : l[r]? = some row) (hc : Fc w h l r row.length 0 cur) : Fc w h l (r + 1) 0 0 cur := ⟨hc.1, fun x y hx hy => by
  rw [hc.2 x y hx hy]
  by_cases hd : Dn r row.length 0 x y
  · rw [if_pos hd, if_pos (by unfold Dn at hd ⊢; omega)]
  · rw [if_neg hd]
    by_cases hd2 : Dn (r + 1) 0 0 x y
    · rw [if_pos hd2]
      have e1 : y / 3 = r := by unfold Dn at hd hd2; omega
      have e2 : row[x / 2]? = none := List.getElem?_eq_none (by unfold Dn at hd hd2; omega)
      simp only [bitAt, e1, h1, e2]
    · rw [if_neg hd2]⟩
theorem Fc.fin {w h : Nat} {l : Cells} {cur : DotsL} (hc : Fc w h l l.length 0 0 cur) : cur = fromC w h l := hc.1.ext (fromC_sz w h l) fun x y hx hy => by
  rw [hc.2 x y hx hy, fromC_dot l hx hy]
  by_cases hd : Dn l.length 0 0 x y
  · rw [if_pos hd]
  · rw [if_neg hd]
    have : l[y / 3]? = none := List.getElem?_eq_none (by unfold Dn at hd; omega)
    simp only [bitAt, this]

theorem d_cvalid {c : Int} : DK 53 [.one (.f (.c (.int .u8 c)))] fun d => d = .bool (decide (c < 64)) := by
  refine dfn_ok cp53 rfl GHro fun Z0 lo => ?_
  repeat (first | refine dw_p rfl ?_ | refine dw_nil ?_ | refine ds_seq ?_ | refine ds_ops mix (fun base => ?_))
  exact ds_ret ⟨_, rfl, rfl, rfl⟩

def noGrid : DV := .tup [.agg [.f (.c (.int .i64 0)), .f (.c (.int .i64 0)), .f (.c .nils)], .int 1]
def okGrid (w h : Nat) (l : Cells) : DV := .tup [gridD w h (fromC w h l), .int 0]

set_option maxHeartbeats 8000000 in
theorem d_from {l : Cells} {w h : Int} (hrl : ∀ r ∈ l, r.length < 1000000) : DK 26 [cellsV l, .int w, .int h] fun d => (fitH l w h ∧ fitR l w ∧ d = okGrid w.toNat h.toNat l) ∨ (¬ (fitH l w h ∧ fitR l w) ∧ d = noGrid) := by
  refine dfn_ok cp26 rfl GHro fun Z0 lo => ?_
  repeat (first | refine dw_pick rfl (by first | exact fun _ => rfl | exact fun h => (by simp only [if_pos h]; rfl) | exact fun h => (by simp only [h, if_true, if_false]; rfl)) (by first | exact fun _ => rfl | exact fun h => (by simp only [if_pos h]; rfl) | exact fun h => (by simp only [h, if_true, if_false]; rfl)) ?_ | refine dw_p rfl ?_ | refine dw_pg rfl (by first | exact fun _ => rfl | exact fun h => (by simp only [if_pos h]; rfl) | exact fun h => (by simp only [h, if_true, if_false]; rfl)) ?_ | refine dw_a rfl ?_ | refine dw_nil ?_ | refine ds_seq ?_ | refine ds_ops mix (fun base => ?_))
  refine ds_if rfl (fun ht => ?_) (fun ht => ?_)
  · simp only [Bool.if_true_left, Bool.or_eq_true, Bool.or_eq_false_iff, decide_eq_true_eq, decide_eq_false_iff_not] at ht
    repeat (first | refine dw_p rfl ?_ | refine dw_st rfl rfl rfl rfl rfl (Nat.le_of_ble_eq_true rfl) rfl ?_ | refine dw_nil ?_ | refine ds_seq ?_ | refine ds_ops mix (fun base => ?_))
    exact ds_ret ⟨_, rfl, rfl, .inr ⟨fun hf => hdr1.1 ht hf.1, rfl⟩⟩
  · have ht' : ¬ _ := fun h => Bool.false_ne_true (ht.symm.trans h)
    simp only [Bool.if_true_left, Bool.or_eq_true, decide_eq_true_eq] at ht'
    have hfit : fitH l w h := Classical.not_not.1 fun hn => ht' (hdr1.2 hn)
    clear ht ht'
    have hf := hfit
    unfold fitH at hf
    obtain ⟨n, rfl⟩ : ∃ n : Nat, w = n := ⟨w.toNat, by omega⟩
    obtain ⟨m, rfl⟩ : ∃ m : Nat, h = m := ⟨h.toNat, by omega⟩
    have hw2 : IntKind.i64.wrap ((n : Int).tdiv 2) = ((n / 2 : Nat) : Int) := by rw [td (by omega), dwrap (by omega) (by omega)]; omega
    repeat (first | refine dw_p rfl ?_ | refine dw_nil ?_ | refine ds_seq ?_ | refine ds_ops mix (fun base => ?_) | refine ds_skip ?_ | refine ds_block ?_)
    refine ds_keep (SubA.cons (k := 0) rfl (SubA.cons (k := 1) rfl (SubA.cons (k := 2) rfl (SubA.cons (k := 6) rfl (SubA.cons (k := 50) rfl (SubA.cons (k := 51) rfl (SubA.cons (k := 52) rfl (SubA.nil _)))))))) (SubA.refl _) ?_
    refine ds_loop (fun k E S nk => ∃ r : Nat, r + k = l.length ∧ fitR (l.take r) n ∧ E = [(0, cellsV l), (1, .int n), (2, .int m), (6, .one (.ptr 0 0)), (50, cellsV l), (51, .int l.length), (52, .int r)] ∧ S = [(0, .cells [.f (.c (.int .i64 0)), .f (.c (.int .i64 0)), .f (.c .nils)])] ∧ nk = 1) ⟨l.length, _, _, _, [], ?wk, 0, by omega, fun r hr => by simp at hr, rfl, rfl, rfl⟩ ?_
    case wk => exact ⟨by repeat (first | exact trivial | refine ⟨by first | rfl | exact congrArg (fun z => some (DV.int z)) (dwrap (by omega) (by omega)), rfl, ?_⟩), by repeat (first | exact trivial | refine ⟨by first | rfl | exact congrArg (fun z => some (Bk.data z)) (by assumption), rfl, rfl, ?_⟩), rfl⟩
    rintro k E S nk ⟨r, hr, hok, rfl, rfl, rfl⟩
    repeat (first | refine dw_p rfl ?_ | refine dw_nil ?_ | refine ds_seq ?_ | refine ds_ops mix (fun base => ?_))
    refine ds_if rfl (fun ht => ?_) (fun ht => ?_)
    · simp at ht
      obtain ⟨row, hrow⟩ : ∃ q, l[r]? = some q := ⟨_, List.getElem?_eq_getElem (by omega)⟩
      have hrl' := hrl row (List.mem_of_getElem? hrow)
      have e1 := rowF_at (cellsF_at hrow)
      repeat (first | refine dw_p rfl ?_ | refine dw_l rfl ?_ | refine dw_if rfl rfl (by omega) (by decide) (by assumption) ?_ | refine dw_nil ?_ | refine ds_seq ?_ | refine ds_ops mix (fun base => ?_) | refine ds_skip ?_ | refine ds_block ?_)
      rw [hw2]
      refine ds_if rfl (fun ht2 => ?_) (fun ht2 => ?_)
      · simp at ht2
        repeat (first | refine dw_p rfl ?_ | refine dw_st rfl rfl rfl rfl rfl (Nat.le_of_ble_eq_true rfl) rfl ?_ | refine dw_nil ?_ | refine ds_seq ?_ | refine ds_ops mix (fun base => ?_))
        refine ds_ret ⟨_, rfl, rfl, .inr ⟨fun hf => ?_, rfl⟩⟩
        have := (hf.2 row (List.mem_of_getElem? hrow)).1
        omega
      · simp at ht2
        repeat (first | refine dw_p rfl ?_ | refine dw_nil ?_ | refine ds_seq ?_ | refine ds_ops mix (fun base => ?_) | refine ds_skip ?_ | refine ds_block ?_)
        refine ds_keep (SubA.cons (k := 0) rfl (SubA.cons (k := 1) rfl (SubA.cons (k := 2) rfl (SubA.cons (k := 6) rfl (SubA.cons (k := 50) rfl (SubA.cons (k := 51) rfl (SubA.cons (k := 52) rfl (SubA.cons (k := 62) rfl (SubA.cons (k := 63) rfl (SubA.cons (k := 64) rfl (SubA.nil _))))))))))) (SubA.refl _) ?_
        refine ds_loop (fun k2 E S nk => ∃ i : Nat, i + k2 = row.length ∧ (∀ c ∈ row.take i, c < 64) ∧ E = [(0, cellsV l), (1, .int n), (2, .int m), (6, .one (.ptr 0 0)), (50, cellsV l), (51, .int l.length), (52, .int r), (62, .one (.f (rowF (row.map cF)))), (63, .int (row.map cF).length), (64, .int i)] ∧ S = [(0, .cells [.f (.c (.int .i64 0)), .f (.c (.int .i64 0)), .f (.c .nils)])] ∧ nk = 1) ⟨row.length, _, _, _, [], ?wk1, 0, by omega, by simp, rfl, rfl, rfl⟩ ?_
        case wk1 => exact ⟨by repeat (first | exact trivial | refine ⟨by first | rfl | exact congrArg (fun z => some (DV.int z)) (dwrap (by omega) (by omega)), rfl, ?_⟩), by repeat (first | exact trivial | refine ⟨by first | rfl | exact congrArg (fun z => some (Bk.data z)) (by assumption), rfl, rfl, ?_⟩), rfl⟩
        rintro k2 E S nk ⟨i, hi, hok2, rfl, rfl, rfl⟩
        repeat (first | refine dw_p rfl ?_ | refine dw_nil ?_ | refine ds_seq ?_ | refine ds_ops mix (fun base => ?_))
        refine ds_if rfl (fun ht3 => ?_) (fun ht3 => ?_)
        · simp at ht3
          obtain ⟨c, hc⟩ : ∃ c, row[i]? = some c := ⟨_, List.getElem?_eq_getElem (by omega)⟩
          have e2 := one_at (cF_at hc)
          have l1 : i < (row.map cF).length := by simp; omega
          repeat (first | refine dw_p rfl ?_ | refine dw_l rfl ?_ | refine dw_if rfl rfl (by omega) (by decide) (by assumption) ?_ | refine dw_nil ?_ | refine ds_seq ?_ | refine ds_ops mix (fun base => ?_) | refine ds_skip ?_ | refine ds_block ?_)
          refine dw_cf rfl rfl (d_cvalid (c := c)) ?_
          rintro _ rfl
          repeat (first | refine dw_p rfl ?_ | refine dw_nil ?_)
          refine ds_if rfl (fun ht4 => ?_) (fun ht4 => ?_)
          · simp at ht4
            repeat (first | refine dw_p rfl ?_ | refine dw_st rfl rfl rfl rfl rfl (Nat.le_of_ble_eq_true rfl) rfl ?_ | refine dw_nil ?_ | refine ds_seq ?_ | refine ds_ops mix (fun base => ?_))
            refine ds_ret ⟨_, rfl, rfl, .inr ⟨fun hf => ?_, rfl⟩⟩
            have := (hf.2 row (List.mem_of_getElem? hrow)).2 c (List.mem_of_getElem? hc)
            omega
          · simp at ht4
            repeat (first | refine dw_p rfl ?_ | refine dw_nil ?_ | refine ds_ops mix (fun base => ?_) | refine ds_skip ?_)
            refine ⟨k2 - 1, by omega, _, _, _, [], ?wk2, i + 1, by omega, ?_, rfl, rfl, rfl⟩
            case wk2 => exact ⟨by repeat (first | exact trivial | refine ⟨by first | rfl | exact congrArg (fun z => some (DV.int z)) (dwrap (by omega) (by omega)), rfl, ?_⟩), by repeat (first | exact trivial | refine ⟨by first | rfl | exact congrArg (fun z => some (Bk.data z)) (by assumption), rfl, rfl, ?_⟩), rfl⟩
            intro c' hc'
            rw [List.take_add_one, hc] at hc'
            simp at hc'
            rcases hc' with hc' | rfl
            · exact hok2 c' hc'
            · exact ht4
        · simp at ht3
          repeat (first | refine dw_p rfl ?_ | refine dw_nil ?_ | refine ds_ops mix (fun base => ?_) | refine ds_exit ?_)
          refine ⟨k - 1, by omega, _, _, _, [], ?wk3, r + 1, by omega, ?_, rfl, rfl, rfl⟩
          case wk3 => exact ⟨by repeat (first | exact trivial | refine ⟨by first | rfl | exact congrArg (fun z => some (DV.int z)) (dwrap (by omega) (by omega)), rfl, ?_⟩), by repeat (first | exact trivial | refine ⟨by first | rfl | exact congrArg (fun z => some (Bk.data z)) (by assumption), rfl, rfl, ?_⟩), rfl⟩
          intro q hq
          rw [List.take_add_one, hrow] at hq
          simp only [Option.toList_some, List.mem_append, List.mem_singleton] at hq
          rcases hq with hq | rfl
          · exact hok q hq
          · rw [List.take_of_length_le (by omega)] at hok2
            exact ⟨by omega, hok2⟩
    · simp at ht
      rw [List.take_of_length_le (by omega)] at hok
      repeat (first | refine dw_p rfl ?_ | refine ds_seq ?_ | refine ds_ops mix (fun base => ?_) | refine ds_exit ?_)
      refine dw_cfr rfl rfl (o_new n m) ?_
      rintro _ _ _ ⟨n', m', hn', hm', _, _, rfl, rfl, rfl⟩
      obtain rfl := side_of hn' (by omega)
      obtain rfl := side_of hm' (by omega)
      repeat (first | refine dw_p rfl ?_ | refine dw_a rfl ?_ | refine dw_st rfl rfl rfl rfl rfl (Nat.le_of_ble_eq_true rfl) rfl ?_ | refine dw_nil ?_ | refine ds_seq ?_ | refine ds_ops mix (fun base => ?_) | refine ds_block ?_)
      refine ds_keep (SubA.cons (k := 6) rfl (SubA.cons (k := 12) rfl (SubA.cons (k := 77) rfl (SubA.cons (k := 78) rfl (SubA.cons (k := 79) rfl (SubA.nil _)))))) (SubA.refl _) ?_
      refine ds_loop (fun k E S nk => ∃ r : Nat, r + k = l.length ∧ ∃ cur, Fc n' m' l r 0 0 cur ∧ E = [(6, .one (.ptr 0 0)), (12, .one (.ptr 4 0)), (77, cellsV l), (78, .int l.length), (79, .int r)] ∧ S = [(0, .cells [.f (.c (.int .i64 0)), .f (.c (.int .i64 0)), .f (.c .nils)]), (3, .tree (rowsF cur)), (4, .cells [.f (.c (.int .i64 n')), .f (.c (.int .i64 m')), .own 3 0 m' 1])] ∧ nk = 5) ⟨l.length, _, _, _, [], ?wk, 0, by omega, blankD n' m', Fc.start n' m' l, rfl, rfl, rfl⟩ ?_
      case wk => exact ⟨by repeat (first | exact trivial | refine ⟨by first | rfl | exact congrArg (fun z => some (DV.int z)) (dwrap (by omega) (by omega)), rfl, ?_⟩), by repeat (first | exact trivial | refine ⟨by first | rfl | exact congrArg (fun z => some (Bk.data z)) (by assumption), rfl, rfl, ?_⟩), rfl⟩
      rintro k E S nk ⟨r, hr, cur, hcur, rfl, rfl, rfl⟩
      repeat (first | refine dw_p rfl ?_ | refine dw_nil ?_ | refine ds_seq ?_ | refine ds_ops mix (fun base => ?_))
      refine ds_if rfl (fun ht => ?_) (fun ht => ?_)
      · simp at ht
        obtain ⟨row, hrow⟩ : ∃ q, l[r]? = some q := ⟨_, List.getElem?_eq_getElem (by omega)⟩
        have hrl' := hrl row (List.mem_of_getElem? hrow)
        have hrf := (hok row (List.mem_of_getElem? hrow)).1
        have e1 := rowF_at (cellsF_at hrow)
        repeat (first | refine dw_p rfl ?_ | refine dw_l rfl ?_ | refine dw_if rfl rfl (by omega) (by decide) (by assumption) ?_ | refine dw_nil ?_ | refine ds_seq ?_ | refine ds_ops mix (fun base => ?_) | refine ds_skip ?_ | refine ds_block ?_)
        refine ds_keep (SubA.cons (k := 6) rfl (SubA.cons (k := 12) rfl (SubA.cons (k := 13) rfl (SubA.cons (k := 77) rfl (SubA.cons (k := 78) rfl (SubA.cons (k := 79) rfl (SubA.cons (k := 84) rfl (SubA.cons (k := 85) rfl (SubA.cons (k := 86) rfl (SubA.nil _)))))))))) (SubA.refl _) ?_
        refine ds_loop (fun k2 E S nk => ∃ i : Nat, i + k2 = row.length ∧ ∃ cur, Fc n' m' l r i 0 cur ∧ E = [(6, .one (.ptr 0 0)), (12, .one (.ptr 4 0)), (13, .int r), (77, cellsV l), (78, .int l.length), (79, .int r), (84, .one (.f (rowF (row.map cF)))), (85, .int (row.map cF).length), (86, .int i)] ∧ S = [(0, .cells [.f (.c (.int .i64 0)), .f (.c (.int .i64 0)), .f (.c .nils)]), (3, .tree (rowsF cur)), (4, .cells [.f (.c (.int .i64 n')), .f (.c (.int .i64 m')), .own 3 0 m' 1])] ∧ nk = 5) ⟨row.length, _, _, _, [], ?wk1, 0, by omega, cur, hcur, rfl, rfl, rfl⟩ ?_
        case wk1 => exact ⟨by repeat (first | exact trivial | refine ⟨by first | rfl | exact congrArg (fun z => some (DV.int z)) (dwrap (by omega) (by omega)), rfl, ?_⟩), by repeat (first | exact trivial | refine ⟨by first | rfl | exact congrArg (fun z => some (Bk.data z)) (by assumption), rfl, rfl, ?_⟩), rfl⟩
        rintro k2 E S nk ⟨i, hi, cur, hcur, rfl, rfl, rfl⟩
        repeat (first | refine dw_p rfl ?_ | refine dw_nil ?_ | refine ds_seq ?_ | refine ds_ops mix (fun base => ?_))
        refine ds_if rfl (fun ht3 => ?_) (fun ht3 => ?_)
        · simp at ht3
          obtain ⟨c, hc⟩ : ∃ c, row[i]? = some c := ⟨_, List.getElem?_eq_getElem (by omega)⟩
          have e2 := one_at (cF_at hc)
          have l1 : i < (row.map cF).length := by simp; omega
          repeat (first | refine dw_p rfl ?_ | refine dw_l rfl ?_ | refine dw_if rfl rfl (by omega) (by decide) (by assumption) ?_ | refine dw_nil ?_ | refine ds_seq ?_ | refine ds_ops mix (fun base => ?_) | refine ds_skip ?_ | refine ds_block ?_)
          refine ds_keep (SubA.cons (k := 6) rfl (SubA.cons (k := 12) rfl (SubA.cons (k := 13) rfl (SubA.cons (k := 15) rfl (SubA.cons (k := 16) rfl (SubA.cons (k := 77) rfl (SubA.cons (k := 78) rfl (SubA.cons (k := 79) rfl (SubA.cons (k := 84) rfl (SubA.cons (k := 85) rfl (SubA.cons (k := 86) rfl (SubA.cons (k := 91) rfl (SubA.nil _))))))))))))) (SubA.refl _) ?_
          refine ds_loop (fun k3 E S nk => ∃ j : Nat, j + k3 = 6 ∧ ∃ cur, Fc n' m' l r i j cur ∧ E = [(6, .one (.ptr 0 0)), (12, .one (.ptr 4 0)), (13, .int r), (15, .int i), (16, .one (.f (.c (.int .u8 c)))), (77, cellsV l), (78, .int l.length), (79, .int r), (84, .one (.f (rowF (row.map cF)))), (85, .int (row.map cF).length), (86, .int i), (91, .int j)] ∧ S = [(0, .cells [.f (.c (.int .i64 0)), .f (.c (.int .i64 0)), .f (.c .nils)]), (3, .tree (rowsF cur)), (4, .cells [.f (.c (.int .i64 n')), .f (.c (.int .i64 m')), .own 3 0 m' 1])] ∧ nk = 5) ⟨6, _, _, _, [], ?wk2, 0, by omega, cur, hcur, rfl, rfl, rfl⟩ ?_
          case wk2 => exact ⟨by repeat (first | exact trivial | refine ⟨by first | rfl | exact congrArg (fun z => some (DV.int z)) (dwrap (by omega) (by omega)), rfl, ?_⟩), by repeat (first | exact trivial | refine ⟨by first | rfl | exact congrArg (fun z => some (Bk.data z)) (by assumption), rfl, rfl, ?_⟩), rfl⟩
          rintro k3 E S nk ⟨j, hj, cur, hcur, rfl, rfl, rfl⟩
          repeat (first | refine dw_p rfl ?_ | refine dw_nil ?_ | refine ds_seq ?_ | refine ds_ops mix (fun base => ?_))
          refine ds_if rfl (fun ht4 => ?_) (fun ht4 => ?_)
          · simp at ht4
            have hy : 3 * r + j % 3 < m' := by omega
            have hx : 2 * i + j / 3 < n' := by omega
            obtain ⟨q, hq, hql⟩ := hcur.1.row (y := 3 * r + j % 3) hy
            have e3 := rowsF_at hq
            have l2 : ((2 * i + j / 3 : Nat) : Int) < ((q.map boF).length : Nat) := by simp; omega
            have hset := rowsF_setDot hq (2 * i + j / 3) true
            have hstep := hcur.step hrow hc (k := j) (by omega) (by omega) (by omega)
            have hskip := hcur.skip hrow hc (k := j) (by omega)
            have w1 : IntKind.i64.wrap (3 * (r : Int)) = ((3 * r : Nat) : Int) := by rw [dwrap (by omega) (by omega)]; omega
            have w2 : IntKind.i64.wrap (2 * (i : Int)) = ((2 * i : Nat) : Int) := by rw [dwrap (by omega) (by omega)]; omega
            have hj6 : j = 0 ∨ j = 1 ∨ j = 2 ∨ j = 3 ∨ j = 4 ∨ j = 5 := by omega
            rcases hj6 with rfl | rfl | rfl | rfl | rfl | rfl
            · have w3 : IntKind.i64.wrap (((3 * r : Nat) : Int) + 0) = ((3 * r + 0 % 3 : Nat) : Int) := by rw [dwrap (by omega) (by omega)]; omega
              have w4 : IntKind.i64.wrap (((2 * i : Nat) : Int) + 0) = ((2 * i + 0 / 3 : Nat) : Int) := by rw [dwrap (by omega) (by omega)]; omega
              repeat (first | refine dw_p rfl ?_ | refine dw_nil ?_ | refine ds_seq ?_ | refine ds_ops mix (fun base => ?_) | refine ds_skip ?_ | refine ds_block ?_)
              refine ds_if (t := bitC c 0) rfl (fun hb => ?_) (fun hb => ?_)
              · rw [hb] at hstep
                repeat (first | refine dw_p rfl ?_ | refine dw_l rfl ?_ | refine ds_ops mix (fun base => ?_))
                rw [w1, w3]
                repeat (first | refine dw_p rfl ?_ | refine dw_l rfl ?_ | refine dw_io1 rfl rfl (by omega) (by omega) ?_ | refine dw_l (dload_tree rfl rfl (by assumption)) ?_)
                rw [w2, w4]
                repeat (first | refine dw_it0 rfl rfl (by omega) (by omega) ?_)
                refine dw_stt (i := 3 * r + 0 % 3) (o := 2 * i + 0 / 3) (x := .c (.bool true)) rfl rfl rfl e3 (by simp; omega) rfl ?_
                rw [hset]
                repeat (first | refine dw_p rfl ?_ | refine dw_nil ?_ | refine ds_ops mix (fun base => ?_))
                refine ⟨k3 - 1, by omega, _, _, _, [], ?wk3, 0 + 1, by omega, _, hstep, rfl, rfl, rfl⟩
                case wk3 => exact ⟨by repeat (first | exact trivial | refine ⟨by first | rfl | exact congrArg (fun z => some (DV.int z)) (dwrap (by omega) (by omega)), rfl, ?_⟩), by repeat (first | exact trivial | refine ⟨by first | rfl | exact congrArg (fun z => some (Bk.data z)) (by assumption), rfl, rfl, ?_⟩), rfl⟩
              · repeat (first | refine dw_p rfl ?_ | refine dw_nil ?_ | refine ds_ops mix (fun base => ?_) | refine ds_skip ?_)
                refine ⟨k3 - 1, by omega, _, _, _, [], ?wk3, 0 + 1, by omega, _, hskip hb, rfl, rfl, rfl⟩
                case wk3 => exact ⟨by repeat (first | exact trivial | refine ⟨by first | rfl | exact congrArg (fun z => some (DV.int z)) (dwrap (by omega) (by omega)), rfl, ?_⟩), by repeat (first | exact trivial | refine ⟨by first | rfl | exact congrArg (fun z => some (Bk.data z)) (by assumption), rfl, rfl, ?_⟩), rfl⟩
            · have w3 : IntKind.i64.wrap (((3 * r : Nat) : Int) + 1) = ((3 * r + 1 % 3 : Nat) : Int) := by rw [dwrap (by omega) (by omega)]; omega
              have w4 : IntKind.i64.wrap (((2 * i : Nat) : Int) + 0) = ((2 * i + 1 / 3 : Nat) : Int) := by rw [dwrap (by omega) (by omega)]; omega
              repeat (first | refine dw_p rfl ?_ | refine dw_nil ?_ | refine ds_seq ?_ | refine ds_ops mix (fun base => ?_) | refine ds_skip ?_ | refine ds_block ?_)
              refine ds_if (t := bitC c 1) rfl (fun hb => ?_) (fun hb => ?_)
              · rw [hb] at hstep
                repeat (first | refine dw_p rfl ?_ | refine dw_l rfl ?_ | refine ds_ops mix (fun base => ?_))
                rw [w1, w3]
                repeat (first | refine dw_p rfl ?_ | refine dw_l rfl ?_ | refine dw_io1 rfl rfl (by omega) (by omega) ?_ | refine dw_l (dload_tree rfl rfl (by assumption)) ?_)
                rw [w2, w4]
                repeat (first | refine dw_it0 rfl rfl (by omega) (by omega) ?_)
                refine dw_stt (i := 3 * r + 1 % 3) (o := 2 * i + 1 / 3) (x := .c (.bool true)) rfl rfl rfl e3 (by simp; omega) rfl ?_
                rw [hset]
                repeat (first | refine dw_p rfl ?_ | refine dw_nil ?_ | refine ds_ops mix (fun base => ?_))
                refine ⟨k3 - 1, by omega, _, _, _, [], ?wk3, 1 + 1, by omega, _, hstep, rfl, rfl, rfl⟩
                case wk3 => exact ⟨by repeat (first | exact trivial | refine ⟨by first | rfl | exact congrArg (fun z => some (DV.int z)) (dwrap (by omega) (by omega)), rfl, ?_⟩), by repeat (first | exact trivial | refine ⟨by first | rfl | exact congrArg (fun z => some (Bk.data z)) (by assumption), rfl, rfl, ?_⟩), rfl⟩
              · repeat (first | refine dw_p rfl ?_ | refine dw_nil ?_ | refine ds_ops mix (fun base => ?_) | refine ds_skip ?_)
                refine ⟨k3 - 1, by omega, _, _, _, [], ?wk3, 1 + 1, by omega, _, hskip hb, rfl, rfl, rfl⟩
                case wk3 => exact ⟨by repeat (first | exact trivial | refine ⟨by first | rfl | exact congrArg (fun z => some (DV.int z)) (dwrap (by omega) (by omega)), rfl, ?_⟩), by repeat (first | exact trivial | refine ⟨by first | rfl | exact congrArg (fun z => some (Bk.data z)) (by assumption), rfl, rfl, ?_⟩), rfl⟩
            · have w3 : IntKind.i64.wrap (((3 * r : Nat) : Int) + 2) = ((3 * r + 2 % 3 : Nat) : Int) := by rw [dwrap (by omega) (by omega)]; omega
              have w4 : IntKind.i64.wrap (((2 * i : Nat) : Int) + 0) = ((2 * i + 2 / 3 : Nat) : Int) := by rw [dwrap (by omega) (by omega)]; omega
              repeat (first | refine dw_p rfl ?_ | refine dw_nil ?_ | refine ds_seq ?_ | refine ds_ops mix (fun base => ?_) | refine ds_skip ?_ | refine ds_block ?_)
              refine ds_if (t := bitC c 2) rfl (fun hb => ?_) (fun hb => ?_)
              · rw [hb] at hstep
                repeat (first | refine dw_p rfl ?_ | refine dw_l rfl ?_ | refine ds_ops mix (fun base => ?_))
                rw [w1, w3]
                repeat (first | refine dw_p rfl ?_ | refine dw_l rfl ?_ | refine dw_io1 rfl rfl (by omega) (by omega) ?_ | refine dw_l (dload_tree rfl rfl (by assumption)) ?_)
                rw [w2, w4]
                repeat (first | refine dw_it0 rfl rfl (by omega) (by omega) ?_)
                refine dw_stt (i := 3 * r + 2 % 3) (o := 2 * i + 2 / 3) (x := .c (.bool true)) rfl rfl rfl e3 (by simp; omega) rfl ?_
                rw [hset]
                repeat (first | refine dw_p rfl ?_ | refine dw_nil ?_ | refine ds_ops mix (fun base => ?_))
                refine ⟨k3 - 1, by omega, _, _, _, [], ?wk3, 2 + 1, by omega, _, hstep, rfl, rfl, rfl⟩
                case wk3 => exact ⟨by repeat (first | exact trivial | refine ⟨by first | rfl | exact congrArg (fun z => some (DV.int z)) (dwrap (by omega) (by omega)), rfl, ?_⟩), by repeat (first | exact trivial | refine ⟨by first | rfl | exact congrArg (fun z => some (Bk.data z)) (by assumption), rfl, rfl, ?_⟩), rfl⟩
              · repeat (first | refine dw_p rfl ?_ | refine dw_nil ?_ | refine ds_ops mix (fun base => ?_) | refine ds_skip ?_)
                refine ⟨k3 - 1, by omega, _, _, _, [], ?wk3, 2 + 1, by omega, _, hskip hb, rfl, rfl, rfl⟩
                case wk3 => exact ⟨by repeat (first | exact trivial | refine ⟨by first | rfl | exact congrArg (fun z => some (DV.int z)) (dwrap (by omega) (by omega)), rfl, ?_⟩), by repeat (first | exact trivial | refine ⟨by first | rfl | exact congrArg (fun z => some (Bk.data z)) (by assumption), rfl, rfl, ?_⟩), rfl⟩
            · have w3 : IntKind.i64.wrap (((3 * r : Nat) : Int) + 0) = ((3 * r + 3 % 3 : Nat) : Int) := by rw [dwrap (by omega) (by omega)]; omega
              have w4 : IntKind.i64.wrap (((2 * i : Nat) : Int) + 1) = ((2 * i + 3 / 3 : Nat) : Int) := by rw [dwrap (by omega) (by omega)]; omega
              repeat (first | refine dw_p rfl ?_ | refine dw_nil ?_ | refine ds_seq ?_ | refine ds_ops mix (fun base => ?_) | refine ds_skip ?_ | refine ds_block ?_)
              refine ds_if (t := bitC c 3) rfl (fun hb => ?_) (fun hb => ?_)
              · rw [hb] at hstep
                repeat (first | refine dw_p rfl ?_ | refine dw_l rfl ?_ | refine ds_ops mix (fun base => ?_))
                rw [w1, w3]
                repeat (first | refine dw_p rfl ?_ | refine dw_l rfl ?_ | refine dw_io1 rfl rfl (by omega) (by omega) ?_ | refine dw_l (dload_tree rfl rfl (by assumption)) ?_)
                rw [w2, w4]
                repeat (first | refine dw_it0 rfl rfl (by omega) (by omega) ?_)
                refine dw_stt (i := 3 * r + 3 % 3) (o := 2 * i + 3 / 3) (x := .c (.bool true)) rfl rfl rfl e3 (by simp; omega) rfl ?_
                rw [hset]
                repeat (first | refine dw_p rfl ?_ | refine dw_nil ?_ | refine ds_ops mix (fun base => ?_))
                refine ⟨k3 - 1, by omega, _, _, _, [], ?wk3, 3 + 1, by omega, _, hstep, rfl, rfl, rfl⟩
                case wk3 => exact ⟨by repeat (first | exact trivial | refine ⟨by first | rfl | exact congrArg (fun z => some (DV.int z)) (dwrap (by omega) (by omega)), rfl, ?_⟩), by repeat (first | exact trivial | refine ⟨by first | rfl | exact congrArg (fun z => some (Bk.data z)) (by assumption), rfl, rfl, ?_⟩), rfl⟩
              · repeat (first | refine dw_p rfl ?_ | refine dw_nil ?_ | refine ds_ops mix (fun base => ?_) | refine ds_skip ?_)
                refine ⟨k3 - 1, by omega, _, _, _, [], ?wk3, 3 + 1, by omega, _, hskip hb, rfl, rfl, rfl⟩
                case wk3 => exact ⟨by repeat (first | exact trivial | refine ⟨by first | rfl | exact congrArg (fun z => some (DV.int z)) (dwrap (by omega) (by omega)), rfl, ?_⟩), by repeat (first | exact trivial | refine ⟨by first | rfl | exact congrArg (fun z => some (Bk.data z)) (by assumption), rfl, rfl, ?_⟩), rfl⟩
            · have w3 : IntKind.i64.wrap (((3 * r : Nat) : Int) + 1) = ((3 * r + 4 % 3 : Nat) : Int) := by rw [dwrap (by omega) (by omega)]; omega
              have w4 : IntKind.i64.wrap (((2 * i : Nat) : Int) + 1) = ((2 * i + 4 / 3 : Nat) : Int) := by rw [dwrap (by omega) (by omega)]; omega
              repeat (first | refine dw_p rfl ?_ | refine dw_nil ?_ | refine ds_seq ?_ | refine ds_ops mix (fun base => ?_) | refine ds_skip ?_ | refine ds_block ?_)
              refine ds_if (t := bitC c 4) rfl (fun hb => ?_) (fun hb => ?_)
              · rw [hb] at hstep
                repeat (first | refine dw_p rfl ?_ | refine dw_l rfl ?_ | refine ds_ops mix (fun base => ?_))
                rw [w1, w3]
                repeat (first | refine dw_p rfl ?_ | refine dw_l rfl ?_ | refine dw_io1 rfl rfl (by omega) (by omega) ?_ | refine dw_l (dload_tree rfl rfl (by assumption)) ?_)
                rw [w2, w4]
                repeat (first | refine dw_it0 rfl rfl (by omega) (by omega) ?_)
                refine dw_stt (i := 3 * r + 4 % 3) (o := 2 * i + 4 / 3) (x := .c (.bool true)) rfl rfl rfl e3 (by simp; omega) rfl ?_
                rw [hset]
                repeat (first | refine dw_p rfl ?_ | refine dw_nil ?_ | refine ds_ops mix (fun base => ?_))
                refine ⟨k3 - 1, by omega, _, _, _, [], ?wk3, 4 + 1, by omega, _, hstep, rfl, rfl, rfl⟩
                case wk3 => exact ⟨by repeat (first | exact trivial | refine ⟨by first | rfl | exact congrArg (fun z => some (DV.int z)) (dwrap (by omega) (by omega)), rfl, ?_⟩), by repeat (first | exact trivial | refine ⟨by first | rfl | exact congrArg (fun z => some (Bk.data z)) (by assumption), rfl, rfl, ?_⟩), rfl⟩
              · repeat (first | refine dw_p rfl ?_ | refine dw_nil ?_ | refine ds_ops mix (fun base => ?_) | refine ds_skip ?_)
                refine ⟨k3 - 1, by omega, _, _, _, [], ?wk3, 4 + 1, by omega, _, hskip hb, rfl, rfl, rfl⟩
                case wk3 => exact ⟨by repeat (first | exact trivial | refine ⟨by first | rfl | exact congrArg (fun z => some (DV.int z)) (dwrap (by omega) (by omega)), rfl, ?_⟩), by repeat (first | exact trivial | refine ⟨by first | rfl | exact congrArg (fun z => some (Bk.data z)) (by assumption), rfl, rfl, ?_⟩), rfl⟩
            · have w3 : IntKind.i64.wrap (((3 * r : Nat) : Int) + 2) = ((3 * r + 5 % 3 : Nat) : Int) := by rw [dwrap (by omega) (by omega)]; omega
              have w4 : IntKind.i64.wrap (((2 * i : Nat) : Int) + 1) = ((2 * i + 5 / 3 : Nat) : Int) := by rw [dwrap (by omega) (by omega)]; omega
              repeat (first | refine dw_p rfl ?_ | refine dw_nil ?_ | refine ds_seq ?_ | refine ds_ops mix (fun base => ?_) | refine ds_skip ?_ | refine ds_block ?_)
              refine ds_if (t := bitC c 5) rfl (fun hb => ?_) (fun hb => ?_)
              · rw [hb] at hstep
                repeat (first | refine dw_p rfl ?_ | refine dw_l rfl ?_ | refine ds_ops mix (fun base => ?_))
                rw [w1, w3]
                repeat (first | refine dw_p rfl ?_ | refine dw_l rfl ?_ | refine dw_io1 rfl rfl (by omega) (by omega) ?_ | refine dw_l (dload_tree rfl rfl (by assumption)) ?_)
                rw [w2, w4]
                repeat (first | refine dw_it0 rfl rfl (by omega) (by omega) ?_)
                refine dw_stt (i := 3 * r + 5 % 3) (o := 2 * i + 5 / 3) (x := .c (.bool true)) rfl rfl rfl e3 (by simp; omega) rfl ?_
                rw [hset]
                repeat (first | refine dw_p rfl ?_ | refine dw_nil ?_ | refine ds_ops mix (fun base => ?_))
                refine ⟨k3 - 1, by omega, _, _, _, [], ?wk3, 5 + 1, by omega, _, hstep, rfl, rfl, rfl⟩
                case wk3 => exact ⟨by repeat (first | exact trivial | refine ⟨by first | rfl | exact congrArg (fun z => some (DV.int z)) (dwrap (by omega) (by omega)), rfl, ?_⟩), by repeat (first | exact trivial | refine ⟨by first | rfl | exact congrArg (fun z => some (Bk.data z)) (by assumption), rfl, rfl, ?_⟩), rfl⟩
              · repeat (first | refine dw_p rfl ?_ | refine dw_nil ?_ | refine ds_ops mix (fun base => ?_) | refine ds_skip ?_)
                refine ⟨k3 - 1, by omega, _, _, _, [], ?wk3, 5 + 1, by omega, _, hskip hb, rfl, rfl, rfl⟩
                case wk3 => exact ⟨by repeat (first | exact trivial | refine ⟨by first | rfl | exact congrArg (fun z => some (DV.int z)) (dwrap (by omega) (by omega)), rfl, ?_⟩), by repeat (first | exact trivial | refine ⟨by first | rfl | exact congrArg (fun z => some (Bk.data z)) (by assumption), rfl, rfl, ?_⟩), rfl⟩
          · simp at ht4
            obtain rfl : j = 6 := by omega
            repeat (first | refine dw_p rfl ?_ | refine dw_nil ?_ | refine ds_ops mix (fun base => ?_) | refine ds_exit ?_)
            refine ⟨k2 - 1, by omega, _, _, _, [], ?wk4, i + 1, by omega, cur, hcur.cell, rfl, rfl, rfl⟩
            case wk4 => exact ⟨by repeat (first | exact trivial | refine ⟨by first | rfl | exact congrArg (fun z => some (DV.int z)) (dwrap (by omega) (by omega)), rfl, ?_⟩), by repeat (first | exact trivial | refine ⟨by first | rfl | exact congrArg (fun z => some (Bk.data z)) (by assumption), rfl, rfl, ?_⟩), rfl⟩
        · simp at ht3
          obtain rfl : i = row.length := by omega
          repeat (first | refine dw_p rfl ?_ | refine dw_nil ?_ | refine ds_ops mix (fun base => ?_) | refine ds_exit ?_)
          refine ⟨k - 1, by omega, _, _, _, [], ?wk5, r + 1, by omega, cur, hcur.row hrow, rfl, rfl, rfl⟩
          case wk5 => exact ⟨by repeat (first | exact trivial | refine ⟨by first | rfl | exact congrArg (fun z => some (DV.int z)) (dwrap (by omega) (by omega)), rfl, ?_⟩), by repeat (first | exact trivial | refine ⟨by first | rfl | exact congrArg (fun z => some (Bk.data z)) (by assumption), rfl, rfl, ?_⟩), rfl⟩
      · simp at ht
        obtain rfl : r = l.length := by omega
        obtain rfl := hcur.fin
        have hsz := fromC_sz n' m' l
        have hlen : m' = (rowsF (fromC n' m' l)).length := by rw [rowsF_len, hsz.1]
        refine ds_keep (SubA.cons (k := 6) rfl (SubA.cons (k := 12) rfl (SubA.nil _))) (SubA.refl _) ?_
        refine ds_frzT 3 rfl (by repeat' (first | exact trivial | rfl | assumption | refine ⟨?_, ?_⟩)) (by repeat' (first | exact trivial | rfl | assumption | refine ⟨?_, ?_⟩)) ?_
        repeat (first | refine dw_p rfl ?_ | refine dw_l rfl ?_ | refine dw_st rfl rfl rfl rfl rfl (Nat.le_of_ble_eq_true rfl) rfl ?_ | refine dw_nil ?_ | refine ds_seq ?_ | refine ds_ops mix (fun base => ?_) | refine ds_exit ?_)
        refine ds_ret ⟨_, rfl, rfl, .inl ⟨hfit, hok, ?_⟩⟩
        simp only [okGrid, gridD, hsz.1, Int.toNat_natCast]
        rfl
end Go.Ab.Fn

/- Deep contracts: the reference's grids from cells. -/
namespace Go.Ab.Fn
open Go.Ab Go.Proofs
set_option linter.unusedSimpArgs false

theorem hdr2 {l : Cells} {w h : Int} : (((((((w.tmod 2 != 0) = true ∨ (h.tmod 3 != 0) = true) ∨ w < 0) ∨ h < 0) ∨ w > 200) ∨ h > 200) ∨ (l.length : Int) > IntKind.i64.wrap (h.tdiv 3)) ↔ ¬ fitH l w h := by
  unfold fitH
  by_cases hw : 0 ≤ w
  · by_cases hh : 0 ≤ h
    · rw [tm hw, tm hh, td hh, bne_iff_ne, bne_iff_ne]
      by_cases h2 : h ≤ 200
      · rw [dwrap (by omega) (by omega)]; omega
      · constructor
        · intro _; omega
        · intro _; exact .inl (.inr (by omega))
    · constructor
      · intro _; omega
      · intro _; exact .inl (.inl (.inl (.inr (by omega))))
  · constructor
    · intro _; omega
    · intro _; exact .inl (.inl (.inl (.inl (.inr (by omega)))))

set_option maxHeartbeats 8000000 in
theorem d_rfrom {l : Cells} {w h : Int} (hrl : ∀ r ∈ l, r.length < 1000000) : DK 27 [cellsV l, .int w, .int h] fun d => (fitH l w h ∧ fitR l w ∧ d = okGrid w.toNat h.toNat l) ∨ (¬ (fitH l w h ∧ fitR l w) ∧ d = noGrid) := by
  refine dfn_ok cp27 rfl GHro fun Z0 lo => ?_
  repeat (first | refine dw_pick rfl (by first | exact fun _ => rfl | exact fun h => (by simp only [if_pos h]; rfl) | exact fun h => (by simp only [h, if_true, if_false]; rfl)) (by first | exact fun _ => rfl | exact fun h => (by simp only [if_pos h]; rfl) | exact fun h => (by simp only [h, if_true, if_false]; rfl)) ?_ | refine dw_p rfl ?_ | refine dw_pg rfl (by first | exact fun _ => rfl | exact fun h => (by simp only [if_pos h]; rfl) | exact fun h => (by simp only [h, if_true, if_false]; rfl)) ?_ | refine dw_a rfl ?_ | refine dw_nil ?_ | refine ds_seq ?_ | refine ds_ops mix (fun base => ?_))
  refine ds_if rfl (fun ht => ?_) (fun ht => ?_)
  · simp only [Bool.if_true_left, Bool.or_eq_true, Bool.or_eq_false_iff, decide_eq_true_eq, decide_eq_false_iff_not] at ht
    repeat (first | refine dw_p rfl ?_ | refine dw_st rfl rfl rfl rfl rfl (Nat.le_of_ble_eq_true rfl) rfl ?_ | refine dw_nil ?_ | refine ds_seq ?_ | refine ds_ops mix (fun base => ?_))
    exact ds_ret ⟨_, rfl, rfl, .inr ⟨fun hf => hdr2.1 ht hf.1, rfl⟩⟩
  · have ht' : ¬ _ := fun h => Bool.false_ne_true (ht.symm.trans h)
    simp only [Bool.if_true_left, Bool.or_eq_true, decide_eq_true_eq] at ht'
    have hfit : fitH l w h := Classical.not_not.1 fun hn => ht' (hdr2.2 hn)
    clear ht ht'
    have hf := hfit
    unfold fitH at hf
    obtain ⟨n, rfl⟩ : ∃ n : Nat, w = n := ⟨w.toNat, by omega⟩
    obtain ⟨m, rfl⟩ : ∃ m : Nat, h = m := ⟨h.toNat, by omega⟩
    have hw2 : IntKind.i64.wrap ((n : Int).tdiv 2) = ((n / 2 : Nat) : Int) := by rw [td (by omega), dwrap (by omega) (by omega)]; omega
    repeat (first | refine dw_p rfl ?_ | refine ds_seq ?_ | refine ds_ops mix (fun base => ?_) | refine ds_skip ?_)
    refine dw_cfr rfl rfl (o_rnew n m) ?_
    rintro _ _ _ ⟨n', m', hn', hm', _, _, rfl, rfl, rfl⟩
    obtain rfl := side_of hn' (by omega)
    obtain rfl := side_of hm' (by omega)
    repeat (first | refine dw_p rfl ?_ | refine dw_a rfl ?_ | refine dw_st rfl rfl rfl rfl rfl (Nat.le_of_ble_eq_true rfl) rfl ?_ | refine dw_nil ?_ | refine ds_seq ?_ | refine ds_ops mix (fun base => ?_) | refine ds_block ?_)
    refine ds_keep (SubA.cons (k := 0) rfl (SubA.cons (k := 1) rfl (SubA.cons (k := 6) rfl (SubA.cons (k := 8) rfl (SubA.cons (k := 9) rfl (SubA.nil _)))))) (SubA.refl _) ?_
    refine ds_loop (fun k E S nk => ∃ r : Nat, r + k = l.length ∧ fitR (l.take r) n' ∧ ∃ cur, Fc n' m' l r 0 0 cur ∧ E = [(0, cellsV l), (1, .int n'), (6, .one (.ptr 0 0)), (8, .one (.ptr 4 0)), (9, .int r)] ∧ S = [(0, .cells [.f (.c (.int .i64 0)), .f (.c (.int .i64 0)), .f (.c .nils)]), (3, .tree (rowsF cur)), (4, .cells [.f (.c (.int .i64 n')), .f (.c (.int .i64 m')), .own 3 0 m' 1])] ∧ nk = 5) ⟨l.length, _, _, _, [], ?wk, 0, by omega, fun r hr => by simp at hr, blankD n' m', Fc.start n' m' l, rfl, rfl, rfl⟩ ?_
    case wk => exact ⟨by repeat (first | exact trivial | refine ⟨by first | rfl | exact congrArg (fun z => some (DV.int z)) (dwrap (by omega) (by omega)), rfl, ?_⟩), by repeat (first | exact trivial | refine ⟨by first | rfl | exact congrArg (fun z => some (Bk.data z)) (by assumption), rfl, rfl, ?_⟩), rfl⟩
    rintro k E S nk ⟨r, hr, hok, cur, hcur, rfl, rfl, rfl⟩
    repeat (first | refine dw_p rfl ?_ | refine dw_nil ?_ | refine ds_seq ?_ | refine ds_ops mix (fun base => ?_))
    refine ds_if rfl (fun ht => ?_) (fun ht => ?_)
    · simp at ht
      obtain ⟨row, hrow⟩ : ∃ q, l[r]? = some q := ⟨_, List.getElem?_eq_getElem (by omega)⟩
      have hrl' := hrl row (List.mem_of_getElem? hrow)
      have e1 := rowF_at (cellsF_at hrow)
      repeat (first | refine dw_p rfl ?_ | refine dw_l rfl ?_ | refine dw_if rfl rfl (by omega) (by decide) (by assumption) ?_ | refine dw_nil ?_ | refine ds_seq ?_ | refine ds_ops mix (fun base => ?_) | refine ds_skip ?_ | refine ds_block ?_)
      rw [hw2]
      refine ds_if rfl (fun ht2 => ?_) (fun ht2 => ?_)
      · simp at ht2
        repeat (first | refine dw_p rfl ?_ | refine dw_st rfl rfl rfl rfl rfl (Nat.le_of_ble_eq_true rfl) rfl ?_ | refine dw_nil ?_ | refine ds_seq ?_ | refine ds_ops mix (fun base => ?_))
        refine ds_ret ⟨_, rfl, rfl, .inr ⟨fun hf => ?_, rfl⟩⟩
        have := (hf.2 row (List.mem_of_getElem? hrow)).1
        omega
      · simp at ht2
        repeat (first | refine dw_p rfl ?_ | refine dw_nil ?_ | refine ds_seq ?_ | refine ds_ops mix (fun base => ?_) | refine ds_skip ?_ | refine ds_block ?_)
        refine ds_keep (SubA.cons (k := 0) rfl (SubA.cons (k := 1) rfl (SubA.cons (k := 6) rfl (SubA.cons (k := 8) rfl (SubA.cons (k := 9) rfl (SubA.cons (k := 10) rfl (SubA.nil _))))))) (SubA.refl _) ?_
        refine ds_loop (fun k2 E S nk => ∃ i : Nat, i + k2 = row.length ∧ (∀ c ∈ row.take i, c < 64) ∧ ∃ cur, Fc n' m' l r i 0 cur ∧ E = [(0, cellsV l), (1, .int n'), (6, .one (.ptr 0 0)), (8, .one (.ptr 4 0)), (9, .int r), (10, .int i)] ∧ S = [(0, .cells [.f (.c (.int .i64 0)), .f (.c (.int .i64 0)), .f (.c .nils)]), (3, .tree (rowsF cur)), (4, .cells [.f (.c (.int .i64 n')), .f (.c (.int .i64 m')), .own 3 0 m' 1])] ∧ nk = 5) ⟨row.length, _, _, _, [], ?wk1, 0, by omega, by simp, cur, hcur, rfl, rfl, rfl⟩ ?_
        case wk1 => exact ⟨by repeat (first | exact trivial | refine ⟨by first | rfl | exact congrArg (fun z => some (DV.int z)) (dwrap (by omega) (by omega)), rfl, ?_⟩), by repeat (first | exact trivial | refine ⟨by first | rfl | exact congrArg (fun z => some (Bk.data z)) (by assumption), rfl, rfl, ?_⟩), rfl⟩
        rintro k2 E S nk ⟨i, hi, hok2, cur, hcur, rfl, rfl, rfl⟩
        repeat (first | refine dw_p rfl ?_ | refine dw_l rfl ?_ | refine dw_if rfl rfl (by omega) (by decide) (by assumption) ?_ | refine dw_nil ?_ | refine ds_seq ?_ | refine ds_ops mix (fun base => ?_))
        refine ds_if rfl (fun ht3 => ?_) (fun ht3 => ?_)
        · simp at ht3
          obtain ⟨c, hc⟩ : ∃ c, row[i]? = some c := ⟨_, List.getElem?_eq_getElem (by omega)⟩
          have e2 := one_at (cF_at hc)
          have l1 : i < (row.map cF).length := by simp; omega
          repeat (first | refine dw_p rfl ?_ | refine dw_l rfl ?_ | refine dw_if rfl rfl (by omega) (by decide) (by assumption) ?_ | refine dw_nil ?_ | refine ds_seq ?_ | refine ds_ops mix (fun base => ?_) | refine ds_skip ?_ | refine ds_block ?_)
          refine ds_if (t := decide (c > 63)) rfl (fun ht4 => ?_) (fun ht4 => ?_)
          · simp at ht4
            repeat (first | refine dw_p rfl ?_ | refine dw_st rfl rfl rfl rfl rfl (Nat.le_of_ble_eq_true rfl) rfl ?_ | refine dw_nil ?_ | refine ds_seq ?_ | refine ds_ops mix (fun base => ?_))
            refine ds_ret ⟨_, rfl, rfl, .inr ⟨fun hf => ?_, rfl⟩⟩
            have := (hf.2 row (List.mem_of_getElem? hrow)).2 c (List.mem_of_getElem? hc)
            omega
          · simp at ht4
            repeat (first | refine dw_p rfl ?_ | refine dw_nil ?_ | refine ds_seq ?_ | refine ds_ops mix (fun base => ?_) | refine ds_skip ?_ | refine ds_block ?_)
            refine ds_keep (SubA.cons (k := 0) rfl (SubA.cons (k := 1) rfl (SubA.cons (k := 6) rfl (SubA.cons (k := 8) rfl (SubA.cons (k := 9) rfl (SubA.cons (k := 10) rfl (SubA.cons (k := 11) rfl (SubA.nil _)))))))) (SubA.refl _) ?_
            refine ds_loop (fun k3 E S nk => ∃ j : Nat, j + k3 = 6 ∧ ∃ cur, Fc n' m' l r i j cur ∧ E = [(0, cellsV l), (1, .int n'), (6, .one (.ptr 0 0)), (8, .one (.ptr 4 0)), (9, .int r), (10, .int i), (11, .int j)] ∧ S = [(0, .cells [.f (.c (.int .i64 0)), .f (.c (.int .i64 0)), .f (.c .nils)]), (3, .tree (rowsF cur)), (4, .cells [.f (.c (.int .i64 n')), .f (.c (.int .i64 m')), .own 3 0 m' 1])] ∧ nk = 5) ⟨6, _, _, _, [], ?wk2, 0, by omega, cur, hcur, rfl, rfl, rfl⟩ ?_
            case wk2 => exact ⟨by repeat (first | exact trivial | refine ⟨by first | rfl | exact congrArg (fun z => some (DV.int z)) (dwrap (by omega) (by omega)), rfl, ?_⟩), by repeat (first | exact trivial | refine ⟨by first | rfl | exact congrArg (fun z => some (Bk.data z)) (by assumption), rfl, rfl, ?_⟩), rfl⟩
            rintro k3 E S nk ⟨j, hj, cur, hcur, rfl, rfl, rfl⟩
            repeat (first | refine dw_p rfl ?_ | refine dw_nil ?_ | refine ds_seq ?_ | refine ds_ops mix (fun base => ?_))
            refine ds_if rfl (fun ht5 => ?_) (fun ht5 => ?_)
            · simp at ht5
              have hy : 3 * r + j % 3 < m' := by omega
              have hx : 2 * i + j / 3 < n' := by omega
              obtain ⟨q, hq, hql⟩ := hcur.1.row (y := 3 * r + j % 3) hy
              have e3 := rowsF_at hq
              have l2 : ((2 * i + j / 3 : Nat) : Int) < ((q.map boF).length : Nat) := by simp; omega
              have hset := rowsF_setDot hq (2 * i + j / 3) (bitC c j)
              have hstep := hcur.step hrow hc (k := j) (by omega) (by omega) (by omega)
              have w1 : IntKind.i64.wrap (3 * (r : Int)) = ((3 * r : Nat) : Int) := by rw [dwrap (by omega) (by omega)]; omega
              have w2 : IntKind.i64.wrap (2 * (i : Int)) = ((2 * i : Nat) : Int) := by rw [dwrap (by omega) (by omega)]; omega
              have hj6 : j = 0 ∨ j = 1 ∨ j = 2 ∨ j = 3 ∨ j = 4 ∨ j = 5 := by omega
              rcases hj6 with rfl | rfl | rfl | rfl | rfl | rfl
              · have w3 : IntKind.i64.wrap (((3 * r : Nat) : Int) + 0) = ((3 * r + 0 % 3 : Nat) : Int) := by rw [dwrap (by omega) (by omega)]; omega
                have w4 : IntKind.i64.wrap (((2 * i : Nat) : Int) + 0) = ((2 * i + 0 / 3 : Nat) : Int) := by rw [dwrap (by omega) (by omega)]; omega
                have w5 : Int.tmod ((0 : Nat) : Int) 3 = 0 := rfl
                have w6 : IntKind.i64.wrap (Int.tdiv ((0 : Nat) : Int) 3) = 0 := rfl
                repeat (first | refine dw_p rfl ?_ | refine dw_l rfl ?_ | refine ds_seq ?_ | refine ds_ops mix (fun base => ?_) | refine ds_skip ?_ | refine ds_block ?_)
                rw [w1, w5, w3]
                repeat (first | refine dw_p rfl ?_ | refine dw_l rfl ?_ | refine dw_io1 rfl rfl (by omega) (by omega) ?_ | refine dw_if rfl rfl (by omega) (by decide) (by assumption) ?_ | refine dw_l (dload_tree rfl rfl (by assumption)) ?_)
                rw [w2, w6, w4]
                repeat (first | refine dw_it0 rfl rfl (by omega) (by omega) ?_)
                refine dw_stt (i := 3 * r + 0 % 3) (o := 2 * i + 0 / 3) (x := .c (.bool (bitC c 0))) rfl rfl rfl e3 (by simp; omega) rfl ?_
                rw [hset]
                repeat (first | refine dw_p rfl ?_ | refine dw_nil ?_ | refine ds_ops mix (fun base => ?_))
                refine ⟨k3 - 1, by omega, _, _, _, [], ?wk3, 0 + 1, by omega, _, hstep, rfl, rfl, rfl⟩
                case wk3 => exact ⟨by repeat (first | exact trivial | refine ⟨by first | rfl | exact congrArg (fun z => some (DV.int z)) (dwrap (by omega) (by omega)), rfl, ?_⟩), by repeat (first | exact trivial | refine ⟨by first | rfl | exact congrArg (fun z => some (Bk.data z)) (by assumption), rfl, rfl, ?_⟩), rfl⟩
              · have w3 : IntKind.i64.wrap (((3 * r : Nat) : Int) + 1) = ((3 * r + 1 % 3 : Nat) : Int) := by rw [dwrap (by omega) (by omega)]; omega
                have w4 : IntKind.i64.wrap (((2 * i : Nat) : Int) + 0) = ((2 * i + 1 / 3 : Nat) : Int) := by rw [dwrap (by omega) (by omega)]; omega
                have w5 : Int.tmod ((1 : Nat) : Int) 3 = 1 := rfl
                have w6 : IntKind.i64.wrap (Int.tdiv ((1 : Nat) : Int) 3) = 0 := rfl
                repeat (first | refine dw_p rfl ?_ | refine dw_l rfl ?_ | refine ds_seq ?_ | refine ds_ops mix (fun base => ?_) | refine ds_skip ?_ | refine ds_block ?_)
                rw [w1, w5, w3]
                repeat (first | refine dw_p rfl ?_ | refine dw_l rfl ?_ | refine dw_io1 rfl rfl (by omega) (by omega) ?_ | refine dw_if rfl rfl (by omega) (by decide) (by assumption) ?_ | refine dw_l (dload_tree rfl rfl (by assumption)) ?_)
                rw [w2, w6, w4]
                repeat (first | refine dw_it0 rfl rfl (by omega) (by omega) ?_)
                refine dw_stt (i := 3 * r + 1 % 3) (o := 2 * i + 1 / 3) (x := .c (.bool (bitC c 1))) rfl rfl rfl e3 (by simp; omega) rfl ?_
                rw [hset]
                repeat (first | refine dw_p rfl ?_ | refine dw_nil ?_ | refine ds_ops mix (fun base => ?_))
                refine ⟨k3 - 1, by omega, _, _, _, [], ?wk3, 1 + 1, by omega, _, hstep, rfl, rfl, rfl⟩
                case wk3 => exact ⟨by repeat (first | exact trivial | refine ⟨by first | rfl | exact congrArg (fun z => some (DV.int z)) (dwrap (by omega) (by omega)), rfl, ?_⟩), by repeat (first | exact trivial | refine ⟨by first | rfl | exact congrArg (fun z => some (Bk.data z)) (by assumption), rfl, rfl, ?_⟩), rfl⟩
              · have w3 : IntKind.i64.wrap (((3 * r : Nat) : Int) + 2) = ((3 * r + 2 % 3 : Nat) : Int) := by rw [dwrap (by omega) (by omega)]; omega
                have w4 : IntKind.i64.wrap (((2 * i : Nat) : Int) + 0) = ((2 * i + 2 / 3 : Nat) : Int) := by rw [dwrap (by omega) (by omega)]; omega
                have w5 : Int.tmod ((2 : Nat) : Int) 3 = 2 := rfl
                have w6 : IntKind.i64.wrap (Int.tdiv ((2 : Nat) : Int) 3) = 0 := rfl
                repeat (first | refine dw_p rfl ?_ | refine dw_l rfl ?_ | refine ds_seq ?_ | refine ds_ops mix (fun base => ?_) | refine ds_skip ?_ | refine ds_block ?_)
                rw [w1, w5, w3]
                repeat (first | refine dw_p rfl ?_ | refine dw_l rfl ?_ | refine dw_io1 rfl rfl (by omega) (by omega) ?_ | refine dw_if rfl rfl (by omega) (by decide) (by assumption) ?_ | refine dw_l (dload_tree rfl rfl (by assumption)) ?_)
                rw [w2, w6, w4]
                repeat (first | refine dw_it0 rfl rfl (by omega) (by omega) ?_)
                refine dw_stt (i := 3 * r + 2 % 3) (o := 2 * i + 2 / 3) (x := .c (.bool (bitC c 2))) rfl rfl rfl e3 (by simp; omega) rfl ?_
                rw [hset]
                repeat (first | refine dw_p rfl ?_ | refine dw_nil ?_ | refine ds_ops mix (fun base => ?_))
                refine ⟨k3 - 1, by omega, _, _, _, [], ?wk3, 2 + 1, by omega, _, hstep, rfl, rfl, rfl⟩
                case wk3 => exact ⟨by repeat (first | exact trivial | refine ⟨by first | rfl | exact congrArg (fun z => some (DV.int z)) (dwrap (by omega) (by omega)), rfl, ?_⟩), by repeat (first | exact trivial | refine ⟨by first | rfl | exact congrArg (fun z => some (Bk.data z)) (by assumption), rfl, rfl, ?_⟩), rfl⟩
              · have w3 : IntKind.i64.wrap (((3 * r : Nat) : Int) + 0) = ((3 * r + 3 % 3 : Nat) : Int) := by rw [dwrap (by omega) (by omega)]; omega
                have w4 : IntKind.i64.wrap (((2 * i : Nat) : Int) + 1) = ((2 * i + 3 / 3 : Nat) : Int) := by rw [dwrap (by omega) (by omega)]; omega
                have w5 : Int.tmod ((3 : Nat) : Int) 3 = 0 := rfl
                have w6 : IntKind.i64.wrap (Int.tdiv ((3 : Nat) : Int) 3) = 1 := rfl
                repeat (first | refine dw_p rfl ?_ | refine dw_l rfl ?_ | refine ds_seq ?_ | refine ds_ops mix (fun base => ?_) | refine ds_skip ?_ | refine ds_block ?_)
                rw [w1, w5, w3]
                repeat (first | refine dw_p rfl ?_ | refine dw_l rfl ?_ | refine dw_io1 rfl rfl (by omega) (by omega) ?_ | refine dw_if rfl rfl (by omega) (by decide) (by assumption) ?_ | refine dw_l (dload_tree rfl rfl (by assumption)) ?_)
                rw [w2, w6, w4]
                repeat (first | refine dw_it0 rfl rfl (by omega) (by omega) ?_)
                refine dw_stt (i := 3 * r + 3 % 3) (o := 2 * i + 3 / 3) (x := .c (.bool (bitC c 3))) rfl rfl rfl e3 (by simp; omega) rfl ?_
                rw [hset]
                repeat (first | refine dw_p rfl ?_ | refine dw_nil ?_ | refine ds_ops mix (fun base => ?_))
                refine ⟨k3 - 1, by omega, _, _, _, [], ?wk3, 3 + 1, by omega, _, hstep, rfl, rfl, rfl⟩
                case wk3 => exact ⟨by repeat (first | exact trivial | refine ⟨by first | rfl | exact congrArg (fun z => some (DV.int z)) (dwrap (by omega) (by omega)), rfl, ?_⟩), by repeat (first | exact trivial | refine ⟨by first | rfl | exact congrArg (fun z => some (Bk.data z)) (by assumption), rfl, rfl, ?_⟩), rfl⟩
              · have w3 : IntKind.i64.wrap (((3 * r : Nat) : Int) + 1) = ((3 * r + 4 % 3 : Nat) : Int) := by rw [dwrap (by omega) (by omega)]; omega
                have w4 : IntKind.i64.wrap (((2 * i : Nat) : Int) + 1) = ((2 * i + 4 / 3 : Nat) : Int) := by rw [dwrap (by omega) (by omega)]; omega
                have w5 : Int.tmod ((4 : Nat) : Int) 3 = 1 := rfl
                have w6 : IntKind.i64.wrap (Int.tdiv ((4 : Nat) : Int) 3) = 1 := rfl
                repeat (first | refine dw_p rfl ?_ | refine dw_l rfl ?_ | refine ds_seq ?_ | refine ds_ops mix (fun base => ?_) | refine ds_skip ?_ | refine ds_block ?_)
                rw [w1, w5, w3]
                repeat (first | refine dw_p rfl ?_ | refine dw_l rfl ?_ | refine dw_io1 rfl rfl (by omega) (by omega) ?_ | refine dw_if rfl rfl (by omega) (by decide) (by assumption) ?_ | refine dw_l (dload_tree rfl rfl (by assumption)) ?_)
                rw [w2, w6, w4]
                repeat (first | refine dw_it0 rfl rfl (by omega) (by omega) ?_)
                refine dw_stt (i := 3 * r + 4 % 3) (o := 2 * i + 4 / 3) (x := .c (.bool (bitC c 4))) rfl rfl rfl e3 (by simp; omega) rfl ?_
                rw [hset]
                repeat (first | refine dw_p rfl ?_ | refine dw_nil ?_ | refine ds_ops mix (fun base => ?_))
                refine ⟨k3 - 1, by omega, _, _, _, [], ?wk3, 4 + 1, by omega, _, hstep, rfl, rfl, rfl⟩
                case wk3 => exact ⟨by repeat (first | exact trivial | refine ⟨by first | rfl | exact congrArg (fun z => some (DV.int z)) (dwrap (by omega) (by omega)), rfl, ?_⟩), by repeat (first | exact trivial | refine ⟨by first | rfl | exact congrArg (fun z => some (Bk.data z)) (by assumption), rfl, rfl, ?_⟩), rfl⟩
              · have w3 : IntKind.i64.wrap (((3 * r : Nat) : Int) + 2) = ((3 * r + 5 % 3 : Nat) : Int) := by rw [dwrap (by omega) (by omega)]; omega
                have w4 : IntKind.i64.wrap (((2 * i : Nat) : Int) + 1) = ((2 * i + 5 / 3 : Nat) : Int) := by rw [dwrap (by omega) (by omega)]; omega
                have w5 : Int.tmod ((5 : Nat) : Int) 3 = 2 := rfl
                have w6 : IntKind.i64.wrap (Int.tdiv ((5 : Nat) : Int) 3) = 1 := rfl
                repeat (first | refine dw_p rfl ?_ | refine dw_l rfl ?_ | refine ds_seq ?_ | refine ds_ops mix (fun base => ?_) | refine ds_skip ?_ | refine ds_block ?_)
                rw [w1, w5, w3]
                repeat (first | refine dw_p rfl ?_ | refine dw_l rfl ?_ | refine dw_io1 rfl rfl (by omega) (by omega) ?_ | refine dw_if rfl rfl (by omega) (by decide) (by assumption) ?_ | refine dw_l (dload_tree rfl rfl (by assumption)) ?_)
                rw [w2, w6, w4]
                repeat (first | refine dw_it0 rfl rfl (by omega) (by omega) ?_)
                refine dw_stt (i := 3 * r + 5 % 3) (o := 2 * i + 5 / 3) (x := .c (.bool (bitC c 5))) rfl rfl rfl e3 (by simp; omega) rfl ?_
                rw [hset]
                repeat (first | refine dw_p rfl ?_ | refine dw_nil ?_ | refine ds_ops mix (fun base => ?_))
                refine ⟨k3 - 1, by omega, _, _, _, [], ?wk3, 5 + 1, by omega, _, hstep, rfl, rfl, rfl⟩
                case wk3 => exact ⟨by repeat (first | exact trivial | refine ⟨by first | rfl | exact congrArg (fun z => some (DV.int z)) (dwrap (by omega) (by omega)), rfl, ?_⟩), by repeat (first | exact trivial | refine ⟨by first | rfl | exact congrArg (fun z => some (Bk.data z)) (by assumption), rfl, rfl, ?_⟩), rfl⟩
            · simp at ht5
              obtain rfl : j = 6 := by omega
              repeat (first | refine dw_p rfl ?_ | refine dw_nil ?_ | refine ds_ops mix (fun base => ?_) | refine ds_exit ?_)
              refine ⟨k2 - 1, by omega, _, _, _, [], ?wk4, i + 1, by omega, ?_, cur, hcur.cell, rfl, rfl, rfl⟩
              case wk4 => exact ⟨by repeat (first | exact trivial | refine ⟨by first | rfl | exact congrArg (fun z => some (DV.int z)) (dwrap (by omega) (by omega)), rfl, ?_⟩), by repeat (first | exact trivial | refine ⟨by first | rfl | exact congrArg (fun z => some (Bk.data z)) (by assumption), rfl, rfl, ?_⟩), rfl⟩
              intro c' hc'
              rw [List.take_add_one, hc] at hc'
              simp at hc'
              rcases hc' with hc' | rfl
              · exact hok2 c' hc'
              · omega
        · simp at ht3
          obtain rfl : i = row.length := by omega
          repeat (first | refine dw_p rfl ?_ | refine dw_nil ?_ | refine ds_ops mix (fun base => ?_) | refine ds_exit ?_)
          refine ⟨k - 1, by omega, _, _, _, [], ?wk5, r + 1, by omega, ?_, cur, hcur.row hrow, rfl, rfl, rfl⟩
          case wk5 => exact ⟨by repeat (first | exact trivial | refine ⟨by first | rfl | exact congrArg (fun z => some (DV.int z)) (dwrap (by omega) (by omega)), rfl, ?_⟩), by repeat (first | exact trivial | refine ⟨by first | rfl | exact congrArg (fun z => some (Bk.data z)) (by assumption), rfl, rfl, ?_⟩), rfl⟩
          intro q hq
          rw [List.take_add_one, hrow] at hq
          simp only [Option.toList_some, List.mem_append, List.mem_singleton] at hq
          rcases hq with hq | rfl
          · exact hok q hq
          · rw [List.take_of_length_le (by omega)] at hok2
            exact ⟨by omega, hok2⟩
    · simp at ht
      obtain rfl : r = l.length := by omega
      rw [List.take_of_length_le (by omega)] at hok
      obtain rfl := hcur.fin
      have hsz := fromC_sz n' m' l
      have hlen : m' = (rowsF (fromC n' m' l)).length := by rw [rowsF_len, hsz.1]
      refine ds_keep (SubA.cons (k := 6) rfl (SubA.cons (k := 8) rfl (SubA.nil _))) (SubA.refl _) ?_
      refine ds_frzT 3 rfl (by repeat' (first | exact trivial | rfl | assumption | refine ⟨?_, ?_⟩)) (by repeat' (first | exact trivial | rfl | assumption | refine ⟨?_, ?_⟩)) ?_
      repeat (first | refine dw_p rfl ?_ | refine dw_l rfl ?_ | refine dw_st rfl rfl rfl rfl rfl (Nat.le_of_ble_eq_true rfl) rfl ?_ | refine dw_nil ?_ | refine ds_seq ?_ | refine ds_ops mix (fun base => ?_) | refine ds_exit ?_)
      refine ds_ret ⟨_, rfl, rfl, .inl ⟨hfit, hok, ?_⟩⟩
      simp only [okGrid, gridD, hsz.1, Int.toNat_natCast]
      rfl
end Go.Ab.Fn

/- Deep contracts: the cells of a grid. -/
namespace Go.Ab.Fn
open Go.Ab Go.Proofs
set_option linter.unusedSimpArgs false

def orC (a : Int) (k : Nat) : Int := IntKind.u8.wrap ((BitVec.ofInt 8 a ||| BitVec.ofInt 8 (IntKind.u8.wrap (1 * 2 ^ (min k 8)))).toNat : Int)
def cellUp (d : DotsL) (r i : Nat) : Nat → Int
  | 0 => 0
  | k + 1 => if dot d (2 * i + k / 3) (3 * r + k % 3) = true then orC (cellUp d r i k) k else cellUp d r i k
def rowAt (d : DotsL) (q r i k : Nat) : List Int := (List.range q).map fun t => if t < i then cellUp d r t 6 else if t = i then cellUp d r i k else 0
def toC' (n m : Nat) (d : DotsL) : Cells := (List.range (m / 3)).map fun r => (List.range (n / 2)).map fun i => cellUp d r i 6
theorem rowAt_len (d : DotsL) (q r i k : Nat) : (rowAt d q r i k).length = q := by simp [rowAt]
theorem rowAt_at (d : DotsL) {q r i k t : Nat} (ht : t < q) : (rowAt d q r i k)[t]? = some (if t < i then cellUp d r t 6 else if t = i then cellUp d r i k else 0) := by simp [rowAt, ht]
theorem rowAt_start (d : DotsL) (q r : Nat) : rowAt d q r 0 0 = List.replicate q 0 := by
  refine List.ext_getElem? fun t => ?_
  by_cases ht : t < q
  · rw [rowAt_at d ht, List.getElem?_replicate, if_pos ht, if_neg (by omega)]
    split <;> rfl
  · rw [List.getElem?_eq_none (by rw [rowAt_len]; omega), List.getElem?_eq_none (by simp; omega)]
theorem rowAt_set (d : DotsL) {q r i k : Nat} (hd : dot d (2 * i + k / 3) (3 * r + k % 3) = true) : (rowAt d q r i k).set i (orC (cellUp d r i k) k) = rowAt d q r i (k + 1) := by
  refine List.ext_getElem? fun t => ?_
  by_cases ht : t < q
  · rw [List.getElem?_set, rowAt_at d ht, rowAt_at d ht]
    by_cases e : i = t
    · subst e
      rw [if_pos rfl, if_pos (by rw [rowAt_len]; omega), if_neg (by omega), if_pos rfl, cellUp, if_pos hd]
    · have e' : ¬ t = i := fun h => e h.symm
      rw [if_neg e]
      simp only [if_neg e']
  · rw [List.getElem?_eq_none (by rw [List.length_set, rowAt_len]; omega), List.getElem?_eq_none (by rw [rowAt_len]; omega)]
theorem rowAt_skip (d : DotsL) {q r i k : Nat} (hd : dot d (2 * i + k / 3) (3 * r + k % 3) = false) : rowAt d q r i (k + 1) = rowAt d q r i k := by
  simp only [rowAt, cellUp, hd, Bool.false_eq_true, if_false]
theorem rowAt_next (d : DotsL) (q r i : Nat) : rowAt d q r (i + 1) 0 = rowAt d q r i 6 := by
  refine List.ext_getElem? fun t => ?_
  by_cases ht : t < q
  · rw [rowAt_at d ht, rowAt_at d ht]
    by_cases h1 : t < i
    · rw [if_pos (by omega), if_pos h1]
    · rw [if_neg h1]
      by_cases h2 : t = i
      · subst h2; rw [if_pos (by omega), if_pos rfl]
      · rw [if_neg (by omega), if_neg h2]
        split <;> rfl
  · rw [List.getElem?_eq_none (by rw [rowAt_len]; omega), List.getElem?_eq_none (by rw [rowAt_len]; omega)]
theorem rowAt_fin (d : DotsL) (q r k : Nat) : rowAt d q r q k = (List.range q).map fun i => cellUp d r i 6 := by
  refine List.ext_getElem? fun t => ?_
  by_cases ht : t < q
  · rw [rowAt_at d ht, if_pos ht]; simp [ht]
  · rw [List.getElem?_eq_none (by rw [rowAt_len]; omega), List.getElem?_eq_none (by simp; omega)]
theorem cellsF_set (X : Cells) (y : Nat) (r : List Int) : (cellsF X).set y (r.map cF) = cellsF (X.set y r) := by simp [cellsF, List.map_set]
theorem cellsF_setc {X : Cells} {y : Nat} {r : List Int} (x : Nat) (c : Int) : (cellsF (X.set y r)).set y ((r.map cF).set x (.c (.int .u8 c))) = cellsF (X.set y (r.set x c)) := by
  rw [show (r.map cF).set x (.c (.int .u8 c)) = (r.set x c).map cF by simp [List.map_set, cF], cellsF_set, List.set_set]
theorem cellsF_len (X : Cells) : (cellsF X).length = X.length := by simp [cellsF]
theorem reps_zero (n : Nat) : reps' [.c (.int .u8 0)] n = (List.replicate n (0 : Int)).map cF := by rw [reps'_one]; simp [cF]

def noCells : DV := .tup [.one (.f (.c .nils)), .int 1]
set_option maxHeartbeats 8000000 in
theorem d_to {n m : Nat} {d : DotsL} (hn : n ≤ 200) (hm : m ≤ 200) (hd : Sz n m d) : DK 29 [gridD n m d] fun e => (n % 2 = 0 ∧ m % 3 = 0 ∧ e = .tup [cellsV (toC' n m d), .int 0]) ∨ (¬ (n % 2 = 0 ∧ m % 3 = 0) ∧ e = noCells) := by
  refine dfn_ok cp29 rfl GHro fun Z0 lo => ?_
  repeat (first | refine dw_p rfl ?_ | refine dw_l rfl ?_ | refine dw_a rfl ?_ | refine dw_nil ?_ | refine ds_seq ?_ | refine ds_ops mix (fun base => ?_))
  refine dw_cf rfl rfl (d_valid hn hm hd) ?_
  rintro _ rfl
  repeat (first | refine dw_want rfl rfl ?_ | refine dw_pickF rfl rfl ?_ | refine dw_pick rfl (by first | exact fun _ => rfl | exact fun h => (by simp only [if_pos h]; rfl) | exact fun h => (by simp only [h, if_true, if_false]; rfl)) (by first | exact fun _ => rfl | exact fun h => (by simp only [if_pos h]; rfl) | exact fun h => (by simp only [h, if_true, if_false]; rfl)) ?_ | refine dw_p rfl ?_ | refine dw_l rfl ?_ | refine dw_pg rfl (by first | exact fun _ => rfl | exact fun h => (by simp only [if_pos h]; rfl) | exact fun h => (by simp only [h, if_true, if_false]; rfl)) ?_ | refine dw_lg rfl (by first | exact fun _ => rfl | exact fun h => (by simp only [if_pos h]; rfl) | exact fun h => (by simp only [h, if_true, if_false]; rfl)) ?_ | refine dw_nil ?_)
  refine ds_if rfl (fun ht => ?_) (fun ht => ?_)
  · simp only [Bool.if_true_left, Bool.or_eq_true, Bool.or_eq_false_iff, decide_eq_true_eq, decide_eq_false_iff_not, tm (Int.natCast_nonneg n), tm (Int.natCast_nonneg m), bne_iff_ne] at ht
    repeat (first | refine dw_p rfl ?_ | refine dw_nil ?_ | refine ds_seq ?_ | refine ds_ops mix (fun base => ?_))
    exact ds_ret ⟨_, rfl, rfl, .inr ⟨by omega, rfl⟩⟩
  · have ht' : ¬ _ := fun h => Bool.false_ne_true (ht.symm.trans h)
    simp only [Bool.if_true_left, Bool.or_eq_true, decide_eq_true_eq, tm (Int.natCast_nonneg n), tm (Int.natCast_nonneg m), bne_iff_ne] at ht'
    have hn2 : n % 2 = 0 := by omega
    have hm3 : m % 3 = 0 := by omega
    clear ht ht'
    have hdl := hd.1
    have hw2 : IntKind.i64.wrap ((n : Int).tdiv 2) = ((n / 2 : Nat) : Int) := by rw [td (by omega), dwrap (by omega) (by omega)]; omega
    have hw3 : IntKind.i64.wrap ((m : Int).tdiv 3) = ((m / 3 : Nat) : Int) := by rw [td (by omega), dwrap (by omega) (by omega)]; omega
    repeat (first | refine dw_p rfl ?_ | refine dw_l rfl ?_ | refine ds_seq ?_ | refine ds_ops mix (fun base => ?_) | refine ds_skip ?_)
    rw [hw3]
    refine dw_mkt (n := m / 3) rfl rfl (by omega) (by omega) ?_
    repeat (first | refine dw_p rfl ?_ | refine dw_nil ?_ | refine ds_seq ?_ | refine ds_ops mix (fun base => ?_) | refine ds_block ?_)
    refine ds_keep (SubA.cons (k := 1) rfl (SubA.cons (k := 4) rfl (SubA.cons (k := 28) rfl (SubA.cons (k := 29) rfl (SubA.nil _))))) (SubA.refl _) ?_
    refine ds_loop (fun k E S nk => ∃ r : Nat, r + k = m / 3 ∧ ∃ cur : Cells, cur.length = m / 3 ∧ (∀ j, j < r → cur[j]? = some ((List.range (n / 2)).map fun i => cellUp d j i 6)) ∧ E = [(1, .one (.ptr 0 0)), (4, .one (.own 1 0 (m / 3) 1)), (28, .int (m / 3 : Nat)), (29, .int r)] ∧ S = [(0, .cells [.f (.c (.int .i64 n)), .f (.c (.int .i64 m)), .f (.sl 1 d.length ((rowsF d).map rowF))]), (1, .tree (cellsF cur))] ∧ nk = 2) ⟨m / 3, _, _, _, [], ?wk, 0, by omega, List.replicate (m / 3) [], by simp, by omega, rfl, rfl, rfl⟩ ?_
    case wk => exact ⟨by repeat (first | exact trivial | refine ⟨rfl, rfl, ?_⟩), ⟨rfl, rfl, rfl, congrArg (fun z => some (Bk.tree z)) (by simp [cellsF]), rfl, rfl, trivial⟩, rfl⟩
    rintro k E S nk ⟨r, hr, cur, hcl, hcur, rfl, rfl, rfl⟩
    repeat (first | refine dw_p rfl ?_ | refine dw_nil ?_ | refine ds_seq ?_ | refine ds_ops mix (fun base => ?_))
    refine ds_if rfl (fun ht => ?_) (fun ht => ?_)
    · simp at ht
      have ht : r < m / 3 := by omega
      repeat (first | refine dw_p rfl ?_ | refine dw_l rfl ?_ | refine dw_nil ?_ | refine ds_seq ?_ | refine ds_ops mix (fun base => ?_) | refine ds_skip ?_ | refine ds_block ?_)
      rw [hw2]
      refine dw_mk [.c (.int .u8 0)] rfl rfl ⟨rfl, rfl, trivial⟩ rfl (by decide) (Nat.le_refl _) (by omega) (by omega) ?_
      repeat (first | refine dw_io1 rfl rfl (by omega) (by omega) ?_)
      refine dw_strow (o := r) rfl rfl rfl rfl (by rw [reps'_len]; simp) (by rw [cellsF_len]; omega) rfl ?_
      rw [reps_zero, cellsF_set, ← rowAt_start d (n / 2) r]
      have hget : ∀ row, (cur.set r row)[r]? = some row := fun row => by rw [List.getElem?_set, if_pos rfl, if_pos (by omega)]
      have e1 := cellsF_at (hget (rowAt d (n / 2) r 0 0))
      repeat (first | refine dw_p rfl ?_ | refine dw_io1 rfl rfl (by omega) (by omega) ?_ | refine dw_l (dload_tree rfl rfl (by assumption)) ?_ | refine dw_nil ?_ | refine ds_seq ?_ | refine ds_ops mix (fun base => ?_) | refine ds_block ?_)
      refine ds_keep (SubA.cons (k := 1) rfl (SubA.cons (k := 4) rfl (SubA.cons (k := 5) rfl (SubA.cons (k := 28) rfl (SubA.cons (k := 29) rfl (SubA.cons (k := 43) rfl (SubA.cons (k := 44) rfl (SubA.nil _)))))))) (SubA.refl _) ?_
      refine ds_loop (fun k2 E S nk => ∃ i : Nat, i + k2 = n / 2 ∧ E = [(1, .one (.ptr 0 0)), (4, .one (.own 3 0 (m / 3) 1)), (5, .int r), (28, .int (m / 3 : Nat)), (29, .int r), (43, .int (n / 2 : Nat)), (44, .int i)] ∧ S = [(0, .cells [.f (.c (.int .i64 n)), .f (.c (.int .i64 m)), .f (.sl 1 d.length ((rowsF d).map rowF))]), (3, .tree (cellsF (cur.set r (rowAt d (n / 2) r i 0))))] ∧ nk = 4) ⟨n / 2, _, _, _, [], ?wk1, 0, by omega, rfl, rfl, rfl⟩ ?_
      case wk1 => exact ⟨⟨rfl, rfl, rfl, rfl, rfl, rfl, rfl, rfl, rfl, rfl, congrArg (fun z : Nat => some (DV.int z)) (by simp [rowAt_len]), rfl, rfl, rfl, trivial⟩, by repeat (first | exact trivial | refine ⟨rfl, rfl, rfl, ?_⟩), rfl⟩
      rintro k2 E S nk ⟨i, hi, rfl, rfl, rfl⟩
      repeat (first | refine dw_p rfl ?_ | refine dw_nil ?_ | refine ds_seq ?_ | refine ds_ops mix (fun base => ?_))
      refine ds_if rfl (fun ht3 => ?_) (fun ht3 => ?_)
      · simp at ht3
        have ht3 : i < n / 2 := by omega
        repeat (first | refine dw_p rfl ?_ | refine dw_nil ?_ | refine ds_seq ?_ | refine ds_ops mix (fun base => ?_) | refine ds_skip ?_ | refine ds_block ?_)
        refine ds_keep (SubA.cons (k := 1) rfl (SubA.cons (k := 4) rfl (SubA.cons (k := 5) rfl (SubA.cons (k := 6) rfl (SubA.cons (k := 28) rfl (SubA.cons (k := 29) rfl (SubA.cons (k := 43) rfl (SubA.cons (k := 44) rfl (SubA.cons (k := 47) rfl (SubA.nil _)))))))))) (SubA.refl _) ?_
        refine ds_loop (fun k3 E S nk => ∃ j : Nat, j + k3 = 6 ∧ E = [(1, .one (.ptr 0 0)), (4, .one (.own 3 0 (m / 3) 1)), (5, .int r), (6, .int i), (28, .int (m / 3 : Nat)), (29, .int r), (43, .int (n / 2 : Nat)), (44, .int i), (47, .int j)] ∧ S = [(0, .cells [.f (.c (.int .i64 n)), .f (.c (.int .i64 m)), .f (.sl 1 d.length ((rowsF d).map rowF))]), (3, .tree (cellsF (cur.set r (rowAt d (n / 2) r i j))))] ∧ nk = 4) ⟨6, _, _, _, [], ?wk2, 0, by omega, rfl, rfl, rfl⟩ ?_
        case wk2 => exact ⟨by repeat (first | exact trivial | refine ⟨by first | rfl | exact congrArg (fun z => some (DV.int z)) (dwrap (by omega) (by omega)), rfl, ?_⟩), by repeat (first | exact trivial | refine ⟨by first | rfl | exact congrArg (fun z => some (Bk.data z)) (by assumption), rfl, rfl, ?_⟩), rfl⟩
        rintro k3 E S nk ⟨j, hj, rfl, rfl, rfl⟩
        repeat (first | refine dw_p rfl ?_ | refine dw_nil ?_ | refine ds_seq ?_ | refine ds_ops mix (fun base => ?_))
        refine ds_if rfl (fun ht5 => ?_) (fun ht5 => ?_)
        · simp at ht5
          have hy : 3 * r + j % 3 < m := by omega
          have hx : 2 * i + j / 3 < n := by omega
          obtain ⟨q, hq, hql, hqx⟩ := hd.cell hx hy
          have e2 := rowF_at (rowsF_at hq)
          have e3 := one_at (boF_at hqx)
          have l2 : 2 * i + j / 3 < (q.map boF).length := by simp; omega
          have e4 := cellsF_at (hget (rowAt d (n / 2) r i j))
          have e5 := cF_at (show (rowAt d (n / 2) r i j)[i]? = some (cellUp d r i j) by rw [rowAt_at d ht3, if_neg (by omega), if_pos rfl])
          have l3 : i < ((rowAt d (n / 2) r i j).map cF).length := by rw [List.length_map, rowAt_len]; exact ht3
          have hset := cellsF_setc (X := cur) (y := r) (r := rowAt d (n / 2) r i j) i (orC (cellUp d r i j) j)
          have hst := rowAt_set d (q := n / 2) (r := r) (i := i) (k := j)
          have hsk := rowAt_skip d (q := n / 2) (r := r) (i := i) (k := j)
          have w1 : IntKind.i64.wrap (3 * (r : Int)) = ((3 * r : Nat) : Int) := by rw [dwrap (by omega) (by omega)]; omega
          have w2 : IntKind.i64.wrap (2 * (i : Int)) = ((2 * i : Nat) : Int) := by rw [dwrap (by omega) (by omega)]; omega
          have hj6 : j = 0 ∨ j = 1 ∨ j = 2 ∨ j = 3 ∨ j = 4 ∨ j = 5 := by omega
          rcases hj6 with rfl | rfl | rfl | rfl | rfl | rfl
          · have w3 : IntKind.i64.wrap (((3 * r : Nat) : Int) + 0) = ((3 * r + 0 % 3 : Nat) : Int) := by rw [dwrap (by omega) (by omega)]; omega
            have w4 : IntKind.i64.wrap (((2 * i : Nat) : Int) + 0) = ((2 * i + 0 / 3 : Nat) : Int) := by rw [dwrap (by omega) (by omega)]; omega
            repeat (first | refine dw_p rfl ?_ | refine dw_l rfl ?_ | refine dw_nil ?_ | refine ds_seq ?_ | refine ds_ops mix (fun base => ?_) | refine ds_skip ?_ | refine ds_block ?_)
            rw [w1, w3]
            repeat (first | refine dw_p rfl ?_ | refine dw_l rfl ?_ | refine dw_if rfl rfl (by omega) (by decide) (by assumption) ?_)
            rw [w2, w4]
            repeat (first | refine dw_l rfl ?_ | refine dw_if rfl rfl (by omega) (by decide) (by assumption) ?_ | refine dw_nil ?_)
            refine ds_if (t := dot d (2 * i + 0 / 3) (3 * r + 0 % 3)) rfl (fun hb => ?_) (fun hb => ?_)
            · repeat (first | refine dw_p rfl ?_ | refine dw_io1 rfl rfl (by omega) (by omega) ?_ | refine dw_it0 rfl rfl (by omega) (by omega) ?_ | refine dw_l (dload_tree rfl rfl (by assumption)) ?_ | refine dw_l (dload_tptr rfl rfl (by assumption) (by assumption)) ?_ | refine ds_ops mix (fun base => ?_))
              refine dw_stt (i := r) (o := i) (x := .c (.int .u8 (orC (cellUp d r i 0) 0))) rfl rfl rfl e4 l3 rfl ?_
              rw [hset, hst hb]
              repeat (first | refine dw_p rfl ?_ | refine dw_nil ?_ | refine ds_ops mix (fun base => ?_))
              refine ⟨k3 - 1, by omega, _, _, _, [], ?wk3, 0 + 1, by omega, rfl, rfl, rfl⟩
              case wk3 => exact ⟨by repeat (first | exact trivial | refine ⟨by first | rfl | exact congrArg (fun z => some (DV.int z)) (dwrap (by omega) (by omega)), rfl, ?_⟩), by repeat (first | exact trivial | refine ⟨by first | rfl | exact congrArg (fun z => some (Bk.data z)) (by assumption), rfl, rfl, ?_⟩), rfl⟩
            · rw [← hsk hb]
              repeat (first | refine dw_p rfl ?_ | refine dw_nil ?_ | refine ds_ops mix (fun base => ?_) | refine ds_skip ?_)
              refine ⟨k3 - 1, by omega, _, _, _, [], ?wk3, 0 + 1, by omega, rfl, rfl, rfl⟩
              case wk3 => exact ⟨by repeat (first | exact trivial | refine ⟨by first | rfl | exact congrArg (fun z => some (DV.int z)) (dwrap (by omega) (by omega)), rfl, ?_⟩), by repeat (first | exact trivial | refine ⟨by first | rfl | exact congrArg (fun z => some (Bk.data z)) (by assumption), rfl, rfl, ?_⟩), rfl⟩
          · have w3 : IntKind.i64.wrap (((3 * r : Nat) : Int) + 1) = ((3 * r + 1 % 3 : Nat) : Int) := by rw [dwrap (by omega) (by omega)]; omega
            have w4 : IntKind.i64.wrap (((2 * i : Nat) : Int) + 0) = ((2 * i + 1 / 3 : Nat) : Int) := by rw [dwrap (by omega) (by omega)]; omega
            repeat (first | refine dw_p rfl ?_ | refine dw_l rfl ?_ | refine dw_nil ?_ | refine ds_seq ?_ | refine ds_ops mix (fun base => ?_) | refine ds_skip ?_ | refine ds_block ?_)
            rw [w1, w3]
            repeat (first | refine dw_p rfl ?_ | refine dw_l rfl ?_ | refine dw_if rfl rfl (by omega) (by decide) (by assumption) ?_)
            rw [w2, w4]
            repeat (first | refine dw_l rfl ?_ | refine dw_if rfl rfl (by omega) (by decide) (by assumption) ?_ | refine dw_nil ?_)
            refine ds_if (t := dot d (2 * i + 1 / 3) (3 * r + 1 % 3)) rfl (fun hb => ?_) (fun hb => ?_)
            · repeat (first | refine dw_p rfl ?_ | refine dw_io1 rfl rfl (by omega) (by omega) ?_ | refine dw_it0 rfl rfl (by omega) (by omega) ?_ | refine dw_l (dload_tree rfl rfl (by assumption)) ?_ | refine dw_l (dload_tptr rfl rfl (by assumption) (by assumption)) ?_ | refine ds_ops mix (fun base => ?_))
              refine dw_stt (i := r) (o := i) (x := .c (.int .u8 (orC (cellUp d r i 1) 1))) rfl rfl rfl e4 l3 rfl ?_
              rw [hset, hst hb]
              repeat (first | refine dw_p rfl ?_ | refine dw_nil ?_ | refine ds_ops mix (fun base => ?_))
              refine ⟨k3 - 1, by omega, _, _, _, [], ?wk3, 1 + 1, by omega, rfl, rfl, rfl⟩
              case wk3 => exact ⟨by repeat (first | exact trivial | refine ⟨by first | rfl | exact congrArg (fun z => some (DV.int z)) (dwrap (by omega) (by omega)), rfl, ?_⟩), by repeat (first | exact trivial | refine ⟨by first | rfl | exact congrArg (fun z => some (Bk.data z)) (by assumption), rfl, rfl, ?_⟩), rfl⟩
            · rw [← hsk hb]
              repeat (first | refine dw_p rfl ?_ | refine dw_nil ?_ | refine ds_ops mix (fun base => ?_) | refine ds_skip ?_)
              refine ⟨k3 - 1, by omega, _, _, _, [], ?wk3, 1 + 1, by omega, rfl, rfl, rfl⟩
              case wk3 => exact ⟨by repeat (first | exact trivial | refine ⟨by first | rfl | exact congrArg (fun z => some (DV.int z)) (dwrap (by omega) (by omega)), rfl, ?_⟩), by repeat (first | exact trivial | refine ⟨by first | rfl | exact congrArg (fun z => some (Bk.data z)) (by assumption), rfl, rfl, ?_⟩), rfl⟩
          · have w3 : IntKind.i64.wrap (((3 * r : Nat) : Int) + 2) = ((3 * r + 2 % 3 : Nat) : Int) := by rw [dwrap (by omega) (by omega)]; omega
            have w4 : IntKind.i64.wrap (((2 * i : Nat) : Int) + 0) = ((2 * i + 2 / 3 : Nat) : Int) := by rw [dwrap (by omega) (by omega)]; omega
            repeat (first | refine dw_p rfl ?_ | refine dw_l rfl ?_ | refine dw_nil ?_ | refine ds_seq ?_ | refine ds_ops mix (fun base => ?_) | refine ds_skip ?_ | refine ds_block ?_)
            rw [w1, w3]
            repeat (first | refine dw_p rfl ?_ | refine dw_l rfl ?_ | refine dw_if rfl rfl (by omega) (by decide) (by assumption) ?_)
            rw [w2, w4]
            repeat (first | refine dw_l rfl ?_ | refine dw_if rfl rfl (by omega) (by decide) (by assumption) ?_ | refine dw_nil ?_)
            refine ds_if (t := dot d (2 * i + 2 / 3) (3 * r + 2 % 3)) rfl (fun hb => ?_) (fun hb => ?_)
            · repeat (first | refine dw_p rfl ?_ | refine dw_io1 rfl rfl (by omega) (by omega) ?_ | refine dw_it0 rfl rfl (by omega) (by omega) ?_ | refine dw_l (dload_tree rfl rfl (by assumption)) ?_ | refine dw_l (dload_tptr rfl rfl (by assumption) (by assumption)) ?_ | refine ds_ops mix (fun base => ?_))
              refine dw_stt (i := r) (o := i) (x := .c (.int .u8 (orC (cellUp d r i 2) 2))) rfl rfl rfl e4 l3 rfl ?_
              rw [hset, hst hb]
              repeat (first | refine dw_p rfl ?_ | refine dw_nil ?_ | refine ds_ops mix (fun base => ?_))
              refine ⟨k3 - 1, by omega, _, _, _, [], ?wk3, 2 + 1, by omega, rfl, rfl, rfl⟩
              case wk3 => exact ⟨by repeat (first | exact trivial | refine ⟨by first | rfl | exact congrArg (fun z => some (DV.int z)) (dwrap (by omega) (by omega)), rfl, ?_⟩), by repeat (first | exact trivial | refine ⟨by first | rfl | exact congrArg (fun z => some (Bk.data z)) (by assumption), rfl, rfl, ?_⟩), rfl⟩
            · rw [← hsk hb]
              repeat (first | refine dw_p rfl ?_ | refine dw_nil ?_ | refine ds_ops mix (fun base => ?_) | refine ds_skip ?_)
              refine ⟨k3 - 1, by omega, _, _, _, [], ?wk3, 2 + 1, by omega, rfl, rfl, rfl⟩
              case wk3 => exact ⟨by repeat (first | exact trivial | refine ⟨by first | rfl | exact congrArg (fun z => some (DV.int z)) (dwrap (by omega) (by omega)), rfl, ?_⟩), by repeat (first | exact trivial | refine ⟨by first | rfl | exact congrArg (fun z => some (Bk.data z)) (by assumption), rfl, rfl, ?_⟩), rfl⟩
          · have w3 : IntKind.i64.wrap (((3 * r : Nat) : Int) + 0) = ((3 * r + 3 % 3 : Nat) : Int) := by rw [dwrap (by omega) (by omega)]; omega
            have w4 : IntKind.i64.wrap (((2 * i : Nat) : Int) + 1) = ((2 * i + 3 / 3 : Nat) : Int) := by rw [dwrap (by omega) (by omega)]; omega
            repeat (first | refine dw_p rfl ?_ | refine dw_l rfl ?_ | refine dw_nil ?_ | refine ds_seq ?_ | refine ds_ops mix (fun base => ?_) | refine ds_skip ?_ | refine ds_block ?_)
            rw [w1, w3]
            repeat (first | refine dw_p rfl ?_ | refine dw_l rfl ?_ | refine dw_if rfl rfl (by omega) (by decide) (by assumption) ?_)
            rw [w2, w4]
            repeat (first | refine dw_l rfl ?_ | refine dw_if rfl rfl (by omega) (by decide) (by assumption) ?_ | refine dw_nil ?_)
            refine ds_if (t := dot d (2 * i + 3 / 3) (3 * r + 3 % 3)) rfl (fun hb => ?_) (fun hb => ?_)
            · repeat (first | refine dw_p rfl ?_ | refine dw_io1 rfl rfl (by omega) (by omega) ?_ | refine dw_it0 rfl rfl (by omega) (by omega) ?_ | refine dw_l (dload_tree rfl rfl (by assumption)) ?_ | refine dw_l (dload_tptr rfl rfl (by assumption) (by assumption)) ?_ | refine ds_ops mix (fun base => ?_))
              refine dw_stt (i := r) (o := i) (x := .c (.int .u8 (orC (cellUp d r i 3) 3))) rfl rfl rfl e4 l3 rfl ?_
              rw [hset, hst hb]
              repeat (first | refine dw_p rfl ?_ | refine dw_nil ?_ | refine ds_ops mix (fun base => ?_))
              refine ⟨k3 - 1, by omega, _, _, _, [], ?wk3, 3 + 1, by omega, rfl, rfl, rfl⟩
              case wk3 => exact ⟨by repeat (first | exact trivial | refine ⟨by first | rfl | exact congrArg (fun z => some (DV.int z)) (dwrap (by omega) (by omega)), rfl, ?_⟩), by repeat (first | exact trivial | refine ⟨by first | rfl | exact congrArg (fun z => some (Bk.data z)) (by assumption), rfl, rfl, ?_⟩), rfl⟩
            · rw [← hsk hb]
              repeat (first | refine dw_p rfl ?_ | refine dw_nil ?_ | refine ds_ops mix (fun base => ?_) | refine ds_skip ?_)
              refine ⟨k3 - 1, by omega, _, _, _, [], ?wk3, 3 + 1, by omega, rfl, rfl, rfl⟩
              case wk3 => exact ⟨by repeat (first | exact trivial | refine ⟨by first | rfl | exact congrArg (fun z => some (DV.int z)) (dwrap (by omega) (by omega)), rfl, ?_⟩), by repeat (first | exact trivial | refine ⟨by first | rfl | exact congrArg (fun z => some (Bk.data z)) (by assumption), rfl, rfl, ?_⟩), rfl⟩
          · have w3 : IntKind.i64.wrap (((3 * r : Nat) : Int) + 1) = ((3 * r + 4 % 3 : Nat) : Int) := by rw [dwrap (by omega) (by omega)]; omega
            have w4 : IntKind.i64.wrap (((2 * i : Nat) : Int) + 1) = ((2 * i + 4 / 3 : Nat) : Int) := by rw [dwrap (by omega) (by omega)]; omega
            repeat (first | refine dw_p rfl ?_ | refine dw_l rfl ?_ | refine dw_nil ?_ | refine ds_seq ?_ | refine ds_ops mix (fun base => ?_) | refine ds_skip ?_ | refine ds_block ?_)
            rw [w1, w3]
            repeat (first | refine dw_p rfl ?_ | refine dw_l rfl ?_ | refine dw_if rfl rfl (by omega) (by decide) (by assumption) ?_)
            rw [w2, w4]
            repeat (first | refine dw_l rfl ?_ | refine dw_if rfl rfl (by omega) (by decide) (by assumption) ?_ | refine dw_nil ?_)
            refine ds_if (t := dot d (2 * i + 4 / 3) (3 * r + 4 % 3)) rfl (fun hb => ?_) (fun hb => ?_)
            · repeat (first | refine dw_p rfl ?_ | refine dw_io1 rfl rfl (by omega) (by omega) ?_ | refine dw_it0 rfl rfl (by omega) (by omega) ?_ | refine dw_l (dload_tree rfl rfl (by assumption)) ?_ | refine dw_l (dload_tptr rfl rfl (by assumption) (by assumption)) ?_ | refine ds_ops mix (fun base => ?_))
              refine dw_stt (i := r) (o := i) (x := .c (.int .u8 (orC (cellUp d r i 4) 4))) rfl rfl rfl e4 l3 rfl ?_
              rw [hset, hst hb]
              repeat (first | refine dw_p rfl ?_ | refine dw_nil ?_ | refine ds_ops mix (fun base => ?_))
              refine ⟨k3 - 1, by omega, _, _, _, [], ?wk3, 4 + 1, by omega, rfl, rfl, rfl⟩
              case wk3 => exact ⟨by repeat (first | exact trivial | refine ⟨by first | rfl | exact congrArg (fun z => some (DV.int z)) (dwrap (by omega) (by omega)), rfl, ?_⟩), by repeat (first | exact trivial | refine ⟨by first | rfl | exact congrArg (fun z => some (Bk.data z)) (by assumption), rfl, rfl, ?_⟩), rfl⟩
            · rw [← hsk hb]
              repeat (first | refine dw_p rfl ?_ | refine dw_nil ?_ | refine ds_ops mix (fun base => ?_) | refine ds_skip ?_)
              refine ⟨k3 - 1, by omega, _, _, _, [], ?wk3, 4 + 1, by omega, rfl, rfl, rfl⟩
              case wk3 => exact ⟨by repeat (first | exact trivial | refine ⟨by first | rfl | exact congrArg (fun z => some (DV.int z)) (dwrap (by omega) (by omega)), rfl, ?_⟩), by repeat (first | exact trivial | refine ⟨by first | rfl | exact congrArg (fun z => some (Bk.data z)) (by assumption), rfl, rfl, ?_⟩), rfl⟩
          · have w3 : IntKind.i64.wrap (((3 * r : Nat) : Int) + 2) = ((3 * r + 5 % 3 : Nat) : Int) := by rw [dwrap (by omega) (by omega)]; omega
            have w4 : IntKind.i64.wrap (((2 * i : Nat) : Int) + 1) = ((2 * i + 5 / 3 : Nat) : Int) := by rw [dwrap (by omega) (by omega)]; omega
            repeat (first | refine dw_p rfl ?_ | refine dw_l rfl ?_ | refine dw_nil ?_ | refine ds_seq ?_ | refine ds_ops mix (fun base => ?_) | refine ds_skip ?_ | refine ds_block ?_)
            rw [w1, w3]
            repeat (first | refine dw_p rfl ?_ | refine dw_l rfl ?_ | refine dw_if rfl rfl (by omega) (by decide) (by assumption) ?_)
            rw [w2, w4]
            repeat (first | refine dw_l rfl ?_ | refine dw_if rfl rfl (by omega) (by decide) (by assumption) ?_ | refine dw_nil ?_)
            refine ds_if (t := dot d (2 * i + 5 / 3) (3 * r + 5 % 3)) rfl (fun hb => ?_) (fun hb => ?_)
            · repeat (first | refine dw_p rfl ?_ | refine dw_io1 rfl rfl (by omega) (by omega) ?_ | refine dw_it0 rfl rfl (by omega) (by omega) ?_ | refine dw_l (dload_tree rfl rfl (by assumption)) ?_ | refine dw_l (dload_tptr rfl rfl (by assumption) (by assumption)) ?_ | refine ds_ops mix (fun base => ?_))
              refine dw_stt (i := r) (o := i) (x := .c (.int .u8 (orC (cellUp d r i 5) 5))) rfl rfl rfl e4 l3 rfl ?_
              rw [hset, hst hb]
              repeat (first | refine dw_p rfl ?_ | refine dw_nil ?_ | refine ds_ops mix (fun base => ?_))
              refine ⟨k3 - 1, by omega, _, _, _, [], ?wk3, 5 + 1, by omega, rfl, rfl, rfl⟩
              case wk3 => exact ⟨by repeat (first | exact trivial | refine ⟨by first | rfl | exact congrArg (fun z => some (DV.int z)) (dwrap (by omega) (by omega)), rfl, ?_⟩), by repeat (first | exact trivial | refine ⟨by first | rfl | exact congrArg (fun z => some (Bk.data z)) (by assumption), rfl, rfl, ?_⟩), rfl⟩
            · rw [← hsk hb]
              repeat (first | refine dw_p rfl ?_ | refine dw_nil ?_ | refine ds_ops mix (fun base => ?_) | refine ds_skip ?_)
              refine ⟨k3 - 1, by omega, _, _, _, [], ?wk3, 5 + 1, by omega, rfl, rfl, rfl⟩
              case wk3 => exact ⟨by repeat (first | exact trivial | refine ⟨by first | rfl | exact congrArg (fun z => some (DV.int z)) (dwrap (by omega) (by omega)), rfl, ?_⟩), by repeat (first | exact trivial | refine ⟨by first | rfl | exact congrArg (fun z => some (Bk.data z)) (by assumption), rfl, rfl, ?_⟩), rfl⟩
        · simp at ht5
          obtain rfl : j = 6 := by omega
          rw [← rowAt_next]
          repeat (first | refine dw_p rfl ?_ | refine dw_nil ?_ | refine ds_ops mix (fun base => ?_) | refine ds_exit ?_)
          refine ⟨k2 - 1, by omega, _, _, _, [], ?wk4, i + 1, by omega, rfl, rfl, rfl⟩
          case wk4 => exact ⟨by repeat (first | exact trivial | refine ⟨by first | rfl | exact congrArg (fun z => some (DV.int z)) (dwrap (by omega) (by omega)), rfl, ?_⟩), by repeat (first | exact trivial | refine ⟨by first | rfl | exact congrArg (fun z => some (Bk.data z)) (by assumption), rfl, rfl, ?_⟩), rfl⟩
      · simp at ht3
        obtain rfl : i = n / 2 := by omega
        rw [rowAt_fin]
        repeat (first | refine dw_p rfl ?_ | refine dw_nil ?_ | refine ds_ops mix (fun base => ?_) | refine ds_exit ?_)
        refine ⟨k - 1, by omega, _, _, _, [(1, 3)], ?wk5, r + 1, by omega, cur.set r ((List.range (n / 2)).map fun i => cellUp d r i 6), by simpa using hcl, fun t ht => ?_, rfl, rfl, rfl⟩
        case wk5 => exact ⟨by repeat (first | exact trivial | refine ⟨by first | rfl | exact congrArg (fun z => some (DV.int z)) (dwrap (by omega) (by omega)), rfl, ?_⟩), by repeat (first | exact trivial | refine ⟨by first | rfl | exact congrArg (fun z => some (Bk.data z)) (by assumption), rfl, rfl, ?_⟩), rfl⟩
        rw [List.getElem?_set]
        by_cases e : r = t
        · subst e; rw [if_pos rfl, if_pos (by omega)]
        · rw [if_neg e]; exact hcur t (by omega)
    · simp at ht
      obtain rfl : r = m / 3 := by omega
      have hfin : cur = toC' n m d := by
        refine List.ext_getElem? fun t => ?_
        by_cases ht : t < m / 3
        · rw [hcur t ht]; simp [toC', ht]
        · rw [List.getElem?_eq_none (by omega), List.getElem?_eq_none (by simp [toC']; omega)]
      subst hfin
      have hlen : m / 3 = (cellsF (toC' n m d)).length := by rw [cellsF_len]; exact hcl.symm
      refine ds_keep (SubA.cons (k := 4) rfl (SubA.nil _)) (SubA.cons (k := 1) rfl (SubA.nil _)) ?_
      refine ds_frzT 1 rfl (by repeat' (first | exact trivial | rfl | assumption | refine ⟨?_, ?_⟩)) (by repeat' (first | exact trivial | rfl | assumption | refine ⟨?_, ?_⟩)) ?_
      repeat (first | refine dw_p rfl ?_ | refine dw_nil ?_ | refine ds_seq ?_ | refine ds_ops mix (fun base => ?_) | refine ds_exit ?_)
      refine ds_ret ⟨_, rfl, rfl, .inl ⟨hn2, hm3, ?_⟩⟩
      simp only [cellsV, hcl]
      rfl
end Go.Ab.Fn

/- Grids: rows of truths. -/
namespace Go.Ab

/-- the value is a grid's dots: rows of truths -/
def Dots (H : Hp) (d : List (List Bool)) (v : V) : Prop := ∃ cs, Sl H 1 d.length cs v ∧ All2 (fun (r : List Bool) c => Sl H 1 r.length (r.map .bool) (.one c)) d cs
theorem Dots.le {H H' : Hp} {d : List (List Bool)} {v : V} (h : Dots H d v) (he : Le H H') : Dots H' d v := by
  obtain ⟨cs, h1, h2⟩ := h
  exact ⟨cs, h1.le he, h2.mono fun _ _ h => h.le he⟩
theorem Dots.len {H : Hp} {d : List (List Bool)} {v : V} (h : Dots H d v) : lenV v = some (.int d.length) := by
  obtain ⟨cs, h1, _⟩ := h
  exact h1.len
theorem Dots.at {H : Hp} {d : List (List Bool)} {v : V} (h : Dots H d v) {k : Nat} {r : List Bool} (hk : d[k]? = some r) (kd : IntKind) : ∃ b o c, iaddrV 1 v (.one (.int kd k)) = some (.one (.ptr b o)) ∧ H.cell b o = some c ∧ Sl H 1 r.length (r.map .bool) (.one c) := by
  obtain ⟨cs, h1, h2⟩ := h
  obtain ⟨b, o, e1, e2⟩ := h1.at (List.getElem?_eq_some_iff.1 hk).1 kd
  obtain ⟨c, hc, hs⟩ := h2.at k r hk
  refine ⟨b, o, c, e1, ?_, hs⟩
  have := loads_cell (i := 0) e2 (by omega)
  simp only [Nat.add_zero, Nat.mul_one] at this
  rw [this]
  simpa [List.getElem?_take, List.getElem?_drop] using hc

def validB (w h : Int) (d : List (List Bool)) : Bool := decide (0 ≤ w) && decide (w ≤ 200) && decide (0 ≤ h) && decide (h ≤ 200) && ((d.length : Int) == h) && d.all fun r => (r.length : Int) == w
end Go.Ab
namespace Go.Ab
/-- a variable's new box -/
theorem new_box {H : Hp} (hw : WF H) (cs : List C) {n : Nat} (hn : cs.length = n) : WF (H.push (.row n cs .lf true)) ∧ Ext H (H.push (.row n cs .lf true)) ∧ Row (H.push (.row n cs .lf true)) H.nx cs := by
  subst hn
  exact ⟨hw.push _, Ext.push hw (Ext.refl H) _, Row.new cs⟩
theorem Row.cell {H : Hp} {b : Nat} {l : List C} (h : Row H b l) {i : Nat} {c : C} (hc : l[i]? = some c) : H.cell b i = some c := by
  have := loads_cell (i := i) h.2 (List.getElem?_eq_some_iff.1 hc).1
  rw [Nat.zero_add] at this
  rw [this, hc]
theorem Row.ext {H H' : Hp} {b : Nat} {l : List C} (h : Row H b l) (he : Ext H H') : Row H' b l := by
  obtain ⟨⟨z, m, hg⟩, hl⟩ := h
  exact ⟨⟨z, m, he.get _ _ hg⟩, he.loads hl⟩
end Go.Ab
namespace Go.Ab
theorem wrap_i64 {n : Int} (h1 : -9223372036854775808 ≤ n) (h2 : n < 9223372036854775808) : IntKind.i64.wrap n = n := by
  simp [IntKind.wrap, IntKind.signed, IntKind.bits]
  split <;> omega
end Go.Ab
namespace Go.Ab
/-- A GRID'S DOTS THAT THE CALL MADE: all their blocks lie from lo on below hi, and no two are the same. -/
def GOwn (H : Hp) (lo hi : Nat) (d : List (List Bool)) (c : C) : Prop := ∃ (cs : List C) (bs : List Nat), Own H lo 1 d.length cs (.one c) ∧ (∀ b, ownB (.one c) = some b → b < hi) ∧ bs.length = d.length ∧ bs.Nodup ∧ (∀ b ∈ bs, lo ≤ b ∧ b < hi ∧ ownB (.one c) ≠ some b) ∧
  ∀ (i : Nat) r, d[i]? = some r → ∃ b, bs[i]? = some b ∧ cs[i]? = some (.slc b 0 r.length r.length 1 true) ∧ Row H b (r.map .bool)
theorem Row.sl {H : Hp} {b : Nat} {l : List C} (h : Row H b l) {n cap : Nat} {ex : Bool} (hn : l.length = n) : Sl H 1 n l (.one (.slc b 0 n cap 1 ex)) := ⟨by simp [hn], .inr ⟨b, 0, cap, ex, rfl, by rw [Nat.mul_one, ← hn]; exact h.2⟩⟩
theorem GOwn.dots {H : Hp} {lo hi : Nat} {d : List (List Bool)} {c : C} (h : GOwn H lo hi d c) : Dots H d (.one c) := by
  obtain ⟨cs, bs, h1, _, h2, _, _, h3⟩ := h
  refine ⟨cs, h1.sl, All2.mk (by rw [h1.1]; simp) fun i r x hr hx => ?_⟩
  obtain ⟨b, _, hc, hrow⟩ := h3 i r hr
  rw [hc] at hx
  obtain rfl := Option.some.inj hx
  exact hrow.sl (by simp)
theorem GOwn.nil (H : Hp) (lo hi : Nat) : GOwn H lo hi [] .nils := ⟨[], [], Own.nil H lo 1, fun b h => (by cases h), rfl, List.nodup_nil, fun b h => (by cases h), fun i r h => (by simp at h)⟩
theorem GOwn.same {H H' : Hp} {lo hi : Nat} {d : List (List Bool)} {c : C} (h : GOwn H lo hi d c) (hg : ∀ b, lo ≤ b → b < hi → H'.get b = H.get b) : GOwn H' lo hi d c := by
  obtain ⟨cs, bs, h1, hb, h2, h3, h4, h5⟩ := h
  refine ⟨cs, bs, h1.same fun b e => hg b ?_ (hb b e), hb, h2, h3, h4, fun i r hr => ?_⟩
  · rcases h1.2 with ⟨h, _⟩ | ⟨b', ex, hv, hl, _⟩
    · rw [h] at e; cases e
    · rw [hv] at e; obtain rfl := Option.some.inj e; exact hl
  · obtain ⟨b, e1, e2, e3⟩ := h5 i r hr
    have := h4 b (List.mem_of_getElem? e1)
    exact ⟨b, e1, e2, e3.same (hg b this.1 this.2.1)⟩
theorem GOwn.hi {H : Hp} {lo hi hi' : Nat} {d : List (List Bool)} {c : C} (h : GOwn H lo hi d c) (hh : hi ≤ hi') : GOwn H lo hi' d c := by
  obtain ⟨cs, bs, h1, hb, h2, h3, h4, h5⟩ := h
  exact ⟨cs, bs, h1, fun b e => Nat.lt_of_lt_of_le (hb b e) hh, h2, h3, fun b e => ⟨(h4 b e).1, Nat.lt_of_lt_of_le (h4 b e).2.1 hh, (h4 b e).2.2⟩, h5⟩
theorem GOwn.lo {H : Hp} {lo lo' hi : Nat} {d : List (List Bool)} {c : C} (h : GOwn H lo hi d c) (hh : lo' ≤ lo) : GOwn H lo' hi d c := by
  obtain ⟨cs, bs, h1, hb, h2, h3, h4, h5⟩ := h
  refine ⟨cs, bs, ⟨h1.1, ?_⟩, hb, h2, h3, fun b e => ⟨Nat.le_trans hh (h4 b e).1, (h4 b e).2⟩, h5⟩
  rcases h1.2 with h | ⟨b, ex, hv, hl, hr⟩
  · exact .inl h
  · exact .inr ⟨b, ex, hv, Nat.le_trans hh hl, hr⟩
theorem GOwn.snoc {H : Hp} {lo hi : Nat} {d : List (List Bool)} {c : C} (h : GOwn H lo hi d c) (hw : WF H) {b : Nat} {r : List Bool} (hlo : lo ≤ hi) (hb : hi ≤ b) (hr : Row H b (r.map .bool)) (hd : d.length < 1000000) :
    ∃ c' H', aAppend H 1 24 (.one c) 1 [.slc b 0 r.length r.length 1 true] = some (.one c', H') ∧ GOwn H' lo H'.nx (d ++ [r]) c' ∧ (∀ b', b' < H.nx → (b' < lo ∨ hi ≤ b') → H'.get b' = H.get b') ∧ H'.nx = H.nx + 1 ∧ WF H' := by
  obtain ⟨cs, bs, h1, hbd, h2, h3, h4, h5⟩ := h
  have hbn : b < H.nx := hr.lt hw
  have hlob : ∀ x, ownB (.one c) = some x → lo ≤ x := by
    intro x e
    rcases h1.2 with ⟨h, _⟩ | ⟨b', ex, hv, hl, _⟩
    · rw [h] at e; cases e
    · rw [hv] at e; obtain rfl := Option.some.inj e; exact hl
  obtain ⟨v', H', e1, e2, e3, e4, e5, e6⟩ := h1.append (bytes := 24) hw (by omega) (m := 1) (news := [.slc b 0 r.length r.length 1 true]) rfl (by omega) (by omega) (by omega)
  obtain ⟨c', rfl⟩ : ∃ c', v' = .one c' := by
    rcases e2.2 with ⟨h, _⟩ | ⟨b', ex, hv, _⟩
    · exact ⟨_, h⟩
    · exact ⟨_, hv⟩
  have hold : ∀ b', b' < H.nx → ownB (.one c) ≠ some b' → H'.get b' = H.get b' := fun b' h1 h2 => e4 b' (by omega) h2
  refine ⟨c', H', e1, ⟨cs ++ [.slc b 0 r.length r.length 1 true], bs ++ [b], by simpa using e2, fun x hx => ?_, by simp [h2], ?_, fun x hx => ?_, fun i r' hr' => ?_⟩, fun b' hb' hc => hold b' hb' fun e => ?_, e5, e6⟩
  · rw [e3] at hx; obtain rfl := Option.some.inj hx; omega
  · rw [List.nodup_append]
    refine ⟨h3, by simp, fun x hx y hy e => ?_⟩
    simp at hy
    have := (h4 x hx).2.1
    omega
  · rcases List.mem_append.1 hx with hx | hx
    · have := h4 x hx
      exact ⟨this.1, by omega, by rw [e3]; intro e; have := Option.some.inj e; omega⟩
    · simp at hx
      subst hx
      exact ⟨by omega, by omega, by rw [e3]; intro e; have := Option.some.inj e; omega⟩
  · by_cases hi' : i < d.length
    · rw [List.getElem?_append_left hi'] at hr'
      obtain ⟨x, g1, g2, g3⟩ := h5 i r' hr'
      have hx := h4 x (List.mem_of_getElem? g1)
      refine ⟨x, by rw [List.getElem?_append_left (by omega)]; exact g1, ?_, g3.same (hold x (g3.lt hw) hx.2.2)⟩
      rw [List.getElem?_append_left (List.getElem?_eq_some_iff.1 g2).1]; exact g2
    · have hid : i = d.length := by
        have := (List.getElem?_eq_some_iff.1 hr').1
        simp at this
        omega
      subst hid
      simp at hr'
      subst hr'
      have hcl : cs.length = d.length := by rw [h1.1]; simp
      refine ⟨b, by rw [← h2]; simp, by rw [← hcl]; simp, hr.same (hold b hbn fun e => ?_)⟩
      have := hbd b e
      omega
  · have := hbd b' e
    have := hlob b' e
    omega
end Go.Ab
namespace Go.Ab
theorem validB_blank (w h : Nat) (hw : w ≤ 200) (hh : h ≤ 200) : validB w h (List.replicate h (List.replicate w false)) = true := by
  simp [validB]
  omega
/-- a row of a grid is exchanged -/
theorem Own.setAt {H : Hp} {lo n : Nat} {cs : List C} {c : C} (h : Own H lo 1 n cs (.one c)) {i : Nat} (hi : i < n) (kd : IntKind) (x : C) : ∃ b H', ownB (.one c) = some b ∧ lo ≤ b ∧ iaddrV 1 (.one c) (.one (.int kd i)) = some (.one (.ptr b i)) ∧ H.store b i x = some H' ∧ Own H' lo 1 n (cs.set i x) (.one c) ∧ (∀ b', b' ≠ b → H'.get b' = H.get b') ∧ H'.nx = H.nx := by
  obtain ⟨hl, h⟩ := h
  rcases h with ⟨_, rfl⟩ | ⟨b, ex, hv, hlo, hr⟩
  · omega
  · obtain ⟨H', e1, e2, e3, e4⟩ := hr.store (i := i) (by omega) x
    obtain rfl := V.one.inj hv
    refine ⟨b, H', rfl, hlo, by simp [iaddrV]; omega, e1, ⟨by simp [hl], .inr ⟨b, ex, rfl, hlo, e2⟩⟩, e3, e4⟩
end Go.Ab
namespace Go.Ab
theorem GOwn.setRow {H : Hp} {lo hi : Nat} {d : List (List Bool)} {c : C} (h : GOwn H lo hi d c) {i b : Nat} {r : List Bool} (hi' : i < d.length) (hb : hi ≤ b) (hr : Row H b (r.map .bool)) (kd : IntKind) : ∃ bo H', lo ≤ bo ∧ bo < hi ∧ iaddrV 1 (.one c) (.one (.int kd i)) = some (.one (.ptr bo i)) ∧ H.store bo i (.slc b 0 r.length r.length 1 true) = some H' ∧ (∀ b', b' ≠ bo → H'.get b' = H.get b') ∧ H'.nx = H.nx ∧
    ∀ H'' : Hp, (∀ b', (lo ≤ b' ∧ b' < hi) ∨ b' = b → H''.get b' = H'.get b') → Dots H'' (d.set i r) (.one c) := by
  obtain ⟨cs, bs, h1, hbd, h2, h3, h4, h5⟩ := h
  obtain ⟨bo, H', e1, e2, e3, e4, e5, e6, e7⟩ := h1.setAt hi' kd (.slc b 0 r.length r.length 1 true)
  have hbo := hbd bo e1
  refine ⟨bo, H', e2, hbo, e3, e4, e6, e7, fun H'' hh => ?_⟩
  have o2 : Own H'' lo 1 d.length (cs.set i (.slc b 0 r.length r.length 1 true)) (.one c) := e5.same fun x hx => by
    rw [e1] at hx; obtain rfl := Option.some.inj hx
    exact hh _ (.inl ⟨e2, hbo⟩)
  have hcl : cs.length = d.length := by rw [h1.1]; simp
  refine ⟨cs.set i (.slc b 0 r.length r.length 1 true), by simpa using o2.sl, All2.mk (by simp [hcl]) fun j r' x' hr' hx' => ?_⟩
  by_cases e : j = i
  · subst e
    rw [List.getElem?_set_self (by omega)] at hr' hx'
    obtain rfl := Option.some.inj hr'
    obtain rfl := Option.some.inj hx'
    exact ((hr.same (e6 b (by omega))).same (hh b (.inr rfl))).sl (by simp)
  · rw [List.getElem?_set_ne (fun h => e h.symm)] at hr' hx'
    obtain ⟨bj, g1, g2, g3⟩ := h5 j r' hr'
    rw [g2] at hx'
    obtain rfl := Option.some.inj hx'
    have hj := h4 bj (List.mem_of_getElem? g1)
    exact ((g3.same (e6 bj (fun h => hj.2.2 (by rw [e1, h])))).same (hh bj (.inl ⟨hj.1, hj.2.1⟩))).sl (by simp)
theorem wrap_u8 (z : Int) : 0 ≤ IntKind.u8.wrap z ∧ IntKind.u8.wrap z < 256 := by
  simp [IntKind.wrap, IntKind.signed, IntKind.bits]
  omega
theorem tmod_bd (a : Int) {b : Int} (hb : 0 < b) : -b < a.tmod b ∧ a.tmod b < b := by
  refine ⟨?_, Int.tmod_lt_of_pos a hb⟩
  rcases Int.le_total 0 a with h | h
  · have := Int.tmod_nonneg b h; omega
  · have h1 : (-a).tmod b < b := Int.tmod_lt_of_pos _ hb
    rw [Int.neg_tmod] at h1
    omega
end Go.Ab
namespace Go.Ab
theorem setL_append : ∀ (pre cs rest : List C), cs.length = rest.length → setL (pre ++ rest) pre.length cs = pre ++ cs
  | _, [], [], _ => by simp [setL]
  | pre, c :: cs, r :: rest, h => by
    simp only [setL]
    have e : (pre ++ r :: rest).set pre.length c = (pre ++ [c]) ++ rest := by simp
    rw [e]
    have := setL_append (pre ++ [c]) cs rest (by simpa using h)
    simp only [List.length_append, List.length_cons, List.length_nil] at this
    rw [this]; simp
  | _, [], _ :: _, h => by simp at h
  | _, _ :: _, [], h => by simp at h
theorem setL_all (cs z : List C) (h : cs.length = z.length) : setL z 0 cs = cs := by simpa using setL_append [] cs z h
/-- a new variable of several cells, and its first value -/
theorem new_var {H : Hp} (hw : WF H) (z cs : List C) (hn : cs.length = z.length) : ∃ H3, (H.push (.row z.length z .lf true)).stores H.nx 0 cs = some H3 ∧ WF H3 ∧ Ext H H3 ∧ Row H3 H.nx cs ∧ H3.nx = H.nx + 1 := by
  obtain ⟨hw1, hx, hb⟩ := new_box hw z rfl
  obtain ⟨H3, s1, s2, s3, s4⟩ := hb.stores (cs := cs) (i := 0) (by omega)
  rw [setL_all cs z hn] at s2
  refine ⟨H3, s1, fun b bk h => ?_, ⟨fun b bk h => ?_, by rw [s4]; simp⟩, s2, by rw [s4]; simp⟩
  · rw [s4]
    by_cases e : b = H.nx
    · subst e; simp
    · rw [s3 b e] at h; exact hw1 b bk h
  · rw [s3 b (by have := hw b bk h; omega)]
    exact hx.get b bk h
end Go.Ab
namespace Go.Ab
/-- A LIST OF POINTS THAT THE CALL MADE. -/
def POwn (H : Hp) (lo hi : Nat) (l : List Pt) (v : V) : Prop := Own H lo 2 l.length (ptsC l) v ∧ ∀ b, ownB v = some b → lo ≤ b ∧ b < hi
theorem POwn.pts {H : Hp} {lo hi : Nat} {l : List Pt} {v : V} (h : POwn H lo hi l v) : Pts H l v := h.1.sl
theorem POwn.same {H H' : Hp} {lo hi : Nat} {l : List Pt} {v : V} (h : POwn H lo hi l v) (hg : ∀ b, ownB v = some b → H'.get b = H.get b) : POwn H' lo hi l v := ⟨h.1.same hg, h.2⟩
theorem POwn.mono {H : Hp} {lo lo' hi hi' : Nat} {l : List Pt} {v : V} (h : POwn H lo hi l v) (hlo : lo' ≤ lo) (hhi : hi ≤ hi') : POwn H lo' hi' l v := by
  refine ⟨⟨h.1.1, ?_⟩, fun b hb => by have := h.2 b hb; omega⟩
  rcases h.1.2 with h | ⟨b, ex, hv, hl, hr⟩
  · exact .inl h
  · exact .inr ⟨b, ex, hv, by omega, hr⟩
theorem POwn.nils (H : Hp) (lo hi : Nat) : POwn H lo hi [] (.one .nils) := ⟨Own.nil H lo 2, fun b h => by cases h⟩
/-- the empty literal -/
theorem POwn.none {H : Hp} {lo hi b : Nat} (hb : H.get b = some (.row 0 [] .lf true)) (h1 : lo ≤ b) (h2 : b < hi) : POwn H lo hi [] (.one (.slc b 0 0 0 2 true)) :=
  ⟨⟨rfl, .inr ⟨b, true, rfl, h1, ⟨[], .lf, hb⟩, rfl⟩⟩, fun x hx => by obtain rfl := Option.some.inj hx; exact ⟨h1, h2⟩⟩
theorem POwn.append1 {H H1 : Hp} {lo hi : Nat} {l : List Pt} {v : V} {bb : Nat} {p : Pt} (h : POwn H lo hi l v) (hhi : hi ≤ H.nx) (hw1 : WF H1) (hold : ∀ b, b < H.nx → H1.get b = H.get b) (hnx : H.nx ≤ H1.nx) (hbb : H1.get bb = some (.row 2 (ptC p) .lf true)) (hlo : lo ≤ H.nx) (hlen : l.length < 1000000000) :
    ∃ v' H', srcCells H1 2 (.one (.slc bb 0 1 1 2 true)) = some (1, ptC p) ∧ aAppend H1 2 16 v 1 (ptC p) = some (v', H') ∧ POwn H' lo H'.nx (l ++ [p]) v' ∧ (∀ b, b < H.nx → ownB v ≠ some b → H'.get b = H.get b) ∧ H.nx ≤ H'.nx ∧ WF H' := by
  have hsrc : H1.loads bb 0 (1 * 2) = some (ptC p) := loads_row (cs := ptC p) (rw := true) hbb
  have h1 : Own H1 lo 2 l.length (ptsC l) v := h.1.same fun b hb => hold b (by have := h.2 b hb; omega)
  obtain ⟨v', H', e1, e2, e3, e4, e5, e6⟩ := h1.append (bytes := 16) hw1 (by omega) (m := 1) (news := ptC p) rfl (by omega) (by omega) (by omega)
  refine ⟨v', H', src_row hsrc, e1, ⟨?_, fun b hb => ?_⟩, fun b hb hne => ?_, by omega, e6⟩
  · have : ptsC (l ++ [p]) = ptsC l ++ ptC p := by simp [ptsC]
    rw [this, List.length_append]
    exact e2
  · rw [e3] at hb; obtain rfl := Option.some.inj hb; omega
  · rw [e4 b (by omega) hne, hold b hb]
end Go.Ab
namespace Go.Ab
theorem POwn.one {H : Hp} {lo hi : Nat} {l : List Pt} {v : V} (h : POwn H lo hi l v) : ∃ c, v = .one c := by
  rcases h.1.2 with ⟨h, _⟩ | ⟨b, ex, hv, _⟩
  · exact ⟨_, h⟩
  · exact ⟨_, hv⟩
end Go.Ab
namespace Go.Ab
theorem setL_mid : ∀ (pre old cs rest : List C), cs.length = old.length → setL (pre ++ (old ++ rest)) pre.length cs = pre ++ (cs ++ rest)
  | _, [], [], _, _ => by simp [setL]
  | pre, o :: old, c :: cs, rest, h => by
    simp only [setL]
    have e : (pre ++ (o :: old ++ rest)).set pre.length c = (pre ++ [c]) ++ (old ++ rest) := by simp
    rw [e]
    have := setL_mid (pre ++ [c]) old cs rest (by simpa using h)
    simp only [List.length_append, List.length_cons, List.length_nil] at this
    rw [this]; simp
  | _, [], _ :: _, _, h => by simp at h
  | _, _ :: _, [], _, h => by simp at h
/-- a list with room: the first cells are its points -/
def PRoom (H : Hp) (b cap : Nat) (l : List Pt) : Prop := ∃ rest, rest.length = (cap - l.length) * 2 ∧ l.length ≤ cap ∧ Row H b (ptsC l ++ rest)
theorem PRoom.append {H : Hp} {b cap : Nat} {l : List Pt} (h : PRoom H b cap l) (hc : l.length < cap) (bytes : Nat) (ex : Bool) (p : Pt) : ∃ H', aAppend H 2 bytes (.one (.slc b 0 l.length cap 2 ex)) 1 (ptC p) = some (.one (.slc b 0 (l.length + 1) cap 2 ex), H') ∧ PRoom H' b cap (l ++ [p]) ∧ (∀ b', b' ≠ b → H'.get b' = H.get b') ∧ H'.nx = H.nx := by
  obtain ⟨rest, h1, h2, h3⟩ := h
  obtain ⟨H', e1, e2, e3, e4⟩ := h3.stores (cs := ptC p) (i := l.length * 2) (by simp [ptsC_len, h1, ptC]; omega)
  refine ⟨H', ?_, ⟨rest.drop 2, by simp [h1]; omega, by simp; omega, ?_⟩, e3, e4⟩
  · simp only [aAppend]
    rw [if_neg (by simp), if_pos (by omega), Nat.zero_add, e1]
    rfl
  · have e5 : ptsC (l ++ [p]) = ptsC l ++ ptC p := by simp [ptsC]
    have e6 : ptsC l ++ rest = ptsC l ++ (rest.take 2 ++ rest.drop 2) := by rw [List.take_append_drop]
    rw [e6, ← ptsC_len, setL_mid _ _ _ _ (by simp [ptC, h1]; omega)] at e2
    rw [e5, List.append_assoc]
    exact e2
end Go.Ab
namespace Go.Ab
theorem loads_some {H : Hp} {b n : Nat} {z : List C} {m : T C} {rw : Bool} (h : H.get b = some (.row n z m rw)) : ∀ (k o : Nat), o + k ≤ n → ∃ cs, cs.length = k ∧ H.loads b o k = some cs
  | 0, o, _ => ⟨[], rfl, rfl⟩
  | k + 1, o, hk => by
    obtain ⟨cs, h1, h2⟩ := loads_some h k (o + 1) (by omega)
    have hc : H.cell b o = some ((m.get o).getD (z.getD (o % z.length) .nilp)) := by simp [Hp.cell, h, B.cell, show o < n by omega]
    exact ⟨(m.get o).getD (z.getD (o % z.length) .nilp) :: cs, by simp [h1], by simp only [Hp.loads, hc, h2]⟩
theorem Row.some {H : Hp} {b n : Nat} {z : List C} {m : T C} (h : H.get b = some (.row n z m true)) : ∃ cs, cs.length = n ∧ Row H b cs := by
  obtain ⟨cs, h1, h2⟩ := loads_some h n 0 (by omega)
  exact ⟨cs, h1, ⟨z, m, by rw [h1]; exact h⟩, by rw [h1]; exact h2⟩
theorem PRoom.new {H : Hp} {b cap : Nat} {z : List C} (h : H.get b = some (.row (cap * 2) z .lf true)) : PRoom H b cap [] := by
  obtain ⟨cs, h1, h2⟩ := Row.some h
  exact ⟨cs, by simp [h1], by simp, by simpa [ptsC] using h2⟩
theorem PRoom.same {H H' : Hp} {b cap : Nat} {l : List Pt} (h : PRoom H b cap l) (hg : H'.get b = H.get b) : PRoom H' b cap l := by
  obtain ⟨r, h1, h2, h3⟩ := h
  exact ⟨r, h1, h2, h3.same hg⟩
theorem PRoom.full {H : Hp} {lo hi b cap : Nat} {l : List Pt} {ex : Bool} (h : PRoom H b cap l) (hc : l.length = cap) (h1 : lo ≤ b) (h2 : b < hi) : POwn H lo hi l (.one (.slc b 0 l.length cap 2 ex)) := by
  obtain ⟨r, g1, g2, g3⟩ := h
  have : r = [] := List.eq_nil_of_length_eq_zero (by rw [g1, hc]; simp)
  subst this
  rw [List.append_nil] at g3
  subst hc
  exact ⟨⟨ptsC_len l, .inr ⟨b, ex, rfl, h1, g3⟩⟩, fun x hx => by obtain rfl := Option.some.inj hx; exact ⟨h1, h2⟩⟩
end Go.Ab

namespace Go.Ab.Fn
open Go.Ab Go.Proofs
set_option linter.unusedSimpArgs false

theorem valid_ro {H : Hp} {d : List (List Bool)} {w h : Int} {c : C} (hg : Dots H d (.one c)) : ACalls Tryd.prog 1 12 [.agg [.int .i64 w, .int .i64 h, c]] H fun v _ => v = .bool (validB w h d) := by
  refine pfn_ok cp12 (by simp [f12]) fun hwf => ?_
  refine ps_seq (ps_ops0 mix ?_)
  refine pw_a rfl rfl (pw_mvc (pw_nil ?_))
  obtain ⟨hw1, hx, hb⟩ := new_box hwf [.int .i64 w, .int .i64 h, c] rfl
  have hg1 := hg.le hx.le
  have c0 := hb.cell (i := 0) rfl
  have c1 := hb.cell (i := 1) rfl
  have c2 := hb.cell (i := 2) rfl
  have hl := hg1.len
  refine ps_seq (ps_seq (ps_ops0 mix ?_))
  unfold f12r1
  repeat (first | refine pw_pick rfl rfl (by first | exact fun _ => rfl | exact fun h => (by simp only [if_pos h]; rfl) | exact fun h => (by simp only [if_pos h]; assumption)) (by first | exact fun _ => rfl | exact fun h => (by simp only [if_pos h]; rfl) | exact fun h => (by simp only [if_pos h]; assumption)) ?_ | refine pw_mvt rfl ?_ | refine pw_p rfl rfl ?_ | refine pw_l1 rfl rfl (by assumption) ?_ | refine pw_pg rfl rfl (by first | exact fun _ => rfl | exact fun _ => (by assumption) | exact fun h => (by simp only [if_pos h]; rfl) | exact fun h => (by simp only [if_pos h]; assumption)) ?_ | refine pw_lg1 rfl rfl (by first | exact fun _ => rfl | exact fun h => (by simp only [if_pos h]; rfl) | exact fun h => (by simp only [if_pos h]; assumption)) (by assumption) ?_)
  refine pw_nil ?_
  refine ps_sub (SubE.cons (k := 1) rfl (SubE.cons (k := 30) rfl (SubE.nil _))) ?_
  generalize (H.push _) = H1 at *
  generalize H.nx = b1 at *
  refine ps_if rfl rfl (fun ht => ?_) (fun ht => ?_)
  · refine ps_seq (ps_ops0 mix (pw_mvc (pw_nil (ps_ret ⟨_, rfl, ?_⟩))))
    congr 2
    symm
    simp only [validB]
    simp at ht ⊢
    omega
  · refine ps_skip (ps_seq (ps_seq (ps_ops0 mix ?_)))
    simp at ht
    unfold f12r3
    repeat (first | refine pw_mvc ?_ | refine pw_p rfl rfl ?_ | refine pw_l1 rfl rfl (by assumption) ?_ | refine pw_p rfl (by assumption) ?_)
    refine pw_nil (ps_block (ps_loop (fun m E H' => H' = H1 ∧ ∃ k : Nat, k + m = d.length ∧ E = [(1, .one (.ptr b1 0)), (32, .one c), (33, .int d.length), (34, .int k)] ∧ ∀ i r, i < k → d[i]? = some r → (r.length : Int) = w) (m := d.length) ⟨_, (SubE.cons (k := 1) rfl (SubE.cons (k := 32) rfl (SubE.cons (k := 33) rfl (SubE.cons (k := 34) rfl (SubE.nil _))))), rfl, 0, by omega, rfl, by omega⟩ ?_))
    rintro m E H' hwf' ⟨rfl, k, hk, rfl, hno⟩
    refine ps_seq (ps_ops0 mix ?_)
    unfold f12r4
    repeat (first | refine pw_p rfl rfl ?_)
    refine pw_nil (ps_seq (ps_if rfl rfl (fun ht2 => ?_) (fun ht2 => ?_)))
    · refine ps_skip (ps_seq (ps_block (ps_seq (ps_ops0 mix ?_))))
      simp at ht2
      obtain ⟨r, hr⟩ : ∃ r, d[k]? = some r := ⟨_, List.getElem?_eq_getElem (by omega)⟩
      obtain ⟨b, o, cr, e1, e2, e3⟩ := hg1.at hr .i64
      have e4 := e3.len
      unfold f12r5
      repeat (first | refine pw_mvt rfl ?_ | refine pw_l1 rfl rfl (by assumption) ?_ | refine pw_p rfl (by assumption) ?_)
      refine pw_nil (ps_seq (ps_ops0 mix ?_))
      unfold f12r6
      repeat (first | refine pw_mvt rfl ?_ | refine pw_p rfl rfl ?_ | refine pw_l1 rfl rfl (by assumption) ?_ | refine pw_p rfl (by assumption) ?_)
      refine pw_nil (ps_if rfl rfl (fun ht3 => ?_) (fun ht3 => ?_))
      · refine ps_seq (ps_ops0 mix (pw_mvc (pw_nil (ps_ret ⟨_, rfl, ?_⟩))))
        congr 2
        symm
        simp only [validB]
        simp at ht3 ⊢
        intro _ _ _ _ _
        exact ⟨r, List.mem_of_getElem? hr, ht3⟩
      · refine ps_skip (ps_ops0 mix ?_)
        unfold f12r8
        repeat (first | refine pw_mvt rfl ?_ | refine pw_p rfl rfl ?_)
        refine pw_nil ⟨m - 1, by omega, _, (SubE.cons (k := 1) rfl (SubE.cons (k := 32) rfl (SubE.cons (k := 33) rfl (SubE.cons (k := 34) rfl (SubE.nil _))))), rfl, k + 1, by omega, ?_, ?_⟩
        · rw [wrap_i64 (by omega) (by omega)]; rfl
        · intro i r' hi hr'
          by_cases e : i = k
          · subst e
            rw [hr] at hr'
            obtain rfl := Option.some.inj hr'
            simpa using ht3
          · exact hno i r' (by omega) hr'
    · refine ps_exit (ps_seq (ps_ops0 mix (pw_mvc (pw_nil (ps_ret ⟨_, rfl, ?_⟩)))))
      simp at ht2
      congr 2
      symm
      simp only [validB]
      simp
      refine ⟨by omega, fun r hr => ?_⟩
      obtain ⟨i, hi⟩ := List.getElem?_of_mem hr
      exact hno i r (by have := (List.getElem?_eq_some_iff.1 hi).1; omega) hi
theorem valid_ok {H : Hp} {d : List (List Bool)} {w h : Int} {c : C} (hg : Dots H d (.one c)) : ACalls Tryd.prog 1 12 [.agg [.int .i64 w, .int .i64 h, c]] H fun v H' => v = .bool (validB w h d) ∧ H' = H :=
  (ACalls.pure (valid_ro (hg.le (Le.ro H))) (fun v _ h => by rw [h]; rfl)).mono fun v H' ⟨⟨_, h⟩, e⟩ => ⟨h, e⟩
end Go.Ab.Fn

namespace Go.Ab.Fn
open Go.Ab Go.Proofs
set_option linter.unusedSimpArgs false

theorem rvalid_ro {H : Hp} {d : List (List Bool)} {w h : Int} {c : C} (hg : Dots H d (.one c)) : ACalls Tryd.prog 1 13 [.agg [.int .i64 w, .int .i64 h, c]] H fun v _ => v = .bool (validB w h d) := by
  refine pfn_ok cp13 (by simp [f13]) fun hwf => ?_
  refine ps_seq (ps_ops0 mix ?_)
  refine pw_a rfl rfl (pw_mvc (pw_nil ?_))
  obtain ⟨hw1, hx, hb⟩ := new_box hwf [.int .i64 w, .int .i64 h, c] rfl
  have hg1 := hg.le hx.le
  have c0 := hb.cell (i := 0) rfl
  have c1 := hb.cell (i := 1) rfl
  have c2 := hb.cell (i := 2) rfl
  have hl := hg1.len
  refine ps_seq (ps_seq (ps_ops0 mix ?_))
  unfold f13r1
  repeat (first | refine pw_pick rfl rfl (by first | exact fun _ => rfl | exact fun h => (by simp only [if_pos h]; rfl) | exact fun h => (by simp only [if_pos h]; assumption)) (by first | exact fun _ => rfl | exact fun h => (by simp only [if_pos h]; rfl) | exact fun h => (by simp only [if_pos h]; assumption)) ?_ | refine pw_mvt rfl ?_ | refine pw_p rfl rfl ?_ | refine pw_l1 rfl rfl (by assumption) ?_ | refine pw_pg rfl rfl (by first | exact fun _ => rfl | exact fun _ => (by assumption) | exact fun h => (by simp only [if_pos h]; rfl) | exact fun h => (by simp only [if_pos h]; assumption)) ?_ | refine pw_lg1 rfl rfl (by first | exact fun _ => rfl | exact fun h => (by simp only [if_pos h]; rfl) | exact fun h => (by simp only [if_pos h]; assumption)) (by assumption) ?_)
  refine pw_nil ?_
  refine ps_sub (SubE.cons (k := 1) rfl (SubE.cons (k := 29) rfl (SubE.nil _))) ?_
  generalize (H.push _) = H1 at *
  generalize H.nx = b1 at *
  refine ps_if rfl rfl (fun ht => ?_) (fun ht => ?_)
  · refine ps_seq (ps_ops0 mix (pw_mvc (pw_nil (ps_ret ⟨_, rfl, ?_⟩))))
    congr 2
    symm
    simp only [validB]
    simp at ht ⊢
    omega
  · refine ps_skip (ps_seq (ps_seq (ps_ops0 mix ?_)))
    simp at ht
    unfold f13r3
    repeat (first | refine pw_mvc ?_)
    refine pw_nil (ps_block (ps_loop (fun m E H' => (∀ b i, H'.cell b i = H1.cell b i) ∧ ∃ k : Nat, k + m = d.length ∧ E = [(1, .one (.ptr b1 0)), (3, .int k)] ∧ ∀ i r, i < k → d[i]? = some r → (r.length : Int) = w) (m := d.length) ⟨_, (SubE.cons (k := 1) rfl (SubE.cons (k := 3) rfl (SubE.nil _))), fun _ _ => rfl, 0, by omega, rfl, by omega⟩ ?_))
    rintro m E H' hwf' ⟨hH, k, hk, rfl, hno⟩
    refine ps_seq (ps_seq (ps_ops0 mix ?_))
    replace hg1 := hg1.le (fun b i c h => by rw [hH]; exact h : Le H1 H')
    rw [← hH] at c0 c1 c2
    unfold f13r4
    repeat (first | refine pw_mvt rfl ?_ | refine pw_p rfl rfl ?_ | refine pw_l1 rfl rfl (by assumption) ?_)
    refine pw_nil (ps_if rfl rfl (fun ht2 => ?_) (fun ht2 => ?_))
    · refine ps_skip (ps_seq (ps_block (ps_seq (ps_ops mix ?_))))
      simp at ht2
      obtain ⟨r, hr⟩ : ∃ r, d[k]? = some r := ⟨_, List.getElem?_eq_getElem (by omega)⟩
      obtain ⟨b, o, cr, e1, e2, e3⟩ := hg1.at hr .i64
      have e4 := e3.len
      unfold f13r5
      repeat (first | refine pw_mvt rfl ?_ | refine pw_p rfl rfl ?_ | refine pw_l1 rfl rfl (by assumption) ?_ | refine pw_p rfl (by assumption) ?_)
      refine pw_nil (ps_if rfl rfl (fun ht3 => ?_) (fun ht3 => ?_))
      · refine ps_seq (ps_ops0 mix (pw_mvc (pw_nil (ps_ret ⟨_, rfl, ?_⟩))))
        congr 2
        symm
        simp only [validB]
        simp at ht3 ⊢
        intro _ _ _ _ _
        exact ⟨r, List.mem_of_getElem? hr, ht3⟩
      · refine ps_skip (ps_ops0 mix ?_)
        unfold f13r7
        repeat (first | refine pw_mvt rfl ?_ | refine pw_p rfl rfl ?_)
        refine pw_nil ⟨m - 1, by omega, _, (SubE.cons (k := 1) rfl (SubE.cons (k := 3) rfl (SubE.nil _))), fun b i => hH b i, k + 1, by omega, ?_, ?_⟩
        · rw [wrap_i64 (by omega) (by omega)]; rfl
        · intro i r' hi hr'
          by_cases e : i = k
          · subst e
            rw [hr] at hr'
            obtain rfl := Option.some.inj hr'
            simpa using ht3
          · exact hno i r' (by omega) hr'
    · refine ps_exit (ps_seq (ps_ops0 mix (pw_mvc (pw_nil (ps_ret ⟨_, rfl, ?_⟩)))))
      simp at ht2
      congr 2
      symm
      simp only [validB]
      simp
      refine ⟨by omega, fun r hr => ?_⟩
      obtain ⟨i, hi⟩ := List.getElem?_of_mem hr
      exact hno i r (by have := (List.getElem?_eq_some_iff.1 hi).1; omega) hi
theorem rvalid_ok {H : Hp} {d : List (List Bool)} {w h : Int} {c : C} (hg : Dots H d (.one c)) : ACalls Tryd.prog 1 13 [.agg [.int .i64 w, .int .i64 h, c]] H fun v H' => v = .bool (validB w h d) ∧ H' = H :=
  (ACalls.pure (rvalid_ro (hg.le (Le.ro H))) (fun v _ h => by rw [h]; rfl)).mono fun v H' ⟨⟨_, h⟩, e⟩ => ⟨h, e⟩
end Go.Ab.Fn

namespace Go.Ab.Fn
open Go.Ab Go.Proofs
set_option linter.unusedSimpArgs false

def blank (w h : Nat) : List (List Bool) := List.replicate h (List.replicate w false)
theorem blank_succ (w k : Nat) : blank w (k + 1) = blank w k ++ [List.replicate w false] := by simp [blank, List.replicate_succ']

theorem rnew_ro {H : Hp} {w h : Int} {W K : Nat} (hW : min (max w 0) 200 = W) (hK : min (max h 0) 200 = K) : ACalls Tryd.prog 1 11 [.int w, .int h] H fun v H' => ∃ c, v = .agg [.int .i64 W, .int .i64 K, c] ∧ GOwn H' H.nx H'.nx (blank W K) c := by
  refine pfn_ok cp11 (by simp [f11]) fun hwf => ?_
  refine ps_seq (ps_ops0 mix (pw_a rfl rfl (pw_nil ?_)))
  obtain ⟨hw1, hx, hb⟩ := new_box hwf [.int .i64 0, .int .i64 0, .nils] rfl
  refine ps_seq (ps_ops0 mix ?_)
  unfold f11r1
  repeat (first | refine pw_mvt rfl ?_ | refine pw_max rfl rfl rfl ?_ | refine pw_min rfl rfl rfl ?_ | refine pw_p rfl rfl ?_)
  rw [hW, hK]
  obtain ⟨hw2, hx2, hb2⟩ := new_box hw1 [.int .i64 0, .int .i64 0, .nils] rfl
  obtain ⟨H3, s1, s2, s3, s4⟩ := hb2.stores (cs := [.int .i64 W, .int .i64 K, .nils]) (i := 0) (by simp)
  refine pw_a rfl rfl (pw_stn rfl rfl rfl rfl s1 trivial (pw_nil (ps_seq (ps_seq (ps_ops0 mix (pw_mvc (pw_nil ?_)))))))
  have hbx := (hb.ext hx2).same (s3 _ (by simp))
  have hn3 : H3.nx = H.nx + 2 := by rw [s4]; simp
  refine ps_block (ps_loop (fun m E H' => ∃ k : Nat, k + m = K ∧ ∃ c, E = [(4, .one (.ptr H.nx 0)), (5, .one (.ptr (H.nx + 1) 0)), (6, .int k)] ∧ H.nx + 2 ≤ H'.nx ∧ Row H' H.nx [.int .i64 0, .int .i64 0, .nils] ∧ Row H' (H.nx + 1) [.int .i64 W, .int .i64 K, c] ∧ GOwn H' (H.nx + 2) H'.nx (blank W k) c) (m := K) ⟨_, (SubE.cons (k := 4) rfl (SubE.cons (k := 5) rfl (SubE.cons (k := 6) rfl (SubE.nil _)))), 0, by omega, .nils, rfl, by omega, hbx, s2, GOwn.nil _ _ _⟩ ?_)
  rintro m E H' hwf' ⟨k, hk, c, rfl, hn, r4, r5, hg⟩
  have c0 := r5.cell (i := 0) rfl
  have c1 := r5.cell (i := 1) rfl
  have c2 := r5.cell (i := 2) rfl
  refine ps_seq (ps_seq (ps_ops0 mix ?_))
  unfold f11r3
  repeat (first | refine pw_mvt rfl ?_ | refine pw_p rfl rfl ?_ | refine pw_l1 rfl rfl (by assumption) ?_)
  refine pw_nil (ps_if rfl rfl (fun ht2 => ?_) (fun ht2 => ?_))
  · refine ps_skip (ps_seq (ps_block (ps_ops mix ?_)))
    unfold f11r4
    repeat (first | refine pw_p rfl rfl ?_ | refine pw_l1 rfl rfl (by assumption) ?_)
    simp at ht2
    have hW' : W ≤ 200 := by omega
    have hK' : K ≤ 200 := by omega
    refine pw_mki rfl rfl rfl (by omega) (by omega) (pw_b1i rfl rfl rfl ?_)
    have g4 : ∀ H2 : Hp, (∀ b, b < H'.nx → H2.get b = H'.get b) → GOwn H2 (H.nx + 2) H'.nx (blank W k) c := fun H2 h2 => hg.same fun b _ hb => h2 b hb
    generalize hH2 : Hp.add (Hp.add (Hp.skip H' 9) _ _) _ _ = H2
    have hold : ∀ b, b < H'.nx → H2.get b = H'.get b := fun b hb => by rw [← hH2, Hp.get_add_ne _ _ (by omega), Hp.get_add_ne _ _ (by omega), Hp.get_skip]
    have hrow : Row H2 (H'.nx + 4) ((List.replicate W false).map .bool) := by
      rw [List.map_replicate]
      refine Row.fill ?_
      rw [← hH2, Hp.get_add_ne _ _ (by omega), Hp.get_add_self, Nat.mul_one]
    have hsrc : H2.loads (H'.nx + 5) 0 (1 * 1) = some [.slc (H'.nx + 4) 0 W W 1 true] := by
      refine loads_row (cs := [.slc (H'.nx + 4) 0 W W 1 true]) (rw := true) ?_
      rw [← hH2, Hp.get_add_self]
    have hn2 : H2.nx = H'.nx + 9 := by rw [← hH2]; simp
    have hw2 : WF H2 := by
      intro b bk hb
      by_cases h1 : b < H'.nx
      · omega
      · rw [← hH2] at hb
        rw [Hp.get_add] at hb
        split at hb
        · omega
        · rw [Hp.get_add] at hb
          split at hb
          · omega
          · rw [Hp.get_skip] at hb
            have := hwf' b bk hb
            omega
    obtain ⟨c', H5, a1, a2, a3, a4, a5⟩ := (g4 H2 hold).snoc hw2 (r := List.replicate W false) hn (by omega) hrow (by simp [blank]; omega)
    rw [List.length_replicate] at a1
    refine pw_app rfl rfl rfl (src_row hsrc) a1 trivial ?_
    have r4' := (r4.same (hold _ (by omega))).same (a3 _ (by omega) (.inl (by omega)))
    have r5' := (r5.same (hold _ (by omega))).same (a3 _ (by omega) (.inl (by omega)))
    obtain ⟨H6, t1, t2, t3, t4⟩ := r5'.store (i := 2) (by simp) c'
    refine pw_p rfl rfl (pw_st1 rfl rfl rfl t1 trivial (pw_nil (ps_ops0 mix ?_)))
    unfold f11r5
    repeat (first | refine pw_mvt rfl ?_ | refine pw_p rfl rfl ?_)
    refine pw_nil ⟨m - 1, by omega, _, (SubE.cons (k := 4) rfl (SubE.cons (k := 5) rfl (SubE.cons (k := 6) rfl (SubE.nil _)))), k + 1, by omega, c', ?_, by omega, r4'.same (t3 _ (by omega)), t2, ?_⟩
    · rw [wrap_i64 (by omega) (by omega)]; rfl
    · rw [blank_succ, t4]
      exact a2.same fun b hb _ => t3 b (by omega)
  · simp at ht2
    obtain rfl : k = K := by omega
    obtain ⟨H6, t1, t2, t3, t4⟩ := r4.stores (cs := [.int .i64 W, .int .i64 k, c]) (i := 0) (by simp)
    refine ps_exit (ps_seq (ps_ops0 mix ?_))
    unfold f11r6
    refine pw_ln rfl rfl r5.2 (pw_stn rfl rfl rfl rfl t1 trivial (pw_nil (ps_ret ?_)))
    have hl : H6.loads H.nx 0 3 = some [.int .i64 W, .int .i64 k, c] := t2.2
    refine ⟨.agg [.int .i64 W, .int .i64 k, c], by simp [resultE, resEL, resE, f11, look, setE, aLoad, Opd.ev, hl, isOne], c, rfl, ?_⟩
    rw [t4]
    exact (hg.same fun b hb _ => t3 b (by omega)).lo (by omega)
theorem rnew_ok {H : Hp} {w h : Int} {W K : Nat} (hW : min (max w 0) 200 = W) (hK : min (max h 0) 200 = K) : ACalls Tryd.prog 1 11 [.int w, .int h] H fun v H' => ∃ c, v = .agg [.int .i64 W, .int .i64 K, c] ∧ GOwn H' H.nx H'.nx (blank W K) c ∧ Ext H H' :=
  (ACalls.grow (rnew_ro hW hK)).mono fun v H' ⟨H1, ⟨c, hv, hg⟩, e1, e2, e3, e4, _⟩ => ⟨c, hv, by
    subst e1
    exact (hg.same fun b hb _ => e4 b hb), e3, by subst e1; exact e2⟩
end Go.Ab.Fn

namespace Go.Ab.Fn
open Go.Ab Go.Proofs
set_option linter.unusedSimpArgs false

theorem wrap64 {n : Int} (h1 : -9223372036854775808 ≤ n) (h2 : n < 9223372036854775808) : IntKind.i64.wrap n = n := wrap_i64 h1 h2

/-- the absolute value, in grid -/
theorem abs_ok {H : Hp} {n : Int} (h : -4000000000000000000 < n) (h' : n < 4000000000000000000) : ACalls Tryd.prog 1 55 [.int n] H fun v H' => v = .int (max n (-n)) ∧ H' = H := by
  refine pfn_ok cp55 (by simp [f55]) fun hwf => ?_
  repeat (first | refine pw_mvt rfl ?_ | refine pw_mvc ?_ | refine pw_p rfl rfl ?_ | refine pw_nil ?_ | refine ps_seq ?_ | refine ps_ops0 mix ?_)
  refine ps_if rfl rfl (fun ht => ?_) (fun ht => ?_)
  · repeat (first | refine pw_mvt rfl ?_ | refine pw_p rfl rfl ?_ | refine pw_nil ?_ | refine ps_seq ?_ | refine ps_ops0 mix ?_)
    refine ps_ret ⟨_, rfl, ?_, rfl⟩
    simp at ht
    rw [wrap_i64 (by omega) (by omega)]
    congr 2; omega
  · repeat (first | refine pw_mvt rfl ?_ | refine pw_nil ?_ | refine ps_seq ?_ | refine ps_ops0 mix ?_ | refine ps_skip ?_)
    refine ps_ret ⟨_, rfl, ?_, rfl⟩
    simp at ht
    congr 2; omega
/-- the absolute value, in the reference -/
theorem rabs_ok {H : Hp} {n : Int} (h : -4000000000000000000 < n) (h' : n < 4000000000000000000) : ACalls Tryd.prog 1 43 [.int n] H fun v H' => v = .int (max n (-n)) ∧ H' = H := by
  refine pfn_ok cp43 (by simp [f43]) fun hwf => ?_
  repeat (first | refine pw_mvt rfl ?_ | refine pw_max rfl rfl rfl ?_ | refine pw_mvc ?_ | refine pw_p rfl rfl ?_ | refine pw_nil ?_ | refine ps_seq ?_ | refine ps_ops0 mix ?_)
  refine ps_ret ⟨_, rfl, ?_, rfl⟩
  rw [wrap_i64 (by omega) (by omega)]
  congr 3; omega

def far (p q : Pt) : Int := max (max (p.1 - q.1) (-(p.1 - q.1))) (max (p.2 - q.2) (-(p.2 - q.2)))
def Small (B : Int) (p : Pt) : Prop := -B ≤ p.1 ∧ p.1 ≤ B ∧ -B ≤ p.2 ∧ p.2 ≤ B

theorem apart_ro {H : Hp} {p q : Pt} (hp : Small 1000000000000000000 p) (hq : Small 1000000000000000000 q) : ACalls Tryd.prog 1 41 [ptV p, ptV q] H fun v _ => v = .int (far p q) := by
  obtain ⟨p1, p2, p3, p4⟩ := hp
  obtain ⟨q1, q2, q3, q4⟩ := hq
  refine pfn_ok cp41 (by simp [f41]) fun hwf => ?_
  obtain ⟨hw1, hx1, hb1⟩ := new_box hwf (ptC p) rfl
  obtain ⟨hw2, hx2, hb2⟩ := new_box hw1 (ptC q) rfl
  refine ps_seq (ps_ops0 mix (pw_a rfl rfl (pw_a rfl rfl (pw_mvc (pw_nil ?_)))))
  replace hb1 := hb1.ext hx2
  have c0 := hb1.cell (i := 0) rfl
  have c1 := hb1.cell (i := 1) rfl
  have d0 := hb2.cell (i := 0) rfl
  have d1 := hb2.cell (i := 1) rfl
  generalize ((H.push _).push _) = H2 at *
  refine ps_seq (ps_ops mix ?_)
  repeat (first | refine pw_p rfl rfl ?_ | refine pw_l1 rfl rfl (by assumption) ?_ | refine pw_lk1 rfl rfl (by assumption) ?_)
  rw [wrap_i64 (n := p.1 - q.1) (by omega) (by omega)]
  rw [wrap_i64 (n := p.2 - q.2) (by omega) (by omega)]
  refine pw_cfp rfl rfl (abs_ok (by omega) (by omega)) (by repeat (first | exact trivial | refine ⟨by assumption, ?_⟩)) (pw_cfp rfl rfl (abs_ok (by omega) (by omega)) (by repeat (first | exact trivial | refine ⟨by assumption, ?_⟩)) ?_)
  repeat (first | refine pw_mvt rfl ?_ | refine pw_max rfl rfl rfl ?_ | refine pw_nil ?_)
  exact ps_ret ⟨_, rfl, rfl⟩
theorem apart_ok {H : Hp} {p q : Pt} (hp : Small 1000000000000000000 p) (hq : Small 1000000000000000000 q) : ACalls Tryd.prog 1 41 [ptV p, ptV q] H fun v H' => v = .int (far p q) ∧ H' = H :=
  (ACalls.pure (apart_ro hp hq) (fun v _ h => by rw [h]; rfl)).mono fun v H' ⟨⟨_, h⟩, e⟩ => ⟨h, e⟩
theorem rfar_ro {H : Hp} {p q : Pt} (hp : Small 1000000000000000000 p) (hq : Small 1000000000000000000 q) : ACalls Tryd.prog 1 15 [ptV p, ptV q] H fun v _ => v = .int (far p q) := by
  obtain ⟨p1, p2, p3, p4⟩ := hp
  obtain ⟨q1, q2, q3, q4⟩ := hq
  refine pfn_ok cp15 (by simp [f15]) fun hwf => ?_
  obtain ⟨hw1, hx1, hb1⟩ := new_box hwf (ptC p) rfl
  obtain ⟨hw2, hx2, hb2⟩ := new_box hw1 (ptC q) rfl
  refine ps_seq (ps_ops0 mix (pw_a rfl rfl (pw_a rfl rfl (pw_mvc (pw_nil ?_)))))
  replace hb1 := hb1.ext hx2
  have c0 := hb1.cell (i := 0) rfl
  have c1 := hb1.cell (i := 1) rfl
  have d0 := hb2.cell (i := 0) rfl
  have d1 := hb2.cell (i := 1) rfl
  generalize ((H.push _).push _) = H2 at *
  refine ps_seq (ps_ops mix ?_)
  repeat (first | refine pw_p rfl rfl ?_ | refine pw_l1 rfl rfl (by assumption) ?_ | refine pw_lk1 rfl rfl (by assumption) ?_)
  rw [wrap_i64 (n := p.1 - q.1) (by omega) (by omega)]
  rw [wrap_i64 (n := p.2 - q.2) (by omega) (by omega)]
  refine pw_cfp rfl rfl (rabs_ok (by omega) (by omega)) (by repeat (first | exact trivial | refine ⟨by assumption, ?_⟩)) (pw_cfp rfl rfl (rabs_ok (by omega) (by omega)) (by repeat (first | exact trivial | refine ⟨by assumption, ?_⟩)) ?_)
  repeat (first | refine pw_mvt rfl ?_ | refine pw_max rfl rfl rfl ?_ | refine pw_nil ?_)
  exact ps_ret ⟨_, rfl, rfl⟩
theorem rfar_ok {H : Hp} {p q : Pt} (hp : Small 1000000000000000000 p) (hq : Small 1000000000000000000 q) : ACalls Tryd.prog 1 15 [ptV p, ptV q] H fun v H' => v = .int (far p q) ∧ H' = H :=
  (ACalls.pure (rfar_ro hp hq) (fun v _ h => by rw [h]; rfl)).mono fun v H' ⟨⟨_, h⟩, e⟩ => ⟨h, e⟩

end Go.Ab.Fn

/- Deep contracts: distances. -/
namespace Go.Ab.Fn
open Go.Ab Go.Proofs
set_option linter.unusedSimpArgs false

theorem d_sanity : DK 10 [] fun d => d = .bool true := DCalls.of_pure (vs := []) trivial rfl fun H hH => sanity_ok (hH 0 _ rfl)
theorem d_apart {p q : Pt2} (hp : Small 1000000000000000000 p) (hq : Small 1000000000000000000 q) : DK 41 [ptD p, ptD q] fun d => d = .int (far p q) := DCalls.of_pure (vs := [ptV p, ptV q]) ⟨rfl, rfl, trivial⟩ rfl fun H _ => apart_ok hp hq
theorem d_far {p q : Pt2} (hp : Small 1000000000000000000 p) (hq : Small 1000000000000000000 q) : DK 15 [ptD p, ptD q] fun d => d = .int (far p q) := DCalls.of_pure (vs := [ptV p, ptV q]) ⟨rfl, rfl, trivial⟩ rfl fun H _ => rfar_ok hp hq

theorem aEqs_pt (p q : Pt2) : aEqs [.int .i64 p.1, .int .i64 p.2] [.int .i64 q.1, .int .i64 q.2] [(0, false), (1, false)] = some (decide (p = q)) := by
  obtain ⟨p1, p2⟩ := p
  obtain ⟨q1, q2⟩ := q
  simp only [aEqs, aEq, List.getElem?_cons_zero, List.getElem?_cons_succ, if_true]
  by_cases h1 : p1 = q1
  · by_cases h2 : p2 = q2
    · subst h1; subst h2; simp
    · have e2 : (p2 == q2) = false := by simpa using h2
      subst h1; simp [h2, e2]
  · have e1 : (p1 == q1) = false := by simpa using h1
    simp [h1, e1]
/-- points that are compared -/
theorem d_eqpt {neg : Bool} {E : DEnv} {x y : Opd} {p q : Pt2} (hx : ro E x = some (.agg [.f (.c (.int .i64 p.1)), .f (.c (.int .i64 p.2))])) (hy : ro E y = some (.agg [.f (.c (.int .i64 q.1)), .f (.c (.int .i64 q.2))])) : dPure E (.eqs neg [(0, false), (1, false)] x y) = some (.bool (match neg with | true => !decide (p = q) | false => decide (p = q))) := by
  have ex : exO E x = some (.agg [.int .i64 p.1, .int .i64 p.2]) := by simp [exO, hx, exV, exL, exC]
  have ey : exO E y = some (.agg [.int .i64 q.1, .int .i64 q.2]) := by simp [exO, hy, exV, exL, exC]
  simp only [dPure, dEx, PureOp.opds, allB, isEx, ex, ey, Option.isSome_some, PureOp.mp, rx, aPure, Opd.ev, aEqs_pt]
  cases neg <;> rfl

theorem d_has {l : List Pt2} {p : Pt2} (hn : l.length < 1000000000000) : DK 20 [ptsD l, ptD p] fun d => d = .bool (decide (p ∈ l)) := by
  refine dfn_ok cp20 rfl GHro fun Z0 lo => ?_
  repeat (first | refine dw_p rfl ?_ | refine dw_a rfl ?_ | refine dw_nil ?_ | refine ds_seq ?_ | refine ds_ops mix (fun base => ?_) | refine ds_block ?_)
  refine ds_loop (fun m E S nk => ∃ k : Nat, k + m = l.length ∧ E = [(0, ptsD l), (3, .one (.ptr 0 0)), (5, .int k)] ∧ S = [(0, .cells [.f (.c (.int .i64 p.1)), .f (.c (.int .i64 p.2))])] ∧ nk = 1 ∧ p ∉ l.take k) ⟨l.length, _, _, _, [], ?wk, 0, by omega, rfl, rfl, rfl, by simp⟩ ?_
  case wk => exact ⟨by repeat (first | exact trivial | refine ⟨by first | rfl | exact congrArg (fun z => some (DV.int z)) (dwrap (by omega) (by omega)), rfl, ?_⟩), by repeat (first | exact trivial | refine ⟨by first | rfl | exact congrArg (fun z => some (Bk.data z)) (by assumption), rfl, rfl, ?_⟩), rfl⟩
  rintro m E S nk ⟨k, hk, rfl, rfl, rfl, hno⟩
  repeat (first | refine dw_p rfl ?_ | refine dw_nil ?_ | refine ds_seq ?_ | refine ds_ops mix (fun base => ?_))
  refine ds_if rfl (fun ht => ?_) (fun ht => ?_)
  · simp at ht
    obtain ⟨q, hq⟩ : ∃ q, l[k]? = some q := ⟨_, List.getElem?_eq_getElem (by omega)⟩
    have e1 := ptF_at hq
    repeat (first | refine dw_p rfl ?_ | refine dw_l rfl ?_ | refine dw_if rfl rfl (by omega) (by decide) (by assumption) ?_ | refine ds_seq ?_ | refine ds_ops mix (fun base => ?_) | refine ds_skip ?_ | refine ds_block ?_)
    refine dw_p (d_eqpt (p := q) (q := p) rfl rfl) ?_
    repeat (first | refine dw_nil ?_)
    refine ds_if rfl (fun ht2 => ?_) (fun ht2 => ?_)
    · simp at ht2
      repeat (first | refine dw_p rfl ?_ | refine dw_nil ?_ | refine ds_seq ?_ | refine ds_ops mix (fun base => ?_))
      refine ds_ret ⟨_, rfl, rfl, ?_⟩
      rw [decide_eq_true (by rw [← ht2]; exact List.mem_of_getElem? hq)]
    · simp at ht2
      repeat (first | refine dw_p rfl ?_ | refine dw_nil ?_ | refine ds_ops mix (fun base => ?_) | refine ds_skip ?_)
      refine ⟨m - 1, by omega, _, _, _, [], ?wk, k + 1, by omega, rfl, rfl, rfl, ?_⟩
      case wk => exact ⟨by repeat (first | exact trivial | refine ⟨by first | rfl | exact congrArg (fun z => some (DV.int z)) (dwrap (by omega) (by omega)), rfl, ?_⟩), by repeat (first | exact trivial | refine ⟨by first | rfl | exact congrArg (fun z => some (Bk.data z)) (by assumption), rfl, rfl, ?_⟩), rfl⟩
      rw [List.take_add_one, hq]
      simp
      exact ⟨hno, fun h => ht2 h.symm⟩
  · simp at ht
    repeat (first | refine dw_p rfl ?_ | refine dw_nil ?_ | refine ds_seq ?_ | refine ds_ops mix (fun base => ?_) | refine ds_exit ?_)
    refine ds_ret ⟨_, rfl, rfl, ?_⟩
    obtain rfl : k = l.length := by omega
    rw [List.take_length] at hno
    rw [decide_eq_false hno]

def fars (a b : List Pt2) : List Int := a.flatMap fun p => b.map (far p)
def dist (a b : List Pt2) : Int := match a, b with
  | [], _ => -1
  | _, [] => -1
  | p :: _, q :: _ => (fars a b).foldl min (far p q)
def Smalls (l : List Pt2) : Prop := ∀ p ∈ l, Small 1000000000000000000 p


theorem foldl_min_le : ∀ (l : List Int) (x : Int), l.foldl min x ≤ x ∧ ∀ y ∈ l, l.foldl min x ≤ y
  | [], x => ⟨by simp, by simp⟩
  | y :: l, x => by
    have h := foldl_min_le l (min x y)
    simp only [List.foldl_cons]
    refine ⟨by omega, fun z hz => ?_⟩
    rcases List.mem_cons.1 hz with rfl | hz
    · omega
    · exact h.2 z hz
theorem foldl_min_mem : ∀ (l : List Int) (x : Int), l.foldl min x = x ∨ l.foldl min x ∈ l
  | [], x => .inl rfl
  | y :: l, x => by
    simp only [List.foldl_cons]
    rcases foldl_min_mem l (min x y) with h | h
    · rw [h]
      by_cases hxy : x ≤ y
      · exact .inl (by omega)
      · exact .inr (by simp; omega)
    · exact .inr (by simp [h])

theorem d_distance {a b : List Pt2} (ha : Smalls a) (hb : Smalls b) (hn : a.length ≤ 256) (hm : b.length ≤ 256) : DK 19 [ptsD a, ptsD b] fun d => d = .int (dist a b) := by
  refine dfn_ok cp19 rfl GHro fun Z0 lo => ?_
  repeat (first | refine dw_pick rfl (by first | exact fun _ => rfl | exact fun h => (by simp only [if_pos h]; rfl) | exact fun h => (by simp only [h, if_true, if_false]; rfl)) (by first | exact fun _ => rfl | exact fun h => (by simp only [if_pos h]; rfl) | exact fun h => (by simp only [h, if_true, if_false]; rfl)) ?_ | refine dw_p rfl ?_ | refine dw_pg rfl (by first | exact fun _ => rfl | exact fun h => (by simp only [if_pos h]; rfl) | exact fun h => (by simp only [h, if_true, if_false]; rfl)) ?_ | refine dw_nil ?_ | refine ds_seq ?_ | refine ds_ops mix (fun base => ?_))
  refine ds_if rfl (fun ht => ?_) (fun ht => ?_)
  · simp at ht
    repeat (first | refine dw_p rfl ?_ | refine dw_nil ?_ | refine ds_seq ?_ | refine ds_ops mix (fun base => ?_))
    refine ds_ret ⟨_, rfl, rfl, ?_⟩
    cases a with
    | nil => rfl
    | cons p a => cases b with
      | nil => rfl
      | cons q b => simp at ht
  · simp only [Bool.if_true_left, Bool.or_eq_false_iff, decide_eq_false_iff_not, ← List.length_eq_zero_iff] at ht
    simp at ht
    obtain ⟨ht1, ht2⟩ := ht
    obtain ⟨p0, a', rfl⟩ : ∃ q l, a = q :: l := List.exists_cons_of_ne_nil ht1
    obtain ⟨q0, b', rfl⟩ : ∃ q l, b = q :: l := List.exists_cons_of_ne_nil ht2
    have e1 : subL ((p0 :: a').flatMap ptF) (0 * 2) 2 = some (ptF p0) := ptF_at rfl
    have e2 : subL ((q0 :: b').flatMap ptF) (0 * 2) 2 = some (ptF q0) := ptF_at rfl
    have hp0 := ha p0 (by simp)
    have hq0 := hb q0 (by simp)
    have hl1 : 0 < (p0 :: a').length := by simp
    have hl2 : 0 < (q0 :: b').length := by simp
    have hdist : dist (p0 :: a') (q0 :: b') = (fars (p0 :: a') (q0 :: b')).foldl min (far p0 q0) := rfl
    rw [hdist]
    generalize hga : p0 :: a' = a at *
    generalize hgb : q0 :: b' = b at *
    refine ds_keep (SubA.cons (k := 0) rfl (SubA.cons (k := 1) rfl (SubA.nil _))) (SubA.nil _) ?_
    have hle : (a.length : Int) * b.length ≤ 256 * 256 := Int.mul_le_mul (by omega) (by omega) (by omega) (by omega)
    have h0 : (0 : Int) ≤ (a.length : Int) * b.length := Int.mul_nonneg (by omega) (by omega)
    iterate 10 (first | refine dw_p rfl ?_ | refine ds_seq ?_ | refine ds_ops mix (fun base => ?_) | refine ds_skip ?_)
    rw [show decide (IntKind.i64.wrap ((a.length : Int) * b.length) > 65536) = false by rw [dwrap (by omega) (by omega)]; simp; omega]
    repeat (first | refine dw_skip rfl rfl ?_ | refine dw_pickF rfl rfl ?_ | refine dw_p rfl ?_ | refine dw_nil ?_)
    refine ds_if rfl (fun ht => by cases ht) (fun _ => ?_)
    repeat (first | refine dw_p rfl ?_ | refine dw_l rfl ?_ | refine dw_if0 rfl rfl (by omega) (by decide) (by assumption) ?_ | refine ds_seq ?_ | refine ds_ops mix (fun base => ?_) | refine ds_skip ?_)
    refine dw_cf rfl rfl (d_apart hp0 hq0) ?_
    rintro _ rfl
    repeat (first | refine dw_p rfl ?_ | refine dw_nil ?_ | refine ds_seq ?_ | refine ds_ops mix (fun base => ?_) | refine ds_block ?_)
    refine ds_loop (fun m E S nk => ∃ k : Nat, k + m = a.length ∧ E = [(1, ptsD b), (5, .int ((fars (a.take k) b).foldl min (far p0 q0))), (42, ptsD a), (43, .int a.length), (44, .int k)] ∧ S = [] ∧ nk = 0) ⟨a.length, _, _, _, [], ?wk, 0, by omega, rfl, rfl, rfl⟩ ?_
    case wk => exact ⟨by repeat (first | exact trivial | refine ⟨by first | rfl | exact congrArg (fun z => some (DV.int z)) (dwrap (by omega) (by omega)), rfl, ?_⟩), by repeat (first | exact trivial | refine ⟨by first | rfl | exact congrArg (fun z => some (Bk.data z)) (by assumption), rfl, rfl, ?_⟩), rfl⟩
    rintro m E S nk ⟨k, hk, rfl, rfl, rfl⟩
    repeat (first | refine dw_p rfl ?_ | refine dw_nil ?_ | refine ds_seq ?_ | refine ds_ops mix (fun base => ?_))
    refine ds_if rfl (fun ht => ?_) (fun ht => ?_)
    · simp at ht
      obtain ⟨p, hp⟩ : ∃ q, a[k]? = some q := ⟨_, List.getElem?_eq_getElem (by omega)⟩
      have e3 := ptF_at hp
      have hps := ha p (List.mem_of_getElem? hp)
      repeat (first | refine dw_p rfl ?_ | refine dw_l rfl ?_ | refine dw_if rfl rfl (by omega) (by decide) (by assumption) ?_ | refine dw_a rfl ?_ | refine dw_st rfl rfl rfl rfl rfl (Nat.le_of_ble_eq_true rfl) rfl ?_ | refine dw_nil ?_ | refine ds_seq ?_ | refine ds_ops mix (fun base => ?_) | refine ds_skip ?_ | refine ds_block ?_)
      refine ds_loop (fun m E S nk => ∃ j : Nat, j + m = b.length ∧ E = [(1, ptsD b), (5, .int (((b.take j).map (far p)).foldl min ((fars (a.take k) b).foldl min (far p0 q0)))), (7, .one (.ptr 0 0)), (42, ptsD a), (43, .int a.length), (44, .int k), (48, ptsD b), (49, .int b.length), (50, .int j)] ∧ S = [(0, .cells [.f (.c (.int .i64 p.1)), .f (.c (.int .i64 p.2))])] ∧ nk = 1) ⟨b.length, _, _, _, [], ?wk2, 0, by omega, rfl, rfl, rfl⟩ ?_
      case wk2 => exact ⟨by repeat (first | exact trivial | refine ⟨by first | rfl | exact congrArg (fun z => some (DV.int z)) (dwrap (by omega) (by omega)), rfl, ?_⟩), by repeat (first | exact trivial | refine ⟨by first | rfl | exact congrArg (fun z => some (Bk.data z)) (by assumption), rfl, rfl, ?_⟩), rfl⟩
      rintro m2 E S nk ⟨j, hj, rfl, rfl, rfl⟩
      repeat (first | refine dw_p rfl ?_ | refine dw_nil ?_ | refine ds_seq ?_ | refine ds_ops mix (fun base => ?_))
      refine ds_if rfl (fun ht2 => ?_) (fun ht2 => ?_)
      · simp at ht2
        obtain ⟨q, hq⟩ : ∃ q, b[j]? = some q := ⟨_, List.getElem?_eq_getElem (by omega)⟩
        have e4 := ptF_at hq
        have hqs := hb q (List.mem_of_getElem? hq)
        repeat (first | refine dw_p rfl ?_ | refine dw_l rfl ?_ | refine dw_if rfl rfl (by omega) (by decide) (by assumption) ?_ | refine dw_a rfl ?_ | refine dw_st rfl rfl rfl rfl rfl (Nat.le_of_ble_eq_true rfl) rfl ?_ | refine dw_nil ?_ | refine ds_seq ?_ | refine ds_ops mix (fun base => ?_) | refine ds_skip ?_ | refine ds_block ?_)
        refine dw_cf rfl rfl (d_apart (p := p) (q := q) hps hqs) ?_
        rintro _ rfl
        repeat (first | refine dw_min rfl rfl ?_ | refine dw_p rfl ?_ | refine dw_nil ?_ | refine ds_ops mix (fun base => ?_))
        have hD : min (((b.take j).map (far p)).foldl min ((fars (a.take k) b).foldl min (far p0 q0))) (far p q) = ((b.take (j + 1)).map (far p)).foldl min ((fars (a.take k) b).foldl min (far p0 q0)) := by
          rw [List.take_add_one, hq]
          simp
        rw [hD]
        refine ⟨m2 - 1, by omega, _, _, _, [], ?wk3, j + 1, by omega, rfl, rfl, rfl⟩
        case wk3 => exact ⟨by repeat (first | exact trivial | refine ⟨by first | rfl | exact congrArg (fun z => some (DV.int z)) (dwrap (by omega) (by omega)), rfl, ?_⟩), by repeat (first | exact trivial | refine ⟨by first | rfl | exact congrArg (fun z => some (Bk.data z)) (by assumption), rfl, rfl, ?_⟩), rfl⟩
      · simp at ht2
        obtain rfl : j = b.length := by omega
        repeat (first | refine dw_p rfl ?_ | refine dw_nil ?_ | refine ds_ops mix (fun base => ?_) | refine ds_exit ?_)
        have hD : ((b.take b.length).map (far p)).foldl min ((fars (a.take k) b).foldl min (far p0 q0)) = (fars (a.take (k + 1)) b).foldl min (far p0 q0) := by
          rw [List.take_add_one, hp, List.take_length]
          simp [fars]
        rw [hD]
        refine ⟨m - 1, by omega, _, _, _, [], ?wk3, k + 1, by omega, rfl, rfl, rfl⟩
        case wk3 => exact ⟨by repeat (first | exact trivial | refine ⟨by first | rfl | exact congrArg (fun z => some (DV.int z)) (dwrap (by omega) (by omega)), rfl, ?_⟩), by repeat (first | exact trivial | refine ⟨by first | rfl | exact congrArg (fun z => some (Bk.data z)) (by assumption), rfl, rfl, ?_⟩), rfl⟩
    · simp at ht
      obtain rfl : k = a.length := by omega
      repeat (first | refine dw_p rfl ?_ | refine dw_nil ?_ | refine ds_seq ?_ | refine ds_ops mix (fun base => ?_) | refine ds_exit ?_)
      refine ds_ret ⟨_, rfl, rfl, ?_⟩
      rw [List.take_length]
end Go.Ab.Fn
