/- Contracts of functions of the program over the abstract semantics. -/
import Derived.Test.YtandgamnamkkhaaGreatDoorAb11
set_option linter.unusedVariables false
set_option linter.unusedSimpArgs false
namespace Go.Ab
def updB (β : Beta) (k : Nat) (s : Slot) : Beta := fun j => if j = (k, 0) then some s else β j
theorem updB_self (β : Beta) (k : Nat) (s : Slot) : updB β k s (k, 0) = some s := by simp [updB]
theorem updB_ne (β : Beta) {k : Nat} {j : Key} (s : Slot) (h : j ≠ (k, 0)) : updB β k s j = β j := by simp [updB, h]
theorem updB_ne1 (β : Beta) {k : Nat} {j : Key} (s : Slot) (h : j.1 ≠ k) : updB β k s j = β j := updB_ne β s fun e => h (by rw [e])
theorem lk2_cons {k : Nat} {x : Bk} (hx : x.flat = true) (S : Bx) (κ : Key) : lk2 ((k, x) :: S) κ = if κ.1 = k then (if κ.2 = 0 then some x else none) else lk2 S κ := by
 obtain ⟨j, i⟩ := κ
 by_cases h : j = k
 ·subst h
  have hl : lk ((j, x) :: S) j = some x := by rw [lk_cons, if_pos rfl]
  simp only [if_true]
  cases i with
  | zero => rw [lk2_of hl hx, if_pos rfl]
  | succ i =>
   rw [if_neg (by simp)]
   cases h2 : lk2 ((j, x) :: S) (j, i + 1) with
   | none => rfl
   | some y => exact absurd (lk2_flat hl hx h2).1 (by simp)
 ·simp only [if_neg h]
  exact lk2_congr (by rw [lk_cons, if_neg (fun e => h e.symm)])
theorem lk2_era (k : Nat) (S : Bx) (κ : Key) : lk2 (era k S) κ = if κ.1 = k then none else lk2 S κ := by
 by_cases h : κ.1 = k
 ·rw [if_pos h]; exact lk2_none (by rw [lk_era, if_pos h])
 ·rw [if_neg h]; exact lk2_congr (by rw [lk_era, if_neg h])
theorem lk2_put {k : Nat} {x x' : Bk} {S : Bx} (hk : lk S k = some x) (hx' : x'.flat = true) (κ : Key) : lk2 (put k x' S) κ = if κ.1 = k then (if κ.2 = 0 then some x' else none) else lk2 S κ := by
 obtain ⟨j, i⟩ := κ
 by_cases h : j = k
 ·subst h
  have hl : lk (put j x' S) j = some x' := by rw [lk_put, if_pos rfl, hk]; rfl
  simp only [if_true]
  cases i with
  | zero => rw [lk2_of hl hx', if_pos rfl]
  | succ i =>
   rw [if_neg (by simp)]
   cases h2 : lk2 (put j x' S) (j, i + 1) with
   | none => rfl
   | some y => exact absurd (lk2_flat hl hx' h2).1 (by simp)
 ·simp only [if_neg h]
  exact lk2_congr (by rw [lk_put, if_neg h])
theorem key_eq {κ : Key} {k : Nat} (h1 : κ.1 = k) (h2 : κ.2 = 0) : κ = (k, 0) := by obtain ⟨a, b⟩ := κ; simp only at h1 h2; rw [h1, h2]
section
variable {p : Par} {Z : Nat -> Prop} {β : Beta} {H H' : Hp} {S : Bx} {nk : Nat}
theorem SR.ble (h : SR p Z β H S nk) (s : Slot) : BLe β (updB β nk s) := fun k t hk => by
 by_cases e : k.1 = nk
 ·rw [h.nk k (by omega)] at hk; cases hk
 ·rw [updB_ne1 _ _ e]; exact hk
theorem SR.lt (h : SR p Z β H S nk) {k : Nat} {x : Bk} (hk : lk S k = some x) : k < nk := by
 have : ∃ y, lk2 S (k, 0) = some y := by
  simp only [lk2, hk]
  cases x with
  | tree rows => exact ⟨_, rfl⟩
  | mp ks l => exact ⟨_, rfl⟩
  | mt es => exact ⟨_, rfl⟩
  | cells l => exact ⟨_, rfl⟩
  | data l => exact ⟨_, rfl⟩
 obtain ⟨y, hy⟩ := this
 obtain ⟨s, hs, _⟩ := h.box (k, 0) y hy
 by_cases e : nk <= k
 ·rw [h.nk (k, 0) e] at hs; cases hs
 ·omega
theorem SR.lt1 (h : SR p Z β H S nk) {κ : Key} {s : Slot} (hk : β κ = some s) : κ.1 < nk := by
 by_cases e : nk <= κ.1
 ·rw [h.nk κ e] at hk; cases hk
 ·omega
theorem BoxR.mono {x : Bk} {s : Slot} {β' : Beta} (hb : BLe β β') (hnx : H.nx <= H'.nx) (hg : ∀ b, (Z b \/ ∃ N, s = .blk b N) -> H'.get b = H.get b) (h : BoxR p Z H β x s) : BoxR p Z H' β' x s := by
 cases s with
 | nil => exact h
 | blk b N =>
  obtain ⟨h1, h2, h3, cs, rest, h4, h5, h6⟩ := h
  exact ⟨h1, h2, by omega, cs, rest, h4.same (hg b (.inr ⟨N, rfl⟩)), h5, Bk.rel_mono (ZLe.of_get (fun _ h => h) fun b hb => hg b (.inl hb)) hb h6⟩
theorem SR.newB (h : SR p Z β H S nk) {x : Bk} {b N0 : Nat} (hfl : x.flat = true) (hbx : ∀ β', BLe β β' -> ZLe Z H Z H' -> BoxR p Z H' β' x (.blk b N0)) (hz : ¬ Z b) (hβ : ∀ κ N, β κ ≠ some (.blk b N)) (hlo : p.lo <= b) (hb : b < H'.nx) (hnx : H.nx <= H'.nx) (hw : WF H') (hg : ∀ b', b' ≠ b -> H'.get b' = H.get b') :
  SR p Z (updB β nk (.blk b N0)) H' ((nk, x) :: S) (nk + 1) /\ ZLe Z H Z H' /\ BLe β (updB β nk (.blk b N0)) := by
 have hzg : ∀ b', Z b' -> H'.get b' = H.get b' := fun b' hb' => hg b' fun e => hz (e ▸ hb')
 have hZ : ZLe Z H Z H' := ZLe.of_get (fun _ h => h) hzg
 have hB := h.ble (.blk b N0)
 refine ⟨⟨hw, Nat.le_trans h.lo hnx, fun b' hb' => Nat.lt_of_lt_of_le (h.z b' hb') hnx, h.zlo, h.zz, fun b' bk hb' => ?_, fun k hk => ?_, fun k b' N hk => ?_, fun k y hk => ?_, fun k k' y y' b' N N' hk hk' hs hs' => ?_, fun k b' N hk => ?_, fun κ hκ h0 => by rw [updB_ne1 _ _ (by have := h.ancn; omega)]; exact h.anch κ hκ h0, Nat.le_succ_of_le h.ancn⟩, hZ, hB⟩
 ·obtain ⟨h1, h2⟩ := h.glob b' bk hb'
  exact ⟨h1, by rw [hzg b' h1]; exact h2⟩
 ·rw [updB_ne1 _ _ (by omega)]; exact h.nk k (by omega)
 ·by_cases e : k = (nk, 0)
  ·subst e; rw [updB_self] at hk
   obtain ⟨rfl, rfl⟩ := Slot.blk.inj (Option.some.inj hk)
   exact hb
  ·rw [updB_ne _ _ e] at hk; exact Nat.lt_of_lt_of_le (h.bd k b' N hk) hnx
 ·rw [lk2_cons hfl] at hk
  split at hk
  ·rename_i e
   split at hk
   ·rename_i e2
    obtain rfl := key_eq e e2
    obtain rfl := Option.some.inj hk
    exact ⟨_, updB_self _ _ _, hbx _ hB hZ⟩
   ·cases hk
  ·obtain ⟨s, hs, hbx⟩ := h.box k y hk
   refine ⟨s, hB k s hs, hbx.mono hB hnx fun b' hb' => ?_⟩
   rcases hb' with hb'|⟨N, rfl⟩
   ·exact hzg b' hb'
   ·exact hg b' fun e => hβ k N (by rw [hs, e])
 ·by_cases e1 : k = (nk, 0)
  ·by_cases e2 : k' = (nk, 0)
   ·rw [e1, e2]
   ·rw [updB_ne _ _ e2] at hs'
    rw [e1, updB_self] at hs
    obtain ⟨rfl, rfl⟩ := Slot.blk.inj (Option.some.inj hs)
    exact absurd hs' (hβ _ _)
  ·rw [updB_ne _ _ e1] at hs
   by_cases e2 : k' = (nk, 0)
   ·rw [e2, updB_self] at hs'
    obtain ⟨rfl, rfl⟩ := Slot.blk.inj (Option.some.inj hs')
    exact absurd hs (hβ _ _)
   ·rw [updB_ne _ _ e2] at hs'
    have n1 := h.lt1 hs
    have n2 := h.lt1 hs'
    rw [lk_cons, if_neg (by omega)] at hk hk'
    exact h.inj k k' y y' b' N N' hk hk' hs hs'
 ·by_cases e : k = (nk, 0)
  ·subst e; rw [updB_self] at hk
   obtain ⟨rfl, rfl⟩ := Slot.blk.inj (Option.some.inj hk)
   exact hlo
  ·rw [updB_ne _ _ e] at hk; exact h.blo k b' N hk
theorem SR.new (h : SR p Z β H S nk) {x : Bk} {b : Nat} {cs rest : List C} (hsh : x.shape = none) (hx : x.rel Z H β cs) (hz : ¬ Z b) (hβ : ∀ κ N, β κ ≠ some (.blk b N)) (hlo : p.lo <= b) (hb : b < H'.nx) (hnx : H.nx <= H'.nx) (hw : WF H') (hg : ∀ b', b' ≠ b -> H'.get b' = H.get b') (hr : Row H' b (cs ++ rest)) :
  SR p Z (updB β nk (.blk b (cs ++ rest).length)) H' ((nk, x) :: S) (nk + 1) /\ ZLe Z H Z H' /\ BLe β (updB β nk (.blk b (cs ++ rest).length)) :=
 h.newB (Bk.rel_flat hx) (fun β' hB hZ => ⟨hz, hlo, hb, cs, rest, by rw [hsh]; exact hr, lenOk.of hsh rfl, Bk.rel_mono hZ hB hx⟩) hz hβ hlo hb hnx hw hg
theorem SR.updK (h : SR p Z β H S nk) {k b N : Nat} {x x' : Bk} {cs rest : List C} (hk : lk S k = some x) (hfl : x.flat = true) (hs : β (k, 0) = some (.blk b N)) (hx : x'.rel Z H β cs) (hg : ∀ b', b' ≠ b -> H'.get b' = H.get b') (hnx : H'.nx = H.nx) (hr : RowK x'.shape H' b (cs ++ rest)) (hN : lenOk x'.shape (cs ++ rest).length N rest) :
  SR p Z β H' (put k x' S) nk /\ ZLe Z H Z H' := by
 obtain ⟨s, hs', hbx⟩ := h.box (k, 0) x (lk2_of hk hfl)
 rw [hs] at hs'
 obtain rfl := Option.some.inj hs'
 obtain ⟨hz, hlo, hlt, _⟩ := hbx
 have hzg : ∀ b', Z b' -> H'.get b' = H.get b' := fun b' hb' => hg b' fun e => hz (e ▸ hb')
 have hZ : ZLe Z H Z H' := ZLe.of_get (fun _ h => h) hzg
 refine ⟨⟨fun b' bk hb' => ?_, by rw [hnx]; exact h.lo, fun b' hb' => by rw [hnx]; exact h.z b' hb', h.zlo, h.zz, fun b' bk hb' => ?_, h.nk, fun k b' N hk => by rw [hnx]; exact h.bd k b' N hk, fun j y hj => ?_, fun j j' y y' b' M M' hj hj' hsj hsj' => ?_, h.blo, h.anch, h.ancn⟩, hZ⟩
 ·rw [hnx]
  by_cases e : b' = b
  ·omega
  ·rw [hg b' e] at hb'; exact h.wf b' bk hb'
 ·obtain ⟨h1, h2⟩ := h.glob b' bk hb'
  exact ⟨h1, by rw [hzg b' h1]; exact h2⟩
 ·rw [lk2_put hk (Bk.rel_flat hx)] at hj
  split at hj
  ·rename_i e
   split at hj
   ·rename_i e2
    obtain rfl := key_eq e e2
    obtain rfl := Option.some.inj hj
    exact ⟨_, hs, hz, hlo, by omega, cs, rest, hr, hN, Bk.rel_mono hZ (BLe.refl _) hx⟩
   ·cases hj
  ·rename_i e
   obtain ⟨s, hsj, hbj⟩ := h.box j y hj
   obtain ⟨z, hz⟩ := lk2_lk hj
   refine ⟨s, hsj, hbj.mono (BLe.refl _) (by omega) fun b' hb' => ?_⟩
   rcases hb' with hb'|⟨M, rfl⟩
   ·exact hzg b' hb'
   ·exact hg b' fun e' => e (by rw [h.inj j (k, 0) z x b M N hz hk (e' ▸ hsj) hs])
 ·rw [lk_put] at hj hj'
  have f : ∀ i z, (if i = k then Option.map (fun _ => x') (lk S i) else lk S i) = some z -> ∃ z', lk S i = some z' := fun i z hz => by
   split at hz
   ·cases hl : lk S i with
    | none => rw [hl] at hz; cases hz
    | some q => exact ⟨q, rfl⟩
   ·exact ⟨z, hz⟩
  obtain ⟨z1, e1⟩ := f j.1 y hj
  obtain ⟨z2, e2⟩ := f j'.1 y' hj'
  exact h.inj j j' z1 z2 b' M M' e1 e2 hsj hsj'
theorem SR.upd (h : SR p Z β H S nk) {k b N : Nat} {x x' : Bk} {cs rest : List C} (hk : lk S k = some x) (hfl : x.flat = true) (hs : β (k, 0) = some (.blk b N)) (hx : x'.rel Z H β cs) (hg : ∀ b', b' ≠ b -> H'.get b' = H.get b') (hnx : H'.nx = H.nx) (hsh : x'.shape = none) (hr : Row H' b (cs ++ rest)) (hN : (cs ++ rest).length = N) :
  SR p Z β H' (put k x' S) nk /\ ZLe Z H Z H' := h.updK hk hfl hs hx hg hnx (by rw [hsh]; exact hr) (lenOk.of hsh hN)
theorem SR.replace (h : SR p Z β H S nk) {k : Nat} {x x' : Bk} {b : Nat} {cs rest : List C} (hk : lk S k = some x) (hfl : x.flat = true) (hx : x'.rel Z H β cs) (hb : (∃ N, β (k, 0) = some (.blk b N)) \/ (¬ Z b /\ (∀ κ N, β κ ≠ some (.blk b N)) /\ p.lo <= b)) (hbl : b < H'.nx) (hnx : H.nx <= H'.nx) (hw : WF H') (hg : ∀ b', b' ≠ b -> (∀ N, β (k, 0) ≠ some (.blk b' N)) -> H'.get b' = H.get b') (hsh : x'.shape = none) (hr : Row H' b (cs ++ rest)) :
  SR p Z (updB β nk (.blk b (cs ++ rest).length)) H' ((nk, x') :: era k S) (nk + 1) /\ ZLe Z H Z H' /\ BLe β (updB β nk (.blk b (cs ++ rest).length)) := by
 have hkn := h.lt hk
 obtain ⟨sk, hsk, hbk⟩ := h.box (k, 0) x (lk2_of hk hfl)
 have hzk : ∀ b' N, Z b' -> β (k, 0) ≠ some (.blk b' N) := fun b' N hz e => by
  rw [hsk] at e
  obtain rfl := Option.some.inj e
  exact hbk.1 hz
 have hzb : ¬ Z b := by
  rcases hb with ⟨N, hN⟩|⟨hz, _⟩
  ·exact fun hz => hzk b N hz hN
  ·exact hz
 have hlob : p.lo <= b := by
  rcases hb with ⟨N, hN⟩|⟨_, _, hlo⟩
  ·rw [hsk] at hN; obtain rfl := Option.some.inj hN; exact hbk.2.1
  ·exact hlo
 have hzg : ∀ b', Z b' -> H'.get b' = H.get b' := fun b' hb' => hg b' (fun e => hzb (e ▸ hb')) fun N => hzk b' N hb'
 have hZ : ZLe Z H Z H' := ZLe.of_get (fun _ h => h) hzg
 have hB := h.ble (.blk b (cs ++ rest).length)
 have hoth : ∀ (j : Key) y N, lk S j.1 = some y -> j.1 ≠ k -> β j ≠ some (.blk b N) := fun j y N hj hjk e => by
  rcases hb with ⟨M, hM⟩|⟨_, hno, _⟩
  ·exact hjk (by rw [h.inj j (k, 0) y x b N M hj hk e hM])
  ·exact hno j N e
 refine ⟨⟨hw, Nat.le_trans h.lo hnx, fun b' hb' => Nat.lt_of_lt_of_le (h.z b' hb') hnx, h.zlo, h.zz, fun b' bk hb' => ?_, fun k hk => ?_, fun k b' N hk => ?_, fun j y hj => ?_, fun j j' y y' b' N N' hj hj' hs hs' => ?_, fun k b' N hk => ?_, fun κ hκ h0 => by rw [updB_ne1 _ _ (by have := h.ancn; omega)]; exact h.anch κ hκ h0, Nat.le_succ_of_le h.ancn⟩, hZ, hB⟩
 ·obtain ⟨h1, h2⟩ := h.glob b' bk hb'
  exact ⟨h1, by rw [hzg b' h1]; exact h2⟩
 ·rw [updB_ne1 _ _ (by omega)]; exact h.nk k (by omega)
 ·by_cases e : k = (nk, 0)
  ·subst e; rw [updB_self] at hk
   obtain ⟨rfl, rfl⟩ := Slot.blk.inj (Option.some.inj hk)
   exact hbl
  ·rw [updB_ne _ _ e] at hk; exact Nat.lt_of_lt_of_le (h.bd k b' N hk) hnx
 ·rw [lk2_cons (Bk.rel_flat hx), lk2_era] at hj
  split at hj
  ·rename_i e
   split at hj
   ·rename_i e2
    obtain rfl := key_eq e e2
    obtain rfl := Option.some.inj hj
    exact ⟨_, updB_self _ _ _, hzb, hlob, hbl, cs, rest, by rw [hsh]; exact hr, lenOk.of hsh rfl, Bk.rel_mono hZ hB hx⟩
   ·cases hj
  ·split at hj
   ·cases hj
   ·rename_i e e2
    obtain ⟨s, hs, hbx⟩ := h.box j y hj
    obtain ⟨z, hz⟩ := lk2_lk hj
    refine ⟨s, hB j s hs, hbx.mono hB hnx fun b' hb' => ?_⟩
    rcases hb' with hb'|⟨N, rfl⟩
    ·exact hzg b' hb'
    ·exact hg b' (fun e' => hoth j z N hz e2 (e' ▸ hs)) fun M eM => e2 (by rw [h.inj j (k, 0) z x b' N M hz hk hs eM])
 ·have live : ∀ (κ : Key) w s, lk ((nk, x') :: era k S) κ.1 = some w -> κ ≠ (nk, 0) -> β κ = some s -> lk S κ.1 = some w /\ κ.1 ≠ k := fun κ w s hl hne hs => by
   have := h.lt1 hs
   rw [lk_cons, if_neg (by omega), lk_era] at hl
   split at hl
   ·cases hl
   ·exact ⟨hl, by assumption⟩
  by_cases e1 : j = (nk, 0)
  ·by_cases e2 : j' = (nk, 0)
   ·rw [e1, e2]
   ·rw [updB_ne _ _ e2] at hs'
    rw [e1, updB_self] at hs
    obtain ⟨rfl, rfl⟩ := Slot.blk.inj (Option.some.inj hs)
    obtain ⟨l1, l2⟩ := live j' y' _ hj' e2 hs'
    exact absurd hs' (hoth j' y' N' l1 l2)
  ·rw [updB_ne _ _ e1] at hs
   obtain ⟨l1, l2⟩ := live j y _ hj e1 hs
   by_cases e2 : j' = (nk, 0)
   ·rw [e2, updB_self] at hs'
    obtain ⟨rfl, rfl⟩ := Slot.blk.inj (Option.some.inj hs')
    exact absurd hs (hoth j y N l1 l2)
   ·rw [updB_ne _ _ e2] at hs'
    obtain ⟨l3, l4⟩ := live j' y' _ hj' e2 hs'
    exact h.inj j j' y y' b' N N' l1 l3 hs hs'
 ·by_cases e : k = (nk, 0)
  ·subst e; rw [updB_self] at hk
   obtain ⟨rfl, rfl⟩ := Slot.blk.inj (Option.some.inj hk)
   exact hlob
  ·rw [updB_ne _ _ e] at hk; exact h.blo k b' N hk
end
end Go.Ab

namespace Go.Ab
theorem ACalls.monoP {P : Program} {G : Nat} {f : FuncId} {args : List V} {H : Hp} {R R' : V -> Hp -> Prop} {S : Hp -> Prop} (h : ACalls P G f args H R) (hr : ∀ v H', R v H' -> R' v H') : ACallsP P G f args H R' S := (h.mono hr).toP
abbrev Wt := List (Nat × Option (Key × Nat × Nat))
def WR (Z : Nat -> Prop) (β : Beta) (H : Hp) : Option (Key × Nat × Nat) -> (Hp -> Prop) -> Prop
 | none, q => ∃ b, Z b /\ ∀ H' : Hp, (∀ i c, H.cell b i = some c -> H'.cell b i = some c) -> q H'
 | some (k, o, n), q => ∃ b N, β k = some (.blk b N) /\ ∀ H' : Hp, (∀ i c, o <= i -> i < o + n -> H.cell b i = some c -> H'.cell b i = some c) -> q H'
def CR (W : Wt) (Z : Nat -> Prop) (β : Beta) (H : Hp) (c : Ctx) : Prop := ∀ x ∈ c, ∃ y ∈ W, WR Z β H y.2 x.2
def AR (p : Par) (base rs : Nat) (A : List Nat) (Z : Nat -> Prop) (β : Beta) (H : Hp) : Prop := p.lo <= base /\ ∀ j, j < rs -> j ∉ A -> base + j < H.nx /\ H.get (base + j) = none /\ ¬ Z (base + j) /\ ∀ k N, β k ≠ some (.blk (base + j) N)
structure DPW (p : Par) (base rs : Nat) (Q : DEnv -> Bx -> Nat -> Prop) (l : List SOper) (W : Wt) (A : List Nat) (E : DEnv) (S : Bx) (nk : Nat) : Prop where
 run : ∀ Z β H F c QP, SR p Z β H S nk -> ER Z β H E F -> CR W Z β H c -> AR p base rs A Z β H ->
  wOps p.P p.G base QP (fun F' H' => ∃ E' S' nk' Z' β', SR p Z' β' H' S' nk' /\ ER Z' β' H' E' F' /\ Q E' S' nk') l c F H
section
variable {Z Z' : Nat -> Prop} {β β' : Beta} {H H' : Hp} {W : Wt} {c : Ctx}
theorem CR.watch (h : CR W Z β H c) (ws : List Nat) : watchOk ws c H := watch_all fun x hx => by
 obtain ⟨y, _, hy⟩ := h x hx
 obtain ⟨_, y2⟩ := y
 match y2, hy with
 | none, ⟨b, _, hq⟩ => exact hq H fun _ _ h => h
 | some (k, o, n), ⟨b, N, _, hq⟩ => exact hq H fun _ _ _ _ h => h
theorem CR.step (h : CR W Z β H c) (hZ : ZLe Z H Z' H') (hB : BLe β β') (hk : ∀ y ∈ W, ∀ k o n, y.2 = some (k, o, n) -> ∀ b N i x, β k = some (.blk b N) -> o <= i -> i < o + n -> H.cell b i = some x -> H'.cell b i = some x) : CR W Z' β' H' c := fun x hx => by
 obtain ⟨y, hy, hw⟩ := h x hx
 refine ⟨y, hy, ?_⟩
 obtain ⟨y1, y2⟩ := y
 match y2, hw, hy with
 | none, ⟨b, hb, hq⟩, _ => exact ⟨b, (hZ b hb).1, fun H'' hh => hq H'' fun i c hc => hh i c ((hZ b hb).2 i c hc)⟩
 | some (k, o, n), ⟨b, N, hb, hq⟩, hy => exact ⟨b, N, hB k _ hb, fun H'' hh => hq H'' fun i c h1 h2 hc => hh i c h1 h2 (hk _ hy k o n rfl b N i c hb h1 h2 hc)⟩
theorem CR.same (h : CR W Z β H c) (hZ : ZLe Z H Z' H') (hB : BLe β β') (hg : ∀ b, b < H.nx -> H'.get b = H.get b) (hw : WF H) : CR W Z' β' H' c := h.step hZ hB fun y hy k o n e b N i x hb _ _ hx => by
 unfold Hp.cell at hx ⊢
 cases hgb : H.get b with
 | none => simp [hgb] at hx
 | some bk => rw [hg b (hw b bk hgb)]; exact hx
end
def wOk0 (S : Bx) (k : Nat) : Wt -> Bool
 | [] => true
 | (_, none) :: r => wOk0 S k r
 | (_, some ((j, _), _, _)) :: r => match lk S j with
  | none => false
  | some _ => match Nat.beq j k with
   | true => false
   | false => wOk0 S k r
def isFlatO : Option Bk -> Bool
 | some (.tree _) => false
 | some (.mp _ _) => false
 | some (.mt _) => false
 | _ => true
def wOk (S : Bx) (k : Nat) (W : Wt) : Bool := match isFlatO (lk S k) with
 | true => wOk0 S k W
 | false => false
theorem wOk_flat {S : Bx} {k : Nat} {W : Wt} {x : Bk} (h : wOk S k W = true) (hk : lk S k = some x) : x.flat = true := by
 unfold wOk at h
 rw [hk] at h
 cases x with
 | tree rows => cases h
 | mp ks l => cases h
 | mt es => cases h
 | cells l => rfl
 | data l => rfl
theorem wOk_row {S : Bx} {k : Nat} {W : Wt} {x : Bk} (h : wOk S k W = true) (hk : lk S k = some x) : x.shape = none := by
 unfold wOk at h
 rw [hk] at h
 cases x with
 | tree rows => cases h
 | mp ks l => cases h
 | mt es => cases h
 | cells l => rfl
 | data l => rfl
theorem wOk0_mem {S : Bx} {k : Nat} : ∀ {W : Wt}, wOk0 S k W = true -> ∀ y ∈ W, ∀ (j : Key) o n, y.2 = some (j, o, n) -> (∃ x, lk S j.1 = some x) /\ j.1 ≠ k
 | [], _, y, hy => by cases hy
 | (i, none) :: r, h, y, hy => by
  rcases List.mem_cons.1 hy with rfl|hy
  ·intro j o n e; cases e
  ·exact wOk0_mem (W := r) h y hy
 | (i, some ((j', j2), o', n')) :: r, h, y, hy => by
  simp only [wOk0] at h
  split at h
  ·cases h
  ·rename_i x hx
   split at h
   ·cases h
   ·rename_i e
    rcases List.mem_cons.1 hy with rfl|hy
    ·intro j o n e'
     obtain ⟨rfl, _⟩ := Prod.mk.inj (Option.some.inj e')
     exact ⟨⟨x, hx⟩, fun h => by simp only at h; subst h; simp at e⟩
    ·exact wOk0_mem (W := r) h y hy
theorem wOk_mem {S : Bx} {k : Nat} {W : Wt} (h : wOk S k W = true) : ∀ y ∈ W, ∀ (j : Key) o n, y.2 = some (j, o, n) -> (∃ x, lk S j.1 = some x) /\ j.1 ≠ k := by
 unfold wOk at h
 split at h
 ·exact wOk0_mem h
 ·cases h
section
variable {p : Par} {base rs : Nat} {Q : DEnv -> Bx -> Nat -> Prop} {r : List SOper} {W : Wt} {A : List Nat} {E : DEnv} {S : Bx} {nk : Nat} {id : Nat} {dst : Option Nat} {aid : Option Nat} {ws : List Nat} {keep : Bool}
theorem dw_nil (h : Q E S nk) : DPW p base rs Q [] W A E S nk := .mk fun Z β H F c QP hS hE _ _ => ⟨E, S, nk, Z, β, hS, hE, h⟩
theorem dw_p {op : PureOp} {d : DV} (hd : dPure E op = some d) (h : DPW p base rs Q r W A (setD E dst d) S nk) : DPW p base rs Q (⟨id, dst, .p op, none, aid, ws, keep⟩ :: r) W A E S nk := .mk fun Z β H F c QP hS hE hC hA => by
 obtain ⟨v, hv, hr⟩ := dPure_ok hE hd
 simp only [wOps, wantedA, if_true, hv]
 exact h.run Z β H _ c QP hS (hE.set dst hr) hC hA
theorem dw_pv {op : PureOp} {d : DV} (hd : ∀ {Z β H F}, ER Z β H E F -> ∃ v, aPure F op = some v /\ RDV Z H β d v) (h : DPW p base rs Q r W A (setD E dst d) S nk) : DPW p base rs Q (⟨id, dst, .p op, none, aid, ws, keep⟩ :: r) W A E S nk := .mk fun Z β H F c QP hS hE hC hA => by
 obtain ⟨v, hv, hr⟩ := hd hE
 simp only [wOps, wantedA, if_true, hv]
 exact h.run Z β H _ c QP hS (hE.set dst hr) hC hA
theorem exact_ok {Z : Nat -> Prop} {β : Beta} {H : Hp} {c : C} (hc : c.closed = true) : RDV Z H β (.one (.f (.c c))) (.one c) := ⟨c, rfl, .c c hc⟩
theorem int_of {Z : Nat -> Prop} {β : Beta} {H : Hp} {F : T V} (hE : ER Z β H E F) {o : Opd} {c : C} (h : ro E o = some (.one (.f (.c c)))) : o.ev F = .one c := by
 obtain ⟨x, hx, hr⟩ := ro_ok hE h
 cases hr
 exact hx
theorem dw_max {x y : Opd} {k : IntKind} {a b : Int} (hx : ro E x = some (.one (.f (.c (.int k a))))) (hy : ro E y = some (.one (.f (.c (.int k b))))) (h : DPW p base rs Q r W A (setD E dst (.one (.f (.c (.int k (max a b)))))) S nk) : DPW p base rs Q (⟨id, dst, .p (.mm true x y), none, aid, ws, keep⟩ :: r) W A E S nk := by
 refine dw_pv (fun {Z β H F} hE => ⟨.one (.int k (max a b)), ?_, exact_ok rfl⟩) h
 simp only [aPure, int_of hE hx, int_of hE hy, if_true]
 congr 3; split <;> omega
theorem dw_min {x y : Opd} {k : IntKind} {a b : Int} (hx : ro E x = some (.one (.f (.c (.int k a))))) (hy : ro E y = some (.one (.f (.c (.int k b))))) (h : DPW p base rs Q r W A (setD E dst (.one (.f (.c (.int k (min a b)))))) S nk) : DPW p base rs Q (⟨id, dst, .p (.mm false x y), none, aid, ws, keep⟩ :: r) W A E S nk := by
 refine dw_pv (fun {Z β H F} hE => ⟨.one (.int k (min a b)), ?_, exact_ok rfl⟩) h
 simp only [aPure, int_of hE hx, int_of hE hy, if_true, Bool.false_eq_true, if_false]
 congr 3; split <;> omega
theorem dw_pick {o a b : Opd} {t x y : Bool} (hc : ro E o = some (.bool t)) (ha : t = true -> ro E a = some (.bool x)) (hb : t = false -> ro E b = some (.bool y)) (h : DPW p base rs Q r W A (setD E dst (.bool (if t = true then x else y))) S nk) : DPW p base rs Q (⟨id, dst, .p (.pick o a b), none, aid, ws, keep⟩ :: r) W A E S nk := by
 refine dw_pv (fun {Z β H F} hE => ⟨.one (.bool (if t = true then x else y)), ?_, exact_ok rfl⟩) h
 simp only [aPure, int_of hE hc]
 cases t with
 | true => simp [int_of hE (ha rfl)]
 | false => simp [int_of hE (hb rfl)]
theorem dw_pickT {o a b : Opd} {d : DV} (hc : ro E o = some (.bool true)) (ha : ro E a = some d) (h : DPW p base rs Q r W A (setD E dst d) S nk) : DPW p base rs Q (⟨id, dst, .p (.pick o a b), none, aid, ws, keep⟩ :: r) W A E S nk :=
 dw_pv (fun {Z β H F} hE => ⟨_, by simp only [aPure, int_of hE hc, if_true], ro_ok hE ha⟩) h
theorem dw_pickF {o a b : Opd} {d : DV} (hc : ro E o = some (.bool false)) (hb : ro E b = some d) (h : DPW p base rs Q r W A (setD E dst d) S nk) : DPW p base rs Q (⟨id, dst, .p (.pick o a b), none, aid, ws, keep⟩ :: r) W A E S nk :=
 dw_pv (fun {Z β H F} hE => ⟨_, by simp only [aPure, int_of hE hc, Bool.false_eq_true, if_false], ro_ok hE hb⟩) h
theorem dw_io {esz : Nat} {x i : Opd} {k o n : Nat} {kd : IntKind} {j : Int} (hx : ro E x = some (.one (.own k o n esz))) (hi : ro E i = some (.one (.f (.c (.int kd j))))) (h0 : 0 <= j) (h1 : j < n) (h : DPW p base rs Q r W A (setD E dst (.one (.ptr k (o + j.toNat * esz)))) S nk) : DPW p base rs Q (⟨id, dst, .p (.iaddr esz x i), none, aid, ws, keep⟩ :: r) W A E S nk := by
 refine dw_pv (fun {Z β H F} hE => ?_) h
 obtain ⟨c, hc, hr⟩ := ro_ok hE hx
 rcases hr with ⟨_, h2, _⟩|⟨b, N, cap, ex, h2, rfl, _⟩
 ·omega
 ·exact ⟨.one (.ptr b (o + j.toNat * esz)), by simp only [aPure, hc, int_of hE hi, iaddrV]; rw [if_pos ⟨trivial, h0, h1⟩], _, rfl, b, N, h2, rfl⟩
theorem dw_io0 {esz : Nat} {x i : Opd} {k n : Nat} {kd : IntKind} {j : Int} (hx : ro E x = some (.one (.own k 0 n esz))) (hi : ro E i = some (.one (.f (.c (.int kd j))))) (h0 : 0 <= j) (h1 : j < n) (h : DPW p base rs Q r W A (setD E dst (.one (.ptr k (j.toNat * esz)))) S nk) : DPW p base rs Q (⟨id, dst, .p (.iaddr esz x i), none, aid, ws, keep⟩ :: r) W A E S nk :=
 dw_io hx hi h0 h1 (by rw [Nat.zero_add]; exact h)
theorem sl_at {Z : Nat -> Prop} {H : Hp} {esz n : Nat} {l q : List FD} {c : C} (hr : RF Z H (.sl esz n l) c) {j : Nat} (hj : j < n) (he : 0 < esz) (hq : subL l (j * esz) esz = some q) : ∃ b o cap ex cs, c = .slc b o n cap esz ex /\ Z b /\ H.loads b (o + j * esz) q.length = some cs /\ All2 (RF Z H) q cs := by
 obtain ⟨hle, rfl⟩ := subL_some hq
 cases hr with
 | nil => omega
 | sl hz hl hn hld hel =>
  rename_i b o cap ex cs
  refine ⟨b, o, cap, ex, (cs.drop (j * esz)).take esz, rfl, hz (Nat.mul_pos (by omega) he), ?_, ?_⟩
  ·rw [List.length_take, List.length_drop, show min esz (l.length - j * esz) = esz by omega]
   exact loads_at hld (by omega)
  ·have hlen : l.length = cs.length := by rw [hl, loads_len hld]
   exact ((All2.mk hlen hel).drop _).take _
theorem dw_if {esz : Nat} {x i : Opd} {n : Nat} {l q : List FD} {kd : IntKind} {j : Nat} (hx : ro E x = some (.one (.f (.sl esz n l)))) (hi : ro E i = some (.one (.f (.c (.int kd (j : Nat)))))) (h1 : j < n) (he : 0 < esz) (hq : subL l (j * esz) esz = some q) (h : DPW p base rs Q r W A (setD E dst (.one (.fptr q))) S nk) : DPW p base rs Q (⟨id, dst, .p (.iaddr esz x i), none, aid, ws, keep⟩ :: r) W A E S nk := by
 refine dw_pv (fun {Z β H F} hE => ?_) h
 obtain ⟨c, hc, hr⟩ := ro_ok hE hx
 obtain ⟨b, o, cap, ex, cs, rfl, hz, hl, ha⟩ := sl_at hr h1 he hq
 refine ⟨.one (.ptr b (o + j * esz)), ?_, _, rfl, b, _, cs, rfl, hz, hl, ha⟩
 simp only [aPure, hc, int_of hE hi, iaddrV]
 rw [if_pos ⟨trivial, by omega, by omega⟩, Int.toNat_natCast]
theorem dw_if0 {esz : Nat} {x i : Opd} {n : Nat} {l q : List FD} {kd : IntKind} (hx : ro E x = some (.one (.f (.sl esz n l)))) (hi : ro E i = some (.one (.f (.c (.int kd 0))))) (h1 : 0 < n) (he : 0 < esz) (hq : subL l (0 * esz) esz = some q) (h : DPW p base rs Q r W A (setD E dst (.one (.fptr q))) S nk) : DPW p base rs Q (⟨id, dst, .p (.iaddr esz x i), none, aid, ws, keep⟩ :: r) W A E S nk := dw_if (j := 0) hx hi h1 he hq h
theorem undef_ok {Z : Nat -> Prop} {β : Beta} {H : Hp} : RDV Z H β .undef V.undef := ⟨[], rfl, trivial⟩
theorem dw_want {op : SOp} {g : Nat} {t want : Bool} (hg : lk E g = some (.bool t)) (ht : t = want) (h : DPW p base rs Q (⟨id, dst, op, none, aid, ws, keep⟩ :: r) W A E S nk) : DPW p base rs Q (⟨id, dst, op, some (g, want), aid, ws, keep⟩ :: r) W A E S nk := .mk fun Z β H F c QP hS hE hC hA => by
 have h' := h.run Z β H F c QP hS hE hC hA
 obtain ⟨v, hv, x, rfl, hr⟩ := hE g _ hg
 cases hr
 have hw : wantedA (some (g, want)) F = true := by simp [wantedA, hv, ht]
 rw [wOps] at h' ⊢
 simp only [wantedA, if_true] at h'
 simp only [hw, if_true]
 exact h'
theorem dw_skip {op : SOp} {g : Nat} {t want : Bool} (hg : lk E g = some (.bool t)) (ht : t = !want) (h : DPW p base rs Q r W A (setD E dst .undef) S nk) : DPW p base rs Q (⟨id, dst, op, some (g, want), aid, ws, keep⟩ :: r) W A E S nk := .mk fun Z β H F c QP hS hE hC hA => by
 obtain ⟨v, hv, x, rfl, hr⟩ := hE g _ hg
 cases hr
 have hw : wantedA (some (g, want)) F = false := by simp [wantedA, hv, ht]
 rw [wOps]
 simp only [hw, Bool.false_eq_true, if_false]
 exact h.run Z β H _ c QP hS (hE.set dst undef_ok) hC hA
theorem dw_skipU {op : SOp} {g : Nat} {want : Bool} (hg : lk E g = some .undef) (h : DPW p base rs Q r W A (setD E dst .undef) S nk) : DPW p base rs Q (⟨id, dst, op, some (g, want), aid, ws, keep⟩ :: r) W A E S nk := .mk fun Z β H F c QP hS hE hC hA => by
 obtain ⟨v, hv, x, rfl, hr⟩ := hE g _ hg
 have hw : wantedA (some (g, want)) F = false := by simp [wantedA, hv]
 rw [wOps]
 simp only [hw, Bool.false_eq_true, if_false]
 exact h.run Z β H _ c QP hS (hE.set dst undef_ok) hC hA
theorem dw_by {op : SOp} {g : Nat} {t want : Bool} (hg : lk E g = some (.bool t)) (h1 : t = want -> DPW p base rs Q (⟨id, dst, op, none, aid, ws, keep⟩ :: r) W A E S nk) (h2 : t = !want -> DPW p base rs Q r W A (setD E dst .undef) S nk) : DPW p base rs Q (⟨id, dst, op, some (g, want), aid, ws, keep⟩ :: r) W A E S nk := by
 by_cases ht : t = want
 ·exact dw_want hg ht (h1 ht)
 ·have hb : ∀ a b : Bool, ¬ a = b -> a = !b := by decide
  have ht' := hb t want ht
  exact dw_skip hg ht' (h2 ht')
theorem dw_pg {op : PureOp} {d : DV} {g : Nat} {t want : Bool} (hg : lk E g = some (.bool t)) (hd : t = want -> dPure E op = some d) (h : DPW p base rs Q r W A (setD E dst (if t = want then d else .undef)) S nk) : DPW p base rs Q (⟨id, dst, .p op, some (g, want), aid, ws, keep⟩ :: r) W A E S nk :=
 dw_by hg (fun ht => dw_p (hd ht) (by rw [if_pos ht] at h; exact h)) (fun ht => by rw [if_neg (by rw [ht]; cases want <;> decide)] at h; exact h)
def rdC (p : Par) (S : Bx) : DC -> Nat -> Option (List DC)
 | .ptr k o, n => match lk S k with
  | some (.cells l) => subL l o n
  | some (.data l) => match subL l o n with
   | some q => some (q.map .f)
   | none => none
  | some (.tree rows) => subL (rowsV k 0 rows) o n
  | _ => none
 | .tptr k i o, n => match lk S k with
  | some (.tree rows) => match rows[i]? with
   | some r => match subL r o n with
    | some q => some (q.map .f)
    | none => none
   | none => none
  | _ => none
 | .fptr l, n => match subL l 0 n with
  | some q => some (q.map .f)
  | none => none
 | .g b o, n => match p.GH.get b, p.GH.loads b o n with
  | some _, some q => some (q.map toC)
  | _, _ => none
 | _, _ => none
def wtC : DC -> Nat -> Option (Key × Nat × Nat)
 | .ptr k o, n => some ((k, 0), o, n)
 | .tptr k i o, n => some ((k, i + 1), o, n)
 | _, _ => none
theorem all2_map_f {Z : Nat -> Prop} {H : Hp} {β : Beta} : ∀ {l : List FD} {cs : List C}, All2 (RF Z H) l cs -> All2 (RD Z H β) (l.map .f) cs
 | [], [], _ => trivial
 | _ :: _, _ :: _, h => ⟨h.1, all2_map_f h.2⟩
 | [], _ :: _, h => h.elim
 | _ :: _, [], h => h.elim
theorem rdC_ok {Z : Nat -> Prop} {β : Beta} {H : Hp} (hS : SR p Z β H S nk) {d : DC} {c : C} (hr : RD Z H β d c) {n : Nat} {l : List DC} (hl : rdC p S d n = some l) :
  ∃ b o cs, c = .ptr b o /\ H.loads b o n = some cs /\ All2 (RD Z H β) l cs /\ ∀ q : Hp -> Prop, (∀ H' : Hp, (∀ i x, o <= i -> i < o + n -> H.cell b i = some x -> H'.cell b i = some x) -> q H') -> WR Z β H (wtC d n) q := by
 have key : ∀ {κ : Key} {o : Nat} {x : Bk} {q : List DC}, lk2 S κ = some x -> x.shape = none -> (∀ cs, x.rel Z H β cs -> All2 (RD Z H β) q ((cs.drop o).take n)) -> o + n <= x.len -> (∃ b N, β κ = some (.blk b N) /\ c = .ptr b o) -> ∃ b o' cs, c = .ptr b o' /\ H.loads b o' n = some cs /\ All2 (RD Z H β) q cs /\ ∀ q : Hp -> Prop, (∀ H' : Hp, (∀ i x, o' <= i -> i < o' + n -> H.cell b i = some x -> H'.cell b i = some x) -> q H') -> WR Z β H (some (κ, o, n)) q := by
  intro κ o x q hk hsh hq hle hr
  obtain ⟨b, N, hb, rfl⟩ := hr
  obtain ⟨s, hs, hbx⟩ := hS.box κ x hk
  rw [hb] at hs
  obtain rfl := Option.some.inj hs
  obtain ⟨_, _, _, cs, rest, hrow, hN, hrel⟩ := hbx
  rw [hsh] at hrow
  have hrow : Row H b (cs ++ rest) := hrow
  have hlen := Bk.rel_len hrel
  refine ⟨b, o, (cs.drop o).take n, rfl, ?_, hq cs hrel, fun q hq => ⟨b, N, hb, hq⟩⟩
  have h1 : H.loads b (0 + o) n = some (((cs ++ rest).drop o).take n) := loads_at hrow.2 (by simp; omega)
  rw [Nat.zero_add] at h1
  rw [h1, List.drop_append_of_le_length (by omega), List.take_append_of_le_length (by simp; omega)]
 cases d with
 | ptr k o =>
  simp only [rdC] at hl
  split at hl
  ·rename_i l0 hk
   obtain ⟨h1, rfl⟩ := subL_some hl
   exact key (lk2_of hk rfl) rfl (fun cs hrel => (All2.drop hrel o).take n) h1 hr
  ·rename_i l0 hk
   split at hl
   ·rename_i q hq
    obtain rfl := Option.some.inj hl
    obtain ⟨h1, rfl⟩ := subL_some hq
    exact key (lk2_of hk rfl) rfl (fun cs hrel => all2_map_f ((All2.drop hrel o).take n)) h1 hr
   ·cases hl
  ·rename_i rows hk
   obtain ⟨h1, rfl⟩ := subL_some hl
   exact key (κ := (k, 0)) (x := .cells (rowsV k 0 rows)) (by simp only [lk2, hk]) rfl (fun cs hrel => (All2.drop hrel o).take n) h1 hr
  ·cases hl
 | tptr k i o =>
  simp only [rdC] at hl
  split at hl
  ·rename_i rows hk
   split at hl
   ·rename_i r hri
    split at hl
    ·rename_i q hq
     obtain rfl := Option.some.inj hl
     obtain ⟨h1, rfl⟩ := subL_some hq
     exact key (κ := (k, i + 1)) (x := .data r) (by simp only [lk2, hk, hri]; rfl) rfl (fun cs hrel => all2_map_f ((All2.drop hrel o).take n)) h1 hr
    ·cases hl
   ·cases hl
  ·cases hl
 | fptr l0 =>
  simp only [rdC] at hl
  split at hl
  ·rename_i q hq
   obtain rfl := Option.some.inj hl
   obtain ⟨h1, rfl⟩ := subL_some hq
   obtain ⟨b, o, cs, rfl, hz, hld, ha⟩ := hr
   refine ⟨b, o, cs.take n, rfl, loads_take hld (by omega), all2_map_f (by simpa using ha.take n), fun q hq => ⟨b, hz, fun H' hh => hq H' fun i x _ _ hx => hh i x hx⟩⟩
  ·cases hl
 | g b o =>
  simp only [rdC] at hl
  split at hl
  ·rename_i bk q hn hq
   obtain rfl := Option.some.inj hl
   obtain rfl : c = .ptr b o := hr
   obtain ⟨h1, h2⟩ := hS.glob b bk (.inl hn)
   refine ⟨b, o, q, rfl, by rw [loads_congr (H := p.GH) (by rw [h2, hn])]; exact hq, toCs_ok q, fun q hq => ⟨b, h1, fun H' hh => hq H' fun i x _ _ hx => hh i x hx⟩⟩
  ·cases hl
 | _ => cases hl
def dLoad (p : Par) (E : DEnv) (S : Bx) (agg : Bool) (n : Nat) (a : Opd) : Option DV := match ro E a with
 | some (.one d) => match agg with
  | true => match rdC p S d n with
   | some l => some (.agg l)
   | none => none
  | false => match rdC p S d 1 with
   | some (x :: _) => some (.one x)
   | _ => none
 | _ => none
def ldN (agg : Bool) (n : Nat) : Nat := match agg with
 | true => n
 | false => 1
def wtO (E : DEnv) (a : Opd) (agg : Bool) (n : Nat) : Option (Key × Nat × Nat) := match ro E a with
 | some (.one d) => wtC d (ldN agg n)
 | _ => none
theorem cell_loads {H : Hp} {b o n : Nat} {x : C} {l : List C} (h : H.loads b o (n + 1) = some (x :: l)) : H.cell b o = some x := by
 have := loads_cell (i := 0) h (by omega)
 simpa using this
theorem loads_keep {H H' : Hp} {b : Nat} : ∀ {n o : Nat} {l : List C}, H.loads b o n = some l -> (∀ i x, o <= i -> i < o + n -> H.cell b i = some x -> H'.cell b i = some x) -> H'.loads b o n = some l
 | 0, _, _, hl, _ => hl
 | n + 1, o, l, hl, hh => by
  simp only [Hp.loads] at hl ⊢
  cases hc : H.cell b o with
  | none => simp [hc] at hl
  | some c =>
   simp only [hc] at hl
   simp only [hh o c (by omega) (by omega) hc]
   cases hr : H.loads b (o + 1) n with
   | none => simp [hr] at hl
   | some r => simp only [hr] at hl; simp only [loads_keep hr fun i x h1 h2 => hh i x (by omega) (by omega)]; exact hl
theorem dLoad_ok {Z : Nat -> Prop} {β : Beta} {H : Hp} {F : T V} (hS : SR p Z β H S nk) (hE : ER Z β H E F) {agg : Bool} {n : Nat} {a : Opd} {d : DV} (hd : dLoad p E S agg n a = some d) :
  ∃ v, aLoad F H (.load agg n a) = some v /\ RDV1 Z H β d v /\ WR Z β H (wtO E a agg n) fun H' => aLoad F H' (.load agg n a) = some v := by
 unfold dLoad at hd
 split at hd
 ·rename_i e he
  have hwt : wtO E a agg n = wtC e (ldN agg n) := by simp only [wtO, he]
  rw [hwt]
  obtain ⟨x, hx, hr⟩ := ro_ok hE he
  cases agg with
  | true =>
   simp only [ldN] at hd ⊢
   split at hd
   ·rename_i l hl
    obtain rfl := Option.some.inj hd
    obtain ⟨b, o, cs, rfl, h1, h2, h3⟩ := rdC_ok hS hr hl
    refine ⟨.agg cs, by simp [aLoad, hx, h1], ⟨cs, rfl, h2⟩, h3 _ fun H' hh => ?_⟩
    simp [aLoad, hx, loads_keep h1 hh]
   ·cases hd
  | false =>
   simp only [ldN] at hd ⊢
   split at hd
   ·rename_i x' l hl
    obtain rfl := Option.some.inj hd
    obtain ⟨b, o, cs, rfl, h1, h2, h3⟩ := rdC_ok hS hr hl
    cases cs with
    | nil => exact h2.elim
    | cons y cs =>
     have hcell := cell_loads h1
     refine ⟨.one y, by simp [aLoad, hx, hcell], ⟨y, rfl, h2.1⟩, h3 _ fun H' hh => ?_⟩
     simp [aLoad, hx, hh o y (by omega) (by omega) hcell]
   ·cases hd
 ·cases hd
theorem dw_l {agg : Bool} {n : Nat} {a : Opd} {d : DV} (hd : dLoad p E S agg n a = some d) (h : DPW p base rs Q r W A (setD E dst d) S nk) : DPW p base rs Q (⟨id, dst, .l (.load agg n a), none, aid, ws, false⟩ :: r) W A E S nk := .mk fun Z β H F c QP hS hE hC hA => by
 obtain ⟨v, hv, hr, _⟩ := dLoad_ok hS hE hd
 simp only [wOps, wantedA, if_true, hv, Bool.false_eq_true, if_false]
 exact h.run Z β H _ c QP hS (hE.set dst (RDV.of1 hr)) hC hA
theorem dw_lk {agg : Bool} {n : Nat} {a : Opd} {d : DV} (hd : dLoad p E S agg n a = some d) (h : DPW p base rs Q r ((id, wtO E a agg n) :: W) A (setD E dst d) S nk) : DPW p base rs Q (⟨id, dst, .l (.load agg n a), none, aid, ws, true⟩ :: r) W A E S nk := .mk fun Z β H F c QP hS hE hC hA => by
 obtain ⟨v, hv, hr, hw⟩ := dLoad_ok hS hE hd
 simp only [wOps, wantedA, if_true, hv]
 refine h.run Z β H _ _ QP hS (hE.set dst (RDV.of1 hr)) (fun x hx => ?_) hA
 rcases List.mem_cons.1 hx with rfl|hx
 ·exact ⟨(id, wtO E a agg n), List.mem_cons_self, hw⟩
 ·obtain ⟨y, hy, hr⟩ := hC x hx
  exact ⟨y, by simp [hy], hr⟩
theorem dw_lg {agg : Bool} {n : Nat} {a : Opd} {d : DV} {g : Nat} {t want : Bool} (hg : lk E g = some (.bool t)) (hd : t = want -> dLoad p E S agg n a = some d) (h : DPW p base rs Q r W A (setD E dst (if t = want then d else .undef)) S nk) : DPW p base rs Q (⟨id, dst, .l (.load agg n a), some (g, want), aid, ws, false⟩ :: r) W A E S nk :=
 dw_by hg (fun ht => dw_l (hd ht) (by rw [if_pos ht] at h; exact h)) (fun ht => by rw [if_neg (by rw [ht]; cases want <;> decide)] at h; exact h)
theorem dload_data {agg : Bool} {n k o : Nat} {a : Opd} {l q : List FD} (ha : ro E a = some (.one (.ptr k o))) (hk : lk S k = some (.data l)) (hl : subL l o (ldN agg n) = some q) {d : DV} (hd : (match agg, q with|true, q => some (.agg (q.map .f))|false, x :: _ => some (.one (.f x))|false, [] => none) = some d) : dLoad p E S agg n a = some d := by
 cases agg with
 | true => simp only [ldN] at hl hd; simp only [dLoad, ha, rdC, hk, hl]; exact hd
 | false =>
  simp only [ldN] at hl
  cases q with
  | nil => cases hd
  | cons x q => simp only at hd; simp only [dLoad, ha, rdC, hk, hl, List.map_cons]; exact hd
theorem dload_tree {n k o : Nat} {a : Opd} {rows : List (List FD)} {r : List FD} (ha : ro E a = some (.one (.ptr k o))) (hk : lk S k = some (.tree rows)) (hl : rows[o]? = some r) : dLoad p E S false n a = some (.one (.trow k o 0 r.length)) := by
 have h1 : o < rows.length := (List.getElem?_eq_some_iff.1 hl).1
 have h2 : subL (rowsV k 0 rows) o 1 = some [.trow k o 0 r.length] := by
  rw [subL_of (by rw [rowsV_len]; omega)]
  congr 1
  refine List.ext_getElem? fun j => ?_
  rw [List.getElem?_take]
  split
  ·rename_i hj
   obtain rfl : j = 0 := by omega
   rw [List.getElem?_drop, rowsV_at, Nat.add_zero, hl]
   simp
  ·rename_i hj
   rw [List.getElem?_eq_none (by simp; omega)]
 simp only [dLoad, ha, rdC, hk, h2]
theorem dload_tptr {n k i o : Nat} {a : Opd} {rows : List (List FD)} {r : List FD} {x : FD} (ha : ro E a = some (.one (.tptr k i o))) (hk : lk S k = some (.tree rows)) (hi : rows[i]? = some r) (ho : r[o]? = some x) : dLoad p E S false n a = some (.one (.f x)) := by
 have h1 : o < r.length := (List.getElem?_eq_some_iff.1 ho).1
 have h2 : subL r o 1 = some [x] := by
  rw [subL_of (by omega)]
  congr 1
  refine List.ext_getElem? fun j => ?_
  rw [List.getElem?_take]
  split
  ·rename_i hj
   obtain rfl : j = 0 := by omega
   rw [List.getElem?_drop, Nat.add_zero, ho]
   simp
  ·rename_i hj
   rw [List.getElem?_eq_none (by simp; omega)]
 simp only [dLoad, ha, rdC, hk, hi, h2, List.map_cons]
theorem dw_it {x i : Opd} {k t o n : Nat} {kd : IntKind} {j : Int} (hx : ro E x = some (.one (.trow k t o n))) (hi : ro E i = some (.one (.f (.c (.int kd j))))) (h0 : 0 <= j) (h1 : j < n) (h : DPW p base rs Q r W A (setD E dst (.one (.tptr k t (o + j.toNat * 1)))) S nk) : DPW p base rs Q (⟨id, dst, .p (.iaddr 1 x i), none, aid, ws, keep⟩ :: r) W A E S nk := by
 refine dw_pv (fun {Z β H F} hE => ?_) h
 obtain ⟨c, hc, hr⟩ := ro_ok hE hx
 rcases hr with ⟨_, h2, _⟩|⟨b, N, cap, ex, h2, rfl, _⟩
 ·omega
 ·exact ⟨.one (.ptr b (o + j.toNat * 1)), by simp only [aPure, hc, int_of hE hi, iaddrV]; rw [if_pos ⟨trivial, h0, h1⟩], _, rfl, b, N, h2, rfl⟩
theorem dw_it0 {x i : Opd} {k t n : Nat} {kd : IntKind} {j : Int} (hx : ro E x = some (.one (.trow k t 0 n))) (hi : ro E i = some (.one (.f (.c (.int kd j))))) (h0 : 0 <= j) (h1 : j < n) (h : DPW p base rs Q r W A (setD E dst (.one (.tptr k t j.toNat))) S nk) : DPW p base rs Q (⟨id, dst, .p (.iaddr 1 x i), none, aid, ws, keep⟩ :: r) W A E S nk :=
 dw_it hx hi h0 h1 (by rw [Nat.zero_add, Nat.mul_one]; exact h)
theorem dw_io1 {x i : Opd} {k n : Nat} {kd : IntKind} {j : Int} (hx : ro E x = some (.one (.own k 0 n 1))) (hi : ro E i = some (.one (.f (.c (.int kd j))))) (h0 : 0 <= j) (h1 : j < n) (h : DPW p base rs Q r W A (setD E dst (.one (.ptr k j.toNat))) S nk) : DPW p base rs Q (⟨id, dst, .p (.iaddr 1 x i), none, aid, ws, keep⟩ :: r) W A E S nk :=
 dw_io hx hi h0 h1 (by rw [Nat.zero_add, Nat.mul_one]; exact h)
end
end Go.Ab

namespace Go.Ab
def allF : List DC -> Option (List FD)
 | [] => some []
 | .f d :: l => match allF l with
  | some r => some (d :: r)
  | none => none
 | _ :: _ => none
def mkBk (l : List DC) : Bk := match allF l with
 | some r => .data r
 | none => .cells l
section
variable {Z : Nat -> Prop} {H : Hp} {β : Beta}
theorem allF_ok : ∀ {l : List DC} {r : List FD} {cs : List C}, allF l = some r -> All2 (RD Z H β) l cs -> All2 (RF Z H) r cs
 | [], r, [], h, _ => by obtain rfl := Option.some.inj h; trivial
 | .f d :: l, r, c :: cs, h, hr => by
  simp only [allF] at h
  split at h
  ·rename_i q hq
   obtain rfl := Option.some.inj h
   exact ⟨hr.1, allF_ok hq hr.2⟩
  ·cases h
 | [], _, _ :: _, _, hr => hr.elim
 | _ :: _, _, [], _, hr => hr.elim
 | .g _ _ :: _, _, _ :: _, h, _ => by cases h
 | .ptr _ _ :: _, _, _ :: _, h, _ => by cases h
 | .own _ _ _ _ :: _, _, _ :: _, h, _ => by cases h
 | .fptr _ :: _, _, _ :: _, h, _ => by cases h
 | .fn _ _ :: _, _, _ :: _, h, _ => by cases h
 | .any :: _, _, _ :: _, h, _ => by cases h
 | .om _ :: _, _, _ :: _, h, _ => by cases h
 | .yl _ :: _, _, _ :: _, h, _ => by cases h
 | .fz _ _ :: _, _, _ :: _, h, _ => by cases h
 | .trow _ _ _ _ :: _, _, _ :: _, h, _ => by cases h
 | .tptr _ _ _ :: _, _, _ :: _, h, _ => by cases h
theorem mkBk_ok {l : List DC} {cs : List C} (h : All2 (RD Z H β) l cs) : (mkBk l).rel Z H β cs := by
 unfold mkBk
 split
 ·rename_i r hr; exact allF_ok hr h
 ·exact h
end
theorem mkBk_shape (l : List DC) : (mkBk l).shape = none := by
 unfold mkBk
 split <;> rfl
theorem fillL_len {F : T V} : ∀ {ps : List (Nat × Nat × Opd)} {z l : List C}, fillL F z ps = some l -> l.length = z.length
 | [], z, l, h => by rw [Option.some.inj h]
 | (off, size, x) :: r, z, l, h => by
  simp only [fillL] at h
  split at h
  ·cases h
  ·rename_i cs _
   split at h
   ·rename_i e
    rw [fillL_len h]
    simp only [List.length_append, List.length_take, List.length_drop]
    omega
   ·cases h
def dAlloc (E : DEnv) (nk : Nat) : AllocOp -> Option (Bk × DV)
 | .alloc z => some (.cells (z.map toC), .one (.ptr nk 0))
 | .box x => match ro E x with
  | some d => match cellsD d with
   | some l => some (.cells l, .one (.ptr nk 0))
   | none => none
  | none => none
 | .bslice esz len z ps => match fillD E ((patt z (len * esz)).map toC) ps with
  | some l => some (mkBk l, .one (.own nk 0 len esz))
  | none => none
 | _ => none
theorem dAlloc_shape {E : DEnv} {nk : Nat} {op : AllocOp} {x : Bk} {d : DV} (h : dAlloc E nk op = some (x, d)) : x.shape = none := by
 cases op with
 | alloc z => obtain ⟨rfl, rfl⟩ := Prod.mk.inj (Option.some.inj h); rfl
 | box o =>
  simp only [dAlloc] at h
  split at h
  ·split at h
   ·obtain ⟨rfl, rfl⟩ := Prod.mk.inj (Option.some.inj h); rfl
   ·cases h
  ·cases h
 | bslice esz len z ps =>
  simp only [dAlloc] at h
  split at h
  ·obtain ⟨rfl, rfl⟩ := Prod.mk.inj (Option.some.inj h); exact mkBk_shape _
  ·cases h
 | _ => cases h
section
variable {p : Par} {Z : Nat -> Prop} {H : Hp} {β : Beta} {E : DEnv} {F : T V} {nk : Nat}
theorem dAlloc_ok (hE : ER Z β H E F) {op : AllocOp} {x : Bk} {d : DV} (h : dAlloc E nk op = some (x, d)) : ∃ cs g, aAlloc F op = some (.row cs.length cs .lf true, g) /\ x.rel Z H β cs /\ ∀ b H' Z' β', β' (nk, 0) = some (.blk b cs.length) -> RDV Z' H' β' d (g b) := by
 cases op with
 | alloc z =>
  obtain ⟨rfl, rfl⟩ := Prod.mk.inj (Option.some.inj h)
  exact ⟨z, _, rfl, toCs_ok z, fun b H' Z' β' hb => ⟨_, rfl, b, _, hb, rfl⟩⟩
 | box o =>
  simp only [dAlloc] at h
  split at h
  ·rename_i d' hd'
   split at h
   ·rename_i l hl
    obtain ⟨rfl, rfl⟩ := Prod.mk.inj (Option.some.inj h)
    obtain ⟨cs, h1, h2⟩ := cellsD_ok (ro_ok hE hd') hl
    exact ⟨cs, fun b => .one (.ptr b 0), by simp only [aAlloc, h1], h2, fun b H' Z' β' hb => ⟨_, rfl, b, _, hb, rfl⟩⟩
   ·cases h
  ·cases h
 | bslice esz len z ps =>
  simp only [dAlloc] at h
  split at h
  ·rename_i l hl
   obtain ⟨rfl, rfl⟩ := Prod.mk.inj (Option.some.inj h)
   obtain ⟨cs, h1, h2⟩ := fillD_ok hE (toCs_ok _) hl
   have hlen := fillL_len h1
   refine ⟨cs, fun b => .one (.slc b 0 len len esz true), by simp only [aAlloc, h1], mkBk_ok h2, fun b H' Z' β' hb => ⟨_, rfl, .inr ⟨b, cs.length, len, true, hb, rfl, Nat.le_refl _, ?_⟩⟩⟩
   rw [hlen]; simp [patt]
  ·cases h
 | _ => cases h
end
section
variable {p : Par} {base rs : Nat} {Q : DEnv -> Bx -> Nat -> Prop} {r : List SOper} {W : Wt} {A : List Nat} {E : DEnv} {S : Bx} {nk : Nat} {id : Nat} {dst : Option Nat} {aid : Option Nat} {ws : List Nat} {keep : Bool}
theorem AR.new {Z : Nat -> Prop} {β : Beta} {H H' : Hp} {b N : Nat} (hA : AR p base rs A Z β H) (hnx : H.nx <= H'.nx) (hg : ∀ b', b' ≠ b -> H'.get b' = H.get b') (hb : ∀ j, j < rs -> j ∉ A -> base + j ≠ b) : AR p base rs A Z (updB β nk (.blk b N)) H' := by
 refine ⟨hA.1, fun j hj hjA => ?_⟩
 obtain ⟨h1, h2, h3, h4⟩ := hA.2 j hj hjA
 refine ⟨by omega, by rw [hg _ (hb j hj hjA)]; exact h2, h3, fun k M => ?_⟩
 by_cases e : k = (nk, 0)
 ·subst e; rw [updB_self]; intro h
  exact hb j hj hjA (Slot.blk.inj (Option.some.inj h)).1.symm
 ·rw [updB_ne _ _ e]; exact h4 k M
theorem CR.new {Z : Nat -> Prop} {β β' : Beta} {H H' : Hp} {b : Nat} {c : Ctx} (hC : CR W Z β H c) (hZ : ZLe Z H Z H') (hB : BLe β β') (hg : ∀ b', b' ≠ b -> H'.get b' = H.get b') (hb : H.get b = none) : CR W Z β' H' c := hC.step hZ hB fun y _ k o n _ b' N i x _ _ _ hx => by
 unfold Hp.cell at hx ⊢
 by_cases e : b' = b
 ·subst e; rw [hb] at hx; cases hx
 ·rw [hg b' e]; exact hx
theorem dw_anew {op : AllocOp} {x : Bk} {d : DV} (hsh : x.shape = none) (hd : ∀ {Z : Nat -> Prop} {β : Beta} {H : Hp} {F : T V}, ER Z β H E F -> ∃ bk g cs rest, aAlloc F op = some (bk, g) /\ (∀ b H', H'.get b = some bk -> Row H' b (cs ++ rest)) /\ x.rel Z H β cs /\ ∀ b (H' : Hp) (Z' : Nat -> Prop) β', β' (nk, 0) = some (.blk b (cs ++ rest).length) -> RDV Z' H' β' d (g b))
  (h : DPW p base rs Q r W A (setD E dst d) ((nk, x) :: S) (nk + 1)) : DPW p base rs Q (⟨id, dst, .a op, none, none, ws, keep⟩ :: r) W A E S nk := .mk fun Z β H F c QP hS hE hC hA => by
 obtain ⟨bk, g, cs, rest, h1, h2, h3, h4⟩ := hd hE
 simp only [wOps, wantedA, if_true, h1]
 have hfr : H.get H.nx = none := hS.wf.fresh (Nat.le_refl _)
 have hg : ∀ b', b' ≠ H.nx -> (H.push bk).get b' = H.get b' := fun b' hb' => by rw [Hp.get_push, if_neg hb']
 obtain ⟨hS', hZ, hB⟩ := hS.new (x := x) (b := H.nx) (H' := H.push bk) (cs := cs) (rest := rest) hsh h3 (fun hz => absurd (hS.z _ hz) (by omega)) (fun k N hk => absurd (hS.bd k _ N hk) (by omega)) hS.lo (by simp) (by simp) (hS.wf.push _) hg (h2 _ _ (by rw [Hp.get_push, if_pos rfl]))
 exact h.run Z _ _ _ c QP hS' ((hE.mono hZ hB).set dst (h4 _ _ _ _ (updB_self _ _ _))) (hC.new hZ hB hg hfr) (hA.new (by simp) hg fun j hj hjA e => by have := (hA.2 j hj hjA).1; omega)
theorem dw_anewi {op : AllocOp} {x : Bk} {d : DV} {i : Nat} (hi : Nat.blt i rs = true) (hA' : A.elem i = false) (hsh : x.shape = none) (hd : ∀ {Z : Nat -> Prop} {β : Beta} {H : Hp} {F : T V}, ER Z β H E F -> ∃ bk g cs rest, aAlloc F op = some (bk, g) /\ (∀ b H', H'.get b = some bk -> Row H' b (cs ++ rest)) /\ x.rel Z H β cs /\ ∀ b (H' : Hp) (Z' : Nat -> Prop) β', β' (nk, 0) = some (.blk b (cs ++ rest).length) -> RDV Z' H' β' d (g b))
  (h : DPW p base rs Q r W (i :: A) (setD E dst d) ((nk, x) :: S) (nk + 1)) : DPW p base rs Q (⟨id, dst, .a op, none, some i, ws, keep⟩ :: r) W A E S nk := .mk fun Z β H F c QP hS hE hC hA => by
 obtain ⟨bk, g, cs, rest, h1, h2, h3, h4⟩ := hd hE
 simp only [wOps, wantedA, if_true, h1]
 have hi' : i < rs := Nat.le_of_ble_eq_true hi
 have hiA : i ∉ A := fun h => by rw [List.elem_eq_true_of_mem h] at hA'; cases hA'
 obtain ⟨g1, g2, g3, g4⟩ := hA.2 i hi' hiA
 have hg : ∀ b', b' ≠ base + i -> (H.add (base + i) bk).get b' = H.get b' := fun b' hb' => Hp.get_add_ne _ _ hb'
 have hw : WF (H.add (base + i) bk) := fun b k hb => by
  rw [Hp.get_add] at hb
  split at hb
  ·simp; omega
  ·exact hS.wf b k hb
 obtain ⟨hS', hZ, hB⟩ := hS.new (x := x) (b := base + i) (H' := H.add (base + i) bk) (cs := cs) (rest := rest) hsh h3 g3 g4 (by have := hA.1; omega) (by simpa using g1) (by simp) hw hg (h2 _ _ (by simp))
 refine h.run Z _ _ _ c QP hS' ((hE.mono hZ hB).set dst (h4 _ _ _ _ (updB_self _ _ _))) (hC.new hZ hB hg g2) ?_
 have hA2 : AR p base rs (i :: A) Z β H := ⟨hA.1, fun j hj hjA => hA.2 j hj fun h => hjA (by simp [h])⟩
 exact hA2.new (by simp) hg fun j hj hjA e => hjA (by simp; omega)
theorem row_of {cs : List C} (b : Nat) (H' : Hp) (h : H'.get b = some (.row cs.length cs .lf true)) : Row H' b (cs ++ []) := by
 rw [List.append_nil]
 exact ⟨⟨cs, .lf, h⟩, loads_row (rw := true) h⟩
theorem dw_a {op : AllocOp} {x : Bk} {d : DV} (hd : dAlloc E nk op = some (x, d)) (h : DPW p base rs Q r W A (setD E dst d) ((nk, x) :: S) (nk + 1)) : DPW p base rs Q (⟨id, dst, .a op, none, none, ws, keep⟩ :: r) W A E S nk :=
 dw_anew (dAlloc_shape hd) (fun hE => by
  obtain ⟨cs, g, h1, h2, h3⟩ := dAlloc_ok hE hd
  exact ⟨_, g, cs, [], h1, row_of, h2, fun b H' Z' β' hb => h3 b H' Z' β' (by simpa using hb)⟩) h
theorem dw_ai {op : AllocOp} {x : Bk} {d : DV} {i : Nat} (hi : Nat.blt i rs = true) (hA' : A.elem i = false) (hd : dAlloc E nk op = some (x, d)) (h : DPW p base rs Q r W (i :: A) (setD E dst d) ((nk, x) :: S) (nk + 1)) : DPW p base rs Q (⟨id, dst, .a op, none, some i, ws, keep⟩ :: r) W A E S nk :=
 dw_anewi hi hA' (dAlloc_shape hd) (fun hE => by
  obtain ⟨cs, g, h1, h2, h3⟩ := dAlloc_ok hE hd
  exact ⟨_, g, cs, [], h1, row_of, h2, fun b H' Z' β' hb => h3 b H' Z' β' (by simpa using hb)⟩) h
end
end Go.Ab

namespace Go.Ab
def setLs {α : Type} (l : List α) (i : Nat) : List α -> List α
 | [] => l
 | c :: cs => setLs (l.set i c) (i + 1) cs
theorem setL_app : ∀ (cs l rest : List C) (i : Nat), i + cs.length <= l.length -> setL (l ++ rest) i cs = setL l i cs ++ rest
 | [], _, _, _, _ => rfl
 | c :: cs, l, rest, i, h => by
  simp only [List.length_cons] at h
  simp only [setL]
  rw [List.set_append_left _ _ (by omega)]
  exact setL_app cs _ rest (i + 1) (by simp; omega)
theorem All2.set {α β : Type} {R : α -> β -> Prop} : ∀ {l : List α} {m : List β}, All2 R l m -> ∀ (i : Nat) {a : α} {b : β}, R a b -> All2 R (l.set i a) (m.set i b)
 | [], [], _, _, _, _, _ => trivial
 | _ :: _, _ :: _, h, 0, _, _, hr => ⟨hr, h.2⟩
 | _ :: _, _ :: _, h, i + 1, _, _, hr => ⟨h.1, All2.set h.2 i hr⟩
 | [], _ :: _, h, _, _, _, _ => h.elim
 | _ :: _, [], h, _, _, _, _ => h.elim
theorem All2.setLs {α : Type} {R : α -> C -> Prop} : ∀ {ds : List α} {cs : List C}, All2 R ds cs -> ∀ {l : List α} {m : List C} (i : Nat), All2 R l m -> All2 R (setLs l i ds) (setL m i cs)
 | [], [], _, _, _, _, h => h
 | _ :: _, _ :: _, hd, _, _, i, h => All2.setLs hd.2 (i + 1) (All2.set h i hd.1)
 | [], _ :: _, h, _, _, _, _ => h.elim
 | _ :: _, [], h, _, _, _, _ => h.elim
theorem dsetL_mid : ∀ (pre old cs rest : List C), cs.length = old.length -> setL (pre ++ (old ++ rest)) pre.length cs = pre ++ (cs ++ rest)
 | _, [], [], _, _ => by simp [setL]
 | pre, o :: old, c :: cs, rest, h => by
  simp only [setL]
  have e : (pre ++ (o :: old ++ rest)).set pre.length c = (pre ++ [c]) ++ (old ++ rest) := by simp
  rw [e]
  have := dsetL_mid (pre ++ [c]) old cs rest (by simpa using h)
  simp only [List.length_append, List.length_cons, List.length_nil] at this
  rw [this]; simp
 | _, [], _ :: _, _, h => by simp at h
 | _, _ :: _, [], _, h => by simp at h
def stB (x : Bk) (o : Nat) (l : List DC) : Bk := match x with
 | .cells m => .cells (setLs m o l)
 | .data m => match allF l with
  | some q => .data (setLs m o q)
  | none => .cells (setLs (m.map .f) o l)
 | x => x
section
variable {p : Par} {base rs : Nat} {Q : DEnv -> Bx -> Nat -> Prop} {r : List SOper} {W : Wt} {A : List Nat} {E : DEnv} {S : Bx} {nk : Nat} {id : Nat} {dst : Option Nat} {aid : Option Nat} {ws : List Nat} {keep : Bool}
theorem wOk_0 {k : Nat} (h : wOk S k W = true) : wOk0 S k W = true := by
 unfold wOk at h
 split at h
 ·exact h
 ·cases h
theorem stB_ok {Z : Nat -> Prop} {β : Beta} {H : Hp} {x : Bk} {o : Nat} {l : List DC} {cs ks : List C} (hsh : x.shape = none) (hx : x.rel Z H β cs) (hl : All2 (RD Z H β) l ks) : (stB x o l).rel Z H β (setL cs o ks) := by
 cases x with
 | cells m => exact All2.setLs hl o hx
 | data m =>
  simp only [stB]
  split
  ·rename_i q hq
   exact All2.setLs (allF_ok hq hl) o hx
  ·exact All2.setLs hl o (all2_map_f hx)
 | tree rows => exact hx.elim
 | mp ks l => cases hsh
 | mt es => exact hx.elim
theorem stB_shape {x : Bk} {o : Nat} {l : List DC} (hsh : x.shape = none) : (stB x o l).shape = none := by
 cases x with
 | cells m => rfl
 | data m => simp only [stB]; split <;> rfl
 | tree rows => rfl
 | mp ks l => cases hsh
 | mt es => rfl
theorem AR.upd {Z : Nat -> Prop} {β : Beta} {H H' : Hp} {b : Nat} (hA : AR p base rs A Z β H) (hnx : H'.nx = H.nx) (hg : ∀ b', b' ≠ b -> H'.get b' = H.get b') {k : Key} {N : Nat} (hb : β k = some (.blk b N)) : AR p base rs A Z β H' := by
 refine ⟨hA.1, fun j hj hjA => ?_⟩
 obtain ⟨h1, h2, h3, h4⟩ := hA.2 j hj hjA
 exact ⟨by omega, by rw [hg _ (fun e => h4 k N (by rw [e]; exact hb))]; exact h2, h3, h4⟩
theorem CR.upd {Z : Nat -> Prop} {β : Beta} {H H' : Hp} {b : Nat} {k : Key} {N : Nat} {c : Ctx} {x : Bk} (hS : SR p Z β H S nk) (hk : lk S k.1 = some x) (hC : CR W Z β H c) (hZ : ZLe Z H Z H') (hg : ∀ b', b' ≠ b -> H'.get b' = H.get b') (hb : β k = some (.blk b N)) (hw : wOk0 S k.1 W = true) : CR W Z β H' c := hC.step hZ (BLe.refl _) fun y hy j o n e b' N' i q hj _ _ hq => by
 obtain ⟨⟨z, hz⟩, hne⟩ := wOk0_mem hw y hy j o n e
 have : b' ≠ b := fun e' => hne (by rw [hS.inj j k z x b N' N hz hk (e' ▸ hj) hb])
 unfold Hp.cell at hq ⊢
 rw [hg b' this]; exact hq
theorem dw_st {n : Nat} {a v : Opd} {k o : Nat} {x : Bk} {d : DV} {l : List DC} (ha : ro E a = some (.one (.ptr k o))) (hv : ro E v = some d) (hl : cellsD d = some l) (hn : l.length = n) (hk : lk S k = some x) (hle : o + n <= x.len) (hw : wOk S k W = true)
  (h : DPW p base rs Q r W A (setD E dst .undef) (put k (stB x o l) S) nk) : DPW p base rs Q (⟨id, dst, .e (.store n a v), none, aid, ws, keep⟩ :: r) W A E S nk := .mk fun Z β H F c QP hS hE hC hA => by
 obtain ⟨ca, hca, b, N, hb, rfl⟩ := ro_ok hE ha
 obtain ⟨ks, hk1, hk2⟩ := cellsD_ok (ro_ok hE hv) hl
 have hfl := wOk_flat hw hk
 have hsh := wOk_row hw hk
 obtain ⟨s, hs, hbx⟩ := hS.box (k, 0) x (lk2_of hk hfl)
 rw [hb] at hs
 obtain rfl := Option.some.inj hs
 obtain ⟨hz, hlo, hlt, cs, rest, hrow, hN, hrel⟩ := hbx
 rw [hsh] at hrow hN
 have hN : (cs ++ rest).length = N := hN
 have hrow : Row H b (cs ++ rest) := hrow
 have hlen := Bk.rel_len hrel
 have hkl := hk2.len
 obtain ⟨H', e1, e2, e3, e4⟩ := hrow.stores (cs := ks) (i := o) (by simp; omega)
 rw [setL_app ks cs rest o (by omega)] at e2
 obtain ⟨hS', hZ⟩ := hS.upd (x' := stB x o l) (cs := setL cs o ks) (rest := rest) hk hfl hb (stB_ok hsh hrel hk2) e3 e4 (stB_shape hsh) e2 (by rw [List.length_append, setL_len, <- List.length_append]; exact hN)
 simp only [wOps, wantedA, if_true, aEff, hca, hk1]
 rw [if_pos (by omega), e1]
 have hC' := hC.upd (k := (k, 0)) hS hk hZ e3 hb (wOk_0 hw)
 exact ⟨hC'.watch ws, h.run Z β H' _ c QP hS' ((hE.mono hZ (BLe.refl _)).set dst undef_ok) hC' (hA.upd e4 e3 hb)⟩
def SrcR (S : Bx) (esz : Nat) (d : DV) (m : Nat) (q : List FD) : Prop := match d with
 | .one (.own k o m' e) => m' = m /\ e = esz /\ ∃ l, lk S k = some (.data l) /\ subL l o (m * esz) = some q
 | .one (.f (.sl e m' l)) => m' = m /\ e = esz /\ l = q
 | .one (.f (.c .nils)) => m = 0 /\ q = []
 | _ => False
theorem own_loads {Z : Nat -> Prop} {β : Beta} {H : Hp} (hS : SR p Z β H S nk) {k o n esz : Nat} {c : C} (hr : RD Z H β (.own k o n esz) c) {l q : List FD} (hk : lk S k = some (.data l)) (hq : subL l o (n * esz) = some q) : ∃ cs, All2 (RF Z H) q cs /\ ((c = .nils /\ n = 0 /\ cs = []) \/ ∃ b cap ex N, β (k, 0) = some (.blk b N) /\ c = .slc b o n cap esz ex /\ n <= cap /\ H.loads b o (n * esz) = some cs) := by
 obtain ⟨hle, rfl⟩ := subL_some hq
 rcases hr with ⟨_, rfl, rfl, rfl⟩|⟨b, N, cap, ex, hb, rfl, hcap, _⟩
 ·exact ⟨[], by simp; trivial, .inl ⟨rfl, rfl, rfl⟩⟩
 ·obtain ⟨s, hs, hbx⟩ := hS.box (k, 0) _ (lk2_of hk rfl)
  rw [hb] at hs
  obtain rfl := Option.some.inj hs
  obtain ⟨_, _, _, cs, rest, hrow, hN, hrel⟩ := hbx
  have hN : (cs ++ rest).length = _ := hN
  have hlen := Bk.rel_len hrel
  simp only [Bk.len] at hlen
  refine ⟨(cs.drop o).take (n * esz), (All2.drop hrel o).take _, .inr ⟨b, cap, ex, N, hb, rfl, hcap, ?_⟩⟩
  have h1 : H.loads b (0 + o) (n * esz) = some (((cs ++ rest).drop o).take (n * esz)) := loads_at hrow.2 (by simp; omega)
  rw [Nat.zero_add] at h1
  rw [h1, List.drop_append_of_le_length (by omega), List.take_append_of_le_length (by simp; omega)]
theorem dsrc_ok {Z : Nat -> Prop} {β : Beta} {H : Hp} {F : T V} (hS : SR p Z β H S nk) (hE : ER Z β H E F) {x : Opd} {d : DV} (hx : ro E x = some d) {esz m : Nat} {q : List FD} (hd : SrcR S esz d m q) : ∃ cs, srcCells H esz (x.ev F) = some (m, cs) /\ All2 (RF Z H) q cs /\ cs.length = m * esz := by
 have hr := ro_ok hE hx
 unfold SrcR at hd
 split at hd
 ·obtain ⟨rfl, rfl, l, hk, hq⟩ := hd
  obtain ⟨c, hc, hr⟩ := hr
  obtain ⟨cs, h1, h2⟩ := own_loads hS hr hk hq
  rcases h2 with ⟨rfl, rfl, rfl⟩|⟨b, cap, ex, N, _, rfl, _, h2⟩
  ·exact ⟨[], by rw [hc]; rfl, h1, by simp⟩
  ·exact ⟨cs, by rw [hc]; simp [srcCells, h2], h1, loads_len h2⟩
 ·obtain ⟨rfl, rfl, rfl⟩ := hd
  obtain ⟨c, hc, hr⟩ := hr
  cases hr with
  | nil => exact ⟨[], by rw [hc]; rfl, trivial, by simp⟩
  | sl hz hl hn hld hel =>
   rename_i b o cap ex cs
   exact ⟨cs, by rw [hc]; simp [srcCells, hld], All2.mk (by rw [hl, loads_len hld]) hel, loads_len hld⟩
 ·obtain ⟨rfl, rfl⟩ := hd
  obtain ⟨c, hc, hr⟩ := hr
  cases hr
  exact ⟨[], by rw [hc]; rfl, trivial, by simp⟩
 ·exact hd.elim
theorem AR.repl {Z : Nat -> Prop} {β : Beta} {H H' : Hp} {b N : Nat} {k : Key} (hA : AR p base rs A Z β H) (hnx : H.nx <= H'.nx) (hg : ∀ b', b' ≠ b -> (∀ N, β k ≠ some (.blk b' N)) -> H'.get b' = H.get b') (hb : (∃ N, β k = some (.blk b N)) \/ H.nx <= b) : AR p base rs A Z (updB β nk (.blk b N)) H' := by
 refine ⟨hA.1, fun j hj hjA => ?_⟩
 obtain ⟨h1, h2, h3, h4⟩ := hA.2 j hj hjA
 have hne : base + j ≠ b := fun e => by
  rcases hb with ⟨M, hM⟩|hb
  ·exact h4 k M (e ▸ hM)
  ·omega
 refine ⟨by omega, by rw [hg _ hne fun M => h4 k M]; exact h2, h3, fun i M => ?_⟩
 by_cases e : i = (nk, 0)
 ·subst e; rw [updB_self]; intro h
  exact hne (Slot.blk.inj (Option.some.inj h)).1.symm
 ·rw [updB_ne _ _ e]; exact h4 i M
theorem CR.repl {Z : Nat -> Prop} {β β' : Beta} {H H' : Hp} {b k : Nat} {c : Ctx} {x : Bk} (hS : SR p Z β H S nk) (hk : lk S k = some x) (hC : CR W Z β H c) (hZ : ZLe Z H Z H') (hB : BLe β β') (hg : ∀ b', b' ≠ b -> (∀ N, β (k, 0) ≠ some (.blk b' N)) -> H'.get b' = H.get b') (hb : (∃ N, β (k, 0) = some (.blk b N)) \/ H.nx <= b) (hw : wOk S k W = true) : CR W Z β' H' c := hC.step hZ hB fun y hy j o n e b' N' i q hj _ _ hq => by
 obtain ⟨⟨z, hz⟩, hne⟩ := wOk_mem hw y hy j o n e
 have h2 : ∀ N, β (k, 0) ≠ some (.blk b' N) := fun N e' => hne (by rw [hS.inj j (k, 0) z x b' N' N hz hk hj e'])
 have h1 : b' ≠ b := fun e' => by
  rcases hb with ⟨M, hM⟩|hb
  ·exact h2 M (e' ▸ hM)
  ·have := hS.bd j b' N' hj; omega
 unfold Hp.cell at hq ⊢
 rw [hg b' h1 h2]; exact hq
theorem SR.keepS {Z : Nat -> Prop} {β : Beta} {H : Hp} {S0 : Bx} (hS : SR p Z β H S nk) (h2 : ∀ k x, lk S0 k = some x -> lk S k = some x) : SR p Z β H S0 nk :=
 ⟨hS.wf, hS.lo, hS.z, hS.zlo, hS.zz, hS.glob, hS.nk, hS.bd, fun k x hk => hS.box k x (by
  obtain ⟨y, hy⟩ := lk2_lk hk
  rw [lk2_congr (S' := S0) (by rw [hy, h2 _ _ hy])]; exact hk), fun k k' x x' b N N' hk hk' => hS.inj k k' x x' b N N' (h2 _ x hk) (h2 _ x' hk'), hS.blo, hS.anch, hS.ancn⟩
theorem virt_ok {Z : Nat -> Prop} {β : Beta} {H : Hp} (hS : SR p Z β H S nk) : SR p Z (updB β nk .nil) H ((nk, .data []) :: S) (nk + 1) := by
 have hB := hS.ble .nil
 refine ⟨hS.wf, hS.lo, hS.z, hS.zlo, hS.zz, hS.glob, fun j hj => ?_, fun j b' N hj => ?_, fun j y hj => ?_, fun j j' y y' b' N N' hj hj' e1 e2 => ?_, fun j b' N hj => ?_, fun κ hκ h0 => by rw [updB_ne1 _ _ (by have := hS.ancn; omega)]; exact hS.anch κ hκ h0, Nat.le_succ_of_le hS.ancn⟩
 ·rw [updB_ne1 _ _ (by omega)]; exact hS.nk j (by omega)
 ·by_cases e : j = (nk, 0)
  ·subst e; rw [updB_self] at hj; cases hj
  ·rw [updB_ne _ _ e] at hj; exact hS.bd j b' N hj
 ·rw [lk2_cons rfl] at hj
  split at hj
  ·rename_i e
   split at hj
   ·rename_i e2
    obtain rfl := key_eq e e2
    obtain rfl := Option.some.inj hj
    exact ⟨_, updB_self _ _ _, rfl⟩
   ·cases hj
  ·obtain ⟨s, hs, hbx⟩ := hS.box j y hj
   exact ⟨s, hB j s hs, hbx.mono hB (Nat.le_refl _) fun _ _ => rfl⟩
 ·by_cases e : j = (nk, 0)
  ·subst e; rw [updB_self] at e1; cases e1
  ·rw [updB_ne _ _ e] at e1
   by_cases e' : j' = (nk, 0)
   ·subst e'; rw [updB_self] at e2; cases e2
   ·rw [updB_ne _ _ e'] at e2
    have n1 := hS.lt1 e1
    have n2 := hS.lt1 e2
    rw [lk_cons, if_neg (by omega)] at hj hj'
    exact hS.inj j j' y y' b' N N' hj hj' e1 e2
 ·by_cases e : j = (nk, 0)
  ·subst e; rw [updB_self] at hj; cases hj
  ·rw [updB_ne _ _ e] at hj; exact hS.blo j b' N hj
theorem dw_app {esz bytes : Nat} {s v : Opd} {k n m : Nat} {l q l' : List FD} {d : DV} (hs : ro E s = some (.one (.own k 0 n esz))) (hv : ro E v = some d) (hk : lk S k = some (.data l)) (hl' : subL l 0 (n * esz) = some l') (hd : SrcR S esz d m q) (hbb : (n + m) * bytes <= 140737488355328) (h62 : n + m < 4611686018427387904) (he : 0 < esz) (hw : wOk S k W = true)
  (h : DPW p base rs Q r W A (setD E dst (.one (.own nk 0 (n + m) esz))) ((nk, .data (l' ++ q)) :: era k S) (nk + 1)) : DPW p base rs Q (⟨id, dst, .e (.append esz bytes s v), none, aid, ws, keep⟩ :: r) W A E S nk := .mk fun Z β H F c QP hS hE hC hA => by
 obtain ⟨news, hn1, hn2, hn3⟩ := dsrc_ok hS hE hv hd
 obtain ⟨cs, hcs, hr⟩ := ro_ok hE hs
 obtain ⟨hle, hl'e⟩ := subL_some hl'
 rw [Nat.zero_add] at hle
 rw [List.drop_zero] at hl'e
 obtain ⟨sk, hsk, hbx⟩ := hS.box (k, 0) _ (lk2_of hk rfl)
 simp only [wOps, wantedA, if_true, aEff, hn1, hcs]
 have hfin : ∀ (H' : Hp) (b : Nat) (ys rest : List C) (cap : Nat) (ex : Bool), All2 (RF Z H) (l' ++ q) ys -> ((∃ N, β (k, 0) = some (.blk b N)) \/ (b = H.nx)) -> b < H'.nx -> H.nx <= H'.nx -> WF H' -> (∀ b', b' ≠ b -> (∀ N, β (k, 0) ≠ some (.blk b' N)) -> H'.get b' = H.get b') -> Row H' b (ys ++ rest) -> n + m <= cap -> cap * esz <= (ys ++ rest).length ->
   watchOk ws c H' /\ wOps p.P p.G base QP (fun F' H' => ∃ E' S' nk' Z' β', SR p Z' β' H' S' nk' /\ ER Z' β' H' E' F' /\ Q E' S' nk') r c (setO F dst (.one (.slc b 0 (n + m) cap esz ex))) H' := by
  intro H' b ys rest cap ex hys hb hbl hnx hwf hg hrow hcap hcl
  have hb' : (∃ N, β (k, 0) = some (.blk b N)) \/ H.nx <= b := hb.imp (fun h => h) fun e => by omega
  obtain ⟨hS', hZ, hB⟩ := hS.replace (x' := .data (l' ++ q)) hk rfl hys (hb.imp (fun h => h) fun e => by subst e; exact ⟨fun hz => absurd (hS.z _ hz) (by omega), fun k N hk => absurd (hS.bd k _ N hk) (by omega), hS.lo⟩) hbl hnx hwf hg rfl hrow
  have hC' := hC.repl hS hk hZ hB hg hb' hw
  exact ⟨hC'.watch ws, h.run Z _ H' _ c QP hS' ((hE.mono hZ hB).set dst ⟨_, rfl, .inr ⟨b, _, cap, ex, updB_self _ _ _, rfl, hcap, by omega⟩⟩) hC' (hA.repl hnx hg hb')⟩
 rcases hr with ⟨hnil, rfl, _, rfl⟩|⟨b, N, cap, ex, hb, rfl, hcap, hcN⟩
 ·have hl0 : l' = [] := by rw [hl'e]; simp
  subst hl0
  simp only [aAppend]
  rw [Nat.zero_add] at hbb h62
  by_cases hm : m = 0
  ·subst hm
   rw [if_pos rfl]
   have hq0 : q = [] := List.eq_nil_of_length_eq_zero (by rw [hn2.len, hn3]; simp)
   subst hq0
   refine ⟨hC.watch ws, ?_⟩
   have hB := hS.ble .nil
   have hkn := hS.lt hk
   have hZ := ZLe.refl Z H
   have hS' : SR p Z (updB β nk .nil) H ((nk, .data []) :: era k S) (nk + 1) := by
    exact (virt_ok hS).keepS fun j y hj => by
     rw [lk_cons] at hj ⊢
     split at hj
     ·rename_i e; rw [if_pos e]; exact hj
     ·rename_i e
      rw [if_neg e]
      rw [lk_era] at hj
      split at hj
      ·cases hj
      ·exact hj
   refine h.run Z _ H _ c QP hS' ((hE.mono hZ hB).set dst ⟨_, rfl, .inl ⟨updB_self _ _ _, rfl, rfl, rfl⟩⟩) (hC.step hZ hB fun _ _ _ _ _ _ _ _ _ _ _ _ _ h => h) ⟨hA.1, fun j hj hjA => ?_⟩
   obtain ⟨h1, h2, h3, h4⟩ := hA.2 j hj hjA
   refine ⟨h1, h2, h3, fun i M => ?_⟩
   by_cases e : i = (nk, 0)
   ·subst e; rw [updB_self]; intro h; cases h
   ·rw [updB_ne _ _ e]; exact h4 i M
  ·rw [if_neg hm, if_pos ⟨hbb, h62⟩]
   have := hfin (H.push (.row news.length news .lf true)) H.nx news [] m false (by simpa using hn2) (.inr rfl) (by simp) (by simp) (hS.wf.push _) (fun b' hb' _ => by rw [Hp.get_push, if_neg hb']) (by rw [List.append_nil]; exact Row.new news) (by omega) (by simp [hn3])
   rw [Nat.zero_add] at this
   exact this
 ·rw [hb] at hsk
  obtain rfl := Option.some.inj hsk
  obtain ⟨hz, hlo, hlt, cells, rest, hrow, hN, hrel⟩ := hbx
  have hN : (cells ++ rest).length = _ := hN
  have hlen : l.length = cells.length := Bk.rel_len hrel
  have hoN : n * esz <= N := by
   have : n * esz <= cap * esz := Nat.mul_le_mul_right _ hcap
   omega
  have hpre : All2 (RF Z H) l' (cells.take (n * esz)) := by rw [hl'e]; exact All2.take hrel _
  simp only [aAppend]
  rw [if_neg (by simp)]
  by_cases hfit : n + m <= cap
  ·rw [if_pos hfit, Nat.zero_add]
   have hcm : (n + m) * esz <= cap * esz := Nat.mul_le_mul_right _ hfit
   rw [Nat.add_mul] at hcm
   have hsplit : cells ++ rest = cells.take (n * esz) ++ ((cells ++ rest).drop (n * esz)).take (m * esz) ++ (cells ++ rest).drop (n * esz + m * esz) := by
    rw [List.append_assoc, <- List.drop_drop, List.take_append_drop, <- List.take_append_of_le_length (l₁ := cells) (l₂ := rest) (by omega), List.take_append_drop]
   obtain ⟨H', e1, e2, e3, e4⟩ := hrow.stores (cs := news) (i := n * esz) (by rw [hN, hn3]; omega)
   rw [e1]
   have hset : setL (cells ++ rest) (n * esz) news = (cells.take (n * esz) ++ news) ++ (cells ++ rest).drop (n * esz + m * esz) := by
    conv => lhs; rw [hsplit, List.append_assoc]
    have := dsetL_mid (cells.take (n * esz)) (((cells ++ rest).drop (n * esz)).take (m * esz)) news ((cells ++ rest).drop (n * esz + m * esz)) (by rw [hn3, List.length_take, List.length_drop, hN]; omega)
    rw [List.length_take, Nat.min_eq_left (by omega)] at this
    rw [this, List.append_assoc]
   rw [hset] at e2
   refine hfin H' b (cells.take (n * esz) ++ news) _ cap ex (hpre.append hn2) (.inl ⟨N, hb⟩) (by omega) (by omega) (fun b' bk hb' => ?_) (fun b' hb' _ => e3 b' hb') e2 hfit ?_
   ·rw [e4]
    by_cases e : b' = b
    ·omega
    ·rw [e3 b' e] at hb'; exact hS.wf b' bk hb'
   ·have h1 := congrArg List.length hset
    rw [setL_len] at h1
    omega
  ·rw [if_neg hfit, if_pos ⟨hbb, h62⟩]
   have hld : H.loads b 0 (n * esz) = some (cells.take (n * esz)) := by
    have := loads_take hrow.2 (m := n * esz) (by omega)
    rw [this, List.take_append_of_le_length (by omega)]
   rw [hld]
   have hlen2 : (cells.take (n * esz) ++ news).length = (n + m) * esz := by
    rw [List.length_append, List.length_take, hn3, Nat.add_mul]; omega
   have hrow' := Row.new (H := H) (cells.take (n * esz) ++ news)
   cases ex with
   | true =>
    simp only [if_true]
    exact hfin _ H.nx (cells.take (n * esz) ++ news) [] (n + m) false (hpre.append hn2) (.inr rfl) (by simp) (by simp) (hS.wf.push _) (fun b' hb' _ => by rw [Hp.get_push, if_neg hb']) (by rw [List.append_nil]; exact hrow') (Nat.le_refl _) (by rw [List.append_nil, hlen2]; exact Nat.le_refl _)
   | false =>
    simp only [Bool.false_eq_true, if_false, hrow.mut, if_true]
    refine hfin _ H.nx (cells.take (n * esz) ++ news) [] (n + m) false (hpre.append hn2) (.inr rfl) (by simp) (by simp) (fun b' bk hb' => ?_) (fun b' hb' hne => ?_) (by rw [List.append_nil]; exact hrow'.same (by rw [Hp.get_del, if_neg (by omega)])) (Nat.le_refl _) (by rw [List.append_nil, hlen2]; exact Nat.le_refl _)
    ·rw [Hp.get_del] at hb'
     split at hb'
     ·cases hb'
     ·exact hS.wf.push _ b' bk hb'
    ·rw [Hp.get_del, if_neg (fun (e : b' = b) => hne N (by rw [e]; exact hb)), Hp.get_push, if_neg hb']
end
end Go.Ab

namespace Go.Ab
def frC : DC -> Bool
 | .f _ => true
 | .g _ _ => true
 | .fptr _ => true
 | .fz _ _ => true
 | _ => false
def fr1 : DV -> Bool
 | .one d => frC d
 | .agg l => allB frC l
 | .tup _ => false
def frV : DV -> Bool
 | .tup l => allB fr1 l
 | .one d => frC d
 | .agg l => allB frC l
def nob : Beta := fun _ => none
theorem nob_le (β : Beta) : BLe nob β := fun _ _ h => by cases h
section
variable {Z Z' : Nat -> Prop} {H H' : Hp} {β β' : Beta}
theorem frC_ok {d : DC} {c : C} (h : frC d = true) (hr : RD Z H β d c) : RD Z H β' d c := by
 cases d with
 | f d => exact hr
 | g b o => exact hr
 | fptr l => exact hr
 | fz f ls => exact hr
 | _ => cases h
theorem frL_ok : ∀ {l : List DC} {cs : List C}, allB frC l = true -> All2 (RD Z H β) l cs -> All2 (RD Z H β') l cs
 | [], [], _, _ => trivial
 | d :: l, c :: cs, h, hr => by
  have h1 := allB_mem h d (by simp)
  have h2 : allB frC l = true := by simp only [allB, h1] at h; exact h
  exact ⟨frC_ok h1 hr.1, frL_ok h2 hr.2⟩
 | [], _ :: _, _, hr => hr.elim
 | _ :: _, [], _, hr => hr.elim
theorem fr1_ok {d : DV} {v : V} (h : fr1 d = true) (hr : RDV1 Z H β d v) : RDV1 Z H β' d v := by
 cases d with
 | one d => obtain ⟨c, rfl, hr⟩ := hr; exact ⟨c, rfl, frC_ok h hr⟩
 | agg l => obtain ⟨c, rfl, hr⟩ := hr; exact ⟨c, rfl, frL_ok h hr⟩
 | tup l => cases h
theorem fr1L_ok : ∀ {l : List DV} {cs : List V}, allB fr1 l = true -> All2 (RDV1 Z H β) l cs -> All2 (RDV1 Z H β') l cs
 | [], [], _, _ => trivial
 | d :: l, c :: cs, h, hr => by
  have h1 := allB_mem h d (by simp)
  have h2 : allB fr1 l = true := by simp only [allB, h1] at h; exact h
  exact ⟨fr1_ok h1 hr.1, fr1L_ok h2 hr.2⟩
 | [], _ :: _, _, hr => hr.elim
 | _ :: _, [], _, hr => hr.elim
theorem frV_ok {d : DV} {v : V} (h : frV d = true) (hr : RDV Z H β d v) : RDV Z H β' d v := by
 cases d with
 | one d => obtain ⟨c, rfl, hr⟩ := hr; exact ⟨c, rfl, frC_ok h hr⟩
 | agg l => obtain ⟨c, rfl, hr⟩ := hr; exact ⟨c, rfl, frL_ok h hr⟩
 | tup l => obtain ⟨c, rfl, hr⟩ := hr; exact ⟨c, rfl, fr1L_ok h hr⟩
theorem frVL_ok : ∀ {l : List DV} {cs : List V}, allB frV l = true -> All2 (RDV Z H β) l cs -> All2 (RDV Z H β') l cs
 | [], [], _, _ => trivial
 | d :: l, c :: cs, h, hr => by
  have h1 := allB_mem h d (by simp)
  have h2 : allB frV l = true := by simp only [allB, h1] at h; exact h
  exact ⟨frV_ok h1 hr.1, frVL_ok h2 hr.2⟩
 | [], _ :: _, _, hr => hr.elim
 | _ :: _, [], _, hr => hr.elim
end
section
variable {Z Z' : Nat -> Prop} {H H' : Hp} {β β' : Beta}
end
def DCalls (P : Program) (G : Nat) (GH : Hp) (f : FuncId) (ds : List DV) (R : DV -> Prop) : Prop := ∀ (H : Hp) (Z : Nat -> Prop) (args : List V), WF H -> (∀ b, Z b -> b < H.nx) -> (∀ b bk, GH.get b = some bk -> Z b /\ H.get b = some bk) -> All2 (RDV Z H nob) ds args ->
 ACalls P G f args H fun v H' => WF H' /\ H.nx <= H'.nx /\ (∀ b, b < H.nx -> H'.get b = H.get b) /\ ∃ d, RDV (fun b => Z b \/ (H.nx <= b /\ b < H'.nx)) H' nob d v /\ R d
theorem ACalls.none {P : Program} {G : Nat} {f : FuncId} {args : List V} {H : Hp} {R : V -> Hp -> Prop} (h : ACalls P G f args H R) : ACalls P G f args H fun v H' => R v H' /\ ∀ b, b < H.nx -> H.get b = none -> H'.get b = none := fun μ K w xs hR ha => (h μ K w xs hR ha).mono fun _ _ ⟨x, e, v, H', μ', K', h1, h2, h3, h4⟩ => ⟨x, e, v, H', μ', K', ⟨h1, h4.none⟩, h2, h3, h4⟩
def ros (E : DEnv) : List Opd -> Option (List DV)
 | [] => some []
 | x :: l => match ro E x, ros E l with
  | some d, some r => some (d :: r)
  | _, _ => none
theorem ros_ok {Z : Nat -> Prop} {β : Beta} {H : Hp} {E : DEnv} {F : T V} (h : ER Z β H E F) : ∀ {args : List Opd} {ds : List DV}, ros E args = some ds -> All2 (RDV Z H β) ds (args.map (·.ev F))
 | [], ds, hd => by obtain rfl := Option.some.inj hd; trivial
 | x :: l, ds, hd => by
  simp only [ros] at hd
  split at hd
  ·rename_i d q h1 h2
   obtain rfl := Option.some.inj hd
   exact ⟨ro_ok h h1, ros_ok h h2⟩
  ·cases hd
def rowF (r : List FD) : FD := .sl 1 r.length r
def viewC (S : Bx) : DC -> DC -> Prop
 | .own k o n esz, e => match lk S k with
  | some (.tree rows) => o = 0 /\ n = rows.length /\ esz = 1 /\ e = .f (.sl 1 n (rows.map rowF))
  | _ => ∃ l q, lk S k = some (.data l) /\ subL l o (n * esz) = some q /\ e = .f (.sl esz n q)
 | .trow k i o n, e => ∃ rows r q, lk S k = some (.tree rows) /\ rows[i]? = some r /\ subL r o n = some q /\ e = .f (.sl 1 n q)
 | d, e => frC d = true /\ e = d
section
variable {p : Par} {base rs : Nat} {Q : DEnv -> Bx -> Nat -> Prop} {r : List SOper} {W : Wt} {A : List Nat} {E : DEnv} {S : Bx} {nk : Nat} {id : Nat} {dst : Option Nat} {aid : Option Nat} {ws : List Nat} {keep : Bool}
theorem SR.grow {Z : Nat -> Prop} {β : Beta} {H H' : Hp} (hS : SR p Z β H S nk) {Z' : Nat -> Prop} (hz : ∀ b, Z' b ↔ Z b \/ (H.nx <= b /\ Z' b)) (hzz : ∀ b, Z' b -> b < H'.nx) (hw : WF H') (hnx : H.nx <= H'.nx) (hg : ∀ b, b < H.nx -> H'.get b = H.get b) : SR p Z' β H' S nk /\ ZLe Z H Z' H' := by
 have hz1 : ∀ b, Z b -> Z' b := fun b hb => (hz b).2 (.inl hb)
 have hz2 : ∀ b, Z' b -> b < H.nx -> Z b := fun b hb hl => ((hz b).1 hb).elim (fun h => h) fun h => by omega
 have hZ : ZLe Z H Z' H' := ZLe.of_get hz1 fun b hb => hg b (hS.z b hb)
 refine ⟨⟨hw, Nat.le_trans hS.lo hnx, hzz, fun b hb => ?_, fun b hb => hz1 b (hS.zz b hb), fun b bk hb => ?_, hS.nk, fun k b N hk => Nat.lt_of_lt_of_le (hS.bd k b N hk) hnx, fun k x hk => ?_, hS.inj, hS.blo, hS.anch, hS.ancn⟩, hZ⟩
 ·rcases (hz b).1 hb with h|h
  ·exact hS.zlo b h
  ·exact .inr (Nat.le_trans hS.lo h.1)
 ·obtain ⟨h1, h2⟩ := hS.glob b bk hb
  exact ⟨hz1 b h1, by rw [hg b (hS.z b h1)]; exact h2⟩
 ·obtain ⟨s, hs, hbx⟩ := hS.box k x hk
  refine ⟨s, hs, ?_⟩
  cases s with
  | nil => exact hbx
  | blk b N =>
   obtain ⟨h1, h2, h3, cs, rest, h4, h5, h6⟩ := hbx
   exact ⟨fun h => h1 (hz2 b h h3), h2, by omega, cs, rest, h4.same (hg b h3), h5, Bk.rel_mono hZ (BLe.refl _) h6⟩
theorem AR.grow {Z Z' : Nat -> Prop} {β : Beta} {H H' : Hp} (hA : AR p base rs A Z β H) (hz : ∀ b, Z' b ↔ Z b \/ (H.nx <= b /\ Z' b)) (hnx : H.nx <= H'.nx) (hg : ∀ b, b < H.nx -> H'.get b = H.get b) : AR p base rs A Z' β H' := ⟨hA.1, fun j hj hjA => by
 obtain ⟨h1, h2, h3, h4⟩ := hA.2 j hj hjA
 exact ⟨by omega, by rw [hg _ h1]; exact h2, fun h => ((hz _).1 h).elim h3 fun h => by omega, h4⟩⟩
theorem dw_cf {f : FuncId} {args : List Opd} {ds : List DV} {R : DV -> Prop} (hvs : ros E args = some ds) (hf : allB frV ds = true) (hc : DCalls p.P p.G p.GH f ds R) (h : ∀ d, R d -> DPW p base rs Q r W A (setD E dst d) S nk) : DPW p base rs Q (⟨id, dst, .cf f args, none, aid, ws, keep⟩ :: r) W A E S nk := .mk fun Z β H F c QP hS hE hC hA => by
 simp only [wOps, wantedA, if_true]
 refine (hc H Z _ hS.wf hS.z (fun b bk hb => hS.glob b bk (.inl hb)) (frVL_ok hf (ros_ok hE hvs))).monoP ?_
 rintro v H' ⟨hw, hnx, hg, d, hr, hR⟩
 have hz : ∀ b, (Z b \/ (H.nx <= b /\ b < H'.nx)) ↔ Z b \/ (H.nx <= b /\ (Z b \/ (H.nx <= b /\ b < H'.nx))) := fun b => ⟨fun h => h.elim .inl fun h => .inr ⟨h.1, .inr h⟩, fun h => h.elim .inl fun h => h.2⟩
 obtain ⟨hS', hZ⟩ := hS.grow (Z' := fun b => Z b \/ (H.nx <= b /\ b < H'.nx)) hz (fun b hb => hb.elim (fun h => Nat.lt_of_lt_of_le (hS.z b h) hnx) fun h => h.2) hw hnx hg
 have hC' := hC.same hZ (BLe.refl β) hg hS.wf
 exact ⟨hC'.watch ws, (h d hR).run _ β H' _ c QP hS' ((hE.mono hZ (BLe.refl _)).set dst (hr.mono (ZLe.refl _ _) (nob_le β))) hC' (hA.grow hz hnx hg)⟩
theorem key_loads {Z : Nat -> Prop} {β : Beta} {H : Hp} (hS : SR p Z β H S nk) {κ : Key} {o n esz : Nat} {c : C} (hr : (β κ = some .nil /\ n = 0 /\ o = 0 /\ c = .nils) \/ ∃ b N cap ex, β κ = some (.blk b N) /\ c = .slc b o n cap esz ex /\ n <= cap /\ o + cap * esz <= N) {l q : List FD} (hk : lk2 S κ = some (.data l)) (hq : subL l o (n * esz) = some q) : ∃ cs, All2 (RF Z H) q cs /\ ((c = .nils /\ n = 0 /\ cs = []) \/ ∃ b cap ex N, β κ = some (.blk b N) /\ c = .slc b o n cap esz ex /\ n <= cap /\ H.loads b o (n * esz) = some cs) := by
 obtain ⟨hle, rfl⟩ := subL_some hq
 rcases hr with ⟨_, rfl, rfl, rfl⟩|⟨b, N, cap, ex, hb, rfl, hcap, _⟩
 ·exact ⟨[], by simp; trivial, .inl ⟨rfl, rfl, rfl⟩⟩
 ·obtain ⟨s, hs, hbx⟩ := hS.box κ _ hk
  rw [hb] at hs
  obtain rfl := Option.some.inj hs
  obtain ⟨_, _, _, cs, rest, hrow, hN, hrel⟩ := hbx
  have hN : (cs ++ rest).length = _ := hN
  have hlen := Bk.rel_len hrel
  simp only [Bk.len] at hlen
  refine ⟨(cs.drop o).take (n * esz), (All2.drop hrel o).take _, .inr ⟨b, cap, ex, N, hb, rfl, hcap, ?_⟩⟩
  have h1 : H.loads b (0 + o) (n * esz) = some (((cs ++ rest).drop o).take (n * esz)) := loads_at hrow.2 (by simp; omega)
  rw [Nat.zero_add] at h1
  rw [h1, List.drop_append_of_le_length (by omega), List.take_append_of_le_length (by simp; omega)]
theorem key_frz {Z Z' : Nat -> Prop} {β : Beta} {H : Hp} (hS : SR p Z β H S nk) (hZ : ZLe Z H Z' H) {κ : Key} {o n esz : Nat} {c : C} (hr : (β κ = some .nil /\ n = 0 /\ o = 0 /\ c = .nils) \/ ∃ b N cap ex, β κ = some (.blk b N) /\ c = .slc b o n cap esz ex /\ n <= cap /\ o + cap * esz <= N) {l q : List FD} (hk : lk2 S κ = some (.data l)) (hq : subL l o (n * esz) = some q) (hz : ∀ b N, β κ = some (.blk b N) -> Z' b) : RF Z' H (.sl esz n q) c := by
 have hql : q.length = n * esz := by obtain ⟨h1, rfl⟩ := subL_some hq; simp; omega
 obtain ⟨cs, h1, h2⟩ := key_loads hS hr hk hq
 rcases h2 with ⟨rfl, rfl, rfl⟩|⟨b, cap, ex, N, hb, rfl, hcap, h2⟩
 ·have : q = [] := List.eq_nil_of_length_eq_zero (by simpa using hql)
  subst this
  exact .nil esz
 ·refine .sl (fun _ => hz b N hb) hql hcap h2 fun i d c hd hc => ?_
  obtain ⟨c', hc', hr'⟩ := h1.at i d hd
  rw [hc] at hc'
  obtain rfl := Option.some.inj hc'
  exact RF.mono hZ hr'
end
def fzC (k : Nat) (l : List FD) : DC -> DC
 | .own j o n e => match Nat.beq j k with
  | true => .f (.sl e n l)
  | false => .own j o n e
 | .trow j i o n => match Nat.beq j k with
  | true => .any
  | false => .trow j i o n
 | d => d
def okC (k : Nat) (ok : Nat -> Nat -> Nat -> Prop) : DC -> Prop
 | .own j o n e => match Nat.beq j k with
  | true => ok o n e
  | false => True
 | _ => True
def okL (k : Nat) (ok : Nat -> Nat -> Nat -> Prop) : List DC -> Prop
 | [] => True
 | d :: r => okC k ok d /\ okL k ok r
def okW (l : List FD) (o n e : Nat) : Prop := o = 0 /\ l.length = n * e
def fzV (k : Nat) (l : List FD) : DV -> DV
 | .one d => .one (fzC k l d)
 | .agg m => .agg (m.map (fzC k l))
 | .tup m => .tup m
def okV (k : Nat) (ok : Nat -> Nat -> Nat -> Prop) : DV -> Prop
 | .one d => okC k ok d
 | .agg m => okL k ok m
 | .tup _ => True
def fzB (k : Nat) (l : List FD) : Bk -> Bk
 | .cells m => .cells (m.map (fzC k l))
 | .data m => .data m
 | .tree rows => .tree rows
 | .mp ks m => .mp ks (m.map (fzC k l))
 | .mt es => .mt (mtMap (fzC k l) es)
def okM (k : Nat) (ok : Nat -> Nat -> Nat -> Prop) : List (Int × ME) -> Prop
 | [] => True
 | (_, .row _) :: es => okM k ok es
 | (_, .out c) :: es => okC k ok c /\ okM k ok es
def okB (k : Nat) (ok : Nat -> Nat -> Nat -> Prop) : Bk -> Prop
 | .cells m => okL k ok m
 | .data _ => True
 | .tree _ => True
 | .mp _ m => okL k ok m
 | .mt es => okM k ok es
def mapS {α : Type} (f : α -> α) : List (Nat × α) -> List (Nat × α)
 | [] => []
 | (k, x) :: r => (k, f x) :: mapS f r
def okS {α : Type} (f : α -> Prop) : List (Nat × α) -> Prop
 | [] => True
 | (_, x) :: r => f x /\ okS f r
theorem lk_mapS {α : Type} (f : α -> α) (n : Nat) : ∀ E : List (Nat × α), lk (mapS f E) n = (lk E n).map f
 | [] => rfl
 | (k, x) :: r => by
  simp only [mapS, lk_cons]
  split
  ·rfl
  ·exact lk_mapS f n r
theorem okS_lk {α : Type} {f : α -> Prop} {n : Nat} {x : α} : ∀ {E : List (Nat × α)}, okS f E -> lk E n = some x -> f x
 | [], _, h => by cases h
 | (k, y) :: r, ho, h => by
  rw [lk_cons] at h
  split at h
  ·obtain rfl := Option.some.inj h; exact ho.1
  ·exact okS_lk ho.2 h
section
variable {p : Par} {base rs : Nat} {Q : DEnv -> Bx -> Nat -> Prop} {W : Wt} {A : List Nat} {E : DEnv} {S : Bx} {nk : Nat}
theorem fzC_row {k : Nat} {l : List FD} {j : Nat} (hj : j ≠ k) : ∀ (i : Nat) (rows : List (List FD)), (rowsV j i rows).map (fzC k l) = rowsV j i rows
 | _, [] => rfl
 | i, r :: rs => by simp only [rowsV, List.map_cons, fzC_row hj (i + 1) rs, fzC, beq_ne hj]
theorem lk2_fz {k : Nat} {l : List FD} {S : Bx} {κ : Key} {y : Bk} (hy : lk2 (mapS (fzB k l) (era k S)) κ = some y) : κ.1 ≠ k /\ ∃ x, lk2 S κ = some x /\ y = fzB k l x := by
 obtain ⟨z, hz⟩ := lk2_lk hy
 rw [lk_mapS, lk_era] at hz
 split at hz
 ·cases hz
 ·rename_i hne
  refine ⟨hne, ?_⟩
  cases hl : lk S κ.1 with
  | none => rw [hl] at hz; cases hz
  | some x =>
   have hlk : lk (mapS (fzB k l) (era k S)) κ.1 = some (fzB k l x) := by rw [lk_mapS, lk_era, if_neg hne, hl]; rfl
   obtain ⟨j, i⟩ := κ
   simp only at hl hlk hne
   cases i with
   | zero =>
    simp only [lk2, hl]
    simp only [lk2, hlk] at hy
    cases x with
    | cells m => exact ⟨_, rfl, (Option.some.inj hy).symm⟩
    | data m => exact ⟨_, rfl, (Option.some.inj hy).symm⟩
    | tree rows => refine ⟨_, rfl, ?_⟩; rw [<- Option.some.inj hy]; simp only [fzB, fzC_row hne]
    | mp ks m => exact ⟨_, rfl, (Option.some.inj hy).symm⟩
    | mt es => refine ⟨_, rfl, ?_⟩; rw [<- Option.some.inj hy]; simp only [fzB]; rw [mtV_map (fzC k l) j j (fun _ => rfl) (fun i n => by simp only [fzC, beq_ne hne])]
   | succ i =>
    simp only [lk2, hl]
    simp only [lk2, hlk] at hy
    cases x with
    | cells m => cases hy
    | data m => cases hy
    | tree rows =>
     cases hr : rows[i]? with
     | none => simp only [fzB, hr] at hy; cases hy
     | some r => simp only [fzB, hr] at hy; exact ⟨.data r, by simp only [hr]; rfl, (Option.some.inj hy).symm⟩
    | mp ks m => cases hy
    | mt es =>
     simp only [fzB, mtRow_map] at hy
     obtain ⟨y', r, h1, rfl⟩ := mtRow_at hy
     exact ⟨.data r, by simp only [h1, mtRow], rfl⟩
theorem okL_rows {k : Nat} {ok : Nat -> Nat -> Nat -> Prop} (j : Nat) : ∀ (i : Nat) (rows : List (List FD)), okL k ok (rowsV j i rows)
 | _, [] => trivial
 | i, _ :: rs => ⟨trivial, okL_rows j (i + 1) rs⟩
theorem okL_mt {k : Nat} {ok : Nat -> Nat -> Nat -> Prop} (j : Nat) : ∀ (i : Nat) (es : List (Int × ME)), okM k ok es -> okL k ok (mtV j i es)
 | _, [], _ => trivial
 | i, (_, .row _) :: es, h => ⟨trivial, trivial, okL_mt j (i + 1) es h⟩
 | i, (_, .out _) :: es, h => ⟨trivial, h.1, okL_mt j (i + 1) es h.2⟩
theorem lk2_okB {k : Nat} {ok : Nat -> Nat -> Nat -> Prop} {S : Bx} {κ : Key} {z : Bk} (hlk : ∀ {n : Nat} {x : Bk}, lk S n = some x -> okB k ok x) (hz : lk2 S κ = some z) : okB k ok z := by
 obtain ⟨j, i⟩ := κ
 obtain ⟨x, hx⟩ := lk2_lk hz
 have ho := hlk hx
 cases i with
 | zero =>
  simp only [lk2] at hz hx
  rw [hx] at hz
  cases x with
  | cells m => obtain rfl := Option.some.inj hz; exact ho
  | data m => obtain rfl := Option.some.inj hz; exact ho
  | tree rows => obtain rfl := Option.some.inj hz; exact okL_rows j 0 rows
  | mp ks m => obtain rfl := Option.some.inj hz; exact ho
  | mt es => obtain rfl := Option.some.inj hz; exact okL_mt j 0 es ho
 | succ i =>
  simp only [lk2] at hz hx
  rw [hx] at hz
  cases x with
  | cells m => cases hz
  | data m => cases hz
  | tree rows =>
   cases hr : rows[i]? with
   | none => simp only [hr] at hz; cases hz
   | some r => simp only [hr] at hz; obtain rfl := Option.some.inj hz; trivial
  | mp ks m => cases hz
  | mt es => obtain ⟨_, r, _, rfl⟩ := mtRow_at hz; trivial
theorem fzB_shape (k : Nat) (l : List FD) (x : Bk) : (fzB k l x).shape = x.shape := by cases x <;> rfl
theorem SR.lo2 {Z : Nat -> Prop} {β : Beta} {H : Hp} (hS : SR p Z β H S nk) {κ : Key} {x : Bk} {b N : Nat} (hk : lk2 S κ = some x) (hb : β κ = some (.blk b N)) : p.lo <= b := by
 obtain ⟨s, hs, hbx⟩ := hS.box κ x hk
 rw [hb] at hs
 obtain rfl := Option.some.inj hs
 exact hbx.2.1
theorem frz_core {Z : Nat -> Prop} {β : Beta} {H : Hp} {F : T V} (hS : SR p Z β H S nk) (hE : ER Z β H E F) {k : Nat} {x : Bk} {l : List FD} {ok : Nat -> Nat -> Nat -> Prop} (hk : lk S k = some x)
  (hall : ∀ {Z'}, ZLe Z H Z' H -> (∀ i b N x, lk2 S (k, i) = some x -> β (k, i) = some (.blk b N) -> Z' b) -> ∀ o n e c, ok o n e -> RD Z H β (.own k o n e) c -> RF Z' H (.sl e n l) c) (hoE : okS (okV k ok) E) (hoS : okS (okB k ok) S) :
  ∃ Z', SR p Z' β H (mapS (fzB k l) (era k S)) nk /\ ER Z' β H (mapS (fzV k l) E) F /\ ZLe Z H Z' H /\ ∀ b, Z' b ↔ Z b \/ ∃ i N x, lk2 S (k, i) = some x /\ β (k, i) = some (.blk b N) := by
 have hZ : ZLe Z H (fun b => Z b \/ ∃ i N x, lk2 S (k, i) = some x /\ β (k, i) = some (.blk b N)) H := fun b hb => ⟨.inl hb, fun _ _ h => h⟩
 have hC : ∀ d c, okC k ok d -> RD Z H β d c -> RD (fun b => Z b \/ ∃ i N x, lk2 S (k, i) = some x /\ β (k, i) = some (.blk b N)) H β (fzC k l d) c := fun d c ho hr => by
  cases d with
  | own j o n e =>
   simp only [fzC, okC] at ho ⊢
   by_cases hj : j = k
   ·subst hj
    rw [beq_self] at ho ⊢
    exact hall hZ (fun i b N x hx hb => .inr ⟨i, N, x, hx, hb⟩) o n e c ho hr
   ·rw [beq_ne hj]
    simp only
    exact hr.mono hZ (BLe.refl β)
  | trow j i o n =>
   simp only [fzC]
   by_cases hj : j = k
   ·subst hj; rw [beq_self]; trivial
   ·rw [beq_ne hj]; exact hr
  | f d => exact RD.mono (d := .f d) hZ (BLe.refl β) hr
  | g b o => exact hr
  | ptr j o => exact hr
  | tptr j i o => exact hr
  | fptr q => exact RD.mono (d := .fptr q) hZ (BLe.refl β) hr
  | fn f caps => exact hr
  | any => trivial
  | om j => exact hr
  | yl j => exact hr
  | fz f ls => exact RD.mono (d := .fz f ls) hZ (BLe.refl β) hr
 have hL : ∀ {m : List DC} {cs : List C}, okL k ok m -> All2 (RD Z H β) m cs -> All2 (RD (fun b => Z b \/ ∃ i N x, lk2 S (k, i) = some x /\ β (k, i) = some (.blk b N)) H β) (m.map (fzC k l)) cs := by
  intro m
  induction m with
  | nil => intro cs _ h; cases cs with
   | nil => trivial
   | cons _ _ => exact h.elim
  | cons d m ih => intro cs ho h; cases cs with
   | nil => exact h.elim
   | cons c cs => exact ⟨hC d c ho.1 h.1, ih ho.2 h.2⟩
 refine ⟨fun b => Z b \/ ∃ i N x, lk2 S (k, i) = some x /\ β (k, i) = some (.blk b N), ⟨hS.wf, hS.lo, fun b hb => hb.elim (hS.z b) fun ⟨i, N, _, _, h⟩ => hS.bd _ b N h, fun b hb => ?_, fun b hb => .inl (hS.zz b hb), fun b bk hb => ⟨.inl (hS.glob b bk hb).1, (hS.glob b bk hb).2⟩, hS.nk, hS.bd, fun j y hj => ?_, fun j j' y y' b N N' hj hj' h1 h2 => ?_, hS.blo, hS.anch, hS.ancn⟩, fun n d hd => ?_, hZ, fun b => Iff.rfl⟩
 ·rcases hb with hb|⟨i, N, x, hx, hb⟩
  ·exact hS.zlo b hb
  ·exact .inr (hS.lo2 hx hb)
 ·obtain ⟨hne, z, hz, rfl⟩ := lk2_fz hj
  obtain ⟨s, hs, hbx⟩ := hS.box j z hz
  obtain ⟨w, hw⟩ := lk2_lk hz
  refine ⟨s, hs, ?_⟩
  cases s with
  | nil => cases z <;> simpa [BoxR, fzB, Bk.len, mtMap] using hbx
  | blk b N =>
   obtain ⟨h1, h2, h3, cs, rest, h4, h5, h6⟩ := hbx
   have hoz := lk2_okB (fun hx => okS_lk hoS hx) hz
   refine ⟨fun h => h.elim h1 fun ⟨i, M, _, _, hM⟩ => hne (by rw [hS.inj j (k, i) w _ b N M hw hk hs hM]), h2, h3, cs, rest, by rw [fzB_shape]; exact h4, by rw [fzB_shape]; exact h5, ?_⟩
   cases z with
   | cells m => exact hL hoz h6
   | data m => exact All2.mono (fun _ _ => RF.mono hZ) h6
   | tree m => exact h6.elim
   | mp ks m => exact hL hoz h6
   | mt es => exact h6.elim
 ·have f : ∀ (κ : Key) w, lk (mapS (fzB k l) (era k S)) κ.1 = some w -> ∃ z, lk S κ.1 = some z := fun κ w hw => by
   rw [lk_mapS, lk_era] at hw
   split at hw
   ·cases hw
   ·cases e : lk S κ.1 with
    | none => rw [e] at hw; cases hw
    | some z => exact ⟨z, rfl⟩
  obtain ⟨z1, e1⟩ := f j y hj
  obtain ⟨z2, e2⟩ := f j' y' hj'
  exact hS.inj j j' z1 z2 b N N' e1 e2 h1 h2
 ·rw [lk_mapS] at hd
  cases hl : lk E n with
  | none => rw [hl] at hd; cases hd
  | some y =>
   rw [hl] at hd
   obtain rfl := Option.some.inj hd
   obtain ⟨v, hv, hr⟩ := hE n y hl
   refine ⟨v, hv, ?_⟩
   have hoy := okS_lk hoE hl
   cases y with
   | one d => obtain ⟨c, rfl, hr⟩ := hr; exact ⟨c, rfl, hC d c hoy hr⟩
   | agg m => obtain ⟨c, rfl, hr⟩ := hr; exact ⟨c, rfl, hL hoy hr⟩
   | tup m => exact RDV.mono (d := .tup m) hZ (BLe.refl β) hr
theorem frz_ok {Z : Nat -> Prop} {β : Beta} {H : Hp} {F : T V} (hS : SR p Z β H S nk) (hE : ER Z β H E F) {k : Nat} {l : List FD} (hk : lk S k = some (.data l)) (hoE : okS (okV k (okW l)) E) (hoS : okS (okB k (okW l)) S) :
  ∃ Z', SR p Z' β H (mapS (fzB k l) (era k S)) nk /\ ER Z' β H (mapS (fzV k l) E) F /\ ZLe Z H Z' H /\ ∀ b, Z' b ↔ Z b \/ ∃ i N x, lk2 S (k, i) = some x /\ β (k, i) = some (.blk b N) :=
 frz_core hS hE hk (fun {Z'} hZ hz o n e c ho hr => key_frz hS hZ hr (lk2_of hk rfl) (by obtain ⟨rfl, h⟩ := ho; rw [subL_of (by omega), List.drop_zero, List.take_of_length_le (by omega)]) fun b N => hz 0 b N _ (lk2_of hk rfl)) hoE hoS
theorem dw_frz {l : List SOper} (k : Nat) {m : List FD} (hk : lk S k = some (.data m)) (hoE : okS (okV k (okW m)) E) (hoS : okS (okB k (okW m)) S) (h : DPW p base rs Q l W A (mapS (fzV k m) E) (mapS (fzB k m) (era k S)) nk) : DPW p base rs Q l W A E S nk := .mk fun Z β H F c QP hS hE hC hA => by
 obtain ⟨Z', hS', hE', hZ, hz⟩ := frz_ok hS hE hk hoE hoS
 refine h.run Z' β H F c QP hS' hE' (hC.step hZ (BLe.refl β) fun _ _ _ _ _ _ _ _ _ _ _ _ _ h => h) ⟨hA.1, fun j hj hjA => ?_⟩
 obtain ⟨h1, h2, h3, h4⟩ := hA.2 j hj hjA
 exact ⟨h1, h2, fun h => ((hz _).1 h).elim h3 fun ⟨i, N, _, _, hN⟩ => h4 _ N hN, h4⟩
end
end Go.Ab
