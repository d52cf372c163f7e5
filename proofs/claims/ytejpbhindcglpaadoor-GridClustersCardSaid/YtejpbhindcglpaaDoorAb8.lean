/-
  DERIVED: THE SHELF's CONTRACTS AT THIS DUMP, IN PLAIN WORDS (tools/lay-plain.mjs out of 'AbSoX.lean', which tools/lay-shelf.mjs wrote): THE SAME DECLARATIONS UNDER THE SAME NAMES: 'import', 'namespace', 'open', 'def', 'theorem' AND NOTHING ELSE: no command of the shelf's: FOR A HAND-IN. Each laying: the table of numbers ('.._ren') and one theorem, a field a fact of the dump's own or the kernel's comparison; each contract: ONE APPLICATION.
-/
import Derived.Test.YtejpbhindcglpaaDoorAb7
import Derived.Shelf.SlSortCmp.WholeK
import Derived.Test.YtejpbhindcglpaaDoorProg
set_option linter.unusedVariables false
set_option linter.unusedSimpArgs false
namespace Go.Proofs
open Go.Shelf
def Tryd.sortPt_ren : Go.Shelf.Ren := ⟨fun | 6 => 47 | 15 => 58 | 14 => 57 | 28 => 70 | 29 => 71 | 20 => 62 | 21 => 63 | 22 => 64 | 23 => 65 | 24 => 66 | 25 => 67 | 26 => 68 | 27 => 69 | 46 => 81 | 47 => 82 | 48 => 83 | 49 => 84 | 50 => 85 | 57 => 89 | n => n, fun | 22 => 36 | 24 => 35 | 25 => 38 | 3 => 3 | 39 => 91 | 0 => 0 | 53 => 103 | 55 => 105 | 4 => 4 | 46 => 97 | 45 => 96 | 50 => 79 | 5 => 5 | 9 => 9 | 66 => 111 | 70 => 115 | 76 => 119 | 77 => 120 | n => n, fun | n => n⟩
theorem Tryd.sortPt : Go.Proofs.SlLaysF0.n6 Tryd.prog Tryd.sortPt_ren := {
  mixed := by kernel_rfl
  f6 := ⟨Tryd.f47.name, by decide, Tryd.func47.trans (congrArg some (by kernel_rfl))⟩
  f14 := ⟨Tryd.f57.name, by decide, Tryd.func57.trans (congrArg some (by kernel_rfl))⟩
  f15 := Tryd.func58.trans (congrArg some (by kernel_rfl))
  f20 := ⟨Tryd.f62.name, by decide, Tryd.func62.trans (congrArg some (by kernel_rfl))⟩
  f21 := ⟨Tryd.f63.name, by decide, Tryd.func63.trans (congrArg some (by kernel_rfl))⟩
  f22 := ⟨Tryd.f64.name, by decide, Tryd.func64.trans (congrArg some (by kernel_rfl))⟩
  f23 := ⟨Tryd.f65.name, by decide, Tryd.func65.trans (congrArg some (by kernel_rfl))⟩
  f24 := ⟨Tryd.f66.name, by decide, Tryd.func66.trans (congrArg some (by kernel_rfl))⟩
  f25 := ⟨Tryd.f67.name, by decide, Tryd.func67.trans (congrArg some (by kernel_rfl))⟩
  f26 := ⟨Tryd.f68.name, by decide, Tryd.func68.trans (congrArg some (by kernel_rfl))⟩
  f27 := ⟨Tryd.f69.name, by decide, Tryd.func69.trans (congrArg some (by kernel_rfl))⟩
  f28 := Tryd.func70.trans (congrArg some (by kernel_rfl))
  f29 := Tryd.func71.trans (congrArg some (by kernel_rfl))
  f46 := ⟨Tryd.f81.name, by decide, Tryd.func81.trans (congrArg some (by kernel_rfl))⟩
  f47 := Tryd.func82.trans (congrArg some (by kernel_rfl))
  f48 := Tryd.func83.trans (congrArg some (by kernel_rfl))
  f49 := ⟨Tryd.f84.name, by decide, Tryd.func84.trans (congrArg some (by kernel_rfl))⟩
  f50 := ⟨Tryd.f85.name, by decide, Tryd.func85.trans (congrArg some (by kernel_rfl))⟩
  f57 := ⟨Tryd.f89.name, by decide, Tryd.func89.trans (congrArg some (by kernel_rfl))⟩
  t0 := Tryd.underlying0
  a0 := Tryd.isAgg0
  z0 := Tryd.sizeOf0
  v0 := Tryd.zeroValue0
  t3 := Tryd.underlying3
  a3 := Tryd.isAgg3
  z3 := Tryd.sizeOf3
  v3 := Tryd.zeroValue3
  t4 := Tryd.underlying4
  a4 := Tryd.isAgg4
  z4 := Tryd.sizeOf4
  v4 := Tryd.zeroValue4
  t5 := Tryd.underlying5
  a5 := Tryd.isAgg5
  z5 := Tryd.sizeOf5
  v5 := Tryd.zeroValue5
  t9 := Tryd.underlying9
  a9 := Tryd.isAgg9
  z9 := Tryd.sizeOf9
  v9 := Tryd.zeroValue9
  t22 := Tryd.underlying36
  a22 := Tryd.isAgg36
  z22 := Tryd.sizeOf36
  v22 := Tryd.zeroValue36
  t25 := Tryd.underlying38
  a25 := Tryd.isAgg38
  z25 := Tryd.sizeOf38
  v25 := Tryd.zeroValue38
  t39 := Tryd.underlying91
  a39 := Tryd.isAgg91
  z39 := Tryd.sizeOf91
  v39 := Tryd.zeroValue91
  t45 := Tryd.underlying96
  a45 := Tryd.isAgg96
  z45 := Tryd.sizeOf96
  v45 := Tryd.zeroValue96
  t46 := Tryd.underlying97
  a46 := Tryd.isAgg97
  z46 := Tryd.sizeOf97
  v46 := Tryd.zeroValue97
  t50 := Tryd.underlying79
  a50 := Tryd.isAgg79
  z50 := Tryd.sizeOf79
  v50 := Tryd.zeroValue79
  t53 := Tryd.underlying103
  a53 := Tryd.isAgg103
  z53 := Tryd.sizeOf103
  v53 := Tryd.zeroValue103
  t55 := Tryd.underlying105
  a55 := Tryd.isAgg105
  z55 := Tryd.sizeOf105
  v55 := Tryd.zeroValue105
  t66 := Tryd.underlying111
  a66 := Tryd.isAgg111
  z66 := Tryd.sizeOf111
  v66 := Tryd.zeroValue111
  t70 := Tryd.underlying115
  a70 := Tryd.isAgg115
  z70 := Tryd.sizeOf115
  v70 := Tryd.zeroValue115
  t76 := Tryd.underlying119
  a76 := Tryd.isAgg119
  z76 := Tryd.sizeOf119
  v76 := Tryd.zeroValue119
  t77 := Tryd.underlying120
  a77 := Tryd.isAgg120
  z77 := Tryd.sizeOf120
  v77 := Tryd.zeroValue120 }
end Go.Proofs

/- Deep values: trees (slices of rows of the call's own). -/
namespace Go.Ab

def newT (β : Beta) (k : Nat) (σ : Nat → Option Slot) : Beta := fun κ => if κ.1 = k then σ κ.2 else β κ
theorem newT_self (β : Beta) (k i : Nat) (σ : Nat → Option Slot) : newT β k σ (k, i) = σ i := by simp [newT]
theorem newT_ne (β : Beta) {k : Nat} {κ : Key} (σ : Nat → Option Slot) (h : κ.1 ≠ k) : newT β k σ κ = β κ := by simp [newT, h]

/-- names of box k become names of box j: pointers into it, slices of it -/
def rtC (k j : Nat) : DC → DC
  | .ptr a o => match Nat.beq a k with
    | true => .ptr j o
    | false => .ptr a o
  | .own a o n e => match Nat.beq a k with
    | true => .own j o n e
    | false => .own a o n e
  | d => d
def rtV (k j : Nat) : DV → DV
  | .one d => .one (rtC k j d)
  | .agg l => .agg (l.map (rtC k j))
  | .tup l => .tup l
def rtB (k j : Nat) : Bk → Bk
  | .cells l => .cells (l.map (rtC k j))
  | .data l => .data l
  | .tree l => .tree l
  | .mp ks l => .mp ks l
  | .mt es => .mt es

section
variable {p : Par} {Z : Nat → Prop} {β : Beta} {H H' : Hp} {S S0 : Bx} {nk : Nat}
theorem SR.bleT (h : SR p Z β H S nk) (σ : Nat → Option Slot) : BLe β (newT β nk σ) := fun κ t hk => by
  have := h.lt1 hk
  rw [newT_ne _ _ (by omega)]; exact hk

/-- a tree gets a new name; its blocks are those of boxes that are left, or new ones -/
theorem SR.tree (h : SR p Z β H S nk) (hS0 : ∀ k x, lk S0 k = some x → ∃ y, lk S k = some y) (hS1 : ∀ κ x, lk2 S0 κ = some x → ∃ s, β κ = some s ∧ BoxR p Z H β x s) {rows : List (List FD)} {σ : Nat → Option Slot} (hnx : H.nx ≤ H'.nx) (hw : WF H')
    (hg : ∀ b, (Z b ∨ ∃ κ x N, lk2 S0 κ = some x ∧ β κ = some (.blk b N)) → H'.get b = H.get b)
    (hlt : ∀ i b N, σ i = some (.blk b N) → b < H'.nx)
    (hlo : ∀ i b N, σ i = some (.blk b N) → p.lo ≤ b)
    (hinj : ∀ i j b N N', σ i = some (.blk b N) → σ j = some (.blk b N') → i = j)
    (hdis : ∀ i b N (κ : Key) x M, σ i = some (.blk b N) → lk S0 κ.1 = some x → β κ ≠ some (.blk b M))
    (hbox0 : ∃ s, σ 0 = some s ∧ BoxR p Z H' (newT β nk σ) (.cells (rowsV nk 0 rows)) s)
    (hbox : ∀ i r, rows[i]? = some r → ∃ s, σ (i + 1) = some s ∧ BoxR p Z H' (newT β nk σ) (.data r) s) :
    SR p Z (newT β nk σ) H' ((nk, .tree rows) :: S0) (nk + 1) ∧ ZLe Z H Z H' ∧ BLe β (newT β nk σ) := by
  have hB := h.bleT σ
  have hzg : ∀ b', Z b' → H'.get b' = H.get b' := fun b' hb' => hg b' (.inl hb')
  have hZ : ZLe Z H Z H' := ZLe.of_get (fun _ h => h) hzg
  refine ⟨⟨hw, Nat.le_trans h.lo hnx, fun b' hb' => Nat.lt_of_lt_of_le (h.z b' hb') hnx, h.zlo, h.zz, fun b' bk hb' => ?_, fun κ hκ => ?_, fun κ b' N hκ => ?_, fun κ y hκ => ?_, fun κ κ' y y' b' N N' hj hj' hs hs' => ?_, fun κ b' N hκ => ?_, fun κ hκ h0 => by rw [newT_ne _ _ (by have := h.ancn; omega)]; exact h.anch κ hκ h0, Nat.le_succ_of_le h.ancn⟩, hZ, hB⟩
  · obtain ⟨h1, h2⟩ := h.glob b' bk hb'
    exact ⟨h1, by rw [hzg b' h1]; exact h2⟩
  · rw [newT_ne _ _ (by omega)]; exact h.nk κ (by omega)
  · by_cases e : κ.1 = nk
    · simp only [newT, if_pos e] at hκ; exact hlt _ _ _ hκ
    · rw [newT_ne _ _ e] at hκ; exact Nat.lt_of_lt_of_le (h.bd κ b' N hκ) hnx
  · obtain ⟨j, i⟩ := κ
    by_cases e : j = nk
    · subst e
      have hl : lk ((j, .tree rows) :: S0) j = some (.tree rows) := by rw [lk_cons, if_pos rfl]
      cases i with
      | zero =>
        simp only [lk2, hl] at hκ
        obtain rfl := Option.some.inj hκ
        obtain ⟨s, h1, h2⟩ := hbox0
        exact ⟨s, by rw [newT_self]; exact h1, h2⟩
      | succ i =>
        simp only [lk2, hl] at hκ
        cases hr : rows[i]? with
        | none => rw [hr] at hκ; cases hκ
        | some r =>
          rw [hr] at hκ
          obtain rfl := Option.some.inj hκ
          obtain ⟨s, h1, h2⟩ := hbox i r hr
          exact ⟨s, by rw [newT_self]; exact h1, h2⟩
    · have hκ' : lk2 S0 (j, i) = some y := by
        rw [← hκ]; exact lk2_congr (by rw [lk_cons, if_neg (fun h => e h.symm)])
      obtain ⟨s, hs, hbx⟩ := hS1 (j, i) y hκ'
      refine ⟨s, hB _ s hs, hbx.mono hB hnx fun b' hb' => ?_⟩
      rcases hb' with hb' | ⟨N, rfl⟩
      · exact hzg b' hb'
      · exact hg b' (.inr ⟨(j, i), y, N, hκ', hs⟩)
  · obtain ⟨j, i⟩ := κ
    obtain ⟨j', i'⟩ := κ'
    simp only at hj hj'
    by_cases e1 : j = nk
    · subst e1
      rw [newT_self] at hs
      by_cases e2 : j' = j
      · subst e2
        rw [newT_self] at hs'
        rw [hinj i i' b' N N' hs hs']
      · rw [newT_ne _ _ e2] at hs'
        rw [lk_cons, if_neg (fun h => e2 h.symm)] at hj'
        exact absurd hs' (hdis i b' N (j', i') y' N' hs hj')
    · rw [newT_ne _ _ e1] at hs
      rw [lk_cons, if_neg (fun h => e1 h.symm)] at hj
      by_cases e2 : j' = nk
      · subst e2
        rw [newT_self] at hs'
        exact absurd hs (hdis i' b' N' (j, i) y N hs' hj)
      · rw [newT_ne _ _ e2] at hs'
        rw [lk_cons, if_neg (fun h => e2 h.symm)] at hj'
        obtain ⟨z1, g1⟩ := hS0 j y hj
        obtain ⟨z2, g2⟩ := hS0 j' y' hj'
        exact h.inj _ _ z1 z2 b' N N' g1 g2 hs hs'
  · by_cases e : κ.1 = nk
    · simp only [newT, if_pos e] at hκ; exact hlo _ _ _ hκ
    · rw [newT_ne _ _ e] at hκ; exact h.blo κ b' N hκ
theorem rtC_ok {k : Nat} {σ : Nat → Option Slot} (h : SR p Z β H S nk) (h0 : σ 0 = β (k, 0)) (hZ : ZLe Z H Z H') {d : DC} {c : C} (hr : RD Z H β d c) : RD Z H' (newT β nk σ) (rtC k nk d) c := by
  have hB := h.bleT σ
  cases d with
  | ptr a o =>
    simp only [rtC]
    by_cases e : a = k
    · subst e
      rw [beq_self]
      obtain ⟨b, N, h1, h2⟩ := hr
      exact ⟨b, N, by rw [newT_self, h0]; exact h1, h2⟩
    · rw [beq_ne e]; exact hr.mono hZ hB
  | own a o n e' =>
    simp only [rtC]
    by_cases e : a = k
    · subst e
      rw [beq_self]
      rcases hr with ⟨h1, h2⟩ | ⟨b, N, cap, ex, h1, h2⟩
      · exact .inl ⟨by rw [newT_self, h0]; exact h1, h2⟩
      · exact .inr ⟨b, N, cap, ex, by rw [newT_self, h0]; exact h1, h2⟩
    · rw [beq_ne e]; exact hr.mono hZ hB
  | f d => exact RD.mono (d := .f d) hZ hB hr
  | g b o => exact hr
  | fptr l => exact RD.mono (d := .fptr l) hZ hB hr
  | fn f l => exact RD.mono (d := .fn f l) hZ hB hr
  | any => trivial
  | om a => exact RD.mono (d := .om a) hZ (h.bleT σ) hr
  | trow a i o n => exact RD.mono (d := .trow a i o n) hZ hB hr
  | tptr a i o => exact RD.mono (d := .tptr a i o) hZ hB hr
theorem rtL_ok {k : Nat} {σ : Nat → Option Slot} (h : SR p Z β H S nk) (h0 : σ 0 = β (k, 0)) (hZ : ZLe Z H Z H') : ∀ {l : List DC} {cs : List C}, All2 (RD Z H β) l cs → All2 (RD Z H' (newT β nk σ)) (l.map (rtC k nk)) cs
  | [], [], _ => trivial
  | _ :: _, _ :: _, hr => ⟨rtC_ok h h0 hZ hr.1, rtL_ok h h0 hZ hr.2⟩
  | [], _ :: _, hr => hr.elim
  | _ :: _, [], hr => hr.elim
theorem rtE_ok {k : Nat} {σ : Nat → Option Slot} {E : DEnv} {F : T V} (h : SR p Z β H S nk) (h0 : σ 0 = β (k, 0)) (hZ : ZLe Z H Z H') (hE : ER Z β H E F) : ER Z (newT β nk σ) H' (mapS (rtV k nk) E) F := fun n d hd => by
  rw [lk_mapS] at hd
  cases hl : lk E n with
  | none => rw [hl] at hd; cases hd
  | some y =>
    rw [hl] at hd
    obtain rfl := Option.some.inj hd
    obtain ⟨v, hv, hr⟩ := hE n y hl
    refine ⟨v, hv, ?_⟩
    cases y with
    | one d => obtain ⟨c, rfl, hr⟩ := hr; exact ⟨c, rfl, rtC_ok h h0 hZ hr⟩
    | agg m => obtain ⟨c, rfl, hr⟩ := hr; exact ⟨c, rfl, rtL_ok h h0 hZ hr⟩
    | tup m => exact RDV.mono (d := .tup m) hZ (h.bleT σ) hr
/-- the names in boxes change -/
theorem lk2_rt {k j : Nat} {S : Bx} {κ : Key} {y : Bk} (hy : lk2 (mapS (rtB k j) S) κ = some y) : ∃ x, lk2 S κ = some x ∧ (y = rtB k j x ∨ y = x) := by
  obtain ⟨z, hz⟩ := lk2_lk hy
  rw [lk_mapS] at hz
  cases hl : lk S κ.1 with
  | none => rw [hl] at hz; cases hz
  | some x =>
    have hlk : lk (mapS (rtB k j) S) κ.1 = some (rtB k j x) := by rw [lk_mapS, hl]; rfl
    obtain ⟨a, i⟩ := κ
    simp only at hl hlk
    cases i with
    | zero =>
      simp only [lk2, hl]
      simp only [lk2, hlk] at hy
      cases x with
      | cells m => exact ⟨_, rfl, .inl (Option.some.inj hy).symm⟩
      | data m => exact ⟨_, rfl, .inl (Option.some.inj hy).symm⟩
      | tree rows => exact ⟨_, rfl, .inr (Option.some.inj hy).symm⟩
      | mp ks l => exact ⟨_, rfl, .inr (Option.some.inj hy).symm⟩
      | mt es => exact ⟨_, rfl, .inr (Option.some.inj hy).symm⟩
    | succ i =>
      simp only [lk2, hl]
      simp only [lk2, hlk] at hy
      cases x with
      | cells m => cases hy
      | data m => cases hy
      | tree rows =>
        cases hr : rows[i]? with
        | none => simp only [rtB, hr] at hy; cases hy
        | some r => simp only [rtB, hr] at hy; exact ⟨.data r, by simp only [hr]; rfl, .inr (Option.some.inj hy).symm⟩
      | mp ks l => cases hy
      | mt es => exact ⟨_, hy, .inr rfl⟩
theorem SR.rtS {k : Nat} {σ : Nat → Option Slot} {rows : List (List FD)} (h : SR p Z β H S nk) (h0 : σ 0 = β (k, 0)) (hZ : ZLe Z H Z H') (hS0 : ∀ κ x, lk2 S0 κ = some x → lk2 S κ = some x) (hne : ∀ κ x, lk2 S0 κ = some x → κ.1 ≠ nk) (hT : SR p Z (newT β nk σ) H' ((nk, .tree rows) :: S0) (nk + 1)) (hg : ∀ b, (∃ κ x N, lk2 S0 κ = some x ∧ β κ = some (.blk b N)) → H'.get b = H.get b) (hnx : H.nx ≤ H'.nx) : SR p Z (newT β nk σ) H' ((nk, .tree rows) :: mapS (rtB k nk) S0) (nk + 1) := by
  refine ⟨hT.wf, hT.lo, hT.z, hT.zlo, hT.zz, hT.glob, hT.nk, hT.bd, fun κ y hκ => ?_, fun κ κ' y y' b N N' hj hj' hs hs' => ?_, hT.blo, hT.anch, hT.ancn⟩
  · by_cases e : κ.1 = nk
    · refine hT.box κ y ?_
      rw [← hκ]
      exact lk2_congr (by rw [lk_cons, lk_cons, if_pos e.symm, if_pos e.symm])
    · have hκ' : lk2 (mapS (rtB k nk) S0) κ = some y := by
        rw [← hκ]; exact lk2_congr (by rw [lk_cons, if_neg (fun h => e h.symm)])
      obtain ⟨x, hx, hyx⟩ := lk2_rt hκ'
      have hxT : lk2 ((nk, .tree rows) :: S0) κ = some x := by
        rw [← hx]; exact lk2_congr (by rw [lk_cons, if_neg (fun h => e h.symm)])
      obtain ⟨s, hs, hbx⟩ := hT.box κ x hxT
      rcases hyx with rfl | rfl
      · refine ⟨s, hs, ?_⟩
        cases s with
        | nil => cases x <;> simpa [BoxR, rtB, Bk.len] using hbx
        | blk b N =>
          cases x with
          | cells m =>
            obtain ⟨s0, hs0, hb0⟩ := h.box κ _ (hS0 κ _ hx)
            have := h.bleT σ κ s0 hs0
            rw [hs] at this
            obtain rfl := Option.some.inj this
            obtain ⟨g1, g2, g3, cs, rest, g4, g5, g6⟩ := hb0
            exact ⟨g1, g2, by omega, cs, rest, g4.same (hg b ⟨κ, _, N, hx, hs0⟩), g5, rtL_ok h h0 hZ g6⟩
          | data m => exact hbx
          | tree m => exact hbx
          | mp ks l => exact hbx
          | mt es => exact hbx
      · exact ⟨s, hs, hbx⟩
  · have f : ∀ a w, lk ((nk, .tree rows) :: mapS (rtB k nk) S0) a = some w → ∃ w', lk ((nk, .tree rows) :: S0) a = some w' := fun a w hw => by
      rw [lk_cons] at hw ⊢
      split at hw
      · rename_i e; exact ⟨_, by rw [if_pos e]⟩
      · rename_i e
        rw [lk_mapS] at hw
        cases hl : lk S0 a with
        | none => rw [hl] at hw; cases hw
        | some q => exact ⟨q, by rw [if_neg e]⟩
    obtain ⟨z1, e1⟩ := f _ y hj
    obtain ⟨z2, e2⟩ := f _ y' hj'
    exact hT.inj κ κ' z1 z2 b N N' e1 e2 hs hs'
end
end Go.Ab

/- Deep values: operations on trees. -/
namespace Go.Ab

theorem rowsV_set (k : Nat) : ∀ (i : Nat) (rows : List (List FD)) (j : Nat) (r r' : List FD), rows[j]? = some r → r'.length = r.length → rowsV k i (rows.set j r') = rowsV k i rows
  | _, [], _, _, _, h, _ => by simp at h
  | i, q :: rs, 0, r, r', h, hl => by simp at h; subst h; simp [rowsV, hl]
  | i, q :: rs, j + 1, r, r', h, hl => by
    simp only [List.set_cons_succ, rowsV]
    rw [rowsV_set k (i + 1) rs j r r' (by simpa using h) hl]
/-- the rows of another tree, whose slots are the same -/
theorem rowsV_rel {Z : Nat → Prop} {H H' : Hp} {β β' : Beta} {k k' : Nat} {rows rows' : List (List FD)} {cs cs' : List C} (hl : rows'.length = cs'.length) (h : ∀ i r c, rows'[i]? = some r → cs'[i]? = some c → RD Z H' β' (.trow k' i 0 r.length) c) : All2 (RD Z H' β') (rowsV k' 0 rows') cs' := by
  refine All2.mk (by rw [rowsV_len]; exact hl) fun i d c hd hc => ?_
  rw [rowsV_at] at hd
  cases hr : rows'[i]? with
  | none => rw [hr] at hd; cases hd
  | some r =>
    rw [hr] at hd
    simp only [Option.map_some, Option.some.injEq, Nat.zero_add] at hd
    subst hd
    exact h i r c hr hc

section
variable {p : Par} {base rs : Nat} {Q : DEnv → Bx → Nat → Prop} {r : List SOper} {W : Wt} {A : List Nat} {E : DEnv} {S : Bx} {nk : Nat} {id : Nat} {dst : Option Nat} {aid : Option Nat} {ws : List Nat} {keep : Bool}

theorem AR.tree {Z : Nat → Prop} {β : Beta} {H H' : Hp} {σ : Nat → Option Slot} (hA : AR p base rs A Z β H) (hnx : H.nx ≤ H'.nx) (hg : ∀ j, j < rs → j ∉ A → H'.get (base + j) = H.get (base + j)) (hb : ∀ j, j < rs → j ∉ A → ∀ i N, σ i ≠ some (.blk (base + j) N)) : AR p base rs A Z (newT β nk σ) H' := by
  refine ⟨hA.1, fun j hj hjA => ?_⟩
  obtain ⟨h1, h2, h3, h4⟩ := hA.2 j hj hjA
  refine ⟨by omega, by rw [hg j hj hjA]; exact h2, h3, fun κ M => ?_⟩
  by_cases e : κ.1 = nk
  · simp only [newT, if_pos e]; exact hb j hj hjA _ M
  · rw [newT_ne _ _ e]; exact h4 κ M

/-- MAKE A TREE of rows that are nil yet -/
theorem mkt_core {Z : Nat → Prop} {β : Beta} {H H' : Hp} {n b : Nat} (hS : SR p Z β H S nk) (hz : ¬ Z b) (hβ : ∀ κ N, β κ ≠ some (.blk b N)) (hlo : p.lo ≤ b) (hb : b < H'.nx) (hnx : H.nx ≤ H'.nx) (hw : WF H') (hg : ∀ b', b' ≠ b → H'.get b' = H.get b') (hr : H'.get b = some (.row (n * 1) [.nils] .lf true)) :
    ∃ σ, SR p Z (newT β nk σ) H' ((nk, .tree (List.replicate n [])) :: S) (nk + 1) ∧ ZLe Z H Z H' ∧ BLe β (newT β nk σ) ∧ σ 0 = some (.blk b n) ∧ ∀ i c N, σ i = some (.blk c N) → c = b := by
  have hs0 : ∀ i c N, (fun i => match i with | 0 => some (Slot.blk b n) | i + 1 => if i < n then some Slot.nil else none) i = some (Slot.blk c N) → c = b ∧ i = 0 := fun i c N h => by
    cases i with
    | zero => exact ⟨(Slot.blk.inj (Option.some.inj h)).1.symm, rfl⟩
    | succ i =>
      simp only at h
      split at h <;> cases h
  refine ⟨fun i => match i with | 0 => some (.blk b n) | i + 1 => if i < n then some .nil else none, ?_⟩
  obtain ⟨g1, g2, g3⟩ := hS.tree (S0 := S) (H' := H') (rows := List.replicate n []) (σ := fun i => match i with | 0 => some (.blk b n) | i + 1 => if i < n then some .nil else none) (fun k x h => ⟨x, h⟩) hS.box hnx hw
    (fun c hc => hg c fun e => by
      rcases hc with hc | ⟨κ, x, N, _, hc⟩
      · exact hz (e ▸ hc)
      · exact hβ κ N (e ▸ hc))
    (fun i c N h => by rw [(hs0 i c N h).1]; exact hb)
    (fun i c N h => by rw [(hs0 i c N h).1]; exact hlo)
    (fun i j c N N' h h' => by rw [(hs0 i c N h).2, (hs0 j c N' h').2])
    (fun i c N κ x M h _ => by rw [(hs0 i c N h).1]; exact hβ κ M)
    ⟨_, rfl, hz, hlo, hb, List.replicate n .nils, [], by
      rw [List.append_nil]
      have := row_pat (z := [.nils]) (M := n * 1) (by simp) b H' hr
      have e : (List.range (n * 1)).map (fun i => [C.nils].getD (i % [C.nils].length) .nilp) = List.replicate n C.nils := by
        refine List.ext_getElem? fun i => ?_
        rw [List.getElem?_map]
        by_cases hi : i < n
        · rw [List.getElem?_range (by omega), List.getElem?_replicate, if_pos hi]; simp [Nat.mod_one]
        · rw [List.getElem?_eq_none (by simp; omega), List.getElem?_replicate, if_neg hi]; rfl
      rw [e] at this; exact this, (by simp [lenOk, Bk.shape]), by
      refine rowsV_rel (k := 0) (rows := []) (cs := []) (H := H) (β := β) (by simp) fun i r c h1 h2 => ?_
      rw [List.getElem?_replicate] at h1 h2
      split at h1
      · rename_i hi
        rw [if_pos hi] at h2
        obtain rfl := Option.some.inj h1
        obtain rfl := Option.some.inj h2
        exact .inl ⟨by rw [newT_self]; simp only [if_pos hi], rfl, rfl, rfl⟩
      · cases h1⟩
    (fun i r h => by
      rw [List.getElem?_replicate] at h
      split at h
      · rename_i hi
        obtain rfl := Option.some.inj h
        exact ⟨.nil, by simp only [if_pos hi], rfl⟩
      · cases h)
  exact ⟨g1, g2, g3, rfl, fun i c N h => (hs0 i c N h).1⟩
theorem mkt_alloc {bytes n : Nat} {lo co : Opd} {k k' : IntKind} (hl : ro E lo = some (.one (.f (.c (.int k (n : Nat)))))) (hc : ro E co = some (.one (.f (.c (.int k' (n : Nat)))))) (hb : bytes * n ≤ 281474976710656) (hm : n < 4611686018427387904) {Z : Nat → Prop} {β : Beta} {H : Hp} {F : T V} (hE : ER Z β H E F) : aAlloc F (.mkslice 1 bytes [.nils] lo co) = some (.row (n * 1) [.nils] .lf true, fun b => .one (.slc b 0 n n 1 true)) := by
  simp only [aAlloc, int_of hE hl, int_of hE hc]
  rw [if_pos ⟨by omega, by omega, by omega, by omega⟩]
  simp
theorem dw_mkt {bytes n : Nat} {lo co : Opd} {k k' : IntKind} (hl : ro E lo = some (.one (.f (.c (.int k (n : Nat)))))) (hc : ro E co = some (.one (.f (.c (.int k' (n : Nat)))))) (hb : bytes * n ≤ 281474976710656) (hm : n < 4611686018427387904)
    (h : DPW p base rs Q r W A (setD E dst (.one (.own nk 0 n 1))) ((nk, .tree (List.replicate n [])) :: S) (nk + 1)) : DPW p base rs Q (⟨id, dst, .a (.mkslice 1 bytes [.nils] lo co), none, none, ws, keep⟩ :: r) W A E S nk := .mk fun Z β H F c hS hE hC hA => by
  simp only [wOps, wantedA, if_true, mkt_alloc hl hc hb hm hE]
  have hfr : H.get H.nx = none := hS.wf.fresh (Nat.le_refl _)
  have hg : ∀ b', b' ≠ H.nx → (H.push (.row (n * 1) [.nils] .lf true)).get b' = H.get b' := fun b' hb' => by rw [Hp.get_push, if_neg hb']
  obtain ⟨σ, hS', hZ, hB, s0, s1⟩ := mkt_core (n := n) (b := H.nx) (H' := H.push (.row (n * 1) [.nils] .lf true)) hS (fun hz => absurd (hS.z _ hz) (by omega)) (fun k N hk => absurd (hS.bd k _ N hk) (by omega)) hS.lo (by simp) (by simp) (hS.wf.push _) hg (by rw [Hp.get_push, if_pos rfl])
  refine h.run Z _ _ _ c hS' ((hE.mono hZ hB).set dst ⟨_, rfl, .inr ⟨H.nx, n, n, true, by rw [newT_self]; exact s0, rfl, Nat.le_refl _, by omega⟩⟩) (hC.new hZ hB hg hfr) (hA.tree (by simp) (fun j hj hjA => hg _ ?_) fun j hj hjA i N e => ?_)
  · have := (hA.2 j hj hjA).1; omega
  · have := s1 i _ N e
    have := (hA.2 j hj hjA).1; omega
theorem dw_mkti {bytes n : Nat} {lo co : Opd} {k k' : IntKind} {i : Nat} (hi : Nat.blt i rs = true) (hA' : A.elem i = false) (hl : ro E lo = some (.one (.f (.c (.int k (n : Nat)))))) (hc : ro E co = some (.one (.f (.c (.int k' (n : Nat)))))) (hb : bytes * n ≤ 281474976710656) (hm : n < 4611686018427387904)
    (h : DPW p base rs Q r W (i :: A) (setD E dst (.one (.own nk 0 n 1))) ((nk, .tree (List.replicate n [])) :: S) (nk + 1)) : DPW p base rs Q (⟨id, dst, .a (.mkslice 1 bytes [.nils] lo co), none, some i, ws, keep⟩ :: r) W A E S nk := .mk fun Z β H F c hS hE hC hA => by
  simp only [wOps, wantedA, if_true, mkt_alloc hl hc hb hm hE]
  have hi' : i < rs := Nat.le_of_ble_eq_true hi
  have hiA : i ∉ A := fun h => by rw [List.elem_eq_true_of_mem h] at hA'; cases hA'
  obtain ⟨g1, g2, g3, g4⟩ := hA.2 i hi' hiA
  have hg : ∀ b', b' ≠ base + i → (H.add (base + i) (.row (n * 1) [.nils] .lf true)).get b' = H.get b' := fun b' hb' => Hp.get_add_ne _ _ hb'
  have hw : WF (H.add (base + i) (.row (n * 1) [.nils] .lf true)) := fun b k hb => by
    rw [Hp.get_add] at hb
    split at hb
    · simp; omega
    · exact hS.wf b k hb
  obtain ⟨σ, hS', hZ, hB, s0, s1⟩ := mkt_core (n := n) (b := base + i) (H' := H.add (base + i) (.row (n * 1) [.nils] .lf true)) hS g3 g4 (by have := hA.1; omega) (by simpa using g1) (by simp) hw hg (by simp)
  have hA2 : AR p base rs (i :: A) Z β H := ⟨hA.1, fun j hj hjA => hA.2 j hj fun h => hjA (by simp [h])⟩
  refine h.run Z _ _ _ c hS' ((hE.mono hZ hB).set dst ⟨_, rfl, .inr ⟨base + i, n, n, true, by rw [newT_self]; exact s0, rfl, Nat.le_refl _, by omega⟩⟩) (hC.new hZ hB hg g2) (hA2.tree (by simp) (fun j hj hjA => hg _ ?_) fun j hj hjA i' N e => ?_)
  · intro e; exact hjA (by simp; omega)
  · have := s1 i' _ N e
    exact hjA (by simp; omega)

/-- A ROW IS WRITTEN -/
theorem SR.updT {Z : Nat → Prop} {β : Beta} {H H' : Hp} (h : SR p Z β H S nk) {k i b N : Nat} {rows : List (List FD)} {q q' : List FD} {cs rest : List C} (hk : lk S k = some (.tree rows)) (hi : rows[i]? = some q) (hs : β (k, i + 1) = some (.blk b N)) (hl : q'.length = q.length) (hx : All2 (RF Z H) q' cs) (hg : ∀ b', b' ≠ b → H'.get b' = H.get b') (hnx : H'.nx = H.nx) (hr : Row H' b (cs ++ rest)) (hN : (cs ++ rest).length = N) :
    SR p Z β H' (put k (.tree (rows.set i q')) S) nk ∧ ZLe Z H Z H' := by
  have hk2 := lk2_row hk hi
  obtain ⟨s, hs', hbx⟩ := h.box (k, i + 1) _ hk2
  rw [hs] at hs'
  obtain rfl := Option.some.inj hs'
  obtain ⟨hz, hlo, hlt, _⟩ := hbx
  have hzg : ∀ b', Z b' → H'.get b' = H.get b' := fun b' hb' => hg b' fun e => hz (e ▸ hb')
  have hZ : ZLe Z H Z H' := ZLe.of_get (fun _ h => h) hzg
  have hil : i < rows.length := (List.getElem?_eq_some_iff.1 hi).1
  have hoth : ∀ (κ : Key) y, κ ≠ (k, i + 1) → lk2 S κ = some y → ∃ s, β κ = some s ∧ BoxR p Z H' β y s := fun κ y hne hy => by
    obtain ⟨s, hsj, hbj⟩ := h.box κ y hy
    obtain ⟨z, hz⟩ := lk2_lk hy
    refine ⟨s, hsj, hbj.mono (BLe.refl _) (by omega) fun b' hb' => ?_⟩
    rcases hb' with hb' | ⟨M, rfl⟩
    · exact hzg b' hb'
    · exact hg b' fun e' => hne (h.inj κ (k, i + 1) z _ b M N hz hk (e' ▸ hsj) hs)
  refine ⟨⟨fun b' bk hb' => ?_, by rw [hnx]; exact h.lo, fun b' hb' => by rw [hnx]; exact h.z b' hb', h.zlo, h.zz, fun b' bk hb' => ?_, h.nk, fun k b' N hk => by rw [hnx]; exact h.bd k b' N hk, fun κ y hκ => ?_, fun j j' y y' b' M M' hj hj' hsj hsj' => ?_, h.blo, h.anch, h.ancn⟩, hZ⟩
  · rw [hnx]
    by_cases e : b' = b
    · omega
    · rw [hg b' e] at hb'; exact h.wf b' bk hb'
  · obtain ⟨h1, h2⟩ := h.glob b' bk hb'
    exact ⟨h1, by rw [hzg b' h1]; exact h2⟩
  · obtain ⟨j, t⟩ := κ
    by_cases e : j = k
    · subst e
      have hl' : lk (put j (.tree (rows.set i q')) S) j = some (.tree (rows.set i q')) := by rw [lk_put, if_pos rfl, hk]; rfl
      cases t with
      | zero =>
        simp only [lk2, hl', rowsV_set j 0 rows i q q' hi hl] at hκ
        exact hoth (j, 0) y (by simp) (by simp only [lk2, hk]; exact hκ)
      | succ t =>
        simp only [lk2, hl', List.getElem?_set] at hκ
        by_cases et : i = t
        · subst et
          rw [if_pos rfl, if_pos hil] at hκ
          obtain rfl := Option.some.inj hκ
          exact ⟨_, hs, hz, hlo, by omega, cs, rest, hr, hN, All2.mono (fun _ _ => RF.mono hZ) hx⟩
        · rw [if_neg et] at hκ
          exact hoth (j, t + 1) y (fun h => et (by simp at h; omega)) (by simp only [lk2, hk]; exact hκ)
    · have : lk2 S (j, t) = some y := by rw [← hκ]; exact (lk2_congr (by rw [lk_put, if_neg e])).symm
      exact hoth (j, t) y (fun h => e (Prod.mk.inj h).1) this
  · rw [lk_put] at hj hj'
    have f : ∀ a z, (if a = k then Option.map (fun _ => Bk.tree (rows.set i q')) (lk S a) else lk S a) = some z → ∃ z', lk S a = some z' := fun a z hz => by
      split at hz
      · cases hl : lk S a with
        | none => rw [hl] at hz; cases hz
        | some q => exact ⟨q, rfl⟩
      · exact ⟨z, hz⟩
    obtain ⟨z1, e1⟩ := f j.1 y hj
    obtain ⟨z2, e2⟩ := f j'.1 y' hj'
    exact h.inj j j' z1 z2 b' M M' e1 e2 hsj hsj'
theorem dw_stt {a v : Opd} {k i o : Nat} {rows : List (List FD)} {q : List FD} {x : FD} (ha : ro E a = some (.one (.tptr k i o))) (hv : ro E v = some (.one (.f x))) (hk : lk S k = some (.tree rows)) (hi : rows[i]? = some q) (ho : o < q.length) (hw : wOk0 S k W = true)
    (h : DPW p base rs Q r W A (setD E dst .undef) (put k (.tree (rows.set i (q.set o x))) S) nk) : DPW p base rs Q (⟨id, dst, .e (.store 1 a v), none, aid, ws, keep⟩ :: r) W A E S nk := .mk fun Z β H F c hS hE hC hA => by
  obtain ⟨ca, hca, b, N, hb, rfl⟩ := ro_ok hE ha
  obtain ⟨cv, hcv, hrv⟩ := ro_ok hE hv
  obtain ⟨s, hs, hbx⟩ := hS.box (k, i + 1) _ (lk2_row hk hi)
  rw [hb] at hs
  obtain rfl := Option.some.inj hs
  obtain ⟨hz, hlo, hlt, cs, rest, hrow, hN, hrel⟩ := hbx
  have hN : (cs ++ rest).length = _ := hN
  have hlen : q.length = cs.length := All2.len hrel
  obtain ⟨H', e1, e2, e3, e4⟩ := hrow.stores (cs := [cv]) (i := o) (by simp; omega)
  rw [setL_app [cv] cs rest o (by simp; omega)] at e2
  obtain ⟨hS', hZ⟩ := hS.updT (q' := q.set o x) (cs := setL cs o [cv]) (rest := rest) hk hi hb (by simp) (All2.set hrel o hrv) e3 e4 e2 (by rw [List.length_append, setL_len, ← List.length_append]; exact hN)
  simp only [wOps, wantedA, if_true, aEff, hca, hcv, cells1]
  rw [if_pos (by simp), e1]
  have hC' := hC.upd (k := (k, i + 1)) hS hk hZ e3 hb hw
  exact ⟨hC'.watch ws, h.run Z β H' _ c hS' ((hE.mono hZ (BLe.refl _)).set dst undef_ok) hC' (hA.upd e4 e3 hb)⟩
/-- a row is copied over another of the same length -/
theorem dw_cpt {x y : Opd} {k i n : Nat} {rows : List (List FD)} {q l : List FD} {d : DV} (hx : ro E x = some (.one (.trow k i 0 n))) (hy : ro E y = some d) (hk : lk S k = some (.tree rows)) (hi : rows[i]? = some q) (hq : q.length = n) (hd : SrcR S 1 d n l) (hw : wOk0 S k W = true)
    (h : DPW p base rs Q r W A (setD E dst (.int n)) (put k (.tree (rows.set i l)) S) nk) : DPW p base rs Q (⟨id, dst, .e (.copy 1 x y), none, aid, ws, keep⟩ :: r) W A E S nk := .mk fun Z β H F c hS hE hC hA => by
  obtain ⟨news, hn1, hn2, hn3⟩ := dsrc_ok hS hE hy hd
  rw [Nat.mul_one] at hn3
  have hil : i < rows.length := (List.getElem?_eq_some_iff.1 hi).1
  obtain ⟨cx, hcx, hrx⟩ := ro_ok hE hx
  simp only [wOps, wantedA, if_true, aEff, hcx, hn1]
  rcases hrx with ⟨g1, rfl, _, rfl⟩ | ⟨b, N, cap, ex, hb, rfl, hcap, hcN⟩
  · have e1 : q = [] := List.eq_nil_of_length_eq_zero hq
    have e2 : l = [] := List.eq_nil_of_length_eq_zero (by rw [hn2.len, hn3])
    subst e1; subst e2
    have hset : rows.set i [] = rows := by
      refine List.ext_getElem? fun j => ?_
      rw [List.getElem?_set]
      split
      · rename_i e; subst e; rw [hi]
      · rfl
    rw [hset] at h
    have hSp : SR p Z β H (put k (.tree rows) S) nk := hS.keepS fun j z hj => by
      rw [lk_put] at hj
      split at hj
      · rename_i e; subst e; rw [hk] at hj ⊢; exact hj
      · exact hj
    exact ⟨hC.watch ws, h.run Z β H _ c hSp (hE.set dst ⟨_, rfl, .c _ rfl⟩) hC hA⟩
  · obtain ⟨s, hs, hbx⟩ := hS.box (k, i + 1) _ (lk2_row hk hi)
    rw [hb] at hs
    obtain rfl := Option.some.inj hs
    obtain ⟨hz, hlo, hlt, cs, rest, hrow, hN, hrel⟩ := hbx
    have hN : (cs ++ rest).length = _ := hN
    have hlen : q.length = cs.length := All2.len hrel
    have htk : news.take (min n n * 1) = news := List.take_of_length_le (by omega)
    obtain ⟨H', e1, e2, e3, e4⟩ := hrow.stores (cs := news) (i := 0) (by simp; omega)
    rw [setL_app news cs rest 0 (by omega)] at e2
    have hset : setL cs 0 news = news := by
      have := dsetL_mid [] cs news [] (by omega)
      simpa using this
    rw [hset] at e2
    obtain ⟨hS', hZ⟩ := hS.updT (q' := l) (cs := news) (rest := rest) hk hi hb (by rw [hn2.len]; omega) hn2 e3 e4 e2 (by rw [← hN]; simp; omega)
    simp only [if_true, htk, e1]
    have hC' := hC.upd (k := (k, i + 1)) hS hk hZ e3 hb hw
    have hmin : ((min n n : Nat) : Int) = (n : Int) := by rw [Nat.min_self]
    simp only [Option.map_some, hmin]
    exact ⟨hC'.watch ws, h.run Z β H' _ c hS' ((hE.mono hZ (BLe.refl _)).set dst ⟨_, rfl, .c _ rfl⟩) hC' (hA.upd e4 e3 hb)⟩

/-- A BOX BECOMES A ROW of a tree, which gets a new name -/
theorem dw_strow {a v : Opd} {k k' o n : Nat} {rows : List (List FD)} {q : List FD} (ha : ro E a = some (.one (.ptr k o))) (hv : ro E v = some (.one (.own k' 0 n 1))) (hk : lk S k = some (.tree rows)) (hk' : lk S k' = some (.data q)) (hn : q.length = n) (ho : o < rows.length) (hw : wOk0 S k W = true)
    (h : DPW p base rs Q r W A (setD (mapS (rtV k nk) E) dst .undef) ((nk, .tree (rows.set o q)) :: mapS (rtB k nk) (era k' (era k S))) (nk + 1)) : DPW p base rs Q (⟨id, dst, .e (.store 1 a v), none, aid, ws, keep⟩ :: r) W A E S nk := .mk fun Z β H F c hS hE hC hA => by
  obtain ⟨ca, hca, b, N, hb, rfl⟩ := ro_ok hE ha
  obtain ⟨cv, hcv, hrv⟩ := ro_ok hE hv
  have hk0 : lk2 S (k, 0) = some (.cells (rowsV k 0 rows)) := by simp only [lk2, hk]
  have hkk : k' ≠ k := fun e => by subst e; rw [hk] at hk'; cases hk'
  obtain ⟨s, hs, hbx⟩ := hS.box (k, 0) _ hk0
  rw [hb] at hs
  obtain rfl := Option.some.inj hs
  obtain ⟨hz, hlo, hlt, cs, rest, hrow, hN, hrel⟩ := hbx
  have hN : (cs ++ rest).length = _ := hN
  have hlen : (rowsV k 0 rows).length = cs.length := All2.len hrel
  rw [rowsV_len] at hlen
  obtain ⟨H', e1, e2, e3, e4⟩ := hrow.stores (cs := [cv]) (i := o) (by simp; omega)
  rw [setL_app [cv] cs rest o (by simp; omega)] at e2
  have hwf : WF H' := fun b' bk hb' => by
    rw [e4]
    by_cases e : b' = b
    · omega
    · rw [e3 b' e] at hb'; exact hS.wf b' bk hb'
  -- the keys of the new tree's slots
  let κ : Nat → Option Key := fun i => match i with
    | 0 => some (k, 0)
    | i + 1 => if i = o then some (k', 0) else if i < rows.length then some (k, i + 1) else none
  let σ : Nat → Option Slot := fun i => (κ i).bind β
  have hσ : ∀ i s, σ i = some s → ∃ a, κ i = some a ∧ β a = some s := fun i s h => by
    simp only [σ, Option.bind_eq_some_iff] at h; exact h
  have hκlive : ∀ i a, κ i = some a → (a.1 = k ∨ a.1 = k') ∧ ∃ x, lk S a.1 = some x := fun i a h => by
    cases i with
    | zero => obtain rfl := Option.some.inj h; exact ⟨.inl rfl, _, hk⟩
    | succ i =>
      simp only [κ] at h
      split at h
      · obtain rfl := Option.some.inj h; exact ⟨.inr rfl, _, hk'⟩
      · split at h
        · obtain rfl := Option.some.inj h; exact ⟨.inl rfl, _, hk⟩
        · cases h
  have hκinj : ∀ i j a, κ i = some a → κ j = some a → i = j := fun i j a h1 h2 => by
    cases i with
    | zero =>
      obtain rfl := Option.some.inj h1
      cases j with
      | zero => rfl
      | succ j =>
        simp only [κ] at h2
        split at h2
        · have := Option.some.inj h2; simp at this; exact absurd this hkk
        · split at h2
          · have := Option.some.inj h2; simp at this
          · cases h2
    | succ i =>
      cases j with
      | zero =>
        obtain rfl := Option.some.inj h2
        simp only [κ] at h1
        split at h1
        · have := Option.some.inj h1; simp at this; exact absurd this hkk
        · split at h1
          · have := Option.some.inj h1; simp at this
          · cases h1
      | succ j =>
        simp only [κ] at h1 h2
        split at h1
        · rename_i ei
          obtain rfl := Option.some.inj h1
          split at h2
          · omega
          · split at h2
            · have := Option.some.inj h2; simp at this
            · cases h2
        · split at h1
          · obtain rfl := Option.some.inj h1
            split at h2
            · have := Option.some.inj h2; simp at this
            · split at h2
              · have := Option.some.inj h2; simp at this; omega
              · cases h2
          · cases h1
  have hσ0 : σ 0 = β (k, 0) := by simp [σ, κ]
  have hera : ∀ j x, lk (era k' (era k S)) j = some x → lk S j = some x ∧ j ≠ k ∧ j ≠ k' := fun j x hj => by
    rw [lk_era, lk_era] at hj
    split at hj
    · cases hj
    · split at hj
      · cases hj
      · exact ⟨hj, by assumption, by assumption⟩
  have hera2 : ∀ a x, lk2 (era k' (era k S)) a = some x → lk2 S a = some x ∧ a.1 ≠ k ∧ a.1 ≠ k' := fun a x ha => by
    rw [lk2_era, lk2_era] at ha
    split at ha
    · cases ha
    · split at ha
      · cases ha
      · exact ⟨ha, by assumption, by assumption⟩
  have hgL : ∀ b', (Z b' ∨ ∃ a x N, lk2 (era k' (era k S)) a = some x ∧ β a = some (.blk b' N)) → H'.get b' = H.get b' := fun b' hb' => e3 b' fun e => by
    rcases hb' with hb' | ⟨a, x, M, ha, hb'⟩
    · exact hz (e ▸ hb')
    · obtain ⟨h1, h2, _⟩ := hera2 a x ha
      obtain ⟨y, hy⟩ := lk2_lk h1
      exact h2 (by rw [hS.inj a (k, 0) y _ b M N hy hk (e ▸ hb') hb])
  have hBe := hS.bleT σ
  have hZe : ZLe Z H Z H' := ZLe.of_get (fun _ h => h) fun b' hb' => hgL b' (.inl hb')
  obtain ⟨hT, hZ, hB⟩ := hS.tree (S0 := era k' (era k S)) (H' := H') (rows := rows.set o q) (σ := σ) (fun j x hj => ⟨x, (hera j x hj).1⟩) (fun a x ha => hS.box a x (hera2 a x ha).1) (by omega) hwf hgL
    (fun i c M h => by obtain ⟨a, _, h2⟩ := hσ i _ h; rw [e4]; exact hS.bd a c M h2)
    (fun i c M h => by obtain ⟨a, _, h2⟩ := hσ i _ h; exact hS.blo a c M h2)
    (fun i j c M M' h1 h2 => by
      obtain ⟨a1, g1, g2⟩ := hσ i _ h1
      obtain ⟨a2, g3, g4⟩ := hσ j _ h2
      obtain ⟨_, x1, l1⟩ := hκlive i a1 g1
      obtain ⟨_, x2, l2⟩ := hκlive j a2 g3
      have := hS.inj a1 a2 x1 x2 c M M' l1 l2 g2 g4
      subst this
      exact hκinj i j a1 g1 g3)
    (fun i c M a x M' h1 ha hb' => by
      obtain ⟨a1, g1, g2⟩ := hσ i _ h1
      obtain ⟨w, x1, l1⟩ := hκlive i a1 g1
      obtain ⟨l2, n1, n2⟩ := hera a.1 x ha
      have := hS.inj a1 a x1 x c M M' l1 l2 g2 hb'
      subst this
      exact w.elim n1 n2)
    ⟨_, hσ0.trans hb, hz, hlo, by omega, setL cs o [cv], rest, e2, by rw [List.length_append, setL_len, ← List.length_append]; exact hN, by
      refine rowsV_rel (k := 0) (rows := []) (cs := []) (H := H) (β := β) (by rw [setL_len]; simp; omega) fun i t d h1 h2 => ?_
      simp only [setL, List.getElem?_set] at h1 h2
      by_cases ei : o = i
      · subst ei
        rw [if_pos rfl, if_pos (by omega)] at h1 h2
        obtain rfl := Option.some.inj h1
        obtain rfl := Option.some.inj h2
        have hs1 : σ (o + 1) = β (k', 0) := by simp [σ, κ]
        rw [hn]
        rcases hrv with ⟨w1, w2⟩ | ⟨b1, N1, cap, ex, w1, w2⟩
        · exact .inl ⟨by rw [newT_self, hs1]; exact w1, w2⟩
        · exact .inr ⟨b1, N1, cap, ex, by rw [newT_self, hs1]; exact w1, w2⟩
      · rw [if_neg ei] at h1 h2
        have hil : i < rows.length := (List.getElem?_eq_some_iff.1 h1).1
        have ei' : ¬ i = o := fun h => ei h.symm
        have hs1 : σ (i + 1) = β (k, i + 1) := by simp only [σ, κ, if_neg ei', if_pos hil, Option.bind_some]
        obtain ⟨c', hc', hr'⟩ := hrel.at i (.trow k i 0 t.length) (by rw [rowsV_at, h1]; simp)
        rw [h2] at hc'
        obtain rfl := Option.some.inj hc'
        rcases hr' with ⟨w1, w2⟩ | ⟨b1, N1, cap, ex, w1, w2⟩
        · exact .inl ⟨by rw [newT_self, hs1]; exact w1, w2⟩
        · exact .inr ⟨b1, N1, cap, ex, by rw [newT_self, hs1]; exact w1, w2⟩⟩
    (fun i t h1 => by
      have fin : ∀ a x, lk2 S a = some x → a ≠ (k, 0) → (∃ y, lk S a.1 = some y) → ∃ s, β a = some s ∧ BoxR p Z H' (newT β nk σ) x s := fun a x ha hne ⟨y, hy⟩ => by
        obtain ⟨s, hs, hbx⟩ := hS.box a x ha
        refine ⟨s, hs, hbx.mono hBe (by omega) fun b' hb' => ?_⟩
        rcases hb' with hb' | ⟨M, rfl⟩
        · exact hgL b' (.inl hb')
        · exact e3 b' fun e => hne (hS.inj a (k, 0) y _ b M N hy hk (e ▸ hs) hb)
      simp only [List.getElem?_set] at h1
      by_cases ei : o = i
      · subst ei
        rw [if_pos rfl, if_pos ho] at h1
        obtain rfl := Option.some.inj h1
        have hs1 : σ (o + 1) = β (k', 0) := by simp [σ, κ]
        rw [hs1]
        exact fin (k', 0) _ (lk2_of hk' rfl) (fun h => hkk (Prod.mk.inj h).1) ⟨_, hk'⟩
      · rw [if_neg ei] at h1
        have hil : i < rows.length := (List.getElem?_eq_some_iff.1 h1).1
        have ei' : ¬ i = o := fun h => ei h.symm
        have hs1 : σ (i + 1) = β (k, i + 1) := by simp only [σ, κ, if_neg ei', if_pos hil, Option.bind_some]
        rw [hs1]
        exact fin (k, i + 1) _ (lk2_row hk h1) (by simp) ⟨_, hk⟩)
  have hT' := hS.rtS (k := k) hσ0 hZ (fun a x ha => (hera2 a x ha).1) (fun a x ha e => by
    obtain ⟨y, hy⟩ := lk2_lk (hera2 a x ha).1
    have := hS.lt hy
    omega) hT (fun b' ⟨a, x, M, h1, h2⟩ => hgL b' (.inr ⟨a, x, M, h1, h2⟩)) (by omega)
  simp only [wOps, wantedA, if_true, aEff, hca, hcv, cells1]
  rw [if_pos (by simp), e1]
  have hC' := (hC.upd (k := (k, 0)) hS hk hZ e3 hb hw).step (ZLe.refl Z H') hB fun _ _ _ _ _ _ _ _ _ _ _ _ _ h => h
  refine ⟨hC'.watch ws, h.run Z _ H' _ c hT' ((rtE_ok hS hσ0 hZ hE).set dst undef_ok) hC' (hA.tree (by omega) (fun j hj hjA => e3 _ fun e => (hA.2 j hj hjA).2.2.2 (k, 0) N (by rw [e]; exact hb)) fun j hj hjA i M hM => ?_)⟩
  obtain ⟨a, _, g2⟩ := hσ i _ hM
  exact (hA.2 j hj hjA).2.2.2 a M g2
end
end Go.Ab

/- Deep values: rows appended to a tree; calls that hand back memory of their own. -/
namespace Go.Ab
section
variable {p : Par} {base rs : Nat} {Q : DEnv → Bx → Nat → Prop} {r : List SOper} {W : Wt} {A : List Nat} {E : DEnv} {S : Bx} {nk : Nat} {id : Nat} {dst : Option Nat} {aid : Option Nat} {ws : List Nat} {keep : Bool}
theorem CR.repl0 {Z : Nat → Prop} {β β' : Beta} {H H' : Hp} {b k : Nat} {c : Ctx} {x : Bk} (hS : SR p Z β H S nk) (hk : lk S k = some x) (hC : CR W Z β H c) (hZ : ZLe Z H Z H') (hB : BLe β β') (hg : ∀ b', b' ≠ b → (∀ N, β (k, 0) ≠ some (.blk b' N)) → H'.get b' = H.get b') (hb : (∃ N, β (k, 0) = some (.blk b N)) ∨ H.nx ≤ b) (hw : wOk0 S k W = true) : CR W Z β' H' c := hC.step hZ hB fun y hy j o n e b' N' i q hj _ _ hq => by
  obtain ⟨⟨z, hz⟩, hne⟩ := wOk0_mem hw y hy j o n e
  have h2 : ∀ N, β (k, 0) ≠ some (.blk b' N) := fun N e' => hne (by rw [hS.inj j (k, 0) z x b' N' N hz hk hj e'])
  have h1 : b' ≠ b := fun e' => by
    rcases hb with ⟨M, hM⟩ | hb
    · exact h2 M (e' ▸ hM)
    · have := hS.bd j b' N' hj; omega
  unfold Hp.cell at hq ⊢
  rw [hg b' h1 h2]; exact hq

/-- A ROW IS APPENDED to a tree, which gets a new name -/
theorem dw_appt {bytes : Nat} {s v : Opd} {k kv k' n m : Nat} {rows : List (List FD)} {q : List FD} (hs : ro E s = some (.one (.own k 0 n 1))) (hv : ro E v = some (.one (.own kv 0 1 1))) (hk : lk S k = some (.tree rows)) (hn : rows.length = n) (hkv : lk S kv = some (.cells [.own k' 0 m 1])) (hk' : lk S k' = some (.data q)) (hq : q.length = m) (hbb : (n + 1) * bytes ≤ 140737488355328) (h62 : n + 1 < 4611686018427387904) (hw : wOk0 S k W = true)
    (h : DPW p base rs Q r W A (setD E dst (.one (.own nk 0 (n + 1) 1))) ((nk, .tree (rows ++ [q])) :: era k' (era kv (era k S))) (nk + 1)) : DPW p base rs Q (⟨id, dst, .e (.append 1 bytes s v), none, aid, ws, keep⟩ :: r) W A E S nk := .mk fun Z β H F c hS hE hC hA => by
  obtain ⟨cs', hcs', hrs⟩ := ro_ok hE hs
  obtain ⟨cv', hcv', hrv⟩ := ro_ok hE hv
  have hk0 : lk2 S (k, 0) = some (.cells (rowsV k 0 rows)) := by simp only [lk2, hk]
  have hkk : k' ≠ k := fun e => by subst e; rw [hk] at hk'; cases hk'
  -- the row that is added
  obtain ⟨cv, hsrc, hcv⟩ : ∃ cv, srcCells H 1 (v.ev F) = some (1, [cv]) ∧ RD Z H β (.own k' 0 m 1) cv := by
    rcases hrv with ⟨_, h0, _⟩ | ⟨b, N, cap, ex, hb, rfl, _, _⟩
    · cases h0
    · obtain ⟨s, hs, hbx⟩ := hS.box (kv, 0) _ (lk2_of hkv rfl)
      rw [hb] at hs
      obtain rfl := Option.some.inj hs
      obtain ⟨_, _, _, cs, rest, hrow, hN, hrel⟩ := hbx
      have hN : (cs ++ rest).length = _ := hN
      match cs, hrel with
      | [cv], hrel =>
        refine ⟨cv, ?_, hrel.1⟩
        have := loads_take hrow.2 (m := 1) (by simp)
        rw [hcv']
        simp only [srcCells, if_true, Nat.mul_one, this]
        rfl
  obtain ⟨sk, hsk, hbx⟩ := hS.box (k, 0) _ hk0
  simp only [wOps, wantedA, if_true, aEff, hsrc, hcs']
  let κ : Nat → Option Key := fun i => if i < n then some (k, i + 1) else if i = n then some (k', 0) else none
  have hκlive : ∀ i a, κ i = some a → (a.1 = k ∨ a.1 = k') ∧ a ≠ (k, 0) ∧ ∃ x, lk S a.1 = some x := fun i a h => by
    simp only [κ] at h
    split at h
    · obtain rfl := Option.some.inj h; exact ⟨.inl rfl, by simp, _, hk⟩
    · split at h
      · obtain rfl := Option.some.inj h; exact ⟨.inr rfl, fun h => hkk (Prod.mk.inj h).1, _, hk'⟩
      · cases h
  have hκinj : ∀ i j a, κ i = some a → κ j = some a → i = j := fun i j a h1 h2 => by
    simp only [κ] at h1 h2
    split at h1
    · obtain rfl := Option.some.inj h1
      split at h2
      · have := Option.some.inj h2; simp at this; omega
      · split at h2
        · have := Option.some.inj h2; simp at this
        · cases h2
    · split at h1
      · obtain rfl := Option.some.inj h1
        split at h2
        · have := Option.some.inj h2; simp at this
        · split at h2
          · omega
          · cases h2
      · cases h1
  have hera : ∀ j x, lk (era k' (era kv (era k S))) j = some x → lk S j = some x ∧ j ≠ k ∧ j ≠ k' := fun j x hj => by
    rw [lk_era, lk_era, lk_era] at hj
    split at hj
    · cases hj
    · split at hj
      · cases hj
      · split at hj
        · cases hj
        · exact ⟨hj, by assumption, by assumption⟩
  have hera2 : ∀ a x, lk2 (era k' (era kv (era k S))) a = some x → lk2 S a = some x ∧ a.1 ≠ k ∧ a.1 ≠ k' := fun a x ha => by
    rw [lk2_era, lk2_era, lk2_era] at ha
    split at ha
    · cases ha
    · split at ha
      · cases ha
      · split at ha
        · cases ha
        · exact ⟨ha, by assumption, by assumption⟩
  have hzk : ∀ b' N, Z b' → β (k, 0) ≠ some (.blk b' N) := fun b' N hz e => by
    rw [hsk] at e
    obtain rfl := Option.some.inj e
    exact hbx.1 hz
  have hfin : ∀ (H' : Hp) (b : Nat) (olds rest : List C) (cap : Nat) (ex : Bool), (All2 (RD Z H β) (rowsV k 0 rows) olds) → ((∃ N, β (k, 0) = some (.blk b N)) ∨ (b = H.nx)) → b < H'.nx → H.nx ≤ H'.nx → WF H' → (∀ b', b' ≠ b → (∀ N, β (k, 0) ≠ some (.blk b' N)) → H'.get b' = H.get b') → Row H' b ((olds ++ [cv]) ++ rest) → n + 1 ≤ cap → cap * 1 ≤ ((olds ++ [cv]) ++ rest).length →
      watchOk ws c H' ∧ wOps p.P p.G base (fun F' H' => ∃ E' S' nk' Z' β', SR p Z' β' H' S' nk' ∧ ER Z' β' H' E' F' ∧ Q E' S' nk') r c (setO F dst (.one (.slc b 0 (n + 1) cap 1 ex))) H' := by
    intro H' b olds rest cap ex hol hb hbl hnx hwf hg hrow hcap hcl
    have hb' : (∃ N, β (k, 0) = some (.blk b N)) ∨ H.nx ≤ b := hb.imp (fun h => h) fun e => by omega
    have hlen := hol.len
    rw [rowsV_len] at hlen
    let σ : Nat → Option Slot := fun i => match i with
      | 0 => some (.blk b ((olds ++ [cv]) ++ rest).length)
      | i + 1 => (κ i).bind β
    have hσ : ∀ i s, σ (i + 1) = some s → ∃ a, κ i = some a ∧ β a = some s := fun i s h => by
      simp only [σ, Option.bind_eq_some_iff] at h; exact h
    -- the blocks of the rows are not the outer one
    have hrowne : ∀ i c' M, σ (i + 1) = some (.blk c' M) → c' ≠ b ∧ c' < H.nx ∧ ∀ N, β (k, 0) ≠ some (.blk c' N) := fun i c' M h => by
      obtain ⟨a, g1, g2⟩ := hσ i _ h
      obtain ⟨_, n1, x, l1⟩ := hκlive i a g1
      have hb0 : ∀ N, β (k, 0) ≠ some (.blk c' N) := fun N e => n1 (hS.inj a (k, 0) x _ c' M N l1 hk g2 e)
      have := hS.bd a c' M g2
      refine ⟨fun e => ?_, this, hb0⟩
      rcases hb with ⟨N, hN⟩ | hN
      · exact hb0 N (e ▸ hN)
      · omega
    have hzb : ¬ Z b := by
      rcases hb with ⟨N, hN⟩ | hN
      · exact fun hz => hzk b N hz hN
      · exact fun hz => absurd (hS.z _ hz) (by omega)
    have hlob : p.lo ≤ b := by
      rcases hb with ⟨N, hN⟩ | hN
      · exact hS.lo2 hk0 hN
      · have := hS.lo; omega
    have hgL : ∀ b', (Z b' ∨ ∃ a x N, lk2 (era k' (era kv (era k S))) a = some x ∧ β a = some (.blk b' N)) → H'.get b' = H.get b' := fun b' hb1 => by
      rcases hb1 with hb1 | ⟨a, x, M, ha, hb1⟩
      · exact hg b' (fun e => hzb (e ▸ hb1)) fun N => hzk b' N hb1
      · obtain ⟨h1, h2, _⟩ := hera2 a x ha
        obtain ⟨y, hy⟩ := lk2_lk h1
        have h3 : ∀ N, β (k, 0) ≠ some (.blk b' N) := fun N e => h2 (by rw [hS.inj a (k, 0) y _ b' M N hy hk hb1 e])
        refine hg b' (fun e => ?_) h3
        rcases hb with ⟨N, hN⟩ | hN
        · exact h3 N (e ▸ hN)
        · have := hS.bd a b' M hb1; omega
    have hBe := hS.bleT σ
    obtain ⟨hT, hZ, hB⟩ := hS.tree (S0 := era k' (era kv (era k S))) (H' := H') (rows := rows ++ [q]) (σ := σ) (fun j x hj => ⟨x, (hera j x hj).1⟩) (fun a x ha => hS.box a x (hera2 a x ha).1) hnx hwf hgL
      (fun i c' M h => by
        cases i with
        | zero => obtain ⟨rfl, _⟩ := Slot.blk.inj (Option.some.inj h); exact hbl
        | succ i => have := (hrowne i c' M h).2.1; omega)
      (fun i c' M h => by
        cases i with
        | zero => obtain ⟨rfl, _⟩ := Slot.blk.inj (Option.some.inj h); exact hlob
        | succ i => obtain ⟨a, _, h2⟩ := hσ i _ h; exact hS.blo a c' M h2)
      (fun i j c' M M' h1 h2 => by
        cases i with
        | zero =>
          obtain ⟨rfl, _⟩ := Slot.blk.inj (Option.some.inj h1)
          cases j with
          | zero => rfl
          | succ j => exact absurd rfl (hrowne j _ _ h2).1
        | succ i =>
          cases j with
          | zero => obtain ⟨rfl, _⟩ := Slot.blk.inj (Option.some.inj h2); exact absurd rfl (hrowne i _ _ h1).1
          | succ j =>
            obtain ⟨a1, g1, g2⟩ := hσ i _ h1
            obtain ⟨a2, g3, g4⟩ := hσ j _ h2
            obtain ⟨_, _, x1, l1⟩ := hκlive i a1 g1
            obtain ⟨_, _, x2, l2⟩ := hκlive j a2 g3
            have := hS.inj a1 a2 x1 x2 c' M M' l1 l2 g2 g4
            subst this
            rw [hκinj i j a1 g1 g3])
      (fun i c' M a x M' h1 ha hb1 => by
        obtain ⟨l2, n1, n2⟩ := hera a.1 x ha
        cases i with
        | zero =>
          obtain ⟨rfl, _⟩ := Slot.blk.inj (Option.some.inj h1)
          rcases hb with ⟨N, hN⟩ | hN
          · exact n1 (by rw [hS.inj a (k, 0) x _ _ M' N l2 hk hb1 hN])
          · have := hS.bd a _ M' hb1; omega
        | succ i =>
          obtain ⟨a1, g1, g2⟩ := hσ i _ h1
          obtain ⟨w, _, x1, l1⟩ := hκlive i a1 g1
          have := hS.inj a1 a x1 x c' M M' l1 l2 g2 hb1
          subst this
          exact w.elim n1 n2)
      ⟨_, rfl, hzb, hlob, hbl, olds ++ [cv], rest, hrow, rfl, by
        refine rowsV_rel (k := 0) (rows := []) (cs := []) (H := H) (β := β) (by simp; omega) fun i t d h1 h2 => ?_
        by_cases ei : i < n
        · rw [List.getElem?_append_left (by omega)] at h1 h2
          have hs1 : σ (i + 1) = β (k, i + 1) := by simp only [σ, κ, if_pos ei, Option.bind_some]
          obtain ⟨c', hc', hr'⟩ := hol.at i (.trow k i 0 t.length) (by rw [rowsV_at, h1]; simp)
          rw [h2] at hc'
          obtain rfl := Option.some.inj hc'
          rcases hr' with ⟨w1, w2⟩ | ⟨b1, N1, cap, ex, w1, w2⟩
          · exact .inl ⟨by rw [newT_self, hs1]; exact w1, w2⟩
          · exact .inr ⟨b1, N1, cap, ex, by rw [newT_self, hs1]; exact w1, w2⟩
        · have hi : i = n := by
            have := (List.getElem?_eq_some_iff.1 h1).1
            simp at this; omega
          subst hi
          rw [List.getElem?_append_right (by omega), hn] at h1
          rw [List.getElem?_append_right (by omega), ← hlen, hn] at h2
          simp at h1 h2
          subst h1; subst h2
          have hs1 : σ (i + 1) = β (k', 0) := by simp [σ, κ]
          rw [hq]
          rcases hcv with ⟨w1, w2⟩ | ⟨b1, N1, cap, ex, w1, w2⟩
          · exact .inl ⟨by rw [newT_self, hs1]; exact w1, w2⟩
          · exact .inr ⟨b1, N1, cap, ex, by rw [newT_self, hs1]; exact w1, w2⟩⟩
      (fun i t h1 => by
        have fin : ∀ a x, κ i = some a → lk2 S a = some x → ∃ s, σ (i + 1) = some s ∧ BoxR p Z H' (newT β nk σ) x s := fun a x hκ ha => by
          obtain ⟨s, hs, hbx⟩ := hS.box a x ha
          have hσi : σ (i + 1) = some s := by simp only [σ, hκ, Option.bind_some, hs]
          refine ⟨s, hσi, hbx.mono hBe hnx fun b' hb' => ?_⟩
          rcases hb' with hb' | ⟨M, rfl⟩
          · exact hgL b' (.inl hb')
          · obtain ⟨w1, _, w3⟩ := hrowne i b' M hσi
            exact hg b' w1 w3
        by_cases ei : i < n
        · rw [List.getElem?_append_left (by omega)] at h1
          exact fin (k, i + 1) _ (by simp only [κ, if_pos ei]) (lk2_row hk h1)
        · have hi : i = n := by
            have := (List.getElem?_eq_some_iff.1 h1).1
            simp at this; omega
          subst hi
          rw [List.getElem?_append_right (by omega), hn] at h1
          simp at h1
          subst h1
          exact fin (k', 0) _ (by simp [κ]) (lk2_of hk' rfl))
    have hC' := hC.repl0 hS hk hZ hB hg hb' hw
    refine ⟨hC'.watch ws, h.run Z _ H' _ c hT ((hE.mono hZ hB).set dst ⟨_, rfl, .inr ⟨b, _, cap, ex, by rw [newT_self], rfl, hcap, by omega⟩⟩) hC' (hA.tree hnx (fun j hj hjA => ?_) fun j hj hjA i M hM => ?_)⟩
    · obtain ⟨h1, h2, h3, h4⟩ := hA.2 j hj hjA
      refine hg _ (fun e => ?_) fun N => h4 (k, 0) N
      rcases hb with ⟨N, hN⟩ | hN
      · exact h4 (k, 0) N (by rw [e]; exact hN)
      · omega
    · obtain ⟨h1, h2, h3, h4⟩ := hA.2 j hj hjA
      cases i with
      | zero =>
        obtain ⟨e, _⟩ := Slot.blk.inj (Option.some.inj hM)
        rcases hb with ⟨N, hN⟩ | hN
        · exact h4 (k, 0) N (by rw [← e]; exact hN)
        · omega
      | succ i =>
        obtain ⟨a, _, g2⟩ := hσ i _ hM
        exact h4 a M g2
  rcases hrs with ⟨hnil, h0, _, rfl⟩ | ⟨b, N, cap, ex, hb, rfl, hcap, hcN⟩
  · have hr0 : rows = [] := List.eq_nil_of_length_eq_zero (by omega)
    subst hr0
    obtain rfl : n = 0 := h0
    simp only [aAppend]
    rw [if_neg (by decide), if_pos ⟨by omega, by omega⟩]
    exact hfin (H.push (.row 1 [cv] .lf true)) H.nx [] [] 1 false trivial (.inr rfl) (by simp) (by simp) (hS.wf.push _) (fun b' hb' _ => by rw [Hp.get_push, if_neg hb']) (by simpa using Row.new (H := H) [cv]) (by omega) (by simp)
  · rw [hb] at hsk
    obtain rfl := Option.some.inj hsk
    obtain ⟨hz, hlo, hlt, cells, rest, hrow, hN, hrel⟩ := hbx
    have hN : (cells ++ rest).length = _ := hN
    have hlen : (rowsV k 0 rows).length = cells.length := All2.len hrel
    rw [rowsV_len] at hlen
    simp only [aAppend]
    rw [if_neg (by simp)]
    by_cases hfit : n + 1 ≤ cap
    · rw [if_pos hfit, Nat.zero_add, Nat.mul_one]
      obtain ⟨rest', x, hrest⟩ : ∃ rest' x, rest = x :: rest' := by
        cases rest with
        | nil => simp at hN; omega
        | cons x rest' => exact ⟨rest', x, rfl⟩
      subst hrest
      obtain ⟨H', e1, e2, e3, e4⟩ := hrow.stores (cs := [cv]) (i := n) (by simp; omega)
      rw [e1]
      have hset : setL (cells ++ x :: rest') n [cv] = (cells ++ [cv]) ++ rest' := by
        have := dsetL_mid cells [x] [cv] rest' rfl
        rw [← hlen, hn] at this
        simpa using this
      rw [hset] at e2
      refine hfin H' b cells rest' cap ex hrel (.inl ⟨N, hb⟩) (by omega) (by omega) (fun b' bk hb' => ?_) (fun b' hb' _ => e3 b' hb') e2 hfit ?_
      · rw [e4]
        by_cases e : b' = b
        · omega
        · rw [e3 b' e] at hb'; exact hS.wf b' bk hb'
      · simp at hN ⊢; omega
    · rw [if_neg hfit, if_pos ⟨hbb, h62⟩]
      have hld : H.loads b 0 (n * 1) = some cells := by
        have := loads_take hrow.2 (m := n * 1) (by simp; omega)
        rw [this, List.take_append_of_le_length (by omega), List.take_of_length_le (by omega)]
      rw [hld]
      have hrow' := Row.new (H := H) (cells ++ [cv])
      cases ex with
      | true =>
        simp only [if_true]
        exact hfin _ H.nx cells [] (n + 1) false hrel (.inr rfl) (by simp) (by simp) (hS.wf.push _) (fun b' hb' _ => by rw [Hp.get_push, if_neg hb']) (by rw [List.append_nil]; exact hrow') (Nat.le_refl _) (by simp; omega)
      | false =>
        simp only [Bool.false_eq_true, if_false, hrow.mut, if_true]
        refine hfin _ H.nx cells [] (n + 1) false hrel (.inr rfl) (by simp) (by simp) (fun b' bk hb' => ?_) (fun b' hb' hne => ?_) (by rw [List.append_nil]; exact hrow'.same (by rw [Hp.get_del, if_neg (by omega)])) (Nat.le_refl _) (by simp; omega)
        · rw [Hp.get_del] at hb'
          split at hb'
          · cases hb'
          · exact hS.wf.push _ b' bk hb'
        · rw [Hp.get_del, if_neg (fun (e : b' = b) => hne N (by rw [e]; exact hb)), Hp.get_push, if_neg hb']
end
end Go.Ab

/- Deep values: calls that hand back memory of their own. -/
namespace Go.Ab

section
variable {p : Par} {n : Nat} {Q : Exit → DEnv → Bx → Nat → Prop} {E : DEnv} {S : Bx} {nk : Nat}
theorem virtT_ok {Z : Nat → Prop} {β : Beta} {H : Hp} (hS : SR p Z β H S nk) : ∃ σ, SR p Z (newT β nk σ) H ((nk, .tree []) :: S) (nk + 1) ∧ BLe β (newT β nk σ) ∧ σ 0 = some .nil := by
  have hno : ∀ i c N, (fun i => match i with | 0 => some Slot.nil | _ + 1 => none) i = some (Slot.blk c N) → False := fun i c N h => by
    cases i <;> cases h
  obtain ⟨g1, g2, g3⟩ := hS.tree (S0 := S) (H' := H) (rows := []) (σ := fun i => match i with | 0 => some .nil | _ + 1 => none) (fun k x h => ⟨x, h⟩) hS.box (Nat.le_refl _) hS.wf (fun _ _ => rfl) (fun i c N h => (hno i c N h).elim) (fun i c N h => (hno i c N h).elim) (fun i j c N N' h => (hno i c N h).elim) (fun i c N κ x M h => (hno i c N h).elim) ⟨_, rfl, rfl⟩ (fun i r h => by simp at h)
  exact ⟨_, g1, g3, rfl⟩
theorem ds_virtT {s : SC} (kb i : Nat) {l : List DC} (hk : lk S kb = some (.cells l)) (hi : l[i]? = some (.f (.c .nils))) (h : DPS p n s Q E ((nk, .tree []) :: put kb (.cells (l.set i (.own nk 0 0 1))) S) (nk + 1)) : DPS p n s Q E S nk := .mk fun Z β H F hS hE => by
  obtain ⟨σ, hT, hB, h0⟩ := virtT_ok hS
  have hkn := hS.lt hk
  have hkT : lk ((nk, .tree []) :: S) kb = some (.cells l) := by rw [lk_cons, if_neg (by omega)]; exact hk
  refine h.run Z _ H F ?_ (hE.mono (ZLe.refl Z H) hB)
  have hput : ∀ j, lk ((nk, .tree []) :: put kb (.cells (l.set i (.own nk 0 0 1))) S) j = lk (put kb (.cells (l.set i (.own nk 0 0 1))) ((nk, .tree []) :: S)) j := fun j => by
    simp only [put, beq_ne (show nk ≠ kb by omega)]
  refine ⟨hT.wf, hT.lo, hT.z, hT.zlo, hT.zz, hT.glob, hT.nk, hT.bd, fun κ y hκ => ?_, fun κ κ' y y' b N N' hj hj' => ?_, hT.blo, hT.anch, hT.ancn⟩
  · rw [lk2_congr (hput κ.1), lk2_put hkT rfl] at hκ
    split at hκ
    · rename_i e
      split at hκ
      · rename_i e2
        obtain rfl := key_eq e e2
        obtain rfl := Option.some.inj hκ
        obtain ⟨s, hs, hbx⟩ := hT.box (kb, 0) _ (lk2_of hkT rfl)
        refine ⟨s, hs, ?_⟩
        cases s with
        | nil =>
          have : l = [] := List.eq_nil_of_length_eq_zero hbx
          subst this; cases hi
        | blk b N =>
          obtain ⟨g1, g2, g3, cs, rest, g4, g5, g6⟩ := hbx
          refine ⟨g1, g2, g3, cs, rest, g4, g5, ?_⟩
          obtain ⟨c, hc, hr⟩ := All2.at g6 i _ hi
          cases hr
          have hset : cs.set i .nils = cs := by
            refine List.ext_getElem? fun j => ?_
            rw [List.getElem?_set]
            split
            · rename_i ej; subst ej; rw [hc]; first | rfl | rw [if_pos (List.getElem?_eq_some_iff.1 hc).1]
            · rfl
          show All2 _ _ _
          rw [← hset]
          exact All2.set g6 i (.inl ⟨by rw [newT_self]; exact h0, rfl, rfl, rfl⟩)
      · cases hκ
    · exact hT.box κ y hκ
  · rw [hput] at hj hj'
    rw [lk_put] at hj hj'
    have f : ∀ a z, (if a = kb then Option.map (fun _ => Bk.cells (l.set i (.own nk 0 0 1))) (lk ((nk, .tree []) :: S) a) else lk ((nk, .tree []) :: S) a) = some z → ∃ z', lk ((nk, .tree []) :: S) a = some z' := fun a z hz => by
      split at hz
      · cases hl : lk ((nk, .tree []) :: S) a with
        | none => rw [hl] at hz; cases hz
        | some q => exact ⟨q, rfl⟩
      · exact ⟨z, hz⟩
    obtain ⟨z1, e1⟩ := f κ.1 y hj
    obtain ⟨z2, e2⟩ := f κ'.1 y' hj'
    exact hT.inj κ κ' z1 z2 b N N' e1 e2
end

/-- WHAT A CALL COMES TO THAT HANDS BACK MEMORY OF ITS OWN -/
def DCallsO (P : Program) (G : Nat) (GH : Hp) (f : FuncId) (ds : List DV) (R : DV → Bx → Nat → Prop) : Prop := ∀ (H : Hp) (Z : Nat → Prop) (args : List V), WF H → (∀ b, Z b → b < H.nx) → (∀ b bk, GH.get b = some bk → Z b ∧ H.get b = some bk) → All2 (RDV Z H nob) ds args →
  ACalls P G f args H fun v H' => H.nx ≤ H'.nx ∧ (∀ b, b < H.nx → H'.get b = H.get b) ∧ ∃ d S' nk' Z' β', SR (Par.base P G GH Z H.nx) Z' β' H' S' nk' ∧ RDV Z' H' β' d v ∧ R d S' nk'

section
variable {p : Par} {E : DEnv} {S : Bx} {nk : Nat}
theorem one_of {Z : Nat → Prop} {β : Beta} {H : Hp} {d : DV} {v : V} (hr : RDV Z H β d v) (hd : isOneD d = true) : isOne v = true ∧ RDV1 Z H β d v := by
  cases d with
  | one d => obtain ⟨c, rfl, hr⟩ := hr; exact ⟨rfl, c, rfl, hr⟩
  | agg l => obtain ⟨c, rfl, hr⟩ := hr; exact ⟨rfl, c, rfl, hr⟩
  | tup l => cases hd
theorem resDLO_ok {Z : Nat → Prop} {β : Beta} {H : Hp} {F : T V} (hS : SR p Z β H S nk) (hE : ER Z β H E F) : ∀ {l : List SRes} {ds : List DV}, resDL p E S l = some ds → allB isOneD ds = true → ∃ vs, aResL F H l = some vs ∧ All2 (RDV1 Z H β) ds vs
  | [], ds, h, _ => by obtain rfl := Option.some.inj h; exact ⟨[], rfl, trivial⟩
  | r :: l, ds, h, hf => by
    simp only [resDL] at h
    split at h
    · rename_i d q h1 h2
      obtain rfl := Option.some.inj h
      have f1 := allB_mem hf d (by simp)
      have f2 : allB isOneD q = true := by simp only [allB, f1] at hf; exact hf
      obtain ⟨v, e1, e2⟩ := resD_ok hS hE h1
      obtain ⟨vs, e3, e4⟩ := resDLO_ok hS hE h2 f2
      obtain ⟨o1, o2⟩ := one_of e2 f1
      exact ⟨v :: vs, by simp only [aResL, e1, e3, o1, if_true], o2, e4⟩
    · cases h
def onesD : DV → Bool
  | .tup l => allB isOneD l
  | _ => true
theorem resultO_ok {Z : Nat → Prop} {β : Beta} {H : Hp} {F : T V} (hS : SR p Z β H S nk) (hE : ER Z β H E F) {rs : List SRes} {d : DV} (h : resultD p E S rs = some d) (hf : onesD d = true) : ∃ v, aResult F H rs = some v ∧ RDV Z H β d v := by
  unfold resultD at h
  have one : ∀ d', resDL p E S rs = some [d'] → isOneD d' = true → ∃ v, aResult F H rs = some v ∧ RDV Z H β d' v := fun d' hd' hf' => by
    obtain ⟨vs, h1, h2⟩ := resDLO_ok hS hE hd' (by simp [allB, hf'])
    match vs, h1, h2 with
    | [v], h1, h2 => exact ⟨v, by simp only [aResult, h1], RDV.of1 h2.1⟩
  split at h
  · rename_i c hd'
    obtain rfl := Option.some.inj h
    exact one _ hd' rfl
  · rename_i l hd'
    obtain rfl := Option.some.inj h
    exact one _ hd' rfl
  · cases h
  · rename_i ds hn1 hn2 hn3 hds
    obtain rfl := Option.some.inj h
    obtain ⟨vs, h1, h2⟩ := resDLO_ok hS hE hds hf
    refine ⟨.tup vs, ?_, vs, rfl, h2⟩
    have hl := h2.len
    unfold aResult
    rw [h1]
    match vs, hl with
    | [], _ => rfl
    | [v], hl =>
      match ds, hl with
      | [.one d], _ => exact (hn1 d rfl).elim
      | [.agg d], _ => exact (hn2 d rfl).elim
      | [.tup d], _ => exact (hn3 d rfl).elim
    | _ :: _ :: _, _ => rfl
  · cases h
end
def retO (p : Par) (rs : List SRes) (R : DV → Bx → Nat → Prop) : Exit → DEnv → Bx → Nat → Prop
  | .normal, E, S, nk => ∃ d, resultD p E S rs = some d ∧ onesD d = true ∧ ∃ S0, SubA S0 S ∧ R d S0 nk
  | .ret, E, S, nk => ∃ d, resultD p E S rs = some d ∧ onesD d = true ∧ ∃ S0, SubA S0 S ∧ R d S0 nk
  | _, _, _, _ => False
/-- A FUNCTION'S CONTRACT -/
theorem dfnO_ok {P : Program} {G : Nat} {GH : Hp} {f : FuncId} {sf : SFn} (hf : cpFn P G f = some sf) {ds : List DV} {R : DV → Bx → Nat → Prop} (hn : Nat.ble ds.length sf.n = true) (hG : ∀ b bk, GH.get b = some bk → bk.ro = some bk) (h : ∀ Z0 lo, DPS (Par.base P G GH Z0 lo) sf.n sf.code (retO (Par.base P G GH Z0 lo) sf.res R) (argsD ds 0) [] 0) : DCallsO P G GH f ds R := by
  intro H Z args hw hz hg ha
  have hro : ACalls P G f args H.ro fun v H1 => ∃ d S' nk' Z' β', SR (Par.base P G GH Z H.nx) Z' β' H1 S' nk' ∧ RDV Z' H1 β' d v ∧ R d S' nk' := by
    have hwr : WF H.ro := fun b bk hb => by
      rw [Hp.get_ro, Option.bind_eq_some_iff] at hb
      obtain ⟨x, hx, _⟩ := hb
      exact hw b x hx
    refine (fn_ok hf (by rw [← ha.len]; exact Nat.le_of_ble_eq_true hn) ?_)
    have hS : SR (Par.base P G GH Z H.nx) Z nob H.ro [] 0 := ⟨hwr, Nat.le_refl _, hz, fun b hb => .inl hb, fun b hb => hb, fun b bk hb => (by rcases hb with hb | ⟨_, hb⟩; exact ⟨(hg b bk hb).1, by rw [Hp.get_ro, (hg b bk hb).2]; exact hG b bk hb⟩; cases hb), fun _ _ => rfl, fun _ _ _ hk => (by cases hk), fun κ x hk => (by obtain ⟨y, hy⟩ := lk2_lk hk; cases hy), fun _ _ _ _ _ _ _ hk => (by cases hk), fun _ _ _ hk => (by cases hk), fun _ _ _ => rfl, Nat.le_refl _⟩
    have hE : ER Z nob H.ro (argsD ds 0) (initF args 0) := argsD_ok 0 (ha.mono fun _ _ hr => RDV.mono (ZLe.of_le (fun _ h => h) (Le.ro H)) (BLe.refl nob) hr)
    refine swp_mono ((h Z H.nx).run Z nob H.ro _ hS hE) fun e F' H' ⟨E', S', nk', Z', β', h1, h2, h3⟩ => ?_
    have fin : (∃ d, resultD (Par.base P G GH Z H.nx) E' S' sf.res = some d ∧ onesD d = true ∧ ∃ S0, SubA S0 S' ∧ R d S0 nk') → ∃ v, aResult F' H' sf.res = some v ∧ ∃ d S' nk' Z' β', SR (Par.base P G GH Z H.nx) Z' β' H' S' nk' ∧ RDV Z' H' β' d v ∧ R d S' nk' := fun ⟨d, hd, hfr, S0, hsub, hR⟩ => by
      obtain ⟨v, hv, hr⟩ := resultO_ok h1 h2 hd hfr
      exact ⟨v, hv, d, S0, nk', Z', β', h1.keepS hsub, hr, hR⟩
    cases e with
    | normal => obtain ⟨v, hv, hr⟩ := fin h3; simp only [retQ, hv]; exact hr
    | ret => obtain ⟨v, hv, hr⟩ := fin h3; simp only [retQ, hv]; exact hr
    | _ => exact h3.elim
  refine (ACalls.none (ACalls.wf (ACalls.grow hro))).mono ?_
  rintro v H' ⟨⟨⟨H1, ⟨d, S', nk', Z', β', hS1, hr, hR⟩, e1, e2, e3, e4, e5⟩, hw'⟩, hno⟩
  have hnx : H'.nx = H1.nx := by rw [e1]; rfl
  have hold : ∀ b, b < H.nx → H'.get b = H.get b := fun b hb => by
    cases hgb : H.get b with
    | none => exact hno b hb hgb
    | some bk => exact e3 b bk hgb
  have hZ : ZLe Z' H1 Z' H' := ZLe.of_le (fun _ h => h) e5
  refine ⟨by omega, hold, d, S', nk', Z', β', ⟨hw', by simp only; omega, fun b hb => by rw [hnx]; exact hS1.z b hb, hS1.zlo, hS1.zz, fun b bk hb => ⟨(hS1.glob b bk hb).1, ?_⟩, hS1.nk, fun κ b N hκ => by rw [hnx]; exact hS1.bd κ b N hκ, fun κ x hκ => ?_, hS1.inj, hS1.blo, hS1.anch, hS1.ancn⟩, hr.mono hZ (BLe.refl β'), hR⟩
  · rcases hb with hb | ⟨_, hb⟩
    · rw [hold b (hz b (hg b bk hb).1)]; exact (hg b bk hb).2
    · cases hb
  · obtain ⟨s, hs, hbx⟩ := hS1.box κ x hκ
    refine ⟨s, hs, ?_⟩
    cases s with
    | nil => exact hbx
    | blk b N =>
      obtain ⟨h1, h2, h3, cs, rest, h4, h5, h6⟩ := hbx
      exact ⟨h1, h2, by omega, cs, rest, h4.same (e4 b h2), h5, Bk.rel_mono hZ (BLe.refl _) h6⟩

/-- names are raised by n -/
def shP (n : Nat) : List (Nat × Nat) → List (Nat × Nat)
  | [] => []
  | (k, o) :: r => (k + n, o) :: shP n r
def shC (n : Nat) : DC → DC
  | .ptr k o => .ptr (k + n) o
  | .own k o m e => .own (k + n) o m e
  | .tptr k i o => .tptr (k + n) i o
  | .trow k i o m => .trow (k + n) i o m
  | .fn f l => .fn f (shP n l)
  | .om k => .om (k + n)
  | d => d
def shD : Nat → DV → DV
  | n, .one d => .one (shC n d)
  | n, .agg l => .agg (l.map (shC n))
  | _, .tup l => .tup l
def shV (n : Nat) : DV → DV
  | .one d => .one (shC n d)
  | .agg l => .agg (l.map (shC n))
  | .tup l => .tup (l.map (shD n))
def shB (n : Nat) : Bk → Bk
  | .cells l => .cells (l.map (shC n))
  | .data l => .data l
  | .tree l => .tree l
  | .mp ks l => .mp ks (l.map (shC n))
  | .mt es => .mt (mtMap (shC n) es)
theorem shB_shape (n : Nat) (x : Bk) : (shB n x).shape = x.shape := by cases x <;> rfl
def shS (n : Nat) : Bx → Bx → Bx
  | [], T => T
  | (k, x) :: r, T => (k + n, shB n x) :: shS n r T
section
variable {Z : Nat → Prop} {H : Hp} {β β' : Beta} {n : Nat}
theorem shP_ok (hβ : ∀ k i, β' (k + n, i) = β (k, i)) : ∀ {l l' : List (Nat × Nat)}, capsR β l l' → capsR β' (shP n l) l'
  | [], [], _ => trivial
  | (_, _) :: _, (_, _) :: _, h => ⟨h.1, by obtain ⟨N, hN⟩ := h.2.1; exact ⟨N, by rw [hβ]; exact hN⟩, shP_ok hβ h.2.2⟩
  | [], _ :: _, h => h.elim
  | (_, _) :: _, [], h => h.elim
theorem shC_ok (hβ : ∀ k i, β' (k + n, i) = β (k, i)) {d : DC} {c : C} (h : RD Z H β d c) : RD Z H β' (shC n d) c := by
  cases d with
  | ptr k o => obtain ⟨b, N, h1, h2⟩ := h; exact ⟨b, N, by rw [hβ]; exact h1, h2⟩
  | tptr k i o => obtain ⟨b, N, h1, h2⟩ := h; exact ⟨b, N, by rw [hβ]; exact h1, h2⟩
  | own k o m e =>
    rcases h with ⟨h1, h2⟩ | ⟨b, N, cap, ex, h1, h2⟩
    · exact .inl ⟨by rw [hβ]; exact h1, h2⟩
    · exact .inr ⟨b, N, cap, ex, by rw [hβ]; exact h1, h2⟩
  | trow k i o m =>
    rcases h with ⟨h1, h2⟩ | ⟨b, N, cap, ex, h1, h2⟩
    · exact .inl ⟨by rw [hβ]; exact h1, h2⟩
    · exact .inr ⟨b, N, cap, ex, by rw [hβ]; exact h1, h2⟩
  | fn f l => obtain ⟨l', h1, h2⟩ := h; exact ⟨l', h1, shP_ok hβ h2⟩
  | f d => exact h
  | g b o => exact h
  | fptr l => exact h
  | any => trivial
  | om k => obtain ⟨b, N, h1, h2⟩ := h; exact ⟨b, N, by rw [hβ]; exact h1, h2⟩
theorem shL_ok (hβ : ∀ k i, β' (k + n, i) = β (k, i)) : ∀ {l : List DC} {cs : List C}, All2 (RD Z H β) l cs → All2 (RD Z H β') (l.map (shC n)) cs
  | [], [], _ => trivial
  | _ :: _, _ :: _, h => ⟨shC_ok hβ h.1, shL_ok hβ h.2⟩
  | [], _ :: _, h => h.elim
  | _ :: _, [], h => h.elim
theorem shD_ok (hβ : ∀ k i, β' (k + n, i) = β (k, i)) {d : DV} {v : V} (h : RDV1 Z H β d v) : RDV1 Z H β' (shD n d) v := by
  cases d with
  | one d => obtain ⟨c, rfl, h⟩ := h; exact ⟨c, rfl, shC_ok hβ h⟩
  | agg l => obtain ⟨c, rfl, h⟩ := h; exact ⟨c, rfl, shL_ok hβ h⟩
  | tup l => exact h.elim
theorem shV_ok (hβ : ∀ k i, β' (k + n, i) = β (k, i)) {d : DV} {v : V} (h : RDV Z H β d v) : RDV Z H β' (shV n d) v := by
  cases d with
  | one d => obtain ⟨c, rfl, h⟩ := h; exact ⟨c, rfl, shC_ok hβ h⟩
  | agg l => obtain ⟨c, rfl, h⟩ := h; exact ⟨c, rfl, shL_ok hβ h⟩
  | tup l =>
    obtain ⟨c, rfl, h⟩ := h
    refine ⟨c, rfl, ?_⟩
    have key : ∀ {l : List DV} {cs : List V}, All2 (RDV1 Z H β) l cs → All2 (RDV1 Z H β') (l.map (shD n)) cs := by
      intro l
      induction l with
      | nil => intro cs h; cases cs with
        | nil => trivial
        | cons _ _ => exact h.elim
      | cons d l ih => intro cs h; cases cs with
        | nil => exact h.elim
        | cons c cs => exact ⟨shD_ok hβ h.1, ih h.2⟩
    exact key h
theorem shRows (k : Nat) : ∀ (i : Nat) (rows : List (List FD)), (rowsV k i rows).map (shC n) = rowsV (k + n) i rows
  | _, [] => rfl
  | i, r :: rs => by simp only [rowsV, List.map_cons, shRows k (i + 1) rs, shC]
end
theorem lk_shS (n : Nat) (T : Bx) (hT : ∀ k x, lk T k = some x → k < n) : ∀ (S : Bx) (k : Nat), lk (shS n S T) k = if k < n then lk T k else (lk S (k - n)).map (shB n)
  | [], k => by
    simp only [shS, lk]
    split
    · rfl
    · rename_i hk
      cases hl : lk T k with
      | none => rfl
      | some x => exact absurd (hT k x hl) hk
  | (j, x) :: S, k => by
    simp only [shS, lk_cons]
    rw [lk_shS n T hT S k]
    by_cases hk : k < n
    · rw [if_pos hk, if_pos hk, if_neg (by omega)]
    · rw [if_neg hk, if_neg hk]
      by_cases e : j + n = k
      · rw [if_pos e, if_pos (by omega)]; rfl
      · rw [if_neg e, if_neg (by omega)]
theorem lk2_shS (n : Nat) (T : Bx) (hT : ∀ k x, lk T k = some x → k < n) (S : Bx) (κ : Key) : lk2 (shS n S T) κ = if κ.1 < n then lk2 T κ else (lk2 S (κ.1 - n, κ.2)).map (shB n) := by
  obtain ⟨k, i⟩ := κ
  have hl := lk_shS n T hT S k
  by_cases hk : k < n
  · rw [if_pos hk] at hl ⊢
    exact lk2_congr hl
  · rw [if_neg hk] at hl
    simp only [if_neg hk]
    cases i with
    | zero =>
      simp only [lk2, hl]
      cases hs : lk S (k - n) with
      | none => rfl
      | some x =>
        cases x with
        | tree rows => simp only [Option.map_some, shB, shRows]; rw [Nat.sub_add_cancel (by omega)]
        | cells l => rfl
        | data l => rfl
        | mp ks l => rfl
        | mt es =>
          simp only [Option.map_some, shB]
          rw [mtV_map (shC n) (k - n) k (fun _ => rfl) (fun i m => by simp only [shC]; rw [Nat.sub_add_cancel (by omega)])]
    | succ i =>
      simp only [lk2, hl]
      cases hs : lk S (k - n) with
      | none => rfl
      | some x =>
        cases x with
        | tree rows =>
          simp only [Option.map_some, shB]
          cases rows[i]? <;> rfl
        | cells l => rfl
        | data l => rfl
        | mp ks l => rfl
        | mt es =>
          show mtRow (mtMap (shC n) es)[i]? = (mtRow es[i]?).map (shB n)
          rw [mtRow_map]
          cases hm : mtRow es[i]? with
          | none => rfl
          | some x => obtain ⟨_, r, _, rfl⟩ := mtRow_at hm; rfl
section
variable {p : Par} {base rs : Nat} {Q : DEnv → Bx → Nat → Prop} {r : List SOper} {W : Wt} {A : List Nat} {E : DEnv} {S : Bx} {nk : Nat} {id : Nat} {dst : Option Nat} {aid : Option Nat} {ws : List Nat} {keep : Bool}
theorem dw_cfr {f : FuncId} {args : List Opd} {ds : List DV} {R : DV → Bx → Nat → Prop} (hvs : ros E args = some ds) (hf : allB frV ds = true) (hc : DCallsO p.P p.G p.GH f ds R) (h : ∀ d S' nk', R d S' nk' → DPW p base rs Q r W A (setD E dst (shV nk d)) (shS nk S' S) (nk' + nk)) : DPW p base rs Q (⟨id, dst, .cf f args, none, aid, ws, keep⟩ :: r) W A E S nk := .mk fun Z β H F c hS hE hC hA => by
  simp only [wOps, wantedA, if_true]
  refine (hc H Z _ hS.wf hS.z (fun b bk hb => hS.glob b bk (.inl hb)) (frVL_ok hf (ros_ok hE hvs))).mono ?_
  rintro v H' ⟨hnx, hg, d, S', nk', Z', β', hS', hr, hR⟩
  have hz1 : ∀ b, Z b → Z' b := hS'.zz
  have hz2 : ∀ b, Z' b → b < H.nx → Z b := fun b hb hl => (hS'.zlo b hb).elim (fun h => h) fun h => by simp only at h; omega
  have hZ : ZLe Z H Z' H' := ZLe.of_get hz1 fun b hb => hg b (hS.z b hb)
  let β'' : Beta := fun κ => if κ.1 < nk then β κ else β' (κ.1 - nk, κ.2)
  have hβ : ∀ k i, β'' (k + nk, i) = β' (k, i) := fun k i => by simp only [β'', if_neg (show ¬ k + nk < nk by omega), Nat.add_sub_cancel]
  have hlo : ∀ κ, κ.1 < nk → β'' κ = β κ := fun κ h => by simp [β'', h]
  have hhi : ∀ κ : Key, ¬ κ.1 < nk → β'' κ = β' (κ.1 - nk, κ.2) := fun κ h => by simp [β'', h]
  have hB : BLe β β'' := fun κ s hκ => by rw [hlo κ (hS.lt1 hκ)]; exact hκ
  have hT : ∀ k x, lk S k = some x → k < nk := fun k x hk => hS.lt hk
  have hnew : ∀ (κ : Key) x b N, lk S' κ.1 = some x → β' κ = some (.blk b N) → (∃ y, lk2 S' κ = some y) → H.nx ≤ b := fun κ x b N _ hb ⟨y, hy⟩ => hS'.lo2 hy hb
  have hSS : SR p Z' β'' H' (shS nk S' S) (nk' + nk) := by
    refine ⟨hS'.wf, Nat.le_trans hS.lo hnx, hS'.z, fun b hb => ?_, fun b hb => hz1 b (hS.zz b hb), fun b bk hb => ?_, fun κ hκ => ?_, fun κ b N hκ => ?_, fun κ x hκ => ?_, fun κ κ' x x' b N N' hκ hκ' h1 h2 => ?_, fun κ b N hκ => ?_, fun κ hκ h0 => by rw [hlo κ (Nat.lt_of_lt_of_le hκ hS.ancn)]; exact hS.anch κ hκ h0, by have := hS.ancn; omega⟩
    · rcases hS'.zlo b hb with h | h
      · exact hS.zlo b h
      · exact .inr (Nat.le_trans hS.lo h)
    · obtain ⟨h1, h2⟩ := hS.glob b bk hb
      exact ⟨hz1 b h1, by rw [hg b (hS.z b h1)]; exact h2⟩
    · rw [hhi κ (by omega)]; exact hS'.nk _ (by simp only; omega)
    · by_cases hk : κ.1 < nk
      · rw [hlo κ hk] at hκ; exact Nat.lt_of_lt_of_le (hS.bd κ b N hκ) hnx
      · rw [hhi κ hk] at hκ; exact hS'.bd _ b N hκ
    · rw [lk2_shS nk S hT] at hκ
      by_cases hk : κ.1 < nk
      · rw [if_pos hk] at hκ
        obtain ⟨s, hs, hbx⟩ := hS.box κ x hκ
        refine ⟨s, hB κ s hs, ?_⟩
        cases s with
        | nil => exact hbx
        | blk b N =>
          obtain ⟨g1, g2, g3, cs, rest, g4, g5, g6⟩ := hbx
          exact ⟨fun h => g1 (hz2 b h g3), g2, by omega, cs, rest, g4.same (hg b g3), g5, Bk.rel_mono hZ hB g6⟩
      · rw [if_neg hk] at hκ
        cases hs : lk2 S' (κ.1 - nk, κ.2) with
        | none => rw [hs] at hκ; cases hκ
        | some y =>
          rw [hs] at hκ
          obtain rfl := Option.some.inj hκ
          obtain ⟨s, hs', hbx⟩ := hS'.box _ y hs
          refine ⟨s, by rw [hhi κ hk]; exact hs', ?_⟩
          cases s with
          | nil => cases y <;> simpa [BoxR, shB, Bk.len, mtMap] using hbx
          | blk b N =>
            obtain ⟨g1, g2, g3, cs, rest, g4, g5, g6⟩ := hbx
            refine ⟨g1, Nat.le_trans hS.lo g2, g3, cs, rest, by rw [shB_shape]; exact g4, by rw [shB_shape]; exact g5, ?_⟩
            cases y with
            | cells l => exact shL_ok hβ g6
            | data l => exact g6
            | tree l => exact g6.elim
            | mp ks l => exact shL_ok hβ g6
            | mt es => exact g6.elim
    · rw [lk_shS nk S hT] at hκ hκ'
      by_cases hk : κ.1 < nk
      · rw [if_pos hk] at hκ
        rw [hlo κ hk] at h1
        by_cases hk' : κ'.1 < nk
        · rw [if_pos hk'] at hκ'
          rw [hlo κ' hk'] at h2
          exact hS.inj κ κ' x x' b N N' hκ hκ' h1 h2
        · rw [hhi κ' hk'] at h2
          exact absurd (hS'.blo _ _ _ h2) fun hge => by have := hS.bd κ b N h1; simp only at hge; omega
      · rw [if_neg hk] at hκ
        rw [hhi κ hk] at h1
        by_cases hk' : κ'.1 < nk
        · rw [hlo κ' hk'] at h2
          exact absurd (hS'.blo _ _ _ h1) fun hge => by have := hS.bd κ' b N' h2; simp only at hge; omega
        · rw [if_neg hk'] at hκ'
          rw [hhi κ' hk'] at h2
          cases e1 : lk S' (κ.1 - nk) with
          | none => rw [e1] at hκ; cases hκ
          | some z1 =>
            cases e2 : lk S' (κ'.1 - nk) with
            | none => rw [e2] at hκ'; cases hκ'
            | some z2 =>
              have := hS'.inj (κ.1 - nk, κ.2) (κ'.1 - nk, κ'.2) z1 z2 b N N' e1 e2 h1 h2
              obtain ⟨q1, q2⟩ := Prod.mk.inj this
              obtain ⟨a, i⟩ := κ
              obtain ⟨a', i'⟩ := κ'
              simp only at hk hk' q1 q2
              rw [q2, show a = a' by omega]
    · by_cases hk : κ.1 < nk
      · rw [hlo κ hk] at hκ; exact hS.blo κ b N hκ
      · rw [hhi κ hk] at hκ; exact Nat.le_trans hS.lo (hS'.blo _ b N hκ)
  have hC' := hC.same hZ hB hg hS.wf
  refine ⟨hC'.watch ws, (h d S' nk' hR).run _ β'' H' _ c hSS ((hE.mono hZ hB).set dst (shV_ok hβ hr)) hC' ⟨hA.1, fun j hj hjA => ?_⟩⟩
  obtain ⟨h1, h2, h3, h4⟩ := hA.2 j hj hjA
  refine ⟨by omega, by rw [hg _ h1]; exact h2, fun h => h3 (hz2 _ h h1), fun κ N hκ => ?_⟩
  by_cases hk : κ.1 < nk
  · rw [hlo κ hk] at hκ; exact h4 κ N hκ
  · rw [hhi κ hk] at hκ
    have := hS'.blo _ _ _ hκ
    simp only at this; omega
end
end Go.Ab

/- Sorting in place: worlds and heaps. -/
namespace Go.Ab
open Go.Sort Go.Proofs

section
variable {P : Program} {G : Nat} {μ μ' : Nat → Pl} {K K' : Nat → Prop} {H H' : Hp} {w w' : World}

theorem Rel.congr (hR : Rel G μ K H w) (h : ∀ b bk, H.get b = some bk → w'.heap[(μ b).blk]? = w.heap[(μ b).blk]?) : Rel G μ K H w' :=
  ⟨hR.dom, hR.lt, fun b bk hb => by rw [h b bk hb]; exact hR.blk b bk hb, hR.inj, hR.glob⟩
/-- a call that changes nothing: the world has grown -/
theorem Fr.quiet (h : Fr μ K H w μ' K' H' w') (hno : ∀ b bk, H.get b = some bk → bk.mut = false) : ∃ q os', w' = Go.Sort.grow (w.drewN q) os' := by
  refine ⟨w'.drawn - w.drawn, w'.heap.extract w.heap.size w'.heap.size, ?_⟩
  have hheap : w'.heap = w.heap ++ w'.heap.extract w.heap.size w'.heap.size := by
    apply Array.ext_getElem?
    intro i
    by_cases hi : i < w.heap.size
    · rw [Array.getElem?_append_left hi]
      exact h.keep i hi fun b bk hb hm => by rw [hno b bk hb] at hm; cases hm
    · have := h.size
      rw [Array.getElem?_append_right (by omega)]
      by_cases hj : i < w'.heap.size
      · rw [Array.getElem?_extract]
        simp
        rw [show w.heap.size + (i - w.heap.size) = i by omega]
        by_cases h2 : i - w.heap.size < w'.heap.size - w.heap.size
        · simp [h2]
        · omega
      · rw [Array.getElem?_eq_none (by omega), Array.getElem?_eq_none (by simp; omega)]
  obtain ⟨h1, h2, h3, h4⟩ := h.same
  obtain ⟨hp, tp, dr, o, ou⟩ := w
  obtain ⟨hp', tp', dr', o', ou'⟩ := w'
  simp only [Go.Sort.grow, World.drewN] at *
  subst h1 h2 h3
  rw [← hheap, show dr + (dr' - dr) = dr' by omega]
theorem ACalls.any {f : FuncId} {args : List V} {xs : List Value} {c : C} {x : Value} (h : ACalls P G f args ⟨.lf, G⟩ fun v _ => v = .one c) (hx : ∀ μ K, All2 (RV μ K) args xs) (hc : ∀ μ K y, RV μ K (.one c) y → y = x) (W : World) : Calls P f xs.toArray W fun e w' => e = .returned x ∧ ∃ q os', w' = Go.Sort.grow (W.drewN q) os' := by
  have hn : ∀ b bk, (⟨.lf, G⟩ : Hp).get b = some bk → False := fun b bk hb => by simp [Hp.get] at hb
  have hR : Rel G (fun b => ⟨b, 0, 0⟩) (fun b => b < G) ⟨.lf, G⟩ W := ⟨fun b bk hb => (hn b bk hb).elim, fun _ h => h, fun b bk hb => (hn b bk hb).elim, fun b _ bk _ hb => (hn b bk hb).elim, fun g hg => ⟨hg, rfl, rfl⟩⟩
  refine (h _ _ W xs hR (hx _ _)).mono ?_
  rintro e w' ⟨y, rfl, v, H', μ', K', rfl, hy, _, hF⟩
  exact ⟨by rw [hc _ _ y hy], hF.quiet fun b bk hb => (hn b bk hb).elim⟩

/-- a row is written, and the world has grown -/
theorem Rel.putRow (P : Program) (hR : Rel G μ K H w) {b o nb : Nat} {z : List C} {mm : T C} (hb : H.get b = some (.row nb z mm true)) {l : List C} (hst : H.stores b o l = some H') (hin : o + l.length ≤ nb) {F : Array Value} (hF : All2 (RC μ K) l F.toList) (m : Nat) (os : Array Obj) :
    Rel G μ K H' (Go.Sort.grow (Go.Sort.putRow id (Go.Sort.ahead w m) (μ b).blk ((μ b).off + o) F) os) ∧ Fr μ K H w μ K H' (Go.Sort.grow (Go.Sort.putRow id (Go.Sort.ahead w m) (μ b).blk ((μ b).off + o) F) os) := by
  obtain ⟨cs, t, fz, h1, h2, h3, h4, h5⟩ := hR.blk b _ hb
  obtain rfl := h4 rfl
  obtain ⟨w1, hrun, hR1, hF1⟩ := Rel.stores (P := P) (i := 0) (o := o) hR (by simpa using hst) hF
  have hFl : F.toList.length = l.length := hF.len.symm
  obtain ⟨w2, cs', q1, q2, q3, q4, q5, q6, q7, q8, q9, _⟩ := store_conc (P := P) (g := (μ b).blk) (t := t) (xs := F.toList) (w := w) (cs := cs) (q := (μ b).off + o) (i := 0) h1 hF.oneC (by omega)
  have hww : w1 = w2 := by
    have e : (storeCells ((μ b).addr o) F.toList 0).run P w = .ok () w2 := q1
    rw [hrun] at e
    cases e
    rfl
  subst hww
  have hcs : cs' = putCells id ((μ b).off + o) F cs := by
    apply Array.ext_getElem?
    intro j
    rw [q4 j]
    unfold putCells
    rw [Array.getElem?_mapIdx]
    have hs : F.size = F.toList.length := by simp
    split
    · rename_i hj
      have hj' : j < cs.size := by omega
      rw [Array.getElem?_eq_getElem hj']
      simp only [Option.map_some]
      rw [if_pos (by omega)]
      have hk : j - ((μ b).off + o + 0) < F.size := by omega
      rw [List.getElem?_eq_getElem (by simpa using hk)]
      simp only [Nat.add_zero] at hk ⊢
      simp [getElem!_pos, hk]
    · rename_i hj
      cases hcj : cs[j]? with
      | none => rfl
      | some y =>
        simp only [Option.map_some]
        rw [if_neg (by omega)]
  have key : ∀ i, i < w.heap.size → (Go.Sort.grow (Go.Sort.putRow id (Go.Sort.ahead w m) (μ b).blk ((μ b).off + o) F) os).heap[i]? = w1.heap[i]? := fun i hi => by
    have hsz : (Go.Sort.putRow id (Go.Sort.ahead w m) (μ b).blk ((μ b).off + o) F).heap.size = w.heap.size := by simp [Go.Sort.ahead]
    unfold Go.Sort.grow
    simp only
    rw [Array.getElem?_append_left (by rw [hsz]; exact hi)]
    unfold Go.Sort.putRow mapBlock
    simp only [Go.Sort.ahead]
    rw [Array.getElem?_modify]
    by_cases e : (μ b).blk = i
    · subst e
      rw [if_pos rfl, h1, q2, hcs]
      rfl
    · rw [if_neg e, q5 i (fun h => e h.symm)]
  have hsize : (Go.Sort.grow (Go.Sort.putRow id (Go.Sort.ahead w m) (μ b).blk ((μ b).off + o) F) os).heap.size = w.heap.size + os.size := by simp [Go.Sort.grow, Go.Sort.ahead]
  refine ⟨hR1.congr fun b' bk' hb' => key _ (by have := hR1.blk_lt hb'; omega), ?_⟩
  exact ⟨⟨rfl, rfl, rfl, by simp [Go.Sort.grow, Go.Sort.ahead]⟩, by omega, fun i hi hn => (key i hi).trans (hF1.keep i hi hn), hF1.img, hF1.newmut, hF1.mu, hF1.kk, hF1.knew, hF1.nx, hF1.none, hF1.stay, hF1.ro⟩
end
end Go.Ab

/- The comparison of points by rows, and what sorting by it comes to. -/
namespace Go.Ab.Fn
open Go.Ab Go.Proofs
set_option linter.unusedSimpArgs false

def cmpP (a b : Pt2) : Int := if before a b = true then -1 else if a = b then 0 else 1
theorem noro : ∀ b bk, (⟨.lf, 1⟩ : Hp).get b = some bk → bk.ro = some bk := fun b bk h => by simp [Hp.get] at h
theorem d_compare {a b : Pt2} {GH : Hp} (hG : ∀ b bk, GH.get b = some bk → bk.ro = some bk) : DCalls Tryd.prog 1 GH 48 [ptD a, ptD b] fun d => d = .int (cmpP a b) := by
  refine dfn_ok cp48 rfl hG fun Z0 lo => ?_
  by_cases h1 : a.2 < b.2
  · have g1 : decide (a.2 < b.2) = true := by simpa using h1
    repeat (first | refine dw_skip rfl rfl ?_ | refine dw_skipU rfl ?_ | refine dw_pickT rfl rfl ?_ | refine dw_pB rfl (by assumption) ?_ | refine dw_p rfl ?_ | refine dw_l rfl ?_ | refine dw_a rfl ?_ | refine dw_nil ?_ | refine ds_seq ?_ | refine ds_ops mix (fun base => ?_) | refine ds_block ?_)
    refine ds_if rfl (fun ht => ?_) (fun ht => by cases ht)
    repeat (first | refine dw_p rfl ?_ | refine dw_nil ?_ | refine ds_seq ?_ | refine ds_ops mix (fun base => ?_))
    exact ds_ret ⟨_, rfl, rfl, by simp [cmpP, before, h1]⟩
  · have g1 : decide (a.2 < b.2) = false := by simpa using h1
    by_cases h2 : a.2 = b.2
    · have g2 : (a.2 == b.2) = true := by simpa using h2
      repeat (first | refine dw_want rfl rfl ?_ | refine dw_pickT rfl rfl ?_ | refine dw_pickF rfl rfl ?_ | refine dw_pB rfl (by assumption) ?_ | refine dw_p rfl ?_ | refine dw_l rfl ?_ | refine dw_a rfl ?_ | refine dw_nil ?_ | refine ds_seq ?_ | refine ds_ops mix (fun base => ?_) | refine ds_block ?_)
      refine ds_if rfl (fun ht => ?_) (fun ht => ?_)
      · repeat (first | refine dw_p rfl ?_ | refine dw_nil ?_ | refine ds_seq ?_ | refine ds_ops mix (fun base => ?_))
        have h3 : a.1 < b.1 := by simpa using ht
        exact ds_ret ⟨_, rfl, rfl, by simp [cmpP, before, h1, h2, h3]⟩
      · have h3 : ¬ a.1 < b.1 := by simpa using ht
        repeat (first | refine dw_l rfl ?_ | refine ds_seq ?_ | refine ds_ops mix (fun base => ?_))
        refine dw_p (d_eqpt (p := a) (q := b) rfl rfl) ?_
        repeat (first | refine dw_p rfl ?_ | refine dw_nil ?_)
        refine ds_if rfl (fun he => ?_) (fun he => ?_)
        · have h4 : a = b := by simpa using he
          subst h4
          repeat (first | refine dw_p rfl ?_ | refine dw_nil ?_ | refine ds_seq ?_ | refine ds_ops mix (fun base => ?_))
          exact ds_ret ⟨_, rfl, rfl, by simp [cmpP, before]⟩
        · have h4 : ¬ a = b := by simpa using he
          repeat (first | refine dw_p rfl ?_ | refine dw_nil ?_ | refine ds_seq ?_ | refine ds_ops mix (fun base => ?_) | refine ds_skip ?_)
          exact ds_ret ⟨_, rfl, rfl, by simp [cmpP, before, h1, h2, h3, h4]⟩
    · have g2 : (a.2 == b.2) = false := by simpa using h2
      repeat (first | refine dw_want rfl rfl ?_ | refine dw_skip rfl rfl ?_ | refine dw_pickF rfl rfl ?_ | refine dw_pB rfl (by assumption) ?_ | refine dw_p rfl ?_ | refine dw_l rfl ?_ | refine dw_a rfl ?_ | refine dw_nil ?_ | refine ds_seq ?_ | refine ds_ops mix (fun base => ?_) | refine ds_block ?_)
      refine ds_if rfl (fun ht => by cases ht) (fun _ => ?_)
      repeat (first | refine dw_l rfl ?_ | refine ds_seq ?_ | refine ds_ops mix (fun base => ?_))
      refine dw_p (d_eqpt (p := a) (q := b) rfl rfl) ?_
      repeat (first | refine dw_p rfl ?_ | refine dw_nil ?_)
      have h4 : ¬ a = b := fun e => h2 (by rw [e])
      refine ds_if rfl (fun he => absurd (by simpa using he) h4) (fun he => ?_)
      repeat (first | refine dw_p rfl ?_ | refine dw_nil ?_ | refine ds_seq ?_ | refine ds_ops mix (fun base => ?_) | refine ds_skip ?_)
      exact ds_ret ⟨_, rfl, rfl, by simp [cmpP, before, h1, h2, h4]⟩

open Go.Shelf Go.RowKit Go.Lib Go.Sort
def encPt (p : Pt2) : List Value := [.int .i64 p.1, .int .i64 p.2]
theorem cmp_calls (x y : Pt2) (W : World) : Calls Tryd.prog 48 #[.agg (encPt x).toArray, .agg (encPt y).toArray] W fun e w' => e = .returned (.int .i64 (cmpP x y)) ∧ ∃ q os', w' = Go.Sort.grow (W.drewN q) os' := by
  have h : ACalls Tryd.prog 1 48 [.agg (ptC x), .agg (ptC y)] ⟨.lf, 1⟩ fun v _ => v = .one (.int .i64 (cmpP x y)) := by
    have := d_compare (a := x) (b := y) noro ⟨.lf, 1⟩ (fun _ => False) [.agg (ptC x), .agg (ptC y)] (fun b bk h => by simp [Hp.get] at h) (fun _ h => h.elim) (fun b bk h => by simp [Hp.get] at h) ⟨⟨_, rfl, .c _ rfl, .c _ rfl, trivial⟩, ⟨_, rfl, .c _ rfl, .c _ rfl, trivial⟩, trivial⟩
    refine this.mono ?_
    rintro v H' ⟨_, _, _, d, hr, rfl⟩
    obtain ⟨c, rfl, hr⟩ := hr
    cases hr
    rfl
  exact ACalls.any (xs := [.agg (encPt x).toArray, .agg (encPt y).toArray]) h (fun μ K => ⟨⟨_, rfl, rfl, rfl, trivial⟩, ⟨_, rfl, rfl, rfl, trivial⟩, trivial⟩) (fun μ K y hy => hy) W
theorem sb_irrefl (x : Pt2) : before x x = false := by simp [before]
theorem sb_iff (x y : Pt2) : before x y = true ↔ x.2 < y.2 ∨ (x.2 = y.2 ∧ x.1 < y.1) := by
  unfold before
  by_cases h1 : x.2 < y.2
  · simp [h1]
  · by_cases h2 : x.2 = y.2
    · simp [h2]
    · simp [h1, h2]
theorem ltcmp (x y : Pt2) : ltOf cmpP x y = before x y := by
  unfold ltOf cmpP
  cases h : before x y with
  | true => simp
  | false =>
    simp only [Bool.false_eq_true, if_false]
    split <;> simp
theorem swo : SWO (ltOf cmpP) where
  irrefl x := by rw [ltcmp, sb_irrefl]
  trans x y z h1 h2 := by rw [ltcmp, sb_iff] at *; omega
  ntrans x y z h1 h2 := by
    rw [ltcmp, ← Bool.not_eq_true, sb_iff] at *; omega
theorem encPt_at : ∀ (l : List Pt2) (j : Nat), j < l.length * 2 → (l.flatMap encPt)[j]? = some (encPt (l[j / 2]!))[j % 2]!
  | [], j, h => by simp at h
  | x :: l, 0, h => rfl
  | x :: l, 1, h => rfl
  | x :: l, j + 2, h => by
    have := encPt_at l j (by simp at h; omega)
    rw [show (j + 2) / 2 = j / 2 + 1 by omega, show (j + 2) % 2 = j % 2 by omega]
    simpa [encPt] using this
theorem flat_eq (l : List Pt2) : (flatK encPt 2 l.toArray).toList = l.flatMap encPt := by
  apply List.ext_getElem?
  intro j
  by_cases hj : j < l.length * 2
  · rw [encPt_at l j hj]
    have h1 : j < (flatK encPt 2 l.toArray).size := by simpa using hj
    rw [List.getElem?_eq_getElem (by simpa using h1)]
    have := get_flatK encPt 2 l.toArray j (by simpa using hj)
    rw [getElem!_pos _ j h1] at this
    simp only [Array.getElem_toList]
    rw [this]
    simp
  · rw [List.getElem?_eq_none (by simp; omega), List.getElem?_eq_none]
    have : ∀ m : List Pt2, (m.flatMap encPt).length = m.length * 2 := by
      intro m
      induction m with
      | nil => rfl
      | cons x m ih => show (encPt x ++ m.flatMap encPt).length = _; rw [List.length_append, ih]; simp [encPt]; omega
    rw [this]; omega
theorem all_enc {μ : Nat → Pl} {K : Nat → Prop} : ∀ l : List Pt2, All2 (RC μ K) (ptsC l) (l.flatMap encPt)
  | [] => trivial
  | x :: l => ⟨rfl, rfl, all_enc l⟩
def SortedP (l : List Pt2) : Prop := ∀ (i j : Nat) (x y : Pt2), l[i]? = some x → l[j]? = some y → i < j → before y x = false
theorem ptsC_len (l : List Pt2) : (ptsC l).length = l.length * 2 := by
  induction l with
  | nil => rfl
  | cons x l ih => show (ptC x ++ ptsC l).length = _; rw [List.length_append, ih]; simp [ptC]; omega
theorem ptsC_at : ∀ (l : List Pt2) (j : Nat), j < l.length * 2 → ∃ n : Int, (ptsC l)[j]? = some (.int .i64 n) ∧ (l.flatMap encPt)[j]? = some (.int .i64 n)
  | [], j, h => by simp at h
  | x :: l, 0, h => ⟨x.1, rfl, rfl⟩
  | x :: l, 1, h => ⟨x.2, rfl, rfl⟩
  | x :: l, j + 2, h => by
    obtain ⟨n, h1, h2⟩ := ptsC_at l j (by simp at h; omega)
    exact ⟨n, by simpa [ptsC, ptC] using h1, by simpa [encPt] using h2⟩
theorem sort_ok {H : Hp} {l : List Pt2} {b o cap nb : Nat} {ex : Bool} {z : List C} {mm : T C} (hb : H.get b = some (.row nb z mm true)) (hin : o + l.length * 2 ≤ nb) (hld : H.loads b o (l.length * 2) = some (ptsC l)) (hpos : 0 < l.length) (hsz : l.length < 4611686018427387904) (hall : ∃ cells, Row H b cells) :
    ACalls Tryd.prog 1 47 [.one (.slc b o l.length cap 2 ex), .one (.fn 48 [])] H fun v H' => v = .tup [] ∧ ∃ l' : List Pt2, l'.Perm l ∧ SortedP l' ∧ H.stores b o (ptsC l') = some H' := by
  intro μ K w xs hR ha
  match xs, ha with
  | [x1, x2], ⟨⟨hK, a, c, h1, h2, h3, h4, h5⟩, ⟨_, h6⟩, _⟩ =>
    subst h1 h6
    rcases h5 with h5 | ⟨rfl, h5⟩
    · omega
    · obtain ⟨cs, t, fz, e1, e2, e3, e4, e5⟩ := hR.blk b _ hb
      obtain rfl := e4 rfl
      have hblk : (μ b).blk < w.heap.size := hR.blk_lt hb
      have hH : HoldsK encPt 2 w (μ b).blk ((μ b).off + o) l.toArray := by
        intro j hj
        have hj' : j < l.length * 2 := by simpa using hj
        obtain ⟨n, g1, g2⟩ := ptsC_at l j hj'
        have hcell : H.cell b (o + j) = some (.int .i64 n) := by rw [← g1]; exact loads_cell hld hj'
        have hcell' : (B.row nb z mm true).cell (o + j) = some (.int .i64 n) := by simpa [Hp.cell, hb] using hcell
        obtain ⟨x, k1, k2⟩ := e5 _ _ hcell'
        have k2 : x = .int .i64 n := k2
        subst k2
        refine ⟨?_, by simp [World.frozen?, e1]⟩
        have hf : (flatK encPt 2 l.toArray)[j]! = .int .i64 n := by
          have h7 : (flatK encPt 2 l.toArray).toList[j]? = some (.int .i64 n) := by rw [flat_eq]; exact g2
          rw [getElem!_pos _ j hj]
          have := List.getElem?_eq_some_iff.1 h7
          obtain ⟨_, this⟩ := this
          simpa using this
        rw [hf]
        simp only [World.cell?, e1]
        simpa [Nat.add_assoc] using k1
      have eg : ∀ args w, (callFunc 48 args).run Tryd.prog w = .ok (.enter 48 args) w := enters_of Tryd.func48 (by kernel_rfl) rfl
      have hcon := AnyQ.slices_SortFunc Tryd.sortPt 2 Tryd.isAgg35 Tryd.sizeOf35 encPt (fun _ => rfl) (fun x v hv => by simp [encPt] at hv; rcases hv with rfl | rfl <;> rfl) cmpP swo 48 #[] (μ b).blk ((μ b).off + o) c l.toArray w eg (fun _ _ _ _ x y => cmp_calls x y _) hH hblk (by simpa using hsz)
      have hcon' : Calls Tryd.prog 47 #[.slice (some ((μ b).addr o)) l.length c, .func (.func 48) #[] #[]] w _ := hcon
      refine hcon'.mono ?_
      rintro e w' ⟨rfl, d', m, os, hp, hs, rfl⟩
      obtain ⟨p1, p2, p3⟩ := hp
      simp only [List.size_toArray] at p1
      have hperm : d'.toList.Perm l := by
        have e1 : (d'.extract 0 l.toArray.size).toList = d'.toList := by
          rw [show l.toArray.size = d'.size by simp [p1]]; simp
        have e2 : (l.toArray.extract 0 l.toArray.size).toList = l := by simp
        rw [e1, e2] at p3
        exact p3
      have hlen : d'.toList.length = l.length := hperm.length_eq
      obtain ⟨cells, hrow⟩ := hall
      have hcl : cells.length = nb := by
        obtain ⟨⟨z', m', hz⟩, _⟩ := hrow
        rw [hb] at hz
        exact (B.row.inj (Option.some.inj hz)).1.symm
      obtain ⟨H', s1, s2, s3, s4⟩ := hrow.stores (cs := ptsC d'.toList) (i := o) (by rw [ptsC_len, hlen]; omega)
      have hput := Rel.putRow Tryd.prog hR hb s1 (by rw [ptsC_len, hlen]; exact hin) (F := flatK encPt 2 d') (by
        have : (flatK encPt 2 d').toList = d'.toList.flatMap encPt := by
          have := flat_eq d'.toList
          simpa using this
        rw [this]; exact all_enc _) m os
      refine ⟨_, rfl, .tup [], H', μ, K, ⟨rfl, d'.toList, hperm, ?_, s1⟩, ⟨[], rfl, trivial⟩, hput.1, hput.2⟩
      intro i j x y hi hj hij
      have hji : j < d'.size := by simpa using (List.getElem?_eq_some_iff.1 hj).1
      have := hs i j (Nat.zero_le _) hij (by simp [← p1]; exact hji)
      rw [ltcmp] at this
      have ex1 : d'[i]! = x := by
        rw [getElem!_pos _ i (by omega)]
        have := (List.getElem?_eq_some_iff.1 hi).2
        simpa using this
      have ey1 : d'[j]! = y := by
        rw [getElem!_pos _ j hji]
        have := (List.getElem?_eq_some_iff.1 hj).2
        simpa using this
      rw [ex1, ey1] at this
      exact this
end Go.Ab.Fn

/- Calls that change boxes of their caller. -/
namespace Go.Ab

/-- names of whole boxes keep their meaning -/
def BLe0 (β β' : Beta) : Prop := ∀ k s, β (k, 0) = some s → β' (k, 0) = some s
def noTC : DC → Bool
  | .trow _ _ _ _ => false
  | .tptr _ _ _ => false
  | _ => true
def noT1 : DV → Bool
  | .one d => noTC d
  | .agg l => allB noTC l
  | .tup _ => false
def noTV : DV → Bool
  | .tup l => allB noT1 l
  | .one d => noTC d
  | .agg l => allB noTC l
def noT : DEnv → Bool
  | [] => true
  | (_, d) :: E => match noTV d with
    | true => noT E
    | false => false
section
variable {Z Z' : Nat → Prop} {H H' : Hp} {β β' : Beta}
theorem caps0 (hb : BLe0 β β') : ∀ {l l' : List (Nat × Nat)}, capsR β l l' → capsR β' l l'
  | [], [], _ => trivial
  | (_, _) :: _, (_, _) :: _, ⟨h1, ⟨N, h2⟩, h3⟩ => ⟨h1, ⟨N, hb _ _ h2⟩, caps0 hb h3⟩
theorem RD.mono0 (h : ZLe Z H Z' H') (hb : BLe0 β β') {d : DC} {c : C} (ht : noTC d = true) (hr : RD Z H β d c) : RD Z' H' β' d c := by
  cases d with
  | f d => exact RF.mono h hr
  | g b o => exact hr
  | ptr k o => obtain ⟨b, N, h1, h2⟩ := hr; exact ⟨b, N, hb _ _ h1, h2⟩
  | own k o n esz =>
    rcases hr with ⟨h1, h2⟩ | ⟨b, N, cap, ex, h1, h2⟩
    · exact .inl ⟨hb _ _ h1, h2⟩
    · exact .inr ⟨b, N, cap, ex, hb _ _ h1, h2⟩
  | fptr l => obtain ⟨b, o, cs, h1, h2, h3, h4⟩ := hr; exact ⟨b, o, cs, h1, (h b h2).1, h.loads h2 h3, h4.mono fun _ _ => RF.mono h⟩
  | fn f caps => obtain ⟨caps', h1, h2⟩ := hr; exact ⟨caps', h1, caps0 hb h2⟩
  | any => trivial
  | om k => obtain ⟨b, N, h1, h2⟩ := hr; exact ⟨b, N, hb _ _ h1, h2⟩
  | tptr k i o => cases ht
  | trow k i o n => cases ht
theorem RDL.mono0 (h : ZLe Z H Z' H') (hb : BLe0 β β') : ∀ {l : List DC} {cs : List C}, allB noTC l = true → All2 (RD Z H β) l cs → All2 (RD Z' H' β') l cs
  | [], [], _, _ => trivial
  | d :: l, c :: cs, ha, hr => by
    have h1 := allB_mem ha d (by simp)
    have h2 : allB noTC l = true := by simp only [allB, h1] at ha; exact ha
    exact ⟨RD.mono0 h hb h1 hr.1, RDL.mono0 h hb h2 hr.2⟩
  | [], _ :: _, _, hr => hr.elim
  | _ :: _, [], _, hr => hr.elim
theorem RDV1.mono0 (h : ZLe Z H Z' H') (hb : BLe0 β β') {d : DV} {v : V} (ht : noT1 d = true) (hr : RDV1 Z H β d v) : RDV1 Z' H' β' d v := by
  cases d with
  | one d => obtain ⟨c, h1, h2⟩ := hr; exact ⟨c, h1, RD.mono0 h hb ht h2⟩
  | agg l => obtain ⟨c, h1, h2⟩ := hr; exact ⟨c, h1, RDL.mono0 h hb ht h2⟩
  | tup l => cases ht
theorem RDV1L.mono0 (h : ZLe Z H Z' H') (hb : BLe0 β β') : ∀ {l : List DV} {vs : List V}, allB noT1 l = true → All2 (RDV1 Z H β) l vs → All2 (RDV1 Z' H' β') l vs
  | [], [], _, _ => trivial
  | d :: l, c :: cs, ha, hr => by
    have h1 := allB_mem ha d (by simp)
    have h2 : allB noT1 l = true := by simp only [allB, h1] at ha; exact ha
    exact ⟨RDV1.mono0 h hb h1 hr.1, RDV1L.mono0 h hb h2 hr.2⟩
  | [], _ :: _, _, hr => hr.elim
  | _ :: _, [], _, hr => hr.elim
theorem RDV.mono0 (h : ZLe Z H Z' H') (hb : BLe0 β β') {d : DV} {v : V} (ht : noTV d = true) (hr : RDV Z H β d v) : RDV Z' H' β' d v := by
  cases d with
  | one d => exact RDV1.mono0 (d := .one d) h hb ht hr
  | agg l => exact RDV1.mono0 (d := .agg l) h hb ht hr
  | tup l => obtain ⟨vs, h1, h2⟩ := hr; exact ⟨vs, h1, RDV1L.mono0 h hb ht h2⟩
theorem noT_lk : ∀ {E : DEnv} {n : Nat} {d : DV}, noT E = true → lk E n = some d → noTV d = true
  | [], _, _, _, h => by cases h
  | (k, x) :: E, n, d, ht, h => by
    simp only [noT] at ht
    split at ht
    · rename_i hx
      rw [lk_cons] at h
      split at h
      · obtain rfl := Option.some.inj h; exact hx
      · exact noT_lk ht h
    · cases ht
theorem ER.mono0 (h : ZLe Z H Z' H') (hb : BLe0 β β') {E : DEnv} {F : T V} (ht : noT E = true) (hr : ER Z β H E F) : ER Z' β' H' E F := fun n d hd => by
  obtain ⟨v, h1, h2⟩ := hr n d hd
  exact ⟨v, h1, RDV.mono0 h hb (noT_lk ht hd) h2⟩
end

/-- WHAT A CALL COMES TO THAT IS HANDED NAMES OF BOXES -/
def DX (p : Par) (f : FuncId) (ds : List DV) (S : Bx) (nk : Nat) (R : DV → Bx → Nat → Prop) : Prop := ∀ Z β H args, SR p Z β H S nk → All2 (RDV Z H β) ds args →
  ACalls p.P p.G f args H fun v H' => ∃ d S' nk' Z' β', SR p Z' β' H' S' nk' ∧ RDV Z' H' β' d v ∧ ZLe Z H Z' H' ∧ BLe0 β β' ∧ R d S' nk'
theorem DX.mono {p : Par} {f : FuncId} {ds : List DV} {S : Bx} {nk : Nat} {R R' : DV → Bx → Nat → Prop} (h : DX p f ds S nk R) (hr : ∀ d S nk, R d S nk → R' d S nk) : DX p f ds S nk R' := fun Z β H args h1 h2 => (h Z β H args h1 h2).mono fun _ _ ⟨d, S', nk', Z', β', g1, g2, g3, g4, g5⟩ => ⟨d, S', nk', Z', β', g1, g2, g3, g4, hr _ _ _ g5⟩

/-- all names and all that is frozen held fast -/
abbrev Par.hold (p : Par) (Z : Nat → Prop) (nk : Nat) (β : Beta) (H : Hp) : Par := ⟨p.P, p.G, p.GH, Z, p.lo, nk, β, H⟩
theorem SR.hold {p : Par} {Z : Nat → Prop} {β : Beta} {H : Hp} {S : Bx} {nk : Nat} (h : SR p Z β H S nk) : SR (p.hold Z nk β H) Z β H S nk :=
  ⟨h.wf, h.lo, h.z, fun _ hb => .inl hb, fun _ hb => hb, fun b bk hb => hb.elim (fun hb => h.glob b bk (.inl hb)) fun hb => hb, h.nk, h.bd, h.box, h.inj, h.blo, fun _ _ _ => rfl, Nat.le_refl _⟩
theorem SR.free {p : Par} {Z Z' : Nat → Prop} {β β' : Beta} {H H' : Hp} {S S' : Bx} {nk nk' : Nat} (h : SR p Z β H S nk) (h' : SR (p.hold Z nk β H) Z' β' H' S' nk') : SR p Z' β' H' S' nk' ∧ ZLe Z H Z' H' ∧ BLe0 β β' := by
  have hz : ∀ b, Z b → Z' b := h'.zz
  refine ⟨⟨h'.wf, h'.lo, h'.z, fun b hb => (h'.zlo b hb).elim (h.zlo b) .inr, fun b hb => hz b (h.zz b hb), fun b bk hb => h'.glob b bk (.inr (h.glob b bk hb)), h'.nk, h'.bd, h'.box, h'.inj, h'.blo, fun κ hκ h0 => ?_, Nat.le_trans h.ancn h'.ancn⟩, fun b hb => ⟨hz b hb, fun i c hc => ?_⟩, fun k s hκ => ?_⟩
  · exact (h'.anch κ (Nat.lt_of_lt_of_le hκ h.ancn) h0).trans (h.anch κ hκ h0)
  · unfold Hp.cell at hc ⊢
    cases hg : H.get b with
    | none => rw [hg] at hc; cases hc
    | some bk => rw [(h'.glob b bk (.inr ⟨hb, hg⟩)).2]; rw [hg] at hc; exact hc
  · exact (h'.anch (k, 0) (h.lt1 hκ) rfl).trans hκ

/-- A FUNCTION'S CONTRACT -/
theorem dx_ok {p : Par} {f : FuncId} {sf : SFn} (hf : cpFn p.P p.G f = some sf) {ds : List DV} {S : Bx} {nk : Nat} {R : DV → Bx → Nat → Prop} (hn : Nat.ble ds.length sf.n = true)
    (h : ∀ Z β H, DPS (p.hold Z nk β H) sf.n sf.code (retO (p.hold Z nk β H) sf.res R) (argsD ds 0) S nk) : DX p f ds S nk R := by
  intro Z β H args hS ha
  refine fn_ok hf (by rw [← ha.len]; exact Nat.le_of_ble_eq_true hn) ?_
  refine swp_mono ((h Z β H).run Z β H _ hS.hold (argsD_ok 0 ha)) fun e F' H' ⟨E', S', nk', Z', β', h1, h2, h3⟩ => ?_
  have fin : (∃ d, resultD (p.hold Z nk β H) E' S' sf.res = some d ∧ onesD d = true ∧ ∃ S0, SubA S0 S' ∧ R d S0 nk') → ∃ v, aResult F' H' sf.res = some v ∧ ∃ d S' nk' Z' β', SR p Z' β' H' S' nk' ∧ RDV Z' H' β' d v ∧ ZLe Z H Z' H' ∧ BLe0 β β' ∧ R d S' nk' := fun ⟨d, hd, hfr, S0, hsub, hR⟩ => by
    obtain ⟨v, hv, hr⟩ := resultO_ok h1 h2 hd hfr
    obtain ⟨g1, g2, g3⟩ := hS.free (h1.keepS hsub)
    exact ⟨v, hv, d, S0, nk', Z', β', g1, hr, g2, g3, hR⟩
  cases e with
  | normal => obtain ⟨v, hv, hr⟩ := fin h3; simp only [retQ, hv]; exact hr
  | ret => obtain ⟨v, hv, hr⟩ := fin h3; simp only [retQ, hv]; exact hr
  | _ => exact h3.elim

def noW : Wt → Bool
  | [] => true
  | (_, none) :: W => noW W
  | _ :: _ => false
theorem CR.noW {W : Wt} {Z Z' : Nat → Prop} {β β' : Beta} {H H' : Hp} {c : Ctx} (h : CR W Z β H c) (hW : ∀ y ∈ W, y.2 = none) (hZ : ZLe Z H Z' H') : CR W Z' β' H' c := fun x hx => by
  obtain ⟨y, hy, hw⟩ := h x hx
  refine ⟨y, hy, ?_⟩
  have e := hW y hy
  obtain ⟨y1, y2⟩ := y
  simp only at e
  subst e
  obtain ⟨b, hb, hq⟩ := hw
  exact ⟨b, (hZ b hb).1, fun H'' hh => hq H'' fun i c hc => hh i c ((hZ b hb).2 i c hc)⟩
theorem noW_mem : ∀ {W : Wt}, noW W = true → ∀ y ∈ W, y.2 = none
  | [], _, y, hy => by cases hy
  | (_, none) :: W, h, y, hy => by
    rcases List.mem_cons.1 hy with rfl | hy
    · rfl
    · exact noW_mem (W := W) h y hy
  | (_, some _) :: _, h, _, _ => by cases h

/-- captured variables as arguments -/
def capsA : List (Nat × Nat) → List DV
  | [] => []
  | (k, o) :: r => .one (.ptr k o) :: capsA r
theorem capsA_ok {Z : Nat → Prop} {β : Beta} {H : Hp} : ∀ {l l' : List (Nat × Nat)}, capsR β l l' → All2 (RDV Z H β) (capsA l) (l'.map ptrV)
  | [], [], _ => trivial
  | (k, o) :: r, (b, o') :: r', ⟨h1, ⟨N, h2⟩, h3⟩ => ⟨⟨_, rfl, b, N, h2, by rw [h1]⟩, capsA_ok h3⟩

section
variable {p : Par} {base rs : Nat} {Q : DEnv → Bx → Nat → Prop} {r : List SOper} {W : Wt} {A : List Nat} {E : DEnv} {S : Bx} {nk : Nat} {id : Nat} {dst : Option Nat} {aid : Option Nat} {ws : List Nat} {keep : Bool}
theorem dw_cx {f : FuncId} {args : List Opd} {ds : List DV} {R : DV → Bx → Nat → Prop} (hvs : ros E args = some ds) (hW : noW W = true) (hT : noT E = true) (hc : DX p f ds S nk R) (h : ∀ d S' nk', R d S' nk' → DPW p base 0 Q r W A (setD E dst d) S' nk') : DPW p base rs Q (⟨id, dst, .cf f args, none, aid, ws, keep⟩ :: r) W A E S nk := .mk fun Z β H F c hS hE hC hA => by
  simp only [wOps, wantedA, if_true]
  refine (hc Z β H _ hS (ros_ok hE hvs)).mono ?_
  rintro v H' ⟨d, S', nk', Z', β', hS', hr, hZ, hB, hR⟩
  have hC' : CR W Z' β' H' c := hC.noW (noW_mem hW) hZ
  exact ⟨hC'.watch ws, (h d S' nk' hR).run Z' β' H' _ c hS' ((hE.mono0 hZ hB hT).set dst hr) hC' ⟨hA.1, fun j hj => absurd hj (by omega)⟩⟩
theorem dw_cxv {x : Opd} {f : FuncId} {caps : List (Nat × Nat)} {args : List Opd} {ds : List DV} {R : DV → Bx → Nat → Prop} (hx : ro E x = some (.one (.fn f caps))) (hf : isFn p.P f = true) (hvs : ros E args = some ds) (hW : noW W = true) (hT : noT E = true) (hc : DX p f (ds ++ capsA caps) S nk R) (h : ∀ d S' nk', R d S' nk' → DPW p base 0 Q r W A (setD E dst d) S' nk') : DPW p base rs Q (⟨id, dst, .cv x args, none, aid, ws, keep⟩ :: r) W A E S nk := .mk fun Z β H F c hS hE hC hA => by
  obtain ⟨cx, hcx, caps', rfl, hcaps⟩ := ro_ok hE hx
  simp only [wOps, wantedA, if_true, hcx]
  refine ⟨hf, ?_⟩
  refine (hc Z β H _ hS ((ros_ok hE hvs).append (capsA_ok hcaps))).mono ?_
  rintro v H' ⟨d, S', nk', Z', β', hS', hr, hZ, hB, hR⟩
  have hC' : CR W Z' β' H' c := hC.noW (noW_mem hW) hZ
  exact ⟨hC'.watch ws, (h d S' nk' hR).run Z' β' H' _ c hS' ((hE.mono0 hZ hB hT).set dst hr) hC' ⟨hA.1, fun j hj => absurd hj (by omega)⟩⟩
/-- a function without captured variables -/
theorem dw_cv0 {x : Opd} {f : FuncId} {args : List Opd} {ds : List DV} {R : DV → Prop} (hx : ro E x = some (.one (.f (.c (.fn f []))))) (hfn : isFn p.P f = true) (hvs : ros E args = some ds) (hf : allB frV ds = true) (hc : DCalls p.P p.G p.GH f ds R) (h : ∀ d, R d → DPW p base rs Q r W A (setD E dst d) S nk) : DPW p base rs Q (⟨id, dst, .cv x args, none, aid, ws, keep⟩ :: r) W A E S nk := .mk fun Z β H F c hS hE hC hA => by
  have hw := (dw_cf (id := id) (dst := dst) (aid := aid) (ws := ws) (keep := keep) hvs hf hc h).run Z β H F c hS hE hC hA
  obtain ⟨cx, hcx, hr⟩ := ro_ok hE hx
  cases hr
  simp only [wOps, wantedA, if_true] at hw
  simp only [wOps, wantedA, if_true, hcx, List.map_nil, List.append_nil]
  exact ⟨hfn, hw⟩
end
end Go.Ab

/- Maps of rows: made, looked up, written. -/
namespace Go.Ab

/-- no part of the rows of kb is named -/
def noKC (kb : Nat) : DC → Bool
  | .trow k _ _ _ => !(Nat.beq k kb)
  | .tptr k _ _ => !(Nat.beq k kb)
  | _ => true
def noK1 (kb : Nat) : DV → Bool
  | .one d => noKC kb d
  | .agg l => allB (noKC kb) l
  | .tup _ => false
def noKV (kb : Nat) : DV → Bool
  | .tup l => allB (noK1 kb) l
  | .one d => noKC kb d
  | .agg l => allB (noKC kb) l
def noKE (kb : Nat) : DEnv → Bool
  | [] => true
  | (_, d) :: E => match noKV kb d with
    | true => noKE kb E
    | false => false
def noKM (kb : Nat) : List (Int × ME) → Bool
  | [] => true
  | (_, .row _) :: es => noKM kb es
  | (_, .out c) :: es => match noKC kb c with
    | true => noKM kb es
    | false => false
def noKB (kb : Nat) : Bk → Bool
  | .cells l => allB (noKC kb) l
  | .mp _ l => allB (noKC kb) l
  | .mt es => noKM kb es
  | _ => true
def noKS (kb : Nat) : Bx → Bool
  | [] => true
  | (k, x) :: S => match Nat.beq k kb with
    | true => noKS kb S
    | false => match noKB kb x with
      | true => noKS kb S
      | false => false

/-- names beside the rows of kb keep their meaning -/
def BLeK (kb : Nat) (β β' : Beta) : Prop := ∀ κ s, (κ.1 ≠ kb ∨ κ.2 = 0) → β κ = some s → β' κ = some s
section
variable {Z : Nat → Prop} {H H' : Hp} {β β' : Beta} {kb : Nat}
theorem capsK (hb : BLeK kb β β') : ∀ {l l' : List (Nat × Nat)}, capsR β l l' → capsR β' l l'
  | [], [], _ => trivial
  | (_, _) :: _, (_, _) :: _, ⟨h1, ⟨N, h2⟩, h3⟩ => ⟨h1, ⟨N, hb _ _ (.inr rfl) h2⟩, capsK hb h3⟩
theorem ne_of_bnot {k : Nat} (h : (!(Nat.beq k kb)) = true) : k ≠ kb := by
  rintro rfl
  rw [beq_self] at h
  cases h
theorem RD.monoK (hb : BLeK kb β β') {d : DC} {c : C} (ht : noKC kb d = true) (hr : RD Z H β d c) : RD Z H β' d c := by
  cases d with
  | f d => exact hr
  | g b o => exact hr
  | ptr k o => obtain ⟨b, N, h1, h2⟩ := hr; exact ⟨b, N, hb _ _ (.inr rfl) h1, h2⟩
  | own k o n esz =>
    rcases hr with ⟨h1, h2⟩ | ⟨b, N, cap, ex, h1, h2⟩
    · exact .inl ⟨hb _ _ (.inr rfl) h1, h2⟩
    · exact .inr ⟨b, N, cap, ex, hb _ _ (.inr rfl) h1, h2⟩
  | fptr l => exact hr
  | fn f caps => obtain ⟨caps', h1, h2⟩ := hr; exact ⟨caps', h1, capsK hb h2⟩
  | any => trivial
  | om k => obtain ⟨b, N, h1, h2⟩ := hr; exact ⟨b, N, hb _ _ (.inr rfl) h1, h2⟩
  | tptr k i o => obtain ⟨b, N, h1, h2⟩ := hr; exact ⟨b, N, hb _ _ (.inl (ne_of_bnot ht)) h1, h2⟩
  | trow k i o n =>
    rcases hr with ⟨h1, h2⟩ | ⟨b, N, cap, ex, h1, h2⟩
    · exact .inl ⟨hb _ _ (.inl (ne_of_bnot ht)) h1, h2⟩
    · exact .inr ⟨b, N, cap, ex, hb _ _ (.inl (ne_of_bnot ht)) h1, h2⟩
theorem RDL.monoK (hb : BLeK kb β β') : ∀ {l : List DC} {cs : List C}, allB (noKC kb) l = true → All2 (RD Z H β) l cs → All2 (RD Z H β') l cs
  | [], [], _, _ => trivial
  | d :: l, c :: cs, ha, hr => by
    have h1 := allB_mem ha d (by simp)
    have h2 : allB (noKC kb) l = true := by simp only [allB, h1] at ha; exact ha
    exact ⟨RD.monoK hb h1 hr.1, RDL.monoK hb h2 hr.2⟩
  | [], _ :: _, _, hr => hr.elim
  | _ :: _, [], _, hr => hr.elim
theorem RDV1.monoK (hb : BLeK kb β β') {d : DV} {v : V} (ht : noK1 kb d = true) (hr : RDV1 Z H β d v) : RDV1 Z H β' d v := by
  cases d with
  | one d => obtain ⟨c, h1, h2⟩ := hr; exact ⟨c, h1, RD.monoK hb ht h2⟩
  | agg l => obtain ⟨c, h1, h2⟩ := hr; exact ⟨c, h1, RDL.monoK hb ht h2⟩
  | tup l => cases ht
theorem RDV1L.monoK (hb : BLeK kb β β') : ∀ {l : List DV} {vs : List V}, allB (noK1 kb) l = true → All2 (RDV1 Z H β) l vs → All2 (RDV1 Z H β') l vs
  | [], [], _, _ => trivial
  | d :: l, c :: cs, ha, hr => by
    have h1 := allB_mem ha d (by simp)
    have h2 : allB (noK1 kb) l = true := by simp only [allB, h1] at ha; exact ha
    exact ⟨RDV1.monoK hb h1 hr.1, RDV1L.monoK hb h2 hr.2⟩
  | [], _ :: _, _, hr => hr.elim
  | _ :: _, [], _, hr => hr.elim
theorem RDV.monoK (hb : BLeK kb β β') {d : DV} {v : V} (ht : noKV kb d = true) (hr : RDV Z H β d v) : RDV Z H β' d v := by
  cases d with
  | one d => exact RDV1.monoK (d := .one d) hb ht hr
  | agg l => exact RDV1.monoK (d := .agg l) hb ht hr
  | tup l => obtain ⟨vs, h1, h2⟩ := hr; exact ⟨vs, h1, RDV1L.monoK hb ht h2⟩
theorem noKE_lk : ∀ {E : DEnv} {n : Nat} {d : DV}, noKE kb E = true → lk E n = some d → noKV kb d = true
  | [], _, _, _, h => by cases h
  | (k, x) :: E, n, d, ht, h => by
    simp only [noKE] at ht
    split at ht
    · rename_i hx
      rw [lk_cons] at h
      split at h
      · obtain rfl := Option.some.inj h; exact hx
      · exact noKE_lk ht h
    · cases ht
theorem ER.monoK (hb : BLeK kb β β') {E : DEnv} {F : T V} (ht : noKE kb E = true) (hr : ER Z β H E F) : ER Z β' H E F := fun n d hd => by
  obtain ⟨v, h1, h2⟩ := hr n d hd
  exact ⟨v, h1, RDV.monoK hb (noKE_lk ht hd) h2⟩
theorem noKS_lk : ∀ {S : Bx} {k : Nat} {x : Bk}, noKS kb S = true → lk S k = some x → k ≠ kb → noKB kb x = true
  | [], _, _, _, h, _ => by cases h
  | (j, y) :: S, k, x, ht, h, hne => by
    simp only [noKS] at ht
    rw [lk_cons] at h
    split at h
    · rename_i e
      subst e
      obtain rfl := Option.some.inj h
      rw [beq_ne hne] at ht
      simp only at ht
      split at ht
      · rename_i hx; exact hx
      · cases ht
    · split at ht
      · exact noKS_lk ht h hne
      · split at ht
        · exact noKS_lk ht h hne
        · cases ht
theorem noK_rows {j : Nat} (hj : j ≠ kb) : ∀ (i : Nat) (rows : List (List FD)), allB (noKC kb) (rowsV j i rows) = true
  | _, [] => rfl
  | i, r :: rs => by simp only [rowsV, allB, noKC, beq_ne hj, noK_rows hj (i + 1) rs, Bool.not_false]
theorem noK_mt {j : Nat} (hj : j ≠ kb) : ∀ (i : Nat) (es : List (Int × ME)), noKM kb es = true → allB (noKC kb) (mtV j i es) = true
  | _, [], _ => rfl
  | i, (_, .row r) :: es, h => by
    have e0 : ∀ y : Int, noKC kb (.f (.c (.int .i64 y))) = true := fun _ => rfl
    have e1 : noKC kb (.trow j i 0 r.length) = true := by simp only [noKC, beq_ne hj, Bool.not_false]
    simp only [mtV, allB, e0, e1, noK_mt hj (i + 1) es h]
  | i, (_, .out c) :: es, h => by
    have e0 : ∀ y : Int, noKC kb (.f (.c (.int .i64 y))) = true := fun _ => rfl
    simp only [noKM] at h
    split at h
    · rename_i hc; simp only [mtV, allB, e0, hc, noK_mt hj (i + 1) es h]
    · cases h
theorem lk2_noK {S : Bx} {κ : Key} {x : Bk} (hs : noKS kb S = true) (h : lk2 S κ = some x) (hne : κ.1 ≠ kb) : noKB kb x = true := by
  obtain ⟨j, i⟩ := κ
  obtain ⟨y, hy⟩ := lk2_lk h
  have ho := noKS_lk hs hy hne
  simp only at hy hne
  cases i with
  | zero =>
    simp only [lk2, hy] at h
    cases y with
    | cells m => obtain rfl := Option.some.inj h; exact ho
    | data m => obtain rfl := Option.some.inj h; exact ho
    | tree rows => obtain rfl := Option.some.inj h; exact noK_rows hne 0 rows
    | mp ks m => obtain rfl := Option.some.inj h; exact ho
    | mt es => obtain rfl := Option.some.inj h; exact noK_mt hne 0 es ho
  | succ i =>
    simp only [lk2, hy] at h
    cases y with
    | cells m => cases h
    | data m => cases h
    | tree rows =>
      cases hr : rows[i]? with
      | none => simp only [hr] at h; cases h
      | some r => simp only [hr] at h; obtain rfl := Option.some.inj h; rfl
    | mp ks m => cases h
    | mt es => obtain ⟨_, r, _, rfl⟩ := mtRow_at h; rfl
theorem BoxR.monoK {p : Par} (hb : BLeK kb β β') {x : Bk} {s : Slot} (hx : noKB kb x = true) (h : BoxR p Z H β x s) : BoxR p Z H β' x s := by
  cases s with
  | nil => exact h
  | blk b N =>
    obtain ⟨h1, h2, h3, cs, rest, h4, h5, h6⟩ := h
    refine ⟨h1, h2, h3, cs, rest, h4, h5, ?_⟩
    cases x with
    | cells m => exact RDL.monoK hb hx h6
    | data m => exact h6
    | tree m => exact h6
    | mp ks m => exact RDL.monoK hb hx h6
    | mt es => exact h6
end

/-- the entries of a map of rows, and those of its block -/
def EntR (Z : Nat → Prop) (H : Hp) (β : Beta) (kb : Nat) : Nat → List (Int × ME) → List (V × V) → Prop
  | _, [], [] => True
  | i, (y, .row r) :: es, (k, v) :: es' => k = .one (.int .i64 y) ∧ (∃ c, v = .one c ∧ RD Z H β (.trow kb i 0 r.length) c) ∧ EntR Z H β kb (i + 1) es es'
  | i, (y, .out d) :: es, (k, v) :: es' => k = .one (.int .i64 y) ∧ (∃ c, v = .one c ∧ RD Z H β d c) ∧ EntR Z H β kb (i + 1) es es'
  | _, _, _ => False
theorem ent_of {Z : Nat → Prop} {H : Hp} {β : Beta} {kb : Nat} : ∀ {i : Nat} {es : List (Int × ME)} {es' : List (V × V)}, (∀ e ∈ es', keyOk 0 e.1 ∧ ∃ c, e.2 = .one c) → All2 (RD Z H β) (mtV kb i es) (MF es') → EntR Z H β kb i es es'
  | i, [], [], _, _ => trivial
  | i, [], (k, v) :: es', hk, h => by
    obtain ⟨⟨c, h1⟩, c', h2⟩ := hk (k, v) (by simp)
    simp only at h1 h2
    subst h1 h2
    exact h.elim
  | i, (y, .row r) :: es, [], hk, h => h.elim
  | i, (y, .out d) :: es, [], hk, h => h.elim
  | i, (y, .row r) :: es, (k, v) :: es', hk, h => by
    obtain ⟨⟨c, h1⟩, c', h2⟩ := hk (k, v) (by simp)
    simp only at h1 h2
    subst h1 h2
    obtain ⟨g1, g2, g3⟩ := (h : RD Z H β (.f (.c (.int .i64 y))) c ∧ RD Z H β (.trow kb i 0 r.length) c' ∧ All2 (RD Z H β) (mtV kb (i + 1) es) (MF es'))
    cases g1
    exact ⟨rfl, ⟨c', rfl, g2⟩, ent_of (fun e he => hk e (by simp [he])) g3⟩
  | i, (y, .out d) :: es, (k, v) :: es', hk, h => by
    obtain ⟨⟨c, h1⟩, c', h2⟩ := hk (k, v) (by simp)
    simp only at h1 h2
    subst h1 h2
    obtain ⟨g1, g2, g3⟩ := (h : RD Z H β (.f (.c (.int .i64 y))) c ∧ RD Z H β d c' ∧ All2 (RD Z H β) (mtV kb (i + 1) es) (MF es'))
    cases g1
    exact ⟨rfl, ⟨c', rfl, g2⟩, ent_of (fun e he => hk e (by simp [he])) g3⟩
theorem ent_to {Z : Nat → Prop} {H : Hp} {β : Beta} {kb : Nat} : ∀ {i : Nat} {es : List (Int × ME)} {es' : List (V × V)}, EntR Z H β kb i es es' → (∀ e ∈ es', keyOk 0 e.1 ∧ ∃ c, e.2 = .one c) ∧ All2 (RD Z H β) (mtV kb i es) (MF es')
  | i, [], [], _ => ⟨by simp, trivial⟩
  | i, [], _ :: _, h => h.elim
  | i, (y, .row r) :: es, [], h => h.elim
  | i, (y, .out d) :: es, [], h => h.elim
  | i, (y, .row r) :: es, (k, v) :: es', ⟨h1, ⟨c, h2, h3⟩, h4⟩ => by
    subst h1 h2
    obtain ⟨g1, g2⟩ := ent_to h4
    refine ⟨fun e he => ?_, RF.c _ rfl, h3, g2⟩
    rcases List.mem_cons.1 he with rfl | he
    · exact ⟨⟨_, rfl⟩, _, rfl⟩
    · exact g1 e he
  | i, (y, .out d) :: es, (k, v) :: es', ⟨h1, ⟨c, h2, h3⟩, h4⟩ => by
    subst h1 h2
    obtain ⟨g1, g2⟩ := ent_to h4
    refine ⟨fun e he => ?_, RF.c _ rfl, h3, g2⟩
    rcases List.mem_cons.1 he with rfl | he
    · exact ⟨⟨_, rfl⟩, _, rfl⟩
    · exact g1 e he
/-- the value at a key -/
def ME.val (kb i : Nat) : ME → DC
  | .row r => .trow kb i 0 r.length
  | .out d => d
theorem EntR.len {Z : Nat → Prop} {H : Hp} {β : Beta} {kb : Nat} : ∀ {i : Nat} {es : List (Int × ME)} {es' : List (V × V)}, EntR Z H β kb i es es' → es.length = es'.length
  | i, [], [], _ => rfl
  | i, [], _ :: _, h => h.elim
  | i, (y, .row r) :: es, [], h => h.elim
  | i, (y, .out d) :: es, [], h => h.elim
  | i, (y, .row r) :: es, (k, v) :: es', ⟨_, _, h4⟩ => by simp [h4.len]
  | i, (y, .out d) :: es, (k, v) :: es', ⟨_, _, h4⟩ => by simp [h4.len]
theorem EntR.cons {Z : Nat → Prop} {H : Hp} {β : Beta} {kb i : Nat} {e : Int × ME} {es : List (Int × ME)} {x : V × V} {es' : List (V × V)} : EntR Z H β kb i (e :: es) (x :: es') ↔ x.1 = .one (.int .i64 e.1) ∧ (∃ c, x.2 = .one c ∧ RD Z H β (e.2.val kb i) c) ∧ EntR Z H β kb (i + 1) es es' := by
  obtain ⟨y, e⟩ := e
  obtain ⟨k, v⟩ := x
  cases e <;> rfl
theorem EntR.at {Z : Nat → Prop} {H : Hp} {β : Beta} {kb : Nat} : ∀ {j i : Nat} {es : List (Int × ME)} {es' : List (V × V)} {e : Int × ME}, EntR Z H β kb j es es' → es[i]? = some e → ∃ c, es'[i]? = some (.one (.int .i64 e.1), .one c) ∧ RD Z H β (e.2.val kb (j + i)) c
  | j, i, [], [], e, _, h => by simp at h
  | j, i, [], _ :: _, e, h, _ => h.elim
  | j, i, (y, .row r) :: es, [], e, h, _ => h.elim
  | j, i, (y, .out d) :: es, [], e, h, _ => h.elim
  | j, 0, e0 :: es, x :: es', e, h, he => by
    obtain ⟨h1, ⟨c, h2, h3⟩, _⟩ := EntR.cons.1 h
    simp at he; subst he
    exact ⟨c, by simp [← h1, ← h2], h3⟩
  | j, i + 1, e0 :: es, x :: es', e, h, he => by
    obtain ⟨_, _, h3⟩ := EntR.cons.1 h
    obtain ⟨c, g1, g2⟩ := EntR.at h3 (by simpa using he)
    exact ⟨c, by simpa using g1, by rw [show j + (i + 1) = j + 1 + i by omega]; exact g2⟩
theorem EntR.mono {Z Z' : Nat → Prop} {H H' : Hp} {β β' : Beta} {kb kb' : Nat} : ∀ {j : Nat} {es es1 : List (Int × ME)} {es' : List (V × V)}, EntR Z H β kb j es es' → es1.length = es.length → (∀ (i : Nat) (e e1 : Int × ME), es[i]? = some e → es1[i]? = some e1 → e1.1 = e.1 ∧ ∀ c, RD Z H β (e.2.val kb (j + i)) c → RD Z' H' β' (e1.2.val kb' (j + i)) c) → EntR Z' H' β' kb' j es1 es'
  | j, [], [], [], _, _, _ => trivial
  | j, e :: es, e1 :: es1, x :: es', h, hl, hm => by
    obtain ⟨h1, ⟨c, h2, h3⟩, h4⟩ := EntR.cons.1 h
    obtain ⟨g1, g2⟩ := hm 0 e e1 rfl rfl
    refine EntR.cons.2 ⟨by rw [h1, g1], ⟨c, h2, g2 c h3⟩, EntR.mono h4 (by simpa using hl) fun i a b ha hb => ?_⟩
    have := hm (i + 1) a b (by simpa using ha) (by simpa using hb)
    rw [show j + 1 + i = j + (i + 1) by omega]
    exact this
  | j, [], _ :: _, _, _, hl, _ => by simp at hl
  | j, _ :: _, [], _, _, hl, _ => by simp at hl
  | j, [], [], _ :: _, h, _, _ => h.elim
  | j, (y, .row r) :: es, _ :: _, [], h, _, _ => h.elim
  | j, (y, .out d) :: es, _ :: _, [], h, _, _ => h.elim
theorem EntR.find {Z : Nat → Prop} {H : Hp} {β : Beta} {kb : Nat} {y : Int} : ∀ {j n : Nat} {es : List (Int × ME)} {es' : List (V × V)} {i : Nat} {e : Int × ME}, EntR Z H β kb j es es' → es[i]? = some e → e.1 = y → (∀ (j : Nat) (e : Int × ME), j < i → es[j]? = some e → e.1 ≠ y) → ∃ v, mfind (.one (.int .i64 y)) es' n = some (some (n + i, v)) ∧ es'[i]? = some (.one (.int .i64 y), v)
  | j, n, [], _, i, e, _, h, _, _ => by simp at h
  | j, n, (y', .row r) :: es, [], i, e, h, _, _, _ => h.elim
  | j, n, (y', .out d) :: es, [], i, e, h, _, _, _ => h.elim
  | j, n, e0 :: es, x :: es', i, e, h, he, hy, hf => by
    obtain ⟨h1, ⟨c, h2, h3⟩, h4⟩ := EntR.cons.1 h
    obtain ⟨k, v⟩ := x
    simp only at h1 h2
    subst h1 h2
    cases i with
    | zero =>
      simp at he; subst he
      refine ⟨.one c, ?_, by simp [hy]⟩
      simp [mfind, keyEq, hy]
    | succ i =>
      have hne := hf 0 e0 (by omega) rfl
      obtain ⟨v, g1, g2⟩ := EntR.find (n := n + 1) h4 (by simpa using he) hy (fun j' e' hj' he' => hf (j' + 1) e' (by omega) (by simpa using he'))
      refine ⟨v, ?_, by simpa using g2⟩
      have : (y == e0.1) = false := by simpa using fun h => hne h.symm
      simp only [mfind, keyEq, if_true, this]
      rw [g1, show n + 1 + i = n + (i + 1) by omega]
theorem EntR.none {Z : Nat → Prop} {H : Hp} {β : Beta} {kb : Nat} {y : Int} : ∀ {j n : Nat} {es : List (Int × ME)} {es' : List (V × V)}, EntR Z H β kb j es es' → (∀ e ∈ es, e.1 ≠ y) → mfind (.one (.int .i64 y)) es' n = some none
  | j, n, [], [], _, _ => rfl
  | j, n, [], _ :: _, h, _ => h.elim
  | j, n, (y', .row r) :: es, [], h, _ => h.elim
  | j, n, (y', .out d) :: es, [], h, _ => h.elim
  | j, n, e0 :: es, x :: es', h, hf => by
    obtain ⟨h1, ⟨c, h2, h3⟩, h4⟩ := EntR.cons.1 h
    obtain ⟨k, v⟩ := x
    simp only at h1 h2
    subst h1 h2
    have : (y == e0.1) = false := by simpa using fun h => hf e0 (by simp) h.symm
    simp only [mfind, keyEq, if_true, this]
    exact EntR.none h4 fun e he => hf e (by simp [he])
end Go.Ab

/- Maps of rows: the rules. -/
namespace Go.Ab

section
variable {p : Par} {base rs : Nat} {Q : DEnv → Bx → Nat → Prop} {r : List SOper} {W : Wt} {A : List Nat} {E : DEnv} {S : Bx} {nk : Nat} {id : Nat} {dst : Option Nat} {aid : Option Nat} {ws : List Nat} {keep : Bool}

theorem SR.congr2 {S' : Bx} {Z : Nat → Prop} {β : Beta} {H : Hp} (h : SR p Z β H S nk) (h2 : ∀ κ x, lk2 S' κ = some x → lk2 S κ = some x) (h1 : ∀ k x, lk S' k = some x → ∃ y, lk S k = some y) : SR p Z β H S' nk :=
  ⟨h.wf, h.lo, h.z, h.zlo, h.zz, h.glob, h.nk, h.bd, fun κ x hk => h.box κ x (h2 κ x hk), fun κ κ' x x' b N N' hk hk' => by
    obtain ⟨y, hy⟩ := h1 _ _ hk
    obtain ⟨y', hy'⟩ := h1 _ _ hk'
    exact h.inj κ κ' y y' b N N' hy hy', h.blo, h.anch, h.ancn⟩
theorem conv_mt0 {k : Nat} {Z : Nat → Prop} {β : Beta} {H : Hp} (h : SR p Z β H ((k, .mp 0 []) :: S) nk) : SR p Z β H ((k, .mt []) :: S) nk := by
  refine h.congr2 (fun κ x hk => ?_) fun j x hj => ?_
  · obtain ⟨j, i⟩ := κ
    by_cases e : k = j
    · subst e
      cases i with
      | zero => simp only [lk2, lk_cons, if_true] at hk ⊢; exact hk
      | succ i => simp only [lk2, lk_cons, if_true] at hk; simp [mtRow] at hk
    · rw [← hk]
      exact lk2_congr (by rw [lk_cons, lk_cons, if_neg e, if_neg e])
  · rw [lk_cons] at hj ⊢
    split at hj
    · rename_i e; rw [if_pos e]; exact ⟨_, rfl⟩
    · rename_i e; rw [if_neg e]; exact ⟨x, hj⟩
theorem dw_mkmap (h : DPW p base rs Q r W A (setD E dst (.one (.om nk))) ((nk, .mt []) :: S) (nk + 1)) : DPW p base rs Q (⟨id, dst, .a .mkmap, none, none, ws, keep⟩ :: r) W A E S nk := .mk fun Z β H F c hS hE hC hA => by
  simp only [wOps, wantedA, if_true, aAlloc]
  have hfr : H.get H.nx = none := hS.wf.fresh (Nat.le_refl _)
  have hg : ∀ b', b' ≠ H.nx → (H.push (.mp [])).get b' = H.get b' := fun b' hb' => by rw [Hp.get_push, if_neg hb']
  have hz : ¬ Z H.nx := fun hz => absurd (hS.z _ hz) (by omega)
  obtain ⟨hS', hZ, hB⟩ := hS.newB (x := .mp 0 []) (b := H.nx) (N0 := 0) (H' := H.push (.mp [])) rfl (fun β' hB hZ => ⟨hz, hS.lo, by simp, [], [], ⟨[], by rw [Hp.get_push, if_pos rfl], by simp, rfl⟩, rfl, trivial⟩) hz (fun k N hk => absurd (hS.bd k _ N hk) (by omega)) hS.lo (by simp) (by simp) (hS.wf.push _) hg
  exact h.run Z _ _ _ c (conv_mt0 hS') ((hE.mono hZ hB).set dst ⟨_, rfl, _, _, updB_self _ _ _, rfl⟩) (hC.new hZ hB hg hfr) (hA.new (by simp) hg fun j hj hjA e => by have := (hA.2 j hj hjA).1; omega)

/-- what is in the block of a map of rows -/
theorem SR.mtb {Z : Nat → Prop} {β : Beta} {H : Hp} (hS : SR p Z β H S nk) {kb : Nat} {es : List (Int × ME)} (hb : lk S kb = some (.mt es)) {c : C} (hr : RD Z H β (.om kb) c) : ∃ b N es', c = .map b ∧ β (kb, 0) = some (.blk b N) ∧ ¬ Z b ∧ p.lo ≤ b ∧ b < H.nx ∧ H.get b = some (.mp es') ∧ EntR Z H β kb 0 es es' := by
  obtain ⟨b, N, h1, rfl⟩ := hr
  obtain ⟨s, hs, hbx⟩ := hS.box (kb, 0) (.mp 0 (mtV kb 0 es)) (by simp only [lk2, hb])
  rw [h1] at hs
  obtain rfl := Option.some.inj hs
  obtain ⟨g1, g2, g3, cs, rest, ⟨es', g4, g5, g6⟩, g8, g7⟩ := hbx
  have g8 : rest = [] := g8
  subst g8
  rw [List.append_nil] at g6
  exact ⟨b, N, es', rfl, h1, g1, g2, g3, g4, ent_of g5 (by rw [g6]; exact g7)⟩
theorem dw_mlook0 {z : C} {m k : Opd} {kb : Nat} {y : Int} {es : List (Int × ME)} (hm : ro E m = some (.one (.om kb))) (hk : ro E k = some (.one (.f (.c (.int .i64 y))))) (hb : lk S kb = some (.mt es)) (hn : ∀ e ∈ es, e.1 ≠ y) (hz : z.closed = true)
    (h : DPW p base rs Q r W A (setD E dst (.one (.f (.c z)))) S nk) : DPW p base rs Q (⟨id, dst, .l (.lookup (.one z) false m k), none, aid, ws, false⟩ :: r) W A E S nk := .mk fun Z β H F c hS hE hC hA => by
  obtain ⟨cm, hcm, hrm⟩ := ro_ok hE hm
  obtain ⟨b, N, es', rfl, h1, h2, h3, h4, h5, h6⟩ := hS.mtb hb hrm
  simp only [wOps, wantedA, if_true, aLoad, hcm, int_of hE hk, isIntKey, h5, h6.none hn, okRes, Bool.false_eq_true, if_false]
  exact h.run Z β H _ c hS (hE.set dst (exact_ok hz)) hC hA

/-- the row of a key gets a name of its own -/
def outB (β : Beta) (nk kb i : Nat) : Beta := fun κ => if κ = (nk, 0) then β (kb, i + 1) else if κ = (kb, i + 1) then none else β κ
theorem wOk0_ne {kb : Nat} (h : wOk0 S kb W = true) : ∀ y ∈ W, ∀ (j : Key) o n, y.2 = some (j, o, n) → j.1 ≠ kb := fun y hy j o n e => (wOk0_mem h y hy j o n e).2
theorem CR.monoK {Z : Nat → Prop} {β β' : Beta} {H : Hp} {c : Ctx} {kb : Nat} (h : CR W Z β H c) (hw : ∀ y ∈ W, ∀ (j : Key) o n, y.2 = some (j, o, n) → j.1 ≠ kb) (hb : BLeK kb β β') : CR W Z β' H c := fun x hx => by
  obtain ⟨y, hy, hq⟩ := h x hx
  refine ⟨y, hy, ?_⟩
  obtain ⟨y1, y2⟩ := y
  match y2, hq, hy with
  | none, hq, _ => exact hq
  | some (k, o, n), ⟨b, N, h1, h2⟩, hy => exact ⟨b, N, hb _ _ (.inl (hw _ hy k o n rfl)) h1, h2⟩
theorem AR.monoK {Z : Nat → Prop} {β β' : Beta} {H : Hp} (h : AR p base rs A Z β H) (hb : ∀ κ b N, β' κ = some (.blk b N) → ∃ κ' N', β κ' = some (.blk b N')) : AR p base rs A Z β' H := ⟨h.1, fun j hj hjA => by
  obtain ⟨h1, h2, h3, h4⟩ := h.2 j hj hjA
  refine ⟨h1, h2, h3, fun k N hk => ?_⟩
  obtain ⟨κ', N', hk'⟩ := hb k _ N hk
  exact h4 κ' N' hk'⟩
theorem set_at {α : Type} {l : List α} {i j : Nat} {x e : α} (h : (l.set i x)[j]? = some e) : (j = i ∧ e = x) ∨ (j ≠ i ∧ l[j]? = some e) := by
  rw [List.getElem?_set] at h
  split at h
  · rename_i e'
    split at h
    · exact .inl ⟨e'.symm, (Option.some.inj h).symm⟩
    · cases h
  · rename_i e'; exact .inr ⟨fun h => e' h.symm, h⟩
theorem noKM_at {kb : Nat} : ∀ {es : List (Int × ME)} {i : Nat} {y : Int} {d : DC}, noKM kb es = true → es[i]? = some (y, .out d) → noKC kb d = true
  | [], _, _, _, _, h => by simp at h
  | (_, .row _) :: es, 0, _, _, _, h => by simp at h
  | (_, .row _) :: es, i + 1, _, _, hk, h => noKM_at (es := es) hk (by simpa using h)
  | (_, .out c) :: es, i, _, _, hk, h => by
    simp only [noKM] at hk
    split at hk
    · rename_i hc
      cases i with
      | zero => simp at h; rw [← h.2]; exact hc
      | succ i => exact noKM_at (es := es) hk (by simpa using h)
    · cases hk
theorem lk2_mt_put {S : Bx} {kb : Nat} {es es1 : List (Int × ME)} (hb : lk S kb = some (.mt es)) (κ : Key) : lk2 (put kb (.mt es1) S) κ = if κ.1 = kb then (match κ.2 with | 0 => some (.mp 0 (mtV kb 0 es1)) | i + 1 => mtRow es1[i]?) else lk2 S κ := by
  obtain ⟨k, i⟩ := κ
  by_cases e : k = kb
  · subst e
    rw [if_pos rfl]
    have hl : lk (put k (.mt es1) S) k = some (.mt es1) := by rw [lk_put, if_pos rfl, hb]; rfl
    cases i with
    | zero => simp only [lk2, hl]
    | succ i => simp only [lk2, hl]
  · rw [if_neg e]
    exact lk2_congr (by rw [lk_put, if_neg e])
theorem SR.detach {Z : Nat → Prop} {β : Beta} {H : Hp} (hS : SR p Z β H S nk) {kb i : Nat} {y : Int} {es : List (Int × ME)} {q : List FD} (hb : lk S kb = some (.mt es)) (hi : es[i]? = some (y, .row q)) (hKS : noKS kb S = true) (hKM : noKM kb es = true) :
    SR p Z (outB β nk kb i) H ((nk, .data q) :: put kb (.mt (es.set i (y, .out (.own nk 0 q.length 1)))) S) (nk + 1) ∧ BLeK kb β (outB β nk kb i) ∧ (∀ κ b N, outB β nk kb i κ = some (.blk b N) → ∃ κ' N', β κ' = some (.blk b N')) := by
  have hkn := hS.lt hb
  have hrow : lk2 S (kb, i + 1) = some (.data q) := by simp only [lk2, hb, hi, mtRow]
  have hself : outB β nk kb i (nk, 0) = β (kb, i + 1) := by simp [outB]
  have hgone : outB β nk kb i (kb, i + 1) = none := by simp [outB]
  have hoth : ∀ κ, κ ≠ (nk, 0) → κ ≠ (kb, i + 1) → outB β nk kb i κ = β κ := fun κ h1 h2 => by simp [outB, h1, h2]
  have hB : BLeK kb β (outB β nk kb i) := fun κ s hne hκ => by
    rw [hoth κ (fun e => by have := hS.lt1 hκ; rw [e] at this; simp only at this; omega) (fun e => by rw [e] at hne; simp at hne)]
    exact hκ
  have himg : ∀ κ b N, outB β nk kb i κ = some (.blk b N) → ∃ κ', β κ' = some (.blk b N) ∧ ((κ = (nk, 0) ∧ κ' = (kb, i + 1)) ∨ (κ ≠ (nk, 0) ∧ κ ≠ (kb, i + 1) ∧ κ' = κ)) := fun κ b N h => by
    by_cases e1 : κ = (nk, 0)
    · subst e1; rw [hself] at h; exact ⟨_, h, .inl ⟨rfl, rfl⟩⟩
    · by_cases e2 : κ = (kb, i + 1)
      · subst e2; rw [hgone] at h; cases h
      · rw [hoth κ e1 e2] at h; exact ⟨κ, h, .inr ⟨e1, e2, rfl⟩⟩
  refine ⟨⟨hS.wf, hS.lo, hS.z, hS.zlo, hS.zz, hS.glob, fun κ hκ => ?_, fun κ b N hκ => ?_, fun κ x hκ => ?_, fun κ κ' x x' b N N' hj hj' h1 h2 => ?_, fun κ b N hκ => ?_, fun κ hκ h0 => ?_, Nat.le_succ_of_le hS.ancn⟩, hB, fun κ b N h => by obtain ⟨κ', h', _⟩ := himg κ b N h; exact ⟨κ', N, h'⟩⟩
  · rw [hoth κ (fun e => by rw [e] at hκ; simp only at hκ; omega) (fun e => by rw [e] at hκ; simp only at hκ; omega)]
    exact hS.nk κ (by omega)
  · obtain ⟨κ', h', _⟩ := himg κ b N hκ
    exact hS.bd κ' b N h'
  · rw [lk2_cons rfl] at hκ
    split at hκ
    · rename_i e1
      split at hκ
      · rename_i e2
        obtain rfl := key_eq e1 e2
        obtain rfl := Option.some.inj hκ
        obtain ⟨s, hs, hbx⟩ := hS.box _ _ hrow
        refine ⟨s, by rw [hself]; exact hs, ?_⟩
        exact BoxR.monoK hB rfl hbx
      · cases hκ
    · rename_i e1
      rw [lk2_mt_put hb] at hκ
      split at hκ
      · rename_i e2
        obtain ⟨k, j⟩ := κ
        simp only at e2
        subst e2
        cases j with
        | zero =>
          simp only at hκ
          obtain rfl := Option.some.inj hκ
          obtain ⟨s, hs, hbx⟩ := hS.box (k, 0) (.mp 0 (mtV k 0 es)) (by simp only [lk2, hb])
          refine ⟨s, hB _ _ (.inr rfl) hs, ?_⟩
          cases s with
          | nil =>
            have : es = [] := by
              cases es with
              | nil => rfl
              | cons e es => obtain ⟨y', e⟩ := e; cases e <;> cases hbx
            subst this; simp at hi
          | blk b N =>
            obtain ⟨g1, g2, g3, cs, rest, ⟨es', g4, g5, g6⟩, g8, g7⟩ := hbx
            have g8 : rest = [] := g8
            subst g8
            rw [List.append_nil] at g6
            have hent := ent_of (kb := k) (i := 0) g5 (by rw [g6]; exact g7)
            have hent' : EntR Z H (outB β nk k i) k 0 (es.set i (y, .out (.own nk 0 q.length 1))) es' := hent.mono (by simp) fun j e e1 he he1 => by
              rw [Nat.zero_add]
              rcases set_at he1 with ⟨rfl, rfl⟩ | ⟨hne, he1⟩
              · rw [hi] at he
                obtain rfl := Option.some.inj he
                refine ⟨rfl, fun c hc => ?_⟩
                rcases hc with ⟨h1, h2⟩ | ⟨b', N', cap, ex, h1, h2⟩
                · exact .inl ⟨by rw [hself]; exact h1, h2⟩
                · exact .inr ⟨b', N', cap, ex, by rw [hself]; exact h1, h2⟩
              · rw [he] at he1
                obtain rfl := Option.some.inj he1
                refine ⟨rfl, fun c hc => ?_⟩
                obtain ⟨y', e⟩ := e
                cases e with
                | out d => exact RD.monoK hB (noKM_at hKM he) hc
                | row r =>
                  have hk1 : outB β nk k i (k, j + 1) = β (k, j + 1) := hoth _ (fun e => by have := (Prod.mk.inj e).1; omega) (fun e => by have := (Prod.mk.inj e).2; omega)
                  rcases hc with ⟨h1, h2⟩ | ⟨b', N', cap, ex, h1, h2⟩
                  · exact .inl ⟨hk1.trans h1, h2⟩
                  · exact .inr ⟨b', N', cap, ex, hk1.trans h1, h2⟩
            obtain ⟨t1, t2⟩ := ent_to hent'
            exact ⟨g1, g2, g3, MF es', [], ⟨es', g4, t1, by simp⟩, rfl, t2⟩
        | succ j =>
          simp only at hκ
          obtain ⟨y', r', h1, rfl⟩ := mtRow_at hκ
          rcases set_at h1 with ⟨rfl, h2⟩ | ⟨hne, h2⟩
          · cases h2
          · obtain ⟨s, hs, hbx⟩ := hS.box (k, j + 1) (.data r') (by simp only [lk2, hb, h2, mtRow])
            exact ⟨s, by rw [hoth _ (fun e => by have := (Prod.mk.inj e).1; omega) (fun e => by have := (Prod.mk.inj e).2; omega)]; exact hs, BoxR.monoK hB rfl hbx⟩
      · rename_i e2
        obtain ⟨s, hs, hbx⟩ := hS.box κ x hκ
        exact ⟨s, hB _ _ (.inl e2) hs, BoxR.monoK hB (lk2_noK hKS hκ e2) hbx⟩
  · have live : ∀ (κ : Key) w, lk ((nk, .data q) :: put kb (.mt (es.set i (y, .out (.own nk 0 q.length 1)))) S) κ.1 = some w → κ.1 ≠ nk → ∃ w', lk S κ.1 = some w' := fun κ w hw hne => by
      rw [lk_cons, if_neg (fun h => hne h.symm), lk_put] at hw
      split at hw
      · cases hl : lk S κ.1 with
        | none => rw [hl] at hw; cases hw
        | some w' => exact ⟨w', rfl⟩
      · exact ⟨w, hw⟩
    obtain ⟨κ1, b1, c1⟩ := himg κ b N h1
    obtain ⟨κ2, b2, c2⟩ := himg κ' b N' h2
    have l1 : ∃ w, lk S κ1.1 = some w := by
      rcases c1 with ⟨_, rfl⟩ | ⟨e1, _, rfl⟩
      · exact ⟨_, hb⟩
      · exact live κ1 x hj (fun e => by have := hS.lt1 b1; omega)
    have l2 : ∃ w, lk S κ2.1 = some w := by
      rcases c2 with ⟨_, rfl⟩ | ⟨e1, _, rfl⟩
      · exact ⟨_, hb⟩
      · exact live κ2 x' hj' (fun e => by have := hS.lt1 b2; omega)
    obtain ⟨w1, l1⟩ := l1
    obtain ⟨w2, l2⟩ := l2
    have := hS.inj κ1 κ2 w1 w2 b N N' l1 l2 b1 b2
    rcases c1 with ⟨r1, r2⟩ | ⟨r1, r2, r3⟩
    · rcases c2 with ⟨s1, s2⟩ | ⟨s1, s2, s3⟩
      · rw [r1, s1]
      · exact absurd (by rw [← s3, ← this, r2]) s2
    · rcases c2 with ⟨s1, s2⟩ | ⟨s1, s2, s3⟩
      · exact absurd (by rw [← r3, this, s2]) r2
      · rw [← r3, this, s3]
  · obtain ⟨κ', h', _⟩ := himg κ b N hκ
    exact hS.blo κ' b N h'
  · have := hS.ancn
    rw [hoth κ (fun e => by rw [e] at hκ; simp only at hκ; omega) (fun e => by rw [e] at h0; cases h0)]
    exact hS.anch κ hκ h0
end
end Go.Ab

/- Maps of rows: looked up, put back, written. -/
namespace Go.Ab
section
variable {p : Par} {base rs n : Nat} {Q : DEnv → Bx → Nat → Prop} {r : List SOper} {W : Wt} {A : List Nat} {E : DEnv} {S : Bx} {nk : Nat} {id : Nat} {dst : Option Nat} {aid : Option Nat} {ws : List Nat} {keep : Bool}

theorem dw_mlook {z : V} {m k : Opd} {kb i : Nat} {y : Int} {es : List (Int × ME)} {q : List FD} (hm : ro E m = some (.one (.om kb))) (hk : ro E k = some (.one (.f (.c (.int .i64 y))))) (hb : lk S kb = some (.mt es)) (hi : es[i]? = some (y, .row q)) (hf : ∀ (j : Nat) (e : Int × ME), j < i → es[j]? = some e → e.1 ≠ y) (hKS : noKS kb S = true) (hKM : noKM kb es = true) (hKE : noKE kb E = true) (hW : wOk0 S kb W = true)
    (h : DPW p base rs Q r W A (setD E dst (.one (.own nk 0 q.length 1))) ((nk, .data q) :: put kb (.mt (es.set i (y, .out (.own nk 0 q.length 1)))) S) (nk + 1)) : DPW p base rs Q (⟨id, dst, .l (.lookup z false m k), none, aid, ws, false⟩ :: r) W A E S nk := .mk fun Z β H F c hS hE hC hA => by
  obtain ⟨cm, hcm, hrm⟩ := ro_ok hE hm
  obtain ⟨b, N, es', rfl, h1, h2, h3, h4, h5, h6⟩ := hS.mtb hb hrm
  obtain ⟨v, g1, g2⟩ := h6.find (n := 0) hi rfl hf
  obtain ⟨cv, g3, g4⟩ := h6.at hi
  rw [g2] at g3
  obtain ⟨_, rfl⟩ := Prod.mk.inj (Option.some.inj g3)
  obtain ⟨hS', hB, himg⟩ := hS.detach hb hi hKS hKM
  simp only [wOps, wantedA, if_true, aLoad, hcm, int_of hE hk, isIntKey, h5, g1, okRes, Bool.false_eq_true, if_false]
  refine h.run Z _ H _ c hS' ((hE.monoK hB hKE).set dst ⟨_, rfl, ?_⟩) (hC.monoK (wOk0_ne hW) hB) (hA.monoK himg)
  have hself : outB β nk kb i (nk, 0) = β (kb, i + 1) := by simp [outB]
  rw [Nat.zero_add] at g4
  rcases g4 with ⟨e1, e2⟩ | ⟨b', N', cap, ex, e1, e2⟩
  · exact .inl ⟨by rw [hself]; exact e1, e2⟩
  · exact .inr ⟨b', N', cap, ex, by rw [hself]; exact e1, e2⟩

/-- a row with a name of its own is the map's again -/
def inB (β : Beta) (kd kb i : Nat) : Beta := fun κ => if κ = (kb, i + 1) then β (kd, 0) else β κ
theorem SR.attach {Z : Nat → Prop} {β : Beta} {H : Hp} (hS : SR p Z β H S nk) {kb kd i : Nat} {y : Int} {es : List (Int × ME)} {q : List FD} (hb : lk S kb = some (.mt es)) (hd : lk S kd = some (.data q)) (hi : es[i]? = some (y, .out (.own kd 0 q.length 1))) (hKS : noKS kb S = true) (hKM : noKM kb es = true) :
    SR p Z (inB β kd kb i) H (era kd (put kb (.mt (es.set i (y, .row q))) S)) nk ∧ BLeK kb β (inB β kd kb i) ∧ (∀ κ b N, inB β kd kb i κ = some (.blk b N) → ∃ κ' N', β κ' = some (.blk b N')) := by
  have hkn := hS.lt hb
  have hdn := hS.lt hd
  have hne : kd ≠ kb := fun e => by rw [e, hb] at hd; cases hd
  have hself : inB β kd kb i (kb, i + 1) = β (kd, 0) := by simp [inB]
  have hoth : ∀ κ, κ ≠ (kb, i + 1) → inB β kd kb i κ = β κ := fun κ h => by simp [inB, h]
  have hB : BLeK kb β (inB β kd kb i) := fun κ s hn hκ => by
    rw [hoth κ (fun e => by rw [e] at hn; simp at hn)]
    exact hκ
  have himg : ∀ κ b N, inB β kd kb i κ = some (.blk b N) → ∃ κ', β κ' = some (.blk b N) ∧ ((κ = (kb, i + 1) ∧ κ' = (kd, 0)) ∨ (κ ≠ (kb, i + 1) ∧ κ' = κ)) := fun κ b N h => by
    by_cases e2 : κ = (kb, i + 1)
    · subst e2; rw [hself] at h; exact ⟨_, h, .inl ⟨rfl, rfl⟩⟩
    · rw [hoth κ e2] at h; exact ⟨κ, h, .inr ⟨e2, rfl⟩⟩
  refine ⟨⟨hS.wf, hS.lo, hS.z, hS.zlo, hS.zz, hS.glob, fun κ hκ => ?_, fun κ b N hκ => ?_, fun κ x hκ => ?_, fun κ κ' x x' b N N' hj hj' h1 h2 => ?_, fun κ b N hκ => ?_, fun κ hκ h0 => ?_, hS.ancn⟩, hB, fun κ b N h => by obtain ⟨κ', h', _⟩ := himg κ b N h; exact ⟨κ', N, h'⟩⟩
  · rw [hoth κ (fun e => by rw [e] at hκ; simp only at hκ; omega)]
    exact hS.nk κ hκ
  · obtain ⟨κ', h', _⟩ := himg κ b N hκ
    exact hS.bd κ' b N h'
  · rw [lk2_era] at hκ
    split at hκ
    · cases hκ
    · rename_i e1
      rw [lk2_mt_put hb] at hκ
      split at hκ
      · rename_i e2
        obtain ⟨k, j⟩ := κ
        simp only at e2
        subst e2
        cases j with
        | zero =>
          simp only at hκ
          obtain rfl := Option.some.inj hκ
          obtain ⟨s, hs, hbx⟩ := hS.box (k, 0) (.mp 0 (mtV k 0 es)) (by simp only [lk2, hb])
          refine ⟨s, hB _ _ (.inr rfl) hs, ?_⟩
          cases s with
          | nil =>
            have : es = [] := by
              cases es with
              | nil => rfl
              | cons e es => obtain ⟨y', e⟩ := e; cases e <;> cases hbx
            subst this; simp at hi
          | blk b N =>
            obtain ⟨g1, g2, g3, cs, rest, ⟨es', g4, g5, g6⟩, g8, g7⟩ := hbx
            have g8 : rest = [] := g8
            subst g8
            rw [List.append_nil] at g6
            have hent := ent_of (kb := k) (i := 0) g5 (by rw [g6]; exact g7)
            have hent' : EntR Z H (inB β kd k i) k 0 (es.set i (y, .row q)) es' := hent.mono (by simp) fun j e e1 he he1 => by
              rw [Nat.zero_add]
              rcases set_at he1 with ⟨rfl, rfl⟩ | ⟨hne', he1⟩
              · rw [hi] at he
                obtain rfl := Option.some.inj he
                refine ⟨rfl, fun c hc => ?_⟩
                rcases hc with ⟨h1, h2⟩ | ⟨b', N', cap, ex, h1, h2⟩
                · exact .inl ⟨by rw [hself]; exact h1, h2⟩
                · exact .inr ⟨b', N', cap, ex, by rw [hself]; exact h1, h2⟩
              · rw [he] at he1
                obtain rfl := Option.some.inj he1
                refine ⟨rfl, fun c hc => ?_⟩
                obtain ⟨y', e⟩ := e
                cases e with
                | out d => exact RD.monoK hB (noKM_at hKM he) hc
                | row r =>
                  have hk1 : inB β kd k i (k, j + 1) = β (k, j + 1) := hoth _ (fun e => by have := (Prod.mk.inj e).2; omega)
                  rcases hc with ⟨h1, h2⟩ | ⟨b', N', cap, ex, h1, h2⟩
                  · exact .inl ⟨hk1.trans h1, h2⟩
                  · exact .inr ⟨b', N', cap, ex, hk1.trans h1, h2⟩
            obtain ⟨t1, t2⟩ := ent_to hent'
            exact ⟨g1, g2, g3, MF es', [], ⟨es', g4, t1, by simp⟩, rfl, t2⟩
        | succ j =>
          simp only at hκ
          obtain ⟨y', r', h1, rfl⟩ := mtRow_at hκ
          rcases set_at h1 with ⟨rfl, h2⟩ | ⟨hne', h2⟩
          · obtain ⟨_, h2⟩ := Prod.mk.inj h2
            obtain rfl := ME.row.inj h2
            obtain ⟨s, hs, hbx⟩ := hS.box (kd, 0) (.data r') (lk2_of hd rfl)
            exact ⟨s, by rw [hself]; exact hs, BoxR.monoK hB rfl hbx⟩
          · obtain ⟨s, hs, hbx⟩ := hS.box (k, j + 1) (.data r') (by simp only [lk2, hb, h2, mtRow])
            exact ⟨s, by rw [hoth _ (fun e => by have := (Prod.mk.inj e).2; omega)]; exact hs, BoxR.monoK hB rfl hbx⟩
      · rename_i e2
        obtain ⟨s, hs, hbx⟩ := hS.box κ x hκ
        exact ⟨s, hB _ _ (.inl e2) hs, BoxR.monoK hB (lk2_noK hKS hκ e2) hbx⟩
  · have live : ∀ (κ : Key) w, lk (era kd (put kb (.mt (es.set i (y, .row q))) S)) κ.1 = some w → κ.1 ≠ kd ∧ ∃ w', lk S κ.1 = some w' := fun κ w hw => by
      rw [lk_era] at hw
      split at hw
      · cases hw
      · rename_i e
        rw [lk_put] at hw
        split at hw
        · cases hl : lk S κ.1 with
          | none => rw [hl] at hw; cases hw
          | some w' => exact ⟨e, w', rfl⟩
        · exact ⟨e, w, hw⟩
    obtain ⟨κ1, b1, c1⟩ := himg κ b N h1
    obtain ⟨κ2, b2, c2⟩ := himg κ' b N' h2
    obtain ⟨n1, w1, l1⟩ := live κ x hj
    obtain ⟨n2, w2, l2⟩ := live κ' x' hj'
    have l1' : ∃ w, lk S κ1.1 = some w := by
      rcases c1 with ⟨_, rfl⟩ | ⟨_, rfl⟩
      · exact ⟨_, hd⟩
      · exact ⟨_, l1⟩
    have l2' : ∃ w, lk S κ2.1 = some w := by
      rcases c2 with ⟨_, rfl⟩ | ⟨_, rfl⟩
      · exact ⟨_, hd⟩
      · exact ⟨_, l2⟩
    obtain ⟨w1', l1'⟩ := l1'
    obtain ⟨w2', l2'⟩ := l2'
    have := hS.inj κ1 κ2 w1' w2' b N N' l1' l2' b1 b2
    rcases c1 with ⟨r1, r2⟩ | ⟨r1, r2⟩
    · rcases c2 with ⟨s1, s2⟩ | ⟨s1, s2⟩
      · rw [r1, s1]
      · exact absurd (by rw [← s2, ← this, r2]) n2
    · rcases c2 with ⟨s1, s2⟩ | ⟨s1, s2⟩
      · exact absurd (by rw [← r2, this, s2]) n1
      · rw [← r2, this, s2]
  · obtain ⟨κ', h', _⟩ := himg κ b N hκ
    exact hS.blo κ' b N h'
  · rw [hoth κ (fun e => by rw [e] at h0; cases h0)]
    exact hS.anch κ hκ h0
theorem ds_att {s : SC} {Q : Exit → DEnv → Bx → Nat → Prop} (kb kd i : Nat) {y : Int} {es : List (Int × ME)} {q : List FD} (hb : lk S kb = some (.mt es)) (hd : lk S kd = some (.data q)) (hi : es[i]? = some (y, .out (.own kd 0 q.length 1))) (hKS : noKS kb S = true) (hKM : noKM kb es = true) (hKE : noKE kb E = true)
    (h : DPS p n s Q E (era kd (put kb (.mt (es.set i (y, .row q))) S)) nk) : DPS p n s Q E S nk := .mk fun Z β H F hS hE => by
  obtain ⟨hS', hB, _⟩ := hS.attach hb hd hi hKS hKM
  exact h.run Z _ H F hS' (hE.monoK hB hKE)
theorem dw_att {l : List SOper} (kb kd i : Nat) {y : Int} {es : List (Int × ME)} {q : List FD} (hb : lk S kb = some (.mt es)) (hd : lk S kd = some (.data q)) (hi : es[i]? = some (y, .out (.own kd 0 q.length 1))) (hKS : noKS kb S = true) (hKM : noKM kb es = true) (hKE : noKE kb E = true) (hW : wOk0 S kb W = true)
    (h : DPW p base rs Q l W A E (era kd (put kb (.mt (es.set i (y, .row q))) S)) nk) : DPW p base rs Q l W A E S nk := .mk fun Z β H F c hS hE hC hA => by
  obtain ⟨hS', hB, himg⟩ := hS.attach hb hd hi hKS hKM
  exact h.run Z _ H F c hS' (hE.monoK hB hKE) (hC.monoK (wOk0_ne hW) hB) (hA.monoK himg)

/-- a map of rows is written -/
theorem SR.mtupd {Z : Nat → Prop} {β : Beta} {H : Hp} (hS : SR p Z β H S nk) {kb b N : Nat} {es es1 : List (Int × ME)} {es' : List (V × V)} (hb : lk S kb = some (.mt es)) (hs : β (kb, 0) = some (.blk b N)) (he : EntR Z H β kb 0 es1 es') (hrows : ∀ (i : Nat) (x : Bk), mtRow es1[i]? = some x → mtRow es[i]? = some x) :
    SR p Z β (H.add b (.mp es')) (put kb (.mt es1) S) nk ∧ ZLe Z H Z (H.add b (.mp es')) := by
  obtain ⟨s, hs', hbx⟩ := hS.box (kb, 0) (.mp 0 (mtV kb 0 es)) (by simp only [lk2, hb])
  rw [hs] at hs'
  obtain rfl := Option.some.inj hs'
  obtain ⟨hz, hlo, hlt, _⟩ := hbx
  have hg : ∀ b', b' ≠ b → (H.add b (.mp es')).get b' = H.get b' := fun b' hb' => Hp.get_add_ne _ _ hb'
  have hzg : ∀ b', Z b' → (H.add b (.mp es')).get b' = H.get b' := fun b' hb' => hg b' fun e => hz (e ▸ hb')
  have hZ : ZLe Z H Z (H.add b (.mp es')) := ZLe.of_get (fun _ h => h) hzg
  refine ⟨⟨fun b' bk hb' => ?_, hS.lo, hS.z, hS.zlo, hS.zz, fun b' bk hb' => ?_, hS.nk, hS.bd, fun κ x hκ => ?_, fun κ κ' x x' b' M M' hj hj' => ?_, hS.blo, hS.anch, hS.ancn⟩, hZ⟩
  · rw [Hp.get_add] at hb'
    split at hb'
    · rename_i e; subst e; exact hlt
    · exact hS.wf b' bk hb'
  · obtain ⟨h1, h2⟩ := hS.glob b' bk hb'
    exact ⟨h1, by rw [hzg b' h1]; exact h2⟩
  · have old : ∀ (κ : Key) x, lk2 S κ = some x → κ ≠ (kb, 0) → ∃ s, β κ = some s ∧ BoxR p Z (H.add b (.mp es')) β x s := fun κ x hκ hne => by
      obtain ⟨s, hsj, hbj⟩ := hS.box κ x hκ
      obtain ⟨z, hz'⟩ := lk2_lk hκ
      refine ⟨s, hsj, BoxR.mono (H := H) (BLe.refl _) (Nat.le_refl _ : H.nx ≤ (H.add b (.mp es')).nx) (fun b' hb' => ?_) hbj⟩
      rcases hb' with hb' | ⟨M, rfl⟩
      · exact hzg b' hb'
      · exact hg b' fun e' => hne (hS.inj κ (kb, 0) z _ b M N hz' hb (e' ▸ hsj) hs)
    rw [lk2_mt_put hb] at hκ
    split at hκ
    · rename_i e
      obtain ⟨k, j⟩ := κ
      simp only at e
      subst e
      cases j with
      | zero =>
        simp only at hκ
        obtain rfl := Option.some.inj hκ
        obtain ⟨t1, t2⟩ := ent_to he
        exact ⟨_, hs, hz, hlo, hlt, MF es', [], ⟨es', by simp, t1, by simp⟩, rfl, All2.mono (fun _ _ => RD.mono hZ (BLe.refl _)) t2⟩
      | succ j =>
        simp only at hκ
        exact old (k, j + 1) x (by simp only [lk2, hb]; exact hrows j x hκ) (fun e => by cases (Prod.mk.inj e).2)
    · rename_i e
      exact old κ x hκ fun e' => e (by rw [e'])
  · have f : ∀ i z, lk (put kb (.mt es1) S) i = some z → ∃ z', lk S i = some z' := fun i z hz => by
      rw [lk_put] at hz
      split at hz
      · cases hl : lk S i with
        | none => rw [hl] at hz; cases hz
        | some q => exact ⟨q, rfl⟩
      · exact ⟨z, hz⟩
    obtain ⟨z1, e1⟩ := f _ x hj
    obtain ⟨z2, e2⟩ := f _ x' hj'
    exact hS.inj κ κ' z1 z2 b' M M' e1 e2
theorem EntR.set {Z : Nat → Prop} {H : Hp} {β : Beta} {kb : Nat} {d : DC} {cv : C} {y : Int} : ∀ {j i : Nat} {es : List (Int × ME)} {es' : List (V × V)} {e : ME}, EntR Z H β kb j es es' → es[i]? = some (y, e) → RD Z H β d cv → EntR Z H β kb j (es.set i (y, .out d)) (mset es' i (.one cv))
  | j, i, [], _, e, _, h, _ => by simp at h
  | j, i, (_, .row _) :: es, [], e, h, _, _ => h.elim
  | j, i, (_, .out _) :: es, [], e, h, _, _ => h.elim
  | j, 0, e0 :: es, x :: es', e, h, hi, hd => by
    obtain ⟨h1, _, h3⟩ := EntR.cons.1 h
    simp at hi; subst hi
    exact EntR.cons.2 ⟨h1, ⟨cv, rfl, hd⟩, h3⟩
  | j, i + 1, e0 :: es, x :: es', e, h, hi, hd => by
    obtain ⟨h1, h2, h3⟩ := EntR.cons.1 h
    have := EntR.set h3 (by simpa using hi) hd
    exact EntR.cons.2 ⟨h1, h2, this⟩
theorem EntR.push {Z : Nat → Prop} {H : Hp} {β : Beta} {kb : Nat} {d : DC} {cv : C} {y : Int} : ∀ {j : Nat} {es : List (Int × ME)} {es' : List (V × V)}, EntR Z H β kb j es es' → RD Z H β d cv → EntR Z H β kb j (es ++ [(y, .out d)]) (es' ++ [(.one (.int .i64 y), .one cv)])
  | j, [], [], _, hd => ⟨rfl, ⟨cv, rfl, hd⟩, trivial⟩
  | j, [], _ :: _, h, _ => h.elim
  | j, (_, .row _) :: es, [], h, _ => h.elim
  | j, (_, .out _) :: es, [], h, _ => h.elim
  | j, e0 :: es, x :: es', h, hd => by
    obtain ⟨h1, h2, h3⟩ := EntR.cons.1 h
    exact EntR.cons.2 ⟨h1, h2, EntR.push h3 hd⟩
theorem CR.mtupd {Z : Nat → Prop} {β : Beta} {H H' : Hp} {b kb N : Nat} {c : Ctx} {x : Bk} (hS : SR p Z β H S nk) (hk : lk S kb = some x) (hC : CR W Z β H c) (hZ : ZLe Z H Z H') (hg : ∀ b', b' ≠ b → H'.get b' = H.get b') (hb : β (kb, 0) = some (.blk b N)) (hw : wOk0 S kb W = true) : CR W Z β H' c := CR.upd (k := (kb, 0)) hS hk hC hZ hg hb hw
theorem dw_mupd {m k x : Opd} {kb i : Nat} {y : Int} {es : List (Int × ME)} {e : ME} {d : DC} (hm : ro E m = some (.one (.om kb))) (hk : ro E k = some (.one (.f (.c (.int .i64 y))))) (hx : ro E x = some (.one d)) (hb : lk S kb = some (.mt es)) (hi : es[i]? = some (y, e)) (hf : ∀ (j : Nat) (e : Int × ME), j < i → es[j]? = some e → e.1 ≠ y) (hW : wOk0 S kb W = true)
    (h : DPW p base rs Q r W A (setD E dst .undef) (put kb (.mt (es.set i (y, .out d))) S) nk) : DPW p base rs Q (⟨id, dst, .e (.mapupd m k x), none, aid, ws, keep⟩ :: r) W A E S nk := .mk fun Z β H F c hS hE hC hA => by
  obtain ⟨cm, hcm, hrm⟩ := ro_ok hE hm
  obtain ⟨cx, hcx, hrx⟩ := ro_ok hE hx
  obtain ⟨b, N, es', rfl, h1, h2, h3, h4, h5, h6⟩ := hS.mtb hb hrm
  obtain ⟨v, g1, g2⟩ := h6.find (n := 0) hi rfl hf
  obtain ⟨hS', hZ⟩ := hS.mtupd (es1 := es.set i (y, .out d)) hb h1 (h6.set hi hrx) (fun j z hz => by
    obtain ⟨y', r', t1, rfl⟩ := mtRow_at hz
    rcases set_at t1 with ⟨_, t2⟩ | ⟨_, t2⟩
    · cases t2
    · rw [t2]; rfl)
  simp only [wOps, wantedA, if_true, aEff, hcm, int_of hE hk, isIntKey, hcx, isOne, h5, g1, Bool.and_self, Nat.zero_add]
  have hg : ∀ b', b' ≠ b → (H.add b (.mp (mset es' i (.one cx)))).get b' = H.get b' := fun b' hb' => Hp.get_add_ne _ _ hb'
  have hC' := hC.mtupd hS hb hZ hg h1 hW
  exact ⟨hC'.watch ws, h.run Z β _ _ c hS' ((hE.mono hZ (BLe.refl _)).set dst undef_ok) hC' (hA.upd rfl hg h1)⟩
theorem dw_mupd0 {m k x : Opd} {kb : Nat} {y : Int} {es : List (Int × ME)} {d : DC} (hm : ro E m = some (.one (.om kb))) (hk : ro E k = some (.one (.f (.c (.int .i64 y))))) (hx : ro E x = some (.one d)) (hb : lk S kb = some (.mt es)) (hn : ∀ e ∈ es, e.1 ≠ y) (hW : wOk0 S kb W = true)
    (h : DPW p base rs Q r W A (setD E dst .undef) (put kb (.mt (es ++ [(y, .out d)])) S) nk) : DPW p base rs Q (⟨id, dst, .e (.mapupd m k x), none, aid, ws, keep⟩ :: r) W A E S nk := .mk fun Z β H F c hS hE hC hA => by
  obtain ⟨cm, hcm, hrm⟩ := ro_ok hE hm
  obtain ⟨cx, hcx, hrx⟩ := ro_ok hE hx
  obtain ⟨b, N, es', rfl, h1, h2, h3, h4, h5, h6⟩ := hS.mtb hb hrm
  obtain ⟨hS', hZ⟩ := hS.mtupd (es1 := es ++ [(y, .out d)]) hb h1 (h6.push hrx) (fun j z hz => by
    obtain ⟨y', r', t1, rfl⟩ := mtRow_at hz
    rw [List.getElem?_append] at t1
    split at t1
    · rw [t1]; rfl
    · rw [List.getElem?_singleton] at t1
      split at t1
      · cases t1
      · cases t1)
  simp only [wOps, wantedA, if_true, aEff, hcm, int_of hE hk, isIntKey, hcx, isOne, h5, h6.none hn, Bool.and_self]
  have hg : ∀ b', b' ≠ b → (H.add b (.mp (es' ++ [(.one (.int .i64 y), .one cx)]))).get b' = H.get b' := fun b' hb' => Hp.get_add_ne _ _ hb'
  have hC' := hC.mtupd hS hb hZ hg h1 hW
  exact ⟨hC'.watch ws, h.run Z β _ _ c hS' ((hE.mono hZ (BLe.refl _)).set dst undef_ok) hC' (hA.upd rfl hg h1)⟩
end
end Go.Ab

/- Sorting points in a box. -/
namespace Go.Ab.Fn
open Go.Ab Go.Proofs
set_option linter.unusedSimpArgs false

/-- a closed call, by the kernel -/
theorem dk_ev {f : FuncId} {ds : List DV} {vs : List V} {c : C} {fuel : Nat} (hex : All2 (fun d v => exV d = some v) ds vs) (hcl : vs.all V.closed = true) (hc : c.closed = true) (h : evVal tab.get fuel f vs (H00 5) = some (.one c)) : DK f ds fun d => d = .one (.f (.c c)) := by
  refine DCalls.of_pure hex hc fun H hH => ?_
  have hg : ∀ b bk, (H00 5).get b = some bk → b = 0 ∧ bk = offs := by
    intro b bk h
    by_cases hb : b = 0
    · subst hb; exact ⟨rfl, (Option.some.inj h).symm⟩
    · simp [Hp.get, H00, T.get_nd, hb] at h
  refine (ACalls.sub (H := H) (evVal_ok mix tabOk h) hcl (by decide) (fun b bk h => ?_) (fun b bk h => ?_) (fun v _ h => by rw [h]; exact hc)).mono fun v H' ⟨⟨_, h⟩, e⟩ => ⟨h, e⟩
  · rw [(hg b bk h).1]; decide
  · obtain ⟨rfl, rfl⟩ := hg b bk h
    refine ⟨hH 0 offs rfl, rfl, fun i c hc => ?_⟩
    simp only [offs, B.cell] at hc
    split at hc
    · rename_i hi
      simp only [T.get_lf, Option.getD_none, Option.some.injEq] at hc
      have : ∀ j, j < 12 → (List.getD [C.int IntKind.i64 0, .int .i64 0, .int .i64 0, .int .i64 1, .int .i64 0, .int .i64 2, .int .i64 1, .int .i64 0, .int .i64 1, .int .i64 1, .int .i64 1, .int .i64 2] j .nilp).closed = true := by decide
      rw [← hc]
      exact this _ (Nat.mod_lt _ (by decide))
    · cases hc
theorem d_len0 : DK 58 [.one (.f (.c (.int .u64 0)))] fun d => d = .one (.f (.c (.int .i64 0))) := dk_ev (vs := [.one (.int .u64 0)]) (fuel := 100) ⟨rfl, trivial⟩ rfl rfl (by kernel_rfl)
abbrev noPts : DV := .one (.f (.sl 2 0 []))
abbrev fn48 : DV := .one (.f (.c (.fn 48 [])))
theorem d_ins0 : DK 62 [noPts, .int 0, .int 0, fn48] fun d => d = .tup [] := by
  refine dfn_ok cp62 rfl GHro fun Z0 lo => ?_
  repeat (first | refine dw_p rfl ?_ | refine dw_nil ?_ | refine ds_seq ?_ | refine ds_ops mix (fun base => ?_) | refine ds_block ?_)
  refine ds_loop (fun m E S nk => E = [(2, .int 0), (8, .int 1)] ∧ S = [] ∧ nk = 0) ⟨0, _, _, _, [], ?wk, rfl, rfl, rfl⟩ ?_
  case wk => exact ⟨by repeat (first | exact trivial | refine ⟨by first | rfl | exact congrArg (fun z => some (DV.int z)) (dwrap (by omega) (by omega)), rfl, ?_⟩), by repeat (first | exact trivial | refine ⟨by first | rfl | exact congrArg (fun z => some (Bk.data z)) (by assumption), rfl, rfl, ?_⟩), rfl, rfl⟩
  rintro m E S nk ⟨rfl, rfl, rfl⟩
  repeat (first | refine dw_p rfl ?_ | refine dw_nil ?_ | refine ds_seq ?_ | refine ds_ops mix (fun base => ?_))
  refine ds_if rfl (fun ht => by cases ht) (fun _ => ?_)
  repeat (first | refine ds_exit ?_)
  exact ⟨_, rfl, rfl, rfl⟩
theorem d_pdq0 : DK 57 [noPts, .int 0, .int 0, .int 0, fn48] fun d => d = .tup [] := by
  refine dfn_ok cp57 rfl GHro fun Z0 lo => ?_
  repeat (first | refine dw_p rfl ?_ | refine dw_nil ?_ | refine ds_seq ?_ | refine ds_ops mix (fun base => ?_) | refine ds_block ?_)
  refine ds_loop (fun m E S nk => E = [(0, noPts), (1, .int 0), (2, .int 0), (3, .int 0), (4, fn48)] ∧ S = [] ∧ nk = 0) ⟨0, _, _, _, [], ?wk, rfl, rfl, rfl⟩ ?_
  case wk => exact ⟨by repeat (first | exact trivial | refine ⟨by first | rfl | exact congrArg (fun z => some (DV.int z)) (dwrap (by omega) (by omega)), rfl, ?_⟩), by repeat (first | exact trivial | refine ⟨by first | rfl | exact congrArg (fun z => some (Bk.data z)) (by assumption), rfl, rfl, ?_⟩), rfl, rfl⟩
  rintro m E S nk ⟨rfl, rfl, rfl⟩
  repeat (first | refine dw_p rfl ?_ | refine dw_nil ?_ | refine ds_seq ?_ | refine ds_ops mix (fun base => ?_) | refine ds_block ?_)
  refine ds_if rfl (fun _ => ?_) (fun ht => by cases ht)
  repeat (first | refine dw_p rfl ?_ | refine ds_seq ?_ | refine ds_ops mix (fun base => ?_))
  refine dw_cf rfl rfl d_ins0 ?_
  rintro _ rfl
  repeat (first | refine dw_nil ?_)
  exact ds_ret ⟨_, rfl, rfl, rfl⟩
theorem d_sort0 : DK 47 [noPts, fn48] fun d => d = .tup [] := by
  refine dfn_ok cp47 rfl GHro fun Z0 lo => ?_
  repeat (first | refine dw_p rfl ?_ | refine dw_nil ?_ | refine ds_seq ?_ | refine ds_ops mix (fun base => ?_))
  refine dw_cf rfl rfl d_len0 ?_
  rintro _ rfl
  repeat (first | refine dw_p rfl ?_)
  refine dw_cf rfl rfl d_pdq0 ?_
  rintro _ rfl
  repeat (first | refine dw_nil ?_)
  exact ⟨_, rfl, rfl, rfl⟩

theorem ptF_C {Z : Nat → Prop} {H : Hp} : ∀ {l : List Pt2} {cs : List C}, All2 (RF Z H) (l.flatMap ptF) cs → cs = ptsC l
  | [], [], _ => rfl
  | [], _ :: _, h => h.elim
  | x :: l, cs, h => by
    match cs, h with
    | c1 :: c2 :: cs, ⟨h1, h2, h3⟩ =>
      cases h1; cases h2
      rw [ptF_C (l := l) h3]
      rfl
    | [_], h => exact h.2.elim
    | [], h => exact h.elim
theorem ptC_F {Z : Nat → Prop} {H : Hp} : ∀ l : List Pt2, All2 (RF Z H) (l.flatMap ptF) (ptsC l)
  | [] => trivial
  | x :: l => ⟨.c _ rfl, .c _ rfl, ptC_F l⟩

noncomputable abbrev parK (Z0 : Nat → Prop) (lo anc : Nat) (β0 : Beta) (H1 : Hp) : Par := ⟨Tryd.prog, 1, H00 1, Z0, lo, anc, β0, H1⟩
/-- contracts of functions that are handed names of boxes -/
abbrev DKX (f : FuncId) (ds : List DV) (S : Bx) (nk : Nat) (R : DV → Bx → Nat → Prop) : Prop := ∀ Z0 lo anc β0 H1, DX (parK Z0 lo anc β0 H1) f ds S nk R
theorem dxk_ok {f : FuncId} {sf : SFn} (hf : cpFn Tryd.prog 1 f = some sf) {ds : List DV} {S : Bx} {nk : Nat} {R : DV → Bx → Nat → Prop} (hn : Nat.ble ds.length sf.n = true)
    (h : ∀ Z β H lo, DPS (parK Z lo nk β H) sf.n sf.code (retO (parK Z lo nk β H) sf.res R) (argsD ds 0) S nk) : DKX f ds S nk R := fun Z0 lo anc β0 H1 => dx_ok (p := parK Z0 lo anc β0 H1) hf hn fun Z β H => h Z β H lo
theorem dx_sort {k nk : Nat} {l : List Pt2} {S : Bx} (hk : lk S k = some (.data (l.flatMap ptF))) (hpos : 0 < l.length) (hsz : l.length < 1000000000000) : DKX 47 [.one (.own k 0 l.length 2), fn48] S nk fun d S' nk' => d = .tup [] ∧ nk' = nk ∧ ∃ l' : List Pt2, l'.Perm l ∧ SortedP l' ∧ S' = put k (.data (l'.flatMap ptF)) S := by
  intro Z0 lo anc β0 H1 Z β H args hS ha
  match args, ha with
  | [v1, v2], ⟨h1, h2, _⟩ =>
    obtain ⟨c1, rfl, h1⟩ := h1
    obtain ⟨c2, rfl, h2⟩ := h2
    cases h2
    rcases h1 with ⟨_, h1, _⟩ | ⟨b, N, cap, ex, hb, rfl, hcap, hN⟩
    · omega
    · obtain ⟨s, hs, hbx⟩ := hS.box (k, 0) _ (lk2_of hk rfl)
      rw [hb] at hs
      obtain rfl := Option.some.inj hs
      obtain ⟨hz, hlo, hlt, cs, rest, hrow, hNl, hrel⟩ := hbx
      have hrow : Row H b (cs ++ rest) := hrow
      have hNl : (cs ++ rest).length = N := hNl
      obtain rfl := ptF_C hrel
      obtain ⟨⟨z, mm, hget⟩, hld⟩ := hrow
      have hin : 0 + l.length * 2 ≤ (ptsC l ++ rest).length := by rw [List.length_append, ptsC_len]; omega
      have hld' : H.loads b 0 (l.length * 2) = some (ptsC l) := by
        have := loads_take hld (m := l.length * 2) (by rw [List.length_append, ptsC_len]; omega)
        rw [this, List.take_append_of_le_length (by rw [ptsC_len]; omega), List.take_of_length_le (by rw [ptsC_len]; omega)]
      refine (sort_ok hget hin hld' hpos (by omega) ⟨_, ⟨z, mm, hget⟩, hld⟩).mono ?_
      rintro v H' ⟨rfl, l', hp, hso, hst⟩
      have hl' : l'.length = l.length := hp.length_eq
      obtain ⟨H2, e1, e2, e3, e4⟩ := Row.stores (cs := ptsC l') (i := 0) ⟨⟨z, mm, hget⟩, hld⟩ (by rw [List.length_append, ptsC_len, ptsC_len]; omega)
      rw [hst] at e1
      obtain rfl := Option.some.inj e1
      rw [setL_app (ptsC l') (ptsC l) rest 0 (by rw [ptsC_len, ptsC_len]; omega)] at e2
      have hset : setL (ptsC l) 0 (ptsC l') = ptsC l' := by
        have := dsetL_mid [] (ptsC l) (ptsC l') [] (by rw [ptsC_len, ptsC_len, hl'])
        simpa using this
      rw [hset] at e2
      obtain ⟨hS', hZ⟩ := hS.upd (x' := .data (l'.flatMap ptF)) (cs := ptsC l') (rest := rest) hk rfl hb (ptC_F l') e3 e4 rfl e2 (by rw [← hNl, List.length_append, List.length_append, ptsC_len, ptsC_len, hl'])
      exact ⟨.tup [], _, _, Z, β, hS', ⟨[], rfl, trivial⟩, hZ, fun _ _ h => h, rfl, rfl, l', hp, hso, rfl⟩
/-- an empty slice of the call's own -/
theorem ds_own0 {p : Par} {n : Nat} {Q : Exit → DEnv → Bx → Nat → Prop} {E : DEnv} {S : Bx} {nk : Nat} {s : SC} (t : Nat) {k esz : Nat} (ht : lk E t = some (.one (.own k 0 0 esz))) (h : DPS p n s Q ((t, .one (.f (.sl esz 0 []))) :: E) S nk) : DPS p n s Q E S nk := .mk fun Z β H F hS hE => by
  refine h.run Z β H F hS fun m d hd => ?_
  rw [lk_cons] at hd
  split at hd
  · rename_i e; subst e
    obtain rfl := Option.some.inj hd
    obtain ⟨v, hv, c, rfl, hr⟩ := hE _ _ ht
    refine ⟨_, hv, _, rfl, ?_⟩
    rcases hr with ⟨_, _, _, rfl⟩ | ⟨b, N, cap, ex, _, rfl, _, _⟩
    · exact RF.nil esz
    · exact RF.sl (cs := []) (fun h => by simp at h) (by simp) (Nat.zero_le _) (by simp [Hp.loads]) (fun i d c h => by simp at h)
  · exact hE m d hd
end Go.Ab.Fn

/- Deep contracts: new grids. -/
namespace Go.Ab.Fn
open Go.Ab Go.Proofs
set_option linter.unusedSimpArgs false

abbrev DKO (f : FuncId) (ds : List DV) (R : DV → Bx → Nat → Prop) : Prop := DCallsO Tryd.prog 1 (H00 1) f ds R
def boF (b : Bool) : FD := .c (.bool b)
abbrev DotsL := List (List Bool)
def rowsF (d : DotsL) : List (List FD) := d.map (·.map boF)
/-- a grid that is no more written -/
def gridD (w h : Int) (d : DotsL) : DV := .agg [.f (.c (.int .i64 w)), .f (.c (.int .i64 h)), .f (.sl 1 d.length ((rowsF d).map rowF))]
def side (w : Int) : Int := min (max w 0) 200
def blankD (w h : Nat) : DotsL := List.replicate h (List.replicate w false)
theorem rowsF_len (d : DotsL) : (rowsF d).length = d.length := by simp [rowsF]
theorem rowsF_at {d : DotsL} {y : Nat} {r : List Bool} (h : d[y]? = some r) : (rowsF d)[y]? = some (r.map boF) := by simp [rowsF, h]
theorem rowsF_set (d : DotsL) (y : Nat) (r : List Bool) : (rowsF d).set y (r.map boF) = rowsF (d.set y r) := by simp [rowsF, List.map_set]
theorem boF_set (r : List Bool) (x : Nat) (b : Bool) : (r.map boF).set x (boF b) = (r.set x b).map boF := by simp [List.map_set]
theorem boF_at {r : List Bool} {x : Nat} {b : Bool} (h : r[x]? = some b) : (r.map boF)[x]? = some (boF b) := by simp [h]
theorem side_nat (w : Int) : ∃ n : Nat, side w = n ∧ n ≤ 200 := ⟨(side w).toNat, by unfold side; omega, by unfold side; omega⟩
theorem reps_false (n : Nat) : reps' [.c (.bool false)] n = (List.replicate n false).map boF := by rw [reps'_one]; simp [boF]

theorem o_rnew (w h : Int) : DKO 11 [.int w, .int h] fun d S nk => ∃ n m : Nat, side w = n ∧ side h = m ∧ n ≤ 200 ∧ m ≤ 200 ∧ d = .agg [.f (.c (.int .i64 n)), .f (.c (.int .i64 m)), .own 2 0 m 1] ∧ S = [(2, .tree (rowsF (blankD n m)))] ∧ nk = 3 := by
  refine dfnO_ok cp11 rfl GHro fun Z0 lo => ?_
  obtain ⟨n, hn, hn2⟩ := side_nat w
  obtain ⟨m, hm, hm2⟩ := side_nat h
  repeat (first | refine dw_max rfl rfl ?_ | refine dw_min rfl rfl ?_ | refine dw_p rfl ?_ | refine dw_a rfl ?_ | refine dw_st rfl rfl rfl rfl rfl (Nat.le_of_ble_eq_true rfl) rfl ?_ | refine dw_nil ?_ | refine ds_seq ?_ | refine ds_ops mix (fun base => ?_) | refine ds_block ?_)
  rw [show min (max w 0) 200 = (n : Int) from hn, show min (max h 0) 200 = (m : Int) from hm]
  refine ds_virtT 1 2 rfl rfl ?_
  refine ds_keep (SubA.cons (k := 4) rfl (SubA.cons (k := 5) rfl (SubA.cons (k := 6) rfl (SubA.nil _)))) (SubA.cons (k := 0) rfl (SubA.cons (k := 1) rfl (SubA.cons (k := 2) rfl (SubA.nil _)))) ?_
  refine ds_loop (fun k E S nk => ∃ y : Nat, y + k = m ∧ E = [(4, .one (.ptr 0 0)), (5, .one (.ptr 1 0)), (6, .int y)] ∧ S = [(0, .cells [.f (.c (.int .i64 0)), .f (.c (.int .i64 0)), .f (.c .nils)]), (1, .cells [.f (.c (.int .i64 n)), .f (.c (.int .i64 m)), .own 2 0 y 1]), (2, .tree (rowsF (blankD n y)))] ∧ nk = 3) ⟨m, _, _, _, [], ?wk, 0, by omega, rfl, rfl, rfl⟩ ?_
  case wk => exact ⟨by repeat (first | exact trivial | refine ⟨by first | rfl | exact congrArg (fun z => some (DV.int z)) (dwrap (by omega) (by omega)), rfl, ?_⟩), by repeat (first | exact trivial | refine ⟨by first | rfl | exact congrArg (fun z => some (Bk.data z)) (by assumption), rfl, rfl, ?_⟩), rfl, rfl⟩
  rintro k E S nk ⟨y, hy, rfl, rfl, rfl⟩
  repeat (first | refine dw_p rfl ?_ | refine dw_l rfl ?_ | refine dw_nil ?_ | refine ds_seq ?_ | refine ds_ops mix (fun base => ?_))
  refine ds_if rfl (fun ht => ?_) (fun ht => ?_)
  · simp at ht
    repeat (first | refine dw_p rfl ?_ | refine dw_l rfl ?_ | refine ds_seq ?_ | refine ds_ops mix (fun base => ?_) | refine ds_skip ?_ | refine ds_block ?_)
    refine dw_mki [.c (.bool false)] rfl rfl rfl rfl ⟨rfl, rfl, trivial⟩ rfl (by decide) (Nat.le_refl _) (by omega) (by omega) ?_
    repeat (first | refine dw_ai rfl rfl rfl ?_)
    refine dw_appt rfl rfl rfl (by simp [rowsF, blankD]) rfl rfl (by rw [reps'_len]; simp) (by omega) (by omega) rfl ?_
    rw [show rowsF (blankD n y) ++ [reps' [.c (.bool false)] n] = rowsF (blankD n (y + 1)) by rw [reps_false]; simp [rowsF, blankD, List.replicate_succ']]
    repeat (first | refine dw_p rfl ?_ | refine dw_st rfl rfl rfl rfl rfl (Nat.le_of_ble_eq_true rfl) rfl ?_ | refine dw_nil ?_ | refine ds_ops mix (fun base => ?_))
    refine ⟨k - 1, by omega, _, _, _, [(2, 5)], ?wk1, y + 1, by omega, rfl, rfl, rfl⟩
    case wk1 => exact ⟨by repeat (first | exact trivial | refine ⟨by first | rfl | exact congrArg (fun z => some (DV.int z)) (dwrap (by omega) (by omega)), rfl, ?_⟩), by repeat (first | exact trivial | refine ⟨by first | rfl | exact congrArg (fun z => some (Bk.data z)) (by assumption), rfl, rfl, ?_⟩), rfl, rfl⟩
  · simp at ht
    obtain rfl : y = m := by omega
    repeat (first | refine dw_l rfl ?_ | refine dw_st rfl rfl rfl rfl rfl (Nat.le_of_ble_eq_true rfl) rfl ?_ | refine dw_nil ?_ | refine ds_seq ?_ | refine ds_ops mix (fun base => ?_) | refine ds_exit ?_)
    refine ds_ret ⟨_, rfl, rfl, _, SubA.cons (k := 2) rfl (SubA.nil _), n, y, hn, hm, hn2, hm2, rfl, rfl, rfl⟩
end Go.Ab.Fn

/- Deep contracts: a slice cloned; search in a sorted row. -/
namespace Go.Ab.Fn
open Go.Ab Go.Proofs
set_option linter.unusedSimpArgs false

/-- whether a frozen slice is nil -/
theorem dw_nilf {p : Par} {base rs : Nat} {Q : DEnv → Bx → Nat → Prop} {r : List SOper} {W : Wt} {A : List Nat} {E : DEnv} {S : Bx} {nk : Nat} {id : Nat} {dst : Option Nat} {aid : Option Nat} {ws : List Nat} {keep neg : Bool} {x : Opd} {e n : Nat} {l : List FD} (hx : ro E x = some (.one (.f (.sl e n l))))
    (h1 : n = 0 → l = [] → DPW p base rs Q r W A (setD E dst (.bool !neg)) S nk) (h2 : DPW p base rs Q r W A (setD E dst (.bool neg)) S nk) : DPW p base rs Q (⟨id, dst, .p (.nileq neg x), none, aid, ws, keep⟩ :: r) W A E S nk := .mk fun Z β H F c hS hE hC hA => by
  obtain ⟨cx, hcx, hr⟩ := ro_ok hE hx
  simp only [wOps, wantedA, if_true]
  cases hr with
  | nil =>
    simp only [aPure, hcx]
    exact (h1 rfl rfl).run Z β H _ c hS (hE.set dst (exact_ok rfl)) hC hA
  | sl =>
    simp only [aPure, hcx]
    exact h2.run Z β H _ c hS (hE.set dst (exact_ok rfl)) hC hA

theorem do_clone {l : List Pt2} (hn : l.length < 1000000000) : DKO 46 [ptsD l] fun d S nk => ∃ k, (k = 0 ∨ k = 1) ∧ d = .one (.own k 0 l.length 2) ∧ S = [(k, .data (l.flatMap ptF))] ∧ nk = k + 1 := by
  refine dfnO_ok cp46 rfl GHro fun Z0 lo => ?_
  repeat (first | refine dw_p rfl ?_ | refine dw_nil ?_ | refine ds_seq ?_ | refine ds_ops mix (fun base => ?_))
  refine dw_nilf rfl (fun h0 _ => ?_) ?_
  · have : l = [] := by simpa using h0
    subst this
    repeat (first | refine dw_nil ?_)
    refine ds_if rfl (fun _ => ?_) (fun h => by cases h)
    repeat (first | refine dw_p rfl ?_ | refine dw_nil ?_ | refine ds_seq ?_ | refine ds_ops mix (fun base => ?_))
    refine ds_virt 2 2 rfl ?_
    exact ds_ret ⟨_, rfl, rfl, _, SubA.refl _, 0, .inl rfl, rfl, rfl, rfl⟩
  · repeat (first | refine dw_nil ?_)
    refine ds_if rfl (fun h => by cases h) (fun _ => ?_)
    repeat (first | refine dw_p rfl ?_ | refine dw_a rfl ?_ | refine ds_seq ?_ | refine ds_ops mix (fun base => ?_) | refine ds_skip ?_)
    refine dw_app rfl rfl rfl rfl ⟨rfl, rfl, rfl⟩ (by omega) (by omega) (by decide) rfl ?_
    repeat (first | refine dw_p rfl ?_ | refine dw_nil ?_)
    refine ds_ret ⟨_, rfl, rfl, [(1, .data (l.flatMap ptF))], SubA.cons (k := 1) rfl (SubA.nil _), 1, .inr rfl, ?_, rfl, rfl⟩
    simp
end Go.Ab.Fn

/- Deep contracts: search in a sorted row. -/
namespace Go.Ab.Fn
open Go.Ab Go.Proofs
set_option linter.unusedSimpArgs false

def iF (x : Int) : FD := .c (.int .i64 x)
def intsD (l : List Int) : DV := .one (.f (.sl 1 l.length (l.map iF)))
theorem iF_at {l : List Int} {i : Nat} {x : Int} (h : l[i]? = some x) : subL (l.map iF) (i * 1) 1 = some [iF x] := by
  have hi : i < l.length := (List.getElem?_eq_some_iff.1 h).1
  rw [subL_of (by simp; omega)]
  rw [Nat.mul_one, List.drop_eq_getElem_cons (by simpa using hi)]
  have : l[i] = x := (List.getElem?_eq_some_iff.1 h).2
  simp [this]
theorem d_nan72 {a : Int} : DK 72 [.int a] fun d => d = .bool false := by
  refine dfn_ok cp72 rfl GHro fun Z0 lo => ?_
  repeat (first | refine dw_p rfl ?_ | refine dw_nil ?_ | refine ds_seq ?_ | refine ds_ops mix (fun base => ?_))
  exact ds_ret ⟨_, rfl, rfl, by simp⟩
theorem d_nan60 {a : Int} : DK 60 [.int a] fun d => d = .bool false := by
  refine dfn_ok cp60 rfl GHro fun Z0 lo => ?_
  repeat (first | refine dw_p rfl ?_ | refine dw_nil ?_ | refine ds_seq ?_ | refine ds_ops mix (fun base => ?_))
  exact ds_ret ⟨_, rfl, rfl, by simp⟩
theorem d_less {a b : Int} : DK 59 [.int a, .int b] fun d => d = .bool (decide (a < b)) := by
  refine dfn_ok cp59 rfl GHro fun Z0 lo => ?_
  repeat (first | refine dw_p rfl ?_ | refine dw_nil ?_ | refine ds_seq ?_ | refine ds_ops mix (fun base => ?_))
  refine dw_cf rfl rfl d_nan72 ?_
  rintro _ rfl
  repeat (first | refine dw_want rfl rfl ?_ | refine dw_skip rfl rfl ?_ | refine dw_pickF rfl rfl ?_ | refine dw_p rfl ?_ | refine dw_nil ?_)
  exact ds_ret ⟨_, rfl, rfl, rfl⟩
/-- where x stands in a sorted row -/
def lowb (row : List Int) (x : Int) : Nat := (row.takeWhile fun y => decide (y < x)).length
def Asc (row : List Int) : Prop := ∀ (i j : Nat) (x y : Int), i < j → row[i]? = some x → row[j]? = some y → x ≤ y
theorem half {a b : Nat} (ha : a < 1000000000) (hb : b ≤ 1000000000) : IntKind.i64.wrap ((IntKind.u64.wrap (IntKind.i64.wrap ((a : Int) + (b : Int)))).fdiv (2 ^ min (Int.toNat 1) IntKind.u64.bits)) = (((a + b) / 2 : Nat) : Int) := by
  rw [dwrap (n := (a : Int) + b) (by omega) (by omega)]
  have h1 : IntKind.u64.wrap ((a : Int) + b) = (a : Int) + b := by simp [IntKind.wrap, IntKind.bits, IntKind.signed]; omega
  rw [h1]
  have h2 : ((2 : Int) ^ min (Int.toNat 1) IntKind.u64.bits) = 2 := rfl
  rw [h2, Int.fdiv_eq_ediv_of_nonneg _ (by omega), dwrap (by omega) (by omega)]
  omega
theorem d_search {row : List Int} {x : Int} (hs : Asc row) (hn : row.length < 1000000000) : DK 51 [intsD row, .int x] fun d => ∃ (i : Nat) (b : Bool), d = .tup [.int i, .bool b] ∧ i ≤ row.length ∧ (∀ (k : Nat) (y : Int), k < i → row[k]? = some y → y < x) ∧ (∀ (k : Nat) (y : Int), i ≤ k → row[k]? = some y → x ≤ y) := by
  refine dfn_ok cp51 rfl GHro fun Z0 lo => ?_
  repeat (first | refine dw_p rfl ?_ | refine dw_nil ?_ | refine ds_seq ?_ | refine ds_ops mix (fun base => ?_) | refine ds_block ?_)
  refine ds_loop (fun m E S nk => ∃ i j : Nat, i ≤ j ∧ j ≤ row.length ∧ m = j - i ∧ (∀ (k : Nat) (y : Int), k < i → row[k]? = some y → y < x) ∧ (∀ (k : Nat) (y : Int), j ≤ k → row[k]? = some y → x ≤ y) ∧ E = [(0, intsD row), (1, .int x), (6, .int row.length), (7, .int i), (8, .int j)] ∧ S = [] ∧ nk = 0) ⟨row.length, _, _, _, [], ?wk, 0, row.length, by omega, by omega, by omega, fun k y h => by omega, fun k y h1 h2 => by have := (List.getElem?_eq_some_iff.1 h2).1; omega, rfl, rfl, rfl⟩ ?_
  case wk => exact ⟨by repeat (first | exact trivial | refine ⟨by first | rfl | exact congrArg (fun z => some (DV.int z)) (dwrap (by omega) (by omega)), rfl, ?_⟩), by repeat (first | exact trivial | refine ⟨by first | rfl | exact congrArg (fun z => some (Bk.data z)) (by assumption), rfl, rfl, ?_⟩), rfl, rfl⟩
  rintro m E S nk ⟨i, j, hij, hj, hm, hlo, hhi, rfl, rfl, rfl⟩
  repeat (first | refine dw_p rfl ?_ | refine dw_nil ?_ | refine ds_seq ?_ | refine ds_ops mix (fun base => ?_))
  refine ds_if rfl (fun ht => ?_) (fun ht => ?_)
  · simp at ht
    have hh := half (a := i) (b := j) (by omega) (by omega)
    obtain ⟨y, hy⟩ : ∃ y, row[(i + j) / 2]? = some y := ⟨_, List.getElem?_eq_getElem (by omega)⟩
    have e1 := iF_at hy
    repeat (first | refine dw_p rfl ?_ | refine dw_nil ?_ | refine ds_seq ?_ | refine ds_ops mix (fun base => ?_) | refine ds_skip ?_ | refine ds_block ?_)
    rw [hh]
    repeat (first | refine dw_p rfl ?_ | refine dw_l rfl ?_ | refine dw_if rfl rfl (by omega) (by decide) (by assumption) ?_)
    refine dw_cf rfl rfl d_less ?_
    rintro _ rfl
    repeat (first | refine dw_nil ?_)
    refine ds_if rfl (fun hl => ?_) (fun hl => ?_)
    · have hl' : y < x := by simpa using hl
      repeat (first | refine dw_p rfl ?_ | refine dw_nil ?_ | refine ds_ops mix (fun base => ?_))
      refine ⟨j - ((i + j) / 2 + 1), by omega, _, _, _, [], ?wk, (i + j) / 2 + 1, j, by omega, hj, rfl, fun k z hk hz => ?_, hhi, rfl, rfl, rfl⟩
      case wk => exact ⟨by repeat (first | exact trivial | refine ⟨by first | rfl | exact congrArg (fun z => some (DV.int z)) (dwrap (by omega) (by omega)), rfl, ?_⟩), by repeat (first | exact trivial | refine ⟨by first | rfl | exact congrArg (fun z => some (Bk.data z)) (by assumption), rfl, rfl, ?_⟩), rfl, rfl⟩
      rcases Nat.lt_or_ge k ((i + j) / 2) with h | h
      · have := hs k ((i + j) / 2) z y h hz hy; omega
      · obtain rfl : k = (i + j) / 2 := by omega
        rw [hy] at hz; obtain rfl := Option.some.inj hz; exact hl'
    · have hl' : x ≤ y := by simpa using hl
      repeat (first | refine dw_p rfl ?_ | refine dw_nil ?_ | refine ds_ops mix (fun base => ?_))
      refine ⟨(i + j) / 2 - i, by omega, _, _, _, [], ?wk, i, (i + j) / 2, by omega, by omega, rfl, hlo, fun k z hk hz => ?_, rfl, rfl, rfl⟩
      case wk => exact ⟨by repeat (first | exact trivial | refine ⟨by first | rfl | exact congrArg (fun z => some (DV.int z)) (dwrap (by omega) (by omega)), rfl, ?_⟩), by repeat (first | exact trivial | refine ⟨by first | rfl | exact congrArg (fun z => some (Bk.data z)) (by assumption), rfl, rfl, ?_⟩), rfl, rfl⟩
      rcases Nat.lt_or_ge ((i + j) / 2) k with h | h
      · have := hs ((i + j) / 2) k y z h hy hz; omega
      · obtain rfl : k = (i + j) / 2 := by omega
        rw [hy] at hz; obtain rfl := Option.some.inj hz; exact hl'
  · simp at ht
    obtain rfl : i = j := by omega
    by_cases hi : i < row.length
    · have g1 : decide ((i : Int) < row.length) = true := by simpa using hi
      obtain ⟨y, hy⟩ : ∃ y, row[i]? = some y := ⟨_, List.getElem?_eq_getElem hi⟩
      have e1 := iF_at hy
      by_cases hyx : y = x
      · have g2 : (y == x) = true := by simpa using hyx
        repeat (first | refine dw_want rfl rfl ?_ | refine dw_skip rfl rfl ?_ | refine dw_skipU rfl ?_ | refine dw_pickT rfl rfl ?_ | refine dw_pB rfl (by assumption) ?_ | refine dw_p rfl ?_ | refine dw_l rfl ?_ | refine dw_if rfl rfl (by omega) (by decide) (by assumption) ?_ | refine dw_nil ?_ | refine ds_seq ?_ | refine ds_ops mix (fun base => ?_) | refine ds_exit ?_)
        exact ds_ret ⟨_, rfl, rfl, i, _, rfl, hj, hlo, hhi⟩
      · have g2 : (y == x) = false := by simpa using hyx
        repeat (first | refine dw_want rfl rfl ?_ | refine dw_pB rfl (by assumption) ?_ | refine dw_p rfl ?_ | refine dw_l rfl ?_ | refine dw_if rfl rfl (by omega) (by decide) (by assumption) ?_ | refine ds_seq ?_ | refine ds_ops mix (fun base => ?_) | refine ds_exit ?_)
        refine dw_cf rfl rfl d_nan60 ?_
        rintro _ rfl
        repeat (first | refine dw_want rfl rfl ?_ | refine dw_skip rfl rfl ?_ | refine dw_pickT rfl rfl ?_ | refine dw_pickF rfl rfl ?_ | refine dw_p rfl ?_ | refine dw_nil ?_)
        exact ds_ret ⟨_, rfl, rfl, i, _, rfl, hj, hlo, hhi⟩
    · have g1 : decide ((i : Int) < row.length) = false := by simpa using hi
      repeat (first | refine dw_skip rfl rfl ?_ | refine dw_skipU rfl ?_ | refine dw_pickF rfl rfl ?_ | refine dw_pB rfl (by assumption) ?_ | refine dw_p rfl ?_ | refine dw_nil ?_ | refine ds_seq ?_ | refine ds_ops mix (fun base => ?_) | refine ds_exit ?_)
      exact ds_ret ⟨_, rfl, rfl, i, _, rfl, hj, hlo, hhi⟩
end Go.Ab.Fn

/- A part of a row deleted. -/
namespace Go.Ab.Fn
open Go.Ab Go.Proofs
set_option linter.unusedSimpArgs false

theorem setL_split {cells cs : List C} {i : Nat} (h : i + cs.length ≤ cells.length) : setL cells i cs = cells.take i ++ cs ++ cells.drop (i + cs.length) := by
  have hs : cells = cells.take i ++ ((cells.drop i).take cs.length ++ cells.drop (i + cs.length)) := by
    rw [← List.drop_drop, List.take_append_drop, List.take_append_drop]
  have := dsetL_mid (cells.take i) ((cells.drop i).take cs.length) cs (cells.drop (i + cs.length)) (by simp; omega)
  rw [← hs, List.length_take, Nat.min_eq_left (by omega)] at this
  rw [this, List.append_assoc]
theorem patt_len (z : List C) (n : Nat) : (patt z n).length = n := by simp [patt]
theorem asl3 {b o n cap e : Nat} {ex : Bool} {lo hi m : Nat} (h1 : lo ≤ hi) (h2 : hi ≤ m) (h3 : m ≤ cap) : aPure .lf (.slice e (.c (.one (.slc b o n cap e ex))) (some (.c (.int lo))) (some (.c (.int hi))) (some (.c (.int m)))) = some (.one (.slc b (o + lo * e) (hi - lo) (m - lo) e (ex || true))) := by
  simp [aPure, aSlice, aBound, Opd.ev, h1, h2, h3]
theorem asl2 {b o n cap e : Nat} {ex : Bool} {lo hi : Nat} (h1 : lo ≤ hi) (h2 : hi ≤ cap) : aPure .lf (.slice e (.c (.one (.slc b o n cap e ex))) (some (.c (.int lo))) (some (.c (.int hi))) none) = some (.one (.slc b (o + lo * e) (hi - lo) (cap - lo) e ex)) := by
  simp [aPure, aSlice, aBound, Opd.ev, h1, h2]
theorem asl1 {b o n cap e : Nat} {ex : Bool} {lo : Nat} (h1 : lo ≤ n) (h2 : n ≤ cap) : aPure .lf (.slice e (.c (.one (.slc b o n cap e ex))) (some (.c (.int lo))) none none) = some (.one (.slc b (o + lo * e) (n - lo) (cap - lo) e ex)) := by
  simp [aPure, aSlice, aBound, Opd.ev, h1, h2]
theorem asl0 {b o n cap e : Nat} {ex : Bool} {hi : Nat} (h2 : hi ≤ cap) : aPure .lf (.slice e (.c (.one (.slc b o n cap e ex))) none (some (.c (.int hi))) none) = some (.one (.slc b o hi cap e ex)) := by
  simp [aPure, aSlice, aBound, Opd.ev, h2]
theorem del_ok {H : Hp} {b n cap i j : Nat} {ex : Bool} {cells : List C} (hr : Row H b cells) (hnc : n ≤ cap) (hcap : cap ≤ cells.length) (hij : i < j) (hjn : j ≤ n) (hn : n < 1000000000) :
    ACalls Tryd.prog 1 52 [.one (.slc b 0 n cap 1 ex), .int i, .int j] H fun v H' => v = .one (.slc b 0 (i + (n - j)) cap 1 ex) ∧ ∃ rest', Row H' b (cells.take i ++ (cells.drop j).take (n - j) ++ rest') ∧ (cells.take i ++ (cells.drop j).take (n - j) ++ rest').length = cells.length ∧ (∀ b', b' ≠ b → H'.get b' = H.get b') ∧ H'.nx = H.nx + 8 := by
  refine pfn_ok cp52 (by simp [f52]) fun hwf => ?_
  repeat (first | refine pw_mvt rfl ?_ | refine pw_mvc ?_ | refine pw_p rfl rfl ?_ | refine pw_nil ?_ | refine ps_seq ?_ | refine ps_ops0 mix ?_)
  refine pw_p rfl (asl3 (by omega) (by omega) (by omega)) ?_
  repeat (first | refine pw_mvt rfl ?_ | refine pw_p rfl rfl ?_ | refine pw_nil ?_ | refine ps_seq ?_ | refine ps_ops0 mix ?_)
  refine ps_if rfl rfl (fun h => by simp at h; omega) (fun _ => ?_)
  repeat (first | refine pw_mvt rfl ?_ | refine pw_p rfl rfl ?_ | refine pw_nil ?_ | refine ps_seq ?_ | refine ps_ops0 mix ?_ | refine ps_skip ?_)
  refine ps_ops mix ?_
  repeat (first | refine pw_mvt rfl ?_)
  refine pw_p rfl (asl0 (by omega)) ?_
  repeat (first | refine pw_mvt rfl ?_)
  refine pw_p rfl (asl1 (by omega) (by omega)) ?_
  have hnews : H.loads b (0 + j * 1) (n - j) = some ((cells.drop j).take (n - j)) := by
    have := loads_at hr.2 (i := j) (k := n - j) (by omega)
    rw [Nat.mul_one]; exact this
  have hlen : ((cells.drop j).take (n - j)).length = n - j := by simp; omega
  have hr8 : Row (H.skip 8) b cells := hr.same rfl
  obtain ⟨H1, s1, s2, s3, s4⟩ := hr8.stores (cs := (cells.drop j).take (n - j)) (i := i) (by omega)
  refine pw_e rfl (v := .one (.slc b 0 (i + (n - j)) cap 1 ex)) (H' := H1) ?_ trivial ?_
  · show aEff .lf (H.skip 8) (.append 1 8 (.c (.one (.slc b 0 i cap 1 ex))) (.c (.one (.slc b (0 + j * 1) (n - j) (cap - j) 1 ex)))) = _
    have e1 : srcCells (H.skip 8) 1 (.one (.slc b (0 + j * 1) (n - j) (cap - j) 1 ex)) = some (n - j, (cells.drop j).take (n - j)) := by
      simp only [srcCells, if_true, Nat.mul_one]
      have : (H.skip 8).loads b (0 + j) (n - j) = some ((cells.drop j).take (n - j)) := by simpa using hnews
      rw [this]; rfl
    simp only [aEff, Opd.ev, e1, aAppend]
    rw [if_neg (by simp), if_pos (by omega), Nat.zero_add, Nat.mul_one, s1]
    rfl
  repeat (first | refine pw_mvt rfl ?_ | refine pw_p rfl rfl ?_ | refine pw_nil ?_ | refine ps_seq ?_ | refine ps_ops0 mix ?_)
  refine pw_p rfl (asl2 (lo := i + (n - j)) (hi := n) (by omega) (by omega)) ?_
  obtain ⟨H2, t1, t2, t3, t4⟩ := s2.stores (cs := patt [.int .i64 0] ((n - (i + (n - j))) * 1)) (i := i + (n - j)) (by rw [patt_len, setL_len]; omega)
  refine pw_e rfl (v := V.undef) (H' := H2) ?_ trivial ?_
  · show aEff .lf H1 (.clear 1 [.int .i64 0] (.c (.one (.slc b (0 + (i + (n - j)) * 1) (n - (i + (n - j))) (cap - (i + (n - j))) 1 ex)))) = _
    simp only [aEff, Opd.ev, if_true, Nat.zero_add, Nat.mul_one]
    simp only [Nat.mul_one] at t1
    rw [t1]
    rfl
  repeat (first | refine pw_mvt rfl ?_ | refine pw_nil ?_ | refine ps_seq ?_ | refine ps_ops0 mix ?_)
  refine ps_ret ⟨_, rfl, rfl, ?_⟩
  rw [setL_split (cells := cells) (by omega)] at t2
  rw [setL_split (by rw [patt_len]; simp; omega)] at t2
  have e2 : (cells.take i ++ (cells.drop j).take (n - j) ++ cells.drop (i + ((cells.drop j).take (n - j)).length)).take (i + (n - j)) = cells.take i ++ (cells.drop j).take (n - j) := by
    rw [List.take_append_of_le_length (by simp; omega), List.take_of_length_le (by simp; omega)]
  rw [e2, List.append_assoc] at t2
  refine ⟨_, t2, ?_, fun b' hb' => by rw [t3 b' hb', s3 b' hb']; rfl, by rw [t4, s4]; rfl⟩
  have := t2.2
  simp [patt_len]
  omega
end Go.Ab.Fn

/- A part of a row in a box deleted; smaller boxes. -/
namespace Go.Ab
theorem SR.skip {p : Par} {Z : Nat → Prop} {β : Beta} {H : Hp} {S : Bx} {nk : Nat} (hS : SR p Z β H S nk) (rs : Nat) : SR p Z β (H.skip rs) S nk :=
  ⟨hS.wf.skip rs, by simp; have := hS.lo; omega, fun b hb => by simp; have := hS.z b hb; omega, hS.zlo, hS.zz, hS.glob, hS.nk, fun k b N hk => by simp; have := hS.bd k b N hk; omega, fun k x hk => by
    obtain ⟨s, hs, hbx⟩ := hS.box k x hk
    exact ⟨s, hs, BoxR.mono (H := H) (H' := H.skip rs) (BLe.refl β) (by simp) (fun _ _ => rfl) hbx⟩, hS.inj, hS.blo, hS.anch, hS.ancn⟩
/-- only a beginning of a box is named -/
theorem ds_shrink {p : Par} {n : Nat} {Q : Exit → DEnv → Bx → Nat → Prop} {E : DEnv} {S : Bx} {nk : Nat} {s : SC} (k m : Nat) {l : List FD} (hk : lk S k = some (.data l)) (h : DPS p n s Q E (put k (.data (l.take m)) S) nk) : DPS p n s Q E S nk := .mk fun Z β H F hS hE => by
  refine h.run Z β H F ?_ hE
  refine ⟨hS.wf, hS.lo, hS.z, hS.zlo, hS.zz, hS.glob, hS.nk, hS.bd, fun κ x hκ => ?_, fun κ κ' x x' b N N' hj hj' => ?_, hS.blo, hS.anch, hS.ancn⟩
  · rw [lk2_put hk rfl] at hκ
    split at hκ
    · rename_i e
      split at hκ
      · rename_i e2
        obtain rfl := key_eq e e2
        obtain rfl := Option.some.inj hκ
        obtain ⟨s, hs, hbx⟩ := hS.box (k, 0) _ (lk2_of hk rfl)
        refine ⟨s, hs, ?_⟩
        cases s with
        | nil =>
          have : l.length = 0 := hbx
          show (l.take m).length = 0
          rw [List.length_take, this]; simp
        | blk b N =>
          obtain ⟨h1, h2, h3, cs, rest, h4, h5, h6⟩ := hbx
          refine ⟨h1, h2, h3, cs.take m, cs.drop m ++ rest, ?_, ?_, All2.take h6 m⟩
          · rw [← List.append_assoc, List.take_append_drop]; exact h4
          · rw [← List.append_assoc, List.take_append_drop]; exact h5
      · cases hκ
    · exact hS.box κ x hκ
  · have f : ∀ i z, lk (put k (.data (l.take m)) S) i = some z → ∃ z', lk S i = some z' := fun i z hz => by
      rw [lk_put] at hz
      split at hz
      · cases hl : lk S i with
        | none => rw [hl] at hz; cases hz
        | some q => exact ⟨q, rfl⟩
      · exact ⟨z, hz⟩
    obtain ⟨z1, e1⟩ := f _ x hj
    obtain ⟨z2, e2⟩ := f _ x' hj'
    exact hS.inj κ κ' z1 z2 b N N' e1 e2
end Go.Ab
namespace Go.Ab.Fn
open Go.Ab Go.Proofs
theorem dx_delete {k n i j nk : Nat} {l : List FD} {S : Bx} (hk : lk S k = some (.data l)) (hl : l.length = n) (hij : i < j) (hjn : j ≤ n) (hn : n < 1000000000) : DKX 52 [.one (.own k 0 n 1), .int i, .int j] S nk fun d S' nk' => d = .one (.own k 0 (i + (n - j)) 1) ∧ nk' = nk ∧ S' = put k (.data (l.take i ++ l.drop j)) S := by
  intro Z0 lo anc β0 H1 Z β H args hS ha
  match args, ha with
  | [v1, v2, v3], ⟨h1, h2, h3, _⟩ =>
    obtain ⟨c1, rfl, h1⟩ := h1
    obtain ⟨c2, rfl, h2⟩ := h2
    obtain ⟨c3, rfl, h3⟩ := h3
    cases h2
    cases h3
    rcases h1 with ⟨_, h1, _⟩ | ⟨b, N, cap, ex, hb, rfl, hcap, hN⟩
    · omega
    · obtain ⟨s, hs, hbx⟩ := hS.box (k, 0) _ (lk2_of hk rfl)
      rw [hb] at hs
      obtain rfl := Option.some.inj hs
      obtain ⟨hz, hlo, hlt, cs, rest, hrow, hNl, hrel⟩ := hbx
      have hrow : Row H b (cs ++ rest) := hrow
      have hNl : (cs ++ rest).length = N := hNl
      have hcl : cs.length = n := by rw [← hl]; exact (All2.len hrel).symm
      refine (del_ok hrow hcap (by omega) hij hjn hn).mono ?_
      rintro v H' ⟨rfl, rest', hrow', hlen', hoth, hnx⟩
      have e1 : (cs ++ rest).take i = cs.take i := List.take_append_of_le_length (by omega)
      have e2 : ((cs ++ rest).drop j).take (n - j) = cs.drop j := by
        rw [List.drop_append_of_le_length (by omega), List.take_append_of_le_length (by simp; omega), List.take_of_length_le (by simp; omega)]
      rw [e1, e2] at hrow' hlen'
      obtain ⟨hS', hZ⟩ := (hS.skip 8).upd (x' := .data (l.take i ++ l.drop j)) (cs := cs.take i ++ cs.drop j) (rest := rest') hk rfl hb (All2.append (All2.take (All2.mono (fun _ _ => RF.mono (ZLe.of_get (H := H) (H' := H.skip 8) (fun _ h => h) fun _ _ => rfl)) hrel) i) (All2.drop (All2.mono (fun _ _ => RF.mono (ZLe.of_get (H := H) (H' := H.skip 8) (fun _ h => h) fun _ _ => rfl)) hrel) j)) (fun b' hb' => by rw [hoth b' hb']; rfl) (by rw [hnx]; rfl) rfl hrow' (by rw [hlen', hNl])
      exact ⟨.one (.own k 0 (i + (n - j)) 1), _, _, Z, β, hS', ⟨_, rfl, .inr ⟨b, N, cap, ex, hb, rfl, by omega, hN⟩⟩, hZ, fun _ _ h => h, rfl, rfl, rfl⟩
end Go.Ab.Fn

/- Calls that change boxes of their caller, beside watched loads. -/
namespace Go.Ab
/-- values that fix the cell -/
def exD : DC → Bool
  | .f (.c _) => true
  | .g _ _ => true
  | .ptr _ _ => true
  | .om _ => true
  | _ => false
def wSame (S S' : Bx) : Wt → Prop
  | [] => True
  | (_, none) :: W => wSame S S' W
  | (_, some ((k, i), o, n)) :: W => i = 0 ∧ (∃ l, lk S k = some (.cells l) ∧ lk S' k = some (.cells l) ∧ allB exD l = true ∧ Nat.ble (o + n) l.length = true) ∧ wSame S S' W
section
variable {Z Z' : Nat → Prop} {H H' : Hp} {β β' : Beta}
theorem exD_ok {d : DC} {c c' : C} (hd : exD d = true) (hb : BLe0 β β') (h : RD Z H β d c) (h' : RD Z' H' β' d c') : c' = c := by
  cases d with
  | f d => cases d with
    | c x => cases h; cases h'; rfl
    | sl => cases hd
  | g b o =>
    have h : c = .ptr b o := h
    have h' : c' = .ptr b o := h'
    rw [h, h']
  | ptr k o =>
    obtain ⟨b, N, h1, rfl⟩ := h
    obtain ⟨b', N', h2, rfl⟩ := h'
    rw [hb _ _ h1] at h2
    rw [(Slot.blk.inj (Option.some.inj h2)).1]
  | om k =>
    obtain ⟨b, N, h1, rfl⟩ := h
    obtain ⟨b', N', h2, rfl⟩ := h'
    rw [hb _ _ h1] at h2
    rw [(Slot.blk.inj (Option.some.inj h2)).1]
  | _ => cases hd
theorem exDL_ok (hb : BLe0 β β') : ∀ {l : List DC} {cs cs' : List C}, allB exD l = true → All2 (RD Z H β) l cs → All2 (RD Z' H' β') l cs' → cs' = cs
  | [], [], [], _, _, _ => rfl
  | d :: l, c :: cs, c' :: cs', ha, h, h' => by
    have h1 := allB_mem ha d (by simp)
    have h2 : allB exD l = true := by simp only [allB, h1] at ha; exact ha
    rw [exD_ok h1 hb h.1 h'.1, exDL_ok hb h2 h.2 h'.2]
  | [], [], _ :: _, _, _, h => h.elim
  | [], _ :: _, _, _, h, _ => h.elim
  | _ :: _, [], _, _, h, _ => h.elim
  | _ :: _, _ :: _, [], _, _, h => h.elim
end
section
variable {p : Par} {base rs : Nat} {Q : DEnv → Bx → Nat → Prop} {r : List SOper} {W : Wt} {A : List Nat} {E : DEnv} {S : Bx} {nk : Nat} {id : Nat} {dst : Option Nat} {aid : Option Nat} {ws : List Nat} {keep : Bool}
theorem wSame_mem {S S' : Bx} : ∀ {W : Wt}, wSame S S' W → ∀ y ∈ W, y.2 = none ∨ ∃ k o n l, y.2 = some ((k, 0), o, n) ∧ lk S k = some (.cells l) ∧ lk S' k = some (.cells l) ∧ allB exD l = true ∧ o + n ≤ l.length
  | [], _, y, hy => by cases hy
  | (_, none) :: W, h, y, hy => by
    rcases List.mem_cons.1 hy with rfl | hy
    · exact .inl rfl
    · exact wSame_mem (W := W) h y hy
  | (_, some ((k, i), o, n)) :: W, ⟨h0, ⟨l, h1, h2, h3, h4⟩, h5⟩, y, hy => by
    rcases List.mem_cons.1 hy with rfl | hy
    · subst h0
      exact .inr ⟨k, o, n, l, rfl, h1, h2, h3, Nat.le_of_ble_eq_true h4⟩
    · exact wSame_mem (W := W) h5 y hy
theorem CR.wsame {S' : Bx} {nk' : Nat} {Z Z' : Nat → Prop} {β β' : Beta} {H H' : Hp} {c : Ctx} (h : CR W Z β H c) (hS : SR p Z β H S nk) (hS' : SR p Z' β' H' S' nk') (hZ : ZLe Z H Z' H') (hB : BLe0 β β') (hW : wSame S S' W) : CR W Z' β' H' c := fun x hx => by
  obtain ⟨y, hy, hw⟩ := h x hx
  refine ⟨y, hy, ?_⟩
  rcases wSame_mem hW y hy with e | ⟨k, o, n, l, e, h1, h2, h3, h4⟩
  · obtain ⟨y1, y2⟩ := y
    simp only at e
    subst e
    obtain ⟨b, hb, hq⟩ := hw
    exact ⟨b, (hZ b hb).1, fun H'' hh => hq H'' fun i c hc => hh i c ((hZ b hb).2 i c hc)⟩
  · obtain ⟨y1, y2⟩ := y
    simp only at e
    subst e
    obtain ⟨b, N, hb, hq⟩ := hw
    refine ⟨b, N, hB _ _ hb, fun H'' hh => hq H'' fun i c g1 g2 hc => hh i c g1 g2 ?_⟩
    obtain ⟨s, hs, hbx⟩ := hS.box (k, 0) _ (lk2_of h1 rfl)
    obtain ⟨s', hs', hbx'⟩ := hS'.box (k, 0) _ (lk2_of h2 rfl)
    rw [hb] at hs
    obtain rfl := Option.some.inj hs
    rw [hB _ _ hb] at hs'
    obtain rfl := Option.some.inj hs'
    obtain ⟨_, _, _, cs, rest, r1, _, r2⟩ := hbx
    obtain ⟨_, _, _, cs', rest', r1', _, r2'⟩ := hbx'
    have r1 : Row H b (cs ++ rest) := r1
    have r1' : Row H' b (cs' ++ rest') := r1'
    obtain rfl := exDL_ok hB h3 r2 r2'
    have hl : l.length = cs'.length := All2.len r2
    have hi : i < cs'.length := by omega
    have k1 := loads_cell r1.2 (i := i) (by simp; omega)
    have k2 := loads_cell r1'.2 (i := i) (by simp; omega)
    rw [Nat.zero_add] at k1 k2
    rw [k1, List.getElem?_append_left hi] at hc
    rw [k2, List.getElem?_append_left hi]
    exact hc
theorem dw_cxw {f : FuncId} {args : List Opd} {ds : List DV} {R : DV → Bx → Nat → Prop} (hvs : ros E args = some ds) (hT : noT E = true) (hc : DX p f ds S nk R) (h : ∀ d S' nk', R d S' nk' → wSame S S' W ∧ DPW p base 0 Q r W A (setD E dst d) S' nk') : DPW p base rs Q (⟨id, dst, .cf f args, none, aid, ws, keep⟩ :: r) W A E S nk := .mk fun Z β H F c hS hE hC hA => by
  simp only [wOps, wantedA, if_true]
  refine (hc Z β H _ hS (ros_ok hE hvs)).mono ?_
  rintro v H' ⟨d, S', nk', Z', β', hS', hr, hZ, hB, hR⟩
  obtain ⟨hw, h⟩ := h d S' nk' hR
  have hC' : CR W Z' β' H' c := hC.wsame hS hS' hZ hB hw
  exact ⟨hC'.watch ws, h.run Z' β' H' _ c hS' ((hE.mono0 hZ hB hT).set dst hr) hC' ⟨hA.1, fun j hj => absurd hj (by omega)⟩⟩
end
end Go.Ab

/- Points of a row taken out of the rows. -/
namespace Go.Ab.Fn
open Go.Ab Go.Proofs
set_option linter.unusedSimpArgs false

abbrev RowsL := List (Int × List Int)
def rowsM (R : RowsL) : List (Int × ME) := R.map fun e => (e.1, .row (e.2.map iF))
def SSe (es : List (Int × ME)) (left : Int) (A B : List FD) (a b : Int) : Bx := [(0, .mt es), (1, .cells [.om 0]), (2, .cells [.f (.c (.int .i64 left))]), (3, .data A), (4, .data B), (5, .cells [.f (.c (.int .i64 a)), .f (.c (.int .i64 b))])]
def SS (R : RowsL) (left : Int) (A B : List FD) (a b : Int) : Bx := SSe (rowsM R) left A B a b
def inB' (low high x : Int) : Bool := decide (low ≤ x) && decide (x ≤ high)
/-- the points of a row that are taken, and the rows that are left -/
def tkn (R : RowsL) (y low high : Int) : List Pt2 := (R.filter fun e => decide (e.1 = y)).flatMap fun e => (e.2.filter (inB' low high)).map fun x => (x, y)
def lft (R : RowsL) (y low high : Int) : RowsL := R.map fun e => (e.1, if e.1 = y then e.2.filter (fun x => !(inB' low high x)) else e.2)
structure RowsOk (R : RowsL) : Prop where
  nd : (R.map (·.1)).Nodup
  asc : ∀ e ∈ R, Asc e.2
  len : ∀ e ∈ R, e.2.length < 1000000
theorem noKM_rows (R : RowsL) : noKM 0 (rowsM R) = true := by
  unfold rowsM
  induction R with
  | nil => rfl
  | cons e R ih => exact ih
theorem rowsM_at {R : RowsL} {i : Nat} {e : Int × List Int} (h : R[i]? = some e) : (rowsM R)[i]? = some (e.1, .row (e.2.map iF)) := by simp [rowsM, h]
theorem tkn_none {R : RowsL} {y low high : Int} (h : ∀ e ∈ R, e.1 ≠ y) : tkn R y low high = [] ∧ lft R y low high = R := by
  constructor
  · unfold tkn
    rw [List.filter_eq_nil_iff.2 (fun e he => by simpa using h e he)]
    rfl
  · unfold lft
    conv => rhs; rw [← List.map_id R]
    exact List.map_congr_left fun e he => by rw [if_neg (h e he)]; rfl
theorem d_search0 {x : Int} : DK 51 [.one (.f (.c .nils)), .int x] fun d => ∃ b : Bool, d = .tup [.int 0, .bool b] := fun H Z args hw hz hg ha => by
  match args, ha with
  | [v1, v2], ⟨h1, h2, _⟩ =>
    obtain ⟨c, rfl, h1⟩ := h1
    cases h1
    refine (d_search (row := []) (x := x) (fun i j x y _ h => by simp at h) (by simp) H Z [.one .nils, v2] hw hz hg ⟨⟨_, rfl, RF.nil 1⟩, h2, trivial⟩).mono ?_
    rintro v H' ⟨g1, g2, g3, d, g4, i, b, rfl, g5, _⟩
    simp at g5
    subst g5
    exact ⟨g1, g2, g3, _, g4, b, rfl⟩
theorem first_at {R : RowsL} (hnd : (R.map (·.1)).Nodup) {i : Nat} {e : Int × List Int} (h : R[i]? = some e) : ∀ (j : Nat) (e' : Int × ME), j < i → (rowsM R)[j]? = some e' → e'.1 ≠ e.1 := by
  intro j e' hj he' heq
  have hjl : j < R.length := by have := (List.getElem?_eq_some_iff.1 he').1; simpa [rowsM] using this
  have he2 : R[j]? = some R[j] := List.getElem?_eq_getElem hjl
  have h3 := rowsM_at he2
  rw [he'] at h3
  obtain rfl := Option.some.inj h3
  have k1 : (R.map (·.1))[j]? = some e.1 := by simp [he2]; exact heq
  have k2 : (R.map (·.1))[i]? = some e.1 := by simp [h]
  have := (List.getElem?_inj (by simpa using hjl) hnd).1 (k1.trans k2.symm)
  omega

theorem mtMap_rows (f : DC → DC) (R : RowsL) : mtMap f (rowsM R) = rowsM R := by
  unfold mtMap rowsM
  rw [List.map_map]
  exact List.map_congr_left fun e _ => rfl
theorem smM_rows (n : Nat) (R : RowsL) : smM n (rowsM R) = true := by
  unfold rowsM
  induction R with
  | nil => rfl
  | cons e R ih => exact ih
theorem wkSSe {ρ : List (Nat × Nat)} {n0 : Nat} {S : Bx} {es es' : List (Int × ME)} {left : Int} {A B : List FD} {a b : Int} (he : mtMap (rnC ρ) es = es') (hs : smM n0 es = true) (h0 : lk S (rn ρ 0) = some (.mt es')) (h1 : lk S (rn ρ 1) = some (.cells [.om (rn ρ 0)])) (h2 : lk S (rn ρ 2) = some (.cells [.f (.c (.int .i64 left))])) (h3 : lk S (rn ρ 3) = some (.data A)) (h4 : lk S (rn ρ 4) = some (.data B)) (h5 : lk S (rn ρ 5) = some (.cells [.f (.c (.int .i64 a)), .f (.c (.int .i64 b))])) (hn : 6 ≤ n0) : WkS ρ n0 S (SSe es left A B a b) := by
  have hb : ∀ k, k < 6 → Nat.blt k n0 = true := fun k hk => Nat.ble_eq_true_of_le (by omega)
  have hb0 := hb 0 (by omega)
  refine ⟨?_, hs, hb 0 (by omega), h1, ?_, hb 1 (by omega), h2, rfl, hb 2 (by omega), h3, rfl, hb 3 (by omega), h4, rfl, hb 4 (by omega), h5, rfl, hb 5 (by omega), trivial⟩
  · rw [h0]; simp only [rnB, he]
  · simp only [smB, allB, smC, hb0]
theorem wkSS {ρ : List (Nat × Nat)} {n0 : Nat} {S : Bx} {R : RowsL} {left : Int} {A B : List FD} {a b : Int} (h0 : lk S (rn ρ 0) = some (.mt (rowsM R))) (h1 : lk S (rn ρ 1) = some (.cells [.om (rn ρ 0)])) (h2 : lk S (rn ρ 2) = some (.cells [.f (.c (.int .i64 left))])) (h3 : lk S (rn ρ 3) = some (.data A)) (h4 : lk S (rn ρ 4) = some (.data B)) (h5 : lk S (rn ρ 5) = some (.cells [.f (.c (.int .i64 a)), .f (.c (.int .i64 b))])) (hn : 6 ≤ n0) : WkS ρ n0 S (SS R left A B a b) :=
  wkSSe (mtMap_rows _ R) (smM_rows n0 R) h0 h1 h2 h3 h4 h5 hn
theorem mtMap_set (f : DC → DC) (R : RowsL) (i : Nat) (y : Int) (d : DC) : mtMap f ((rowsM R).set i (y, .out d)) = (rowsM R).set i (y, .out (f d)) := by
  have := mtMap_rows f R
  unfold mtMap at this ⊢
  rw [List.map_set, this]
  rfl
theorem smM_set {n : Nat} {d : DC} (hd : smC n d = true) (y : Int) : ∀ (R : RowsL) (i : Nat), smM n ((rowsM R).set i (y, .out d)) = true
  | [], i => rfl
  | e :: R, 0 => by
    show smM n ((y, .out d) :: rowsM R) = true
    simp only [smM, hd, smM_rows]
  | e :: R, i + 1 => smM_set hd y R i
theorem noKM_set {d : DC} (hd : noKC 0 d = true) (y : Int) : ∀ (R : RowsL) (i : Nat), noKM 0 ((rowsM R).set i (y, .out d)) = true
  | [], i => rfl
  | e :: R, 0 => by
    show noKM 0 ((y, .out d) :: rowsM R) = true
    simp only [noKM, hd, noKM_rows]
  | e :: R, i + 1 => noKM_set hd y R i
theorem mem_idx {l : List Int} {x : Int} (h : x ∈ l) : ∃ k : Nat, l[k]? = some x := List.getElem?_of_mem h
theorem seg {xs : List Int} {i j : Nat} {low high : Int} (hij : i ≤ j) (hj : j ≤ xs.length) (h1 : ∀ (k : Nat) (y : Int), k < i → xs[k]? = some y → y < low) (h2 : ∀ (k : Nat) (y : Int), i ≤ k → xs[k]? = some y → low ≤ y) (h3 : ∀ (k : Nat) (y : Int), i ≤ k → k < j → xs[k]? = some y → y ≤ high) (h4 : ∀ (k : Nat) (y : Int), j ≤ k → xs[k]? = some y → high < y) :
    xs.filter (inB' low high) = (xs.drop i).take (j - i) ∧ xs.filter (fun x => !(inB' low high x)) = xs.take i ++ xs.drop j := by
  have hsp : xs = xs.take i ++ ((xs.drop i).take (j - i) ++ xs.drop j) := by
    have : xs.drop j = (xs.drop i).drop (j - i) := by rw [List.drop_drop]; congr 1; omega
    rw [this, List.take_append_drop, List.take_append_drop]
  have a1 : ∀ x ∈ xs.take i, inB' low high x = false := fun x hx => by
    obtain ⟨k, hk⟩ := mem_idx hx
    rw [List.getElem?_take] at hk
    split at hk
    · have := h1 k x (by assumption) hk
      simp [inB']; omega
    · cases hk
  have a2 : ∀ x ∈ (xs.drop i).take (j - i), inB' low high x = true := fun x hx => by
    obtain ⟨k, hk⟩ := mem_idx hx
    rw [List.getElem?_take] at hk
    split at hk
    · rw [List.getElem?_drop] at hk
      have k1 := h2 (i + k) x (by omega) hk
      have k2 := h3 (i + k) x (by omega) (by omega) hk
      simp [inB']; omega
    · cases hk
  have a3 : ∀ x ∈ xs.drop j, inB' low high x = false := fun x hx => by
    obtain ⟨k, hk⟩ := mem_idx hx
    rw [List.getElem?_drop] at hk
    have := h4 (j + k) x (by omega) hk
    simp [inB']; omega
  constructor
  · conv => lhs; rw [hsp]
    rw [List.filter_append, List.filter_append, List.filter_eq_nil_iff.2 (fun x hx => by rw [a1 x hx]; simp), List.filter_eq_self.2 a2, List.filter_eq_nil_iff.2 (fun x hx => by rw [a3 x hx]; simp)]
    simp
  · conv => lhs; rw [hsp]
    rw [List.filter_append, List.filter_append, List.filter_eq_self.2 (fun x hx => by rw [a1 x hx]; rfl), List.filter_eq_nil_iff.2 (fun x hx => by rw [a2 x hx]; simp), List.filter_eq_self.2 (fun x hx => by rw [a3 x hx]; rfl)]
    simp
theorem tkn_at : ∀ {R : RowsL} {i : Nat} {y low high : Int} {xs : List Int}, (R.map (·.1)).Nodup → R[i]? = some (y, xs) → tkn R y low high = (xs.filter (inB' low high)).map (fun x => (x, y)) ∧ lft R y low high = R.set i (y, xs.filter (fun x => !(inB' low high x)))
  | [], i, y, low, high, xs, _, h => by simp at h
  | e :: R, 0, y, low, high, xs, hnd, h => by
    simp at h
    subst h
    simp only [List.map_cons, List.nodup_cons, List.mem_map, not_exists, not_and] at hnd
    obtain ⟨t1, t2⟩ := tkn_none (R := R) (y := y) (low := low) (high := high) (fun e he h => hnd.1 e he h)
    constructor
    · unfold tkn at t1 ⊢
      simp [t1]
    · unfold lft at t2 ⊢
      simp [t2]
  | e :: R, i + 1, y, low, high, xs, hnd, h => by
    simp only [List.map_cons, List.nodup_cons, List.mem_map, not_exists, not_and] at hnd
    have hi : R[i]? = some (y, xs) := by simpa using h
    obtain ⟨t1, t2⟩ := tkn_at (low := low) (high := high) hnd.2 hi
    have hne : e.1 ≠ y := fun he => hnd.1 (y, xs) (List.mem_of_getElem? hi) he.symm
    constructor
    · unfold tkn at t1 ⊢
      rw [List.filter_cons, if_neg (by simpa using hne)]
      exact t1
    · unfold lft at t2 ⊢
      rw [List.map_cons, t2, if_neg hne]
      rfl
theorem rowsM_set (R : RowsL) (i : Nat) (y : Int) (xs : List Int) : rowsM (R.set i (y, xs)) = (rowsM R).set i (y, .row (xs.map iF)) := by simp [rowsM, List.map_set]

set_option maxHeartbeats 4000000 in
theorem dx_take {R : RowsL} {left y low high : Int} {A B : List FD} {a b : Int} (hR : RowsOk R) (hl : -1000000000 < left) (hl' : left < 1000000000) : DKX 50 [.int y, .int low, .int high, .one (.ptr 1 0), .one (.ptr 2 0)] (SS R left A B a b) 6 fun d S nk => d = .one (.own 7 0 (tkn R y low high).length 2) ∧ S = (7, .data ((tkn R y low high).flatMap ptF)) :: SS (lft R y low high) (left - (tkn R y low high).length) A B a b ∧ nk = 8 := by
  refine dxk_ok cp50 rfl fun Z β H lo => ?_
  by_cases hy : ∃ (i : Nat) (xs : List Int), R[i]? = some (y, xs)
  · obtain ⟨i0, xs, hi0⟩ := hy
    obtain ⟨t1, t2⟩ := tkn_at (low := low) (high := high) hR.nd hi0
    have hasc := hR.asc _ (List.mem_of_getElem? hi0)
    have hlen := hR.len _ (List.mem_of_getElem? hi0)
    simp only at hasc hlen
    have hs := d_search (row := xs) (x := low) hasc (by omega)
    obtain ⟨N, hN⟩ : ∃ N, (xs.map iF).length = N := ⟨_, rfl⟩
    have hN' : xs.length = N := by rw [← hN]; simp
    rw [show intsD xs = DV.one (.f (.sl 1 N (xs.map iF))) from by rw [intsD, hN']] at hs
    repeat (first | refine dw_p rfl ?_ | refine dw_l rfl ?_ | refine dw_nil ?_ | refine ds_seq ?_ | refine ds_ops mix (fun base => ?_))
    refine dw_mlook rfl rfl rfl (rowsM_at hi0) (first_at hR.nd hi0) rfl (noKM_rows R) rfl rfl ?_
    rw [hN]
    repeat (first | refine dw_p rfl ?_ | refine dw_nil ?_ | refine ds_seq ?_ | refine ds_ops mix (fun base => ?_))
    refine dw_cfo (ds := [.one (.f (.sl 1 N (xs.map iF))), .int low]) rfl ⟨⟨_, rfl, _, _, rfl, subL_all _ (by rw [hN]; omega), rfl⟩, ⟨_, rfl, rfl, rfl⟩, trivial⟩ hs ?_ ?_
    · rintro _ ⟨i, b, rfl, _⟩; rfl
    rintro _ ⟨i, bb, rfl, hi, hlo, hhi⟩
    repeat (first | refine dw_p rfl ?_ | refine dw_nil ?_ | refine ds_seq ?_ | refine ds_ops mix (fun base => ?_) | refine ds_block ?_)
    refine ds_virt 13 2 rfl ?_
    rw [hN'] at hi
    have hT : ∀ c : Nat, i + c ≤ N → ((((xs.drop i).take c).map fun x => (x, y)).flatMap ptF).length = c * 2 := fun c hc => by rw [ptF_len]; simp; omega
    refine ds_loop (fun m E S nk => ∃ c : Nat, i + c ≤ N ∧ m = N - (i + c) ∧ (∀ (k : Nat) (z : Int), i ≤ k → k < i + c → xs[k]? = some z → z ≤ high) ∧ E = [(0, .int y), (2, .int high), (3, .one (.ptr 1 0)), (4, .one (.ptr 2 0)), (9, .one (.own 6 0 N 1)), (10, .int i), (12, .int (i + c : Nat)), (13, .one (.own 7 0 c 2))] ∧ S = (7, .data ((((xs.drop i).take c).map fun x => (x, y)).flatMap ptF)) :: (6, .data (xs.map iF)) :: SSe ((rowsM R).set i0 (y, .out (.own 6 0 N 1))) left A B a b ∧ nk = 8) ⟨N - i, _, _, _, [], ?wk, 0, hi, rfl, fun k z h1 h2 => by omega, rfl, rfl, rfl⟩ ?_
    case wk => exact ⟨(by repeat (first | exact trivial | refine ⟨by first | rfl | exact congrArg (fun z => some (DV.int z)) (dwrap (by omega) (by omega)), rfl, ?_⟩)), ⟨rfl, rfl, rfl, rfl, rfl, rfl, wkSSe (mtMap_set _ R i0 y _) (smM_set rfl y R i0) rfl rfl rfl rfl rfl rfl (by omega)⟩, rfl, rfl⟩
    rintro m E S nk ⟨c, hj, hm, hle, rfl, rfl, rfl⟩
    have hTc := hT c hj
    -- behind the loop
    have fin : (∀ (k : Nat) (z : Int), i + c ≤ k → xs[k]? = some z → high < z) → DPS (parK Z lo 6 β H) f50.n (((SC.ops f50r8 0).seq (SC.cond (Opd.t 49) ((SC.ops f50r9 7).seq (SC.ops f50r10 0)) SC.skip)).seq ((SC.ops f50r11 0).seq SC.ret)) (retO (parK Z lo 6 β H) f50.res fun d S nk => d = DV.one (DC.own 7 0 (tkn R y low high).length 2) ∧ S = (7, Bk.data (List.flatMap ptF (tkn R y low high))) :: SS (lft R y low high) (left - ↑(tkn R y low high).length) A B a b ∧ nk = 8)
        [(0, .int y), (2, .int high), (3, .one (.ptr 1 0)), (4, .one (.ptr 2 0)), (9, .one (.own 6 0 N 1)), (10, .int i), (12, .int (i + c : Nat)), (13, .one (.own 7 0 c 2))] ((7, .data ((((xs.drop i).take c).map fun x => (x, y)).flatMap ptF)) :: (6, .data (xs.map iF)) :: SSe ((rowsM R).set i0 (y, .out (.own 6 0 N 1))) left A B a b) 8 := by
      intro hgt
      obtain ⟨f1, f2⟩ := seg (low := low) (high := high) (Nat.le_add_right i c) (by omega) hlo hhi hle hgt
      rw [Nat.add_sub_cancel_left] at f1
      rw [f1] at t1
      rw [f2] at t2
      have htl : (tkn R y low high).length = c := by rw [t1]; simp; omega
      rw [t2, htl, t1]
      have hes : ∀ d : DC, ((rowsM R).set i0 (y, .out d))[i0]? = some (y, .out d) := fun d => by
        have : i0 < (rowsM R).length := by have := (List.getElem?_eq_some_iff.1 hi0).1; simpa [rowsM] using this
        rw [List.getElem?_set_self this]
      have hfs : ∀ (d : DC) (j : Nat) (e' : Int × ME), j < i0 → ((rowsM R).set i0 (y, .out d))[j]? = some e' → e'.1 ≠ y := fun d j e' hj he => by
        rcases set_at he with ⟨h, _⟩ | ⟨_, h⟩
        · omega
        · exact first_at hR.nd hi0 j e' hj h
      by_cases hc : 0 < c
      · have g2 : decide (((i + c : Nat) : Int) > (i : Nat)) = true := decide_eq_true (by omega)
        repeat (first | refine dw_pB rfl (by assumption) ?_ | refine dw_p rfl ?_ | refine dw_nil ?_ | refine ds_seq ?_ | refine ds_ops mix (fun base => ?_))
        refine ds_if rfl (fun _ => ?_) (fun h => by cases h)
        repeat (first | refine dw_p rfl ?_ | refine dw_lk rfl ?_ | refine ds_seq ?_ | refine ds_ops mix (fun base => ?_))
        refine dw_cxw rfl rfl (dx_delete rfl hN (by omega) (by omega) (by omega) _ _ _ _ _) ?_
        rintro d S' nk' ⟨rfl, rfl, rfl⟩
        refine ⟨⟨rfl, ⟨_, rfl, rfl, rfl, rfl⟩, trivial⟩, ?_⟩
        refine dw_mupd rfl rfl rfl rfl (hes _) (hfs _) rfl ?_
        rw [List.set_set]
        repeat (first | refine dw_p rfl ?_ | refine dw_l rfl ?_ | refine dw_st rfl rfl rfl rfl rfl (Nat.le_of_ble_eq_true rfl) rfl ?_ | refine dw_nil ?_ | refine ds_seq ?_ | refine ds_ops mix (fun base => ?_))
        have hq : ((xs.map iF).take i ++ (xs.map iF).drop (i + c)).length = i + (N - (i + c)) := by simp; omega
        refine ds_att 0 6 i0 rfl rfl (by rw [hq]; exact hes _) rfl (noKM_set rfl y R i0) rfl ?_
        rw [List.set_set]
        skip
        have hw1 : IntKind.i64.wrap (left - IntKind.i64.wrap (((i + c : Nat) : Int) - (i : Nat))) = left - c := by
          rw [dwrap (n := ((i + c : Nat) : Int) - (i : Nat)) (by omega) (by omega), dwrap (by omega) (by omega)]; omega
        have hm1 : rowsM (R.set i0 (y, xs.take i ++ xs.drop (i + c))) = (rowsM R).set i0 (y, .row ((xs.map iF).take i ++ (xs.map iF).drop (i + c))) := by rw [rowsM_set]; simp
        refine ds_ret ⟨_, rfl, rfl, _, ?_, rfl, rfl, rfl⟩
        refine SubA.cons (k := 7) rfl (SubA.cons (k := 0) ?_ (SubA.cons (k := 1) rfl (SubA.cons (k := 2) ?_ (SubA.cons (k := 3) rfl (SubA.cons (k := 4) rfl (SubA.cons (k := 5) rfl (SubA.nil _)))))))
        · rw [hm1]; rfl
        · rw [← hw1]; rfl
      · obtain rfl : c = 0 := by omega
        have g2 : decide (((i + 0 : Nat) : Int) > (i : Nat)) = false := decide_eq_false (by omega)
        repeat (first | refine dw_pB rfl (by assumption) ?_ | refine dw_p rfl ?_ | refine dw_nil ?_ | refine ds_seq ?_ | refine ds_ops mix (fun base => ?_))
        refine ds_if rfl (fun h => by cases h) (fun _ => ?_)
        repeat (first | refine dw_p rfl ?_ | refine dw_nil ?_ | refine ds_seq ?_ | refine ds_ops mix (fun base => ?_) | refine ds_skip ?_)
        refine ds_att 0 6 i0 rfl rfl (by rw [hN]; exact hes _) rfl (noKM_set rfl y R i0) rfl ?_
        rw [List.set_set]
        skip
        have hm1 : rowsM (R.set i0 (y, xs.take i ++ xs.drop (i + 0))) = (rowsM R).set i0 (y, .row (xs.map iF)) := by rw [rowsM_set]; simp
        refine ds_ret ⟨_, rfl, rfl, _, ?_, rfl, rfl, rfl⟩
        refine SubA.cons (k := 7) rfl (SubA.cons (k := 0) ?_ (SubA.cons (k := 1) rfl (SubA.cons (k := 2) ?_ (SubA.cons (k := 3) rfl (SubA.cons (k := 4) rfl (SubA.cons (k := 5) rfl (SubA.nil _)))))))
        · rw [hm1]; rfl
        · simp; rfl
    by_cases hjN : i + c < N
    · have g1 : decide (((i + c : Nat) : Int) < N) = true := decide_eq_true (by omega)
      obtain ⟨x, hx⟩ : ∃ x, xs[i + c]? = some x := ⟨_, List.getElem?_eq_getElem (by omega)⟩
      have e1 : subL (xs.map iF) (Int.toNat ((i + c : Nat) : Int)) 1 = some [iF x] := by have := iF_at hx; rw [Nat.mul_one] at this; exact this
      repeat (first | refine dw_want rfl rfl ?_ | refine dw_pickT rfl rfl ?_ | refine dw_pB rfl (by assumption) ?_ | refine dw_p rfl ?_ | refine dw_io1 rfl rfl (by omega) (by omega) ?_ | refine dw_l (dload_data rfl rfl (by assumption) rfl) ?_ | refine dw_nil ?_ | refine ds_seq ?_ | refine ds_ops mix (fun base => ?_))
      refine ds_if rfl (fun hl2 => ?_) (fun hl2 => ?_)
      · have hxh : x ≤ high := by simpa using hl2
        repeat (first | refine dw_p rfl ?_ | refine dw_io1 rfl rfl (by omega) (by omega) ?_ | refine dw_l (dload_data rfl rfl (by assumption) rfl) ?_ | refine dw_a rfl ?_ | refine ds_seq ?_ | refine ds_ops mix (fun base => ?_) | refine ds_skip ?_ | refine ds_block ?_)
        refine dw_app rfl rfl rfl (subL_all _ hTc) ⟨rfl, rfl, _, rfl, rfl⟩ (by omega) (by omega) (by decide) rfl ?_
        repeat (first | refine dw_p rfl ?_ | refine dw_nil ?_ | refine ds_ops mix (fun base => ?_))
        have hD : (((xs.drop i).take c).map fun x => (x, y)).flatMap ptF ++ [iF x, .c (.int .i64 y)] = (((xs.drop i).take (c + 1)).map fun x => (x, y)).flatMap ptF := by
          rw [List.take_add_one, List.getElem?_drop, hx]
          simp [ptF, iF]
        refine ⟨N - (i + (c + 1)), by omega, _, _, _, [(7, 9)], ?wk1, c + 1, by omega, rfl, fun k z h1 h2 hz => ?_, rfl, rfl, rfl⟩
        case wk1 => exact ⟨(by repeat (first | exact trivial | refine ⟨by first | rfl | exact congrArg (fun z => some (DV.int z)) (dwrap (by omega) (by omega)), rfl, ?_⟩)), ⟨congrArg (fun z => some (Bk.data z)) hD, rfl, rfl, rfl, rfl, rfl, wkSSe (mtMap_set _ R i0 y _) (smM_set rfl y R i0) rfl rfl rfl rfl rfl rfl (by omega)⟩, rfl, rfl⟩
        rcases Nat.lt_or_ge k (i + c) with h | h
        · exact hle k z h1 h hz
        · obtain rfl : k = i + c := by omega
          rw [hx] at hz; obtain rfl := Option.some.inj hz; exact hxh
      · have hxh : high < x := by simpa using hl2
        refine ds_exit ?_
        refine ds_keep (E0 := [(0, .int y), (2, .int high), (3, .one (.ptr 1 0)), (4, .one (.ptr 2 0)), (9, .one (.own 6 0 N 1)), (10, .int i), (12, .int (i + c : Nat)), (13, .one (.own 7 0 c 2))]) (SubA.cons (k := 0) rfl (SubA.cons (k := 2) rfl (SubA.cons (k := 3) rfl (SubA.cons (k := 4) rfl (SubA.cons (k := 9) rfl (SubA.cons (k := 10) rfl (SubA.cons (k := 12) rfl (SubA.cons (k := 13) rfl (SubA.nil _))))))))) (SubA.refl _) (fin fun k z hk hz => ?_)
        rcases Nat.lt_or_ge (i + c) k with h | h
        · have := hasc (i + c) k x z h hx hz; omega
        · obtain rfl : k = i + c := by omega
          rw [hx] at hz; obtain rfl := Option.some.inj hz; exact hxh
    · have g1 : decide (((i + c : Nat) : Int) < N) = false := decide_eq_false (by omega)
      repeat (first | refine dw_skip rfl rfl ?_ | refine dw_pickF rfl rfl ?_ | refine dw_pB rfl (by assumption) ?_ | refine dw_p rfl ?_ | refine dw_nil ?_ | refine ds_seq ?_ | refine ds_ops mix (fun base => ?_))
      refine ds_if rfl (fun h => by cases h) (fun _ => ?_)
      refine ds_exit ?_
      refine ds_keep (E0 := [(0, .int y), (2, .int high), (3, .one (.ptr 1 0)), (4, .one (.ptr 2 0)), (9, .one (.own 6 0 N 1)), (10, .int i), (12, .int (i + c : Nat)), (13, .one (.own 7 0 c 2))]) (SubA.cons (k := 0) rfl (SubA.cons (k := 2) rfl (SubA.cons (k := 3) rfl (SubA.cons (k := 4) rfl (SubA.cons (k := 9) rfl (SubA.cons (k := 10) rfl (SubA.cons (k := 12) rfl (SubA.cons (k := 13) rfl (SubA.nil _))))))))) (SubA.refl _) (fin fun k z hk hz => ?_)
      have := (List.getElem?_eq_some_iff.1 hz).1
      omega
  · have hn : ∀ e ∈ R, e.1 ≠ y := fun e he h => hy (by
      obtain ⟨i, hi⟩ := List.getElem?_of_mem he
      exact ⟨i, e.2, by rw [hi, ← h]⟩)
    obtain ⟨ht, hlf⟩ := tkn_none (low := low) (high := high) hn
    rw [ht, hlf]
    repeat (first | refine dw_p rfl ?_ | refine dw_l rfl ?_ | refine dw_nil ?_ | refine ds_seq ?_ | refine ds_ops mix (fun base => ?_))
    refine dw_mlook0 rfl rfl rfl (fun e he => ?_) rfl ?_
    · simp only [rowsM, List.mem_map] at he
      obtain ⟨e', he', rfl⟩ := he
      exact hn e' he'
    repeat (first | refine dw_p rfl ?_ | refine dw_nil ?_ | refine ds_seq ?_ | refine ds_ops mix (fun base => ?_))
    refine dw_cf rfl rfl d_search0 ?_
    rintro _ ⟨bb, rfl⟩
    repeat (first | refine dw_p rfl ?_ | refine dw_nil ?_ | refine ds_seq ?_ | refine ds_ops mix (fun base => ?_) | refine ds_block ?_)
    refine ds_loop (fun m E S nk => E = [(9, .one (.f (.c .nils))), (10, .int 0), (12, .int 0), (13, .one (.f (.c .nils)))] ∧ S = SS R left A B a b ∧ nk = 6) ⟨0, _, _, _, [], ?wk, rfl, rfl, rfl⟩ ?_
    case wk => exact ⟨(by repeat (first | exact trivial | refine ⟨by first | rfl | exact congrArg (fun z => some (DV.int z)) (dwrap (by omega) (by omega)), rfl, ?_⟩)), wkSS rfl rfl rfl rfl rfl rfl (by omega), rfl, rfl⟩
    rintro m E S nk ⟨rfl, rfl, rfl⟩
    repeat (first | refine dw_skip rfl rfl ?_ | refine dw_pickF rfl rfl ?_ | refine dw_p rfl ?_ | refine dw_nil ?_ | refine ds_seq ?_ | refine ds_ops mix (fun base => ?_))
    refine ds_if rfl (fun h => by cases h) (fun _ => ?_)
    repeat (first | refine dw_p rfl ?_ | refine dw_nil ?_ | refine ds_seq ?_ | refine ds_ops mix (fun base => ?_) | refine ds_exit ?_)
    refine ds_if rfl (fun h => by cases h) (fun _ => ?_)
    repeat (first | refine dw_p rfl ?_ | refine dw_nil ?_ | refine ds_seq ?_ | refine ds_ops mix (fun base => ?_) | refine ds_skip ?_)
    refine ds_virt 8 2 rfl ?_
    refine ds_wk [(7, 6)] (n0 := 8) (E0 := [(8, .one (.own 7 0 0 2))]) (S0 := (7, .data []) :: SS R left A B a b) ?wk2 ?_
    case wk2 => exact ⟨(by repeat (first | exact trivial | refine ⟨by first | rfl | exact congrArg (fun z => some (DV.int z)) (dwrap (by omega) (by omega)), rfl, ?_⟩)), ⟨rfl, rfl, rfl, wkSS rfl rfl rfl rfl rfl rfl (by omega)⟩, rfl, rfl⟩
    exact ds_ret ⟨_, rfl, rfl, _, SubA.refl _, by simp, by simp, rfl⟩
end Go.Ab.Fn

/- Rules: a nil slice in a region; clear. -/
namespace Go.Ab
section
variable {p : Par} {base rs : Nat} {Q : DEnv → Bx → Nat → Prop} {r : List SOper} {W : Wt} {A : List Nat} {E : DEnv} {S : Bx} {nk : Nat} {id : Nat} {dst : Option Nat} {aid : Option Nat} {ws : List Nat} {keep : Bool}
/-- a nil slice in a region, to which will be appended -/
theorem dw_virt {l : List SOper} (t esz : Nat) (ht : lk E t = some (.one (.f (.c .nils)))) (h : DPW p base rs Q l W A ((t, .one (.own nk 0 0 esz)) :: E) ((nk, .data []) :: S) (nk + 1)) : DPW p base rs Q l W A E S nk := .mk fun Z β H F c hS hE hC hA => by
  refine h.run Z _ H F c (virt_ok hS) (fun k d hd => ?_) (hC.step (ZLe.refl Z H) (hS.ble .nil) fun _ _ _ _ _ _ _ _ _ _ _ _ _ h => h) ⟨hA.1, fun j hj hjA => ?_⟩
  · rw [lk_cons] at hd
    split at hd
    · rename_i e; subst e
      obtain rfl := Option.some.inj hd
      obtain ⟨v, hv, c, rfl, hr⟩ := hE _ _ ht
      cases hr
      exact ⟨_, hv, _, rfl, .inl ⟨updB_self _ _ _, rfl, rfl, rfl⟩⟩
    · exact hE.mono (ZLe.refl Z H) (hS.ble .nil) k d hd
  · obtain ⟨a1, a2, a3, a4⟩ := hA.2 j hj hjA
    refine ⟨a1, a2, a3, fun k N hk => ?_⟩
    unfold updB at hk
    split at hk
    · cases hk
    · exact a4 k N hk
theorem patt_rel {Z : Nat → Prop} {H : Hp} {zf : List FD} {z : List C} (hz : zeq zf z) (hp : 0 < z.length) (n : Nat) : All2 (RF Z H) (reps' zf n) (patt z (n * z.length)) := by
  obtain ⟨cs, rest, h1, h2⟩ := mk_rel (Z := Z) (H := H) hz hp (Nat.le_refl (n * z.length))
  have hl : zf.length = z.length := (zeq_ok (Z := Z) (H := H) hz).len
  have h3 := h2.len
  rw [reps'_len, hl] at h3
  have h4 : ((List.range (n * z.length)).map fun i => z.getD (i % z.length) .nilp).length = n * z.length := by simp
  rw [h1, List.length_append] at h4
  have : rest = [] := List.eq_nil_of_length_eq_zero (by omega)
  subst this
  unfold patt
  rw [h1, List.append_nil]
  exact h2
theorem dw_clr {esz k o n : Nat} {z : List C} {zf : List FD} {x : Opd} {l : List FD} (hx : ro E x = some (.one (.own k o n esz))) (hk : lk S k = some (.data l)) (hle : o + n * esz ≤ l.length) (hz : zeq zf z) (hze : z.length = esz) (hp : 0 < esz) (hn : 0 < n) (hw : wOk S k W = true)
    (h : DPW p base rs Q r W A (setD E dst .undef) (put k (.data (setLs l o (reps' zf n))) S) nk) : DPW p base rs Q (⟨id, dst, .e (.clear esz z x), none, aid, ws, keep⟩ :: r) W A E S nk := .mk fun Z β H F c hS hE hC hA => by
  subst hze
  obtain ⟨ca, hca, hr⟩ := ro_ok hE hx
  rcases hr with ⟨_, h0, _⟩ | ⟨b, N, cap, ex, hb, rfl, hcap, hN'⟩
  · omega
  have hfl := wOk_flat hw hk
  have hsh := wOk_row hw hk
  obtain ⟨s, hs, hbx⟩ := hS.box (k, 0) _ (lk2_of hk hfl)
  rw [hb] at hs
  obtain rfl := Option.some.inj hs
  obtain ⟨hzb, hlo, hlt, cs, rest, hrow, hN, hrel⟩ := hbx
  have hN : (cs ++ rest).length = N := hN
  have hrow : Row H b (cs ++ rest) := hrow
  have hlen : l.length = cs.length := Bk.rel_len hrel
  have hk2 := patt_rel (Z := Z) (H := H) hz hp n
  have hkl := hk2.len
  have hpl : (patt z (n * z.length)).length = n * z.length := by simp [patt]
  obtain ⟨H', e1, e2, e3, e4⟩ := hrow.stores (cs := patt z (n * z.length)) (i := o) (by simp; omega)
  rw [setL_app _ cs rest o (by omega)] at e2
  obtain ⟨hS', hZ⟩ := hS.upd (x' := .data (setLs l o (reps' zf n))) (cs := setL cs o (patt z (n * z.length))) (rest := rest) hk hfl hb (All2.setLs hk2 o hrel) e3 e4 rfl e2 (by rw [List.length_append, setL_len, ← List.length_append]; exact hN)
  simp only [wOps, wantedA, if_true, aEff, hca]
  rw [e1]
  have hC' := hC.upd (k := (k, 0)) hS hk hZ e3 hb (wOk_0 hw)
  exact ⟨hC'.watch ws, h.run Z β H' _ c hS' ((hE.mono hZ (BLe.refl _)).set dst undef_ok) hC' (hA.upd e4 e3 hb)⟩
end
end Go.Ab

/- Deep contracts: grids. -/
namespace Go.Ab.Fn
open Go.Ab Go.Proofs
set_option linter.unusedSimpArgs false

def Sz (w h : Nat) (d : DotsL) : Prop := d.length = h ∧ ∀ r ∈ d, r.length = w
def dot (d : DotsL) (x y : Nat) : Bool := match d[y]? with
  | some r => (r[x]?).getD false
  | none => false
def setDot (d : DotsL) (x y : Nat) (b : Bool) : DotsL := match d[y]? with
  | some r => d.set y (r.set x b)
  | none => d
theorem Sz.row {w h : Nat} {d : DotsL} (hd : Sz w h d) {y : Nat} (hy : y < h) : ∃ r, d[y]? = some r ∧ r.length = w := by
  have hl : y < d.length := by rw [hd.1]; exact hy
  exact ⟨d[y], List.getElem?_eq_getElem hl, hd.2 _ (List.getElem_mem hl)⟩
theorem Sz.cell {w h : Nat} {d : DotsL} (hd : Sz w h d) {x y : Nat} (hx : x < w) (hy : y < h) : ∃ r, d[y]? = some r ∧ r.length = w ∧ r[x]? = some (dot d x y) := by
  obtain ⟨r, h1, h2⟩ := hd.row hy
  refine ⟨r, h1, h2, ?_⟩
  have : x < r.length := by omega
  simp [dot, h1, List.getElem?_eq_getElem this]
theorem Sz.set {w h : Nat} {d : DotsL} (hd : Sz w h d) (x y : Nat) (b : Bool) : Sz w h (setDot d x y b) := by
  unfold setDot
  split
  · rename_i r hr
    refine ⟨by simpa using hd.1, fun q hq => ?_⟩
    rcases List.mem_or_eq_of_mem_set hq with h | h
    · exact hd.2 q h
    · subst h; simpa using hd.2 r (List.mem_of_getElem? hr)
  · exact hd
theorem dot_set {w h : Nat} {d : DotsL} (hd : Sz w h d) {x y : Nat} (hx : x < w) (hy : y < h) (b : Bool) (i j : Nat) : dot (setDot d x y b) i j = if i = x ∧ j = y then b else dot d i j := by
  obtain ⟨r, h1, h2⟩ := hd.row hy
  have hyl : y < d.length := by rw [hd.1]; exact hy
  simp only [setDot, h1, dot, List.getElem?_set]
  by_cases e : y = j
  · subst e
    rw [if_pos rfl, if_pos hyl]
    simp only [h1, List.getElem?_set]
    by_cases e2 : x = i
    · subst e2; rw [if_pos rfl, if_pos (by omega)]; simp
    · rw [if_neg e2, if_neg (fun h => e2 h.1.symm)]
  · rw [if_neg e, if_neg (fun h => e h.2.symm)]
theorem Sz.ext {w h : Nat} {d d' : DotsL} (hd : Sz w h d) (hd' : Sz w h d') (he : ∀ x y, x < w → y < h → dot d x y = dot d' x y) : d = d' := by
  refine List.ext_getElem? fun y => ?_
  by_cases hy : y < h
  · obtain ⟨r, h1, h2⟩ := hd.row hy
    obtain ⟨r', h1', h2'⟩ := hd'.row hy
    rw [h1, h1']
    congr 1
    refine List.ext_getElem? fun x => ?_
    by_cases hx : x < w
    · obtain ⟨_, g1, _, g2⟩ := hd.cell hx hy
      obtain ⟨_, g1', _, g2'⟩ := hd'.cell hx hy
      rw [h1] at g1; rw [h1'] at g1'
      obtain rfl := Option.some.inj g1
      obtain rfl := Option.some.inj g1'
      rw [g2, g2', he x y hx hy]
    · rw [List.getElem?_eq_none (by omega), List.getElem?_eq_none (by omega)]
  · rw [List.getElem?_eq_none (by rw [hd.1]; omega), List.getElem?_eq_none (by rw [hd'.1]; omega)]
theorem Sz.blankD (w h : Nat) : Sz w h (blankD w h) := ⟨by simp [Fn.blankD], fun r hr => by
  obtain ⟨_, rfl⟩ := List.mem_replicate.1 hr
  simp⟩
theorem dot_blank (w h x y : Nat) : dot (blankD w h) x y = false := by
  unfold dot
  split
  · rename_i r hr
    simp only [blankD, List.getElem?_replicate] at hr
    split at hr
    · obtain rfl := Option.some.inj hr
      rw [List.getElem?_replicate]
      split <;> rfl
    · cases hr
  · rfl
theorem rowsF_setDot {d : DotsL} {y : Nat} {r : List Bool} (h : d[y]? = some r) (x : Nat) (b : Bool) : (rowsF d).set y ((r.map boF).set x (.c (.bool b))) = rowsF (setDot d x y b) := by
  simp only [setDot, h]
  rw [← rowsF_set, ← boF_set]; rfl
theorem rowF_at {rows : List (List FD)} {y : Nat} {r : List FD} (h : rows[y]? = some r) : subL (rows.map rowF) (y * 1) 1 = some [rowF r] := by
  have hl := (List.getElem?_eq_some_iff.1 h).1
  rw [Nat.mul_one, subL_of (by simp; omega)]
  congr 1
  refine List.ext_getElem? fun j => ?_
  rw [List.getElem?_take]
  split
  · rename_i hj
    obtain rfl : j = 0 := by omega
    rw [List.getElem?_drop, List.getElem?_map, Nat.add_zero, h]
    rfl
  · rw [List.getElem?_eq_none (by simp; omega)]
theorem one_at {r : List FD} {x : Nat} {b : FD} (h : r[x]? = some b) : subL r (x * 1) 1 = some [b] := by
  have hl := (List.getElem?_eq_some_iff.1 h).1
  rw [Nat.mul_one, subL_of (by omega)]
  congr 1
  refine List.ext_getElem? fun j => ?_
  rw [List.getElem?_take]
  split
  · rename_i hj
    obtain rfl : j = 0 := by omega
    rw [List.getElem?_drop, Nat.add_zero, h]
    rfl
  · rw [List.getElem?_eq_none (by simp; omega)]

theorem o_new (w h : Int) : DKO 31 [.int w, .int h] fun d S nk => ∃ n m : Nat, side w = n ∧ side h = m ∧ n ≤ 200 ∧ m ≤ 200 ∧ d = .agg [.f (.c (.int .i64 n)), .f (.c (.int .i64 m)), .own 2 0 m 1] ∧ S = [(2, .tree (rowsF (blankD n m)))] ∧ nk = 3 := by
  refine dfnO_ok cp31 rfl GHro fun Z0 lo => ?_
  obtain ⟨n, hn, hn2⟩ := side_nat w
  obtain ⟨m, hm, hm2⟩ := side_nat h
  repeat (first | refine dw_max rfl rfl ?_ | refine dw_min rfl rfl ?_ | refine dw_p rfl ?_ | refine dw_a rfl ?_ | refine dw_nil ?_ | refine ds_seq ?_ | refine ds_ops mix (fun base => ?_))
  rw [show min (max w 0) 200 = (n : Int) from hn, show min (max h 0) 200 = (m : Int) from hm]
  refine dw_mkt (n := m) rfl rfl (by omega) (by omega) ?_
  repeat (first | refine dw_p rfl ?_ | refine dw_a rfl ?_ | refine dw_st rfl rfl rfl rfl rfl (Nat.le_of_ble_eq_true rfl) rfl ?_ | refine dw_nil ?_ | refine ds_seq ?_ | refine ds_ops mix (fun base => ?_) | refine ds_block ?_)
  refine ds_loop (fun k E S nk => ∃ y : Nat, y + k = m ∧ ∃ cur : DotsL, cur.length = m ∧ (∀ j, j < y → cur[j]? = some (List.replicate n false)) ∧ E = [(0, .int n), (4, .one (.ptr 0 0)), (5, .one (.ptr 1 0)), (18, .int m), (19, .int y)] ∧ S = [(0, .cells [.f (.c (.int .i64 0)), .f (.c (.int .i64 0)), .f (.c .nils)]), (1, .cells [.f (.c (.int .i64 n)), .f (.c (.int .i64 m)), .own 2 0 m 1]), (2, .tree (rowsF cur))] ∧ nk = 3) ⟨m, _, _, _, [(1, 2), (2, 1)], ?wk, 0, by omega, List.replicate m [], by simp, by omega, rfl, rfl, rfl⟩ ?_
  case wk => exact ⟨by repeat (first | exact trivial | refine ⟨rfl, rfl, ?_⟩), ⟨rfl, rfl, rfl, rfl, rfl, rfl, congrArg (fun z => some (Bk.tree z)) (by simp [rowsF]), rfl, rfl, trivial⟩, rfl, rfl⟩
  rintro k E S nk ⟨y, hy, cur, hcl, hcur, rfl, rfl, rfl⟩
  repeat (first | refine dw_p rfl ?_ | refine dw_nil ?_ | refine ds_seq ?_ | refine ds_ops mix (fun base => ?_))
  refine ds_if rfl (fun ht => ?_) (fun ht => ?_)
  · simp at ht
    repeat (first | refine dw_p rfl ?_ | refine dw_l rfl ?_ | refine dw_nil ?_ | refine ds_seq ?_ | refine ds_ops mix (fun base => ?_) | refine ds_skip ?_ | refine ds_block ?_)
    refine dw_mki [.c (.bool false)] rfl rfl rfl rfl ⟨rfl, rfl, trivial⟩ rfl (by decide) (Nat.le_refl _) (by omega) (by omega) ?_
    repeat (first | refine dw_io1 rfl rfl (by omega) (by omega) ?_)
    refine dw_strow rfl rfl rfl rfl (by rw [reps'_len]; simp) (by rw [rowsF_len]; simp; omega) rfl ?_
    rw [reps_false, Int.toNat_natCast, rowsF_set]
    repeat (first | refine dw_p rfl ?_ | refine dw_nil ?_ | refine ds_ops mix (fun base => ?_))
    refine ⟨k - 1, by omega, _, _, _, [(2, 4)], ?wk1, y + 1, by omega, cur.set y (List.replicate n false), by simpa using hcl, fun j hj => ?_, rfl, rfl, rfl⟩
    case wk1 => exact ⟨by repeat (first | exact trivial | refine ⟨by first | rfl | exact congrArg (fun z => some (DV.int z)) (dwrap (by omega) (by omega)), rfl, ?_⟩), by repeat (first | exact trivial | refine ⟨by first | rfl | exact congrArg (fun z => some (Bk.data z)) (by assumption), rfl, rfl, ?_⟩), rfl, rfl⟩
    rw [List.getElem?_set]
    split
    · rename_i e; rw [if_pos (by omega)]
    · exact hcur j (by omega)
  · simp at ht
    obtain rfl : y = m := by omega
    repeat (first | refine dw_l rfl ?_ | refine dw_st rfl rfl rfl rfl rfl (Nat.le_of_ble_eq_true rfl) rfl ?_ | refine dw_nil ?_ | refine ds_seq ?_ | refine ds_ops mix (fun base => ?_) | refine ds_exit ?_)
    refine ds_ret ⟨_, rfl, rfl, _, SubA.cons (k := 2) rfl (SubA.nil _), n, y, hn, hm, hn2, hm2, rfl, ?_, rfl⟩
    congr 4
    refine List.ext_getElem? fun j => ?_
    simp only [blankD, List.getElem?_replicate]
    split
    · rename_i hj; exact hcur j hj
    · rw [List.getElem?_eq_none (by omega)]

def onG (w h : Int) (p : Pt2) : Bool := decide (0 ≤ p.1 ∧ p.1 < w ∧ 0 ≤ p.2 ∧ p.2 < h)
theorem d_on {w h : Int} {x : FD} {p : Pt2} : DK 37 [.agg [.f (.c (.int .i64 w)), .f (.c (.int .i64 h)), .f x], ptD p] fun d => d = .bool (onG w h p) := by
  refine dfn_ok cp37 rfl GHro fun Z0 lo => ?_
  by_cases h1 : p.1 ≥ 0
  · have g1 : decide (p.1 ≥ 0) = true := by simpa using h1
    by_cases h2 : p.1 < w
    · have g2 : decide (p.1 < w) = true := by simpa using h2
      by_cases h3 : p.2 ≥ 0
      · have g3 : decide (p.2 ≥ 0) = true := by simpa using h3
        repeat (first | refine dw_want rfl rfl ?_ | refine dw_pickT rfl rfl ?_ | refine dw_pB rfl (by assumption) ?_ | refine dw_p rfl ?_ | refine dw_l rfl ?_ | refine dw_a rfl ?_ | refine dw_nil ?_ | refine ds_seq ?_ | refine ds_ops mix (fun base => ?_))
        refine ds_ret ⟨_, rfl, rfl, ?_⟩
        have e : (0 ≤ p.1 ∧ p.1 < w ∧ 0 ≤ p.2 ∧ p.2 < h) ↔ p.2 < h := by omega
        simp only [onG, e, if_true]
      · have g3 : decide (p.2 ≥ 0) = false := by simpa using h3
        repeat (first | refine dw_want rfl rfl ?_ | refine dw_skip rfl rfl ?_ | refine dw_pickT rfl rfl ?_ | refine dw_pickF rfl rfl ?_ | refine dw_pB rfl (by assumption) ?_ | refine dw_p rfl ?_ | refine dw_l rfl ?_ | refine dw_a rfl ?_ | refine dw_nil ?_ | refine ds_seq ?_ | refine ds_ops mix (fun base => ?_))
        exact ds_ret ⟨_, rfl, rfl, by simp [onG]; omega⟩
    · have g2 : decide (p.1 < w) = false := by simpa using h2
      repeat (first | refine dw_want rfl rfl ?_ | refine dw_skip rfl rfl ?_ | refine dw_pickT rfl rfl ?_ | refine dw_pickF rfl rfl ?_ | refine dw_pB rfl (by assumption) ?_ | refine dw_p rfl ?_ | refine dw_l rfl ?_ | refine dw_a rfl ?_ | refine dw_nil ?_ | refine ds_seq ?_ | refine ds_ops mix (fun base => ?_))
      exact ds_ret ⟨_, rfl, rfl, by simp [onG]; omega⟩
  · have g1 : decide (p.1 ≥ 0) = false := by simpa using h1
    repeat (first | refine dw_skip rfl rfl ?_ | refine dw_pickF rfl rfl ?_ | refine dw_pB rfl (by assumption) ?_ | refine dw_p rfl ?_ | refine dw_l rfl ?_ | refine dw_a rfl ?_ | refine dw_nil ?_ | refine ds_seq ?_ | refine ds_ops mix (fun base => ?_))
    exact ds_ret ⟨_, rfl, rfl, by simp [onG]; omega⟩
end Go.Ab.Fn

/- Deep contracts: grids that are valid, equal, plotted. -/
namespace Go.Ab.Fn
open Go.Ab Go.Proofs
set_option linter.unusedSimpArgs false

theorem neq_self (a : Int) : (a != a) = false := by simp
theorem d_valid {w h : Nat} {d : DotsL} (hw : w ≤ 200) (hh : h ≤ 200) (hd : Sz w h d) : DK 12 [gridD w h d] fun d => d = .bool true := by
  refine dfn_ok cp12 rfl GHro fun Z0 lo => ?_
  have hl := hd.1
  have g1 : decide ((w : Int) < 0) = false := by simp
  have g2 : decide ((w : Int) > 200) = false := by simp; omega
  have g3 : decide ((h : Int) < 0) = false := by simp
  have g4 : decide ((h : Int) > 200) = false := by simp; omega
  have g5 : (((d.length : Nat) : Int) != (h : Int)) = false := by simp [hl]
  repeat (first | refine dw_want rfl rfl ?_ | refine dw_pickF rfl rfl ?_ | refine dw_pB rfl (by assumption) ?_ | refine dw_p rfl ?_ | refine dw_l rfl ?_ | refine dw_a rfl ?_ | refine dw_nil ?_ | refine ds_seq ?_ | refine ds_ops mix (fun base => ?_))
  refine ds_if rfl (fun ht => by cases ht) (fun _ => ?_)
  repeat (first | refine dw_p rfl ?_ | refine dw_l rfl ?_ | refine dw_nil ?_ | refine ds_seq ?_ | refine ds_ops mix (fun base => ?_) | refine ds_skip ?_ | refine ds_block ?_)
  refine ds_loop (fun m E S nk => ∃ k : Nat, k + m = d.length ∧ E = [(1, .one (.ptr 0 0)), (32, .one (.f (.sl 1 d.length ((rowsF d).map rowF)))), (33, .int d.length), (34, .int k)] ∧ S = [(0, .cells [.f (.c (.int .i64 w)), .f (.c (.int .i64 h)), .f (.sl 1 d.length ((rowsF d).map rowF))])] ∧ nk = 1) ⟨d.length, _, _, _, [], ?wk, 0, by omega, rfl, rfl, rfl⟩ ?_
  case wk => exact ⟨by repeat (first | exact trivial | refine ⟨by first | rfl | exact congrArg (fun z => some (DV.int z)) (dwrap (by omega) (by omega)), rfl, ?_⟩), by repeat (first | exact trivial | refine ⟨by first | rfl | exact congrArg (fun z => some (Bk.data z)) (by assumption), rfl, rfl, ?_⟩), rfl, rfl⟩
  rintro m E S nk ⟨k, hk, rfl, rfl, rfl⟩
  repeat (first | refine dw_p rfl ?_ | refine dw_nil ?_ | refine ds_seq ?_ | refine ds_ops mix (fun base => ?_))
  refine ds_if rfl (fun ht => ?_) (fun ht => ?_)
  · simp at ht
    obtain ⟨r, hr, hrl⟩ := hd.row (y := k) (by omega)
    have e1 := rowF_at (rowsF_at hr)
    have e2 : ((((r.map boF).length : Nat) : Int) != (w : Int)) = false := by simp [hrl]
    repeat (first | refine dw_pB rfl (by assumption) ?_ | refine dw_p rfl ?_ | refine dw_l rfl ?_ | refine dw_if rfl rfl (by omega) (by decide) (by assumption) ?_ | refine dw_nil ?_ | refine ds_seq ?_ | refine ds_ops mix (fun base => ?_) | refine ds_skip ?_ | refine ds_block ?_)
    refine ds_if rfl (fun ht => by cases ht) (fun _ => ?_)
    repeat (first | refine dw_p rfl ?_ | refine dw_nil ?_ | refine ds_ops mix (fun base => ?_) | refine ds_skip ?_)
    refine ⟨m - 1, by omega, _, _, _, [], ?wk1, k + 1, by omega, rfl, rfl, rfl⟩
    case wk1 => exact ⟨by repeat (first | exact trivial | refine ⟨by first | rfl | exact congrArg (fun z => some (DV.int z)) (dwrap (by omega) (by omega)), rfl, ?_⟩), by repeat (first | exact trivial | refine ⟨by first | rfl | exact congrArg (fun z => some (Bk.data z)) (by assumption), rfl, rfl, ?_⟩), rfl, rfl⟩
  · simp at ht
    repeat (first | refine dw_p rfl ?_ | refine dw_nil ?_ | refine ds_seq ?_ | refine ds_ops mix (fun base => ?_) | refine ds_exit ?_)
    exact ds_ret ⟨_, rfl, rfl, rfl⟩

theorem d_rvalid {w h : Nat} {d : DotsL} (hw : w ≤ 200) (hh : h ≤ 200) (hd : Sz w h d) : DK 13 [gridD w h d] fun d => d = .bool true := by
  refine dfn_ok cp13 rfl GHro fun Z0 lo => ?_
  have hl := hd.1
  have g1 : decide ((w : Int) < 0) = false := by simp
  have g2 : decide ((w : Int) > 200) = false := by simp; omega
  have g3 : decide ((h : Int) < 0) = false := by simp
  have g4 : decide ((h : Int) > 200) = false := by simp; omega
  have g5 : (((d.length : Nat) : Int) != (h : Int)) = false := by simp [hl]
  repeat (first | refine dw_want rfl rfl ?_ | refine dw_pickF rfl rfl ?_ | refine dw_pB rfl (by assumption) ?_ | refine dw_p rfl ?_ | refine dw_l rfl ?_ | refine dw_a rfl ?_ | refine dw_nil ?_ | refine ds_seq ?_ | refine ds_ops mix (fun base => ?_))
  refine ds_if rfl (fun ht => by cases ht) (fun _ => ?_)
  repeat (first | refine dw_p rfl ?_ | refine dw_nil ?_ | refine ds_seq ?_ | refine ds_ops mix (fun base => ?_) | refine ds_skip ?_ | refine ds_block ?_)
  refine ds_loop (fun m E S nk => ∃ k : Nat, k + m = h ∧ E = [(1, .one (.ptr 0 0)), (3, .int k)] ∧ S = [(0, .cells [.f (.c (.int .i64 w)), .f (.c (.int .i64 h)), .f (.sl 1 d.length ((rowsF d).map rowF))])] ∧ nk = 1) ⟨h, _, _, _, [], ?wk, 0, by omega, rfl, rfl, rfl⟩ ?_
  case wk => exact ⟨by repeat (first | exact trivial | refine ⟨by first | rfl | exact congrArg (fun z => some (DV.int z)) (dwrap (by omega) (by omega)), rfl, ?_⟩), by repeat (first | exact trivial | refine ⟨by first | rfl | exact congrArg (fun z => some (Bk.data z)) (by assumption), rfl, rfl, ?_⟩), rfl, rfl⟩
  rintro m E S nk ⟨k, hk, rfl, rfl, rfl⟩
  repeat (first | refine dw_p rfl ?_ | refine dw_l rfl ?_ | refine dw_nil ?_ | refine ds_seq ?_ | refine ds_ops mix (fun base => ?_))
  refine ds_if rfl (fun ht => ?_) (fun ht => ?_)
  · simp at ht
    obtain ⟨r, hr, hrl⟩ := hd.row (y := k) (by omega)
    have e1 := rowF_at (rowsF_at hr)
    have e2 : ((((r.map boF).length : Nat) : Int) != (w : Int)) = false := by simp [hrl]
    repeat (first | refine dw_pB rfl (by assumption) ?_ | refine dw_p rfl ?_ | refine dw_l rfl ?_ | refine dw_if rfl rfl (by omega) (by decide) (by assumption) ?_ | refine dw_nil ?_ | refine ds_seq ?_ | refine ds_ops mix (fun base => ?_) | refine ds_skip ?_ | refine ds_block ?_)
    refine ds_if rfl (fun ht => by cases ht) (fun _ => ?_)
    repeat (first | refine dw_p rfl ?_ | refine dw_nil ?_ | refine ds_ops mix (fun base => ?_) | refine ds_skip ?_)
    refine ⟨m - 1, by omega, _, _, _, [], ?wk1, k + 1, by omega, rfl, rfl, rfl⟩
    case wk1 => exact ⟨by repeat (first | exact trivial | refine ⟨by first | rfl | exact congrArg (fun z => some (DV.int z)) (dwrap (by omega) (by omega)), rfl, ?_⟩), by repeat (first | exact trivial | refine ⟨by first | rfl | exact congrArg (fun z => some (Bk.data z)) (by assumption), rfl, rfl, ?_⟩), rfl, rfl⟩
  · simp at ht
    repeat (first | refine dw_p rfl ?_ | refine dw_nil ?_ | refine ds_seq ?_ | refine ds_ops mix (fun base => ?_) | refine ds_exit ?_)
    exact ds_ret ⟨_, rfl, rfl, rfl⟩

theorem d_sameG {w h : Int} {d : DotsL} (hl : d.length < 1000000) (hr : ∀ r ∈ d, r.length < 1000000) : DK 28 [gridD w h d, gridD w h d] fun d => d = .bool true := by
  refine dfn_ok cp28 rfl GHro fun Z0 lo => ?_
  have g1 : (w != w) = false := by simp
  have g2 : (h != h) = false := by simp
  have g3 : (((d.length : Nat) : Int) != ((d.length : Nat) : Int)) = false := by simp
  repeat (first | refine dw_want rfl rfl ?_ | refine dw_pickF rfl rfl ?_ | refine dw_pB rfl (by assumption) ?_ | refine dw_p rfl ?_ | refine dw_l rfl ?_ | refine dw_a rfl ?_ | refine dw_nil ?_ | refine ds_seq ?_ | refine ds_ops mix (fun base => ?_))
  refine ds_if rfl (fun ht => by cases ht) (fun _ => ?_)
  repeat (first | refine dw_p rfl ?_ | refine dw_nil ?_ | refine ds_seq ?_ | refine ds_ops mix (fun base => ?_) | refine ds_skip ?_ | refine ds_block ?_)
  refine ds_loop (fun m E S nk => ∃ k : Nat, k + m = d.length ∧ E = [(2, .one (.ptr 0 0)), (3, .one (.ptr 1 0)), (5, .int k)] ∧ S = [(0, .cells [.f (.c (.int .i64 w)), .f (.c (.int .i64 h)), .f (.sl 1 d.length ((rowsF d).map rowF))]), (1, .cells [.f (.c (.int .i64 w)), .f (.c (.int .i64 h)), .f (.sl 1 d.length ((rowsF d).map rowF))])] ∧ nk = 2) ⟨d.length, _, _, _, [], ?wk, 0, by omega, rfl, rfl, rfl⟩ ?_
  case wk => exact ⟨by repeat (first | exact trivial | refine ⟨by first | rfl | exact congrArg (fun z => some (DV.int z)) (dwrap (by omega) (by omega)), rfl, ?_⟩), by repeat (first | exact trivial | refine ⟨by first | rfl | exact congrArg (fun z => some (Bk.data z)) (by assumption), rfl, rfl, ?_⟩), rfl, rfl⟩
  rintro m E S nk ⟨k, hk, rfl, rfl, rfl⟩
  repeat (first | refine dw_p rfl ?_ | refine dw_l rfl ?_ | refine dw_nil ?_ | refine ds_seq ?_ | refine ds_ops mix (fun base => ?_))
  refine ds_if rfl (fun ht => ?_) (fun ht => ?_)
  · simp at ht
    obtain ⟨r, hrk⟩ : ∃ r, d[k]? = some r := ⟨_, List.getElem?_eq_getElem (by omega)⟩
    have hrl := hr r (List.mem_of_getElem? hrk)
    have e1 := rowF_at (rowsF_at hrk)
    have e2 : ((((r.map boF).length : Nat) : Int) != (((r.map boF).length : Nat) : Int)) = false := by simp
    repeat (first | refine dw_pB rfl (by assumption) ?_ | refine dw_p rfl ?_ | refine dw_l rfl ?_ | refine dw_if rfl rfl (by omega) (by decide) (by assumption) ?_ | refine dw_nil ?_ | refine ds_seq ?_ | refine ds_ops mix (fun base => ?_) | refine ds_skip ?_ | refine ds_block ?_)
    refine ds_if rfl (fun ht => by cases ht) (fun _ => ?_)
    repeat (first | refine dw_p rfl ?_ | refine dw_nil ?_ | refine ds_seq ?_ | refine ds_ops mix (fun base => ?_) | refine ds_skip ?_ | refine ds_block ?_)
    refine ds_loop (fun m2 E S nk => ∃ j : Nat, j + m2 = r.length ∧ E = [(2, .one (.ptr 0 0)), (3, .one (.ptr 1 0)), (5, .int k), (6, .int j)] ∧ S = [(0, .cells [.f (.c (.int .i64 w)), .f (.c (.int .i64 h)), .f (.sl 1 d.length ((rowsF d).map rowF))]), (1, .cells [.f (.c (.int .i64 w)), .f (.c (.int .i64 h)), .f (.sl 1 d.length ((rowsF d).map rowF))])] ∧ nk = 2) ⟨r.length, _, _, _, [], ?wk1, 0, by omega, rfl, rfl, rfl⟩ ?_
    case wk1 => exact ⟨by repeat (first | exact trivial | refine ⟨by first | rfl | exact congrArg (fun z => some (DV.int z)) (dwrap (by omega) (by omega)), rfl, ?_⟩), by repeat (first | exact trivial | refine ⟨by first | rfl | exact congrArg (fun z => some (Bk.data z)) (by assumption), rfl, rfl, ?_⟩), rfl, rfl⟩
    rintro m2 E S nk ⟨j, hj, rfl, rfl, rfl⟩
    repeat (first | refine dw_p rfl ?_ | refine dw_l rfl ?_ | refine dw_if rfl rfl (by omega) (by decide) (by assumption) ?_ | refine dw_nil ?_ | refine ds_seq ?_ | refine ds_ops mix (fun base => ?_))
    refine ds_if rfl (fun ht2 => ?_) (fun ht2 => ?_)
    · simp at ht2
      obtain ⟨b, hb⟩ : ∃ b, r[j]? = some b := ⟨_, List.getElem?_eq_getElem (by omega)⟩
      have e3 := one_at (boF_at hb)
      have hlm : j < (r.map boF).length := by simp; omega
      have e4 : (b != b) = false := by simp
      repeat (first | refine dw_pB rfl (by assumption) ?_ | refine dw_p rfl ?_ | refine dw_l rfl ?_ | refine dw_if rfl rfl (by omega) (by decide) (by assumption) ?_ | refine dw_nil ?_ | refine ds_seq ?_ | refine ds_ops mix (fun base => ?_) | refine ds_skip ?_ | refine ds_block ?_)
      refine ds_if rfl (fun ht => by simp at ht) (fun _ => ?_)
      repeat (first | refine dw_p rfl ?_ | refine dw_nil ?_ | refine ds_ops mix (fun base => ?_) | refine ds_skip ?_)
      refine ⟨m2 - 1, by omega, _, _, _, [], ?wk2, j + 1, by omega, rfl, rfl, rfl⟩
      case wk2 => exact ⟨by repeat (first | exact trivial | refine ⟨by first | rfl | exact congrArg (fun z => some (DV.int z)) (dwrap (by omega) (by omega)), rfl, ?_⟩), by repeat (first | exact trivial | refine ⟨by first | rfl | exact congrArg (fun z => some (Bk.data z)) (by assumption), rfl, rfl, ?_⟩), rfl, rfl⟩
    · simp at ht2
      repeat (first | refine dw_p rfl ?_ | refine dw_nil ?_ | refine ds_ops mix (fun base => ?_) | refine ds_exit ?_)
      refine ⟨m - 1, by omega, _, _, _, [], ?wk3, k + 1, by omega, rfl, rfl, rfl⟩
      case wk3 => exact ⟨by repeat (first | exact trivial | refine ⟨by first | rfl | exact congrArg (fun z => some (DV.int z)) (dwrap (by omega) (by omega)), rfl, ?_⟩), by repeat (first | exact trivial | refine ⟨by first | rfl | exact congrArg (fun z => some (Bk.data z)) (by assumption), rfl, rfl, ?_⟩), rfl, rfl⟩
  · simp at ht
    repeat (first | refine dw_p rfl ?_ | refine dw_nil ?_ | refine ds_seq ?_ | refine ds_ops mix (fun base => ?_) | refine ds_exit ?_)
    exact ds_ret ⟨_, rfl, rfl, rfl⟩
end Go.Ab.Fn

/- Deep contracts: plotted grids. -/
namespace Go.Ab.Fn
open Go.Ab Go.Proofs
set_option linter.unusedSimpArgs false

def plot1 (w h : Nat) (d : DotsL) (p : Pt2) : DotsL := if onG w h p = true then setDot d p.1.toNat p.2.toNat true else d
def plotP (w h : Nat) (d : DotsL) (l : List Pt2) : DotsL := l.foldl (plot1 w h) d
theorem plot1_sz {w h : Nat} {d : DotsL} (hd : Sz w h d) (p : Pt2) : Sz w h (plot1 w h d p) := by
  unfold plot1
  split
  · exact hd.set _ _ _
  · exact hd
theorem plotP_sz {w h : Nat} : ∀ (l : List Pt2) {d : DotsL}, Sz w h d → Sz w h (plotP w h d l)
  | [], _, hd => hd
  | p :: l, _, hd => plotP_sz l (plot1_sz hd p)
theorem plotP_take {w h : Nat} {d : DotsL} {l : List Pt2} {k : Nat} {p : Pt2} (hp : l[k]? = some p) : plotP w h d (l.take (k + 1)) = plot1 w h (plotP w h d (l.take k)) p := by
  rw [List.take_add_one, hp, plotP, plotP]
  simp
/-- copied up to the row y, and there up to the column x -/
def Cp (w h : Nat) (d : DotsL) (y x : Nat) (cur : DotsL) : Prop := Sz w h cur ∧ ∀ i j, i < w → j < h → dot cur i j = if j < y ∨ (j = y ∧ i < x) then dot d i j else false
theorem Cp.start (w h : Nat) (d : DotsL) : Cp w h d 0 0 (blankD w h) := ⟨Sz.blankD w h, fun i j _ _ => by rw [dot_blank, if_neg (by omega)]⟩
theorem Cp.step {w h : Nat} {d : DotsL} {y x : Nat} {cur : DotsL} (hc : Cp w h d y x cur) (hx : x < w) (hy : y < h) : Cp w h d y (x + 1) (setDot cur x y (dot d x y)) := by
  refine ⟨hc.1.set _ _ _, fun i j hi hj => ?_⟩
  rw [dot_set hc.1 hx hy]
  split
  · rename_i e
    rw [if_pos (by omega), e.1, e.2]
  · rename_i e
    rw [hc.2 i j hi hj]
    by_cases h1 : j < y ∨ (j = y ∧ i < x)
    · rw [if_pos h1, if_pos (by omega)]
    · rw [if_neg h1, if_neg (by omega)]
theorem Cp.next {w h : Nat} {d : DotsL} {y : Nat} {cur : DotsL} (hc : Cp w h d y w cur) : Cp w h d (y + 1) 0 cur := ⟨hc.1, fun i j hi hj => by
  rw [hc.2 i j hi hj]
  by_cases h1 : j < y ∨ (j = y ∧ i < w)
  · rw [if_pos h1, if_pos (by omega)]
  · rw [if_neg h1, if_neg (by omega)]⟩
theorem Cp.fin {w h : Nat} {d : DotsL} {cur : DotsL} (hd : Sz w h d) (hc : Cp w h d h 0 cur) : cur = d := hc.1.ext hd fun i j hi hj => by
  rw [hc.2 i j hi hj, if_pos (by omega)]
theorem side_of {w n : Nat} (h : side w = n) (hw : w ≤ 200) : n = w := by unfold side at h; omega

set_option maxHeartbeats 4000000 in
theorem d_rplot {w h : Nat} {d : DotsL} {l : List Pt2} (hw : w ≤ 200) (hh : h ≤ 200) (hd : Sz w h d) (hl : l.length < 1000000) : DK 33 [gridD w h d, ptsD l] fun r => r = gridD w h (plotP w h d l) := by
  refine dfn_ok cp33 rfl GHro fun Z0 lo => ?_
  repeat (first | refine dw_p rfl ?_ | refine dw_l rfl ?_ | refine dw_a rfl ?_ | refine dw_nil ?_ | refine ds_seq ?_ | refine ds_ops mix (fun base => ?_))
  refine dw_cfr rfl rfl (o_rnew w h) ?_
  rintro _ _ _ ⟨n, m, hn, hm, _, _, rfl, rfl, rfl⟩
  obtain rfl := side_of hn hw
  obtain rfl := side_of hm hh
  repeat (first | refine dw_p rfl ?_ | refine dw_a rfl ?_ | refine dw_st rfl rfl rfl rfl rfl (Nat.le_of_ble_eq_true rfl) rfl ?_ | refine dw_nil ?_ | refine ds_seq ?_ | refine ds_ops mix (fun base => ?_) | refine ds_block ?_)
  refine ds_keep (SubA.cons (k := 1) rfl (SubA.cons (k := 2) rfl (SubA.cons (k := 4) rfl (SubA.cons (k := 5) rfl (SubA.cons (k := 6) rfl (SubA.nil _)))))) (SubA.cons (k := 0) rfl (SubA.cons (k := 1) rfl (SubA.cons (k := 4) rfl (SubA.cons (k := 5) rfl (SubA.nil _))))) ?_
  refine ds_loop (fun k E S nk => ∃ y : Nat, y + k = m ∧ ∃ cur : DotsL, Cp n m d y 0 cur ∧ E = [(1, ptsD l), (2, .one (.ptr 0 0)), (4, .one (.ptr 1 0)), (5, .one (.ptr 5 0)), (6, .int y)] ∧ S = [(0, .cells [.f (.c (.int .i64 n)), .f (.c (.int .i64 m)), .f (.sl 1 d.length ((rowsF d).map rowF))]), (1, .cells [.f (.c (.int .i64 0)), .f (.c (.int .i64 0)), .f (.c .nils)]), (4, .tree (rowsF cur)), (5, .cells [.f (.c (.int .i64 n)), .f (.c (.int .i64 m)), .own 4 0 m 1])] ∧ nk = 6) ⟨m, _, _, _, [], ?wk, 0, by omega, blankD n m, Cp.start n m d, rfl, rfl, rfl⟩ ?_
  case wk => exact ⟨by repeat (first | exact trivial | refine ⟨by first | rfl | exact congrArg (fun z => some (DV.int z)) (dwrap (by omega) (by omega)), rfl, ?_⟩), by repeat (first | exact trivial | refine ⟨by first | rfl | exact congrArg (fun z => some (Bk.data z)) (by assumption), rfl, rfl, ?_⟩), rfl, rfl⟩
  rintro k E S nk ⟨y, hy, cur, hcur, rfl, rfl, rfl⟩
  repeat (first | refine dw_p rfl ?_ | refine dw_l rfl ?_ | refine dw_nil ?_ | refine ds_seq ?_ | refine ds_ops mix (fun base => ?_))
  refine ds_if rfl (fun ht => ?_) (fun ht => ?_)
  · simp at ht
    repeat (first | refine dw_p rfl ?_ | refine dw_nil ?_ | refine ds_seq ?_ | refine ds_ops mix (fun base => ?_) | refine ds_skip ?_ | refine ds_block ?_)
    refine ds_keep (SubA.cons (k := 1) rfl (SubA.cons (k := 2) rfl (SubA.cons (k := 4) rfl (SubA.cons (k := 5) rfl (SubA.cons (k := 6) rfl (SubA.cons (k := 7) rfl (SubA.nil _))))))) (SubA.refl _) ?_
    refine ds_loop (fun k2 E S nk => ∃ x : Nat, x + k2 = n ∧ ∃ cur : DotsL, Cp n m d y x cur ∧ E = [(1, ptsD l), (2, .one (.ptr 0 0)), (4, .one (.ptr 1 0)), (5, .one (.ptr 5 0)), (6, .int y), (7, .int x)] ∧ S = [(0, .cells [.f (.c (.int .i64 n)), .f (.c (.int .i64 m)), .f (.sl 1 d.length ((rowsF d).map rowF))]), (1, .cells [.f (.c (.int .i64 0)), .f (.c (.int .i64 0)), .f (.c .nils)]), (4, .tree (rowsF cur)), (5, .cells [.f (.c (.int .i64 n)), .f (.c (.int .i64 m)), .own 4 0 m 1])] ∧ nk = 6) ⟨n, _, _, _, [], ?wk1, 0, by omega, cur, hcur, rfl, rfl, rfl⟩ ?_
    case wk1 => exact ⟨by repeat (first | exact trivial | refine ⟨by first | rfl | exact congrArg (fun z => some (DV.int z)) (dwrap (by omega) (by omega)), rfl, ?_⟩), by repeat (first | exact trivial | refine ⟨by first | rfl | exact congrArg (fun z => some (Bk.data z)) (by assumption), rfl, rfl, ?_⟩), rfl, rfl⟩
    rintro k2 E S nk ⟨x, hx, cur, hcur, rfl, rfl, rfl⟩
    repeat (first | refine dw_p rfl ?_ | refine dw_l rfl ?_ | refine dw_nil ?_ | refine ds_seq ?_ | refine ds_ops mix (fun base => ?_))
    refine ds_if rfl (fun ht2 => ?_) (fun ht2 => ?_)
    · simp at ht2
      obtain ⟨r, hr, hrl, hrx⟩ := hd.cell (x := x) (y := y) (by omega) (by omega)
      obtain ⟨q, hq, hql⟩ := hcur.1.row (y := y) (by omega)
      have hdl := hd.1
      have e1 := rowF_at (rowsF_at hr)
      have e2 := one_at (boF_at hrx)
      have e3 := rowsF_at hq
      have l1 : x < (r.map boF).length := by simp; omega
      have l2 : x < (q.map boF).length := by simp; omega
      repeat (first | refine dw_p rfl ?_ | refine dw_l rfl ?_ | refine dw_io1 rfl rfl (by omega) (by omega) ?_ | refine dw_it0 rfl rfl (by omega) (by omega) ?_ | refine dw_if rfl rfl (by omega) (by decide) (by assumption) ?_ | refine dw_l (dload_tree rfl rfl (by assumption)) ?_ | refine ds_seq ?_ | refine ds_ops mix (fun base => ?_) | refine ds_skip ?_ | refine ds_block ?_)
      refine dw_stt (x := .c (.bool (dot d x y))) rfl rfl rfl e3 (by simpa using l2) rfl ?_
      rw [Int.toNat_natCast, Int.toNat_natCast, rowsF_setDot hq]
      repeat (first | refine dw_p rfl ?_ | refine dw_nil ?_ | refine ds_ops mix (fun base => ?_))
      refine ⟨k2 - 1, by omega, _, _, _, [], ?wk2, x + 1, by omega, _, hcur.step (by omega) (by omega), rfl, rfl, rfl⟩
      case wk2 => exact ⟨by repeat (first | exact trivial | refine ⟨by first | rfl | exact congrArg (fun z => some (DV.int z)) (dwrap (by omega) (by omega)), rfl, ?_⟩), by repeat (first | exact trivial | refine ⟨by first | rfl | exact congrArg (fun z => some (Bk.data z)) (by assumption), rfl, rfl, ?_⟩), rfl, rfl⟩
    · simp at ht2
      obtain rfl : x = n := by omega
      repeat (first | refine dw_p rfl ?_ | refine dw_nil ?_ | refine ds_ops mix (fun base => ?_) | refine ds_exit ?_)
      refine ⟨k - 1, by omega, _, _, _, [], ?wk3, y + 1, by omega, _, hcur.next, rfl, rfl, rfl⟩
      case wk3 => exact ⟨by repeat (first | exact trivial | refine ⟨by first | rfl | exact congrArg (fun z => some (DV.int z)) (dwrap (by omega) (by omega)), rfl, ?_⟩), by repeat (first | exact trivial | refine ⟨by first | rfl | exact congrArg (fun z => some (Bk.data z)) (by assumption), rfl, rfl, ?_⟩), rfl, rfl⟩
  · simp at ht
    obtain rfl : y = m := by omega
    obtain rfl := hcur.fin hd
    repeat (first | refine dw_p rfl ?_ | refine dw_nil ?_ | refine ds_seq ?_ | refine ds_ops mix (fun base => ?_) | refine ds_block ?_ | refine ds_exit ?_)
    refine ds_keep (SubA.cons (k := 1) rfl (SubA.cons (k := 2) rfl (SubA.cons (k := 4) rfl (SubA.cons (k := 5) rfl (SubA.cons (k := 8) rfl (SubA.nil _)))))) (SubA.refl _) ?_
    refine ds_loop (fun k E S nk => ∃ j : Nat, j + k = l.length ∧ E = [(1, ptsD l), (2, .one (.ptr 0 0)), (4, .one (.ptr 1 0)), (5, .one (.ptr 5 0)), (8, .int j)] ∧ S = [(0, .cells [.f (.c (.int .i64 n)), .f (.c (.int .i64 y)), .f (.sl 1 cur.length ((rowsF cur).map rowF))]), (1, .cells [.f (.c (.int .i64 0)), .f (.c (.int .i64 0)), .f (.c .nils)]), (4, .tree (rowsF (plotP n y cur (l.take j)))), (5, .cells [.f (.c (.int .i64 n)), .f (.c (.int .i64 y)), .own 4 0 y 1])] ∧ nk = 6) ⟨l.length, _, _, _, [], ?wk4, 0, by omega, rfl, rfl, rfl⟩ ?_
    case wk4 => exact ⟨by repeat (first | exact trivial | refine ⟨by first | rfl | exact congrArg (fun z => some (DV.int z)) (dwrap (by omega) (by omega)), rfl, ?_⟩), by repeat (first | exact trivial | refine ⟨by first | rfl | exact congrArg (fun z => some (Bk.data z)) (by assumption), rfl, rfl, ?_⟩), rfl, rfl⟩
    rintro k E S nk ⟨j, hj, rfl, rfl, rfl⟩
    repeat (first | refine dw_p rfl ?_ | refine dw_nil ?_ | refine ds_seq ?_ | refine ds_ops mix (fun base => ?_))
    refine ds_if rfl (fun ht2 => ?_) (fun ht2 => ?_)
    · simp at ht2
      obtain ⟨p, hp⟩ : ∃ p, l[j]? = some p := ⟨_, List.getElem?_eq_getElem (by omega)⟩
      have e1 := ptF_at hp
      have hstep := plotP_take (w := n) (h := y) (d := cur) hp
      repeat (first | refine dw_p rfl ?_ | refine dw_l rfl ?_ | refine dw_if rfl rfl (by omega) (by decide) (by assumption) ?_ | refine ds_seq ?_ | refine ds_ops mix (fun base => ?_) | refine ds_skip ?_ | refine ds_block ?_)
      refine dw_cf rfl rfl (d_on (p := p)) ?_
      rintro _ rfl
      repeat (first | refine dw_nil ?_)
      refine ds_if rfl (fun ht3 => ?_) (fun ht3 => ?_)
      · have hon : 0 ≤ p.1 ∧ p.1 < n ∧ 0 ≤ p.2 ∧ p.2 < y := by simpa [onG] using ht3
        have hsz := plotP_sz (w := n) (h := y) (l.take j) hd
        obtain ⟨q, hq, hql⟩ := hsz.row (y := p.2.toNat) (by omega)
        have e3 := rowsF_at hq
        have l2 : p.1 < ((q.map boF).length : Nat) := by simp; omega
        repeat (first | refine dw_p rfl ?_ | refine dw_l rfl ?_ | refine dw_io1 rfl rfl (by omega) (by omega) ?_ | refine dw_it0 rfl rfl (by omega) (by omega) ?_ | refine dw_if rfl rfl (by omega) (by decide) (by assumption) ?_ | refine dw_l (dload_tree rfl rfl (by assumption)) ?_ | refine ds_ops mix (fun base => ?_))
        refine dw_stt rfl rfl rfl e3 (by simp; omega) rfl ?_
        rw [rowsF_setDot hq, show setDot (plotP n y cur (l.take j)) p.1.toNat p.2.toNat true = plotP n y cur (l.take (j + 1)) by rw [hstep, plot1, if_pos ht3]]
        repeat (first | refine dw_p rfl ?_ | refine dw_nil ?_ | refine ds_ops mix (fun base => ?_))
        refine ⟨k - 1, by omega, _, _, _, [], ?wk5, j + 1, by omega, rfl, rfl, rfl⟩
        case wk5 => exact ⟨by repeat (first | exact trivial | refine ⟨by first | rfl | exact congrArg (fun z => some (DV.int z)) (dwrap (by omega) (by omega)), rfl, ?_⟩), by repeat (first | exact trivial | refine ⟨by first | rfl | exact congrArg (fun z => some (Bk.data z)) (by assumption), rfl, rfl, ?_⟩), rfl, rfl⟩
      · rw [show plotP n y cur (l.take j) = plotP n y cur (l.take (j + 1)) by rw [hstep, plot1, if_neg (by rw [ht3]; decide)]]
        repeat (first | refine dw_p rfl ?_ | refine dw_nil ?_ | refine ds_ops mix (fun base => ?_) | refine ds_skip ?_)
        refine ⟨k - 1, by omega, _, _, _, [], ?wk6, j + 1, by omega, rfl, rfl, rfl⟩
        case wk6 => exact ⟨by repeat (first | exact trivial | refine ⟨by first | rfl | exact congrArg (fun z => some (DV.int z)) (dwrap (by omega) (by omega)), rfl, ?_⟩), by repeat (first | exact trivial | refine ⟨by first | rfl | exact congrArg (fun z => some (Bk.data z)) (by assumption), rfl, rfl, ?_⟩), rfl, rfl⟩
    · simp at ht2
      have hsz := plotP_sz (w := n) (h := y) l hd
      have hlen : y = (rowsF (plotP n y cur l)).length := by rw [rowsF_len, hsz.1]
      obtain rfl : j = l.length := by omega
      rw [List.take_length]
      refine ds_keep (SubA.cons (k := 4) rfl (SubA.cons (k := 5) rfl (SubA.nil _))) (SubA.refl _) ?_
      refine ds_frzT 4 rfl (by repeat' (first | exact trivial | rfl | assumption | refine ⟨?_, ?_⟩)) (by repeat' (first | exact trivial | rfl | assumption | refine ⟨?_, ?_⟩)) ?_
      repeat (first | refine dw_l rfl ?_ | refine dw_st rfl rfl rfl rfl rfl (Nat.le_of_ble_eq_true rfl) rfl ?_ | refine dw_nil ?_ | refine ds_seq ?_ | refine ds_ops mix (fun base => ?_) | refine ds_exit ?_)
      refine ds_ret ⟨_, rfl, rfl, ?_⟩
      simp only [gridD, hsz.1]
      rfl

set_option maxHeartbeats 4000000 in
theorem d_plot {w h : Nat} {d : DotsL} {l : List Pt2} (hw : w ≤ 200) (hh : h ≤ 200) (hd : Sz w h d) (hl : l.length < 1000000) : DK 32 [gridD w h d, ptsD l] fun r => r = gridD w h (plotP w h d l) := by
  refine dfn_ok cp32 rfl GHro fun Z0 lo => ?_
  repeat (first | refine dw_l rfl ?_ | refine dw_a rfl ?_ | refine dw_nil ?_ | refine ds_seq ?_ | refine ds_ops mix (fun base => ?_))
  refine dw_cf rfl rfl (d_valid hw hh hd) ?_
  rintro _ rfl
  repeat (first | refine dw_p rfl ?_ | refine dw_nil ?_)
  refine ds_if rfl (fun ht => by cases ht) (fun _ => ?_)
  repeat (first | refine dw_p rfl ?_ | refine dw_l rfl ?_ | refine ds_seq ?_ | refine ds_ops mix (fun base => ?_) | refine ds_skip ?_)
  refine dw_cfr rfl rfl (o_new w h) ?_
  rintro _ _ _ ⟨n, m, hn, hm, _, _, rfl, rfl, rfl⟩
  obtain rfl := side_of hn hw
  obtain rfl := side_of hm hh
  repeat (first | refine dw_p rfl ?_ | refine dw_l rfl ?_ | refine dw_a rfl ?_ | refine dw_st rfl rfl rfl rfl rfl (Nat.le_of_ble_eq_true rfl) rfl ?_ | refine dw_nil ?_ | refine ds_seq ?_ | refine ds_ops mix (fun base => ?_) | refine ds_block ?_)
  refine ds_keep (SubA.cons (k := 1) rfl (SubA.cons (k := 2) rfl (SubA.cons (k := 4) rfl (SubA.cons (k := 5) rfl (SubA.cons (k := 19) rfl (SubA.cons (k := 20) rfl (SubA.nil _))))))) (SubA.cons (k := 0) rfl (SubA.cons (k := 1) rfl (SubA.cons (k := 4) rfl (SubA.cons (k := 5) rfl (SubA.nil _))))) ?_
  refine ds_loop (fun k E S nk => ∃ y : Nat, y + k = m ∧ ∃ cur : DotsL, Cp n m d y 0 cur ∧ E = [(1, ptsD l), (2, .one (.ptr 0 0)), (4, .one (.ptr 1 0)), (5, .one (.ptr 5 0)), (19, .int m), (20, .int y)] ∧ S = [(0, .cells [.f (.c (.int .i64 n)), .f (.c (.int .i64 m)), .f (.sl 1 d.length ((rowsF d).map rowF))]), (1, .cells [.f (.c (.int .i64 0)), .f (.c (.int .i64 0)), .f (.c .nils)]), (4, .tree (rowsF cur)), (5, .cells [.f (.c (.int .i64 n)), .f (.c (.int .i64 m)), .own 4 0 m 1])] ∧ nk = 6) ⟨m, _, _, _, [], ?wk, 0, by omega, blankD n m, Cp.start n m d, rfl, rfl, rfl⟩ ?_
  case wk => exact ⟨by repeat (first | exact trivial | refine ⟨by first | rfl | exact congrArg (fun z => some (DV.int z)) (dwrap (by omega) (by omega)), rfl, ?_⟩), by repeat (first | exact trivial | refine ⟨by first | rfl | exact congrArg (fun z => some (Bk.data z)) (by assumption), rfl, rfl, ?_⟩), rfl, rfl⟩
  rintro k E S nk ⟨y, hy, cur, hcur, rfl, rfl, rfl⟩
  repeat (first | refine dw_p rfl ?_ | refine dw_nil ?_ | refine ds_seq ?_ | refine ds_ops mix (fun base => ?_))
  refine ds_if rfl (fun ht => ?_) (fun ht => ?_)
  · simp at ht
    obtain ⟨r, hr, hrl⟩ := hd.row (y := y) (by omega)
    obtain ⟨q, hq, hql⟩ := hcur.1.row (y := y) (by omega)
    have hdl := hd.1
    have e1 := rowF_at (rowsF_at hr)
    have e3 := rowsF_at hq
    repeat (first | refine dw_p rfl ?_ | refine dw_l rfl ?_ | refine dw_io1 rfl rfl (by omega) (by omega) ?_ | refine dw_if rfl rfl (by omega) (by decide) (by assumption) ?_ | refine dw_l (dload_tree rfl rfl (by assumption)) ?_ | refine dw_nil ?_ | refine ds_seq ?_ | refine ds_ops mix (fun base => ?_) | refine ds_skip ?_ | refine ds_block ?_)
    refine dw_cpt (l := r.map boF) rfl rfl rfl e3 rfl ⟨by simp; omega, rfl, rfl⟩ rfl ?_
    rw [Int.toNat_natCast, rowsF_set]
    repeat (first | refine dw_p rfl ?_ | refine dw_nil ?_ | refine ds_ops mix (fun base => ?_))
    refine ⟨k - 1, by omega, _, _, _, [], ?wk2, y + 1, by omega, cur.set y r, ?_, rfl, rfl, rfl⟩
    case wk2 => exact ⟨by repeat (first | exact trivial | refine ⟨by first | rfl | exact congrArg (fun z => some (DV.int z)) (dwrap (by omega) (by omega)), rfl, ?_⟩), by repeat (first | exact trivial | refine ⟨by first | rfl | exact congrArg (fun z => some (Bk.data z)) (by assumption), rfl, rfl, ?_⟩), rfl, rfl⟩
    have hyl : y < cur.length := by rw [hcur.1.1]; omega
    refine ⟨⟨by simpa using hcur.1.1, fun t ht => ?_⟩, fun i j hi hj => ?_⟩
    · rcases List.mem_or_eq_of_mem_set ht with h | h
      · exact hcur.1.2 t h
      · subst h; exact hrl
    · simp only [dot, List.getElem?_set]
      by_cases e : y = j
      · subst e
        rw [if_pos rfl, if_pos hyl, if_pos (by omega), hr]
      · rw [if_neg e]
        have := hcur.2 i j hi hj
        simp only [dot] at this
        rw [this]
        by_cases h1 : j < y ∨ (j = y ∧ i < 0)
        · rw [if_pos h1, if_pos (by omega)]
        · rw [if_neg h1, if_neg (by omega)]
  · simp at ht
    obtain rfl : y = m := by omega
    obtain rfl := hcur.fin hd
    repeat (first | refine dw_p rfl ?_ | refine dw_nil ?_ | refine ds_seq ?_ | refine ds_ops mix (fun base => ?_) | refine ds_block ?_ | refine ds_exit ?_)
    refine ds_keep (SubA.cons (k := 2) rfl (SubA.cons (k := 4) rfl (SubA.cons (k := 5) rfl (SubA.cons (k := 35) rfl (SubA.cons (k := 36) rfl (SubA.cons (k := 37) rfl (SubA.nil _))))))) (SubA.refl _) ?_
    refine ds_loop (fun k E S nk => ∃ j : Nat, j + k = l.length ∧ E = [(2, .one (.ptr 0 0)), (4, .one (.ptr 1 0)), (5, .one (.ptr 5 0)), (35, ptsD l), (36, .int l.length), (37, .int j)] ∧ S = [(0, .cells [.f (.c (.int .i64 n)), .f (.c (.int .i64 y)), .f (.sl 1 cur.length ((rowsF cur).map rowF))]), (1, .cells [.f (.c (.int .i64 0)), .f (.c (.int .i64 0)), .f (.c .nils)]), (4, .tree (rowsF (plotP n y cur (l.take j)))), (5, .cells [.f (.c (.int .i64 n)), .f (.c (.int .i64 y)), .own 4 0 y 1])] ∧ nk = 6) ⟨l.length, _, _, _, [], ?wk4, 0, by omega, rfl, rfl, rfl⟩ ?_
    case wk4 => exact ⟨by repeat (first | exact trivial | refine ⟨by first | rfl | exact congrArg (fun z => some (DV.int z)) (dwrap (by omega) (by omega)), rfl, ?_⟩), by repeat (first | exact trivial | refine ⟨by first | rfl | exact congrArg (fun z => some (Bk.data z)) (by assumption), rfl, rfl, ?_⟩), rfl, rfl⟩
    rintro k E S nk ⟨j, hj, rfl, rfl, rfl⟩
    repeat (first | refine dw_p rfl ?_ | refine dw_nil ?_ | refine ds_seq ?_ | refine ds_ops mix (fun base => ?_))
    refine ds_if rfl (fun ht2 => ?_) (fun ht2 => ?_)
    · simp at ht2
      obtain ⟨p, hp⟩ : ∃ p, l[j]? = some p := ⟨_, List.getElem?_eq_getElem (by omega)⟩
      have e1 := ptF_at hp
      have hstep := plotP_take (w := n) (h := y) (d := cur) hp
      by_cases hon : 0 ≤ p.1 ∧ p.1 < n ∧ 0 ≤ p.2 ∧ p.2 < y
      · have g1 : decide (0 ≤ p.1) = true := by simpa using hon.1
        have g2 : decide (p.1 < (n : Int)) = true := by simpa using hon.2.1
        have g3 : decide (0 ≤ p.2) = true := by simpa using hon.2.2.1
        have g4 : decide (p.2 < (y : Int)) = true := by simpa using hon.2.2.2
        have ht3 : onG n y p = true := by simp [onG, hon]
        have hsz := plotP_sz (w := n) (h := y) (l.take j) hd
        obtain ⟨q, hq, hql⟩ := hsz.row (y := p.2.toNat) (by omega)
        have e3 := rowsF_at hq
        have l2 : p.1 < ((q.map boF).length : Nat) := by simp; omega
        repeat (first | refine dw_want rfl rfl ?_ | refine dw_pickT rfl rfl ?_ | refine dw_pB rfl (by assumption) ?_ | refine dw_p rfl ?_ | refine dw_l rfl ?_ | refine dw_if rfl rfl (by omega) (by decide) (by assumption) ?_ | refine dw_a rfl ?_ | refine dw_st rfl rfl rfl rfl rfl (Nat.le_of_ble_eq_true rfl) rfl ?_ | refine dw_nil ?_ | refine ds_seq ?_ | refine ds_ops mix (fun base => ?_) | refine ds_skip ?_ | refine ds_block ?_)
        refine ds_if rfl (fun _ => ?_) (fun ht => by cases ht)
        repeat (first | refine dw_p rfl ?_ | refine dw_l rfl ?_ | refine dw_io1 rfl rfl (by omega) (by omega) ?_ | refine dw_it0 rfl rfl (by omega) (by omega) ?_ | refine dw_l (dload_tree rfl rfl (by assumption)) ?_ | refine ds_ops mix (fun base => ?_))
        refine dw_stt rfl rfl rfl e3 (by simp; omega) rfl ?_
        rw [rowsF_setDot hq, show setDot (plotP n y cur (l.take j)) p.1.toNat p.2.toNat true = plotP n y cur (l.take (j + 1)) by rw [hstep, plot1, if_pos ht3]]
        repeat (first | refine dw_p rfl ?_ | refine dw_nil ?_ | refine ds_ops mix (fun base => ?_))
        refine ⟨k - 1, by omega, _, _, _, [], ?wk5, j + 1, by omega, rfl, rfl, rfl⟩
        case wk5 => exact ⟨by repeat (first | exact trivial | refine ⟨by first | rfl | exact congrArg (fun z => some (DV.int z)) (dwrap (by omega) (by omega)), rfl, ?_⟩), by repeat (first | exact trivial | refine ⟨by first | rfl | exact congrArg (fun z => some (Bk.data z)) (by assumption), rfl, rfl, ?_⟩), rfl, rfl⟩
      · have ht3 : plot1 n y (plotP n y cur (l.take j)) p = plotP n y cur (l.take j) := by
          rw [plot1, if_neg]; simpa [onG] using hon
        rw [ht3] at hstep
        have fin : ∀ Q : Exit → DEnv → Bx → Nat → Prop, Q .normal [(2, .one (.ptr 0 0)), (4, .one (.ptr 1 0)), (5, .one (.ptr 5 0)), (35, ptsD l), (36, .int l.length), (37, .int j)] [(0, .cells [.f (.c (.int .i64 n)), .f (.c (.int .i64 y)), .f (.sl 1 cur.length ((rowsF cur).map rowF))]), (1, .cells [.f (.c (.int .i64 0)), .f (.c (.int .i64 0)), .f (.c .nils)]), (4, .tree (rowsF (plotP n y cur (l.take j)))), (5, .cells [.f (.c (.int .i64 n)), .f (.c (.int .i64 y)), .own 4 0 y 1])] 7 → DPS (Par.base Tryd.prog 1 (H00 1) Z0 lo) f32.n (.seq (.ops f32r11 0) (.seq (.ops f32r12 0) (.cond (.t 62) (.ops f32r13 10) .skip))) Q [(2, .one (.ptr 0 0)), (4, .one (.ptr 1 0)), (5, .one (.ptr 5 0)), (35, ptsD l), (36, .int l.length), (37, .int j)] [(0, .cells [.f (.c (.int .i64 n)), .f (.c (.int .i64 y)), .f (.sl 1 cur.length ((rowsF cur).map rowF))]), (1, .cells [.f (.c (.int .i64 0)), .f (.c (.int .i64 0)), .f (.c .nils)]), (4, .tree (rowsF (plotP n y cur (l.take j)))), (5, .cells [.f (.c (.int .i64 n)), .f (.c (.int .i64 y)), .own 4 0 y 1])] 6 := by
          intro Q hQ
          have out : ∀ {E : DEnv} {S : Bx}, lk E 62 = some (.bool false) → SubA [(2, .one (.ptr 0 0)), (4, .one (.ptr 1 0)), (5, .one (.ptr 5 0)), (35, ptsD l), (36, .int l.length), (37, .int j)] E → SubA [(0, .cells [.f (.c (.int .i64 n)), .f (.c (.int .i64 y)), .f (.sl 1 cur.length ((rowsF cur).map rowF))]), (1, .cells [.f (.c (.int .i64 0)), .f (.c (.int .i64 0)), .f (.c .nils)]), (4, .tree (rowsF (plotP n y cur (l.take j)))), (5, .cells [.f (.c (.int .i64 n)), .f (.c (.int .i64 y)), .own 4 0 y 1])] S → DPS (Par.base Tryd.prog 1 (H00 1) Z0 lo) f32.n (.cond (.t 62) (.ops f32r13 10) .skip) Q E S 7 := fun h1 h2 h3 =>
            ds_if (t := false) h1 (fun h => by cases h) fun _ => ds_keep h2 h3 (ds_skip hQ)
          by_cases h1 : 0 ≤ p.1
          · have g1 : decide (0 ≤ p.1) = true := by simpa using h1
            by_cases h2 : p.1 < (n : Int)
            · have g2 : decide (p.1 < (n : Int)) = true := by simpa using h2
              by_cases h3 : 0 ≤ p.2
              · have g3 : decide (0 ≤ p.2) = true := by simpa using h3
                have g4 : decide (p.2 < (y : Int)) = false := by simp; omega
                repeat (first | refine dw_want rfl rfl ?_ | refine dw_pickT rfl rfl ?_ | refine dw_pB rfl (by assumption) ?_ | refine dw_p rfl ?_ | refine dw_l rfl ?_ | refine dw_if rfl rfl (by omega) (by decide) (by assumption) ?_ | refine dw_a rfl ?_ | refine dw_st rfl rfl rfl rfl rfl (Nat.le_of_ble_eq_true rfl) rfl ?_ | refine dw_nil ?_ | refine ds_seq ?_ | refine ds_ops mix (fun base => ?_))
                exact out rfl (SubA.cons rfl (SubA.cons rfl (SubA.cons rfl (SubA.cons rfl (SubA.cons rfl (SubA.cons rfl (SubA.nil _))))))) (SubA.cons rfl (SubA.cons rfl (SubA.cons rfl (SubA.cons rfl (SubA.nil _)))))
              · have g3 : decide (0 ≤ p.2) = false := by simpa using h3
                repeat (first | refine dw_want rfl rfl ?_ | refine dw_skip rfl rfl ?_ | refine dw_pickT rfl rfl ?_ | refine dw_pickF rfl rfl ?_ | refine dw_pB rfl (by assumption) ?_ | refine dw_p rfl ?_ | refine dw_l rfl ?_ | refine dw_if rfl rfl (by omega) (by decide) (by assumption) ?_ | refine dw_a rfl ?_ | refine dw_st rfl rfl rfl rfl rfl (Nat.le_of_ble_eq_true rfl) rfl ?_ | refine dw_nil ?_ | refine ds_seq ?_ | refine ds_ops mix (fun base => ?_))
                exact out rfl (SubA.cons rfl (SubA.cons rfl (SubA.cons rfl (SubA.cons rfl (SubA.cons rfl (SubA.cons rfl (SubA.nil _))))))) (SubA.cons rfl (SubA.cons rfl (SubA.cons rfl (SubA.cons rfl (SubA.nil _)))))
            · have g2 : decide (p.1 < (n : Int)) = false := by simpa using h2
              repeat (first | refine dw_want rfl rfl ?_ | refine dw_skip rfl rfl ?_ | refine dw_pickT rfl rfl ?_ | refine dw_pickF rfl rfl ?_ | refine dw_pB rfl (by assumption) ?_ | refine dw_p rfl ?_ | refine dw_l rfl ?_ | refine dw_if rfl rfl (by omega) (by decide) (by assumption) ?_ | refine dw_a rfl ?_ | refine dw_st rfl rfl rfl rfl rfl (Nat.le_of_ble_eq_true rfl) rfl ?_ | refine dw_nil ?_ | refine ds_seq ?_ | refine ds_ops mix (fun base => ?_))
              exact out rfl (SubA.cons rfl (SubA.cons rfl (SubA.cons rfl (SubA.cons rfl (SubA.cons rfl (SubA.cons rfl (SubA.nil _))))))) (SubA.cons rfl (SubA.cons rfl (SubA.cons rfl (SubA.cons rfl (SubA.nil _)))))
          · have g1 : decide (0 ≤ p.1) = false := by simpa using h1
            repeat (first | refine dw_skip rfl rfl ?_ | refine dw_pickF rfl rfl ?_ | refine dw_pB rfl (by assumption) ?_ | refine dw_p rfl ?_ | refine dw_l rfl ?_ | refine dw_if rfl rfl (by omega) (by decide) (by assumption) ?_ | refine dw_a rfl ?_ | refine dw_st rfl rfl rfl rfl rfl (Nat.le_of_ble_eq_true rfl) rfl ?_ | refine dw_nil ?_ | refine ds_seq ?_ | refine ds_ops mix (fun base => ?_))
            exact out rfl (SubA.cons rfl (SubA.cons rfl (SubA.cons rfl (SubA.cons rfl (SubA.cons rfl (SubA.cons rfl (SubA.nil _))))))) (SubA.cons rfl (SubA.cons rfl (SubA.cons rfl (SubA.cons rfl (SubA.nil _)))))
        refine ds_skip ?_
        refine ds_seq ?_
        refine ds_block ?_
        refine ds_keep (SubA.cons (k := 2) rfl (SubA.cons (k := 4) rfl (SubA.cons (k := 5) rfl (SubA.cons (k := 35) rfl (SubA.cons (k := 36) rfl (SubA.cons (k := 37) rfl (SubA.nil _))))))) (SubA.refl _) ?_
        refine fin _ ?_
        rw [← hstep]
        repeat (first | refine dw_p rfl ?_ | refine dw_nil ?_ | refine ds_ops mix (fun base => ?_))
        refine ⟨k - 1, by omega, _, _, _, [], ?wk6, j + 1, by omega, rfl, rfl, rfl⟩
        case wk6 => exact ⟨by repeat (first | exact trivial | refine ⟨by first | rfl | exact congrArg (fun z => some (DV.int z)) (dwrap (by omega) (by omega)), rfl, ?_⟩), by repeat (first | exact trivial | refine ⟨by first | rfl | exact congrArg (fun z => some (Bk.data z)) (by assumption), rfl, rfl, ?_⟩), rfl, rfl⟩
    · simp at ht2
      have hsz := plotP_sz (w := n) (h := y) l hd
      have hlen : y = (rowsF (plotP n y cur l)).length := by rw [rowsF_len, hsz.1]
      obtain rfl : j = l.length := by omega
      rw [List.take_length]
      refine ds_keep (SubA.cons (k := 4) rfl (SubA.cons (k := 5) rfl (SubA.nil _))) (SubA.refl _) ?_
      refine ds_frzT 4 rfl (by repeat' (first | exact trivial | rfl | assumption | refine ⟨?_, ?_⟩)) (by repeat' (first | exact trivial | rfl | assumption | refine ⟨?_, ?_⟩)) ?_
      repeat (first | refine dw_l rfl ?_ | refine dw_st rfl rfl rfl rfl rfl (Nat.le_of_ble_eq_true rfl) rfl ?_ | refine dw_nil ?_ | refine ds_seq ?_ | refine ds_ops mix (fun base => ?_) | refine ds_exit ?_)
      refine ds_ret ⟨_, rfl, rfl, ?_⟩
      simp only [gridD, hsz.1]
      rfl
end Go.Ab.Fn
