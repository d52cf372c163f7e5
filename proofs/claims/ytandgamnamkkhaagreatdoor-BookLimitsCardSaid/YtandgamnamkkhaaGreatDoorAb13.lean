/- Contracts of functions of the program over the abstract semantics. -/
import Derived.Test.YtandgamnamkkhaaGreatDoorAb12
set_option linter.unusedVariables false
set_option linter.unusedSimpArgs false
namespace Go.Ab
structure DPS (p : Par) (n : Nat) (s : SC) (Q : Exit -> DEnv -> Bx -> Nat -> Prop) (E : DEnv) (S : Bx) (nk : Nat) : Prop where
 run : ∀ Z β H F, SR p Z β H S nk -> ER Z β H E F -> SWPr p.ρ p.P p.G n s (fun e F' H' => ∃ E' S' nk' Z' β', SR p Z' β' H' S' nk' /\ ER Z' β' H' E' F' /\ Q e E' S' nk') F H
def thenD (next : DEnv -> Bx -> Nat -> Prop) (Q : Exit -> DEnv -> Bx -> Nat -> Prop) : Exit -> DEnv -> Bx -> Nat -> Prop
 | .normal, E, S, nk => next E S nk
 | e, E, S, nk => Q e E S nk
def blockD (id : Nat) (Q : Exit -> DEnv -> Bx -> Nat -> Prop) : Exit -> DEnv -> Bx -> Nat -> Prop
 | .exit id', E, S, nk => match Nat.beq id' id with
  | true => Q .normal E S nk
  | false => Q (.exit id') E S nk
 | e, E, S, nk => Q e E S nk
def rn (ρ : List (Nat × Nat)) (k : Nat) : Nat := match lk ρ k with
 | some j => j
 | none => k
def rnP (ρ : List (Nat × Nat)) : List (Nat × Nat) -> List (Nat × Nat)
 | [] => []
 | (k, o) :: r => (rn ρ k, o) :: rnP ρ r
def rnC (ρ : List (Nat × Nat)) : DC -> DC
 | .ptr k o => .ptr (rn ρ k) o
 | .tptr k i o => .tptr (rn ρ k) i o
 | .trow k i o n => .trow (rn ρ k) i o n
 | .own k o n e => .own (rn ρ k) o n e
 | .om k => .om (rn ρ k)
 | .yl k => .yl (rn ρ k)
 | .fn f caps => .fn f (rnP ρ caps)
 | d => d
def rnL (ρ : List (Nat × Nat)) : List DC -> List DC
 | [] => []
 | d :: l => rnC ρ d :: rnL ρ l
def rnV (ρ : List (Nat × Nat)) : DV -> DV
 | .one d => .one (rnC ρ d)
 | .agg l => .agg (rnL ρ l)
 | .tup l => .tup l
def rnB (ρ : List (Nat × Nat)) : Bk -> Bk
 | .cells l => .cells (rnL ρ l)
 | .data l => .data l
 | .tree l => .tree l
 | .mp ks l => .mp ks (rnL ρ l)
 | .mt es => .mt (mtMap (rnC ρ) es)
theorem rnL_map (ρ : List (Nat × Nat)) : ∀ l : List DC, rnL ρ l = l.map (rnC ρ)
 | [] => rfl
 | d :: l => by simp only [rnL, List.map_cons, rnL_map ρ l]
theorem rnB_shape (ρ : List (Nat × Nat)) (x : Bk) : (rnB ρ x).shape = x.shape := by cases x <;> rfl
def smP (n : Nat) : List (Nat × Nat) -> Bool
 | [] => true
 | (k, _) :: r => match Nat.blt k n with
  | true => smP n r
  | false => false
def smC (n : Nat) : DC -> Bool
 | .ptr k _ => Nat.blt k n
 | .tptr k _ _ => Nat.blt k n
 | .trow k _ _ _ => Nat.blt k n
 | .own k _ _ _ => Nat.blt k n
 | .om k => Nat.blt k n
 | .yl k => Nat.blt k n
 | .fn _ caps => smP n caps
 | _ => true
def smV (n : Nat) : DV -> Bool
 | .one d => smC n d
 | .agg l => allB (smC n) l
 | .tup l => allB fr1 l
def smM (n : Nat) : List (Int × ME) -> Bool
 | [] => true
 | (_, .row _) :: es => smM n es
 | (_, .out c) :: es => match smC n c with
  | true => smM n es
  | false => false
def smB (n : Nat) : Bk -> Bool
 | .cells l => allB (smC n) l
 | .data _ => true
 | .tree _ => true
 | .mp _ l => allB (smC n) l
 | .mt es => smM n es
def WkE (ρ : List (Nat × Nat)) (n0 : Nat) (E : DEnv) : DEnv -> Prop
 | [] => True
 | (t, v) :: r => lk E t = some (rnV ρ v) /\ smV n0 v = true /\ WkE ρ n0 E r
def WkS (ρ : List (Nat × Nat)) (n0 : Nat) (S : Bx) : Bx -> Prop
 | [] => True
 | (k, x) :: r => lk S (rn ρ k) = some (rnB ρ x) /\ smB n0 x = true /\ Nat.blt k n0 = true /\ WkS ρ n0 S r
def injB (ρ : List (Nat × Nat)) : Bx -> List Nat -> Bool
 | [], _ => true
 | (k, _) :: r, seen => match seen.elem (rn ρ k) with
  | true => false
  | false => injB ρ r (rn ρ k :: seen)
def rnBeta (ρ : List (Nat × Nat)) (n0 : Nat) (β : Beta) : Beta := fun κ => if κ.1 < n0 then β (rn ρ κ.1, κ.2) else none
def ancOk (n0 : Nat) (ρ : List (Nat × Nat)) : Nat -> Bool
 | 0 => true
 | a + 1 => match Nat.ble (a + 1) n0 with
  | true => allB (fun q => Nat.ble (a + 1) q.1) ρ
  | false => false
theorem ancOk_n {n0 : Nat} {ρ : List (Nat × Nat)} {a : Nat} (h : ancOk n0 ρ a = true) : a <= n0 := by
 cases a with
 | zero => omega
 | succ a =>
  simp only [ancOk] at h
  split at h
  ·rename_i e; exact Nat.le_of_ble_eq_true e
  ·cases h
theorem ancOk_rn {n0 k : Nat} {ρ : List (Nat × Nat)} {a : Nat} (h : ancOk n0 ρ a = true) (hk : k < a) : rn ρ k = k := by
 cases a with
 | zero => omega
 | succ a =>
  simp only [ancOk] at h
  split at h
  ·unfold rn
   cases hl : lk ρ k with
   | none => rfl
   | some j =>
    exfalso
    have key : ∀ l : List (Nat × Nat), allB (fun q => Nat.ble (a + 1) q.1) l = true -> lk l k = some j -> False := by
     intro l
     induction l with
     | nil => intro _ h; cases h
     | cons q l ih =>
      intro ha hl
      have h1 := allB_mem ha q (by simp)
      have h1' := Nat.le_of_ble_eq_true h1
      have h2 : allB (fun q : Nat × Nat => Nat.ble (a + 1) q.1) l = true := by simp only [allB, h1] at ha; exact ha
      obtain ⟨q1, q2⟩ := q
      rw [lk_cons] at hl
      split at hl
      ·simp only at h1'; omega
      ·exact ih h2 hl
    exact key ρ h hl
  ·cases h
structure Wk (p : Par) (ρ : List (Nat × Nat)) (n0 : Nat) (E0 : DEnv) (S0 : Bx) (E : DEnv) (S : Bx) : Prop where
 e : WkE ρ n0 E E0
 s : WkS ρ n0 S S0
 i : injB ρ S0 [] = true
 a : ancOk n0 ρ p.anc = true
theorem WkE.at {ρ : List (Nat × Nat)} {n0 : Nat} {E : DEnv} {t : Nat} {v : DV} : ∀ {E0 : DEnv}, WkE ρ n0 E E0 -> lk E0 t = some v -> lk E t = some (rnV ρ v) /\ smV n0 v = true
 | [], _, h => by cases h
 | (t', v') :: r, hw, h => by
  rw [lk_cons] at h
  split at h
  ·rename_i e; subst e; obtain rfl := Option.some.inj h; exact ⟨hw.1, hw.2.1⟩
  ·exact WkE.at hw.2.2 h
theorem WkS.at {ρ : List (Nat × Nat)} {n0 : Nat} {S : Bx} {k : Nat} {x : Bk} : ∀ {S0 : Bx}, WkS ρ n0 S S0 -> lk S0 k = some x -> lk S (rn ρ k) = some (rnB ρ x) /\ smB n0 x = true /\ k < n0
 | [], _, h => by cases h
 | (t', v') :: r, hw, h => by
  rw [lk_cons] at h
  split at h
  ·rename_i e; subst e; obtain rfl := Option.some.inj h; exact ⟨hw.1, hw.2.1, Nat.le_of_ble_eq_true hw.2.2.1⟩
  ·exact WkS.at hw.2.2.2 h
theorem inj_seen {ρ : List (Nat × Nat)} {k : Nat} {x : Bk} : ∀ {S0 : Bx} {seen : List Nat}, injB ρ S0 seen = true -> lk S0 k = some x -> rn ρ k ∉ seen
 | [], _, _, h => by cases h
 | (j, y) :: r, seen, hi, h => by
  simp only [injB] at hi
  split at hi
  ·cases hi
  ·rename_i e
   rw [lk_cons] at h
   split at h
   ·rename_i ej; subst ej
    exact fun hm => by rw [List.elem_eq_true_of_mem hm] at e; cases e
   ·exact fun hm => inj_seen hi h (by simp [hm])
theorem inj_ok {ρ : List (Nat × Nat)} {k k' : Nat} {x x' : Bk} : ∀ {S0 : Bx} {seen : List Nat}, injB ρ S0 seen = true -> lk S0 k = some x -> lk S0 k' = some x' -> rn ρ k = rn ρ k' -> k = k'
 | [], _, _, h, _, _ => by cases h
 | (j, y) :: r, seen, hi, h, h', e => by
  simp only [injB] at hi
  split at hi
  ·cases hi
  ·rw [lk_cons] at h h'
   split at h
   ·rename_i ej; subst ej
    split at h'
    ·rename_i ej; exact ej
    ·exact absurd (by simp [e]) (inj_seen hi h')
   ·split at h'
    ·rename_i ej; subst ej
     exact absurd (by simp [e]) (inj_seen hi h)
    ·exact inj_ok hi h h' e
theorem rnL_rows (ρ : List (Nat × Nat)) (k : Nat) : ∀ (i : Nat) (rows : List (List FD)), rnL ρ (rowsV k i rows) = rowsV (rn ρ k) i rows
 | _, [] => rfl
 | i, r :: rs => by simp only [rowsV, rnL, rnC, rnL_rows ρ k (i + 1) rs]
theorem smL_rows {n k : Nat} (h : k < n) : ∀ (i : Nat) (rows : List (List FD)), allB (smC n) (rowsV k i rows) = true
 | _, [] => rfl
 | i, r :: rs => by
  have : Nat.blt k n = true := Nat.ble_eq_true_of_le h
  simp only [rowsV, allB, smC, this, smL_rows h (i + 1) rs]
theorem smL_mt {n k : Nat} (h : k < n) : ∀ (i : Nat) (es : List (Int × ME)), smM n es = true -> allB (smC n) (mtV k i es) = true
 | _, [], _ => rfl
 | i, (_, .row r) :: es, hs => by
  have : Nat.blt k n = true := Nat.ble_eq_true_of_le h
  simp only [mtV, allB, smC, this, smL_mt h (i + 1) es hs]
 | i, (_, .out c) :: es, hs => by
  simp only [smM] at hs
  split at hs
  ·rename_i hc
   have e0 : ∀ y : Int, smC n (.f (.c (.int .i64 y))) = true := fun _ => rfl
   simp only [mtV, allB, e0, hc, smL_mt h (i + 1) es hs]
  ·cases hs
section
variable {p : Par} {E E0 : DEnv} {S S0 : Bx} {nk n0 : Nat} {ρ : List (Nat × Nat)}
theorem wk_ok2 {Z : Nat -> Prop} {β : Beta} {H : Hp} {F : T V} (hS : SR p Z β H S nk) (hE : ER Z β H E F) (hw : Wk p ρ n0 E0 S0 E S) : SR p Z (rnBeta ρ n0 β) H S0 n0 /\ ER Z (rnBeta ρ n0 β) H E0 F := by
 have hb0 : ∀ k i, k < n0 -> rnBeta ρ n0 β (k, i) = β (rn ρ k, i) := fun k i hk => by simp [rnBeta, hk]
 have hP : ∀ {l l' : List (Nat × Nat)}, smP n0 l = true -> capsR β (rnP ρ l) l' -> capsR (rnBeta ρ n0 β) l l' := by
  intro l
  induction l with
  | nil => intro l' _ h; cases l' with
   | nil => trivial
   | cons _ _ => exact h.elim
  | cons q l ih =>
   obtain ⟨k, o⟩ := q
   intro l' hs h
   simp only [smP] at hs
   split at hs
   ·rename_i hk
    cases l' with
    | nil => exact h.elim
    | cons q' l' =>
     obtain ⟨b, o'⟩ := q'
     exact ⟨h.1, by obtain ⟨N, hN⟩ := h.2.1; exact ⟨N, by rw [hb0 k 0 (Nat.le_of_ble_eq_true hk)]; exact hN⟩, ih hs h.2.2⟩
   ·cases hs
 have hC : ∀ d c, smC n0 d = true -> RD Z H β (rnC ρ d) c -> RD Z H (rnBeta ρ n0 β) d c := fun d c hs hr => by
  cases d with
  | ptr k o => obtain ⟨b, N, h1, h2⟩ := hr; exact ⟨b, N, by rw [hb0 k 0 (Nat.le_of_ble_eq_true hs)]; exact h1, h2⟩
  | tptr k i o => obtain ⟨b, N, h1, h2⟩ := hr; exact ⟨b, N, by rw [hb0 k (i + 1) (Nat.le_of_ble_eq_true hs)]; exact h1, h2⟩
  | trow k i o n =>
   have hk := Nat.le_of_ble_eq_true hs
   rcases hr with ⟨h1, h2⟩|⟨b, N, cap, ex, h1, h2⟩
   ·exact .inl ⟨by rw [hb0 k (i + 1) hk]; exact h1, h2⟩
   ·exact .inr ⟨b, N, cap, ex, by rw [hb0 k (i + 1) hk]; exact h1, h2⟩
  | own k o n e =>
   have hk := Nat.le_of_ble_eq_true hs
   rcases hr with ⟨h1, h2⟩|⟨b, N, cap, ex, h1, h2⟩
   ·exact .inl ⟨by rw [hb0 k 0 hk]; exact h1, h2⟩
   ·exact .inr ⟨b, N, cap, ex, by rw [hb0 k 0 hk]; exact h1, h2⟩
  | om k => obtain ⟨b, N, h1, h2⟩ := hr; exact ⟨b, N, by rw [hb0 k 0 (Nat.le_of_ble_eq_true hs)]; exact h1, h2⟩
  | yl k => obtain ⟨b, N, h1, h2⟩ := hr; exact ⟨b, N, by rw [hb0 k 0 (Nat.le_of_ble_eq_true hs)]; exact h1, h2⟩
  | fn f caps => obtain ⟨l', h1, h2⟩ := hr; exact ⟨l', h1, hP hs h2⟩
  | _ => exact hr
 have hL : ∀ {l : List DC} {cs : List C}, allB (smC n0) l = true -> All2 (RD Z H β) (rnL ρ l) cs -> All2 (RD Z H (rnBeta ρ n0 β)) l cs := by
  intro l
  induction l with
  | nil => intro cs _ h; cases cs with
   | nil => trivial
   | cons _ _ => exact h.elim
  | cons d l ih => intro cs ho h; cases cs with
   | nil => exact h.elim
   | cons c cs =>
    have h1 := allB_mem ho d (by simp)
    have h2 : allB (smC n0) l = true := by simp only [allB, h1] at ho; exact ho
    exact ⟨hC d c h1 h.1, ih h2 h.2⟩
 refine ⟨⟨hS.wf, hS.lo, hS.z, hS.zlo, hS.zz, hS.glob, fun k hk => by simp [rnBeta]; omega, fun k b N hk => ?_, fun k x hk => ?_, fun k k' x x' b N N' hk hk' h1 h2 => ?_, fun k b N hk => ?_, fun κ hκ hz0 => by rw [hb0 κ.1 κ.2 (Nat.lt_of_lt_of_le hκ (ancOk_n hw.a)), ancOk_rn hw.a hκ]; exact hS.anch κ hκ hz0, ancOk_n hw.a⟩, fun t v ht => ?_⟩
 ·by_cases hkn : k.1 < n0
  ·rw [hb0 k.1 k.2 hkn] at hk; exact hS.bd _ b N hk
  ·simp [rnBeta, hkn] at hk
 ·obtain ⟨y, hy⟩ := lk2_lk hk
  obtain ⟨h1, h2, h3⟩ := hw.s.at hy
  obtain ⟨j, i⟩ := k
  have hk2 : lk2 S (rn ρ j, i) = some (rnB ρ x) := by
   simp only at hy h1
   cases i with
   | zero =>
    simp only [lk2, hy] at hk
    simp only [lk2, h1]
    cases y with
    | tree rows => obtain rfl := Option.some.inj hk; simp only [rnB, rnL_rows]
    | mp ks l => obtain rfl := Option.some.inj hk; rfl
    | mt es => obtain rfl := Option.some.inj hk; simp only [rnB, rnL_map]; rw [mtV_map (rnC ρ) j (rn ρ j) (fun _ => rfl) (fun _ _ => rfl)]
    | cells l => obtain rfl := Option.some.inj hk; rfl
    | data l => obtain rfl := Option.some.inj hk; rfl
   | succ i =>
    simp only [lk2, hy] at hk
    simp only [lk2, h1]
    cases y with
    | tree rows =>
     cases hr : rows[i]? with
     | none => simp only [hr] at hk; cases hk
     | some r => simp only [hr] at hk; obtain rfl := Option.some.inj hk; simp only [rnB, hr]; rfl
    | mp ks l => cases hk
    | mt es =>
     obtain ⟨y', r, e1, rfl⟩ := mtRow_at hk
     show mtRow (mtMap (rnC ρ) es)[i]? = _
     rw [mtRow_map, e1]; rfl
    | cells l => cases hk
    | data l => cases hk
  have hsm : smB n0 x = true := by
   simp only at hy
   cases i with
   | zero =>
    simp only [lk2, hy] at hk
    cases y with
    | tree rows => obtain rfl := Option.some.inj hk; exact smL_rows h3 0 rows
    | mp ks l => obtain rfl := Option.some.inj hk; exact h2
    | mt es => obtain rfl := Option.some.inj hk; exact smL_mt h3 0 es h2
    | cells l => obtain rfl := Option.some.inj hk; exact h2
    | data l => obtain rfl := Option.some.inj hk; exact h2
   | succ i =>
    simp only [lk2, hy] at hk
    cases y with
    | tree rows =>
     cases hr : rows[i]? with
     | none => simp only [hr] at hk; cases hk
     | some r => simp only [hr] at hk; obtain rfl := Option.some.inj hk; rfl
    | mp ks l => cases hk
    | mt es => obtain ⟨y', r, e1, rfl⟩ := mtRow_at hk; rfl
    | cells l => cases hk
    | data l => cases hk
  obtain ⟨s, hs, hbx⟩ := hS.box _ _ hk2
  refine ⟨s, by rw [hb0 j i h3]; exact hs, ?_⟩
  cases s with
  | nil => cases x with
   | cells l => cases l with
    | nil => rfl
    | cons _ _ => cases hbx
   | data l => exact hbx
   | tree l => exact hbx
   | mp ks l => cases l with
    | nil => rfl
    | cons _ _ => cases hbx
   | mt es => cases es with
    | nil => rfl
    | cons _ _ => cases hbx
  | blk b N =>
   obtain ⟨g1, g2, g3, cs, rest, g4, g5, g6⟩ := hbx
   refine ⟨g1, g2, g3, cs, rest, by rw [rnB_shape] at g4; exact g4, by rw [rnB_shape] at g5; exact g5, ?_⟩
   cases x with
   | cells l => exact hL hsm g6
   | data l => exact g6
   | tree l => exact g6
   | mp ks l => exact hL hsm g6
   | mt es => exact g6
 ·have k1 := (hw.s.at hk).2.2
  have k2 := (hw.s.at hk').2.2
  obtain ⟨k, i⟩ := k
  obtain ⟨k', i'⟩ := k'
  simp only at k1 k2 hk hk'
  rw [hb0 k i k1] at h1
  rw [hb0 k' i' k2] at h2
  have := hS.inj (rn ρ k, i) (rn ρ k', i') _ _ b N N' (hw.s.at hk).1 (hw.s.at hk').1 h1 h2
  obtain ⟨e1, rfl⟩ := Prod.mk.inj this
  rw [inj_ok hw.i hk hk' e1]
 ·by_cases hkn : k.1 < n0
  ·rw [hb0 k.1 k.2 hkn] at hk; exact hS.blo _ b N hk
  ·simp [rnBeta, hkn] at hk
 ·obtain ⟨h1, h2⟩ := hw.e.at ht
  obtain ⟨v', hv', hr⟩ := hE t _ h1
  refine ⟨v', hv', ?_⟩
  cases v with
  | one d => obtain ⟨c, rfl, hr⟩ := hr; exact ⟨c, rfl, hC d c h2 hr⟩
  | agg l => obtain ⟨c, rfl, hr⟩ := hr; exact ⟨c, rfl, hL h2 hr⟩
  | tup l => obtain ⟨c, rfl, hr⟩ := hr; exact ⟨c, rfl, fr1L_ok h2 hr⟩
theorem wk_ok {Z : Nat -> Prop} {β : Beta} {H : Hp} {F : T V} (hS : SR p Z β H S nk) (hE : ER Z β H E F) (hw : Wk p ρ n0 E0 S0 E S) : ∃ β0, SR p Z β0 H S0 n0 /\ ER Z β0 H E0 F := ⟨_, wk_ok2 hS hE hw⟩
end
section
variable {p : Par} {n : Nat} {Q : Exit -> DEnv -> Bx -> Nat -> Prop} {E : DEnv} {S : Bx} {nk : Nat}
theorem ds_frz {s : SC} (k : Nat) {m : List FD} (hk : lk S k = some (.data m)) (hoE : okS (okV k (okW m)) E) (hoS : okS (okB k (okW m)) S) (h : DPS p n s Q (mapS (fzV k m) E) (mapS (fzB k m) (era k S)) nk) : DPS p n s Q E S nk := .mk fun Z β H F hS hE => by
 obtain ⟨Z', hS', hE', _, _⟩ := frz_ok hS hE hk hoE hoS
 exact h.run Z' β H F hS' hE'
theorem ds_skip (h : Q .normal E S nk) : DPS p n .skip Q E S nk := .mk fun Z β H F hS hE => swp_skip ⟨E, S, nk, Z, β, hS, hE, h⟩
theorem ds_exit {id : Nat} (h : Q (.exit id) E S nk) : DPS p n (.exit id) Q E S nk := .mk fun Z β H F hS hE => swp_exit ⟨E, S, nk, Z, β, hS, hE, h⟩
theorem ds_ret (h : Q .ret E S nk) : DPS p n .ret Q E S nk := .mk fun Z β H F hS hE => swp_ret ⟨E, S, nk, Z, β, hS, hE, h⟩
theorem ds_ops (hm : p.P.follows .mixedOrders = true) {l : List SOper} {rs : Nat} {st : Bool} (h : ∀ base, DPW p base rs (Q .normal) l [] [] E S nk) : DPS p n (.ops l rs st) Q E S nk := .mk fun Z β H F hS hE => by
 refine swp_ops hm ((h H.nx).run Z β (H.skip rs) F [] _ ?_ (ER.mono (H := H) (H' := H.skip rs) (ZLe.of_get (fun _ h => h) fun _ _ => rfl) (BLe.refl β) hE) (fun x hx => by cases hx) ⟨hS.lo, fun j hj _ => ⟨by simp; omega, hS.wf.fresh (by omega), fun hz => absurd (hS.z _ hz) (by omega), fun k N hk => absurd (hS.bd k _ N hk) (by omega)⟩⟩)
 exact ⟨hS.wf.skip rs, by simp; have := hS.lo; omega, fun b hb => by simp; have := hS.z b hb; omega, hS.zlo, hS.zz, hS.glob, hS.nk, fun k b N hk => by simp; have := hS.bd k b N hk; omega, fun k x hk => by
  obtain ⟨s, hs, hbx⟩ := hS.box k x hk
  exact ⟨s, hs, BoxR.mono (H := H) (H' := H.skip rs) (BLe.refl β) (by simp) (fun _ _ => rfl) hbx⟩, hS.inj, hS.blo, hS.anch, hS.ancn⟩
theorem ds_seq {a b : SC} (h : DPS p n a (thenD (DPS p n b Q) Q) E S nk) : DPS p n (.seq a b) Q E S nk := .mk fun Z β H F hS hE => swp_seq (swp_mono (h.run Z β H F hS hE) fun e F' H' ⟨E', S', nk', Z', β', h1, h2, h3⟩ => by
 cases e with
 | normal => exact h3.run Z' β' H' F' h1 h2
 | _ => exact ⟨E', S', nk', Z', β', h1, h2, h3⟩)
theorem ds_if {d : Opd} {a b : SC} {t : Bool} (ht : ro E d = some (.bool t)) (h1 : t = true -> DPS p n a Q E S nk) (h2 : t = false -> DPS p n b Q E S nk) : DPS p n (.cond d a b) Q E S nk := .mk fun Z β H F hS hE => by
 refine swp_cond (t := t) (int_of hE ht) ?_
 cases t with
 | true => exact (h1 rfl).run Z β H F hS hE
 | false => exact (h2 rfl).run Z β H F hS hE
theorem ds_block {id : Nat} {a : SC} (h : DPS p n a (blockD id Q) E S nk) : DPS p n (.block id a) Q E S nk := .mk fun Z β H F hS hE => swp_block (swp_mono (h.run Z β H F hS hE) fun e F' H' ⟨E', S', nk', Z', β', h1, h2, h3⟩ => by
 cases e with
 | exit id' =>
  simp only [blockD] at h3
  simp only [blockQ]
  by_cases e : id' = id
  ·subst e; rw [beq_self] at h3; rw [if_pos rfl]; exact ⟨E', S', nk', Z', β', h1, h2, h3⟩
  ·rw [beq_ne e] at h3; rw [if_neg e]; exact ⟨E', S', nk', Z', β', h1, h2, h3⟩
 | _ => exact ⟨E', S', nk', Z', β', h1, h2, h3⟩)
theorem ds_loop {a : SC} (I : Nat -> DEnv -> Bx -> Nat -> Prop) (h0 : ∃ m E0 S0 n0 ρ, Wk p ρ n0 E0 S0 E S /\ I m E0 S0 n0) (round : ∀ m E S nk, I m E S nk -> DPS p n a (thenD (fun E' S' _ => ∃ m', m' < m /\ ∃ E0 S0 n0 ρ, Wk p ρ n0 E0 S0 E' S' /\ I m' E0 S0 n0) Q) E S nk) : DPS p n (.loop a) Q E S nk := .mk fun Z β H F hS hE => by
 obtain ⟨m, E0, S0, n0, ρ, hw, hI⟩ := h0
 obtain ⟨β0, g1, g2⟩ := wk_ok hS hE hw
 refine swp_loop (fun m F H => ∃ E S nk Z β, SR p Z β H S nk /\ ER Z β H E F /\ I m E S nk) (m := m) ⟨E0, S0, n0, Z, β0, g1, g2, hI⟩ ?_
 rintro m F H ⟨E, S, nk, Z, β, hS, hE, hI⟩
 refine swp_mono ((round m E S nk hI).run Z β H F hS hE) fun e F' H' ⟨E', S', nk', Z', β', h1, h2, h3⟩ => ?_
 cases e with
 | normal =>
  obtain ⟨m', hm', E1, S1, n1, ρ1, hw1, hI1⟩ := h3
  obtain ⟨β1, g1, g2⟩ := wk_ok h1 h2 hw1
  exact ⟨m', hm', E1, S1, n1, Z', β1, g1, g2, hI1⟩
 | _ => exact ⟨E', S', nk', Z', β', h1, h2, h3⟩
end
def argsD : List DV -> Nat -> DEnv
 | [], _ => []
 | d :: l, i => (i, d) :: argsD l (i + 1)
theorem argsD_ok {Z : Nat -> Prop} {β : Beta} {H : Hp} : ∀ {ds : List DV} {args : List V} (i : Nat), All2 (RDV Z H β) ds args -> ER Z β H (argsD ds i) (initF args i)
 | [], [], _, _ => fun _ _ h => by cases h
 | d :: ds, v :: args, i, h => fun n x hx => by
  simp only [argsD, lk_cons] at hx
  simp only [initF, T.get_set]
  split at hx
  ·rename_i e; subst e; rw [if_pos rfl]; obtain rfl := Option.some.inj hx; exact ⟨v, rfl, h.1⟩
  ·rename_i e; rw [if_neg (fun h => e h.symm)]; exact argsD_ok (i + 1) h.2 n x hx
 | [], _ :: _, _, h => h.elim
 | _ :: _, [], _, h => h.elim
def resD (p : Par) (E : DEnv) (S : Bx) : SRes -> Option DV
 | .t n => lk E n
 | .cell agg k n => dLoad p E S agg k (.t n)
def resDL (p : Par) (E : DEnv) (S : Bx) : List SRes -> Option (List DV)
 | [] => some []
 | r :: l => match resD p E S r, resDL p E S l with
  | some d, some ds => some (d :: ds)
  | _, _ => none
def resultD (p : Par) (E : DEnv) (S : Bx) (rs : List SRes) : Option DV := match resDL p E S rs with
 | some [.one c] => some (.one c)
 | some [.agg l] => some (.agg l)
 | some [.tup _] => none
 | some ds => some (.tup ds)
 | none => none
section
variable {p : Par} {E : DEnv} {S : Bx} {nk : Nat}
theorem resD_ok {Z : Nat -> Prop} {β : Beta} {H : Hp} {F : T V} (hS : SR p Z β H S nk) (hE : ER Z β H E F) {r : SRes} {d : DV} (h : resD p E S r = some d) : ∃ v, aRes F H r = some v /\ RDV Z H β d v := by
 cases r with
 | t n => obtain ⟨v, hv, hr⟩ := hE n d h; exact ⟨v, by simp [aRes, hv], hr⟩
 | cell agg k n => obtain ⟨v, hv, hr, _⟩ := dLoad_ok hS hE h; exact ⟨v, hv, RDV.of1 hr⟩
theorem fr_one {Z : Nat -> Prop} {β : Beta} {H : Hp} {d : DV} {v : V} (hr : RDV Z H β d v) (hd : fr1 d = true) : isOne v = true /\ RDV1 Z H β d v := by
 cases d with
 | one d => obtain ⟨c, rfl, hr⟩ := hr; exact ⟨rfl, c, rfl, hr⟩
 | agg l => obtain ⟨c, rfl, hr⟩ := hr; exact ⟨rfl, c, rfl, hr⟩
 | tup l => cases hd
theorem resDL_ok {Z : Nat -> Prop} {β : Beta} {H : Hp} {F : T V} (hS : SR p Z β H S nk) (hE : ER Z β H E F) : ∀ {l : List SRes} {ds : List DV}, resDL p E S l = some ds -> allB fr1 ds = true -> ∃ vs, aResL F H l = some vs /\ All2 (RDV1 Z H β) ds vs
 | [], ds, h, _ => by obtain rfl := Option.some.inj h; exact ⟨[], rfl, trivial⟩
 | r :: l, ds, h, hf => by
  simp only [resDL] at h
  split at h
  ·rename_i d q h1 h2
   obtain rfl := Option.some.inj h
   have f1 := allB_mem hf d (by simp)
   have f2 : allB fr1 q = true := by simp only [allB, f1] at hf; exact hf
   obtain ⟨v, e1, e2⟩ := resD_ok hS hE h1
   obtain ⟨vs, e3, e4⟩ := resDL_ok hS hE h2 f2
   obtain ⟨o1, o2⟩ := fr_one e2 f1
   exact ⟨v :: vs, by simp only [aResL, e1, e3, o1, if_true], o2, e4⟩
  ·cases h
theorem resultD_ok {Z : Nat -> Prop} {β : Beta} {H : Hp} {F : T V} (hS : SR p Z β H S nk) (hE : ER Z β H E F) {rs : List SRes} {d : DV} (h : resultD p E S rs = some d) (hf : frV d = true) : ∃ v, aResult F H rs = some v /\ RDV Z H nob d v := by
 unfold resultD at h
 have one : ∀ d', resDL p E S rs = some [d'] -> fr1 d' = true -> ∃ v, aResult F H rs = some v /\ RDV Z H nob d' v := fun d' hd' hf' => by
  obtain ⟨vs, h1, h2⟩ := resDL_ok hS hE hd' (by simp [allB, hf'])
  match vs, h1, h2 with
  | [v], h1, h2 => exact ⟨v, by simp only [aResult, h1], RDV.of1 (fr1_ok hf' h2.1)⟩
 split at h
 ·rename_i c hd'
  obtain rfl := Option.some.inj h
  exact one _ hd' hf
 ·rename_i l hd'
  obtain rfl := Option.some.inj h
  exact one _ hd' hf
 ·cases h
 ·rename_i ds hn1 hn2 hn3 hds
  obtain rfl := Option.some.inj h
  obtain ⟨vs, h1, h2⟩ := resDL_ok hS hE hds hf
  refine ⟨.tup vs, ?_, vs, rfl, fr1L_ok hf h2⟩
  have hl := h2.len
  unfold aResult
  rw [h1]
  match vs, hl with
  | [], _ => rfl
  | [v], hl =>
   match ds, hl with
   | [.one d], _ => exact (hn1 d rfl).elim
   | [.agg d], _ => exact (hn2 d rfl).elim
   | [.tup d], _ => exact (hn3 d rfl).elim
  | _ :: _ :: _, _ => rfl
 ·cases h
end
def retD (p : Par) (rs : List SRes) (R : DV -> Prop) : Exit -> DEnv -> Bx -> Nat -> Prop
 | .normal, E, S, _ => ∃ d, resultD p E S rs = some d /\ frV d = true /\ R d
 | .ret, E, S, _ => ∃ d, resultD p E S rs = some d /\ frV d = true /\ R d
 | _, _, _, _ => False
theorem dfn_ok {P : Program} {G : Nat} {GH : Hp} {f : FuncId} {sf : SFn} (hf : cpFn P G f = some sf) {ds : List DV} {R : DV -> Prop} (hn : Nat.ble ds.length sf.n = true) (hG : ∀ b bk, GH.get b = some bk -> bk.ro = some bk) (h : ∀ Z0 lo, DPS (Par.base P G GH Z0 lo) sf.n sf.code (retD (Par.base P G GH Z0 lo) sf.res R) (argsD ds 0) [] 0) : DCalls P G GH f ds R := by
 intro H Z args hw hz hg ha
 have hro : ACalls P G f args H.ro fun v H1 => WF H1 /\ H.nx <= H1.nx /\ ∃ d Z1, (∀ b, Z1 b -> Z b \/ H.nx <= b) /\ (∀ b, Z1 b -> b < H1.nx) /\ RDV Z1 H1 nob d v /\ R d := by
  have hwr : WF H.ro := fun b bk hb => by
   rw [Hp.get_ro, Option.bind_eq_some_iff] at hb
   obtain ⟨x, hx, _⟩ := hb
   exact hw b x hx
  refine (fn_ok hf (by rw [<- ha.len]; exact Nat.le_of_ble_eq_true hn) ?_)
  have hS : SR (Par.base P G GH Z H.nx) Z nob H.ro [] 0 := ⟨hwr, Nat.le_refl _, hz, fun b hb => .inl hb, fun b hb => hb, fun b bk hb => (by rcases hb with hb|⟨_, hb⟩; exact ⟨(hg b bk hb).1, by rw [Hp.get_ro, (hg b bk hb).2]; exact hG b bk hb⟩; cases hb), fun _ _ => rfl, fun _ _ _ hk => (by cases hk), fun κ x hk => (by obtain ⟨y, hy⟩ := lk2_lk hk; cases hy), fun _ _ _ _ _ _ _ hk => (by cases hk), fun _ _ _ hk => (by cases hk), fun _ _ _ => rfl, Nat.le_refl _⟩
  have hE : ER Z nob H.ro (argsD ds 0) (initF args 0) := argsD_ok 0 (ha.mono fun _ _ hr => RDV.mono (ZLe.of_le (fun _ h => h) (Le.ro H)) (BLe.refl nob) hr)
  refine swp_mono ((h Z H.nx).run Z nob H.ro _ hS hE) fun e F' H' ⟨E', S', nk', Z', β', h1, h2, h3⟩ => ?_
  have fin : (∃ d, resultD (Par.base P G GH Z H.nx) E' S' sf.res = some d /\ frV d = true /\ R d) -> ∃ v, aResult F' H' sf.res = some v /\ WF H' /\ H.nx <= H'.nx /\ ∃ d Z1, (∀ b, Z1 b -> Z b \/ H.nx <= b) /\ (∀ b, Z1 b -> b < H'.nx) /\ RDV Z1 H' nob d v /\ R d := fun ⟨d, hd, hfr, hR⟩ => by
   obtain ⟨v, hv, hr⟩ := resultD_ok h1 h2 hd hfr
   exact ⟨v, hv, h1.wf, h1.lo, d, Z', h1.zlo, h1.z, hr, hR⟩
  cases e with
  | normal => obtain ⟨v, hv, hr⟩ := fin h3; simp only [retQ, hv]; exact hr
  | ret => obtain ⟨v, hv, hr⟩ := fin h3; simp only [retQ, hv]; exact hr
  | _ => exact h3.elim
 refine (ACalls.none (ACalls.wf (ACalls.grow hro))).mono ?_
 rintro v H' ⟨⟨⟨H1, ⟨w1, n1, d, Z1, z1, z2, hr, hR⟩, e1, e2, e3, e4, e5⟩, hw'⟩, hno⟩
 have hnx : H'.nx = H1.nx := by rw [e1]; rfl
 refine ⟨hw', by omega, fun b hb => ?_, d, hr.mono (ZLe.of_le (fun b hb => ?_) e5) (BLe.refl nob), hR⟩
 ·cases hgb : H.get b with
  | none => exact hno b hb hgb
  | some bk => exact e3 b bk hgb
 ·rcases z1 b hb with h|h
  ·exact .inl h
  ·exact .inr ⟨h, by rw [hnx]; exact z2 b hb⟩
end Go.Ab

namespace Go.Ab
def SubA {α : Type} (E0 E : List (Nat × α)) : Prop := ∀ k v, lk E0 k = some v -> lk E k = some v
theorem SubA.nil {α : Type} (E : List (Nat × α)) : SubA [] E := fun _ _ h => by cases h
theorem SubA.cons {α : Type} {E0 E : List (Nat × α)} {k : Nat} {v : α} (h : lk E k = some v) (hr : SubA E0 E) : SubA ((k, v) :: E0) E := fun n x hx => by
 rw [lk_cons] at hx
 split at hx
 ·rename_i e; subst e; rw [h]; exact hx
 ·exact hr n x hx
section
variable {p : Par} {n : Nat} {Q : Exit -> DEnv -> Bx -> Nat -> Prop} {E E0 : DEnv} {S S0 : Bx} {nk : Nat}
theorem keep_ok {Z : Nat -> Prop} {β : Beta} {H : Hp} {F : T V} (hS : SR p Z β H S nk) (hE : ER Z β H E F) (h1 : SubA E0 E) (h2 : SubA S0 S) : SR p Z β H S0 nk /\ ER Z β H E0 F :=
 ⟨hS.keepS h2, fun t d ht => hE t d (h1 t d ht)⟩
end
section
variable {p : Par} {base rs : Nat} {Q : DEnv -> Bx -> Nat -> Prop} {l : List SOper} {W : Wt} {A : List Nat} {E E0 : DEnv} {S S0 : Bx} {nk : Nat}
theorem dw_keep (h1 : SubA E0 E) (h2 : SubA S0 S) (h : DPW p base rs Q l W A E0 S0 nk) : DPW p base rs Q l W A E S nk := .mk fun Z β H F c QP hS hE hC hA => by
 obtain ⟨g1, g2⟩ := keep_ok hS hE h1 h2
 exact h.run Z β H F c QP g1 g2 hC hA
end
section
variable {p : Par} {base rs : Nat} {Q : DEnv -> Bx -> Nat -> Prop} {r : List SOper} {W : Wt} {A : List Nat} {E : DEnv} {S : Bx} {nk : Nat} {id : Nat} {dst : Option Nat} {aid : Option Nat} {ws : List Nat} {keep : Bool}
end
theorem dwrap {n : Int} (h1 : -9223372036854775808 <= n) (h2 : n < 9223372036854775808) : IntKind.i64.wrap n = n := by
 simp [IntKind.wrap, IntKind.signed, IntKind.bits]
 split <;> omega
theorem exVL_ok {Z : Nat -> Prop} {H : Hp} {β : Beta} : ∀ {ds : List DV} {vs args : List V}, All2 (fun d v => exV d = some v) ds vs -> All2 (RDV Z H β) ds args -> args = vs
 | [], [], [], _, _ => rfl
 | _ :: _, _ :: _, _ :: _, h, hr => by rw [exV_ok h.1 hr.1, exVL_ok h.2 hr.2]
 | [], _ :: _, _, h, _ => h.elim
 | _ :: _, [], _, h, _ => h.elim
 | [], [], _ :: _, _, hr => hr.elim
 | _ :: _, _ :: _, [], _, hr => hr.elim
theorem DCalls.of_pure {P : Program} {G : Nat} {GH : Hp} {f : FuncId} {ds : List DV} {vs : List V} {c : C} (hex : All2 (fun d v => exV d = some v) ds vs) (hc : c.closed = true) (h : ∀ H, (∀ b bk, GH.get b = some bk -> H.get b = some bk) -> ACalls P G f vs H fun v H' => v = .one c /\ H' = H) : DCalls P G GH f ds fun d => d = .one (.f (.c c)) := fun H Z args hw hz hg ha => by
 rw [exVL_ok hex ha]
 refine (h H fun b bk hb => (hg b bk hb).2).mono ?_
 rintro v H' ⟨rfl, rfl⟩
 exact ⟨hw, Nat.le_refl _, fun _ _ => rfl, _, exact_ok hc, rfl⟩
end Go.Ab

namespace Go.Ab
theorem oM {P : Prop} (h : P := by omega) : P := h
theorem aM {P : Prop} (h : P := by assumption) : P := h
theorem cgI {n : Int} (h1 : -9223372036854775808 ≤ n) (h2 : n < 9223372036854775808) : some (DV.int (IntKind.i64.wrap n)) = some (DV.int n) := congrArg (fun z => some (DV.int z)) (dwrap h1 h2)
theorem cgD {x y : List FD} (h : x = y) : some (Bk.data x) = some (Bk.data y) := congrArg (fun z => some (Bk.data z)) h
theorem wkA {P : Prop} (h : P := by exact ⟨by repeat (first | exact trivial | refine ⟨by first | rfl | exact cgI (by omega) (by omega), rfl, ?_⟩), by repeat (first | exact trivial | refine ⟨by first | rfl | exact cgD (by assumption), rfl, rfl, ?_⟩), rfl, rfl⟩) : P := h
theorem wkB {P : Prop} (h : P := by repeat (first | exact trivial | refine ⟨by first | rfl | exact cgI (by omega) (by omega), rfl, ?_⟩)) : P := h
theorem okZ {P : Prop} (h : P := by repeat' (first | exact trivial | rfl | assumption | refine ⟨?_, ?_⟩)) : P := h
theorem dgA {P : Prop} (h : P := by first | exact fun _ => rfl | exact fun h => (by simp only [if_pos h]; rfl) | exact fun h => (by simp only [h, if_true, if_false]; rfl)) : P := h
end Go.Ab
