/- Law 34: the conditions: leaves. -/
import Derived.Test.YtodegnniljbflaaDoorAb10
set_option linter.unusedVariables false
set_option linter.unusedSimpArgs false
namespace Go.Ac
open Go.Ab Go.Proofs
set_option linter.unusedSimpArgs false

def leafD : Option Lf → DV
  | some x => .tup [.agg ((lfF x).map .f), .int 0]
  | none => .tup [.agg [.f (.c (.int .i64 0)), .f (.c (.int .i64 0)), .f (.c .nils), .f (.c .nils)], .int 250]
/-- what sheet.Leaf says of a plate -/
def LeafOk (q : Pq) (r : Option Lf) : Prop := DK 31 [.agg ((pqF q).map .f)] fun d => d = leafD r

theorem x_leafN {l : List Pq} {i : Nat} {q : Pq} {lv : DC} {S0 : Bx} (hq : l[i]? = some q) (hr : LeafOk q none) (hS0 : lk S0 7 = none) : DKX 28 [.one (.ptr 3 0), .int i] ((3, .cells [pqsC l, lv]) :: S0) 7
    fun d S' nk' => d = .int 250 ∧ S' = (3, .cells [pqsC l, lv]) :: S0 ∧ nk' = 8 := by
  refine dkx_ok cp28 rfl fun Z β H lo => ?_
  have hi : i < l.length := (List.getElem?_eq_some_iff.1 hq).1
  have e1 := pqF_at hq
  repeat (first | refine dw_p rfl ?_ | refine dw_l rfl ?_ | refine dw_if rfl rfl (by omega) (by decide) (by assumption) ?_ | refine dw_nil ?_ | refine ds_seq ?_ | refine ds_ops mix (fun base => ?_))
  refine dw_cf rfl rfl hr ?_
  rintro _ rfl
  repeat (first | refine dw_p rfl ?_ | refine dw_a rfl ?_ | refine dw_st rfl rfl rfl rfl rfl (Nat.le_of_ble_eq_true rfl) rfl ?_ | refine dw_nil ?_ | refine ds_seq ?_ | refine ds_ops mix (fun base => ?_))
  refine ds_if rfl (fun ht => ?_) (fun ht => ?_)
  · repeat (first | refine dw_p rfl ?_ | refine dw_nil ?_ | refine ds_seq ?_ | refine ds_ops mix (fun base => ?_))
    exact ds_ret ⟨_, rfl, rfl, _, sub_put hS0, rfl, rfl, rfl⟩
  · simp at ht

theorem sub_leaf {S0 : Bx} {a b c d e c' : Bk} (h : ∀ k, 6 ≤ k → lk S0 k = none) : SubA ((3, c') :: (9, d) :: S0) (put 3 c' ((9, d) :: era 6 ((8, a) :: (7, b) :: (3, c) :: (6, e) :: S0))) := fun j v hj => by
  rw [lk_cons, lk_cons] at hj
  rw [lk_put, lk_cons, lk_era, lk_cons, lk_cons, lk_cons, lk_cons]
  by_cases h3 : j = 3
  · subst h3; simpa using hj
  · by_cases h9 : j = 9
    · subst h9; simpa using hj
    · have hj' : lk S0 j = some v := by simpa [Ne.symm h3, Ne.symm h9] using hj
      have hlt : j < 6 := by
        rcases Nat.lt_or_ge j 6 with h1 | h1
        · exact h1
        · rw [h j h1] at hj'; cases hj'
      simp [h3, Ne.symm h3, show ¬ 9 = j by omega, show ¬ j = 6 by omega, show ¬ 8 = j by omega, show ¬ 7 = j by omega, show ¬ 6 = j by omega, hj']
theorem x_leafS {l : List Pq} {i : Nat} {q : Pq} {x : Lf} {lfs : List Lf} {S0 : Bx} (hq : l[i]? = some q) (hr : LeafOk q (some x)) (hn : lfs.length < 1000000) (hS0 : ∀ k, 6 ≤ k → lk S0 k = none) : DKX 28 [.one (.ptr 3 0), .int i] ((3, .cells [pqsC l, .own 6 0 lfs.length 4]) :: (6, .data (lfs.flatMap lfF)) :: S0) 7
    fun d S' nk' => d = .int 0 ∧ S' = (3, .cells [pqsC l, .own 9 0 (lfs ++ [x]).length 4]) :: (9, .data ((lfs ++ [x]).flatMap lfF)) :: S0 ∧ nk' = 10 := by
  refine dkx_ok cp28 rfl fun Z β H lo => ?_
  have hi : i < l.length := (List.getElem?_eq_some_iff.1 hq).1
  have e1 := pqF_at hq
  have hfl : (lfs.flatMap lfF).length = lfs.length * 4 := flat_length (f := lfF) (e := 4) (fun _ => rfl) lfs
  repeat (first | refine dw_p rfl ?_ | refine dw_l rfl ?_ | refine dw_if rfl rfl (by omega) (by decide) (by assumption) ?_ | refine dw_nil ?_ | refine ds_seq ?_ | refine ds_ops mix (fun base => ?_))
  refine dw_cf rfl rfl hr ?_
  rintro _ rfl
  repeat (first | refine dw_p rfl ?_ | refine dw_a rfl ?_ | refine dw_st rfl rfl rfl rfl rfl (Nat.le_of_ble_eq_true rfl) rfl ?_ | refine dw_nil ?_ | refine ds_seq ?_ | refine ds_ops mix (fun base => ?_))
  refine ds_if rfl (fun ht => by simp at ht) (fun ht => ?_)
  repeat (first | refine dw_p rfl ?_ | refine dw_l rfl ?_ | refine dw_ai rfl rfl rfl ?_ | refine ds_seq ?_ | refine ds_ops mix (fun base => ?_) | refine ds_skip ?_)
  refine dw_app rfl rfl rfl (subL_all _ hfl) ⟨rfl, rfl, _, rfl, rfl⟩ (by omega) (by omega) (by decide) rfl ?_
  repeat (first | refine dw_p rfl ?_ | refine dw_st rfl rfl rfl rfl rfl (Nat.le_of_ble_eq_true rfl) rfl ?_ | refine dw_nil ?_ | refine ds_seq ?_ | refine ds_ops mix (fun base => ?_))
  refine ds_ret ⟨_, rfl, rfl, _, sub_leaf hS0, rfl, ?_, rfl⟩
  rw [List.flatMap_append, List.length_append]
  rfl
theorem sub_leaf0 {S0 : Bx} {a b c d e c' : Bk} (h : ∀ k, 6 ≤ k → lk S0 k = none) : SubA ((3, c') :: (9, d) :: S0) (put 3 c' ((9, d) :: era 8 ((8, a) :: (7, b) :: (6, e) :: (3, c) :: S0))) := fun j v hj => by
  rw [lk_cons, lk_cons] at hj
  rw [lk_put, lk_cons, lk_era, lk_cons, lk_cons, lk_cons, lk_cons]
  by_cases h3 : j = 3
  · subst h3; simpa using hj
  · by_cases h9 : j = 9
    · subst h9; simpa using hj
    · have hj' : lk S0 j = some v := by simpa [Ne.symm h3, Ne.symm h9] using hj
      have hlt : j < 6 := by
        rcases Nat.lt_or_ge j 6 with h1 | h1
        · exact h1
        · rw [h j h1] at hj'; cases hj'
      simp [h3, Ne.symm h3, show ¬ 9 = j by omega, show ¬ j = 8 by omega, show ¬ 8 = j by omega, show ¬ 7 = j by omega, show ¬ 6 = j by omega, hj']
theorem x_leaf0 {l : List Pq} {i : Nat} {q : Pq} {x : Lf} {S0 : Bx} (hq : l[i]? = some q) (hr : LeafOk q (some x)) (hS0 : ∀ k, 6 ≤ k → lk S0 k = none) : DKX 28 [.one (.ptr 3 0), .int i] ((3, .cells [pqsC l, .f (.c .nils)]) :: S0) 6
    fun d S' nk' => d = .int 0 ∧ S' = (3, .cells [pqsC l, .own 9 0 [x].length 4]) :: (9, .data ([x].flatMap lfF)) :: S0 ∧ nk' = 10 := by
  refine dkx_ok cp28 rfl fun Z β H lo => ?_
  have hi : i < l.length := (List.getElem?_eq_some_iff.1 hq).1
  have e1 := pqF_at hq
  repeat (first | refine dw_p rfl ?_ | refine dw_l rfl ?_ | refine dw_if rfl rfl (by omega) (by decide) (by assumption) ?_ | refine dw_nil ?_ | refine ds_seq ?_ | refine ds_ops mix (fun base => ?_))
  refine dw_cf rfl rfl hr ?_
  rintro _ rfl
  repeat (first | refine dw_p rfl ?_ | refine dw_a rfl ?_ | refine dw_st rfl rfl rfl rfl rfl (Nat.le_of_ble_eq_true rfl) rfl ?_ | refine dw_nil ?_ | refine ds_seq ?_ | refine ds_ops mix (fun base => ?_))
  refine ds_if rfl (fun ht => by simp at ht) (fun ht => ?_)
  repeat (first | refine dw_p rfl ?_ | refine dw_l rfl ?_ | refine dw_ai rfl rfl rfl ?_ | refine ds_seq ?_ | refine ds_ops mix (fun base => ?_) | refine ds_skip ?_)
  refine dw_virt 24 4 rfl ?_
  refine dw_app (l' := []) rfl rfl rfl rfl ⟨rfl, rfl, _, rfl, rfl⟩ (by omega) (by omega) (by decide) rfl ?_
  repeat (first | refine dw_p rfl ?_ | refine dw_st rfl rfl rfl rfl rfl (Nat.le_of_ble_eq_true rfl) rfl ?_ | refine dw_nil ?_ | refine ds_seq ?_ | refine ds_ops mix (fun base => ?_))
  refine ds_ret ⟨_, rfl, rfl, _, sub_leaf0 hS0, rfl, ?_, rfl⟩
  rfl
/-- .. a plate without a leaf, at the beginning -/
theorem x_leafN0 {l : List Pq} {i : Nat} {q : Pq} {lv : DC} {S0 : Bx} (hq : l[i]? = some q) (hr : LeafOk q none) (hS0 : lk S0 6 = none) : DKX 28 [.one (.ptr 3 0), .int i] ((3, .cells [pqsC l, lv]) :: S0) 6
    fun d S' nk' => d = .int 250 ∧ S' = (3, .cells [pqsC l, lv]) :: S0 ∧ nk' = 7 := by
  refine dkx_ok cp28 rfl fun Z β H lo => ?_
  have hi : i < l.length := (List.getElem?_eq_some_iff.1 hq).1
  have e1 := pqF_at hq
  repeat (first | refine dw_p rfl ?_ | refine dw_l rfl ?_ | refine dw_if rfl rfl (by omega) (by decide) (by assumption) ?_ | refine dw_nil ?_ | refine ds_seq ?_ | refine ds_ops mix (fun base => ?_))
  refine dw_cf rfl rfl hr ?_
  rintro _ rfl
  repeat (first | refine dw_p rfl ?_ | refine dw_a rfl ?_ | refine dw_st rfl rfl rfl rfl rfl (Nat.le_of_ble_eq_true rfl) rfl ?_ | refine dw_nil ?_ | refine ds_seq ?_ | refine ds_ops mix (fun base => ?_))
  refine ds_if rfl (fun ht => ?_) (fun ht => ?_)
  · repeat (first | refine dw_p rfl ?_ | refine dw_nil ?_ | refine ds_seq ?_ | refine ds_ops mix (fun base => ?_))
    exact ds_ret ⟨_, rfl, rfl, _, sub_put hS0, rfl, rfl, rfl⟩
  · simp at ht
/-- the conditions -/
theorem d_conds : DK 26 [] fun d => d = .one (.f (.sl 1 3 [.c (.fn 28 []), .c (.fn 29 []), .c (.fn 30 [])])) := by
  refine dfn_ok cp26 rfl GHro fun Z0 lo => ?_
  repeat (first | refine dw_p rfl ?_ | refine dw_a rfl ?_ | refine dw_nil ?_ | refine ds_seq ?_ | refine ds_ops mix (fun base => ?_))
  refine ds_frz 0 rfl (by repeat' (first | exact trivial | rfl | assumption | refine ⟨?_, ?_⟩)) (by repeat' (first | exact trivial | rfl | assumption | refine ⟨?_, ?_⟩)) ?_
  exact ds_ret ⟨_, rfl, rfl, rfl⟩
end Go.Ac

/- Law 34: the iterator. -/
namespace Go.Ac
open Go.Ab Go.Proofs
set_option linter.unusedSimpArgs false

theorem x_fails {S0 : Bx} (hS0 : lk S0 4 = none) : DKX 18 [.one (.ptr 3 0)] S0 4 fun d S' nk' => d = .one (.fn 25 [(4, 0)]) ∧ S' = (4, .cells [.ptr 3 0]) :: S0 ∧ nk' = 5 := by
  refine dkx_ok cp18 rfl fun Z β H lo => ?_
  repeat (first | refine dw_p rfl ?_ | refine dw_a rfl ?_ | refine dw_nil ?_ | refine ds_seq ?_ | refine ds_ops mix (fun base => ?_))
  exact ds_ret ⟨_, rfl, rfl, _, SubA.refl _, rfl, rfl, rfl⟩

def okLb : Option Lb → Lb → Bool
  | none, b => decide (b = (1, 0))
  | some a, b => foll a b
/-- the plates in their order: the place of the first that is wrong, and the error -/
def scan (q0 : Pq) : Nat → Option Lb → List (Pq × Option Lf) → Nat × Int
  | i, _, [] => (i, 0)
  | i, _, (_, none) :: _ => (i, 250)
  | i, prev, (q, some x) :: r => if q.w ≠ q0.w ∨ q.h ≠ q0.h then (i, 340) else if okLb prev x.lb = true then scan q0 (i + 1) (some x.lb) r else (i, 340)

/-- the round: it keeps what it is told, and goes home -/
theorem round_d {ρ : Nat} {Z : Nat → Prop} {β : Beta} {H : Hp} {p : Par} (hp : p.P = Tryd.prog) {i e : Int} {a0 a1 a2 : DC} {S0 : Bx} {nk nk0 : Nat} {R : DV → Bx → Nat → Prop} {st : LoopState} {j : Option Code} {f n : Nat} {ts ps : List Nat} {sg bd : Code} {l : List DC}
    (hR : R (.bool false) ((5, .mp (.lp .done (some .ret) f n ts ps sg bd) l) :: (0, .cells [.f (.c .nils)]) :: (1, .cells [.f (.c (.int .i64 i))]) :: (2, .cells [.f (.c (.int .i64 e))]) :: S0) nk) :
    DPS (p.round ρ Z nk0 β H) f13.n f13b0 (roundD 5 R) [(6, .int i), (7, .int e), (2, .one (.ptr 0 0)), (3, .one (.ptr 1 0)), (4, .one (.ptr 2 0))] ((5, .mp (.lp st j f n ts ps sg bd) l) :: (0, .cells [a0]) :: (1, .cells [a1]) :: (2, .cells [a2]) :: S0) nk := by
  have mixp : (p.round ρ Z nk0 β H).P.follows .mixedOrders = true := by show p.P.follows _ = _; rw [hp]; exact mix
  refine ds_block ?_
  refine ds_seq ?_
  refine ds_ops mixp (fun base => ?_)
  repeat (first | refine dw_p rfl ?_ | refine dw_st rfl rfl rfl rfl rfl (Nat.le_of_ble_eq_true rfl) rfl ?_ | refine dw_nil ?_)
  refine ds_ret ⟨_, _, _, _, _, _, _, _, _, rfl, ?_⟩
  exact hR
end Go.Ac

/- Law 34: the iterator, walked. -/
namespace Go.Ac
open Go.Ab Go.Proofs
set_option linter.unusedSimpArgs false

abbrev condsD : DV := .one (.f (.sl 1 3 [.c (.fn 28 []), .c (.fn 29 []), .c (.fn 30 [])]))
/-- the boxes, by the leaves so far -/
def bx (rec : Bk) (l : List Pq) (c0 c1 c2 : Bk) : List Lf → Bx
  | [] => [(3, .cells [pqsC l, .f (.c .nils)]), (4, .cells [.ptr 3 0]), (5, rec), (0, c0), (1, c1), (2, c2)]
  | x :: r => [(3, .cells [pqsC l, .own 6 0 (x :: r).length 4]), (6, .data ((x :: r).flatMap lfF)), (4, .cells [.ptr 3 0]), (5, rec), (0, c0), (1, c1), (2, c2)]
def bn : List Lf → Nat
  | [] => 6
  | _ :: _ => 7
theorem bx_ne {rec : Bk} {l : List Pq} {c0 c1 c2 : Bk} {lfs : List Lf} (h : lfs ≠ []) : bx rec l c0 c1 c2 lfs = [(3, .cells [pqsC l, .own 6 0 lfs.length 4]), (6, .data (lfs.flatMap lfF)), (4, .cells [.ptr 3 0]), (5, rec), (0, c0), (1, c1), (2, c2)] ∧ bn lfs = 7 := by
  cases lfs with
  | nil => exact absurd rfl h
  | cons x r => exact ⟨rfl, rfl⟩

/-- the state within the conditions -/
structure Cond (l : List Pq) (rs : List (Option Lf)) (q0 : Pq) (k : Nat) (lfs lfs' : List Lf) (j : Nat) : Prop where
  z : j = 0 → lfs' = lfs
  s : 1 ≤ j → ∃ x, rs[k]? = some (some x) ∧ lfs' = lfs ++ [x]
  w : 2 ≤ j → ∀ q, l[k]? = some q → q.w = q0.w ∧ q.h = q0.h
  t : 3 ≤ j → ∀ x, rs[k]? = some (some x) → okLb (lfs.getLast?.map (·.lb)) x.lb = true

theorem scan_none {q0 q : Pq} {k : Nat} {prev : Option Lb} {L : List (Pq × Option Lf)} (h : L[k]? = some (q, none)) : scan q0 k prev (L.drop k) = (k, 250) := by
  obtain ⟨hk, e⟩ := List.getElem?_eq_some_iff.1 h
  rw [List.drop_eq_getElem_cons hk, e]
  rfl
theorem scan_some {q0 q : Pq} {x : Lf} {k : Nat} {prev : Option Lb} {L : List (Pq × Option Lf)} (h : L[k]? = some (q, some x)) :
    scan q0 k prev (L.drop k) = if q.w ≠ q0.w ∨ q.h ≠ q0.h then (k, 340) else if okLb prev x.lb = true then scan q0 (k + 1) (some x.lb) (L.drop (k + 1)) else (k, 340) := by
  obtain ⟨hk, e⟩ := List.getElem?_eq_some_iff.1 h
  rw [List.drop_eq_getElem_cons hk, e]
  rfl
theorem scan_end {q0 : Pq} {k : Nat} {prev : Option Lb} {L : List (Pq × Option Lf)} (h : L.length ≤ k) : scan q0 k prev (L.drop k) = (k, 0) := by
  rw [List.drop_eq_nil_of_le h]; rfl
end Go.Ac

/- Law 34: yield is told of a failure. -/
namespace Go.Ac
open Go.Ab Go.Proofs
set_option linter.unusedSimpArgs false

theorem yl_fail {p : Par} (hp : p.P = Tryd.prog) (hG : p.G = 6) {i e : Int} {fid : FuncId} {sg bd : Code} (hsg : cpCode Tryd.prog 6 f13.n sg = some (.seq (.ops f13r5 0) (.ops f13r6 0))) (hbd : cpCode Tryd.prog 6 f13.n bd = some f13b0)
    {base rs : Nat} {Q : DEnv → Bx → Nat → Prop} {r : List SOper} {A : List Nat} {E : DEnv} {S : Bx} {nk : Nat} {id : Nat} {dst : Option Nat} {aid : Option Nat} {ws : List Nat} {keep : Bool} {a0 a1 a2 : DC} {x y z : Opd}
    (h5 : lk S 5 = some (.mp (.lp .ready none fid f13.n [2, 3, 4] [14, 15] sg bd) [.ptr 0 0, .ptr 1 0, .ptr 2 0])) (h0 : lk S 0 = some (.cells [a0])) (h1 : lk S 1 = some (.cells [a1])) (h2 : lk S 2 = some (.cells [a2]))
    (hx : ro E x = some (.one (.yl 5))) (hvs : ros E [y, z] = some [.int i, .int e]) (hT : noT E = true)
    (h : DPW p base 0 Q r [] A (setD E dst (.bool false)) [(5, .mp (.lp .done (some .ret) fid f13.n [2, 3, 4] [14, 15] sg bd) [.ptr 0 0, .ptr 1 0, .ptr 2 0]), (0, .cells [.f (.c .nils)]), (1, .cells [.f (.c (.int .i64 i))]), (2, .cells [.f (.c (.int .i64 e))])] nk) :
    DPW p base rs Q (⟨id, dst, .cv x [y, z], none, aid, ws, keep⟩ :: r) [] A E S nk := by
  refine dw_yl (R := fun d S' nk' => d = .bool false ∧ S' = [(5, .mp (.lp .done (some .ret) fid f13.n [2, 3, 4] [14, 15] sg bd) [.ptr 0 0, .ptr 1 0, .ptr 2 0]), (0, .cells [.f (.c .nils)]), (1, .cells [.f (.c (.int .i64 i))]), (2, .cells [.f (.c (.int .i64 e))])] ∧ nk' = nk) hx hvs h5 rfl rfl hT (by rw [hp, hG]; exact hsg) (by rw [hp, hG]; exact hbd) (fun ρ Z β H => ?_) (by rintro _ _ _ ⟨rfl, rfl, rfl⟩; exact h)
  have mixp : (p.round ρ Z nk β H).P.follows .mixedOrders = true := by show p.P.follows _ = _; rw [hp]; exact mix
  refine ds_seq ?_
  refine ds_ops mixp (fun base => ?_)
  repeat (first | refine dw_p rfl ?_ | refine dw_nil ?_)
  refine ds_ops mixp (fun base => ?_)
  repeat (first | refine dw_p rfl ?_ | refine dw_nil ?_)
  refine ⟨rfl, _, _, _, _, _, _, _, _, _, rfl, h5, ?_⟩
  refine ds_keep (E0 := [(6, .int i), (7, .int e), (2, .one (.ptr 0 0)), (3, .one (.ptr 1 0)), (4, .one (.ptr 2 0))]) (S0 := (5, .mp (.lp .busy none fid f13.n [2, 3, 4] [14, 15] sg bd) [.ptr 0 0, .ptr 1 0, .ptr 2 0]) :: (0, .cells [a0]) :: (1, .cells [a1]) :: (2, .cells [a2]) :: [])
    (SubA.cons rfl (SubA.cons rfl (SubA.cons rfl (SubA.cons rfl (SubA.cons rfl (SubA.nil _))))))
    (SubA.cons (by rw [lk_put, if_pos rfl, h5]; rfl) (SubA.cons (by rw [lk_put, if_neg (by decide), h0]) (SubA.cons (by rw [lk_put, if_neg (by decide), h1]) (SubA.cons (by rw [lk_put, if_neg (by decide), h2]) (SubA.nil _))))) ?_
  exact round_d hp ⟨rfl, rfl, rfl⟩
end Go.Ac

/- Law 34: the iterator. -/
namespace Go.Ac
open Go.Ab Go.Proofs
set_option linter.unusedSimpArgs false

theorem bn_ne {lfs : List Lf} (h : lfs ≠ []) : bn lfs = 7 := by
  cases lfs with
  | nil => exact absurd rfl h
  | cons x r => rfl
set_option maxHeartbeats 16000000 in
theorem x_iter {l : List Pq} {rs : List (Option Lf)} {q0 : Pq} (hlen : rs.length = l.length) (hl : ∀ (i : Nat) q r, l[i]? = some q → rs[i]? = some r → LeafOk q r) (hsm : ∀ x, some x ∈ rs → 0 ≤ x.lb.1 ∧ x.lb.1 < 100000 ∧ 0 ≤ x.lb.2 ∧ x.lb.2 < 100000)
    (hq0 : l[0]? = some q0) (hn : l.length < 1000000) {fid : FuncId} {sg bd : Code} (hsg : cpCode Tryd.prog 6 f13.n sg = some (.seq (.ops f13r5 0) (.ops f13r6 0))) (hbd : cpCode Tryd.prog 6 f13.n bd = some f13b0) :
    DKX 25 [.one (.yl 5), .one (.ptr 4 0)] (bx (.mp (.lp .ready none fid f13.n [2, 3, 4] [14, 15] sg bd) [.ptr 0 0, .ptr 1 0, .ptr 2 0]) l (.cells [.f (.c .nils)]) (.cells [.f (.c (.int .i64 0))]) (.cells [.f (.c (.int .i64 0))]) []) 6
    fun _ S' nk' => (∃ lfs, scan q0 0 none (l.zip rs) = (l.length, 0) ∧ S' = bx (.mp (.lp .ready none fid f13.n [2, 3, 4] [14, 15] sg bd) [.ptr 0 0, .ptr 1 0, .ptr 2 0]) l (.cells [.f (.c .nils)]) (.cells [.f (.c (.int .i64 0))]) (.cells [.f (.c (.int .i64 0))]) lfs ∧ nk' = bn lfs) ∨
      ((scan q0 0 none (l.zip rs)).2 ≠ 0 ∧ S' = [(5, .mp (.lp .done (some .ret) fid f13.n [2, 3, 4] [14, 15] sg bd) [.ptr 0 0, .ptr 1 0, .ptr 2 0]), (0, .cells [.f (.c .nils)]), (1, .cells [.f (.c (.int .i64 (scan q0 0 none (l.zip rs)).1))]), (2, .cells [.f (.c (.int .i64 (scan q0 0 none (l.zip rs)).2))])]) := by
  refine dkx_ok cp25 rfl fun Z β H lo => ?_
  repeat (first | refine dw_p rfl ?_ | refine dw_l rfl ?_ | refine dw_nil ?_ | refine ds_seq ?_ | refine ds_ops mix (fun base => ?_) | refine ds_block ?_)
  refine ds_loop (fun m E S nk => ∃ (k : Nat) (lfs : List Lf), k + m = l.length ∧ lfs.length = k ∧ rs.take k = lfs.map some ∧ scan q0 0 none (l.zip rs) = scan q0 k (lfs.getLast?.map (·.lb)) ((l.zip rs).drop k) ∧
    E = [(0, .one (.yl 5)), (1, .one (.ptr 4 0)), (11, .int l.length), (12, .int k)] ∧ S = bx (.mp (.lp .ready none fid f13.n [2, 3, 4] [14, 15] sg bd) [.ptr 0 0, .ptr 1 0, .ptr 2 0]) l (.cells [.f (.c .nils)]) (.cells [.f (.c (.int .i64 0))]) (.cells [.f (.c (.int .i64 0))]) lfs ∧ nk = bn lfs)
    ⟨l.length, _, _, _, [], ?wk, 0, [], by omega, rfl, rfl, rfl, rfl, rfl, rfl⟩ ?_
  case wk => exact ⟨by repeat (first | exact trivial | refine ⟨by first | rfl | exact congrArg (fun z => some (DV.int z)) (dwrap (by omega) (by omega)), rfl, ?_⟩), by repeat (first | exact trivial | refine ⟨by first | rfl | exact congrArg (fun z => some (Bk.data z)) (by assumption), rfl, rfl, ?_⟩), rfl, rfl⟩
  rintro m E S nk ⟨k, lfs, hk, hlk, htk, hsc, rfl, rfl, rfl⟩
  repeat (first | refine dw_p rfl ?_ | refine dw_nil ?_ | refine ds_seq ?_ | refine ds_ops mix (fun base => ?_))
  refine ds_if rfl (fun ht => ?_) (fun ht => ?_)
  · have hkl : k < l.length := by simpa using ht
    obtain ⟨q, hq⟩ : ∃ q, l[k]? = some q := ⟨_, List.getElem?_eq_getElem hkl⟩
    obtain ⟨r, hr⟩ : ∃ r, rs[k]? = some r := ⟨_, List.getElem?_eq_getElem (by omega)⟩
    have hz : (l.zip rs)[k]? = some (q, r) := by
      rw [List.getElem?_zip_eq_some]; exact ⟨hq, hr⟩
    have s0 : subL [FD.c (.fn 28 []), .c (.fn 29 []), .c (.fn 30 [])] (0 * 1) 1 = some [.c (.fn 28 [])] := rfl
    have s1 : subL [FD.c (.fn 28 []), .c (.fn 29 []), .c (.fn 30 [])] (1 * 1) 1 = some [.c (.fn 29 [])] := rfl
    have s2 : subL [FD.c (.fn 28 []), .c (.fn 29 []), .c (.fn 30 [])] (2 * 1) 1 = some [.c (.fn 30 [])] := rfl
    repeat (first | refine dw_p rfl ?_ | refine dw_nil ?_ | refine ds_seq ?_ | refine ds_ops mix (fun base => ?_) | refine ds_skip ?_ | refine ds_block ?_)
    refine dw_cf rfl rfl d_conds ?_
    rintro _ rfl
    repeat (first | refine dw_p rfl ?_ | refine dw_nil ?_ | refine ds_block ?_)
    refine ds_loop (fun m2 E S nk => ∃ (j : Nat), j + m2 = 3 ∧ E = [(0, .one (.yl 5)), (1, .one (.ptr 4 0)), (3, .int k), (11, .int l.length), (12, .int k), (15, condsD), (16, .int 3), (17, .int j)] ∧
      ((j = 0 ∧ S = bx (.mp (.lp .ready none fid f13.n [2, 3, 4] [14, 15] sg bd) [.ptr 0 0, .ptr 1 0, .ptr 2 0]) l (.cells [.f (.c .nils)]) (.cells [.f (.c (.int .i64 0))]) (.cells [.f (.c (.int .i64 0))]) lfs ∧ nk = bn lfs) ∨
       (∃ x, 1 ≤ j ∧ r = some x ∧ (2 ≤ j → ¬ (q.w ≠ q0.w ∨ q.h ≠ q0.h)) ∧ (3 ≤ j → okLb (lfs.getLast?.map (·.lb)) x.lb = true) ∧
        S = [(3, .cells [pqsC l, .own 6 0 (lfs ++ [x]).length 4]), (6, .data ((lfs ++ [x]).flatMap lfF)), (4, .cells [.ptr 3 0]), (5, .mp (.lp .ready none fid f13.n [2, 3, 4] [14, 15] sg bd) [.ptr 0 0, .ptr 1 0, .ptr 2 0]), (0, .cells [.f (.c .nils)]), (1, .cells [.f (.c (.int .i64 0))]), (2, .cells [.f (.c (.int .i64 0))])] ∧ nk = 7)))
      ⟨3, _, _, _, [], ?wk2, 0, by omega, rfl, .inl ⟨rfl, rfl, rfl⟩⟩ ?_
    case wk2 =>
      cases lfs with
      | nil => exact ⟨by repeat (first | exact trivial | refine ⟨by first | rfl | exact congrArg (fun z => some (DV.int z)) (dwrap (by omega) (by omega)), rfl, ?_⟩), by repeat (first | exact trivial | refine ⟨by first | rfl | exact congrArg (fun z => some (Bk.data z)) (by assumption), rfl, rfl, ?_⟩), rfl, rfl⟩
      | cons a b => exact ⟨by repeat (first | exact trivial | refine ⟨by first | rfl | exact congrArg (fun z => some (DV.int z)) (dwrap (by omega) (by omega)), rfl, ?_⟩), by repeat (first | exact trivial | refine ⟨by first | rfl | exact congrArg (fun z => some (Bk.data z)) (by assumption), rfl, rfl, ?_⟩), rfl, rfl⟩
    rintro m2 E S nk ⟨j, hj, rfl, hst⟩
    repeat (first | refine dw_p rfl ?_ | refine dw_nil ?_ | refine ds_seq ?_ | refine ds_ops mix (fun base => ?_))
    refine ds_if rfl (fun ht => ?_) (fun ht => ?_)
    · rcases hst with ⟨rfl, rfl, rfl⟩ | ⟨x, h1, rfl, h2, h3, rfl, rfl⟩
      · -- the leaf
        cases r with
        | none =>
          have fin : (scan q0 0 none (l.zip rs)) = (k, 250) := by rw [hsc, scan_none hz]
          cases hc : lfs with
          | nil =>
            repeat (first | refine dw_p rfl ?_ | refine dw_l rfl ?_ | refine dw_if0 rfl rfl (by omega) (by decide) (by assumption) ?_ | refine dw_nil ?_ | refine ds_seq ?_ | refine ds_ops mix (fun base => ?_) | refine ds_skip ?_ | refine ds_block ?_)
            refine dw_cxv0 rfl is28 rfl rfl rfl (x_leafN0 hq (hl _ _ _ hq hr) rfl _ _ _ _ _) ?_
            rintro _ _ _ ⟨rfl, rfl, rfl⟩
            repeat (first | refine dw_p rfl ?_ | refine dw_nil ?_ | refine ds_seq ?_ | refine ds_ops mix (fun base => ?_))
            refine ds_if rfl (fun _ => ?_) (fun ht => by simp at ht)
            repeat (first | refine dw_p rfl ?_ | refine ds_seq ?_ | refine ds_ops mix (fun base => ?_))
            refine yl_fail rfl rfl hsg hbd rfl rfl rfl rfl rfl rfl rfl ?_
            repeat (first | refine dw_nil ?_)
            exact ds_ret ⟨_, rfl, rfl, _, SubA.refl _, .inr ⟨by rw [fin]; show (250 : Int) ≠ 0; omega, by rw [fin]⟩⟩
          | cons x0 r0 =>
            repeat (first | refine dw_p rfl ?_ | refine dw_l rfl ?_ | refine dw_if0 rfl rfl (by omega) (by decide) (by assumption) ?_ | refine dw_nil ?_ | refine ds_seq ?_ | refine ds_ops mix (fun base => ?_) | refine ds_skip ?_ | refine ds_block ?_)
            refine dw_cxv0 rfl is28 rfl rfl rfl (x_leafN hq (hl _ _ _ hq hr) rfl _ _ _ _ _) ?_
            rintro _ _ _ ⟨rfl, rfl, rfl⟩
            repeat (first | refine dw_p rfl ?_ | refine dw_nil ?_ | refine ds_seq ?_ | refine ds_ops mix (fun base => ?_))
            refine ds_if rfl (fun _ => ?_) (fun ht => by simp at ht)
            repeat (first | refine dw_p rfl ?_ | refine ds_seq ?_ | refine ds_ops mix (fun base => ?_))
            refine yl_fail rfl rfl hsg hbd rfl rfl rfl rfl rfl rfl rfl ?_
            repeat (first | refine dw_nil ?_)
            exact ds_ret ⟨_, rfl, rfl, _, SubA.refl _, .inr ⟨by rw [fin]; show (250 : Int) ≠ 0; omega, by rw [fin]⟩⟩
        | some x =>
          cases hc : lfs with
          | nil =>
            subst hc
            repeat (first | refine dw_p rfl ?_ | refine dw_l rfl ?_ | refine dw_if0 rfl rfl (by omega) (by decide) (by assumption) ?_ | refine dw_nil ?_ | refine ds_seq ?_ | refine ds_ops mix (fun base => ?_) | refine ds_skip ?_ | refine ds_block ?_)
            refine dw_cxv0 rfl is28 rfl rfl rfl (x_leaf0 hq (hl _ _ _ hq hr) (fun k hk => by
              rw [lk_cons, if_neg (by omega), lk_cons, if_neg (by omega), lk_cons, if_neg (by omega), lk_cons, if_neg (by omega), lk_cons, if_neg (by omega)]
              rfl) _ _ _ _ _) ?_
            rintro _ _ _ ⟨rfl, rfl, rfl⟩
            repeat (first | refine dw_p rfl ?_ | refine dw_nil ?_ | refine ds_seq ?_ | refine ds_ops mix (fun base => ?_))
            refine ds_if rfl (fun ht => by simp at ht) (fun _ => ?_)
            repeat (first | refine dw_p rfl ?_ | refine dw_nil ?_ | refine ds_ops mix (fun base => ?_) | refine ds_skip ?_)
            refine ⟨m2 - 1, by omega, _, _, _, [(6, 9)], ?wk3, 1, by omega, rfl, .inr ⟨x, by omega, rfl, fun h => by omega, fun h => by omega, rfl, rfl⟩⟩
            case wk3 => exact ⟨by repeat (first | exact trivial | refine ⟨by first | rfl | exact congrArg (fun z => some (DV.int z)) (dwrap (by omega) (by omega)), rfl, ?_⟩), by repeat (first | exact trivial | refine ⟨by first | rfl | exact congrArg (fun z => some (Bk.data z)) (by assumption), rfl, rfl, ?_⟩), rfl, rfl⟩
          | cons x0 r0 =>
            subst hc
            repeat (first | refine dw_p rfl ?_ | refine dw_l rfl ?_ | refine dw_if0 rfl rfl (by omega) (by decide) (by assumption) ?_ | refine dw_nil ?_ | refine ds_seq ?_ | refine ds_ops mix (fun base => ?_) | refine ds_skip ?_ | refine ds_block ?_)
            refine dw_cxv0 rfl is28 rfl rfl rfl (x_leafS (lfs := x0 :: r0) hq (hl _ _ _ hq hr) (by omega) (fun k hk => by
              rw [lk_cons, if_neg (by omega), lk_cons, if_neg (by omega), lk_cons, if_neg (by omega), lk_cons, if_neg (by omega), lk_cons, if_neg (by omega)]
              rfl) _ _ _ _ _) ?_
            rintro _ _ _ ⟨rfl, rfl, rfl⟩
            repeat (first | refine dw_p rfl ?_ | refine dw_nil ?_ | refine ds_seq ?_ | refine ds_ops mix (fun base => ?_))
            refine ds_if rfl (fun ht => by simp at ht) (fun _ => ?_)
            repeat (first | refine dw_p rfl ?_ | refine dw_nil ?_ | refine ds_ops mix (fun base => ?_) | refine ds_skip ?_)
            refine ⟨m2 - 1, by omega, _, _, _, [(6, 9)], ?wk4, 1, by omega, rfl, .inr ⟨x, by omega, rfl, fun h => by omega, fun h => by omega, rfl, rfl⟩⟩
            case wk4 => exact ⟨by repeat (first | exact trivial | refine ⟨by first | rfl | exact congrArg (fun z => some (DV.int z)) (dwrap (by omega) (by omega)), rfl, ?_⟩), by repeat (first | exact trivial | refine ⟨by first | rfl | exact congrArg (fun z => some (Bk.data z)) (by assumption), rfl, rfl, ?_⟩), rfl, rfl⟩
      · have hj12 : j = 1 ∨ j = 2 := by
          have : (j : Int) < 3 := by simpa using ht
          omega
        rcases hj12 with rfl | rfl
        · -- the size
          by_cases hw : q.w ≠ q0.w ∨ q.h ≠ q0.h
          · have fin : (scan q0 0 none (l.zip rs)) = (k, 340) := by rw [hsc, scan_some hz, if_pos hw]
            repeat (first | refine dw_p rfl ?_ | refine dw_l rfl ?_ | refine dw_if rfl rfl (by omega) (by decide) (by assumption) ?_ | refine dw_nil ?_ | refine ds_seq ?_ | refine ds_ops mix (fun base => ?_) | refine ds_skip ?_ | refine ds_block ?_)
            refine dw_cxv0 rfl is29 rfl rfl rfl (x_size hq hq0 _ _ _ _ _) ?_
            rintro _ _ _ ⟨rfl, rfl, rfl⟩
            rw [if_pos hw]
            repeat (first | refine dw_p rfl ?_ | refine dw_nil ?_ | refine ds_seq ?_ | refine ds_ops mix (fun base => ?_))
            refine ds_if rfl (fun _ => ?_) (fun ht => by simp at ht)
            repeat (first | refine dw_p rfl ?_ | refine ds_seq ?_ | refine ds_ops mix (fun base => ?_))
            refine yl_fail rfl rfl hsg hbd rfl rfl rfl rfl rfl rfl rfl ?_
            repeat (first | refine dw_nil ?_)
            exact ds_ret ⟨_, rfl, rfl, _, SubA.refl _, .inr ⟨by rw [fin]; show (340 : Int) ≠ 0; omega, by rw [fin]⟩⟩
          · repeat (first | refine dw_p rfl ?_ | refine dw_l rfl ?_ | refine dw_if rfl rfl (by omega) (by decide) (by assumption) ?_ | refine dw_nil ?_ | refine ds_seq ?_ | refine ds_ops mix (fun base => ?_) | refine ds_skip ?_ | refine ds_block ?_)
            refine dw_cxv0 rfl is29 rfl rfl rfl (x_size hq hq0 _ _ _ _ _) ?_
            rintro _ _ _ ⟨rfl, rfl, rfl⟩
            rw [if_neg hw]
            repeat (first | refine dw_p rfl ?_ | refine dw_nil ?_ | refine ds_seq ?_ | refine ds_ops mix (fun base => ?_))
            refine ds_if rfl (fun ht => by simp at ht) (fun _ => ?_)
            repeat (first | refine dw_p rfl ?_ | refine dw_nil ?_ | refine ds_ops mix (fun base => ?_) | refine ds_skip ?_)
            refine ⟨m2 - 1, by omega, _, _, _, [], ?wk5, 2, by omega, rfl, .inr ⟨x, by omega, rfl, fun _ => hw, fun h => by omega, rfl, rfl⟩⟩
            case wk5 => exact ⟨by repeat (first | exact trivial | refine ⟨by first | rfl | exact congrArg (fun z => some (DV.int z)) (dwrap (by omega) (by omega)), rfl, ?_⟩), by repeat (first | exact trivial | refine ⟨by first | rfl | exact congrArg (fun z => some (Bk.data z)) (by assumption), rfl, rfl, ?_⟩), rfl, rfl⟩
        · -- the label
          cases hc : lfs with
          | nil =>
            subst hc
            obtain rfl : k = 0 := hlk.symm
            by_cases hw : x.lb = (1, 0)
            · repeat (first | refine dw_p rfl ?_ | refine dw_l rfl ?_ | refine dw_if rfl rfl (by omega) (by decide) (by assumption) ?_ | refine dw_nil ?_ | refine ds_seq ?_ | refine ds_ops mix (fun base => ?_) | refine ds_skip ?_ | refine ds_block ?_)
              refine dw_cxv0 rfl is30 rfl rfl rfl (x_label0 (lfs := [x]) rfl rfl _ _ _ _ _) ?_
              rintro _ _ _ ⟨rfl, rfl, rfl⟩
              rw [if_pos hw]
              repeat (first | refine dw_p rfl ?_ | refine dw_nil ?_ | refine ds_seq ?_ | refine ds_ops mix (fun base => ?_))
              refine ds_if rfl (fun ht => by simp at ht) (fun _ => ?_)
              repeat (first | refine dw_p rfl ?_ | refine dw_nil ?_ | refine ds_ops mix (fun base => ?_) | refine ds_skip ?_)
              refine ⟨m2 - 1, by omega, _, _, _, [], ?wk7, 3, by omega, rfl, .inr ⟨x, by omega, rfl, fun _ => h2 (by omega), fun _ => ?ok, rfl, rfl⟩⟩
              case wk7 => exact ⟨by repeat (first | exact trivial | refine ⟨by first | rfl | exact congrArg (fun z => some (DV.int z)) (dwrap (by omega) (by omega)), rfl, ?_⟩), by repeat (first | exact trivial | refine ⟨by first | rfl | exact congrArg (fun z => some (Bk.data z)) (by assumption), rfl, rfl, ?_⟩), rfl, rfl⟩
              case ok => exact decide_eq_true hw
            · have fin : (scan q0 0 none (l.zip rs)) = (0, 340) := by rw [hsc, scan_some hz, if_neg (h2 (by omega)), if_neg (show ¬ okLb (Option.map (fun x => x.lb) ([] : List Lf).getLast?) x.lb = true from fun h => hw (of_decide_eq_true h))]
              repeat (first | refine dw_p rfl ?_ | refine dw_l rfl ?_ | refine dw_if rfl rfl (by omega) (by decide) (by assumption) ?_ | refine dw_nil ?_ | refine ds_seq ?_ | refine ds_ops mix (fun base => ?_) | refine ds_skip ?_ | refine ds_block ?_)
              refine dw_cxv0 rfl is30 rfl rfl rfl (x_label0 (lfs := [x]) rfl rfl _ _ _ _ _) ?_
              rintro _ _ _ ⟨rfl, rfl, rfl⟩
              rw [if_neg hw]
              repeat (first | refine dw_p rfl ?_ | refine dw_nil ?_ | refine ds_seq ?_ | refine ds_ops mix (fun base => ?_))
              refine ds_if rfl (fun _ => ?_) (fun ht => by simp at ht)
              repeat (first | refine dw_p rfl ?_ | refine ds_seq ?_ | refine ds_ops mix (fun base => ?_))
              refine yl_fail rfl rfl hsg hbd rfl rfl rfl rfl rfl rfl rfl ?_
              repeat (first | refine dw_nil ?_)
              exact ds_ret ⟨_, rfl, rfl, _, SubA.refl _, .inr ⟨by rw [fin]; show (340 : Int) ≠ 0; omega, by rw [fin]⟩⟩
          | cons x0 r0 =>
            subst hc
            obtain ⟨a, ha⟩ : ∃ a, (x0 :: r0)[r0.length]? = some a := ⟨_, List.getElem?_eq_getElem (by simp)⟩
            have hla : (x0 :: r0).getLast? = some a := by rw [List.getLast?_eq_getElem?]; simpa using ha
            have hk1 : k = r0.length + 1 := by rw [← hlk]; rfl
            have hsma : 0 ≤ a.lb.1 ∧ a.lb.1 < 100000 ∧ 0 ≤ a.lb.2 ∧ a.lb.2 < 100000 := hsm a (by
              have h1 : some a ∈ (x0 :: r0).map some := List.mem_map.2 ⟨a, List.mem_of_getElem? ha, rfl⟩
              rw [← htk] at h1
              exact List.mem_of_mem_take h1)
            have hx1 : (x0 :: r0 ++ [x])[r0.length]? = some a := by rw [List.getElem?_append_left (by simp)]; exact ha
            have hx2 : (x0 :: r0 ++ [x])[r0.length + 1]? = some x := by rw [List.getElem?_append_right (by simp)]; simp
            rw [hla]
            subst hk1
            by_cases hw : foll a.lb x.lb = true
            · repeat (first | refine dw_p rfl ?_ | refine dw_l rfl ?_ | refine dw_if rfl rfl (by omega) (by decide) (by assumption) ?_ | refine dw_nil ?_ | refine ds_seq ?_ | refine ds_ops mix (fun base => ?_) | refine ds_skip ?_ | refine ds_block ?_)
              refine dw_cxv0 rfl is30 rfl rfl rfl (x_labelS (lfs := x0 :: r0 ++ [x]) (i := r0.length) rfl hx1 hx2 (by simp) (by omega) hsma _ _ _ _ _) ?_
              rintro _ _ _ ⟨rfl, rfl, rfl⟩
              rw [if_pos hw]
              repeat (first | refine dw_p rfl ?_ | refine dw_nil ?_ | refine ds_seq ?_ | refine ds_ops mix (fun base => ?_))
              refine ds_if rfl (fun ht => by simp at ht) (fun _ => ?_)
              repeat (first | refine dw_p rfl ?_ | refine dw_nil ?_ | refine ds_ops mix (fun base => ?_) | refine ds_skip ?_)
              refine ⟨m2 - 1, by omega, _, _, _, [], ?wk7, 3, by omega, rfl, .inr ⟨x, by omega, rfl, fun _ => h2 (by omega), fun _ => ?ok, rfl, rfl⟩⟩
              case wk7 => exact ⟨by repeat (first | exact trivial | refine ⟨by first | rfl | exact congrArg (fun z => some (DV.int z)) (dwrap (by omega) (by omega)), rfl, ?_⟩), by repeat (first | exact trivial | refine ⟨by first | rfl | exact congrArg (fun z => some (Bk.data z)) (by assumption), rfl, rfl, ?_⟩), rfl, rfl⟩
              case ok => exact hw
            · have fin : (scan q0 0 none (l.zip rs)) = (r0.length + 1, 340) := by rw [hsc, scan_some hz, if_neg (h2 (by omega)), if_neg (by rw [hla]; exact hw)]
              repeat (first | refine dw_p rfl ?_ | refine dw_l rfl ?_ | refine dw_if rfl rfl (by omega) (by decide) (by assumption) ?_ | refine dw_nil ?_ | refine ds_seq ?_ | refine ds_ops mix (fun base => ?_) | refine ds_skip ?_ | refine ds_block ?_)
              refine dw_cxv0 rfl is30 rfl rfl rfl (x_labelS (lfs := x0 :: r0 ++ [x]) (i := r0.length) rfl hx1 hx2 (by simp) (by omega) hsma _ _ _ _ _) ?_
              rintro _ _ _ ⟨rfl, rfl, rfl⟩
              rw [if_neg hw]
              repeat (first | refine dw_p rfl ?_ | refine dw_nil ?_ | refine ds_seq ?_ | refine ds_ops mix (fun base => ?_))
              refine ds_if rfl (fun _ => ?_) (fun ht => by simp at ht)
              repeat (first | refine dw_p rfl ?_ | refine ds_seq ?_ | refine ds_ops mix (fun base => ?_))
              refine yl_fail rfl rfl hsg hbd rfl rfl rfl rfl rfl rfl rfl ?_
              repeat (first | refine dw_nil ?_)
              exact ds_ret ⟨_, rfl, rfl, _, SubA.refl _, .inr ⟨by rw [fin]; show (340 : Int) ≠ 0; omega, by rw [fin]⟩⟩
    · -- the next plate
      have hj3 : j = 3 := by
        have : ¬ (j : Int) < 3 := by simpa using ht
        omega
      subst hj3
      rcases hst with ⟨h, _⟩ | ⟨x, _, rfl, h2, h3, rfl, rfl⟩
      · omega
      repeat (first | refine dw_p rfl ?_ | refine dw_nil ?_ | refine ds_ops mix (fun base => ?_) | refine ds_exit ?_)
      refine ⟨m - 1, by omega, _, _, 7, [], ?wk6, k + 1, lfs ++ [x], by omega, by simp [hlk], ?_, ?_, rfl, (bx_ne (by simp)).1.symm, (bn_ne (by simp)).symm⟩
      case wk6 => exact ⟨by repeat (first | exact trivial | refine ⟨by first | rfl | exact congrArg (fun z => some (DV.int z)) (dwrap (by omega) (by omega)), rfl, ?_⟩), by repeat (first | exact trivial | refine ⟨by first | rfl | exact congrArg (fun z => some (Bk.data z)) (by assumption), rfl, rfl, ?_⟩), rfl, rfl⟩
      · rw [List.take_add_one, hr, htk]
        simp
      · rw [hsc, scan_some hz, if_neg (h2 (by omega)), if_pos (h3 (by omega))]
        simp
  · have hkl : ¬ k < l.length := by simpa using ht
    repeat (first | refine ds_exit ?_)
    refine ⟨_, rfl, rfl, _, SubA.refl _, .inl ⟨lfs, ?_, rfl, rfl⟩⟩
    rw [hsc, scan_end (by rw [List.length_zip]; omega)]
    rw [show k = l.length by omega]
end Go.Ac

/- Law 34: a volume. -/
namespace Go.Ac
open Go.Ab Go.Proofs
set_option linter.unusedSimpArgs false
abbrev DKO (f : FuncId) (ds : List DV) (R : DV → Bx → Nat → Prop) : Prop := DCallsO Tryd.prog 6 GH f ds R

theorem DX.sub {p : Par} {f : FuncId} {ds : List DV} {S S0 : Bx} {nk : Nat} {R : DV → Bx → Nat → Prop} (h : DX p f ds S0 nk R) (hs : SubA S0 S) : DX p f ds S nk R := fun Z β H args hS ha => h Z β H args (hS.keepS hs) ha

theorem o_volume {l : List Pq} {rs : List (Option Lf)} {q0 : Pq} (hlen : rs.length = l.length) (hl : ∀ (i : Nat) q r, l[i]? = some q → rs[i]? = some r → LeafOk q r) (hsm : ∀ x, some x ∈ rs → 0 ≤ x.lb.1 ∧ x.lb.1 < 100000 ∧ 0 ≤ x.lb.2 ∧ x.lb.2 < 100000)
    (hq0 : l[0]? = some q0) (hn : l.length < 1000000) : DKO 13 [.one (pqsC l)] fun d S nk => ∃ lv, d = .tup [lv, .int (scan q0 0 none (l.zip rs)).1, .int (scan q0 0 none (l.zip rs)).2] := by
  refine dfnO_ok cp13 rfl GHro fun Z0 lo => ?_
  have h0 : 0 < l.length := (List.getElem?_eq_some_iff.1 hq0).1
  repeat (first | refine dw_p rfl ?_ | refine dw_a rfl ?_ | refine dw_nil ?_ | refine ds_seq ?_ | refine ds_ops mix (fun base => ?_))
  refine ds_if rfl (fun ht => ?_) (fun _ => ?_)
  · have : (l.length : Int) = 0 := by simpa using ht
    omega
  repeat (first | refine dw_p rfl ?_ | refine dw_a rfl ?_ | refine dw_st rfl rfl rfl rfl rfl (Nat.le_of_ble_eq_true rfl) rfl ?_ | refine dw_nil ?_ | refine ds_seq ?_ | refine ds_ops mix (fun base => ?_) | refine ds_skip ?_)
  refine dw_cx rfl rfl rfl (x_fails rfl _ _ _ _ _) ?_
  rintro _ _ _ ⟨rfl, rfl, rfl⟩
  repeat (first | refine dw_nil ?_ | refine ds_block ?_)
  refine ds_keep (SubA.cons (k := 0) rfl (SubA.cons (k := 2) rfl (SubA.cons (k := 3) rfl (SubA.cons (k := 4) rfl (SubA.cons (k := 5) rfl (SubA.cons (k := 13) rfl (SubA.nil _))))))) (SubA.cons (k := 3) rfl (SubA.cons (k := 4) rfl (SubA.cons (k := 0) rfl (SubA.cons (k := 1) rfl (SubA.cons (k := 2) rfl (SubA.nil _)))))) ?_
  refine ds_rf rfl [2, 3, 4] rfl rfl rfl rfl (fun fid sg bd hsg hbd => ?_)
  refine DX.sub (S0 := bx (.mp (.lp .ready none fid f13.n [2, 3, 4] [14, 15] sg bd) [.ptr 0 0, .ptr 1 0, .ptr 2 0]) l (.cells [.f (.c .nils)]) (.cells [.f (.c (.int .i64 0))]) (.cells [.f (.c (.int .i64 0))]) []) ((x_iter hlen hl hsm hq0 hn hsg hbd Z0 lo 0 (fun _ => none) ⟨.lf, 0⟩).mono ?_) (SubA.cons rfl (SubA.cons rfl (SubA.cons rfl (SubA.cons rfl (SubA.cons rfl (SubA.cons rfl (SubA.nil _)))))))
  rintro _ S' nk' (⟨lfs, hsc, rfl, rfl⟩ | ⟨hne, rfl⟩)
  · cases lfs with
    | nil =>
      refine ⟨_, _, _, _, _, _, _, _, _, rfl, by simp, ?_⟩
      repeat (first | refine dw_p rfl ?_ | refine dw_l rfl ?_ | refine dw_st rfl rfl rfl rfl rfl (Nat.le_of_ble_eq_true rfl) rfl ?_ | refine dw_nil ?_ | refine ds_seq ?_ | refine ds_ops mix (fun base => ?_))
      refine ds_ret ⟨_, rfl, rfl, _, SubA.refl _, .one (.f (.c .nils)), ?_⟩
      rw [hsc]
    | cons x0 r0 =>
      refine ⟨_, _, _, _, _, _, _, _, _, rfl, by simp, ?_⟩
      repeat (first | refine dw_p rfl ?_ | refine dw_l rfl ?_ | refine dw_st rfl rfl rfl rfl rfl (Nat.le_of_ble_eq_true rfl) rfl ?_ | refine dw_nil ?_ | refine ds_seq ?_ | refine ds_ops mix (fun base => ?_))
      refine ds_ret ⟨_, rfl, rfl, _, SubA.refl _, .one (.own 6 0 (x0 :: r0).length 4), ?_⟩
      rw [hsc]
  · refine ⟨_, _, _, _, _, _, _, _, _, rfl, by simp, ?_⟩
    refine ⟨_, rfl, rfl, _, SubA.refl _, _, rfl⟩
end Go.Ac

/- Law 34: plates without dots. -/
namespace Go.Ac
open Go.Ab Go.Proofs
set_option linter.unusedSimpArgs false

theorem o_empty {n m : Nat} (hn2 : n ≤ 200) (hm2 : m ≤ 200) : DKO 10 [.int n, .int m] fun d S nk => d = .agg [.f (.c (.int .i64 n)), .f (.c (.int .i64 m)), .own 2 0 m 1, .own 3 0 m 1] ∧ S = [(2, .tree (rowsF (blankD n m))), (3, .tree (rowsF (blankD n m)))] ∧ nk = 4 := by
  refine dfnO_ok cp10 rfl GHro fun Z0 lo => ?_
  repeat (first | refine dw_p rfl ?_ | refine dw_a rfl ?_ | refine dw_st rfl rfl rfl rfl rfl (Nat.le_of_ble_eq_true rfl) rfl ?_ | refine dw_nil ?_ | refine ds_seq ?_ | refine ds_ops mix (fun base => ?_) | refine ds_block ?_)
  refine ds_virtT 1 2 rfl rfl ?_
  refine ds_virtT 1 3 rfl rfl ?_
  refine ds_keep (SubA.cons (k := 0) rfl (SubA.cons (k := 1) rfl (SubA.cons (k := 4) rfl (SubA.cons (k := 5) rfl (SubA.cons (k := 6) rfl (SubA.nil _)))))) (SubA.cons (k := 0) rfl (SubA.cons (k := 1) rfl (SubA.cons (k := 2) rfl (SubA.cons (k := 3) rfl (SubA.nil _))))) ?_
  refine ds_loop (fun k E S nk => ∃ y : Nat, y + k = m ∧ E = [(0, .int n), (1, .int m), (4, .one (.ptr 0 0)), (5, .one (.ptr 1 0)), (6, .int y)] ∧ S = [(0, .cells [.f (.c (.int .i64 0)), .f (.c (.int .i64 0)), .f (.c .nils), .f (.c .nils)]), (1, .cells [.f (.c (.int .i64 n)), .f (.c (.int .i64 m)), .own 2 0 y 1, .own 3 0 y 1]), (2, .tree (rowsF (blankD n y))), (3, .tree (rowsF (blankD n y)))] ∧ nk = 4) ⟨m, _, _, _, [], ?wk, 0, by omega, rfl, rfl, rfl⟩ ?_
  case wk => exact ⟨by repeat (first | exact trivial | refine ⟨by first | rfl | exact congrArg (fun z => some (DV.int z)) (dwrap (by omega) (by omega)), rfl, ?_⟩), by repeat (first | exact trivial | refine ⟨by first | rfl | exact congrArg (fun z => some (Bk.data z)) (by assumption), rfl, rfl, ?_⟩), rfl, rfl⟩
  rintro k E S nk ⟨y, hy, rfl, rfl, rfl⟩
  repeat (first | refine dw_p rfl ?_ | refine dw_nil ?_ | refine ds_seq ?_ | refine ds_ops mix (fun base => ?_))
  refine ds_if rfl (fun ht => ?_) (fun ht => ?_)
  · simp at ht
    have hblank : rowsF (blankD n y) ++ [reps' [.c (.bool false)] n] = rowsF (blankD n (y + 1)) := by rw [reps_false]; simp [rowsF, blankD, List.replicate_succ']
    repeat (first | refine dw_p rfl ?_ | refine dw_l rfl ?_ | refine ds_seq ?_ | refine ds_ops mix (fun base => ?_) | refine ds_skip ?_ | refine ds_block ?_)
    refine dw_mki [.c (.bool false)] rfl rfl rfl rfl ⟨rfl, rfl, trivial⟩ rfl (by decide) (Nat.le_refl _) (by omega) (by omega) ?_
    repeat (first | refine dw_ai rfl rfl rfl ?_)
    refine dw_appt rfl rfl rfl (by simp [rowsF, blankD]) rfl rfl (by rw [reps'_len]; simp) (by omega) (by omega) rfl ?_
    rw [hblank]
    repeat (first | refine dw_p rfl ?_ | refine dw_l rfl ?_ | refine dw_st rfl rfl rfl rfl rfl (Nat.le_of_ble_eq_true rfl) rfl ?_ | refine dw_nil ?_ | refine ds_ops mix (fun base => ?_))
    refine dw_mki [.c (.bool false)] rfl rfl rfl rfl ⟨rfl, rfl, trivial⟩ rfl (by decide) (Nat.le_refl _) (by omega) (by omega) ?_
    repeat (first | refine dw_ai rfl rfl rfl ?_)
    refine dw_appt rfl rfl rfl (by simp [rowsF, blankD]) rfl rfl (by rw [reps'_len]; simp) (by omega) (by omega) rfl ?_
    rw [hblank]
    repeat (first | refine dw_p rfl ?_ | refine dw_st rfl rfl rfl rfl rfl (Nat.le_of_ble_eq_true rfl) rfl ?_ | refine dw_nil ?_ | refine ds_ops mix (fun base => ?_))
    refine ⟨k - 1, by omega, _, _, _, [(2, 6), (3, 9)], ?wk1, y + 1, by omega, rfl, rfl, rfl⟩
    case wk1 => exact ⟨by repeat (first | exact trivial | refine ⟨by first | rfl | exact congrArg (fun z => some (DV.int z)) (dwrap (by omega) (by omega)), rfl, ?_⟩), by repeat (first | exact trivial | refine ⟨by first | rfl | exact congrArg (fun z => some (Bk.data z)) (by assumption), rfl, rfl, ?_⟩), rfl, rfl⟩
  · simp at ht
    obtain rfl : y = m := by omega
    repeat (first | refine dw_l rfl ?_ | refine dw_st rfl rfl rfl rfl rfl (Nat.le_of_ble_eq_true rfl) rfl ?_ | refine dw_nil ?_ | refine ds_seq ?_ | refine ds_ops mix (fun base => ?_) | refine ds_exit ?_)
    refine ds_ret ⟨_, rfl, rfl, _, SubA.cons (k := 2) rfl (SubA.cons (k := 3) rfl (SubA.nil _)), rfl, rfl, rfl⟩
end Go.Ac

/- Globals that are rows of closed cells. -/
namespace Go.Ab
def bkOk (G n b : Nat) : B → Bool
  | .row _ z .lf false => Nat.blt b n && Nat.ble G n && (refLt n .nilp && z.all (refLt n))
  | _ => false
theorem ghok_of {G : Nat} {GH : Hp} (hn : Nat.ble G GH.nx = true) (h : (GH.m.list.all fun e => bkOk G GH.nx e.1 e.2) = true) : GHok G GH := by
  have key : ∀ b bk, GH.get b = some bk → bkOk G GH.nx b bk = true := fun b bk hb => List.all_eq_true.1 h (b, bk) (T.mem_list GH.m b bk hb)
  refine ⟨Nat.le_of_ble_eq_true hn, fun b bk hb => ?_, fun b bk hb => ?_, fun b bk i c hb hc => ?_⟩
  · have := key b bk hb
    unfold bkOk at this
    split at this
    · simp only [Bool.and_eq_true] at this
      exact Nat.le_of_ble_eq_true this.1.1
    · cases this
  · have := key b bk hb
    unfold bkOk at this
    split at this
    · rfl
    · cases this
  · have := key b bk hb
    unfold bkOk at this
    split at this
    · simp only [Bool.and_eq_true] at this
      simp only [B.cell] at hc
      split at hc
      · obtain rfl := Option.some.inj hc
        simp only [T.get, Option.getD_none]
        rw [List.getD_eq_getElem?_getD]
        rename_i zz _
        generalize hz : zz[i % zz.length]? = w
        cases w with
        | none => exact this.2.1
        | some x => exact List.all_eq_true.1 this.2.2 _ (List.mem_of_getElem? hz)
      · cases hc
    · cases this
end Go.Ab

/- Law 34: headers: what is evaluated. -/
namespace Go.Ac
open Go.Ab Go.Proofs
set_option linter.unusedSimpArgs false
set_option maxRecDepth 1000000

def dg (d : Nat) : Int := ([26, 1, 3, 9, 25, 17, 11, 27, 19, 10] : List Int).getD d 0
def pageRow (n k : Nat) : List Int := 60 :: ((if 2 * n - 1 < 10 then [dg (2 * n - 1)] else [dg ((2 * n - 1) / 10), dg ((2 * n - 1) % 10)]) ++ (if k = 0 then [] else [48, dg k]))
def hdrRow (n k : Nat) : List Int := List.replicate (24 - (pageRow n k).length) 0 ++ pageRow n k
def hdrA (n k : Nat) : DV := .agg [.f (.c (.int .i64 24)), .f (.c (.int .i64 n)), .f (.c (.int .i64 k)), .f (.c (.bool false)), .f (.c (.int .i64 0)), .f (.c (.int .i64 0))]
/-- the header is written, read, and fits -/
def HdrE (n k : Nat) : Prop := evD tab.get 5000 11 [hdrA n k] GH = some (.tup [.one (.f (rowF ((hdrRow n k).map cF))), .int 0]) ∧ evD tab.get 5000 41 [.one (.f (rowF ((hdrRow n k).map cF)))] GH = some (.tup [hdrA n k, .int 0]) ∧
  evD tab.get 5000 16 [.one (.f (.sl 1 1 [rowF ((hdrRow n k).map cF)])), .int 24, .int 4] GH = some (.bool true)
theorem GHok' : GHok 6 GH := ghok_of rfl (by decide +kernel)
end Go.Ac

/- Law 34: headers, evaluated. -/
namespace Go.Ac
open Go.Ab Go.Proofs
set_option maxRecDepth 1000000
theorem hk1_0 : HdrE 1 0 := ⟨by kernel_rfl, by kernel_rfl, by kernel_rfl⟩
theorem hk2_0 : HdrE 2 0 := ⟨by kernel_rfl, by kernel_rfl, by kernel_rfl⟩
theorem hk3_0 : HdrE 3 0 := ⟨by kernel_rfl, by kernel_rfl, by kernel_rfl⟩
theorem hk4_0 : HdrE 4 0 := ⟨by kernel_rfl, by kernel_rfl, by kernel_rfl⟩
theorem hk5_0 : HdrE 5 0 := ⟨by kernel_rfl, by kernel_rfl, by kernel_rfl⟩
theorem hk6_0 : HdrE 6 0 := ⟨by kernel_rfl, by kernel_rfl, by kernel_rfl⟩
theorem hk7_0 : HdrE 7 0 := ⟨by kernel_rfl, by kernel_rfl, by kernel_rfl⟩
theorem hk8_0 : HdrE 8 0 := ⟨by kernel_rfl, by kernel_rfl, by kernel_rfl⟩
theorem hk9_0 : HdrE 9 0 := ⟨by kernel_rfl, by kernel_rfl, by kernel_rfl⟩
theorem hk10_0 : HdrE 10 0 := ⟨by kernel_rfl, by kernel_rfl, by kernel_rfl⟩
theorem hk11_0 : HdrE 11 0 := ⟨by kernel_rfl, by kernel_rfl, by kernel_rfl⟩
theorem hk12_0 : HdrE 12 0 := ⟨by kernel_rfl, by kernel_rfl, by kernel_rfl⟩
end Go.Ac

/- Law 34: headers, evaluated. -/
namespace Go.Ac
open Go.Ab Go.Proofs
set_option maxRecDepth 1000000
theorem hk1_1 : HdrE 1 1 := ⟨by kernel_rfl, by kernel_rfl, by kernel_rfl⟩
theorem hk2_1 : HdrE 2 1 := ⟨by kernel_rfl, by kernel_rfl, by kernel_rfl⟩
theorem hk3_1 : HdrE 3 1 := ⟨by kernel_rfl, by kernel_rfl, by kernel_rfl⟩
theorem hk4_1 : HdrE 4 1 := ⟨by kernel_rfl, by kernel_rfl, by kernel_rfl⟩
theorem hk5_1 : HdrE 5 1 := ⟨by kernel_rfl, by kernel_rfl, by kernel_rfl⟩
theorem hk6_1 : HdrE 6 1 := ⟨by kernel_rfl, by kernel_rfl, by kernel_rfl⟩
theorem hk7_1 : HdrE 7 1 := ⟨by kernel_rfl, by kernel_rfl, by kernel_rfl⟩
theorem hk8_1 : HdrE 8 1 := ⟨by kernel_rfl, by kernel_rfl, by kernel_rfl⟩
theorem hk9_1 : HdrE 9 1 := ⟨by kernel_rfl, by kernel_rfl, by kernel_rfl⟩
theorem hk10_1 : HdrE 10 1 := ⟨by kernel_rfl, by kernel_rfl, by kernel_rfl⟩
theorem hk11_1 : HdrE 11 1 := ⟨by kernel_rfl, by kernel_rfl, by kernel_rfl⟩
theorem hk12_1 : HdrE 12 1 := ⟨by kernel_rfl, by kernel_rfl, by kernel_rfl⟩
end Go.Ac

/- Law 34: headers, evaluated. -/
namespace Go.Ac
open Go.Ab Go.Proofs
set_option maxRecDepth 1000000
theorem hk1_2 : HdrE 1 2 := ⟨by kernel_rfl, by kernel_rfl, by kernel_rfl⟩
theorem hk2_2 : HdrE 2 2 := ⟨by kernel_rfl, by kernel_rfl, by kernel_rfl⟩
theorem hk3_2 : HdrE 3 2 := ⟨by kernel_rfl, by kernel_rfl, by kernel_rfl⟩
theorem hk4_2 : HdrE 4 2 := ⟨by kernel_rfl, by kernel_rfl, by kernel_rfl⟩
theorem hk5_2 : HdrE 5 2 := ⟨by kernel_rfl, by kernel_rfl, by kernel_rfl⟩
theorem hk6_2 : HdrE 6 2 := ⟨by kernel_rfl, by kernel_rfl, by kernel_rfl⟩
theorem hk7_2 : HdrE 7 2 := ⟨by kernel_rfl, by kernel_rfl, by kernel_rfl⟩
theorem hk8_2 : HdrE 8 2 := ⟨by kernel_rfl, by kernel_rfl, by kernel_rfl⟩
theorem hk9_2 : HdrE 9 2 := ⟨by kernel_rfl, by kernel_rfl, by kernel_rfl⟩
theorem hk10_2 : HdrE 10 2 := ⟨by kernel_rfl, by kernel_rfl, by kernel_rfl⟩
theorem hk11_2 : HdrE 11 2 := ⟨by kernel_rfl, by kernel_rfl, by kernel_rfl⟩
theorem hk12_2 : HdrE 12 2 := ⟨by kernel_rfl, by kernel_rfl, by kernel_rfl⟩
end Go.Ac

/- Law 34: headers, evaluated. -/
namespace Go.Ac
open Go.Ab Go.Proofs
theorem hdrE : ∀ {n k : Nat}, 1 ≤ n → n ≤ 12 → k ≤ 2 → HdrE n k := by
  intro n k h1 h2 h3
  have hn : n = 1 ∨ n = 2 ∨ n = 3 ∨ n = 4 ∨ n = 5 ∨ n = 6 ∨ n = 7 ∨ n = 8 ∨ n = 9 ∨ n = 10 ∨ n = 11 ∨ n = 12 := by omega
  have hk : k = 0 ∨ k = 1 ∨ k = 2 := by omega
  rcases hk with rfl | rfl | rfl
  · rcases hn with rfl | rfl | rfl | rfl | rfl | rfl | rfl | rfl | rfl | rfl | rfl | rfl
    · exact hk1_0
    · exact hk2_0
    · exact hk3_0
    · exact hk4_0
    · exact hk5_0
    · exact hk6_0
    · exact hk7_0
    · exact hk8_0
    · exact hk9_0
    · exact hk10_0
    · exact hk11_0
    · exact hk12_0
  · rcases hn with rfl | rfl | rfl | rfl | rfl | rfl | rfl | rfl | rfl | rfl | rfl | rfl
    · exact hk1_1
    · exact hk2_1
    · exact hk3_1
    · exact hk4_1
    · exact hk5_1
    · exact hk6_1
    · exact hk7_1
    · exact hk8_1
    · exact hk9_1
    · exact hk10_1
    · exact hk11_1
    · exact hk12_1
  · rcases hn with rfl | rfl | rfl | rfl | rfl | rfl | rfl | rfl | rfl | rfl | rfl | rfl
    · exact hk1_2
    · exact hk2_2
    · exact hk3_2
    · exact hk4_2
    · exact hk5_2
    · exact hk6_2
    · exact hk7_2
    · exact hk8_2
    · exact hk9_2
    · exact hk10_2
    · exact hk11_2
    · exact hk12_2
theorem HdrE.ok {n k : Nat} (h : HdrE n k) : DK 11 [hdrA n k] (fun d => d = .tup [.one (.f (rowF ((hdrRow n k).map cF))), .int 0]) ∧ DK 41 [.one (.f (rowF ((hdrRow n k).map cF)))] (fun d => d = .tup [hdrA n k, .int 0]) ∧
    DK 16 [.one (.f (.sl 1 1 [rowF ((hdrRow n k).map cF)])), .int 24, .int 4] (fun d => d = .bool true) := ⟨evD_ok mix tabOk GHok' h.1, evD_ok mix tabOk GHok' h.2.1, evD_ok mix tabOk GHok' h.2.2⟩
end Go.Ac

/- Rules: a row of a tree is written while its place among the rows is watched. -/
namespace Go.Ab
/-- no watched row of the tree k -/
def wOkT (S : Bx) (k : Nat) : Wt → Bool
  | [] => true
  | (_, none) :: r => wOkT S k r
  | (_, some ((j, t), _, _)) :: r => match lk S j with
    | none => false
    | some _ => match Nat.beq j k with
      | true => match t with
        | 0 => wOkT S k r
        | _ + 1 => false
      | false => wOkT S k r
theorem wOkT_mem {S : Bx} {k : Nat} : ∀ {W : Wt}, wOkT S k W = true → ∀ y ∈ W, ∀ (j : Key) o n, y.2 = some (j, o, n) → (∃ x, lk S j.1 = some x) ∧ (j.1 ≠ k ∨ j.2 = 0)
  | [], _, y, hy => by cases hy
  | (i, none) :: r, h, y, hy => by
    rcases List.mem_cons.1 hy with rfl | hy
    · intro j o n e; cases e
    · exact wOkT_mem (W := r) h y hy
  | (i, some ((j', j2), o', n')) :: r, h, y, hy => by
    simp only [wOkT] at h
    split at h
    · cases h
    · rename_i x hx
      split at h
      · rename_i e
        split at h
        · rcases List.mem_cons.1 hy with rfl | hy
          · intro j o n e'
            obtain ⟨rfl, _⟩ := Prod.mk.inj (Option.some.inj e')
            exact ⟨⟨x, hx⟩, .inr rfl⟩
          · exact wOkT_mem (W := r) h y hy
        · cases h
      · rename_i e
        rcases List.mem_cons.1 hy with rfl | hy
        · intro j o n e'
          obtain ⟨rfl, _⟩ := Prod.mk.inj (Option.some.inj e')
          exact ⟨⟨x, hx⟩, .inl fun h => by simp only at h; subst h; simp at e⟩
        · exact wOkT_mem (W := r) h y hy
section
variable {p : Par} {base rs : Nat} {Q : DEnv → Bx → Nat → Prop} {r : List SOper} {W : Wt} {A : List Nat} {E : DEnv} {S : Bx} {nk : Nat} {id : Nat} {dst : Option Nat} {aid : Option Nat} {ws : List Nat} {keep : Bool}
theorem CR.updT {Z : Nat → Prop} {β : Beta} {H H' : Hp} {b k i : Nat} {N : Nat} {c : Ctx} {x : Bk} (hS : SR p Z β H S nk) (hk : lk S k = some x) (hC : CR W Z β H c) (hZ : ZLe Z H Z H') (hg : ∀ b', b' ≠ b → H'.get b' = H.get b') (hb : β (k, i + 1) = some (.blk b N)) (hw : wOkT S k W = true) : CR W Z β H' c := hC.step hZ (BLe.refl _) fun y hy j o n e b' N' i' q hj _ _ hq => by
  obtain ⟨⟨z, hz⟩, hne⟩ := wOkT_mem hw y hy j o n e
  have : b' ≠ b := fun e' => by
    have h1 := hS.inj j (k, i + 1) z x b N' N hz hk (e' ▸ hj) hb
    subst h1
    rcases hne with h | h
    · exact h rfl
    · cases h
  unfold Hp.cell at hq ⊢
  rw [hg b' this]; exact hq
theorem dw_stw {a v : Opd} {k i o : Nat} {rows : List (List FD)} {q : List FD} {x : FD} (ha : ro E a = some (.one (.tptr k i o))) (hv : ro E v = some (.one (.f x))) (hk : lk S k = some (.tree rows)) (hi : rows[i]? = some q) (ho : o < q.length) (hw : wOkT S k W = true)
    (h : DPW p base rs Q r W A (setD E dst .undef) (put k (.tree (rows.set i (q.set o x))) S) nk) : DPW p base rs Q (⟨id, dst, .e (.store 1 a v), none, aid, ws, keep⟩ :: r) W A E S nk := .mk fun Z β H F c hS hE hC hA => by
  obtain ⟨ca, hca, b, N, hb, rfl⟩ := ro_ok hE ha
  obtain ⟨cv, hcv, hrv⟩ := ro_ok hE hv
  obtain ⟨s, hs, hbx⟩ := hS.box (k, i + 1) _ (lk2_row hk hi)
  rw [hb] at hs
  obtain rfl := Option.some.inj hs
  obtain ⟨hz, hlo, hlt, cs, rest, hrow, hN, hrel⟩ := hbx
  have hN : (cs ++ rest).length = _ := hN
  have hlen : q.length = cs.length := All2.len hrel
  obtain ⟨H', e1, e2, e3, e4⟩ := hrow.stores (cs := [cv]) (i := o) (by simp; omega)
  rw [setL_app [cv] cs rest o (by simp; omega)] at e2
  obtain ⟨hS', hZ⟩ := hS.updT (q' := q.set o x) (cs := setL cs o [cv]) (rest := rest) hk hi hb (by simp) (All2.set hrel o hrv) e3 e4 e2 (by rw [List.length_append, setL_len, ← List.length_append]; exact hN)
  simp only [wOps, wantedA, if_true, aEff, hca, hcv, cells1]
  rw [if_pos (by simp), e1]
  have hC' := hC.updT hS hk hZ e3 hb hw
  exact ⟨hC'.watch ws, h.run Z β H' _ c hS' ((hE.mono hZ (BLe.refl _)).set dst undef_ok) hC' (hA.upd e4 e3 hb)⟩
end
end Go.Ab

/- Law 34: a leaf that is pressed. -/
namespace Go.Ac
open Go.Ab Go.Proofs
set_option linter.unusedSimpArgs false

abbrev nilD : DV := .one (.f (.c .nils))
def fmtD : DV := .agg [.f (.c (.int .i64 24)), .f (.c (.int .i64 4)), .f (.c (.int .i64 9))]
def dotsF (d : DotsL) : FD := .sl 1 d.length ((rowsF d).map rowF)
theorem d_raisedF {l : Cells} {x y : Nat} (hx : x < 1000000) (hy : y < 1000000) : DK 17 [cellsV l, .int x, .int y] fun d => d = .bool (bitAt l x y) := by
  rw [bitAt_cell]
  exact raised_ok hx hy d_cell rfl
theorem d_raised0 {x y : Nat} (hx : x < 1000000) (hy : y < 1000000) : DK 17 [nilD, .int x, .int y] fun d => d = .bool false := by
  have h0 : ∀ k, k < 6 → bitC 0 k = false := by
    intro k hk
    have hk6 : k = 0 ∨ k = 1 ∨ k = 2 ∨ k = 3 ∨ k = 4 ∨ k = 5 := by omega
    rcases hk6 with rfl | rfl | rfl | rfl | rfl | rfl <;> decide +kernel
  have := raised_ok (pg := nilD) hx hy d_cell0 rfl
  rw [h0 _ (by omega)] at this
  exact this
theorem d_fits0 : DK 16 [nilD, .int 24, .int 4] fun d => d = .bool true := evD_ok mix tabOk GHok' (fuel := 300) (by kernel_rfl)
theorem blank_set {w h x y : Nat} : setDot (blankD w h) x y false = blankD w h := by
  unfold setDot
  split
  · rename_i r hr
    simp only [blankD, List.getElem?_replicate] at hr
    split at hr
    · obtain rfl := Option.some.inj hr
      have : (List.replicate w false).set x false = List.replicate w false := List.ext_getElem? fun j => by
        rw [List.getElem?_set]
        split
        · rename_i e
          subst e
          split
          · rename_i hj; rw [List.getElem?_replicate, if_pos (by simpa using hj)]
          · rename_i hj; rw [List.getElem?_replicate, if_neg (by simpa using hj)]
        · rfl
      rw [this]
      refine List.ext_getElem? fun j => ?_
      rw [List.getElem?_set]
      split
      · rename_i e
        subst e
        split
        · rename_i hj; rw [blankD, List.getElem?_replicate, if_pos (by simpa [blankD] using hj)]
        · rename_i hj; rw [blankD, List.getElem?_replicate, if_neg (by simpa [blankD] using hj)]
      · rfl
    · cases hr
  · rfl

set_option maxHeartbeats 4000000 in
theorem d_press {row : List Int} (hfit : DK 16 [cellsV [row], .int 24, .int 4] fun d => d = .bool true) : DK 12 [.agg [.f (.c (.int .i64 0)), .f (.c (.int .i64 0)), .f (.sl 1 1 [rowF (row.map cF)]), .f (.c .nils)], fmtD]
    fun d => d = .tup [.agg ((pqF ⟨48, 12, dotsF (fromC 48 12 [row]), dotsF (blankD 48 12)⟩).map .f), .int 0] := by
  refine dfn_ok cp12 rfl GHro fun Z0 lo => ?_
  repeat (first | refine dw_want rfl rfl ?_ | refine dw_pickF rfl rfl ?_ | refine dw_p rfl ?_ | refine dw_l rfl ?_ | refine dw_a rfl ?_ | refine dw_nil ?_ | refine ds_seq ?_ | refine ds_ops mix (fun base => ?_))
  refine ds_if (t := false) rfl (fun ht => by cases ht) (fun _ => ?_)
  repeat (first | refine dw_p rfl ?_ | refine dw_l rfl ?_ | refine ds_seq ?_ | refine ds_ops mix (fun base => ?_) | refine ds_skip ?_)
  refine dw_cf rfl rfl hfit ?_
  rintro _ rfl
  repeat (first | refine dw_p rfl ?_ | refine dw_l rfl ?_ | refine dw_nil ?_ | refine ds_seq ?_ | refine ds_ops mix (fun base => ?_))
  refine dw_cf rfl rfl d_fits0 ?_
  rintro _ rfl
  repeat (first | refine dw_want rfl rfl ?_ | refine dw_pickF rfl rfl ?_ | refine dw_p rfl ?_ | refine dw_nil ?_ | refine ds_seq ?_ | refine ds_ops mix (fun base => ?_))
  refine ds_if (t := false) rfl (fun ht => by cases ht) (fun _ => ?_)
  repeat (first | refine dw_p rfl ?_ | refine dw_l rfl ?_ | refine ds_seq ?_ | refine ds_ops mix (fun base => ?_) | refine ds_skip ?_)
  refine dw_cfr rfl rfl (o_empty (n := 48) (m := 12) (by omega) (by omega)) ?_
  rintro _ _ _ ⟨rfl, rfl, rfl⟩
  repeat (first | refine dw_p rfl ?_ | refine dw_a rfl ?_ | refine dw_st rfl rfl rfl rfl rfl (Nat.le_of_ble_eq_true rfl) rfl ?_ | refine dw_nil ?_ | refine ds_seq ?_ | refine ds_ops mix (fun base => ?_) | refine ds_block ?_)
  refine ds_keep (SubA.cons (k := 2) rfl (SubA.cons (k := 4) rfl (SubA.cons (k := 5) rfl (SubA.cons (k := 8) rfl (SubA.cons (k := 9) rfl (SubA.nil _)))))) (SubA.cons (k := 0) rfl (SubA.cons (k := 2) rfl (SubA.cons (k := 5) rfl (SubA.cons (k := 6) rfl (SubA.cons (k := 7) rfl (SubA.nil _)))))) ?_
  refine ds_loop (fun k E S nk => ∃ y : Nat, y + k = 12 ∧ ∃ cur, Cp 48 12 (fromC 48 12 [row]) y 0 cur ∧ E = [(2, .one (.ptr 0 0)), (4, .one (.ptr 2 0)), (5, .int 0), (8, .one (.ptr 7 0)), (9, .int y)] ∧ S = [(0, .cells [.f (.c (.int .i64 0)), .f (.c (.int .i64 0)), .f (.sl 1 1 [rowF (row.map cF)]), .f (.c .nils)]), (2, .cells [.f (.c (.int .i64 0)), .f (.c (.int .i64 0)), .f (.c .nils), .f (.c .nils)]), (5, .tree (rowsF cur)), (6, .tree (rowsF (blankD 48 12))), (7, .cells [.f (.c (.int .i64 48)), .f (.c (.int .i64 12)), .own 5 0 12 1, .own 6 0 12 1])] ∧ nk = 8) ⟨12, _, _, _, [], ?wk, 0, by omega, _, Cp.start _ _ _, rfl, rfl, rfl⟩ ?_
  case wk => exact ⟨by repeat (first | exact trivial | refine ⟨by first | rfl | exact congrArg (fun z => some (DV.int z)) (dwrap (by omega) (by omega)), rfl, ?_⟩), by repeat (first | exact trivial | refine ⟨by first | rfl | exact congrArg (fun z => some (Bk.data z)) (by assumption), rfl, rfl, ?_⟩), rfl, rfl⟩
  rintro k E S nk ⟨y, hy, cur, hcur, rfl, rfl, rfl⟩
  repeat (first | refine dw_p rfl ?_ | refine dw_l rfl ?_ | refine dw_nil ?_ | refine ds_seq ?_ | refine ds_ops mix (fun base => ?_))
  refine ds_if rfl (fun ht => ?_) (fun ht => ?_)
  · have ht : y < 12 := by simp at ht; omega
    repeat (first | refine dw_p rfl ?_ | refine dw_nil ?_ | refine ds_seq ?_ | refine ds_ops mix (fun base => ?_) | refine ds_skip ?_ | refine ds_block ?_)
    refine ds_keep (SubA.cons (k := 2) rfl (SubA.cons (k := 4) rfl (SubA.cons (k := 5) rfl (SubA.cons (k := 8) rfl (SubA.cons (k := 9) rfl (SubA.cons (k := 10) rfl (SubA.nil _))))))) (SubA.refl _) ?_
    refine ds_loop (fun k2 E S nk => ∃ x : Nat, x + k2 = 48 ∧ ∃ cur, Cp 48 12 (fromC 48 12 [row]) y x cur ∧ E = [(2, .one (.ptr 0 0)), (4, .one (.ptr 2 0)), (5, .int 0), (8, .one (.ptr 7 0)), (9, .int y), (10, .int x)] ∧ S = [(0, .cells [.f (.c (.int .i64 0)), .f (.c (.int .i64 0)), .f (.sl 1 1 [rowF (row.map cF)]), .f (.c .nils)]), (2, .cells [.f (.c (.int .i64 0)), .f (.c (.int .i64 0)), .f (.c .nils), .f (.c .nils)]), (5, .tree (rowsF cur)), (6, .tree (rowsF (blankD 48 12))), (7, .cells [.f (.c (.int .i64 48)), .f (.c (.int .i64 12)), .own 5 0 12 1, .own 6 0 12 1])] ∧ nk = 8) ⟨48, _, _, _, [], ?wk2, 0, by omega, cur, hcur, rfl, rfl, rfl⟩ ?_
    case wk2 => exact ⟨by repeat (first | exact trivial | refine ⟨by first | rfl | exact congrArg (fun z => some (DV.int z)) (dwrap (by omega) (by omega)), rfl, ?_⟩), by repeat (first | exact trivial | refine ⟨by first | rfl | exact congrArg (fun z => some (Bk.data z)) (by assumption), rfl, rfl, ?_⟩), rfl, rfl⟩
    rintro k2 E S nk ⟨x, hx, cur, hcur, rfl, rfl, rfl⟩
    repeat (first | refine dw_p rfl ?_ | refine dw_l rfl ?_ | refine dw_nil ?_ | refine ds_seq ?_ | refine ds_ops mix (fun base => ?_))
    refine ds_if rfl (fun ht2 => ?_) (fun ht2 => ?_)
    · have ht2 : x < 48 := by simp at ht2; omega
      obtain ⟨q, hq, hql⟩ := hcur.1.row (y := y) ht
      have e1 := rowsF_at hq
      have l1 : (x : Int) < ((q.map boF).length : Nat) := by simp; omega
      have hset := rowsF_setDot hq x (bitAt [row] x y)
      obtain ⟨q2, hq2, hql2⟩ := (Sz.blankD 48 12).row (y := y) ht
      have e2 := rowsF_at hq2
      have l2 : ((48 - 1 - x : Nat) : Int) < ((q2.map boF).length : Nat) := by simp; omega
      have hset2 := rowsF_setDot hq2 (48 - 1 - x) false
      have w2 : IntKind.i64.wrap (IntKind.i64.wrap (48 - 1) - (x : Int)) = ((48 - 1 - x : Nat) : Int) := by rw [show IntKind.i64.wrap (48 - 1) = 47 from rfl, dwrap (by omega) (by omega)]; omega
      repeat (first | refine dw_p rfl ?_ | refine dw_l rfl ?_ | refine dw_lk rfl ?_ | refine dw_io1 rfl rfl (by omega) (by omega) ?_ | refine dw_lk (dload_tree rfl rfl (by assumption)) ?_ | refine ds_seq ?_ | refine ds_ops mix (fun base => ?_) | refine ds_skip ?_ | refine ds_block ?_)
      refine dw_cf rfl rfl (d_raisedF (l := [row]) (x := x) (y := y) (by omega) (by omega)) ?_
      rintro _ rfl
      repeat (first | refine dw_it0 rfl rfl (by omega) (by omega) ?_)
      refine dw_stw (i := y) (o := x) (x := .c (.bool (bitAt [row] x y))) rfl rfl rfl e1 (by simp; omega) rfl ?_
      rw [hset]
      repeat (first | refine dw_p rfl ?_ | refine dw_l rfl ?_ | refine dw_lk rfl ?_ | refine dw_io1 rfl rfl (by omega) (by omega) ?_ | refine dw_lk (dload_tree rfl rfl (by assumption)) ?_ | refine dw_nil ?_ | refine ds_ops mix (fun base => ?_))
      rw [w2]
      refine dw_cf rfl rfl (d_raised0 (x := x) (y := y) (by omega) (by omega)) ?_
      rintro _ rfl
      repeat (first | refine dw_it0 rfl rfl (by omega) (by omega) ?_)
      refine dw_stw (i := y) (o := 48 - 1 - x) (x := .c (.bool false)) rfl rfl rfl e2 (by simp; omega) rfl ?_
      rw [hset2, blank_set]
      repeat (first | refine dw_p rfl ?_ | refine dw_nil ?_ | refine ds_ops mix (fun base => ?_))
      refine ⟨k2 - 1, by omega, _, _, _, [], ?wk3, x + 1, by omega, _, hcur.step ht2 ht, rfl, rfl, rfl⟩
      case wk3 =>
        rw [fromC_dot [row] ht2 ht]
        exact ⟨by repeat (first | exact trivial | refine ⟨by first | rfl | exact congrArg (fun z => some (DV.int z)) (dwrap (by omega) (by omega)), rfl, ?_⟩), by repeat (first | exact trivial | refine ⟨by first | rfl | exact congrArg (fun z => some (Bk.data z)) (by assumption), rfl, rfl, ?_⟩), rfl, rfl⟩
    · have hx48 : x = 48 := by simp at ht2; omega
      subst hx48
      repeat (first | refine dw_p rfl ?_ | refine dw_nil ?_ | refine ds_ops mix (fun base => ?_) | refine ds_exit ?_)
      refine ⟨k - 1, by omega, _, _, _, [], ?wk4, y + 1, by omega, _, hcur.next, rfl, rfl, rfl⟩
      case wk4 => exact ⟨by repeat (first | exact trivial | refine ⟨by first | rfl | exact congrArg (fun z => some (DV.int z)) (dwrap (by omega) (by omega)), rfl, ?_⟩), by repeat (first | exact trivial | refine ⟨by first | rfl | exact congrArg (fun z => some (Bk.data z)) (by assumption), rfl, rfl, ?_⟩), rfl, rfl⟩
  · have hy12 : y = 12 := by simp at ht; omega
    subst hy12
    have hfin := hcur.fin (fromC_sz 48 12 [row])
    subst hfin
    repeat (first | refine dw_p rfl ?_ | refine dw_l rfl ?_ | refine dw_st rfl rfl rfl rfl rfl (Nat.le_of_ble_eq_true rfl) rfl ?_ | refine dw_nil ?_ | refine ds_seq ?_ | refine ds_ops mix (fun base => ?_) | refine ds_exit ?_)
    refine ds_keep (SubA.cons (k := 4) rfl (SubA.cons (k := 5) rfl (SubA.nil _))) (SubA.cons (k := 2) rfl (SubA.cons (k := 5) rfl (SubA.cons (k := 6) rfl (SubA.nil _)))) ?_
    refine ds_frzT 5 rfl (by repeat' (first | exact trivial | rfl | assumption | refine ⟨?_, ?_⟩)) (by repeat' (first | exact trivial | rfl | assumption | refine ⟨?_, ?_⟩)) ?_
    refine ds_frzT 6 rfl (by repeat' (first | exact trivial | rfl | assumption | refine ⟨?_, ?_⟩)) (by repeat' (first | exact trivial | rfl | assumption | refine ⟨?_, ?_⟩)) ?_
    skip
    exact ds_ret ⟨_, rfl, rfl, rfl⟩
end Go.Ac

/- Law 34: plates with given labels. -/
namespace Go.Ac
open Go.Ab Go.Proofs
set_option linter.unusedSimpArgs false

def okL (p : Lb) : Bool := decide (p.1 ≥ 1) && (decide (p.1 ≤ 9999) && (decide (p.2 ≥ 0) && decide (p.2 ≤ 2)))
theorem d_validL {p : Lb} : DK 19 [lbD p] fun d => d = .bool (okL p) := by
  refine dfn_ok cp19 rfl GHro fun Z0 lo => ?_
  obtain ⟨t1, h1⟩ : ∃ t, decide (p.1 ≥ 1) = t := ⟨_, rfl⟩
  obtain ⟨t2, h2⟩ : ∃ t, decide (p.1 ≤ 9999) = t := ⟨_, rfl⟩
  obtain ⟨t3, h3⟩ : ∃ t, decide (p.2 ≥ 0) = t := ⟨_, rfl⟩
  obtain ⟨t4, h4⟩ : ∃ t, decide (p.2 ≤ 2) = t := ⟨_, rfl⟩
  rw [okL, h1, h2, h3, h4]
  cases t1 with
  | false =>
    repeat (first | refine dw_skip rfl rfl ?_ | refine dw_pickF rfl rfl ?_ | refine dw_pB rfl (by assumption) ?_ | refine dw_p rfl ?_ | refine dw_l rfl ?_ | refine dw_a rfl ?_ | refine dw_nil ?_ | refine ds_seq ?_ | refine ds_ops mix (fun base => ?_))
    exact ds_ret ⟨_, rfl, rfl, rfl⟩
  | true => cases t2 with
    | false =>
      repeat (first | refine dw_want rfl rfl ?_ | refine dw_skip rfl rfl ?_ | refine dw_pickT rfl rfl ?_ | refine dw_pickF rfl rfl ?_ | refine dw_pB rfl (by assumption) ?_ | refine dw_p rfl ?_ | refine dw_l rfl ?_ | refine dw_a rfl ?_ | refine dw_nil ?_ | refine ds_seq ?_ | refine ds_ops mix (fun base => ?_))
      exact ds_ret ⟨_, rfl, rfl, rfl⟩
    | true => cases t3 with
      | false =>
        repeat (first | refine dw_want rfl rfl ?_ | refine dw_skip rfl rfl ?_ | refine dw_pickT rfl rfl ?_ | refine dw_pickF rfl rfl ?_ | refine dw_pB rfl (by assumption) ?_ | refine dw_p rfl ?_ | refine dw_l rfl ?_ | refine dw_a rfl ?_ | refine dw_nil ?_ | refine ds_seq ?_ | refine ds_ops mix (fun base => ?_))
        exact ds_ret ⟨_, rfl, rfl, rfl⟩
      | true =>
        cases t4 <;>
        · repeat (first | refine dw_want rfl rfl ?_ | refine dw_pickT rfl rfl ?_ | refine dw_pB rfl (by assumption) ?_ | refine dw_p rfl ?_ | refine dw_l rfl ?_ | refine dw_a rfl ?_ | refine dw_nil ?_ | refine ds_seq ?_ | refine ds_ops mix (fun base => ?_))
          exact ds_ret ⟨_, rfl, rfl, rfl⟩
theorem d_pageB {p : Lb} {b : Bool} (h : okL p = false) : DK 14 [lbD p, .bool b] fun d => d = .tup [nilD, .int 190] := by
  refine dfn_ok cp14 rfl GHro fun Z0 lo => ?_
  repeat (first | refine dw_p rfl ?_ | refine dw_l rfl ?_ | refine dw_a rfl ?_ | refine dw_nil ?_ | refine ds_seq ?_ | refine ds_ops mix (fun base => ?_))
  refine dw_cf rfl rfl (d_validL (p := p)) ?_
  rintro _ rfl
  rw [h]
  repeat (first | refine dw_p rfl ?_ | refine dw_nil ?_)
  refine ds_if (t := true) rfl (fun _ => ?_) (fun ht => by cases ht)
  repeat (first | refine dw_p rfl ?_ | refine dw_nil ?_ | refine ds_seq ?_ | refine ds_ops mix (fun base => ?_))
  exact ds_ret ⟨_, rfl, rfl, rfl⟩
def hdrI (p : Lb) : DV := .agg [.f (.c (.int .i64 24)), .f (.c (.int .i64 p.1)), .f (.c (.int .i64 p.2)), .f (.c (.bool false)), .f (.c (.int .i64 0)), .f (.c (.int .i64 0))]
theorem d_headB {p : Lb} (h : okL p = false) : DK 11 [hdrI p] fun d => d = .tup [nilD, .int 190] := by
  refine dfn_ok cp11 rfl GHro fun Z0 lo => ?_
  repeat (first | refine dw_want rfl rfl ?_ | refine dw_pickF rfl rfl ?_ | refine dw_p rfl ?_ | refine dw_l rfl ?_ | refine dw_a rfl ?_ | refine dw_nil ?_ | refine ds_seq ?_ | refine ds_ops mix (fun base => ?_))
  refine ds_if (t := false) rfl (fun ht => by cases ht) (fun _ => ?_)
  repeat (first | refine dw_p rfl ?_ | refine dw_l rfl ?_ | refine ds_seq ?_ | refine ds_ops mix (fun base => ?_) | refine ds_skip ?_)
  refine dw_cf rfl rfl (d_pageB (p := p) (b := false) h) ?_
  rintro _ rfl
  repeat (first | refine dw_want rfl rfl ?_ | refine dw_pickF rfl rfl ?_ | refine dw_p rfl ?_ | refine dw_l rfl ?_ | refine dw_a rfl ?_ | refine dw_nil ?_ | refine ds_seq ?_ | refine ds_ops mix (fun base => ?_))
  refine ds_if (t := false) rfl (fun ht => by cases ht) (fun _ => ?_)
  repeat (first | refine dw_skip rfl rfl ?_ | refine dw_pickT rfl rfl ?_ | refine dw_p rfl ?_ | refine dw_nil ?_ | refine ds_seq ?_ | refine ds_ops mix (fun base => ?_) | refine ds_skip ?_)
  refine ds_if (t := true) rfl (fun _ => ?_) (fun ht => by cases ht)
  repeat (first | refine dw_p rfl ?_ | refine dw_nil ?_ | refine ds_seq ?_ | refine ds_ops mix (fun base => ?_))
  exact ds_ret ⟨_, rfl, rfl, rfl⟩

/-- the dots of a label's plate -/
def labU (p : Lb) : DotsL := match okL p with
  | true => fromC 48 12 [hdrRow p.1.toNat p.2.toNat]
  | false => blankD 48 12
def labP (p : Lb) : Pq := ⟨48, 12, dotsF (labU p), dotsF (blankD 48 12)⟩
def lbsV (l : List Lb) : DV := .one (.f (.sl 2 l.length (l.flatMap lbF)))
theorem lbF_at {l : List Lb} {i : Nat} {x : Lb} (h : l[i]? = some x) : subL (l.flatMap lbF) (i * 2) 2 = some (lbF x) := subL_flat (e := 2) (fun _ => rfl) h
theorem okL_nat {p : Lb} (h : okL p = true) (h12 : p.1 ≤ 12) : ∃ n k : Nat, p = ((n : Int), (k : Int)) ∧ 1 ≤ n ∧ n ≤ 12 ∧ k ≤ 2 := by
  simp only [okL, Bool.and_eq_true, decide_eq_true_eq] at h
  obtain ⟨p1, p2⟩ := p
  simp only at h h12
  exact ⟨p1.toNat, p2.toNat, by rw [Int.toNat_of_nonneg (by omega), Int.toNat_of_nonneg (by omega)], by omega, by omega, by omega⟩

set_option maxHeartbeats 4000000 in
theorem d_labelled {l : List Lb} (hn : l.length < 1000000) (h12 : ∀ p ∈ l, p.1 ≤ 12) : DK 6 [lbsV l, fmtD] fun d => d = .one (pqsC (l.map labP)) := by
  refine dfn_ok cp6 rfl GHro fun Z0 lo => ?_
  repeat (first | refine dw_p rfl ?_ | refine dw_a rfl ?_ | refine dw_nil ?_ | refine ds_seq ?_ | refine ds_ops mix (fun base => ?_) | refine ds_block ?_)
  refine ds_loop (fun m E S nk => ∃ k : Nat, k + m = l.length ∧ E = [(0, lbsV l), (3, .one (.ptr 0 0)), (5, .one (.own 1 0 k 4)), (6, .int k)] ∧ S = [(0, .cells [.f (.c (.int .i64 24)), .f (.c (.int .i64 4)), .f (.c (.int .i64 9))]), (1, .data (((l.take k).map labP).flatMap pqF))] ∧ nk = 2) ⟨l.length, _, _, _, [], ?wk, 0, by omega, rfl, rfl, rfl⟩ ?_
  case wk => exact ⟨by repeat (first | exact trivial | refine ⟨by first | rfl | exact congrArg (fun z => some (DV.int z)) (dwrap (by omega) (by omega)), rfl, ?_⟩), by repeat (first | exact trivial | refine ⟨by first | rfl | exact congrArg (fun z => some (Bk.data z)) (by assumption), rfl, rfl, ?_⟩), rfl, rfl⟩
  rintro m E S nk ⟨k, hk, rfl, rfl, rfl⟩
  repeat (first | refine dw_p rfl ?_ | refine dw_nil ?_ | refine ds_seq ?_ | refine ds_ops mix (fun base => ?_))
  refine ds_if rfl (fun ht => ?_) (fun ht => ?_)
  · have hkl : k < l.length := by simp at ht; omega
    obtain ⟨p, hp⟩ : ∃ p, l[k]? = some p := ⟨_, List.getElem?_eq_getElem hkl⟩
    have e1 := lbF_at hp
    have hfl : (((l.take k).map labP).flatMap pqF).length = k * 4 := by rw [flat_length (f := pqF) (e := 4) (fun _ => rfl)]; simp; omega
    have hnext : ((l.take k).map labP).flatMap pqF ++ pqF (labP p) = ((l.take (k + 1)).map labP).flatMap pqF := by rw [List.take_add_one, hp]; simp
    cases hok : okL p with
    | false =>
      repeat (first | refine dw_p rfl ?_ | refine dw_l rfl ?_ | refine dw_if rfl rfl (by omega) (by decide) (by assumption) ?_ | refine dw_ai rfl rfl rfl ?_ | refine dw_st rfl rfl rfl rfl rfl (Nat.le_of_ble_eq_true rfl) rfl ?_ | refine dw_nil ?_ | refine ds_seq ?_ | refine ds_ops mix (fun base => ?_) | refine ds_skip ?_ | refine ds_block ?_)
      refine dw_cf rfl rfl (d_headB (p := p) hok) ?_
      rintro _ rfl
      repeat (first | refine dw_p rfl ?_ | refine dw_nil ?_ | refine ds_seq ?_ | refine ds_ops mix (fun base => ?_))
      refine ds_if (t := true) rfl (fun _ => ?_) (fun ht => by cases ht)
      repeat (first | refine dw_p rfl ?_ | refine dw_l rfl ?_ | refine ds_seq ?_ | refine ds_ops mix (fun base => ?_))
      refine dw_cfr rfl rfl (o_empty (n := 48) (m := 12) (by omega) (by omega)) ?_
      rintro _ _ _ ⟨rfl, rfl, rfl⟩
      refine dw_keep (SubA.cons (k := 0) rfl (SubA.cons (k := 3) rfl (SubA.cons (k := 5) rfl (SubA.cons (k := 6) rfl (SubA.cons (k := 33) rfl (SubA.cons (k := 40) rfl (SubA.nil _))))))) (SubA.cons (k := 0) rfl (SubA.cons (k := 1) rfl (SubA.cons (k := 5) rfl (SubA.cons (k := 6) rfl (SubA.nil _))))) ?_
      refine dw_frzT 5 rfl (by repeat' (first | exact trivial | rfl | assumption | refine ⟨?_, ?_⟩)) (by repeat' (first | exact trivial | rfl | assumption | refine ⟨?_, ?_⟩)) ?_
      refine dw_frzT 6 rfl (by repeat' (first | exact trivial | rfl | assumption | refine ⟨?_, ?_⟩)) (by repeat' (first | exact trivial | rfl | assumption | refine ⟨?_, ?_⟩)) ?_
      repeat (first | refine dw_a rfl ?_)
      have hlab : labP p = ⟨48, 12, dotsF (blankD 48 12), dotsF (blankD 48 12)⟩ := by rw [labP, labU, hok]
      rw [hlab] at hnext
      refine dw_app (q := pqF ⟨48, 12, dotsF (blankD 48 12), dotsF (blankD 48 12)⟩) rfl rfl rfl (subL_all _ hfl) ⟨rfl, rfl, _, rfl, rfl⟩ (by omega) (by omega) (by decide) rfl ?_
      rw [hnext]
      repeat (first | refine dw_p rfl ?_ | refine dw_nil ?_ | refine ds_ops mix (fun base => ?_) | refine ds_exit ?_)
      refine ⟨m - 1, by omega, _, _, _, [(1, 8)], ?wk1, k + 1, by omega, rfl, rfl, rfl⟩
      case wk1 => exact ⟨by repeat (first | exact trivial | refine ⟨by first | rfl | exact congrArg (fun z => some (DV.int z)) (dwrap (by omega) (by omega)), rfl, ?_⟩), by repeat (first | exact trivial | refine ⟨by first | rfl | exact congrArg (fun z => some (Bk.data z)) (by assumption), rfl, rfl, ?_⟩), rfl, rfl⟩
    | true =>
      obtain ⟨n, j, rfl, h1, h2, h3⟩ := okL_nat hok (h12 p (List.mem_of_getElem? hp))
      have hE := (hdrE h1 h2 h3).ok
      repeat (first | refine dw_p rfl ?_ | refine dw_l rfl ?_ | refine dw_if rfl rfl (by omega) (by decide) (by assumption) ?_ | refine dw_ai rfl rfl rfl ?_ | refine dw_st rfl rfl rfl rfl rfl (Nat.le_of_ble_eq_true rfl) rfl ?_ | refine dw_nil ?_ | refine ds_seq ?_ | refine ds_ops mix (fun base => ?_) | refine ds_skip ?_ | refine ds_block ?_)
      refine dw_cf rfl rfl hE.1 ?_
      rintro _ rfl
      repeat (first | refine dw_p rfl ?_ | refine dw_nil ?_ | refine ds_seq ?_ | refine ds_ops mix (fun base => ?_))
      refine ds_if (t := false) rfl (fun ht => by cases ht) (fun _ => ?_)
      repeat (first | refine dw_p rfl ?_ | refine dw_l rfl ?_ | refine dw_a rfl ?_ | refine ds_seq ?_ | refine ds_ops mix (fun base => ?_) | refine ds_skip ?_)
      refine dw_frz 3 rfl (by repeat' (first | exact trivial | rfl | assumption | refine ⟨?_, ?_⟩)) (by repeat' (first | exact trivial | rfl | assumption | refine ⟨?_, ?_⟩)) ?_
      skip
      refine dw_cf rfl rfl (d_press (row := hdrRow n j) hE.2.2) ?_
      rintro _ rfl
      repeat (first | refine dw_p rfl ?_ | refine dw_l rfl ?_ | refine dw_a rfl ?_ | refine dw_st rfl rfl rfl rfl rfl (Nat.le_of_ble_eq_true rfl) rfl ?_ | refine dw_nil ?_ | refine ds_ops mix (fun base => ?_))
      have hlab : labP ((n : Int), (j : Int)) = ⟨48, 12, dotsF (fromC 48 12 [hdrRow n j]), dotsF (blankD 48 12)⟩ := by rw [labP, labU, hok]; rfl
      rw [hlab] at hnext
      refine dw_app (q := pqF ⟨48, 12, dotsF (fromC 48 12 [hdrRow n j]), dotsF (blankD 48 12)⟩) rfl rfl rfl (subL_all _ hfl) ⟨rfl, rfl, _, rfl, rfl⟩ (by omega) (by omega) (by decide) rfl ?_
      rw [hnext]
      repeat (first | refine dw_p rfl ?_ | refine dw_nil ?_ | refine ds_ops mix (fun base => ?_))
      refine ⟨m - 1, by omega, _, _, _, [(1, 6)], ?wk2, k + 1, by omega, rfl, rfl, rfl⟩
      case wk2 => exact ⟨by repeat (first | exact trivial | refine ⟨by first | rfl | exact congrArg (fun z => some (DV.int z)) (dwrap (by omega) (by omega)), rfl, ?_⟩), by repeat (first | exact trivial | refine ⟨by first | rfl | exact congrArg (fun z => some (Bk.data z)) (by assumption), rfl, rfl, ?_⟩), rfl, rfl⟩
  · obtain rfl : k = l.length := by simp at ht; omega
    rw [List.take_length]
    have hfl : ((l.map labP).flatMap pqF).length = l.length * 4 := by rw [flat_length (f := pqF) (e := 4) (fun _ => rfl)]; simp
    repeat (first | refine dw_p rfl ?_ | refine dw_nil ?_ | refine ds_seq ?_ | refine ds_ops mix (fun base => ?_) | refine ds_exit ?_)
    refine ds_keep (SubA.cons (k := 4) rfl (SubA.cons (k := 5) rfl (SubA.nil _))) (SubA.cons (k := 1) rfl (SubA.nil _)) ?_
    refine ds_frz 1 rfl (by repeat' (first | exact trivial | rfl | assumption | refine ⟨?_, ?_⟩)) (by repeat' (first | exact trivial | rfl | assumption | refine ⟨?_, ?_⟩)) ?_
    skip
    refine ds_ret ⟨_, rfl, rfl, ?_⟩
    rw [pqsC, List.length_map]
    rfl
end Go.Ac

/- Rules: copy into a slice of the call's own; parts of slices with a capacity. -/
namespace Go.Ab
section
variable {p : Par} {base rs : Nat} {Q : DEnv → Bx → Nat → Prop} {r : List SOper} {W : Wt} {A : List Nat} {E : DEnv} {S : Bx} {nk : Nat} {id : Nat} {dst : Option Nat} {aid : Option Nat} {ws : List Nat} {keep : Bool}
theorem put_self {k : Nat} {x : Bk} (hk : lk S k = some x) : ∀ j z, lk (put k x S) j = some z → lk S j = some z := fun j z hj => by
  rw [lk_put] at hj
  split at hj
  · rename_i e; subst e; rw [hk] at hj ⊢; exact hj
  · exact hj
theorem dw_cpy {x y : Opd} {esz k o n m t : Nat} {l q q' : List FD} {d : DV} (hx : ro E x = some (.one (.own k o n esz))) (hy : ro E y = some d) (hk : lk S k = some (.data l)) (hd : SrcR S esz d m q) (hle : o + n * esz ≤ l.length) (ht : min m n = t) (hq : q.take (t * esz) = q') (hw : wOk S k W = true)
    (h : DPW p base rs Q r W A (setD E dst (.int t)) (put k (.data (setLs l o q')) S) nk) : DPW p base rs Q (⟨id, dst, .e (.copy esz x y), none, aid, ws, keep⟩ :: r) W A E S nk := .mk fun Z β H F c hS hE hC hA => by
  subst ht; subst hq
  obtain ⟨news, hn1, hn2, hn3⟩ := dsrc_ok hS hE hy hd
  obtain ⟨cx, hcx, hrx⟩ := ro_ok hE hx
  simp only [wOps, wantedA, if_true, aEff, hcx, hn1]
  rcases hrx with ⟨_, h0, h1, rfl⟩ | ⟨b, N, cap, ex, hb, rfl, hcap, hN'⟩
  · subst h0
    have hset : setLs l o (q.take (min m 0 * esz)) = l := by simp [setLs]
    rw [hset] at h
    have hSp : SR p Z β H (put k (.data l) S) nk := hS.keepS (put_self hk)
    rw [Nat.min_zero] at h
    exact ⟨hC.watch ws, h.run Z β H _ c hSp (hE.set dst ⟨_, rfl, .c _ rfl⟩) hC hA⟩
  · have hfl := wOk_flat hw hk
    have hsh := wOk_row hw hk
    obtain ⟨s, hs, hbx⟩ := hS.box (k, 0) _ (lk2_of hk hfl)
    rw [hb] at hs
    obtain rfl := Option.some.inj hs
    obtain ⟨hzb, hlo, hlt, cs, rest, hrow, hN, hrel⟩ := hbx
    have hN : (cs ++ rest).length = N := hN
    have hrow : Row H b (cs ++ rest) := hrow
    have hlen : l.length = cs.length := Bk.rel_len hrel
    have hk2 := hn2.take (min m n * esz)
    have hmn : min m n * esz ≤ n * esz := Nat.mul_le_mul_right _ (by omega)
    have hkl : (news.take (min m n * esz)).length ≤ n * esz := by rw [List.length_take]; omega
    obtain ⟨H', e1, e2, e3, e4⟩ := hrow.stores (cs := news.take (min m n * esz)) (i := o) (by rw [List.length_append]; omega)
    rw [setL_app _ cs rest o (by omega)] at e2
    obtain ⟨hS', hZ⟩ := hS.upd (x' := .data (setLs l o (q.take (min m n * esz)))) (cs := setL cs o (news.take (min m n * esz))) (rest := rest) hk hfl hb (All2.setLs hk2 o hrel) e3 e4 rfl e2 (by rw [List.length_append, setL_len, ← List.length_append]; exact hN)
    have hC' := hC.upd (k := (k, 0)) hS hk hZ e3 hb (wOk_0 hw)
    simp only [if_true, e1, Option.map_some]
    exact ⟨hC'.watch ws, h.run Z β H' _ c hS' ((hE.mono hZ (BLe.refl _)).set dst ⟨_, rfl, .c _ rfl⟩) hC' (hA.upd e4 e3 hb)⟩
/-- the beginning of a frozen slice, with its capacity -/
theorem dw_sl3 {esz : Nat} {x : Opd} {hi mx : Opd} {n h : Nat} {m q : List FD} (hx : ro E x = some (.one (.f (.sl esz n m)))) (hhi : bnd E n (some hi) = some h) (hmx : bnd E n (some mx) = some h) (h2 : h ≤ n) (hq : m.take (h * esz) = q) (hd : DPW p base rs Q r W A (setD E dst (.one (.f (.sl esz h q)))) S nk) : DPW p base rs Q (⟨id, dst, .p (.slice esz x none (some hi) (some mx)), none, aid, ws, keep⟩ :: r) W A E S nk := by
  subst hq
  refine dw_pv (fun {Z β H F} hE => ?_) hd
  obtain ⟨c, hc, hr⟩ := ro_ok hE hx
  cases hr with
  | nil =>
    obtain rfl : h = 0 := by omega
    refine ⟨.one .nils, ?_, _, rfl, by rw [Nat.zero_mul, List.take_zero]; exact RF.nil esz⟩
    simp only [aPure, hc, aSlice, bnd_ok hE hhi (Nat.le_refl 0), bnd_ok hE hmx (Nat.le_refl 0)]
    rfl
  | sl hz hl hcap hld hel =>
    rename_i b o cap ex cs
    have hlen : m.length = cs.length := by rw [hl, loads_len hld]
    have hmul : h * esz ≤ n * esz := Nat.mul_le_mul_right _ h2
    refine ⟨.one (.slc b o h h esz (ex || true)), ?_, _, rfl, .sl (cs := cs.take (h * esz)) (fun h0 => hz ?_) ?_ (Nat.le_refl _) (loads_take hld (by omega)) fun i d c hd hc => ?_⟩
    · simp only [aPure, hc, aSlice]
      rw [if_neg (by simp), bnd_ok (d := cap) (x := some mx) hE hmx (show h ≤ cap by omega)]
      simp only [bnd_ok hE hhi (Nat.le_refl h)]
      simp [aBound]
    · omega
    · rw [List.length_take]; omega
    · have ha := (All2.mk hlen hel).take (h * esz)
      obtain ⟨c', hc', hr'⟩ := ha.at i d hd
      rw [hc] at hc'
      obtain rfl := Option.some.inj hc'
      exact hr'
end
end Go.Ab

/- Law 34: rows of dots, straight and turned; rows of cells, trimmed. -/
namespace Go.Ac
open Go.Ab Go.Proofs
set_option linter.unusedSimpArgs false

def rowD (r : List Bool) : DV := .one (.f (rowF (r.map boF)))
def celD (r : List Int) : DV := .one (.f (rowF (r.map cF)))
theorem setLs_all {α : Type} : ∀ (q : List α) (pre l : List α), q.length = l.length → setLs (pre ++ l) pre.length q = pre ++ q
  | [], pre, l, h => by
    have : l = [] := List.eq_nil_of_length_eq_zero (by simpa using h.symm)
    subst this; rfl
  | c :: q, pre, [], h => by simp at h
  | c :: q, pre, x :: l, h => by
    have ih := setLs_all q (pre ++ [c]) l (by simpa using h)
    rw [setLs, show (pre ++ x :: l).set pre.length c = (pre ++ [c]) ++ l by rw [List.set_append_right _ _ (Nat.le_refl _)]; simp]
    rw [show pre.length + 1 = (pre ++ [c]).length by simp, ih]
    simp
theorem setLs_full {α : Type} {q l : List α} (h : q.length = l.length) : setLs l 0 q = q := by
  have := setLs_all q [] l h
  simpa using this
theorem o_straight {r : List Bool} (hn : r.length < 1000000) : DKO 39 [rowD r] fun d S nk => d = .one (.own 0 0 r.length 1) ∧ S = [(0, .data (r.map boF))] ∧ nk = 1 := by
  refine dfnO_ok cp39 rfl GHro fun Z0 lo => ?_
  have hl : (r.map boF).length = r.length := by simp
  repeat (first | refine dw_p rfl ?_ | refine dw_nil ?_ | refine ds_seq ?_ | refine ds_ops mix (fun base => ?_))
  rw [hl]
  refine dw_mk [.c (.bool false)] rfl rfl ⟨rfl, rfl, trivial⟩ rfl (by decide) (Nat.le_refl _) (by omega) (by omega) ?_
  repeat (first | refine dw_p rfl ?_ | refine dw_nil ?_ | refine ds_seq ?_ | refine ds_ops mix (fun base => ?_))
  refine dw_cpy (m := r.length) (t := r.length) (q := r.map boF) (q' := r.map boF) rfl rfl rfl ⟨hl, rfl, rfl⟩ (by rw [reps'_len]; simp) (Nat.min_self _) (List.take_of_length_le (by simp)) rfl ?_
  rw [setLs_full (by rw [reps'_len]; simp)]
  repeat (first | refine dw_p rfl ?_ | refine dw_nil ?_ | refine ds_seq ?_ | refine ds_ops mix (fun base => ?_))
  exact ds_ret ⟨_, rfl, rfl, _, SubA.cons (k := 0) rfl (SubA.nil _), rfl, rfl, rfl⟩
theorem d_straight {r : List Bool} (hn : r.length < 1000000) : DK 39 [rowD r] fun d => d = rowD r := by
  refine dfn_ok cp39 rfl GHro fun Z0 lo => ?_
  have hl : (r.map boF).length = r.length := by simp
  repeat (first | refine dw_p rfl ?_ | refine dw_nil ?_ | refine ds_seq ?_ | refine ds_ops mix (fun base => ?_))
  rw [hl]
  refine dw_mk [.c (.bool false)] rfl rfl ⟨rfl, rfl, trivial⟩ rfl (by decide) (Nat.le_refl _) (by omega) (by omega) ?_
  repeat (first | refine dw_p rfl ?_ | refine dw_nil ?_ | refine ds_seq ?_ | refine ds_ops mix (fun base => ?_))
  refine dw_cpy (m := r.length) (t := r.length) (q := r.map boF) (q' := r.map boF) rfl rfl rfl ⟨hl, rfl, rfl⟩ (by rw [reps'_len]; simp) (Nat.min_self _) (List.take_of_length_le (by simp)) rfl ?_
  rw [setLs_full (by rw [reps'_len]; simp)]
  repeat (first | refine dw_p rfl ?_ | refine dw_nil ?_ | refine ds_seq ?_ | refine ds_ops mix (fun base => ?_))
  have hfl : (r.map boF).length = r.length * 1 := by simp
  refine ds_keep (SubA.cons (k := 2) rfl (SubA.nil _)) (SubA.cons (k := 0) rfl (SubA.nil _)) ?_
  refine ds_frz 0 rfl (by repeat' (first | exact trivial | rfl | assumption | refine ⟨?_, ?_⟩)) (by repeat' (first | exact trivial | rfl | assumption | refine ⟨?_, ?_⟩)) ?_
  refine ds_ret ⟨_, rfl, rfl, ?_⟩
  show _ = DV.one (.f (.sl 1 (r.map boF).length (r.map boF)))
  rw [hl]
  rfl
/-- a row whose ends are exchanged up to i -/
def Rv (r : List Bool) (i : Nat) (q : List Bool) : Prop := q.length = r.length ∧ ∀ t, t < r.length → q[t]? = if t < i ∨ r.length ≤ t + i then r[r.length - 1 - t]? else r[t]?
theorem Rv.step {r q : List Bool} {i : Nat} {a b : Bool} (h : Rv r i q) (hi : i < r.length - 1 - i) (ha : q[i]? = some a) (hb : q[r.length - 1 - i]? = some b) : Rv r (i + 1) ((q.set i b).set (r.length - 1 - i) a) := by
  obtain ⟨h1, h2⟩ := h
  have e1 := h2 i (by omega)
  rw [ha, if_neg (by omega)] at e1
  have e2 := h2 (r.length - 1 - i) (by omega)
  rw [hb, if_neg (by omega)] at e2
  refine ⟨by simp [h1], fun t ht => ?_⟩
  rw [List.getElem?_set, List.getElem?_set]
  by_cases c1 : r.length - 1 - i = t
  · subst c1
    rw [if_pos rfl, if_pos (by simp; omega), if_pos (by omega), show r.length - 1 - (r.length - 1 - i) = i by omega, e1]
  · rw [if_neg c1]
    by_cases c2 : i = t
    · subst c2
      rw [if_pos rfl, if_pos (by omega), if_pos (by omega), e2]
    · rw [if_neg c2, h2 t ht]
      by_cases c3 : t < i ∨ r.length ≤ t + i
      · rw [if_pos c3, if_pos (by omega)]
      · rw [if_neg c3, if_neg (by omega)]
theorem Rv.fin {r q : List Bool} {i : Nat} (h : Rv r i q) (hi : r.length ≤ 2 * i + 1) : q = r.reverse := by
  refine List.ext_getElem? fun t => ?_
  by_cases ht : t < r.length
  · rw [h.2 t ht, List.getElem?_reverse ht]
    by_cases c : t < i ∨ r.length ≤ t + i
    · rw [if_pos c]
    · rw [if_neg c, show r.length - 1 - t = t by omega]
  · rw [List.getElem?_eq_none (by rw [h.1]; omega), List.getElem?_eq_none (by simp; omega)]
theorem stB_bo (q : List Bool) (i : Nat) (b : Bool) : stB (.data (q.map boF)) i [.f (boF b)] = .data ((q.set i b).map boF) := congrArg Bk.data (boF_set q i b)
theorem x_reverse {r : List Bool} (hn : r.length < 1000000) : DKX 44 [.one (.own 0 0 r.length 1)] [(0, .data (r.map boF))] 1 fun _ S nk => S = [(0, .data (r.reverse.map boF))] ∧ nk = 1 := by
  refine dkx_ok cp44 rfl fun Z β H lo => ?_
  have w0 : IntKind.i64.wrap ((r.length : Int) - 1) = (r.length : Int) - 1 - ((0 : Nat) : Int) := by rw [dwrap (by omega) (by omega)]; omega
  repeat (first | refine dw_p rfl ?_ | refine dw_nil ?_ | refine ds_seq ?_ | refine ds_ops mix (fun base => ?_) | refine ds_block ?_)
  rw [w0]
  refine ds_loop (fun k E S nk => ∃ i q, 2 * i + k = r.length + 1 ∧ Rv r i q ∧ E = [(0, .one (.own 0 0 r.length 1)), (2, .int i), (3, .int ((r.length : Int) - 1 - (i : Nat)))] ∧ S = [(0, .data (q.map boF))] ∧ nk = 1) ⟨r.length + 1, _, _, _, [], ?wk, 0, r, by omega, ⟨rfl, fun t ht => by rw [if_neg (by omega)]⟩, rfl, rfl, rfl⟩ ?_
  case wk => exact ⟨by repeat (first | exact trivial | refine ⟨by first | rfl | exact congrArg (fun z => some (DV.int z)) (dwrap (by omega) (by omega)), rfl, ?_⟩), by repeat (first | exact trivial | refine ⟨by first | rfl | exact congrArg (fun z => some (Bk.data z)) (by assumption), rfl, rfl, ?_⟩), rfl, rfl⟩
  rintro k E S nk ⟨i, q, hk, hq, rfl, rfl, rfl⟩
  repeat (first | refine dw_p rfl ?_ | refine dw_nil ?_ | refine ds_seq ?_ | refine ds_ops mix (fun base => ?_))
  refine ds_if rfl (fun ht => ?_) (fun ht => ?_)
  · have hi : i < r.length - 1 - i := by simp at ht; omega
    have hql := hq.1
    obtain ⟨a, ha⟩ : ∃ a, q[i]? = some a := ⟨_, List.getElem?_eq_getElem (by omega)⟩
    obtain ⟨b, hb⟩ : ∃ b, q[r.length - 1 - i]? = some b := ⟨_, List.getElem?_eq_getElem (by omega)⟩
    have w1 : (r.length : Int) - 1 - (i : Nat) = ((r.length - 1 - i : Nat) : Int) := by omega
    have w2 : IntKind.i64.wrap (((r.length - 1 - i : Nat) : Int) - 1) = (r.length : Int) - 1 - ((i + 1 : Nat) : Int) := by rw [dwrap (by omega) (by omega)]; omega
    have e1 : subL (q.map boF) (Int.toNat (i : Int)) 1 = some [boF a] := by have := one_at (boF_at ha); rwa [Nat.mul_one] at this
    have e2 : subL (q.map boF) (Int.toNat ((r.length - 1 - i : Nat) : Int)) 1 = some [boF b] := by have := one_at (boF_at hb); rwa [Nat.mul_one] at this
    have l1 : Int.toNat (i : Int) + 1 ≤ (q.map boF).length := by simp; omega
    have l2 : Int.toNat ((r.length - 1 - i : Nat) : Int) + 1 ≤ ((q.set i b).map boF).length := by simp; omega
    rw [w1]
    repeat (first | refine dw_p rfl ?_ | refine dw_io1 rfl rfl (by omega) (by omega) ?_ | refine dw_l (dload_data rfl rfl (by assumption) rfl) ?_ | refine ds_seq ?_ | refine ds_ops mix (fun base => ?_) | refine ds_skip ?_ | refine ds_block ?_)
    refine dw_st rfl rfl rfl rfl rfl l1 rfl ?_
    rw [show stB (.data (q.map boF)) (Int.toNat (i : Int)) [.f (boF b)] = .data ((q.set i b).map boF) from stB_bo q i b]
    repeat (first | refine dw_io1 rfl rfl (by omega) (by omega) ?_)
    refine dw_st rfl rfl rfl rfl rfl l2 rfl ?_
    rw [show stB (.data ((q.set i b).map boF)) (Int.toNat ((r.length - 1 - i : Nat) : Int)) [.f (boF a)] = .data (((q.set i b).set (r.length - 1 - i) a).map boF) from stB_bo _ _ a]
    repeat (first | refine dw_p rfl ?_ | refine dw_nil ?_ | refine ds_ops mix (fun base => ?_))
    rw [w2]
    refine ⟨k - 2, by omega, _, _, _, [], ?wk2, i + 1, _, by omega, hq.step hi ha hb, rfl, rfl, rfl⟩
    case wk2 => exact ⟨by repeat (first | exact trivial | refine ⟨by first | rfl | exact congrArg (fun z => some (DV.int z)) (dwrap (by omega) (by omega)), rfl, ?_⟩), by repeat (first | exact trivial | refine ⟨by first | rfl | exact congrArg (fun z => some (Bk.data z)) (by assumption), rfl, rfl, ?_⟩), rfl, rfl⟩
  · have hi : ¬ i < r.length - 1 - i := by simp at ht; omega
    repeat (first | refine ds_exit ?_)
    have := hq.fin (by omega)
    subst this
    refine ⟨_, rfl, rfl, _, SubA.refl _, rfl, rfl⟩
theorem d_turned {r : List Bool} (hn : r.length < 1000000) : DK 40 [rowD r] fun d => d = rowD r.reverse := by
  refine dfn_ok cp40 rfl GHro fun Z0 lo => ?_
  repeat (first | refine dw_p rfl ?_ | refine dw_nil ?_ | refine ds_seq ?_ | refine ds_ops mix (fun base => ?_))
  refine dw_cfr rfl rfl (o_straight hn) ?_
  rintro _ _ _ ⟨rfl, rfl, rfl⟩
  repeat (first | refine dw_p rfl ?_ | refine dw_nil ?_ | refine ds_seq ?_ | refine ds_ops mix (fun base => ?_))
  refine dw_cx rfl rfl rfl (x_reverse hn _ _ _ _ _) ?_
  rintro _ _ _ ⟨rfl, rfl⟩
  repeat (first | refine dw_p rfl ?_ | refine dw_nil ?_ | refine ds_seq ?_ | refine ds_ops mix (fun base => ?_))
  have hfl : (r.reverse.map boF).length = r.length * 1 := by simp
  refine ds_keep (SubA.cons (k := 2) rfl (SubA.nil _)) (SubA.cons (k := 0) rfl (SubA.nil _)) ?_
  refine ds_frz 0 rfl (by repeat' (first | exact trivial | rfl | assumption | refine ⟨?_, ?_⟩)) (by repeat' (first | exact trivial | rfl | assumption | refine ⟨?_, ?_⟩)) ?_
  refine ds_ret ⟨_, rfl, rfl, ?_⟩
  show _ = DV.one (.f (.sl 1 (r.reverse.map boF).length (r.reverse.map boF)))
  rw [show (r.reverse.map boF).length = r.length by simp]
  rfl
end Go.Ac

/- Law 34: rows of cells, trimmed; plates that are valid. -/
namespace Go.Ac
open Go.Ab Go.Proofs
set_option linter.unusedSimpArgs false

/-- without what is blank at the end -/
def trimG {α : Type} (z : α → Bool) : List α → List α
  | [] => []
  | x :: r => match trimG z r with
    | [] => if z x = true then [] else [x]
    | t :: ts => x :: t :: ts
theorem trimG_snoc {α : Type} (z : α → Bool) (x : α) : ∀ l, trimG z (l ++ [x]) = if z x = true then trimG z l else l ++ [x]
  | [] => by simp only [List.nil_append, trimG]
  | y :: l => by
    have ih := trimG_snoc z x l
    rw [List.cons_append, trimG, ih]
    by_cases h : z x = true
    · simp only [h, if_true]
      rw [trimG]
    · simp only [h, Bool.false_eq_true, if_false]
      cases l <;> rfl
theorem trimG_take {α : Type} {z : α → Bool} {l : List α} {k : Nat} {x : α} (h : l[k]? = some x) : trimG z (l.take (k + 1)) = if z x = true then trimG z (l.take k) else l.take (k + 1) := by
  rw [List.take_add_one, h, Option.toList_some, trimG_snoc]
def isZ (c : Int) : Bool := c == 0
abbrev trimC (c : List Int) : List Int := trimG isZ c
theorem d_trim {c : List Int} (hn : c.length < 1000000) : DK 43 [celD c] fun d => d = celD (trimC c) := by
  refine dfn_ok cp43 rfl GHro fun Z0 lo => ?_
  have hl : (c.map cF).length = c.length := by simp
  repeat (first | refine dw_p rfl ?_ | refine dw_nil ?_ | refine ds_seq ?_ | refine ds_ops mix (fun base => ?_) | refine ds_block ?_)
  rw [hl]
  refine ds_loop (fun m E S nk => ∃ k, k = m ∧ k ≤ c.length ∧ trimC c = trimC (c.take k) ∧ E = [(0, celD c), (3, .int k)] ∧ S = [] ∧ nk = 0) ⟨c.length, _, _, _, [], ?wk, _, rfl, Nat.le_refl _, by rw [List.take_length], rfl, rfl, rfl⟩ ?_
  case wk => exact ⟨by repeat (first | exact trivial | refine ⟨by first | rfl | exact congrArg (fun z => some (DV.int z)) (dwrap (by omega) (by omega)), rfl, ?_⟩), by repeat (first | exact trivial | refine ⟨by first | rfl | exact congrArg (fun z => some (Bk.data z)) (by assumption), rfl, rfl, ?_⟩), rfl, rfl⟩
  rintro m E S nk ⟨k, rfl, hk, ht, rfl, rfl, rfl⟩
  cases k with
  | zero =>
    have hfin : trimC c = c.take 0 := by rw [ht]; rfl
    repeat (first | refine dw_skip rfl rfl ?_ | refine dw_pickF rfl rfl ?_ | refine dw_p rfl ?_ | refine dw_nil ?_ | refine ds_seq ?_ | refine ds_ops mix (fun base => ?_))
    refine ds_if (t := false) rfl (fun ht => by cases ht) (fun _ => ?_)
    repeat (first | refine dw_p rfl ?_ | refine ds_seq ?_ | refine ds_ops mix (fun base => ?_) | refine ds_exit ?_)
    refine dw_sl3 (n := (c.map cF).length) (m := c.map cF) rfl rfl rfl (by omega) rfl ?_
    repeat (first | refine dw_p rfl ?_ | refine dw_nil ?_)
    refine ds_ret ⟨_, rfl, rfl, ?_⟩
    rw [hfin, Nat.mul_one, ← List.map_take]
    show _ = DV.one (.f (.sl 1 ((c.take _).map cF).length ((c.take _).map cF)))
    rw [show ((c.take 0).map cF).length = 0 by rw [List.length_map, List.length_take]; omega]
  | succ k =>
    obtain ⟨x, hx⟩ : ∃ x, c[k]? = some x := ⟨_, List.getElem?_eq_getElem (by omega)⟩
    have e1 := one_at (cF_at hx)
    have l1 : k < (c.map cF).length := by omega
    have g1 : decide (((k + 1 : Nat) : Int) > 0) = true := by simp
    have w1 : IntKind.i64.wrap (((k + 1 : Nat) : Int) - 1) = ((k : Nat) : Int) := by rw [dwrap (by omega) (by omega)]; omega
    obtain ⟨t, h1⟩ : ∃ t, (x == 0) = t := ⟨_, rfl⟩
    have hs := trimG_take (z := isZ) hx
    rw [show isZ x = t from h1] at hs
    cases t with
    | true =>
      rw [if_pos rfl] at hs
      iterate 12 (first | refine dw_want rfl rfl ?_ | refine dw_pB rfl (by assumption) ?_ | refine dw_p rfl ?_ | refine ds_seq ?_ | refine ds_ops mix (fun base => ?_))
      rw [w1]
      repeat (first | refine dw_want rfl rfl ?_ | refine dw_pickT rfl rfl ?_ | refine dw_pB rfl (by assumption) ?_ | refine dw_l rfl ?_ | refine dw_if rfl rfl (by omega) (by decide) (by assumption) ?_ | refine dw_nil ?_)
      refine ds_if (t := true) rfl (fun _ => ?_) (fun ht => by cases ht)
      repeat (first | refine dw_p rfl ?_ | refine dw_nil ?_ | refine ds_ops mix (fun base => ?_) | refine ds_skip ?_ | refine ds_block ?_)
      rw [w1]
      refine ⟨k, by omega, _, _, _, [], ?wk2, k, rfl, by omega, ht.trans hs, rfl, rfl, rfl⟩
      case wk2 => exact ⟨by repeat (first | exact trivial | refine ⟨by first | rfl | exact congrArg (fun z => some (DV.int z)) (dwrap (by omega) (by omega)), rfl, ?_⟩), by repeat (first | exact trivial | refine ⟨by first | rfl | exact congrArg (fun z => some (Bk.data z)) (by assumption), rfl, rfl, ?_⟩), rfl, rfl⟩
    | false =>
      rw [if_neg (by decide)] at hs
      have hfin : trimC c = c.take (k + 1) := ht.trans hs
      iterate 12 (first | refine dw_want rfl rfl ?_ | refine dw_pB rfl (by assumption) ?_ | refine dw_p rfl ?_ | refine ds_seq ?_ | refine ds_ops mix (fun base => ?_))
      rw [w1]
      repeat (first | refine dw_want rfl rfl ?_ | refine dw_pickT rfl rfl ?_ | refine dw_pB rfl (by assumption) ?_ | refine dw_l rfl ?_ | refine dw_if rfl rfl (by omega) (by decide) (by assumption) ?_ | refine dw_nil ?_)
      refine ds_if (t := false) rfl (fun ht => by cases ht) (fun _ => ?_)
      repeat (first | refine dw_p rfl ?_ | refine ds_seq ?_ | refine ds_ops mix (fun base => ?_) | refine ds_exit ?_)
      refine dw_sl3 (n := (c.map cF).length) (m := c.map cF) rfl rfl rfl (by omega) rfl ?_
      repeat (first | refine dw_p rfl ?_ | refine dw_nil ?_)
      refine ds_ret ⟨_, rfl, rfl, ?_⟩
      rw [hfin, Nat.mul_one, ← List.map_take]
      show _ = DV.one (.f (.sl 1 ((c.take _).map cF).length ((c.take _).map cF)))
      rw [show ((c.take (k + 1)).map cF).length = k + 1 by rw [List.length_map, List.length_take]; omega]
end Go.Ac

/- Law 34: sides of plates. -/
namespace Go.Ac
open Go.Ab Go.Proofs
set_option linter.unusedSimpArgs false

abbrev dotsV (d : DotsL) : DV := .one (.f (dotsF d))
def isE (r : List Int) : Bool := r.isEmpty
abbrev cutP (g : Cells) : Cells := trimG isE g
def pgF (g : Cells) : FD := .sl 1 g.length ((cellsF g).map rowF)
theorem d_filled {w h : Nat} {d : DotsL} (hw : w ≤ 200) (hh : h ≤ 200) (hd : Sz w h d) : DK 37 [dotsV d, .int w, .int h] fun d => d = .bool true := by
  refine dfn_ok cp37 rfl GHro fun Z0 lo => ?_
  have hl := hd.1
  have g5 : (((d.length : Nat) : Int) != (h : Int)) = false := by simp [hl]
  repeat (first | refine dw_pB rfl (by assumption) ?_ | refine dw_p rfl ?_ | refine dw_nil ?_ | refine ds_seq ?_ | refine ds_ops mix (fun base => ?_))
  refine ds_if rfl (fun ht => by cases ht) (fun _ => ?_)
  repeat (first | refine dw_p rfl ?_ | refine dw_nil ?_ | refine ds_seq ?_ | refine ds_ops mix (fun base => ?_) | refine ds_skip ?_ | refine ds_block ?_)
  refine ds_loop (fun m E S nk => ∃ k : Nat, k + m = d.length ∧ E = [(1, .int w), (13, dotsV d), (14, .int d.length), (15, .int k)] ∧ S = [] ∧ nk = 0) ⟨d.length, _, _, _, [], ?wk, 0, by omega, rfl, rfl, rfl⟩ ?_
  case wk => exact ⟨by repeat (first | exact trivial | refine ⟨by first | rfl | exact congrArg (fun z => some (DV.int z)) (dwrap (by omega) (by omega)), rfl, ?_⟩), by repeat (first | exact trivial | refine ⟨by first | rfl | exact congrArg (fun z => some (Bk.data z)) (by assumption), rfl, rfl, ?_⟩), rfl, rfl⟩
  rintro m E S nk ⟨k, hk, rfl, rfl, rfl⟩
  repeat (first | refine dw_p rfl ?_ | refine dw_nil ?_ | refine ds_seq ?_ | refine ds_ops mix (fun base => ?_))
  refine ds_if rfl (fun ht => ?_) (fun ht => ?_)
  · simp at ht
    obtain ⟨r, hr, hrl⟩ := hd.row (y := k) (by omega)
    have e1 := rowF_at (rowsF_at hr)
    have e2 : ((((r.map boF).length : Nat) : Int) != (w : Int)) = false := by simp [hrl]
    repeat (first | refine dw_pB rfl (by assumption) ?_ | refine dw_p rfl ?_ | refine dw_l rfl ?_ | refine dw_if rfl rfl (by omega) (by decide) (by assumption) ?_ | refine dw_nil ?_ | refine ds_seq ?_ | refine ds_ops mix (fun base => ?_) | refine ds_skip ?_ | refine ds_block ?_)
    refine ds_if rfl (fun ht => by cases ht) (fun _ => ?_)
    repeat (first | refine dw_p rfl ?_ | refine dw_nil ?_ | refine ds_ops mix (fun base => ?_) | refine ds_skip ?_)
    refine ⟨m - 1, by omega, _, _, _, [], ?wk1, k + 1, by omega, rfl, rfl, rfl⟩
    case wk1 => exact ⟨by repeat (first | exact trivial | refine ⟨by first | rfl | exact congrArg (fun z => some (DV.int z)) (dwrap (by omega) (by omega)), rfl, ?_⟩), by repeat (first | exact trivial | refine ⟨by first | rfl | exact congrArg (fun z => some (Bk.data z)) (by assumption), rfl, rfl, ?_⟩), rfl, rfl⟩
  · repeat (first | refine dw_p rfl ?_ | refine dw_nil ?_ | refine ds_seq ?_ | refine ds_ops mix (fun base => ?_) | refine ds_exit ?_)
    exact ds_ret ⟨_, rfl, rfl, rfl⟩
/-- a plate of 24 times 4 cells -/
abbrev plD (u v : DotsL) : DV := .agg ((pqF ⟨48, 12, dotsF u, dotsF v⟩).map .f)
theorem d_pvalid {u v : DotsL} (hu : Sz 48 12 u) (hv : Sz 48 12 v) : DK 33 [plD u v] fun d => d = .bool true := by
  refine dfn_ok cp33 rfl GHro fun Z0 lo => ?_
  repeat (first | refine dw_want rfl rfl ?_ | refine dw_pickF rfl rfl ?_ | refine dw_p rfl ?_ | refine dw_l rfl ?_ | refine dw_a rfl ?_ | refine dw_nil ?_ | refine ds_seq ?_ | refine ds_ops mix (fun base => ?_))
  refine ds_if (t := false) rfl (fun ht => by cases ht) (fun _ => ?_)
  repeat (first | refine dw_want rfl rfl ?_ | refine dw_pickF rfl rfl ?_ | refine dw_p rfl ?_ | refine dw_l rfl ?_ | refine dw_nil ?_ | refine ds_seq ?_ | refine ds_ops mix (fun base => ?_) | refine ds_skip ?_)
  refine ds_if (t := false) rfl (fun ht => by cases ht) (fun _ => ?_)
  repeat (first | refine dw_p rfl ?_ | refine dw_l rfl ?_ | refine ds_seq ?_ | refine ds_ops mix (fun base => ?_) | refine ds_skip ?_)
  refine dw_cf rfl rfl (d_filled (w := 48) (h := 12) (by omega) (by omega) hu) ?_
  rintro _ rfl
  repeat (first | refine dw_want rfl rfl ?_ | refine dw_p rfl ?_ | refine dw_l rfl ?_)
  refine dw_cf rfl rfl (d_filled (w := 48) (h := 12) (by omega) (by omega) hv) ?_
  rintro _ rfl
  repeat (first | refine dw_pickT rfl rfl ?_ | refine dw_p rfl ?_ | refine dw_nil ?_)
  exact ds_ret ⟨_, rfl, rfl, rfl⟩

def pageC (d : DotsL) : Cells := cutP ((toC' 48 12 d).map trimC)
theorem toC_len (d : DotsL) : (toC' 48 12 d).length = 4 := by simp [toC']
theorem toC_row {d : DotsL} {r : List Int} (h : r ∈ toC' 48 12 d) : r.length = 24 := by
  obtain ⟨_, _, rfl⟩ := List.mem_map.1 h
  simp
def filT (l : List FD) (k : Nat) : List FD := l.take k ++ List.replicate (l.length - k) (.c .nils)
theorem filT_set {l : List FD} {k : Nat} {x : FD} (h : l[k]? = some x) : (filT l k).set k x = filT l (k + 1) := by
  have hk := (List.getElem?_eq_some_iff.1 h).1
  have h1 : (l.take k).length = k := by rw [List.length_take]; omega
  unfold filT
  rw [List.set_append_right _ _ (by omega), h1, Nat.sub_self, show l.length - k = (l.length - (k + 1)) + 1 by omega, List.replicate_succ, List.set_cons_zero, List.take_add_one, h]
  simp
theorem filT_len {l : List FD} {k : Nat} (h : k ≤ l.length) : (filT l k).length = l.length := by
  unfold filT
  rw [List.length_append, List.length_take, List.length_replicate]; omega
theorem stB_set (l : List FD) (k : Nat) (x : FD) : stB (.data l) k [.f x] = .data (l.set k x) := rfl
set_option maxHeartbeats 4000000 in
theorem d_lower {d : DotsL} {F : FuncId} {t : List Bool → List Bool} (hF : isFn Tryd.prog F = true) (ht : ∀ r, r.length = 48 → DK F [rowD r] (fun x => x = rowD (t r)) ∧ (t r).length = 48) (hd : Sz 48 12 d) : DK 38 [dotsV d, .int 48, .int 12, .one (.f (.c (.fn F [])))] fun x => x = .one (.f (pgF (pageC (d.map t)))) := by
  refine dfn_ok cp38 rfl GHro fun Z0 lo => ?_
  have hl := hd.1
  have hd2 : Sz 48 12 (d.map t) := ⟨by simp [hl], fun r hr => by
    obtain ⟨r', hr', rfl⟩ := List.mem_map.1 hr
    exact (ht r' (hd.2 r' hr')).2⟩
  have hrl : ((rowsF (d.map t)).map rowF).length = 12 := by rw [List.length_map, rowsF_len, hd2.1]
  repeat (first | refine dw_p rfl ?_ | refine dw_nil ?_ | refine ds_seq ?_ | refine ds_ops mix (fun base => ?_))
  refine dw_mk (n := d.length) (m := d.length) [.c .nils] rfl rfl ⟨rfl, rfl, trivial⟩ rfl (by decide) (Nat.le_refl _) (by omega) (by omega) ?_
  rw [hl]
  repeat (first | refine dw_p rfl ?_ | refine dw_nil ?_ | refine ds_seq ?_ | refine ds_ops mix (fun base => ?_) | refine ds_block ?_)
  rw [hl]
  refine ds_loop (fun m E S nk => ∃ k : Nat, k + m = 12 ∧ E = [(1, .int 48), (2, .int 12), (3, .one (.f (.c (.fn F [])))), (9, .one (.own 0 0 12 1)), (21, dotsV d), (22, .int 12), (23, .int k)] ∧ S = [(0, .data (filT ((rowsF (d.map t)).map rowF) k))] ∧ nk = 1) ⟨12, _, _, _, [], ?wk, 0, by omega, rfl, rfl, rfl⟩ ?_
  case wk => exact ⟨by repeat (first | exact trivial | refine ⟨rfl, rfl, ?_⟩), ⟨by rw [filT, hrl, reps'_one]; rfl, rfl, rfl, trivial⟩, rfl, rfl⟩
  rintro m E S nk ⟨k, hk, rfl, rfl, rfl⟩
  repeat (first | refine dw_p rfl ?_ | refine dw_nil ?_ | refine ds_seq ?_ | refine ds_ops mix (fun base => ?_))
  refine ds_if rfl (fun hb => ?_) (fun hb => ?_)
  · have hk12 : k < 12 := by simp at hb; omega
    obtain ⟨r, hr, hrl2⟩ := hd.row (y := k) hk12
    have e1 := rowF_at (rowsF_at hr)
    have l0 : k < d.length := by omega
    have hx : ((rowsF (d.map t)).map rowF)[k]? = some (rowF ((t r).map boF)) := by simp [rowsF, hr]
    have hset := filT_set hx
    repeat (first | refine dw_p rfl ?_ | refine dw_l rfl ?_ | refine dw_if rfl rfl (by omega) (by decide) (by assumption) ?_ | refine dw_nil ?_ | refine ds_seq ?_ | refine ds_ops mix (fun base => ?_) | refine ds_skip ?_ | refine ds_block ?_)
    refine dw_cv0 rfl hF rfl rfl (ht r hrl2).1 ?_
    rintro _ rfl
    repeat (first | refine dw_io1 rfl rfl (by omega) (by omega) ?_)
    refine dw_st rfl rfl rfl rfl rfl (show Int.toNat (k : Int) + 1 ≤ (filT ((rowsF (d.map t)).map rowF) k).length by rw [filT_len (by omega), hrl]; simp; omega) rfl ?_
    rw [show stB (.data (filT ((rowsF (d.map t)).map rowF) k)) (Int.toNat (k : Int)) [.f (rowF ((t r).map boF))] = .data (filT ((rowsF (d.map t)).map rowF) (k + 1)) from congrArg Bk.data hset]
    repeat (first | refine dw_p rfl ?_ | refine dw_nil ?_ | refine ds_ops mix (fun base => ?_))
    refine ⟨m - 1, by omega, _, _, _, [], ?wk2, k + 1, by omega, rfl, rfl, rfl⟩
    case wk2 => exact ⟨by repeat (first | exact trivial | refine ⟨by first | rfl | exact congrArg (fun z => some (DV.int z)) (dwrap (by omega) (by omega)), rfl, ?_⟩), by repeat (first | exact trivial | refine ⟨by first | rfl | exact congrArg (fun z => some (Bk.data z)) (by assumption), rfl, rfl, ?_⟩), rfl, rfl⟩
  · have hk12 : k = 12 := by simp at hb; omega
    subst hk12
    have hfil : filT ((rowsF (d.map t)).map rowF) 12 = (rowsF (d.map t)).map rowF := by rw [filT, hrl, List.take_of_length_le (by omega)]; simp
    rw [hfil]
    have hfl : ((rowsF (d.map t)).map rowF).length = 12 * 1 := by rw [hrl]
    have h42 := d_to (n := 48) (m := 12) (by omega) (by omega) hd2
    rw [show gridD ((48 : Nat) : Int) ((12 : Nat) : Int) (d.map t) = .agg [.f (.c (.int .i64 48)), .f (.c (.int .i64 12)), .f (.sl 1 12 ((rowsF (d.map t)).map rowF))] by rw [gridD, hd2.1]; rfl] at h42
    iterate 1 (first | refine ds_exit ?_)
    refine ds_keep (SubA.cons (k := 1) rfl (SubA.cons (k := 2) rfl (SubA.cons (k := 9) rfl (SubA.nil _)))) (SubA.cons (k := 0) rfl (SubA.nil _)) ?_
    refine ds_frz 0 rfl (by repeat' (first | exact trivial | rfl | assumption | refine ⟨?_, ?_⟩)) (by repeat' (first | exact trivial | rfl | assumption | refine ⟨?_, ?_⟩)) ?_
    repeat (first | refine dw_p rfl ?_ | refine ds_seq ?_ | refine ds_ops mix (fun base => ?_))
    refine dw_cf rfl rfl h42 ?_
    rintro _ (⟨_, _, rfl⟩ | ⟨h, _⟩)
    rotate_left
    · exact absurd ⟨rfl, rfl⟩ h
    have hXl := toC_len (d.map t)
    have hXr := fun r => toC_row (d := d.map t) (r := r)
    rw [pageC]
    generalize toC' 48 12 (d.map t) = X at *
    repeat (first | refine dw_p rfl ?_ | refine dw_nil ?_ | refine ds_seq ?_ | refine ds_ops mix (fun base => ?_))
    refine ds_if (t := false) rfl (fun ht => by cases ht) (fun _ => ?_)
    repeat (first | refine dw_p rfl ?_ | refine ds_seq ?_ | refine ds_ops mix (fun base => ?_) | refine ds_skip ?_)
    refine dw_mk (n := 0) (m := X.length) [.c .nils] rfl rfl ⟨rfl, rfl, trivial⟩ rfl (by decide) (Nat.zero_le _) (by omega) (by omega) ?_
    repeat (first | refine dw_p rfl ?_ | refine dw_nil ?_ | refine ds_seq ?_ | refine ds_ops mix (fun base => ?_) | refine ds_block ?_)
    rw [hXl]
    refine ds_keep (SubA.cons (k := 12) rfl (SubA.cons (k := 14) rfl (SubA.cons (k := 15) rfl (SubA.cons (k := 48) rfl (SubA.cons (k := 49) rfl (SubA.cons (k := 50) rfl (SubA.nil _))))))) (SubA.refl _) ?_
    have hYl : (X.map trimC).length = 4 := by simp [hXl]
    refine ds_loop (fun m E S nk => ∃ k e : Nat, k + m = 4 ∧ e ≤ k ∧ cutP ((X.map trimC).take k) = (X.map trimC).take e ∧ E = [(14, .one (.own 1 0 k 1)), (15, .int e), (48, cellsV X), (49, .int 4), (50, .int k)] ∧ S = [(1, .data (((cellsF (X.map trimC)).map rowF).take k))] ∧ nk = 2) ⟨4, _, _, _, [], ?wk3, 0, 0, by omega, by omega, rfl, rfl, rfl, rfl⟩ ?_
    case wk3 => exact ⟨by repeat (first | exact trivial | refine ⟨by first | rfl | exact congrArg (fun z => some (DV.int z)) (dwrap (by omega) (by omega)), rfl, ?_⟩), by repeat (first | exact trivial | refine ⟨by first | rfl | exact congrArg (fun z => some (Bk.data z)) (by assumption), rfl, rfl, ?_⟩), rfl, rfl⟩
    rintro m E S nk ⟨k, e, hk, he, hcut, rfl, rfl, rfl⟩
    have hRl : ((cellsF (X.map trimC)).map rowF).length = 4 := by rw [List.length_map, cellsF_len, hYl]
    repeat (first | refine dw_p rfl ?_ | refine dw_nil ?_ | refine ds_seq ?_ | refine ds_ops mix (fun base => ?_))
    refine ds_if rfl (fun hb => ?_) (fun hb => ?_)
    · have hk4 : k < 4 := by simp at hb; omega
      obtain ⟨r, hr⟩ : ∃ r, X[k]? = some r := ⟨_, List.getElem?_eq_getElem (by omega)⟩
      have e1 := rowF_at (cellsF_at hr)
      have l0 : k < X.length := by omega
      have hr24 := hXr r (List.mem_of_getElem? hr)
      have hx : ((cellsF (X.map trimC)).map rowF)[k]? = some (rowF ((trimC r).map cF)) := by simp [cellsF, hr]
      have htk : ((cellsF (X.map trimC)).map rowF).take k ++ [rowF ((trimC r).map cF)] = ((cellsF (X.map trimC)).map rowF).take (k + 1) := by rw [List.take_add_one, hx]; rfl
      have hlk : (((cellsF (X.map trimC)).map rowF).take k).length = k * 1 := by rw [List.length_take]; omega
      have hy : (X.map trimC)[k]? = some (trimC r) := by simp [hr]
      have hct := trimG_take (z := isE) hy
      repeat (first | refine dw_p rfl ?_ | refine dw_l rfl ?_ | refine dw_if rfl rfl (by omega) (by decide) (by assumption) ?_ | refine dw_nil ?_ | refine ds_seq ?_ | refine ds_ops mix (fun base => ?_) | refine ds_skip ?_ | refine ds_block ?_)
      refine dw_cf rfl rfl (d_trim (c := r) (by omega)) ?_
      rintro _ rfl
      repeat (first | refine dw_a rfl ?_)
      refine dw_app (m := 1) (q := [rowF ((trimC r).map cF)]) rfl rfl rfl (subL_all _ hlk) ⟨rfl, rfl, _, rfl, rfl⟩ (by omega) (by omega) (by decide) rfl ?_
      rw [htk]
      have e2 : subL (((cellsF (X.map trimC)).map rowF).take (k + 1)) (Int.toNat (k : Int)) 1 = some [rowF ((trimC r).map cF)] := by
        have := one_at (r := ((cellsF (X.map trimC)).map rowF).take (k + 1)) (x := k) (b := rowF ((trimC r).map cF)) (by rw [List.getElem?_take, if_pos (by omega)]; exact hx)
        rwa [Nat.mul_one] at this
      repeat (first | refine dw_p rfl ?_ | refine dw_io1 rfl rfl (by omega) (by omega) ?_ | refine dw_l (dload_data rfl rfl (by assumption) rfl) ?_ | refine dw_nil ?_ | refine ds_seq ?_ | refine ds_ops mix (fun base => ?_))
      refine ds_if (t := decide ((((trimC r).map cF).length : Int) > 0)) rfl (fun hb => ?_) (fun hb => ?_)
      · have hz : isE (trimC r) = false := by
          cases hq : trimC r with
          | nil => rw [hq] at hb; simp at hb
          | cons a b => rfl
        rw [hz, if_neg (by decide)] at hct
        repeat (first | refine dw_p rfl ?_ | refine dw_nil ?_ | refine ds_ops mix (fun base => ?_))
        refine ⟨m - 1, by omega, _, _, _, [(1, 3)], ?wk4, k + 1, k + 1, by omega, Nat.le_refl _, hct, rfl, rfl, rfl⟩
        case wk4 => exact ⟨by repeat (first | exact trivial | refine ⟨by first | rfl | exact congrArg (fun z => some (DV.int z)) (dwrap (by omega) (by omega)), rfl, ?_⟩), by repeat (first | exact trivial | refine ⟨by first | rfl | exact congrArg (fun z => some (Bk.data z)) (by assumption), rfl, rfl, ?_⟩), rfl, rfl⟩
      · have hz : isE (trimC r) = true := by
          cases hq : trimC r with
          | nil => rfl
          | cons a b =>
            rw [hq] at hb
            simp at hb
        rw [hz, if_pos rfl] at hct
        repeat (first | refine dw_p rfl ?_ | refine dw_nil ?_ | refine ds_ops mix (fun base => ?_) | refine ds_skip ?_)
        refine ⟨m - 1, by omega, _, _, _, [(1, 3)], ?wk5, k + 1, e, by omega, by omega, hct.trans hcut, rfl, rfl, rfl⟩
        case wk5 => exact ⟨by repeat (first | exact trivial | refine ⟨by first | rfl | exact congrArg (fun z => some (DV.int z)) (dwrap (by omega) (by omega)), rfl, ?_⟩), by repeat (first | exact trivial | refine ⟨by first | rfl | exact congrArg (fun z => some (Bk.data z)) (by assumption), rfl, rfl, ?_⟩), rfl, rfl⟩
    · have hk4 : k = 4 := by simp at hb; omega
      subst hk4
      have hlk : (((cellsF (X.map trimC)).map rowF).take 4).length = 4 * 1 := by rw [List.length_take]; omega
      rw [List.take_of_length_le (l := X.map trimC) (by omega)] at hcut
      rw [hcut]
      iterate 1 (first | refine ds_exit ?_)
      refine ds_keep (SubA.cons (k := 14) rfl (SubA.cons (k := 15) rfl (SubA.nil _))) (SubA.cons (k := 1) rfl (SubA.nil _)) ?_
      refine ds_frz 1 rfl (by repeat' (first | exact trivial | rfl | assumption | refine ⟨?_, ?_⟩)) (by repeat' (first | exact trivial | rfl | assumption | refine ⟨?_, ?_⟩)) ?_
      repeat (first | refine dw_p rfl ?_ | refine ds_seq ?_ | refine ds_ops mix (fun base => ?_))
      refine dw_sl3 (n := 4) (h := e) (m := ((cellsF (X.map trimC)).map rowF).take 4) rfl rfl rfl (by omega) rfl ?_
      repeat (first | refine dw_p rfl ?_ | refine dw_nil ?_)
      refine ds_ret ⟨_, rfl, rfl, ?_⟩
      rw [Nat.mul_one, List.take_take, Nat.min_eq_left he]
      show _ = DV.one (.f (.sl 1 ((X.map trimC).take e).length ((cellsF ((X.map trimC).take e)).map rowF)))
      rw [show ((X.map trimC).take e).length = e by rw [List.length_take]; omega]
      simp only [cellsF, List.map_take]
theorem d_front {u v : DotsL} (hu : Sz 48 12 u) (hv : Sz 48 12 v) : DK 34 [plD u v] fun d => d = .one (.f (pgF (pageC u))) := by
  refine dfn_ok cp34 rfl GHro fun Z0 lo => ?_
  repeat (first | refine dw_p rfl ?_ | refine dw_l rfl ?_ | refine dw_a rfl ?_ | refine dw_nil ?_ | refine ds_seq ?_ | refine ds_ops mix (fun base => ?_))
  refine dw_cf rfl rfl (d_pvalid hu hv) ?_
  rintro _ rfl
  repeat (first | refine dw_p rfl ?_ | refine dw_nil ?_)
  refine ds_if (t := false) rfl (fun ht => by cases ht) (fun _ => ?_)
  repeat (first | refine dw_p rfl ?_ | refine dw_l rfl ?_ | refine ds_seq ?_ | refine ds_ops mix (fun base => ?_) | refine ds_skip ?_)
  refine dw_cf rfl rfl (d_lower (t := id) is39 (fun r hr => ⟨d_straight (by omega), hr⟩) hu) ?_
  rintro _ rfl
  repeat (first | refine dw_p rfl ?_ | refine dw_nil ?_)
  refine ds_ret ⟨_, rfl, rfl, ?_⟩
  rw [List.map_id]
theorem d_back {u v : DotsL} (hu : Sz 48 12 u) (hv : Sz 48 12 v) : DK 35 [plD u v] fun d => d = .one (.f (pgF (pageC (v.map List.reverse)))) := by
  refine dfn_ok cp35 rfl GHro fun Z0 lo => ?_
  repeat (first | refine dw_p rfl ?_ | refine dw_l rfl ?_ | refine dw_a rfl ?_ | refine dw_nil ?_ | refine ds_seq ?_ | refine ds_ops mix (fun base => ?_))
  refine dw_cf rfl rfl (d_pvalid hu hv) ?_
  rintro _ rfl
  repeat (first | refine dw_p rfl ?_ | refine dw_nil ?_)
  refine ds_if (t := false) rfl (fun ht => by cases ht) (fun _ => ?_)
  repeat (first | refine dw_p rfl ?_ | refine dw_l rfl ?_ | refine ds_seq ?_ | refine ds_ops mix (fun base => ?_) | refine ds_skip ?_)
  refine dw_cf rfl rfl (d_lower (t := List.reverse) is40 (fun r hr => ⟨d_turned (by omega), by simp [hr]⟩) hv) ?_
  rintro _ rfl
  repeat (first | refine dw_p rfl ?_ | refine dw_nil ?_)
  exact ds_ret ⟨_, rfl, rfl, rfl⟩
end Go.Ac

/- Law 34: leaves of plates with labels. -/
namespace Go.Ac
open Go.Ab Go.Proofs
set_option linter.unusedSimpArgs false
set_option maxRecDepth 100000

theorem page_blank : pageC (blankD 48 12) = [] := by decide +kernel
theorem blank_rev : (blankD 48 12).map List.reverse = blankD 48 12 := by decide +kernel
theorem page_all : ((List.range 12).all fun n => (List.range 3).all fun k => decide (pageC (fromC 48 12 [hdrRow (n + 1) k]) = [hdrRow (n + 1) k])) = true := by decide +kernel
theorem page_hdr {n k : Nat} (h1 : 1 ≤ n) (h2 : n ≤ 12) (h3 : k ≤ 2) : pageC (fromC 48 12 [hdrRow n k]) = [hdrRow n k] := by
  have := List.all_eq_true.1 (List.all_eq_true.1 page_all (n - 1) (List.mem_range.2 (by omega))) k (List.mem_range.2 (by omega))
  rw [show n - 1 + 1 = n by omega] at this
  exact of_decide_eq_true this
def hdr0 : DV := .agg [.f (.c (.int .i64 0)), .f (.c (.int .i64 0)), .f (.c (.int .i64 0)), .f (.c (.bool false)), .f (.c (.int .i64 0)), .f (.c (.int .i64 0))]
theorem d_header0 : DK 36 [.one (.f (pgF [])), .int 24] fun d => d = .tup [hdr0, .bool false] := by
  refine dfn_ok cp36 rfl GHro fun Z0 lo => ?_
  repeat (first | refine dw_p rfl ?_ | refine dw_a rfl ?_ | refine dw_nil ?_ | refine ds_seq ?_ | refine ds_ops mix (fun base => ?_))
  refine ds_if (t := true) rfl (fun _ => ?_) (fun ht => by cases ht)
  repeat (first | refine dw_p rfl ?_ | refine dw_st rfl rfl rfl rfl rfl (Nat.le_of_ble_eq_true rfl) rfl ?_ | refine dw_nil ?_ | refine ds_seq ?_ | refine ds_ops mix (fun base => ?_))
  exact ds_ret ⟨_, rfl, rfl, rfl⟩
theorem d_header1 {n k : Nat} (h : DK 41 [celD (hdrRow n k)] fun d => d = .tup [hdrA n k, .int 0]) : DK 36 [.one (.f (pgF [hdrRow n k])), .int 24] fun d => d = .tup [hdrA n k, .bool true] := by
  refine dfn_ok cp36 rfl GHro fun Z0 lo => ?_
  have e1 : subL [rowF ((hdrRow n k).map cF)] (0 * 1) 1 = some [rowF ((hdrRow n k).map cF)] := rfl
  have l0 : 0 < 1 := by omega
  repeat (first | refine dw_p rfl ?_ | refine dw_a rfl ?_ | refine dw_nil ?_ | refine ds_seq ?_ | refine ds_ops mix (fun base => ?_))
  refine ds_if (t := false) rfl (fun ht => by cases ht) (fun _ => ?_)
  repeat (first | refine dw_p rfl ?_ | refine dw_l rfl ?_ | refine dw_if0 rfl rfl (by omega) (by decide) (by assumption) ?_ | refine ds_seq ?_ | refine ds_ops mix (fun base => ?_) | refine ds_skip ?_)
  refine dw_cf rfl rfl h ?_
  rintro _ rfl
  repeat (first | refine dw_want rfl rfl ?_ | refine dw_pickT rfl rfl ?_ | refine dw_p rfl ?_ | refine dw_l rfl ?_ | refine dw_lk rfl ?_ | refine dw_a rfl ?_ | refine dw_st rfl rfl rfl rfl rfl (Nat.le_of_ble_eq_true rfl) rfl ?_ | refine dw_nil ?_ | refine ds_seq ?_ | refine ds_ops mix (fun base => ?_))
  exact ds_ret ⟨_, rfl, rfl, rfl⟩
theorem leaf_blank : LeafOk ⟨48, 12, dotsF (blankD 48 12), dotsF (blankD 48 12)⟩ none := by
  have hb := Sz.blankD 48 12
  have h34 := d_front hb hb
  have h35 := d_back hb hb
  rw [blank_rev] at h35
  rw [page_blank] at h34 h35
  refine dfn_ok cp31 rfl GHro fun Z0 lo => ?_
  repeat (first | refine dw_p rfl ?_ | refine dw_l rfl ?_ | refine dw_a rfl ?_ | refine dw_nil ?_ | refine ds_seq ?_ | refine ds_ops mix (fun base => ?_))
  refine dw_cf rfl rfl (d_pvalid hb hb) ?_
  rintro _ rfl
  repeat (first | refine dw_p rfl ?_ | refine dw_nil ?_)
  refine ds_if (t := false) rfl (fun ht => by cases ht) (fun _ => ?_)
  repeat (first | refine dw_l rfl ?_ | refine dw_lk rfl ?_ | refine ds_seq ?_ | refine ds_ops mix (fun base => ?_) | refine ds_skip ?_)
  refine dw_cf rfl rfl h34 ?_
  rintro _ rfl
  skip
  refine dw_cf rfl rfl h35 ?_
  rintro _ rfl
  repeat (first | refine dw_p rfl ?_ | refine dw_l rfl ?_ | refine dw_ai rfl rfl rfl ?_ | refine dw_st rfl rfl rfl rfl rfl (Nat.le_of_ble_eq_true rfl) rfl ?_ | refine dw_nil ?_ | refine ds_seq ?_ | refine ds_ops mix (fun base => ?_))
  refine dw_cf rfl rfl d_header0 ?_
  rintro _ rfl
  repeat (first | refine dw_skip rfl rfl ?_ | refine dw_pickT rfl rfl ?_ | refine dw_p rfl ?_ | refine dw_a rfl ?_ | refine dw_st rfl rfl rfl rfl rfl (Nat.le_of_ble_eq_true rfl) rfl ?_ | refine dw_nil ?_ | refine ds_seq ?_ | refine ds_ops mix (fun base => ?_))
  refine ds_if (t := true) rfl (fun _ => ?_) (fun ht => by cases ht)
  repeat (first | refine dw_p rfl ?_ | refine dw_st rfl rfl rfl rfl rfl (Nat.le_of_ble_eq_true rfl) rfl ?_ | refine dw_nil ?_ | refine ds_seq ?_ | refine ds_ops mix (fun base => ?_))
  exact ds_ret ⟨_, rfl, rfl, rfl⟩
theorem leaf_hdr {n k : Nat} (h1 : 1 ≤ n) (h2 : n ≤ 12) (h3 : k ≤ 2) : LeafOk ⟨48, 12, dotsF (fromC 48 12 [hdrRow n k]), dotsF (blankD 48 12)⟩ (some ⟨(n, k), pgF [hdrRow n k], pgF []⟩) := by
  have hb := Sz.blankD 48 12
  have hu := fromC_sz 48 12 [hdrRow n k]
  have h34 := d_front hu hb
  have h35 := d_back hu hb
  rw [blank_rev, page_blank] at h35
  rw [page_hdr h1 h2 h3] at h34
  refine dfn_ok cp31 rfl GHro fun Z0 lo => ?_
  repeat (first | refine dw_p rfl ?_ | refine dw_l rfl ?_ | refine dw_a rfl ?_ | refine dw_nil ?_ | refine ds_seq ?_ | refine ds_ops mix (fun base => ?_))
  refine dw_cf rfl rfl (d_pvalid hu hb) ?_
  rintro _ rfl
  repeat (first | refine dw_p rfl ?_ | refine dw_nil ?_)
  refine ds_if (t := false) rfl (fun ht => by cases ht) (fun _ => ?_)
  repeat (first | refine dw_l rfl ?_ | refine dw_lk rfl ?_ | refine ds_seq ?_ | refine ds_ops mix (fun base => ?_) | refine ds_skip ?_)
  refine dw_cf rfl rfl h34 ?_
  rintro _ rfl
  skip
  refine dw_cf rfl rfl h35 ?_
  rintro _ rfl
  repeat (first | refine dw_p rfl ?_ | refine dw_l rfl ?_ | refine dw_ai rfl rfl rfl ?_ | refine dw_st rfl rfl rfl rfl rfl (Nat.le_of_ble_eq_true rfl) rfl ?_ | refine dw_nil ?_ | refine ds_seq ?_ | refine ds_ops mix (fun base => ?_))
  refine dw_cf rfl rfl (d_header1 (hdrE h1 h2 h3).ok.2.1) ?_
  rintro _ rfl
  repeat (first | refine dw_want rfl rfl ?_ | refine dw_pickF rfl rfl ?_ | refine dw_p rfl ?_ | refine dw_l rfl ?_ | refine dw_a rfl ?_ | refine dw_st rfl rfl rfl rfl rfl (Nat.le_of_ble_eq_true rfl) rfl ?_ | refine dw_nil ?_ | refine ds_seq ?_ | refine ds_ops mix (fun base => ?_))
  refine ds_if (t := false) rfl (fun ht => by cases ht) (fun _ => ?_)
  repeat (first | refine dw_p rfl ?_ | refine dw_l rfl ?_ | refine dw_nil ?_ | refine ds_seq ?_ | refine ds_ops mix (fun base => ?_) | refine ds_skip ?_)
  refine ds_if (t := false) rfl (fun ht => by cases ht) (fun _ => ?_)
  repeat (first | refine dw_p rfl ?_ | refine dw_l rfl ?_ | refine dw_st rfl rfl rfl rfl rfl (Nat.le_of_ble_eq_true rfl) rfl ?_ | refine dw_nil ?_ | refine ds_seq ?_ | refine ds_ops mix (fun base => ?_) | refine ds_skip ?_)
  exact ds_ret ⟨_, rfl, rfl, rfl⟩
end Go.Ac

/- Law 34: Check. -/
namespace Go.Ac
open Go.Ab Go.Proofs
set_option linter.unusedSimpArgs false

def labLeaf (p : Lb) : Option Lf := match okL p with
  | true => some ⟨p, pgF [hdrRow p.1.toNat p.2.toNat], pgF []⟩
  | false => none
theorem leaf_lab {p : Lb} (h12 : p.1 ≤ 12) : LeafOk (labP p) (labLeaf p) := by
  cases hok : okL p with
  | true =>
    obtain ⟨n, k, rfl, h1, h2, h3⟩ := okL_nat hok h12
    have := leaf_hdr h1 h2 h3
    rw [labP, labU, labLeaf, hok]
    exact this
  | false =>
    rw [labP, labU, labLeaf, hok]
    exact leaf_blank
/-- what Check says of plates with the leaves rs -/
def chk (l : List Pq) (rs : List (Option Lf)) : Nat × Int := match l with
  | [] => (0, 340)
  | q0 :: _ => scan q0 0 none (l.zip rs)
structure Lvs (l : List Pq) (rs : List (Option Lf)) : Prop where
  len : rs.length = l.length
  ok : ∀ (i : Nat) q r, l[i]? = some q → rs[i]? = some r → LeafOk q r
  sm : ∀ x, some x ∈ rs → 0 ≤ x.lb.1 ∧ x.lb.1 < 100000 ∧ 0 ≤ x.lb.2 ∧ x.lb.2 < 100000
  n : l.length < 1000000
theorem o_volume0 {d : DC} (hd : d = pqsC [] ∨ d = .f (.c .nils)) : DKO 13 [.one d] fun d S nk => ∃ lv, d = .tup [lv, .int 0, .int 340] := by
  refine dfnO_ok cp13 rfl GHro fun Z0 lo => ?_
  rcases hd with rfl | rfl <;>
  · repeat (first | refine dw_p rfl ?_ | refine dw_a rfl ?_ | refine dw_nil ?_ | refine ds_seq ?_ | refine ds_ops mix (fun base => ?_))
    refine ds_if (t := true) rfl (fun _ => ?_) (fun ht => by cases ht)
    repeat (first | refine dw_st rfl rfl rfl rfl rfl (Nat.le_of_ble_eq_true rfl) rfl ?_ | refine dw_nil ?_ | refine ds_seq ?_ | refine ds_ops mix (fun base => ?_))
    exact ds_ret ⟨_, rfl, rfl, _, SubA.refl _, _, rfl⟩
theorem d_check_of {d : DC} (hfr : frV (.one d) = true) {i e : Int} (h : DKO 13 [.one d] fun d S nk => ∃ lv, d = .tup [lv, .int i, .int e]) : DK 9 [.one d] fun d => d = .tup [.int i, .int e] := by
  refine dfn_ok cp9 rfl GHro fun Z0 lo => ?_
  repeat (first | refine dw_p rfl ?_ | refine dw_nil ?_ | refine ds_seq ?_ | refine ds_ops mix (fun base => ?_))
  refine dw_cfr rfl (by unfold allB; rw [hfr]; rfl) h ?_
  rintro _ S' nk' ⟨lv, rfl⟩
  repeat (first | refine dw_p rfl ?_ | refine dw_nil ?_ | refine ds_seq ?_ | refine ds_ops mix (fun base => ?_))
  exact ds_ret ⟨_, rfl, rfl, rfl⟩
theorem d_check {l : List Pq} {rs : List (Option Lf)} (h : Lvs l rs) : DK 9 [.one (pqsC l)] fun d => d = .tup [.int (chk l rs).1, .int (chk l rs).2] := by
  refine d_check_of rfl ?_
  cases l with
  | nil => exact o_volume0 (.inl rfl)
  | cons q l => exact o_volume h.len h.ok h.sm rfl h.n
theorem d_check0 : DK 9 [nilD] fun d => d = .tup [.int 0, .int 340] := d_check_of rfl (o_volume0 (.inr rfl))
theorem d_format : DK 8 [] fun d => d = fmtD := by
  refine dfn_ok cp8 rfl GHro fun Z0 lo => ?_
  repeat (first | refine dw_p rfl ?_ | refine dw_a rfl ?_ | refine dw_st rfl rfl rfl rfl rfl (Nat.le_of_ble_eq_true rfl) rfl ?_ | refine dw_nil ?_ | refine ds_seq ?_ | refine ds_ops mix (fun base => ?_))
  exact ds_ret ⟨_, rfl, rfl, rfl⟩

/-- .. of plates with labels -/
def scanL : Nat → Option Lb → List Lb → Nat × Int
  | i, _, [] => (i, 0)
  | i, prev, p :: r => if okL p = true then if okLb prev p = true then scanL (i + 1) (some p) r else (i, 340) else (i, 250)
def chkL : List Lb → Nat × Int
  | [] => (0, 340)
  | p :: r => scanL 0 none (p :: r)
theorem scan_lab {q0 : Pq} (hw : q0.w = 48) (hh : q0.h = 12) : ∀ (l : List Lb) (i : Nat) (prev : Option Lb), scan q0 i prev ((l.map labP).zip (l.map labLeaf)) = scanL i prev l
  | [], i, prev => rfl
  | p :: l, i, prev => by
    simp only [List.map_cons, List.zip_cons_cons, scanL]
    cases hok : okL p with
    | false =>
      rw [show labLeaf p = none by rw [labLeaf, hok], if_neg (by decide)]
      rfl
    | true =>
      rw [show labLeaf p = some ⟨p, pgF [hdrRow p.1.toNat p.2.toNat], pgF []⟩ by rw [labLeaf, hok], if_pos rfl, scan, if_neg (by rw [hw, hh]; simp [labP])]
      rw [scan_lab hw hh l]
theorem lvs_lab {l : List Lb} (hn : l.length < 1000000) (h12 : ∀ p ∈ l, p.1 ≤ 12) : Lvs (l.map labP) (l.map labLeaf) := by
  refine ⟨by simp, fun i q r hq hr => ?_, fun x hx => ?_, by simpa using hn⟩
  · rw [List.getElem?_map] at hq hr
    cases hp : l[i]? with
    | none => rw [hp] at hq; cases hq
    | some p =>
      rw [hp] at hq hr
      obtain rfl := Option.some.inj hq
      obtain rfl := Option.some.inj hr
      exact leaf_lab (h12 p (List.mem_of_getElem? hp))
  · obtain ⟨p, hp, he⟩ := List.mem_map.1 hx
    have h1 := h12 p hp
    unfold labLeaf at he
    split at he
    · rename_i hok
      obtain rfl := Option.some.inj he
      simp only [okL, Bool.and_eq_true, decide_eq_true_eq] at hok
      exact ⟨by show 0 ≤ p.1; omega, by show p.1 < 100000; omega, by show 0 ≤ p.2; omega, by show p.2 < 100000; omega⟩
    · cases he
theorem chk_lab (l : List Lb) : chk (l.map labP) (l.map labLeaf) = chkL l := by
  cases l with
  | nil => rfl
  | cons p l =>
    show scan (labP p) 0 none (((p :: l).map labP).zip ((p :: l).map labLeaf)) = _
    rw [scan_lab rfl rfl]
    rfl
theorem d_checkL {l : List Lb} (hn : l.length < 1000000) (h12 : ∀ p ∈ l, p.1 ≤ 12) : DK 9 [.one (pqsC (l.map labP))] fun d => d = .tup [.int (chkL l).1, .int (chkL l).2] := by
  have := d_check (lvs_lab hn h12)
  rw [chk_lab] at this
  exact this
end Go.Ac

/- Law 34: the fixed examples. -/
namespace Go.Ac
open Go.Ab Go.Proofs
set_option linter.unusedSimpArgs false

def blankQ : Pq := ⟨48, 12, dotsF (blankD 48 12), dotsF (blankD 48 12)⟩
theorem lvs_two : Lvs [labP (1, 0), blankQ] [labLeaf (1, 0), none] := by
  refine ⟨rfl, fun i q r hq hr => ?_, fun x hx => ?_, by show 2 < 1000000; omega⟩
  · match i with
    | 0 =>
      obtain rfl := Option.some.inj hq
      obtain rfl := Option.some.inj hr
      exact leaf_lab (p := (1, 0)) (by decide)
    | 1 =>
      obtain rfl := Option.some.inj hq
      obtain rfl := Option.some.inj hr
      exact leaf_blank
    | i + 2 => cases hq
  · simp only [List.mem_cons, List.not_mem_nil, or_false] at hx
    rcases hx with hx | hx
    · have : labLeaf (1, 0) = some ⟨(1, 0), pgF [hdrRow (1 : Int).toNat (0 : Int).toNat], pgF []⟩ := rfl
      rw [this] at hx
      obtain rfl := Option.some.inj hx
      decide
    · cases hx
theorem chk_two : chk [labP (1, 0), blankQ] [labLeaf (1, 0), none] = (1, 250) := by
  have : labLeaf (1, 0) = some ⟨(1, 0), pgF [hdrRow (1 : Int).toNat (0 : Int).toNat], pgF []⟩ := rfl
  rw [this]
  rfl
set_option maxHeartbeats 4000000 in
theorem d_sanity : DK 5 [] fun d => d = .bool true := by
  have c1 := d_checkL (l := [(1, 0), (2, 0), (2, 1), (3, 0)]) (by decide) (by decide)
  have c2 := d_checkL (l := [(1, 0), (3, 0)]) (by decide) (by decide)
  have c3 := d_checkL (l := [(2, 0)]) (by decide) (by decide)
  have c4 := d_check lvs_two
  rw [chk_two] at c4
  rw [show chkL [(1, 0), (2, 0), (2, 1), (3, 0)] = (4, 0) by decide +kernel] at c1
  rw [show chkL [(1, 0), (3, 0)] = (1, 340) by decide +kernel] at c2
  rw [show chkL [(2, 0)] = (0, 340) by decide +kernel] at c3
  refine dfn_ok cp5 rfl GHro fun Z0 lo => ?_
  repeat (first | refine dw_p rfl ?_ | refine dw_a rfl ?_ | refine dw_nil ?_ | refine ds_seq ?_ | refine ds_ops mix (fun base => ?_))
  refine dw_cf rfl rfl d_format ?_
  rintro _ rfl
  refine dw_frz 0 rfl (by repeat' (first | exact trivial | rfl | assumption | refine ⟨?_, ?_⟩)) (by repeat' (first | exact trivial | rfl | assumption | refine ⟨?_, ?_⟩)) ?_
  refine dw_cf rfl rfl (d_labelled (l := [(1, 0), (2, 0), (2, 1), (3, 0)]) (by decide) (by decide)) ?_
  rintro _ rfl
  refine dw_cf rfl rfl c1 ?_
  rintro _ rfl
  repeat (first | refine dw_p rfl ?_ | refine dw_a rfl ?_ | refine dw_nil ?_ | refine ds_seq ?_ | refine ds_ops mix (fun base => ?_))
  refine dw_cf rfl rfl d_format ?_
  rintro _ rfl
  refine dw_frz 1 rfl (by repeat' (first | exact trivial | rfl | assumption | refine ⟨?_, ?_⟩)) (by repeat' (first | exact trivial | rfl | assumption | refine ⟨?_, ?_⟩)) ?_
  refine dw_cf rfl rfl (d_labelled (l := [(1, 0), (3, 0)]) (by decide) (by decide)) ?_
  rintro _ rfl
  refine dw_cf rfl rfl c2 ?_
  rintro _ rfl
  repeat (first | refine dw_p rfl ?_ | refine dw_a rfl ?_ | refine dw_nil ?_ | refine ds_seq ?_ | refine ds_ops mix (fun base => ?_))
  refine dw_cf rfl rfl d_format ?_
  rintro _ rfl
  refine dw_frz 2 rfl (by repeat' (first | exact trivial | rfl | assumption | refine ⟨?_, ?_⟩)) (by repeat' (first | exact trivial | rfl | assumption | refine ⟨?_, ?_⟩)) ?_
  refine dw_cf rfl rfl (d_labelled (l := [(2, 0)]) (by decide) (by decide)) ?_
  rintro _ rfl
  refine dw_cf rfl rfl c3 ?_
  rintro _ rfl
  repeat (first | refine dw_p rfl ?_ | refine dw_nil ?_ | refine ds_seq ?_ | refine ds_ops mix (fun base => ?_))
  refine dw_cf rfl rfl d_check0 ?_
  rintro _ rfl
  repeat (first | refine dw_p rfl ?_ | refine dw_nil ?_ | refine ds_seq ?_ | refine ds_ops mix (fun base => ?_))
  refine dw_cf rfl rfl d_format ?_
  rintro _ rfl
  repeat (first | refine dw_ai rfl rfl rfl ?_)
  refine dw_frz 3 rfl (by repeat' (first | exact trivial | rfl | assumption | refine ⟨?_, ?_⟩)) (by repeat' (first | exact trivial | rfl | assumption | refine ⟨?_, ?_⟩)) ?_
  refine dw_cf rfl rfl (d_labelled (l := [(1, 0)]) (by decide) (by decide)) ?_
  rintro _ rfl
  have e1 : subL (([(1, 0)] : List Lb).map labP |>.flatMap pqF) (0 * 4) 4 = some (pqF (labP (1, 0))) := rfl
  have l0 : 0 < (([(1, 0)] : List Lb).map labP).length := by decide
  repeat (first | refine dw_lk rfl ?_ | refine dw_if0 rfl rfl (by omega) (by decide) (by assumption) ?_)
  refine dw_cfr rfl rfl (o_empty (n := 48) (m := 12) (by omega) (by omega)) ?_
  rintro _ _ _ ⟨rfl, rfl, rfl⟩
  refine dw_frzT 6 rfl (by repeat' (first | exact trivial | rfl | assumption | refine ⟨?_, ?_⟩)) (by repeat' (first | exact trivial | rfl | assumption | refine ⟨?_, ?_⟩)) ?_
  refine dw_frzT 7 rfl (by repeat' (first | exact trivial | rfl | assumption | refine ⟨?_, ?_⟩)) (by repeat' (first | exact trivial | rfl | assumption | refine ⟨?_, ?_⟩)) ?_
  repeat (first | refine dw_ai rfl rfl rfl ?_)
  refine dw_frz 8 rfl (by repeat' (first | exact trivial | rfl | assumption | refine ⟨?_, ?_⟩)) (by repeat' (first | exact trivial | rfl | assumption | refine ⟨?_, ?_⟩)) ?_
  refine dw_cf rfl rfl c4 ?_
  rintro _ rfl
  repeat (first | refine dw_want rfl rfl ?_ | refine dw_pickT rfl rfl ?_ | refine dw_p rfl ?_ | refine dw_nil ?_ | refine ds_seq ?_ | refine ds_ops mix (fun base => ?_))
  exact ds_ret ⟨_, rfl, rfl, rfl⟩
end Go.Ac

/- Law 34: the labels of a list of bytes. -/
namespace Go.Ac
open Go.Ab Go.Proofs
set_option linter.unusedSimpArgs false

theorem wrap8 {n : Int} (h1 : 0 ≤ n) (h2 : n < 256) : IntKind.u8.wrap n = n := by
  simp [IntKind.wrap, IntKind.signed, IntKind.bits]
  omega
def byF (p : Int × Int) : List FD := [.c (.int .u8 p.1), .c (.int .u8 p.2)]
def bysD (l : List (Int × Int)) : DV := .one (.f (.sl 2 l.length (l.flatMap byF)))
def Bys (l : List (Int × Int)) : Prop := ∀ p ∈ l, (0 ≤ p.1 ∧ p.1 < 256) ∧ (0 ≤ p.2 ∧ p.2 < 256)
theorem byF_at {l : List (Int × Int)} {i : Nat} {x : Int × Int} (h : l[i]? = some x) : subL (l.flatMap byF) (i * 2) 2 = some (byF x) := subL_flat (e := 2) (fun _ => rfl) h
def stepL (a : Lb) (x : Int × Int) : Lb := if x.1 % 8 ≤ 3 then (a.1 + 1, 0) else if x.1 % 8 ≤ 5 then (a.1, a.2 + 1) else if x.1 % 8 = 6 then (1 + x.2 % 5, x.2 / 5 % 3) else a
def labsL : Lb → List (Int × Int) → List Lb
  | _, [] => []
  | a, x :: r => stepL a x :: labsL (stepL a x) r
theorem labsL_snoc (x : Int × Int) : ∀ (l : List (Int × Int)) (a : Lb), labsL a (l ++ [x]) = labsL a l ++ [stepL (l.foldl stepL a) x]
  | [], _ => rfl
  | y :: l, a => by simp only [List.cons_append, labsL, List.foldl_cons, labsL_snoc x l (stepL a y)]
theorem labsL_len : ∀ (l : List (Int × Int)) (a : Lb), (labsL a l).length = l.length
  | [], _ => rfl
  | y :: l, a => by simp only [labsL, List.length_cons, labsL_len l]
def lastL (l : List (Int × Int)) (k : Nat) : Lb := (l.take k).foldl stepL (0, 0)
theorem lastL_succ {l : List (Int × Int)} {k : Nat} {x : Int × Int} (h : l[k]? = some x) : lastL l (k + 1) = stepL (lastL l k) x := by
  rw [lastL, List.take_add_one, h]; simp [lastL]
theorem labsL_take {l : List (Int × Int)} {k : Nat} {x : Int × Int} (h : l[k]? = some x) : labsL (0, 0) (l.take (k + 1)) = labsL (0, 0) (l.take k) ++ [lastL l (k + 1)] := by
  rw [lastL_succ h, List.take_add_one, h, Option.toList_some, labsL_snoc]; rfl
theorem stepL_lt {a : Lb} {x : Int × Int} {k : Nat} (ha : 0 ≤ a.1 ∧ a.1 ≤ 5 + (k : Int) ∧ 0 ≤ a.2 ∧ a.2 ≤ 2 + (k : Int)) (hx : 0 ≤ x.1 ∧ 0 ≤ x.2) : 0 ≤ (stepL a x).1 ∧ (stepL a x).1 ≤ 5 + ((k + 1 : Nat) : Int) ∧ 0 ≤ (stepL a x).2 ∧ (stepL a x).2 ≤ 2 + ((k + 1 : Nat) : Int) := by
  unfold stepL
  split
  · simp only; omega
  · split
    · simp only; omega
    · split
      · simp only; omega
      · omega
theorem lastL_lt {l : List (Int × Int)} (hl : Bys l) : ∀ k, 0 ≤ (lastL l k).1 ∧ (lastL l k).1 ≤ 5 + (k : Int) ∧ 0 ≤ (lastL l k).2 ∧ (lastL l k).2 ≤ 2 + (k : Int)
  | 0 => by simp [lastL]
  | k + 1 => by
    have ih := lastL_lt hl k
    by_cases hk : k < l.length
    · obtain ⟨x, hx⟩ : ∃ x, l[k]? = some x := ⟨_, List.getElem?_eq_getElem hk⟩
      have hb := hl x (List.mem_of_getElem? hx)
      rw [lastL_succ hx]
      exact stepL_lt ih ⟨hb.1.1, hb.2.1⟩
    · have : lastL l (k + 1) = lastL l k := by
        unfold lastL
        rw [List.take_of_length_le (by omega), List.take_of_length_le (by omega)]
      rw [this]; omega
/-- the labels -/
def labs (l : List (Int × Int)) : List Lb := labsL (0, 0) (l.take 8)

set_option maxHeartbeats 8000000 in
theorem d_labels {l : List (Int × Int)} (hl : Bys l) : DK 7 [bysD l] fun d => d = lbsV (labs l) := by
  refine dfn_ok cp7 rfl GHro fun Z0 lo => ?_
  repeat (first | refine dw_p rfl ?_ | refine dw_a rfl ?_ | refine dw_st rfl rfl rfl rfl rfl (Nat.le_of_ble_eq_true rfl) rfl ?_ | refine dw_nil ?_ | refine ds_seq ?_ | refine ds_ops mix (fun base => ?_) | refine ds_block ?_)
  refine ds_loop (fun m E S nk => ∃ k : Nat, k + m = min l.length 8 ∧ E = [(0, bysD l), (3, .one (.own 0 0 k 2)), (4, .one (.ptr 1 0)), (5, .int k)] ∧ S = [(0, .data ((labsL (0, 0) (l.take k)).flatMap lbF)), (1, .cells [.f (.c (.int .i64 (lastL l k).1)), .f (.c (.int .i64 (lastL l k).2))])] ∧ nk = 2) ⟨min l.length 8, _, _, _, [], ?wk, 0, by omega, rfl, rfl, rfl⟩ ?_
  case wk => exact ⟨by repeat (first | exact trivial | refine ⟨by first | rfl | exact congrArg (fun z => some (DV.int z)) (dwrap (by omega) (by omega)), rfl, ?_⟩), by repeat (first | exact trivial | refine ⟨by first | rfl | exact congrArg (fun z => some (Bk.data z)) (by assumption), rfl, rfl, ?_⟩), rfl, rfl⟩
  rintro m E S nk ⟨k, hk, rfl, rfl, rfl⟩
  have hfl : ((labsL (0, 0) (l.take k)).flatMap lbF).length = k * 2 := by rw [flat_length (f := lbF) (e := 2) (fun _ => rfl), labsL_len, List.length_take]; omega
  by_cases hkl : k < l.length ∧ k < 8
  · have g1 : decide ((k : Int) < l.length) = true := by simp; omega
    have g2 : decide ((k : Int) < 8) = true := by simp; omega
    obtain ⟨x, hx⟩ : ∃ x, l[k]? = some x := ⟨_, List.getElem?_eq_getElem (by omega)⟩
    have e1 := byF_at hx
    have hb := hl x (List.mem_of_getElem? hx)
    have hlt := lastL_lt hl k
    have hls := lastL_succ hx
    have hlab := labsL_take hx
    have l0 : k < l.length := by omega
    have hnext : (labsL (0, 0) (l.take k)).flatMap lbF ++ lbF (lastL l (k + 1)) = (labsL (0, 0) (l.take (k + 1))).flatMap lbF := by rw [hlab]; simp
    generalize lastL l k = a at *
    have w1 : IntKind.i64.wrap (a.1 + 1) = a.1 + 1 := dwrap (by omega) (by omega)
    have w2 : IntKind.i64.wrap (a.2 + 1) = a.2 + 1 := dwrap (by omega) (by omega)
    have w3 : IntKind.i64.wrap (1 + IntKind.i64.wrap (x.2.tmod 5)) = 1 + x.2 % 5 := by rw [Int.tmod_eq_emod_of_nonneg (by omega), show IntKind.i64.wrap (x.2 % 5) = x.2 % 5 from dwrap (by omega) (by omega), dwrap (by omega) (by omega)]
    have w4 : IntKind.i64.wrap ((IntKind.u8.wrap (x.2.tdiv 5)).tmod 3) = x.2 / 5 % 3 := by
      rw [Int.tdiv_eq_ediv_of_nonneg (by omega), wrap8 (by omega) (by omega), Int.tmod_eq_emod_of_nonneg (by omega), dwrap (by omega) (by omega)]
    have hr : x.1.tmod 8 = x.1 % 8 := Int.tmod_eq_emod_of_nonneg (by omega)
    repeat (first | refine dw_want rfl rfl ?_ | refine dw_pickT rfl rfl ?_ | refine dw_pB rfl (by assumption) ?_ | refine dw_p rfl ?_ | refine dw_nil ?_ | refine ds_seq ?_ | refine ds_ops mix (fun base => ?_))
    refine ds_if rfl (fun _ => ?_) (fun ht => by cases ht)
    repeat (first | refine dw_p rfl ?_ | refine dw_l rfl ?_ | refine dw_if rfl rfl (by omega) (by decide) (by assumption) ?_ | refine dw_nil ?_ | refine ds_seq ?_ | refine ds_ops mix (fun base => ?_) | refine ds_skip ?_ | refine ds_block ?_)
    rw [hr]
    have h8 : x.1 % 8 = 0 ∨ x.1 % 8 = 1 ∨ x.1 % 8 = 2 ∨ x.1 % 8 = 3 ∨ x.1 % 8 = 4 ∨ x.1 % 8 = 5 ∨ x.1 % 8 = 6 ∨ x.1 % 8 = 7 := by omega
    rcases h8 with h | h | h | h | h | h | h | h
    · have hs : stepL a x = (a.1 + 1, 0) := by unfold stepL; rw [h]; rfl
      rw [hls, hs] at hnext
      rw [h]
      refine ds_if (t := true) rfl (fun _ => ?_) (fun ht => by cases ht)
      repeat (first | refine ds_skip ?_)
      refine ds_if (t := true) rfl (fun _ => ?_) (fun ht => by cases ht)
      repeat (first | refine dw_p rfl ?_ | refine dw_l rfl ?_ | refine dw_a rfl ?_ | refine dw_st rfl rfl rfl rfl rfl (Nat.le_of_ble_eq_true rfl) rfl ?_ | refine dw_nil ?_ | refine ds_ops mix (fun base => ?_))
      rw [w1]
      refine dw_app (q := lbF (a.1 + 1, 0)) rfl rfl rfl (subL_all _ hfl) ⟨rfl, rfl, _, rfl, rfl⟩ (by omega) (by omega) (by decide) rfl ?_
      rw [hnext]
      repeat (first | refine dw_p rfl ?_ | refine dw_nil ?_ | refine ds_ops mix (fun base => ?_))
      refine ⟨m - 1, by omega, _, _, _, [(0, 3)], ?wk1, k + 1, by omega, rfl, rfl, rfl⟩
      case wk1 =>
        rw [hls, hs]
        exact ⟨by repeat (first | exact trivial | refine ⟨by first | rfl | exact congrArg (fun z => some (DV.int z)) (dwrap (by omega) (by omega)), rfl, ?_⟩), by repeat (first | exact trivial | refine ⟨by first | rfl | exact congrArg (fun z => some (Bk.data z)) (by assumption), rfl, rfl, ?_⟩), rfl, rfl⟩
    · have hs : stepL a x = (a.1 + 1, 0) := by unfold stepL; rw [h]; rfl
      rw [hls, hs] at hnext
      rw [h]
      refine ds_if (t := false) rfl (fun ht => by cases ht) (fun _ => ?_)
      repeat (first | refine dw_p rfl ?_ | refine dw_nil ?_ | refine ds_seq ?_ | refine ds_ops mix (fun base => ?_))
      refine ds_if (t := true) rfl (fun _ => ?_) (fun ht => by cases ht)
      repeat (first | refine ds_skip ?_)
      refine ds_if (t := true) rfl (fun _ => ?_) (fun ht => by cases ht)
      repeat (first | refine dw_p rfl ?_ | refine dw_l rfl ?_ | refine dw_a rfl ?_ | refine dw_st rfl rfl rfl rfl rfl (Nat.le_of_ble_eq_true rfl) rfl ?_ | refine dw_nil ?_ | refine ds_ops mix (fun base => ?_))
      rw [w1]
      refine dw_app (q := lbF (a.1 + 1, 0)) rfl rfl rfl (subL_all _ hfl) ⟨rfl, rfl, _, rfl, rfl⟩ (by omega) (by omega) (by decide) rfl ?_
      rw [hnext]
      repeat (first | refine dw_p rfl ?_ | refine dw_nil ?_ | refine ds_ops mix (fun base => ?_))
      refine ⟨m - 1, by omega, _, _, _, [(0, 3)], ?wk2, k + 1, by omega, rfl, rfl, rfl⟩
      case wk2 =>
        rw [hls, hs]
        exact ⟨by repeat (first | exact trivial | refine ⟨by first | rfl | exact congrArg (fun z => some (DV.int z)) (dwrap (by omega) (by omega)), rfl, ?_⟩), by repeat (first | exact trivial | refine ⟨by first | rfl | exact congrArg (fun z => some (Bk.data z)) (by assumption), rfl, rfl, ?_⟩), rfl, rfl⟩
    · have hs : stepL a x = (a.1 + 1, 0) := by unfold stepL; rw [h]; rfl
      rw [hls, hs] at hnext
      rw [h]
      refine ds_if (t := false) rfl (fun ht => by cases ht) (fun _ => ?_)
      repeat (first | refine dw_p rfl ?_ | refine dw_nil ?_ | refine ds_seq ?_ | refine ds_ops mix (fun base => ?_))
      refine ds_if (t := false) rfl (fun ht => by cases ht) (fun _ => ?_)
      repeat (first | refine dw_p rfl ?_ | refine dw_nil ?_ | refine ds_seq ?_ | refine ds_ops mix (fun base => ?_))
      refine ds_if (t := true) rfl (fun _ => ?_) (fun ht => by cases ht)
      repeat (first | refine ds_skip ?_)
      refine ds_if (t := true) rfl (fun _ => ?_) (fun ht => by cases ht)
      repeat (first | refine dw_p rfl ?_ | refine dw_l rfl ?_ | refine dw_a rfl ?_ | refine dw_st rfl rfl rfl rfl rfl (Nat.le_of_ble_eq_true rfl) rfl ?_ | refine dw_nil ?_ | refine ds_ops mix (fun base => ?_))
      rw [w1]
      refine dw_app (q := lbF (a.1 + 1, 0)) rfl rfl rfl (subL_all _ hfl) ⟨rfl, rfl, _, rfl, rfl⟩ (by omega) (by omega) (by decide) rfl ?_
      rw [hnext]
      repeat (first | refine dw_p rfl ?_ | refine dw_nil ?_ | refine ds_ops mix (fun base => ?_))
      refine ⟨m - 1, by omega, _, _, _, [(0, 3)], ?wk3, k + 1, by omega, rfl, rfl, rfl⟩
      case wk3 =>
        rw [hls, hs]
        exact ⟨by repeat (first | exact trivial | refine ⟨by first | rfl | exact congrArg (fun z => some (DV.int z)) (dwrap (by omega) (by omega)), rfl, ?_⟩), by repeat (first | exact trivial | refine ⟨by first | rfl | exact congrArg (fun z => some (Bk.data z)) (by assumption), rfl, rfl, ?_⟩), rfl, rfl⟩
    · have hs : stepL a x = (a.1 + 1, 0) := by unfold stepL; rw [h]; rfl
      rw [hls, hs] at hnext
      rw [h]
      refine ds_if (t := false) rfl (fun ht => by cases ht) (fun _ => ?_)
      repeat (first | refine dw_p rfl ?_ | refine dw_nil ?_ | refine ds_seq ?_ | refine ds_ops mix (fun base => ?_))
      refine ds_if (t := false) rfl (fun ht => by cases ht) (fun _ => ?_)
      repeat (first | refine dw_p rfl ?_ | refine dw_nil ?_ | refine ds_seq ?_ | refine ds_ops mix (fun base => ?_))
      refine ds_if (t := false) rfl (fun ht => by cases ht) (fun _ => ?_)
      repeat (first | refine dw_p rfl ?_ | refine dw_nil ?_ | refine ds_ops mix (fun base => ?_))
      refine ds_if (t := true) rfl (fun _ => ?_) (fun ht => by cases ht)
      repeat (first | refine dw_p rfl ?_ | refine dw_l rfl ?_ | refine dw_a rfl ?_ | refine dw_st rfl rfl rfl rfl rfl (Nat.le_of_ble_eq_true rfl) rfl ?_ | refine dw_nil ?_ | refine ds_ops mix (fun base => ?_))
      rw [w1]
      refine dw_app (q := lbF (a.1 + 1, 0)) rfl rfl rfl (subL_all _ hfl) ⟨rfl, rfl, _, rfl, rfl⟩ (by omega) (by omega) (by decide) rfl ?_
      rw [hnext]
      repeat (first | refine dw_p rfl ?_ | refine dw_nil ?_ | refine ds_ops mix (fun base => ?_))
      refine ⟨m - 1, by omega, _, _, _, [(0, 3)], ?wk4, k + 1, by omega, rfl, rfl, rfl⟩
      case wk4 =>
        rw [hls, hs]
        exact ⟨by repeat (first | exact trivial | refine ⟨by first | rfl | exact congrArg (fun z => some (DV.int z)) (dwrap (by omega) (by omega)), rfl, ?_⟩), by repeat (first | exact trivial | refine ⟨by first | rfl | exact congrArg (fun z => some (Bk.data z)) (by assumption), rfl, rfl, ?_⟩), rfl, rfl⟩
    · have hs : stepL a x = (a.1, a.2 + 1) := by unfold stepL; rw [h]; rfl
      rw [hls, hs] at hnext
      rw [h]
      refine ds_if (t := false) rfl (fun ht => by cases ht) (fun _ => ?_)
      repeat (first | refine dw_p rfl ?_ | refine dw_nil ?_ | refine ds_seq ?_ | refine ds_ops mix (fun base => ?_))
      refine ds_if (t := false) rfl (fun ht => by cases ht) (fun _ => ?_)
      repeat (first | refine dw_p rfl ?_ | refine dw_nil ?_ | refine ds_seq ?_ | refine ds_ops mix (fun base => ?_))
      refine ds_if (t := false) rfl (fun ht => by cases ht) (fun _ => ?_)
      repeat (first | refine dw_p rfl ?_ | refine dw_nil ?_ | refine ds_ops mix (fun base => ?_))
      refine ds_if (t := false) rfl (fun ht => by cases ht) (fun _ => ?_)
      repeat (first | refine dw_p rfl ?_ | refine dw_nil ?_ | refine ds_seq ?_ | refine ds_ops mix (fun base => ?_))
      refine ds_if (t := true) rfl (fun _ => ?_) (fun ht => by cases ht)
      repeat (first | refine ds_skip ?_)
      refine ds_if (t := true) rfl (fun _ => ?_) (fun ht => by cases ht)
      repeat (first | refine dw_p rfl ?_ | refine dw_l rfl ?_ | refine dw_a rfl ?_ | refine dw_st rfl rfl rfl rfl rfl (Nat.le_of_ble_eq_true rfl) rfl ?_ | refine dw_nil ?_ | refine ds_ops mix (fun base => ?_))
      rw [w2]
      refine dw_app (q := lbF (a.1, a.2 + 1)) rfl rfl rfl (subL_all _ hfl) ⟨rfl, rfl, _, rfl, rfl⟩ (by omega) (by omega) (by decide) rfl ?_
      rw [hnext]
      repeat (first | refine dw_p rfl ?_ | refine dw_nil ?_ | refine ds_ops mix (fun base => ?_))
      refine ⟨m - 1, by omega, _, _, _, [(0, 3)], ?wk5, k + 1, by omega, rfl, rfl, rfl⟩
      case wk5 =>
        rw [hls, hs]
        exact ⟨by repeat (first | exact trivial | refine ⟨by first | rfl | exact congrArg (fun z => some (DV.int z)) (dwrap (by omega) (by omega)), rfl, ?_⟩), by repeat (first | exact trivial | refine ⟨by first | rfl | exact congrArg (fun z => some (Bk.data z)) (by assumption), rfl, rfl, ?_⟩), rfl, rfl⟩
    · have hs : stepL a x = (a.1, a.2 + 1) := by unfold stepL; rw [h]; rfl
      rw [hls, hs] at hnext
      rw [h]
      refine ds_if (t := false) rfl (fun ht => by cases ht) (fun _ => ?_)
      repeat (first | refine dw_p rfl ?_ | refine dw_nil ?_ | refine ds_seq ?_ | refine ds_ops mix (fun base => ?_))
      refine ds_if (t := false) rfl (fun ht => by cases ht) (fun _ => ?_)
      repeat (first | refine dw_p rfl ?_ | refine dw_nil ?_ | refine ds_seq ?_ | refine ds_ops mix (fun base => ?_))
      refine ds_if (t := false) rfl (fun ht => by cases ht) (fun _ => ?_)
      repeat (first | refine dw_p rfl ?_ | refine dw_nil ?_ | refine ds_ops mix (fun base => ?_))
      refine ds_if (t := false) rfl (fun ht => by cases ht) (fun _ => ?_)
      repeat (first | refine dw_p rfl ?_ | refine dw_nil ?_ | refine ds_seq ?_ | refine ds_ops mix (fun base => ?_))
      refine ds_if (t := false) rfl (fun ht => by cases ht) (fun _ => ?_)
      repeat (first | refine dw_p rfl ?_ | refine dw_nil ?_ | refine ds_ops mix (fun base => ?_))
      refine ds_if (t := true) rfl (fun _ => ?_) (fun ht => by cases ht)
      repeat (first | refine dw_p rfl ?_ | refine dw_l rfl ?_ | refine dw_a rfl ?_ | refine dw_st rfl rfl rfl rfl rfl (Nat.le_of_ble_eq_true rfl) rfl ?_ | refine dw_nil ?_ | refine ds_ops mix (fun base => ?_))
      rw [w2]
      refine dw_app (q := lbF (a.1, a.2 + 1)) rfl rfl rfl (subL_all _ hfl) ⟨rfl, rfl, _, rfl, rfl⟩ (by omega) (by omega) (by decide) rfl ?_
      rw [hnext]
      repeat (first | refine dw_p rfl ?_ | refine dw_nil ?_ | refine ds_ops mix (fun base => ?_))
      refine ⟨m - 1, by omega, _, _, _, [(0, 3)], ?wk6, k + 1, by omega, rfl, rfl, rfl⟩
      case wk6 =>
        rw [hls, hs]
        exact ⟨by repeat (first | exact trivial | refine ⟨by first | rfl | exact congrArg (fun z => some (DV.int z)) (dwrap (by omega) (by omega)), rfl, ?_⟩), by repeat (first | exact trivial | refine ⟨by first | rfl | exact congrArg (fun z => some (Bk.data z)) (by assumption), rfl, rfl, ?_⟩), rfl, rfl⟩
    · have hs : stepL a x = (1 + x.2 % 5, x.2 / 5 % 3) := by unfold stepL; rw [h]; rfl
      rw [hls, hs] at hnext
      rw [h]
      refine ds_if (t := false) rfl (fun ht => by cases ht) (fun _ => ?_)
      repeat (first | refine dw_p rfl ?_ | refine dw_nil ?_ | refine ds_seq ?_ | refine ds_ops mix (fun base => ?_))
      refine ds_if (t := false) rfl (fun ht => by cases ht) (fun _ => ?_)
      repeat (first | refine dw_p rfl ?_ | refine dw_nil ?_ | refine ds_seq ?_ | refine ds_ops mix (fun base => ?_))
      refine ds_if (t := false) rfl (fun ht => by cases ht) (fun _ => ?_)
      repeat (first | refine dw_p rfl ?_ | refine dw_nil ?_ | refine ds_ops mix (fun base => ?_))
      refine ds_if (t := false) rfl (fun ht => by cases ht) (fun _ => ?_)
      repeat (first | refine dw_p rfl ?_ | refine dw_nil ?_ | refine ds_seq ?_ | refine ds_ops mix (fun base => ?_))
      refine ds_if (t := false) rfl (fun ht => by cases ht) (fun _ => ?_)
      repeat (first | refine dw_p rfl ?_ | refine dw_nil ?_ | refine ds_ops mix (fun base => ?_))
      refine ds_if (t := false) rfl (fun ht => by cases ht) (fun _ => ?_)
      repeat (first | refine dw_p rfl ?_ | refine dw_nil ?_ | refine ds_seq ?_ | refine ds_ops mix (fun base => ?_))
      refine ds_if (t := true) rfl (fun _ => ?_) (fun ht => by cases ht)
      repeat (first | refine dw_p rfl ?_ | refine dw_l rfl ?_ | refine dw_if rfl rfl (by omega) (by decide) (by assumption) ?_ | refine dw_a rfl ?_ | refine dw_st rfl rfl rfl rfl rfl (Nat.le_of_ble_eq_true rfl) rfl ?_ | refine dw_nil ?_ | refine ds_ops mix (fun base => ?_))
      rw [w3, w4]
      refine dw_app (q := lbF (1 + x.2 % 5, x.2 / 5 % 3)) rfl rfl rfl (subL_all _ hfl) ⟨rfl, rfl, _, rfl, rfl⟩ (by omega) (by omega) (by decide) rfl ?_
      rw [hnext]
      repeat (first | refine dw_p rfl ?_ | refine dw_nil ?_ | refine ds_ops mix (fun base => ?_))
      refine ⟨m - 1, by omega, _, _, _, [(0, 3)], ?wk7, k + 1, by omega, rfl, rfl, rfl⟩
      case wk7 =>
        rw [hls, hs]
        exact ⟨by repeat (first | exact trivial | refine ⟨by first | rfl | exact congrArg (fun z => some (DV.int z)) (dwrap (by omega) (by omega)), rfl, ?_⟩), by repeat (first | exact trivial | refine ⟨by first | rfl | exact congrArg (fun z => some (Bk.data z)) (by assumption), rfl, rfl, ?_⟩), rfl, rfl⟩
    · have hs : stepL a x = a := by unfold stepL; rw [h]; rfl
      rw [hls, hs] at hnext
      rw [h]
      refine ds_if (t := false) rfl (fun ht => by cases ht) (fun _ => ?_)
      repeat (first | refine dw_p rfl ?_ | refine dw_nil ?_ | refine ds_seq ?_ | refine ds_ops mix (fun base => ?_))
      refine ds_if (t := false) rfl (fun ht => by cases ht) (fun _ => ?_)
      repeat (first | refine dw_p rfl ?_ | refine dw_nil ?_ | refine ds_seq ?_ | refine ds_ops mix (fun base => ?_))
      refine ds_if (t := false) rfl (fun ht => by cases ht) (fun _ => ?_)
      repeat (first | refine dw_p rfl ?_ | refine dw_nil ?_ | refine ds_ops mix (fun base => ?_))
      refine ds_if (t := false) rfl (fun ht => by cases ht) (fun _ => ?_)
      repeat (first | refine dw_p rfl ?_ | refine dw_nil ?_ | refine ds_seq ?_ | refine ds_ops mix (fun base => ?_))
      refine ds_if (t := false) rfl (fun ht => by cases ht) (fun _ => ?_)
      repeat (first | refine dw_p rfl ?_ | refine dw_nil ?_ | refine ds_ops mix (fun base => ?_))
      refine ds_if (t := false) rfl (fun ht => by cases ht) (fun _ => ?_)
      repeat (first | refine dw_p rfl ?_ | refine dw_nil ?_ | refine ds_seq ?_ | refine ds_ops mix (fun base => ?_))
      refine ds_if (t := false) rfl (fun ht => by cases ht) (fun _ => ?_)
      repeat (first | refine dw_p rfl ?_ | refine dw_l rfl ?_ | refine dw_a rfl ?_ | refine ds_ops mix (fun base => ?_) | refine ds_skip ?_)
      refine dw_app (q := lbF a) rfl rfl rfl (subL_all _ hfl) ⟨rfl, rfl, _, rfl, rfl⟩ (by omega) (by omega) (by decide) rfl ?_
      rw [hnext]
      repeat (first | refine dw_p rfl ?_ | refine dw_nil ?_ | refine ds_ops mix (fun base => ?_))
      refine ⟨m - 1, by omega, _, _, _, [(0, 3)], ?wk8, k + 1, by omega, rfl, rfl, rfl⟩
      case wk8 =>
        rw [hls, hs]
        exact ⟨by repeat (first | exact trivial | refine ⟨by first | rfl | exact congrArg (fun z => some (DV.int z)) (dwrap (by omega) (by omega)), rfl, ?_⟩), by repeat (first | exact trivial | refine ⟨by first | rfl | exact congrArg (fun z => some (Bk.data z)) (by assumption), rfl, rfl, ?_⟩), rfl, rfl⟩
  · have hfin : (0 : Nat) + min l.length 8 = k := by omega
    have htk : l.take k = l.take 8 := by
      by_cases h8 : 8 ≤ l.length
      · rw [show k = 8 by omega]
      · rw [List.take_of_length_le (by omega), List.take_of_length_le (by omega)]
    have hll : (labs l).length = k := by rw [labs, labsL_len, List.length_take]; omega
    rw [htk] at hfl ⊢
    by_cases h1 : k < l.length
    · have g1 : decide ((k : Int) < l.length) = true := by simp; omega
      have g2 : decide ((k : Int) < 8) = false := by simp; omega
      repeat (first | refine dw_want rfl rfl ?_ | refine dw_pickT rfl rfl ?_ | refine dw_pB rfl (by assumption) ?_ | refine dw_p rfl ?_ | refine dw_nil ?_ | refine ds_seq ?_ | refine ds_ops mix (fun base => ?_))
      refine ds_if rfl (fun ht => by cases ht) (fun _ => ?_)
      repeat (first | refine dw_p rfl ?_ | refine dw_nil ?_ | refine ds_seq ?_ | refine ds_ops mix (fun base => ?_) | refine ds_exit ?_)
      refine ds_keep (SubA.cons (k := 2) rfl (SubA.cons (k := 3) rfl (SubA.nil _))) (SubA.cons (k := 0) rfl (SubA.nil _)) ?_
      refine ds_frz 0 rfl (by repeat' (first | exact trivial | rfl | assumption | refine ⟨?_, ?_⟩)) (by repeat' (first | exact trivial | rfl | assumption | refine ⟨?_, ?_⟩)) ?_
      skip
      refine ds_ret ⟨_, rfl, rfl, ?_⟩
      rw [lbsV, hll]; rfl
    · have g1 : decide ((k : Int) < l.length) = false := by simp; omega
      repeat (first | refine dw_skip rfl rfl ?_ | refine dw_pickF rfl rfl ?_ | refine dw_pB rfl (by assumption) ?_ | refine dw_p rfl ?_ | refine dw_nil ?_ | refine ds_seq ?_ | refine ds_ops mix (fun base => ?_))
      refine ds_if rfl (fun ht => by cases ht) (fun _ => ?_)
      repeat (first | refine dw_p rfl ?_ | refine dw_nil ?_ | refine ds_seq ?_ | refine ds_ops mix (fun base => ?_) | refine ds_exit ?_)
      refine ds_keep (SubA.cons (k := 2) rfl (SubA.cons (k := 3) rfl (SubA.nil _))) (SubA.cons (k := 0) rfl (SubA.nil _)) ?_
      refine ds_frz 0 rfl (by repeat' (first | exact trivial | rfl | assumption | refine ⟨?_, ?_⟩)) (by repeat' (first | exact trivial | rfl | assumption | refine ⟨?_, ?_⟩)) ?_
      skip
      refine ds_ret ⟨_, rfl, rfl, ?_⟩
      rw [lbsV, hll]; rfl
end Go.Ac

/- The law BindBeginnings over the deep contracts. -/
namespace Go.Ac
open Go.Ab Go.Proofs
set_option linter.unusedSimpArgs false

/-- where a scan ends -/
structure ScanR (i : Nat) (prev : Option Lb) (l : List Lb) (m : Nat) (e : Int) : Prop where
  eq : scanL i prev l = (i + m, e)
  le : m ≤ l.length
  z : e = 0 → m = l.length
  nz : e ≠ 0 → m < l.length ∧ scanL i prev (l.take (m + 1)) = (i + m, e)
  pre : ∀ k, k ≤ m → scanL i prev (l.take k) = (i + k, 0)
theorem scanR : ∀ (l : List Lb) (i : Nat) (prev : Option Lb), ∃ m e, ScanR i prev l m e
  | [], i, prev => ⟨0, 0, rfl, Nat.le_refl _, fun _ => rfl, fun h => absurd rfl h, fun k hk => by
    obtain rfl : k = 0 := by omega
    rfl⟩
  | p :: l, i, prev => by
    by_cases h1 : okL p = true
    · by_cases h2 : okLb prev p = true
      · obtain ⟨m, e, h⟩ := scanR l (i + 1) (some p)
        refine ⟨m + 1, e, ?_, by have := h.le; simp; omega, fun h0 => by rw [h.z h0]; rfl, fun h0 => ?_, fun k hk => ?_⟩
        · rw [scanL, if_pos h1, if_pos h2, h.eq, show i + 1 + m = i + (m + 1) by omega]
        · obtain ⟨g1, g2⟩ := h.nz h0
          refine ⟨by simp; omega, ?_⟩
          rw [List.take_succ_cons, scanL, if_pos h1, if_pos h2, g2, show i + 1 + m = i + (m + 1) by omega]
        · cases k with
          | zero => rfl
          | succ k => rw [List.take_succ_cons, scanL, if_pos h1, if_pos h2, h.pre k (by omega), show i + 1 + k = i + (k + 1) by omega]
      · refine ⟨0, 340, (by rw [scanL, if_pos h1, if_neg h2]; rfl), Nat.zero_le _, fun h => (by cases h), fun _ => ⟨by simp, (by rw [List.take_succ_cons, scanL, if_pos h1, if_neg h2]; rfl)⟩, fun k hk => ?_⟩
        obtain rfl : k = 0 := by omega
        rfl
    · refine ⟨0, 250, (by rw [scanL, if_neg h1]; rfl), Nat.zero_le _, fun h => (by cases h), fun _ => ⟨by simp, (by rw [List.take_succ_cons, scanL, if_neg h1]; rfl)⟩, fun k hk => ?_⟩
      obtain rfl : k = 0 := by omega
      rfl
/-- .. and a check -/
structure ChkR (l : List Lb) (n : Nat) (e : Int) : Prop where
  eq : chkL l = (n, e)
  le : n ≤ l.length
  z : e = 0 → n = l.length ∧ l ≠ []
  nz : e ≠ 0 → l ≠ [] → n < l.length ∧ chkL (l.take (n + 1)) = (n, e)
  pre : ∀ k, 1 ≤ k → k ≤ n → chkL (l.take k) = (k, 0)
theorem chkR (l : List Lb) : ∃ n e, ChkR l n e := by
  cases l with
  | nil => exact ⟨0, 340, rfl, Nat.le_refl _, fun h => (by cases h), fun _ h => absurd rfl h, fun k h1 h2 => by omega⟩
  | cons p l =>
    obtain ⟨m, e, h⟩ := scanR (p :: l) 0 none
    have key : ∀ k, chkL ((p :: l).take (k + 1)) = scanL 0 none ((p :: l).take (k + 1)) := fun k => rfl
    refine ⟨m, e, by rw [show chkL (p :: l) = scanL 0 none (p :: l) from rfl, h.eq, Nat.zero_add], h.le, fun h0 => ⟨h.z h0, by simp⟩, fun h0 _ => ?_, fun k h1 h2 => ?_⟩
    · obtain ⟨g1, g2⟩ := h.nz h0
      refine ⟨g1, ?_⟩
      rw [key, g2, Nat.zero_add]
    · obtain ⟨j, rfl⟩ : ∃ j, k = j + 1 := ⟨k - 1, by omega⟩
      rw [key, h.pre _ h2, Nat.zero_add]

theorem labs_len (l : List (Int × Int)) : (labs l).length ≤ 8 := by rw [labs, labsL_len, List.length_take]; omega
theorem stepL_12 {a : Lb} {x : Int × Int} {k : Nat} (ha : a.1 ≤ 4 + (k : Int)) (hx : 0 ≤ x.2) : (stepL a x).1 ≤ 4 + ((k + 1 : Nat) : Int) := by
  unfold stepL
  split
  · simp only; omega
  · split
    · simp only; omega
    · split
      · simp only; omega
      · omega
theorem labsL_mem : ∀ {l : List (Int × Int)} {a : Lb} {k : Nat}, Bys l → a.1 ≤ 4 + (k : Int) → ∀ p ∈ labsL a l, p.1 ≤ 4 + ((k + l.length : Nat) : Int)
  | [], _, _, _, _, p, hp => by cases hp
  | x :: l, a, k, hl, ha, p, hp => by
    have hb := hl x (by simp)
    have hs := stepL_12 (x := x) ha hb.2.1
    rcases List.mem_cons.1 hp with rfl | hp
    · simp only [List.length_cons]
      omega
    · have := labsL_mem (l := l) (k := k + 1) (fun q hq => hl q (by simp [hq])) hs p hp
      simp only [List.length_cons]
      omega
theorem labs_12 {l : List (Int × Int)} (hl : Bys l) : ∀ p ∈ labs l, p.1 ≤ 12 := fun p hp => by
  have := labsL_mem (l := l.take 8) (a := (0, 0)) (k := 0) (fun q hq => hl q (List.mem_of_mem_take hq)) (by decide) p hp
  have h8 : (l.take 8).length ≤ 8 := by rw [List.length_take]; omega
  omega
theorem flat_take (L : List Lb) (k : Nat) : subL ((L.map labP).flatMap pqF) (0 * 4) (k * 4) = if k ≤ L.length then some (((L.take k).map labP).flatMap pqF) else subL ((L.map labP).flatMap pqF) (0 * 4) (k * 4) := by
  split
  · rename_i hk
    have hl : ∀ l : List Lb, ((l.map labP).flatMap pqF).length = l.length * 4 := fun l => by rw [flat_length (f := pqF) (e := 4) (fun _ => rfl), List.length_map]
    have hle : k * 4 ≤ L.length * 4 := Nat.mul_le_mul_right _ hk
    rw [subL_of (by rw [hl]; omega)]
    have hsp : (L.map labP).flatMap pqF = ((L.take k).map labP).flatMap pqF ++ ((L.drop k).map labP).flatMap pqF := by rw [← List.flatMap_append, ← List.map_append, List.take_append_drop]
    rw [hsp, Nat.zero_mul, List.drop_zero, List.take_append_of_le_length (by rw [hl, List.length_take]; omega), List.take_of_length_le (by rw [hl, List.length_take]; omega)]
  · rfl

set_option maxHeartbeats 8000000 in
theorem d_bindBeginnings {l : List (Int × Int)} (hl : Bys l) : DK 3 [bysD l] fun d => d = .bool true := by
  have h12 := labs_12 hl
  have h8 := labs_len l
  have dl := d_labelled (l := labs l) (by omega) h12
  have dlab := d_labels hl
  refine dfn_ok cp3 rfl GHro fun Z0 lo => ?_
  repeat (first | refine dw_p rfl ?_ | refine dw_nil ?_ | refine ds_seq ?_ | refine ds_ops mix (fun base => ?_))
  refine dw_cf rfl rfl d_sanity ?_
  rintro _ rfl
  repeat (first | refine dw_p rfl ?_ | refine dw_nil ?_ | refine ds_seq ?_ | refine ds_ops mix (fun base => ?_))
  refine dw_cf rfl rfl dlab ?_
  rintro _ rfl
  skip
  refine dw_cf rfl rfl d_format ?_
  rintro _ rfl
  refine dw_cf rfl rfl dl ?_
  rintro _ rfl
  clear dl dlab hl
  generalize labs l = L at *
  obtain ⟨n, e, hR⟩ := chkR L
  have hch : ∀ k, k ≤ L.length → DK 9 [.one (.f (.sl 4 k (((L.take k).map labP).flatMap pqF)))] fun d => d = .tup [.int (chkL (L.take k)).1, .int (chkL (L.take k)).2] := fun k hk => by
    have := d_checkL (l := L.take k) (by rw [List.length_take]; omega) (fun p hp => h12 p (List.mem_of_mem_take hp))
    rw [pqsC, List.length_map, List.length_take, Nat.min_eq_left hk] at this
    exact this
  have h9 := d_checkL (l := L) (by omega) h12
  rw [hR.eq] at h9
  have hle := hR.le
  repeat (first | refine dw_p rfl ?_ | refine dw_nil ?_ | refine ds_seq ?_ | refine ds_ops mix (fun base => ?_))
  refine dw_cf rfl rfl h9 ?_
  rintro _ rfl
  have g1 : decide ((n : Int) < 0) = false := by simp
  have g2 : decide ((n : Int) > (L.map labP).length) = false := by rw [List.length_map]; simp; omega
  by_cases he : e = 0
  · obtain ⟨hnl, hne⟩ := hR.z he
    have hpos : 0 < L.length := Nat.pos_of_ne_zero fun h => hne (List.eq_nil_of_length_eq_zero h)
    have g3 : (e == 0) = true := by simp [he]
    have g4 : ((n : Int) != (L.map labP).length) = false := by simp [hnl]
    have g6 : decide (((L.map labP).length : Int) > 0) = true := by rw [List.length_map]; simp; omega
    repeat (first | refine dw_want rfl rfl ?_ | refine dw_pickT rfl rfl ?_ | refine dw_pickF rfl rfl ?_ | refine dw_pB rfl (by assumption) ?_ | refine dw_p rfl ?_ | refine dw_nil ?_ | refine ds_seq ?_ | refine ds_ops mix (fun base => ?_))
    refine ds_if (t := false) rfl (fun ht => by cases ht) (fun _ => ?_)
    repeat (first | refine dw_p rfl ?_ | refine dw_nil ?_ | refine ds_seq ?_ | refine ds_ops mix (fun base => ?_) | refine ds_skip ?_ | refine ds_block ?_)
    refine ds_keep (SubA.cons (k := 3) rfl (SubA.cons (k := 4) rfl (SubA.cons (k := 5) rfl (SubA.cons (k := 6) rfl (SubA.cons (k := 7) rfl (SubA.nil _)))))) (SubA.nil _) ?_
    refine ds_loop (fun m E S nk => ∃ k : Nat, 1 ≤ k ∧ k + m = n + 1 ∧ E = [(3, .bool true), (4, .one (pqsC (L.map labP))), (5, .int n), (6, .int e), (7, .int k)] ∧ S = [] ∧ nk = 0) ⟨n, _, _, _, [], ?wk1, 1, by omega, by omega, rfl, rfl, rfl⟩ ?_
    case wk1 => exact ⟨by repeat (first | exact trivial | refine ⟨by first | rfl | exact congrArg (fun z => some (DV.int z)) (dwrap (by omega) (by omega)), rfl, ?_⟩), by repeat (first | exact trivial | refine ⟨by first | rfl | exact congrArg (fun z => some (Bk.data z)) (by assumption), rfl, rfl, ?_⟩), rfl, rfl⟩
    rintro m E S nk ⟨k, hk1, hk, rfl, rfl, rfl⟩
    repeat (first | refine dw_p rfl ?_ | refine dw_nil ?_ | refine ds_seq ?_ | refine ds_ops mix (fun base => ?_))
    refine ds_if rfl (fun ht => ?_) (fun ht => ?_)
    · have hkn : k ≤ n := by simp at ht; omega
      have c9 := hch k (by omega)
      rw [hR.pre k hk1 hkn] at c9
      have q2 : (((k : Nat) : Int) != ((k : Nat) : Int)) = false := by simp
      repeat (first | refine dw_p rfl ?_ | refine ds_seq ?_ | refine ds_ops mix (fun base => ?_) | refine ds_skip ?_ | refine ds_block ?_)
      refine dw_slf (n := (L.map labP).length) (h := k) (n' := k) (q := ((L.take k).map labP).flatMap pqF) rfl rfl rfl (Nat.zero_le _) (by rw [List.length_map]; omega) rfl (by rw [flat_take, if_pos (by omega)]) ?_
      refine dw_cf rfl rfl c9 ?_
      rintro _ rfl
      repeat (first | refine dw_want rfl rfl ?_ | refine dw_pickF rfl rfl ?_ | refine dw_pB rfl (by assumption) ?_ | refine dw_p rfl ?_ | refine dw_nil ?_ | refine ds_seq ?_ | refine ds_ops mix (fun base => ?_))
      refine ds_if (t := false) rfl (fun ht => by cases ht) (fun _ => ?_)
      repeat (first | refine dw_p rfl ?_ | refine dw_nil ?_ | refine ds_ops mix (fun base => ?_) | refine ds_skip ?_)
      refine ⟨m - 1, by omega, _, _, _, [], ?wkb1, k + 1, by omega, by omega, rfl, rfl, rfl⟩
      case wkb1 => exact ⟨by repeat (first | exact trivial | refine ⟨by first | rfl | exact congrArg (fun z => some (DV.int z)) (dwrap (by omega) (by omega)), rfl, ?_⟩), by repeat (first | exact trivial | refine ⟨by first | rfl | exact congrArg (fun z => some (Bk.data z)) (by assumption), rfl, rfl, ?_⟩), rfl, rfl⟩
    · repeat (first | refine dw_skip rfl rfl ?_ | refine dw_pickT rfl rfl ?_ | refine dw_pB rfl (by assumption) ?_ | refine dw_p rfl ?_ | refine dw_nil ?_ | refine ds_seq ?_ | refine ds_ops mix (fun base => ?_) | refine ds_exit ?_)
      refine ds_if (t := true) rfl (fun _ => ?_) (fun ht => by cases ht)
      repeat (first | refine dw_want rfl rfl ?_ | refine dw_pickT rfl rfl ?_ | refine dw_pB rfl (by assumption) ?_ | refine dw_p rfl ?_ | refine dw_nil ?_ | refine ds_seq ?_ | refine ds_ops mix (fun base => ?_))
      exact ds_ret ⟨_, rfl, rfl, rfl⟩
  · have g3 : (e == 0) = false := by simp [he]
    by_cases hne : L = []
    · have hl0 : ((L.map labP).length : Int) = 0 := by rw [hne]; rfl
      have g5 : (((L.map labP).length : Int) == 0) = true := by rw [hl0]; rfl
      have g6 : decide (((L.map labP).length : Int) > 0) = false := by rw [hl0]; rfl
      repeat (first | refine dw_want rfl rfl ?_ | refine dw_skip rfl rfl ?_ | refine dw_pickF rfl rfl ?_ | refine dw_pB rfl (by assumption) ?_ | refine dw_p rfl ?_ | refine dw_nil ?_ | refine ds_seq ?_ | refine ds_ops mix (fun base => ?_))
      refine ds_if (t := false) rfl (fun ht => by cases ht) (fun _ => ?_)
      repeat (first | refine dw_p rfl ?_ | refine dw_nil ?_ | refine ds_seq ?_ | refine ds_ops mix (fun base => ?_) | refine ds_skip ?_ | refine ds_block ?_)
      refine ds_keep (SubA.cons (k := 3) rfl (SubA.cons (k := 4) rfl (SubA.cons (k := 5) rfl (SubA.cons (k := 6) rfl (SubA.cons (k := 7) rfl (SubA.nil _)))))) (SubA.nil _) ?_
      refine ds_loop (fun m E S nk => ∃ k : Nat, 1 ≤ k ∧ k + m = n + 1 ∧ E = [(3, .bool true), (4, .one (pqsC (L.map labP))), (5, .int n), (6, .int e), (7, .int k)] ∧ S = [] ∧ nk = 0) ⟨n, _, _, _, [], ?wk2, 1, by omega, by omega, rfl, rfl, rfl⟩ ?_
      case wk2 => exact ⟨by repeat (first | exact trivial | refine ⟨by first | rfl | exact congrArg (fun z => some (DV.int z)) (dwrap (by omega) (by omega)), rfl, ?_⟩), by repeat (first | exact trivial | refine ⟨by first | rfl | exact congrArg (fun z => some (Bk.data z)) (by assumption), rfl, rfl, ?_⟩), rfl, rfl⟩
      rintro m E S nk ⟨k, hk1, hk, rfl, rfl, rfl⟩
      repeat (first | refine dw_p rfl ?_ | refine dw_nil ?_ | refine ds_seq ?_ | refine ds_ops mix (fun base => ?_))
      refine ds_if rfl (fun ht => ?_) (fun ht => ?_)
      · have hkn : k ≤ n := by simp at ht; omega
        have c9 := hch k (by omega)
        rw [hR.pre k hk1 hkn] at c9
        have q2 : (((k : Nat) : Int) != ((k : Nat) : Int)) = false := by simp
        repeat (first | refine dw_p rfl ?_ | refine ds_seq ?_ | refine ds_ops mix (fun base => ?_) | refine ds_skip ?_ | refine ds_block ?_)
        refine dw_slf (n := (L.map labP).length) (h := k) (n' := k) (q := ((L.take k).map labP).flatMap pqF) rfl rfl rfl (Nat.zero_le _) (by rw [List.length_map]; omega) rfl (by rw [flat_take, if_pos (by omega)]) ?_
        refine dw_cf rfl rfl c9 ?_
        rintro _ rfl
        repeat (first | refine dw_want rfl rfl ?_ | refine dw_pickF rfl rfl ?_ | refine dw_pB rfl (by assumption) ?_ | refine dw_p rfl ?_ | refine dw_nil ?_ | refine ds_seq ?_ | refine ds_ops mix (fun base => ?_))
        refine ds_if (t := false) rfl (fun ht => by cases ht) (fun _ => ?_)
        repeat (first | refine dw_p rfl ?_ | refine dw_nil ?_ | refine ds_ops mix (fun base => ?_) | refine ds_skip ?_)
        refine ⟨m - 1, by omega, _, _, _, [], ?wkb2, k + 1, by omega, by omega, rfl, rfl, rfl⟩
        case wkb2 => exact ⟨by repeat (first | exact trivial | refine ⟨by first | rfl | exact congrArg (fun z => some (DV.int z)) (dwrap (by omega) (by omega)), rfl, ?_⟩), by repeat (first | exact trivial | refine ⟨by first | rfl | exact congrArg (fun z => some (Bk.data z)) (by assumption), rfl, rfl, ?_⟩), rfl, rfl⟩
      · repeat (first | refine dw_want rfl rfl ?_ | refine dw_pickF rfl rfl ?_ | refine dw_pB rfl (by assumption) ?_ | refine dw_p rfl ?_ | refine dw_nil ?_ | refine ds_seq ?_ | refine ds_ops mix (fun base => ?_) | refine ds_exit ?_)
        refine ds_if (t := true) rfl (fun _ => ?_) (fun ht => by cases ht)
        repeat (first | refine dw_want rfl rfl ?_ | refine dw_pickT rfl rfl ?_ | refine dw_pB rfl (by assumption) ?_ | refine dw_p rfl ?_ | refine dw_nil ?_ | refine ds_seq ?_ | refine ds_ops mix (fun base => ?_))
        exact ds_ret ⟨_, rfl, rfl, rfl⟩
    · obtain ⟨hlt, hchk⟩ := hR.nz he hne
      have hpos : 0 < L.length := Nat.pos_of_ne_zero fun h => hne (List.eq_nil_of_length_eq_zero h)
      have g5 : (((L.map labP).length : Int) == 0) = false := by rw [List.length_map, beq_eq_false_iff_ne]; omega
      repeat (first | refine dw_want rfl rfl ?_ | refine dw_skip rfl rfl ?_ | refine dw_pickF rfl rfl ?_ | refine dw_pB rfl (by assumption) ?_ | refine dw_p rfl ?_ | refine dw_nil ?_ | refine ds_seq ?_ | refine ds_ops mix (fun base => ?_))
      refine ds_if (t := false) rfl (fun ht => by cases ht) (fun _ => ?_)
      repeat (first | refine dw_p rfl ?_ | refine dw_nil ?_ | refine ds_seq ?_ | refine ds_ops mix (fun base => ?_) | refine ds_skip ?_ | refine ds_block ?_)
      refine ds_keep (SubA.cons (k := 3) rfl (SubA.cons (k := 4) rfl (SubA.cons (k := 5) rfl (SubA.cons (k := 6) rfl (SubA.cons (k := 7) rfl (SubA.nil _)))))) (SubA.nil _) ?_
      refine ds_loop (fun m E S nk => ∃ k : Nat, 1 ≤ k ∧ k + m = n + 1 ∧ E = [(3, .bool true), (4, .one (pqsC (L.map labP))), (5, .int n), (6, .int e), (7, .int k)] ∧ S = [] ∧ nk = 0) ⟨n, _, _, _, [], ?wk3, 1, by omega, by omega, rfl, rfl, rfl⟩ ?_
      case wk3 => exact ⟨by repeat (first | exact trivial | refine ⟨by first | rfl | exact congrArg (fun z => some (DV.int z)) (dwrap (by omega) (by omega)), rfl, ?_⟩), by repeat (first | exact trivial | refine ⟨by first | rfl | exact congrArg (fun z => some (Bk.data z)) (by assumption), rfl, rfl, ?_⟩), rfl, rfl⟩
      rintro m E S nk ⟨k, hk1, hk, rfl, rfl, rfl⟩
      repeat (first | refine dw_p rfl ?_ | refine dw_nil ?_ | refine ds_seq ?_ | refine ds_ops mix (fun base => ?_))
      refine ds_if rfl (fun ht => ?_) (fun ht => ?_)
      · have hkn : k ≤ n := by simp at ht; omega
        have c9 := hch k (by omega)
        rw [hR.pre k hk1 hkn] at c9
        have q2 : (((k : Nat) : Int) != ((k : Nat) : Int)) = false := by simp
        repeat (first | refine dw_p rfl ?_ | refine ds_seq ?_ | refine ds_ops mix (fun base => ?_) | refine ds_skip ?_ | refine ds_block ?_)
        refine dw_slf (n := (L.map labP).length) (h := k) (n' := k) (q := ((L.take k).map labP).flatMap pqF) rfl rfl rfl (Nat.zero_le _) (by rw [List.length_map]; omega) rfl (by rw [flat_take, if_pos (by omega)]) ?_
        refine dw_cf rfl rfl c9 ?_
        rintro _ rfl
        repeat (first | refine dw_want rfl rfl ?_ | refine dw_pickF rfl rfl ?_ | refine dw_pB rfl (by assumption) ?_ | refine dw_p rfl ?_ | refine dw_nil ?_ | refine ds_seq ?_ | refine ds_ops mix (fun base => ?_))
        refine ds_if (t := false) rfl (fun ht => by cases ht) (fun _ => ?_)
        repeat (first | refine dw_p rfl ?_ | refine dw_nil ?_ | refine ds_ops mix (fun base => ?_) | refine ds_skip ?_)
        refine ⟨m - 1, by omega, _, _, _, [], ?wkb3, k + 1, by omega, by omega, rfl, rfl, rfl⟩
        case wkb3 => exact ⟨by repeat (first | exact trivial | refine ⟨by first | rfl | exact congrArg (fun z => some (DV.int z)) (dwrap (by omega) (by omega)), rfl, ?_⟩), by repeat (first | exact trivial | refine ⟨by first | rfl | exact congrArg (fun z => some (Bk.data z)) (by assumption), rfl, rfl, ?_⟩), rfl, rfl⟩
      · have w1 : IntKind.i64.wrap ((n : Int) + 1) = ((n + 1 : Nat) : Int) := by rw [dwrap (by omega) (by omega)]; omega
        have c9 := hch (n + 1) (by omega)
        rw [hchk] at c9
        have q1 : (e == e) = true := by simp
        have q2 : (((n : Nat) : Int) == ((n : Nat) : Int)) = true := by simp
        repeat (first | refine dw_want rfl rfl ?_ | refine dw_pickF rfl rfl ?_ | refine dw_pB rfl (by assumption) ?_ | refine dw_p rfl ?_ | refine dw_nil ?_ | refine ds_seq ?_ | refine ds_ops mix (fun base => ?_) | refine ds_exit ?_)
        refine ds_if (t := false) rfl (fun ht => by cases ht) (fun _ => ?_)
        repeat (first | refine dw_p rfl ?_ | refine ds_seq ?_ | refine ds_ops mix (fun base => ?_) | refine ds_skip ?_)
        rw [w1]
        refine dw_slf (n := (L.map labP).length) (h := n + 1) (n' := n + 1) (q := ((L.take (n + 1)).map labP).flatMap pqF) rfl rfl rfl (Nat.zero_le _) (by rw [List.length_map]; omega) rfl (by rw [flat_take, if_pos (by omega)]) ?_
        refine dw_cf rfl rfl c9 ?_
        rintro _ rfl
        repeat (first | refine dw_want rfl rfl ?_ | refine dw_pickT rfl rfl ?_ | refine dw_pB rfl (by assumption) ?_ | refine dw_p rfl ?_ | refine dw_nil ?_ | refine ds_seq ?_ | refine ds_ops mix (fun base => ?_))
        exact ds_ret ⟨_, rfl, rfl, rfl⟩
end Go.Ac

/- The law BindInserted over the deep contracts. -/
namespace Go.Ac
open Go.Ab Go.Proofs
set_option linter.unusedSimpArgs false

def rowL (i : Nat) : Nat → Nat → List Lb
  | _, 0 => []
  | k, n + 1 => (((i + 1 : Nat) : Int), (k : Int)) :: rowL i (k + 1) n
theorem rowL_snoc (i : Nat) : ∀ (n k : Nat), rowL i k (n + 1) = rowL i k n ++ [(((i + 1 : Nat) : Int), ((k + n : Nat) : Int))]
  | 0, _ => rfl
  | n + 1, k => by
    rw [rowL, rowL_snoc i n (k + 1), rowL, show k + 1 + n = k + (n + 1) by omega]; rfl
theorem rowL_len (i : Nat) : ∀ (n k : Nat), (rowL i k n).length = n
  | 0, _ => rfl
  | n + 1, k => by rw [rowL, List.length_cons, rowL_len i n]
def cntB (b : Int) : Nat := (b % 4).toNat + 1
def insL : Nat → List Int → List Lb
  | _, [] => []
  | i, b :: r => rowL i 0 (cntB b) ++ insL (i + 1) r
theorem insL_snoc (b : Int) : ∀ (l : List Int) (i : Nat), insL i (l ++ [b]) = insL i l ++ rowL (i + l.length) 0 (cntB b)
  | [], i => by simp [insL]
  | c :: l, i => by
    rw [List.cons_append, insL, insL_snoc b l, insL, List.append_assoc, List.length_cons, show i + 1 + l.length = i + (l.length + 1) by omega]
theorem insL_len : ∀ (l : List Int) (i : Nat), (insL i l).length ≤ 4 * l.length
  | [], _ => Nat.le_refl _
  | b :: l, i => by
    have := insL_len l (i + 1)
    rw [insL, List.length_append, rowL_len, List.length_cons]
    unfold cntB
    omega
def thr3 (p : Lb) : Bool := p.2 == 3
def wrI (l : List Lb) : Int := match l.findIdx? thr3 with
  | none => -1
  | some i => i
theorem wrI_snoc (l : List Lb) (p : Lb) : wrI (l ++ [p]) = if thr3 p = true ∧ wrI l < 0 then (l.length : Int) else wrI l := by
  unfold wrI
  rw [List.findIdx?_append]
  cases h : l.findIdx? thr3 with
  | some i =>
    simp
    intro _ h
    omega
  | none =>
    simp only [Option.none_or]
    cases hp : thr3 p with
    | true => simp [List.findIdx?_cons, hp]
    | false => simp [List.findIdx?_cons, hp]
/-- labels that follow each other, if they are valid -/
def Ch : Option Lb → List Lb → Prop
  | _, [] => True
  | prev, p :: r => (1 ≤ p.1 ∧ p.1 ≤ 9 ∧ 0 ≤ p.2 ∧ p.2 ≤ 3) ∧ (p.2 ≤ 2 → okLb prev p = true) ∧ Ch (some p) r
theorem scan_ch : ∀ (l : List Lb) (i : Nat) (prev : Option Lb), Ch prev l → scanL i prev l = match l.findIdx? thr3 with
    | none => (i + l.length, 0)
    | some j => (i + j, 250)
  | [], _, _, _ => rfl
  | p :: l, i, prev, ⟨h1, h2, h3⟩ => by
    have ih := scan_ch l (i + 1) (some p) h3
    rw [List.findIdx?_cons, scanL]
    by_cases h : p.2 = 3
    · have e1 : thr3 p = true := by simp [thr3, h]
      have e2 : okL p = false := by simp [okL, h]
      rw [if_pos e1, if_neg (show ¬ okL p = true by rw [e2]; decide)]
      rfl
    · have e1 : thr3 p = false := by simp [thr3, h]
      have e2 : okL p = true := by
        simp only [okL, Bool.and_eq_true, decide_eq_true_eq]
        omega
      rw [if_neg (show ¬ thr3 p = true by rw [e1]; decide), if_pos e2, if_pos (h2 (by omega)), ih]
      cases l.findIdx? thr3 with
      | none => simp only [Option.map_none, List.length_cons]; rw [show i + 1 + l.length = i + (l.length + 1) by omega]
      | some j => simp only [Option.map_some]; rw [show i + 1 + j = i + (j + 1) by omega]
theorem ch_row {i : Nat} (hi : i < 9) {R : List Lb} (hR : ∀ k : Nat, Ch (some (((i + 1 : Nat) : Int), (k : Int))) R) : ∀ (n k : Nat) (prev : Option Lb), 0 < n → k + n ≤ 4 → okLb prev (((i + 1 : Nat) : Int), (k : Int)) = true ∨ 3 ≤ k → Ch prev (rowL i k n ++ R)
  | 0, _, _, h, _, _ => by omega
  | 1, k, prev, _, hk, hp => ⟨⟨by simp only; omega, by simp only; omega, by simp only; omega, by simp only; omega⟩, fun h => hp.elim id fun h' => by simp only at h; omega, hR k⟩
  | n + 2, k, prev, _, hk, hp => ⟨⟨by simp only; omega, by simp only; omega, by simp only; omega, by simp only; omega⟩, fun h => hp.elim id fun h' => by simp only at h; omega,
    ch_row hi hR (n + 1) (k + 1) _ (by omega) (by omega) (by
      by_cases h3 : 3 ≤ k + 1
      · exact .inr h3
      · left
        have e1 : ((k + 1 : Nat) : Int) = (k : Int) + 1 := by omega
        have e2 : ((k : Int) + 1 ≤ 2) := by omega
        simp only [okLb, foll, e1, e2, decide_true, Bool.and_self, Bool.or_true])⟩
theorem ch_ins : ∀ (l : List Int) (i : Nat) (prev : Option Lb), i + l.length ≤ 9 → (∀ b ∈ l, 0 ≤ b) → (prev = none ∧ i = 0 ∨ ∃ k : Nat, prev = some ((i : Int), (k : Int))) → Ch prev (insL i l)
  | [], _, _, _, _, _ => trivial
  | b :: l, i, prev, hl, hb, hp => by
    rw [List.length_cons] at hl
    refine ch_row (by omega) (fun k => ch_ins l (i + 1) _ (by omega) (fun c hc => hb c (by simp [hc])) (.inr ⟨k, rfl⟩)) _ 0 prev (by unfold cntB; omega) (by have := hb b (by simp); unfold cntB; omega) (.inl ?_)
    rcases hp with ⟨rfl, rfl⟩ | ⟨k, rfl⟩
    · rfl
    · have e2 : ((i : Int) + 1 ≤ 9999) := by omega
      have e1 : ((i + 1 : Nat) : Int) = (i : Int) + 1 := by omega
      simp only [okLb, foll, e1, e2, decide_true, Bool.and_self, Bool.true_or, Int.natCast_zero, Int.cast_ofNat_Int]
theorem ins_12 : ∀ {l : List Int} {i : Nat}, ∀ p ∈ insL i l, p.1 ≤ ((i + l.length : Nat) : Int)
  | [], _, p, hp => by cases hp
  | b :: l, i, p, hp => by
    rw [insL] at hp
    rw [List.length_cons]
    rcases List.mem_append.1 hp with h | h
    · have : ∀ (n k : Nat), p ∈ rowL i k n → p.1 = ((i + 1 : Nat) : Int) := by
        intro n
        induction n with
        | zero => intro k h; cases h
        | succ n ih =>
          intro k h
          rcases List.mem_cons.1 h with rfl | h
          · rfl
          · exact ih _ h
      rw [this _ _ h]; omega
    · have := ins_12 (l := l) (i := i + 1) p h
      omega
def allI (l : List Int) : List Lb := insL 0 (l.take 5)
theorem allI_chk {l : List Int} (hb : ∀ b ∈ l, 0 ≤ b) (hne : allI l ≠ []) : chkL (allI l) = if wrI (allI l) < 0 then ((allI l).length, 0) else ((wrI (allI l)).toNat, 250) := by
  have hch : Ch none (allI l) := ch_ins (l.take 5) 0 none (by rw [List.length_take]; omega) (fun b hbm => hb b (List.mem_of_mem_take hbm)) (.inl ⟨rfl, rfl⟩)
  generalize allI l = L at *
  have hs := scan_ch L 0 none hch
  rw [show chkL L = scanL 0 none L by cases L with | nil => exact absurd rfl hne | cons p r => rfl, hs]
  unfold wrI
  cases L.findIdx? thr3 with
  | none => simp
  | some j => simp
theorem wrI_nonneg (L : List Lb) (h : ¬ wrI L < 0) : ((wrI L).toNat : Int) = wrI L := Int.toNat_of_nonneg (by omega)
def by1 (l : List Int) : DV := .one (.f (.sl 1 l.length (l.map cF)))
theorem insL_take {l : List Int} {i : Nat} {b : Int} (h : l[i]? = some b) : insL 0 (l.take (i + 1)) = insL 0 (l.take i) ++ rowL i 0 (cntB b) := by
  have hi := (List.getElem?_eq_some_iff.1 h).1
  rw [List.take_add_one, h, Option.toList_some, insL_snoc, List.length_take, Nat.zero_add, Nat.min_eq_left (by omega)]
theorem lbF_len (l : List Lb) : (l.flatMap lbF).length = l.length * 2 := flat_length (f := lbF) (e := 2) (fun _ => rfl) l
set_option maxHeartbeats 8000000 in
theorem d_bindInserted {l : List Int} (hl : ∀ b ∈ l, 0 ≤ b ∧ b < 256) : DK 4 [by1 l] fun d => d = .bool true := by
  refine dfn_ok cp4 rfl GHro fun Z0 lo => ?_
  repeat (first | refine dw_p rfl ?_ | refine dw_nil ?_ | refine ds_seq ?_ | refine ds_ops mix (fun base => ?_))
  refine dw_cf rfl rfl d_sanity ?_
  rintro _ rfl
  repeat (first | refine dw_p rfl ?_ | refine dw_a rfl ?_ | refine dw_nil ?_ | refine ds_seq ?_ | refine ds_ops mix (fun base => ?_) | refine ds_block ?_)
  refine ds_loop (fun m E S nk => ∃ i : Nat, i + m = min l.length 5 ∧ ∃ L, L = insL 0 (l.take i) ∧ E = [(0, by1 l), (3, .bool true), (4, .one (.own 0 0 L.length 2)), (5, .int (wrI L)), (6, .int i)] ∧ S = [(0, .data (L.flatMap lbF))] ∧ nk = 1) ⟨min l.length 5, _, _, _, [], ?wk, 0, by omega, [], rfl, rfl, rfl, rfl⟩ ?_
  case wk => exact ⟨by repeat (first | exact trivial | refine ⟨by first | rfl | exact congrArg (fun z => some (DV.int z)) (dwrap (by omega) (by omega)), rfl, ?_⟩), by repeat (first | exact trivial | refine ⟨by first | rfl | exact congrArg (fun z => some (Bk.data z)) (by assumption), rfl, rfl, ?_⟩), rfl, rfl⟩
  rintro m E S nk ⟨i, hi, L, hL, rfl, rfl, rfl⟩
  have hLl : L.length ≤ 20 := by
    have := insL_len (l.take i) 0
    rw [List.length_take] at this
    rw [hL]; omega
  by_cases hil : i < l.length ∧ i < 5
  · have g1 : decide ((i : Int) < l.length) = true := by simp; omega
    have g2 : decide ((i : Int) < 5) = true := by simp; omega
    obtain ⟨b, hb⟩ : ∃ b, l[i]? = some b := ⟨_, List.getElem?_eq_getElem (by omega)⟩
    have hbl := hl b (List.mem_of_getElem? hb)
    have e1 := one_at (cF_at hb)
    have l0 : i < l.length := hil.1
    obtain ⟨q, hq⟩ : ∃ q : Nat, IntKind.i64.wrap (b.tmod 4) = q ∧ cntB b = q + 1 ∧ q ≤ 3 := by
      refine ⟨(b % 4).toNat, ?_, rfl, by omega⟩
      rw [Int.tmod_eq_emod_of_nonneg hbl.1, dwrap (by omega) (by omega)]; omega
    have hnext := insL_take hb
    rw [← hL, hq.2.1] at hnext
    repeat (first | refine dw_want rfl rfl ?_ | refine dw_pickT rfl rfl ?_ | refine dw_pB rfl (by assumption) ?_ | refine dw_p rfl ?_ | refine dw_nil ?_ | refine ds_seq ?_ | refine ds_ops mix (fun base => ?_))
    refine ds_if rfl (fun _ => ?_) (fun ht => by cases ht)
    repeat (first | refine dw_p rfl ?_ | refine dw_nil ?_ | refine ds_seq ?_ | refine ds_ops mix (fun base => ?_) | refine ds_skip ?_ | refine ds_block ?_)
    refine ds_loop (fun m2 E S nk => ∃ j : Nat, j + m2 = q + 1 ∧ ∃ K, K = L ++ rowL i 0 j ∧ E = [(0, by1 l), (3, .bool true), (4, .one (.own 0 0 K.length 2)), (5, .int (wrI K)), (6, .int i), (7, .int j)] ∧ S = [(0, .data (K.flatMap lbF))] ∧ nk = 1) ⟨q + 1, _, _, _, [], ?wk1, 0, by omega, L, by simp [rowL], rfl, rfl, rfl⟩ ?_
    case wk1 => exact ⟨by repeat (first | exact trivial | refine ⟨by first | rfl | exact congrArg (fun z => some (DV.int z)) (dwrap (by omega) (by omega)), rfl, ?_⟩), by repeat (first | exact trivial | refine ⟨by first | rfl | exact congrArg (fun z => some (Bk.data z)) (by assumption), rfl, rfl, ?_⟩), rfl, rfl⟩
    rintro m2 E S nk ⟨j, hj, K, hK, rfl, rfl, rfl⟩
    have hKl : K.length ≤ 24 := by rw [hK, List.length_append, rowL_len]; omega
    have hfl := lbF_len K
    repeat (first | refine dw_p rfl ?_ | refine dw_l rfl ?_ | refine dw_if rfl rfl (by omega) (by decide) (by assumption) ?_ | refine dw_nil ?_ | refine ds_seq ?_ | refine ds_ops mix (fun base => ?_))
    rw [hq.1]
    refine ds_if rfl (fun ht => ?_) (fun ht => ?_)
    · have hjq : j ≤ q := by simp at ht; omega
      have hsn := wrI_snoc K (((i + 1 : Nat) : Int), (j : Int))
      have hK2 : K ++ [(((i + 1 : Nat) : Int), (j : Int))] = L ++ rowL i 0 (j + 1) := by rw [rowL_snoc, hK, List.append_assoc, Nat.zero_add]
      have hfm : K.flatMap lbF ++ lbF (((i + 1 : Nat) : Int), (j : Int)) = (K ++ [(((i + 1 : Nat) : Int), (j : Int))]).flatMap lbF := by simp
      have hlen : K.length + 1 = (K ++ [(((i + 1 : Nat) : Int), (j : Int))]).length := by simp
      have w1 : IntKind.i64.wrap ((i : Int) + 1) = ((i + 1 : Nat) : Int) := by rw [dwrap (by omega) (by omega)]; omega
      by_cases h3 : ((j : Int) == 3) = true ∧ decide (wrI K < 0) = true
      · obtain ⟨q1, q2⟩ := h3
        rw [if_pos ⟨q1, of_decide_eq_true q2⟩] at hsn
        repeat (first | refine dw_want rfl rfl ?_ | refine dw_pickT rfl rfl ?_ | refine dw_pB rfl (by assumption) ?_ | refine dw_p rfl ?_ | refine dw_nil ?_ | refine ds_seq ?_ | refine ds_ops mix (fun base => ?_) | refine ds_skip ?_ | refine ds_block ?_)
        refine ds_if (t := true) rfl (fun _ => ?_) (fun ht => by cases ht)
        repeat (first | refine dw_p rfl ?_ | refine dw_a rfl ?_ | refine dw_nil ?_ | refine ds_ops mix (fun base => ?_))
        rw [w1]
        refine dw_app (q := lbF (((i + 1 : Nat) : Int), (j : Int))) rfl rfl rfl (subL_all _ hfl) ⟨rfl, rfl, _, rfl, rfl⟩ (by omega) (by omega) (by decide) rfl ?_
        rw [hfm, hlen]
        repeat (first | refine dw_p rfl ?_ | refine dw_nil ?_ | refine ds_ops mix (fun base => ?_))
        refine ⟨m2 - 1, by omega, _, _, _, [(0, 2)], ?wk2, j + 1, by omega, _, hK2, rfl, rfl, rfl⟩
        case wk2 =>
          rw [hsn]
          exact ⟨by repeat (first | exact trivial | refine ⟨by first | rfl | exact congrArg (fun z => some (DV.int z)) (dwrap (by omega) (by omega)), rfl, ?_⟩), by repeat (first | exact trivial | refine ⟨by first | rfl | exact congrArg (fun z => some (Bk.data z)) (by assumption), rfl, rfl, ?_⟩), rfl, rfl⟩
      · rw [if_neg (fun h => h3 ⟨h.1, decide_eq_true h.2⟩)] at hsn
        have hgo : ∀ (base : Nat), True := fun _ => trivial
        cases q1 : ((j : Int) == 3) with
        | true =>
          have q2 : decide (wrI K < 0) = false := by
            cases hd : decide (wrI K < 0) with
            | true => exact absurd ⟨q1, hd⟩ h3
            | false => rfl
          repeat (first | refine dw_want rfl rfl ?_ | refine dw_pickT rfl rfl ?_ | refine dw_pB rfl (by assumption) ?_ | refine dw_p rfl ?_ | refine dw_nil ?_ | refine ds_seq ?_ | refine ds_ops mix (fun base => ?_) | refine ds_skip ?_ | refine ds_block ?_)
          refine ds_if (t := false) rfl (fun ht => by cases ht) (fun _ => ?_)
          repeat (first | refine dw_p rfl ?_ | refine dw_a rfl ?_ | refine ds_ops mix (fun base => ?_) | refine ds_skip ?_)
          rw [w1]
          refine dw_app (q := lbF (((i + 1 : Nat) : Int), (j : Int))) rfl rfl rfl (subL_all _ hfl) ⟨rfl, rfl, _, rfl, rfl⟩ (by omega) (by omega) (by decide) rfl ?_
          rw [hfm, hlen]
          repeat (first | refine dw_p rfl ?_ | refine dw_nil ?_ | refine ds_ops mix (fun base => ?_))
          refine ⟨m2 - 1, by omega, _, _, _, [(0, 2)], ?wk3, j + 1, by omega, _, hK2, rfl, rfl, rfl⟩
          case wk3 =>
            rw [hsn]
            exact ⟨by repeat (first | exact trivial | refine ⟨by first | rfl | exact congrArg (fun z => some (DV.int z)) (dwrap (by omega) (by omega)), rfl, ?_⟩), by repeat (first | exact trivial | refine ⟨by first | rfl | exact congrArg (fun z => some (Bk.data z)) (by assumption), rfl, rfl, ?_⟩), rfl, rfl⟩
        | false =>
          repeat (first | refine dw_skip rfl rfl ?_ | refine dw_pickF rfl rfl ?_ | refine dw_pB rfl (by assumption) ?_ | refine dw_p rfl ?_ | refine dw_nil ?_ | refine ds_seq ?_ | refine ds_ops mix (fun base => ?_) | refine ds_skip ?_ | refine ds_block ?_)
          refine ds_if (t := false) rfl (fun ht => by cases ht) (fun _ => ?_)
          repeat (first | refine dw_p rfl ?_ | refine dw_a rfl ?_ | refine ds_ops mix (fun base => ?_) | refine ds_skip ?_)
          rw [w1]
          refine dw_app (q := lbF (((i + 1 : Nat) : Int), (j : Int))) rfl rfl rfl (subL_all _ hfl) ⟨rfl, rfl, _, rfl, rfl⟩ (by omega) (by omega) (by decide) rfl ?_
          rw [hfm, hlen]
          repeat (first | refine dw_p rfl ?_ | refine dw_nil ?_ | refine ds_ops mix (fun base => ?_))
          refine ⟨m2 - 1, by omega, _, _, _, [(0, 2)], ?wk4, j + 1, by omega, _, hK2, rfl, rfl, rfl⟩
          case wk4 =>
            rw [hsn]
            exact ⟨by repeat (first | exact trivial | refine ⟨by first | rfl | exact congrArg (fun z => some (DV.int z)) (dwrap (by omega) (by omega)), rfl, ?_⟩), by repeat (first | exact trivial | refine ⟨by first | rfl | exact congrArg (fun z => some (Bk.data z)) (by assumption), rfl, rfl, ?_⟩), rfl, rfl⟩
    · have hjq : j = q + 1 := by simp at ht; omega
      subst hjq
      repeat (first | refine dw_p rfl ?_ | refine dw_nil ?_ | refine ds_ops mix (fun base => ?_) | refine ds_exit ?_)
      refine ⟨m - 1, by omega, _, _, _, [], ?wk5, i + 1, by omega, K, by rw [hK, hnext], rfl, rfl, rfl⟩
      case wk5 => exact ⟨by repeat (first | exact trivial | refine ⟨by first | rfl | exact congrArg (fun z => some (DV.int z)) (dwrap (by omega) (by omega)), rfl, ?_⟩), by repeat (first | exact trivial | refine ⟨by first | rfl | exact congrArg (fun z => some (Bk.data z)) (by assumption), rfl, rfl, ?_⟩), rfl, rfl⟩
  · have htk : l.take i = l.take 5 := by
      by_cases h5 : 5 ≤ l.length
      · rw [show i = 5 by omega]
      · rw [List.take_of_length_le (by omega), List.take_of_length_le (by omega)]
    rw [htk] at hL
    have hnn : ∀ b ∈ l, 0 ≤ b := fun b hb => (hl b hb).1
    have h12 : ∀ p ∈ L, p.1 ≤ 12 := fun p hp => by
      rw [hL] at hp
      have := ins_12 p hp
      rw [List.length_take] at this
      omega
    have hchk : L ≠ [] → chkL L = if wrI L < 0 then (L.length, 0) else ((wrI L).toNat, 250) := fun hne => by
      have := allI_chk hnn (by rw [allI, ← hL]; exact hne)
      rw [allI, ← hL] at this
      exact this
    have hfl := lbF_len L
    have dl := d_labelled (l := L) (by omega) h12
    have h9 := d_checkL (l := L) (by omega) h12
    by_cases h1 : i < l.length
    · have g1 : decide ((i : Int) < l.length) = true := by simp; omega
      have g2 : decide ((i : Int) < 5) = false := by simp; omega
      by_cases he : L = []
      · have hl0 : (L.length : Int) = 0 := by rw [he]; rfl
        have p1 : ((L.length : Int) == 0) = true := by rw [hl0]; rfl
        rw [show chkL L = (0, 340) by rw [he]; rfl] at h9
        repeat (first | refine dw_want rfl rfl ?_ | refine dw_pickT rfl rfl ?_ | refine dw_pB rfl (by assumption) ?_ | refine dw_p rfl ?_ | refine dw_nil ?_ | refine ds_seq ?_ | refine ds_ops mix (fun base => ?_))
        refine ds_if rfl (fun ht => by cases ht) (fun _ => ?_)
        repeat (first | refine dw_p rfl ?_ | refine ds_seq ?_ | refine ds_ops mix (fun base => ?_) | refine ds_exit ?_)
        refine dw_cf rfl rfl d_format ?_
        rintro _ rfl
        refine dw_keep (SubA.cons (k := 3) rfl (SubA.cons (k := 4) rfl (SubA.cons (k := 5) rfl (SubA.cons (k := 48) rfl (SubA.cons (k := 49) rfl (SubA.nil _)))))) (SubA.cons (k := 0) rfl (SubA.nil _)) ?_
        refine dw_frz 0 rfl (by repeat' (first | exact trivial | rfl | assumption | refine ⟨?_, ?_⟩)) (by repeat' (first | exact trivial | rfl | assumption | refine ⟨?_, ?_⟩)) ?_
        refine dw_cf rfl rfl dl ?_
        rintro _ rfl
        refine dw_cf rfl rfl h9 ?_
        rintro _ rfl
        repeat (first | refine dw_pB rfl (by assumption) ?_ | refine dw_p rfl ?_ | refine dw_nil ?_ | refine ds_seq ?_ | refine ds_ops mix (fun base => ?_))
        refine ds_if (t := true) rfl (fun _ => ?_) (fun ht => by cases ht)
        repeat (first | refine dw_want rfl rfl ?_ | refine dw_pickT rfl rfl ?_ | refine dw_pB rfl (by assumption) ?_ | refine dw_p rfl ?_ | refine dw_nil ?_ | refine ds_seq ?_ | refine ds_ops mix (fun base => ?_))
        exact ds_ret ⟨_, rfl, rfl, rfl⟩
      · have hpos : 0 < L.length := Nat.pos_of_ne_zero fun h => he (List.eq_nil_of_length_eq_zero h)
        by_cases hw : wrI L < 0
        · skip
          have c9 := hchk he
          rw [if_pos hw] at c9
          rw [c9] at h9
          have p1 : ((L.length : Int) == 0) = false := by rw [beq_eq_false_iff_ne]; omega
          have p2 : decide (wrI L < 0) = true := decide_eq_true hw
          have p3 : ((L.length : Int) == (L.length : Int)) = true := by simp
          repeat (first | refine dw_want rfl rfl ?_ | refine dw_pickT rfl rfl ?_ | refine dw_pB rfl (by assumption) ?_ | refine dw_p rfl ?_ | refine dw_nil ?_ | refine ds_seq ?_ | refine ds_ops mix (fun base => ?_))
          refine ds_if rfl (fun ht => by cases ht) (fun _ => ?_)
          repeat (first | refine dw_p rfl ?_ | refine ds_seq ?_ | refine ds_ops mix (fun base => ?_) | refine ds_exit ?_)
          refine dw_cf rfl rfl d_format ?_
          rintro _ rfl
          refine dw_keep (SubA.cons (k := 3) rfl (SubA.cons (k := 4) rfl (SubA.cons (k := 5) rfl (SubA.cons (k := 48) rfl (SubA.cons (k := 49) rfl (SubA.nil _)))))) (SubA.cons (k := 0) rfl (SubA.nil _)) ?_
          refine dw_frz 0 rfl (by repeat' (first | exact trivial | rfl | assumption | refine ⟨?_, ?_⟩)) (by repeat' (first | exact trivial | rfl | assumption | refine ⟨?_, ?_⟩)) ?_
          refine dw_cf rfl rfl dl ?_
          rintro _ rfl
          refine dw_cf rfl rfl h9 ?_
          rintro _ rfl
          repeat (first | refine dw_pB rfl (by assumption) ?_ | refine dw_p rfl ?_ | refine dw_nil ?_ | refine ds_seq ?_ | refine ds_ops mix (fun base => ?_))
          refine ds_if (t := false) rfl (fun ht => by cases ht) (fun _ => ?_)
          repeat (first | refine dw_pB rfl (by assumption) ?_ | refine dw_p rfl ?_ | refine dw_nil ?_ | refine ds_seq ?_ | refine ds_ops mix (fun base => ?_) | refine ds_skip ?_)
          refine ds_if (t := true) rfl (fun _ => ?_) (fun ht => by cases ht)
          repeat (first | refine dw_want rfl rfl ?_ | refine dw_pickT rfl rfl ?_ | refine dw_pB rfl (by assumption) ?_ | refine dw_p rfl ?_ | refine dw_nil ?_ | refine ds_seq ?_ | refine ds_ops mix (fun base => ?_))
          exact ds_ret ⟨_, rfl, rfl, rfl⟩
        · skip
          have c9 := hchk he
          rw [if_neg hw] at c9
          rw [c9] at h9
          have p1 : ((L.length : Int) == 0) = false := by rw [beq_eq_false_iff_ne]; omega
          have p2 : decide (wrI L < 0) = false := decide_eq_false hw
          have p3 : (((wrI L).toNat : Int) == wrI L) = true := by rw [wrI_nonneg L hw]; simp
          repeat (first | refine dw_want rfl rfl ?_ | refine dw_pickT rfl rfl ?_ | refine dw_pB rfl (by assumption) ?_ | refine dw_p rfl ?_ | refine dw_nil ?_ | refine ds_seq ?_ | refine ds_ops mix (fun base => ?_))
          refine ds_if rfl (fun ht => by cases ht) (fun _ => ?_)
          repeat (first | refine dw_p rfl ?_ | refine ds_seq ?_ | refine ds_ops mix (fun base => ?_) | refine ds_exit ?_)
          refine dw_cf rfl rfl d_format ?_
          rintro _ rfl
          refine dw_keep (SubA.cons (k := 3) rfl (SubA.cons (k := 4) rfl (SubA.cons (k := 5) rfl (SubA.cons (k := 48) rfl (SubA.cons (k := 49) rfl (SubA.nil _)))))) (SubA.cons (k := 0) rfl (SubA.nil _)) ?_
          refine dw_frz 0 rfl (by repeat' (first | exact trivial | rfl | assumption | refine ⟨?_, ?_⟩)) (by repeat' (first | exact trivial | rfl | assumption | refine ⟨?_, ?_⟩)) ?_
          refine dw_cf rfl rfl dl ?_
          rintro _ rfl
          refine dw_cf rfl rfl h9 ?_
          rintro _ rfl
          repeat (first | refine dw_pB rfl (by assumption) ?_ | refine dw_p rfl ?_ | refine dw_nil ?_ | refine ds_seq ?_ | refine ds_ops mix (fun base => ?_))
          refine ds_if (t := false) rfl (fun ht => by cases ht) (fun _ => ?_)
          repeat (first | refine dw_pB rfl (by assumption) ?_ | refine dw_p rfl ?_ | refine dw_nil ?_ | refine ds_seq ?_ | refine ds_ops mix (fun base => ?_) | refine ds_skip ?_)
          refine ds_if (t := false) rfl (fun ht => by cases ht) (fun _ => ?_)
          repeat (first | refine dw_want rfl rfl ?_ | refine dw_pickT rfl rfl ?_ | refine dw_pB rfl (by assumption) ?_ | refine dw_p rfl ?_ | refine dw_nil ?_ | refine ds_seq ?_ | refine ds_ops mix (fun base => ?_) | refine ds_skip ?_)
          exact ds_ret ⟨_, rfl, rfl, rfl⟩
    · have g1 : decide ((i : Int) < l.length) = false := by simp; omega
      by_cases he : L = []
      · have hl0 : (L.length : Int) = 0 := by rw [he]; rfl
        have p1 : ((L.length : Int) == 0) = true := by rw [hl0]; rfl
        rw [show chkL L = (0, 340) by rw [he]; rfl] at h9
        repeat (first | refine dw_skip rfl rfl ?_ | refine dw_pickF rfl rfl ?_ | refine dw_pB rfl (by assumption) ?_ | refine dw_p rfl ?_ | refine dw_nil ?_ | refine ds_seq ?_ | refine ds_ops mix (fun base => ?_))
        refine ds_if rfl (fun ht => by cases ht) (fun _ => ?_)
        repeat (first | refine dw_p rfl ?_ | refine ds_seq ?_ | refine ds_ops mix (fun base => ?_) | refine ds_exit ?_)
        refine dw_cf rfl rfl d_format ?_
        rintro _ rfl
        refine dw_keep (SubA.cons (k := 3) rfl (SubA.cons (k := 4) rfl (SubA.cons (k := 5) rfl (SubA.cons (k := 48) rfl (SubA.cons (k := 49) rfl (SubA.nil _)))))) (SubA.cons (k := 0) rfl (SubA.nil _)) ?_
        refine dw_frz 0 rfl (by repeat' (first | exact trivial | rfl | assumption | refine ⟨?_, ?_⟩)) (by repeat' (first | exact trivial | rfl | assumption | refine ⟨?_, ?_⟩)) ?_
        refine dw_cf rfl rfl dl ?_
        rintro _ rfl
        refine dw_cf rfl rfl h9 ?_
        rintro _ rfl
        repeat (first | refine dw_pB rfl (by assumption) ?_ | refine dw_p rfl ?_ | refine dw_nil ?_ | refine ds_seq ?_ | refine ds_ops mix (fun base => ?_))
        refine ds_if (t := true) rfl (fun _ => ?_) (fun ht => by cases ht)
        repeat (first | refine dw_want rfl rfl ?_ | refine dw_pickT rfl rfl ?_ | refine dw_pB rfl (by assumption) ?_ | refine dw_p rfl ?_ | refine dw_nil ?_ | refine ds_seq ?_ | refine ds_ops mix (fun base => ?_))
        exact ds_ret ⟨_, rfl, rfl, rfl⟩
      · have hpos : 0 < L.length := Nat.pos_of_ne_zero fun h => he (List.eq_nil_of_length_eq_zero h)
        by_cases hw : wrI L < 0
        · skip
          have c9 := hchk he
          rw [if_pos hw] at c9
          rw [c9] at h9
          have p1 : ((L.length : Int) == 0) = false := by rw [beq_eq_false_iff_ne]; omega
          have p2 : decide (wrI L < 0) = true := decide_eq_true hw
          have p3 : ((L.length : Int) == (L.length : Int)) = true := by simp
          repeat (first | refine dw_skip rfl rfl ?_ | refine dw_pickF rfl rfl ?_ | refine dw_pB rfl (by assumption) ?_ | refine dw_p rfl ?_ | refine dw_nil ?_ | refine ds_seq ?_ | refine ds_ops mix (fun base => ?_))
          refine ds_if rfl (fun ht => by cases ht) (fun _ => ?_)
          repeat (first | refine dw_p rfl ?_ | refine ds_seq ?_ | refine ds_ops mix (fun base => ?_) | refine ds_exit ?_)
          refine dw_cf rfl rfl d_format ?_
          rintro _ rfl
          refine dw_keep (SubA.cons (k := 3) rfl (SubA.cons (k := 4) rfl (SubA.cons (k := 5) rfl (SubA.cons (k := 48) rfl (SubA.cons (k := 49) rfl (SubA.nil _)))))) (SubA.cons (k := 0) rfl (SubA.nil _)) ?_
          refine dw_frz 0 rfl (by repeat' (first | exact trivial | rfl | assumption | refine ⟨?_, ?_⟩)) (by repeat' (first | exact trivial | rfl | assumption | refine ⟨?_, ?_⟩)) ?_
          refine dw_cf rfl rfl dl ?_
          rintro _ rfl
          refine dw_cf rfl rfl h9 ?_
          rintro _ rfl
          repeat (first | refine dw_pB rfl (by assumption) ?_ | refine dw_p rfl ?_ | refine dw_nil ?_ | refine ds_seq ?_ | refine ds_ops mix (fun base => ?_))
          refine ds_if (t := false) rfl (fun ht => by cases ht) (fun _ => ?_)
          repeat (first | refine dw_pB rfl (by assumption) ?_ | refine dw_p rfl ?_ | refine dw_nil ?_ | refine ds_seq ?_ | refine ds_ops mix (fun base => ?_) | refine ds_skip ?_)
          refine ds_if (t := true) rfl (fun _ => ?_) (fun ht => by cases ht)
          repeat (first | refine dw_want rfl rfl ?_ | refine dw_pickT rfl rfl ?_ | refine dw_pB rfl (by assumption) ?_ | refine dw_p rfl ?_ | refine dw_nil ?_ | refine ds_seq ?_ | refine ds_ops mix (fun base => ?_))
          exact ds_ret ⟨_, rfl, rfl, rfl⟩
        · skip
          have c9 := hchk he
          rw [if_neg hw] at c9
          rw [c9] at h9
          have p1 : ((L.length : Int) == 0) = false := by rw [beq_eq_false_iff_ne]; omega
          have p2 : decide (wrI L < 0) = false := decide_eq_false hw
          have p3 : (((wrI L).toNat : Int) == wrI L) = true := by rw [wrI_nonneg L hw]; simp
          repeat (first | refine dw_skip rfl rfl ?_ | refine dw_pickF rfl rfl ?_ | refine dw_pB rfl (by assumption) ?_ | refine dw_p rfl ?_ | refine dw_nil ?_ | refine ds_seq ?_ | refine ds_ops mix (fun base => ?_))
          refine ds_if rfl (fun ht => by cases ht) (fun _ => ?_)
          repeat (first | refine dw_p rfl ?_ | refine ds_seq ?_ | refine ds_ops mix (fun base => ?_) | refine ds_exit ?_)
          refine dw_cf rfl rfl d_format ?_
          rintro _ rfl
          refine dw_keep (SubA.cons (k := 3) rfl (SubA.cons (k := 4) rfl (SubA.cons (k := 5) rfl (SubA.cons (k := 48) rfl (SubA.cons (k := 49) rfl (SubA.nil _)))))) (SubA.cons (k := 0) rfl (SubA.nil _)) ?_
          refine dw_frz 0 rfl (by repeat' (first | exact trivial | rfl | assumption | refine ⟨?_, ?_⟩)) (by repeat' (first | exact trivial | rfl | assumption | refine ⟨?_, ?_⟩)) ?_
          refine dw_cf rfl rfl dl ?_
          rintro _ rfl
          refine dw_cf rfl rfl h9 ?_
          rintro _ rfl
          repeat (first | refine dw_pB rfl (by assumption) ?_ | refine dw_p rfl ?_ | refine dw_nil ?_ | refine ds_seq ?_ | refine ds_ops mix (fun base => ?_))
          refine ds_if (t := false) rfl (fun ht => by cases ht) (fun _ => ?_)
          repeat (first | refine dw_pB rfl (by assumption) ?_ | refine dw_p rfl ?_ | refine dw_nil ?_ | refine ds_seq ?_ | refine ds_ops mix (fun base => ?_) | refine ds_skip ?_)
          refine ds_if (t := false) rfl (fun ht => by cases ht) (fun _ => ?_)
          repeat (first | refine dw_want rfl rfl ?_ | refine dw_pickT rfl rfl ?_ | refine dw_pB rfl (by assumption) ?_ | refine dw_p rfl ?_ | refine dw_nil ?_ | refine ds_seq ?_ | refine ds_ops mix (fun base => ?_) | refine ds_skip ?_)
          exact ds_ret ⟨_, rfl, rfl, rfl⟩
end Go.Ac

/- Law 34: the arguments of the laws, and what is laid. -/
namespace Go.Ac
open Go.Ab Go.Proofs
def laid3 : B := .row 20 [.int .u64 1, .int .u64 10, .int .u64 100, .int .u64 1000, .int .u64 10000, .int .u64 100000, .int .u64 1000000, .int .u64 10000000, .int .u64 100000000, .int .u64 1000000000, .int .u64 10000000000, .int .u64 100000000000, .int .u64 1000000000000, .int .u64 10000000000000, .int .u64 100000000000000, .int .u64 1000000000000000, .int .u64 10000000000000000, .int .u64 100000000000000000, .int .u64 1000000000000000000, .int .u64 10000000000000000000] .lf false
def laid4 : B := .row 32 [.int .u8 0, .int .u8 1, .int .u8 28, .int .u8 2, .int .u8 29, .int .u8 14, .int .u8 24, .int .u8 3, .int .u8 30, .int .u8 22, .int .u8 20, .int .u8 15, .int .u8 25, .int .u8 17, .int .u8 4, .int .u8 8, .int .u8 31, .int .u8 27, .int .u8 13, .int .u8 23, .int .u8 21, .int .u8 19, .int .u8 16, .int .u8 7, .int .u8 26, .int .u8 12, .int .u8 18, .int .u8 6, .int .u8 11, .int .u8 5, .int .u8 10, .int .u8 9] .lf false
def laid5 : B := .row 64 [.int .u8 0, .int .u8 1, .int .u8 56, .int .u8 2, .int .u8 57, .int .u8 49, .int .u8 28, .int .u8 3, .int .u8 61, .int .u8 58, .int .u8 42, .int .u8 50, .int .u8 38, .int .u8 29, .int .u8 17, .int .u8 4, .int .u8 62, .int .u8 47, .int .u8 59, .int .u8 36, .int .u8 45, .int .u8 43, .int .u8 51, .int .u8 22, .int .u8 53, .int .u8 39, .int .u8 33, .int .u8 30, .int .u8 24, .int .u8 18, .int .u8 12, .int .u8 5, .int .u8 63, .int .u8 55, .int .u8 48, .int .u8 27, .int .u8 60, .int .u8 41, .int .u8 37, .int .u8 16, .int .u8 46, .int .u8 35, .int .u8 44, .int .u8 21, .int .u8 52, .int .u8 32, .int .u8 23, .int .u8 11, .int .u8 54, .int .u8 26, .int .u8 40, .int .u8 15, .int .u8 34, .int .u8 20, .int .u8 31, .int .u8 10, .int .u8 25, .int .u8 14, .int .u8 19, .int .u8 9, .int .u8 13, .int .u8 8, .int .u8 7, .int .u8 6] .lf false
def GHx : Hp := ⟨.nd (some offs) (.nd (some lets) (.nd (some laid3) .lf .lf) (.nd (some laid5) .lf .lf)) (.nd (some digs) (.nd (some laid4) .lf .lf) .lf), 6⟩
theorem GHx_of {b : Nat} {bk : B} (h : GH.get b = some bk) : GHx.get b = some bk := by
  rw [GHget] at h
  split at h
  · rename_i e; subst e; rw [← h]; rfl
  · split at h
    · rename_i e; subst e; rw [← h]; rfl
    · split at h
      · rename_i e; subst e; rw [← h]; rfl
      · cases h
theorem wf_u8 {n : Int} (h : (Lit.int .u8 n).wf = true) : 0 ≤ n ∧ n < 256 := by
  simp [Lit.wf, IntKind.min, IntKind.max, IntKind.signed, IntKind.bits] at h
  omega
def pr (y : Int × Int × Unit) : Int × Int := (y.1, y.2.1)
theorem bys (a : List (Int × Int × Unit)) : bysD (a.map pr) = argD (.slice (.agg (.pair (.int .u8) (.pair (.int .u8) .unit)))) a := by
  have h : ∀ l : List (Int × Int × Unit), (l.map pr).flatMap byF = List.flatMap (Ty.fd (.agg (.pair (.int .u8) (.pair (.int .u8) .unit)))) l := by
    intro l
    induction l with
    | nil => rfl
    | cons y l ih => rw [List.map_cons, List.flatMap_cons, ih]; rfl
  rw [bysD, h, List.length_map]
  rfl
theorem okb {a : List (Int × Int × Unit)} (h : Ty.okD (.slice (.agg (.pair (.int .u8) (.pair (.int .u8) .unit)))) a) : Bys (a.map pr) := by
  intro p hp
  obtain ⟨y, hy, rfl⟩ := List.mem_map.1 hp
  obtain ⟨h1, h2, _⟩ := h.1 y hy
  exact ⟨wf_u8 h1, wf_u8 h2⟩
theorem by1s (a : List Int) : by1 a = argD (.slice (.int .u8)) a := by
  have h : ∀ l : List Int, l.map cF = List.flatMap (Ty.fd (.int .u8)) l := by
    intro l
    induction l with
    | nil => rfl
    | cons y l ih =>
      show cF y :: l.map cF = cF y :: List.flatMap (Ty.fd (.int .u8)) l
      rw [ih]
  rw [by1, h]
  rfl
theorem ok1 {a : List Int} (h : Ty.okD (.slice (.int .u8)) a) : ∀ b ∈ a, 0 ≤ b ∧ b < 256 := fun b hb => wf_u8 (h.1 b hb)
end Go.Ac
