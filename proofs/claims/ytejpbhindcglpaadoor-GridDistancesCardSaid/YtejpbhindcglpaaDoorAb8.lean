/- Contracts of functions of the program over the abstract semantics. -/
import Derived.Test.YtejpbhindcglpaaDoorAb7
set_option linter.unusedVariables false
set_option linter.unusedSimpArgs false
namespace Go.Ab.Fn
open Go.Ab Go.Proofs
set_option linter.unusedSimpArgs false

def blank (w h : Nat) : List (List Bool) := List.replicate h (List.replicate w false)
theorem blank_succ (w k : Nat) : blank w (k + 1) = blank w k ++ [List.replicate w false] := by simp [blank, List.replicate_succ']

theorem rnew_ro {H : Hp} {w h : Int} {W K : Nat} (hW : min (max w 0) 200 = W) (hK : min (max h 0) 200 = K) : ACalls Tryd.prog 1 11 [.int w, .int h] H fun v H' => ∃ c, v = .agg [.int .i64 W, .int .i64 K, c] ∧ GOwn H' H.nx H'.nx (blank W K) c := by
  refine pfn_ok cp11 (by simp [f11]) fun hwf => ?_
  refine ps_seq (ps_ops0 mix (pw_a rfl rfl (pw_nil ?_)))
  obtain ⟨hw1, hx, hb⟩ := new_box hwf [.int .i64 0, .int .i64 0, .nils] rfl
  refine ps_seq (ps_ops0 mix ?_)
  unfold f11r1
  repeat (first | (refine pw_pick rfl rfl (by first | exact fun _ => rfl | exact fun h => (by simp only [if_pos h]; rfl) | exact fun h => (by simp only [if_pos h]; assumption)) (by first | exact fun _ => rfl | exact fun h => (by simp only [if_pos h]; rfl) | exact fun h => (by simp only [if_pos h]; assumption)) ?_) | (refine pw_mvt rfl ?_) | (refine pw_max rfl rfl rfl ?_) | (refine pw_min rfl rfl rfl ?_) | (refine pw_mvc ?_) | (refine pw_p rfl rfl ?_) | (refine pw_l1 rfl rfl (by assumption) ?_) | (refine pw_ln rfl rfl (by assumption) ?_) | (refine pw_pg rfl rfl (by first | exact fun _ => rfl | exact fun _ => (by assumption) | exact fun h => (by simp only [if_pos h]; rfl) | exact fun h => (by simp only [if_pos h]; assumption)) ?_) | (refine pw_lg1 rfl rfl (by first | exact fun _ => rfl | exact fun h => (by simp only [if_pos h]; rfl) | exact fun h => (by simp only [if_pos h]; assumption)) (by assumption) ?_) | (refine pw_p rfl (by assumption) ?_))
  rw [hW, hK]
  obtain ⟨hw2, hx2, hb2⟩ := new_box hw1 [.int .i64 0, .int .i64 0, .nils] rfl
  obtain ⟨H3, s1, s2, s3, s4⟩ := hb2.stores (cs := [.int .i64 W, .int .i64 K, .nils]) (i := 0) (by simp)
  refine pw_a rfl rfl (pw_stn rfl rfl rfl rfl s1 trivial (pw_nil (ps_seq (ps_seq (ps_ops0 mix (pw_mvc (pw_nil ?_)))))))
  have hbx := (hb.ext hx2).same (s3 _ (by simp))
  have hn3 : H3.nx = H.nx + 2 := by rw [s4]; simp
  refine ps_block (ps_loop (fun m E H' => ∃ k : Nat, k + m = K ∧ ∃ c, E = [(4, .one (.ptr H.nx 0)), (5, .one (.ptr (H.nx + 1) 0)), (6, .int k)] ∧ H.nx + 2 ≤ H'.nx ∧ Row H' H.nx [.int .i64 0, .int .i64 0, .nils] ∧ Row H' (H.nx + 1) [.int .i64 W, .int .i64 K, c] ∧ GOwn H' (H.nx + 2) H'.nx (blank W k) c) (m := K) ⟨_, (SubE.cons (k := 4) rfl (SubE.cons (k := 5) rfl (SubE.cons (k := 6) rfl (SubE.nil _)))), 0, by omega, .nils, rfl, by omega, hbx, s2, GOwn.nil _ _ _⟩ ?_)
  rintro m E H' hwf' ⟨k, hk, c, rfl, hn, r4, r5, hg⟩
  have c0 := r5.cell (i := 0) rfl
  have c1 := r5.cell (i := 1) rfl
  have c2 := r5.cell (i := 2) rfl
  refine ps_seq (ps_seq (ps_ops0 mix ?_))
  unfold f11r3
  repeat (first | (refine pw_pick rfl rfl (by first | exact fun _ => rfl | exact fun h => (by simp only [if_pos h]; rfl) | exact fun h => (by simp only [if_pos h]; assumption)) (by first | exact fun _ => rfl | exact fun h => (by simp only [if_pos h]; rfl) | exact fun h => (by simp only [if_pos h]; assumption)) ?_) | (refine pw_mvt rfl ?_) | (refine pw_max rfl rfl rfl ?_) | (refine pw_min rfl rfl rfl ?_) | (refine pw_mvc ?_) | (refine pw_p rfl rfl ?_) | (refine pw_l1 rfl rfl (by assumption) ?_) | (refine pw_ln rfl rfl (by assumption) ?_) | (refine pw_pg rfl rfl (by first | exact fun _ => rfl | exact fun _ => (by assumption) | exact fun h => (by simp only [if_pos h]; rfl) | exact fun h => (by simp only [if_pos h]; assumption)) ?_) | (refine pw_lg1 rfl rfl (by first | exact fun _ => rfl | exact fun h => (by simp only [if_pos h]; rfl) | exact fun h => (by simp only [if_pos h]; assumption)) (by assumption) ?_) | (refine pw_p rfl (by assumption) ?_))
  refine pw_nil (ps_if rfl rfl (fun ht2 => ?_) (fun ht2 => ?_))
  · refine ps_skip (ps_seq (ps_block (ps_ops mix ?_)))
    unfold f11r4
    repeat (first | (refine pw_pick rfl rfl (by first | exact fun _ => rfl | exact fun h => (by simp only [if_pos h]; rfl) | exact fun h => (by simp only [if_pos h]; assumption)) (by first | exact fun _ => rfl | exact fun h => (by simp only [if_pos h]; rfl) | exact fun h => (by simp only [if_pos h]; assumption)) ?_) | (refine pw_mvt rfl ?_) | (refine pw_max rfl rfl rfl ?_) | (refine pw_min rfl rfl rfl ?_) | (refine pw_mvc ?_) | (refine pw_p rfl rfl ?_) | (refine pw_l1 rfl rfl (by assumption) ?_) | (refine pw_ln rfl rfl (by assumption) ?_) | (refine pw_pg rfl rfl (by first | exact fun _ => rfl | exact fun _ => (by assumption) | exact fun h => (by simp only [if_pos h]; rfl) | exact fun h => (by simp only [if_pos h]; assumption)) ?_) | (refine pw_lg1 rfl rfl (by first | exact fun _ => rfl | exact fun h => (by simp only [if_pos h]; rfl) | exact fun h => (by simp only [if_pos h]; assumption)) (by assumption) ?_) | (refine pw_p rfl (by assumption) ?_))
    simp at ht2
    have hW' : W ≤ 200 := by omega
    have hK' : K ≤ 200 := by omega
    refine pw_mki rfl rfl rfl (by omega) (by omega) (pw_b1i rfl rfl rfl ?_)
    have g4 : ∀ H2 : Hp, (∀ b, b < H'.nx → H2.get b = H'.get b) → GOwn H2 (H.nx + 2) H'.nx (blank W k) c := fun H2 h2 => hg.same fun b _ hb => h2 b hb
    generalize hH2 : Hp.add (Hp.add (Hp.skip H' 9) _ _) _ _ = H2
    have hold : ∀ b, b < H'.nx → H2.get b = H'.get b := fun b hb => by rw [← hH2, Hp.get_add_ne _ _ (by omega), Hp.get_add_ne _ _ (by omega), Hp.get_skip]
    have hrow : Row H2 (H'.nx + 4) ((List.replicate W false).map .bool) := by
      rw [List.map_replicate]
      refine Row.fill ?_
      rw [← hH2, Hp.get_add_ne _ _ (by omega), Hp.get_add_self, Nat.mul_one]
    have hsrc : H2.loads (H'.nx + 5) 0 (1 * 1) = some [.slc (H'.nx + 4) 0 W W 1 true] := by
      refine loads_row (cs := [.slc (H'.nx + 4) 0 W W 1 true]) (rw := true) ?_
      rw [← hH2, Hp.get_add_self]
    have hn2 : H2.nx = H'.nx + 9 := by rw [← hH2]; simp
    have hw2 : WF H2 := by
      intro b bk hb
      by_cases h1 : b < H'.nx
      · omega
      · rw [← hH2] at hb
        rw [Hp.get_add] at hb
        split at hb
        · omega
        · rw [Hp.get_add] at hb
          split at hb
          · omega
          · rw [Hp.get_skip] at hb
            have := hwf' b bk hb
            omega
    obtain ⟨c', H5, a1, a2, a3, a4, a5⟩ := (g4 H2 hold).snoc hw2 (r := List.replicate W false) hn (by omega) hrow (by simp [blank]; omega)
    rw [List.length_replicate] at a1
    refine pw_app rfl rfl rfl (src_row hsrc) a1 trivial ?_
    have r4' := (r4.same (hold _ (by omega))).same (a3 _ (by omega) (.inl (by omega)))
    have r5' := (r5.same (hold _ (by omega))).same (a3 _ (by omega) (.inl (by omega)))
    obtain ⟨H6, t1, t2, t3, t4⟩ := r5'.store (i := 2) (by simp) c'
    refine pw_p rfl rfl (pw_st1 rfl rfl rfl t1 trivial (pw_nil (ps_ops0 mix ?_)))
    unfold f11r5
    repeat (first | (refine pw_pick rfl rfl (by first | exact fun _ => rfl | exact fun h => (by simp only [if_pos h]; rfl) | exact fun h => (by simp only [if_pos h]; assumption)) (by first | exact fun _ => rfl | exact fun h => (by simp only [if_pos h]; rfl) | exact fun h => (by simp only [if_pos h]; assumption)) ?_) | (refine pw_mvt rfl ?_) | (refine pw_max rfl rfl rfl ?_) | (refine pw_min rfl rfl rfl ?_) | (refine pw_mvc ?_) | (refine pw_p rfl rfl ?_) | (refine pw_l1 rfl rfl (by assumption) ?_) | (refine pw_ln rfl rfl (by assumption) ?_) | (refine pw_pg rfl rfl (by first | exact fun _ => rfl | exact fun _ => (by assumption) | exact fun h => (by simp only [if_pos h]; rfl) | exact fun h => (by simp only [if_pos h]; assumption)) ?_) | (refine pw_lg1 rfl rfl (by first | exact fun _ => rfl | exact fun h => (by simp only [if_pos h]; rfl) | exact fun h => (by simp only [if_pos h]; assumption)) (by assumption) ?_) | (refine pw_p rfl (by assumption) ?_))
    refine pw_nil ⟨m - 1, by omega, _, (SubE.cons (k := 4) rfl (SubE.cons (k := 5) rfl (SubE.cons (k := 6) rfl (SubE.nil _)))), k + 1, by omega, c', ?_, by omega, r4'.same (t3 _ (by omega)), t2, ?_⟩
    · rw [wrap_i64 (by omega) (by omega)]; rfl
    · rw [blank_succ, t4]
      exact a2.same fun b hb _ => t3 b (by omega)
  · simp at ht2
    obtain rfl : k = K := by omega
    obtain ⟨H6, t1, t2, t3, t4⟩ := r4.stores (cs := [.int .i64 W, .int .i64 k, c]) (i := 0) (by simp)
    refine ps_exit (ps_seq (ps_ops0 mix ?_))
    unfold f11r6
    refine pw_ln rfl rfl r5.2 (pw_stn rfl rfl rfl rfl t1 trivial (pw_nil (ps_ret ?_)))
    have hl : H6.loads H.nx 0 3 = some [.int .i64 W, .int .i64 k, c] := t2.2
    refine ⟨.agg [.int .i64 W, .int .i64 k, c], by simp [resultE, resEL, resE, f11, look, setE, aLoad, Opd.ev, hl, isOne], c, rfl, ?_⟩
    rw [t4]
    exact (hg.same fun b hb _ => t3 b (by omega)).lo (by omega)
theorem rnew_ok {H : Hp} {w h : Int} {W K : Nat} (hW : min (max w 0) 200 = W) (hK : min (max h 0) 200 = K) : ACalls Tryd.prog 1 11 [.int w, .int h] H fun v H' => ∃ c, v = .agg [.int .i64 W, .int .i64 K, c] ∧ GOwn H' H.nx H'.nx (blank W K) c ∧ Ext H H' :=
  (ACalls.grow (rnew_ro hW hK)).mono fun v H' ⟨H1, ⟨c, hv, hg⟩, e1, e2, e3, e4, _⟩ => ⟨c, hv, by
    subst e1
    exact (hg.same fun b hb _ => e4 b hb), e3, by subst e1; exact e2⟩
end Go.Ab.Fn

namespace Go.Ab.Fn
open Go.Ab Go.Proofs
set_option linter.unusedSimpArgs false

theorem wrap64 {n : Int} (h1 : -9223372036854775808 ≤ n) (h2 : n < 9223372036854775808) : IntKind.i64.wrap n = n := wrap_i64 h1 h2

/-- the absolute value, in grid -/
theorem abs_ok {H : Hp} {n : Int} (h : -4000000000000000000 < n) (h' : n < 4000000000000000000) : ACalls Tryd.prog 1 55 [.int n] H fun v H' => v = .int (max n (-n)) ∧ H' = H := by
  refine pfn_ok cp55 (by simp [f55]) fun hwf => ?_
  repeat (first | (refine pw_pick rfl rfl (by first | exact fun _ => rfl | exact fun h => (by simp only [if_pos h]; rfl) | exact fun h => (by simp only [if_pos h]; assumption)) (by first | exact fun _ => rfl | exact fun h => (by simp only [if_pos h]; rfl) | exact fun h => (by simp only [if_pos h]; assumption)) ?_) | (refine pw_mvt rfl ?_) | (refine pw_max rfl rfl rfl ?_) | (refine pw_min rfl rfl rfl ?_) | (refine pw_mvc ?_) | (refine pw_p rfl rfl ?_) | (refine pw_l1 rfl rfl (by assumption) ?_) | (refine pw_ln rfl rfl (by assumption) ?_) | (refine pw_lk1 rfl rfl (by assumption) ?_) | (refine pw_lkn rfl rfl (by assumption) ?_) | (refine pw_pg rfl rfl (by first | exact fun _ => rfl | exact fun _ => (by assumption) | exact fun h => (by simp only [if_pos h]; rfl) | exact fun h => (by simp only [if_pos h]; assumption)) ?_) | (refine pw_lg1 rfl rfl (by first | exact fun _ => rfl | exact fun h => (by simp only [if_pos h]; rfl) | exact fun h => (by simp only [if_pos h]; assumption)) (by assumption) ?_) | (refine pw_p rfl (by assumption) ?_) | (refine pw_nil ?_) | (refine ps_seq ?_) | (refine ps_ops0 mix ?_) | (refine ps_skip ?_) | (refine ps_block ?_))
  refine ps_if rfl rfl (fun ht => ?_) (fun ht => ?_)
  · repeat (first | (refine pw_pick rfl rfl (by first | exact fun _ => rfl | exact fun h => (by simp only [if_pos h]; rfl) | exact fun h => (by simp only [if_pos h]; assumption)) (by first | exact fun _ => rfl | exact fun h => (by simp only [if_pos h]; rfl) | exact fun h => (by simp only [if_pos h]; assumption)) ?_) | (refine pw_mvt rfl ?_) | (refine pw_max rfl rfl rfl ?_) | (refine pw_min rfl rfl rfl ?_) | (refine pw_mvc ?_) | (refine pw_p rfl rfl ?_) | (refine pw_l1 rfl rfl (by assumption) ?_) | (refine pw_ln rfl rfl (by assumption) ?_) | (refine pw_lk1 rfl rfl (by assumption) ?_) | (refine pw_lkn rfl rfl (by assumption) ?_) | (refine pw_pg rfl rfl (by first | exact fun _ => rfl | exact fun _ => (by assumption) | exact fun h => (by simp only [if_pos h]; rfl) | exact fun h => (by simp only [if_pos h]; assumption)) ?_) | (refine pw_lg1 rfl rfl (by first | exact fun _ => rfl | exact fun h => (by simp only [if_pos h]; rfl) | exact fun h => (by simp only [if_pos h]; assumption)) (by assumption) ?_) | (refine pw_p rfl (by assumption) ?_) | (refine pw_nil ?_) | (refine ps_seq ?_) | (refine ps_ops0 mix ?_) | (refine ps_skip ?_) | (refine ps_block ?_))
    refine ps_ret ⟨_, rfl, ?_, rfl⟩
    simp at ht
    rw [wrap_i64 (by omega) (by omega)]
    congr 2; omega
  · repeat (first | (refine pw_pick rfl rfl (by first | exact fun _ => rfl | exact fun h => (by simp only [if_pos h]; rfl) | exact fun h => (by simp only [if_pos h]; assumption)) (by first | exact fun _ => rfl | exact fun h => (by simp only [if_pos h]; rfl) | exact fun h => (by simp only [if_pos h]; assumption)) ?_) | (refine pw_mvt rfl ?_) | (refine pw_max rfl rfl rfl ?_) | (refine pw_min rfl rfl rfl ?_) | (refine pw_mvc ?_) | (refine pw_p rfl rfl ?_) | (refine pw_l1 rfl rfl (by assumption) ?_) | (refine pw_ln rfl rfl (by assumption) ?_) | (refine pw_lk1 rfl rfl (by assumption) ?_) | (refine pw_lkn rfl rfl (by assumption) ?_) | (refine pw_pg rfl rfl (by first | exact fun _ => rfl | exact fun _ => (by assumption) | exact fun h => (by simp only [if_pos h]; rfl) | exact fun h => (by simp only [if_pos h]; assumption)) ?_) | (refine pw_lg1 rfl rfl (by first | exact fun _ => rfl | exact fun h => (by simp only [if_pos h]; rfl) | exact fun h => (by simp only [if_pos h]; assumption)) (by assumption) ?_) | (refine pw_p rfl (by assumption) ?_) | (refine pw_nil ?_) | (refine ps_seq ?_) | (refine ps_ops0 mix ?_) | (refine ps_skip ?_) | (refine ps_block ?_))
    refine ps_ret ⟨_, rfl, ?_, rfl⟩
    simp at ht
    congr 2; omega
/-- the absolute value, in the reference -/
theorem rabs_ok {H : Hp} {n : Int} (h : -4000000000000000000 < n) (h' : n < 4000000000000000000) : ACalls Tryd.prog 1 43 [.int n] H fun v H' => v = .int (max n (-n)) ∧ H' = H := by
  refine pfn_ok cp43 (by simp [f43]) fun hwf => ?_
  repeat (first | (refine pw_pick rfl rfl (by first | exact fun _ => rfl | exact fun h => (by simp only [if_pos h]; rfl) | exact fun h => (by simp only [if_pos h]; assumption)) (by first | exact fun _ => rfl | exact fun h => (by simp only [if_pos h]; rfl) | exact fun h => (by simp only [if_pos h]; assumption)) ?_) | (refine pw_mvt rfl ?_) | (refine pw_max rfl rfl rfl ?_) | (refine pw_min rfl rfl rfl ?_) | (refine pw_mvc ?_) | (refine pw_p rfl rfl ?_) | (refine pw_l1 rfl rfl (by assumption) ?_) | (refine pw_ln rfl rfl (by assumption) ?_) | (refine pw_lk1 rfl rfl (by assumption) ?_) | (refine pw_lkn rfl rfl (by assumption) ?_) | (refine pw_pg rfl rfl (by first | exact fun _ => rfl | exact fun _ => (by assumption) | exact fun h => (by simp only [if_pos h]; rfl) | exact fun h => (by simp only [if_pos h]; assumption)) ?_) | (refine pw_lg1 rfl rfl (by first | exact fun _ => rfl | exact fun h => (by simp only [if_pos h]; rfl) | exact fun h => (by simp only [if_pos h]; assumption)) (by assumption) ?_) | (refine pw_p rfl (by assumption) ?_) | (refine pw_nil ?_) | (refine ps_seq ?_) | (refine ps_ops0 mix ?_) | (refine ps_skip ?_) | (refine ps_block ?_))
  refine ps_ret ⟨_, rfl, ?_, rfl⟩
  rw [wrap_i64 (by omega) (by omega)]
  congr 3; omega

def far (p q : Pt) : Int := max (max (p.1 - q.1) (-(p.1 - q.1))) (max (p.2 - q.2) (-(p.2 - q.2)))
def Small (B : Int) (p : Pt) : Prop := -B ≤ p.1 ∧ p.1 ≤ B ∧ -B ≤ p.2 ∧ p.2 ≤ B

theorem apart_ro {H : Hp} {p q : Pt} (hp : Small 1000000000000000000 p) (hq : Small 1000000000000000000 q) : ACalls Tryd.prog 1 41 [ptV p, ptV q] H fun v _ => v = .int (far p q) := by
  obtain ⟨p1, p2, p3, p4⟩ := hp
  obtain ⟨q1, q2, q3, q4⟩ := hq
  refine pfn_ok cp41 (by simp [f41]) fun hwf => ?_
  obtain ⟨hw1, hx1, hb1⟩ := new_box hwf (ptC p) rfl
  obtain ⟨hw2, hx2, hb2⟩ := new_box hw1 (ptC q) rfl
  refine ps_seq (ps_ops0 mix (pw_a rfl rfl (pw_a rfl rfl (pw_mvc (pw_nil ?_)))))
  replace hb1 := hb1.ext hx2
  have c0 := hb1.cell (i := 0) rfl
  have c1 := hb1.cell (i := 1) rfl
  have d0 := hb2.cell (i := 0) rfl
  have d1 := hb2.cell (i := 1) rfl
  generalize ((H.push _).push _) = H2 at *
  refine ps_seq (ps_ops mix ?_)
  repeat (first | (refine pw_pick rfl rfl (by first | exact fun _ => rfl | exact fun h => (by simp only [if_pos h]; rfl) | exact fun h => (by simp only [if_pos h]; assumption)) (by first | exact fun _ => rfl | exact fun h => (by simp only [if_pos h]; rfl) | exact fun h => (by simp only [if_pos h]; assumption)) ?_) | (refine pw_mvt rfl ?_) | (refine pw_max rfl rfl rfl ?_) | (refine pw_min rfl rfl rfl ?_) | (refine pw_mvc ?_) | (refine pw_p rfl rfl ?_) | (refine pw_l1 rfl rfl (by assumption) ?_) | (refine pw_ln rfl rfl (by assumption) ?_) | (refine pw_lk1 rfl rfl (by assumption) ?_) | (refine pw_lkn rfl rfl (by assumption) ?_) | (refine pw_pg rfl rfl (by first | exact fun _ => rfl | exact fun _ => (by assumption) | exact fun h => (by simp only [if_pos h]; rfl) | exact fun h => (by simp only [if_pos h]; assumption)) ?_) | (refine pw_lg1 rfl rfl (by first | exact fun _ => rfl | exact fun h => (by simp only [if_pos h]; rfl) | exact fun h => (by simp only [if_pos h]; assumption)) (by assumption) ?_) | (refine pw_p rfl (by assumption) ?_) | (refine pw_nil ?_) | (refine ps_seq ?_) | (refine ps_ops0 mix ?_) | (refine ps_skip ?_) | (refine ps_block ?_))
  rw [wrap_i64 (n := p.1 - q.1) (by omega) (by omega)]
  rw [wrap_i64 (n := p.2 - q.2) (by omega) (by omega)]
  refine pw_cfp rfl rfl (abs_ok (by omega) (by omega)) (by repeat (first | exact trivial | refine ⟨by assumption, ?_⟩)) (pw_cfp rfl rfl (abs_ok (by omega) (by omega)) (by repeat (first | exact trivial | refine ⟨by assumption, ?_⟩)) ?_)
  repeat (first | (refine pw_pick rfl rfl (by first | exact fun _ => rfl | exact fun h => (by simp only [if_pos h]; rfl) | exact fun h => (by simp only [if_pos h]; assumption)) (by first | exact fun _ => rfl | exact fun h => (by simp only [if_pos h]; rfl) | exact fun h => (by simp only [if_pos h]; assumption)) ?_) | (refine pw_mvt rfl ?_) | (refine pw_max rfl rfl rfl ?_) | (refine pw_min rfl rfl rfl ?_) | (refine pw_mvc ?_) | (refine pw_p rfl rfl ?_) | (refine pw_l1 rfl rfl (by assumption) ?_) | (refine pw_ln rfl rfl (by assumption) ?_) | (refine pw_lk1 rfl rfl (by assumption) ?_) | (refine pw_lkn rfl rfl (by assumption) ?_) | (refine pw_pg rfl rfl (by first | exact fun _ => rfl | exact fun _ => (by assumption) | exact fun h => (by simp only [if_pos h]; rfl) | exact fun h => (by simp only [if_pos h]; assumption)) ?_) | (refine pw_lg1 rfl rfl (by first | exact fun _ => rfl | exact fun h => (by simp only [if_pos h]; rfl) | exact fun h => (by simp only [if_pos h]; assumption)) (by assumption) ?_) | (refine pw_p rfl (by assumption) ?_) | (refine pw_nil ?_) | (refine ps_seq ?_) | (refine ps_ops0 mix ?_) | (refine ps_skip ?_) | (refine ps_block ?_))
  exact ps_ret ⟨_, rfl, rfl⟩
theorem apart_ok {H : Hp} {p q : Pt} (hp : Small 1000000000000000000 p) (hq : Small 1000000000000000000 q) : ACalls Tryd.prog 1 41 [ptV p, ptV q] H fun v H' => v = .int (far p q) ∧ H' = H :=
  (ACalls.pure (apart_ro hp hq) (fun v _ h => by rw [h]; rfl)).mono fun v H' ⟨⟨_, h⟩, e⟩ => ⟨h, e⟩
theorem rfar_ro {H : Hp} {p q : Pt} (hp : Small 1000000000000000000 p) (hq : Small 1000000000000000000 q) : ACalls Tryd.prog 1 15 [ptV p, ptV q] H fun v _ => v = .int (far p q) := by
  obtain ⟨p1, p2, p3, p4⟩ := hp
  obtain ⟨q1, q2, q3, q4⟩ := hq
  refine pfn_ok cp15 (by simp [f15]) fun hwf => ?_
  obtain ⟨hw1, hx1, hb1⟩ := new_box hwf (ptC p) rfl
  obtain ⟨hw2, hx2, hb2⟩ := new_box hw1 (ptC q) rfl
  refine ps_seq (ps_ops0 mix (pw_a rfl rfl (pw_a rfl rfl (pw_mvc (pw_nil ?_)))))
  replace hb1 := hb1.ext hx2
  have c0 := hb1.cell (i := 0) rfl
  have c1 := hb1.cell (i := 1) rfl
  have d0 := hb2.cell (i := 0) rfl
  have d1 := hb2.cell (i := 1) rfl
  generalize ((H.push _).push _) = H2 at *
  refine ps_seq (ps_ops mix ?_)
  repeat (first | (refine pw_pick rfl rfl (by first | exact fun _ => rfl | exact fun h => (by simp only [if_pos h]; rfl) | exact fun h => (by simp only [if_pos h]; assumption)) (by first | exact fun _ => rfl | exact fun h => (by simp only [if_pos h]; rfl) | exact fun h => (by simp only [if_pos h]; assumption)) ?_) | (refine pw_mvt rfl ?_) | (refine pw_max rfl rfl rfl ?_) | (refine pw_min rfl rfl rfl ?_) | (refine pw_mvc ?_) | (refine pw_p rfl rfl ?_) | (refine pw_l1 rfl rfl (by assumption) ?_) | (refine pw_ln rfl rfl (by assumption) ?_) | (refine pw_lk1 rfl rfl (by assumption) ?_) | (refine pw_lkn rfl rfl (by assumption) ?_) | (refine pw_pg rfl rfl (by first | exact fun _ => rfl | exact fun _ => (by assumption) | exact fun h => (by simp only [if_pos h]; rfl) | exact fun h => (by simp only [if_pos h]; assumption)) ?_) | (refine pw_lg1 rfl rfl (by first | exact fun _ => rfl | exact fun h => (by simp only [if_pos h]; rfl) | exact fun h => (by simp only [if_pos h]; assumption)) (by assumption) ?_) | (refine pw_p rfl (by assumption) ?_) | (refine pw_nil ?_) | (refine ps_seq ?_) | (refine ps_ops0 mix ?_) | (refine ps_skip ?_) | (refine ps_block ?_))
  rw [wrap_i64 (n := p.1 - q.1) (by omega) (by omega)]
  rw [wrap_i64 (n := p.2 - q.2) (by omega) (by omega)]
  refine pw_cfp rfl rfl (rabs_ok (by omega) (by omega)) (by repeat (first | exact trivial | refine ⟨by assumption, ?_⟩)) (pw_cfp rfl rfl (rabs_ok (by omega) (by omega)) (by repeat (first | exact trivial | refine ⟨by assumption, ?_⟩)) ?_)
  repeat (first | (refine pw_pick rfl rfl (by first | exact fun _ => rfl | exact fun h => (by simp only [if_pos h]; rfl) | exact fun h => (by simp only [if_pos h]; assumption)) (by first | exact fun _ => rfl | exact fun h => (by simp only [if_pos h]; rfl) | exact fun h => (by simp only [if_pos h]; assumption)) ?_) | (refine pw_mvt rfl ?_) | (refine pw_max rfl rfl rfl ?_) | (refine pw_min rfl rfl rfl ?_) | (refine pw_mvc ?_) | (refine pw_p rfl rfl ?_) | (refine pw_l1 rfl rfl (by assumption) ?_) | (refine pw_ln rfl rfl (by assumption) ?_) | (refine pw_lk1 rfl rfl (by assumption) ?_) | (refine pw_lkn rfl rfl (by assumption) ?_) | (refine pw_pg rfl rfl (by first | exact fun _ => rfl | exact fun _ => (by assumption) | exact fun h => (by simp only [if_pos h]; rfl) | exact fun h => (by simp only [if_pos h]; assumption)) ?_) | (refine pw_lg1 rfl rfl (by first | exact fun _ => rfl | exact fun h => (by simp only [if_pos h]; rfl) | exact fun h => (by simp only [if_pos h]; assumption)) (by assumption) ?_) | (refine pw_p rfl (by assumption) ?_) | (refine pw_nil ?_) | (refine ps_seq ?_) | (refine ps_ops0 mix ?_) | (refine ps_skip ?_) | (refine ps_block ?_))
  exact ps_ret ⟨_, rfl, rfl⟩
theorem rfar_ok {H : Hp} {p q : Pt} (hp : Small 1000000000000000000 p) (hq : Small 1000000000000000000 q) : ACalls Tryd.prog 1 15 [ptV p, ptV q] H fun v H' => v = .int (far p q) ∧ H' = H :=
  (ACalls.pure (rfar_ro hp hq) (fun v _ h => by rw [h]; rfl)).mono fun v H' ⟨⟨_, h⟩, e⟩ => ⟨h, e⟩

theorem tdiv_tmod {a b : Int} (hb : 0 < b) : (if a.tmod b < 0 then a.tdiv b - 1 else a.tdiv b) = a / b := by
  have h1 := Int.tmod_add_mul_tdiv a b
  have h2 := tmod_bd a hb
  have h3 := Int.emod_add_mul_ediv a b
  have h4 := Int.emod_nonneg a (by omega : b ≠ 0)
  have h5 := Int.emod_lt_of_pos a hb
  split
  · rename_i h
    have key : b * (a.tdiv b - 1 - a / b) = a % b - a.tmod b - b := by
      rw [Int.mul_sub, Int.mul_sub]; omega
    have : a.tdiv b - 1 - a / b = 0 := by
      by_cases hc : a.tdiv b - 1 - a / b = 0
      · exact hc
      · exfalso
        rcases Int.lt_or_gt_of_ne hc with hlt | hgt
        · have : b * (a.tdiv b - 1 - a / b) ≤ b * (-1) := Int.mul_le_mul_of_nonneg_left (by omega) (by omega)
          omega
        · have : b * 1 ≤ b * (a.tdiv b - 1 - a / b) := Int.mul_le_mul_of_nonneg_left (by omega) (by omega)
          omega
    omega
  · rename_i h
    have key : b * (a.tdiv b - a / b) = a % b - a.tmod b := by
      rw [Int.mul_sub]; omega
    have : a.tdiv b - a / b = 0 := by
      by_cases hc : a.tdiv b - a / b = 0
      · exact hc
      · exfalso
        rcases Int.lt_or_gt_of_ne hc with hlt | hgt
        · have : b * (a.tdiv b - a / b) ≤ b * (-1) := Int.mul_le_mul_of_nonneg_left (by omega) (by omega)
          omega
        · have : b * 1 ≤ b * (a.tdiv b - a / b) := Int.mul_le_mul_of_nonneg_left (by omega) (by omega)
          omega
    omega

/-- floor in the reference -/
theorem tdiv_bd {a b : Int} (h1 : -1000000000000000000 < a) (h2 : a < 1000000000000000000) : -1000000000000000000 < a.tdiv b ∧ a.tdiv b < 1000000000000000000 := by
  have h : (a.tdiv b).natAbs = a.natAbs / b.natAbs := Int.natAbs_tdiv a b
  have h3 : a.natAbs / b.natAbs ≤ a.natAbs := Nat.div_le_self _ _
  rw [← h] at h3
  omega
theorem rfloor_ok {H : Hp} {a b : Int} (hb : 0 < b) (h1 : -1000000000000000000 < a) (h2 : a < 1000000000000000000) : ACalls Tryd.prog 1 44 [.int a, .int b] H fun v H' => v = .int (a / b) ∧ H' = H := by
  have hd := tdiv_bd (b := b) h1 h2
  have hf := tdiv_tmod (a := a) hb
  refine pfn_ok cp44 (by simp [f44]) fun hwf => ?_
  repeat (first | (refine pw_pick rfl rfl (by first | exact fun _ => rfl | exact fun h => (by simp only [if_pos h]; rfl) | exact fun h => (by simp only [if_pos h]; assumption)) (by first | exact fun _ => rfl | exact fun h => (by simp only [if_pos h]; rfl) | exact fun h => (by simp only [if_pos h]; assumption)) ?_) | (refine pw_mvt rfl ?_) | (refine pw_max rfl rfl rfl ?_) | (refine pw_min rfl rfl rfl ?_) | (refine pw_mvc ?_) | (refine pw_p rfl rfl ?_) | (refine pw_l1 rfl rfl (by assumption) ?_) | (refine pw_ln rfl rfl (by assumption) ?_) | (refine pw_lk1 rfl rfl (by assumption) ?_) | (refine pw_lkn rfl rfl (by assumption) ?_) | (refine pw_pg rfl rfl (by first | exact fun _ => rfl | exact fun _ => (by assumption) | exact fun h => (by simp only [if_pos h]; rfl) | exact fun h => (by simp only [if_pos h]; assumption)) ?_) | (refine pw_lg1 rfl rfl (by first | exact fun _ => rfl | exact fun h => (by simp only [if_pos h]; rfl) | exact fun h => (by simp only [if_pos h]; assumption)) (by assumption) ?_) | (refine pw_p rfl (by assumption) ?_) | (refine pw_nil ?_) | (refine ps_seq ?_) | (refine ps_ops0 mix ?_) | (refine ps_skip ?_) | (refine ps_block ?_))
  refine pw_quo rfl rfl rfl (by omega) ?_
  rw [wrap_i64 (n := a.tdiv b) (by omega) (by omega)]
  repeat (first | (refine pw_pick rfl rfl (by first | exact fun _ => rfl | exact fun h => (by simp only [if_pos h]; rfl) | exact fun h => (by simp only [if_pos h]; assumption)) (by first | exact fun _ => rfl | exact fun h => (by simp only [if_pos h]; rfl) | exact fun h => (by simp only [if_pos h]; assumption)) ?_) | (refine pw_mvt rfl ?_) | (refine pw_max rfl rfl rfl ?_) | (refine pw_min rfl rfl rfl ?_) | (refine pw_mvc ?_) | (refine pw_p rfl rfl ?_) | (refine pw_l1 rfl rfl (by assumption) ?_) | (refine pw_ln rfl rfl (by assumption) ?_) | (refine pw_lk1 rfl rfl (by assumption) ?_) | (refine pw_lkn rfl rfl (by assumption) ?_) | (refine pw_pg rfl rfl (by first | exact fun _ => rfl | exact fun _ => (by assumption) | exact fun h => (by simp only [if_pos h]; rfl) | exact fun h => (by simp only [if_pos h]; assumption)) ?_) | (refine pw_lg1 rfl rfl (by first | exact fun _ => rfl | exact fun h => (by simp only [if_pos h]; rfl) | exact fun h => (by simp only [if_pos h]; assumption)) (by assumption) ?_) | (refine pw_p rfl (by assumption) ?_) | (refine pw_nil ?_) | (refine ps_seq ?_) | (refine ps_ops0 mix ?_) | (refine ps_skip ?_) | (refine ps_block ?_))
  refine pw_rem rfl rfl rfl (by omega) ?_
  repeat (first | (refine pw_pick rfl rfl (by first | exact fun _ => rfl | exact fun h => (by simp only [if_pos h]; rfl) | exact fun h => (by simp only [if_pos h]; assumption)) (by first | exact fun _ => rfl | exact fun h => (by simp only [if_pos h]; rfl) | exact fun h => (by simp only [if_pos h]; assumption)) ?_) | (refine pw_mvt rfl ?_) | (refine pw_max rfl rfl rfl ?_) | (refine pw_min rfl rfl rfl ?_) | (refine pw_mvc ?_) | (refine pw_p rfl rfl ?_) | (refine pw_l1 rfl rfl (by assumption) ?_) | (refine pw_ln rfl rfl (by assumption) ?_) | (refine pw_lk1 rfl rfl (by assumption) ?_) | (refine pw_lkn rfl rfl (by assumption) ?_) | (refine pw_pg rfl rfl (by first | exact fun _ => rfl | exact fun _ => (by assumption) | exact fun h => (by simp only [if_pos h]; rfl) | exact fun h => (by simp only [if_pos h]; assumption)) ?_) | (refine pw_lg1 rfl rfl (by first | exact fun _ => rfl | exact fun h => (by simp only [if_pos h]; rfl) | exact fun h => (by simp only [if_pos h]; assumption)) (by assumption) ?_) | (refine pw_p rfl (by assumption) ?_) | (refine pw_nil ?_) | (refine ps_seq ?_) | (refine ps_ops0 mix ?_) | (refine ps_skip ?_) | (refine ps_block ?_))
  refine ps_if rfl rfl (fun ht => ?_) (fun ht => ?_)
  · repeat (first | (refine pw_pick rfl rfl (by first | exact fun _ => rfl | exact fun h => (by simp only [if_pos h]; rfl) | exact fun h => (by simp only [if_pos h]; assumption)) (by first | exact fun _ => rfl | exact fun h => (by simp only [if_pos h]; rfl) | exact fun h => (by simp only [if_pos h]; assumption)) ?_) | (refine pw_mvt rfl ?_) | (refine pw_max rfl rfl rfl ?_) | (refine pw_min rfl rfl rfl ?_) | (refine pw_mvc ?_) | (refine pw_p rfl rfl ?_) | (refine pw_l1 rfl rfl (by assumption) ?_) | (refine pw_ln rfl rfl (by assumption) ?_) | (refine pw_lk1 rfl rfl (by assumption) ?_) | (refine pw_lkn rfl rfl (by assumption) ?_) | (refine pw_pg rfl rfl (by first | exact fun _ => rfl | exact fun _ => (by assumption) | exact fun h => (by simp only [if_pos h]; rfl) | exact fun h => (by simp only [if_pos h]; assumption)) ?_) | (refine pw_lg1 rfl rfl (by first | exact fun _ => rfl | exact fun h => (by simp only [if_pos h]; rfl) | exact fun h => (by simp only [if_pos h]; assumption)) (by assumption) ?_) | (refine pw_p rfl (by assumption) ?_) | (refine pw_nil ?_) | (refine ps_seq ?_) | (refine ps_ops0 mix ?_) | (refine ps_skip ?_) | (refine ps_block ?_))
    simp at ht
    rw [if_pos ht] at hf
    refine ps_ret ⟨_, rfl, ?_, rfl⟩
    rw [wrap_i64 (by omega) (by omega), hf]
  · repeat (first | (refine pw_pick rfl rfl (by first | exact fun _ => rfl | exact fun h => (by simp only [if_pos h]; rfl) | exact fun h => (by simp only [if_pos h]; assumption)) (by first | exact fun _ => rfl | exact fun h => (by simp only [if_pos h]; rfl) | exact fun h => (by simp only [if_pos h]; assumption)) ?_) | (refine pw_mvt rfl ?_) | (refine pw_max rfl rfl rfl ?_) | (refine pw_min rfl rfl rfl ?_) | (refine pw_mvc ?_) | (refine pw_p rfl rfl ?_) | (refine pw_l1 rfl rfl (by assumption) ?_) | (refine pw_ln rfl rfl (by assumption) ?_) | (refine pw_lk1 rfl rfl (by assumption) ?_) | (refine pw_lkn rfl rfl (by assumption) ?_) | (refine pw_pg rfl rfl (by first | exact fun _ => rfl | exact fun _ => (by assumption) | exact fun h => (by simp only [if_pos h]; rfl) | exact fun h => (by simp only [if_pos h]; assumption)) ?_) | (refine pw_lg1 rfl rfl (by first | exact fun _ => rfl | exact fun h => (by simp only [if_pos h]; rfl) | exact fun h => (by simp only [if_pos h]; assumption)) (by assumption) ?_) | (refine pw_p rfl (by assumption) ?_) | (refine pw_nil ?_) | (refine ps_seq ?_) | (refine ps_ops0 mix ?_) | (refine ps_skip ?_) | (refine ps_block ?_))
    simp at ht
    rw [if_neg (by omega)] at hf
    exact ps_ret ⟨_, rfl, by rw [hf], rfl⟩

/-- the coordinate k of n of the way from a to b -/
def betw (a b k n : Int) : Int := (2 * (a * n + k * (b - a)) + n) / (2 * n)
theorem mul_bd {a b A B : Int} (h1 : -A ≤ a) (h2 : a ≤ A) (h3 : -B ≤ b) (h4 : b ≤ B) : -(A * B) ≤ a * b ∧ a * b ≤ A * B := by
  have hA : 0 ≤ A := by omega
  have hB : 0 ≤ B := by omega
  have : (a * b).natAbs ≤ (A * B).natAbs := by
    rw [Int.natAbs_mul, Int.natAbs_mul]
    exact Nat.mul_le_mul (by omega) (by omega)
  have hp : 0 ≤ A * B := Int.mul_nonneg hA hB
  omega
theorem between_ok {H : Hp} {a b k n : Int} (ha : -1000000 ≤ a) (ha' : a ≤ 1000000) (hb : -1000000 ≤ b) (hb' : b ≤ 1000000) (hk : 0 ≤ k) (hk' : k ≤ 1000000) (hn : 0 < n) (hn' : n ≤ 1000000) : ACalls Tryd.prog 1 42 [.int a, .int b, .int k, .int n] H fun v H' => v = .int (betw a b k n) ∧ H' = H := by
  have m1 := mul_bd (a := a) (b := n) (A := 1000000) (B := 1000000) (by omega) (by omega) (by omega) (by omega)
  have m2 := mul_bd (a := k) (b := b - a) (A := 1000000) (B := 2000000) (by omega) (by omega) (by omega) (by omega)
  have hd := tdiv_bd (a := 2 * (a * n + k * (b - a)) + n) (b := 2 * n) (by omega) (by omega)
  have hf := tdiv_tmod (a := 2 * (a * n + k * (b - a)) + n) (b := 2 * n) (by omega)
  refine pfn_ok cp42 (by simp [f42]) fun hwf => ?_
  repeat (first | (refine pw_pick rfl rfl (by first | exact fun _ => rfl | exact fun h => (by simp only [if_pos h]; rfl) | exact fun h => (by simp only [if_pos h]; assumption)) (by first | exact fun _ => rfl | exact fun h => (by simp only [if_pos h]; rfl) | exact fun h => (by simp only [if_pos h]; assumption)) ?_) | (refine pw_mvt rfl ?_) | (refine pw_max rfl rfl rfl ?_) | (refine pw_min rfl rfl rfl ?_) | (refine pw_mvc ?_) | (refine pw_p rfl rfl ?_) | (refine pw_l1 rfl rfl (by assumption) ?_) | (refine pw_ln rfl rfl (by assumption) ?_) | (refine pw_lk1 rfl rfl (by assumption) ?_) | (refine pw_lkn rfl rfl (by assumption) ?_) | (refine pw_pg rfl rfl (by first | exact fun _ => rfl | exact fun _ => (by assumption) | exact fun h => (by simp only [if_pos h]; rfl) | exact fun h => (by simp only [if_pos h]; assumption)) ?_) | (refine pw_lg1 rfl rfl (by first | exact fun _ => rfl | exact fun h => (by simp only [if_pos h]; rfl) | exact fun h => (by simp only [if_pos h]; assumption)) (by assumption) ?_) | (refine pw_p rfl (by assumption) ?_) | (refine pw_nil ?_) | (refine ps_seq ?_) | (refine ps_ops0 mix ?_) | (refine ps_skip ?_) | (refine ps_block ?_))
  rw [wrap_i64 (n := a * n) (by omega) (by omega), wrap_i64 (n := b - a) (by omega) (by omega), wrap_i64 (n := k * (b - a)) (by omega) (by omega), wrap_i64 (n := a * n + k * (b - a)) (by omega) (by omega), wrap_i64 (n := 2 * (a * n + k * (b - a))) (by omega) (by omega), wrap_i64 (n := 2 * (a * n + k * (b - a)) + n) (by omega) (by omega), wrap_i64 (n := 2 * n) (by omega) (by omega)]
  have hbt : betw a b k n = (2 * (a * n + k * (b - a)) + n) / (2 * n) := rfl
  rw [hbt]
  clear hbt
  generalize 2 * (a * n + k * (b - a)) + n = N at *
  refine pw_quo rfl rfl rfl (by omega) ?_
  rw [wrap_i64 (n := N.tdiv (2 * n)) (by omega) (by omega)]
  repeat (first | (refine pw_pick rfl rfl (by first | exact fun _ => rfl | exact fun h => (by simp only [if_pos h]; rfl) | exact fun h => (by simp only [if_pos h]; assumption)) (by first | exact fun _ => rfl | exact fun h => (by simp only [if_pos h]; rfl) | exact fun h => (by simp only [if_pos h]; assumption)) ?_) | (refine pw_mvt rfl ?_) | (refine pw_max rfl rfl rfl ?_) | (refine pw_min rfl rfl rfl ?_) | (refine pw_mvc ?_) | (refine pw_p rfl rfl ?_) | (refine pw_l1 rfl rfl (by assumption) ?_) | (refine pw_ln rfl rfl (by assumption) ?_) | (refine pw_lk1 rfl rfl (by assumption) ?_) | (refine pw_lkn rfl rfl (by assumption) ?_) | (refine pw_pg rfl rfl (by first | exact fun _ => rfl | exact fun _ => (by assumption) | exact fun h => (by simp only [if_pos h]; rfl) | exact fun h => (by simp only [if_pos h]; assumption)) ?_) | (refine pw_lg1 rfl rfl (by first | exact fun _ => rfl | exact fun h => (by simp only [if_pos h]; rfl) | exact fun h => (by simp only [if_pos h]; assumption)) (by assumption) ?_) | (refine pw_p rfl (by assumption) ?_) | (refine pw_nil ?_) | (refine ps_seq ?_) | (refine ps_ops0 mix ?_) | (refine ps_skip ?_) | (refine ps_block ?_))
  rw [wrap_i64 (n := 2 * n) (by omega) (by omega)]
  refine pw_rem rfl rfl rfl (by omega) ?_
  repeat (first | (refine pw_pick rfl rfl (by first | exact fun _ => rfl | exact fun h => (by simp only [if_pos h]; rfl) | exact fun h => (by simp only [if_pos h]; assumption)) (by first | exact fun _ => rfl | exact fun h => (by simp only [if_pos h]; rfl) | exact fun h => (by simp only [if_pos h]; assumption)) ?_) | (refine pw_mvt rfl ?_) | (refine pw_max rfl rfl rfl ?_) | (refine pw_min rfl rfl rfl ?_) | (refine pw_mvc ?_) | (refine pw_p rfl rfl ?_) | (refine pw_l1 rfl rfl (by assumption) ?_) | (refine pw_ln rfl rfl (by assumption) ?_) | (refine pw_lk1 rfl rfl (by assumption) ?_) | (refine pw_lkn rfl rfl (by assumption) ?_) | (refine pw_pg rfl rfl (by first | exact fun _ => rfl | exact fun _ => (by assumption) | exact fun h => (by simp only [if_pos h]; rfl) | exact fun h => (by simp only [if_pos h]; assumption)) ?_) | (refine pw_lg1 rfl rfl (by first | exact fun _ => rfl | exact fun h => (by simp only [if_pos h]; rfl) | exact fun h => (by simp only [if_pos h]; assumption)) (by assumption) ?_) | (refine pw_p rfl (by assumption) ?_) | (refine pw_nil ?_) | (refine ps_seq ?_) | (refine ps_ops0 mix ?_) | (refine ps_skip ?_) | (refine ps_block ?_))
  refine ps_if rfl rfl (fun ht => ?_) (fun ht => ?_)
  · repeat (first | (refine pw_pick rfl rfl (by first | exact fun _ => rfl | exact fun h => (by simp only [if_pos h]; rfl) | exact fun h => (by simp only [if_pos h]; assumption)) (by first | exact fun _ => rfl | exact fun h => (by simp only [if_pos h]; rfl) | exact fun h => (by simp only [if_pos h]; assumption)) ?_) | (refine pw_mvt rfl ?_) | (refine pw_max rfl rfl rfl ?_) | (refine pw_min rfl rfl rfl ?_) | (refine pw_mvc ?_) | (refine pw_p rfl rfl ?_) | (refine pw_l1 rfl rfl (by assumption) ?_) | (refine pw_ln rfl rfl (by assumption) ?_) | (refine pw_lk1 rfl rfl (by assumption) ?_) | (refine pw_lkn rfl rfl (by assumption) ?_) | (refine pw_pg rfl rfl (by first | exact fun _ => rfl | exact fun _ => (by assumption) | exact fun h => (by simp only [if_pos h]; rfl) | exact fun h => (by simp only [if_pos h]; assumption)) ?_) | (refine pw_lg1 rfl rfl (by first | exact fun _ => rfl | exact fun h => (by simp only [if_pos h]; rfl) | exact fun h => (by simp only [if_pos h]; assumption)) (by assumption) ?_) | (refine pw_p rfl (by assumption) ?_) | (refine pw_nil ?_) | (refine ps_seq ?_) | (refine ps_ops0 mix ?_) | (refine ps_skip ?_) | (refine ps_block ?_))
    simp at ht
    rw [if_pos ht] at hf
    refine ps_ret ⟨_, rfl, ?_, rfl⟩
    rw [wrap_i64 (by omega) (by omega), hf]
  · repeat (first | (refine pw_pick rfl rfl (by first | exact fun _ => rfl | exact fun h => (by simp only [if_pos h]; rfl) | exact fun h => (by simp only [if_pos h]; assumption)) (by first | exact fun _ => rfl | exact fun h => (by simp only [if_pos h]; rfl) | exact fun h => (by simp only [if_pos h]; assumption)) ?_) | (refine pw_mvt rfl ?_) | (refine pw_max rfl rfl rfl ?_) | (refine pw_min rfl rfl rfl ?_) | (refine pw_mvc ?_) | (refine pw_p rfl rfl ?_) | (refine pw_l1 rfl rfl (by assumption) ?_) | (refine pw_ln rfl rfl (by assumption) ?_) | (refine pw_lk1 rfl rfl (by assumption) ?_) | (refine pw_lkn rfl rfl (by assumption) ?_) | (refine pw_pg rfl rfl (by first | exact fun _ => rfl | exact fun _ => (by assumption) | exact fun h => (by simp only [if_pos h]; rfl) | exact fun h => (by simp only [if_pos h]; assumption)) ?_) | (refine pw_lg1 rfl rfl (by first | exact fun _ => rfl | exact fun h => (by simp only [if_pos h]; rfl) | exact fun h => (by simp only [if_pos h]; assumption)) (by assumption) ?_) | (refine pw_p rfl (by assumption) ?_) | (refine pw_nil ?_) | (refine ps_seq ?_) | (refine ps_ops0 mix ?_) | (refine ps_skip ?_) | (refine ps_block ?_))
    simp at ht
    rw [if_neg (by omega)] at hf
    exact ps_ret ⟨_, rfl, by rw [hf], rfl⟩

def nearB (l : List Pt) : Bool := l.all fun p => decide (-1000 ≤ p.1) && decide (p.1 ≤ 1000) && decide (-1000 ≤ p.2) && decide (p.2 ≤ 1000)
theorem near_ro {H : Hp} {l : List Pt} {v : V} (hl : Pts H l v) (hn : l.length < 1000000000000) : ACalls Tryd.prog 1 40 [v] H fun v _ => v = .bool (nearB l) := by
  refine pfn_ok cp40 (by simp [f40]) fun hwf => ?_
  have hlen := hl.len
  repeat (first | (refine pw_pick rfl rfl (by first | exact fun _ => rfl | exact fun h => (by simp only [if_pos h]; rfl) | exact fun h => (by simp only [if_pos h]; assumption)) (by first | exact fun _ => rfl | exact fun h => (by simp only [if_pos h]; rfl) | exact fun h => (by simp only [if_pos h]; assumption)) ?_) | (refine pw_mvt rfl ?_) | (refine pw_max rfl rfl rfl ?_) | (refine pw_min rfl rfl rfl ?_) | (refine pw_mvc ?_) | (refine pw_p rfl rfl ?_) | (refine pw_l1 rfl rfl (by assumption) ?_) | (refine pw_ln rfl rfl (by assumption) ?_) | (refine pw_lk1 rfl rfl (by assumption) ?_) | (refine pw_lkn rfl rfl (by assumption) ?_) | (refine pw_pg rfl rfl (by first | exact fun _ => rfl | exact fun _ => (by assumption) | exact fun h => (by simp only [if_pos h]; rfl) | exact fun h => (by simp only [if_pos h]; assumption)) ?_) | (refine pw_lg1 rfl rfl (by first | exact fun _ => rfl | exact fun h => (by simp only [if_pos h]; rfl) | exact fun h => (by simp only [if_pos h]; assumption)) (by assumption) ?_) | (refine pw_p rfl (by assumption) ?_) | (refine pw_nil ?_) | (refine ps_seq ?_) | (refine ps_ops0 mix ?_) | (refine ps_skip ?_) | (refine ps_block ?_))
  refine ps_loop (fun m E H' => Pts H' l v ∧ ∃ k : Nat, k + m = l.length ∧ E = [(5, v), (6, .int l.length), (7, .int k)] ∧ nearB (l.take k) = true) (m := l.length) ⟨_, (SubE.cons (k := 5) rfl (SubE.cons (k := 6) rfl (SubE.cons (k := 7) rfl (SubE.nil _)))), hl, 0, by omega, rfl, rfl⟩ ?_
  rintro m E H' hwf' ⟨hl', k, hk, rfl, hno⟩
  repeat (first | (refine pw_pick rfl rfl (by first | exact fun _ => rfl | exact fun h => (by simp only [if_pos h]; rfl) | exact fun h => (by simp only [if_pos h]; assumption)) (by first | exact fun _ => rfl | exact fun h => (by simp only [if_pos h]; rfl) | exact fun h => (by simp only [if_pos h]; assumption)) ?_) | (refine pw_mvt rfl ?_) | (refine pw_max rfl rfl rfl ?_) | (refine pw_min rfl rfl rfl ?_) | (refine pw_mvc ?_) | (refine pw_p rfl rfl ?_) | (refine pw_l1 rfl rfl (by assumption) ?_) | (refine pw_ln rfl rfl (by assumption) ?_) | (refine pw_lk1 rfl rfl (by assumption) ?_) | (refine pw_lkn rfl rfl (by assumption) ?_) | (refine pw_pg rfl rfl (by first | exact fun _ => rfl | exact fun _ => (by assumption) | exact fun h => (by simp only [if_pos h]; rfl) | exact fun h => (by simp only [if_pos h]; assumption)) ?_) | (refine pw_lg1 rfl rfl (by first | exact fun _ => rfl | exact fun h => (by simp only [if_pos h]; rfl) | exact fun h => (by simp only [if_pos h]; assumption)) (by assumption) ?_) | (refine pw_p rfl (by assumption) ?_) | (refine pw_nil ?_) | (refine ps_seq ?_) | (refine ps_ops0 mix ?_) | (refine ps_skip ?_) | (refine ps_block ?_))
  refine ps_if rfl rfl (fun ht => ?_) (fun ht => ?_)
  · simp at ht
    obtain ⟨p, hp⟩ : ∃ p, l[k]? = some p := ⟨_, List.getElem?_eq_getElem (by omega)⟩
    obtain ⟨b, o, e1, e2⟩ := hl'.at hp .i64
    obtain ⟨H3, s1, hw3, hx3, hb3, hn3⟩ := new_var hwf' [.int .i64 0, .int .i64 0] (ptC p) rfl
    repeat (first | (refine pw_pick rfl rfl (by first | exact fun _ => rfl | exact fun h => (by simp only [if_pos h]; rfl) | exact fun h => (by simp only [if_pos h]; assumption)) (by first | exact fun _ => rfl | exact fun h => (by simp only [if_pos h]; rfl) | exact fun h => (by simp only [if_pos h]; assumption)) ?_) | (refine pw_mvt rfl ?_) | (refine pw_max rfl rfl rfl ?_) | (refine pw_min rfl rfl rfl ?_) | (refine pw_mvc ?_) | (refine pw_p rfl rfl ?_) | (refine pw_l1 rfl rfl (by assumption) ?_) | (refine pw_ln rfl rfl (by assumption) ?_) | (refine pw_lk1 rfl rfl (by assumption) ?_) | (refine pw_lkn rfl rfl (by assumption) ?_) | (refine pw_pg rfl rfl (by first | exact fun _ => rfl | exact fun _ => (by assumption) | exact fun h => (by simp only [if_pos h]; rfl) | exact fun h => (by simp only [if_pos h]; assumption)) ?_) | (refine pw_lg1 rfl rfl (by first | exact fun _ => rfl | exact fun h => (by simp only [if_pos h]; rfl) | exact fun h => (by simp only [if_pos h]; assumption)) (by assumption) ?_) | (refine pw_p rfl (by assumption) ?_) | (refine pw_nil ?_) | (refine ps_seq ?_) | (refine ps_ops0 mix ?_) | (refine ps_skip ?_) | (refine ps_block ?_))
    have c0 := hb3.cell (i := 0) rfl
    have c1 := hb3.cell (i := 1) rfl
    refine pw_a rfl rfl (pw_stn rfl rfl rfl rfl s1 trivial ?_)
    repeat (first | (refine pw_pick rfl rfl (by first | exact fun _ => rfl | exact fun h => (by simp only [if_pos h]; rfl) | exact fun h => (by simp only [if_pos h]; assumption)) (by first | exact fun _ => rfl | exact fun h => (by simp only [if_pos h]; rfl) | exact fun h => (by simp only [if_pos h]; assumption)) ?_) | (refine pw_mvt rfl ?_) | (refine pw_max rfl rfl rfl ?_) | (refine pw_min rfl rfl rfl ?_) | (refine pw_mvc ?_) | (refine pw_p rfl rfl ?_) | (refine pw_l1 rfl rfl (by assumption) ?_) | (refine pw_ln rfl rfl (by assumption) ?_) | (refine pw_lk1 rfl rfl (by assumption) ?_) | (refine pw_lkn rfl rfl (by assumption) ?_) | (refine pw_pg rfl rfl (by first | exact fun _ => rfl | exact fun _ => (by assumption) | exact fun h => (by simp only [if_pos h]; rfl) | exact fun h => (by simp only [if_pos h]; assumption)) ?_) | (refine pw_lg1 rfl rfl (by first | exact fun _ => rfl | exact fun h => (by simp only [if_pos h]; rfl) | exact fun h => (by simp only [if_pos h]; assumption)) (by assumption) ?_) | (refine pw_p rfl (by assumption) ?_) | (refine pw_nil ?_) | (refine ps_seq ?_) | (refine ps_ops0 mix ?_) | (refine ps_skip ?_) | (refine ps_block ?_))
    have hpk : nearB (l.take (k + 1)) = (nearB (l.take k) && nearB [p]) := by
      rw [List.take_add_one, hp]
      simp [nearB]
    refine ps_if rfl rfl (fun ht2 => ?_) (fun ht2 => ?_)
    · repeat (first | (refine pw_pick rfl rfl (by first | exact fun _ => rfl | exact fun h => (by simp only [if_pos h]; rfl) | exact fun h => (by simp only [if_pos h]; assumption)) (by first | exact fun _ => rfl | exact fun h => (by simp only [if_pos h]; rfl) | exact fun h => (by simp only [if_pos h]; assumption)) ?_) | (refine pw_mvt rfl ?_) | (refine pw_max rfl rfl rfl ?_) | (refine pw_min rfl rfl rfl ?_) | (refine pw_mvc ?_) | (refine pw_p rfl rfl ?_) | (refine pw_l1 rfl rfl (by assumption) ?_) | (refine pw_ln rfl rfl (by assumption) ?_) | (refine pw_lk1 rfl rfl (by assumption) ?_) | (refine pw_lkn rfl rfl (by assumption) ?_) | (refine pw_pg rfl rfl (by first | exact fun _ => rfl | exact fun _ => (by assumption) | exact fun h => (by simp only [if_pos h]; rfl) | exact fun h => (by simp only [if_pos h]; assumption)) ?_) | (refine pw_lg1 rfl rfl (by first | exact fun _ => rfl | exact fun h => (by simp only [if_pos h]; rfl) | exact fun h => (by simp only [if_pos h]; assumption)) (by assumption) ?_) | (refine pw_p rfl (by assumption) ?_) | (refine pw_nil ?_) | (refine ps_seq ?_) | (refine ps_ops0 mix ?_) | (refine ps_skip ?_) | (refine ps_block ?_))
      refine ps_ret ⟨_, rfl, ?_⟩
      congr 2
      symm
      simp at ht2
      simp only [nearB, List.all_eq_false]
      refine ⟨p, List.mem_of_getElem? hp, ?_⟩
      simp
      omega
    · repeat (first | (refine pw_pick rfl rfl (by first | exact fun _ => rfl | exact fun h => (by simp only [if_pos h]; rfl) | exact fun h => (by simp only [if_pos h]; assumption)) (by first | exact fun _ => rfl | exact fun h => (by simp only [if_pos h]; rfl) | exact fun h => (by simp only [if_pos h]; assumption)) ?_) | (refine pw_mvt rfl ?_) | (refine pw_max rfl rfl rfl ?_) | (refine pw_min rfl rfl rfl ?_) | (refine pw_mvc ?_) | (refine pw_p rfl rfl ?_) | (refine pw_l1 rfl rfl (by assumption) ?_) | (refine pw_ln rfl rfl (by assumption) ?_) | (refine pw_lk1 rfl rfl (by assumption) ?_) | (refine pw_lkn rfl rfl (by assumption) ?_) | (refine pw_pg rfl rfl (by first | exact fun _ => rfl | exact fun _ => (by assumption) | exact fun h => (by simp only [if_pos h]; rfl) | exact fun h => (by simp only [if_pos h]; assumption)) ?_) | (refine pw_lg1 rfl rfl (by first | exact fun _ => rfl | exact fun h => (by simp only [if_pos h]; rfl) | exact fun h => (by simp only [if_pos h]; assumption)) (by assumption) ?_) | (refine pw_p rfl (by assumption) ?_) | (refine pw_nil ?_) | (refine ps_seq ?_) | (refine ps_ops0 mix ?_) | (refine ps_skip ?_) | (refine ps_block ?_))
      simp at ht2
      refine ⟨m - 1, by omega, _, (SubE.cons (k := 5) rfl (SubE.cons (k := 6) rfl (SubE.cons (k := 7) rfl (SubE.nil _)))), hl'.ext hx3, k + 1, by omega, ?_, ?_⟩
      · rw [wrap_i64 (by omega) (by omega)]; rfl
      · rw [hpk, hno]
        simp [nearB]
        omega
  · simp at ht
    obtain rfl : k = l.length := by omega
    rw [List.take_length] at hno
    refine ps_exit ?_
    repeat (first | (refine pw_pick rfl rfl (by first | exact fun _ => rfl | exact fun h => (by simp only [if_pos h]; rfl) | exact fun h => (by simp only [if_pos h]; assumption)) (by first | exact fun _ => rfl | exact fun h => (by simp only [if_pos h]; rfl) | exact fun h => (by simp only [if_pos h]; assumption)) ?_) | (refine pw_mvt rfl ?_) | (refine pw_max rfl rfl rfl ?_) | (refine pw_min rfl rfl rfl ?_) | (refine pw_mvc ?_) | (refine pw_p rfl rfl ?_) | (refine pw_l1 rfl rfl (by assumption) ?_) | (refine pw_ln rfl rfl (by assumption) ?_) | (refine pw_lk1 rfl rfl (by assumption) ?_) | (refine pw_lkn rfl rfl (by assumption) ?_) | (refine pw_pg rfl rfl (by first | exact fun _ => rfl | exact fun _ => (by assumption) | exact fun h => (by simp only [if_pos h]; rfl) | exact fun h => (by simp only [if_pos h]; assumption)) ?_) | (refine pw_lg1 rfl rfl (by first | exact fun _ => rfl | exact fun h => (by simp only [if_pos h]; rfl) | exact fun h => (by simp only [if_pos h]; assumption)) (by assumption) ?_) | (refine pw_p rfl (by assumption) ?_) | (refine pw_nil ?_) | (refine ps_seq ?_) | (refine ps_ops0 mix ?_) | (refine ps_skip ?_) | (refine ps_block ?_))
    exact ps_ret ⟨_, rfl, by rw [hno]⟩
theorem near_ok {H : Hp} {l : List Pt} {v : V} (hl : Pts H l v) (hn : l.length < 1000000000000) : ACalls Tryd.prog 1 40 [v] H fun v H' => v = .bool (nearB l) ∧ H' = H :=
  (ACalls.pure (near_ro (hl.le (Le.ro H)) hn) (fun v _ h => by rw [h]; rfl)).mono fun v H' ⟨⟨_, h⟩, e⟩ => ⟨h, e⟩
end Go.Ab.Fn

/- Deep contracts: distances. -/
namespace Go.Ab.Fn
open Go.Ab Go.Proofs
set_option linter.unusedSimpArgs false

theorem d_sanity : DK 10 [] fun d => d = .bool true := DCalls.of_pure (vs := []) trivial rfl fun H hH => sanity_ok (hH 0 _ rfl)
theorem d_apart {p q : Pt2} (hp : Small 1000000000000000000 p) (hq : Small 1000000000000000000 q) : DK 41 [ptD p, ptD q] fun d => d = .int (far p q) := DCalls.of_pure (vs := [ptV p, ptV q]) ⟨rfl, rfl, trivial⟩ rfl fun H _ => apart_ok hp hq
theorem d_far {p q : Pt2} (hp : Small 1000000000000000000 p) (hq : Small 1000000000000000000 q) : DK 15 [ptD p, ptD q] fun d => d = .int (far p q) := DCalls.of_pure (vs := [ptV p, ptV q]) ⟨rfl, rfl, trivial⟩ rfl fun H _ => rfar_ok hp hq

theorem aEqs_pt (p q : Pt2) : aEqs [.int .i64 p.1, .int .i64 p.2] [.int .i64 q.1, .int .i64 q.2] [(0, false), (1, false)] = some (decide (p = q)) := by
  obtain ⟨p1, p2⟩ := p
  obtain ⟨q1, q2⟩ := q
  simp only [aEqs, aEq, List.getElem?_cons_zero, List.getElem?_cons_succ, if_true]
  by_cases h1 : p1 = q1
  · by_cases h2 : p2 = q2
    · subst h1; subst h2; simp
    · have e2 : (p2 == q2) = false := by simpa using h2
      subst h1; simp [h2, e2]
  · have e1 : (p1 == q1) = false := by simpa using h1
    simp [h1, e1]
/-- points that are compared -/
theorem d_eqpt {neg : Bool} {E : DEnv} {x y : Opd} {p q : Pt2} (hx : ro E x = some (.agg [.f (.c (.int .i64 p.1)), .f (.c (.int .i64 p.2))])) (hy : ro E y = some (.agg [.f (.c (.int .i64 q.1)), .f (.c (.int .i64 q.2))])) : dPure E (.eqs neg [(0, false), (1, false)] x y) = some (.bool (match neg with | true => !decide (p = q) | false => decide (p = q))) := by
  have ex : exO E x = some (.agg [.int .i64 p.1, .int .i64 p.2]) := by simp [exO, hx, exV, exL, exC]
  have ey : exO E y = some (.agg [.int .i64 q.1, .int .i64 q.2]) := by simp [exO, hy, exV, exL, exC]
  simp only [dPure, dEx, PureOp.opds, allB, isEx, ex, ey, Option.isSome_some, PureOp.mp, rx, aPure, Opd.ev, aEqs_pt]
  cases neg <;> rfl

theorem d_has {l : List Pt2} {p : Pt2} (hn : l.length < 1000000000000) : DK 20 [ptsD l, ptD p] fun d => d = .bool (decide (p ∈ l)) := by
  refine dfn_ok cp20 rfl GHro fun Z0 lo => ?_
  repeat (first | (refine dw_want rfl rfl ?_) | (refine dw_skip rfl rfl ?_) | (refine dw_skipU rfl ?_) | (refine dw_pickT rfl rfl ?_) | (refine dw_pickF rfl rfl ?_) | (refine dw_pick rfl (by first | exact fun _ => rfl | exact fun h => (by simp only [if_pos h]; rfl) | exact fun h => (by simp only [h, if_true, if_false]; rfl)) (by first | exact fun _ => rfl | exact fun h => (by simp only [if_pos h]; rfl) | exact fun h => (by simp only [h, if_true, if_false]; rfl)) ?_) | (refine dw_max rfl rfl ?_) | (refine dw_min rfl rfl ?_) | (refine dw_p rfl ?_) | (refine dw_l rfl ?_) | (refine dw_lk rfl ?_) | (refine dw_pg rfl (by first | exact fun _ => rfl | exact fun h => (by simp only [if_pos h]; rfl) | exact fun h => (by simp only [h, if_true, if_false]; rfl)) ?_) | (refine dw_lg rfl (by first | exact fun _ => rfl | exact fun h => (by simp only [if_pos h]; rfl) | exact fun h => (by simp only [h, if_true, if_false]; rfl)) ?_) | (refine dw_io0 rfl rfl (by omega) (by omega) ?_) | (refine dw_if0 rfl rfl (by omega) (by decide) (by assumption) ?_) | (refine dw_if rfl rfl (by omega) (by decide) (by assumption) ?_) | (refine dw_l (dload_data rfl rfl (by assumption) rfl) ?_) | (refine dw_lk (dload_data rfl rfl (by assumption) rfl) ?_) | (refine dw_a rfl ?_) | (refine dw_ai rfl rfl rfl ?_) | (refine dw_st rfl rfl rfl rfl rfl (by decide) rfl ?_) | (refine dw_nil ?_) | (refine ds_seq ?_) | (refine ds_ops mix (fun base => ?_)) | (refine ds_skip ?_) | (refine ds_block ?_) | (refine ds_exit ?_))
  refine ds_loop (fun m E S nk => ∃ k : Nat, k + m = l.length ∧ E = [(0, ptsD l), (3, .one (.ptr 0 0)), (5, .int k)] ∧ S = [(0, .cells [.f (.c (.int .i64 p.1)), .f (.c (.int .i64 p.2))])] ∧ nk = 1 ∧ p ∉ l.take k) ⟨l.length, _, _, _, [], ?wk, 0, by omega, rfl, rfl, rfl, by simp⟩ ?_
  case wk => exact ⟨by repeat (first | exact trivial | refine ⟨by first | rfl | exact congrArg (fun z => some (DV.int z)) (dwrap (by omega) (by omega)), rfl, ?_⟩), by repeat (first | exact trivial | refine ⟨by first | rfl | exact congrArg (fun z => some (Bk.data z)) (by assumption), rfl, rfl, ?_⟩), rfl⟩
  rintro m E S nk ⟨k, hk, rfl, rfl, rfl, hno⟩
  repeat (first | (refine dw_want rfl rfl ?_) | (refine dw_skip rfl rfl ?_) | (refine dw_skipU rfl ?_) | (refine dw_pickT rfl rfl ?_) | (refine dw_pickF rfl rfl ?_) | (refine dw_pick rfl (by first | exact fun _ => rfl | exact fun h => (by simp only [if_pos h]; rfl) | exact fun h => (by simp only [h, if_true, if_false]; rfl)) (by first | exact fun _ => rfl | exact fun h => (by simp only [if_pos h]; rfl) | exact fun h => (by simp only [h, if_true, if_false]; rfl)) ?_) | (refine dw_max rfl rfl ?_) | (refine dw_min rfl rfl ?_) | (refine dw_p rfl ?_) | (refine dw_l rfl ?_) | (refine dw_lk rfl ?_) | (refine dw_pg rfl (by first | exact fun _ => rfl | exact fun h => (by simp only [if_pos h]; rfl) | exact fun h => (by simp only [h, if_true, if_false]; rfl)) ?_) | (refine dw_lg rfl (by first | exact fun _ => rfl | exact fun h => (by simp only [if_pos h]; rfl) | exact fun h => (by simp only [h, if_true, if_false]; rfl)) ?_) | (refine dw_io0 rfl rfl (by omega) (by omega) ?_) | (refine dw_if0 rfl rfl (by omega) (by decide) (by assumption) ?_) | (refine dw_if rfl rfl (by omega) (by decide) (by assumption) ?_) | (refine dw_l (dload_data rfl rfl (by assumption) rfl) ?_) | (refine dw_lk (dload_data rfl rfl (by assumption) rfl) ?_) | (refine dw_a rfl ?_) | (refine dw_ai rfl rfl rfl ?_) | (refine dw_st rfl rfl rfl rfl rfl (by decide) rfl ?_) | (refine dw_nil ?_) | (refine ds_seq ?_) | (refine ds_ops mix (fun base => ?_)) | (refine ds_skip ?_) | (refine ds_block ?_) | (refine ds_exit ?_))
  refine ds_if rfl (fun ht => ?_) (fun ht => ?_)
  · simp at ht
    obtain ⟨q, hq⟩ : ∃ q, l[k]? = some q := ⟨_, List.getElem?_eq_getElem (by omega)⟩
    have e1 := ptF_at hq
    repeat (first | (refine dw_want rfl rfl ?_) | (refine dw_skip rfl rfl ?_) | (refine dw_skipU rfl ?_) | (refine dw_pickT rfl rfl ?_) | (refine dw_pickF rfl rfl ?_) | (refine dw_pick rfl (by first | exact fun _ => rfl | exact fun h => (by simp only [if_pos h]; rfl) | exact fun h => (by simp only [h, if_true, if_false]; rfl)) (by first | exact fun _ => rfl | exact fun h => (by simp only [if_pos h]; rfl) | exact fun h => (by simp only [h, if_true, if_false]; rfl)) ?_) | (refine dw_max rfl rfl ?_) | (refine dw_min rfl rfl ?_) | (refine dw_p rfl ?_) | (refine dw_l rfl ?_) | (refine dw_lk rfl ?_) | (refine dw_pg rfl (by first | exact fun _ => rfl | exact fun h => (by simp only [if_pos h]; rfl) | exact fun h => (by simp only [h, if_true, if_false]; rfl)) ?_) | (refine dw_lg rfl (by first | exact fun _ => rfl | exact fun h => (by simp only [if_pos h]; rfl) | exact fun h => (by simp only [h, if_true, if_false]; rfl)) ?_) | (refine dw_io0 rfl rfl (by omega) (by omega) ?_) | (refine dw_if0 rfl rfl (by omega) (by decide) (by assumption) ?_) | (refine dw_if rfl rfl (by omega) (by decide) (by assumption) ?_) | (refine dw_l (dload_data rfl rfl (by assumption) rfl) ?_) | (refine dw_lk (dload_data rfl rfl (by assumption) rfl) ?_) | (refine dw_a rfl ?_) | (refine dw_ai rfl rfl rfl ?_) | (refine dw_st rfl rfl rfl rfl rfl (by decide) rfl ?_) | (refine dw_nil ?_) | (refine ds_seq ?_) | (refine ds_ops mix (fun base => ?_)) | (refine ds_skip ?_) | (refine ds_block ?_) | (refine ds_exit ?_))
    refine dw_p (d_eqpt (p := q) (q := p) rfl rfl) ?_
    repeat (first | (refine dw_want rfl rfl ?_) | (refine dw_skip rfl rfl ?_) | (refine dw_skipU rfl ?_) | (refine dw_pickT rfl rfl ?_) | (refine dw_pickF rfl rfl ?_) | (refine dw_pick rfl (by first | exact fun _ => rfl | exact fun h => (by simp only [if_pos h]; rfl) | exact fun h => (by simp only [h, if_true, if_false]; rfl)) (by first | exact fun _ => rfl | exact fun h => (by simp only [if_pos h]; rfl) | exact fun h => (by simp only [h, if_true, if_false]; rfl)) ?_) | (refine dw_max rfl rfl ?_) | (refine dw_min rfl rfl ?_) | (refine dw_p rfl ?_) | (refine dw_l rfl ?_) | (refine dw_lk rfl ?_) | (refine dw_pg rfl (by first | exact fun _ => rfl | exact fun h => (by simp only [if_pos h]; rfl) | exact fun h => (by simp only [h, if_true, if_false]; rfl)) ?_) | (refine dw_lg rfl (by first | exact fun _ => rfl | exact fun h => (by simp only [if_pos h]; rfl) | exact fun h => (by simp only [h, if_true, if_false]; rfl)) ?_) | (refine dw_io0 rfl rfl (by omega) (by omega) ?_) | (refine dw_if0 rfl rfl (by omega) (by decide) (by assumption) ?_) | (refine dw_if rfl rfl (by omega) (by decide) (by assumption) ?_) | (refine dw_l (dload_data rfl rfl (by assumption) rfl) ?_) | (refine dw_lk (dload_data rfl rfl (by assumption) rfl) ?_) | (refine dw_a rfl ?_) | (refine dw_ai rfl rfl rfl ?_) | (refine dw_st rfl rfl rfl rfl rfl (by decide) rfl ?_) | (refine dw_nil ?_) | (refine ds_seq ?_) | (refine ds_ops mix (fun base => ?_)) | (refine ds_skip ?_) | (refine ds_block ?_) | (refine ds_exit ?_))
    refine ds_if rfl (fun ht2 => ?_) (fun ht2 => ?_)
    · simp at ht2
      repeat (first | (refine dw_want rfl rfl ?_) | (refine dw_skip rfl rfl ?_) | (refine dw_skipU rfl ?_) | (refine dw_pickT rfl rfl ?_) | (refine dw_pickF rfl rfl ?_) | (refine dw_pick rfl (by first | exact fun _ => rfl | exact fun h => (by simp only [if_pos h]; rfl) | exact fun h => (by simp only [h, if_true, if_false]; rfl)) (by first | exact fun _ => rfl | exact fun h => (by simp only [if_pos h]; rfl) | exact fun h => (by simp only [h, if_true, if_false]; rfl)) ?_) | (refine dw_max rfl rfl ?_) | (refine dw_min rfl rfl ?_) | (refine dw_p rfl ?_) | (refine dw_l rfl ?_) | (refine dw_lk rfl ?_) | (refine dw_pg rfl (by first | exact fun _ => rfl | exact fun h => (by simp only [if_pos h]; rfl) | exact fun h => (by simp only [h, if_true, if_false]; rfl)) ?_) | (refine dw_lg rfl (by first | exact fun _ => rfl | exact fun h => (by simp only [if_pos h]; rfl) | exact fun h => (by simp only [h, if_true, if_false]; rfl)) ?_) | (refine dw_io0 rfl rfl (by omega) (by omega) ?_) | (refine dw_if0 rfl rfl (by omega) (by decide) (by assumption) ?_) | (refine dw_if rfl rfl (by omega) (by decide) (by assumption) ?_) | (refine dw_l (dload_data rfl rfl (by assumption) rfl) ?_) | (refine dw_lk (dload_data rfl rfl (by assumption) rfl) ?_) | (refine dw_a rfl ?_) | (refine dw_ai rfl rfl rfl ?_) | (refine dw_st rfl rfl rfl rfl rfl (by decide) rfl ?_) | (refine dw_nil ?_) | (refine ds_seq ?_) | (refine ds_ops mix (fun base => ?_)) | (refine ds_skip ?_) | (refine ds_block ?_) | (refine ds_exit ?_))
      refine ds_ret ⟨_, rfl, rfl, ?_⟩
      rw [decide_eq_true (by rw [← ht2]; exact List.mem_of_getElem? hq)]
    · simp at ht2
      repeat (first | (refine dw_want rfl rfl ?_) | (refine dw_skip rfl rfl ?_) | (refine dw_skipU rfl ?_) | (refine dw_pickT rfl rfl ?_) | (refine dw_pickF rfl rfl ?_) | (refine dw_pick rfl (by first | exact fun _ => rfl | exact fun h => (by simp only [if_pos h]; rfl) | exact fun h => (by simp only [h, if_true, if_false]; rfl)) (by first | exact fun _ => rfl | exact fun h => (by simp only [if_pos h]; rfl) | exact fun h => (by simp only [h, if_true, if_false]; rfl)) ?_) | (refine dw_max rfl rfl ?_) | (refine dw_min rfl rfl ?_) | (refine dw_p rfl ?_) | (refine dw_l rfl ?_) | (refine dw_lk rfl ?_) | (refine dw_pg rfl (by first | exact fun _ => rfl | exact fun h => (by simp only [if_pos h]; rfl) | exact fun h => (by simp only [h, if_true, if_false]; rfl)) ?_) | (refine dw_lg rfl (by first | exact fun _ => rfl | exact fun h => (by simp only [if_pos h]; rfl) | exact fun h => (by simp only [h, if_true, if_false]; rfl)) ?_) | (refine dw_io0 rfl rfl (by omega) (by omega) ?_) | (refine dw_if0 rfl rfl (by omega) (by decide) (by assumption) ?_) | (refine dw_if rfl rfl (by omega) (by decide) (by assumption) ?_) | (refine dw_l (dload_data rfl rfl (by assumption) rfl) ?_) | (refine dw_lk (dload_data rfl rfl (by assumption) rfl) ?_) | (refine dw_a rfl ?_) | (refine dw_ai rfl rfl rfl ?_) | (refine dw_st rfl rfl rfl rfl rfl (by decide) rfl ?_) | (refine dw_nil ?_) | (refine ds_seq ?_) | (refine ds_ops mix (fun base => ?_)) | (refine ds_skip ?_) | (refine ds_block ?_) | (refine ds_exit ?_))
      refine ⟨m - 1, by omega, _, _, _, [], ?wk, k + 1, by omega, rfl, rfl, rfl, ?_⟩
      case wk => exact ⟨by repeat (first | exact trivial | refine ⟨by first | rfl | exact congrArg (fun z => some (DV.int z)) (dwrap (by omega) (by omega)), rfl, ?_⟩), by repeat (first | exact trivial | refine ⟨by first | rfl | exact congrArg (fun z => some (Bk.data z)) (by assumption), rfl, rfl, ?_⟩), rfl⟩
      rw [List.take_add_one, hq]
      simp
      exact ⟨hno, fun h => ht2 h.symm⟩
  · simp at ht
    repeat (first | (refine dw_want rfl rfl ?_) | (refine dw_skip rfl rfl ?_) | (refine dw_skipU rfl ?_) | (refine dw_pickT rfl rfl ?_) | (refine dw_pickF rfl rfl ?_) | (refine dw_pick rfl (by first | exact fun _ => rfl | exact fun h => (by simp only [if_pos h]; rfl) | exact fun h => (by simp only [h, if_true, if_false]; rfl)) (by first | exact fun _ => rfl | exact fun h => (by simp only [if_pos h]; rfl) | exact fun h => (by simp only [h, if_true, if_false]; rfl)) ?_) | (refine dw_max rfl rfl ?_) | (refine dw_min rfl rfl ?_) | (refine dw_p rfl ?_) | (refine dw_l rfl ?_) | (refine dw_lk rfl ?_) | (refine dw_pg rfl (by first | exact fun _ => rfl | exact fun h => (by simp only [if_pos h]; rfl) | exact fun h => (by simp only [h, if_true, if_false]; rfl)) ?_) | (refine dw_lg rfl (by first | exact fun _ => rfl | exact fun h => (by simp only [if_pos h]; rfl) | exact fun h => (by simp only [h, if_true, if_false]; rfl)) ?_) | (refine dw_io0 rfl rfl (by omega) (by omega) ?_) | (refine dw_if0 rfl rfl (by omega) (by decide) (by assumption) ?_) | (refine dw_if rfl rfl (by omega) (by decide) (by assumption) ?_) | (refine dw_l (dload_data rfl rfl (by assumption) rfl) ?_) | (refine dw_lk (dload_data rfl rfl (by assumption) rfl) ?_) | (refine dw_a rfl ?_) | (refine dw_ai rfl rfl rfl ?_) | (refine dw_st rfl rfl rfl rfl rfl (by decide) rfl ?_) | (refine dw_nil ?_) | (refine ds_seq ?_) | (refine ds_ops mix (fun base => ?_)) | (refine ds_skip ?_) | (refine ds_block ?_) | (refine ds_exit ?_))
    refine ds_ret ⟨_, rfl, rfl, ?_⟩
    obtain rfl : k = l.length := by omega
    rw [List.take_length] at hno
    rw [decide_eq_false hno]

def fars (a b : List Pt2) : List Int := a.flatMap fun p => b.map (far p)
def dist (a b : List Pt2) : Int := match a, b with
  | [], _ => -1
  | _, [] => -1
  | p :: _, q :: _ => (fars a b).foldl min (far p q)
def Smalls (l : List Pt2) : Prop := ∀ p ∈ l, Small 1000000000000000000 p


theorem foldl_min_le : ∀ (l : List Int) (x : Int), l.foldl min x ≤ x ∧ ∀ y ∈ l, l.foldl min x ≤ y
  | [], x => ⟨by simp, by simp⟩
  | y :: l, x => by
    have h := foldl_min_le l (min x y)
    simp only [List.foldl_cons]
    refine ⟨by omega, fun z hz => ?_⟩
    rcases List.mem_cons.1 hz with rfl | hz
    · omega
    · exact h.2 z hz
theorem foldl_min_mem : ∀ (l : List Int) (x : Int), l.foldl min x = x ∨ l.foldl min x ∈ l
  | [], x => .inl rfl
  | y :: l, x => by
    simp only [List.foldl_cons]
    rcases foldl_min_mem l (min x y) with h | h
    · rw [h]
      by_cases hxy : x ≤ y
      · exact .inl (by omega)
      · exact .inr (by simp; omega)
    · exact .inr (by simp [h])

theorem d_distance {a b : List Pt2} (ha : Smalls a) (hb : Smalls b) (hn : a.length ≤ 256) (hm : b.length ≤ 256) : DK 19 [ptsD a, ptsD b] fun d => d = .int (dist a b) := by
  refine dfn_ok cp19 rfl GHro fun Z0 lo => ?_
  repeat (first | (refine dw_want rfl rfl ?_) | (refine dw_skip rfl rfl ?_) | (refine dw_skipU rfl ?_) | (refine dw_pickT rfl rfl ?_) | (refine dw_pickF rfl rfl ?_) | (refine dw_pick rfl (by first | exact fun _ => rfl | exact fun h => (by simp only [if_pos h]; rfl) | exact fun h => (by simp only [h, if_true, if_false]; rfl)) (by first | exact fun _ => rfl | exact fun h => (by simp only [if_pos h]; rfl) | exact fun h => (by simp only [h, if_true, if_false]; rfl)) ?_) | (refine dw_max rfl rfl ?_) | (refine dw_min rfl rfl ?_) | (refine dw_p rfl ?_) | (refine dw_l rfl ?_) | (refine dw_lk rfl ?_) | (refine dw_pg rfl (by first | exact fun _ => rfl | exact fun h => (by simp only [if_pos h]; rfl) | exact fun h => (by simp only [h, if_true, if_false]; rfl)) ?_) | (refine dw_lg rfl (by first | exact fun _ => rfl | exact fun h => (by simp only [if_pos h]; rfl) | exact fun h => (by simp only [h, if_true, if_false]; rfl)) ?_) | (refine dw_io0 rfl rfl (by omega) (by omega) ?_) | (refine dw_if0 rfl rfl (by omega) (by decide) (by assumption) ?_) | (refine dw_if rfl rfl (by omega) (by decide) (by assumption) ?_) | (refine dw_l (dload_data rfl rfl (by assumption) rfl) ?_) | (refine dw_lk (dload_data rfl rfl (by assumption) rfl) ?_) | (refine dw_a rfl ?_) | (refine dw_ai rfl rfl rfl ?_) | (refine dw_st rfl rfl rfl rfl rfl (by decide) rfl ?_) | (refine dw_nil ?_) | (refine ds_seq ?_) | (refine ds_ops mix (fun base => ?_)) | (refine ds_skip ?_) | (refine ds_block ?_) | (refine ds_exit ?_))
  refine ds_if rfl (fun ht => ?_) (fun ht => ?_)
  · simp at ht
    repeat (first | (refine dw_want rfl rfl ?_) | (refine dw_skip rfl rfl ?_) | (refine dw_skipU rfl ?_) | (refine dw_pickT rfl rfl ?_) | (refine dw_pickF rfl rfl ?_) | (refine dw_pick rfl (by first | exact fun _ => rfl | exact fun h => (by simp only [if_pos h]; rfl) | exact fun h => (by simp only [h, if_true, if_false]; rfl)) (by first | exact fun _ => rfl | exact fun h => (by simp only [if_pos h]; rfl) | exact fun h => (by simp only [h, if_true, if_false]; rfl)) ?_) | (refine dw_max rfl rfl ?_) | (refine dw_min rfl rfl ?_) | (refine dw_p rfl ?_) | (refine dw_l rfl ?_) | (refine dw_lk rfl ?_) | (refine dw_pg rfl (by first | exact fun _ => rfl | exact fun h => (by simp only [if_pos h]; rfl) | exact fun h => (by simp only [h, if_true, if_false]; rfl)) ?_) | (refine dw_lg rfl (by first | exact fun _ => rfl | exact fun h => (by simp only [if_pos h]; rfl) | exact fun h => (by simp only [h, if_true, if_false]; rfl)) ?_) | (refine dw_io0 rfl rfl (by omega) (by omega) ?_) | (refine dw_if0 rfl rfl (by omega) (by decide) (by assumption) ?_) | (refine dw_if rfl rfl (by omega) (by decide) (by assumption) ?_) | (refine dw_l (dload_data rfl rfl (by assumption) rfl) ?_) | (refine dw_lk (dload_data rfl rfl (by assumption) rfl) ?_) | (refine dw_a rfl ?_) | (refine dw_ai rfl rfl rfl ?_) | (refine dw_st rfl rfl rfl rfl rfl (by decide) rfl ?_) | (refine dw_nil ?_) | (refine ds_seq ?_) | (refine ds_ops mix (fun base => ?_)) | (refine ds_skip ?_) | (refine ds_block ?_) | (refine ds_exit ?_))
    refine ds_ret ⟨_, rfl, rfl, ?_⟩
    cases a with
    | nil => rfl
    | cons p a => cases b with
      | nil => rfl
      | cons q b => simp at ht
  · simp only [Bool.if_true_left, Bool.or_eq_false_iff, decide_eq_false_iff_not, ← List.length_eq_zero_iff] at ht
    simp at ht
    obtain ⟨ht1, ht2⟩ := ht
    obtain ⟨p0, a', rfl⟩ : ∃ q l, a = q :: l := List.exists_cons_of_ne_nil ht1
    obtain ⟨q0, b', rfl⟩ : ∃ q l, b = q :: l := List.exists_cons_of_ne_nil ht2
    have e1 : subL ((p0 :: a').flatMap ptF) (0 * 2) 2 = some (ptF p0) := ptF_at rfl
    have e2 : subL ((q0 :: b').flatMap ptF) (0 * 2) 2 = some (ptF q0) := ptF_at rfl
    have hp0 := ha p0 (by simp)
    have hq0 := hb q0 (by simp)
    have hl1 : 0 < (p0 :: a').length := by simp
    have hl2 : 0 < (q0 :: b').length := by simp
    have hdist : dist (p0 :: a') (q0 :: b') = (fars (p0 :: a') (q0 :: b')).foldl min (far p0 q0) := rfl
    rw [hdist]
    generalize hga : p0 :: a' = a at *
    generalize hgb : q0 :: b' = b at *
    refine ds_keep (SubA.cons (k := 0) rfl (SubA.cons (k := 1) rfl (SubA.nil _))) (SubA.nil _) ?_
    have hle : (a.length : Int) * b.length ≤ 256 * 256 := Int.mul_le_mul (by omega) (by omega) (by omega) (by omega)
    have h0 : (0 : Int) ≤ (a.length : Int) * b.length := Int.mul_nonneg (by omega) (by omega)
    iterate 10 (first | (refine dw_want rfl rfl ?_) | (refine dw_skip rfl rfl ?_) | (refine dw_skipU rfl ?_) | (refine dw_pickT rfl rfl ?_) | (refine dw_pickF rfl rfl ?_) | (refine dw_pick rfl (by first | exact fun _ => rfl | exact fun h => (by simp only [if_pos h]; rfl) | exact fun h => (by simp only [h, if_true, if_false]; rfl)) (by first | exact fun _ => rfl | exact fun h => (by simp only [if_pos h]; rfl) | exact fun h => (by simp only [h, if_true, if_false]; rfl)) ?_) | (refine dw_max rfl rfl ?_) | (refine dw_min rfl rfl ?_) | (refine dw_p rfl ?_) | (refine dw_l rfl ?_) | (refine dw_lk rfl ?_) | (refine dw_pg rfl (by first | exact fun _ => rfl | exact fun h => (by simp only [if_pos h]; rfl) | exact fun h => (by simp only [h, if_true, if_false]; rfl)) ?_) | (refine dw_lg rfl (by first | exact fun _ => rfl | exact fun h => (by simp only [if_pos h]; rfl) | exact fun h => (by simp only [h, if_true, if_false]; rfl)) ?_) | (refine dw_io0 rfl rfl (by omega) (by omega) ?_) | (refine dw_if0 rfl rfl (by omega) (by decide) (by assumption) ?_) | (refine dw_if rfl rfl (by omega) (by decide) (by assumption) ?_) | (refine dw_l (dload_data rfl rfl (by assumption) rfl) ?_) | (refine dw_lk (dload_data rfl rfl (by assumption) rfl) ?_) | (refine dw_a rfl ?_) | (refine dw_ai rfl rfl rfl ?_) | (refine dw_st rfl rfl rfl rfl rfl (by decide) rfl ?_) | (refine dw_nil ?_) | (refine ds_seq ?_) | (refine ds_ops mix (fun base => ?_)) | (refine ds_skip ?_) | (refine ds_block ?_) | (refine ds_exit ?_))
    rw [show decide (IntKind.i64.wrap ((a.length : Int) * b.length) > 65536) = false by rw [dwrap (by omega) (by omega)]; simp; omega]
    repeat (first | (refine dw_want rfl rfl ?_) | (refine dw_skip rfl rfl ?_) | (refine dw_skipU rfl ?_) | (refine dw_pickT rfl rfl ?_) | (refine dw_pickF rfl rfl ?_) | (refine dw_pick rfl (by first | exact fun _ => rfl | exact fun h => (by simp only [if_pos h]; rfl) | exact fun h => (by simp only [h, if_true, if_false]; rfl)) (by first | exact fun _ => rfl | exact fun h => (by simp only [if_pos h]; rfl) | exact fun h => (by simp only [h, if_true, if_false]; rfl)) ?_) | (refine dw_max rfl rfl ?_) | (refine dw_min rfl rfl ?_) | (refine dw_p rfl ?_) | (refine dw_l rfl ?_) | (refine dw_lk rfl ?_) | (refine dw_pg rfl (by first | exact fun _ => rfl | exact fun h => (by simp only [if_pos h]; rfl) | exact fun h => (by simp only [h, if_true, if_false]; rfl)) ?_) | (refine dw_lg rfl (by first | exact fun _ => rfl | exact fun h => (by simp only [if_pos h]; rfl) | exact fun h => (by simp only [h, if_true, if_false]; rfl)) ?_) | (refine dw_io0 rfl rfl (by omega) (by omega) ?_) | (refine dw_if0 rfl rfl (by omega) (by decide) (by assumption) ?_) | (refine dw_if rfl rfl (by omega) (by decide) (by assumption) ?_) | (refine dw_l (dload_data rfl rfl (by assumption) rfl) ?_) | (refine dw_lk (dload_data rfl rfl (by assumption) rfl) ?_) | (refine dw_a rfl ?_) | (refine dw_ai rfl rfl rfl ?_) | (refine dw_st rfl rfl rfl rfl rfl (by decide) rfl ?_) | (refine dw_nil ?_) | (refine ds_seq ?_) | (refine ds_ops mix (fun base => ?_)) | (refine ds_skip ?_) | (refine ds_block ?_) | (refine ds_exit ?_))
    refine ds_if rfl (fun ht => by cases ht) (fun _ => ?_)
    repeat (first | (refine dw_want rfl rfl ?_) | (refine dw_skip rfl rfl ?_) | (refine dw_skipU rfl ?_) | (refine dw_pickT rfl rfl ?_) | (refine dw_pickF rfl rfl ?_) | (refine dw_pick rfl (by first | exact fun _ => rfl | exact fun h => (by simp only [if_pos h]; rfl) | exact fun h => (by simp only [h, if_true, if_false]; rfl)) (by first | exact fun _ => rfl | exact fun h => (by simp only [if_pos h]; rfl) | exact fun h => (by simp only [h, if_true, if_false]; rfl)) ?_) | (refine dw_max rfl rfl ?_) | (refine dw_min rfl rfl ?_) | (refine dw_p rfl ?_) | (refine dw_l rfl ?_) | (refine dw_lk rfl ?_) | (refine dw_pg rfl (by first | exact fun _ => rfl | exact fun h => (by simp only [if_pos h]; rfl) | exact fun h => (by simp only [h, if_true, if_false]; rfl)) ?_) | (refine dw_lg rfl (by first | exact fun _ => rfl | exact fun h => (by simp only [if_pos h]; rfl) | exact fun h => (by simp only [h, if_true, if_false]; rfl)) ?_) | (refine dw_io0 rfl rfl (by omega) (by omega) ?_) | (refine dw_if0 rfl rfl (by omega) (by decide) (by assumption) ?_) | (refine dw_if rfl rfl (by omega) (by decide) (by assumption) ?_) | (refine dw_l (dload_data rfl rfl (by assumption) rfl) ?_) | (refine dw_lk (dload_data rfl rfl (by assumption) rfl) ?_) | (refine dw_a rfl ?_) | (refine dw_ai rfl rfl rfl ?_) | (refine dw_st rfl rfl rfl rfl rfl (by decide) rfl ?_) | (refine dw_nil ?_) | (refine ds_seq ?_) | (refine ds_ops mix (fun base => ?_)) | (refine ds_skip ?_) | (refine ds_block ?_) | (refine ds_exit ?_))
    refine dw_cf rfl rfl (d_apart hp0 hq0) ?_
    rintro _ rfl
    repeat (first | (refine dw_want rfl rfl ?_) | (refine dw_skip rfl rfl ?_) | (refine dw_skipU rfl ?_) | (refine dw_pickT rfl rfl ?_) | (refine dw_pickF rfl rfl ?_) | (refine dw_pick rfl (by first | exact fun _ => rfl | exact fun h => (by simp only [if_pos h]; rfl) | exact fun h => (by simp only [h, if_true, if_false]; rfl)) (by first | exact fun _ => rfl | exact fun h => (by simp only [if_pos h]; rfl) | exact fun h => (by simp only [h, if_true, if_false]; rfl)) ?_) | (refine dw_max rfl rfl ?_) | (refine dw_min rfl rfl ?_) | (refine dw_p rfl ?_) | (refine dw_l rfl ?_) | (refine dw_lk rfl ?_) | (refine dw_pg rfl (by first | exact fun _ => rfl | exact fun h => (by simp only [if_pos h]; rfl) | exact fun h => (by simp only [h, if_true, if_false]; rfl)) ?_) | (refine dw_lg rfl (by first | exact fun _ => rfl | exact fun h => (by simp only [if_pos h]; rfl) | exact fun h => (by simp only [h, if_true, if_false]; rfl)) ?_) | (refine dw_io0 rfl rfl (by omega) (by omega) ?_) | (refine dw_if0 rfl rfl (by omega) (by decide) (by assumption) ?_) | (refine dw_if rfl rfl (by omega) (by decide) (by assumption) ?_) | (refine dw_l (dload_data rfl rfl (by assumption) rfl) ?_) | (refine dw_lk (dload_data rfl rfl (by assumption) rfl) ?_) | (refine dw_a rfl ?_) | (refine dw_ai rfl rfl rfl ?_) | (refine dw_st rfl rfl rfl rfl rfl (by decide) rfl ?_) | (refine dw_nil ?_) | (refine ds_seq ?_) | (refine ds_ops mix (fun base => ?_)) | (refine ds_skip ?_) | (refine ds_block ?_) | (refine ds_exit ?_))
    refine ds_loop (fun m E S nk => ∃ k : Nat, k + m = a.length ∧ E = [(1, ptsD b), (5, .int ((fars (a.take k) b).foldl min (far p0 q0))), (42, ptsD a), (43, .int a.length), (44, .int k)] ∧ S = [] ∧ nk = 0) ⟨a.length, _, _, _, [], ?wk, 0, by omega, rfl, rfl, rfl⟩ ?_
    case wk => exact ⟨by repeat (first | exact trivial | refine ⟨by first | rfl | exact congrArg (fun z => some (DV.int z)) (dwrap (by omega) (by omega)), rfl, ?_⟩), by repeat (first | exact trivial | refine ⟨by first | rfl | exact congrArg (fun z => some (Bk.data z)) (by assumption), rfl, rfl, ?_⟩), rfl⟩
    rintro m E S nk ⟨k, hk, rfl, rfl, rfl⟩
    repeat (first | (refine dw_want rfl rfl ?_) | (refine dw_skip rfl rfl ?_) | (refine dw_skipU rfl ?_) | (refine dw_pickT rfl rfl ?_) | (refine dw_pickF rfl rfl ?_) | (refine dw_pick rfl (by first | exact fun _ => rfl | exact fun h => (by simp only [if_pos h]; rfl) | exact fun h => (by simp only [h, if_true, if_false]; rfl)) (by first | exact fun _ => rfl | exact fun h => (by simp only [if_pos h]; rfl) | exact fun h => (by simp only [h, if_true, if_false]; rfl)) ?_) | (refine dw_max rfl rfl ?_) | (refine dw_min rfl rfl ?_) | (refine dw_p rfl ?_) | (refine dw_l rfl ?_) | (refine dw_lk rfl ?_) | (refine dw_pg rfl (by first | exact fun _ => rfl | exact fun h => (by simp only [if_pos h]; rfl) | exact fun h => (by simp only [h, if_true, if_false]; rfl)) ?_) | (refine dw_lg rfl (by first | exact fun _ => rfl | exact fun h => (by simp only [if_pos h]; rfl) | exact fun h => (by simp only [h, if_true, if_false]; rfl)) ?_) | (refine dw_io0 rfl rfl (by omega) (by omega) ?_) | (refine dw_if0 rfl rfl (by omega) (by decide) (by assumption) ?_) | (refine dw_if rfl rfl (by omega) (by decide) (by assumption) ?_) | (refine dw_l (dload_data rfl rfl (by assumption) rfl) ?_) | (refine dw_lk (dload_data rfl rfl (by assumption) rfl) ?_) | (refine dw_a rfl ?_) | (refine dw_ai rfl rfl rfl ?_) | (refine dw_st rfl rfl rfl rfl rfl (by decide) rfl ?_) | (refine dw_nil ?_) | (refine ds_seq ?_) | (refine ds_ops mix (fun base => ?_)) | (refine ds_skip ?_) | (refine ds_block ?_) | (refine ds_exit ?_))
    refine ds_if rfl (fun ht => ?_) (fun ht => ?_)
    · simp at ht
      obtain ⟨p, hp⟩ : ∃ q, a[k]? = some q := ⟨_, List.getElem?_eq_getElem (by omega)⟩
      have e3 := ptF_at hp
      have hps := ha p (List.mem_of_getElem? hp)
      repeat (first | (refine dw_want rfl rfl ?_) | (refine dw_skip rfl rfl ?_) | (refine dw_skipU rfl ?_) | (refine dw_pickT rfl rfl ?_) | (refine dw_pickF rfl rfl ?_) | (refine dw_pick rfl (by first | exact fun _ => rfl | exact fun h => (by simp only [if_pos h]; rfl) | exact fun h => (by simp only [h, if_true, if_false]; rfl)) (by first | exact fun _ => rfl | exact fun h => (by simp only [if_pos h]; rfl) | exact fun h => (by simp only [h, if_true, if_false]; rfl)) ?_) | (refine dw_max rfl rfl ?_) | (refine dw_min rfl rfl ?_) | (refine dw_p rfl ?_) | (refine dw_l rfl ?_) | (refine dw_lk rfl ?_) | (refine dw_pg rfl (by first | exact fun _ => rfl | exact fun h => (by simp only [if_pos h]; rfl) | exact fun h => (by simp only [h, if_true, if_false]; rfl)) ?_) | (refine dw_lg rfl (by first | exact fun _ => rfl | exact fun h => (by simp only [if_pos h]; rfl) | exact fun h => (by simp only [h, if_true, if_false]; rfl)) ?_) | (refine dw_io0 rfl rfl (by omega) (by omega) ?_) | (refine dw_if0 rfl rfl (by omega) (by decide) (by assumption) ?_) | (refine dw_if rfl rfl (by omega) (by decide) (by assumption) ?_) | (refine dw_l (dload_data rfl rfl (by assumption) rfl) ?_) | (refine dw_lk (dload_data rfl rfl (by assumption) rfl) ?_) | (refine dw_a rfl ?_) | (refine dw_ai rfl rfl rfl ?_) | (refine dw_st rfl rfl rfl rfl rfl (by decide) rfl ?_) | (refine dw_nil ?_) | (refine ds_seq ?_) | (refine ds_ops mix (fun base => ?_)) | (refine ds_skip ?_) | (refine ds_block ?_) | (refine ds_exit ?_))
      refine ds_loop (fun m E S nk => ∃ j : Nat, j + m = b.length ∧ E = [(1, ptsD b), (5, .int (((b.take j).map (far p)).foldl min ((fars (a.take k) b).foldl min (far p0 q0)))), (7, .one (.ptr 0 0)), (42, ptsD a), (43, .int a.length), (44, .int k), (48, ptsD b), (49, .int b.length), (50, .int j)] ∧ S = [(0, .cells [.f (.c (.int .i64 p.1)), .f (.c (.int .i64 p.2))])] ∧ nk = 1) ⟨b.length, _, _, _, [], ?wk2, 0, by omega, rfl, rfl, rfl⟩ ?_
      case wk2 => exact ⟨by repeat (first | exact trivial | refine ⟨by first | rfl | exact congrArg (fun z => some (DV.int z)) (dwrap (by omega) (by omega)), rfl, ?_⟩), by repeat (first | exact trivial | refine ⟨by first | rfl | exact congrArg (fun z => some (Bk.data z)) (by assumption), rfl, rfl, ?_⟩), rfl⟩
      rintro m2 E S nk ⟨j, hj, rfl, rfl, rfl⟩
      repeat (first | (refine dw_want rfl rfl ?_) | (refine dw_skip rfl rfl ?_) | (refine dw_skipU rfl ?_) | (refine dw_pickT rfl rfl ?_) | (refine dw_pickF rfl rfl ?_) | (refine dw_pick rfl (by first | exact fun _ => rfl | exact fun h => (by simp only [if_pos h]; rfl) | exact fun h => (by simp only [h, if_true, if_false]; rfl)) (by first | exact fun _ => rfl | exact fun h => (by simp only [if_pos h]; rfl) | exact fun h => (by simp only [h, if_true, if_false]; rfl)) ?_) | (refine dw_max rfl rfl ?_) | (refine dw_min rfl rfl ?_) | (refine dw_p rfl ?_) | (refine dw_l rfl ?_) | (refine dw_lk rfl ?_) | (refine dw_pg rfl (by first | exact fun _ => rfl | exact fun h => (by simp only [if_pos h]; rfl) | exact fun h => (by simp only [h, if_true, if_false]; rfl)) ?_) | (refine dw_lg rfl (by first | exact fun _ => rfl | exact fun h => (by simp only [if_pos h]; rfl) | exact fun h => (by simp only [h, if_true, if_false]; rfl)) ?_) | (refine dw_io0 rfl rfl (by omega) (by omega) ?_) | (refine dw_if0 rfl rfl (by omega) (by decide) (by assumption) ?_) | (refine dw_if rfl rfl (by omega) (by decide) (by assumption) ?_) | (refine dw_l (dload_data rfl rfl (by assumption) rfl) ?_) | (refine dw_lk (dload_data rfl rfl (by assumption) rfl) ?_) | (refine dw_a rfl ?_) | (refine dw_ai rfl rfl rfl ?_) | (refine dw_st rfl rfl rfl rfl rfl (by decide) rfl ?_) | (refine dw_nil ?_) | (refine ds_seq ?_) | (refine ds_ops mix (fun base => ?_)) | (refine ds_skip ?_) | (refine ds_block ?_) | (refine ds_exit ?_))
      refine ds_if rfl (fun ht2 => ?_) (fun ht2 => ?_)
      · simp at ht2
        obtain ⟨q, hq⟩ : ∃ q, b[j]? = some q := ⟨_, List.getElem?_eq_getElem (by omega)⟩
        have e4 := ptF_at hq
        have hqs := hb q (List.mem_of_getElem? hq)
        repeat (first | (refine dw_want rfl rfl ?_) | (refine dw_skip rfl rfl ?_) | (refine dw_skipU rfl ?_) | (refine dw_pickT rfl rfl ?_) | (refine dw_pickF rfl rfl ?_) | (refine dw_pick rfl (by first | exact fun _ => rfl | exact fun h => (by simp only [if_pos h]; rfl) | exact fun h => (by simp only [h, if_true, if_false]; rfl)) (by first | exact fun _ => rfl | exact fun h => (by simp only [if_pos h]; rfl) | exact fun h => (by simp only [h, if_true, if_false]; rfl)) ?_) | (refine dw_max rfl rfl ?_) | (refine dw_min rfl rfl ?_) | (refine dw_p rfl ?_) | (refine dw_l rfl ?_) | (refine dw_lk rfl ?_) | (refine dw_pg rfl (by first | exact fun _ => rfl | exact fun h => (by simp only [if_pos h]; rfl) | exact fun h => (by simp only [h, if_true, if_false]; rfl)) ?_) | (refine dw_lg rfl (by first | exact fun _ => rfl | exact fun h => (by simp only [if_pos h]; rfl) | exact fun h => (by simp only [h, if_true, if_false]; rfl)) ?_) | (refine dw_io0 rfl rfl (by omega) (by omega) ?_) | (refine dw_if0 rfl rfl (by omega) (by decide) (by assumption) ?_) | (refine dw_if rfl rfl (by omega) (by decide) (by assumption) ?_) | (refine dw_l (dload_data rfl rfl (by assumption) rfl) ?_) | (refine dw_lk (dload_data rfl rfl (by assumption) rfl) ?_) | (refine dw_a rfl ?_) | (refine dw_ai rfl rfl rfl ?_) | (refine dw_st rfl rfl rfl rfl rfl (by decide) rfl ?_) | (refine dw_nil ?_) | (refine ds_seq ?_) | (refine ds_ops mix (fun base => ?_)) | (refine ds_skip ?_) | (refine ds_block ?_) | (refine ds_exit ?_))
        refine dw_cf rfl rfl (d_apart (p := p) (q := q) hps hqs) ?_
        rintro _ rfl
        repeat (first | (refine dw_want rfl rfl ?_) | (refine dw_skip rfl rfl ?_) | (refine dw_skipU rfl ?_) | (refine dw_pickT rfl rfl ?_) | (refine dw_pickF rfl rfl ?_) | (refine dw_pick rfl (by first | exact fun _ => rfl | exact fun h => (by simp only [if_pos h]; rfl) | exact fun h => (by simp only [h, if_true, if_false]; rfl)) (by first | exact fun _ => rfl | exact fun h => (by simp only [if_pos h]; rfl) | exact fun h => (by simp only [h, if_true, if_false]; rfl)) ?_) | (refine dw_max rfl rfl ?_) | (refine dw_min rfl rfl ?_) | (refine dw_p rfl ?_) | (refine dw_l rfl ?_) | (refine dw_lk rfl ?_) | (refine dw_pg rfl (by first | exact fun _ => rfl | exact fun h => (by simp only [if_pos h]; rfl) | exact fun h => (by simp only [h, if_true, if_false]; rfl)) ?_) | (refine dw_lg rfl (by first | exact fun _ => rfl | exact fun h => (by simp only [if_pos h]; rfl) | exact fun h => (by simp only [h, if_true, if_false]; rfl)) ?_) | (refine dw_io0 rfl rfl (by omega) (by omega) ?_) | (refine dw_if0 rfl rfl (by omega) (by decide) (by assumption) ?_) | (refine dw_if rfl rfl (by omega) (by decide) (by assumption) ?_) | (refine dw_l (dload_data rfl rfl (by assumption) rfl) ?_) | (refine dw_lk (dload_data rfl rfl (by assumption) rfl) ?_) | (refine dw_a rfl ?_) | (refine dw_ai rfl rfl rfl ?_) | (refine dw_st rfl rfl rfl rfl rfl (by decide) rfl ?_) | (refine dw_nil ?_) | (refine ds_seq ?_) | (refine ds_ops mix (fun base => ?_)) | (refine ds_skip ?_) | (refine ds_block ?_) | (refine ds_exit ?_))
        have hD : min (((b.take j).map (far p)).foldl min ((fars (a.take k) b).foldl min (far p0 q0))) (far p q) = ((b.take (j + 1)).map (far p)).foldl min ((fars (a.take k) b).foldl min (far p0 q0)) := by
          rw [List.take_add_one, hq]
          simp
        rw [hD]
        refine ⟨m2 - 1, by omega, _, _, _, [], ?wk3, j + 1, by omega, rfl, rfl, rfl⟩
        case wk3 => exact ⟨by repeat (first | exact trivial | refine ⟨by first | rfl | exact congrArg (fun z => some (DV.int z)) (dwrap (by omega) (by omega)), rfl, ?_⟩), by repeat (first | exact trivial | refine ⟨by first | rfl | exact congrArg (fun z => some (Bk.data z)) (by assumption), rfl, rfl, ?_⟩), rfl⟩
      · simp at ht2
        obtain rfl : j = b.length := by omega
        repeat (first | (refine dw_want rfl rfl ?_) | (refine dw_skip rfl rfl ?_) | (refine dw_skipU rfl ?_) | (refine dw_pickT rfl rfl ?_) | (refine dw_pickF rfl rfl ?_) | (refine dw_pick rfl (by first | exact fun _ => rfl | exact fun h => (by simp only [if_pos h]; rfl) | exact fun h => (by simp only [h, if_true, if_false]; rfl)) (by first | exact fun _ => rfl | exact fun h => (by simp only [if_pos h]; rfl) | exact fun h => (by simp only [h, if_true, if_false]; rfl)) ?_) | (refine dw_max rfl rfl ?_) | (refine dw_min rfl rfl ?_) | (refine dw_p rfl ?_) | (refine dw_l rfl ?_) | (refine dw_lk rfl ?_) | (refine dw_pg rfl (by first | exact fun _ => rfl | exact fun h => (by simp only [if_pos h]; rfl) | exact fun h => (by simp only [h, if_true, if_false]; rfl)) ?_) | (refine dw_lg rfl (by first | exact fun _ => rfl | exact fun h => (by simp only [if_pos h]; rfl) | exact fun h => (by simp only [h, if_true, if_false]; rfl)) ?_) | (refine dw_io0 rfl rfl (by omega) (by omega) ?_) | (refine dw_if0 rfl rfl (by omega) (by decide) (by assumption) ?_) | (refine dw_if rfl rfl (by omega) (by decide) (by assumption) ?_) | (refine dw_l (dload_data rfl rfl (by assumption) rfl) ?_) | (refine dw_lk (dload_data rfl rfl (by assumption) rfl) ?_) | (refine dw_a rfl ?_) | (refine dw_ai rfl rfl rfl ?_) | (refine dw_st rfl rfl rfl rfl rfl (by decide) rfl ?_) | (refine dw_nil ?_) | (refine ds_seq ?_) | (refine ds_ops mix (fun base => ?_)) | (refine ds_skip ?_) | (refine ds_block ?_) | (refine ds_exit ?_))
        have hD : ((b.take b.length).map (far p)).foldl min ((fars (a.take k) b).foldl min (far p0 q0)) = (fars (a.take (k + 1)) b).foldl min (far p0 q0) := by
          rw [List.take_add_one, hp, List.take_length]
          simp [fars]
        rw [hD]
        refine ⟨m - 1, by omega, _, _, _, [], ?wk3, k + 1, by omega, rfl, rfl, rfl⟩
        case wk3 => exact ⟨by repeat (first | exact trivial | refine ⟨by first | rfl | exact congrArg (fun z => some (DV.int z)) (dwrap (by omega) (by omega)), rfl, ?_⟩), by repeat (first | exact trivial | refine ⟨by first | rfl | exact congrArg (fun z => some (Bk.data z)) (by assumption), rfl, rfl, ?_⟩), rfl⟩
    · simp at ht
      obtain rfl : k = a.length := by omega
      repeat (first | (refine dw_want rfl rfl ?_) | (refine dw_skip rfl rfl ?_) | (refine dw_skipU rfl ?_) | (refine dw_pickT rfl rfl ?_) | (refine dw_pickF rfl rfl ?_) | (refine dw_pick rfl (by first | exact fun _ => rfl | exact fun h => (by simp only [if_pos h]; rfl) | exact fun h => (by simp only [h, if_true, if_false]; rfl)) (by first | exact fun _ => rfl | exact fun h => (by simp only [if_pos h]; rfl) | exact fun h => (by simp only [h, if_true, if_false]; rfl)) ?_) | (refine dw_max rfl rfl ?_) | (refine dw_min rfl rfl ?_) | (refine dw_p rfl ?_) | (refine dw_l rfl ?_) | (refine dw_lk rfl ?_) | (refine dw_pg rfl (by first | exact fun _ => rfl | exact fun h => (by simp only [if_pos h]; rfl) | exact fun h => (by simp only [h, if_true, if_false]; rfl)) ?_) | (refine dw_lg rfl (by first | exact fun _ => rfl | exact fun h => (by simp only [if_pos h]; rfl) | exact fun h => (by simp only [h, if_true, if_false]; rfl)) ?_) | (refine dw_io0 rfl rfl (by omega) (by omega) ?_) | (refine dw_if0 rfl rfl (by omega) (by decide) (by assumption) ?_) | (refine dw_if rfl rfl (by omega) (by decide) (by assumption) ?_) | (refine dw_l (dload_data rfl rfl (by assumption) rfl) ?_) | (refine dw_lk (dload_data rfl rfl (by assumption) rfl) ?_) | (refine dw_a rfl ?_) | (refine dw_ai rfl rfl rfl ?_) | (refine dw_st rfl rfl rfl rfl rfl (by decide) rfl ?_) | (refine dw_nil ?_) | (refine ds_seq ?_) | (refine ds_ops mix (fun base => ?_)) | (refine ds_skip ?_) | (refine ds_block ?_) | (refine ds_exit ?_))
      refine ds_ret ⟨_, rfl, rfl, ?_⟩
      rw [List.take_length]
end Go.Ab.Fn

/- The law GridDistances. -/
namespace Go.Ab.Fn
open Go.Ab Go.Proofs
set_option linter.unusedSimpArgs false

theorem far_nonneg (p q : Pt2) : 0 ≤ far p q := by simp only [far]; omega
theorem far_comm (p q : Pt2) : far p q = far q p := by simp only [far]; omega
theorem far_zero (p q : Pt2) : far p q = 0 ↔ p = q := by
  obtain ⟨p1, p2⟩ := p
  obtain ⟨q1, q2⟩ := q
  simp only [far, Prod.mk.injEq]
  omega
theorem mem_fars {a b : List Pt2} {z : Int} : z ∈ fars a b ↔ ∃ x ∈ a, ∃ y ∈ b, far x y = z := by simp [fars]
theorem dist_spec {a b : List Pt2} (ha : a ≠ []) (hb : b ≠ []) : (∃ x ∈ a, ∃ y ∈ b, far x y = dist a b) ∧ ∀ x ∈ a, ∀ y ∈ b, dist a b ≤ far x y := by
  obtain ⟨p, a', rfl⟩ := List.exists_cons_of_ne_nil ha
  obtain ⟨q, b', rfl⟩ := List.exists_cons_of_ne_nil hb
  have hd : dist (p :: a') (q :: b') = (fars (p :: a') (q :: b')).foldl min (far p q) := rfl
  refine ⟨?_, fun x hx y hy => ?_⟩
  · rcases foldl_min_mem (fars (p :: a') (q :: b')) (far p q) with h | h
    · exact ⟨p, by simp, q, by simp, by rw [hd, h]⟩
    · exact mem_fars.1 (hd ▸ h)
  · rw [hd]
    exact (foldl_min_le _ _).2 _ (mem_fars.2 ⟨x, hx, y, hy, rfl⟩)
theorem dist_neg {a b : List Pt2} : dist a b < 0 ↔ a = [] ∨ b = [] := by
  by_cases ha : a = []
  · subst ha; simp [dist]
  · by_cases hb : b = []
    · subst hb
      obtain ⟨p, a', rfl⟩ := List.exists_cons_of_ne_nil ha
      simp [dist]
    · obtain ⟨⟨x, _, y, _, h⟩, _⟩ := dist_spec ha hb
      have := far_nonneg x y
      simp [ha, hb]
      omega
theorem dist_comm (a b : List Pt2) : dist a b = dist b a := by
  by_cases ha : a = []
  · subst ha; cases b <;> rfl
  · by_cases hb : b = []
    · subst hb; cases a <;> rfl
    · obtain ⟨⟨x, hx, y, hy, h⟩, h1⟩ := dist_spec ha hb
      obtain ⟨⟨x', hx', y', hy', h'⟩, h2⟩ := dist_spec hb ha
      have g1 := h1 y' hy' x' hx'
      have g2 := h2 y hy x hx
      rw [far_comm] at g1 g2
      omega
theorem dist_zero (a b : List Pt2) : dist a b = 0 ↔ ∃ x ∈ a, x ∈ b := by
  by_cases ha : a = []
  · subst ha; simp [dist]
  · by_cases hb : b = []
    · subst hb
      obtain ⟨p, a', rfl⟩ := List.exists_cons_of_ne_nil ha
      simp [dist]
    · obtain ⟨⟨x, hx, y, hy, h⟩, h1⟩ := dist_spec ha hb
      constructor
      · intro h0
        rw [h0] at h
        exact ⟨x, hx, (far_zero x y).1 h ▸ hy⟩
      · rintro ⟨z, hz, hz'⟩
        have := h1 z hz z hz'
        rw [(far_zero z z).2 rfl] at this
        have := far_nonneg x y
        omega
theorem dist_more {a b r : List Pt2} (ha : a ≠ []) (hb : b ≠ []) : 0 ≤ dist (a ++ r) b ∧ dist (a ++ r) b ≤ dist a b := by
  obtain ⟨⟨x, hx, y, hy, h⟩, h1⟩ := dist_spec ha hb
  have ha' : a ++ r ≠ [] := by simp [ha]
  obtain ⟨⟨x', hx', y', hy', h'⟩, h2⟩ := dist_spec ha' hb
  have := far_nonneg x' y'
  have := h2 x (by simp [hx]) y hy
  omega

theorem made_small {l : List (Int × Int)} {n : Nat} : ∀ p ∈ (l.take n).map madeP, -2 ≤ p.1 ∧ p.1 ≤ 13 ∧ -2 ≤ p.2 ∧ p.2 ≤ 13 := by
  intro p hp
  obtain ⟨q, _, rfl⟩ := List.mem_map.1 hp
  simp only [madeP]
  omega
theorem made_smalls (l : List (Int × Int)) (n : Nat) : Smalls ((l.take n).map madeP) := fun p hp => by
  have := made_small p hp
  exact ⟨by omega, by omega, by omega, by omega⟩
theorem made_len (l : List (Int × Int)) (n : Nat) : ((l.take n).map madeP).length ≤ n := by simp; omega

set_option maxHeartbeats 4000000 in
theorem d_gridDistances {a b c : List (Int × Int)} (ha : Bys a) (hb : Bys b) (hc : Bys c) : DK 5 [bysD a, bysD b, bysD c] fun d => d = .bool true := by
  refine dfn_ok cp5 rfl GHro fun Z0 lo => ?_
  repeat (first | (refine dw_want rfl rfl ?_) | (refine dw_skip rfl rfl ?_) | (refine dw_skipU rfl ?_) | (refine dw_pickT rfl rfl ?_) | (refine dw_pickF rfl rfl ?_) | (refine dw_pick rfl (by first | exact fun _ => rfl | exact fun h => (by simp only [if_pos h]; rfl) | exact fun h => (by simp only [h, if_true, if_false]; rfl)) (by first | exact fun _ => rfl | exact fun h => (by simp only [if_pos h]; rfl) | exact fun h => (by simp only [h, if_true, if_false]; rfl)) ?_) | (refine dw_max rfl rfl ?_) | (refine dw_min rfl rfl ?_) | (refine dw_p rfl ?_) | (refine dw_l rfl ?_) | (refine dw_lk rfl ?_) | (refine dw_pg rfl (by first | exact fun _ => rfl | exact fun h => (by simp only [if_pos h]; rfl) | exact fun h => (by simp only [h, if_true, if_false]; rfl)) ?_) | (refine dw_lg rfl (by first | exact fun _ => rfl | exact fun h => (by simp only [if_pos h]; rfl) | exact fun h => (by simp only [h, if_true, if_false]; rfl)) ?_) | (refine dw_io0 rfl rfl (by omega) (by omega) ?_) | (refine dw_if0 rfl rfl (by omega) (by decide) (by assumption) ?_) | (refine dw_if rfl rfl (by omega) (by decide) (by assumption) ?_) | (refine dw_l (dload_data rfl rfl (by assumption) rfl) ?_) | (refine dw_lk (dload_data rfl rfl (by assumption) rfl) ?_) | (refine dw_a rfl ?_) | (refine dw_ai rfl rfl rfl ?_) | (refine dw_st rfl rfl rfl rfl rfl (by decide) rfl ?_) | (refine dw_nil ?_) | (refine ds_seq ?_) | (refine ds_ops mix (fun base => ?_)) | (refine ds_skip ?_) | (refine ds_block ?_) | (refine ds_exit ?_))
  refine dw_cf rfl rfl d_sanity ?_
  rintro _ rfl
  repeat (first | (refine dw_want rfl rfl ?_) | (refine dw_skip rfl rfl ?_) | (refine dw_skipU rfl ?_) | (refine dw_pickT rfl rfl ?_) | (refine dw_pickF rfl rfl ?_) | (refine dw_pick rfl (by first | exact fun _ => rfl | exact fun h => (by simp only [if_pos h]; rfl) | exact fun h => (by simp only [h, if_true, if_false]; rfl)) (by first | exact fun _ => rfl | exact fun h => (by simp only [if_pos h]; rfl) | exact fun h => (by simp only [h, if_true, if_false]; rfl)) ?_) | (refine dw_max rfl rfl ?_) | (refine dw_min rfl rfl ?_) | (refine dw_p rfl ?_) | (refine dw_l rfl ?_) | (refine dw_lk rfl ?_) | (refine dw_pg rfl (by first | exact fun _ => rfl | exact fun h => (by simp only [if_pos h]; rfl) | exact fun h => (by simp only [h, if_true, if_false]; rfl)) ?_) | (refine dw_lg rfl (by first | exact fun _ => rfl | exact fun h => (by simp only [if_pos h]; rfl) | exact fun h => (by simp only [h, if_true, if_false]; rfl)) ?_) | (refine dw_io0 rfl rfl (by omega) (by omega) ?_) | (refine dw_if0 rfl rfl (by omega) (by decide) (by assumption) ?_) | (refine dw_if rfl rfl (by omega) (by decide) (by assumption) ?_) | (refine dw_l (dload_data rfl rfl (by assumption) rfl) ?_) | (refine dw_lk (dload_data rfl rfl (by assumption) rfl) ?_) | (refine dw_a rfl ?_) | (refine dw_ai rfl rfl rfl ?_) | (refine dw_st rfl rfl rfl rfl rfl (by decide) rfl ?_) | (refine dw_nil ?_) | (refine ds_seq ?_) | (refine ds_ops mix (fun base => ?_)) | (refine ds_skip ?_) | (refine ds_block ?_) | (refine ds_exit ?_))
  refine dw_cf rfl rfl (d_made (n := 12) ha (by omega)) ?_
  rintro _ rfl
  repeat (first | (refine dw_want rfl rfl ?_) | (refine dw_skip rfl rfl ?_) | (refine dw_skipU rfl ?_) | (refine dw_pickT rfl rfl ?_) | (refine dw_pickF rfl rfl ?_) | (refine dw_pick rfl (by first | exact fun _ => rfl | exact fun h => (by simp only [if_pos h]; rfl) | exact fun h => (by simp only [h, if_true, if_false]; rfl)) (by first | exact fun _ => rfl | exact fun h => (by simp only [if_pos h]; rfl) | exact fun h => (by simp only [h, if_true, if_false]; rfl)) ?_) | (refine dw_max rfl rfl ?_) | (refine dw_min rfl rfl ?_) | (refine dw_p rfl ?_) | (refine dw_l rfl ?_) | (refine dw_lk rfl ?_) | (refine dw_pg rfl (by first | exact fun _ => rfl | exact fun h => (by simp only [if_pos h]; rfl) | exact fun h => (by simp only [h, if_true, if_false]; rfl)) ?_) | (refine dw_lg rfl (by first | exact fun _ => rfl | exact fun h => (by simp only [if_pos h]; rfl) | exact fun h => (by simp only [h, if_true, if_false]; rfl)) ?_) | (refine dw_io0 rfl rfl (by omega) (by omega) ?_) | (refine dw_if0 rfl rfl (by omega) (by decide) (by assumption) ?_) | (refine dw_if rfl rfl (by omega) (by decide) (by assumption) ?_) | (refine dw_l (dload_data rfl rfl (by assumption) rfl) ?_) | (refine dw_lk (dload_data rfl rfl (by assumption) rfl) ?_) | (refine dw_a rfl ?_) | (refine dw_ai rfl rfl rfl ?_) | (refine dw_st rfl rfl rfl rfl rfl (by decide) rfl ?_) | (refine dw_nil ?_) | (refine ds_seq ?_) | (refine ds_ops mix (fun base => ?_)) | (refine ds_skip ?_) | (refine ds_block ?_) | (refine ds_exit ?_))
  refine dw_cf rfl rfl (d_made (n := 12) hb (by omega)) ?_
  rintro _ rfl
  repeat (first | (refine dw_want rfl rfl ?_) | (refine dw_skip rfl rfl ?_) | (refine dw_skipU rfl ?_) | (refine dw_pickT rfl rfl ?_) | (refine dw_pickF rfl rfl ?_) | (refine dw_pick rfl (by first | exact fun _ => rfl | exact fun h => (by simp only [if_pos h]; rfl) | exact fun h => (by simp only [h, if_true, if_false]; rfl)) (by first | exact fun _ => rfl | exact fun h => (by simp only [if_pos h]; rfl) | exact fun h => (by simp only [h, if_true, if_false]; rfl)) ?_) | (refine dw_max rfl rfl ?_) | (refine dw_min rfl rfl ?_) | (refine dw_p rfl ?_) | (refine dw_l rfl ?_) | (refine dw_lk rfl ?_) | (refine dw_pg rfl (by first | exact fun _ => rfl | exact fun h => (by simp only [if_pos h]; rfl) | exact fun h => (by simp only [h, if_true, if_false]; rfl)) ?_) | (refine dw_lg rfl (by first | exact fun _ => rfl | exact fun h => (by simp only [if_pos h]; rfl) | exact fun h => (by simp only [h, if_true, if_false]; rfl)) ?_) | (refine dw_io0 rfl rfl (by omega) (by omega) ?_) | (refine dw_if0 rfl rfl (by omega) (by decide) (by assumption) ?_) | (refine dw_if rfl rfl (by omega) (by decide) (by assumption) ?_) | (refine dw_l (dload_data rfl rfl (by assumption) rfl) ?_) | (refine dw_lk (dload_data rfl rfl (by assumption) rfl) ?_) | (refine dw_a rfl ?_) | (refine dw_ai rfl rfl rfl ?_) | (refine dw_st rfl rfl rfl rfl rfl (by decide) rfl ?_) | (refine dw_nil ?_) | (refine ds_seq ?_) | (refine ds_ops mix (fun base => ?_)) | (refine ds_skip ?_) | (refine ds_block ?_) | (refine ds_exit ?_))
  refine dw_cf rfl rfl (d_made (n := 12) hc (by omega)) ?_
  rintro _ rfl
  have sp := made_smalls a 12
  have sq := made_smalls b 12
  have sr := made_smalls c 12
  have lp := made_len a 12
  have lq := made_len b 12
  have lr := made_len c 12
  generalize (a.take 12).map madeP = p at *
  generalize (b.take 12).map madeP = q at *
  generalize (c.take 12).map madeP = r at *
  repeat (first | (refine dw_want rfl rfl ?_) | (refine dw_skip rfl rfl ?_) | (refine dw_skipU rfl ?_) | (refine dw_pickT rfl rfl ?_) | (refine dw_pickF rfl rfl ?_) | (refine dw_pick rfl (by first | exact fun _ => rfl | exact fun h => (by simp only [if_pos h]; rfl) | exact fun h => (by simp only [h, if_true, if_false]; rfl)) (by first | exact fun _ => rfl | exact fun h => (by simp only [if_pos h]; rfl) | exact fun h => (by simp only [h, if_true, if_false]; rfl)) ?_) | (refine dw_max rfl rfl ?_) | (refine dw_min rfl rfl ?_) | (refine dw_p rfl ?_) | (refine dw_l rfl ?_) | (refine dw_lk rfl ?_) | (refine dw_pg rfl (by first | exact fun _ => rfl | exact fun h => (by simp only [if_pos h]; rfl) | exact fun h => (by simp only [h, if_true, if_false]; rfl)) ?_) | (refine dw_lg rfl (by first | exact fun _ => rfl | exact fun h => (by simp only [if_pos h]; rfl) | exact fun h => (by simp only [h, if_true, if_false]; rfl)) ?_) | (refine dw_io0 rfl rfl (by omega) (by omega) ?_) | (refine dw_if0 rfl rfl (by omega) (by decide) (by assumption) ?_) | (refine dw_if rfl rfl (by omega) (by decide) (by assumption) ?_) | (refine dw_l (dload_data rfl rfl (by assumption) rfl) ?_) | (refine dw_lk (dload_data rfl rfl (by assumption) rfl) ?_) | (refine dw_a rfl ?_) | (refine dw_ai rfl rfl rfl ?_) | (refine dw_st rfl rfl rfl rfl rfl (by decide) rfl ?_) | (refine dw_nil ?_) | (refine ds_seq ?_) | (refine ds_ops mix (fun base => ?_)) | (refine ds_skip ?_) | (refine ds_block ?_) | (refine ds_exit ?_))
  refine dw_cf rfl rfl (d_distance sp sq (by omega) (by omega)) ?_
  rintro _ rfl
  repeat (first | (refine dw_want rfl rfl ?_) | (refine dw_skip rfl rfl ?_) | (refine dw_skipU rfl ?_) | (refine dw_pickT rfl rfl ?_) | (refine dw_pickF rfl rfl ?_) | (refine dw_pick rfl (by first | exact fun _ => rfl | exact fun h => (by simp only [if_pos h]; rfl) | exact fun h => (by simp only [h, if_true, if_false]; rfl)) (by first | exact fun _ => rfl | exact fun h => (by simp only [if_pos h]; rfl) | exact fun h => (by simp only [h, if_true, if_false]; rfl)) ?_) | (refine dw_max rfl rfl ?_) | (refine dw_min rfl rfl ?_) | (refine dw_p rfl ?_) | (refine dw_l rfl ?_) | (refine dw_lk rfl ?_) | (refine dw_pg rfl (by first | exact fun _ => rfl | exact fun h => (by simp only [if_pos h]; rfl) | exact fun h => (by simp only [h, if_true, if_false]; rfl)) ?_) | (refine dw_lg rfl (by first | exact fun _ => rfl | exact fun h => (by simp only [if_pos h]; rfl) | exact fun h => (by simp only [h, if_true, if_false]; rfl)) ?_) | (refine dw_io0 rfl rfl (by omega) (by omega) ?_) | (refine dw_if0 rfl rfl (by omega) (by decide) (by assumption) ?_) | (refine dw_if rfl rfl (by omega) (by decide) (by assumption) ?_) | (refine dw_l (dload_data rfl rfl (by assumption) rfl) ?_) | (refine dw_lk (dload_data rfl rfl (by assumption) rfl) ?_) | (refine dw_a rfl ?_) | (refine dw_ai rfl rfl rfl ?_) | (refine dw_st rfl rfl rfl rfl rfl (by decide) rfl ?_) | (refine dw_nil ?_) | (refine ds_seq ?_) | (refine ds_ops mix (fun base => ?_)) | (refine ds_skip ?_) | (refine ds_block ?_) | (refine ds_exit ?_))
  refine dw_cf rfl rfl (d_distance sq sp (by omega) (by omega)) ?_
  rintro _ rfl
  rw [dist_comm q p]
  iterate 1 (first | (refine dw_want rfl rfl ?_) | (refine dw_skip rfl rfl ?_) | (refine dw_skipU rfl ?_) | (refine dw_pickT rfl rfl ?_) | (refine dw_pickF rfl rfl ?_) | (refine dw_pick rfl (by first | exact fun _ => rfl | exact fun h => (by simp only [if_pos h]; rfl) | exact fun h => (by simp only [h, if_true, if_false]; rfl)) (by first | exact fun _ => rfl | exact fun h => (by simp only [if_pos h]; rfl) | exact fun h => (by simp only [h, if_true, if_false]; rfl)) ?_) | (refine dw_max rfl rfl ?_) | (refine dw_min rfl rfl ?_) | (refine dw_p rfl ?_) | (refine dw_l rfl ?_) | (refine dw_lk rfl ?_) | (refine dw_pg rfl (by first | exact fun _ => rfl | exact fun h => (by simp only [if_pos h]; rfl) | exact fun h => (by simp only [h, if_true, if_false]; rfl)) ?_) | (refine dw_lg rfl (by first | exact fun _ => rfl | exact fun h => (by simp only [if_pos h]; rfl) | exact fun h => (by simp only [h, if_true, if_false]; rfl)) ?_) | (refine dw_io0 rfl rfl (by omega) (by omega) ?_) | (refine dw_if0 rfl rfl (by omega) (by decide) (by assumption) ?_) | (refine dw_if rfl rfl (by omega) (by decide) (by assumption) ?_) | (refine dw_l (dload_data rfl rfl (by assumption) rfl) ?_) | (refine dw_lk (dload_data rfl rfl (by assumption) rfl) ?_) | (refine dw_a rfl ?_) | (refine dw_ai rfl rfl rfl ?_) | (refine dw_st rfl rfl rfl rfl rfl (by decide) rfl ?_) | (refine dw_nil ?_) | (refine ds_seq ?_) | (refine ds_ops mix (fun base => ?_)) | (refine ds_skip ?_) | (refine ds_block ?_) | (refine ds_exit ?_))
  rw [show (dist p q != dist p q) = false by simp]
  repeat (first | (refine dw_want rfl rfl ?_) | (refine dw_skip rfl rfl ?_) | (refine dw_skipU rfl ?_) | (refine dw_pickT rfl rfl ?_) | (refine dw_pickF rfl rfl ?_) | (refine dw_pick rfl (by first | exact fun _ => rfl | exact fun h => (by simp only [if_pos h]; rfl) | exact fun h => (by simp only [h, if_true, if_false]; rfl)) (by first | exact fun _ => rfl | exact fun h => (by simp only [if_pos h]; rfl) | exact fun h => (by simp only [h, if_true, if_false]; rfl)) ?_) | (refine dw_max rfl rfl ?_) | (refine dw_min rfl rfl ?_) | (refine dw_p rfl ?_) | (refine dw_l rfl ?_) | (refine dw_lk rfl ?_) | (refine dw_pg rfl (by first | exact fun _ => rfl | exact fun h => (by simp only [if_pos h]; rfl) | exact fun h => (by simp only [h, if_true, if_false]; rfl)) ?_) | (refine dw_lg rfl (by first | exact fun _ => rfl | exact fun h => (by simp only [if_pos h]; rfl) | exact fun h => (by simp only [h, if_true, if_false]; rfl)) ?_) | (refine dw_io0 rfl rfl (by omega) (by omega) ?_) | (refine dw_if0 rfl rfl (by omega) (by decide) (by assumption) ?_) | (refine dw_if rfl rfl (by omega) (by decide) (by assumption) ?_) | (refine dw_l (dload_data rfl rfl (by assumption) rfl) ?_) | (refine dw_lk (dload_data rfl rfl (by assumption) rfl) ?_) | (refine dw_a rfl ?_) | (refine dw_ai rfl rfl rfl ?_) | (refine dw_st rfl rfl rfl rfl rfl (by decide) rfl ?_) | (refine dw_nil ?_) | (refine ds_seq ?_) | (refine ds_ops mix (fun base => ?_)) | (refine ds_skip ?_) | (refine ds_block ?_) | (refine ds_exit ?_))
  refine ds_if rfl (fun ht => ?_) (fun _ => ?_)
  · exfalso
    by_cases h1 : p = []
    · subst h1; simp [dist] at ht
    · have h1' : p.length ≠ 0 := fun h => h1 (List.eq_nil_of_length_eq_zero h)
      by_cases h2 : q = []
      · subst h2
        have := (dist_neg (a := p) (b := [])).2 (.inr rfl)
        simp [this] at ht
      · have h2' : q.length ≠ 0 := fun h => h2 (List.eq_nil_of_length_eq_zero h)
        have : ¬ dist p q < 0 := fun h => (dist_neg.1 h).elim h1 h2
        simp [this, h1, h2] at ht
  · repeat (first | (refine dw_want rfl rfl ?_) | (refine dw_skip rfl rfl ?_) | (refine dw_skipU rfl ?_) | (refine dw_pickT rfl rfl ?_) | (refine dw_pickF rfl rfl ?_) | (refine dw_pick rfl (by first | exact fun _ => rfl | exact fun h => (by simp only [if_pos h]; rfl) | exact fun h => (by simp only [h, if_true, if_false]; rfl)) (by first | exact fun _ => rfl | exact fun h => (by simp only [if_pos h]; rfl) | exact fun h => (by simp only [h, if_true, if_false]; rfl)) ?_) | (refine dw_max rfl rfl ?_) | (refine dw_min rfl rfl ?_) | (refine dw_p rfl ?_) | (refine dw_l rfl ?_) | (refine dw_lk rfl ?_) | (refine dw_pg rfl (by first | exact fun _ => rfl | exact fun h => (by simp only [if_pos h]; rfl) | exact fun h => (by simp only [h, if_true, if_false]; rfl)) ?_) | (refine dw_lg rfl (by first | exact fun _ => rfl | exact fun h => (by simp only [if_pos h]; rfl) | exact fun h => (by simp only [h, if_true, if_false]; rfl)) ?_) | (refine dw_io0 rfl rfl (by omega) (by omega) ?_) | (refine dw_if0 rfl rfl (by omega) (by decide) (by assumption) ?_) | (refine dw_if rfl rfl (by omega) (by decide) (by assumption) ?_) | (refine dw_l (dload_data rfl rfl (by assumption) rfl) ?_) | (refine dw_lk (dload_data rfl rfl (by assumption) rfl) ?_) | (refine dw_a rfl ?_) | (refine dw_ai rfl rfl rfl ?_) | (refine dw_st rfl rfl rfl rfl rfl (by decide) rfl ?_) | (refine dw_nil ?_) | (refine ds_seq ?_) | (refine ds_ops mix (fun base => ?_)) | (refine ds_skip ?_) | (refine ds_block ?_) | (refine ds_exit ?_))
    refine ds_loop (fun m E S nk => ∃ k : Nat, k + m = p.length ∧ E = [(7, .bool true), (8, ptsD p), (9, ptsD q), (10, ptsD r), (11, .int (dist p q)), (12, .bool (((p.take k).any fun x => decide (x ∈ q)))), (13, .int k)] ∧ S = [] ∧ nk = 0) ⟨p.length, _, _, _, [], ?wk, 0, by omega, rfl, rfl, rfl⟩ ?_
    case wk => exact ⟨by repeat (first | exact trivial | refine ⟨by first | rfl | exact congrArg (fun z => some (DV.int z)) (dwrap (by omega) (by omega)), rfl, ?_⟩), by repeat (first | exact trivial | refine ⟨by first | rfl | exact congrArg (fun z => some (Bk.data z)) (by assumption), rfl, rfl, ?_⟩), rfl⟩
    rintro m E S nk ⟨k, hk, rfl, rfl, rfl⟩
    repeat (first | (refine dw_want rfl rfl ?_) | (refine dw_skip rfl rfl ?_) | (refine dw_skipU rfl ?_) | (refine dw_pickT rfl rfl ?_) | (refine dw_pickF rfl rfl ?_) | (refine dw_pick rfl (by first | exact fun _ => rfl | exact fun h => (by simp only [if_pos h]; rfl) | exact fun h => (by simp only [h, if_true, if_false]; rfl)) (by first | exact fun _ => rfl | exact fun h => (by simp only [if_pos h]; rfl) | exact fun h => (by simp only [h, if_true, if_false]; rfl)) ?_) | (refine dw_max rfl rfl ?_) | (refine dw_min rfl rfl ?_) | (refine dw_p rfl ?_) | (refine dw_l rfl ?_) | (refine dw_lk rfl ?_) | (refine dw_pg rfl (by first | exact fun _ => rfl | exact fun h => (by simp only [if_pos h]; rfl) | exact fun h => (by simp only [h, if_true, if_false]; rfl)) ?_) | (refine dw_lg rfl (by first | exact fun _ => rfl | exact fun h => (by simp only [if_pos h]; rfl) | exact fun h => (by simp only [h, if_true, if_false]; rfl)) ?_) | (refine dw_io0 rfl rfl (by omega) (by omega) ?_) | (refine dw_if0 rfl rfl (by omega) (by decide) (by assumption) ?_) | (refine dw_if rfl rfl (by omega) (by decide) (by assumption) ?_) | (refine dw_l (dload_data rfl rfl (by assumption) rfl) ?_) | (refine dw_lk (dload_data rfl rfl (by assumption) rfl) ?_) | (refine dw_a rfl ?_) | (refine dw_ai rfl rfl rfl ?_) | (refine dw_st rfl rfl rfl rfl rfl (by decide) rfl ?_) | (refine dw_nil ?_) | (refine ds_seq ?_) | (refine ds_ops mix (fun base => ?_)) | (refine ds_skip ?_) | (refine ds_block ?_) | (refine ds_exit ?_))
    refine ds_if rfl (fun ht => ?_) (fun ht => ?_)
    · simp at ht
      obtain ⟨x, hx⟩ : ∃ x, p[k]? = some x := ⟨_, List.getElem?_eq_getElem (by omega)⟩
      have e1 := ptF_at hx
      have hD : ((p.take (k + 1)).any fun x => decide (x ∈ q)) = (((p.take k).any fun x => decide (x ∈ q)) || decide (x ∈ q)) := by
        rw [List.take_add_one, hx]
        simp
      generalize ((p.take k).any fun x => decide (x ∈ q)) = cm at *
      cases cm with
      | true =>
        repeat (first | (refine dw_want rfl rfl ?_) | (refine dw_skip rfl rfl ?_) | (refine dw_skipU rfl ?_) | (refine dw_pickT rfl rfl ?_) | (refine dw_pickF rfl rfl ?_) | (refine dw_pick rfl (by first | exact fun _ => rfl | exact fun h => (by simp only [if_pos h]; rfl) | exact fun h => (by simp only [h, if_true, if_false]; rfl)) (by first | exact fun _ => rfl | exact fun h => (by simp only [if_pos h]; rfl) | exact fun h => (by simp only [h, if_true, if_false]; rfl)) ?_) | (refine dw_max rfl rfl ?_) | (refine dw_min rfl rfl ?_) | (refine dw_p rfl ?_) | (refine dw_l rfl ?_) | (refine dw_lk rfl ?_) | (refine dw_pg rfl (by first | exact fun _ => rfl | exact fun h => (by simp only [if_pos h]; rfl) | exact fun h => (by simp only [h, if_true, if_false]; rfl)) ?_) | (refine dw_lg rfl (by first | exact fun _ => rfl | exact fun h => (by simp only [if_pos h]; rfl) | exact fun h => (by simp only [h, if_true, if_false]; rfl)) ?_) | (refine dw_io0 rfl rfl (by omega) (by omega) ?_) | (refine dw_if0 rfl rfl (by omega) (by decide) (by assumption) ?_) | (refine dw_if rfl rfl (by omega) (by decide) (by assumption) ?_) | (refine dw_l (dload_data rfl rfl (by assumption) rfl) ?_) | (refine dw_lk (dload_data rfl rfl (by assumption) rfl) ?_) | (refine dw_a rfl ?_) | (refine dw_ai rfl rfl rfl ?_) | (refine dw_st rfl rfl rfl rfl rfl (by decide) rfl ?_) | (refine dw_nil ?_) | (refine ds_seq ?_) | (refine ds_ops mix (fun base => ?_)) | (refine ds_skip ?_) | (refine ds_block ?_) | (refine ds_exit ?_))
        refine ⟨m - 1, by omega, _, _, _, [], ?wk1, k + 1, by omega, rfl, rfl, rfl⟩
        case wk1 => rw [hD]; exact ⟨by repeat (first | exact trivial | refine ⟨by first | rfl | exact congrArg (fun z => some (DV.int z)) (dwrap (by omega) (by omega)), rfl, ?_⟩), by repeat (first | exact trivial | refine ⟨by first | rfl | exact congrArg (fun z => some (Bk.data z)) (by assumption), rfl, rfl, ?_⟩), rfl⟩
      | false =>
        repeat (first | (refine dw_want rfl rfl ?_) | (refine dw_skip rfl rfl ?_) | (refine dw_skipU rfl ?_) | (refine dw_pickT rfl rfl ?_) | (refine dw_pickF rfl rfl ?_) | (refine dw_pick rfl (by first | exact fun _ => rfl | exact fun h => (by simp only [if_pos h]; rfl) | exact fun h => (by simp only [h, if_true, if_false]; rfl)) (by first | exact fun _ => rfl | exact fun h => (by simp only [if_pos h]; rfl) | exact fun h => (by simp only [h, if_true, if_false]; rfl)) ?_) | (refine dw_max rfl rfl ?_) | (refine dw_min rfl rfl ?_) | (refine dw_p rfl ?_) | (refine dw_l rfl ?_) | (refine dw_lk rfl ?_) | (refine dw_pg rfl (by first | exact fun _ => rfl | exact fun h => (by simp only [if_pos h]; rfl) | exact fun h => (by simp only [h, if_true, if_false]; rfl)) ?_) | (refine dw_lg rfl (by first | exact fun _ => rfl | exact fun h => (by simp only [if_pos h]; rfl) | exact fun h => (by simp only [h, if_true, if_false]; rfl)) ?_) | (refine dw_io0 rfl rfl (by omega) (by omega) ?_) | (refine dw_if0 rfl rfl (by omega) (by decide) (by assumption) ?_) | (refine dw_if rfl rfl (by omega) (by decide) (by assumption) ?_) | (refine dw_l (dload_data rfl rfl (by assumption) rfl) ?_) | (refine dw_lk (dload_data rfl rfl (by assumption) rfl) ?_) | (refine dw_a rfl ?_) | (refine dw_ai rfl rfl rfl ?_) | (refine dw_st rfl rfl rfl rfl rfl (by decide) rfl ?_) | (refine dw_nil ?_) | (refine ds_seq ?_) | (refine ds_ops mix (fun base => ?_)) | (refine ds_skip ?_) | (refine ds_block ?_) | (refine ds_exit ?_))
        refine dw_cf rfl rfl (d_has (l := q) (p := x) (by omega)) ?_
        rintro _ rfl
        repeat (first | (refine dw_want rfl rfl ?_) | (refine dw_skip rfl rfl ?_) | (refine dw_skipU rfl ?_) | (refine dw_pickT rfl rfl ?_) | (refine dw_pickF rfl rfl ?_) | (refine dw_pick rfl (by first | exact fun _ => rfl | exact fun h => (by simp only [if_pos h]; rfl) | exact fun h => (by simp only [h, if_true, if_false]; rfl)) (by first | exact fun _ => rfl | exact fun h => (by simp only [if_pos h]; rfl) | exact fun h => (by simp only [h, if_true, if_false]; rfl)) ?_) | (refine dw_max rfl rfl ?_) | (refine dw_min rfl rfl ?_) | (refine dw_p rfl ?_) | (refine dw_l rfl ?_) | (refine dw_lk rfl ?_) | (refine dw_pg rfl (by first | exact fun _ => rfl | exact fun h => (by simp only [if_pos h]; rfl) | exact fun h => (by simp only [h, if_true, if_false]; rfl)) ?_) | (refine dw_lg rfl (by first | exact fun _ => rfl | exact fun h => (by simp only [if_pos h]; rfl) | exact fun h => (by simp only [h, if_true, if_false]; rfl)) ?_) | (refine dw_io0 rfl rfl (by omega) (by omega) ?_) | (refine dw_if0 rfl rfl (by omega) (by decide) (by assumption) ?_) | (refine dw_if rfl rfl (by omega) (by decide) (by assumption) ?_) | (refine dw_l (dload_data rfl rfl (by assumption) rfl) ?_) | (refine dw_lk (dload_data rfl rfl (by assumption) rfl) ?_) | (refine dw_a rfl ?_) | (refine dw_ai rfl rfl rfl ?_) | (refine dw_st rfl rfl rfl rfl rfl (by decide) rfl ?_) | (refine dw_nil ?_) | (refine ds_seq ?_) | (refine ds_ops mix (fun base => ?_)) | (refine ds_skip ?_) | (refine ds_block ?_) | (refine ds_exit ?_))
        refine ⟨m - 1, by omega, _, _, _, [], ?wk1, k + 1, by omega, rfl, rfl, rfl⟩
        case wk1 => rw [hD, Bool.false_or]; exact ⟨by repeat (first | exact trivial | refine ⟨by first | rfl | exact congrArg (fun z => some (DV.int z)) (dwrap (by omega) (by omega)), rfl, ?_⟩), by repeat (first | exact trivial | refine ⟨by first | rfl | exact congrArg (fun z => some (Bk.data z)) (by assumption), rfl, rfl, ?_⟩), rfl⟩
    · simp at ht
      obtain rfl : k = p.length := by omega
      rw [List.take_length]
      repeat (first | (refine dw_want rfl rfl ?_) | (refine dw_skip rfl rfl ?_) | (refine dw_skipU rfl ?_) | (refine dw_pickT rfl rfl ?_) | (refine dw_pickF rfl rfl ?_) | (refine dw_pick rfl (by first | exact fun _ => rfl | exact fun h => (by simp only [if_pos h]; rfl) | exact fun h => (by simp only [h, if_true, if_false]; rfl)) (by first | exact fun _ => rfl | exact fun h => (by simp only [if_pos h]; rfl) | exact fun h => (by simp only [h, if_true, if_false]; rfl)) ?_) | (refine dw_max rfl rfl ?_) | (refine dw_min rfl rfl ?_) | (refine dw_p rfl ?_) | (refine dw_l rfl ?_) | (refine dw_lk rfl ?_) | (refine dw_pg rfl (by first | exact fun _ => rfl | exact fun h => (by simp only [if_pos h]; rfl) | exact fun h => (by simp only [h, if_true, if_false]; rfl)) ?_) | (refine dw_lg rfl (by first | exact fun _ => rfl | exact fun h => (by simp only [if_pos h]; rfl) | exact fun h => (by simp only [h, if_true, if_false]; rfl)) ?_) | (refine dw_io0 rfl rfl (by omega) (by omega) ?_) | (refine dw_if0 rfl rfl (by omega) (by decide) (by assumption) ?_) | (refine dw_if rfl rfl (by omega) (by decide) (by assumption) ?_) | (refine dw_l (dload_data rfl rfl (by assumption) rfl) ?_) | (refine dw_lk (dload_data rfl rfl (by assumption) rfl) ?_) | (refine dw_a rfl ?_) | (refine dw_ai rfl rfl rfl ?_) | (refine dw_st rfl rfl rfl rfl rfl (by decide) rfl ?_) | (refine dw_nil ?_) | (refine ds_seq ?_) | (refine ds_ops mix (fun base => ?_)) | (refine ds_skip ?_) | (refine ds_block ?_) | (refine ds_exit ?_))
      refine dw_app (l' := []) rfl rfl rfl rfl ⟨rfl, rfl, rfl⟩ (by omega) (by omega) (by decide) rfl ?_
      rw [Nat.zero_add p.length, List.nil_append]
      repeat (first | (refine dw_want rfl rfl ?_) | (refine dw_skip rfl rfl ?_) | (refine dw_skipU rfl ?_) | (refine dw_pickT rfl rfl ?_) | (refine dw_pickF rfl rfl ?_) | (refine dw_pick rfl (by first | exact fun _ => rfl | exact fun h => (by simp only [if_pos h]; rfl) | exact fun h => (by simp only [h, if_true, if_false]; rfl)) (by first | exact fun _ => rfl | exact fun h => (by simp only [if_pos h]; rfl) | exact fun h => (by simp only [h, if_true, if_false]; rfl)) ?_) | (refine dw_max rfl rfl ?_) | (refine dw_min rfl rfl ?_) | (refine dw_p rfl ?_) | (refine dw_l rfl ?_) | (refine dw_lk rfl ?_) | (refine dw_pg rfl (by first | exact fun _ => rfl | exact fun h => (by simp only [if_pos h]; rfl) | exact fun h => (by simp only [h, if_true, if_false]; rfl)) ?_) | (refine dw_lg rfl (by first | exact fun _ => rfl | exact fun h => (by simp only [if_pos h]; rfl) | exact fun h => (by simp only [h, if_true, if_false]; rfl)) ?_) | (refine dw_io0 rfl rfl (by omega) (by omega) ?_) | (refine dw_if0 rfl rfl (by omega) (by decide) (by assumption) ?_) | (refine dw_if rfl rfl (by omega) (by decide) (by assumption) ?_) | (refine dw_l (dload_data rfl rfl (by assumption) rfl) ?_) | (refine dw_lk (dload_data rfl rfl (by assumption) rfl) ?_) | (refine dw_a rfl ?_) | (refine dw_ai rfl rfl rfl ?_) | (refine dw_st rfl rfl rfl rfl rfl (by decide) rfl ?_) | (refine dw_nil ?_) | (refine ds_seq ?_) | (refine ds_ops mix (fun base => ?_)) | (refine ds_skip ?_) | (refine ds_block ?_) | (refine ds_exit ?_))
      refine dw_app rfl rfl rfl (subL_all _ (ptF_len p)) ⟨rfl, rfl, rfl⟩ (by omega) (by omega) (by decide) rfl ?_
      repeat (first | (refine dw_want rfl rfl ?_) | (refine dw_skip rfl rfl ?_) | (refine dw_skipU rfl ?_) | (refine dw_pickT rfl rfl ?_) | (refine dw_pickF rfl rfl ?_) | (refine dw_pick rfl (by first | exact fun _ => rfl | exact fun h => (by simp only [if_pos h]; rfl) | exact fun h => (by simp only [h, if_true, if_false]; rfl)) (by first | exact fun _ => rfl | exact fun h => (by simp only [if_pos h]; rfl) | exact fun h => (by simp only [h, if_true, if_false]; rfl)) ?_) | (refine dw_max rfl rfl ?_) | (refine dw_min rfl rfl ?_) | (refine dw_p rfl ?_) | (refine dw_l rfl ?_) | (refine dw_lk rfl ?_) | (refine dw_pg rfl (by first | exact fun _ => rfl | exact fun h => (by simp only [if_pos h]; rfl) | exact fun h => (by simp only [h, if_true, if_false]; rfl)) ?_) | (refine dw_lg rfl (by first | exact fun _ => rfl | exact fun h => (by simp only [if_pos h]; rfl) | exact fun h => (by simp only [h, if_true, if_false]; rfl)) ?_) | (refine dw_io0 rfl rfl (by omega) (by omega) ?_) | (refine dw_if0 rfl rfl (by omega) (by decide) (by assumption) ?_) | (refine dw_if rfl rfl (by omega) (by decide) (by assumption) ?_) | (refine dw_l (dload_data rfl rfl (by assumption) rfl) ?_) | (refine dw_lk (dload_data rfl rfl (by assumption) rfl) ?_) | (refine dw_a rfl ?_) | (refine dw_ai rfl rfl rfl ?_) | (refine dw_st rfl rfl rfl rfl rfl (by decide) rfl ?_) | (refine dw_nil ?_) | (refine ds_seq ?_) | (refine ds_ops mix (fun base => ?_)) | (refine ds_skip ?_) | (refine ds_block ?_) | (refine ds_exit ?_))
      have hmore := d_distance (a := p ++ r) (b := q) (fun x hx => (List.mem_append.1 hx).elim (sp x) (sr x)) sq (by simp; omega) (by omega)
      rw [ptsD, List.length_append, List.flatMap_append] at hmore
      refine dw_cfo (ds := [.one _, ptsD q]) rfl ⟨⟨_, rfl, _, _, rfl, subL_all _ (by rw [List.length_append, ptF_len, ptF_len]; omega), rfl⟩, ⟨_, rfl, rfl, rfl⟩, trivial⟩ hmore (by rintro _ rfl; rfl) ?_
      rintro _ rfl
      have hcm : ((dist p q == 0) == p.any fun x => decide (x ∈ q)) = true := by
        rw [beq_iff_eq, Bool.eq_iff_iff, beq_iff_eq, dist_zero]
        simp
      iterate 8 (first | (refine dw_want rfl rfl ?_) | (refine dw_skip rfl rfl ?_) | (refine dw_skipU rfl ?_) | (refine dw_pickT rfl rfl ?_) | (refine dw_pickF rfl rfl ?_) | (refine dw_pick rfl (by first | exact fun _ => rfl | exact fun h => (by simp only [if_pos h]; rfl) | exact fun h => (by simp only [h, if_true, if_false]; rfl)) (by first | exact fun _ => rfl | exact fun h => (by simp only [if_pos h]; rfl) | exact fun h => (by simp only [h, if_true, if_false]; rfl)) ?_) | (refine dw_max rfl rfl ?_) | (refine dw_min rfl rfl ?_) | (refine dw_p rfl ?_) | (refine dw_l rfl ?_) | (refine dw_lk rfl ?_) | (refine dw_pg rfl (by first | exact fun _ => rfl | exact fun h => (by simp only [if_pos h]; rfl) | exact fun h => (by simp only [h, if_true, if_false]; rfl)) ?_) | (refine dw_lg rfl (by first | exact fun _ => rfl | exact fun h => (by simp only [if_pos h]; rfl) | exact fun h => (by simp only [h, if_true, if_false]; rfl)) ?_) | (refine dw_io0 rfl rfl (by omega) (by omega) ?_) | (refine dw_if0 rfl rfl (by omega) (by decide) (by assumption) ?_) | (refine dw_if rfl rfl (by omega) (by decide) (by assumption) ?_) | (refine dw_l (dload_data rfl rfl (by assumption) rfl) ?_) | (refine dw_lk (dload_data rfl rfl (by assumption) rfl) ?_) | (refine dw_a rfl ?_) | (refine dw_ai rfl rfl rfl ?_) | (refine dw_st rfl rfl rfl rfl rfl (by decide) rfl ?_) | (refine dw_nil ?_) | (refine ds_seq ?_) | (refine ds_ops mix (fun base => ?_)) | (refine ds_skip ?_) | (refine ds_block ?_) | (refine ds_exit ?_))
      simp only [Bool.false_eq_true, if_false, hcm]
      iterate 5 (first | (refine dw_want rfl rfl ?_) | (refine dw_skip rfl rfl ?_) | (refine dw_skipU rfl ?_) | (refine dw_pickT rfl rfl ?_) | (refine dw_pickF rfl rfl ?_) | (refine dw_pick rfl (by first | exact fun _ => rfl | exact fun h => (by simp only [if_pos h]; rfl) | exact fun h => (by simp only [h, if_true, if_false]; rfl)) (by first | exact fun _ => rfl | exact fun h => (by simp only [if_pos h]; rfl) | exact fun h => (by simp only [h, if_true, if_false]; rfl)) ?_) | (refine dw_max rfl rfl ?_) | (refine dw_min rfl rfl ?_) | (refine dw_p rfl ?_) | (refine dw_l rfl ?_) | (refine dw_lk rfl ?_) | (refine dw_pg rfl (by first | exact fun _ => rfl | exact fun h => (by simp only [if_pos h]; rfl) | exact fun h => (by simp only [h, if_true, if_false]; rfl)) ?_) | (refine dw_lg rfl (by first | exact fun _ => rfl | exact fun h => (by simp only [if_pos h]; rfl) | exact fun h => (by simp only [h, if_true, if_false]; rfl)) ?_) | (refine dw_io0 rfl rfl (by omega) (by omega) ?_) | (refine dw_if0 rfl rfl (by omega) (by decide) (by assumption) ?_) | (refine dw_if rfl rfl (by omega) (by decide) (by assumption) ?_) | (refine dw_l (dload_data rfl rfl (by assumption) rfl) ?_) | (refine dw_lk (dload_data rfl rfl (by assumption) rfl) ?_) | (refine dw_a rfl ?_) | (refine dw_ai rfl rfl rfl ?_) | (refine dw_st rfl rfl rfl rfl rfl (by decide) rfl ?_) | (refine dw_nil ?_) | (refine ds_seq ?_) | (refine ds_ops mix (fun base => ?_)) | (refine ds_skip ?_) | (refine ds_block ?_) | (refine ds_exit ?_))
      by_cases hneg : dist p q < 0
      · rw [decide_eq_true hneg]
        repeat (first | (refine dw_want rfl rfl ?_) | (refine dw_skip rfl rfl ?_) | (refine dw_skipU rfl ?_) | (refine dw_pickT rfl rfl ?_) | (refine dw_pickF rfl rfl ?_) | (refine dw_pick rfl (by first | exact fun _ => rfl | exact fun h => (by simp only [if_pos h]; rfl) | exact fun h => (by simp only [h, if_true, if_false]; rfl)) (by first | exact fun _ => rfl | exact fun h => (by simp only [if_pos h]; rfl) | exact fun h => (by simp only [h, if_true, if_false]; rfl)) ?_) | (refine dw_max rfl rfl ?_) | (refine dw_min rfl rfl ?_) | (refine dw_p rfl ?_) | (refine dw_l rfl ?_) | (refine dw_lk rfl ?_) | (refine dw_pg rfl (by first | exact fun _ => rfl | exact fun h => (by simp only [if_pos h]; rfl) | exact fun h => (by simp only [h, if_true, if_false]; rfl)) ?_) | (refine dw_lg rfl (by first | exact fun _ => rfl | exact fun h => (by simp only [if_pos h]; rfl) | exact fun h => (by simp only [h, if_true, if_false]; rfl)) ?_) | (refine dw_io0 rfl rfl (by omega) (by omega) ?_) | (refine dw_if0 rfl rfl (by omega) (by decide) (by assumption) ?_) | (refine dw_if rfl rfl (by omega) (by decide) (by assumption) ?_) | (refine dw_l (dload_data rfl rfl (by assumption) rfl) ?_) | (refine dw_lk (dload_data rfl rfl (by assumption) rfl) ?_) | (refine dw_a rfl ?_) | (refine dw_ai rfl rfl rfl ?_) | (refine dw_st rfl rfl rfl rfl rfl (by decide) rfl ?_) | (refine dw_nil ?_) | (refine ds_seq ?_) | (refine ds_ops mix (fun base => ?_)) | (refine ds_skip ?_) | (refine ds_block ?_) | (refine ds_exit ?_))
        exact ds_ret ⟨_, rfl, rfl, rfl⟩
      · rw [decide_eq_false hneg]
        rw [dist_neg, not_or] at hneg
        have hm := dist_more (r := r) hneg.1 hneg.2
        iterate 6 (first | (refine dw_want rfl rfl ?_) | (refine dw_skip rfl rfl ?_) | (refine dw_skipU rfl ?_) | (refine dw_pickT rfl rfl ?_) | (refine dw_pickF rfl rfl ?_) | (refine dw_pick rfl (by first | exact fun _ => rfl | exact fun h => (by simp only [if_pos h]; rfl) | exact fun h => (by simp only [h, if_true, if_false]; rfl)) (by first | exact fun _ => rfl | exact fun h => (by simp only [if_pos h]; rfl) | exact fun h => (by simp only [h, if_true, if_false]; rfl)) ?_) | (refine dw_max rfl rfl ?_) | (refine dw_min rfl rfl ?_) | (refine dw_p rfl ?_) | (refine dw_l rfl ?_) | (refine dw_lk rfl ?_) | (refine dw_pg rfl (by first | exact fun _ => rfl | exact fun h => (by simp only [if_pos h]; rfl) | exact fun h => (by simp only [h, if_true, if_false]; rfl)) ?_) | (refine dw_lg rfl (by first | exact fun _ => rfl | exact fun h => (by simp only [if_pos h]; rfl) | exact fun h => (by simp only [h, if_true, if_false]; rfl)) ?_) | (refine dw_io0 rfl rfl (by omega) (by omega) ?_) | (refine dw_if0 rfl rfl (by omega) (by decide) (by assumption) ?_) | (refine dw_if rfl rfl (by omega) (by decide) (by assumption) ?_) | (refine dw_l (dload_data rfl rfl (by assumption) rfl) ?_) | (refine dw_lk (dload_data rfl rfl (by assumption) rfl) ?_) | (refine dw_a rfl ?_) | (refine dw_ai rfl rfl rfl ?_) | (refine dw_st rfl rfl rfl rfl rfl (by decide) rfl ?_) | (refine dw_nil ?_) | (refine ds_seq ?_) | (refine ds_ops mix (fun base => ?_)) | (refine ds_skip ?_) | (refine ds_block ?_) | (refine ds_exit ?_))
        rw [decide_eq_true (p := dist (p ++ r) q ≥ 0) hm.1]
        iterate 8 (first | (refine dw_want rfl rfl ?_) | (refine dw_skip rfl rfl ?_) | (refine dw_skipU rfl ?_) | (refine dw_pickT rfl rfl ?_) | (refine dw_pickF rfl rfl ?_) | (refine dw_pick rfl (by first | exact fun _ => rfl | exact fun h => (by simp only [if_pos h]; rfl) | exact fun h => (by simp only [h, if_true, if_false]; rfl)) (by first | exact fun _ => rfl | exact fun h => (by simp only [if_pos h]; rfl) | exact fun h => (by simp only [h, if_true, if_false]; rfl)) ?_) | (refine dw_max rfl rfl ?_) | (refine dw_min rfl rfl ?_) | (refine dw_p rfl ?_) | (refine dw_l rfl ?_) | (refine dw_lk rfl ?_) | (refine dw_pg rfl (by first | exact fun _ => rfl | exact fun h => (by simp only [if_pos h]; rfl) | exact fun h => (by simp only [h, if_true, if_false]; rfl)) ?_) | (refine dw_lg rfl (by first | exact fun _ => rfl | exact fun h => (by simp only [if_pos h]; rfl) | exact fun h => (by simp only [h, if_true, if_false]; rfl)) ?_) | (refine dw_io0 rfl rfl (by omega) (by omega) ?_) | (refine dw_if0 rfl rfl (by omega) (by decide) (by assumption) ?_) | (refine dw_if rfl rfl (by omega) (by decide) (by assumption) ?_) | (refine dw_l (dload_data rfl rfl (by assumption) rfl) ?_) | (refine dw_lk (dload_data rfl rfl (by assumption) rfl) ?_) | (refine dw_a rfl ?_) | (refine dw_ai rfl rfl rfl ?_) | (refine dw_st rfl rfl rfl rfl rfl (by decide) rfl ?_) | (refine dw_nil ?_) | (refine ds_seq ?_) | (refine ds_ops mix (fun base => ?_)) | (refine ds_skip ?_) | (refine ds_block ?_) | (refine ds_exit ?_))
        rw [decide_eq_true hm.2]
        repeat (first | (refine dw_want rfl rfl ?_) | (refine dw_skip rfl rfl ?_) | (refine dw_skipU rfl ?_) | (refine dw_pickT rfl rfl ?_) | (refine dw_pickF rfl rfl ?_) | (refine dw_pick rfl (by first | exact fun _ => rfl | exact fun h => (by simp only [if_pos h]; rfl) | exact fun h => (by simp only [h, if_true, if_false]; rfl)) (by first | exact fun _ => rfl | exact fun h => (by simp only [if_pos h]; rfl) | exact fun h => (by simp only [h, if_true, if_false]; rfl)) ?_) | (refine dw_max rfl rfl ?_) | (refine dw_min rfl rfl ?_) | (refine dw_p rfl ?_) | (refine dw_l rfl ?_) | (refine dw_lk rfl ?_) | (refine dw_pg rfl (by first | exact fun _ => rfl | exact fun h => (by simp only [if_pos h]; rfl) | exact fun h => (by simp only [h, if_true, if_false]; rfl)) ?_) | (refine dw_lg rfl (by first | exact fun _ => rfl | exact fun h => (by simp only [if_pos h]; rfl) | exact fun h => (by simp only [h, if_true, if_false]; rfl)) ?_) | (refine dw_io0 rfl rfl (by omega) (by omega) ?_) | (refine dw_if0 rfl rfl (by omega) (by decide) (by assumption) ?_) | (refine dw_if rfl rfl (by omega) (by decide) (by assumption) ?_) | (refine dw_l (dload_data rfl rfl (by assumption) rfl) ?_) | (refine dw_lk (dload_data rfl rfl (by assumption) rfl) ?_) | (refine dw_a rfl ?_) | (refine dw_ai rfl rfl rfl ?_) | (refine dw_st rfl rfl rfl rfl rfl (by decide) rfl ?_) | (refine dw_nil ?_) | (refine ds_seq ?_) | (refine ds_ops mix (fun base => ?_)) | (refine ds_skip ?_) | (refine ds_block ?_) | (refine ds_exit ?_))
        exact ds_ret ⟨_, rfl, rfl, rfl⟩
end Go.Ab.Fn
