/- Contracts of functions of the program over the abstract semantics. -/
import Derived.Test.YtejpbhindcglpaaDoorAb7
set_option linter.unusedVariables false
set_option linter.unusedSimpArgs false
namespace Go.Ab.Fn
open Go.Ab Go.Proofs
set_option linter.unusedSimpArgs false

def blank (w h : Nat) : List (List Bool) := List.replicate h (List.replicate w false)
theorem blank_succ (w k : Nat) : blank w (k + 1) = blank w k ++ [List.replicate w false] := by simp [blank, List.replicate_succ']

theorem rnew_ro {H : Hp} {w h : Int} {W K : Nat} (hW : min (max w 0) 200 = W) (hK : min (max h 0) 200 = K) : ACalls Tryd.prog 1 11 [.int w, .int h] H fun v H' => ∃ c, v = .agg [.int .i64 W, .int .i64 K, c] ∧ GOwn H' H.nx H'.nx (blank W K) c := by
  refine pfn_ok cp11 (by simp [f11]) fun hwf => ?_
  refine ps_seq (ps_ops0 mix (pw_a rfl rfl (pw_nil ?_)))
  obtain ⟨hw1, hx, hb⟩ := new_box hwf [.int .i64 0, .int .i64 0, .nils] rfl
  refine ps_seq (ps_ops0 mix ?_)
  unfold f11r1
  repeat (first | (refine pw_pick rfl rfl (by first | exact fun _ => rfl | exact fun h => (by simp only [if_pos h]; rfl) | exact fun h => (by simp only [if_pos h]; assumption)) (by first | exact fun _ => rfl | exact fun h => (by simp only [if_pos h]; rfl) | exact fun h => (by simp only [if_pos h]; assumption)) ?_) | (refine pw_mvt rfl ?_) | (refine pw_max rfl rfl rfl ?_) | (refine pw_min rfl rfl rfl ?_) | (refine pw_mvc ?_) | (refine pw_p rfl rfl ?_) | (refine pw_l1 rfl rfl (by assumption) ?_) | (refine pw_ln rfl rfl (by assumption) ?_) | (refine pw_pg rfl rfl (by first | exact fun _ => rfl | exact fun _ => (by assumption) | exact fun h => (by simp only [if_pos h]; rfl) | exact fun h => (by simp only [if_pos h]; assumption)) ?_) | (refine pw_lg1 rfl rfl (by first | exact fun _ => rfl | exact fun h => (by simp only [if_pos h]; rfl) | exact fun h => (by simp only [if_pos h]; assumption)) (by assumption) ?_) | (refine pw_p rfl (by assumption) ?_))
  rw [hW, hK]
  obtain ⟨hw2, hx2, hb2⟩ := new_box hw1 [.int .i64 0, .int .i64 0, .nils] rfl
  obtain ⟨H3, s1, s2, s3, s4⟩ := hb2.stores (cs := [.int .i64 W, .int .i64 K, .nils]) (i := 0) (by simp)
  refine pw_a rfl rfl (pw_stn rfl rfl rfl rfl s1 trivial (pw_nil (ps_seq (ps_seq (ps_ops0 mix (pw_mvc (pw_nil ?_)))))))
  have hbx := (hb.ext hx2).same (s3 _ (by simp))
  have hn3 : H3.nx = H.nx + 2 := by rw [s4]; simp
  refine ps_block (ps_loop (fun m E H' => ∃ k : Nat, k + m = K ∧ ∃ c, E = [(4, .one (.ptr H.nx 0)), (5, .one (.ptr (H.nx + 1) 0)), (6, .int k)] ∧ H.nx + 2 ≤ H'.nx ∧ Row H' H.nx [.int .i64 0, .int .i64 0, .nils] ∧ Row H' (H.nx + 1) [.int .i64 W, .int .i64 K, c] ∧ GOwn H' (H.nx + 2) H'.nx (blank W k) c) (m := K) ⟨_, (SubE.cons (k := 4) rfl (SubE.cons (k := 5) rfl (SubE.cons (k := 6) rfl (SubE.nil _)))), 0, by omega, .nils, rfl, by omega, hbx, s2, GOwn.nil _ _ _⟩ ?_)
  rintro m E H' hwf' ⟨k, hk, c, rfl, hn, r4, r5, hg⟩
  have c0 := r5.cell (i := 0) rfl
  have c1 := r5.cell (i := 1) rfl
  have c2 := r5.cell (i := 2) rfl
  refine ps_seq (ps_seq (ps_ops0 mix ?_))
  unfold f11r3
  repeat (first | (refine pw_pick rfl rfl (by first | exact fun _ => rfl | exact fun h => (by simp only [if_pos h]; rfl) | exact fun h => (by simp only [if_pos h]; assumption)) (by first | exact fun _ => rfl | exact fun h => (by simp only [if_pos h]; rfl) | exact fun h => (by simp only [if_pos h]; assumption)) ?_) | (refine pw_mvt rfl ?_) | (refine pw_max rfl rfl rfl ?_) | (refine pw_min rfl rfl rfl ?_) | (refine pw_mvc ?_) | (refine pw_p rfl rfl ?_) | (refine pw_l1 rfl rfl (by assumption) ?_) | (refine pw_ln rfl rfl (by assumption) ?_) | (refine pw_pg rfl rfl (by first | exact fun _ => rfl | exact fun _ => (by assumption) | exact fun h => (by simp only [if_pos h]; rfl) | exact fun h => (by simp only [if_pos h]; assumption)) ?_) | (refine pw_lg1 rfl rfl (by first | exact fun _ => rfl | exact fun h => (by simp only [if_pos h]; rfl) | exact fun h => (by simp only [if_pos h]; assumption)) (by assumption) ?_) | (refine pw_p rfl (by assumption) ?_))
  refine pw_nil (ps_if rfl rfl (fun ht2 => ?_) (fun ht2 => ?_))
  · refine ps_skip (ps_seq (ps_block (ps_ops mix ?_)))
    unfold f11r4
    repeat (first | (refine pw_pick rfl rfl (by first | exact fun _ => rfl | exact fun h => (by simp only [if_pos h]; rfl) | exact fun h => (by simp only [if_pos h]; assumption)) (by first | exact fun _ => rfl | exact fun h => (by simp only [if_pos h]; rfl) | exact fun h => (by simp only [if_pos h]; assumption)) ?_) | (refine pw_mvt rfl ?_) | (refine pw_max rfl rfl rfl ?_) | (refine pw_min rfl rfl rfl ?_) | (refine pw_mvc ?_) | (refine pw_p rfl rfl ?_) | (refine pw_l1 rfl rfl (by assumption) ?_) | (refine pw_ln rfl rfl (by assumption) ?_) | (refine pw_pg rfl rfl (by first | exact fun _ => rfl | exact fun _ => (by assumption) | exact fun h => (by simp only [if_pos h]; rfl) | exact fun h => (by simp only [if_pos h]; assumption)) ?_) | (refine pw_lg1 rfl rfl (by first | exact fun _ => rfl | exact fun h => (by simp only [if_pos h]; rfl) | exact fun h => (by simp only [if_pos h]; assumption)) (by assumption) ?_) | (refine pw_p rfl (by assumption) ?_))
    simp at ht2
    have hW' : W ≤ 200 := by omega
    have hK' : K ≤ 200 := by omega
    refine pw_mki rfl rfl rfl (by omega) (by omega) (pw_b1i rfl rfl rfl ?_)
    have g4 : ∀ H2 : Hp, (∀ b, b < H'.nx → H2.get b = H'.get b) → GOwn H2 (H.nx + 2) H'.nx (blank W k) c := fun H2 h2 => hg.same fun b _ hb => h2 b hb
    generalize hH2 : Hp.add (Hp.add (Hp.skip H' 9) _ _) _ _ = H2
    have hold : ∀ b, b < H'.nx → H2.get b = H'.get b := fun b hb => by rw [← hH2, Hp.get_add_ne _ _ (by omega), Hp.get_add_ne _ _ (by omega), Hp.get_skip]
    have hrow : Row H2 (H'.nx + 4) ((List.replicate W false).map .bool) := by
      rw [List.map_replicate]
      refine Row.fill ?_
      rw [← hH2, Hp.get_add_ne _ _ (by omega), Hp.get_add_self, Nat.mul_one]
    have hsrc : H2.loads (H'.nx + 5) 0 (1 * 1) = some [.slc (H'.nx + 4) 0 W W 1 true] := by
      refine loads_row (cs := [.slc (H'.nx + 4) 0 W W 1 true]) (rw := true) ?_
      rw [← hH2, Hp.get_add_self]
    have hn2 : H2.nx = H'.nx + 9 := by rw [← hH2]; simp
    have hw2 : WF H2 := by
      intro b bk hb
      by_cases h1 : b < H'.nx
      · omega
      · rw [← hH2] at hb
        rw [Hp.get_add] at hb
        split at hb
        · omega
        · rw [Hp.get_add] at hb
          split at hb
          · omega
          · rw [Hp.get_skip] at hb
            have := hwf' b bk hb
            omega
    obtain ⟨c', H5, a1, a2, a3, a4, a5⟩ := (g4 H2 hold).snoc hw2 (r := List.replicate W false) hn (by omega) hrow (by simp [blank]; omega)
    rw [List.length_replicate] at a1
    refine pw_app rfl rfl rfl (src_row hsrc) a1 trivial ?_
    have r4' := (r4.same (hold _ (by omega))).same (a3 _ (by omega) (.inl (by omega)))
    have r5' := (r5.same (hold _ (by omega))).same (a3 _ (by omega) (.inl (by omega)))
    obtain ⟨H6, t1, t2, t3, t4⟩ := r5'.store (i := 2) (by simp) c'
    refine pw_p rfl rfl (pw_st1 rfl rfl rfl t1 trivial (pw_nil (ps_ops0 mix ?_)))
    unfold f11r5
    repeat (first | (refine pw_pick rfl rfl (by first | exact fun _ => rfl | exact fun h => (by simp only [if_pos h]; rfl) | exact fun h => (by simp only [if_pos h]; assumption)) (by first | exact fun _ => rfl | exact fun h => (by simp only [if_pos h]; rfl) | exact fun h => (by simp only [if_pos h]; assumption)) ?_) | (refine pw_mvt rfl ?_) | (refine pw_max rfl rfl rfl ?_) | (refine pw_min rfl rfl rfl ?_) | (refine pw_mvc ?_) | (refine pw_p rfl rfl ?_) | (refine pw_l1 rfl rfl (by assumption) ?_) | (refine pw_ln rfl rfl (by assumption) ?_) | (refine pw_pg rfl rfl (by first | exact fun _ => rfl | exact fun _ => (by assumption) | exact fun h => (by simp only [if_pos h]; rfl) | exact fun h => (by simp only [if_pos h]; assumption)) ?_) | (refine pw_lg1 rfl rfl (by first | exact fun _ => rfl | exact fun h => (by simp only [if_pos h]; rfl) | exact fun h => (by simp only [if_pos h]; assumption)) (by assumption) ?_) | (refine pw_p rfl (by assumption) ?_))
    refine pw_nil ⟨m - 1, by omega, _, (SubE.cons (k := 4) rfl (SubE.cons (k := 5) rfl (SubE.cons (k := 6) rfl (SubE.nil _)))), k + 1, by omega, c', ?_, by omega, r4'.same (t3 _ (by omega)), t2, ?_⟩
    · rw [wrap_i64 (by omega) (by omega)]; rfl
    · rw [blank_succ, t4]
      exact a2.same fun b hb _ => t3 b (by omega)
  · simp at ht2
    obtain rfl : k = K := by omega
    obtain ⟨H6, t1, t2, t3, t4⟩ := r4.stores (cs := [.int .i64 W, .int .i64 k, c]) (i := 0) (by simp)
    refine ps_exit (ps_seq (ps_ops0 mix ?_))
    unfold f11r6
    refine pw_ln rfl rfl r5.2 (pw_stn rfl rfl rfl rfl t1 trivial (pw_nil (ps_ret ?_)))
    have hl : H6.loads H.nx 0 3 = some [.int .i64 W, .int .i64 k, c] := t2.2
    refine ⟨.agg [.int .i64 W, .int .i64 k, c], by simp [resultE, resEL, resE, f11, look, setE, aLoad, Opd.ev, hl, isOne], c, rfl, ?_⟩
    rw [t4]
    exact (hg.same fun b hb _ => t3 b (by omega)).lo (by omega)
theorem rnew_ok {H : Hp} {w h : Int} {W K : Nat} (hW : min (max w 0) 200 = W) (hK : min (max h 0) 200 = K) : ACalls Tryd.prog 1 11 [.int w, .int h] H fun v H' => ∃ c, v = .agg [.int .i64 W, .int .i64 K, c] ∧ GOwn H' H.nx H'.nx (blank W K) c ∧ Ext H H' :=
  (ACalls.grow (rnew_ro hW hK)).mono fun v H' ⟨H1, ⟨c, hv, hg⟩, e1, e2, e3, e4, _⟩ => ⟨c, hv, by
    subst e1
    exact (hg.same fun b hb _ => e4 b hb), e3, by subst e1; exact e2⟩
end Go.Ab.Fn

namespace Go.Ab.Fn
open Go.Ab Go.Proofs
set_option linter.unusedSimpArgs false

theorem wrap64 {n : Int} (h1 : -9223372036854775808 ≤ n) (h2 : n < 9223372036854775808) : IntKind.i64.wrap n = n := wrap_i64 h1 h2

/-- the absolute value, in grid -/
theorem abs_ok {H : Hp} {n : Int} (h : -4000000000000000000 < n) (h' : n < 4000000000000000000) : ACalls Tryd.prog 1 55 [.int n] H fun v H' => v = .int (max n (-n)) ∧ H' = H := by
  refine pfn_ok cp55 (by simp [f55]) fun hwf => ?_
  repeat (first | (refine pw_pick rfl rfl (by first | exact fun _ => rfl | exact fun h => (by simp only [if_pos h]; rfl) | exact fun h => (by simp only [if_pos h]; assumption)) (by first | exact fun _ => rfl | exact fun h => (by simp only [if_pos h]; rfl) | exact fun h => (by simp only [if_pos h]; assumption)) ?_) | (refine pw_mvt rfl ?_) | (refine pw_max rfl rfl rfl ?_) | (refine pw_min rfl rfl rfl ?_) | (refine pw_mvc ?_) | (refine pw_p rfl rfl ?_) | (refine pw_l1 rfl rfl (by assumption) ?_) | (refine pw_ln rfl rfl (by assumption) ?_) | (refine pw_lk1 rfl rfl (by assumption) ?_) | (refine pw_lkn rfl rfl (by assumption) ?_) | (refine pw_pg rfl rfl (by first | exact fun _ => rfl | exact fun _ => (by assumption) | exact fun h => (by simp only [if_pos h]; rfl) | exact fun h => (by simp only [if_pos h]; assumption)) ?_) | (refine pw_lg1 rfl rfl (by first | exact fun _ => rfl | exact fun h => (by simp only [if_pos h]; rfl) | exact fun h => (by simp only [if_pos h]; assumption)) (by assumption) ?_) | (refine pw_p rfl (by assumption) ?_) | (refine pw_nil ?_) | (refine ps_seq ?_) | (refine ps_ops0 mix ?_) | (refine ps_skip ?_) | (refine ps_block ?_))
  refine ps_if rfl rfl (fun ht => ?_) (fun ht => ?_)
  · repeat (first | (refine pw_pick rfl rfl (by first | exact fun _ => rfl | exact fun h => (by simp only [if_pos h]; rfl) | exact fun h => (by simp only [if_pos h]; assumption)) (by first | exact fun _ => rfl | exact fun h => (by simp only [if_pos h]; rfl) | exact fun h => (by simp only [if_pos h]; assumption)) ?_) | (refine pw_mvt rfl ?_) | (refine pw_max rfl rfl rfl ?_) | (refine pw_min rfl rfl rfl ?_) | (refine pw_mvc ?_) | (refine pw_p rfl rfl ?_) | (refine pw_l1 rfl rfl (by assumption) ?_) | (refine pw_ln rfl rfl (by assumption) ?_) | (refine pw_lk1 rfl rfl (by assumption) ?_) | (refine pw_lkn rfl rfl (by assumption) ?_) | (refine pw_pg rfl rfl (by first | exact fun _ => rfl | exact fun _ => (by assumption) | exact fun h => (by simp only [if_pos h]; rfl) | exact fun h => (by simp only [if_pos h]; assumption)) ?_) | (refine pw_lg1 rfl rfl (by first | exact fun _ => rfl | exact fun h => (by simp only [if_pos h]; rfl) | exact fun h => (by simp only [if_pos h]; assumption)) (by assumption) ?_) | (refine pw_p rfl (by assumption) ?_) | (refine pw_nil ?_) | (refine ps_seq ?_) | (refine ps_ops0 mix ?_) | (refine ps_skip ?_) | (refine ps_block ?_))
    refine ps_ret ⟨_, rfl, ?_, rfl⟩
    simp at ht
    rw [wrap_i64 (by omega) (by omega)]
    congr 2; omega
  · repeat (first | (refine pw_pick rfl rfl (by first | exact fun _ => rfl | exact fun h => (by simp only [if_pos h]; rfl) | exact fun h => (by simp only [if_pos h]; assumption)) (by first | exact fun _ => rfl | exact fun h => (by simp only [if_pos h]; rfl) | exact fun h => (by simp only [if_pos h]; assumption)) ?_) | (refine pw_mvt rfl ?_) | (refine pw_max rfl rfl rfl ?_) | (refine pw_min rfl rfl rfl ?_) | (refine pw_mvc ?_) | (refine pw_p rfl rfl ?_) | (refine pw_l1 rfl rfl (by assumption) ?_) | (refine pw_ln rfl rfl (by assumption) ?_) | (refine pw_lk1 rfl rfl (by assumption) ?_) | (refine pw_lkn rfl rfl (by assumption) ?_) | (refine pw_pg rfl rfl (by first | exact fun _ => rfl | exact fun _ => (by assumption) | exact fun h => (by simp only [if_pos h]; rfl) | exact fun h => (by simp only [if_pos h]; assumption)) ?_) | (refine pw_lg1 rfl rfl (by first | exact fun _ => rfl | exact fun h => (by simp only [if_pos h]; rfl) | exact fun h => (by simp only [if_pos h]; assumption)) (by assumption) ?_) | (refine pw_p rfl (by assumption) ?_) | (refine pw_nil ?_) | (refine ps_seq ?_) | (refine ps_ops0 mix ?_) | (refine ps_skip ?_) | (refine ps_block ?_))
    refine ps_ret ⟨_, rfl, ?_, rfl⟩
    simp at ht
    congr 2; omega
/-- the absolute value, in the reference -/
theorem rabs_ok {H : Hp} {n : Int} (h : -4000000000000000000 < n) (h' : n < 4000000000000000000) : ACalls Tryd.prog 1 43 [.int n] H fun v H' => v = .int (max n (-n)) ∧ H' = H := by
  refine pfn_ok cp43 (by simp [f43]) fun hwf => ?_
  repeat (first | (refine pw_pick rfl rfl (by first | exact fun _ => rfl | exact fun h => (by simp only [if_pos h]; rfl) | exact fun h => (by simp only [if_pos h]; assumption)) (by first | exact fun _ => rfl | exact fun h => (by simp only [if_pos h]; rfl) | exact fun h => (by simp only [if_pos h]; assumption)) ?_) | (refine pw_mvt rfl ?_) | (refine pw_max rfl rfl rfl ?_) | (refine pw_min rfl rfl rfl ?_) | (refine pw_mvc ?_) | (refine pw_p rfl rfl ?_) | (refine pw_l1 rfl rfl (by assumption) ?_) | (refine pw_ln rfl rfl (by assumption) ?_) | (refine pw_lk1 rfl rfl (by assumption) ?_) | (refine pw_lkn rfl rfl (by assumption) ?_) | (refine pw_pg rfl rfl (by first | exact fun _ => rfl | exact fun _ => (by assumption) | exact fun h => (by simp only [if_pos h]; rfl) | exact fun h => (by simp only [if_pos h]; assumption)) ?_) | (refine pw_lg1 rfl rfl (by first | exact fun _ => rfl | exact fun h => (by simp only [if_pos h]; rfl) | exact fun h => (by simp only [if_pos h]; assumption)) (by assumption) ?_) | (refine pw_p rfl (by assumption) ?_) | (refine pw_nil ?_) | (refine ps_seq ?_) | (refine ps_ops0 mix ?_) | (refine ps_skip ?_) | (refine ps_block ?_))
  refine ps_ret ⟨_, rfl, ?_, rfl⟩
  rw [wrap_i64 (by omega) (by omega)]
  congr 3; omega

def far (p q : Pt) : Int := max (max (p.1 - q.1) (-(p.1 - q.1))) (max (p.2 - q.2) (-(p.2 - q.2)))
def Small (B : Int) (p : Pt) : Prop := -B ≤ p.1 ∧ p.1 ≤ B ∧ -B ≤ p.2 ∧ p.2 ≤ B

theorem apart_ro {H : Hp} {p q : Pt} (hp : Small 1000000000000000000 p) (hq : Small 1000000000000000000 q) : ACalls Tryd.prog 1 41 [ptV p, ptV q] H fun v _ => v = .int (far p q) := by
  obtain ⟨p1, p2, p3, p4⟩ := hp
  obtain ⟨q1, q2, q3, q4⟩ := hq
  refine pfn_ok cp41 (by simp [f41]) fun hwf => ?_
  obtain ⟨hw1, hx1, hb1⟩ := new_box hwf (ptC p) rfl
  obtain ⟨hw2, hx2, hb2⟩ := new_box hw1 (ptC q) rfl
  refine ps_seq (ps_ops0 mix (pw_a rfl rfl (pw_a rfl rfl (pw_mvc (pw_nil ?_)))))
  replace hb1 := hb1.ext hx2
  have c0 := hb1.cell (i := 0) rfl
  have c1 := hb1.cell (i := 1) rfl
  have d0 := hb2.cell (i := 0) rfl
  have d1 := hb2.cell (i := 1) rfl
  generalize ((H.push _).push _) = H2 at *
  refine ps_seq (ps_ops mix ?_)
  repeat (first | (refine pw_pick rfl rfl (by first | exact fun _ => rfl | exact fun h => (by simp only [if_pos h]; rfl) | exact fun h => (by simp only [if_pos h]; assumption)) (by first | exact fun _ => rfl | exact fun h => (by simp only [if_pos h]; rfl) | exact fun h => (by simp only [if_pos h]; assumption)) ?_) | (refine pw_mvt rfl ?_) | (refine pw_max rfl rfl rfl ?_) | (refine pw_min rfl rfl rfl ?_) | (refine pw_mvc ?_) | (refine pw_p rfl rfl ?_) | (refine pw_l1 rfl rfl (by assumption) ?_) | (refine pw_ln rfl rfl (by assumption) ?_) | (refine pw_lk1 rfl rfl (by assumption) ?_) | (refine pw_lkn rfl rfl (by assumption) ?_) | (refine pw_pg rfl rfl (by first | exact fun _ => rfl | exact fun _ => (by assumption) | exact fun h => (by simp only [if_pos h]; rfl) | exact fun h => (by simp only [if_pos h]; assumption)) ?_) | (refine pw_lg1 rfl rfl (by first | exact fun _ => rfl | exact fun h => (by simp only [if_pos h]; rfl) | exact fun h => (by simp only [if_pos h]; assumption)) (by assumption) ?_) | (refine pw_p rfl (by assumption) ?_) | (refine pw_nil ?_) | (refine ps_seq ?_) | (refine ps_ops0 mix ?_) | (refine ps_skip ?_) | (refine ps_block ?_))
  rw [wrap_i64 (n := p.1 - q.1) (by omega) (by omega)]
  rw [wrap_i64 (n := p.2 - q.2) (by omega) (by omega)]
  refine pw_cfp rfl rfl (abs_ok (by omega) (by omega)) (by repeat (first | exact trivial | refine ⟨by assumption, ?_⟩)) (pw_cfp rfl rfl (abs_ok (by omega) (by omega)) (by repeat (first | exact trivial | refine ⟨by assumption, ?_⟩)) ?_)
  repeat (first | (refine pw_pick rfl rfl (by first | exact fun _ => rfl | exact fun h => (by simp only [if_pos h]; rfl) | exact fun h => (by simp only [if_pos h]; assumption)) (by first | exact fun _ => rfl | exact fun h => (by simp only [if_pos h]; rfl) | exact fun h => (by simp only [if_pos h]; assumption)) ?_) | (refine pw_mvt rfl ?_) | (refine pw_max rfl rfl rfl ?_) | (refine pw_min rfl rfl rfl ?_) | (refine pw_mvc ?_) | (refine pw_p rfl rfl ?_) | (refine pw_l1 rfl rfl (by assumption) ?_) | (refine pw_ln rfl rfl (by assumption) ?_) | (refine pw_lk1 rfl rfl (by assumption) ?_) | (refine pw_lkn rfl rfl (by assumption) ?_) | (refine pw_pg rfl rfl (by first | exact fun _ => rfl | exact fun _ => (by assumption) | exact fun h => (by simp only [if_pos h]; rfl) | exact fun h => (by simp only [if_pos h]; assumption)) ?_) | (refine pw_lg1 rfl rfl (by first | exact fun _ => rfl | exact fun h => (by simp only [if_pos h]; rfl) | exact fun h => (by simp only [if_pos h]; assumption)) (by assumption) ?_) | (refine pw_p rfl (by assumption) ?_) | (refine pw_nil ?_) | (refine ps_seq ?_) | (refine ps_ops0 mix ?_) | (refine ps_skip ?_) | (refine ps_block ?_))
  exact ps_ret ⟨_, rfl, rfl⟩
theorem apart_ok {H : Hp} {p q : Pt} (hp : Small 1000000000000000000 p) (hq : Small 1000000000000000000 q) : ACalls Tryd.prog 1 41 [ptV p, ptV q] H fun v H' => v = .int (far p q) ∧ H' = H :=
  (ACalls.pure (apart_ro hp hq) (fun v _ h => by rw [h]; rfl)).mono fun v H' ⟨⟨_, h⟩, e⟩ => ⟨h, e⟩
theorem rfar_ro {H : Hp} {p q : Pt} (hp : Small 1000000000000000000 p) (hq : Small 1000000000000000000 q) : ACalls Tryd.prog 1 15 [ptV p, ptV q] H fun v _ => v = .int (far p q) := by
  obtain ⟨p1, p2, p3, p4⟩ := hp
  obtain ⟨q1, q2, q3, q4⟩ := hq
  refine pfn_ok cp15 (by simp [f15]) fun hwf => ?_
  obtain ⟨hw1, hx1, hb1⟩ := new_box hwf (ptC p) rfl
  obtain ⟨hw2, hx2, hb2⟩ := new_box hw1 (ptC q) rfl
  refine ps_seq (ps_ops0 mix (pw_a rfl rfl (pw_a rfl rfl (pw_mvc (pw_nil ?_)))))
  replace hb1 := hb1.ext hx2
  have c0 := hb1.cell (i := 0) rfl
  have c1 := hb1.cell (i := 1) rfl
  have d0 := hb2.cell (i := 0) rfl
  have d1 := hb2.cell (i := 1) rfl
  generalize ((H.push _).push _) = H2 at *
  refine ps_seq (ps_ops mix ?_)
  repeat (first | (refine pw_pick rfl rfl (by first | exact fun _ => rfl | exact fun h => (by simp only [if_pos h]; rfl) | exact fun h => (by simp only [if_pos h]; assumption)) (by first | exact fun _ => rfl | exact fun h => (by simp only [if_pos h]; rfl) | exact fun h => (by simp only [if_pos h]; assumption)) ?_) | (refine pw_mvt rfl ?_) | (refine pw_max rfl rfl rfl ?_) | (refine pw_min rfl rfl rfl ?_) | (refine pw_mvc ?_) | (refine pw_p rfl rfl ?_) | (refine pw_l1 rfl rfl (by assumption) ?_) | (refine pw_ln rfl rfl (by assumption) ?_) | (refine pw_lk1 rfl rfl (by assumption) ?_) | (refine pw_lkn rfl rfl (by assumption) ?_) | (refine pw_pg rfl rfl (by first | exact fun _ => rfl | exact fun _ => (by assumption) | exact fun h => (by simp only [if_pos h]; rfl) | exact fun h => (by simp only [if_pos h]; assumption)) ?_) | (refine pw_lg1 rfl rfl (by first | exact fun _ => rfl | exact fun h => (by simp only [if_pos h]; rfl) | exact fun h => (by simp only [if_pos h]; assumption)) (by assumption) ?_) | (refine pw_p rfl (by assumption) ?_) | (refine pw_nil ?_) | (refine ps_seq ?_) | (refine ps_ops0 mix ?_) | (refine ps_skip ?_) | (refine ps_block ?_))
  rw [wrap_i64 (n := p.1 - q.1) (by omega) (by omega)]
  rw [wrap_i64 (n := p.2 - q.2) (by omega) (by omega)]
  refine pw_cfp rfl rfl (rabs_ok (by omega) (by omega)) (by repeat (first | exact trivial | refine ⟨by assumption, ?_⟩)) (pw_cfp rfl rfl (rabs_ok (by omega) (by omega)) (by repeat (first | exact trivial | refine ⟨by assumption, ?_⟩)) ?_)
  repeat (first | (refine pw_pick rfl rfl (by first | exact fun _ => rfl | exact fun h => (by simp only [if_pos h]; rfl) | exact fun h => (by simp only [if_pos h]; assumption)) (by first | exact fun _ => rfl | exact fun h => (by simp only [if_pos h]; rfl) | exact fun h => (by simp only [if_pos h]; assumption)) ?_) | (refine pw_mvt rfl ?_) | (refine pw_max rfl rfl rfl ?_) | (refine pw_min rfl rfl rfl ?_) | (refine pw_mvc ?_) | (refine pw_p rfl rfl ?_) | (refine pw_l1 rfl rfl (by assumption) ?_) | (refine pw_ln rfl rfl (by assumption) ?_) | (refine pw_lk1 rfl rfl (by assumption) ?_) | (refine pw_lkn rfl rfl (by assumption) ?_) | (refine pw_pg rfl rfl (by first | exact fun _ => rfl | exact fun _ => (by assumption) | exact fun h => (by simp only [if_pos h]; rfl) | exact fun h => (by simp only [if_pos h]; assumption)) ?_) | (refine pw_lg1 rfl rfl (by first | exact fun _ => rfl | exact fun h => (by simp only [if_pos h]; rfl) | exact fun h => (by simp only [if_pos h]; assumption)) (by assumption) ?_) | (refine pw_p rfl (by assumption) ?_) | (refine pw_nil ?_) | (refine ps_seq ?_) | (refine ps_ops0 mix ?_) | (refine ps_skip ?_) | (refine ps_block ?_))
  exact ps_ret ⟨_, rfl, rfl⟩
theorem rfar_ok {H : Hp} {p q : Pt} (hp : Small 1000000000000000000 p) (hq : Small 1000000000000000000 q) : ACalls Tryd.prog 1 15 [ptV p, ptV q] H fun v H' => v = .int (far p q) ∧ H' = H :=
  (ACalls.pure (rfar_ro hp hq) (fun v _ h => by rw [h]; rfl)).mono fun v H' ⟨⟨_, h⟩, e⟩ => ⟨h, e⟩

theorem tdiv_tmod {a b : Int} (hb : 0 < b) : (if a.tmod b < 0 then a.tdiv b - 1 else a.tdiv b) = a / b := by
  have h1 := Int.tmod_add_mul_tdiv a b
  have h2 := tmod_bd a hb
  have h3 := Int.emod_add_mul_ediv a b
  have h4 := Int.emod_nonneg a (by omega : b ≠ 0)
  have h5 := Int.emod_lt_of_pos a hb
  split
  · rename_i h
    have key : b * (a.tdiv b - 1 - a / b) = a % b - a.tmod b - b := by
      rw [Int.mul_sub, Int.mul_sub]; omega
    have : a.tdiv b - 1 - a / b = 0 := by
      by_cases hc : a.tdiv b - 1 - a / b = 0
      · exact hc
      · exfalso
        rcases Int.lt_or_gt_of_ne hc with hlt | hgt
        · have : b * (a.tdiv b - 1 - a / b) ≤ b * (-1) := Int.mul_le_mul_of_nonneg_left (by omega) (by omega)
          omega
        · have : b * 1 ≤ b * (a.tdiv b - 1 - a / b) := Int.mul_le_mul_of_nonneg_left (by omega) (by omega)
          omega
    omega
  · rename_i h
    have key : b * (a.tdiv b - a / b) = a % b - a.tmod b := by
      rw [Int.mul_sub]; omega
    have : a.tdiv b - a / b = 0 := by
      by_cases hc : a.tdiv b - a / b = 0
      · exact hc
      · exfalso
        rcases Int.lt_or_gt_of_ne hc with hlt | hgt
        · have : b * (a.tdiv b - a / b) ≤ b * (-1) := Int.mul_le_mul_of_nonneg_left (by omega) (by omega)
          omega
        · have : b * 1 ≤ b * (a.tdiv b - a / b) := Int.mul_le_mul_of_nonneg_left (by omega) (by omega)
          omega
    omega

/-- floor in the reference -/
theorem tdiv_bd {a b : Int} (h1 : -1000000000000000000 < a) (h2 : a < 1000000000000000000) : -1000000000000000000 < a.tdiv b ∧ a.tdiv b < 1000000000000000000 := by
  have h : (a.tdiv b).natAbs = a.natAbs / b.natAbs := Int.natAbs_tdiv a b
  have h3 : a.natAbs / b.natAbs ≤ a.natAbs := Nat.div_le_self _ _
  rw [← h] at h3
  omega
theorem rfloor_ok {H : Hp} {a b : Int} (hb : 0 < b) (h1 : -1000000000000000000 < a) (h2 : a < 1000000000000000000) : ACalls Tryd.prog 1 44 [.int a, .int b] H fun v H' => v = .int (a / b) ∧ H' = H := by
  have hd := tdiv_bd (b := b) h1 h2
  have hf := tdiv_tmod (a := a) hb
  refine pfn_ok cp44 (by simp [f44]) fun hwf => ?_
  repeat (first | (refine pw_pick rfl rfl (by first | exact fun _ => rfl | exact fun h => (by simp only [if_pos h]; rfl) | exact fun h => (by simp only [if_pos h]; assumption)) (by first | exact fun _ => rfl | exact fun h => (by simp only [if_pos h]; rfl) | exact fun h => (by simp only [if_pos h]; assumption)) ?_) | (refine pw_mvt rfl ?_) | (refine pw_max rfl rfl rfl ?_) | (refine pw_min rfl rfl rfl ?_) | (refine pw_mvc ?_) | (refine pw_p rfl rfl ?_) | (refine pw_l1 rfl rfl (by assumption) ?_) | (refine pw_ln rfl rfl (by assumption) ?_) | (refine pw_lk1 rfl rfl (by assumption) ?_) | (refine pw_lkn rfl rfl (by assumption) ?_) | (refine pw_pg rfl rfl (by first | exact fun _ => rfl | exact fun _ => (by assumption) | exact fun h => (by simp only [if_pos h]; rfl) | exact fun h => (by simp only [if_pos h]; assumption)) ?_) | (refine pw_lg1 rfl rfl (by first | exact fun _ => rfl | exact fun h => (by simp only [if_pos h]; rfl) | exact fun h => (by simp only [if_pos h]; assumption)) (by assumption) ?_) | (refine pw_p rfl (by assumption) ?_) | (refine pw_nil ?_) | (refine ps_seq ?_) | (refine ps_ops0 mix ?_) | (refine ps_skip ?_) | (refine ps_block ?_))
  refine pw_quo rfl rfl rfl (by omega) ?_
  rw [wrap_i64 (n := a.tdiv b) (by omega) (by omega)]
  repeat (first | (refine pw_pick rfl rfl (by first | exact fun _ => rfl | exact fun h => (by simp only [if_pos h]; rfl) | exact fun h => (by simp only [if_pos h]; assumption)) (by first | exact fun _ => rfl | exact fun h => (by simp only [if_pos h]; rfl) | exact fun h => (by simp only [if_pos h]; assumption)) ?_) | (refine pw_mvt rfl ?_) | (refine pw_max rfl rfl rfl ?_) | (refine pw_min rfl rfl rfl ?_) | (refine pw_mvc ?_) | (refine pw_p rfl rfl ?_) | (refine pw_l1 rfl rfl (by assumption) ?_) | (refine pw_ln rfl rfl (by assumption) ?_) | (refine pw_lk1 rfl rfl (by assumption) ?_) | (refine pw_lkn rfl rfl (by assumption) ?_) | (refine pw_pg rfl rfl (by first | exact fun _ => rfl | exact fun _ => (by assumption) | exact fun h => (by simp only [if_pos h]; rfl) | exact fun h => (by simp only [if_pos h]; assumption)) ?_) | (refine pw_lg1 rfl rfl (by first | exact fun _ => rfl | exact fun h => (by simp only [if_pos h]; rfl) | exact fun h => (by simp only [if_pos h]; assumption)) (by assumption) ?_) | (refine pw_p rfl (by assumption) ?_) | (refine pw_nil ?_) | (refine ps_seq ?_) | (refine ps_ops0 mix ?_) | (refine ps_skip ?_) | (refine ps_block ?_))
  refine pw_rem rfl rfl rfl (by omega) ?_
  repeat (first | (refine pw_pick rfl rfl (by first | exact fun _ => rfl | exact fun h => (by simp only [if_pos h]; rfl) | exact fun h => (by simp only [if_pos h]; assumption)) (by first | exact fun _ => rfl | exact fun h => (by simp only [if_pos h]; rfl) | exact fun h => (by simp only [if_pos h]; assumption)) ?_) | (refine pw_mvt rfl ?_) | (refine pw_max rfl rfl rfl ?_) | (refine pw_min rfl rfl rfl ?_) | (refine pw_mvc ?_) | (refine pw_p rfl rfl ?_) | (refine pw_l1 rfl rfl (by assumption) ?_) | (refine pw_ln rfl rfl (by assumption) ?_) | (refine pw_lk1 rfl rfl (by assumption) ?_) | (refine pw_lkn rfl rfl (by assumption) ?_) | (refine pw_pg rfl rfl (by first | exact fun _ => rfl | exact fun _ => (by assumption) | exact fun h => (by simp only [if_pos h]; rfl) | exact fun h => (by simp only [if_pos h]; assumption)) ?_) | (refine pw_lg1 rfl rfl (by first | exact fun _ => rfl | exact fun h => (by simp only [if_pos h]; rfl) | exact fun h => (by simp only [if_pos h]; assumption)) (by assumption) ?_) | (refine pw_p rfl (by assumption) ?_) | (refine pw_nil ?_) | (refine ps_seq ?_) | (refine ps_ops0 mix ?_) | (refine ps_skip ?_) | (refine ps_block ?_))
  refine ps_if rfl rfl (fun ht => ?_) (fun ht => ?_)
  · repeat (first | (refine pw_pick rfl rfl (by first | exact fun _ => rfl | exact fun h => (by simp only [if_pos h]; rfl) | exact fun h => (by simp only [if_pos h]; assumption)) (by first | exact fun _ => rfl | exact fun h => (by simp only [if_pos h]; rfl) | exact fun h => (by simp only [if_pos h]; assumption)) ?_) | (refine pw_mvt rfl ?_) | (refine pw_max rfl rfl rfl ?_) | (refine pw_min rfl rfl rfl ?_) | (refine pw_mvc ?_) | (refine pw_p rfl rfl ?_) | (refine pw_l1 rfl rfl (by assumption) ?_) | (refine pw_ln rfl rfl (by assumption) ?_) | (refine pw_lk1 rfl rfl (by assumption) ?_) | (refine pw_lkn rfl rfl (by assumption) ?_) | (refine pw_pg rfl rfl (by first | exact fun _ => rfl | exact fun _ => (by assumption) | exact fun h => (by simp only [if_pos h]; rfl) | exact fun h => (by simp only [if_pos h]; assumption)) ?_) | (refine pw_lg1 rfl rfl (by first | exact fun _ => rfl | exact fun h => (by simp only [if_pos h]; rfl) | exact fun h => (by simp only [if_pos h]; assumption)) (by assumption) ?_) | (refine pw_p rfl (by assumption) ?_) | (refine pw_nil ?_) | (refine ps_seq ?_) | (refine ps_ops0 mix ?_) | (refine ps_skip ?_) | (refine ps_block ?_))
    simp at ht
    rw [if_pos ht] at hf
    refine ps_ret ⟨_, rfl, ?_, rfl⟩
    rw [wrap_i64 (by omega) (by omega), hf]
  · repeat (first | (refine pw_pick rfl rfl (by first | exact fun _ => rfl | exact fun h => (by simp only [if_pos h]; rfl) | exact fun h => (by simp only [if_pos h]; assumption)) (by first | exact fun _ => rfl | exact fun h => (by simp only [if_pos h]; rfl) | exact fun h => (by simp only [if_pos h]; assumption)) ?_) | (refine pw_mvt rfl ?_) | (refine pw_max rfl rfl rfl ?_) | (refine pw_min rfl rfl rfl ?_) | (refine pw_mvc ?_) | (refine pw_p rfl rfl ?_) | (refine pw_l1 rfl rfl (by assumption) ?_) | (refine pw_ln rfl rfl (by assumption) ?_) | (refine pw_lk1 rfl rfl (by assumption) ?_) | (refine pw_lkn rfl rfl (by assumption) ?_) | (refine pw_pg rfl rfl (by first | exact fun _ => rfl | exact fun _ => (by assumption) | exact fun h => (by simp only [if_pos h]; rfl) | exact fun h => (by simp only [if_pos h]; assumption)) ?_) | (refine pw_lg1 rfl rfl (by first | exact fun _ => rfl | exact fun h => (by simp only [if_pos h]; rfl) | exact fun h => (by simp only [if_pos h]; assumption)) (by assumption) ?_) | (refine pw_p rfl (by assumption) ?_) | (refine pw_nil ?_) | (refine ps_seq ?_) | (refine ps_ops0 mix ?_) | (refine ps_skip ?_) | (refine ps_block ?_))
    simp at ht
    rw [if_neg (by omega)] at hf
    exact ps_ret ⟨_, rfl, by rw [hf], rfl⟩

/-- the coordinate k of n of the way from a to b -/
def betw (a b k n : Int) : Int := (2 * (a * n + k * (b - a)) + n) / (2 * n)
theorem mul_bd {a b A B : Int} (h1 : -A ≤ a) (h2 : a ≤ A) (h3 : -B ≤ b) (h4 : b ≤ B) : -(A * B) ≤ a * b ∧ a * b ≤ A * B := by
  have hA : 0 ≤ A := by omega
  have hB : 0 ≤ B := by omega
  have : (a * b).natAbs ≤ (A * B).natAbs := by
    rw [Int.natAbs_mul, Int.natAbs_mul]
    exact Nat.mul_le_mul (by omega) (by omega)
  have hp : 0 ≤ A * B := Int.mul_nonneg hA hB
  omega
theorem between_ok {H : Hp} {a b k n : Int} (ha : -1000000 ≤ a) (ha' : a ≤ 1000000) (hb : -1000000 ≤ b) (hb' : b ≤ 1000000) (hk : 0 ≤ k) (hk' : k ≤ 1000000) (hn : 0 < n) (hn' : n ≤ 1000000) : ACalls Tryd.prog 1 42 [.int a, .int b, .int k, .int n] H fun v H' => v = .int (betw a b k n) ∧ H' = H := by
  have m1 := mul_bd (a := a) (b := n) (A := 1000000) (B := 1000000) (by omega) (by omega) (by omega) (by omega)
  have m2 := mul_bd (a := k) (b := b - a) (A := 1000000) (B := 2000000) (by omega) (by omega) (by omega) (by omega)
  have hd := tdiv_bd (a := 2 * (a * n + k * (b - a)) + n) (b := 2 * n) (by omega) (by omega)
  have hf := tdiv_tmod (a := 2 * (a * n + k * (b - a)) + n) (b := 2 * n) (by omega)
  refine pfn_ok cp42 (by simp [f42]) fun hwf => ?_
  repeat (first | (refine pw_pick rfl rfl (by first | exact fun _ => rfl | exact fun h => (by simp only [if_pos h]; rfl) | exact fun h => (by simp only [if_pos h]; assumption)) (by first | exact fun _ => rfl | exact fun h => (by simp only [if_pos h]; rfl) | exact fun h => (by simp only [if_pos h]; assumption)) ?_) | (refine pw_mvt rfl ?_) | (refine pw_max rfl rfl rfl ?_) | (refine pw_min rfl rfl rfl ?_) | (refine pw_mvc ?_) | (refine pw_p rfl rfl ?_) | (refine pw_l1 rfl rfl (by assumption) ?_) | (refine pw_ln rfl rfl (by assumption) ?_) | (refine pw_lk1 rfl rfl (by assumption) ?_) | (refine pw_lkn rfl rfl (by assumption) ?_) | (refine pw_pg rfl rfl (by first | exact fun _ => rfl | exact fun _ => (by assumption) | exact fun h => (by simp only [if_pos h]; rfl) | exact fun h => (by simp only [if_pos h]; assumption)) ?_) | (refine pw_lg1 rfl rfl (by first | exact fun _ => rfl | exact fun h => (by simp only [if_pos h]; rfl) | exact fun h => (by simp only [if_pos h]; assumption)) (by assumption) ?_) | (refine pw_p rfl (by assumption) ?_) | (refine pw_nil ?_) | (refine ps_seq ?_) | (refine ps_ops0 mix ?_) | (refine ps_skip ?_) | (refine ps_block ?_))
  rw [wrap_i64 (n := a * n) (by omega) (by omega), wrap_i64 (n := b - a) (by omega) (by omega), wrap_i64 (n := k * (b - a)) (by omega) (by omega), wrap_i64 (n := a * n + k * (b - a)) (by omega) (by omega), wrap_i64 (n := 2 * (a * n + k * (b - a))) (by omega) (by omega), wrap_i64 (n := 2 * (a * n + k * (b - a)) + n) (by omega) (by omega), wrap_i64 (n := 2 * n) (by omega) (by omega)]
  have hbt : betw a b k n = (2 * (a * n + k * (b - a)) + n) / (2 * n) := rfl
  rw [hbt]
  clear hbt
  generalize 2 * (a * n + k * (b - a)) + n = N at *
  refine pw_quo rfl rfl rfl (by omega) ?_
  rw [wrap_i64 (n := N.tdiv (2 * n)) (by omega) (by omega)]
  repeat (first | (refine pw_pick rfl rfl (by first | exact fun _ => rfl | exact fun h => (by simp only [if_pos h]; rfl) | exact fun h => (by simp only [if_pos h]; assumption)) (by first | exact fun _ => rfl | exact fun h => (by simp only [if_pos h]; rfl) | exact fun h => (by simp only [if_pos h]; assumption)) ?_) | (refine pw_mvt rfl ?_) | (refine pw_max rfl rfl rfl ?_) | (refine pw_min rfl rfl rfl ?_) | (refine pw_mvc ?_) | (refine pw_p rfl rfl ?_) | (refine pw_l1 rfl rfl (by assumption) ?_) | (refine pw_ln rfl rfl (by assumption) ?_) | (refine pw_lk1 rfl rfl (by assumption) ?_) | (refine pw_lkn rfl rfl (by assumption) ?_) | (refine pw_pg rfl rfl (by first | exact fun _ => rfl | exact fun _ => (by assumption) | exact fun h => (by simp only [if_pos h]; rfl) | exact fun h => (by simp only [if_pos h]; assumption)) ?_) | (refine pw_lg1 rfl rfl (by first | exact fun _ => rfl | exact fun h => (by simp only [if_pos h]; rfl) | exact fun h => (by simp only [if_pos h]; assumption)) (by assumption) ?_) | (refine pw_p rfl (by assumption) ?_) | (refine pw_nil ?_) | (refine ps_seq ?_) | (refine ps_ops0 mix ?_) | (refine ps_skip ?_) | (refine ps_block ?_))
  rw [wrap_i64 (n := 2 * n) (by omega) (by omega)]
  refine pw_rem rfl rfl rfl (by omega) ?_
  repeat (first | (refine pw_pick rfl rfl (by first | exact fun _ => rfl | exact fun h => (by simp only [if_pos h]; rfl) | exact fun h => (by simp only [if_pos h]; assumption)) (by first | exact fun _ => rfl | exact fun h => (by simp only [if_pos h]; rfl) | exact fun h => (by simp only [if_pos h]; assumption)) ?_) | (refine pw_mvt rfl ?_) | (refine pw_max rfl rfl rfl ?_) | (refine pw_min rfl rfl rfl ?_) | (refine pw_mvc ?_) | (refine pw_p rfl rfl ?_) | (refine pw_l1 rfl rfl (by assumption) ?_) | (refine pw_ln rfl rfl (by assumption) ?_) | (refine pw_lk1 rfl rfl (by assumption) ?_) | (refine pw_lkn rfl rfl (by assumption) ?_) | (refine pw_pg rfl rfl (by first | exact fun _ => rfl | exact fun _ => (by assumption) | exact fun h => (by simp only [if_pos h]; rfl) | exact fun h => (by simp only [if_pos h]; assumption)) ?_) | (refine pw_lg1 rfl rfl (by first | exact fun _ => rfl | exact fun h => (by simp only [if_pos h]; rfl) | exact fun h => (by simp only [if_pos h]; assumption)) (by assumption) ?_) | (refine pw_p rfl (by assumption) ?_) | (refine pw_nil ?_) | (refine ps_seq ?_) | (refine ps_ops0 mix ?_) | (refine ps_skip ?_) | (refine ps_block ?_))
  refine ps_if rfl rfl (fun ht => ?_) (fun ht => ?_)
  · repeat (first | (refine pw_pick rfl rfl (by first | exact fun _ => rfl | exact fun h => (by simp only [if_pos h]; rfl) | exact fun h => (by simp only [if_pos h]; assumption)) (by first | exact fun _ => rfl | exact fun h => (by simp only [if_pos h]; rfl) | exact fun h => (by simp only [if_pos h]; assumption)) ?_) | (refine pw_mvt rfl ?_) | (refine pw_max rfl rfl rfl ?_) | (refine pw_min rfl rfl rfl ?_) | (refine pw_mvc ?_) | (refine pw_p rfl rfl ?_) | (refine pw_l1 rfl rfl (by assumption) ?_) | (refine pw_ln rfl rfl (by assumption) ?_) | (refine pw_lk1 rfl rfl (by assumption) ?_) | (refine pw_lkn rfl rfl (by assumption) ?_) | (refine pw_pg rfl rfl (by first | exact fun _ => rfl | exact fun _ => (by assumption) | exact fun h => (by simp only [if_pos h]; rfl) | exact fun h => (by simp only [if_pos h]; assumption)) ?_) | (refine pw_lg1 rfl rfl (by first | exact fun _ => rfl | exact fun h => (by simp only [if_pos h]; rfl) | exact fun h => (by simp only [if_pos h]; assumption)) (by assumption) ?_) | (refine pw_p rfl (by assumption) ?_) | (refine pw_nil ?_) | (refine ps_seq ?_) | (refine ps_ops0 mix ?_) | (refine ps_skip ?_) | (refine ps_block ?_))
    simp at ht
    rw [if_pos ht] at hf
    refine ps_ret ⟨_, rfl, ?_, rfl⟩
    rw [wrap_i64 (by omega) (by omega), hf]
  · repeat (first | (refine pw_pick rfl rfl (by first | exact fun _ => rfl | exact fun h => (by simp only [if_pos h]; rfl) | exact fun h => (by simp only [if_pos h]; assumption)) (by first | exact fun _ => rfl | exact fun h => (by simp only [if_pos h]; rfl) | exact fun h => (by simp only [if_pos h]; assumption)) ?_) | (refine pw_mvt rfl ?_) | (refine pw_max rfl rfl rfl ?_) | (refine pw_min rfl rfl rfl ?_) | (refine pw_mvc ?_) | (refine pw_p rfl rfl ?_) | (refine pw_l1 rfl rfl (by assumption) ?_) | (refine pw_ln rfl rfl (by assumption) ?_) | (refine pw_lk1 rfl rfl (by assumption) ?_) | (refine pw_lkn rfl rfl (by assumption) ?_) | (refine pw_pg rfl rfl (by first | exact fun _ => rfl | exact fun _ => (by assumption) | exact fun h => (by simp only [if_pos h]; rfl) | exact fun h => (by simp only [if_pos h]; assumption)) ?_) | (refine pw_lg1 rfl rfl (by first | exact fun _ => rfl | exact fun h => (by simp only [if_pos h]; rfl) | exact fun h => (by simp only [if_pos h]; assumption)) (by assumption) ?_) | (refine pw_p rfl (by assumption) ?_) | (refine pw_nil ?_) | (refine ps_seq ?_) | (refine ps_ops0 mix ?_) | (refine ps_skip ?_) | (refine ps_block ?_))
    simp at ht
    rw [if_neg (by omega)] at hf
    exact ps_ret ⟨_, rfl, by rw [hf], rfl⟩

def nearB (l : List Pt) : Bool := l.all fun p => decide (-1000 ≤ p.1) && decide (p.1 ≤ 1000) && decide (-1000 ≤ p.2) && decide (p.2 ≤ 1000)
theorem near_ro {H : Hp} {l : List Pt} {v : V} (hl : Pts H l v) (hn : l.length < 1000000000000) : ACalls Tryd.prog 1 40 [v] H fun v _ => v = .bool (nearB l) := by
  refine pfn_ok cp40 (by simp [f40]) fun hwf => ?_
  have hlen := hl.len
  repeat (first | (refine pw_pick rfl rfl (by first | exact fun _ => rfl | exact fun h => (by simp only [if_pos h]; rfl) | exact fun h => (by simp only [if_pos h]; assumption)) (by first | exact fun _ => rfl | exact fun h => (by simp only [if_pos h]; rfl) | exact fun h => (by simp only [if_pos h]; assumption)) ?_) | (refine pw_mvt rfl ?_) | (refine pw_max rfl rfl rfl ?_) | (refine pw_min rfl rfl rfl ?_) | (refine pw_mvc ?_) | (refine pw_p rfl rfl ?_) | (refine pw_l1 rfl rfl (by assumption) ?_) | (refine pw_ln rfl rfl (by assumption) ?_) | (refine pw_lk1 rfl rfl (by assumption) ?_) | (refine pw_lkn rfl rfl (by assumption) ?_) | (refine pw_pg rfl rfl (by first | exact fun _ => rfl | exact fun _ => (by assumption) | exact fun h => (by simp only [if_pos h]; rfl) | exact fun h => (by simp only [if_pos h]; assumption)) ?_) | (refine pw_lg1 rfl rfl (by first | exact fun _ => rfl | exact fun h => (by simp only [if_pos h]; rfl) | exact fun h => (by simp only [if_pos h]; assumption)) (by assumption) ?_) | (refine pw_p rfl (by assumption) ?_) | (refine pw_nil ?_) | (refine ps_seq ?_) | (refine ps_ops0 mix ?_) | (refine ps_skip ?_) | (refine ps_block ?_))
  refine ps_loop (fun m E H' => Pts H' l v ∧ ∃ k : Nat, k + m = l.length ∧ E = [(5, v), (6, .int l.length), (7, .int k)] ∧ nearB (l.take k) = true) (m := l.length) ⟨_, (SubE.cons (k := 5) rfl (SubE.cons (k := 6) rfl (SubE.cons (k := 7) rfl (SubE.nil _)))), hl, 0, by omega, rfl, rfl⟩ ?_
  rintro m E H' hwf' ⟨hl', k, hk, rfl, hno⟩
  repeat (first | (refine pw_pick rfl rfl (by first | exact fun _ => rfl | exact fun h => (by simp only [if_pos h]; rfl) | exact fun h => (by simp only [if_pos h]; assumption)) (by first | exact fun _ => rfl | exact fun h => (by simp only [if_pos h]; rfl) | exact fun h => (by simp only [if_pos h]; assumption)) ?_) | (refine pw_mvt rfl ?_) | (refine pw_max rfl rfl rfl ?_) | (refine pw_min rfl rfl rfl ?_) | (refine pw_mvc ?_) | (refine pw_p rfl rfl ?_) | (refine pw_l1 rfl rfl (by assumption) ?_) | (refine pw_ln rfl rfl (by assumption) ?_) | (refine pw_lk1 rfl rfl (by assumption) ?_) | (refine pw_lkn rfl rfl (by assumption) ?_) | (refine pw_pg rfl rfl (by first | exact fun _ => rfl | exact fun _ => (by assumption) | exact fun h => (by simp only [if_pos h]; rfl) | exact fun h => (by simp only [if_pos h]; assumption)) ?_) | (refine pw_lg1 rfl rfl (by first | exact fun _ => rfl | exact fun h => (by simp only [if_pos h]; rfl) | exact fun h => (by simp only [if_pos h]; assumption)) (by assumption) ?_) | (refine pw_p rfl (by assumption) ?_) | (refine pw_nil ?_) | (refine ps_seq ?_) | (refine ps_ops0 mix ?_) | (refine ps_skip ?_) | (refine ps_block ?_))
  refine ps_if rfl rfl (fun ht => ?_) (fun ht => ?_)
  · simp at ht
    obtain ⟨p, hp⟩ : ∃ p, l[k]? = some p := ⟨_, List.getElem?_eq_getElem (by omega)⟩
    obtain ⟨b, o, e1, e2⟩ := hl'.at hp .i64
    obtain ⟨H3, s1, hw3, hx3, hb3, hn3⟩ := new_var hwf' [.int .i64 0, .int .i64 0] (ptC p) rfl
    repeat (first | (refine pw_pick rfl rfl (by first | exact fun _ => rfl | exact fun h => (by simp only [if_pos h]; rfl) | exact fun h => (by simp only [if_pos h]; assumption)) (by first | exact fun _ => rfl | exact fun h => (by simp only [if_pos h]; rfl) | exact fun h => (by simp only [if_pos h]; assumption)) ?_) | (refine pw_mvt rfl ?_) | (refine pw_max rfl rfl rfl ?_) | (refine pw_min rfl rfl rfl ?_) | (refine pw_mvc ?_) | (refine pw_p rfl rfl ?_) | (refine pw_l1 rfl rfl (by assumption) ?_) | (refine pw_ln rfl rfl (by assumption) ?_) | (refine pw_lk1 rfl rfl (by assumption) ?_) | (refine pw_lkn rfl rfl (by assumption) ?_) | (refine pw_pg rfl rfl (by first | exact fun _ => rfl | exact fun _ => (by assumption) | exact fun h => (by simp only [if_pos h]; rfl) | exact fun h => (by simp only [if_pos h]; assumption)) ?_) | (refine pw_lg1 rfl rfl (by first | exact fun _ => rfl | exact fun h => (by simp only [if_pos h]; rfl) | exact fun h => (by simp only [if_pos h]; assumption)) (by assumption) ?_) | (refine pw_p rfl (by assumption) ?_) | (refine pw_nil ?_) | (refine ps_seq ?_) | (refine ps_ops0 mix ?_) | (refine ps_skip ?_) | (refine ps_block ?_))
    have c0 := hb3.cell (i := 0) rfl
    have c1 := hb3.cell (i := 1) rfl
    refine pw_a rfl rfl (pw_stn rfl rfl rfl rfl s1 trivial ?_)
    repeat (first | (refine pw_pick rfl rfl (by first | exact fun _ => rfl | exact fun h => (by simp only [if_pos h]; rfl) | exact fun h => (by simp only [if_pos h]; assumption)) (by first | exact fun _ => rfl | exact fun h => (by simp only [if_pos h]; rfl) | exact fun h => (by simp only [if_pos h]; assumption)) ?_) | (refine pw_mvt rfl ?_) | (refine pw_max rfl rfl rfl ?_) | (refine pw_min rfl rfl rfl ?_) | (refine pw_mvc ?_) | (refine pw_p rfl rfl ?_) | (refine pw_l1 rfl rfl (by assumption) ?_) | (refine pw_ln rfl rfl (by assumption) ?_) | (refine pw_lk1 rfl rfl (by assumption) ?_) | (refine pw_lkn rfl rfl (by assumption) ?_) | (refine pw_pg rfl rfl (by first | exact fun _ => rfl | exact fun _ => (by assumption) | exact fun h => (by simp only [if_pos h]; rfl) | exact fun h => (by simp only [if_pos h]; assumption)) ?_) | (refine pw_lg1 rfl rfl (by first | exact fun _ => rfl | exact fun h => (by simp only [if_pos h]; rfl) | exact fun h => (by simp only [if_pos h]; assumption)) (by assumption) ?_) | (refine pw_p rfl (by assumption) ?_) | (refine pw_nil ?_) | (refine ps_seq ?_) | (refine ps_ops0 mix ?_) | (refine ps_skip ?_) | (refine ps_block ?_))
    have hpk : nearB (l.take (k + 1)) = (nearB (l.take k) && nearB [p]) := by
      rw [List.take_add_one, hp]
      simp [nearB]
    refine ps_if rfl rfl (fun ht2 => ?_) (fun ht2 => ?_)
    · repeat (first | (refine pw_pick rfl rfl (by first | exact fun _ => rfl | exact fun h => (by simp only [if_pos h]; rfl) | exact fun h => (by simp only [if_pos h]; assumption)) (by first | exact fun _ => rfl | exact fun h => (by simp only [if_pos h]; rfl) | exact fun h => (by simp only [if_pos h]; assumption)) ?_) | (refine pw_mvt rfl ?_) | (refine pw_max rfl rfl rfl ?_) | (refine pw_min rfl rfl rfl ?_) | (refine pw_mvc ?_) | (refine pw_p rfl rfl ?_) | (refine pw_l1 rfl rfl (by assumption) ?_) | (refine pw_ln rfl rfl (by assumption) ?_) | (refine pw_lk1 rfl rfl (by assumption) ?_) | (refine pw_lkn rfl rfl (by assumption) ?_) | (refine pw_pg rfl rfl (by first | exact fun _ => rfl | exact fun _ => (by assumption) | exact fun h => (by simp only [if_pos h]; rfl) | exact fun h => (by simp only [if_pos h]; assumption)) ?_) | (refine pw_lg1 rfl rfl (by first | exact fun _ => rfl | exact fun h => (by simp only [if_pos h]; rfl) | exact fun h => (by simp only [if_pos h]; assumption)) (by assumption) ?_) | (refine pw_p rfl (by assumption) ?_) | (refine pw_nil ?_) | (refine ps_seq ?_) | (refine ps_ops0 mix ?_) | (refine ps_skip ?_) | (refine ps_block ?_))
      refine ps_ret ⟨_, rfl, ?_⟩
      congr 2
      symm
      simp at ht2
      simp only [nearB, List.all_eq_false]
      refine ⟨p, List.mem_of_getElem? hp, ?_⟩
      simp
      omega
    · repeat (first | (refine pw_pick rfl rfl (by first | exact fun _ => rfl | exact fun h => (by simp only [if_pos h]; rfl) | exact fun h => (by simp only [if_pos h]; assumption)) (by first | exact fun _ => rfl | exact fun h => (by simp only [if_pos h]; rfl) | exact fun h => (by simp only [if_pos h]; assumption)) ?_) | (refine pw_mvt rfl ?_) | (refine pw_max rfl rfl rfl ?_) | (refine pw_min rfl rfl rfl ?_) | (refine pw_mvc ?_) | (refine pw_p rfl rfl ?_) | (refine pw_l1 rfl rfl (by assumption) ?_) | (refine pw_ln rfl rfl (by assumption) ?_) | (refine pw_lk1 rfl rfl (by assumption) ?_) | (refine pw_lkn rfl rfl (by assumption) ?_) | (refine pw_pg rfl rfl (by first | exact fun _ => rfl | exact fun _ => (by assumption) | exact fun h => (by simp only [if_pos h]; rfl) | exact fun h => (by simp only [if_pos h]; assumption)) ?_) | (refine pw_lg1 rfl rfl (by first | exact fun _ => rfl | exact fun h => (by simp only [if_pos h]; rfl) | exact fun h => (by simp only [if_pos h]; assumption)) (by assumption) ?_) | (refine pw_p rfl (by assumption) ?_) | (refine pw_nil ?_) | (refine ps_seq ?_) | (refine ps_ops0 mix ?_) | (refine ps_skip ?_) | (refine ps_block ?_))
      simp at ht2
      refine ⟨m - 1, by omega, _, (SubE.cons (k := 5) rfl (SubE.cons (k := 6) rfl (SubE.cons (k := 7) rfl (SubE.nil _)))), hl'.ext hx3, k + 1, by omega, ?_, ?_⟩
      · rw [wrap_i64 (by omega) (by omega)]; rfl
      · rw [hpk, hno]
        simp [nearB]
        omega
  · simp at ht
    obtain rfl : k = l.length := by omega
    rw [List.take_length] at hno
    refine ps_exit ?_
    repeat (first | (refine pw_pick rfl rfl (by first | exact fun _ => rfl | exact fun h => (by simp only [if_pos h]; rfl) | exact fun h => (by simp only [if_pos h]; assumption)) (by first | exact fun _ => rfl | exact fun h => (by simp only [if_pos h]; rfl) | exact fun h => (by simp only [if_pos h]; assumption)) ?_) | (refine pw_mvt rfl ?_) | (refine pw_max rfl rfl rfl ?_) | (refine pw_min rfl rfl rfl ?_) | (refine pw_mvc ?_) | (refine pw_p rfl rfl ?_) | (refine pw_l1 rfl rfl (by assumption) ?_) | (refine pw_ln rfl rfl (by assumption) ?_) | (refine pw_lk1 rfl rfl (by assumption) ?_) | (refine pw_lkn rfl rfl (by assumption) ?_) | (refine pw_pg rfl rfl (by first | exact fun _ => rfl | exact fun _ => (by assumption) | exact fun h => (by simp only [if_pos h]; rfl) | exact fun h => (by simp only [if_pos h]; assumption)) ?_) | (refine pw_lg1 rfl rfl (by first | exact fun _ => rfl | exact fun h => (by simp only [if_pos h]; rfl) | exact fun h => (by simp only [if_pos h]; assumption)) (by assumption) ?_) | (refine pw_p rfl (by assumption) ?_) | (refine pw_nil ?_) | (refine ps_seq ?_) | (refine ps_ops0 mix ?_) | (refine ps_skip ?_) | (refine ps_block ?_))
    exact ps_ret ⟨_, rfl, by rw [hno]⟩
theorem near_ok {H : Hp} {l : List Pt} {v : V} (hl : Pts H l v) (hn : l.length < 1000000000000) : ACalls Tryd.prog 1 40 [v] H fun v H' => v = .bool (nearB l) ∧ H' = H :=
  (ACalls.pure (near_ro (hl.le (Le.ro H)) hn) (fun v _ h => by rw [h]; rfl)).mono fun v H' ⟨⟨_, h⟩, e⟩ => ⟨h, e⟩
end Go.Ab.Fn

/- Deep contracts: distances. -/
namespace Go.Ab.Fn
open Go.Ab Go.Proofs
set_option linter.unusedSimpArgs false

theorem d_sanity : DK 10 [] fun d => d = .bool true := DCalls.of_pure (vs := []) trivial rfl fun H hH => sanity_ok (hH 0 _ rfl)
theorem d_apart {p q : Pt2} (hp : Small 1000000000000000000 p) (hq : Small 1000000000000000000 q) : DK 41 [ptD p, ptD q] fun d => d = .int (far p q) := DCalls.of_pure (vs := [ptV p, ptV q]) ⟨rfl, rfl, trivial⟩ rfl fun H _ => apart_ok hp hq
theorem d_far {p q : Pt2} (hp : Small 1000000000000000000 p) (hq : Small 1000000000000000000 q) : DK 15 [ptD p, ptD q] fun d => d = .int (far p q) := DCalls.of_pure (vs := [ptV p, ptV q]) ⟨rfl, rfl, trivial⟩ rfl fun H _ => rfar_ok hp hq

theorem aEqs_pt (p q : Pt2) : aEqs [.int .i64 p.1, .int .i64 p.2] [.int .i64 q.1, .int .i64 q.2] [(0, false), (1, false)] = some (decide (p = q)) := by
  obtain ⟨p1, p2⟩ := p
  obtain ⟨q1, q2⟩ := q
  simp only [aEqs, aEq, List.getElem?_cons_zero, List.getElem?_cons_succ, if_true]
  by_cases h1 : p1 = q1
  · by_cases h2 : p2 = q2
    · subst h1; subst h2; simp
    · have e2 : (p2 == q2) = false := by simpa using h2
      subst h1; simp [h2, e2]
  · have e1 : (p1 == q1) = false := by simpa using h1
    simp [h1, e1]
/-- points that are compared -/
theorem d_eqpt {neg : Bool} {E : DEnv} {x y : Opd} {p q : Pt2} (hx : ro E x = some (.agg [.f (.c (.int .i64 p.1)), .f (.c (.int .i64 p.2))])) (hy : ro E y = some (.agg [.f (.c (.int .i64 q.1)), .f (.c (.int .i64 q.2))])) : dPure E (.eqs neg [(0, false), (1, false)] x y) = some (.bool (match neg with | true => !decide (p = q) | false => decide (p = q))) := by
  have ex : exO E x = some (.agg [.int .i64 p.1, .int .i64 p.2]) := by simp [exO, hx, exV, exL, exC]
  have ey : exO E y = some (.agg [.int .i64 q.1, .int .i64 q.2]) := by simp [exO, hy, exV, exL, exC]
  simp only [dPure, dEx, PureOp.opds, allB, isEx, ex, ey, Option.isSome_some, PureOp.mp, rx, aPure, Opd.ev, aEqs_pt]
  cases neg <;> rfl

theorem d_has {l : List Pt2} {p : Pt2} (hn : l.length < 1000000000000) : DK 20 [ptsD l, ptD p] fun d => d = .bool (decide (p ∈ l)) := by
  refine dfn_ok cp20 rfl GHro fun Z0 lo => ?_
  repeat (first | (refine dw_want rfl rfl ?_) | (refine dw_skip rfl rfl ?_) | (refine dw_skipU rfl ?_) | (refine dw_pickT rfl rfl ?_) | (refine dw_pickF rfl rfl ?_) | (refine dw_pick rfl (by first | exact fun _ => rfl | exact fun h => (by simp only [if_pos h]; rfl) | exact fun h => (by simp only [h, if_true, if_false]; rfl)) (by first | exact fun _ => rfl | exact fun h => (by simp only [if_pos h]; rfl) | exact fun h => (by simp only [h, if_true, if_false]; rfl)) ?_) | (refine dw_max rfl rfl ?_) | (refine dw_min rfl rfl ?_) | (refine dw_p rfl ?_) | (refine dw_l rfl ?_) | (refine dw_lk rfl ?_) | (refine dw_pg rfl (by first | exact fun _ => rfl | exact fun h => (by simp only [if_pos h]; rfl) | exact fun h => (by simp only [h, if_true, if_false]; rfl)) ?_) | (refine dw_lg rfl (by first | exact fun _ => rfl | exact fun h => (by simp only [if_pos h]; rfl) | exact fun h => (by simp only [h, if_true, if_false]; rfl)) ?_) | (refine dw_io0 rfl rfl (by omega) (by omega) ?_) | (refine dw_if0 rfl rfl (by omega) (by decide) (by assumption) ?_) | (refine dw_if rfl rfl (by omega) (by decide) (by assumption) ?_) | (refine dw_l (dload_data rfl rfl (by assumption) rfl) ?_) | (refine dw_lk (dload_data rfl rfl (by assumption) rfl) ?_) | (refine dw_a rfl ?_) | (refine dw_ai rfl rfl rfl ?_) | (refine dw_st rfl rfl rfl rfl rfl (by decide) rfl ?_) | (refine dw_nil ?_) | (refine ds_seq ?_) | (refine ds_ops mix (fun base => ?_)) | (refine ds_skip ?_) | (refine ds_block ?_) | (refine ds_exit ?_))
  refine ds_loop (fun m E S nk => ∃ k : Nat, k + m = l.length ∧ E = [(0, ptsD l), (3, .one (.ptr 0 0)), (5, .int k)] ∧ S = [(0, .cells [.f (.c (.int .i64 p.1)), .f (.c (.int .i64 p.2))])] ∧ nk = 1 ∧ p ∉ l.take k) ⟨l.length, _, _, _, [], ?wk, 0, by omega, rfl, rfl, rfl, by simp⟩ ?_
  case wk => exact ⟨by repeat (first | exact trivial | refine ⟨by first | rfl | exact congrArg (fun z => some (DV.int z)) (dwrap (by omega) (by omega)), rfl, ?_⟩), by repeat (first | exact trivial | refine ⟨by first | rfl | exact congrArg (fun z => some (Bk.data z)) (by assumption), rfl, rfl, ?_⟩), rfl⟩
  rintro m E S nk ⟨k, hk, rfl, rfl, rfl, hno⟩
  repeat (first | (refine dw_want rfl rfl ?_) | (refine dw_skip rfl rfl ?_) | (refine dw_skipU rfl ?_) | (refine dw_pickT rfl rfl ?_) | (refine dw_pickF rfl rfl ?_) | (refine dw_pick rfl (by first | exact fun _ => rfl | exact fun h => (by simp only [if_pos h]; rfl) | exact fun h => (by simp only [h, if_true, if_false]; rfl)) (by first | exact fun _ => rfl | exact fun h => (by simp only [if_pos h]; rfl) | exact fun h => (by simp only [h, if_true, if_false]; rfl)) ?_) | (refine dw_max rfl rfl ?_) | (refine dw_min rfl rfl ?_) | (refine dw_p rfl ?_) | (refine dw_l rfl ?_) | (refine dw_lk rfl ?_) | (refine dw_pg rfl (by first | exact fun _ => rfl | exact fun h => (by simp only [if_pos h]; rfl) | exact fun h => (by simp only [h, if_true, if_false]; rfl)) ?_) | (refine dw_lg rfl (by first | exact fun _ => rfl | exact fun h => (by simp only [if_pos h]; rfl) | exact fun h => (by simp only [h, if_true, if_false]; rfl)) ?_) | (refine dw_io0 rfl rfl (by omega) (by omega) ?_) | (refine dw_if0 rfl rfl (by omega) (by decide) (by assumption) ?_) | (refine dw_if rfl rfl (by omega) (by decide) (by assumption) ?_) | (refine dw_l (dload_data rfl rfl (by assumption) rfl) ?_) | (refine dw_lk (dload_data rfl rfl (by assumption) rfl) ?_) | (refine dw_a rfl ?_) | (refine dw_ai rfl rfl rfl ?_) | (refine dw_st rfl rfl rfl rfl rfl (by decide) rfl ?_) | (refine dw_nil ?_) | (refine ds_seq ?_) | (refine ds_ops mix (fun base => ?_)) | (refine ds_skip ?_) | (refine ds_block ?_) | (refine ds_exit ?_))
  refine ds_if rfl (fun ht => ?_) (fun ht => ?_)
  · simp at ht
    obtain ⟨q, hq⟩ : ∃ q, l[k]? = some q := ⟨_, List.getElem?_eq_getElem (by omega)⟩
    have e1 := ptF_at hq
    repeat (first | (refine dw_want rfl rfl ?_) | (refine dw_skip rfl rfl ?_) | (refine dw_skipU rfl ?_) | (refine dw_pickT rfl rfl ?_) | (refine dw_pickF rfl rfl ?_) | (refine dw_pick rfl (by first | exact fun _ => rfl | exact fun h => (by simp only [if_pos h]; rfl) | exact fun h => (by simp only [h, if_true, if_false]; rfl)) (by first | exact fun _ => rfl | exact fun h => (by simp only [if_pos h]; rfl) | exact fun h => (by simp only [h, if_true, if_false]; rfl)) ?_) | (refine dw_max rfl rfl ?_) | (refine dw_min rfl rfl ?_) | (refine dw_p rfl ?_) | (refine dw_l rfl ?_) | (refine dw_lk rfl ?_) | (refine dw_pg rfl (by first | exact fun _ => rfl | exact fun h => (by simp only [if_pos h]; rfl) | exact fun h => (by simp only [h, if_true, if_false]; rfl)) ?_) | (refine dw_lg rfl (by first | exact fun _ => rfl | exact fun h => (by simp only [if_pos h]; rfl) | exact fun h => (by simp only [h, if_true, if_false]; rfl)) ?_) | (refine dw_io0 rfl rfl (by omega) (by omega) ?_) | (refine dw_if0 rfl rfl (by omega) (by decide) (by assumption) ?_) | (refine dw_if rfl rfl (by omega) (by decide) (by assumption) ?_) | (refine dw_l (dload_data rfl rfl (by assumption) rfl) ?_) | (refine dw_lk (dload_data rfl rfl (by assumption) rfl) ?_) | (refine dw_a rfl ?_) | (refine dw_ai rfl rfl rfl ?_) | (refine dw_st rfl rfl rfl rfl rfl (by decide) rfl ?_) | (refine dw_nil ?_) | (refine ds_seq ?_) | (refine ds_ops mix (fun base => ?_)) | (refine ds_skip ?_) | (refine ds_block ?_) | (refine ds_exit ?_))
    refine dw_p (d_eqpt (p := q) (q := p) rfl rfl) ?_
    repeat (first | (refine dw_want rfl rfl ?_) | (refine dw_skip rfl rfl ?_) | (refine dw_skipU rfl ?_) | (refine dw_pickT rfl rfl ?_) | (refine dw_pickF rfl rfl ?_) | (refine dw_pick rfl (by first | exact fun _ => rfl | exact fun h => (by simp only [if_pos h]; rfl) | exact fun h => (by simp only [h, if_true, if_false]; rfl)) (by first | exact fun _ => rfl | exact fun h => (by simp only [if_pos h]; rfl) | exact fun h => (by simp only [h, if_true, if_false]; rfl)) ?_) | (refine dw_max rfl rfl ?_) | (refine dw_min rfl rfl ?_) | (refine dw_p rfl ?_) | (refine dw_l rfl ?_) | (refine dw_lk rfl ?_) | (refine dw_pg rfl (by first | exact fun _ => rfl | exact fun h => (by simp only [if_pos h]; rfl) | exact fun h => (by simp only [h, if_true, if_false]; rfl)) ?_) | (refine dw_lg rfl (by first | exact fun _ => rfl | exact fun h => (by simp only [if_pos h]; rfl) | exact fun h => (by simp only [h, if_true, if_false]; rfl)) ?_) | (refine dw_io0 rfl rfl (by omega) (by omega) ?_) | (refine dw_if0 rfl rfl (by omega) (by decide) (by assumption) ?_) | (refine dw_if rfl rfl (by omega) (by decide) (by assumption) ?_) | (refine dw_l (dload_data rfl rfl (by assumption) rfl) ?_) | (refine dw_lk (dload_data rfl rfl (by assumption) rfl) ?_) | (refine dw_a rfl ?_) | (refine dw_ai rfl rfl rfl ?_) | (refine dw_st rfl rfl rfl rfl rfl (by decide) rfl ?_) | (refine dw_nil ?_) | (refine ds_seq ?_) | (refine ds_ops mix (fun base => ?_)) | (refine ds_skip ?_) | (refine ds_block ?_) | (refine ds_exit ?_))
    refine ds_if rfl (fun ht2 => ?_) (fun ht2 => ?_)
    · simp at ht2
      repeat (first | (refine dw_want rfl rfl ?_) | (refine dw_skip rfl rfl ?_) | (refine dw_skipU rfl ?_) | (refine dw_pickT rfl rfl ?_) | (refine dw_pickF rfl rfl ?_) | (refine dw_pick rfl (by first | exact fun _ => rfl | exact fun h => (by simp only [if_pos h]; rfl) | exact fun h => (by simp only [h, if_true, if_false]; rfl)) (by first | exact fun _ => rfl | exact fun h => (by simp only [if_pos h]; rfl) | exact fun h => (by simp only [h, if_true, if_false]; rfl)) ?_) | (refine dw_max rfl rfl ?_) | (refine dw_min rfl rfl ?_) | (refine dw_p rfl ?_) | (refine dw_l rfl ?_) | (refine dw_lk rfl ?_) | (refine dw_pg rfl (by first | exact fun _ => rfl | exact fun h => (by simp only [if_pos h]; rfl) | exact fun h => (by simp only [h, if_true, if_false]; rfl)) ?_) | (refine dw_lg rfl (by first | exact fun _ => rfl | exact fun h => (by simp only [if_pos h]; rfl) | exact fun h => (by simp only [h, if_true, if_false]; rfl)) ?_) | (refine dw_io0 rfl rfl (by omega) (by omega) ?_) | (refine dw_if0 rfl rfl (by omega) (by decide) (by assumption) ?_) | (refine dw_if rfl rfl (by omega) (by decide) (by assumption) ?_) | (refine dw_l (dload_data rfl rfl (by assumption) rfl) ?_) | (refine dw_lk (dload_data rfl rfl (by assumption) rfl) ?_) | (refine dw_a rfl ?_) | (refine dw_ai rfl rfl rfl ?_) | (refine dw_st rfl rfl rfl rfl rfl (by decide) rfl ?_) | (refine dw_nil ?_) | (refine ds_seq ?_) | (refine ds_ops mix (fun base => ?_)) | (refine ds_skip ?_) | (refine ds_block ?_) | (refine ds_exit ?_))
      refine ds_ret ⟨_, rfl, rfl, ?_⟩
      rw [decide_eq_true (by rw [← ht2]; exact List.mem_of_getElem? hq)]
    · simp at ht2
      repeat (first | (refine dw_want rfl rfl ?_) | (refine dw_skip rfl rfl ?_) | (refine dw_skipU rfl ?_) | (refine dw_pickT rfl rfl ?_) | (refine dw_pickF rfl rfl ?_) | (refine dw_pick rfl (by first | exact fun _ => rfl | exact fun h => (by simp only [if_pos h]; rfl) | exact fun h => (by simp only [h, if_true, if_false]; rfl)) (by first | exact fun _ => rfl | exact fun h => (by simp only [if_pos h]; rfl) | exact fun h => (by simp only [h, if_true, if_false]; rfl)) ?_) | (refine dw_max rfl rfl ?_) | (refine dw_min rfl rfl ?_) | (refine dw_p rfl ?_) | (refine dw_l rfl ?_) | (refine dw_lk rfl ?_) | (refine dw_pg rfl (by first | exact fun _ => rfl | exact fun h => (by simp only [if_pos h]; rfl) | exact fun h => (by simp only [h, if_true, if_false]; rfl)) ?_) | (refine dw_lg rfl (by first | exact fun _ => rfl | exact fun h => (by simp only [if_pos h]; rfl) | exact fun h => (by simp only [h, if_true, if_false]; rfl)) ?_) | (refine dw_io0 rfl rfl (by omega) (by omega) ?_) | (refine dw_if0 rfl rfl (by omega) (by decide) (by assumption) ?_) | (refine dw_if rfl rfl (by omega) (by decide) (by assumption) ?_) | (refine dw_l (dload_data rfl rfl (by assumption) rfl) ?_) | (refine dw_lk (dload_data rfl rfl (by assumption) rfl) ?_) | (refine dw_a rfl ?_) | (refine dw_ai rfl rfl rfl ?_) | (refine dw_st rfl rfl rfl rfl rfl (by decide) rfl ?_) | (refine dw_nil ?_) | (refine ds_seq ?_) | (refine ds_ops mix (fun base => ?_)) | (refine ds_skip ?_) | (refine ds_block ?_) | (refine ds_exit ?_))
      refine ⟨m - 1, by omega, _, _, _, [], ?wk, k + 1, by omega, rfl, rfl, rfl, ?_⟩
      case wk => exact ⟨by repeat (first | exact trivial | refine ⟨by first | rfl | exact congrArg (fun z => some (DV.int z)) (dwrap (by omega) (by omega)), rfl, ?_⟩), by repeat (first | exact trivial | refine ⟨by first | rfl | exact congrArg (fun z => some (Bk.data z)) (by assumption), rfl, rfl, ?_⟩), rfl⟩
      rw [List.take_add_one, hq]
      simp
      exact ⟨hno, fun h => ht2 h.symm⟩
  · simp at ht
    repeat (first | (refine dw_want rfl rfl ?_) | (refine dw_skip rfl rfl ?_) | (refine dw_skipU rfl ?_) | (refine dw_pickT rfl rfl ?_) | (refine dw_pickF rfl rfl ?_) | (refine dw_pick rfl (by first | exact fun _ => rfl | exact fun h => (by simp only [if_pos h]; rfl) | exact fun h => (by simp only [h, if_true, if_false]; rfl)) (by first | exact fun _ => rfl | exact fun h => (by simp only [if_pos h]; rfl) | exact fun h => (by simp only [h, if_true, if_false]; rfl)) ?_) | (refine dw_max rfl rfl ?_) | (refine dw_min rfl rfl ?_) | (refine dw_p rfl ?_) | (refine dw_l rfl ?_) | (refine dw_lk rfl ?_) | (refine dw_pg rfl (by first | exact fun _ => rfl | exact fun h => (by simp only [if_pos h]; rfl) | exact fun h => (by simp only [h, if_true, if_false]; rfl)) ?_) | (refine dw_lg rfl (by first | exact fun _ => rfl | exact fun h => (by simp only [if_pos h]; rfl) | exact fun h => (by simp only [h, if_true, if_false]; rfl)) ?_) | (refine dw_io0 rfl rfl (by omega) (by omega) ?_) | (refine dw_if0 rfl rfl (by omega) (by decide) (by assumption) ?_) | (refine dw_if rfl rfl (by omega) (by decide) (by assumption) ?_) | (refine dw_l (dload_data rfl rfl (by assumption) rfl) ?_) | (refine dw_lk (dload_data rfl rfl (by assumption) rfl) ?_) | (refine dw_a rfl ?_) | (refine dw_ai rfl rfl rfl ?_) | (refine dw_st rfl rfl rfl rfl rfl (by decide) rfl ?_) | (refine dw_nil ?_) | (refine ds_seq ?_) | (refine ds_ops mix (fun base => ?_)) | (refine ds_skip ?_) | (refine ds_block ?_) | (refine ds_exit ?_))
    refine ds_ret ⟨_, rfl, rfl, ?_⟩
    obtain rfl : k = l.length := by omega
    rw [List.take_length] at hno
    rw [decide_eq_false hno]

def fars (a b : List Pt2) : List Int := a.flatMap fun p => b.map (far p)
def dist (a b : List Pt2) : Int := match a, b with
  | [], _ => -1
  | _, [] => -1
  | p :: _, q :: _ => (fars a b).foldl min (far p q)
def Smalls (l : List Pt2) : Prop := ∀ p ∈ l, Small 1000000000000000000 p


theorem foldl_min_le : ∀ (l : List Int) (x : Int), l.foldl min x ≤ x ∧ ∀ y ∈ l, l.foldl min x ≤ y
  | [], x => ⟨by simp, by simp⟩
  | y :: l, x => by
    have h := foldl_min_le l (min x y)
    simp only [List.foldl_cons]
    refine ⟨by omega, fun z hz => ?_⟩
    rcases List.mem_cons.1 hz with rfl | hz
    · omega
    · exact h.2 z hz
theorem foldl_min_mem : ∀ (l : List Int) (x : Int), l.foldl min x = x ∨ l.foldl min x ∈ l
  | [], x => .inl rfl
  | y :: l, x => by
    simp only [List.foldl_cons]
    rcases foldl_min_mem l (min x y) with h | h
    · rw [h]
      by_cases hxy : x ≤ y
      · exact .inl (by omega)
      · exact .inr (by simp; omega)
    · exact .inr (by simp [h])

theorem d_distance {a b : List Pt2} (ha : Smalls a) (hb : Smalls b) (hn : a.length ≤ 256) (hm : b.length ≤ 256) : DK 19 [ptsD a, ptsD b] fun d => d = .int (dist a b) := by
  refine dfn_ok cp19 rfl GHro fun Z0 lo => ?_
  repeat (first | (refine dw_want rfl rfl ?_) | (refine dw_skip rfl rfl ?_) | (refine dw_skipU rfl ?_) | (refine dw_pickT rfl rfl ?_) | (refine dw_pickF rfl rfl ?_) | (refine dw_pick rfl (by first | exact fun _ => rfl | exact fun h => (by simp only [if_pos h]; rfl) | exact fun h => (by simp only [h, if_true, if_false]; rfl)) (by first | exact fun _ => rfl | exact fun h => (by simp only [if_pos h]; rfl) | exact fun h => (by simp only [h, if_true, if_false]; rfl)) ?_) | (refine dw_max rfl rfl ?_) | (refine dw_min rfl rfl ?_) | (refine dw_p rfl ?_) | (refine dw_l rfl ?_) | (refine dw_lk rfl ?_) | (refine dw_pg rfl (by first | exact fun _ => rfl | exact fun h => (by simp only [if_pos h]; rfl) | exact fun h => (by simp only [h, if_true, if_false]; rfl)) ?_) | (refine dw_lg rfl (by first | exact fun _ => rfl | exact fun h => (by simp only [if_pos h]; rfl) | exact fun h => (by simp only [h, if_true, if_false]; rfl)) ?_) | (refine dw_io0 rfl rfl (by omega) (by omega) ?_) | (refine dw_if0 rfl rfl (by omega) (by decide) (by assumption) ?_) | (refine dw_if rfl rfl (by omega) (by decide) (by assumption) ?_) | (refine dw_l (dload_data rfl rfl (by assumption) rfl) ?_) | (refine dw_lk (dload_data rfl rfl (by assumption) rfl) ?_) | (refine dw_a rfl ?_) | (refine dw_ai rfl rfl rfl ?_) | (refine dw_st rfl rfl rfl rfl rfl (by decide) rfl ?_) | (refine dw_nil ?_) | (refine ds_seq ?_) | (refine ds_ops mix (fun base => ?_)) | (refine ds_skip ?_) | (refine ds_block ?_) | (refine ds_exit ?_))
  refine ds_if rfl (fun ht => ?_) (fun ht => ?_)
  · simp at ht
    repeat (first | (refine dw_want rfl rfl ?_) | (refine dw_skip rfl rfl ?_) | (refine dw_skipU rfl ?_) | (refine dw_pickT rfl rfl ?_) | (refine dw_pickF rfl rfl ?_) | (refine dw_pick rfl (by first | exact fun _ => rfl | exact fun h => (by simp only [if_pos h]; rfl) | exact fun h => (by simp only [h, if_true, if_false]; rfl)) (by first | exact fun _ => rfl | exact fun h => (by simp only [if_pos h]; rfl) | exact fun h => (by simp only [h, if_true, if_false]; rfl)) ?_) | (refine dw_max rfl rfl ?_) | (refine dw_min rfl rfl ?_) | (refine dw_p rfl ?_) | (refine dw_l rfl ?_) | (refine dw_lk rfl ?_) | (refine dw_pg rfl (by first | exact fun _ => rfl | exact fun h => (by simp only [if_pos h]; rfl) | exact fun h => (by simp only [h, if_true, if_false]; rfl)) ?_) | (refine dw_lg rfl (by first | exact fun _ => rfl | exact fun h => (by simp only [if_pos h]; rfl) | exact fun h => (by simp only [h, if_true, if_false]; rfl)) ?_) | (refine dw_io0 rfl rfl (by omega) (by omega) ?_) | (refine dw_if0 rfl rfl (by omega) (by decide) (by assumption) ?_) | (refine dw_if rfl rfl (by omega) (by decide) (by assumption) ?_) | (refine dw_l (dload_data rfl rfl (by assumption) rfl) ?_) | (refine dw_lk (dload_data rfl rfl (by assumption) rfl) ?_) | (refine dw_a rfl ?_) | (refine dw_ai rfl rfl rfl ?_) | (refine dw_st rfl rfl rfl rfl rfl (by decide) rfl ?_) | (refine dw_nil ?_) | (refine ds_seq ?_) | (refine ds_ops mix (fun base => ?_)) | (refine ds_skip ?_) | (refine ds_block ?_) | (refine ds_exit ?_))
    refine ds_ret ⟨_, rfl, rfl, ?_⟩
    cases a with
    | nil => rfl
    | cons p a => cases b with
      | nil => rfl
      | cons q b => simp at ht
  · simp only [Bool.if_true_left, Bool.or_eq_false_iff, decide_eq_false_iff_not, ← List.length_eq_zero_iff] at ht
    simp at ht
    obtain ⟨ht1, ht2⟩ := ht
    obtain ⟨p0, a', rfl⟩ : ∃ q l, a = q :: l := List.exists_cons_of_ne_nil ht1
    obtain ⟨q0, b', rfl⟩ : ∃ q l, b = q :: l := List.exists_cons_of_ne_nil ht2
    have e1 : subL ((p0 :: a').flatMap ptF) (0 * 2) 2 = some (ptF p0) := ptF_at rfl
    have e2 : subL ((q0 :: b').flatMap ptF) (0 * 2) 2 = some (ptF q0) := ptF_at rfl
    have hp0 := ha p0 (by simp)
    have hq0 := hb q0 (by simp)
    have hl1 : 0 < (p0 :: a').length := by simp
    have hl2 : 0 < (q0 :: b').length := by simp
    have hdist : dist (p0 :: a') (q0 :: b') = (fars (p0 :: a') (q0 :: b')).foldl min (far p0 q0) := rfl
    rw [hdist]
    generalize hga : p0 :: a' = a at *
    generalize hgb : q0 :: b' = b at *
    refine ds_keep (SubA.cons (k := 0) rfl (SubA.cons (k := 1) rfl (SubA.nil _))) (SubA.nil _) ?_
    have hle : (a.length : Int) * b.length ≤ 256 * 256 := Int.mul_le_mul (by omega) (by omega) (by omega) (by omega)
    have h0 : (0 : Int) ≤ (a.length : Int) * b.length := Int.mul_nonneg (by omega) (by omega)
    iterate 10 (first | (refine dw_want rfl rfl ?_) | (refine dw_skip rfl rfl ?_) | (refine dw_skipU rfl ?_) | (refine dw_pickT rfl rfl ?_) | (refine dw_pickF rfl rfl ?_) | (refine dw_pick rfl (by first | exact fun _ => rfl | exact fun h => (by simp only [if_pos h]; rfl) | exact fun h => (by simp only [h, if_true, if_false]; rfl)) (by first | exact fun _ => rfl | exact fun h => (by simp only [if_pos h]; rfl) | exact fun h => (by simp only [h, if_true, if_false]; rfl)) ?_) | (refine dw_max rfl rfl ?_) | (refine dw_min rfl rfl ?_) | (refine dw_p rfl ?_) | (refine dw_l rfl ?_) | (refine dw_lk rfl ?_) | (refine dw_pg rfl (by first | exact fun _ => rfl | exact fun h => (by simp only [if_pos h]; rfl) | exact fun h => (by simp only [h, if_true, if_false]; rfl)) ?_) | (refine dw_lg rfl (by first | exact fun _ => rfl | exact fun h => (by simp only [if_pos h]; rfl) | exact fun h => (by simp only [h, if_true, if_false]; rfl)) ?_) | (refine dw_io0 rfl rfl (by omega) (by omega) ?_) | (refine dw_if0 rfl rfl (by omega) (by decide) (by assumption) ?_) | (refine dw_if rfl rfl (by omega) (by decide) (by assumption) ?_) | (refine dw_l (dload_data rfl rfl (by assumption) rfl) ?_) | (refine dw_lk (dload_data rfl rfl (by assumption) rfl) ?_) | (refine dw_a rfl ?_) | (refine dw_ai rfl rfl rfl ?_) | (refine dw_st rfl rfl rfl rfl rfl (by decide) rfl ?_) | (refine dw_nil ?_) | (refine ds_seq ?_) | (refine ds_ops mix (fun base => ?_)) | (refine ds_skip ?_) | (refine ds_block ?_) | (refine ds_exit ?_))
    rw [show decide (IntKind.i64.wrap ((a.length : Int) * b.length) > 65536) = false by rw [dwrap (by omega) (by omega)]; simp; omega]
    repeat (first | (refine dw_want rfl rfl ?_) | (refine dw_skip rfl rfl ?_) | (refine dw_skipU rfl ?_) | (refine dw_pickT rfl rfl ?_) | (refine dw_pickF rfl rfl ?_) | (refine dw_pick rfl (by first | exact fun _ => rfl | exact fun h => (by simp only [if_pos h]; rfl) | exact fun h => (by simp only [h, if_true, if_false]; rfl)) (by first | exact fun _ => rfl | exact fun h => (by simp only [if_pos h]; rfl) | exact fun h => (by simp only [h, if_true, if_false]; rfl)) ?_) | (refine dw_max rfl rfl ?_) | (refine dw_min rfl rfl ?_) | (refine dw_p rfl ?_) | (refine dw_l rfl ?_) | (refine dw_lk rfl ?_) | (refine dw_pg rfl (by first | exact fun _ => rfl | exact fun h => (by simp only [if_pos h]; rfl) | exact fun h => (by simp only [h, if_true, if_false]; rfl)) ?_) | (refine dw_lg rfl (by first | exact fun _ => rfl | exact fun h => (by simp only [if_pos h]; rfl) | exact fun h => (by simp only [h, if_true, if_false]; rfl)) ?_) | (refine dw_io0 rfl rfl (by omega) (by omega) ?_) | (refine dw_if0 rfl rfl (by omega) (by decide) (by assumption) ?_) | (refine dw_if rfl rfl (by omega) (by decide) (by assumption) ?_) | (refine dw_l (dload_data rfl rfl (by assumption) rfl) ?_) | (refine dw_lk (dload_data rfl rfl (by assumption) rfl) ?_) | (refine dw_a rfl ?_) | (refine dw_ai rfl rfl rfl ?_) | (refine dw_st rfl rfl rfl rfl rfl (by decide) rfl ?_) | (refine dw_nil ?_) | (refine ds_seq ?_) | (refine ds_ops mix (fun base => ?_)) | (refine ds_skip ?_) | (refine ds_block ?_) | (refine ds_exit ?_))
    refine ds_if rfl (fun ht => by cases ht) (fun _ => ?_)
    repeat (first | (refine dw_want rfl rfl ?_) | (refine dw_skip rfl rfl ?_) | (refine dw_skipU rfl ?_) | (refine dw_pickT rfl rfl ?_) | (refine dw_pickF rfl rfl ?_) | (refine dw_pick rfl (by first | exact fun _ => rfl | exact fun h => (by simp only [if_pos h]; rfl) | exact fun h => (by simp only [h, if_true, if_false]; rfl)) (by first | exact fun _ => rfl | exact fun h => (by simp only [if_pos h]; rfl) | exact fun h => (by simp only [h, if_true, if_false]; rfl)) ?_) | (refine dw_max rfl rfl ?_) | (refine dw_min rfl rfl ?_) | (refine dw_p rfl ?_) | (refine dw_l rfl ?_) | (refine dw_lk rfl ?_) | (refine dw_pg rfl (by first | exact fun _ => rfl | exact fun h => (by simp only [if_pos h]; rfl) | exact fun h => (by simp only [h, if_true, if_false]; rfl)) ?_) | (refine dw_lg rfl (by first | exact fun _ => rfl | exact fun h => (by simp only [if_pos h]; rfl) | exact fun h => (by simp only [h, if_true, if_false]; rfl)) ?_) | (refine dw_io0 rfl rfl (by omega) (by omega) ?_) | (refine dw_if0 rfl rfl (by omega) (by decide) (by assumption) ?_) | (refine dw_if rfl rfl (by omega) (by decide) (by assumption) ?_) | (refine dw_l (dload_data rfl rfl (by assumption) rfl) ?_) | (refine dw_lk (dload_data rfl rfl (by assumption) rfl) ?_) | (refine dw_a rfl ?_) | (refine dw_ai rfl rfl rfl ?_) | (refine dw_st rfl rfl rfl rfl rfl (by decide) rfl ?_) | (refine dw_nil ?_) | (refine ds_seq ?_) | (refine ds_ops mix (fun base => ?_)) | (refine ds_skip ?_) | (refine ds_block ?_) | (refine ds_exit ?_))
    refine dw_cf rfl rfl (d_apart hp0 hq0) ?_
    rintro _ rfl
    repeat (first | (refine dw_want rfl rfl ?_) | (refine dw_skip rfl rfl ?_) | (refine dw_skipU rfl ?_) | (refine dw_pickT rfl rfl ?_) | (refine dw_pickF rfl rfl ?_) | (refine dw_pick rfl (by first | exact fun _ => rfl | exact fun h => (by simp only [if_pos h]; rfl) | exact fun h => (by simp only [h, if_true, if_false]; rfl)) (by first | exact fun _ => rfl | exact fun h => (by simp only [if_pos h]; rfl) | exact fun h => (by simp only [h, if_true, if_false]; rfl)) ?_) | (refine dw_max rfl rfl ?_) | (refine dw_min rfl rfl ?_) | (refine dw_p rfl ?_) | (refine dw_l rfl ?_) | (refine dw_lk rfl ?_) | (refine dw_pg rfl (by first | exact fun _ => rfl | exact fun h => (by simp only [if_pos h]; rfl) | exact fun h => (by simp only [h, if_true, if_false]; rfl)) ?_) | (refine dw_lg rfl (by first | exact fun _ => rfl | exact fun h => (by simp only [if_pos h]; rfl) | exact fun h => (by simp only [h, if_true, if_false]; rfl)) ?_) | (refine dw_io0 rfl rfl (by omega) (by omega) ?_) | (refine dw_if0 rfl rfl (by omega) (by decide) (by assumption) ?_) | (refine dw_if rfl rfl (by omega) (by decide) (by assumption) ?_) | (refine dw_l (dload_data rfl rfl (by assumption) rfl) ?_) | (refine dw_lk (dload_data rfl rfl (by assumption) rfl) ?_) | (refine dw_a rfl ?_) | (refine dw_ai rfl rfl rfl ?_) | (refine dw_st rfl rfl rfl rfl rfl (by decide) rfl ?_) | (refine dw_nil ?_) | (refine ds_seq ?_) | (refine ds_ops mix (fun base => ?_)) | (refine ds_skip ?_) | (refine ds_block ?_) | (refine ds_exit ?_))
    refine ds_loop (fun m E S nk => ∃ k : Nat, k + m = a.length ∧ E = [(1, ptsD b), (5, .int ((fars (a.take k) b).foldl min (far p0 q0))), (42, ptsD a), (43, .int a.length), (44, .int k)] ∧ S = [] ∧ nk = 0) ⟨a.length, _, _, _, [], ?wk, 0, by omega, rfl, rfl, rfl⟩ ?_
    case wk => exact ⟨by repeat (first | exact trivial | refine ⟨by first | rfl | exact congrArg (fun z => some (DV.int z)) (dwrap (by omega) (by omega)), rfl, ?_⟩), by repeat (first | exact trivial | refine ⟨by first | rfl | exact congrArg (fun z => some (Bk.data z)) (by assumption), rfl, rfl, ?_⟩), rfl⟩
    rintro m E S nk ⟨k, hk, rfl, rfl, rfl⟩
    repeat (first | (refine dw_want rfl rfl ?_) | (refine dw_skip rfl rfl ?_) | (refine dw_skipU rfl ?_) | (refine dw_pickT rfl rfl ?_) | (refine dw_pickF rfl rfl ?_) | (refine dw_pick rfl (by first | exact fun _ => rfl | exact fun h => (by simp only [if_pos h]; rfl) | exact fun h => (by simp only [h, if_true, if_false]; rfl)) (by first | exact fun _ => rfl | exact fun h => (by simp only [if_pos h]; rfl) | exact fun h => (by simp only [h, if_true, if_false]; rfl)) ?_) | (refine dw_max rfl rfl ?_) | (refine dw_min rfl rfl ?_) | (refine dw_p rfl ?_) | (refine dw_l rfl ?_) | (refine dw_lk rfl ?_) | (refine dw_pg rfl (by first | exact fun _ => rfl | exact fun h => (by simp only [if_pos h]; rfl) | exact fun h => (by simp only [h, if_true, if_false]; rfl)) ?_) | (refine dw_lg rfl (by first | exact fun _ => rfl | exact fun h => (by simp only [if_pos h]; rfl) | exact fun h => (by simp only [h, if_true, if_false]; rfl)) ?_) | (refine dw_io0 rfl rfl (by omega) (by omega) ?_) | (refine dw_if0 rfl rfl (by omega) (by decide) (by assumption) ?_) | (refine dw_if rfl rfl (by omega) (by decide) (by assumption) ?_) | (refine dw_l (dload_data rfl rfl (by assumption) rfl) ?_) | (refine dw_lk (dload_data rfl rfl (by assumption) rfl) ?_) | (refine dw_a rfl ?_) | (refine dw_ai rfl rfl rfl ?_) | (refine dw_st rfl rfl rfl rfl rfl (by decide) rfl ?_) | (refine dw_nil ?_) | (refine ds_seq ?_) | (refine ds_ops mix (fun base => ?_)) | (refine ds_skip ?_) | (refine ds_block ?_) | (refine ds_exit ?_))
    refine ds_if rfl (fun ht => ?_) (fun ht => ?_)
    · simp at ht
      obtain ⟨p, hp⟩ : ∃ q, a[k]? = some q := ⟨_, List.getElem?_eq_getElem (by omega)⟩
      have e3 := ptF_at hp
      have hps := ha p (List.mem_of_getElem? hp)
      repeat (first | (refine dw_want rfl rfl ?_) | (refine dw_skip rfl rfl ?_) | (refine dw_skipU rfl ?_) | (refine dw_pickT rfl rfl ?_) | (refine dw_pickF rfl rfl ?_) | (refine dw_pick rfl (by first | exact fun _ => rfl | exact fun h => (by simp only [if_pos h]; rfl) | exact fun h => (by simp only [h, if_true, if_false]; rfl)) (by first | exact fun _ => rfl | exact fun h => (by simp only [if_pos h]; rfl) | exact fun h => (by simp only [h, if_true, if_false]; rfl)) ?_) | (refine dw_max rfl rfl ?_) | (refine dw_min rfl rfl ?_) | (refine dw_p rfl ?_) | (refine dw_l rfl ?_) | (refine dw_lk rfl ?_) | (refine dw_pg rfl (by first | exact fun _ => rfl | exact fun h => (by simp only [if_pos h]; rfl) | exact fun h => (by simp only [h, if_true, if_false]; rfl)) ?_) | (refine dw_lg rfl (by first | exact fun _ => rfl | exact fun h => (by simp only [if_pos h]; rfl) | exact fun h => (by simp only [h, if_true, if_false]; rfl)) ?_) | (refine dw_io0 rfl rfl (by omega) (by omega) ?_) | (refine dw_if0 rfl rfl (by omega) (by decide) (by assumption) ?_) | (refine dw_if rfl rfl (by omega) (by decide) (by assumption) ?_) | (refine dw_l (dload_data rfl rfl (by assumption) rfl) ?_) | (refine dw_lk (dload_data rfl rfl (by assumption) rfl) ?_) | (refine dw_a rfl ?_) | (refine dw_ai rfl rfl rfl ?_) | (refine dw_st rfl rfl rfl rfl rfl (by decide) rfl ?_) | (refine dw_nil ?_) | (refine ds_seq ?_) | (refine ds_ops mix (fun base => ?_)) | (refine ds_skip ?_) | (refine ds_block ?_) | (refine ds_exit ?_))
      refine ds_loop (fun m E S nk => ∃ j : Nat, j + m = b.length ∧ E = [(1, ptsD b), (5, .int (((b.take j).map (far p)).foldl min ((fars (a.take k) b).foldl min (far p0 q0)))), (7, .one (.ptr 0 0)), (42, ptsD a), (43, .int a.length), (44, .int k), (48, ptsD b), (49, .int b.length), (50, .int j)] ∧ S = [(0, .cells [.f (.c (.int .i64 p.1)), .f (.c (.int .i64 p.2))])] ∧ nk = 1) ⟨b.length, _, _, _, [], ?wk2, 0, by omega, rfl, rfl, rfl⟩ ?_
      case wk2 => exact ⟨by repeat (first | exact trivial | refine ⟨by first | rfl | exact congrArg (fun z => some (DV.int z)) (dwrap (by omega) (by omega)), rfl, ?_⟩), by repeat (first | exact trivial | refine ⟨by first | rfl | exact congrArg (fun z => some (Bk.data z)) (by assumption), rfl, rfl, ?_⟩), rfl⟩
      rintro m2 E S nk ⟨j, hj, rfl, rfl, rfl⟩
      repeat (first | (refine dw_want rfl rfl ?_) | (refine dw_skip rfl rfl ?_) | (refine dw_skipU rfl ?_) | (refine dw_pickT rfl rfl ?_) | (refine dw_pickF rfl rfl ?_) | (refine dw_pick rfl (by first | exact fun _ => rfl | exact fun h => (by simp only [if_pos h]; rfl) | exact fun h => (by simp only [h, if_true, if_false]; rfl)) (by first | exact fun _ => rfl | exact fun h => (by simp only [if_pos h]; rfl) | exact fun h => (by simp only [h, if_true, if_false]; rfl)) ?_) | (refine dw_max rfl rfl ?_) | (refine dw_min rfl rfl ?_) | (refine dw_p rfl ?_) | (refine dw_l rfl ?_) | (refine dw_lk rfl ?_) | (refine dw_pg rfl (by first | exact fun _ => rfl | exact fun h => (by simp only [if_pos h]; rfl) | exact fun h => (by simp only [h, if_true, if_false]; rfl)) ?_) | (refine dw_lg rfl (by first | exact fun _ => rfl | exact fun h => (by simp only [if_pos h]; rfl) | exact fun h => (by simp only [h, if_true, if_false]; rfl)) ?_) | (refine dw_io0 rfl rfl (by omega) (by omega) ?_) | (refine dw_if0 rfl rfl (by omega) (by decide) (by assumption) ?_) | (refine dw_if rfl rfl (by omega) (by decide) (by assumption) ?_) | (refine dw_l (dload_data rfl rfl (by assumption) rfl) ?_) | (refine dw_lk (dload_data rfl rfl (by assumption) rfl) ?_) | (refine dw_a rfl ?_) | (refine dw_ai rfl rfl rfl ?_) | (refine dw_st rfl rfl rfl rfl rfl (by decide) rfl ?_) | (refine dw_nil ?_) | (refine ds_seq ?_) | (refine ds_ops mix (fun base => ?_)) | (refine ds_skip ?_) | (refine ds_block ?_) | (refine ds_exit ?_))
      refine ds_if rfl (fun ht2 => ?_) (fun ht2 => ?_)
      · simp at ht2
        obtain ⟨q, hq⟩ : ∃ q, b[j]? = some q := ⟨_, List.getElem?_eq_getElem (by omega)⟩
        have e4 := ptF_at hq
        have hqs := hb q (List.mem_of_getElem? hq)
        repeat (first | (refine dw_want rfl rfl ?_) | (refine dw_skip rfl rfl ?_) | (refine dw_skipU rfl ?_) | (refine dw_pickT rfl rfl ?_) | (refine dw_pickF rfl rfl ?_) | (refine dw_pick rfl (by first | exact fun _ => rfl | exact fun h => (by simp only [if_pos h]; rfl) | exact fun h => (by simp only [h, if_true, if_false]; rfl)) (by first | exact fun _ => rfl | exact fun h => (by simp only [if_pos h]; rfl) | exact fun h => (by simp only [h, if_true, if_false]; rfl)) ?_) | (refine dw_max rfl rfl ?_) | (refine dw_min rfl rfl ?_) | (refine dw_p rfl ?_) | (refine dw_l rfl ?_) | (refine dw_lk rfl ?_) | (refine dw_pg rfl (by first | exact fun _ => rfl | exact fun h => (by simp only [if_pos h]; rfl) | exact fun h => (by simp only [h, if_true, if_false]; rfl)) ?_) | (refine dw_lg rfl (by first | exact fun _ => rfl | exact fun h => (by simp only [if_pos h]; rfl) | exact fun h => (by simp only [h, if_true, if_false]; rfl)) ?_) | (refine dw_io0 rfl rfl (by omega) (by omega) ?_) | (refine dw_if0 rfl rfl (by omega) (by decide) (by assumption) ?_) | (refine dw_if rfl rfl (by omega) (by decide) (by assumption) ?_) | (refine dw_l (dload_data rfl rfl (by assumption) rfl) ?_) | (refine dw_lk (dload_data rfl rfl (by assumption) rfl) ?_) | (refine dw_a rfl ?_) | (refine dw_ai rfl rfl rfl ?_) | (refine dw_st rfl rfl rfl rfl rfl (by decide) rfl ?_) | (refine dw_nil ?_) | (refine ds_seq ?_) | (refine ds_ops mix (fun base => ?_)) | (refine ds_skip ?_) | (refine ds_block ?_) | (refine ds_exit ?_))
        refine dw_cf rfl rfl (d_apart (p := p) (q := q) hps hqs) ?_
        rintro _ rfl
        repeat (first | (refine dw_want rfl rfl ?_) | (refine dw_skip rfl rfl ?_) | (refine dw_skipU rfl ?_) | (refine dw_pickT rfl rfl ?_) | (refine dw_pickF rfl rfl ?_) | (refine dw_pick rfl (by first | exact fun _ => rfl | exact fun h => (by simp only [if_pos h]; rfl) | exact fun h => (by simp only [h, if_true, if_false]; rfl)) (by first | exact fun _ => rfl | exact fun h => (by simp only [if_pos h]; rfl) | exact fun h => (by simp only [h, if_true, if_false]; rfl)) ?_) | (refine dw_max rfl rfl ?_) | (refine dw_min rfl rfl ?_) | (refine dw_p rfl ?_) | (refine dw_l rfl ?_) | (refine dw_lk rfl ?_) | (refine dw_pg rfl (by first | exact fun _ => rfl | exact fun h => (by simp only [if_pos h]; rfl) | exact fun h => (by simp only [h, if_true, if_false]; rfl)) ?_) | (refine dw_lg rfl (by first | exact fun _ => rfl | exact fun h => (by simp only [if_pos h]; rfl) | exact fun h => (by simp only [h, if_true, if_false]; rfl)) ?_) | (refine dw_io0 rfl rfl (by omega) (by omega) ?_) | (refine dw_if0 rfl rfl (by omega) (by decide) (by assumption) ?_) | (refine dw_if rfl rfl (by omega) (by decide) (by assumption) ?_) | (refine dw_l (dload_data rfl rfl (by assumption) rfl) ?_) | (refine dw_lk (dload_data rfl rfl (by assumption) rfl) ?_) | (refine dw_a rfl ?_) | (refine dw_ai rfl rfl rfl ?_) | (refine dw_st rfl rfl rfl rfl rfl (by decide) rfl ?_) | (refine dw_nil ?_) | (refine ds_seq ?_) | (refine ds_ops mix (fun base => ?_)) | (refine ds_skip ?_) | (refine ds_block ?_) | (refine ds_exit ?_))
        have hD : min (((b.take j).map (far p)).foldl min ((fars (a.take k) b).foldl min (far p0 q0))) (far p q) = ((b.take (j + 1)).map (far p)).foldl min ((fars (a.take k) b).foldl min (far p0 q0)) := by
          rw [List.take_add_one, hq]
          simp
        rw [hD]
        refine ⟨m2 - 1, by omega, _, _, _, [], ?wk3, j + 1, by omega, rfl, rfl, rfl⟩
        case wk3 => exact ⟨by repeat (first | exact trivial | refine ⟨by first | rfl | exact congrArg (fun z => some (DV.int z)) (dwrap (by omega) (by omega)), rfl, ?_⟩), by repeat (first | exact trivial | refine ⟨by first | rfl | exact congrArg (fun z => some (Bk.data z)) (by assumption), rfl, rfl, ?_⟩), rfl⟩
      · simp at ht2
        obtain rfl : j = b.length := by omega
        repeat (first | (refine dw_want rfl rfl ?_) | (refine dw_skip rfl rfl ?_) | (refine dw_skipU rfl ?_) | (refine dw_pickT rfl rfl ?_) | (refine dw_pickF rfl rfl ?_) | (refine dw_pick rfl (by first | exact fun _ => rfl | exact fun h => (by simp only [if_pos h]; rfl) | exact fun h => (by simp only [h, if_true, if_false]; rfl)) (by first | exact fun _ => rfl | exact fun h => (by simp only [if_pos h]; rfl) | exact fun h => (by simp only [h, if_true, if_false]; rfl)) ?_) | (refine dw_max rfl rfl ?_) | (refine dw_min rfl rfl ?_) | (refine dw_p rfl ?_) | (refine dw_l rfl ?_) | (refine dw_lk rfl ?_) | (refine dw_pg rfl (by first | exact fun _ => rfl | exact fun h => (by simp only [if_pos h]; rfl) | exact fun h => (by simp only [h, if_true, if_false]; rfl)) ?_) | (refine dw_lg rfl (by first | exact fun _ => rfl | exact fun h => (by simp only [if_pos h]; rfl) | exact fun h => (by simp only [h, if_true, if_false]; rfl)) ?_) | (refine dw_io0 rfl rfl (by omega) (by omega) ?_) | (refine dw_if0 rfl rfl (by omega) (by decide) (by assumption) ?_) | (refine dw_if rfl rfl (by omega) (by decide) (by assumption) ?_) | (refine dw_l (dload_data rfl rfl (by assumption) rfl) ?_) | (refine dw_lk (dload_data rfl rfl (by assumption) rfl) ?_) | (refine dw_a rfl ?_) | (refine dw_ai rfl rfl rfl ?_) | (refine dw_st rfl rfl rfl rfl rfl (by decide) rfl ?_) | (refine dw_nil ?_) | (refine ds_seq ?_) | (refine ds_ops mix (fun base => ?_)) | (refine ds_skip ?_) | (refine ds_block ?_) | (refine ds_exit ?_))
        have hD : ((b.take b.length).map (far p)).foldl min ((fars (a.take k) b).foldl min (far p0 q0)) = (fars (a.take (k + 1)) b).foldl min (far p0 q0) := by
          rw [List.take_add_one, hp, List.take_length]
          simp [fars]
        rw [hD]
        refine ⟨m - 1, by omega, _, _, _, [], ?wk3, k + 1, by omega, rfl, rfl, rfl⟩
        case wk3 => exact ⟨by repeat (first | exact trivial | refine ⟨by first | rfl | exact congrArg (fun z => some (DV.int z)) (dwrap (by omega) (by omega)), rfl, ?_⟩), by repeat (first | exact trivial | refine ⟨by first | rfl | exact congrArg (fun z => some (Bk.data z)) (by assumption), rfl, rfl, ?_⟩), rfl⟩
    · simp at ht
      obtain rfl : k = a.length := by omega
      repeat (first | (refine dw_want rfl rfl ?_) | (refine dw_skip rfl rfl ?_) | (refine dw_skipU rfl ?_) | (refine dw_pickT rfl rfl ?_) | (refine dw_pickF rfl rfl ?_) | (refine dw_pick rfl (by first | exact fun _ => rfl | exact fun h => (by simp only [if_pos h]; rfl) | exact fun h => (by simp only [h, if_true, if_false]; rfl)) (by first | exact fun _ => rfl | exact fun h => (by simp only [if_pos h]; rfl) | exact fun h => (by simp only [h, if_true, if_false]; rfl)) ?_) | (refine dw_max rfl rfl ?_) | (refine dw_min rfl rfl ?_) | (refine dw_p rfl ?_) | (refine dw_l rfl ?_) | (refine dw_lk rfl ?_) | (refine dw_pg rfl (by first | exact fun _ => rfl | exact fun h => (by simp only [if_pos h]; rfl) | exact fun h => (by simp only [h, if_true, if_false]; rfl)) ?_) | (refine dw_lg rfl (by first | exact fun _ => rfl | exact fun h => (by simp only [if_pos h]; rfl) | exact fun h => (by simp only [h, if_true, if_false]; rfl)) ?_) | (refine dw_io0 rfl rfl (by omega) (by omega) ?_) | (refine dw_if0 rfl rfl (by omega) (by decide) (by assumption) ?_) | (refine dw_if rfl rfl (by omega) (by decide) (by assumption) ?_) | (refine dw_l (dload_data rfl rfl (by assumption) rfl) ?_) | (refine dw_lk (dload_data rfl rfl (by assumption) rfl) ?_) | (refine dw_a rfl ?_) | (refine dw_ai rfl rfl rfl ?_) | (refine dw_st rfl rfl rfl rfl rfl (by decide) rfl ?_) | (refine dw_nil ?_) | (refine ds_seq ?_) | (refine ds_ops mix (fun base => ?_)) | (refine ds_skip ?_) | (refine ds_block ?_) | (refine ds_exit ?_))
      refine ds_ret ⟨_, rfl, rfl, ?_⟩
      rw [List.take_length]
end Go.Ab.Fn

namespace Go.Ab.Fn
open Go.Ab Go.Proofs
set_option linter.unusedSimpArgs false

theorem eqs_pt (neg : Bool) (p q : Pt) : aPure .lf (.eqs neg [(0, false), (1, false)] (.c (.agg (ptC p))) (.c (.agg (ptC q)))) = some (.bool (if neg then !decide (p = q) else decide (p = q))) := by
  obtain ⟨p1, p2⟩ := p
  obtain ⟨q1, q2⟩ := q
  simp only [aPure, Opd.ev, ptC, aEqs, aEq, List.getElem?_cons_zero, List.getElem?_cons_succ, if_true]
  by_cases h1 : p1 = q1
  · by_cases h2 : p2 = q2
    · subst h1; subst h2; simp
    · subst h1
      have e2 : (p2 == q2) = false := by simpa using h2
      simp [h2, e2]
  · have e1 : (p1 == q1) = false := by simpa using h1
    simp [h1, e1]

theorem samePts_ro {H : Hp} {l r : List Pt} {v u : V} (hl : Pts H l v) (hr : Pts H r u) (hn : l.length < 1000000000000) : ACalls Tryd.prog 1 16 [v, u] H fun x _ => x = .bool (decide (l = r)) := by
  refine pfn_ok cp16 (by simp [f16]) fun hwf => ?_
  have hlen := hl.len
  have hlen' := hr.len
  repeat (first | (refine pw_pick rfl rfl (by first | exact fun _ => rfl | exact fun h => (by simp only [if_pos h]; rfl) | exact fun h => (by simp only [if_pos h]; assumption)) (by first | exact fun _ => rfl | exact fun h => (by simp only [if_pos h]; rfl) | exact fun h => (by simp only [if_pos h]; assumption)) ?_) | (refine pw_mvt rfl ?_) | (refine pw_max rfl rfl rfl ?_) | (refine pw_min rfl rfl rfl ?_) | (refine pw_mvc ?_) | (refine pw_p rfl rfl ?_) | (refine pw_l1 rfl rfl (by assumption) ?_) | (refine pw_ln rfl rfl (by assumption) ?_) | (refine pw_lk1 rfl rfl (by assumption) ?_) | (refine pw_lkn rfl rfl (by assumption) ?_) | (refine pw_pg rfl rfl (by first | exact fun _ => rfl | exact fun _ => (by assumption) | exact fun h => (by simp only [if_pos h]; rfl) | exact fun h => (by simp only [if_pos h]; assumption)) ?_) | (refine pw_lg1 rfl rfl (by first | exact fun _ => rfl | exact fun h => (by simp only [if_pos h]; rfl) | exact fun h => (by simp only [if_pos h]; assumption)) (by assumption) ?_) | (refine pw_p rfl (by assumption) ?_) | (refine pw_nil ?_) | (refine ps_seq ?_) | (refine ps_ops0 mix ?_) | (refine ps_skip ?_) | (refine ps_block ?_))
  refine ps_if rfl rfl (fun ht => ?_) (fun ht => ?_)
  · repeat (first | (refine pw_pick rfl rfl (by first | exact fun _ => rfl | exact fun h => (by simp only [if_pos h]; rfl) | exact fun h => (by simp only [if_pos h]; assumption)) (by first | exact fun _ => rfl | exact fun h => (by simp only [if_pos h]; rfl) | exact fun h => (by simp only [if_pos h]; assumption)) ?_) | (refine pw_mvt rfl ?_) | (refine pw_max rfl rfl rfl ?_) | (refine pw_min rfl rfl rfl ?_) | (refine pw_mvc ?_) | (refine pw_p rfl rfl ?_) | (refine pw_l1 rfl rfl (by assumption) ?_) | (refine pw_ln rfl rfl (by assumption) ?_) | (refine pw_lk1 rfl rfl (by assumption) ?_) | (refine pw_lkn rfl rfl (by assumption) ?_) | (refine pw_pg rfl rfl (by first | exact fun _ => rfl | exact fun _ => (by assumption) | exact fun h => (by simp only [if_pos h]; rfl) | exact fun h => (by simp only [if_pos h]; assumption)) ?_) | (refine pw_lg1 rfl rfl (by first | exact fun _ => rfl | exact fun h => (by simp only [if_pos h]; rfl) | exact fun h => (by simp only [if_pos h]; assumption)) (by assumption) ?_) | (refine pw_p rfl (by assumption) ?_) | (refine pw_nil ?_) | (refine ps_seq ?_) | (refine ps_ops0 mix ?_) | (refine ps_skip ?_) | (refine ps_block ?_))
    refine ps_ret ⟨_, rfl, ?_⟩
    simp at ht
    congr 2
    symm
    simp
    intro h
    exact ht (by rw [h])
  · repeat (first | (refine pw_pick rfl rfl (by first | exact fun _ => rfl | exact fun h => (by simp only [if_pos h]; rfl) | exact fun h => (by simp only [if_pos h]; assumption)) (by first | exact fun _ => rfl | exact fun h => (by simp only [if_pos h]; rfl) | exact fun h => (by simp only [if_pos h]; assumption)) ?_) | (refine pw_mvt rfl ?_) | (refine pw_max rfl rfl rfl ?_) | (refine pw_min rfl rfl rfl ?_) | (refine pw_mvc ?_) | (refine pw_p rfl rfl ?_) | (refine pw_l1 rfl rfl (by assumption) ?_) | (refine pw_ln rfl rfl (by assumption) ?_) | (refine pw_lk1 rfl rfl (by assumption) ?_) | (refine pw_lkn rfl rfl (by assumption) ?_) | (refine pw_pg rfl rfl (by first | exact fun _ => rfl | exact fun _ => (by assumption) | exact fun h => (by simp only [if_pos h]; rfl) | exact fun h => (by simp only [if_pos h]; assumption)) ?_) | (refine pw_lg1 rfl rfl (by first | exact fun _ => rfl | exact fun h => (by simp only [if_pos h]; rfl) | exact fun h => (by simp only [if_pos h]; assumption)) (by assumption) ?_) | (refine pw_p rfl (by assumption) ?_) | (refine pw_nil ?_) | (refine ps_seq ?_) | (refine ps_ops0 mix ?_) | (refine ps_skip ?_) | (refine ps_block ?_))
    simp at ht
    refine ps_loop (fun m E H' => Pts H' l v ∧ Pts H' r u ∧ ∃ k : Nat, k + m = l.length ∧ E = [(0, v), (1, u), (5, .int k)] ∧ l.take k = r.take k) (m := l.length) ⟨_, (SubE.cons (k := 0) rfl (SubE.cons (k := 1) rfl (SubE.cons (k := 5) rfl (SubE.nil _)))), hl, hr, 0, by omega, rfl, rfl⟩ ?_
    rintro m E H' hwf' ⟨hl', hr', k, hk, rfl, hno⟩
    repeat (first | (refine pw_pick rfl rfl (by first | exact fun _ => rfl | exact fun h => (by simp only [if_pos h]; rfl) | exact fun h => (by simp only [if_pos h]; assumption)) (by first | exact fun _ => rfl | exact fun h => (by simp only [if_pos h]; rfl) | exact fun h => (by simp only [if_pos h]; assumption)) ?_) | (refine pw_mvt rfl ?_) | (refine pw_max rfl rfl rfl ?_) | (refine pw_min rfl rfl rfl ?_) | (refine pw_mvc ?_) | (refine pw_p rfl rfl ?_) | (refine pw_l1 rfl rfl (by assumption) ?_) | (refine pw_ln rfl rfl (by assumption) ?_) | (refine pw_lk1 rfl rfl (by assumption) ?_) | (refine pw_lkn rfl rfl (by assumption) ?_) | (refine pw_pg rfl rfl (by first | exact fun _ => rfl | exact fun _ => (by assumption) | exact fun h => (by simp only [if_pos h]; rfl) | exact fun h => (by simp only [if_pos h]; assumption)) ?_) | (refine pw_lg1 rfl rfl (by first | exact fun _ => rfl | exact fun h => (by simp only [if_pos h]; rfl) | exact fun h => (by simp only [if_pos h]; assumption)) (by assumption) ?_) | (refine pw_p rfl (by assumption) ?_) | (refine pw_nil ?_) | (refine ps_seq ?_) | (refine ps_ops0 mix ?_) | (refine ps_skip ?_) | (refine ps_block ?_))
    refine ps_if rfl rfl (fun ht => ?_) (fun ht => ?_)
    · simp at ht
      obtain ⟨p, hp⟩ : ∃ p, l[k]? = some p := ⟨_, List.getElem?_eq_getElem (by omega)⟩
      obtain ⟨q, hq⟩ : ∃ p, r[k]? = some p := ⟨_, List.getElem?_eq_getElem (by omega)⟩
      obtain ⟨b, o, e1, e2⟩ := hl'.at hp .i64
      obtain ⟨b', o', e1', e2'⟩ := hr'.at hq .i64
      repeat (first | (refine pw_pick rfl rfl (by first | exact fun _ => rfl | exact fun h => (by simp only [if_pos h]; rfl) | exact fun h => (by simp only [if_pos h]; assumption)) (by first | exact fun _ => rfl | exact fun h => (by simp only [if_pos h]; rfl) | exact fun h => (by simp only [if_pos h]; assumption)) ?_) | (refine pw_mvt rfl ?_) | (refine pw_max rfl rfl rfl ?_) | (refine pw_min rfl rfl rfl ?_) | (refine pw_mvc ?_) | (refine pw_p rfl rfl ?_) | (refine pw_l1 rfl rfl (by assumption) ?_) | (refine pw_ln rfl rfl (by assumption) ?_) | (refine pw_lk1 rfl rfl (by assumption) ?_) | (refine pw_lkn rfl rfl (by assumption) ?_) | (refine pw_pg rfl rfl (by first | exact fun _ => rfl | exact fun _ => (by assumption) | exact fun h => (by simp only [if_pos h]; rfl) | exact fun h => (by simp only [if_pos h]; assumption)) ?_) | (refine pw_lg1 rfl rfl (by first | exact fun _ => rfl | exact fun h => (by simp only [if_pos h]; rfl) | exact fun h => (by simp only [if_pos h]; assumption)) (by assumption) ?_) | (refine pw_p rfl (by assumption) ?_) | (refine pw_nil ?_) | (refine ps_seq ?_) | (refine ps_ops0 mix ?_) | (refine ps_skip ?_) | (refine ps_block ?_))
      refine ps_ops mix ?_
      repeat (first | (refine pw_pick rfl rfl (by first | exact fun _ => rfl | exact fun h => (by simp only [if_pos h]; rfl) | exact fun h => (by simp only [if_pos h]; assumption)) (by first | exact fun _ => rfl | exact fun h => (by simp only [if_pos h]; rfl) | exact fun h => (by simp only [if_pos h]; assumption)) ?_) | (refine pw_mvt rfl ?_) | (refine pw_max rfl rfl rfl ?_) | (refine pw_min rfl rfl rfl ?_) | (refine pw_mvc ?_) | (refine pw_p rfl rfl ?_) | (refine pw_l1 rfl rfl (by assumption) ?_) | (refine pw_ln rfl rfl (by assumption) ?_) | (refine pw_lk1 rfl rfl (by assumption) ?_) | (refine pw_lkn rfl rfl (by assumption) ?_) | (refine pw_pg rfl rfl (by first | exact fun _ => rfl | exact fun _ => (by assumption) | exact fun h => (by simp only [if_pos h]; rfl) | exact fun h => (by simp only [if_pos h]; assumption)) ?_) | (refine pw_lg1 rfl rfl (by first | exact fun _ => rfl | exact fun h => (by simp only [if_pos h]; rfl) | exact fun h => (by simp only [if_pos h]; assumption)) (by assumption) ?_) | (refine pw_p rfl (by assumption) ?_) | (refine pw_nil ?_) | (refine ps_seq ?_) | (refine ps_ops0 mix ?_) | (refine ps_skip ?_) | (refine ps_block ?_))
      refine pw_p rfl (eqs_pt true p q) ?_
      repeat (first | (refine pw_pick rfl rfl (by first | exact fun _ => rfl | exact fun h => (by simp only [if_pos h]; rfl) | exact fun h => (by simp only [if_pos h]; assumption)) (by first | exact fun _ => rfl | exact fun h => (by simp only [if_pos h]; rfl) | exact fun h => (by simp only [if_pos h]; assumption)) ?_) | (refine pw_mvt rfl ?_) | (refine pw_max rfl rfl rfl ?_) | (refine pw_min rfl rfl rfl ?_) | (refine pw_mvc ?_) | (refine pw_p rfl rfl ?_) | (refine pw_l1 rfl rfl (by assumption) ?_) | (refine pw_ln rfl rfl (by assumption) ?_) | (refine pw_lk1 rfl rfl (by assumption) ?_) | (refine pw_lkn rfl rfl (by assumption) ?_) | (refine pw_pg rfl rfl (by first | exact fun _ => rfl | exact fun _ => (by assumption) | exact fun h => (by simp only [if_pos h]; rfl) | exact fun h => (by simp only [if_pos h]; assumption)) ?_) | (refine pw_lg1 rfl rfl (by first | exact fun _ => rfl | exact fun h => (by simp only [if_pos h]; rfl) | exact fun h => (by simp only [if_pos h]; assumption)) (by assumption) ?_) | (refine pw_p rfl (by assumption) ?_) | (refine pw_nil ?_) | (refine ps_seq ?_) | (refine ps_ops0 mix ?_) | (refine ps_skip ?_) | (refine ps_block ?_))
      refine ps_if rfl rfl (fun ht2 => ?_) (fun ht2 => ?_)
      · repeat (first | (refine pw_pick rfl rfl (by first | exact fun _ => rfl | exact fun h => (by simp only [if_pos h]; rfl) | exact fun h => (by simp only [if_pos h]; assumption)) (by first | exact fun _ => rfl | exact fun h => (by simp only [if_pos h]; rfl) | exact fun h => (by simp only [if_pos h]; assumption)) ?_) | (refine pw_mvt rfl ?_) | (refine pw_max rfl rfl rfl ?_) | (refine pw_min rfl rfl rfl ?_) | (refine pw_mvc ?_) | (refine pw_p rfl rfl ?_) | (refine pw_l1 rfl rfl (by assumption) ?_) | (refine pw_ln rfl rfl (by assumption) ?_) | (refine pw_lk1 rfl rfl (by assumption) ?_) | (refine pw_lkn rfl rfl (by assumption) ?_) | (refine pw_pg rfl rfl (by first | exact fun _ => rfl | exact fun _ => (by assumption) | exact fun h => (by simp only [if_pos h]; rfl) | exact fun h => (by simp only [if_pos h]; assumption)) ?_) | (refine pw_lg1 rfl rfl (by first | exact fun _ => rfl | exact fun h => (by simp only [if_pos h]; rfl) | exact fun h => (by simp only [if_pos h]; assumption)) (by assumption) ?_) | (refine pw_p rfl (by assumption) ?_) | (refine pw_nil ?_) | (refine ps_seq ?_) | (refine ps_ops0 mix ?_) | (refine ps_skip ?_) | (refine ps_block ?_))
        refine ps_ret ⟨_, rfl, ?_⟩
        simp at ht2
        congr 2
        symm
        simp
        intro h
        subst h
        rw [hp] at hq
        exact ht2 (Option.some.inj hq)
      · repeat (first | (refine pw_pick rfl rfl (by first | exact fun _ => rfl | exact fun h => (by simp only [if_pos h]; rfl) | exact fun h => (by simp only [if_pos h]; assumption)) (by first | exact fun _ => rfl | exact fun h => (by simp only [if_pos h]; rfl) | exact fun h => (by simp only [if_pos h]; assumption)) ?_) | (refine pw_mvt rfl ?_) | (refine pw_max rfl rfl rfl ?_) | (refine pw_min rfl rfl rfl ?_) | (refine pw_mvc ?_) | (refine pw_p rfl rfl ?_) | (refine pw_l1 rfl rfl (by assumption) ?_) | (refine pw_ln rfl rfl (by assumption) ?_) | (refine pw_lk1 rfl rfl (by assumption) ?_) | (refine pw_lkn rfl rfl (by assumption) ?_) | (refine pw_pg rfl rfl (by first | exact fun _ => rfl | exact fun _ => (by assumption) | exact fun h => (by simp only [if_pos h]; rfl) | exact fun h => (by simp only [if_pos h]; assumption)) ?_) | (refine pw_lg1 rfl rfl (by first | exact fun _ => rfl | exact fun h => (by simp only [if_pos h]; rfl) | exact fun h => (by simp only [if_pos h]; assumption)) (by assumption) ?_) | (refine pw_p rfl (by assumption) ?_) | (refine pw_nil ?_) | (refine ps_seq ?_) | (refine ps_ops0 mix ?_) | (refine ps_skip ?_) | (refine ps_block ?_))
        simp at ht2
        subst ht2
        refine ⟨m - 1, by omega, _, (SubE.cons (k := 0) rfl (SubE.cons (k := 1) rfl (SubE.cons (k := 5) rfl (SubE.nil _)))), hl'.le (fun _ _ _ h => h), hr'.le (fun _ _ _ h => h), k + 1, by omega, ?_, ?_⟩
        · rw [wrap_i64 (by omega) (by omega)]; rfl
        · rw [List.take_add_one, List.take_add_one, hp, hq, hno]
    · simp at ht
      obtain rfl : k = l.length := by omega
      rw [List.take_length, List.take_of_length_le (by omega)] at hno
      refine ps_exit ?_
      repeat (first | (refine pw_pick rfl rfl (by first | exact fun _ => rfl | exact fun h => (by simp only [if_pos h]; rfl) | exact fun h => (by simp only [if_pos h]; assumption)) (by first | exact fun _ => rfl | exact fun h => (by simp only [if_pos h]; rfl) | exact fun h => (by simp only [if_pos h]; assumption)) ?_) | (refine pw_mvt rfl ?_) | (refine pw_max rfl rfl rfl ?_) | (refine pw_min rfl rfl rfl ?_) | (refine pw_mvc ?_) | (refine pw_p rfl rfl ?_) | (refine pw_l1 rfl rfl (by assumption) ?_) | (refine pw_ln rfl rfl (by assumption) ?_) | (refine pw_lk1 rfl rfl (by assumption) ?_) | (refine pw_lkn rfl rfl (by assumption) ?_) | (refine pw_pg rfl rfl (by first | exact fun _ => rfl | exact fun _ => (by assumption) | exact fun h => (by simp only [if_pos h]; rfl) | exact fun h => (by simp only [if_pos h]; assumption)) ?_) | (refine pw_lg1 rfl rfl (by first | exact fun _ => rfl | exact fun h => (by simp only [if_pos h]; rfl) | exact fun h => (by simp only [if_pos h]; assumption)) (by assumption) ?_) | (refine pw_p rfl (by assumption) ?_) | (refine pw_nil ?_) | (refine ps_seq ?_) | (refine ps_ops0 mix ?_) | (refine ps_skip ?_) | (refine ps_block ?_))
      exact ps_ret ⟨_, rfl, by simp [hno]⟩
theorem samePts_ok {H : Hp} {l r : List Pt} {v u : V} (hl : Pts H l v) (hr : Pts H r u) (hn : l.length < 1000000000000) : ACalls Tryd.prog 1 16 [v, u] H fun x H' => x = .bool (decide (l = r)) ∧ H' = H :=
  (ACalls.pure (samePts_ro (hl.le (Le.ro H)) (hr.le (Le.ro H)) hn) (fun v _ h => by rw [h]; rfl)).mono fun v H' ⟨⟨_, h⟩, e⟩ => ⟨h, e⟩
end Go.Ab.Fn

namespace Go.Ab.Fn
open Go.Ab Go.Proofs
set_option linter.unusedSimpArgs false

def lineK (p q : Pt) (n : Int) (k : Nat) : Pt := (betw p.1 q.1 k n, betw p.2 q.2 k n)
def lineP (p q : Pt) : List Pt := if far p q = 0 then [p] else (List.range ((far p q).toNat + 1)).map (lineK p q (far p q))

theorem far_bd {B : Int} {p q : Pt} (hp : Small B p) (hq : Small B q) : 0 ≤ far p q ∧ far p q ≤ 2 * B := by
  obtain ⟨p1, p2, p3, p4⟩ := hp
  obtain ⟨q1, q2, q3, q4⟩ := hq
  simp only [far]
  omega

theorem rline_ro {H : Hp} {p q : Pt} (hp : Small 1000 p) (hq : Small 1000 q) : ACalls Tryd.prog 1 17 [ptV p, ptV q] H fun v H' => POwn H' H.nx H'.nx (lineP p q) v := by
  have hfb := far_bd hp hq
  have hp' : Small 1000000000000000000 p := by obtain ⟨p1, p2, p3, p4⟩ := hp; exact ⟨by omega, by omega, by omega, by omega⟩
  have hq' : Small 1000000000000000000 q := by obtain ⟨p1, p2, p3, p4⟩ := hq; exact ⟨by omega, by omega, by omega, by omega⟩
  refine pfn_ok cp17 (by simp [f17]) fun hwf => ?_
  obtain ⟨hw1, hx1, hb1⟩ := new_box hwf (ptC p) rfl
  obtain ⟨hw2, hx2, hb2⟩ := new_box hw1 (ptC q) rfl
  refine ps_seq (ps_ops0 mix (pw_a rfl rfl (pw_a rfl rfl (pw_mvc (pw_nil ?_)))))
  replace hb1 := hb1.ext hx2
  have hn2 : ((H.push (.row (ptC p).length (ptC p) .lf true)).push (.row (ptC q).length (ptC q) .lf true)).nx = H.nx + 2 := rfl
  generalize ((H.push _).push _) = H2 at *
  have l1 := hb1.2
  have l2 := hb2.2
  refine ps_seq (ps_ops0 mix ?_)
  refine pw_ln rfl rfl l1 (pw_ln rfl rfl l2 (pw_cfp rfl rfl (rfar_ok hp' hq') (by repeat (first | exact trivial | refine ⟨by assumption, ?_⟩)) ?_))
  obtain ⟨hw3, hx3, hb3⟩ := new_box (n := 0) hw2 [] rfl
  refine pw_a (bk := .row 0 [] .lf true) (g := fun b => .one (.slc b 0 0 0 2 true)) rfl rfl ?_
  refine pw_mvt rfl (pw_mvt rfl (pw_nil ?_))
  replace hb1 := hb1.ext hx3
  replace hb2 := hb2.ext hx3
  have hP : POwn (H2.push (.row 0 [] .lf true)) (H.nx + 2) (H.nx + 3) [] (.one (.slc H2.nx 0 0 0 2 true)) := POwn.none (by rw [Hp.get_push, if_pos rfl]) (by omega) (by omega)
  have hn3 : (H2.push (.row 0 [] .lf true)).nx = H.nx + 3 := by simp [hn2]
  refine ps_sub (SubE.cons (k := 2) rfl (SubE.cons (k := 3) rfl (SubE.cons (k := 5) rfl (SubE.cons (k := 6) rfl (SubE.nil _))))) ?_
  generalize (H2.push _) = H3 at *
  replace l1 := hb1.2
  generalize hn : far p q = n at *
  repeat (first | (refine pw_pick rfl rfl (by first | exact fun _ => rfl | exact fun h => (by simp only [if_pos h]; rfl) | exact fun h => (by simp only [if_pos h]; assumption)) (by first | exact fun _ => rfl | exact fun h => (by simp only [if_pos h]; rfl) | exact fun h => (by simp only [if_pos h]; assumption)) ?_) | (refine pw_mvt rfl ?_) | (refine pw_max rfl rfl rfl ?_) | (refine pw_min rfl rfl rfl ?_) | (refine pw_mvc ?_) | (refine pw_p rfl rfl ?_) | (refine pw_l1 rfl rfl (by assumption) ?_) | (refine pw_ln rfl rfl (by assumption) ?_) | (refine pw_lk1 rfl rfl (by assumption) ?_) | (refine pw_lkn rfl rfl (by assumption) ?_) | (refine pw_pg rfl rfl (by first | exact fun _ => rfl | exact fun _ => (by assumption) | exact fun h => (by simp only [if_pos h]; rfl) | exact fun h => (by simp only [if_pos h]; assumption)) ?_) | (refine pw_lg1 rfl rfl (by first | exact fun _ => rfl | exact fun h => (by simp only [if_pos h]; rfl) | exact fun h => (by simp only [if_pos h]; assumption)) (by assumption) ?_) | (refine pw_p rfl (by assumption) ?_) | (refine pw_nil ?_) | (refine ps_seq ?_) | (refine ps_ops0 mix ?_) | (refine ps_skip ?_) | (refine ps_block ?_))
  refine ps_if rfl rfl (fun ht => ?_) (fun ht => ?_)
  · simp at ht
    repeat (first | (refine pw_pick rfl rfl (by first | exact fun _ => rfl | exact fun h => (by simp only [if_pos h]; rfl) | exact fun h => (by simp only [if_pos h]; assumption)) (by first | exact fun _ => rfl | exact fun h => (by simp only [if_pos h]; rfl) | exact fun h => (by simp only [if_pos h]; assumption)) ?_) | (refine pw_mvt rfl ?_) | (refine pw_max rfl rfl rfl ?_) | (refine pw_min rfl rfl rfl ?_) | (refine pw_mvc ?_) | (refine pw_p rfl rfl ?_) | (refine pw_l1 rfl rfl (by assumption) ?_) | (refine pw_ln rfl rfl (by assumption) ?_) | (refine pw_lk1 rfl rfl (by assumption) ?_) | (refine pw_lkn rfl rfl (by assumption) ?_) | (refine pw_pg rfl rfl (by first | exact fun _ => rfl | exact fun _ => (by assumption) | exact fun h => (by simp only [if_pos h]; rfl) | exact fun h => (by simp only [if_pos h]; assumption)) ?_) | (refine pw_lg1 rfl rfl (by first | exact fun _ => rfl | exact fun h => (by simp only [if_pos h]; rfl) | exact fun h => (by simp only [if_pos h]; assumption)) (by assumption) ?_) | (refine pw_p rfl (by assumption) ?_) | (refine pw_nil ?_) | (refine ps_seq ?_) | (refine ps_ops0 mix ?_) | (refine ps_skip ?_) | (refine ps_block ?_))
    refine pw_b1 rfl rfl rfl ?_
    refine pw_mvt rfl (pw_nil (ps_ret ⟨_, rfl, ?_⟩))
    rw [lineP, if_pos (by omega)]
    refine ⟨⟨rfl, .inr ⟨H3.nx, true, rfl, by omega, ?_⟩⟩, fun b hb => by obtain rfl := Option.some.inj hb; simp; omega⟩
    exact Row.new (ptC p)
  · simp at ht
    repeat (first | (refine pw_pick rfl rfl (by first | exact fun _ => rfl | exact fun h => (by simp only [if_pos h]; rfl) | exact fun h => (by simp only [if_pos h]; assumption)) (by first | exact fun _ => rfl | exact fun h => (by simp only [if_pos h]; rfl) | exact fun h => (by simp only [if_pos h]; assumption)) ?_) | (refine pw_mvt rfl ?_) | (refine pw_max rfl rfl rfl ?_) | (refine pw_min rfl rfl rfl ?_) | (refine pw_mvc ?_) | (refine pw_p rfl rfl ?_) | (refine pw_l1 rfl rfl (by assumption) ?_) | (refine pw_ln rfl rfl (by assumption) ?_) | (refine pw_lk1 rfl rfl (by assumption) ?_) | (refine pw_lkn rfl rfl (by assumption) ?_) | (refine pw_pg rfl rfl (by first | exact fun _ => rfl | exact fun _ => (by assumption) | exact fun h => (by simp only [if_pos h]; rfl) | exact fun h => (by simp only [if_pos h]; assumption)) ?_) | (refine pw_lg1 rfl rfl (by first | exact fun _ => rfl | exact fun h => (by simp only [if_pos h]; rfl) | exact fun h => (by simp only [if_pos h]; assumption)) (by assumption) ?_) | (refine pw_p rfl (by assumption) ?_) | (refine pw_nil ?_) | (refine ps_seq ?_) | (refine ps_ops0 mix ?_) | (refine ps_skip ?_) | (refine ps_block ?_))
    refine ps_loop (fun m E H' => ∃ k : Nat, k + m = n.toNat + 1 ∧ ∃ v, E = [(2, .one (.ptr H.nx 0)), (3, .one (.ptr (H.nx + 1) 0)), (5, .int n), (6, v), (7, .int k)] ∧ H.nx + 2 ≤ H'.nx ∧ Row H' H.nx (ptC p) ∧ Row H' (H.nx + 1) (ptC q) ∧ POwn H' (H.nx + 2) H'.nx ((List.range k).map (lineK p q n)) v) (m := n.toNat + 1) ⟨_, (SubE.cons (k := 2) rfl (SubE.cons (k := 3) rfl (SubE.cons (k := 5) rfl (SubE.cons (k := 6) rfl (SubE.cons (k := 7) rfl (SubE.nil _)))))), 0, by omega, _, rfl, by omega, hb1, hb2, hP.mono (by omega) (by omega)⟩ ?_
    rintro m E H' hwf' ⟨k, hk, v, rfl, hnx, g1, g2, hP'⟩
    have c0 := g1.cell (i := 0) rfl
    have c1 := g1.cell (i := 1) rfl
    have d0 := g2.cell (i := 0) rfl
    have d1 := g2.cell (i := 1) rfl
    obtain ⟨p1, p2, p3, p4⟩ := hp
    obtain ⟨q1, q2, q3, q4⟩ := hq
    repeat (first | (refine pw_pick rfl rfl (by first | exact fun _ => rfl | exact fun h => (by simp only [if_pos h]; rfl) | exact fun h => (by simp only [if_pos h]; assumption)) (by first | exact fun _ => rfl | exact fun h => (by simp only [if_pos h]; rfl) | exact fun h => (by simp only [if_pos h]; assumption)) ?_) | (refine pw_mvt rfl ?_) | (refine pw_max rfl rfl rfl ?_) | (refine pw_min rfl rfl rfl ?_) | (refine pw_mvc ?_) | (refine pw_p rfl rfl ?_) | (refine pw_l1 rfl rfl (by assumption) ?_) | (refine pw_ln rfl rfl (by assumption) ?_) | (refine pw_lk1 rfl rfl (by assumption) ?_) | (refine pw_lkn rfl rfl (by assumption) ?_) | (refine pw_pg rfl rfl (by first | exact fun _ => rfl | exact fun _ => (by assumption) | exact fun h => (by simp only [if_pos h]; rfl) | exact fun h => (by simp only [if_pos h]; assumption)) ?_) | (refine pw_lg1 rfl rfl (by first | exact fun _ => rfl | exact fun h => (by simp only [if_pos h]; rfl) | exact fun h => (by simp only [if_pos h]; assumption)) (by assumption) ?_) | (refine pw_p rfl (by assumption) ?_) | (refine pw_nil ?_) | (refine ps_seq ?_) | (refine ps_ops0 mix ?_) | (refine ps_skip ?_) | (refine ps_block ?_))
    refine ps_if rfl rfl (fun ht2 => ?_) (fun ht2 => ?_)
    · simp at ht2
      repeat (first | (refine pw_pick rfl rfl (by first | exact fun _ => rfl | exact fun h => (by simp only [if_pos h]; rfl) | exact fun h => (by simp only [if_pos h]; assumption)) (by first | exact fun _ => rfl | exact fun h => (by simp only [if_pos h]; rfl) | exact fun h => (by simp only [if_pos h]; assumption)) ?_) | (refine pw_mvt rfl ?_) | (refine pw_max rfl rfl rfl ?_) | (refine pw_min rfl rfl rfl ?_) | (refine pw_mvc ?_) | (refine pw_p rfl rfl ?_) | (refine pw_l1 rfl rfl (by assumption) ?_) | (refine pw_ln rfl rfl (by assumption) ?_) | (refine pw_lk1 rfl rfl (by assumption) ?_) | (refine pw_lkn rfl rfl (by assumption) ?_) | (refine pw_pg rfl rfl (by first | exact fun _ => rfl | exact fun _ => (by assumption) | exact fun h => (by simp only [if_pos h]; rfl) | exact fun h => (by simp only [if_pos h]; assumption)) ?_) | (refine pw_lg1 rfl rfl (by first | exact fun _ => rfl | exact fun h => (by simp only [if_pos h]; rfl) | exact fun h => (by simp only [if_pos h]; assumption)) (by assumption) ?_) | (refine pw_p rfl (by assumption) ?_) | (refine pw_nil ?_) | (refine ps_seq ?_) | (refine ps_ops0 mix ?_) | (refine ps_skip ?_) | (refine ps_block ?_))
      have m1 := mul_bd (a := p.1) (b := n) (A := 1000) (B := 2000) (by omega) (by omega) (by omega) (by omega)
      have m2 := mul_bd (a := (k : Int)) (b := q.1 - p.1) (A := 2000) (B := 2000) (by omega) (by omega) (by omega) (by omega)
      have m3 := mul_bd (a := p.2) (b := n) (A := 1000) (B := 2000) (by omega) (by omega) (by omega) (by omega)
      have m4 := mul_bd (a := (k : Int)) (b := q.2 - p.2) (A := 2000) (B := 2000) (by omega) (by omega) (by omega) (by omega)
      rw [wrap_i64 (n := p.1 * n) (by omega) (by omega), wrap_i64 (n := q.1 - p.1) (by omega) (by omega), wrap_i64 (n := k * (q.1 - p.1)) (by omega) (by omega), wrap_i64 (n := p.1 * n + k * (q.1 - p.1)) (by omega) (by omega), wrap_i64 (n := 2 * (p.1 * n + k * (q.1 - p.1))) (by omega) (by omega), wrap_i64 (n := 2 * (p.1 * n + k * (q.1 - p.1)) + n) (by omega) (by omega), wrap_i64 (n := 2 * n) (by omega) (by omega)]
      refine pw_cfp rfl rfl (rfloor_ok (by omega) (by omega) (by omega)) (by repeat (first | exact trivial | refine ⟨by assumption, ?_⟩)) ?_
      repeat (first | (refine pw_pick rfl rfl (by first | exact fun _ => rfl | exact fun h => (by simp only [if_pos h]; rfl) | exact fun h => (by simp only [if_pos h]; assumption)) (by first | exact fun _ => rfl | exact fun h => (by simp only [if_pos h]; rfl) | exact fun h => (by simp only [if_pos h]; assumption)) ?_) | (refine pw_mvt rfl ?_) | (refine pw_max rfl rfl rfl ?_) | (refine pw_min rfl rfl rfl ?_) | (refine pw_mvc ?_) | (refine pw_p rfl rfl ?_) | (refine pw_l1 rfl rfl (by assumption) ?_) | (refine pw_ln rfl rfl (by assumption) ?_) | (refine pw_lk1 rfl rfl (by assumption) ?_) | (refine pw_lkn rfl rfl (by assumption) ?_) | (refine pw_pg rfl rfl (by first | exact fun _ => rfl | exact fun _ => (by assumption) | exact fun h => (by simp only [if_pos h]; rfl) | exact fun h => (by simp only [if_pos h]; assumption)) ?_) | (refine pw_lg1 rfl rfl (by first | exact fun _ => rfl | exact fun h => (by simp only [if_pos h]; rfl) | exact fun h => (by simp only [if_pos h]; assumption)) (by assumption) ?_) | (refine pw_p rfl (by assumption) ?_) | (refine pw_nil ?_) | (refine ps_seq ?_) | (refine ps_ops0 mix ?_) | (refine ps_skip ?_) | (refine ps_block ?_))
      rw [wrap_i64 (n := p.2 * n) (by omega) (by omega), wrap_i64 (n := q.2 - p.2) (by omega) (by omega), wrap_i64 (n := k * (q.2 - p.2)) (by omega) (by omega), wrap_i64 (n := p.2 * n + k * (q.2 - p.2)) (by omega) (by omega), wrap_i64 (n := 2 * (p.2 * n + k * (q.2 - p.2))) (by omega) (by omega), wrap_i64 (n := 2 * (p.2 * n + k * (q.2 - p.2)) + n) (by omega) (by omega), wrap_i64 (n := 2 * n) (by omega) (by omega)]
      refine pw_cfp rfl rfl (rfloor_ok (by omega) (by omega) (by omega)) (by repeat (first | exact trivial | refine ⟨by assumption, ?_⟩)) ?_
      repeat (first | (refine pw_pick rfl rfl (by first | exact fun _ => rfl | exact fun h => (by simp only [if_pos h]; rfl) | exact fun h => (by simp only [if_pos h]; assumption)) (by first | exact fun _ => rfl | exact fun h => (by simp only [if_pos h]; rfl) | exact fun h => (by simp only [if_pos h]; assumption)) ?_) | (refine pw_mvt rfl ?_) | (refine pw_max rfl rfl rfl ?_) | (refine pw_min rfl rfl rfl ?_) | (refine pw_mvc ?_) | (refine pw_p rfl rfl ?_) | (refine pw_l1 rfl rfl (by assumption) ?_) | (refine pw_ln rfl rfl (by assumption) ?_) | (refine pw_lk1 rfl rfl (by assumption) ?_) | (refine pw_lkn rfl rfl (by assumption) ?_) | (refine pw_pg rfl rfl (by first | exact fun _ => rfl | exact fun _ => (by assumption) | exact fun h => (by simp only [if_pos h]; rfl) | exact fun h => (by simp only [if_pos h]; assumption)) ?_) | (refine pw_lg1 rfl rfl (by first | exact fun _ => rfl | exact fun h => (by simp only [if_pos h]; rfl) | exact fun h => (by simp only [if_pos h]; assumption)) (by assumption) ?_) | (refine pw_p rfl (by assumption) ?_) | (refine pw_nil ?_) | (refine ps_seq ?_) | (refine ps_ops0 mix ?_) | (refine ps_skip ?_) | (refine ps_block ?_))
      obtain ⟨v', H5, a1, a2, a3, a4, a5, a6⟩ := hP'.append1 (H1 := H'.push (.row 2 (ptC (lineK p q n k)) .lf true)) (bb := H'.nx) (p := lineK p q n k) (Nat.le_refl _) (hwf'.push _) (fun b hb => by rw [Hp.get_push, if_neg (by omega)]) (by simp) (by rw [Hp.get_push, if_pos rfl]) hnx (by simp; omega)
      refine pw_b1 (cs := ptC (lineK p q n k)) rfl rfl rfl ?_
      refine pw_app rfl rfl rfl a1 a2 trivial ?_
      repeat (first | (refine pw_pick rfl rfl (by first | exact fun _ => rfl | exact fun h => (by simp only [if_pos h]; rfl) | exact fun h => (by simp only [if_pos h]; assumption)) (by first | exact fun _ => rfl | exact fun h => (by simp only [if_pos h]; rfl) | exact fun h => (by simp only [if_pos h]; assumption)) ?_) | (refine pw_mvt rfl ?_) | (refine pw_max rfl rfl rfl ?_) | (refine pw_min rfl rfl rfl ?_) | (refine pw_mvc ?_) | (refine pw_p rfl rfl ?_) | (refine pw_l1 rfl rfl (by assumption) ?_) | (refine pw_ln rfl rfl (by assumption) ?_) | (refine pw_lk1 rfl rfl (by assumption) ?_) | (refine pw_lkn rfl rfl (by assumption) ?_) | (refine pw_pg rfl rfl (by first | exact fun _ => rfl | exact fun _ => (by assumption) | exact fun h => (by simp only [if_pos h]; rfl) | exact fun h => (by simp only [if_pos h]; assumption)) ?_) | (refine pw_lg1 rfl rfl (by first | exact fun _ => rfl | exact fun h => (by simp only [if_pos h]; rfl) | exact fun h => (by simp only [if_pos h]; assumption)) (by assumption) ?_) | (refine pw_p rfl (by assumption) ?_) | (refine pw_nil ?_) | (refine ps_seq ?_) | (refine ps_ops0 mix ?_) | (refine ps_skip ?_) | (refine ps_block ?_))
      have hne : ∀ b, b < H.nx + 2 → ownB v ≠ some b := fun b hb e => by have := hP'.2 b e; omega
      refine ⟨m - 1, by omega, _, (SubE.cons (k := 2) rfl (SubE.cons (k := 3) rfl (SubE.cons (k := 5) rfl (SubE.cons (k := 6) rfl (SubE.cons (k := 7) rfl (SubE.nil _)))))), k + 1, by omega, v', ?_, by omega, g1.same (a4 _ (by omega) (hne _ (by omega))), g2.same (a4 _ (by omega) (hne _ (by omega))), ?_⟩
      · rw [wrap_i64 (by omega) (by omega)]; rfl
      · rw [List.range_succ, List.map_append]; exact a3
    · simp at ht2
      obtain ⟨c, rfl⟩ := hP'.one
      refine ps_exit ?_
      repeat (first | (refine pw_pick rfl rfl (by first | exact fun _ => rfl | exact fun h => (by simp only [if_pos h]; rfl) | exact fun h => (by simp only [if_pos h]; assumption)) (by first | exact fun _ => rfl | exact fun h => (by simp only [if_pos h]; rfl) | exact fun h => (by simp only [if_pos h]; assumption)) ?_) | (refine pw_mvt rfl ?_) | (refine pw_max rfl rfl rfl ?_) | (refine pw_min rfl rfl rfl ?_) | (refine pw_mvc ?_) | (refine pw_p rfl rfl ?_) | (refine pw_l1 rfl rfl (by assumption) ?_) | (refine pw_ln rfl rfl (by assumption) ?_) | (refine pw_lk1 rfl rfl (by assumption) ?_) | (refine pw_lkn rfl rfl (by assumption) ?_) | (refine pw_pg rfl rfl (by first | exact fun _ => rfl | exact fun _ => (by assumption) | exact fun h => (by simp only [if_pos h]; rfl) | exact fun h => (by simp only [if_pos h]; assumption)) ?_) | (refine pw_lg1 rfl rfl (by first | exact fun _ => rfl | exact fun h => (by simp only [if_pos h]; rfl) | exact fun h => (by simp only [if_pos h]; assumption)) (by assumption) ?_) | (refine pw_p rfl (by assumption) ?_) | (refine pw_nil ?_) | (refine ps_seq ?_) | (refine ps_ops0 mix ?_) | (refine ps_skip ?_) | (refine ps_block ?_))
      refine ps_ret ⟨_, rfl, ?_⟩
      rw [lineP, hn, if_neg ht, show n.toNat + 1 = k by omega]
      exact hP'.mono (by omega) (Nat.le_refl _)
theorem rline_ok {H : Hp} {p q : Pt} (hp : Small 1000 p) (hq : Small 1000 q) : ACalls Tryd.prog 1 17 [ptV p, ptV q] H fun v H' => POwn H' H.nx H'.nx (lineP p q) v ∧ Ext H H' :=
  (ACalls.grow (rline_ro hp hq)).mono fun v H' ⟨H1, hg, e1, e2, e3, e4, _⟩ => by
    subst e1
    exact ⟨hg.same fun b hb => e4 b (hg.2 b hb).1, e3, e2⟩
end Go.Ab.Fn

namespace Go.Ab.Fn
open Go.Ab Go.Proofs
set_option linter.unusedSimpArgs false

theorem line_ro {H : Hp} {p q : Pt} (hp : Small 1000 p) (hq : Small 1000 q) : ACalls Tryd.prog 1 14 [ptV p, ptV q] H fun v H' => POwn H' H.nx H'.nx (lineP p q) v := by
  have hfb := far_bd hp hq
  have hp' : Small 1000000000000000000 p := by obtain ⟨p1, p2, p3, p4⟩ := hp; exact ⟨by omega, by omega, by omega, by omega⟩
  have hq' : Small 1000000000000000000 q := by obtain ⟨p1, p2, p3, p4⟩ := hq; exact ⟨by omega, by omega, by omega, by omega⟩
  refine pfn_ok cp14 (by simp [f14]) fun hwf => ?_
  obtain ⟨hw1, hx1, hb1⟩ := new_box hwf (ptC p) rfl
  obtain ⟨hw2, hx2, hb2⟩ := new_box hw1 (ptC q) rfl
  refine ps_seq (ps_ops0 mix (pw_a rfl rfl (pw_a rfl rfl (pw_mvc (pw_nil ?_)))))
  replace hb1 := hb1.ext hx2
  have hn2 : ((H.push (.row (ptC p).length (ptC p) .lf true)).push (.row (ptC q).length (ptC q) .lf true)).nx = H.nx + 2 := rfl
  generalize ((H.push _).push _) = H2 at *
  have l1 := hb1.2
  have l2 := hb2.2
  refine ps_seq (ps_seq (ps_ops0 mix ?_))
  refine pw_ln rfl rfl l1 (pw_ln rfl rfl l2 ?_)
  obtain ⟨hw3, hx3, hb3⟩ := new_box (n := 4) hw2 (ptC p ++ ptC q) rfl
  refine pw_a (bk := .row 4 (ptC p ++ ptC q) .lf true) (g := fun b => .one (.slc b 0 2 2 2 true)) rfl rfl ?_
  have hpts : Pts (H2.push (.row 4 (ptC p ++ ptC q) .lf true)) [p, q] (.one (.slc H2.nx 0 2 2 2 true)) := ⟨rfl, .inr ⟨H2.nx, 0, 2, true, rfl, hb3.2⟩⟩
  have hnear : nearB [p, q] = true := by
    obtain ⟨p1, p2, p3, p4⟩ := hp
    obtain ⟨q1, q2, q3, q4⟩ := hq
    simp [nearB]
    omega
  refine pw_cfp rfl rfl (near_ok hpts (by simp)) (by repeat (first | exact trivial | refine ⟨by assumption, ?_⟩)) ?_
  rw [hnear]
  replace hb1 := hb1.ext hx3
  replace hb2 := hb2.ext hx3
  replace l1 := hb1.2
  replace l2 := hb2.2
  have hn3 : (H2.push (.row 4 (ptC p ++ ptC q) .lf true)).nx = H.nx + 3 := by simp [hn2]
  generalize (H2.push (.row 4 (ptC p ++ ptC q) .lf true)) = H3 at *
  repeat (first | (refine pw_pick rfl rfl (by first | exact fun _ => rfl | exact fun h => (by simp only [if_pos h]; rfl) | exact fun h => (by simp only [if_pos h]; assumption)) (by first | exact fun _ => rfl | exact fun h => (by simp only [if_pos h]; rfl) | exact fun h => (by simp only [if_pos h]; assumption)) ?_) | (refine pw_mvt rfl ?_) | (refine pw_max rfl rfl rfl ?_) | (refine pw_min rfl rfl rfl ?_) | (refine pw_mvc ?_) | (refine pw_p rfl rfl ?_) | (refine pw_l1 rfl rfl (by assumption) ?_) | (refine pw_ln rfl rfl (by assumption) ?_) | (refine pw_lk1 rfl rfl (by assumption) ?_) | (refine pw_lkn rfl rfl (by assumption) ?_) | (refine pw_pg rfl rfl (by first | exact fun _ => rfl | exact fun _ => (by assumption) | exact fun h => (by simp only [if_pos h]; rfl) | exact fun h => (by simp only [if_pos h]; assumption)) ?_) | (refine pw_lg1 rfl rfl (by first | exact fun _ => rfl | exact fun h => (by simp only [if_pos h]; rfl) | exact fun h => (by simp only [if_pos h]; assumption)) (by assumption) ?_) | (refine pw_p rfl (by assumption) ?_) | (refine pw_nil ?_) | (refine ps_seq ?_) | (refine ps_ops0 mix ?_) | (refine ps_skip ?_) | (refine ps_block ?_))
  refine ps_if rfl rfl (fun ht => by cases ht) (fun _ => ?_)
  repeat (first | (refine pw_pick rfl rfl (by first | exact fun _ => rfl | exact fun h => (by simp only [if_pos h]; rfl) | exact fun h => (by simp only [if_pos h]; assumption)) (by first | exact fun _ => rfl | exact fun h => (by simp only [if_pos h]; rfl) | exact fun h => (by simp only [if_pos h]; assumption)) ?_) | (refine pw_mvt rfl ?_) | (refine pw_max rfl rfl rfl ?_) | (refine pw_min rfl rfl rfl ?_) | (refine pw_mvc ?_) | (refine pw_p rfl rfl ?_) | (refine pw_l1 rfl rfl (by assumption) ?_) | (refine pw_ln rfl rfl (by assumption) ?_) | (refine pw_lk1 rfl rfl (by assumption) ?_) | (refine pw_lkn rfl rfl (by assumption) ?_) | (refine pw_pg rfl rfl (by first | exact fun _ => rfl | exact fun _ => (by assumption) | exact fun h => (by simp only [if_pos h]; rfl) | exact fun h => (by simp only [if_pos h]; assumption)) ?_) | (refine pw_lg1 rfl rfl (by first | exact fun _ => rfl | exact fun h => (by simp only [if_pos h]; rfl) | exact fun h => (by simp only [if_pos h]; assumption)) (by assumption) ?_) | (refine pw_p rfl (by assumption) ?_) | (refine pw_nil ?_) | (refine ps_seq ?_) | (refine ps_ops0 mix ?_) | (refine ps_skip ?_) | (refine ps_block ?_))
  refine pw_cfp rfl rfl (apart_ok hp' hq') (by repeat (first | exact trivial | refine ⟨by assumption, ?_⟩)) ?_
  repeat (first | (refine pw_pick rfl rfl (by first | exact fun _ => rfl | exact fun h => (by simp only [if_pos h]; rfl) | exact fun h => (by simp only [if_pos h]; assumption)) (by first | exact fun _ => rfl | exact fun h => (by simp only [if_pos h]; rfl) | exact fun h => (by simp only [if_pos h]; assumption)) ?_) | (refine pw_mvt rfl ?_) | (refine pw_max rfl rfl rfl ?_) | (refine pw_min rfl rfl rfl ?_) | (refine pw_mvc ?_) | (refine pw_p rfl rfl ?_) | (refine pw_l1 rfl rfl (by assumption) ?_) | (refine pw_ln rfl rfl (by assumption) ?_) | (refine pw_lk1 rfl rfl (by assumption) ?_) | (refine pw_lkn rfl rfl (by assumption) ?_) | (refine pw_pg rfl rfl (by first | exact fun _ => rfl | exact fun _ => (by assumption) | exact fun h => (by simp only [if_pos h]; rfl) | exact fun h => (by simp only [if_pos h]; assumption)) ?_) | (refine pw_lg1 rfl rfl (by first | exact fun _ => rfl | exact fun h => (by simp only [if_pos h]; rfl) | exact fun h => (by simp only [if_pos h]; assumption)) (by assumption) ?_) | (refine pw_p rfl (by assumption) ?_) | (refine pw_nil ?_) | (refine ps_seq ?_) | (refine ps_ops0 mix ?_) | (refine ps_skip ?_) | (refine ps_block ?_))
  refine ps_sub (SubE.cons (k := 2) rfl (SubE.cons (k := 3) rfl (SubE.cons (k := 5) rfl (SubE.cons (k := 17) rfl (SubE.nil _))))) ?_
  generalize hn : far p q = n at *
  refine ps_if rfl rfl (fun ht => ?_) (fun ht => ?_)
  · simp at ht
    repeat (first | (refine pw_pick rfl rfl (by first | exact fun _ => rfl | exact fun h => (by simp only [if_pos h]; rfl) | exact fun h => (by simp only [if_pos h]; assumption)) (by first | exact fun _ => rfl | exact fun h => (by simp only [if_pos h]; rfl) | exact fun h => (by simp only [if_pos h]; assumption)) ?_) | (refine pw_mvt rfl ?_) | (refine pw_max rfl rfl rfl ?_) | (refine pw_min rfl rfl rfl ?_) | (refine pw_mvc ?_) | (refine pw_p rfl rfl ?_) | (refine pw_l1 rfl rfl (by assumption) ?_) | (refine pw_ln rfl rfl (by assumption) ?_) | (refine pw_lk1 rfl rfl (by assumption) ?_) | (refine pw_lkn rfl rfl (by assumption) ?_) | (refine pw_pg rfl rfl (by first | exact fun _ => rfl | exact fun _ => (by assumption) | exact fun h => (by simp only [if_pos h]; rfl) | exact fun h => (by simp only [if_pos h]; assumption)) ?_) | (refine pw_lg1 rfl rfl (by first | exact fun _ => rfl | exact fun h => (by simp only [if_pos h]; rfl) | exact fun h => (by simp only [if_pos h]; assumption)) (by assumption) ?_) | (refine pw_p rfl (by assumption) ?_) | (refine pw_nil ?_) | (refine ps_seq ?_) | (refine ps_ops0 mix ?_) | (refine ps_skip ?_) | (refine ps_block ?_))
    refine pw_b1 rfl rfl rfl ?_
    refine pw_mvt rfl (pw_nil (ps_ret ⟨_, rfl, ?_⟩))
    rw [lineP, if_pos (by omega)]
    refine ⟨⟨rfl, .inr ⟨H3.nx, true, rfl, by omega, ?_⟩⟩, fun b hb => by obtain rfl := Option.some.inj hb; simp; omega⟩
    exact Row.new (ptC p)
  · simp at ht
    repeat (first | (refine pw_pick rfl rfl (by first | exact fun _ => rfl | exact fun h => (by simp only [if_pos h]; rfl) | exact fun h => (by simp only [if_pos h]; assumption)) (by first | exact fun _ => rfl | exact fun h => (by simp only [if_pos h]; rfl) | exact fun h => (by simp only [if_pos h]; assumption)) ?_) | (refine pw_mvt rfl ?_) | (refine pw_max rfl rfl rfl ?_) | (refine pw_min rfl rfl rfl ?_) | (refine pw_mvc ?_) | (refine pw_p rfl rfl ?_) | (refine pw_l1 rfl rfl (by assumption) ?_) | (refine pw_ln rfl rfl (by assumption) ?_) | (refine pw_lk1 rfl rfl (by assumption) ?_) | (refine pw_lkn rfl rfl (by assumption) ?_) | (refine pw_pg rfl rfl (by first | exact fun _ => rfl | exact fun _ => (by assumption) | exact fun h => (by simp only [if_pos h]; rfl) | exact fun h => (by simp only [if_pos h]; assumption)) ?_) | (refine pw_lg1 rfl rfl (by first | exact fun _ => rfl | exact fun h => (by simp only [if_pos h]; rfl) | exact fun h => (by simp only [if_pos h]; assumption)) (by assumption) ?_) | (refine pw_p rfl (by assumption) ?_) | (refine pw_nil ?_) | (refine ps_seq ?_) | (refine ps_ops0 mix ?_) | (refine ps_skip ?_) | (refine ps_block ?_))
    obtain ⟨N, hN⟩ : ∃ N : Nat, n = N := ⟨n.toNat, by omega⟩
    subst hN
    rw [wrap_i64 (n := (N : Int) + 1) (by omega) (by omega)]
    refine pw_mkc (n := 0) (m := N + 1) rfl rfl rfl (by omega) (by omega) (by omega) ?_
    have hr0 : PRoom (H3.push (.row ((N + 1) * 2) [.int .i64 0, .int .i64 0] .lf true)) H3.nx (N + 1) [] := PRoom.new (by rw [Hp.get_push, if_pos rfl])
    have hx4 := Ext.push hw3 (Ext.refl H3) (.row ((N + 1) * 2) [.int .i64 0, .int .i64 0] .lf true)
    replace hb1 := hb1.ext hx4
    replace hb2 := hb2.ext hx4
    have hn4 : (H3.push (.row ((N + 1) * 2) [.int .i64 0, .int .i64 0] .lf true)).nx = H.nx + 4 := by simp [hn3]
    generalize (H3.push (.row ((N + 1) * 2) [.int .i64 0, .int .i64 0] .lf true)) = H4 at *
    rw [hn3] at hr0 ⊢
    repeat (first | (refine pw_pick rfl rfl (by first | exact fun _ => rfl | exact fun h => (by simp only [if_pos h]; rfl) | exact fun h => (by simp only [if_pos h]; assumption)) (by first | exact fun _ => rfl | exact fun h => (by simp only [if_pos h]; rfl) | exact fun h => (by simp only [if_pos h]; assumption)) ?_) | (refine pw_mvt rfl ?_) | (refine pw_max rfl rfl rfl ?_) | (refine pw_min rfl rfl rfl ?_) | (refine pw_mvc ?_) | (refine pw_p rfl rfl ?_) | (refine pw_l1 rfl rfl (by assumption) ?_) | (refine pw_ln rfl rfl (by assumption) ?_) | (refine pw_lk1 rfl rfl (by assumption) ?_) | (refine pw_lkn rfl rfl (by assumption) ?_) | (refine pw_pg rfl rfl (by first | exact fun _ => rfl | exact fun _ => (by assumption) | exact fun h => (by simp only [if_pos h]; rfl) | exact fun h => (by simp only [if_pos h]; assumption)) ?_) | (refine pw_lg1 rfl rfl (by first | exact fun _ => rfl | exact fun h => (by simp only [if_pos h]; rfl) | exact fun h => (by simp only [if_pos h]; assumption)) (by assumption) ?_) | (refine pw_p rfl (by assumption) ?_) | (refine pw_nil ?_) | (refine ps_seq ?_) | (refine ps_ops0 mix ?_) | (refine ps_skip ?_) | (refine ps_block ?_))
    rw [wrap_i64 (n := (N : Int) + 1) (by omega) (by omega)]
    refine ps_loop (fun m E H' => ∃ k : Nat, k + m = N + 1 ∧ E = [(2, .one (.ptr H.nx 0)), (3, .one (.ptr (H.nx + 1) 0)), (5, .int N), (6, .one (.slc (H.nx + 3) 0 k (N + 1) 2 true)), (24, .int (N + 1)), (25, .int k)] ∧ H.nx + 4 ≤ H'.nx ∧ Row H' H.nx (ptC p) ∧ Row H' (H.nx + 1) (ptC q) ∧ PRoom H' (H.nx + 3) (N + 1) ((List.range k).map (lineK p q N))) (m := N + 1) ⟨_, (SubE.cons (k := 2) rfl (SubE.cons (k := 3) rfl (SubE.cons (k := 5) rfl (SubE.cons (k := 6) rfl (SubE.cons (k := 24) rfl (SubE.cons (k := 25) rfl (SubE.nil _))))))), 0, by omega, rfl, by omega, hb1, hb2, hr0⟩ ?_
    rintro m E H' hwf' ⟨k, hk, rfl, hnx, g1, g2, hP'⟩
    have c0 := g1.cell (i := 0) rfl
    have c1 := g1.cell (i := 1) rfl
    have d0 := g2.cell (i := 0) rfl
    have d1 := g2.cell (i := 1) rfl
    obtain ⟨p1, p2, p3, p4⟩ := hp
    obtain ⟨q1, q2, q3, q4⟩ := hq
    repeat (first | (refine pw_pick rfl rfl (by first | exact fun _ => rfl | exact fun h => (by simp only [if_pos h]; rfl) | exact fun h => (by simp only [if_pos h]; assumption)) (by first | exact fun _ => rfl | exact fun h => (by simp only [if_pos h]; rfl) | exact fun h => (by simp only [if_pos h]; assumption)) ?_) | (refine pw_mvt rfl ?_) | (refine pw_max rfl rfl rfl ?_) | (refine pw_min rfl rfl rfl ?_) | (refine pw_mvc ?_) | (refine pw_p rfl rfl ?_) | (refine pw_l1 rfl rfl (by assumption) ?_) | (refine pw_ln rfl rfl (by assumption) ?_) | (refine pw_lk1 rfl rfl (by assumption) ?_) | (refine pw_lkn rfl rfl (by assumption) ?_) | (refine pw_pg rfl rfl (by first | exact fun _ => rfl | exact fun _ => (by assumption) | exact fun h => (by simp only [if_pos h]; rfl) | exact fun h => (by simp only [if_pos h]; assumption)) ?_) | (refine pw_lg1 rfl rfl (by first | exact fun _ => rfl | exact fun h => (by simp only [if_pos h]; rfl) | exact fun h => (by simp only [if_pos h]; assumption)) (by assumption) ?_) | (refine pw_p rfl (by assumption) ?_) | (refine pw_nil ?_) | (refine ps_seq ?_) | (refine ps_ops0 mix ?_) | (refine ps_skip ?_) | (refine ps_block ?_))
    refine ps_if rfl rfl (fun ht2 => ?_) (fun ht2 => ?_)
    · simp at ht2
      repeat (first | (refine pw_pick rfl rfl (by first | exact fun _ => rfl | exact fun h => (by simp only [if_pos h]; rfl) | exact fun h => (by simp only [if_pos h]; assumption)) (by first | exact fun _ => rfl | exact fun h => (by simp only [if_pos h]; rfl) | exact fun h => (by simp only [if_pos h]; assumption)) ?_) | (refine pw_mvt rfl ?_) | (refine pw_max rfl rfl rfl ?_) | (refine pw_min rfl rfl rfl ?_) | (refine pw_mvc ?_) | (refine pw_p rfl rfl ?_) | (refine pw_l1 rfl rfl (by assumption) ?_) | (refine pw_ln rfl rfl (by assumption) ?_) | (refine pw_lk1 rfl rfl (by assumption) ?_) | (refine pw_lkn rfl rfl (by assumption) ?_) | (refine pw_pg rfl rfl (by first | exact fun _ => rfl | exact fun _ => (by assumption) | exact fun h => (by simp only [if_pos h]; rfl) | exact fun h => (by simp only [if_pos h]; assumption)) ?_) | (refine pw_lg1 rfl rfl (by first | exact fun _ => rfl | exact fun h => (by simp only [if_pos h]; rfl) | exact fun h => (by simp only [if_pos h]; assumption)) (by assumption) ?_) | (refine pw_p rfl (by assumption) ?_) | (refine pw_nil ?_) | (refine ps_seq ?_) | (refine ps_ops0 mix ?_) | (refine ps_skip ?_) | (refine ps_block ?_))
      refine ps_ops mix ?_
      repeat (first | (refine pw_pick rfl rfl (by first | exact fun _ => rfl | exact fun h => (by simp only [if_pos h]; rfl) | exact fun h => (by simp only [if_pos h]; assumption)) (by first | exact fun _ => rfl | exact fun h => (by simp only [if_pos h]; rfl) | exact fun h => (by simp only [if_pos h]; assumption)) ?_) | (refine pw_mvt rfl ?_) | (refine pw_max rfl rfl rfl ?_) | (refine pw_min rfl rfl rfl ?_) | (refine pw_mvc ?_) | (refine pw_p rfl rfl ?_) | (refine pw_l1 rfl rfl (by assumption) ?_) | (refine pw_ln rfl rfl (by assumption) ?_) | (refine pw_lk1 rfl rfl (by assumption) ?_) | (refine pw_lkn rfl rfl (by assumption) ?_) | (refine pw_pg rfl rfl (by first | exact fun _ => rfl | exact fun _ => (by assumption) | exact fun h => (by simp only [if_pos h]; rfl) | exact fun h => (by simp only [if_pos h]; assumption)) ?_) | (refine pw_lg1 rfl rfl (by first | exact fun _ => rfl | exact fun h => (by simp only [if_pos h]; rfl) | exact fun h => (by simp only [if_pos h]; assumption)) (by assumption) ?_) | (refine pw_p rfl (by assumption) ?_) | (refine pw_nil ?_) | (refine ps_seq ?_) | (refine ps_ops0 mix ?_) | (refine ps_skip ?_) | (refine ps_block ?_))
      refine pw_cfp rfl rfl (between_ok (by omega) (by omega) (by omega) (by omega) (by omega) (by omega) (by omega) (by omega)) (by repeat (first | exact trivial | refine ⟨by assumption, ?_⟩)) ?_
      repeat (first | (refine pw_pick rfl rfl (by first | exact fun _ => rfl | exact fun h => (by simp only [if_pos h]; rfl) | exact fun h => (by simp only [if_pos h]; assumption)) (by first | exact fun _ => rfl | exact fun h => (by simp only [if_pos h]; rfl) | exact fun h => (by simp only [if_pos h]; assumption)) ?_) | (refine pw_mvt rfl ?_) | (refine pw_max rfl rfl rfl ?_) | (refine pw_min rfl rfl rfl ?_) | (refine pw_mvc ?_) | (refine pw_p rfl rfl ?_) | (refine pw_l1 rfl rfl (by assumption) ?_) | (refine pw_ln rfl rfl (by assumption) ?_) | (refine pw_lk1 rfl rfl (by assumption) ?_) | (refine pw_lkn rfl rfl (by assumption) ?_) | (refine pw_pg rfl rfl (by first | exact fun _ => rfl | exact fun _ => (by assumption) | exact fun h => (by simp only [if_pos h]; rfl) | exact fun h => (by simp only [if_pos h]; assumption)) ?_) | (refine pw_lg1 rfl rfl (by first | exact fun _ => rfl | exact fun h => (by simp only [if_pos h]; rfl) | exact fun h => (by simp only [if_pos h]; assumption)) (by assumption) ?_) | (refine pw_p rfl (by assumption) ?_) | (refine pw_nil ?_) | (refine ps_seq ?_) | (refine ps_ops0 mix ?_) | (refine ps_skip ?_) | (refine ps_block ?_))
      refine pw_cfp rfl rfl (between_ok (by omega) (by omega) (by omega) (by omega) (by omega) (by omega) (by omega) (by omega)) (by repeat (first | exact trivial | refine ⟨by assumption, ?_⟩)) ?_
      repeat (first | (refine pw_pick rfl rfl (by first | exact fun _ => rfl | exact fun h => (by simp only [if_pos h]; rfl) | exact fun h => (by simp only [if_pos h]; assumption)) (by first | exact fun _ => rfl | exact fun h => (by simp only [if_pos h]; rfl) | exact fun h => (by simp only [if_pos h]; assumption)) ?_) | (refine pw_mvt rfl ?_) | (refine pw_max rfl rfl rfl ?_) | (refine pw_min rfl rfl rfl ?_) | (refine pw_mvc ?_) | (refine pw_p rfl rfl ?_) | (refine pw_l1 rfl rfl (by assumption) ?_) | (refine pw_ln rfl rfl (by assumption) ?_) | (refine pw_lk1 rfl rfl (by assumption) ?_) | (refine pw_lkn rfl rfl (by assumption) ?_) | (refine pw_pg rfl rfl (by first | exact fun _ => rfl | exact fun _ => (by assumption) | exact fun h => (by simp only [if_pos h]; rfl) | exact fun h => (by simp only [if_pos h]; assumption)) ?_) | (refine pw_lg1 rfl rfl (by first | exact fun _ => rfl | exact fun h => (by simp only [if_pos h]; rfl) | exact fun h => (by simp only [if_pos h]; assumption)) (by assumption) ?_) | (refine pw_p rfl (by assumption) ?_) | (refine pw_nil ?_) | (refine ps_seq ?_) | (refine ps_ops0 mix ?_) | (refine ps_skip ?_) | (refine ps_block ?_))
      refine pw_b1i (cs := ptC (lineK p q N k)) rfl rfl rfl ?_
      have hkl : ((List.range k).map (lineK p q N)).length = k := by simp
      generalize hH5 : Hp.add (Hp.skip H' 19) (H'.nx + 16) (.row (ptC (lineK p q N k)).length (ptC (lineK p q N k)) .lf true) = H5
      have hold : ∀ b, b < H'.nx → H5.get b = H'.get b := fun b hb => by rw [← hH5, Hp.get_add_ne _ _ (by omega), Hp.get_skip]
      have hsrc : H5.loads (H'.nx + 16) 0 (1 * 2) = some (ptC (lineK p q N k)) := loads_row (cs := ptC (lineK p q N k)) (rw := true) (by rw [← hH5, Hp.get_add_self])
      obtain ⟨H6, a1, a2, a3, a4⟩ := (hP'.same (hold (H.nx + 3) (by omega))).append (by rw [hkl]; omega) 16 true (lineK p q N k)
      rw [hkl] at a1
      refine pw_app rfl rfl rfl (src_row hsrc) a1 (watch_all (allCtx.mem ?_)) ?_
      · refine ⟨?_, ?_, trivial⟩
        · exact ((g2.same (hold _ (by omega))).same (a3 _ (by omega))).cell rfl
        · exact ((g1.same (hold _ (by omega))).same (a3 _ (by omega))).cell rfl
      repeat (first | (refine pw_pick rfl rfl (by first | exact fun _ => rfl | exact fun h => (by simp only [if_pos h]; rfl) | exact fun h => (by simp only [if_pos h]; assumption)) (by first | exact fun _ => rfl | exact fun h => (by simp only [if_pos h]; rfl) | exact fun h => (by simp only [if_pos h]; assumption)) ?_) | (refine pw_mvt rfl ?_) | (refine pw_max rfl rfl rfl ?_) | (refine pw_min rfl rfl rfl ?_) | (refine pw_mvc ?_) | (refine pw_p rfl rfl ?_) | (refine pw_l1 rfl rfl (by assumption) ?_) | (refine pw_ln rfl rfl (by assumption) ?_) | (refine pw_lk1 rfl rfl (by assumption) ?_) | (refine pw_lkn rfl rfl (by assumption) ?_) | (refine pw_pg rfl rfl (by first | exact fun _ => rfl | exact fun _ => (by assumption) | exact fun h => (by simp only [if_pos h]; rfl) | exact fun h => (by simp only [if_pos h]; assumption)) ?_) | (refine pw_lg1 rfl rfl (by first | exact fun _ => rfl | exact fun h => (by simp only [if_pos h]; rfl) | exact fun h => (by simp only [if_pos h]; assumption)) (by assumption) ?_) | (refine pw_p rfl (by assumption) ?_) | (refine pw_nil ?_) | (refine ps_seq ?_) | (refine ps_ops0 mix ?_) | (refine ps_skip ?_) | (refine ps_block ?_))
      have hn6 : H6.nx = H'.nx + 19 := by rw [a4, ← hH5]; simp
      refine ⟨m - 1, by omega, _, (SubE.cons (k := 2) rfl (SubE.cons (k := 3) rfl (SubE.cons (k := 5) rfl (SubE.cons (k := 6) rfl (SubE.cons (k := 24) rfl (SubE.cons (k := 25) rfl (SubE.nil _))))))), k + 1, by omega, ?_, by omega, (g1.same (hold _ (by omega))).same (a3 _ (by omega)), (g2.same (hold _ (by omega))).same (a3 _ (by omega)), ?_⟩
      · rw [wrap_i64 (by omega) (by omega)]; rfl
      · rw [List.range_succ, List.map_append]; exact a2
    · simp at ht2
      obtain rfl : k = N + 1 := by omega
      refine ps_exit ?_
      repeat (first | (refine pw_pick rfl rfl (by first | exact fun _ => rfl | exact fun h => (by simp only [if_pos h]; rfl) | exact fun h => (by simp only [if_pos h]; assumption)) (by first | exact fun _ => rfl | exact fun h => (by simp only [if_pos h]; rfl) | exact fun h => (by simp only [if_pos h]; assumption)) ?_) | (refine pw_mvt rfl ?_) | (refine pw_max rfl rfl rfl ?_) | (refine pw_min rfl rfl rfl ?_) | (refine pw_mvc ?_) | (refine pw_p rfl rfl ?_) | (refine pw_l1 rfl rfl (by assumption) ?_) | (refine pw_ln rfl rfl (by assumption) ?_) | (refine pw_lk1 rfl rfl (by assumption) ?_) | (refine pw_lkn rfl rfl (by assumption) ?_) | (refine pw_pg rfl rfl (by first | exact fun _ => rfl | exact fun _ => (by assumption) | exact fun h => (by simp only [if_pos h]; rfl) | exact fun h => (by simp only [if_pos h]; assumption)) ?_) | (refine pw_lg1 rfl rfl (by first | exact fun _ => rfl | exact fun h => (by simp only [if_pos h]; rfl) | exact fun h => (by simp only [if_pos h]; assumption)) (by assumption) ?_) | (refine pw_p rfl (by assumption) ?_) | (refine pw_nil ?_) | (refine ps_seq ?_) | (refine ps_ops0 mix ?_) | (refine ps_skip ?_) | (refine ps_block ?_))
      refine ps_ret ⟨_, rfl, ?_⟩
      rw [lineP, hn, if_neg ht, Int.toNat_natCast]
      have := hP'.full (lo := H.nx) (hi := H'.nx) (ex := true) (by simp) (by omega) (by omega)
      simpa using this
theorem line_ok {H : Hp} {p q : Pt} (hp : Small 1000 p) (hq : Small 1000 q) : ACalls Tryd.prog 1 14 [ptV p, ptV q] H fun v H' => POwn H' H.nx H'.nx (lineP p q) v ∧ Ext H H' :=
  (ACalls.grow (line_ro hp hq)).mono fun v H' ⟨H1, hg, e1, e2, e3, e4, _⟩ => by
    subst e1
    exact ⟨hg.same fun b hb => e4 b (hg.2 b hb).1, e3, e2⟩
end Go.Ab.Fn

/- Deep contracts: lines; what lines are. -/
namespace Go.Ab.Fn
open Go.Ab Go.Proofs
set_option linter.unusedSimpArgs false

theorem ptsF_eq (l : List Pt2) : l.flatMap ptF = (ptsC l).map .c := by
  induction l with
  | nil => rfl
  | cons p l ih => rw [List.flatMap_cons, ih]; rfl
theorem ptsC_closed (l : List Pt2) : ∀ c ∈ ptsC l, c.closed = true := by
  intro c hc
  obtain ⟨p, _, hp⟩ := List.mem_flatMap.1 hc
  simp only [ptC, List.mem_cons, List.not_mem_nil, or_false] at hp
  rcases hp with rfl | rfl <;> rfl
theorem rd_of_own {Z : Nat → Prop} {H' : Hp} {lo hi : Nat} {l : List Pt2} {v : V} (h : POwn H' lo hi l v) (hz : ∀ b, lo ≤ b → b < hi → Z b) : RDV Z H' nob (ptsD l) v := by
  obtain ⟨⟨h1, h2⟩, h3⟩ := h
  rcases h2 with ⟨rfl, h0⟩ | ⟨b, ex, rfl, hlo, hr⟩
  · obtain rfl : l = [] := List.eq_nil_of_length_eq_zero h0
    exact ⟨_, rfl, .nil 2⟩
  · have hb := h3 b rfl
    refine ⟨_, rfl, .sl (fun _ => hz b hb.1 hb.2) (by rw [ptF_len]) (Nat.le_refl _) (by rw [← h1]; exact hr.2) fun i d c hd hc => ?_⟩
    rw [ptsF_eq, List.getElem?_map, hc] at hd
    obtain rfl := Option.some.inj hd
    exact .c c (ptsC_closed l c (List.mem_of_getElem? hc))
theorem pts_of_rd {Z : Nat → Prop} {H : Hp} {l : List Pt2} {v : V} (h : RDV Z H nob (ptsD l) v) : Pts H l v := by
  obtain ⟨c, rfl, h⟩ := h
  refine ⟨ptsC_len l, ?_⟩
  generalize hn : l.length = n at h
  generalize hq : l.flatMap ptF = q at h
  cases h with
  | nil => exact .inl ⟨rfl, rfl⟩
  | sl hz hl hcap hld hel =>
    rename_i b o cap ex cs
    refine .inr ⟨b, o, cap, ex, rfl, ?_⟩
    rw [hld]
    congr 1
    refine List.ext_getElem? fun i => ?_
    have hlen : cs.length = (ptsC l).length := by rw [loads_len hld, ptsC_len, hn]
    by_cases hi : i < cs.length
    · have e1 : q[i]? = some (.c (ptsC l)[i]) := by rw [← hq, ptsF_eq, List.getElem?_map, List.getElem?_eq_getElem (by omega)]; rfl
      have := hel i _ _ e1 (List.getElem?_eq_getElem hi)
      rw [List.getElem?_eq_getElem hi, List.getElem?_eq_getElem (by omega)]
      generalize (ptsC l)[i] = z at *
      cases this
      rfl
    · rw [List.getElem?_eq_none (by omega), List.getElem?_eq_none (by omega)]

theorem d_line {p q : Pt2} (hp : Small 1000 p) (hq : Small 1000 q) : DK 14 [ptD p, ptD q] fun d => d = ptsD (lineP p q) := fun H Z args hw hz hg ha => by
  rw [exVL_ok (ds := [ptD p, ptD q]) (vs := [ptV p, ptV q]) ⟨rfl, rfl, trivial⟩ ha]
  refine (ACalls.none (ACalls.wf (line_ok hp hq))).mono ?_
  rintro v H' ⟨⟨⟨ho, hx⟩, hw'⟩, hno⟩
  refine ⟨hw', hx.nx, fun b hb => ?_, _, rd_of_own ho fun b h1 h2 => .inr ⟨h1, h2⟩, rfl⟩
  cases hgb : H.get b with
  | none => exact hno b hb hgb
  | some bk => exact hx.get b bk hgb
theorem d_rline {p q : Pt2} (hp : Small 1000 p) (hq : Small 1000 q) : DK 17 [ptD p, ptD q] fun d => d = ptsD (lineP p q) := fun H Z args hw hz hg ha => by
  rw [exVL_ok (ds := [ptD p, ptD q]) (vs := [ptV p, ptV q]) ⟨rfl, rfl, trivial⟩ ha]
  refine (ACalls.none (ACalls.wf (rline_ok hp hq))).mono ?_
  rintro v H' ⟨⟨⟨ho, hx⟩, hw'⟩, hno⟩
  refine ⟨hw', hx.nx, fun b hb => ?_, _, rd_of_own ho fun b h1 h2 => .inr ⟨h1, h2⟩, rfl⟩
  cases hgb : H.get b with
  | none => exact hno b hb hgb
  | some bk => exact hx.get b bk hgb
theorem d_same {l r : List Pt2} (hn : l.length < 1000000000000) : DK 16 [ptsD l, ptsD r] fun d => d = .bool (decide (l = r)) := fun H Z args hw hz hg ha => by
  match args, ha with
  | [v, u], ⟨h1, h2, _⟩ =>
    refine (samePts_ok (pts_of_rd h1) (pts_of_rd h2) hn).mono ?_
    rintro x H' ⟨rfl, rfl⟩
    exact ⟨hw, Nat.le_refl _, fun _ _ => rfl, _, exact_ok rfl, rfl⟩

/- plain facts of lines -/
theorem shift_div (x t : Int) {n : Int} (hn : 0 < n) : (x + 2 * n * t) / (2 * n) = x / (2 * n) + t := Int.add_mul_ediv_left x t (by omega)
theorem half_div (a : Int) {n : Int} (hn : 0 < n) : (2 * (a * n) + n) / (2 * n) = a := by
  have h := shift_div n a hn
  rw [show n + 2 * n * a = 2 * (a * n) + n by rw [Int.mul_assoc, Int.mul_comm n a]; omega] at h
  rw [h, Int.ediv_eq_zero_of_lt (by omega) (by omega)]
  omega
theorem betw_zero (a b : Int) {n : Int} (hn : 0 < n) : betw a b 0 n = a := by
  unfold betw
  rw [Int.zero_mul, Int.add_zero]
  exact half_div a hn
theorem betw_full (a b : Int) {n : Int} (hn : 0 < n) : betw a b n n = b := by
  unfold betw
  rw [show a * n + n * (b - a) = b * n by rw [Int.mul_sub, Int.mul_comm n b, Int.mul_comm n a]; omega]
  exact half_div b hn
theorem betw_back (a b k n : Int) : betw b a (n - k) n = betw a b k n := by
  unfold betw
  congr 2
  congr 1
  rw [Int.sub_mul, Int.mul_sub, Int.mul_sub, Int.mul_sub, Int.mul_comm n a, Int.mul_comm n b]
  omega
theorem betw_move (a b c k : Int) {n : Int} (hn : 0 < n) : betw (a + c) (b + c) k n = betw a b k n + c := by
  unfold betw
  rw [← shift_div _ c hn]
  congr 1
  rw [show b + c - (a + c) = b - a by omega, Int.add_mul, Int.mul_assoc, Int.mul_comm n c]
  omega
theorem betw_in (a b k : Int) {n : Int} (hn : 0 < n) (h0 : 0 ≤ k) (h1 : k ≤ n) : min a b ≤ betw a b k n ∧ betw a b k n ≤ max a b := by
  have e := half_div (min a b) hn
  have f := half_div (max a b) hn
  have hx : min a b * n ≤ a * n + k * (b - a) ∧ a * n + k * (b - a) ≤ max a b * n := by
    by_cases hab : a ≤ b
    · rw [Int.min_eq_left hab, Int.max_eq_right hab]
      have g1 : 0 ≤ k * (b - a) := Int.mul_nonneg h0 (by omega)
      have g2 : k * (b - a) ≤ n * (b - a) := Int.mul_le_mul_of_nonneg_right h1 (by omega)
      rw [Int.mul_sub n, Int.mul_comm n b, Int.mul_comm n a] at g2
      omega
    · rw [Int.min_eq_right (by omega), Int.max_eq_left (by omega)]
      have g1 : 0 ≤ k * (a - b) := Int.mul_nonneg h0 (by omega)
      have g2 : k * (a - b) ≤ n * (a - b) := Int.mul_le_mul_of_nonneg_right h1 (by omega)
      rw [Int.mul_sub n, Int.mul_comm n b, Int.mul_comm n a] at g2
      have g3 : k * (b - a) = - (k * (a - b)) := by rw [← Int.mul_neg]; congr 1; omega
      omega
  unfold betw
  constructor
  · have := Int.ediv_le_ediv (a := 2 * (min a b * n) + n) (b := 2 * (a * n + k * (b - a)) + n) (c := 2 * n) (by omega) (by omega)
    omega
  · have := Int.ediv_le_ediv (a := 2 * (a * n + k * (b - a)) + n) (b := 2 * (max a b * n) + n) (c := 2 * n) (by omega) (by omega)
    omega
theorem betw_step (a b k : Int) {n : Int} (hn : 0 < n) (h1 : -n ≤ b - a) (h2 : b - a ≤ n) : -1 ≤ betw a b (k + 1) n - betw a b k n ∧ betw a b (k + 1) n - betw a b k n ≤ 1 ∧ (b - a = n → betw a b (k + 1) n - betw a b k n = 1) ∧ (b - a = -n → betw a b (k + 1) n - betw a b k n = -1) := by
  have e : 2 * (a * n + (k + 1) * (b - a)) + n = 2 * (a * n + k * (b - a)) + n + 2 * (b - a) := by rw [Int.add_mul]; omega
  have s1 := shift_div (2 * (a * n + k * (b - a)) + n) 1 hn
  have s2 := shift_div (2 * (a * n + k * (b - a)) + n) (-1) hn
  unfold betw
  rw [e]
  refine ⟨?_, ?_, fun h => ?_, fun h => ?_⟩
  · have := Int.ediv_le_ediv (a := 2 * (a * n + k * (b - a)) + n + 2 * n * (-1)) (b := 2 * (a * n + k * (b - a)) + n + 2 * (b - a)) (c := 2 * n) (by omega) (by omega)
    omega
  · have := Int.ediv_le_ediv (a := 2 * (a * n + k * (b - a)) + n + 2 * (b - a)) (b := 2 * (a * n + k * (b - a)) + n + 2 * n * 1) (c := 2 * n) (by omega) (by omega)
    omega
  · rw [show 2 * (b - a) = 2 * n * 1 by omega, s1]; omega
  · rw [show 2 * (b - a) = 2 * n * (-1) by omega, s2]; omega

theorem lineP_len (p q : Pt2) : (lineP p q).length = (far p q).toNat + 1 := by
  unfold lineP
  split
  · rename_i h; rw [h]; rfl
  · simp
def lineAt (p q : Pt2) (k : Nat) : Pt2 := if far p q = 0 then p else lineK p q (far p q) k
theorem lineP_at (p q : Pt2) {k : Nat} (hk : (k : Int) ≤ far p q) : (lineP p q)[k]? = some (lineAt p q k) := by
  unfold lineP lineAt
  split
  · rename_i h
    obtain rfl : k = 0 := by omega
    rfl
  · rw [List.getElem?_map, List.getElem?_range (by omega)]; rfl
theorem far_abs (p q : Pt2) : far p q = max (q.1 - p.1) (max (p.1 - q.1) (max (q.2 - p.2) (p.2 - q.2))) := by simp only [far]; omega
theorem lineAt_zero (p q : Pt2) : lineAt p q 0 = p := by
  have := far_abs p q
  unfold lineAt
  split
  · rfl
  · simp only [lineK]
    rw [Int.natCast_zero, betw_zero _ _ (by omega), betw_zero _ _ (by omega)]
theorem lineAt_full (p q : Pt2) : lineAt p q (far p q).toNat = q := by
  have h := far_abs p q
  unfold lineAt
  split
  · obtain ⟨p1, p2⟩ := p
    obtain ⟨q1, q2⟩ := q
    simp only [Prod.mk.injEq] at *
    omega
  · simp only [lineK]
    rw [Int.toNat_of_nonneg (by omega), betw_full _ _ (by omega), betw_full _ _ (by omega)]
theorem lineAt_back (p q : Pt2) {k : Nat} (hk : (k : Int) ≤ far p q) : lineAt q p ((far p q).toNat - k) = lineAt p q k := by
  have h := far_abs p q
  have hc : far q p = far p q := by simp only [far]; omega
  unfold lineAt
  rw [hc]
  split
  · obtain ⟨p1, p2⟩ := p
    obtain ⟨q1, q2⟩ := q
    simp only [Prod.mk.injEq] at *
    omega
  · simp only [lineK]
    rw [show (((far p q).toNat - k : Nat) : Int) = far p q - k by omega, betw_back, betw_back]
theorem lineAt_move (p q : Pt2) (c d : Int) (k : Nat) : lineAt (p.1 + c, p.2 + d) (q.1 + c, q.2 + d) k = ((lineAt p q k).1 + c, (lineAt p q k).2 + d) := by
  have h := far_abs p q
  have hc : far (p.1 + c, p.2 + d) (q.1 + c, q.2 + d) = far p q := by simp only [far]; omega
  unfold lineAt
  rw [hc]
  split
  · rfl
  · simp only [lineK]
    rw [betw_move _ _ _ _ (by omega), betw_move _ _ _ _ (by omega)]
theorem lineAt_in (p q : Pt2) {k : Nat} (hk : (k : Int) ≤ far p q) : min p.1 q.1 ≤ (lineAt p q k).1 ∧ (lineAt p q k).1 ≤ max p.1 q.1 ∧ min p.2 q.2 ≤ (lineAt p q k).2 ∧ (lineAt p q k).2 ≤ max p.2 q.2 := by
  have h := far_abs p q
  unfold lineAt
  split
  · omega
  · simp only [lineK]
    have h1 := betw_in p.1 q.1 k (n := far p q) (by omega) (by omega) hk
    have h2 := betw_in p.2 q.2 k (n := far p q) (by omega) (by omega) hk
    omega
theorem lineAt_step (p q : Pt2) {k : Nat} (hk : (k : Int) + 1 ≤ far p q) : far (lineAt p q k) (lineAt p q (k + 1)) = 1 := by
  have h := far_abs p q
  have hf : far p q ≠ 0 := by omega
  simp only [lineAt, if_neg hf, lineK]
  have h1 := betw_step p.1 q.1 k (n := far p q) (by omega) (by omega) (by omega)
  have h2 := betw_step p.2 q.2 k (n := far p q) (by omega) (by omega) (by omega)
  have e : ((k + 1 : Nat) : Int) = (k : Int) + 1 := by omega
  rw [e]
  rw [far_abs]
  simp only
  omega
end Go.Ab.Fn

/- The law GridLines. -/
namespace Go.Ab.Fn
open Go.Ab Go.Proofs
set_option linter.unusedSimpArgs false

def i8D (a : Int × Int) : DV := .agg [.f (.c (.int .i8 a.1)), .f (.c (.int .i8 a.2))]
def I8 (a : Int × Int) : Prop := (-128 ≤ a.1 ∧ a.1 < 128) ∧ (-128 ≤ a.2 ∧ a.2 < 128)

set_option maxHeartbeats 8000000 in
theorem d_gridLines {a b c : Int × Int} (ha : I8 a) (hb : I8 b) (hc : I8 c) : DK 4 [i8D a, i8D b, i8D c] fun d => d = .bool true := by
  obtain ⟨a1, a2⟩ := a
  obtain ⟨b1, b2⟩ := b
  obtain ⟨c1, c2⟩ := c
  obtain ⟨⟨ha1, ha2⟩, ha3, ha4⟩ := ha
  obtain ⟨⟨hb1, hb2⟩, hb3, hb4⟩ := hb
  obtain ⟨⟨hc1, hc2⟩, hc3, hc4⟩ := hc
  simp only at ha1 ha2 ha3 ha4 hb1 hb2 hb3 hb4 hc1 hc2 hc3 hc4
  have sp : Small 1000 (a1, a2) := ⟨by omega, by omega, by omega, by omega⟩
  have sq : Small 1000 (b1, b2) := ⟨by omega, by omega, by omega, by omega⟩
  have sp' : Small 1000 (a1 + c1, a2 + c2) := ⟨by simp only; omega, by simp only; omega, by simp only; omega, by simp only; omega⟩
  have sq' : Small 1000 (b1 + c1, b2 + c2) := ⟨by simp only; omega, by simp only; omega, by simp only; omega, by simp only; omega⟩
  have bp : Small 1000000000000000000 (a1, a2) := ⟨by simp only; omega, by simp only; omega, by simp only; omega, by simp only; omega⟩
  have bq : Small 1000000000000000000 (b1, b2) := ⟨by simp only; omega, by simp only; omega, by simp only; omega, by simp only; omega⟩
  have hN0 : far (a1, a2) (b1, b2) = max (b1 - a1) (max (a1 - b1) (max (b2 - a2) (a2 - b2))) := far_abs _ _
  obtain ⟨N, hN⟩ : ∃ N : Nat, far (a1, a2) (b1, b2) = N := ⟨(far (a1, a2) (b1, b2)).toNat, by omega⟩
  have hNb : N ≤ 255 := by omega
  have hNback : far (b1, b2) (a1, a2) = N := by rw [← hN]; simp only [far]; omega
  have hNmove : far (a1 + c1, a2 + c2) (b1 + c1, b2 + c2) = N := by rw [← hN]; simp only [far]; omega
  have len1 : (lineP (a1, a2) (b1, b2)).length = N + 1 := by rw [lineP_len, hN]; rfl
  have len2 : (lineP (b1, b2) (a1, a2)).length = N + 1 := by rw [lineP_len, hNback]; rfl
  have len3 : (lineP (a1 + c1, a2 + c2) (b1 + c1, b2 + c2)).length = N + 1 := by rw [lineP_len, hNmove]; rfl
  obtain ⟨A, hA⟩ : ∃ A, lineAt (a1, a2) (b1, b2) = A := ⟨_, rfl⟩
  have at1 : ∀ k, k ≤ N → (lineP (a1, a2) (b1, b2))[k]? = some (A k) := fun k hk => by rw [lineP_at _ _ (by omega), hA]
  have at2 : ∀ k, k ≤ N → (lineP (b1, b2) (a1, a2))[N - k]? = some (A k) := fun k hk => by
    rw [lineP_at _ _ (by omega), ← hA, ← lineAt_back (a1, a2) (b1, b2) (k := k) (by omega), hN]; rfl
  have at3 : ∀ k, k ≤ N → (lineP (a1 + c1, a2 + c2) (b1 + c1, b2 + c2))[k]? = some ((A k).1 + c1, (A k).2 + c2) := fun k hk => by
    rw [lineP_at _ _ (by omega), ← hA]; exact congrArg some (lineAt_move (a1, a2) (b1, b2) c1 c2 k)
  have A0 : A 0 = (a1, a2) := by rw [← hA]; exact lineAt_zero _ _
  have AN : A N = (b1, b2) := by rw [← hA]; have := lineAt_full (a1, a2) (b1, b2); rwa [hN] at this
  have Ain : ∀ k, k ≤ N → min a1 b1 ≤ (A k).1 ∧ (A k).1 ≤ max a1 b1 ∧ min a2 b2 ≤ (A k).2 ∧ (A k).2 ≤ max a2 b2 := fun k hk => by rw [← hA]; exact lineAt_in (a1, a2) (b1, b2) (by omega)
  have Ast : ∀ k, k + 1 ≤ N → far (A k) (A (k + 1)) = 1 := fun k hk => by rw [← hA]; exact lineAt_step (a1, a2) (b1, b2) (by omega)
  have hd1 := d_line sp sq
  have hd2 := d_line sq sp
  have hd3 := d_line sp' sq'
  have hd4 := d_rline sp sq
  have hd5 : DK 16 [ptsD (lineP (a1, a2) (b1, b2)), ptsD (lineP (a1, a2) (b1, b2))] fun d => d = .bool true := (d_same (by omega)).mono fun d h => by rw [h]; simp
  generalize lineP (a1, a2) (b1, b2) = l at *
  generalize lineP (b1, b2) (a1, a2) = bk at *
  generalize lineP (a1 + c1, a2 + c2) (b1 + c1, b2 + c2) = mv at *
  clear hA sp sq sp' sq' hNback hNmove
  have w1 : IntKind.i64.wrap a1 = a1 := dwrap (by omega) (by omega)
  have w2 : IntKind.i64.wrap a2 = a2 := dwrap (by omega) (by omega)
  have w3 : IntKind.i64.wrap b1 = b1 := dwrap (by omega) (by omega)
  have w4 : IntKind.i64.wrap b2 = b2 := dwrap (by omega) (by omega)
  have w5 : IntKind.i64.wrap c1 = c1 := dwrap (by omega) (by omega)
  have w6 : IntKind.i64.wrap c2 = c2 := dwrap (by omega) (by omega)
  refine dfn_ok cp4 rfl GHro fun Z0 lo => ?_
  repeat (first | (refine dw_want rfl rfl ?_) | (refine dw_skip rfl rfl ?_) | (refine dw_skipU rfl ?_) | (refine dw_pickT rfl rfl ?_) | (refine dw_pickF rfl rfl ?_) | (refine dw_pick rfl (by first | exact fun _ => rfl | exact fun h => (by simp only [if_pos h]; rfl) | exact fun h => (by simp only [h, if_true, if_false]; rfl)) (by first | exact fun _ => rfl | exact fun h => (by simp only [if_pos h]; rfl) | exact fun h => (by simp only [h, if_true, if_false]; rfl)) ?_) | (refine dw_max rfl rfl ?_) | (refine dw_min rfl rfl ?_) | (refine dw_p rfl ?_) | (refine dw_l rfl ?_) | (refine dw_lk rfl ?_) | (refine dw_pg rfl (by first | exact fun _ => rfl | exact fun h => (by simp only [if_pos h]; rfl) | exact fun h => (by simp only [h, if_true, if_false]; rfl)) ?_) | (refine dw_lg rfl (by first | exact fun _ => rfl | exact fun h => (by simp only [if_pos h]; rfl) | exact fun h => (by simp only [h, if_true, if_false]; rfl)) ?_) | (refine dw_io0 rfl rfl (by omega) (by omega) ?_) | (refine dw_if0 rfl rfl (by omega) (by decide) (by assumption) ?_) | (refine dw_if rfl rfl (by omega) (by decide) (by assumption) ?_) | (refine dw_l (dload_data rfl rfl (by assumption) rfl) ?_) | (refine dw_lk (dload_data rfl rfl (by assumption) rfl) ?_) | (refine dw_a rfl ?_) | (refine dw_ai rfl rfl rfl ?_) | (refine dw_st rfl rfl rfl rfl rfl (by decide) rfl ?_) | (refine dw_nil ?_) | (refine ds_seq ?_) | (refine ds_ops mix (fun base => ?_)) | (refine ds_skip ?_) | (refine ds_block ?_) | (refine ds_exit ?_))
  refine dw_cf rfl rfl d_sanity ?_
  rintro _ rfl
  repeat (first | (refine dw_want rfl rfl ?_) | (refine dw_skip rfl rfl ?_) | (refine dw_skipU rfl ?_) | (refine dw_pickT rfl rfl ?_) | (refine dw_pickF rfl rfl ?_) | (refine dw_pick rfl (by first | exact fun _ => rfl | exact fun h => (by simp only [if_pos h]; rfl) | exact fun h => (by simp only [h, if_true, if_false]; rfl)) (by first | exact fun _ => rfl | exact fun h => (by simp only [if_pos h]; rfl) | exact fun h => (by simp only [h, if_true, if_false]; rfl)) ?_) | (refine dw_max rfl rfl ?_) | (refine dw_min rfl rfl ?_) | (refine dw_p rfl ?_) | (refine dw_l rfl ?_) | (refine dw_lk rfl ?_) | (refine dw_pg rfl (by first | exact fun _ => rfl | exact fun h => (by simp only [if_pos h]; rfl) | exact fun h => (by simp only [h, if_true, if_false]; rfl)) ?_) | (refine dw_lg rfl (by first | exact fun _ => rfl | exact fun h => (by simp only [if_pos h]; rfl) | exact fun h => (by simp only [h, if_true, if_false]; rfl)) ?_) | (refine dw_io0 rfl rfl (by omega) (by omega) ?_) | (refine dw_if0 rfl rfl (by omega) (by decide) (by assumption) ?_) | (refine dw_if rfl rfl (by omega) (by decide) (by assumption) ?_) | (refine dw_l (dload_data rfl rfl (by assumption) rfl) ?_) | (refine dw_lk (dload_data rfl rfl (by assumption) rfl) ?_) | (refine dw_a rfl ?_) | (refine dw_ai rfl rfl rfl ?_) | (refine dw_st rfl rfl rfl rfl rfl (by decide) rfl ?_) | (refine dw_nil ?_) | (refine ds_seq ?_) | (refine ds_ops mix (fun base => ?_)) | (refine ds_skip ?_) | (refine ds_block ?_) | (refine ds_exit ?_))
  rw [w1, w2, w3, w4, w5, w6]
  refine dw_cf rfl rfl hd1 ?_
  rintro _ rfl
  repeat (first | (refine dw_want rfl rfl ?_) | (refine dw_skip rfl rfl ?_) | (refine dw_skipU rfl ?_) | (refine dw_pickT rfl rfl ?_) | (refine dw_pickF rfl rfl ?_) | (refine dw_pick rfl (by first | exact fun _ => rfl | exact fun h => (by simp only [if_pos h]; rfl) | exact fun h => (by simp only [h, if_true, if_false]; rfl)) (by first | exact fun _ => rfl | exact fun h => (by simp only [if_pos h]; rfl) | exact fun h => (by simp only [h, if_true, if_false]; rfl)) ?_) | (refine dw_max rfl rfl ?_) | (refine dw_min rfl rfl ?_) | (refine dw_p rfl ?_) | (refine dw_l rfl ?_) | (refine dw_lk rfl ?_) | (refine dw_pg rfl (by first | exact fun _ => rfl | exact fun h => (by simp only [if_pos h]; rfl) | exact fun h => (by simp only [h, if_true, if_false]; rfl)) ?_) | (refine dw_lg rfl (by first | exact fun _ => rfl | exact fun h => (by simp only [if_pos h]; rfl) | exact fun h => (by simp only [h, if_true, if_false]; rfl)) ?_) | (refine dw_io0 rfl rfl (by omega) (by omega) ?_) | (refine dw_if0 rfl rfl (by omega) (by decide) (by assumption) ?_) | (refine dw_if rfl rfl (by omega) (by decide) (by assumption) ?_) | (refine dw_l (dload_data rfl rfl (by assumption) rfl) ?_) | (refine dw_lk (dload_data rfl rfl (by assumption) rfl) ?_) | (refine dw_a rfl ?_) | (refine dw_ai rfl rfl rfl ?_) | (refine dw_st rfl rfl rfl rfl rfl (by decide) rfl ?_) | (refine dw_nil ?_) | (refine ds_seq ?_) | (refine ds_ops mix (fun base => ?_)) | (refine ds_skip ?_) | (refine ds_block ?_) | (refine ds_exit ?_))
  refine dw_cf rfl rfl hd2 ?_
  rintro _ rfl
  repeat (first | (refine dw_want rfl rfl ?_) | (refine dw_skip rfl rfl ?_) | (refine dw_skipU rfl ?_) | (refine dw_pickT rfl rfl ?_) | (refine dw_pickF rfl rfl ?_) | (refine dw_pick rfl (by first | exact fun _ => rfl | exact fun h => (by simp only [if_pos h]; rfl) | exact fun h => (by simp only [h, if_true, if_false]; rfl)) (by first | exact fun _ => rfl | exact fun h => (by simp only [if_pos h]; rfl) | exact fun h => (by simp only [h, if_true, if_false]; rfl)) ?_) | (refine dw_max rfl rfl ?_) | (refine dw_min rfl rfl ?_) | (refine dw_p rfl ?_) | (refine dw_l rfl ?_) | (refine dw_lk rfl ?_) | (refine dw_pg rfl (by first | exact fun _ => rfl | exact fun h => (by simp only [if_pos h]; rfl) | exact fun h => (by simp only [h, if_true, if_false]; rfl)) ?_) | (refine dw_lg rfl (by first | exact fun _ => rfl | exact fun h => (by simp only [if_pos h]; rfl) | exact fun h => (by simp only [h, if_true, if_false]; rfl)) ?_) | (refine dw_io0 rfl rfl (by omega) (by omega) ?_) | (refine dw_if0 rfl rfl (by omega) (by decide) (by assumption) ?_) | (refine dw_if rfl rfl (by omega) (by decide) (by assumption) ?_) | (refine dw_l (dload_data rfl rfl (by assumption) rfl) ?_) | (refine dw_lk (dload_data rfl rfl (by assumption) rfl) ?_) | (refine dw_a rfl ?_) | (refine dw_ai rfl rfl rfl ?_) | (refine dw_st rfl rfl rfl rfl rfl (by decide) rfl ?_) | (refine dw_nil ?_) | (refine ds_seq ?_) | (refine ds_ops mix (fun base => ?_)) | (refine ds_skip ?_) | (refine ds_block ?_) | (refine ds_exit ?_))
  rw [dwrap (n := a1 + c1) (by omega) (by omega), dwrap (n := a2 + c2) (by omega) (by omega), dwrap (n := b1 + c1) (by omega) (by omega), dwrap (n := b2 + c2) (by omega) (by omega)]
  refine dw_cf rfl rfl hd3 ?_
  rintro _ rfl
  repeat (first | (refine dw_want rfl rfl ?_) | (refine dw_skip rfl rfl ?_) | (refine dw_skipU rfl ?_) | (refine dw_pickT rfl rfl ?_) | (refine dw_pickF rfl rfl ?_) | (refine dw_pick rfl (by first | exact fun _ => rfl | exact fun h => (by simp only [if_pos h]; rfl) | exact fun h => (by simp only [h, if_true, if_false]; rfl)) (by first | exact fun _ => rfl | exact fun h => (by simp only [if_pos h]; rfl) | exact fun h => (by simp only [h, if_true, if_false]; rfl)) ?_) | (refine dw_max rfl rfl ?_) | (refine dw_min rfl rfl ?_) | (refine dw_p rfl ?_) | (refine dw_l rfl ?_) | (refine dw_lk rfl ?_) | (refine dw_pg rfl (by first | exact fun _ => rfl | exact fun h => (by simp only [if_pos h]; rfl) | exact fun h => (by simp only [h, if_true, if_false]; rfl)) ?_) | (refine dw_lg rfl (by first | exact fun _ => rfl | exact fun h => (by simp only [if_pos h]; rfl) | exact fun h => (by simp only [h, if_true, if_false]; rfl)) ?_) | (refine dw_io0 rfl rfl (by omega) (by omega) ?_) | (refine dw_if0 rfl rfl (by omega) (by decide) (by assumption) ?_) | (refine dw_if rfl rfl (by omega) (by decide) (by assumption) ?_) | (refine dw_l (dload_data rfl rfl (by assumption) rfl) ?_) | (refine dw_lk (dload_data rfl rfl (by assumption) rfl) ?_) | (refine dw_a rfl ?_) | (refine dw_ai rfl rfl rfl ?_) | (refine dw_st rfl rfl rfl rfl rfl (by decide) rfl ?_) | (refine dw_nil ?_) | (refine ds_seq ?_) | (refine ds_ops mix (fun base => ?_)) | (refine ds_skip ?_) | (refine ds_block ?_) | (refine ds_exit ?_))
  refine dw_cf rfl rfl (d_far bp bq) ?_
  rintro _ rfl
  have f1 : ((l.length : Int) != IntKind.i64.wrap (far (a1, a2) (b1, b2) + 1)) = false := by rw [dwrap (by omega) (by omega), len1, hN]; simp
  have f2 : ((bk.length : Int) != (l.length : Int)) = false := by rw [len1, len2]; simp
  have f3 : ((mv.length : Int) != (l.length : Int)) = false := by rw [len1, len3]; simp
  have e0 := ptF_at (at1 0 (by omega))
  have eN := ptF_at (at1 N (by omega))
  repeat (first | (refine dw_want rfl rfl ?_) | (refine dw_skip rfl rfl ?_) | (refine dw_skipU rfl ?_) | (refine dw_pickT rfl rfl ?_) | (refine dw_pickF rfl rfl ?_) | (refine dw_pick rfl (by first | exact fun _ => rfl | exact fun h => (by simp only [if_pos h]; rfl) | exact fun h => (by simp only [h, if_true, if_false]; rfl)) (by first | exact fun _ => rfl | exact fun h => (by simp only [if_pos h]; rfl) | exact fun h => (by simp only [h, if_true, if_false]; rfl)) ?_) | (refine dw_max rfl rfl ?_) | (refine dw_min rfl rfl ?_) | (refine dw_pB rfl (by assumption) ?_) | (refine dw_p rfl ?_) | (refine dw_l rfl ?_) | (refine dw_lk rfl ?_) | (refine dw_pg rfl (by first | exact fun _ => rfl | exact fun h => (by simp only [if_pos h]; rfl) | exact fun h => (by simp only [h, if_true, if_false]; rfl)) ?_) | (refine dw_lg rfl (by first | exact fun _ => rfl | exact fun h => (by simp only [if_pos h]; rfl) | exact fun h => (by simp only [h, if_true, if_false]; rfl)) ?_) | (refine dw_io0 rfl rfl (by omega) (by omega) ?_) | (refine dw_if0 rfl rfl (by omega) (by decide) (by assumption) ?_) | (refine dw_if rfl rfl (by omega) (by decide) (by assumption) ?_) | (refine dw_l (dload_data rfl rfl (by assumption) rfl) ?_) | (refine dw_lk (dload_data rfl rfl (by assumption) rfl) ?_) | (refine dw_a rfl ?_) | (refine dw_ai rfl rfl rfl ?_) | (refine dw_st rfl rfl rfl rfl rfl (by decide) rfl ?_) | (refine dw_nil ?_) | (refine ds_seq ?_) | (refine ds_ops mix (fun base => ?_)) | (refine ds_skip ?_) | (refine ds_block ?_) | (refine ds_exit ?_))
  rw [A0]
  refine dw_pB (d_eqpt (p := (a1, a2)) (q := (a1, a2)) rfl rfl) (b := false) (by simp) ?_
  repeat (first | (refine dw_want rfl rfl ?_) | (refine dw_skip rfl rfl ?_) | (refine dw_skipU rfl ?_) | (refine dw_pickT rfl rfl ?_) | (refine dw_pickF rfl rfl ?_) | (refine dw_pick rfl (by first | exact fun _ => rfl | exact fun h => (by simp only [if_pos h]; rfl) | exact fun h => (by simp only [h, if_true, if_false]; rfl)) (by first | exact fun _ => rfl | exact fun h => (by simp only [if_pos h]; rfl) | exact fun h => (by simp only [h, if_true, if_false]; rfl)) ?_) | (refine dw_max rfl rfl ?_) | (refine dw_min rfl rfl ?_) | (refine dw_pB rfl (by assumption) ?_) | (refine dw_p rfl ?_) | (refine dw_l rfl ?_) | (refine dw_lk rfl ?_) | (refine dw_pg rfl (by first | exact fun _ => rfl | exact fun h => (by simp only [if_pos h]; rfl) | exact fun h => (by simp only [h, if_true, if_false]; rfl)) ?_) | (refine dw_lg rfl (by first | exact fun _ => rfl | exact fun h => (by simp only [if_pos h]; rfl) | exact fun h => (by simp only [h, if_true, if_false]; rfl)) ?_) | (refine dw_io0 rfl rfl (by omega) (by omega) ?_) | (refine dw_if0 rfl rfl (by omega) (by decide) (by assumption) ?_) | (refine dw_if rfl rfl (by omega) (by decide) (by assumption) ?_) | (refine dw_l (dload_data rfl rfl (by assumption) rfl) ?_) | (refine dw_lk (dload_data rfl rfl (by assumption) rfl) ?_) | (refine dw_a rfl ?_) | (refine dw_ai rfl rfl rfl ?_) | (refine dw_st rfl rfl rfl rfl rfl (by decide) rfl ?_) | (refine dw_nil ?_) | (refine ds_seq ?_) | (refine ds_ops mix (fun base => ?_)) | (refine ds_skip ?_) | (refine ds_block ?_) | (refine ds_exit ?_))
  rw [show IntKind.i64.wrap ((l.length : Int) - 1) = (N : Nat) by rw [dwrap (by omega) (by omega), len1]; omega]
  repeat (first | (refine dw_want rfl rfl ?_) | (refine dw_skip rfl rfl ?_) | (refine dw_skipU rfl ?_) | (refine dw_pickT rfl rfl ?_) | (refine dw_pickF rfl rfl ?_) | (refine dw_pick rfl (by first | exact fun _ => rfl | exact fun h => (by simp only [if_pos h]; rfl) | exact fun h => (by simp only [h, if_true, if_false]; rfl)) (by first | exact fun _ => rfl | exact fun h => (by simp only [if_pos h]; rfl) | exact fun h => (by simp only [h, if_true, if_false]; rfl)) ?_) | (refine dw_max rfl rfl ?_) | (refine dw_min rfl rfl ?_) | (refine dw_pB rfl (by assumption) ?_) | (refine dw_p rfl ?_) | (refine dw_l rfl ?_) | (refine dw_lk rfl ?_) | (refine dw_pg rfl (by first | exact fun _ => rfl | exact fun h => (by simp only [if_pos h]; rfl) | exact fun h => (by simp only [h, if_true, if_false]; rfl)) ?_) | (refine dw_lg rfl (by first | exact fun _ => rfl | exact fun h => (by simp only [if_pos h]; rfl) | exact fun h => (by simp only [h, if_true, if_false]; rfl)) ?_) | (refine dw_io0 rfl rfl (by omega) (by omega) ?_) | (refine dw_if0 rfl rfl (by omega) (by decide) (by assumption) ?_) | (refine dw_if rfl rfl (by omega) (by decide) (by assumption) ?_) | (refine dw_l (dload_data rfl rfl (by assumption) rfl) ?_) | (refine dw_lk (dload_data rfl rfl (by assumption) rfl) ?_) | (refine dw_a rfl ?_) | (refine dw_ai rfl rfl rfl ?_) | (refine dw_st rfl rfl rfl rfl rfl (by decide) rfl ?_) | (refine dw_nil ?_) | (refine ds_seq ?_) | (refine ds_ops mix (fun base => ?_)) | (refine ds_skip ?_) | (refine ds_block ?_) | (refine ds_exit ?_))
  rw [AN]
  refine dw_pB (d_eqpt (p := (b1, b2)) (q := (b1, b2)) rfl rfl) (b := false) (by simp) ?_
  repeat (first | (refine dw_want rfl rfl ?_) | (refine dw_skip rfl rfl ?_) | (refine dw_skipU rfl ?_) | (refine dw_pickT rfl rfl ?_) | (refine dw_pickF rfl rfl ?_) | (refine dw_pick rfl (by first | exact fun _ => rfl | exact fun h => (by simp only [if_pos h]; rfl) | exact fun h => (by simp only [h, if_true, if_false]; rfl)) (by first | exact fun _ => rfl | exact fun h => (by simp only [if_pos h]; rfl) | exact fun h => (by simp only [h, if_true, if_false]; rfl)) ?_) | (refine dw_max rfl rfl ?_) | (refine dw_min rfl rfl ?_) | (refine dw_pB rfl (by assumption) ?_) | (refine dw_p rfl ?_) | (refine dw_l rfl ?_) | (refine dw_lk rfl ?_) | (refine dw_pg rfl (by first | exact fun _ => rfl | exact fun h => (by simp only [if_pos h]; rfl) | exact fun h => (by simp only [h, if_true, if_false]; rfl)) ?_) | (refine dw_lg rfl (by first | exact fun _ => rfl | exact fun h => (by simp only [if_pos h]; rfl) | exact fun h => (by simp only [h, if_true, if_false]; rfl)) ?_) | (refine dw_io0 rfl rfl (by omega) (by omega) ?_) | (refine dw_if0 rfl rfl (by omega) (by decide) (by assumption) ?_) | (refine dw_if rfl rfl (by omega) (by decide) (by assumption) ?_) | (refine dw_l (dload_data rfl rfl (by assumption) rfl) ?_) | (refine dw_lk (dload_data rfl rfl (by assumption) rfl) ?_) | (refine dw_a rfl ?_) | (refine dw_ai rfl rfl rfl ?_) | (refine dw_st rfl rfl rfl rfl rfl (by decide) rfl ?_) | (refine dw_nil ?_) | (refine ds_seq ?_) | (refine ds_ops mix (fun base => ?_)) | (refine ds_skip ?_) | (refine ds_block ?_) | (refine ds_exit ?_))
  refine ds_if rfl (fun ht => by cases ht) (fun _ => ?_)
  repeat (first | (refine dw_want rfl rfl ?_) | (refine dw_skip rfl rfl ?_) | (refine dw_skipU rfl ?_) | (refine dw_pickT rfl rfl ?_) | (refine dw_pickF rfl rfl ?_) | (refine dw_pick rfl (by first | exact fun _ => rfl | exact fun h => (by simp only [if_pos h]; rfl) | exact fun h => (by simp only [h, if_true, if_false]; rfl)) (by first | exact fun _ => rfl | exact fun h => (by simp only [if_pos h]; rfl) | exact fun h => (by simp only [h, if_true, if_false]; rfl)) ?_) | (refine dw_max rfl rfl ?_) | (refine dw_min rfl rfl ?_) | (refine dw_pB rfl (by assumption) ?_) | (refine dw_p rfl ?_) | (refine dw_l rfl ?_) | (refine dw_lk rfl ?_) | (refine dw_pg rfl (by first | exact fun _ => rfl | exact fun h => (by simp only [if_pos h]; rfl) | exact fun h => (by simp only [h, if_true, if_false]; rfl)) ?_) | (refine dw_lg rfl (by first | exact fun _ => rfl | exact fun h => (by simp only [if_pos h]; rfl) | exact fun h => (by simp only [h, if_true, if_false]; rfl)) ?_) | (refine dw_io0 rfl rfl (by omega) (by omega) ?_) | (refine dw_if0 rfl rfl (by omega) (by decide) (by assumption) ?_) | (refine dw_if rfl rfl (by omega) (by decide) (by assumption) ?_) | (refine dw_l (dload_data rfl rfl (by assumption) rfl) ?_) | (refine dw_lk (dload_data rfl rfl (by assumption) rfl) ?_) | (refine dw_a rfl ?_) | (refine dw_ai rfl rfl rfl ?_) | (refine dw_st rfl rfl rfl rfl rfl (by decide) rfl ?_) | (refine dw_nil ?_) | (refine ds_seq ?_) | (refine ds_ops mix (fun base => ?_)) | (refine ds_skip ?_) | (refine ds_block ?_) | (refine ds_exit ?_))
  refine ds_loop (fun m E S nk => ∃ k : Nat, k + m = l.length ∧ E = [(7, .bool true), (8, .one (.ptr 3 0)), (9, .one (.ptr 4 0)), (10, .one (.ptr 5 0)), (11, ptsD l), (12, ptsD bk), (13, ptsD mv), (14, .int l.length), (15, .int k)] ∧ S = [(3, .cells [.f (.c (.int .i64 a1)), .f (.c (.int .i64 a2))]), (4, .cells [.f (.c (.int .i64 b1)), .f (.c (.int .i64 b2))]), (5, .cells [.f (.c (.int .i64 c1)), .f (.c (.int .i64 c2))])] ∧ nk = 6) ⟨l.length, _, _, _, [], ?wk, 0, by omega, rfl, rfl, rfl⟩ ?_
  case wk => exact ⟨by repeat (first | exact trivial | refine ⟨by first | rfl | exact congrArg (fun z => some (DV.int z)) (dwrap (by omega) (by omega)), rfl, ?_⟩), by repeat (first | exact trivial | refine ⟨by first | rfl | exact congrArg (fun z => some (Bk.data z)) (by assumption), rfl, rfl, ?_⟩), rfl⟩
  rintro m E S nk ⟨k, hk, rfl, rfl, rfl⟩
  repeat (first | (refine dw_want rfl rfl ?_) | (refine dw_skip rfl rfl ?_) | (refine dw_skipU rfl ?_) | (refine dw_pickT rfl rfl ?_) | (refine dw_pickF rfl rfl ?_) | (refine dw_pick rfl (by first | exact fun _ => rfl | exact fun h => (by simp only [if_pos h]; rfl) | exact fun h => (by simp only [h, if_true, if_false]; rfl)) (by first | exact fun _ => rfl | exact fun h => (by simp only [if_pos h]; rfl) | exact fun h => (by simp only [h, if_true, if_false]; rfl)) ?_) | (refine dw_max rfl rfl ?_) | (refine dw_min rfl rfl ?_) | (refine dw_p rfl ?_) | (refine dw_l rfl ?_) | (refine dw_lk rfl ?_) | (refine dw_pg rfl (by first | exact fun _ => rfl | exact fun h => (by simp only [if_pos h]; rfl) | exact fun h => (by simp only [h, if_true, if_false]; rfl)) ?_) | (refine dw_lg rfl (by first | exact fun _ => rfl | exact fun h => (by simp only [if_pos h]; rfl) | exact fun h => (by simp only [h, if_true, if_false]; rfl)) ?_) | (refine dw_io0 rfl rfl (by omega) (by omega) ?_) | (refine dw_if0 rfl rfl (by omega) (by decide) (by assumption) ?_) | (refine dw_if rfl rfl (by omega) (by decide) (by assumption) ?_) | (refine dw_l (dload_data rfl rfl (by assumption) rfl) ?_) | (refine dw_lk (dload_data rfl rfl (by assumption) rfl) ?_) | (refine dw_a rfl ?_) | (refine dw_ai rfl rfl rfl ?_) | (refine dw_st rfl rfl rfl rfl rfl (by decide) rfl ?_) | (refine dw_nil ?_) | (refine ds_seq ?_) | (refine ds_ops mix (fun base => ?_)) | (refine ds_skip ?_) | (refine ds_block ?_) | (refine ds_exit ?_))
  refine ds_if rfl (fun ht => ?_) (fun ht => ?_)
  · simp at ht
    have hkN : k ≤ N := by omega
    have ek := ptF_at (at1 k hkN)
    have ebk := ptF_at (at2 k hkN)
    have emv := ptF_at (at3 k hkN)
    obtain ⟨g1, g2, g3, g4⟩ := Ain k hkN
    have g1' : decide ((A k).1 ≥ min a1 b1) = true := by simpa using g1
    have g2' : decide ((A k).1 ≤ max a1 b1) = true := by simpa using g2
    have g3' : decide ((A k).2 ≥ min a2 b2) = true := by simpa using g3
    have g4' : decide ((A k).2 ≤ max a2 b2) = true := by simpa using g4
    have hAs : Small 1000000000000000000 (A k) := ⟨by omega, by omega, by omega, by omega⟩
    have m1 : ((A k).1 + c1 != IntKind.i64.wrap ((A k).1 + c1)) = false := by rw [dwrap (by omega) (by omega)]; simp
    have m2 : ((A k).2 + c2 != IntKind.i64.wrap ((A k).2 + c2)) = false := by rw [dwrap (by omega) (by omega)]; simp
    have hi : IntKind.i64.wrap (IntKind.i64.wrap ((l.length : Int) - 1) - (k : Int)) = ((N - k : Nat) : Int) := by rw [dwrap (n := (l.length : Int) - 1) (by omega) (by omega), dwrap (by omega) (by omega)]; omega
    by_cases hk0 : k = 0
    · subst hk0
      have hz : decide (((0 : Nat) : Int) > 0) = false := by simp
      repeat (first | (refine dw_want rfl rfl ?_) | (refine dw_skip rfl rfl ?_) | (refine dw_skipU rfl ?_) | (refine dw_pickT rfl rfl ?_) | (refine dw_pickF rfl rfl ?_) | (refine dw_pick rfl (by first | exact fun _ => rfl | exact fun h => (by simp only [if_pos h]; rfl) | exact fun h => (by simp only [h, if_true, if_false]; rfl)) (by first | exact fun _ => rfl | exact fun h => (by simp only [if_pos h]; rfl) | exact fun h => (by simp only [h, if_true, if_false]; rfl)) ?_) | (refine dw_max rfl rfl ?_) | (refine dw_min rfl rfl ?_) | (refine dw_pB rfl (by assumption) ?_) | (refine dw_p rfl ?_) | (refine dw_l rfl ?_) | (refine dw_lk rfl ?_) | (refine dw_pg rfl (by first | exact fun _ => rfl | exact fun h => (by simp only [if_pos h]; rfl) | exact fun h => (by simp only [h, if_true, if_false]; rfl)) ?_) | (refine dw_lg rfl (by first | exact fun _ => rfl | exact fun h => (by simp only [if_pos h]; rfl) | exact fun h => (by simp only [h, if_true, if_false]; rfl)) ?_) | (refine dw_io0 rfl rfl (by omega) (by omega) ?_) | (refine dw_if0 rfl rfl (by omega) (by decide) (by assumption) ?_) | (refine dw_if rfl rfl (by omega) (by decide) (by assumption) ?_) | (refine dw_l (dload_data rfl rfl (by assumption) rfl) ?_) | (refine dw_lk (dload_data rfl rfl (by assumption) rfl) ?_) | (refine dw_a rfl ?_) | (refine dw_ai rfl rfl rfl ?_) | (refine dw_st rfl rfl rfl rfl rfl (by decide) rfl ?_) | (refine dw_nil ?_) | (refine ds_seq ?_) | (refine ds_ops mix (fun base => ?_)) | (refine ds_skip ?_) | (refine ds_block ?_) | (refine ds_exit ?_))
      rw [hi]
      repeat (first | (refine dw_want rfl rfl ?_) | (refine dw_skip rfl rfl ?_) | (refine dw_skipU rfl ?_) | (refine dw_pickT rfl rfl ?_) | (refine dw_pickF rfl rfl ?_) | (refine dw_pick rfl (by first | exact fun _ => rfl | exact fun h => (by simp only [if_pos h]; rfl) | exact fun h => (by simp only [h, if_true, if_false]; rfl)) (by first | exact fun _ => rfl | exact fun h => (by simp only [if_pos h]; rfl) | exact fun h => (by simp only [h, if_true, if_false]; rfl)) ?_) | (refine dw_max rfl rfl ?_) | (refine dw_min rfl rfl ?_) | (refine dw_pB rfl (by assumption) ?_) | (refine dw_p rfl ?_) | (refine dw_l rfl ?_) | (refine dw_lk rfl ?_) | (refine dw_pg rfl (by first | exact fun _ => rfl | exact fun h => (by simp only [if_pos h]; rfl) | exact fun h => (by simp only [h, if_true, if_false]; rfl)) ?_) | (refine dw_lg rfl (by first | exact fun _ => rfl | exact fun h => (by simp only [if_pos h]; rfl) | exact fun h => (by simp only [h, if_true, if_false]; rfl)) ?_) | (refine dw_io0 rfl rfl (by omega) (by omega) ?_) | (refine dw_if0 rfl rfl (by omega) (by decide) (by assumption) ?_) | (refine dw_if rfl rfl (by omega) (by decide) (by assumption) ?_) | (refine dw_l (dload_data rfl rfl (by assumption) rfl) ?_) | (refine dw_lk (dload_data rfl rfl (by assumption) rfl) ?_) | (refine dw_a rfl ?_) | (refine dw_ai rfl rfl rfl ?_) | (refine dw_st rfl rfl rfl rfl rfl (by decide) rfl ?_) | (refine dw_nil ?_) | (refine ds_seq ?_) | (refine ds_ops mix (fun base => ?_)) | (refine ds_skip ?_) | (refine ds_block ?_) | (refine ds_exit ?_))
      refine dw_pB (d_eqpt (p := A 0) (q := A 0) rfl rfl) (b := false) (by simp) ?_
      repeat (first | (refine dw_want rfl rfl ?_) | (refine dw_skip rfl rfl ?_) | (refine dw_skipU rfl ?_) | (refine dw_pickT rfl rfl ?_) | (refine dw_pickF rfl rfl ?_) | (refine dw_pick rfl (by first | exact fun _ => rfl | exact fun h => (by simp only [if_pos h]; rfl) | exact fun h => (by simp only [h, if_true, if_false]; rfl)) (by first | exact fun _ => rfl | exact fun h => (by simp only [if_pos h]; rfl) | exact fun h => (by simp only [h, if_true, if_false]; rfl)) ?_) | (refine dw_max rfl rfl ?_) | (refine dw_min rfl rfl ?_) | (refine dw_pB rfl (by assumption) ?_) | (refine dw_p rfl ?_) | (refine dw_l rfl ?_) | (refine dw_lk rfl ?_) | (refine dw_pg rfl (by first | exact fun _ => rfl | exact fun h => (by simp only [if_pos h]; rfl) | exact fun h => (by simp only [h, if_true, if_false]; rfl)) ?_) | (refine dw_lg rfl (by first | exact fun _ => rfl | exact fun h => (by simp only [if_pos h]; rfl) | exact fun h => (by simp only [h, if_true, if_false]; rfl)) ?_) | (refine dw_io0 rfl rfl (by omega) (by omega) ?_) | (refine dw_if0 rfl rfl (by omega) (by decide) (by assumption) ?_) | (refine dw_if rfl rfl (by omega) (by decide) (by assumption) ?_) | (refine dw_l (dload_data rfl rfl (by assumption) rfl) ?_) | (refine dw_lk (dload_data rfl rfl (by assumption) rfl) ?_) | (refine dw_a rfl ?_) | (refine dw_ai rfl rfl rfl ?_) | (refine dw_st rfl rfl rfl rfl rfl (by decide) rfl ?_) | (refine dw_nil ?_) | (refine ds_seq ?_) | (refine ds_ops mix (fun base => ?_)) | (refine ds_skip ?_) | (refine ds_block ?_) | (refine ds_exit ?_))
      refine ds_if rfl (fun ht => by cases ht) (fun _ => ?_)
      repeat (first | (refine dw_want rfl rfl ?_) | (refine dw_skip rfl rfl ?_) | (refine dw_skipU rfl ?_) | (refine dw_pickT rfl rfl ?_) | (refine dw_pickF rfl rfl ?_) | (refine dw_pick rfl (by first | exact fun _ => rfl | exact fun h => (by simp only [if_pos h]; rfl) | exact fun h => (by simp only [h, if_true, if_false]; rfl)) (by first | exact fun _ => rfl | exact fun h => (by simp only [if_pos h]; rfl) | exact fun h => (by simp only [h, if_true, if_false]; rfl)) ?_) | (refine dw_max rfl rfl ?_) | (refine dw_min rfl rfl ?_) | (refine dw_p rfl ?_) | (refine dw_l rfl ?_) | (refine dw_lk rfl ?_) | (refine dw_pg rfl (by first | exact fun _ => rfl | exact fun h => (by simp only [if_pos h]; rfl) | exact fun h => (by simp only [h, if_true, if_false]; rfl)) ?_) | (refine dw_lg rfl (by first | exact fun _ => rfl | exact fun h => (by simp only [if_pos h]; rfl) | exact fun h => (by simp only [h, if_true, if_false]; rfl)) ?_) | (refine dw_io0 rfl rfl (by omega) (by omega) ?_) | (refine dw_if0 rfl rfl (by omega) (by decide) (by assumption) ?_) | (refine dw_if rfl rfl (by omega) (by decide) (by assumption) ?_) | (refine dw_l (dload_data rfl rfl (by assumption) rfl) ?_) | (refine dw_lk (dload_data rfl rfl (by assumption) rfl) ?_) | (refine dw_a rfl ?_) | (refine dw_ai rfl rfl rfl ?_) | (refine dw_st rfl rfl rfl rfl rfl (by decide) rfl ?_) | (refine dw_nil ?_) | (refine ds_seq ?_) | (refine ds_ops mix (fun base => ?_)) | (refine ds_skip ?_) | (refine ds_block ?_) | (refine ds_exit ?_))
      refine ⟨m - 1, by omega, _, _, _, [], ?wk1, 0 + 1, by omega, rfl, rfl, rfl⟩
      case wk1 => exact ⟨by repeat (first | exact trivial | refine ⟨by first | rfl | exact congrArg (fun z => some (DV.int z)) (dwrap (by omega) (by omega)), rfl, ?_⟩), by repeat (first | exact trivial | refine ⟨by first | rfl | exact congrArg (fun z => some (Bk.data z)) (by assumption), rfl, rfl, ?_⟩), rfl⟩
    · obtain ⟨j, rfl⟩ : ∃ j, k = j + 1 := ⟨k - 1, by omega⟩
      have hz : decide (((j + 1 : Nat) : Int) > 0) = true := by simp
      have ej := ptF_at (at1 j (by omega))
      obtain ⟨q1, q2, q3, q4⟩ := Ain j (by omega)
      have hAj : Small 1000000000000000000 (A j) := ⟨by omega, by omega, by omega, by omega⟩
      repeat (first | (refine dw_want rfl rfl ?_) | (refine dw_skip rfl rfl ?_) | (refine dw_skipU rfl ?_) | (refine dw_pickT rfl rfl ?_) | (refine dw_pickF rfl rfl ?_) | (refine dw_pick rfl (by first | exact fun _ => rfl | exact fun h => (by simp only [if_pos h]; rfl) | exact fun h => (by simp only [h, if_true, if_false]; rfl)) (by first | exact fun _ => rfl | exact fun h => (by simp only [if_pos h]; rfl) | exact fun h => (by simp only [h, if_true, if_false]; rfl)) ?_) | (refine dw_max rfl rfl ?_) | (refine dw_min rfl rfl ?_) | (refine dw_pB rfl (by assumption) ?_) | (refine dw_p rfl ?_) | (refine dw_l rfl ?_) | (refine dw_lk rfl ?_) | (refine dw_pg rfl (by first | exact fun _ => rfl | exact fun h => (by simp only [if_pos h]; rfl) | exact fun h => (by simp only [h, if_true, if_false]; rfl)) ?_) | (refine dw_lg rfl (by first | exact fun _ => rfl | exact fun h => (by simp only [if_pos h]; rfl) | exact fun h => (by simp only [h, if_true, if_false]; rfl)) ?_) | (refine dw_io0 rfl rfl (by omega) (by omega) ?_) | (refine dw_if0 rfl rfl (by omega) (by decide) (by assumption) ?_) | (refine dw_if rfl rfl (by omega) (by decide) (by assumption) ?_) | (refine dw_l (dload_data rfl rfl (by assumption) rfl) ?_) | (refine dw_lk (dload_data rfl rfl (by assumption) rfl) ?_) | (refine dw_a rfl ?_) | (refine dw_ai rfl rfl rfl ?_) | (refine dw_st rfl rfl rfl rfl rfl (by decide) rfl ?_) | (refine dw_nil ?_) | (refine ds_seq ?_) | (refine ds_ops mix (fun base => ?_)) | (refine ds_skip ?_) | (refine ds_block ?_) | (refine ds_exit ?_))
      rw [show IntKind.i64.wrap (((j + 1 : Nat) : Int) - 1) = (j : Nat) by rw [dwrap (by omega) (by omega)]; omega]
      repeat (first | (refine dw_want rfl rfl ?_) | (refine dw_skip rfl rfl ?_) | (refine dw_skipU rfl ?_) | (refine dw_pickT rfl rfl ?_) | (refine dw_pickF rfl rfl ?_) | (refine dw_pick rfl (by first | exact fun _ => rfl | exact fun h => (by simp only [if_pos h]; rfl) | exact fun h => (by simp only [h, if_true, if_false]; rfl)) (by first | exact fun _ => rfl | exact fun h => (by simp only [if_pos h]; rfl) | exact fun h => (by simp only [h, if_true, if_false]; rfl)) ?_) | (refine dw_max rfl rfl ?_) | (refine dw_min rfl rfl ?_) | (refine dw_pB rfl (by assumption) ?_) | (refine dw_p rfl ?_) | (refine dw_l rfl ?_) | (refine dw_lk rfl ?_) | (refine dw_pg rfl (by first | exact fun _ => rfl | exact fun h => (by simp only [if_pos h]; rfl) | exact fun h => (by simp only [h, if_true, if_false]; rfl)) ?_) | (refine dw_lg rfl (by first | exact fun _ => rfl | exact fun h => (by simp only [if_pos h]; rfl) | exact fun h => (by simp only [h, if_true, if_false]; rfl)) ?_) | (refine dw_io0 rfl rfl (by omega) (by omega) ?_) | (refine dw_if0 rfl rfl (by omega) (by decide) (by assumption) ?_) | (refine dw_if rfl rfl (by omega) (by decide) (by assumption) ?_) | (refine dw_l (dload_data rfl rfl (by assumption) rfl) ?_) | (refine dw_lk (dload_data rfl rfl (by assumption) rfl) ?_) | (refine dw_a rfl ?_) | (refine dw_ai rfl rfl rfl ?_) | (refine dw_st rfl rfl rfl rfl rfl (by decide) rfl ?_) | (refine dw_nil ?_) | (refine ds_seq ?_) | (refine ds_ops mix (fun base => ?_)) | (refine ds_skip ?_) | (refine ds_block ?_) | (refine ds_exit ?_))
      refine dw_cf rfl rfl (d_far (p := A j) (q := A (j + 1)) hAj hAs) ?_
      rintro _ rfl
      rw [Ast j (by omega)]
      repeat (first | (refine dw_want rfl rfl ?_) | (refine dw_skip rfl rfl ?_) | (refine dw_skipU rfl ?_) | (refine dw_pickT rfl rfl ?_) | (refine dw_pickF rfl rfl ?_) | (refine dw_pick rfl (by first | exact fun _ => rfl | exact fun h => (by simp only [if_pos h]; rfl) | exact fun h => (by simp only [h, if_true, if_false]; rfl)) (by first | exact fun _ => rfl | exact fun h => (by simp only [if_pos h]; rfl) | exact fun h => (by simp only [h, if_true, if_false]; rfl)) ?_) | (refine dw_max rfl rfl ?_) | (refine dw_min rfl rfl ?_) | (refine dw_pB rfl (by assumption) ?_) | (refine dw_p rfl ?_) | (refine dw_l rfl ?_) | (refine dw_lk rfl ?_) | (refine dw_pg rfl (by first | exact fun _ => rfl | exact fun h => (by simp only [if_pos h]; rfl) | exact fun h => (by simp only [h, if_true, if_false]; rfl)) ?_) | (refine dw_lg rfl (by first | exact fun _ => rfl | exact fun h => (by simp only [if_pos h]; rfl) | exact fun h => (by simp only [h, if_true, if_false]; rfl)) ?_) | (refine dw_io0 rfl rfl (by omega) (by omega) ?_) | (refine dw_if0 rfl rfl (by omega) (by decide) (by assumption) ?_) | (refine dw_if rfl rfl (by omega) (by decide) (by assumption) ?_) | (refine dw_l (dload_data rfl rfl (by assumption) rfl) ?_) | (refine dw_lk (dload_data rfl rfl (by assumption) rfl) ?_) | (refine dw_a rfl ?_) | (refine dw_ai rfl rfl rfl ?_) | (refine dw_st rfl rfl rfl rfl rfl (by decide) rfl ?_) | (refine dw_nil ?_) | (refine ds_seq ?_) | (refine ds_ops mix (fun base => ?_)) | (refine ds_skip ?_) | (refine ds_block ?_) | (refine ds_exit ?_))
      rw [hi]
      repeat (first | (refine dw_want rfl rfl ?_) | (refine dw_skip rfl rfl ?_) | (refine dw_skipU rfl ?_) | (refine dw_pickT rfl rfl ?_) | (refine dw_pickF rfl rfl ?_) | (refine dw_pick rfl (by first | exact fun _ => rfl | exact fun h => (by simp only [if_pos h]; rfl) | exact fun h => (by simp only [h, if_true, if_false]; rfl)) (by first | exact fun _ => rfl | exact fun h => (by simp only [if_pos h]; rfl) | exact fun h => (by simp only [h, if_true, if_false]; rfl)) ?_) | (refine dw_max rfl rfl ?_) | (refine dw_min rfl rfl ?_) | (refine dw_pB rfl (by assumption) ?_) | (refine dw_p rfl ?_) | (refine dw_l rfl ?_) | (refine dw_lk rfl ?_) | (refine dw_pg rfl (by first | exact fun _ => rfl | exact fun h => (by simp only [if_pos h]; rfl) | exact fun h => (by simp only [h, if_true, if_false]; rfl)) ?_) | (refine dw_lg rfl (by first | exact fun _ => rfl | exact fun h => (by simp only [if_pos h]; rfl) | exact fun h => (by simp only [h, if_true, if_false]; rfl)) ?_) | (refine dw_io0 rfl rfl (by omega) (by omega) ?_) | (refine dw_if0 rfl rfl (by omega) (by decide) (by assumption) ?_) | (refine dw_if rfl rfl (by omega) (by decide) (by assumption) ?_) | (refine dw_l (dload_data rfl rfl (by assumption) rfl) ?_) | (refine dw_lk (dload_data rfl rfl (by assumption) rfl) ?_) | (refine dw_a rfl ?_) | (refine dw_ai rfl rfl rfl ?_) | (refine dw_st rfl rfl rfl rfl rfl (by decide) rfl ?_) | (refine dw_nil ?_) | (refine ds_seq ?_) | (refine ds_ops mix (fun base => ?_)) | (refine ds_skip ?_) | (refine ds_block ?_) | (refine ds_exit ?_))
      refine dw_pB (d_eqpt (p := A (j + 1)) (q := A (j + 1)) rfl rfl) (b := false) (by simp) ?_
      repeat (first | (refine dw_want rfl rfl ?_) | (refine dw_skip rfl rfl ?_) | (refine dw_skipU rfl ?_) | (refine dw_pickT rfl rfl ?_) | (refine dw_pickF rfl rfl ?_) | (refine dw_pick rfl (by first | exact fun _ => rfl | exact fun h => (by simp only [if_pos h]; rfl) | exact fun h => (by simp only [h, if_true, if_false]; rfl)) (by first | exact fun _ => rfl | exact fun h => (by simp only [if_pos h]; rfl) | exact fun h => (by simp only [h, if_true, if_false]; rfl)) ?_) | (refine dw_max rfl rfl ?_) | (refine dw_min rfl rfl ?_) | (refine dw_pB rfl (by assumption) ?_) | (refine dw_p rfl ?_) | (refine dw_l rfl ?_) | (refine dw_lk rfl ?_) | (refine dw_pg rfl (by first | exact fun _ => rfl | exact fun h => (by simp only [if_pos h]; rfl) | exact fun h => (by simp only [h, if_true, if_false]; rfl)) ?_) | (refine dw_lg rfl (by first | exact fun _ => rfl | exact fun h => (by simp only [if_pos h]; rfl) | exact fun h => (by simp only [h, if_true, if_false]; rfl)) ?_) | (refine dw_io0 rfl rfl (by omega) (by omega) ?_) | (refine dw_if0 rfl rfl (by omega) (by decide) (by assumption) ?_) | (refine dw_if rfl rfl (by omega) (by decide) (by assumption) ?_) | (refine dw_l (dload_data rfl rfl (by assumption) rfl) ?_) | (refine dw_lk (dload_data rfl rfl (by assumption) rfl) ?_) | (refine dw_a rfl ?_) | (refine dw_ai rfl rfl rfl ?_) | (refine dw_st rfl rfl rfl rfl rfl (by decide) rfl ?_) | (refine dw_nil ?_) | (refine ds_seq ?_) | (refine ds_ops mix (fun base => ?_)) | (refine ds_skip ?_) | (refine ds_block ?_) | (refine ds_exit ?_))
      refine ds_if rfl (fun ht => by cases ht) (fun _ => ?_)
      repeat (first | (refine dw_want rfl rfl ?_) | (refine dw_skip rfl rfl ?_) | (refine dw_skipU rfl ?_) | (refine dw_pickT rfl rfl ?_) | (refine dw_pickF rfl rfl ?_) | (refine dw_pick rfl (by first | exact fun _ => rfl | exact fun h => (by simp only [if_pos h]; rfl) | exact fun h => (by simp only [h, if_true, if_false]; rfl)) (by first | exact fun _ => rfl | exact fun h => (by simp only [if_pos h]; rfl) | exact fun h => (by simp only [h, if_true, if_false]; rfl)) ?_) | (refine dw_max rfl rfl ?_) | (refine dw_min rfl rfl ?_) | (refine dw_p rfl ?_) | (refine dw_l rfl ?_) | (refine dw_lk rfl ?_) | (refine dw_pg rfl (by first | exact fun _ => rfl | exact fun h => (by simp only [if_pos h]; rfl) | exact fun h => (by simp only [h, if_true, if_false]; rfl)) ?_) | (refine dw_lg rfl (by first | exact fun _ => rfl | exact fun h => (by simp only [if_pos h]; rfl) | exact fun h => (by simp only [h, if_true, if_false]; rfl)) ?_) | (refine dw_io0 rfl rfl (by omega) (by omega) ?_) | (refine dw_if0 rfl rfl (by omega) (by decide) (by assumption) ?_) | (refine dw_if rfl rfl (by omega) (by decide) (by assumption) ?_) | (refine dw_l (dload_data rfl rfl (by assumption) rfl) ?_) | (refine dw_lk (dload_data rfl rfl (by assumption) rfl) ?_) | (refine dw_a rfl ?_) | (refine dw_ai rfl rfl rfl ?_) | (refine dw_st rfl rfl rfl rfl rfl (by decide) rfl ?_) | (refine dw_nil ?_) | (refine ds_seq ?_) | (refine ds_ops mix (fun base => ?_)) | (refine ds_skip ?_) | (refine ds_block ?_) | (refine ds_exit ?_))
      refine ⟨m - 1, by omega, _, _, _, [], ?wk2, j + 1 + 1, by omega, rfl, rfl, rfl⟩
      case wk2 => exact ⟨by repeat (first | exact trivial | refine ⟨by first | rfl | exact congrArg (fun z => some (DV.int z)) (dwrap (by omega) (by omega)), rfl, ?_⟩), by repeat (first | exact trivial | refine ⟨by first | rfl | exact congrArg (fun z => some (Bk.data z)) (by assumption), rfl, rfl, ?_⟩), rfl⟩
  · simp at ht
    repeat (first | (refine dw_want rfl rfl ?_) | (refine dw_skip rfl rfl ?_) | (refine dw_skipU rfl ?_) | (refine dw_pickT rfl rfl ?_) | (refine dw_pickF rfl rfl ?_) | (refine dw_pick rfl (by first | exact fun _ => rfl | exact fun h => (by simp only [if_pos h]; rfl) | exact fun h => (by simp only [h, if_true, if_false]; rfl)) (by first | exact fun _ => rfl | exact fun h => (by simp only [if_pos h]; rfl) | exact fun h => (by simp only [h, if_true, if_false]; rfl)) ?_) | (refine dw_max rfl rfl ?_) | (refine dw_min rfl rfl ?_) | (refine dw_p rfl ?_) | (refine dw_l rfl ?_) | (refine dw_lk rfl ?_) | (refine dw_pg rfl (by first | exact fun _ => rfl | exact fun h => (by simp only [if_pos h]; rfl) | exact fun h => (by simp only [h, if_true, if_false]; rfl)) ?_) | (refine dw_lg rfl (by first | exact fun _ => rfl | exact fun h => (by simp only [if_pos h]; rfl) | exact fun h => (by simp only [h, if_true, if_false]; rfl)) ?_) | (refine dw_io0 rfl rfl (by omega) (by omega) ?_) | (refine dw_if0 rfl rfl (by omega) (by decide) (by assumption) ?_) | (refine dw_if rfl rfl (by omega) (by decide) (by assumption) ?_) | (refine dw_l (dload_data rfl rfl (by assumption) rfl) ?_) | (refine dw_lk (dload_data rfl rfl (by assumption) rfl) ?_) | (refine dw_a rfl ?_) | (refine dw_ai rfl rfl rfl ?_) | (refine dw_st rfl rfl rfl rfl rfl (by decide) rfl ?_) | (refine dw_nil ?_) | (refine ds_seq ?_) | (refine ds_ops mix (fun base => ?_)) | (refine ds_skip ?_) | (refine ds_block ?_) | (refine ds_exit ?_))
    refine dw_cf rfl rfl hd4 ?_
    rintro _ rfl
    repeat (first | (refine dw_want rfl rfl ?_) | (refine dw_skip rfl rfl ?_) | (refine dw_skipU rfl ?_) | (refine dw_pickT rfl rfl ?_) | (refine dw_pickF rfl rfl ?_) | (refine dw_pick rfl (by first | exact fun _ => rfl | exact fun h => (by simp only [if_pos h]; rfl) | exact fun h => (by simp only [h, if_true, if_false]; rfl)) (by first | exact fun _ => rfl | exact fun h => (by simp only [if_pos h]; rfl) | exact fun h => (by simp only [h, if_true, if_false]; rfl)) ?_) | (refine dw_max rfl rfl ?_) | (refine dw_min rfl rfl ?_) | (refine dw_p rfl ?_) | (refine dw_l rfl ?_) | (refine dw_lk rfl ?_) | (refine dw_pg rfl (by first | exact fun _ => rfl | exact fun h => (by simp only [if_pos h]; rfl) | exact fun h => (by simp only [h, if_true, if_false]; rfl)) ?_) | (refine dw_lg rfl (by first | exact fun _ => rfl | exact fun h => (by simp only [if_pos h]; rfl) | exact fun h => (by simp only [h, if_true, if_false]; rfl)) ?_) | (refine dw_io0 rfl rfl (by omega) (by omega) ?_) | (refine dw_if0 rfl rfl (by omega) (by decide) (by assumption) ?_) | (refine dw_if rfl rfl (by omega) (by decide) (by assumption) ?_) | (refine dw_l (dload_data rfl rfl (by assumption) rfl) ?_) | (refine dw_lk (dload_data rfl rfl (by assumption) rfl) ?_) | (refine dw_a rfl ?_) | (refine dw_ai rfl rfl rfl ?_) | (refine dw_st rfl rfl rfl rfl rfl (by decide) rfl ?_) | (refine dw_nil ?_) | (refine ds_seq ?_) | (refine ds_ops mix (fun base => ?_)) | (refine ds_skip ?_) | (refine ds_block ?_) | (refine ds_exit ?_))
    refine dw_cf rfl rfl hd5 ?_
    rintro _ rfl
    repeat (first | (refine dw_want rfl rfl ?_) | (refine dw_skip rfl rfl ?_) | (refine dw_skipU rfl ?_) | (refine dw_pickT rfl rfl ?_) | (refine dw_pickF rfl rfl ?_) | (refine dw_pick rfl (by first | exact fun _ => rfl | exact fun h => (by simp only [if_pos h]; rfl) | exact fun h => (by simp only [h, if_true, if_false]; rfl)) (by first | exact fun _ => rfl | exact fun h => (by simp only [if_pos h]; rfl) | exact fun h => (by simp only [h, if_true, if_false]; rfl)) ?_) | (refine dw_max rfl rfl ?_) | (refine dw_min rfl rfl ?_) | (refine dw_p rfl ?_) | (refine dw_l rfl ?_) | (refine dw_lk rfl ?_) | (refine dw_pg rfl (by first | exact fun _ => rfl | exact fun h => (by simp only [if_pos h]; rfl) | exact fun h => (by simp only [h, if_true, if_false]; rfl)) ?_) | (refine dw_lg rfl (by first | exact fun _ => rfl | exact fun h => (by simp only [if_pos h]; rfl) | exact fun h => (by simp only [h, if_true, if_false]; rfl)) ?_) | (refine dw_io0 rfl rfl (by omega) (by omega) ?_) | (refine dw_if0 rfl rfl (by omega) (by decide) (by assumption) ?_) | (refine dw_if rfl rfl (by omega) (by decide) (by assumption) ?_) | (refine dw_l (dload_data rfl rfl (by assumption) rfl) ?_) | (refine dw_lk (dload_data rfl rfl (by assumption) rfl) ?_) | (refine dw_a rfl ?_) | (refine dw_ai rfl rfl rfl ?_) | (refine dw_st rfl rfl rfl rfl rfl (by decide) rfl ?_) | (refine dw_nil ?_) | (refine ds_seq ?_) | (refine ds_ops mix (fun base => ?_)) | (refine ds_skip ?_) | (refine ds_block ?_) | (refine ds_exit ?_))
    exact ds_ret ⟨_, rfl, rfl, rfl⟩
end Go.Ab.Fn
