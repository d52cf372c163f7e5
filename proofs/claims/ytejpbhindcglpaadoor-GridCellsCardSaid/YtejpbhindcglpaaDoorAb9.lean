/- Contracts of functions of the program over the abstract semantics. -/
import Derived.Test.YtejpbhindcglpaaDoorAb8
set_option linter.unusedVariables false
set_option linter.unusedSimpArgs false
namespace Go.Ab.Fn
open Go.Ab Go.Proofs
set_option linter.unusedSimpArgs false

theorem wrap64 {n : Int} (h1 : -9223372036854775808 ≤ n) (h2 : n < 9223372036854775808) : IntKind.i64.wrap n = n := wrap_i64 h1 h2

/-- the absolute value, in grid -/
theorem abs_ok {H : Hp} {n : Int} (h : -4000000000000000000 < n) (h' : n < 4000000000000000000) : ACalls Tryd.prog 1 55 [.int n] H fun v H' => v = .int (max n (-n)) ∧ H' = H := by
  refine pfn_ok cp55 (by simp [f55]) fun hwf => ?_
  repeat (first | (refine pw_pick rfl rfl (by first | exact fun _ => rfl | exact fun h => (by simp only [if_pos h]; rfl) | exact fun h => (by simp only [if_pos h]; assumption)) (by first | exact fun _ => rfl | exact fun h => (by simp only [if_pos h]; rfl) | exact fun h => (by simp only [if_pos h]; assumption)) ?_) | (refine pw_mvt rfl ?_) | (refine pw_max rfl rfl rfl ?_) | (refine pw_min rfl rfl rfl ?_) | (refine pw_mvc ?_) | (refine pw_p rfl rfl ?_) | (refine pw_l1 rfl rfl (by assumption) ?_) | (refine pw_ln rfl rfl (by assumption) ?_) | (refine pw_lk1 rfl rfl (by assumption) ?_) | (refine pw_lkn rfl rfl (by assumption) ?_) | (refine pw_pg rfl rfl (by first | exact fun _ => rfl | exact fun _ => (by assumption) | exact fun h => (by simp only [if_pos h]; rfl) | exact fun h => (by simp only [if_pos h]; assumption)) ?_) | (refine pw_lg1 rfl rfl (by first | exact fun _ => rfl | exact fun h => (by simp only [if_pos h]; rfl) | exact fun h => (by simp only [if_pos h]; assumption)) (by assumption) ?_) | (refine pw_p rfl (by assumption) ?_) | (refine pw_nil ?_) | (refine ps_seq ?_) | (refine ps_ops0 mix ?_) | (refine ps_skip ?_) | (refine ps_block ?_))
  refine ps_if rfl rfl (fun ht => ?_) (fun ht => ?_)
  · repeat (first | (refine pw_pick rfl rfl (by first | exact fun _ => rfl | exact fun h => (by simp only [if_pos h]; rfl) | exact fun h => (by simp only [if_pos h]; assumption)) (by first | exact fun _ => rfl | exact fun h => (by simp only [if_pos h]; rfl) | exact fun h => (by simp only [if_pos h]; assumption)) ?_) | (refine pw_mvt rfl ?_) | (refine pw_max rfl rfl rfl ?_) | (refine pw_min rfl rfl rfl ?_) | (refine pw_mvc ?_) | (refine pw_p rfl rfl ?_) | (refine pw_l1 rfl rfl (by assumption) ?_) | (refine pw_ln rfl rfl (by assumption) ?_) | (refine pw_lk1 rfl rfl (by assumption) ?_) | (refine pw_lkn rfl rfl (by assumption) ?_) | (refine pw_pg rfl rfl (by first | exact fun _ => rfl | exact fun _ => (by assumption) | exact fun h => (by simp only [if_pos h]; rfl) | exact fun h => (by simp only [if_pos h]; assumption)) ?_) | (refine pw_lg1 rfl rfl (by first | exact fun _ => rfl | exact fun h => (by simp only [if_pos h]; rfl) | exact fun h => (by simp only [if_pos h]; assumption)) (by assumption) ?_) | (refine pw_p rfl (by assumption) ?_) | (refine pw_nil ?_) | (refine ps_seq ?_) | (refine ps_ops0 mix ?_) | (refine ps_skip ?_) | (refine ps_block ?_))
    refine ps_ret ⟨_, rfl, ?_, rfl⟩
    simp at ht
    rw [wrap_i64 (by omega) (by omega)]
    congr 2; omega
  · repeat (first | (refine pw_pick rfl rfl (by first | exact fun _ => rfl | exact fun h => (by simp only [if_pos h]; rfl) | exact fun h => (by simp only [if_pos h]; assumption)) (by first | exact fun _ => rfl | exact fun h => (by simp only [if_pos h]; rfl) | exact fun h => (by simp only [if_pos h]; assumption)) ?_) | (refine pw_mvt rfl ?_) | (refine pw_max rfl rfl rfl ?_) | (refine pw_min rfl rfl rfl ?_) | (refine pw_mvc ?_) | (refine pw_p rfl rfl ?_) | (refine pw_l1 rfl rfl (by assumption) ?_) | (refine pw_ln rfl rfl (by assumption) ?_) | (refine pw_lk1 rfl rfl (by assumption) ?_) | (refine pw_lkn rfl rfl (by assumption) ?_) | (refine pw_pg rfl rfl (by first | exact fun _ => rfl | exact fun _ => (by assumption) | exact fun h => (by simp only [if_pos h]; rfl) | exact fun h => (by simp only [if_pos h]; assumption)) ?_) | (refine pw_lg1 rfl rfl (by first | exact fun _ => rfl | exact fun h => (by simp only [if_pos h]; rfl) | exact fun h => (by simp only [if_pos h]; assumption)) (by assumption) ?_) | (refine pw_p rfl (by assumption) ?_) | (refine pw_nil ?_) | (refine ps_seq ?_) | (refine ps_ops0 mix ?_) | (refine ps_skip ?_) | (refine ps_block ?_))
    refine ps_ret ⟨_, rfl, ?_, rfl⟩
    simp at ht
    congr 2; omega
/-- the absolute value, in the reference -/
theorem rabs_ok {H : Hp} {n : Int} (h : -4000000000000000000 < n) (h' : n < 4000000000000000000) : ACalls Tryd.prog 1 43 [.int n] H fun v H' => v = .int (max n (-n)) ∧ H' = H := by
  refine pfn_ok cp43 (by simp [f43]) fun hwf => ?_
  repeat (first | (refine pw_pick rfl rfl (by first | exact fun _ => rfl | exact fun h => (by simp only [if_pos h]; rfl) | exact fun h => (by simp only [if_pos h]; assumption)) (by first | exact fun _ => rfl | exact fun h => (by simp only [if_pos h]; rfl) | exact fun h => (by simp only [if_pos h]; assumption)) ?_) | (refine pw_mvt rfl ?_) | (refine pw_max rfl rfl rfl ?_) | (refine pw_min rfl rfl rfl ?_) | (refine pw_mvc ?_) | (refine pw_p rfl rfl ?_) | (refine pw_l1 rfl rfl (by assumption) ?_) | (refine pw_ln rfl rfl (by assumption) ?_) | (refine pw_lk1 rfl rfl (by assumption) ?_) | (refine pw_lkn rfl rfl (by assumption) ?_) | (refine pw_pg rfl rfl (by first | exact fun _ => rfl | exact fun _ => (by assumption) | exact fun h => (by simp only [if_pos h]; rfl) | exact fun h => (by simp only [if_pos h]; assumption)) ?_) | (refine pw_lg1 rfl rfl (by first | exact fun _ => rfl | exact fun h => (by simp only [if_pos h]; rfl) | exact fun h => (by simp only [if_pos h]; assumption)) (by assumption) ?_) | (refine pw_p rfl (by assumption) ?_) | (refine pw_nil ?_) | (refine ps_seq ?_) | (refine ps_ops0 mix ?_) | (refine ps_skip ?_) | (refine ps_block ?_))
  refine ps_ret ⟨_, rfl, ?_, rfl⟩
  rw [wrap_i64 (by omega) (by omega)]
  congr 3; omega

def far (p q : Pt) : Int := max (max (p.1 - q.1) (-(p.1 - q.1))) (max (p.2 - q.2) (-(p.2 - q.2)))
def Small (B : Int) (p : Pt) : Prop := -B ≤ p.1 ∧ p.1 ≤ B ∧ -B ≤ p.2 ∧ p.2 ≤ B

theorem apart_ro {H : Hp} {p q : Pt} (hp : Small 1000000000000000000 p) (hq : Small 1000000000000000000 q) : ACalls Tryd.prog 1 41 [ptV p, ptV q] H fun v _ => v = .int (far p q) := by
  obtain ⟨p1, p2, p3, p4⟩ := hp
  obtain ⟨q1, q2, q3, q4⟩ := hq
  refine pfn_ok cp41 (by simp [f41]) fun hwf => ?_
  obtain ⟨hw1, hx1, hb1⟩ := new_box hwf (ptC p) rfl
  obtain ⟨hw2, hx2, hb2⟩ := new_box hw1 (ptC q) rfl
  refine ps_seq (ps_ops0 mix (pw_a rfl rfl (pw_a rfl rfl (pw_mvc (pw_nil ?_)))))
  replace hb1 := hb1.ext hx2
  have c0 := hb1.cell (i := 0) rfl
  have c1 := hb1.cell (i := 1) rfl
  have d0 := hb2.cell (i := 0) rfl
  have d1 := hb2.cell (i := 1) rfl
  generalize ((H.push _).push _) = H2 at *
  refine ps_seq (ps_ops mix ?_)
  repeat (first | (refine pw_pick rfl rfl (by first | exact fun _ => rfl | exact fun h => (by simp only [if_pos h]; rfl) | exact fun h => (by simp only [if_pos h]; assumption)) (by first | exact fun _ => rfl | exact fun h => (by simp only [if_pos h]; rfl) | exact fun h => (by simp only [if_pos h]; assumption)) ?_) | (refine pw_mvt rfl ?_) | (refine pw_max rfl rfl rfl ?_) | (refine pw_min rfl rfl rfl ?_) | (refine pw_mvc ?_) | (refine pw_p rfl rfl ?_) | (refine pw_l1 rfl rfl (by assumption) ?_) | (refine pw_ln rfl rfl (by assumption) ?_) | (refine pw_lk1 rfl rfl (by assumption) ?_) | (refine pw_lkn rfl rfl (by assumption) ?_) | (refine pw_pg rfl rfl (by first | exact fun _ => rfl | exact fun _ => (by assumption) | exact fun h => (by simp only [if_pos h]; rfl) | exact fun h => (by simp only [if_pos h]; assumption)) ?_) | (refine pw_lg1 rfl rfl (by first | exact fun _ => rfl | exact fun h => (by simp only [if_pos h]; rfl) | exact fun h => (by simp only [if_pos h]; assumption)) (by assumption) ?_) | (refine pw_p rfl (by assumption) ?_) | (refine pw_nil ?_) | (refine ps_seq ?_) | (refine ps_ops0 mix ?_) | (refine ps_skip ?_) | (refine ps_block ?_))
  rw [wrap_i64 (n := p.1 - q.1) (by omega) (by omega)]
  rw [wrap_i64 (n := p.2 - q.2) (by omega) (by omega)]
  refine pw_cfp rfl rfl (abs_ok (by omega) (by omega)) (by repeat (first | exact trivial | refine ⟨by assumption, ?_⟩)) (pw_cfp rfl rfl (abs_ok (by omega) (by omega)) (by repeat (first | exact trivial | refine ⟨by assumption, ?_⟩)) ?_)
  repeat (first | (refine pw_pick rfl rfl (by first | exact fun _ => rfl | exact fun h => (by simp only [if_pos h]; rfl) | exact fun h => (by simp only [if_pos h]; assumption)) (by first | exact fun _ => rfl | exact fun h => (by simp only [if_pos h]; rfl) | exact fun h => (by simp only [if_pos h]; assumption)) ?_) | (refine pw_mvt rfl ?_) | (refine pw_max rfl rfl rfl ?_) | (refine pw_min rfl rfl rfl ?_) | (refine pw_mvc ?_) | (refine pw_p rfl rfl ?_) | (refine pw_l1 rfl rfl (by assumption) ?_) | (refine pw_ln rfl rfl (by assumption) ?_) | (refine pw_lk1 rfl rfl (by assumption) ?_) | (refine pw_lkn rfl rfl (by assumption) ?_) | (refine pw_pg rfl rfl (by first | exact fun _ => rfl | exact fun _ => (by assumption) | exact fun h => (by simp only [if_pos h]; rfl) | exact fun h => (by simp only [if_pos h]; assumption)) ?_) | (refine pw_lg1 rfl rfl (by first | exact fun _ => rfl | exact fun h => (by simp only [if_pos h]; rfl) | exact fun h => (by simp only [if_pos h]; assumption)) (by assumption) ?_) | (refine pw_p rfl (by assumption) ?_) | (refine pw_nil ?_) | (refine ps_seq ?_) | (refine ps_ops0 mix ?_) | (refine ps_skip ?_) | (refine ps_block ?_))
  exact ps_ret ⟨_, rfl, rfl⟩
theorem apart_ok {H : Hp} {p q : Pt} (hp : Small 1000000000000000000 p) (hq : Small 1000000000000000000 q) : ACalls Tryd.prog 1 41 [ptV p, ptV q] H fun v H' => v = .int (far p q) ∧ H' = H :=
  (ACalls.pure (apart_ro hp hq) (fun v _ h => by rw [h]; rfl)).mono fun v H' ⟨⟨_, h⟩, e⟩ => ⟨h, e⟩
theorem rfar_ro {H : Hp} {p q : Pt} (hp : Small 1000000000000000000 p) (hq : Small 1000000000000000000 q) : ACalls Tryd.prog 1 15 [ptV p, ptV q] H fun v _ => v = .int (far p q) := by
  obtain ⟨p1, p2, p3, p4⟩ := hp
  obtain ⟨q1, q2, q3, q4⟩ := hq
  refine pfn_ok cp15 (by simp [f15]) fun hwf => ?_
  obtain ⟨hw1, hx1, hb1⟩ := new_box hwf (ptC p) rfl
  obtain ⟨hw2, hx2, hb2⟩ := new_box hw1 (ptC q) rfl
  refine ps_seq (ps_ops0 mix (pw_a rfl rfl (pw_a rfl rfl (pw_mvc (pw_nil ?_)))))
  replace hb1 := hb1.ext hx2
  have c0 := hb1.cell (i := 0) rfl
  have c1 := hb1.cell (i := 1) rfl
  have d0 := hb2.cell (i := 0) rfl
  have d1 := hb2.cell (i := 1) rfl
  generalize ((H.push _).push _) = H2 at *
  refine ps_seq (ps_ops mix ?_)
  repeat (first | (refine pw_pick rfl rfl (by first | exact fun _ => rfl | exact fun h => (by simp only [if_pos h]; rfl) | exact fun h => (by simp only [if_pos h]; assumption)) (by first | exact fun _ => rfl | exact fun h => (by simp only [if_pos h]; rfl) | exact fun h => (by simp only [if_pos h]; assumption)) ?_) | (refine pw_mvt rfl ?_) | (refine pw_max rfl rfl rfl ?_) | (refine pw_min rfl rfl rfl ?_) | (refine pw_mvc ?_) | (refine pw_p rfl rfl ?_) | (refine pw_l1 rfl rfl (by assumption) ?_) | (refine pw_ln rfl rfl (by assumption) ?_) | (refine pw_lk1 rfl rfl (by assumption) ?_) | (refine pw_lkn rfl rfl (by assumption) ?_) | (refine pw_pg rfl rfl (by first | exact fun _ => rfl | exact fun _ => (by assumption) | exact fun h => (by simp only [if_pos h]; rfl) | exact fun h => (by simp only [if_pos h]; assumption)) ?_) | (refine pw_lg1 rfl rfl (by first | exact fun _ => rfl | exact fun h => (by simp only [if_pos h]; rfl) | exact fun h => (by simp only [if_pos h]; assumption)) (by assumption) ?_) | (refine pw_p rfl (by assumption) ?_) | (refine pw_nil ?_) | (refine ps_seq ?_) | (refine ps_ops0 mix ?_) | (refine ps_skip ?_) | (refine ps_block ?_))
  rw [wrap_i64 (n := p.1 - q.1) (by omega) (by omega)]
  rw [wrap_i64 (n := p.2 - q.2) (by omega) (by omega)]
  refine pw_cfp rfl rfl (rabs_ok (by omega) (by omega)) (by repeat (first | exact trivial | refine ⟨by assumption, ?_⟩)) (pw_cfp rfl rfl (rabs_ok (by omega) (by omega)) (by repeat (first | exact trivial | refine ⟨by assumption, ?_⟩)) ?_)
  repeat (first | (refine pw_pick rfl rfl (by first | exact fun _ => rfl | exact fun h => (by simp only [if_pos h]; rfl) | exact fun h => (by simp only [if_pos h]; assumption)) (by first | exact fun _ => rfl | exact fun h => (by simp only [if_pos h]; rfl) | exact fun h => (by simp only [if_pos h]; assumption)) ?_) | (refine pw_mvt rfl ?_) | (refine pw_max rfl rfl rfl ?_) | (refine pw_min rfl rfl rfl ?_) | (refine pw_mvc ?_) | (refine pw_p rfl rfl ?_) | (refine pw_l1 rfl rfl (by assumption) ?_) | (refine pw_ln rfl rfl (by assumption) ?_) | (refine pw_lk1 rfl rfl (by assumption) ?_) | (refine pw_lkn rfl rfl (by assumption) ?_) | (refine pw_pg rfl rfl (by first | exact fun _ => rfl | exact fun _ => (by assumption) | exact fun h => (by simp only [if_pos h]; rfl) | exact fun h => (by simp only [if_pos h]; assumption)) ?_) | (refine pw_lg1 rfl rfl (by first | exact fun _ => rfl | exact fun h => (by simp only [if_pos h]; rfl) | exact fun h => (by simp only [if_pos h]; assumption)) (by assumption) ?_) | (refine pw_p rfl (by assumption) ?_) | (refine pw_nil ?_) | (refine ps_seq ?_) | (refine ps_ops0 mix ?_) | (refine ps_skip ?_) | (refine ps_block ?_))
  exact ps_ret ⟨_, rfl, rfl⟩
theorem rfar_ok {H : Hp} {p q : Pt} (hp : Small 1000000000000000000 p) (hq : Small 1000000000000000000 q) : ACalls Tryd.prog 1 15 [ptV p, ptV q] H fun v H' => v = .int (far p q) ∧ H' = H :=
  (ACalls.pure (rfar_ro hp hq) (fun v _ h => by rw [h]; rfl)).mono fun v H' ⟨⟨_, h⟩, e⟩ => ⟨h, e⟩

theorem tdiv_tmod {a b : Int} (hb : 0 < b) : (if a.tmod b < 0 then a.tdiv b - 1 else a.tdiv b) = a / b := by
  have h1 := Int.tmod_add_mul_tdiv a b
  have h2 := tmod_bd a hb
  have h3 := Int.emod_add_mul_ediv a b
  have h4 := Int.emod_nonneg a (by omega : b ≠ 0)
  have h5 := Int.emod_lt_of_pos a hb
  split
  · rename_i h
    have key : b * (a.tdiv b - 1 - a / b) = a % b - a.tmod b - b := by
      rw [Int.mul_sub, Int.mul_sub]; omega
    have : a.tdiv b - 1 - a / b = 0 := by
      by_cases hc : a.tdiv b - 1 - a / b = 0
      · exact hc
      · exfalso
        rcases Int.lt_or_gt_of_ne hc with hlt | hgt
        · have : b * (a.tdiv b - 1 - a / b) ≤ b * (-1) := Int.mul_le_mul_of_nonneg_left (by omega) (by omega)
          omega
        · have : b * 1 ≤ b * (a.tdiv b - 1 - a / b) := Int.mul_le_mul_of_nonneg_left (by omega) (by omega)
          omega
    omega
  · rename_i h
    have key : b * (a.tdiv b - a / b) = a % b - a.tmod b := by
      rw [Int.mul_sub]; omega
    have : a.tdiv b - a / b = 0 := by
      by_cases hc : a.tdiv b - a / b = 0
      · exact hc
      · exfalso
        rcases Int.lt_or_gt_of_ne hc with hlt | hgt
        · have : b * (a.tdiv b - a / b) ≤ b * (-1) := Int.mul_le_mul_of_nonneg_left (by omega) (by omega)
          omega
        · have : b * 1 ≤ b * (a.tdiv b - a / b) := Int.mul_le_mul_of_nonneg_left (by omega) (by omega)
          omega
    omega

/-- floor in the reference -/
theorem tdiv_bd {a b : Int} (h1 : -1000000000000000000 < a) (h2 : a < 1000000000000000000) : -1000000000000000000 < a.tdiv b ∧ a.tdiv b < 1000000000000000000 := by
  have h : (a.tdiv b).natAbs = a.natAbs / b.natAbs := Int.natAbs_tdiv a b
  have h3 : a.natAbs / b.natAbs ≤ a.natAbs := Nat.div_le_self _ _
  rw [← h] at h3
  omega
theorem rfloor_ok {H : Hp} {a b : Int} (hb : 0 < b) (h1 : -1000000000000000000 < a) (h2 : a < 1000000000000000000) : ACalls Tryd.prog 1 44 [.int a, .int b] H fun v H' => v = .int (a / b) ∧ H' = H := by
  have hd := tdiv_bd (b := b) h1 h2
  have hf := tdiv_tmod (a := a) hb
  refine pfn_ok cp44 (by simp [f44]) fun hwf => ?_
  repeat (first | (refine pw_pick rfl rfl (by first | exact fun _ => rfl | exact fun h => (by simp only [if_pos h]; rfl) | exact fun h => (by simp only [if_pos h]; assumption)) (by first | exact fun _ => rfl | exact fun h => (by simp only [if_pos h]; rfl) | exact fun h => (by simp only [if_pos h]; assumption)) ?_) | (refine pw_mvt rfl ?_) | (refine pw_max rfl rfl rfl ?_) | (refine pw_min rfl rfl rfl ?_) | (refine pw_mvc ?_) | (refine pw_p rfl rfl ?_) | (refine pw_l1 rfl rfl (by assumption) ?_) | (refine pw_ln rfl rfl (by assumption) ?_) | (refine pw_lk1 rfl rfl (by assumption) ?_) | (refine pw_lkn rfl rfl (by assumption) ?_) | (refine pw_pg rfl rfl (by first | exact fun _ => rfl | exact fun _ => (by assumption) | exact fun h => (by simp only [if_pos h]; rfl) | exact fun h => (by simp only [if_pos h]; assumption)) ?_) | (refine pw_lg1 rfl rfl (by first | exact fun _ => rfl | exact fun h => (by simp only [if_pos h]; rfl) | exact fun h => (by simp only [if_pos h]; assumption)) (by assumption) ?_) | (refine pw_p rfl (by assumption) ?_) | (refine pw_nil ?_) | (refine ps_seq ?_) | (refine ps_ops0 mix ?_) | (refine ps_skip ?_) | (refine ps_block ?_))
  refine pw_quo rfl rfl rfl (by omega) ?_
  rw [wrap_i64 (n := a.tdiv b) (by omega) (by omega)]
  repeat (first | (refine pw_pick rfl rfl (by first | exact fun _ => rfl | exact fun h => (by simp only [if_pos h]; rfl) | exact fun h => (by simp only [if_pos h]; assumption)) (by first | exact fun _ => rfl | exact fun h => (by simp only [if_pos h]; rfl) | exact fun h => (by simp only [if_pos h]; assumption)) ?_) | (refine pw_mvt rfl ?_) | (refine pw_max rfl rfl rfl ?_) | (refine pw_min rfl rfl rfl ?_) | (refine pw_mvc ?_) | (refine pw_p rfl rfl ?_) | (refine pw_l1 rfl rfl (by assumption) ?_) | (refine pw_ln rfl rfl (by assumption) ?_) | (refine pw_lk1 rfl rfl (by assumption) ?_) | (refine pw_lkn rfl rfl (by assumption) ?_) | (refine pw_pg rfl rfl (by first | exact fun _ => rfl | exact fun _ => (by assumption) | exact fun h => (by simp only [if_pos h]; rfl) | exact fun h => (by simp only [if_pos h]; assumption)) ?_) | (refine pw_lg1 rfl rfl (by first | exact fun _ => rfl | exact fun h => (by simp only [if_pos h]; rfl) | exact fun h => (by simp only [if_pos h]; assumption)) (by assumption) ?_) | (refine pw_p rfl (by assumption) ?_) | (refine pw_nil ?_) | (refine ps_seq ?_) | (refine ps_ops0 mix ?_) | (refine ps_skip ?_) | (refine ps_block ?_))
  refine pw_rem rfl rfl rfl (by omega) ?_
  repeat (first | (refine pw_pick rfl rfl (by first | exact fun _ => rfl | exact fun h => (by simp only [if_pos h]; rfl) | exact fun h => (by simp only [if_pos h]; assumption)) (by first | exact fun _ => rfl | exact fun h => (by simp only [if_pos h]; rfl) | exact fun h => (by simp only [if_pos h]; assumption)) ?_) | (refine pw_mvt rfl ?_) | (refine pw_max rfl rfl rfl ?_) | (refine pw_min rfl rfl rfl ?_) | (refine pw_mvc ?_) | (refine pw_p rfl rfl ?_) | (refine pw_l1 rfl rfl (by assumption) ?_) | (refine pw_ln rfl rfl (by assumption) ?_) | (refine pw_lk1 rfl rfl (by assumption) ?_) | (refine pw_lkn rfl rfl (by assumption) ?_) | (refine pw_pg rfl rfl (by first | exact fun _ => rfl | exact fun _ => (by assumption) | exact fun h => (by simp only [if_pos h]; rfl) | exact fun h => (by simp only [if_pos h]; assumption)) ?_) | (refine pw_lg1 rfl rfl (by first | exact fun _ => rfl | exact fun h => (by simp only [if_pos h]; rfl) | exact fun h => (by simp only [if_pos h]; assumption)) (by assumption) ?_) | (refine pw_p rfl (by assumption) ?_) | (refine pw_nil ?_) | (refine ps_seq ?_) | (refine ps_ops0 mix ?_) | (refine ps_skip ?_) | (refine ps_block ?_))
  refine ps_if rfl rfl (fun ht => ?_) (fun ht => ?_)
  · repeat (first | (refine pw_pick rfl rfl (by first | exact fun _ => rfl | exact fun h => (by simp only [if_pos h]; rfl) | exact fun h => (by simp only [if_pos h]; assumption)) (by first | exact fun _ => rfl | exact fun h => (by simp only [if_pos h]; rfl) | exact fun h => (by simp only [if_pos h]; assumption)) ?_) | (refine pw_mvt rfl ?_) | (refine pw_max rfl rfl rfl ?_) | (refine pw_min rfl rfl rfl ?_) | (refine pw_mvc ?_) | (refine pw_p rfl rfl ?_) | (refine pw_l1 rfl rfl (by assumption) ?_) | (refine pw_ln rfl rfl (by assumption) ?_) | (refine pw_lk1 rfl rfl (by assumption) ?_) | (refine pw_lkn rfl rfl (by assumption) ?_) | (refine pw_pg rfl rfl (by first | exact fun _ => rfl | exact fun _ => (by assumption) | exact fun h => (by simp only [if_pos h]; rfl) | exact fun h => (by simp only [if_pos h]; assumption)) ?_) | (refine pw_lg1 rfl rfl (by first | exact fun _ => rfl | exact fun h => (by simp only [if_pos h]; rfl) | exact fun h => (by simp only [if_pos h]; assumption)) (by assumption) ?_) | (refine pw_p rfl (by assumption) ?_) | (refine pw_nil ?_) | (refine ps_seq ?_) | (refine ps_ops0 mix ?_) | (refine ps_skip ?_) | (refine ps_block ?_))
    simp at ht
    rw [if_pos ht] at hf
    refine ps_ret ⟨_, rfl, ?_, rfl⟩
    rw [wrap_i64 (by omega) (by omega), hf]
  · repeat (first | (refine pw_pick rfl rfl (by first | exact fun _ => rfl | exact fun h => (by simp only [if_pos h]; rfl) | exact fun h => (by simp only [if_pos h]; assumption)) (by first | exact fun _ => rfl | exact fun h => (by simp only [if_pos h]; rfl) | exact fun h => (by simp only [if_pos h]; assumption)) ?_) | (refine pw_mvt rfl ?_) | (refine pw_max rfl rfl rfl ?_) | (refine pw_min rfl rfl rfl ?_) | (refine pw_mvc ?_) | (refine pw_p rfl rfl ?_) | (refine pw_l1 rfl rfl (by assumption) ?_) | (refine pw_ln rfl rfl (by assumption) ?_) | (refine pw_lk1 rfl rfl (by assumption) ?_) | (refine pw_lkn rfl rfl (by assumption) ?_) | (refine pw_pg rfl rfl (by first | exact fun _ => rfl | exact fun _ => (by assumption) | exact fun h => (by simp only [if_pos h]; rfl) | exact fun h => (by simp only [if_pos h]; assumption)) ?_) | (refine pw_lg1 rfl rfl (by first | exact fun _ => rfl | exact fun h => (by simp only [if_pos h]; rfl) | exact fun h => (by simp only [if_pos h]; assumption)) (by assumption) ?_) | (refine pw_p rfl (by assumption) ?_) | (refine pw_nil ?_) | (refine ps_seq ?_) | (refine ps_ops0 mix ?_) | (refine ps_skip ?_) | (refine ps_block ?_))
    simp at ht
    rw [if_neg (by omega)] at hf
    exact ps_ret ⟨_, rfl, by rw [hf], rfl⟩

/-- the coordinate k of n of the way from a to b -/
def betw (a b k n : Int) : Int := (2 * (a * n + k * (b - a)) + n) / (2 * n)
theorem mul_bd {a b A B : Int} (h1 : -A ≤ a) (h2 : a ≤ A) (h3 : -B ≤ b) (h4 : b ≤ B) : -(A * B) ≤ a * b ∧ a * b ≤ A * B := by
  have hA : 0 ≤ A := by omega
  have hB : 0 ≤ B := by omega
  have : (a * b).natAbs ≤ (A * B).natAbs := by
    rw [Int.natAbs_mul, Int.natAbs_mul]
    exact Nat.mul_le_mul (by omega) (by omega)
  have hp : 0 ≤ A * B := Int.mul_nonneg hA hB
  omega
theorem between_ok {H : Hp} {a b k n : Int} (ha : -1000000 ≤ a) (ha' : a ≤ 1000000) (hb : -1000000 ≤ b) (hb' : b ≤ 1000000) (hk : 0 ≤ k) (hk' : k ≤ 1000000) (hn : 0 < n) (hn' : n ≤ 1000000) : ACalls Tryd.prog 1 42 [.int a, .int b, .int k, .int n] H fun v H' => v = .int (betw a b k n) ∧ H' = H := by
  have m1 := mul_bd (a := a) (b := n) (A := 1000000) (B := 1000000) (by omega) (by omega) (by omega) (by omega)
  have m2 := mul_bd (a := k) (b := b - a) (A := 1000000) (B := 2000000) (by omega) (by omega) (by omega) (by omega)
  have hd := tdiv_bd (a := 2 * (a * n + k * (b - a)) + n) (b := 2 * n) (by omega) (by omega)
  have hf := tdiv_tmod (a := 2 * (a * n + k * (b - a)) + n) (b := 2 * n) (by omega)
  refine pfn_ok cp42 (by simp [f42]) fun hwf => ?_
  repeat (first | (refine pw_pick rfl rfl (by first | exact fun _ => rfl | exact fun h => (by simp only [if_pos h]; rfl) | exact fun h => (by simp only [if_pos h]; assumption)) (by first | exact fun _ => rfl | exact fun h => (by simp only [if_pos h]; rfl) | exact fun h => (by simp only [if_pos h]; assumption)) ?_) | (refine pw_mvt rfl ?_) | (refine pw_max rfl rfl rfl ?_) | (refine pw_min rfl rfl rfl ?_) | (refine pw_mvc ?_) | (refine pw_p rfl rfl ?_) | (refine pw_l1 rfl rfl (by assumption) ?_) | (refine pw_ln rfl rfl (by assumption) ?_) | (refine pw_lk1 rfl rfl (by assumption) ?_) | (refine pw_lkn rfl rfl (by assumption) ?_) | (refine pw_pg rfl rfl (by first | exact fun _ => rfl | exact fun _ => (by assumption) | exact fun h => (by simp only [if_pos h]; rfl) | exact fun h => (by simp only [if_pos h]; assumption)) ?_) | (refine pw_lg1 rfl rfl (by first | exact fun _ => rfl | exact fun h => (by simp only [if_pos h]; rfl) | exact fun h => (by simp only [if_pos h]; assumption)) (by assumption) ?_) | (refine pw_p rfl (by assumption) ?_) | (refine pw_nil ?_) | (refine ps_seq ?_) | (refine ps_ops0 mix ?_) | (refine ps_skip ?_) | (refine ps_block ?_))
  rw [wrap_i64 (n := a * n) (by omega) (by omega), wrap_i64 (n := b - a) (by omega) (by omega), wrap_i64 (n := k * (b - a)) (by omega) (by omega), wrap_i64 (n := a * n + k * (b - a)) (by omega) (by omega), wrap_i64 (n := 2 * (a * n + k * (b - a))) (by omega) (by omega), wrap_i64 (n := 2 * (a * n + k * (b - a)) + n) (by omega) (by omega), wrap_i64 (n := 2 * n) (by omega) (by omega)]
  have hbt : betw a b k n = (2 * (a * n + k * (b - a)) + n) / (2 * n) := rfl
  rw [hbt]
  clear hbt
  generalize 2 * (a * n + k * (b - a)) + n = N at *
  refine pw_quo rfl rfl rfl (by omega) ?_
  rw [wrap_i64 (n := N.tdiv (2 * n)) (by omega) (by omega)]
  repeat (first | (refine pw_pick rfl rfl (by first | exact fun _ => rfl | exact fun h => (by simp only [if_pos h]; rfl) | exact fun h => (by simp only [if_pos h]; assumption)) (by first | exact fun _ => rfl | exact fun h => (by simp only [if_pos h]; rfl) | exact fun h => (by simp only [if_pos h]; assumption)) ?_) | (refine pw_mvt rfl ?_) | (refine pw_max rfl rfl rfl ?_) | (refine pw_min rfl rfl rfl ?_) | (refine pw_mvc ?_) | (refine pw_p rfl rfl ?_) | (refine pw_l1 rfl rfl (by assumption) ?_) | (refine pw_ln rfl rfl (by assumption) ?_) | (refine pw_lk1 rfl rfl (by assumption) ?_) | (refine pw_lkn rfl rfl (by assumption) ?_) | (refine pw_pg rfl rfl (by first | exact fun _ => rfl | exact fun _ => (by assumption) | exact fun h => (by simp only [if_pos h]; rfl) | exact fun h => (by simp only [if_pos h]; assumption)) ?_) | (refine pw_lg1 rfl rfl (by first | exact fun _ => rfl | exact fun h => (by simp only [if_pos h]; rfl) | exact fun h => (by simp only [if_pos h]; assumption)) (by assumption) ?_) | (refine pw_p rfl (by assumption) ?_) | (refine pw_nil ?_) | (refine ps_seq ?_) | (refine ps_ops0 mix ?_) | (refine ps_skip ?_) | (refine ps_block ?_))
  rw [wrap_i64 (n := 2 * n) (by omega) (by omega)]
  refine pw_rem rfl rfl rfl (by omega) ?_
  repeat (first | (refine pw_pick rfl rfl (by first | exact fun _ => rfl | exact fun h => (by simp only [if_pos h]; rfl) | exact fun h => (by simp only [if_pos h]; assumption)) (by first | exact fun _ => rfl | exact fun h => (by simp only [if_pos h]; rfl) | exact fun h => (by simp only [if_pos h]; assumption)) ?_) | (refine pw_mvt rfl ?_) | (refine pw_max rfl rfl rfl ?_) | (refine pw_min rfl rfl rfl ?_) | (refine pw_mvc ?_) | (refine pw_p rfl rfl ?_) | (refine pw_l1 rfl rfl (by assumption) ?_) | (refine pw_ln rfl rfl (by assumption) ?_) | (refine pw_lk1 rfl rfl (by assumption) ?_) | (refine pw_lkn rfl rfl (by assumption) ?_) | (refine pw_pg rfl rfl (by first | exact fun _ => rfl | exact fun _ => (by assumption) | exact fun h => (by simp only [if_pos h]; rfl) | exact fun h => (by simp only [if_pos h]; assumption)) ?_) | (refine pw_lg1 rfl rfl (by first | exact fun _ => rfl | exact fun h => (by simp only [if_pos h]; rfl) | exact fun h => (by simp only [if_pos h]; assumption)) (by assumption) ?_) | (refine pw_p rfl (by assumption) ?_) | (refine pw_nil ?_) | (refine ps_seq ?_) | (refine ps_ops0 mix ?_) | (refine ps_skip ?_) | (refine ps_block ?_))
  refine ps_if rfl rfl (fun ht => ?_) (fun ht => ?_)
  · repeat (first | (refine pw_pick rfl rfl (by first | exact fun _ => rfl | exact fun h => (by simp only [if_pos h]; rfl) | exact fun h => (by simp only [if_pos h]; assumption)) (by first | exact fun _ => rfl | exact fun h => (by simp only [if_pos h]; rfl) | exact fun h => (by simp only [if_pos h]; assumption)) ?_) | (refine pw_mvt rfl ?_) | (refine pw_max rfl rfl rfl ?_) | (refine pw_min rfl rfl rfl ?_) | (refine pw_mvc ?_) | (refine pw_p rfl rfl ?_) | (refine pw_l1 rfl rfl (by assumption) ?_) | (refine pw_ln rfl rfl (by assumption) ?_) | (refine pw_lk1 rfl rfl (by assumption) ?_) | (refine pw_lkn rfl rfl (by assumption) ?_) | (refine pw_pg rfl rfl (by first | exact fun _ => rfl | exact fun _ => (by assumption) | exact fun h => (by simp only [if_pos h]; rfl) | exact fun h => (by simp only [if_pos h]; assumption)) ?_) | (refine pw_lg1 rfl rfl (by first | exact fun _ => rfl | exact fun h => (by simp only [if_pos h]; rfl) | exact fun h => (by simp only [if_pos h]; assumption)) (by assumption) ?_) | (refine pw_p rfl (by assumption) ?_) | (refine pw_nil ?_) | (refine ps_seq ?_) | (refine ps_ops0 mix ?_) | (refine ps_skip ?_) | (refine ps_block ?_))
    simp at ht
    rw [if_pos ht] at hf
    refine ps_ret ⟨_, rfl, ?_, rfl⟩
    rw [wrap_i64 (by omega) (by omega), hf]
  · repeat (first | (refine pw_pick rfl rfl (by first | exact fun _ => rfl | exact fun h => (by simp only [if_pos h]; rfl) | exact fun h => (by simp only [if_pos h]; assumption)) (by first | exact fun _ => rfl | exact fun h => (by simp only [if_pos h]; rfl) | exact fun h => (by simp only [if_pos h]; assumption)) ?_) | (refine pw_mvt rfl ?_) | (refine pw_max rfl rfl rfl ?_) | (refine pw_min rfl rfl rfl ?_) | (refine pw_mvc ?_) | (refine pw_p rfl rfl ?_) | (refine pw_l1 rfl rfl (by assumption) ?_) | (refine pw_ln rfl rfl (by assumption) ?_) | (refine pw_lk1 rfl rfl (by assumption) ?_) | (refine pw_lkn rfl rfl (by assumption) ?_) | (refine pw_pg rfl rfl (by first | exact fun _ => rfl | exact fun _ => (by assumption) | exact fun h => (by simp only [if_pos h]; rfl) | exact fun h => (by simp only [if_pos h]; assumption)) ?_) | (refine pw_lg1 rfl rfl (by first | exact fun _ => rfl | exact fun h => (by simp only [if_pos h]; rfl) | exact fun h => (by simp only [if_pos h]; assumption)) (by assumption) ?_) | (refine pw_p rfl (by assumption) ?_) | (refine pw_nil ?_) | (refine ps_seq ?_) | (refine ps_ops0 mix ?_) | (refine ps_skip ?_) | (refine ps_block ?_))
    simp at ht
    rw [if_neg (by omega)] at hf
    exact ps_ret ⟨_, rfl, by rw [hf], rfl⟩

def nearB (l : List Pt) : Bool := l.all fun p => decide (-1000 ≤ p.1) && decide (p.1 ≤ 1000) && decide (-1000 ≤ p.2) && decide (p.2 ≤ 1000)
theorem near_ro {H : Hp} {l : List Pt} {v : V} (hl : Pts H l v) (hn : l.length < 1000000000000) : ACalls Tryd.prog 1 40 [v] H fun v _ => v = .bool (nearB l) := by
  refine pfn_ok cp40 (by simp [f40]) fun hwf => ?_
  have hlen := hl.len
  repeat (first | (refine pw_pick rfl rfl (by first | exact fun _ => rfl | exact fun h => (by simp only [if_pos h]; rfl) | exact fun h => (by simp only [if_pos h]; assumption)) (by first | exact fun _ => rfl | exact fun h => (by simp only [if_pos h]; rfl) | exact fun h => (by simp only [if_pos h]; assumption)) ?_) | (refine pw_mvt rfl ?_) | (refine pw_max rfl rfl rfl ?_) | (refine pw_min rfl rfl rfl ?_) | (refine pw_mvc ?_) | (refine pw_p rfl rfl ?_) | (refine pw_l1 rfl rfl (by assumption) ?_) | (refine pw_ln rfl rfl (by assumption) ?_) | (refine pw_lk1 rfl rfl (by assumption) ?_) | (refine pw_lkn rfl rfl (by assumption) ?_) | (refine pw_pg rfl rfl (by first | exact fun _ => rfl | exact fun _ => (by assumption) | exact fun h => (by simp only [if_pos h]; rfl) | exact fun h => (by simp only [if_pos h]; assumption)) ?_) | (refine pw_lg1 rfl rfl (by first | exact fun _ => rfl | exact fun h => (by simp only [if_pos h]; rfl) | exact fun h => (by simp only [if_pos h]; assumption)) (by assumption) ?_) | (refine pw_p rfl (by assumption) ?_) | (refine pw_nil ?_) | (refine ps_seq ?_) | (refine ps_ops0 mix ?_) | (refine ps_skip ?_) | (refine ps_block ?_))
  refine ps_loop (fun m E H' => Pts H' l v ∧ ∃ k : Nat, k + m = l.length ∧ E = [(5, v), (6, .int l.length), (7, .int k)] ∧ nearB (l.take k) = true) (m := l.length) ⟨_, (SubE.cons (k := 5) rfl (SubE.cons (k := 6) rfl (SubE.cons (k := 7) rfl (SubE.nil _)))), hl, 0, by omega, rfl, rfl⟩ ?_
  rintro m E H' hwf' ⟨hl', k, hk, rfl, hno⟩
  repeat (first | (refine pw_pick rfl rfl (by first | exact fun _ => rfl | exact fun h => (by simp only [if_pos h]; rfl) | exact fun h => (by simp only [if_pos h]; assumption)) (by first | exact fun _ => rfl | exact fun h => (by simp only [if_pos h]; rfl) | exact fun h => (by simp only [if_pos h]; assumption)) ?_) | (refine pw_mvt rfl ?_) | (refine pw_max rfl rfl rfl ?_) | (refine pw_min rfl rfl rfl ?_) | (refine pw_mvc ?_) | (refine pw_p rfl rfl ?_) | (refine pw_l1 rfl rfl (by assumption) ?_) | (refine pw_ln rfl rfl (by assumption) ?_) | (refine pw_lk1 rfl rfl (by assumption) ?_) | (refine pw_lkn rfl rfl (by assumption) ?_) | (refine pw_pg rfl rfl (by first | exact fun _ => rfl | exact fun _ => (by assumption) | exact fun h => (by simp only [if_pos h]; rfl) | exact fun h => (by simp only [if_pos h]; assumption)) ?_) | (refine pw_lg1 rfl rfl (by first | exact fun _ => rfl | exact fun h => (by simp only [if_pos h]; rfl) | exact fun h => (by simp only [if_pos h]; assumption)) (by assumption) ?_) | (refine pw_p rfl (by assumption) ?_) | (refine pw_nil ?_) | (refine ps_seq ?_) | (refine ps_ops0 mix ?_) | (refine ps_skip ?_) | (refine ps_block ?_))
  refine ps_if rfl rfl (fun ht => ?_) (fun ht => ?_)
  · simp at ht
    obtain ⟨p, hp⟩ : ∃ p, l[k]? = some p := ⟨_, List.getElem?_eq_getElem (by omega)⟩
    obtain ⟨b, o, e1, e2⟩ := hl'.at hp .i64
    obtain ⟨H3, s1, hw3, hx3, hb3, hn3⟩ := new_var hwf' [.int .i64 0, .int .i64 0] (ptC p) rfl
    repeat (first | (refine pw_pick rfl rfl (by first | exact fun _ => rfl | exact fun h => (by simp only [if_pos h]; rfl) | exact fun h => (by simp only [if_pos h]; assumption)) (by first | exact fun _ => rfl | exact fun h => (by simp only [if_pos h]; rfl) | exact fun h => (by simp only [if_pos h]; assumption)) ?_) | (refine pw_mvt rfl ?_) | (refine pw_max rfl rfl rfl ?_) | (refine pw_min rfl rfl rfl ?_) | (refine pw_mvc ?_) | (refine pw_p rfl rfl ?_) | (refine pw_l1 rfl rfl (by assumption) ?_) | (refine pw_ln rfl rfl (by assumption) ?_) | (refine pw_lk1 rfl rfl (by assumption) ?_) | (refine pw_lkn rfl rfl (by assumption) ?_) | (refine pw_pg rfl rfl (by first | exact fun _ => rfl | exact fun _ => (by assumption) | exact fun h => (by simp only [if_pos h]; rfl) | exact fun h => (by simp only [if_pos h]; assumption)) ?_) | (refine pw_lg1 rfl rfl (by first | exact fun _ => rfl | exact fun h => (by simp only [if_pos h]; rfl) | exact fun h => (by simp only [if_pos h]; assumption)) (by assumption) ?_) | (refine pw_p rfl (by assumption) ?_) | (refine pw_nil ?_) | (refine ps_seq ?_) | (refine ps_ops0 mix ?_) | (refine ps_skip ?_) | (refine ps_block ?_))
    have c0 := hb3.cell (i := 0) rfl
    have c1 := hb3.cell (i := 1) rfl
    refine pw_a rfl rfl (pw_stn rfl rfl rfl rfl s1 trivial ?_)
    repeat (first | (refine pw_pick rfl rfl (by first | exact fun _ => rfl | exact fun h => (by simp only [if_pos h]; rfl) | exact fun h => (by simp only [if_pos h]; assumption)) (by first | exact fun _ => rfl | exact fun h => (by simp only [if_pos h]; rfl) | exact fun h => (by simp only [if_pos h]; assumption)) ?_) | (refine pw_mvt rfl ?_) | (refine pw_max rfl rfl rfl ?_) | (refine pw_min rfl rfl rfl ?_) | (refine pw_mvc ?_) | (refine pw_p rfl rfl ?_) | (refine pw_l1 rfl rfl (by assumption) ?_) | (refine pw_ln rfl rfl (by assumption) ?_) | (refine pw_lk1 rfl rfl (by assumption) ?_) | (refine pw_lkn rfl rfl (by assumption) ?_) | (refine pw_pg rfl rfl (by first | exact fun _ => rfl | exact fun _ => (by assumption) | exact fun h => (by simp only [if_pos h]; rfl) | exact fun h => (by simp only [if_pos h]; assumption)) ?_) | (refine pw_lg1 rfl rfl (by first | exact fun _ => rfl | exact fun h => (by simp only [if_pos h]; rfl) | exact fun h => (by simp only [if_pos h]; assumption)) (by assumption) ?_) | (refine pw_p rfl (by assumption) ?_) | (refine pw_nil ?_) | (refine ps_seq ?_) | (refine ps_ops0 mix ?_) | (refine ps_skip ?_) | (refine ps_block ?_))
    have hpk : nearB (l.take (k + 1)) = (nearB (l.take k) && nearB [p]) := by
      rw [List.take_add_one, hp]
      simp [nearB]
    refine ps_if rfl rfl (fun ht2 => ?_) (fun ht2 => ?_)
    · repeat (first | (refine pw_pick rfl rfl (by first | exact fun _ => rfl | exact fun h => (by simp only [if_pos h]; rfl) | exact fun h => (by simp only [if_pos h]; assumption)) (by first | exact fun _ => rfl | exact fun h => (by simp only [if_pos h]; rfl) | exact fun h => (by simp only [if_pos h]; assumption)) ?_) | (refine pw_mvt rfl ?_) | (refine pw_max rfl rfl rfl ?_) | (refine pw_min rfl rfl rfl ?_) | (refine pw_mvc ?_) | (refine pw_p rfl rfl ?_) | (refine pw_l1 rfl rfl (by assumption) ?_) | (refine pw_ln rfl rfl (by assumption) ?_) | (refine pw_lk1 rfl rfl (by assumption) ?_) | (refine pw_lkn rfl rfl (by assumption) ?_) | (refine pw_pg rfl rfl (by first | exact fun _ => rfl | exact fun _ => (by assumption) | exact fun h => (by simp only [if_pos h]; rfl) | exact fun h => (by simp only [if_pos h]; assumption)) ?_) | (refine pw_lg1 rfl rfl (by first | exact fun _ => rfl | exact fun h => (by simp only [if_pos h]; rfl) | exact fun h => (by simp only [if_pos h]; assumption)) (by assumption) ?_) | (refine pw_p rfl (by assumption) ?_) | (refine pw_nil ?_) | (refine ps_seq ?_) | (refine ps_ops0 mix ?_) | (refine ps_skip ?_) | (refine ps_block ?_))
      refine ps_ret ⟨_, rfl, ?_⟩
      congr 2
      symm
      simp at ht2
      simp only [nearB, List.all_eq_false]
      refine ⟨p, List.mem_of_getElem? hp, ?_⟩
      simp
      omega
    · repeat (first | (refine pw_pick rfl rfl (by first | exact fun _ => rfl | exact fun h => (by simp only [if_pos h]; rfl) | exact fun h => (by simp only [if_pos h]; assumption)) (by first | exact fun _ => rfl | exact fun h => (by simp only [if_pos h]; rfl) | exact fun h => (by simp only [if_pos h]; assumption)) ?_) | (refine pw_mvt rfl ?_) | (refine pw_max rfl rfl rfl ?_) | (refine pw_min rfl rfl rfl ?_) | (refine pw_mvc ?_) | (refine pw_p rfl rfl ?_) | (refine pw_l1 rfl rfl (by assumption) ?_) | (refine pw_ln rfl rfl (by assumption) ?_) | (refine pw_lk1 rfl rfl (by assumption) ?_) | (refine pw_lkn rfl rfl (by assumption) ?_) | (refine pw_pg rfl rfl (by first | exact fun _ => rfl | exact fun _ => (by assumption) | exact fun h => (by simp only [if_pos h]; rfl) | exact fun h => (by simp only [if_pos h]; assumption)) ?_) | (refine pw_lg1 rfl rfl (by first | exact fun _ => rfl | exact fun h => (by simp only [if_pos h]; rfl) | exact fun h => (by simp only [if_pos h]; assumption)) (by assumption) ?_) | (refine pw_p rfl (by assumption) ?_) | (refine pw_nil ?_) | (refine ps_seq ?_) | (refine ps_ops0 mix ?_) | (refine ps_skip ?_) | (refine ps_block ?_))
      simp at ht2
      refine ⟨m - 1, by omega, _, (SubE.cons (k := 5) rfl (SubE.cons (k := 6) rfl (SubE.cons (k := 7) rfl (SubE.nil _)))), hl'.ext hx3, k + 1, by omega, ?_, ?_⟩
      · rw [wrap_i64 (by omega) (by omega)]; rfl
      · rw [hpk, hno]
        simp [nearB]
        omega
  · simp at ht
    obtain rfl : k = l.length := by omega
    rw [List.take_length] at hno
    refine ps_exit ?_
    repeat (first | (refine pw_pick rfl rfl (by first | exact fun _ => rfl | exact fun h => (by simp only [if_pos h]; rfl) | exact fun h => (by simp only [if_pos h]; assumption)) (by first | exact fun _ => rfl | exact fun h => (by simp only [if_pos h]; rfl) | exact fun h => (by simp only [if_pos h]; assumption)) ?_) | (refine pw_mvt rfl ?_) | (refine pw_max rfl rfl rfl ?_) | (refine pw_min rfl rfl rfl ?_) | (refine pw_mvc ?_) | (refine pw_p rfl rfl ?_) | (refine pw_l1 rfl rfl (by assumption) ?_) | (refine pw_ln rfl rfl (by assumption) ?_) | (refine pw_lk1 rfl rfl (by assumption) ?_) | (refine pw_lkn rfl rfl (by assumption) ?_) | (refine pw_pg rfl rfl (by first | exact fun _ => rfl | exact fun _ => (by assumption) | exact fun h => (by simp only [if_pos h]; rfl) | exact fun h => (by simp only [if_pos h]; assumption)) ?_) | (refine pw_lg1 rfl rfl (by first | exact fun _ => rfl | exact fun h => (by simp only [if_pos h]; rfl) | exact fun h => (by simp only [if_pos h]; assumption)) (by assumption) ?_) | (refine pw_p rfl (by assumption) ?_) | (refine pw_nil ?_) | (refine ps_seq ?_) | (refine ps_ops0 mix ?_) | (refine ps_skip ?_) | (refine ps_block ?_))
    exact ps_ret ⟨_, rfl, by rw [hno]⟩
theorem near_ok {H : Hp} {l : List Pt} {v : V} (hl : Pts H l v) (hn : l.length < 1000000000000) : ACalls Tryd.prog 1 40 [v] H fun v H' => v = .bool (nearB l) ∧ H' = H :=
  (ACalls.pure (near_ro (hl.le (Le.ro H)) hn) (fun v _ h => by rw [h]; rfl)).mono fun v H' ⟨⟨_, h⟩, e⟩ => ⟨h, e⟩
end Go.Ab.Fn

/- Deep contracts: distances. -/
namespace Go.Ab.Fn
open Go.Ab Go.Proofs
set_option linter.unusedSimpArgs false

theorem d_sanity : DK 10 [] fun d => d = .bool true := DCalls.of_pure (vs := []) trivial rfl fun H hH => sanity_ok (hH 0 _ rfl)
theorem d_apart {p q : Pt2} (hp : Small 1000000000000000000 p) (hq : Small 1000000000000000000 q) : DK 41 [ptD p, ptD q] fun d => d = .int (far p q) := DCalls.of_pure (vs := [ptV p, ptV q]) ⟨rfl, rfl, trivial⟩ rfl fun H _ => apart_ok hp hq
theorem d_far {p q : Pt2} (hp : Small 1000000000000000000 p) (hq : Small 1000000000000000000 q) : DK 15 [ptD p, ptD q] fun d => d = .int (far p q) := DCalls.of_pure (vs := [ptV p, ptV q]) ⟨rfl, rfl, trivial⟩ rfl fun H _ => rfar_ok hp hq

theorem aEqs_pt (p q : Pt2) : aEqs [.int .i64 p.1, .int .i64 p.2] [.int .i64 q.1, .int .i64 q.2] [(0, false), (1, false)] = some (decide (p = q)) := by
  obtain ⟨p1, p2⟩ := p
  obtain ⟨q1, q2⟩ := q
  simp only [aEqs, aEq, List.getElem?_cons_zero, List.getElem?_cons_succ, if_true]
  by_cases h1 : p1 = q1
  · by_cases h2 : p2 = q2
    · subst h1; subst h2; simp
    · have e2 : (p2 == q2) = false := by simpa using h2
      subst h1; simp [h2, e2]
  · have e1 : (p1 == q1) = false := by simpa using h1
    simp [h1, e1]
/-- points that are compared -/
theorem d_eqpt {neg : Bool} {E : DEnv} {x y : Opd} {p q : Pt2} (hx : ro E x = some (.agg [.f (.c (.int .i64 p.1)), .f (.c (.int .i64 p.2))])) (hy : ro E y = some (.agg [.f (.c (.int .i64 q.1)), .f (.c (.int .i64 q.2))])) : dPure E (.eqs neg [(0, false), (1, false)] x y) = some (.bool (match neg with | true => !decide (p = q) | false => decide (p = q))) := by
  have ex : exO E x = some (.agg [.int .i64 p.1, .int .i64 p.2]) := by simp [exO, hx, exV, exL, exC]
  have ey : exO E y = some (.agg [.int .i64 q.1, .int .i64 q.2]) := by simp [exO, hy, exV, exL, exC]
  simp only [dPure, dEx, PureOp.opds, allB, isEx, ex, ey, Option.isSome_some, PureOp.mp, rx, aPure, Opd.ev, aEqs_pt]
  cases neg <;> rfl

theorem d_has {l : List Pt2} {p : Pt2} (hn : l.length < 1000000000000) : DK 20 [ptsD l, ptD p] fun d => d = .bool (decide (p ∈ l)) := by
  refine dfn_ok cp20 rfl GHro fun Z0 lo => ?_
  repeat (first | refine dw_p rfl ?_ | refine dw_a rfl ?_ | refine dw_nil ?_ | refine ds_seq ?_ | refine ds_ops mix (fun base => ?_) | refine ds_block ?_)
  refine ds_loop (fun m E S nk => ∃ k : Nat, k + m = l.length ∧ E = [(0, ptsD l), (3, .one (.ptr 0 0)), (5, .int k)] ∧ S = [(0, .cells [.f (.c (.int .i64 p.1)), .f (.c (.int .i64 p.2))])] ∧ nk = 1 ∧ p ∉ l.take k) ⟨l.length, _, _, _, [], ?wk, 0, by omega, rfl, rfl, rfl, by simp⟩ ?_
  case wk => exact ⟨by repeat (first | exact trivial | refine ⟨by first | rfl | exact congrArg (fun z => some (DV.int z)) (dwrap (by omega) (by omega)), rfl, ?_⟩), by repeat (first | exact trivial | refine ⟨by first | rfl | exact congrArg (fun z => some (Bk.data z)) (by assumption), rfl, rfl, ?_⟩), rfl⟩
  rintro m E S nk ⟨k, hk, rfl, rfl, rfl, hno⟩
  repeat (first | refine dw_p rfl ?_ | refine dw_nil ?_ | refine ds_seq ?_ | refine ds_ops mix (fun base => ?_))
  refine ds_if rfl (fun ht => ?_) (fun ht => ?_)
  · simp at ht
    obtain ⟨q, hq⟩ : ∃ q, l[k]? = some q := ⟨_, List.getElem?_eq_getElem (by omega)⟩
    have e1 := ptF_at hq
    repeat (first | refine dw_p rfl ?_ | refine dw_l rfl ?_ | refine dw_if rfl rfl (by omega) (by decide) (by assumption) ?_ | refine ds_seq ?_ | refine ds_ops mix (fun base => ?_) | refine ds_skip ?_ | refine ds_block ?_)
    refine dw_p (d_eqpt (p := q) (q := p) rfl rfl) ?_
    repeat (first | refine dw_nil ?_)
    refine ds_if rfl (fun ht2 => ?_) (fun ht2 => ?_)
    · simp at ht2
      repeat (first | refine dw_p rfl ?_ | refine dw_nil ?_ | refine ds_seq ?_ | refine ds_ops mix (fun base => ?_))
      refine ds_ret ⟨_, rfl, rfl, ?_⟩
      rw [decide_eq_true (by rw [← ht2]; exact List.mem_of_getElem? hq)]
    · simp at ht2
      repeat (first | refine dw_p rfl ?_ | refine dw_nil ?_ | refine ds_ops mix (fun base => ?_) | refine ds_skip ?_)
      refine ⟨m - 1, by omega, _, _, _, [], ?wk, k + 1, by omega, rfl, rfl, rfl, ?_⟩
      case wk => exact ⟨by repeat (first | exact trivial | refine ⟨by first | rfl | exact congrArg (fun z => some (DV.int z)) (dwrap (by omega) (by omega)), rfl, ?_⟩), by repeat (first | exact trivial | refine ⟨by first | rfl | exact congrArg (fun z => some (Bk.data z)) (by assumption), rfl, rfl, ?_⟩), rfl⟩
      rw [List.take_add_one, hq]
      simp
      exact ⟨hno, fun h => ht2 h.symm⟩
  · simp at ht
    repeat (first | refine dw_p rfl ?_ | refine dw_nil ?_ | refine ds_seq ?_ | refine ds_ops mix (fun base => ?_) | refine ds_exit ?_)
    refine ds_ret ⟨_, rfl, rfl, ?_⟩
    obtain rfl : k = l.length := by omega
    rw [List.take_length] at hno
    rw [decide_eq_false hno]

def fars (a b : List Pt2) : List Int := a.flatMap fun p => b.map (far p)
def dist (a b : List Pt2) : Int := match a, b with
  | [], _ => -1
  | _, [] => -1
  | p :: _, q :: _ => (fars a b).foldl min (far p q)
def Smalls (l : List Pt2) : Prop := ∀ p ∈ l, Small 1000000000000000000 p


theorem foldl_min_le : ∀ (l : List Int) (x : Int), l.foldl min x ≤ x ∧ ∀ y ∈ l, l.foldl min x ≤ y
  | [], x => ⟨by simp, by simp⟩
  | y :: l, x => by
    have h := foldl_min_le l (min x y)
    simp only [List.foldl_cons]
    refine ⟨by omega, fun z hz => ?_⟩
    rcases List.mem_cons.1 hz with rfl | hz
    · omega
    · exact h.2 z hz
theorem foldl_min_mem : ∀ (l : List Int) (x : Int), l.foldl min x = x ∨ l.foldl min x ∈ l
  | [], x => .inl rfl
  | y :: l, x => by
    simp only [List.foldl_cons]
    rcases foldl_min_mem l (min x y) with h | h
    · rw [h]
      by_cases hxy : x ≤ y
      · exact .inl (by omega)
      · exact .inr (by simp; omega)
    · exact .inr (by simp [h])

theorem d_distance {a b : List Pt2} (ha : Smalls a) (hb : Smalls b) (hn : a.length ≤ 256) (hm : b.length ≤ 256) : DK 19 [ptsD a, ptsD b] fun d => d = .int (dist a b) := by
  refine dfn_ok cp19 rfl GHro fun Z0 lo => ?_
  repeat (first | refine dw_pick rfl (by first | exact fun _ => rfl | exact fun h => (by simp only [if_pos h]; rfl) | exact fun h => (by simp only [h, if_true, if_false]; rfl)) (by first | exact fun _ => rfl | exact fun h => (by simp only [if_pos h]; rfl) | exact fun h => (by simp only [h, if_true, if_false]; rfl)) ?_ | refine dw_p rfl ?_ | refine dw_pg rfl (by first | exact fun _ => rfl | exact fun h => (by simp only [if_pos h]; rfl) | exact fun h => (by simp only [h, if_true, if_false]; rfl)) ?_ | refine dw_nil ?_ | refine ds_seq ?_ | refine ds_ops mix (fun base => ?_))
  refine ds_if rfl (fun ht => ?_) (fun ht => ?_)
  · simp at ht
    repeat (first | refine dw_p rfl ?_ | refine dw_nil ?_ | refine ds_seq ?_ | refine ds_ops mix (fun base => ?_))
    refine ds_ret ⟨_, rfl, rfl, ?_⟩
    cases a with
    | nil => rfl
    | cons p a => cases b with
      | nil => rfl
      | cons q b => simp at ht
  · simp only [Bool.if_true_left, Bool.or_eq_false_iff, decide_eq_false_iff_not, ← List.length_eq_zero_iff] at ht
    simp at ht
    obtain ⟨ht1, ht2⟩ := ht
    obtain ⟨p0, a', rfl⟩ : ∃ q l, a = q :: l := List.exists_cons_of_ne_nil ht1
    obtain ⟨q0, b', rfl⟩ : ∃ q l, b = q :: l := List.exists_cons_of_ne_nil ht2
    have e1 : subL ((p0 :: a').flatMap ptF) (0 * 2) 2 = some (ptF p0) := ptF_at rfl
    have e2 : subL ((q0 :: b').flatMap ptF) (0 * 2) 2 = some (ptF q0) := ptF_at rfl
    have hp0 := ha p0 (by simp)
    have hq0 := hb q0 (by simp)
    have hl1 : 0 < (p0 :: a').length := by simp
    have hl2 : 0 < (q0 :: b').length := by simp
    have hdist : dist (p0 :: a') (q0 :: b') = (fars (p0 :: a') (q0 :: b')).foldl min (far p0 q0) := rfl
    rw [hdist]
    generalize hga : p0 :: a' = a at *
    generalize hgb : q0 :: b' = b at *
    refine ds_keep (SubA.cons (k := 0) rfl (SubA.cons (k := 1) rfl (SubA.nil _))) (SubA.nil _) ?_
    have hle : (a.length : Int) * b.length ≤ 256 * 256 := Int.mul_le_mul (by omega) (by omega) (by omega) (by omega)
    have h0 : (0 : Int) ≤ (a.length : Int) * b.length := Int.mul_nonneg (by omega) (by omega)
    iterate 10 (first | refine dw_p rfl ?_ | refine ds_seq ?_ | refine ds_ops mix (fun base => ?_) | refine ds_skip ?_)
    rw [show decide (IntKind.i64.wrap ((a.length : Int) * b.length) > 65536) = false by rw [dwrap (by omega) (by omega)]; simp; omega]
    repeat (first | refine dw_skip rfl rfl ?_ | refine dw_pickF rfl rfl ?_ | refine dw_p rfl ?_ | refine dw_nil ?_)
    refine ds_if rfl (fun ht => by cases ht) (fun _ => ?_)
    repeat (first | refine dw_p rfl ?_ | refine dw_l rfl ?_ | refine dw_if0 rfl rfl (by omega) (by decide) (by assumption) ?_ | refine ds_seq ?_ | refine ds_ops mix (fun base => ?_) | refine ds_skip ?_)
    refine dw_cf rfl rfl (d_apart hp0 hq0) ?_
    rintro _ rfl
    repeat (first | refine dw_p rfl ?_ | refine dw_nil ?_ | refine ds_seq ?_ | refine ds_ops mix (fun base => ?_) | refine ds_block ?_)
    refine ds_loop (fun m E S nk => ∃ k : Nat, k + m = a.length ∧ E = [(1, ptsD b), (5, .int ((fars (a.take k) b).foldl min (far p0 q0))), (42, ptsD a), (43, .int a.length), (44, .int k)] ∧ S = [] ∧ nk = 0) ⟨a.length, _, _, _, [], ?wk, 0, by omega, rfl, rfl, rfl⟩ ?_
    case wk => exact ⟨by repeat (first | exact trivial | refine ⟨by first | rfl | exact congrArg (fun z => some (DV.int z)) (dwrap (by omega) (by omega)), rfl, ?_⟩), by repeat (first | exact trivial | refine ⟨by first | rfl | exact congrArg (fun z => some (Bk.data z)) (by assumption), rfl, rfl, ?_⟩), rfl⟩
    rintro m E S nk ⟨k, hk, rfl, rfl, rfl⟩
    repeat (first | refine dw_p rfl ?_ | refine dw_nil ?_ | refine ds_seq ?_ | refine ds_ops mix (fun base => ?_))
    refine ds_if rfl (fun ht => ?_) (fun ht => ?_)
    · simp at ht
      obtain ⟨p, hp⟩ : ∃ q, a[k]? = some q := ⟨_, List.getElem?_eq_getElem (by omega)⟩
      have e3 := ptF_at hp
      have hps := ha p (List.mem_of_getElem? hp)
      repeat (first | refine dw_p rfl ?_ | refine dw_l rfl ?_ | refine dw_if rfl rfl (by omega) (by decide) (by assumption) ?_ | refine dw_a rfl ?_ | refine dw_st rfl rfl rfl rfl rfl (Nat.le_of_ble_eq_true rfl) rfl ?_ | refine dw_nil ?_ | refine ds_seq ?_ | refine ds_ops mix (fun base => ?_) | refine ds_skip ?_ | refine ds_block ?_)
      refine ds_loop (fun m E S nk => ∃ j : Nat, j + m = b.length ∧ E = [(1, ptsD b), (5, .int (((b.take j).map (far p)).foldl min ((fars (a.take k) b).foldl min (far p0 q0)))), (7, .one (.ptr 0 0)), (42, ptsD a), (43, .int a.length), (44, .int k), (48, ptsD b), (49, .int b.length), (50, .int j)] ∧ S = [(0, .cells [.f (.c (.int .i64 p.1)), .f (.c (.int .i64 p.2))])] ∧ nk = 1) ⟨b.length, _, _, _, [], ?wk2, 0, by omega, rfl, rfl, rfl⟩ ?_
      case wk2 => exact ⟨by repeat (first | exact trivial | refine ⟨by first | rfl | exact congrArg (fun z => some (DV.int z)) (dwrap (by omega) (by omega)), rfl, ?_⟩), by repeat (first | exact trivial | refine ⟨by first | rfl | exact congrArg (fun z => some (Bk.data z)) (by assumption), rfl, rfl, ?_⟩), rfl⟩
      rintro m2 E S nk ⟨j, hj, rfl, rfl, rfl⟩
      repeat (first | refine dw_p rfl ?_ | refine dw_nil ?_ | refine ds_seq ?_ | refine ds_ops mix (fun base => ?_))
      refine ds_if rfl (fun ht2 => ?_) (fun ht2 => ?_)
      · simp at ht2
        obtain ⟨q, hq⟩ : ∃ q, b[j]? = some q := ⟨_, List.getElem?_eq_getElem (by omega)⟩
        have e4 := ptF_at hq
        have hqs := hb q (List.mem_of_getElem? hq)
        repeat (first | refine dw_p rfl ?_ | refine dw_l rfl ?_ | refine dw_if rfl rfl (by omega) (by decide) (by assumption) ?_ | refine dw_a rfl ?_ | refine dw_st rfl rfl rfl rfl rfl (Nat.le_of_ble_eq_true rfl) rfl ?_ | refine dw_nil ?_ | refine ds_seq ?_ | refine ds_ops mix (fun base => ?_) | refine ds_skip ?_ | refine ds_block ?_)
        refine dw_cf rfl rfl (d_apart (p := p) (q := q) hps hqs) ?_
        rintro _ rfl
        repeat (first | refine dw_min rfl rfl ?_ | refine dw_p rfl ?_ | refine dw_nil ?_ | refine ds_ops mix (fun base => ?_))
        have hD : min (((b.take j).map (far p)).foldl min ((fars (a.take k) b).foldl min (far p0 q0))) (far p q) = ((b.take (j + 1)).map (far p)).foldl min ((fars (a.take k) b).foldl min (far p0 q0)) := by
          rw [List.take_add_one, hq]
          simp
        rw [hD]
        refine ⟨m2 - 1, by omega, _, _, _, [], ?wk3, j + 1, by omega, rfl, rfl, rfl⟩
        case wk3 => exact ⟨by repeat (first | exact trivial | refine ⟨by first | rfl | exact congrArg (fun z => some (DV.int z)) (dwrap (by omega) (by omega)), rfl, ?_⟩), by repeat (first | exact trivial | refine ⟨by first | rfl | exact congrArg (fun z => some (Bk.data z)) (by assumption), rfl, rfl, ?_⟩), rfl⟩
      · simp at ht2
        obtain rfl : j = b.length := by omega
        repeat (first | refine dw_p rfl ?_ | refine dw_nil ?_ | refine ds_ops mix (fun base => ?_) | refine ds_exit ?_)
        have hD : ((b.take b.length).map (far p)).foldl min ((fars (a.take k) b).foldl min (far p0 q0)) = (fars (a.take (k + 1)) b).foldl min (far p0 q0) := by
          rw [List.take_add_one, hp, List.take_length]
          simp [fars]
        rw [hD]
        refine ⟨m - 1, by omega, _, _, _, [], ?wk3, k + 1, by omega, rfl, rfl, rfl⟩
        case wk3 => exact ⟨by repeat (first | exact trivial | refine ⟨by first | rfl | exact congrArg (fun z => some (DV.int z)) (dwrap (by omega) (by omega)), rfl, ?_⟩), by repeat (first | exact trivial | refine ⟨by first | rfl | exact congrArg (fun z => some (Bk.data z)) (by assumption), rfl, rfl, ?_⟩), rfl⟩
    · simp at ht
      obtain rfl : k = a.length := by omega
      repeat (first | refine dw_p rfl ?_ | refine dw_nil ?_ | refine ds_seq ?_ | refine ds_ops mix (fun base => ?_) | refine ds_exit ?_)
      refine ds_ret ⟨_, rfl, rfl, ?_⟩
      rw [List.take_length]
end Go.Ab.Fn

/- The law GridCells over the deep contracts. -/
namespace Go.Ab.Fn
open Go.Ab Go.Proofs
set_option linter.unusedSimpArgs false

/-- the cell that has the dots b -/
def cellB (b : Nat → Bool) : Nat → Int
  | 0 => 0
  | k + 1 => if b k = true then orC (cellB b k) k else cellB b k
theorem cellUp_B (d : DotsL) (r i : Nat) : ∀ k, cellUp d r i k = cellB (fun k => dot d (2 * i + k / 3) (3 * r + k % 3)) k
  | 0 => rfl
  | k + 1 => by simp only [cellUp, cellB, cellUp_B d r i k]
theorem cellB_congr {b b' : Nat → Bool} : ∀ {k : Nat}, (∀ j, j < k → b j = b' j) → cellB b k = cellB b' k
  | 0, _ => rfl
  | k + 1, h => by
    simp only [cellB]
    rw [cellB_congr (k := k) fun j hj => h j (by omega), h k (by omega)]
theorem cellB_bits : ∀ c : Fin 64, cellB (bitC (c.val : Int)) 6 = (c.val : Int) := by decide +kernel
theorem cellB_none : cellB (fun _ => false) 6 = 0 := rfl
theorem bitC_cellB : ∀ (b0 b1 b2 b3 b4 b5 : Bool) (k : Fin 6), bitC (cellB (fun k => match k with | 0 => b0 | 1 => b1 | 2 => b2 | 3 => b3 | 4 => b4 | _ => b5) 6) k.val = (match k.val with | 0 => b0 | 1 => b1 | 2 => b2 | 3 => b3 | 4 => b4 | _ => b5) := by decide +kernel
theorem cellB_lt : ∀ (b0 b1 b2 b3 b4 b5 : Bool), 0 ≤ cellB (fun k => match k with | 0 => b0 | 1 => b1 | 2 => b2 | 3 => b3 | 4 => b4 | _ => b5) 6 ∧ cellB (fun k => match k with | 0 => b0 | 1 => b1 | 2 => b2 | 3 => b3 | 4 => b4 | _ => b5) 6 < 64 := by decide +kernel
theorem cellUp_from {n m : Nat} {l : Cells} (hp : ∀ r ∈ l, ∀ c ∈ r, 0 ≤ c ∧ c < 64) {r i : Nat} (hr : 3 * r + 2 < m) (hi : 2 * i + 1 < n) : cellUp (fromC n m l) r i 6 = match l[r]? with
    | some row => (row[i]?).getD 0
    | none => 0 := by
  have key : ∀ k, k < 6 → dot (fromC n m l) (2 * i + k / 3) (3 * r + k % 3) = match l[r]? with
      | some row => match row[i]? with
        | some c => bitC c k
        | none => false
      | none => false := fun k hk => by
    rw [fromC_dot l (by omega) (by omega)]
    have e1 : (3 * r + k % 3) / 3 = r := by omega
    have e2 : (2 * i + k / 3) / 2 = i := by omega
    have e3 : (2 * i + k / 3) % 2 * 3 + (3 * r + k % 3) % 3 = k := by omega
    simp only [bitAt, e1, e2, e3]
    cases l[r]? with
    | none => rfl
    | some row => cases hri : row[i]? <;> simp only [hri]
  rw [cellUp_B, cellB_congr key]
  cases hrow : l[r]? with
  | none => simp only; exact cellB_none
  | some row =>
    simp only
    cases hc : row[i]? with
    | none => simp only; exact cellB_none
    | some c =>
      simp only [Option.getD_some]
      obtain ⟨h1, h2⟩ := hp row (List.mem_of_getElem? hrow) c (List.mem_of_getElem? hc)
      have := cellB_bits ⟨c.toNat, by omega⟩
      simp only [Int.toNat_of_nonneg h1] at this
      exact this

def lineC (r : List Int) : List Int := (r.take 8).map fun c => c.tmod 66
def linesC (a : Cells) : Cells := (a.take 5).map lineC
theorem linesC_len (a : Cells) : (linesC a).length ≤ 5 := by simp [linesC]; omega
theorem lineC_len (r : List Int) : (lineC r).length ≤ 8 := by simp [lineC]; omega
theorem d_same0 : DK 28 [.agg [.f (.c (.int .i64 0)), .f (.c (.int .i64 0)), .f (.c .nils)], .agg [.f (.c (.int .i64 0)), .f (.c (.int .i64 0)), .f (.c .nils)]] fun d => d = .bool true := by
  refine dfn_ok cp28 rfl GHro fun Z0 lo => ?_
  repeat (first | refine dw_want rfl rfl ?_ | refine dw_pickF rfl rfl ?_ | refine dw_p rfl ?_ | refine dw_l rfl ?_ | refine dw_a rfl ?_ | refine dw_nil ?_ | refine ds_seq ?_ | refine ds_ops mix (fun base => ?_))
  refine ds_if (t := false) rfl (fun ht => by cases ht) (fun _ => ?_)
  repeat (first | refine dw_p rfl ?_ | refine dw_nil ?_ | refine ds_seq ?_ | refine ds_ops mix (fun base => ?_) | refine ds_skip ?_ | refine ds_block ?_)
  refine ds_loop (fun m E S nk => E = [(2, .one (.ptr 0 0)), (3, .one (.ptr 1 0)), (5, .int 0)] ∧ S = [(0, .cells [.f (.c (.int .i64 0)), .f (.c (.int .i64 0)), .f (.c .nils)]), (1, .cells [.f (.c (.int .i64 0)), .f (.c (.int .i64 0)), .f (.c .nils)])] ∧ nk = 2) ⟨0, _, _, _, [], ?wk, rfl, rfl, rfl⟩ ?_
  case wk => exact ⟨by repeat (first | exact trivial | refine ⟨by first | rfl | exact congrArg (fun z => some (DV.int z)) (dwrap (by omega) (by omega)), rfl, ?_⟩), by repeat (first | exact trivial | refine ⟨by first | rfl | exact congrArg (fun z => some (Bk.data z)) (by assumption), rfl, rfl, ?_⟩), rfl⟩
  rintro m E S nk ⟨rfl, rfl, rfl⟩
  repeat (first | refine dw_p rfl ?_ | refine dw_l rfl ?_ | refine dw_nil ?_ | refine ds_seq ?_ | refine ds_ops mix (fun base => ?_))
  refine ds_if (t := false) rfl (fun ht => by cases ht) (fun _ => ?_)
  repeat (first | refine dw_p rfl ?_ | refine dw_nil ?_ | refine ds_seq ?_ | refine ds_ops mix (fun base => ?_) | refine ds_exit ?_)
  exact ds_ret ⟨_, rfl, rfl, rfl⟩

set_option maxHeartbeats 8000000 in
theorem d_gridCells {a : Cells} {w h : Int} (ha : ∀ r ∈ a, ∀ c ∈ r, 0 ≤ c ∧ c < 256) : DK 7 [cellsV a, .one (.f (.c (.int .u8 w))), .one (.f (.c (.int .u8 h)))] fun d => d = .bool true := by
  refine dfn_ok cp7 rfl GHro fun Z0 lo => ?_
  repeat (first | refine dw_p rfl ?_ | refine dw_nil ?_ | refine ds_seq ?_ | refine ds_ops mix (fun base => ?_))
  refine dw_cf rfl rfl d_sanity ?_
  rintro _ rfl
  repeat (first | refine dw_p rfl ?_ | refine dw_a rfl ?_ | refine dw_nil ?_ | refine ds_seq ?_ | refine ds_ops mix (fun base => ?_) | refine ds_block ?_)
  refine ds_loop (fun m E S nk => ∃ k : Nat, k + m = min 5 a.length ∧ ∃ ls : Cells, ls = linesC (a.take k) ∧ E = [(0, cellsV a), (1, .one (.f (.c (.int .u8 w)))), (2, .one (.f (.c (.int .u8 h)))), (7, .bool true), (8, .one (.own 0 0 ls.length 1)), (9, .int k)] ∧ S = [(0, .data ((cellsF ls).map rowF))] ∧ nk = 1) ⟨min 5 a.length, _, _, _, [], ?wk, 0, by omega, [], rfl, rfl, rfl, rfl⟩ ?_
  case wk => exact ⟨by repeat (first | exact trivial | refine ⟨by first | rfl | exact congrArg (fun z => some (DV.int z)) (dwrap (by omega) (by omega)), rfl, ?_⟩), by repeat (first | exact trivial | refine ⟨by first | rfl | exact congrArg (fun z => some (Bk.data z)) (by assumption), rfl, rfl, ?_⟩), rfl⟩
  rintro m E S nk ⟨k, hk, ls, hls, rfl, rfl, rfl⟩
  have hlsl : ls.length ≤ 5 := by rw [hls]; exact linesC_len _
  repeat (first | refine dw_pick rfl (by first | exact fun _ => rfl | exact fun h => (by simp only [if_pos h]; rfl) | exact fun h => (by simp only [h, if_true, if_false]; rfl)) (by first | exact fun _ => rfl | exact fun h => (by simp only [if_pos h]; rfl) | exact fun h => (by simp only [h, if_true, if_false]; rfl)) ?_ | refine dw_p rfl ?_ | refine dw_pg rfl (by first | exact fun _ => rfl | exact fun h => (by simp only [if_pos h]; rfl) | exact fun h => (by simp only [h, if_true, if_false]; rfl)) ?_ | refine dw_nil ?_ | refine ds_seq ?_ | refine ds_ops mix (fun base => ?_))
  refine ds_if rfl (fun ht => ?_) (fun ht => ?_)
  · simp at ht
    obtain ⟨row, hrow⟩ : ∃ q, a[k]? = some q := ⟨_, List.getElem?_eq_getElem (by omega)⟩
    have e1 := rowF_at (cellsF_at hrow)
    repeat (first | refine dw_p rfl ?_ | refine dw_a rfl ?_ | refine dw_nil ?_ | refine ds_seq ?_ | refine ds_ops mix (fun base => ?_) | refine ds_skip ?_ | refine ds_block ?_)
    refine ds_loop (fun m2 E S nk => ∃ i : Nat, i + m2 = min 8 row.length ∧ ∃ q : List Int, q = lineC (row.take i) ∧ E = [(0, cellsV a), (1, .one (.f (.c (.int .u8 w)))), (2, .one (.f (.c (.int .u8 h)))), (7, .bool true), (8, .one (.own 0 0 ls.length 1)), (9, .int k), (10, .one (.own 1 0 q.length 1)), (11, .int i)] ∧ S = [(0, .data ((cellsF ls).map rowF)), (1, .data (q.map cF))] ∧ nk = 2) ⟨min 8 row.length, _, _, _, [], ?wk1, 0, by omega, [], rfl, rfl, rfl, rfl⟩ ?_
    case wk1 => exact ⟨by repeat (first | exact trivial | refine ⟨by first | rfl | exact congrArg (fun z => some (DV.int z)) (dwrap (by omega) (by omega)), rfl, ?_⟩), by repeat (first | exact trivial | refine ⟨by first | rfl | exact congrArg (fun z => some (Bk.data z)) (by assumption), rfl, rfl, ?_⟩), rfl⟩
    rintro m2 E S nk ⟨i, hi, q, hq, rfl, rfl, rfl⟩
    have hql : q.length ≤ 8 := by rw [hq]; exact lineC_len _
    repeat (first | refine dw_pick rfl (by first | exact fun _ => rfl | exact fun h => (by simp only [if_pos h]; rfl) | exact fun h => (by simp only [h, if_true, if_false]; rfl)) (by first | exact fun _ => rfl | exact fun h => (by simp only [if_pos h]; rfl) | exact fun h => (by simp only [h, if_true, if_false]; rfl)) ?_ | refine dw_p rfl ?_ | refine dw_l rfl ?_ | refine dw_pg rfl (by first | exact fun _ => rfl | exact fun h => (by simp only [if_pos h]; rfl) | exact fun h => (by simp only [h, if_true, if_false]; rfl)) ?_ | refine dw_if rfl rfl (by omega) (by decide) (by assumption) ?_ | refine dw_nil ?_ | refine ds_seq ?_ | refine ds_ops mix (fun base => ?_))
    refine ds_if rfl (fun ht2 => ?_) (fun ht2 => ?_)
    · simp at ht2
      obtain ⟨c, hc⟩ : ∃ c, row[i]? = some c := ⟨_, List.getElem?_eq_getElem (by omega)⟩
      have e2 := one_at (cF_at hc)
      have l1 : i < (row.map cF).length := by simp; omega
      repeat (first | refine dw_p rfl ?_ | refine dw_l rfl ?_ | refine dw_if rfl rfl (by omega) (by decide) (by assumption) ?_ | refine dw_a rfl ?_ | refine ds_seq ?_ | refine ds_ops mix (fun base => ?_) | refine ds_skip ?_ | refine ds_block ?_)
      refine dw_app (l' := q.map cF) (q := [cF (c.tmod 66)]) rfl rfl rfl (subL_all _ (by simp)) ⟨rfl, rfl, _, rfl, rfl⟩ (by omega) (by omega) (by decide) rfl ?_
      rw [show q.map cF ++ [cF (c.tmod 66)] = (q ++ [c.tmod 66]).map cF by simp, show q.length + 1 = (q ++ [c.tmod 66]).length by simp]
      repeat (first | refine dw_p rfl ?_ | refine dw_nil ?_ | refine ds_ops mix (fun base => ?_))
      refine ⟨m2 - 1, by omega, _, _, _, [(1, 3)], ?wk2, i + 1, by omega, q ++ [c.tmod 66], ?_, rfl, rfl, rfl⟩
      case wk2 => exact ⟨by repeat (first | exact trivial | refine ⟨by first | rfl | exact congrArg (fun z => some (DV.int z)) (dwrap (by omega) (by omega)), rfl, ?_⟩), by repeat (first | exact trivial | refine ⟨by first | rfl | exact congrArg (fun z => some (Bk.data z)) (by assumption), rfl, rfl, ?_⟩), rfl⟩
      rw [hq, List.take_add_one, hc]
      simp only [lineC, Option.toList_some]
      rw [List.take_append, List.map_append]
      congr 1
      · rw [List.length_take, show 8 - min i row.length = (7 - i) + 1 by omega]; simp
    · simp at ht2
      have hfl : (q.map cF).length = q.length * 1 := by simp
      have hqe : q = lineC row := by
        rw [hq]; simp only [lineC]; rw [List.take_take, show min 8 i = min 8 row.length by omega]
        by_cases h8 : 8 ≤ row.length
        · rw [Nat.min_eq_left h8]
        · rw [Nat.min_eq_right (by omega), List.take_length, List.take_of_length_le (by omega)]
      have hflat0 : ((cellsF ls).map rowF).length = ls.length * 1 := by simp [cellsF]
      refine ds_keep (SubA.cons (k := 0) rfl (SubA.cons (k := 1) rfl (SubA.cons (k := 2) rfl (SubA.cons (k := 7) rfl (SubA.cons (k := 8) rfl (SubA.cons (k := 9) rfl (SubA.cons (k := 10) rfl (SubA.nil _)))))))) (SubA.refl _) ?_
      refine ds_frz 1 rfl (by repeat' (first | exact trivial | rfl | assumption | refine ⟨?_, ?_⟩)) (by repeat' (first | exact trivial | rfl | assumption | refine ⟨?_, ?_⟩)) ?_
      repeat (first | refine dw_p rfl ?_ | refine dw_a rfl ?_ | refine ds_ops mix (fun base => ?_) | refine ds_exit ?_)
      refine dw_app (l' := (cellsF ls).map rowF) (q := [.sl 1 q.length (q.map cF)]) rfl rfl rfl (subL_all _ hflat0) ⟨rfl, rfl, _, rfl, rfl⟩ (by omega) (by omega) (by decide) rfl ?_
      rw [show (cellsF ls).map rowF ++ [.sl 1 q.length (q.map cF)] = (cellsF (ls ++ [q])).map rowF by simp [cellsF, rowF], show ls.length + 1 = (ls ++ [q]).length by simp]
      repeat (first | refine dw_p rfl ?_ | refine dw_nil ?_ | refine ds_ops mix (fun base => ?_))
      refine ⟨m - 1, by omega, _, _, _, [(0, 3)], ?wk3, k + 1, by omega, ls ++ [q], ?_, rfl, rfl, rfl⟩
      case wk3 => exact ⟨by repeat (first | exact trivial | refine ⟨by first | rfl | exact congrArg (fun z => some (DV.int z)) (dwrap (by omega) (by omega)), rfl, ?_⟩), by repeat (first | exact trivial | refine ⟨by first | rfl | exact congrArg (fun z => some (Bk.data z)) (by assumption), rfl, rfl, ?_⟩), rfl⟩
      rw [hls, hqe, List.take_add_one, hrow]
      simp only [linesC, Option.toList_some]
      rw [List.take_append, List.map_append]
      congr 1
      · rw [List.length_take, show 5 - min k a.length = (4 - k) + 1 by omega]; simp
  · simp at ht
    have hlse : ls = linesC a := by
      rw [hls]; simp only [linesC]; rw [List.take_take, show min 5 k = min 5 a.length by omega]
      by_cases h8 : 5 ≤ a.length
      · rw [Nat.min_eq_left h8]
      · rw [Nat.min_eq_right (by omega), List.take_length, List.take_of_length_le (by omega)]
    have hflat0 : ((cellsF ls).map rowF).length = ls.length * 1 := by simp [cellsF]
    have hsm : ∀ r ∈ ls, r.length < 1000000 := fun r hr => by
      rw [hlse] at hr
      simp only [linesC, List.mem_map] at hr
      obtain ⟨q, _, rfl⟩ := hr
      have := lineC_len q
      omega
    have hpos : ∀ r ∈ ls, ∀ c ∈ r, 0 ≤ c := fun r hr c hc => by
      rw [hlse] at hr
      simp only [linesC, List.mem_map] at hr
      obtain ⟨q, hq, rfl⟩ := hr
      simp only [lineC, List.mem_map] at hc
      obtain ⟨c', hc', rfl⟩ := hc
      obtain ⟨h0, _⟩ := ha q (List.mem_of_mem_take hq) c' (List.mem_of_mem_take hc')
      exact Int.tmod_nonneg _ h0
    clear hls hlse hk ht ha
    refine ds_keep (SubA.cons (k := 1) rfl (SubA.cons (k := 2) rfl (SubA.cons (k := 7) rfl (SubA.cons (k := 8) rfl (SubA.nil _))))) (SubA.refl _) ?_
    refine ds_frz 0 rfl (by repeat' (first | exact trivial | rfl | assumption | refine ⟨?_, ?_⟩)) (by repeat' (first | exact trivial | rfl | assumption | refine ⟨?_, ?_⟩)) ?_
    repeat (first | refine dw_p rfl ?_ | refine ds_seq ?_ | refine ds_ops mix (fun base => ?_) | refine ds_exit ?_)
    refine dw_cf rfl rfl (d_from (l := ls) hsm) ?_
    rintro d1 (⟨hf, hfr, rfl⟩ | ⟨hno, rfl⟩)
    · repeat (first | refine dw_p rfl ?_ | refine dw_a rfl ?_ | refine dw_st rfl rfl rfl rfl rfl (Nat.le_of_ble_eq_true rfl) rfl ?_ | refine dw_nil ?_ | refine ds_seq ?_ | refine ds_ops mix (fun base => ?_))
      refine dw_cf rfl rfl (d_rfrom (l := ls) hsm) ?_
      rintro d2 (⟨_, _, rfl⟩ | ⟨hno, rfl⟩)
      · have hfw := hf
        unfold fitH at hfw
        obtain ⟨n, hn, m, hm, hn2, hm3, hn200, hm200, hlm, hrn⟩ : ∃ n, (IntKind.i64.wrap ((IntKind.i64.wrap w).tmod 20 - 1)).toNat = n ∧ ∃ m, (IntKind.i64.wrap ((IntKind.i64.wrap h).tmod 20 - 1)).toNat = m ∧ n % 2 = 0 ∧ m % 3 = 0 ∧ n ≤ 200 ∧ m ≤ 200 ∧ ls.length ≤ m / 3 ∧ ∀ r ∈ ls, r.length ≤ n / 2 := by
          refine ⟨_, rfl, _, rfl, by omega, by omega, by omega, by omega, by omega, fun r hr => ?_⟩
          have := (hfr r hr).1
          omega
        rw [hn, hm]
        have hp : ∀ r ∈ ls, ∀ c ∈ r, 0 ≤ c ∧ c < 64 := fun r hr c hc => ⟨hpos r hr c hc, (hfr r hr).2 c hc⟩
        clear hf hfr hfw hn hm hpos
        have hsz := fromC_sz n m ls
        repeat (first | refine dw_want rfl rfl ?_ | refine dw_p rfl ?_ | refine dw_l rfl ?_ | refine dw_a rfl ?_ | refine dw_st rfl rfl rfl rfl rfl (Nat.le_of_ble_eq_true rfl) rfl ?_ | refine dw_nil ?_ | refine ds_seq ?_ | refine ds_ops mix (fun base => ?_))
        refine dw_cf rfl rfl (d_sameG (by rw [hsz.1]; omega) fun r hr => by rw [hsz.2 r hr]; omega) ?_
        rintro _ rfl
        repeat (first | refine dw_want rfl rfl ?_ | refine dw_pickF rfl rfl ?_ | refine dw_p rfl ?_ | refine dw_nil ?_)
        refine ds_if rfl (fun ht => by cases ht) (fun _ => ?_)
        repeat (first | refine dw_p rfl ?_ | refine dw_nil ?_ | refine ds_seq ?_ | refine ds_ops mix (fun base => ?_) | refine ds_skip ?_)
        refine ds_if (t := false) rfl (fun ht => by cases ht) (fun _ => ?_)
        repeat (first | refine dw_l rfl ?_ | refine ds_seq ?_ | refine ds_ops mix (fun base => ?_) | refine ds_skip ?_)
        refine dw_cf rfl rfl (d_to hn200 hm200 hsz) ?_
        rintro e (⟨_, _, rfl⟩ | ⟨hno, rfl⟩)
        · have hbl : (toC' n m (fromC n m ls)).length = m / 3 := by simp [toC']
          have hw3 : IntKind.i64.wrap ((m : Int).tdiv 3) = ((m / 3 : Nat) : Int) := by rw [td (by omega), dwrap (by omega) (by omega)]; omega
          have hw2 : IntKind.i64.wrap ((n : Int).tdiv 2) = ((n / 2 : Nat) : Int) := by rw [td (by omega), dwrap (by omega) (by omega)]; omega
          have g1 : ((((toC' n m (fromC n m ls)).length : Nat) : Int) != IntKind.i64.wrap ((m : Int).tdiv 3)) = false := by rw [hw3, hbl]; simp
          repeat (first | refine dw_want rfl rfl ?_ | refine dw_pickF rfl rfl ?_ | refine dw_pB rfl (by assumption) ?_ | refine dw_p rfl ?_ | refine dw_l rfl ?_ | refine dw_nil ?_ | refine ds_seq ?_ | refine ds_ops mix (fun base => ?_))
          refine ds_if (t := false) rfl (fun ht => by cases ht) (fun _ => ?_)
          repeat (first | refine dw_p rfl ?_ | refine dw_nil ?_ | refine ds_seq ?_ | refine ds_ops mix (fun base => ?_) | refine ds_skip ?_ | refine ds_block ?_)
          refine ds_keep (SubA.cons (k := 7) rfl (SubA.cons (k := 8) rfl (SubA.cons (k := 12) rfl (SubA.cons (k := 16) rfl (SubA.cons (k := 18) rfl (SubA.nil _)))))) (SubA.cons (k := 1) rfl (SubA.nil _)) ?_
          refine ds_loop (fun k E S nk => ∃ r : Nat, r + k = m / 3 ∧ E = [(7, .bool true), (8, cellsV ls), (12, .one (.ptr 1 0)), (16, cellsV (toC' n m (fromC n m ls))), (18, .int r)] ∧ S = [(1, .cells [.f (.c (.int .i64 n)), .f (.c (.int .i64 m)), .f (.sl 1 (fromC n m ls).length ((rowsF (fromC n m ls)).map rowF))])] ∧ nk = 2) ⟨m / 3, _, _, _, [], ?wk4, 0, by omega, rfl, rfl, rfl⟩ ?_
          case wk4 => exact ⟨by repeat (first | exact trivial | refine ⟨by first | rfl | exact congrArg (fun z => some (DV.int z)) (dwrap (by omega) (by omega)), rfl, ?_⟩), by repeat (first | exact trivial | refine ⟨by first | rfl | exact congrArg (fun z => some (Bk.data z)) (by assumption), rfl, rfl, ?_⟩), rfl⟩
          rintro k E S nk ⟨r, hr, rfl, rfl, rfl⟩
          repeat (first | refine dw_p rfl ?_ | refine dw_nil ?_ | refine ds_seq ?_ | refine ds_ops mix (fun base => ?_))
          refine ds_if rfl (fun ht => ?_) (fun ht => ?_)
          · simp at ht
            rw [hbl] at ht
            have hrow : (toC' n m (fromC n m ls))[r]? = some ((List.range (n / 2)).map fun i => cellUp (fromC n m ls) r i 6) := by simp [toC', ht]
            have e1 := rowF_at (cellsF_at hrow)
            have g2 : ((((((List.range (n / 2)).map fun i => cellUp (fromC n m ls) r i 6).map cF).length : Nat) : Int) != IntKind.i64.wrap ((n : Int).tdiv 2)) = false := by rw [hw2]; simp
            repeat (first | refine dw_pB rfl (by assumption) ?_ | refine dw_p rfl ?_ | refine dw_l rfl ?_ | refine dw_if rfl rfl (by omega) (by decide) (by assumption) ?_ | refine dw_nil ?_ | refine ds_seq ?_ | refine ds_ops mix (fun base => ?_) | refine ds_skip ?_ | refine ds_block ?_)
            refine ds_if (t := false) rfl (fun ht => by cases ht) (fun _ => ?_)
            repeat (first | refine dw_p rfl ?_ | refine dw_nil ?_ | refine ds_seq ?_ | refine ds_ops mix (fun base => ?_) | refine ds_skip ?_ | refine ds_block ?_)
            refine ds_loop (fun k2 E S nk => ∃ i : Nat, i + k2 = n / 2 ∧ E = [(7, .bool true), (8, cellsV ls), (12, .one (.ptr 1 0)), (16, cellsV (toC' n m (fromC n m ls))), (18, .int r), (19, .int i)] ∧ S = [(1, .cells [.f (.c (.int .i64 n)), .f (.c (.int .i64 m)), .f (.sl 1 (fromC n m ls).length ((rowsF (fromC n m ls)).map rowF))])] ∧ nk = 2) ⟨n / 2, _, _, _, [], ?wk5, 0, by omega, rfl, rfl, rfl⟩ ?_
            case wk5 => exact ⟨by repeat (first | exact trivial | refine ⟨by first | rfl | exact congrArg (fun z => some (DV.int z)) (dwrap (by omega) (by omega)), rfl, ?_⟩), by repeat (first | exact trivial | refine ⟨by first | rfl | exact congrArg (fun z => some (Bk.data z)) (by assumption), rfl, rfl, ?_⟩), rfl⟩
            rintro k2 E S nk ⟨i, hi, rfl, rfl, rfl⟩
            repeat (first | refine dw_p rfl ?_ | refine dw_l rfl ?_ | refine dw_if rfl rfl (by omega) (by decide) (by assumption) ?_ | refine dw_nil ?_ | refine ds_seq ?_ | refine ds_ops mix (fun base => ?_))
            refine ds_if rfl (fun ht2 => ?_) (fun ht2 => ?_)
            · simp at ht2
              have ht2 : i < n / 2 := by omega
              have hcell : ((List.range (n / 2)).map fun i => cellUp (fromC n m ls) r i 6)[i]? = some (cellUp (fromC n m ls) r i 6) := by simp [ht2]
              have e2 := one_at (cF_at hcell)
              have l1 : i < (((List.range (n / 2)).map fun i => cellUp (fromC n m ls) r i 6).map cF).length := by simp; omega
              have hval := cellUp_from hp (r := r) (i := i) (n := n) (m := m) (by omega) (by omega)
              by_cases h1 : r < ls.length
              · obtain ⟨row, hrow2⟩ : ∃ q, ls[r]? = some q := ⟨_, List.getElem?_eq_getElem h1⟩
                have g3 : decide ((r : Int) < (ls.length : Nat)) = true := by simpa using h1
                have e3 := rowF_at (cellsF_at hrow2)
                rw [hrow2] at hval
                simp only at hval
                by_cases h2 : i < row.length
                · obtain ⟨c, hc⟩ : ∃ c, row[i]? = some c := ⟨_, List.getElem?_eq_getElem h2⟩
                  have g4 : decide ((i : Int) < ((row.map cF).length : Nat)) = true := by simpa using h2
                  have e4 := one_at (cF_at hc)
                  have l2 : i < (row.map cF).length := by simpa using h2
                  rw [hc, Option.getD_some] at hval
                  have g5 : (cellUp (fromC n m ls) r i 6 != c) = false := by rw [hval]; simp
                  repeat (first | refine dw_want rfl rfl ?_ | refine dw_pickT rfl rfl ?_ | refine dw_pB rfl (by assumption) ?_ | refine dw_p rfl ?_ | refine dw_l rfl ?_ | refine dw_if rfl rfl (by omega) (by decide) (by assumption) ?_ | refine dw_nil ?_ | refine ds_seq ?_ | refine ds_ops mix (fun base => ?_) | refine ds_skip ?_ | refine ds_block ?_)
                  refine ds_if (t := true) rfl (fun _ => ?_) (fun ht => by cases ht)
                  repeat (first | refine dw_pB rfl (by assumption) ?_ | refine dw_p rfl ?_ | refine dw_l rfl ?_ | refine dw_if rfl rfl (by omega) (by decide) (by assumption) ?_ | refine dw_nil ?_ | refine ds_seq ?_ | refine ds_ops mix (fun base => ?_))
                  refine ds_if (t := false) rfl (fun ht => by cases ht) (fun _ => ?_)
                  repeat (first | refine dw_p rfl ?_ | refine dw_nil ?_ | refine ds_ops mix (fun base => ?_) | refine ds_skip ?_)
                  refine ⟨k2 - 1, by omega, _, _, _, [], ?wk6, i + 1, by omega, rfl, rfl, rfl⟩
                  case wk6 => exact ⟨by repeat (first | exact trivial | refine ⟨by first | rfl | exact congrArg (fun z => some (DV.int z)) (dwrap (by omega) (by omega)), rfl, ?_⟩), by repeat (first | exact trivial | refine ⟨by first | rfl | exact congrArg (fun z => some (Bk.data z)) (by assumption), rfl, rfl, ?_⟩), rfl⟩
                · have g4 : decide ((i : Int) < ((row.map cF).length : Nat)) = false := by simpa using h2
                  rw [List.getElem?_eq_none (by omega)] at hval
                  have g5 : (cellUp (fromC n m ls) r i 6 != 0) = false := by rw [hval]; simp
                  repeat (first | refine dw_want rfl rfl ?_ | refine dw_pickT rfl rfl ?_ | refine dw_pB rfl (by assumption) ?_ | refine dw_p rfl ?_ | refine dw_l rfl ?_ | refine dw_if rfl rfl (by omega) (by decide) (by assumption) ?_ | refine dw_nil ?_ | refine ds_seq ?_ | refine ds_ops mix (fun base => ?_) | refine ds_skip ?_ | refine ds_block ?_)
                  refine ds_if (t := false) rfl (fun ht => by cases ht) (fun _ => ?_)
                  repeat (first | refine dw_pB rfl (by assumption) ?_ | refine dw_p rfl ?_ | refine dw_l rfl ?_ | refine dw_if rfl rfl (by omega) (by decide) (by assumption) ?_ | refine dw_nil ?_ | refine ds_seq ?_ | refine ds_ops mix (fun base => ?_) | refine ds_skip ?_)
                  refine ds_if (t := false) rfl (fun ht => by cases ht) (fun _ => ?_)
                  repeat (first | refine dw_p rfl ?_ | refine dw_nil ?_ | refine ds_ops mix (fun base => ?_) | refine ds_skip ?_)
                  refine ⟨k2 - 1, by omega, _, _, _, [], ?wk6, i + 1, by omega, rfl, rfl, rfl⟩
                  case wk6 => exact ⟨by repeat (first | exact trivial | refine ⟨by first | rfl | exact congrArg (fun z => some (DV.int z)) (dwrap (by omega) (by omega)), rfl, ?_⟩), by repeat (first | exact trivial | refine ⟨by first | rfl | exact congrArg (fun z => some (Bk.data z)) (by assumption), rfl, rfl, ?_⟩), rfl⟩
              · have g3 : decide ((r : Int) < (ls.length : Nat)) = false := by simpa using h1
                rw [List.getElem?_eq_none (by omega)] at hval
                have g5 : (cellUp (fromC n m ls) r i 6 != 0) = false := by rw [hval]; simp
                repeat (first | refine dw_skip rfl rfl ?_ | refine dw_pickF rfl rfl ?_ | refine dw_pB rfl (by assumption) ?_ | refine dw_p rfl ?_ | refine dw_nil ?_ | refine ds_seq ?_ | refine ds_ops mix (fun base => ?_) | refine ds_skip ?_ | refine ds_block ?_)
                refine ds_if (t := false) rfl (fun ht => by cases ht) (fun _ => ?_)
                repeat (first | refine dw_pB rfl (by assumption) ?_ | refine dw_p rfl ?_ | refine dw_l rfl ?_ | refine dw_if rfl rfl (by omega) (by decide) (by assumption) ?_ | refine dw_nil ?_ | refine ds_seq ?_ | refine ds_ops mix (fun base => ?_) | refine ds_skip ?_)
                refine ds_if (t := false) rfl (fun ht => by cases ht) (fun _ => ?_)
                repeat (first | refine dw_p rfl ?_ | refine dw_nil ?_ | refine ds_ops mix (fun base => ?_) | refine ds_skip ?_)
                refine ⟨k2 - 1, by omega, _, _, _, [], ?wk6, i + 1, by omega, rfl, rfl, rfl⟩
                case wk6 => exact ⟨by repeat (first | exact trivial | refine ⟨by first | rfl | exact congrArg (fun z => some (DV.int z)) (dwrap (by omega) (by omega)), rfl, ?_⟩), by repeat (first | exact trivial | refine ⟨by first | rfl | exact congrArg (fun z => some (Bk.data z)) (by assumption), rfl, rfl, ?_⟩), rfl⟩
            · simp at ht2
              repeat (first | refine dw_p rfl ?_ | refine dw_nil ?_ | refine ds_ops mix (fun base => ?_) | refine ds_exit ?_)
              refine ⟨k - 1, by omega, _, _, _, [], ?wk7, r + 1, by omega, rfl, rfl, rfl⟩
              case wk7 => exact ⟨by repeat (first | exact trivial | refine ⟨by first | rfl | exact congrArg (fun z => some (DV.int z)) (dwrap (by omega) (by omega)), rfl, ?_⟩), by repeat (first | exact trivial | refine ⟨by first | rfl | exact congrArg (fun z => some (Bk.data z)) (by assumption), rfl, rfl, ?_⟩), rfl⟩
          · simp at ht
            repeat (first | refine dw_p rfl ?_ | refine dw_nil ?_ | refine ds_seq ?_ | refine ds_ops mix (fun base => ?_) | refine ds_exit ?_)
            exact ds_ret ⟨_, rfl, rfl, rfl⟩
        · exact absurd ⟨hn2, hm3⟩ hno
      · exact absurd ⟨hf, hfr⟩ hno
    · repeat (first | refine dw_p rfl ?_ | refine dw_a rfl ?_ | refine dw_st rfl rfl rfl rfl rfl (Nat.le_of_ble_eq_true rfl) rfl ?_ | refine dw_nil ?_ | refine ds_seq ?_ | refine ds_ops mix (fun base => ?_))
      refine dw_cf rfl rfl (d_rfrom (l := ls) hsm) ?_
      rintro d2 (⟨h1, h2, rfl⟩ | ⟨_, rfl⟩)
      · exact absurd ⟨h1, h2⟩ hno
      · repeat (first | refine dw_want rfl rfl ?_ | refine dw_p rfl ?_ | refine dw_l rfl ?_ | refine dw_a rfl ?_ | refine dw_st rfl rfl rfl rfl rfl (Nat.le_of_ble_eq_true rfl) rfl ?_ | refine dw_nil ?_ | refine ds_seq ?_ | refine ds_ops mix (fun base => ?_))
        refine dw_cf rfl rfl d_same0 ?_
        rintro _ rfl
        repeat (first | refine dw_want rfl rfl ?_ | refine dw_pickF rfl rfl ?_ | refine dw_p rfl ?_ | refine dw_nil ?_)
        refine ds_if rfl (fun ht => by cases ht) (fun _ => ?_)
        repeat (first | refine dw_p rfl ?_ | refine dw_nil ?_ | refine ds_seq ?_ | refine ds_ops mix (fun base => ?_) | refine ds_skip ?_)
        refine ds_if (t := true) rfl (fun _ => ?_) (fun ht => by cases ht)
        repeat (first | refine dw_p rfl ?_ | refine dw_nil ?_ | refine ds_seq ?_ | refine ds_ops mix (fun base => ?_))
        exact ds_ret ⟨_, rfl, rfl, rfl⟩
end Go.Ab.Fn
