/- Contracts of functions of the program over the abstract semantics. -/
import Derived.Test.YtejpbhindcglpaaDoorAbGr
namespace Go.Ab.Fn
open Go.Ab Go.Proofs
set_option linter.unusedSimpArgs false

theorem valid_ro {H : Hp} {d : List (List Bool)} {w h : Int} {c : C} (hg : Dots H d (.one c)) : ACalls Tryd.prog 1 12 [.agg [.int .i64 w, .int .i64 h, c]] H fun v _ => v = .bool (validB w h d) := by
  refine pfn_ok cp12 (by simp [f12]) fun hwf => ?_
  refine ps_seq (ps_ops0 mix ?_)
  refine pw_a rfl rfl (pw_mvc (pw_nil ?_))
  obtain ⟨hw1, hx, hb⟩ := new_box hwf [.int .i64 w, .int .i64 h, c] rfl
  have hg1 := hg.le hx.le
  have c0 := hb.cell (i := 0) rfl
  have c1 := hb.cell (i := 1) rfl
  have c2 := hb.cell (i := 2) rfl
  have hl := hg1.len
  refine ps_seq (ps_seq (ps_ops0 mix ?_))
  unfold f12r1
  repeat (first | (refine pw_pick rfl rfl (by first | exact fun _ => rfl | exact fun h => (by simp only [if_pos h]; rfl) | exact fun h => (by simp only [if_pos h]; assumption)) (by first | exact fun _ => rfl | exact fun h => (by simp only [if_pos h]; rfl) | exact fun h => (by simp only [if_pos h]; assumption)) ?_) | (refine pw_mvt rfl ?_) | (refine pw_mvc ?_) | (refine pw_p rfl rfl ?_) | (refine pw_l1 rfl rfl (by assumption) ?_) | (refine pw_ln rfl rfl (by assumption) ?_) | (refine pw_pg rfl rfl (by first | exact fun _ => rfl | exact fun _ => (by assumption) | exact fun h => (by simp only [if_pos h]; rfl) | exact fun h => (by simp only [if_pos h]; assumption)) ?_) | (refine pw_lg1 rfl rfl (by first | exact fun _ => rfl | exact fun h => (by simp only [if_pos h]; rfl) | exact fun h => (by simp only [if_pos h]; assumption)) (by assumption) ?_) | (refine pw_p rfl (by assumption) ?_))
  refine pw_nil ?_
  refine ps_sub (SubE.cons (k := 1) rfl (SubE.cons (k := 30) rfl (SubE.nil _))) ?_
  generalize (H.push _) = H1 at *
  generalize H.nx = b1 at *
  refine ps_if rfl rfl (fun ht => ?_) (fun ht => ?_)
  · refine ps_seq (ps_ops0 mix (pw_mvc (pw_nil (ps_ret ⟨_, rfl, ?_⟩))))
    congr 2
    symm
    simp only [validB]
    simp at ht ⊢
    omega
  · refine ps_skip (ps_seq (ps_seq (ps_ops0 mix ?_)))
    simp at ht
    unfold f12r3
    repeat (first | (refine pw_pick rfl rfl (by first | exact fun _ => rfl | exact fun h => (by simp only [if_pos h]; rfl) | exact fun h => (by simp only [if_pos h]; assumption)) (by first | exact fun _ => rfl | exact fun h => (by simp only [if_pos h]; rfl) | exact fun h => (by simp only [if_pos h]; assumption)) ?_) | (refine pw_mvt rfl ?_) | (refine pw_mvc ?_) | (refine pw_p rfl rfl ?_) | (refine pw_l1 rfl rfl (by assumption) ?_) | (refine pw_ln rfl rfl (by assumption) ?_) | (refine pw_pg rfl rfl (by first | exact fun _ => rfl | exact fun _ => (by assumption) | exact fun h => (by simp only [if_pos h]; rfl) | exact fun h => (by simp only [if_pos h]; assumption)) ?_) | (refine pw_lg1 rfl rfl (by first | exact fun _ => rfl | exact fun h => (by simp only [if_pos h]; rfl) | exact fun h => (by simp only [if_pos h]; assumption)) (by assumption) ?_) | (refine pw_p rfl (by assumption) ?_))
    refine pw_nil (ps_block (ps_loop (fun m E H' => H' = H1 ∧ ∃ k : Nat, k + m = d.length ∧ E = [(1, .one (.ptr b1 0)), (32, .one c), (33, .int d.length), (34, .int k)] ∧ ∀ i r, i < k → d[i]? = some r → (r.length : Int) = w) (m := d.length) ⟨_, (SubE.cons (k := 1) rfl (SubE.cons (k := 32) rfl (SubE.cons (k := 33) rfl (SubE.cons (k := 34) rfl (SubE.nil _))))), rfl, 0, by omega, rfl, by omega⟩ ?_))
    rintro m E H' hwf' ⟨rfl, k, hk, rfl, hno⟩
    refine ps_seq (ps_ops0 mix ?_)
    unfold f12r4
    repeat (first | (refine pw_pick rfl rfl (by first | exact fun _ => rfl | exact fun h => (by simp only [if_pos h]; rfl) | exact fun h => (by simp only [if_pos h]; assumption)) (by first | exact fun _ => rfl | exact fun h => (by simp only [if_pos h]; rfl) | exact fun h => (by simp only [if_pos h]; assumption)) ?_) | (refine pw_mvt rfl ?_) | (refine pw_mvc ?_) | (refine pw_p rfl rfl ?_) | (refine pw_l1 rfl rfl (by assumption) ?_) | (refine pw_ln rfl rfl (by assumption) ?_) | (refine pw_pg rfl rfl (by first | exact fun _ => rfl | exact fun _ => (by assumption) | exact fun h => (by simp only [if_pos h]; rfl) | exact fun h => (by simp only [if_pos h]; assumption)) ?_) | (refine pw_lg1 rfl rfl (by first | exact fun _ => rfl | exact fun h => (by simp only [if_pos h]; rfl) | exact fun h => (by simp only [if_pos h]; assumption)) (by assumption) ?_) | (refine pw_p rfl (by assumption) ?_))
    refine pw_nil (ps_seq (ps_if rfl rfl (fun ht2 => ?_) (fun ht2 => ?_)))
    · refine ps_skip (ps_seq (ps_block (ps_seq (ps_ops0 mix ?_))))
      simp at ht2
      obtain ⟨r, hr⟩ : ∃ r, d[k]? = some r := ⟨_, List.getElem?_eq_getElem (by omega)⟩
      obtain ⟨b, o, cr, e1, e2, e3⟩ := hg1.at hr .i64
      have e4 := e3.len
      unfold f12r5
      repeat (first | (refine pw_pick rfl rfl (by first | exact fun _ => rfl | exact fun h => (by simp only [if_pos h]; rfl) | exact fun h => (by simp only [if_pos h]; assumption)) (by first | exact fun _ => rfl | exact fun h => (by simp only [if_pos h]; rfl) | exact fun h => (by simp only [if_pos h]; assumption)) ?_) | (refine pw_mvt rfl ?_) | (refine pw_mvc ?_) | (refine pw_p rfl rfl ?_) | (refine pw_l1 rfl rfl (by assumption) ?_) | (refine pw_ln rfl rfl (by assumption) ?_) | (refine pw_pg rfl rfl (by first | exact fun _ => rfl | exact fun _ => (by assumption) | exact fun h => (by simp only [if_pos h]; rfl) | exact fun h => (by simp only [if_pos h]; assumption)) ?_) | (refine pw_lg1 rfl rfl (by first | exact fun _ => rfl | exact fun h => (by simp only [if_pos h]; rfl) | exact fun h => (by simp only [if_pos h]; assumption)) (by assumption) ?_) | (refine pw_p rfl (by assumption) ?_))
      refine pw_nil (ps_seq (ps_ops0 mix ?_))
      unfold f12r6
      repeat (first | (refine pw_pick rfl rfl (by first | exact fun _ => rfl | exact fun h => (by simp only [if_pos h]; rfl) | exact fun h => (by simp only [if_pos h]; assumption)) (by first | exact fun _ => rfl | exact fun h => (by simp only [if_pos h]; rfl) | exact fun h => (by simp only [if_pos h]; assumption)) ?_) | (refine pw_mvt rfl ?_) | (refine pw_mvc ?_) | (refine pw_p rfl rfl ?_) | (refine pw_l1 rfl rfl (by assumption) ?_) | (refine pw_ln rfl rfl (by assumption) ?_) | (refine pw_pg rfl rfl (by first | exact fun _ => rfl | exact fun _ => (by assumption) | exact fun h => (by simp only [if_pos h]; rfl) | exact fun h => (by simp only [if_pos h]; assumption)) ?_) | (refine pw_lg1 rfl rfl (by first | exact fun _ => rfl | exact fun h => (by simp only [if_pos h]; rfl) | exact fun h => (by simp only [if_pos h]; assumption)) (by assumption) ?_) | (refine pw_p rfl (by assumption) ?_))
      refine pw_nil (ps_if rfl rfl (fun ht3 => ?_) (fun ht3 => ?_))
      · refine ps_seq (ps_ops0 mix (pw_mvc (pw_nil (ps_ret ⟨_, rfl, ?_⟩))))
        congr 2
        symm
        simp only [validB]
        simp at ht3 ⊢
        intro _ _ _ _ _
        exact ⟨r, List.mem_of_getElem? hr, ht3⟩
      · refine ps_skip (ps_ops0 mix ?_)
        unfold f12r8
        repeat (first | (refine pw_pick rfl rfl (by first | exact fun _ => rfl | exact fun h => (by simp only [if_pos h]; rfl) | exact fun h => (by simp only [if_pos h]; assumption)) (by first | exact fun _ => rfl | exact fun h => (by simp only [if_pos h]; rfl) | exact fun h => (by simp only [if_pos h]; assumption)) ?_) | (refine pw_mvt rfl ?_) | (refine pw_mvc ?_) | (refine pw_p rfl rfl ?_) | (refine pw_l1 rfl rfl (by assumption) ?_) | (refine pw_ln rfl rfl (by assumption) ?_) | (refine pw_pg rfl rfl (by first | exact fun _ => rfl | exact fun _ => (by assumption) | exact fun h => (by simp only [if_pos h]; rfl) | exact fun h => (by simp only [if_pos h]; assumption)) ?_) | (refine pw_lg1 rfl rfl (by first | exact fun _ => rfl | exact fun h => (by simp only [if_pos h]; rfl) | exact fun h => (by simp only [if_pos h]; assumption)) (by assumption) ?_) | (refine pw_p rfl (by assumption) ?_))
        refine pw_nil ⟨m - 1, by omega, _, (SubE.cons (k := 1) rfl (SubE.cons (k := 32) rfl (SubE.cons (k := 33) rfl (SubE.cons (k := 34) rfl (SubE.nil _))))), rfl, k + 1, by omega, ?_, ?_⟩
        · rw [wrap_i64 (by omega) (by omega)]; rfl
        · intro i r' hi hr'
          by_cases e : i = k
          · subst e
            rw [hr] at hr'
            obtain rfl := Option.some.inj hr'
            simpa using ht3
          · exact hno i r' (by omega) hr'
    · refine ps_exit (ps_seq (ps_ops0 mix (pw_mvc (pw_nil (ps_ret ⟨_, rfl, ?_⟩)))))
      simp at ht2
      congr 2
      symm
      simp only [validB]
      simp
      refine ⟨by omega, fun r hr => ?_⟩
      obtain ⟨i, hi⟩ := List.getElem?_of_mem hr
      exact hno i r (by have := (List.getElem?_eq_some_iff.1 hi).1; omega) hi
theorem valid_ok {H : Hp} {d : List (List Bool)} {w h : Int} {c : C} (hg : Dots H d (.one c)) : ACalls Tryd.prog 1 12 [.agg [.int .i64 w, .int .i64 h, c]] H fun v H' => v = .bool (validB w h d) ∧ H' = H :=
  (ACalls.pure (valid_ro (hg.le (Le.ro H))) (fun v _ h => by rw [h]; rfl)).mono fun v H' ⟨⟨_, h⟩, e⟩ => ⟨h, e⟩
end Go.Ab.Fn
