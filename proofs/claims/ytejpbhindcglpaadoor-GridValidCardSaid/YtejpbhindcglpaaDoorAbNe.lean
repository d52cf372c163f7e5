/- Contracts of functions of the program over the abstract semantics. -/
import Derived.Test.YtejpbhindcglpaaDoorAbVb
namespace Go.Ab.Fn
open Go.Ab Go.Proofs
set_option linter.unusedSimpArgs false

def blank (w h : Nat) : List (List Bool) := List.replicate h (List.replicate w false)
theorem blank_succ (w k : Nat) : blank w (k + 1) = blank w k ++ [List.replicate w false] := by simp [blank, List.replicate_succ']

theorem rnew_ro {H : Hp} {w h : Int} {W K : Nat} (hW : min (max w 0) 200 = W) (hK : min (max h 0) 200 = K) : ACalls Tryd.prog 1 11 [.int w, .int h] H fun v H' => ∃ c, v = .agg [.int .i64 W, .int .i64 K, c] ∧ GOwn H' H.nx H'.nx (blank W K) c := by
  refine pfn_ok cp11 (by simp [f11]) fun hwf => ?_
  refine ps_seq (ps_ops0 mix (pw_a rfl rfl (pw_nil ?_)))
  obtain ⟨hw1, hx, hb⟩ := new_box hwf [.int .i64 0, .int .i64 0, .nils] rfl
  refine ps_seq (ps_ops0 mix ?_)
  unfold f11r1
  repeat (first | (refine pw_pick rfl rfl (by first | exact fun _ => rfl | exact fun h => (by simp only [if_pos h]; rfl) | exact fun h => (by simp only [if_pos h]; assumption)) (by first | exact fun _ => rfl | exact fun h => (by simp only [if_pos h]; rfl) | exact fun h => (by simp only [if_pos h]; assumption)) ?_) | (refine pw_mvt rfl ?_) | (refine pw_max rfl rfl rfl ?_) | (refine pw_min rfl rfl rfl ?_) | (refine pw_mvc ?_) | (refine pw_p rfl rfl ?_) | (refine pw_l1 rfl rfl (by assumption) ?_) | (refine pw_ln rfl rfl (by assumption) ?_) | (refine pw_pg rfl rfl (by first | exact fun _ => rfl | exact fun _ => (by assumption) | exact fun h => (by simp only [if_pos h]; rfl) | exact fun h => (by simp only [if_pos h]; assumption)) ?_) | (refine pw_lg1 rfl rfl (by first | exact fun _ => rfl | exact fun h => (by simp only [if_pos h]; rfl) | exact fun h => (by simp only [if_pos h]; assumption)) (by assumption) ?_) | (refine pw_p rfl (by assumption) ?_))
  rw [hW, hK]
  obtain ⟨hw2, hx2, hb2⟩ := new_box hw1 [.int .i64 0, .int .i64 0, .nils] rfl
  obtain ⟨H3, s1, s2, s3, s4⟩ := hb2.stores (cs := [.int .i64 W, .int .i64 K, .nils]) (i := 0) (by simp)
  refine pw_a rfl rfl (pw_stn rfl rfl rfl rfl s1 trivial (pw_nil (ps_seq (ps_seq (ps_ops0 mix (pw_mvc (pw_nil ?_)))))))
  have hbx := (hb.ext hx2).same (s3 _ (by simp))
  have hn3 : H3.nx = H.nx + 2 := by rw [s4]; simp
  refine ps_block (ps_loop (fun m E H' => ∃ k : Nat, k + m = K ∧ ∃ c, E = [(4, .one (.ptr H.nx 0)), (5, .one (.ptr (H.nx + 1) 0)), (6, .int k)] ∧ H.nx + 2 ≤ H'.nx ∧ Row H' H.nx [.int .i64 0, .int .i64 0, .nils] ∧ Row H' (H.nx + 1) [.int .i64 W, .int .i64 K, c] ∧ GOwn H' (H.nx + 2) H'.nx (blank W k) c) (m := K) ⟨_, (SubE.cons (k := 4) rfl (SubE.cons (k := 5) rfl (SubE.cons (k := 6) rfl (SubE.nil _)))), 0, by omega, .nils, rfl, by omega, hbx, s2, GOwn.nil _ _ _⟩ ?_)
  rintro m E H' hwf' ⟨k, hk, c, rfl, hn, r4, r5, hg⟩
  have c0 := r5.cell (i := 0) rfl
  have c1 := r5.cell (i := 1) rfl
  have c2 := r5.cell (i := 2) rfl
  refine ps_seq (ps_seq (ps_ops0 mix ?_))
  unfold f11r3
  repeat (first | (refine pw_pick rfl rfl (by first | exact fun _ => rfl | exact fun h => (by simp only [if_pos h]; rfl) | exact fun h => (by simp only [if_pos h]; assumption)) (by first | exact fun _ => rfl | exact fun h => (by simp only [if_pos h]; rfl) | exact fun h => (by simp only [if_pos h]; assumption)) ?_) | (refine pw_mvt rfl ?_) | (refine pw_max rfl rfl rfl ?_) | (refine pw_min rfl rfl rfl ?_) | (refine pw_mvc ?_) | (refine pw_p rfl rfl ?_) | (refine pw_l1 rfl rfl (by assumption) ?_) | (refine pw_ln rfl rfl (by assumption) ?_) | (refine pw_pg rfl rfl (by first | exact fun _ => rfl | exact fun _ => (by assumption) | exact fun h => (by simp only [if_pos h]; rfl) | exact fun h => (by simp only [if_pos h]; assumption)) ?_) | (refine pw_lg1 rfl rfl (by first | exact fun _ => rfl | exact fun h => (by simp only [if_pos h]; rfl) | exact fun h => (by simp only [if_pos h]; assumption)) (by assumption) ?_) | (refine pw_p rfl (by assumption) ?_))
  refine pw_nil (ps_if rfl rfl (fun ht2 => ?_) (fun ht2 => ?_))
  · refine ps_skip (ps_seq (ps_block (ps_ops mix ?_)))
    unfold f11r4
    repeat (first | (refine pw_pick rfl rfl (by first | exact fun _ => rfl | exact fun h => (by simp only [if_pos h]; rfl) | exact fun h => (by simp only [if_pos h]; assumption)) (by first | exact fun _ => rfl | exact fun h => (by simp only [if_pos h]; rfl) | exact fun h => (by simp only [if_pos h]; assumption)) ?_) | (refine pw_mvt rfl ?_) | (refine pw_max rfl rfl rfl ?_) | (refine pw_min rfl rfl rfl ?_) | (refine pw_mvc ?_) | (refine pw_p rfl rfl ?_) | (refine pw_l1 rfl rfl (by assumption) ?_) | (refine pw_ln rfl rfl (by assumption) ?_) | (refine pw_pg rfl rfl (by first | exact fun _ => rfl | exact fun _ => (by assumption) | exact fun h => (by simp only [if_pos h]; rfl) | exact fun h => (by simp only [if_pos h]; assumption)) ?_) | (refine pw_lg1 rfl rfl (by first | exact fun _ => rfl | exact fun h => (by simp only [if_pos h]; rfl) | exact fun h => (by simp only [if_pos h]; assumption)) (by assumption) ?_) | (refine pw_p rfl (by assumption) ?_))
    simp at ht2
    have hW' : W ≤ 200 := by omega
    have hK' : K ≤ 200 := by omega
    refine pw_mki rfl rfl rfl (by omega) (by omega) (pw_b1i rfl rfl rfl ?_)
    have g4 : ∀ H2 : Hp, (∀ b, b < H'.nx → H2.get b = H'.get b) → GOwn H2 (H.nx + 2) H'.nx (blank W k) c := fun H2 h2 => hg.same fun b _ hb => h2 b hb
    generalize hH2 : Hp.add (Hp.add (Hp.skip H' 9) _ _) _ _ = H2
    have hold : ∀ b, b < H'.nx → H2.get b = H'.get b := fun b hb => by rw [← hH2, Hp.get_add_ne _ _ (by omega), Hp.get_add_ne _ _ (by omega), Hp.get_skip]
    have hrow : Row H2 (H'.nx + 4) ((List.replicate W false).map .bool) := by
      rw [List.map_replicate]
      refine Row.fill ?_
      rw [← hH2, Hp.get_add_ne _ _ (by omega), Hp.get_add_self, Nat.mul_one]
    have hsrc : H2.loads (H'.nx + 5) 0 (1 * 1) = some [.slc (H'.nx + 4) 0 W W 1 true] := by
      refine loads_row (cs := [.slc (H'.nx + 4) 0 W W 1 true]) (rw := true) ?_
      rw [← hH2, Hp.get_add_self]
    have hn2 : H2.nx = H'.nx + 9 := by rw [← hH2]; simp
    have hw2 : WF H2 := by
      intro b bk hb
      by_cases h1 : b < H'.nx
      · omega
      · rw [← hH2] at hb
        rw [Hp.get_add] at hb
        split at hb
        · omega
        · rw [Hp.get_add] at hb
          split at hb
          · omega
          · rw [Hp.get_skip] at hb
            have := hwf' b bk hb
            omega
    obtain ⟨c', H5, a1, a2, a3, a4, a5⟩ := (g4 H2 hold).snoc hw2 (r := List.replicate W false) hn (by omega) hrow (by simp [blank]; omega)
    rw [List.length_replicate] at a1
    refine pw_app rfl rfl rfl (src_row hsrc) a1 trivial ?_
    have r4' := (r4.same (hold _ (by omega))).same (a3 _ (by omega) (.inl (by omega)))
    have r5' := (r5.same (hold _ (by omega))).same (a3 _ (by omega) (.inl (by omega)))
    obtain ⟨H6, t1, t2, t3, t4⟩ := r5'.store (i := 2) (by simp) c'
    refine pw_p rfl rfl (pw_st1 rfl rfl rfl t1 trivial (pw_nil (ps_ops0 mix ?_)))
    unfold f11r5
    repeat (first | (refine pw_pick rfl rfl (by first | exact fun _ => rfl | exact fun h => (by simp only [if_pos h]; rfl) | exact fun h => (by simp only [if_pos h]; assumption)) (by first | exact fun _ => rfl | exact fun h => (by simp only [if_pos h]; rfl) | exact fun h => (by simp only [if_pos h]; assumption)) ?_) | (refine pw_mvt rfl ?_) | (refine pw_max rfl rfl rfl ?_) | (refine pw_min rfl rfl rfl ?_) | (refine pw_mvc ?_) | (refine pw_p rfl rfl ?_) | (refine pw_l1 rfl rfl (by assumption) ?_) | (refine pw_ln rfl rfl (by assumption) ?_) | (refine pw_pg rfl rfl (by first | exact fun _ => rfl | exact fun _ => (by assumption) | exact fun h => (by simp only [if_pos h]; rfl) | exact fun h => (by simp only [if_pos h]; assumption)) ?_) | (refine pw_lg1 rfl rfl (by first | exact fun _ => rfl | exact fun h => (by simp only [if_pos h]; rfl) | exact fun h => (by simp only [if_pos h]; assumption)) (by assumption) ?_) | (refine pw_p rfl (by assumption) ?_))
    refine pw_nil ⟨m - 1, by omega, _, (SubE.cons (k := 4) rfl (SubE.cons (k := 5) rfl (SubE.cons (k := 6) rfl (SubE.nil _)))), k + 1, by omega, c', ?_, by omega, r4'.same (t3 _ (by omega)), t2, ?_⟩
    · rw [wrap_i64 (by omega) (by omega)]; rfl
    · rw [blank_succ, t4]
      exact a2.same fun b hb _ => t3 b (by omega)
  · simp at ht2
    obtain rfl : k = K := by omega
    obtain ⟨H6, t1, t2, t3, t4⟩ := r4.stores (cs := [.int .i64 W, .int .i64 k, c]) (i := 0) (by simp)
    refine ps_exit (ps_seq (ps_ops0 mix ?_))
    unfold f11r6
    refine pw_ln rfl rfl r5.2 (pw_stn rfl rfl rfl rfl t1 trivial (pw_nil (ps_ret ?_)))
    have hl : H6.loads H.nx 0 3 = some [.int .i64 W, .int .i64 k, c] := t2.2
    refine ⟨.agg [.int .i64 W, .int .i64 k, c], by simp [resultE, resEL, resE, f11, look, setE, aLoad, Opd.ev, hl, isOne], c, rfl, ?_⟩
    rw [t4]
    exact (hg.same fun b hb _ => t3 b (by omega)).lo (by omega)
theorem rnew_ok {H : Hp} {w h : Int} {W K : Nat} (hW : min (max w 0) 200 = W) (hK : min (max h 0) 200 = K) : ACalls Tryd.prog 1 11 [.int w, .int h] H fun v H' => ∃ c, v = .agg [.int .i64 W, .int .i64 K, c] ∧ GOwn H' H.nx H'.nx (blank W K) c ∧ Ext H H' :=
  (ACalls.grow (rnew_ro hW hK)).mono fun v H' ⟨H1, ⟨c, hv, hg⟩, e1, e2, e3, e4, _⟩ => ⟨c, hv, by
    subst e1
    exact (hg.same fun b hb _ => e4 b hb), e3, by subst e1; exact e2⟩
end Go.Ab.Fn
