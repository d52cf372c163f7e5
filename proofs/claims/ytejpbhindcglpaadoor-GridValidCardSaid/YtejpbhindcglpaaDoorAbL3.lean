/- Contracts of functions of the program over the abstract semantics. -/
import Derived.Test.YtejpbhindcglpaaDoorAbNe
namespace Go.Ab.Fn
open Go.Ab Go.Proofs
set_option linter.unusedSimpArgs false

theorem gridValid_ok {H : Hp} (h0 : H.get 0 = some offs) {a b x y z : Int} (ha : 0 ≤ a) (ha' : a < 256) (hb : 0 ≤ b) (hb' : b < 256) : ACalls Tryd.prog 1 3 [.agg [.int .u8 a, .int .u8 b], .agg [.int .i8 x, .int .i8 y, .int .i8 z]] H fun v _ => v = .bool true := by
  refine pfn_ok cp3 (by simp [f3]) fun hwf => ?_
  refine ps_seq (ps_ops0 mix ?_)
  obtain ⟨hw1, hx1, hb1⟩ := new_box hwf [.int .u8 a, .int .u8 b] rfl
  obtain ⟨hw2, hx2, hb2⟩ := new_box hw1 [.int .i8 x, .int .i8 y, .int .i8 z] rfl
  refine pw_a rfl rfl (pw_a rfl rfl (pw_mvc (pw_nil ?_)))
  replace hb1 := hb1.ext hx2
  replace h0 := hx2.get _ _ (hx1.get _ _ h0)
  have hne : H.nx ≠ (H.push (.row [C.int .u8 a, .int .u8 b].length [.int .u8 a, .int .u8 b] .lf true)).nx := by simp
  generalize (H.push _).push _ = H2 at *
  generalize (H.push _).nx = b3 at *
  generalize H.nx = b2 at *
  have d0 := hb1.cell (i := 0) rfl
  have d1 := hb1.cell (i := 1) rfl
  refine ps_seq (ps_ops0 mix (pw_cf rfl rfl ((sanity_ok h0).mono ?_)))
  rintro _ _ ⟨rfl, e⟩
  subst e
  rename_i H2
  refine ⟨trivial, pw_mvt rfl (pw_nil ?_)⟩
  refine ps_sub (SubE.cons (k := 2) rfl (SubE.cons (k := 3) rfl (SubE.cons (k := 5) rfl (SubE.nil _)))) ?_
  refine ps_seq (ps_ops0 mix ?_)
  unfold f3r2
  repeat (first | (refine pw_pick rfl rfl (by first | exact fun _ => rfl | exact fun h => (by simp only [if_pos h]; rfl) | exact fun h => (by simp only [if_pos h]; assumption)) (by first | exact fun _ => rfl | exact fun h => (by simp only [if_pos h]; rfl) | exact fun h => (by simp only [if_pos h]; assumption)) ?_) | (refine pw_mvt rfl ?_) | (refine pw_max rfl rfl rfl ?_) | (refine pw_min rfl rfl rfl ?_) | (refine pw_mvc ?_) | (refine pw_p rfl rfl ?_) | (refine pw_l1 rfl rfl (by assumption) ?_) | (refine pw_ln rfl rfl (by assumption) ?_) | (refine pw_lk1 rfl rfl (by assumption) ?_) | (refine pw_lkn rfl rfl (by assumption) ?_) | (refine pw_pg rfl rfl (by first | exact fun _ => rfl | exact fun _ => (by assumption) | exact fun h => (by simp only [if_pos h]; rfl) | exact fun h => (by simp only [if_pos h]; assumption)) ?_) | (refine pw_lg1 rfl rfl (by first | exact fun _ => rfl | exact fun h => (by simp only [if_pos h]; rfl) | exact fun h => (by simp only [if_pos h]; assumption)) (by assumption) ?_) | (refine pw_p rfl (by assumption) ?_))
  rw [wrap_i64 (n := a) (by omega) (by omega), wrap_i64 (n := b) (by omega) (by omega)]
  rw [Int.tmod_eq_emod_of_nonneg ha, Int.tmod_eq_emod_of_nonneg hb]
  obtain ⟨W, hW⟩ : ∃ W : Nat, a % 17 = W := ⟨(a % 17).toNat, by omega⟩
  obtain ⟨K, hK⟩ : ∃ K : Nat, b % 17 = K := ⟨(b % 17).toNat, by omega⟩
  have hW16 : W ≤ 16 := by omega
  have hK16 : K ≤ 16 := by omega
  rw [hW, hK]
  refine pw_cf rfl rfl ((rnew_ok (W := W) (K := K) (by omega) (by omega)).wf.mono ?_)
  rintro _ H4 ⟨⟨c, rfl, hg, hx⟩, hw4⟩
  refine ⟨trivial, ?_⟩
  obtain ⟨hw5, hx5, hb5⟩ := new_box hw4 [.int .i64 0, .int .i64 0, .nils] rfl
  obtain ⟨H6, s1, s2, s3, s4⟩ := hb5.stores (cs := [.int .i64 W, .int .i64 K, c]) (i := 0) (by simp)
  refine pw_a rfl rfl (pw_stn rfl rfl rfl rfl s1 trivial (pw_nil ?_))
  refine ps_sub (SubE.cons (k := 3) rfl (SubE.cons (k := 5) rfl (SubE.cons (k := 6) rfl (SubE.nil _)))) ?_
  have hlt3 : b3 < H4.nx := by have := hb2.lt hw2; have := hx.nx; omega
  have hb3 := ((hb2.ext hx).ext hx5).same (s3 b3 (by omega))
  have hg6 : GOwn H6 _ H4.nx (blank W K) c := (hg.same (H' := H6) fun b _ hb => by rw [s3 b (by omega), Hp.get_push, if_neg (by omega)])
  have hn6 : H6.nx = H4.nx + 1 := by rw [s4]; simp
  have hlo : H2.nx ≤ H4.nx := hx.nx
  generalize H4.nx = b6 at *
  have hb36 : b3 < H2.nx := hb2.lt hw2
  generalize H2.nx = lo at *
  have hb6 : Row H6 b6 [.int .i64 W, .int .i64 K, c] := s2
  clear s1 s2 s3 s4 hb5 hx5 hw5 hx hw4 hg
  have tail2 : ∀ (H' : Hp) (d : List (List Bool)) (w' h' : Int), Row H' b6 [.int .i64 w', .int .i64 h', c] → Dots H' d (.one c) → PS Tryd.prog 1 f3.n (.seq (.ops f3r10 19) .ret) (retE f3.res fun v _ => v = .bool true) [(5, .bool true), (6, .one (.ptr b6 0))] H' := by
    intro H' d w' h' hr hd
    refine ps_seq (ps_ops mix ?_)
    have hl : (H'.skip 19).loads b6 0 3 = some [.int .i64 w', .int .i64 h', c] := by rw [Hp.loads_skip]; exact hr.2
    have hd' : Dots (H'.skip 19) d (.one c) := hd.le fun _ _ _ h => h
    generalize H'.skip 19 = H7 at *
    unfold f3r10
    repeat (first | (refine pw_pick rfl rfl (by first | exact fun _ => rfl | exact fun h => (by simp only [if_pos h]; rfl) | exact fun h => (by simp only [if_pos h]; assumption)) (by first | exact fun _ => rfl | exact fun h => (by simp only [if_pos h]; rfl) | exact fun h => (by simp only [if_pos h]; assumption)) ?_) | (refine pw_mvt rfl ?_) | (refine pw_max rfl rfl rfl ?_) | (refine pw_min rfl rfl rfl ?_) | (refine pw_mvc ?_) | (refine pw_p rfl rfl ?_) | (refine pw_l1 rfl rfl (by assumption) ?_) | (refine pw_ln rfl rfl (by assumption) ?_) | (refine pw_lk1 rfl rfl (by assumption) ?_) | (refine pw_lkn rfl rfl (by assumption) ?_) | (refine pw_pg rfl rfl (by first | exact fun _ => rfl | exact fun _ => (by assumption) | exact fun h => (by simp only [if_pos h]; rfl) | exact fun h => (by simp only [if_pos h]; assumption)) ?_) | (refine pw_lg1 rfl rfl (by first | exact fun _ => rfl | exact fun h => (by simp only [if_pos h]; rfl) | exact fun h => (by simp only [if_pos h]; assumption)) (by assumption) ?_) | (refine pw_p rfl (by assumption) ?_))
    refine pw_cf rfl rfl ((valid_ok hd').mono ?_)
    rintro _ _ ⟨rfl, e⟩
    subst e
    refine ⟨watch_one hl, pw_cf rfl rfl ((rvalid_ok hd').mono ?_)⟩
    rintro _ _ ⟨rfl, e⟩
    subst e
    rename_i H7
    refine ⟨watch_one hl, pw_p (v := .bool true) rfl (by simp [PureOp.mp, aPure, res, look, setE, Opd.ev]) (pw_mvt rfl ?_)⟩
    have hnil : Dots H7 [] (.one .nils) := ⟨[], ⟨rfl, .inl ⟨rfl, rfl⟩⟩, trivial⟩
    refine pw_want rfl rfl (pw_p rfl rfl (pw_want rfl rfl (pw_cf rfl rfl ((valid_ok (w := -1) (h := 0) hnil).mono ?_))))
    rintro _ _ ⟨rfl, e⟩
    subst e
    refine ⟨watch_one hl, ?_⟩
    repeat (first | (refine pw_pick rfl rfl (by first | exact fun _ => rfl | exact fun h => (by simp only [if_pos h]; rfl) | exact fun h => (by simp only [if_pos h]; assumption)) (by first | exact fun _ => rfl | exact fun h => (by simp only [if_pos h]; rfl) | exact fun h => (by simp only [if_pos h]; assumption)) ?_) | (refine pw_mvt rfl ?_) | (refine pw_max rfl rfl rfl ?_) | (refine pw_min rfl rfl rfl ?_) | (refine pw_mvc ?_) | (refine pw_p rfl rfl ?_) | (refine pw_l1 rfl rfl (by assumption) ?_) | (refine pw_ln rfl rfl (by assumption) ?_) | (refine pw_lk1 rfl rfl (by assumption) ?_) | (refine pw_lkn rfl rfl (by assumption) ?_) | (refine pw_pg rfl rfl (by first | exact fun _ => rfl | exact fun _ => (by assumption) | exact fun h => (by simp only [if_pos h]; rfl) | exact fun h => (by simp only [if_pos h]; assumption)) ?_) | (refine pw_lg1 rfl rfl (by first | exact fun _ => rfl | exact fun h => (by simp only [if_pos h]; rfl) | exact fun h => (by simp only [if_pos h]; assumption)) (by assumption) ?_) | (refine pw_p rfl (by assumption) ?_))
    refine pw_want rfl rfl (pw_cf rfl rfl ((valid_ok (w := 201) (h := 0) hnil).mono ?_))
    rintro _ _ ⟨rfl, e⟩
    subst e
    refine ⟨watch_one hl, ?_⟩
    repeat (first | (refine pw_pick rfl rfl (by first | exact fun _ => rfl | exact fun h => (by simp only [if_pos h]; rfl) | exact fun h => (by simp only [if_pos h]; assumption)) (by first | exact fun _ => rfl | exact fun h => (by simp only [if_pos h]; rfl) | exact fun h => (by simp only [if_pos h]; assumption)) ?_) | (refine pw_mvt rfl ?_) | (refine pw_max rfl rfl rfl ?_) | (refine pw_min rfl rfl rfl ?_) | (refine pw_mvc ?_) | (refine pw_p rfl rfl ?_) | (refine pw_l1 rfl rfl (by assumption) ?_) | (refine pw_ln rfl rfl (by assumption) ?_) | (refine pw_lk1 rfl rfl (by assumption) ?_) | (refine pw_lkn rfl rfl (by assumption) ?_) | (refine pw_pg rfl rfl (by first | exact fun _ => rfl | exact fun _ => (by assumption) | exact fun h => (by simp only [if_pos h]; rfl) | exact fun h => (by simp only [if_pos h]; assumption)) ?_) | (refine pw_lg1 rfl rfl (by first | exact fun _ => rfl | exact fun h => (by simp only [if_pos h]; rfl) | exact fun h => (by simp only [if_pos h]; assumption)) (by assumption) ?_) | (refine pw_p rfl (by assumption) ?_))
    exact pw_nil (ps_ret ⟨_, rfl, rfl⟩)
  have tail1 : ∀ (H' : Hp) (d : List (List Bool)), Row H' b3 [.int .i8 x, .int .i8 y, .int .i8 z] → Row H' b6 [.int .i64 W, .int .i64 K, c] → Dots H' d (.one c) → (∀ b cs, Row H' b cs → ownB (.one c) = some b → True) → (∀ (H'' : Hp), (∀ b', b' ≠ b6 → H''.get b' = H'.get b') → Dots H'' d (.one c)) →
      PS Tryd.prog 1 f3.n (.seq (.seq (.ops f3r8 0) (.cond (.t 53) (.ops f3r9 18) .skip)) (.seq (.ops f3r10 19) .ret)) (retE f3.res fun v _ => v = .bool true) [(3, .one (.ptr b3 0)), (5, .bool true), (6, .one (.ptr b6 0))] H' := by
    intro H' d h3 h6 hd _ hd'
    have e0 := h3.cell (i := 0) rfl
    have e1 := h3.cell (i := 1) rfl
    have e2 := h3.cell (i := 2) rfl
    refine ps_seq (ps_seq (ps_ops0 mix ?_))
    unfold f3r8
    repeat (first | (refine pw_pick rfl rfl (by first | exact fun _ => rfl | exact fun h => (by simp only [if_pos h]; rfl) | exact fun h => (by simp only [if_pos h]; assumption)) (by first | exact fun _ => rfl | exact fun h => (by simp only [if_pos h]; rfl) | exact fun h => (by simp only [if_pos h]; assumption)) ?_) | (refine pw_mvt rfl ?_) | (refine pw_max rfl rfl rfl ?_) | (refine pw_min rfl rfl rfl ?_) | (refine pw_mvc ?_) | (refine pw_p rfl rfl ?_) | (refine pw_l1 rfl rfl (by assumption) ?_) | (refine pw_ln rfl rfl (by assumption) ?_) | (refine pw_lk1 rfl rfl (by assumption) ?_) | (refine pw_lkn rfl rfl (by assumption) ?_) | (refine pw_pg rfl rfl (by first | exact fun _ => rfl | exact fun _ => (by assumption) | exact fun h => (by simp only [if_pos h]; rfl) | exact fun h => (by simp only [if_pos h]; assumption)) ?_) | (refine pw_lg1 rfl rfl (by first | exact fun _ => rfl | exact fun h => (by simp only [if_pos h]; rfl) | exact fun h => (by simp only [if_pos h]; assumption)) (by assumption) ?_) | (refine pw_p rfl (by assumption) ?_))
    refine pw_nil (ps_if rfl rfl (fun _ => ?_) (fun _ => ?_))
    · refine ps_ops mix ?_
      have f0 := h6.cell (i := 0) rfl
      have f1 := h6.cell (i := 1) rfl
      unfold f3r9
      repeat (first | (refine pw_pick rfl rfl (by first | exact fun _ => rfl | exact fun h => (by simp only [if_pos h]; rfl) | exact fun h => (by simp only [if_pos h]; assumption)) (by first | exact fun _ => rfl | exact fun h => (by simp only [if_pos h]; rfl) | exact fun h => (by simp only [if_pos h]; assumption)) ?_) | (refine pw_mvt rfl ?_) | (refine pw_max rfl rfl rfl ?_) | (refine pw_min rfl rfl rfl ?_) | (refine pw_mvc ?_) | (refine pw_p rfl rfl ?_) | (refine pw_l1 rfl rfl (by assumption) ?_) | (refine pw_ln rfl rfl (by assumption) ?_) | (refine pw_lk1 rfl rfl (by assumption) ?_) | (refine pw_lkn rfl rfl (by assumption) ?_) | (refine pw_pg rfl rfl (by first | exact fun _ => rfl | exact fun _ => (by assumption) | exact fun h => (by simp only [if_pos h]; rfl) | exact fun h => (by simp only [if_pos h]; assumption)) ?_) | (refine pw_lg1 rfl rfl (by first | exact fun _ => rfl | exact fun h => (by simp only [if_pos h]; rfl) | exact fun h => (by simp only [if_pos h]; assumption)) (by assumption) ?_) | (refine pw_p rfl (by assumption) ?_))
      have h6' : Row (H'.skip 18) b6 [.int .i64 W, .int .i64 K, c] := h6
      obtain ⟨H8, s1, s2, s3, s4⟩ := h6'.store (i := 0) (by simp) (.int .i64 (IntKind.i64.wrap (W + (IntKind.i64.wrap x).tmod 2)))
      obtain ⟨H9, t1, t2, t3, t4⟩ := s2.store (i := 1) (by simp) (.int .i64 (IntKind.i64.wrap (K + (IntKind.i64.wrap y).tmod 2)))
      refine pw_st1 rfl rfl rfl s1 (watch_one ?_) ?_
      · exact (h3.same (H' := H8) (s3 b3 (by omega))).cell rfl
      refine pw_p rfl rfl (pw_st1 rfl rfl rfl t1 (watch_one ?_) (pw_nil ?_))
      · exact ((h3.same (H' := H8) (s3 b3 (by omega))).same (H' := H9) (t3 b3 (by omega))).cell rfl
      refine ps_sub (SubE.cons (k := 5) rfl (SubE.cons (k := 6) rfl (SubE.nil _))) ?_
      exact tail2 H9 d _ _ t2 (hd' H9 fun b' hb => (t3 b' hb).trans (s3 b' hb))
    · refine ps_skip ?_
      refine ps_sub (SubE.cons (k := 5) rfl (SubE.cons (k := 6) rfl (SubE.nil _))) ?_
      exact tail2 H' d _ _ h6 hd
  have hv : validB W K (blank W K) = true := validB_blank W K (by omega) (by omega)
  refine ps_seq (ps_seq (ps_ops0 mix ?_))
  unfold f3r3
  refine pw_ln rfl rfl hb6.2 (pw_cf rfl rfl ((valid_ok hg6.dots).mono ?_))
  rintro _ _ ⟨rfl, e⟩
  subst e
  rename_i H6
  rw [hv]
  refine ⟨trivial, pw_p rfl rfl (pw_nil (ps_if rfl rfl (fun ht => ?_) (fun ht => ?_)))⟩
  · cases ht
  refine ps_skip (ps_seq (ps_ops0 mix ?_))
  have e2 := hb3.cell (i := 2) rfl
  have f0 := hb6.cell (i := 0) rfl
  have f1 := hb6.cell (i := 1) rfl
  have f2 := hb6.cell (i := 2) rfl
  unfold f3r5
  repeat (first | (refine pw_pick rfl rfl (by first | exact fun _ => rfl | exact fun h => (by simp only [if_pos h]; rfl) | exact fun h => (by simp only [if_pos h]; assumption)) (by first | exact fun _ => rfl | exact fun h => (by simp only [if_pos h]; rfl) | exact fun h => (by simp only [if_pos h]; assumption)) ?_) | (refine pw_mvt rfl ?_) | (refine pw_max rfl rfl rfl ?_) | (refine pw_min rfl rfl rfl ?_) | (refine pw_mvc ?_) | (refine pw_p rfl rfl ?_) | (refine pw_l1 rfl rfl (by assumption) ?_) | (refine pw_ln rfl rfl (by assumption) ?_) | (refine pw_lk1 rfl rfl (by assumption) ?_) | (refine pw_lkn rfl rfl (by assumption) ?_) | (refine pw_pg rfl rfl (by first | exact fun _ => rfl | exact fun _ => (by assumption) | exact fun h => (by simp only [if_pos h]; rfl) | exact fun h => (by simp only [if_pos h]; assumption)) ?_) | (refine pw_lg1 rfl rfl (by first | exact fun _ => rfl | exact fun h => (by simp only [if_pos h]; rfl) | exact fun h => (by simp only [if_pos h]; assumption)) (by assumption) ?_) | (refine pw_p rfl (by assumption) ?_))
  rw [wrap_i64 (n := (K : Int) + 1) (by omega) (by omega)]
  refine pw_rem rfl rfl rfl (by omega) ?_
  obtain ⟨I, hI⟩ : ∃ I : Nat, (IntKind.i64.wrap (IntKind.u8.wrap z)).tmod (K + 1) = I := by
    refine ⟨((IntKind.i64.wrap (IntKind.u8.wrap z)).tmod (K + 1)).toNat, ?_⟩
    have hz := wrap_u8 z
    rw [wrap_i64 (n := IntKind.u8.wrap z) (by omega) (by omega)]
    have := Int.tmod_nonneg (K + 1 : Int) hz.1
    omega
  rw [hI]
  refine pw_mvt rfl (pw_nil ?_)
  refine ps_sub (SubE.cons (k := 3) rfl (SubE.cons (k := 5) rfl (SubE.cons (k := 6) rfl (SubE.cons (k := 7) rfl (SubE.nil _))))) ?_
  refine ps_seq (ps_seq (ps_ops0 mix ?_))
  unfold f3r6
  repeat (first | (refine pw_pick rfl rfl (by first | exact fun _ => rfl | exact fun h => (by simp only [if_pos h]; rfl) | exact fun h => (by simp only [if_pos h]; assumption)) (by first | exact fun _ => rfl | exact fun h => (by simp only [if_pos h]; rfl) | exact fun h => (by simp only [if_pos h]; assumption)) ?_) | (refine pw_mvt rfl ?_) | (refine pw_max rfl rfl rfl ?_) | (refine pw_min rfl rfl rfl ?_) | (refine pw_mvc ?_) | (refine pw_p rfl rfl ?_) | (refine pw_l1 rfl rfl (by assumption) ?_) | (refine pw_ln rfl rfl (by assumption) ?_) | (refine pw_lk1 rfl rfl (by assumption) ?_) | (refine pw_lkn rfl rfl (by assumption) ?_) | (refine pw_pg rfl rfl (by first | exact fun _ => rfl | exact fun _ => (by assumption) | exact fun h => (by simp only [if_pos h]; rfl) | exact fun h => (by simp only [if_pos h]; assumption)) ?_) | (refine pw_lg1 rfl rfl (by first | exact fun _ => rfl | exact fun h => (by simp only [if_pos h]; rfl) | exact fun h => (by simp only [if_pos h]; assumption)) (by assumption) ?_) | (refine pw_p rfl (by assumption) ?_))
  refine pw_nil ?_
  refine ps_sub (SubE.cons (k := 3) rfl (SubE.cons (k := 5) rfl (SubE.cons (k := 6) rfl (SubE.cons (k := 7) rfl (SubE.cons (k := 37) rfl (SubE.nil _)))))) ?_
  refine ps_if rfl rfl (fun ht => ?_) (fun ht => ?_)
  · simp at ht
    refine ps_ops mix ?_
    have e0 := hb3.cell (i := 0) rfl
    unfold f3r7
    repeat (first | (refine pw_pick rfl rfl (by first | exact fun _ => rfl | exact fun h => (by simp only [if_pos h]; rfl) | exact fun h => (by simp only [if_pos h]; assumption)) (by first | exact fun _ => rfl | exact fun h => (by simp only [if_pos h]; rfl) | exact fun h => (by simp only [if_pos h]; assumption)) ?_) | (refine pw_mvt rfl ?_) | (refine pw_max rfl rfl rfl ?_) | (refine pw_min rfl rfl rfl ?_) | (refine pw_mvc ?_) | (refine pw_p rfl rfl ?_) | (refine pw_l1 rfl rfl (by assumption) ?_) | (refine pw_ln rfl rfl (by assumption) ?_) | (refine pw_lk1 rfl rfl (by assumption) ?_) | (refine pw_lkn rfl rfl (by assumption) ?_) | (refine pw_pg rfl rfl (by first | exact fun _ => rfl | exact fun _ => (by assumption) | exact fun h => (by simp only [if_pos h]; rfl) | exact fun h => (by simp only [if_pos h]; assumption)) ?_) | (refine pw_lg1 rfl rfl (by first | exact fun _ => rfl | exact fun h => (by simp only [if_pos h]; rfl) | exact fun h => (by simp only [if_pos h]; assumption)) (by assumption) ?_) | (refine pw_p rfl (by assumption) ?_))
    obtain ⟨M, hM, hM'⟩ : ∃ M : Nat, max 0 (IntKind.i64.wrap (W + (IntKind.i64.wrap x).tmod 2)) = M ∧ M ≤ 17 := by
      have := tmod_bd (IntKind.i64.wrap x) (b := 2) (by omega)
      rw [wrap_i64 (n := W + (IntKind.i64.wrap x).tmod 2) (by omega) (by omega)]
      exact ⟨(max 0 (W + (IntKind.i64.wrap x).tmod 2)).toNat, by omega, by omega⟩
    rw [hM]
    refine pw_mki rfl rfl rfl (by omega) (by omega) ?_
    have hg7 : GOwn (Hp.add (Hp.skip H6 14) (H6.nx + 11) (.row (M * 1) [.bool false] .lf true)) lo b6 (blank W K) c := hg6.same fun b _ hb => by rw [Hp.get_add_ne _ _ (by omega), Hp.get_skip]
    have hr7 : Row (Hp.add (Hp.skip H6 14) (H6.nx + 11) (.row (M * 1) [.bool false] .lf true)) (H6.nx + 11) ((List.replicate M false).map .bool) := by
      rw [List.map_replicate]
      exact Row.fill (by rw [Hp.get_add_self, Nat.mul_one])
    have h37 : Row (Hp.add (Hp.skip H6 14) (H6.nx + 11) (.row (M * 1) [.bool false] .lf true)) b3 _ := hb3.same (by rw [Hp.get_add_ne _ _ (by omega), Hp.get_skip])
    have h67 : Row (Hp.add (Hp.skip H6 14) (H6.nx + 11) (.row (M * 1) [.bool false] .lf true)) b6 _ := hb6.same (by rw [Hp.get_add_ne _ _ (by omega), Hp.get_skip])
    obtain ⟨bo, H8, q1, q2, q3, q4, q5, q6, q7⟩ := hg7.setRow (i := I) (by simp [blank]; omega) (by omega) hr7 .i64
    rw [List.length_replicate] at q4
    refine pw_p rfl q3 (pw_st1 rfl rfl rfl q4 trivial (pw_nil ?_))
    refine ps_sub (SubE.cons (k := 3) rfl (SubE.cons (k := 5) rfl (SubE.cons (k := 6) rfl (SubE.nil _)))) ?_
    exact tail1 H8 _ (h37.same (q5 _ (by omega))) (h67.same (q5 _ (by omega))) (q7 H8 fun _ _ => rfl) (fun _ _ _ _ => trivial) (fun H'' h => q7 H'' fun b' hb' => h b' (by omega))
  · refine ps_skip ?_
    refine ps_sub (SubE.cons (k := 3) rfl (SubE.cons (k := 5) rfl (SubE.cons (k := 6) rfl (SubE.nil _)))) ?_
    exact tail1 H6 _ hb3 hb6 hg6.dots (fun _ _ _ _ => trivial) (fun H'' h => (hg6.same (fun b _ hb => h b (by omega))).dots)
end Go.Ab.Fn
