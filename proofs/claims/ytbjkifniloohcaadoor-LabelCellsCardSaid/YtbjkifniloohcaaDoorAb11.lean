/- Contracts of functions of the program over the abstract semantics. -/
import Derived.Test.YtbjkifniloohcaaDoorAb10
set_option linter.unusedVariables false
set_option linter.unusedSimpArgs false
namespace Go.Af
open Go.Ab Go.Proofs
set_option linter.unusedSimpArgs false
theorem d_place {p : Pic} (hFi : Fine p) (hFe : Few p) : DK 10 [picD p] fun d => ∃ r, (validPic p = true -> PlcR p r) /\ (validPic p = false -> r = ([], 0, 150)) /\ d = plcD r := by
 refine dfn_ok cp10 rfl GHro fun Z0 lo => ?_
 refine goD ?_; intros
 refine dw_cf rfl rfl (d_lplace hFi hFe) ?_
 rintro _ ⟨r, h1, h2, rfl⟩
 refine goD ?_; intros
 exact ds_ret ⟨_, rfl, rfl, r, h1, h2, rfl⟩
theorem d_placeU {p : Pic} {r : Plc} (hFi : Fine p) (hFe : Few p) (hv : validPic p = true) (hr : PlcR p r) : DK 10 [picD p] fun d => d = plcD r := DCalls.mono (d_place hFi hFe) fun d ⟨r', h1, _, h3⟩ => by
 rw [h3, (h1 hv).uniq hr]
theorem sp15_fine {l : List Pt2} (hn : l.length < 1000) : Fine (spots15 l) := by
 refine ⟨by simpa [spots15] using hn, fun f hf => ?_⟩
 obtain ⟨q, _, rfl⟩ := List.mem_map.1 hf
 exact Nat.lt_of_lt_of_le (Nat.lt_succ_self 1) (Nat.le_add_left 2 998)
theorem sp15_few {l : List Pt2} : Few (spots15 l) := fun f hf _ => by
 obtain ⟨q, _, rfl⟩ := List.mem_map.1 hf
 exact few_one (q := q) rfl rfl
theorem full_fine : Fine full15 := ⟨by decide, fun f hf => by
 rw [show full15.fs = [areaF] from rfl, List.mem_singleton] at hf
 subst hf
 decide⟩
def boxL2 : List Pt2 := (List.range 12).flatMap fun (y : Nat) => (List.range 20).map fun (x : Nat) => ((x : Int), (y : Int))
theorem boxL2_len : boxL2.length = 240 := by kernel_rfl
theorem boxL2_mem {p : Pt2} (h : InBox (0, 0) (19, 11) p) : p ∈ boxL2 := by
 obtain ⟨p1, p2⟩ := p
 unfold InBox at h
 simp only at h
 simp only [boxL2, List.mem_flatMap, List.mem_map, List.mem_range, Prod.mk.injEq]
 exact ⟨p2.toNat, oM, p1.toNat, oM, oM, oM⟩
theorem full_few : Few full15 := fun f hf hv => by
 have := sub_len (pointsF_nodup hv) (b := boxL2) fun p hp => boxL2_mem (pointsF_box (f := f) (lo := (0, 0)) (hi := (19, 11)) (fun q hq => by
  rw [show full15.fs = [areaF] from rfl, List.mem_singleton] at hf
  subst hf
  have : ∀ q ∈ areaF.pts, 0 <= q.1 /\ q.1 <= 19 /\ 0 <= q.2 /\ q.2 <= 11 := by decide
  have := this q hq
  unfold InBox
  omega) p hp)
 rw [boxL2_len] at this
 omega
def plcC (r : Plc) : List DC := [.f (.sl 2 r.1.length (r.1.flatMap ptF)), .f (.c (.int .i64 r.2.1)), .f (.c (.int .i64 r.2.2))]
theorem d_legal0 {p : Pic} (hFi : Fine p) (hF : Few p) : DK 12 [picD p, .one (.f (.c .nils))] fun d => d = .bool (validPic p && legalP p []) := fun H Z args hw hz hg ha => by
 refine d_legal (l := []) hFi hF (fun q hq => by cases hq) H Z args hw hz hg ?_
 match args, ha with
 | [v1, v2], ⟨h1, ⟨c, hv, hc⟩, _⟩ =>
  refine ⟨h1, ⟨c, hv, ?_⟩, trivial⟩
  cases hc
  exact (RF.nil 2 : RF Z H (.sl 2 0 []) .nils)
theorem d_sanity : DK 4 [] fun d => d = .bool true := by
 refine dfn_ok cp4 rfl GHro fun Z0 lo => ?_
 refine goD ?_; intros
 refine dw_frz 0 rfl okZ okZ ?_
 refine dw_cf rfl rfl (d_spots15 (l := [(0, 0)]) (by decide)) ?_
 rintro _ rfl
 refine dw_cf rfl rfl (d_placeU (sp15_fine (by decide)) sp15_few (by kernel_rfl) plc_s1) ?_
 rintro _ rfl
 refine goD ?_; intros
 refine dw_frz 1 rfl okZ okZ ?_
 refine dw_cf rfl rfl (d_spots15 (l := [(10, 5)]) (by decide)) ?_
 rintro _ rfl
 refine dw_cf rfl rfl (d_placeU (sp15_fine (by decide)) sp15_few (by kernel_rfl) plc_s2) ?_
 rintro _ rfl
 refine goD ?_; intros
 refine dw_frz 2 rfl okZ okZ ?_
 refine dw_cf rfl rfl (d_spots15 (l := four15) (by decide)) ?_
 rintro _ rfl
 refine dw_cf rfl rfl (d_placeU (sp15_fine (by decide)) sp15_few (by kernel_rfl) plc_s3) ?_
 rintro _ rfl
 iterate 7 (first|(refine dw_want rfl rfl ?_)|(refine dw_skip rfl rfl ?_)|(refine dw_skipU rfl ?_)|(refine dw_pickT rfl rfl ?_)|(refine dw_pickF rfl rfl ?_)|(refine dw_pick rfl dgA dgA ?_)|(refine dw_max rfl rfl ?_)|(refine dw_min rfl rfl ?_)|(refine dw_p rfl ?_)|(refine dw_l rfl ?_)|(refine dw_lk rfl ?_)|(refine dw_pg rfl dgA ?_)|(refine dw_lg rfl dgA ?_)|(refine dw_io1 rfl rfl oM oM ?_)|(refine dw_io0 rfl rfl oM oM ?_)|(refine dw_it0 rfl rfl oM oM ?_)|(refine dw_if0 rfl rfl oM (by decide) aM ?_)|(refine dw_if rfl rfl oM (by decide) aM ?_)|(refine dw_l (dload_data rfl rfl aM rfl) ?_)|(refine dw_lk (dload_data rfl rfl aM rfl) ?_)|(refine dw_l (dload_tree rfl rfl aM) ?_)|(refine dw_lk (dload_tree rfl rfl aM) ?_)|(refine dw_l (dload_tptr rfl rfl aM aM) ?_)|(refine dw_lk (dload_tptr rfl rfl aM aM) ?_)|(refine dw_a rfl ?_)|(refine dw_ai rfl rfl rfl ?_)|(refine dw_st rfl rfl rfl rfl rfl (Nat.le_of_ble_eq_true rfl) rfl ?_)|(refine dw_nil ?_)|(refine ds_seq ?_)|(refine ds_ops mix (fun base => ?_))|(refine ds_skip ?_)|(refine ds_block ?_)|(refine ds_exit ?_))
 refine ds_keep (E0 := [(1, .one (.ptr 3 0)), (2, .one (.ptr 4 0)), (3, .one (.ptr 5 0))])
  (S0 := [(3, .cells (plcC ([(2, 0)], 1, 0))), (4, .cells (plcC ([(1, 0)], 1, 0))), (5, .cells (plcC ([(2, 0), (6, 0), (0, 2), (8, 1)], 4, 0)))])
  (SubA.cons rfl (SubA.cons rfl (SubA.cons rfl (SubA.nil _)))) (SubA.cons rfl (SubA.cons rfl (SubA.cons rfl (SubA.nil _)))) ?_
 iterate 7 (first|(refine dw_want rfl rfl ?_)|(refine dw_skip rfl rfl ?_)|(refine dw_skipU rfl ?_)|(refine dw_pickT rfl rfl ?_)|(refine dw_pickF rfl rfl ?_)|(refine dw_pick rfl dgA dgA ?_)|(refine dw_max rfl rfl ?_)|(refine dw_min rfl rfl ?_)|(refine dw_p rfl ?_)|(refine dw_l rfl ?_)|(refine dw_lk rfl ?_)|(refine dw_pg rfl dgA ?_)|(refine dw_lg rfl dgA ?_)|(refine dw_io1 rfl rfl oM oM ?_)|(refine dw_io0 rfl rfl oM oM ?_)|(refine dw_it0 rfl rfl oM oM ?_)|(refine dw_if0 rfl rfl oM (by decide) aM ?_)|(refine dw_if rfl rfl oM (by decide) aM ?_)|(refine dw_l (dload_data rfl rfl aM rfl) ?_)|(refine dw_lk (dload_data rfl rfl aM rfl) ?_)|(refine dw_l (dload_tree rfl rfl aM) ?_)|(refine dw_lk (dload_tree rfl rfl aM) ?_)|(refine dw_l (dload_tptr rfl rfl aM aM) ?_)|(refine dw_lk (dload_tptr rfl rfl aM aM) ?_)|(refine dw_a rfl ?_)|(refine dw_ai rfl rfl rfl ?_)|(refine dw_st rfl rfl rfl rfl rfl (Nat.le_of_ble_eq_true rfl) rfl ?_)|(refine dw_nil ?_)|(refine ds_seq ?_)|(refine ds_ops mix (fun base => ?_))|(refine ds_skip ?_)|(refine ds_block ?_)|(refine ds_exit ?_))
 refine dw_frz 6 rfl okZ okZ ?_
 iterate 2 (first|(refine dw_want rfl rfl ?_)|(refine dw_skip rfl rfl ?_)|(refine dw_skipU rfl ?_)|(refine dw_pickT rfl rfl ?_)|(refine dw_pickF rfl rfl ?_)|(refine dw_pick rfl dgA dgA ?_)|(refine dw_max rfl rfl ?_)|(refine dw_min rfl rfl ?_)|(refine dw_p rfl ?_)|(refine dw_l rfl ?_)|(refine dw_lk rfl ?_)|(refine dw_pg rfl dgA ?_)|(refine dw_lg rfl dgA ?_)|(refine dw_io1 rfl rfl oM oM ?_)|(refine dw_io0 rfl rfl oM oM ?_)|(refine dw_it0 rfl rfl oM oM ?_)|(refine dw_if0 rfl rfl oM (by decide) aM ?_)|(refine dw_if rfl rfl oM (by decide) aM ?_)|(refine dw_l (dload_data rfl rfl aM rfl) ?_)|(refine dw_lk (dload_data rfl rfl aM rfl) ?_)|(refine dw_l (dload_tree rfl rfl aM) ?_)|(refine dw_lk (dload_tree rfl rfl aM) ?_)|(refine dw_l (dload_tptr rfl rfl aM aM) ?_)|(refine dw_lk (dload_tptr rfl rfl aM aM) ?_)|(refine dw_a rfl ?_)|(refine dw_ai rfl rfl rfl ?_)|(refine dw_st rfl rfl rfl rfl rfl (Nat.le_of_ble_eq_true rfl) rfl ?_)|(refine dw_nil ?_)|(refine ds_seq ?_)|(refine ds_ops mix (fun base => ?_))|(refine ds_skip ?_)|(refine ds_block ?_)|(refine ds_exit ?_))
 refine dw_frz 7 rfl okZ okZ ?_
 iterate 4 (first|(refine dw_want rfl rfl ?_)|(refine dw_skip rfl rfl ?_)|(refine dw_skipU rfl ?_)|(refine dw_pickT rfl rfl ?_)|(refine dw_pickF rfl rfl ?_)|(refine dw_pick rfl dgA dgA ?_)|(refine dw_max rfl rfl ?_)|(refine dw_min rfl rfl ?_)|(refine dw_p rfl ?_)|(refine dw_l rfl ?_)|(refine dw_lk rfl ?_)|(refine dw_pg rfl dgA ?_)|(refine dw_lg rfl dgA ?_)|(refine dw_io1 rfl rfl oM oM ?_)|(refine dw_io0 rfl rfl oM oM ?_)|(refine dw_it0 rfl rfl oM oM ?_)|(refine dw_if0 rfl rfl oM (by decide) aM ?_)|(refine dw_if rfl rfl oM (by decide) aM ?_)|(refine dw_l (dload_data rfl rfl aM rfl) ?_)|(refine dw_lk (dload_data rfl rfl aM rfl) ?_)|(refine dw_l (dload_tree rfl rfl aM) ?_)|(refine dw_lk (dload_tree rfl rfl aM) ?_)|(refine dw_l (dload_tptr rfl rfl aM aM) ?_)|(refine dw_lk (dload_tptr rfl rfl aM aM) ?_)|(refine dw_a rfl ?_)|(refine dw_ai rfl rfl rfl ?_)|(refine dw_st rfl rfl rfl rfl rfl (Nat.le_of_ble_eq_true rfl) rfl ?_)|(refine dw_nil ?_)|(refine ds_seq ?_)|(refine ds_ops mix (fun base => ?_))|(refine ds_skip ?_)|(refine ds_block ?_)|(refine ds_exit ?_))
 refine ds_keep (E0 := [(1, .one (.ptr 3 0)), (2, .one (.ptr 4 0)), (3, .one (.ptr 5 0)), (4, .one (.ptr 8 0))]) (S0 := [(3, .cells (plcC ([(2, 0)], 1, 0))), (4, .cells (plcC ([(1, 0)], 1, 0))), (5, .cells (plcC ([(2, 0), (6, 0), (0, 2), (8, 1)], 4, 0))), (8, .cells (picC full15))])
  (SubA.cons rfl (SubA.cons rfl (SubA.cons rfl (SubA.cons rfl (SubA.nil _))))) (SubA.cons rfl (SubA.cons rfl (SubA.cons rfl (SubA.cons rfl (SubA.nil _))))) ?_
 refine goD ?_; intros
 refine dw_cf rfl rfl (d_placeU full_fine full_few validPic_full plc_sf) ?_
 rintro _ rfl
 iterate 3 (first|(refine dw_want rfl rfl ?_)|(refine dw_skip rfl rfl ?_)|(refine dw_skipU rfl ?_)|(refine dw_pickT rfl rfl ?_)|(refine dw_pickF rfl rfl ?_)|(refine dw_pick rfl dgA dgA ?_)|(refine dw_max rfl rfl ?_)|(refine dw_min rfl rfl ?_)|(refine dw_p rfl ?_)|(refine dw_l rfl ?_)|(refine dw_lk rfl ?_)|(refine dw_pg rfl dgA ?_)|(refine dw_lg rfl dgA ?_)|(refine dw_io1 rfl rfl oM oM ?_)|(refine dw_io0 rfl rfl oM oM ?_)|(refine dw_it0 rfl rfl oM oM ?_)|(refine dw_if0 rfl rfl oM (by decide) aM ?_)|(refine dw_if rfl rfl oM (by decide) aM ?_)|(refine dw_l (dload_data rfl rfl aM rfl) ?_)|(refine dw_lk (dload_data rfl rfl aM rfl) ?_)|(refine dw_l (dload_tree rfl rfl aM) ?_)|(refine dw_lk (dload_tree rfl rfl aM) ?_)|(refine dw_l (dload_tptr rfl rfl aM aM) ?_)|(refine dw_lk (dload_tptr rfl rfl aM aM) ?_)|(refine dw_a rfl ?_)|(refine dw_ai rfl rfl rfl ?_)|(refine dw_st rfl rfl rfl rfl rfl (Nat.le_of_ble_eq_true rfl) rfl ?_)|(refine dw_nil ?_)|(refine ds_seq ?_)|(refine ds_ops mix (fun base => ?_))|(refine ds_skip ?_)|(refine ds_block ?_)|(refine ds_exit ?_))
 refine ds_keep (E0 := [(1, .one (.ptr 3 0)), (2, .one (.ptr 4 0)), (3, .one (.ptr 5 0)), (5, .one (.ptr 9 0))]) (S0 := [(3, .cells (plcC ([(2, 0)], 1, 0))), (4, .cells (plcC ([(1, 0)], 1, 0))), (5, .cells (plcC ([(2, 0), (6, 0), (0, 2), (8, 1)], 4, 0))), (9, .cells (plcC ([], 0, 150)))])
  (SubA.cons rfl (SubA.cons rfl (SubA.cons rfl (SubA.cons rfl (SubA.nil _))))) (SubA.cons rfl (SubA.cons rfl (SubA.cons rfl (SubA.cons rfl (SubA.nil _))))) ?_
 refine goD ?_; intros
 refine dw_cf rfl rfl (d_cells (i := 3) (by decide)) ?_
 rintro _ rfl
 refine goD ?_; intros
 refine dw_frz 10 rfl okZ okZ ?_
 refine dw_cf rfl rfl (d_same (l := [(2, 0)]) (r := [(2, 0)]) (by decide)) ?_
 rintro _ rfl
 rw [show decide (([(2, 0)] : List Pt2) = [(2, 0)]) = true from rfl]
 refine goD ?_; intros
 refine dw_frz 11 rfl okZ okZ ?_
 refine dw_cf rfl rfl (d_same (l := [(1, 0)]) (r := [(1, 0)]) (by decide)) ?_
 rintro _ rfl
 rw [show decide (([(1, 0)] : List Pt2) = [(1, 0)]) = true from rfl]
 refine goD ?_; intros
 refine dw_frz 12 rfl okZ okZ ?_
 refine dw_cf rfl rfl (d_same (l := [(2, 0), (6, 0), (0, 2), (8, 1)]) (r := [(2, 0), (6, 0), (0, 2), (8, 1)]) (by decide)) ?_
 rintro _ rfl
 rw [show decide (([(2, 0), (6, 0), (0, 2), (8, 1)] : List Pt2) = [(2, 0), (6, 0), (0, 2), (8, 1)]) = true from rfl]
 refine goD ?_; intros
 refine dw_if (j := 0) (q := [.c (.int .u8 60)]) rfl rfl (by decide) (by decide) rfl ?_
 refine goD ?_; intros
 refine dw_if (j := 1) (q := [.c (.int .u8 25)]) rfl rfl (by decide) (by decide) rfl ?_
 refine goD ?_; intros
 have hlp : DK 8 [.int 0, ptD (1, 1)] fun d => d = ptsD (lblP 0 (1, 1)) := d_lpoints (i := 0) (q := (1, 1)) (by decide) (by unfold Small; decide)
 refine dw_cf rfl rfl hlp ?_
 rintro _ rfl
 rw [show lblP 0 (1, 1) = [(3, 3), (4, 3), (3, 4), (2, 5), (3, 5)] from by kernel_rfl]
 refine goD ?_; intros
 refine dw_frz 13 rfl okZ okZ ?_
 refine dw_cf rfl rfl (d_same (l := [(3, 3), (4, 3), (3, 4), (2, 5), (3, 5)]) (r := [(3, 3), (4, 3), (3, 4), (2, 5), (3, 5)]) (by decide)) ?_
 rintro _ rfl
 rw [show decide (([(3, 3), (4, 3), (3, 4), (2, 5), (3, 5)] : List Pt2) = [(3, 3), (4, 3), (3, 4), (2, 5), (3, 5)]) = true from rfl]
 refine goD ?_; intros
 refine dw_frz 14 rfl okZ okZ ?_
 refine dw_cf rfl rfl (d_spots15 (l := [(0, 0)]) (by decide)) ?_
 rintro _ rfl
 refine goD ?_; intros
 refine dw_frz 15 rfl okZ okZ ?_
 refine dw_cf rfl rfl (d_legal (p := spots15 [(0, 0)]) (l := [(2, 1)]) (sp15_fine (by decide)) sp15_few (by unfold Small; decide)) ?_
 rintro _ rfl
 rw [leg1]
 refine goD ?_; intros
 refine dw_frz 16 rfl okZ okZ ?_
 refine dw_cf rfl rfl (d_spots15 (l := [(0, 0)]) (by decide)) ?_
 rintro _ rfl
 refine goD ?_; intros
 refine dw_cf rfl rfl (d_legal0 (p := spots15 [(0, 0)]) (sp15_fine (by decide)) sp15_few) ?_
 rintro _ rfl
 rw [leg2]
 refine goD ?_; intros
 refine dw_frz 17 rfl okZ okZ ?_
 refine dw_cf rfl rfl (d_spots15 (l := [(0, 0)]) (by decide)) ?_
 rintro _ rfl
 refine goD ?_; intros
 refine dw_frz 18 rfl okZ okZ ?_
 refine dw_cf rfl rfl (d_legal (p := spots15 [(0, 0)]) (l := [(0, 0)]) (sp15_fine (by decide)) sp15_few (by unfold Small; decide)) ?_
 rintro _ rfl
 rw [leg3]
 refine goD ?_; intros
 exact ds_ret ⟨_, rfl, rfl, rfl⟩
end Go.Af

namespace Go.Ab
section
variable {p : Par} {n : Nat} {E : DEnv} {S : Bx} {nk : Nat} {Q : Exit -> DEnv -> Bx -> Nat -> Prop}
theorem d2t_ok {Z : Nat -> Prop} {β : Beta} {H : Hp} (hS : SR p Z β H S nk) {k : Nat} (hk : lk S k = some (.data [])) : SR p Z β H (put k (.tree []) S) nk := by
 have hl : ∀ j, lk (put k (.tree []) S) j = if j = k then some (.tree []) else lk S j := fun j => by
  rw [lk_put]
  split
  ·rename_i e; subst e; rw [hk]; rfl
  ·rfl
 refine { hS with box := fun κ x hx => ?_, inj := fun κ κ' x x' b N N' h1 h2 => ?_ }
 ·obtain ⟨j, i⟩ := κ
  by_cases hj : j = k
  ·subst hj
   cases i with
   | zero =>
    simp only [lk2, hl, if_true] at hx
    obtain rfl := Option.some.inj hx
    obtain ⟨s, hs, hb⟩ := hS.box (j, 0) (.data []) (lk2_of hk rfl)
    refine ⟨s, hs, ?_⟩
    cases s with
    | nil => rfl
    | blk b N =>
     obtain ⟨g1, g2, g3, cs, rest, g4, g5, g6⟩ := hb
     refine ⟨g1, g2, g3, cs, rest, g4, g5, ?_⟩
     have g6 : All2 (RF Z H) [] cs := g6
     cases cs with
     | nil => exact (trivial : All2 (RD Z H β) [] [])
     | cons _ _ => exact g6.elim
   | succ i =>
    simp only [lk2, hl, if_true] at hx
    cases hx
  ·have : lk2 (put k (.tree []) S) (j, i) = lk2 S (j, i) := by
    cases i <;> simp only [lk2, hl, if_neg hj]
   rw [this] at hx
   exact hS.box _ _ hx
 ·have g : ∀ i z, lk (put k (.tree []) S) i = some z -> ∃ z', lk S i = some z' := fun i z h => by
   rw [hl] at h
   split at h
   ·rename_i e; subst e; exact ⟨_, hk⟩
   ·exact ⟨_, h⟩
  obtain ⟨z1, e1⟩ := g _ _ h1
  obtain ⟨z2, e2⟩ := g _ _ h2
  exact hS.inj κ κ' z1 z2 b N N' e1 e2
theorem ds_d2t {s : SC} (k : Nat) (hk : lk S k = some (.data [])) (h : DPS p n s Q E (put k (.tree []) S) nk) : DPS p n s Q E S nk := .mk fun Z β H F hS hE => h.run Z β H F (d2t_ok hS hk) hE
end
end Go.Ab

namespace Go.Af
open Go.Ab Go.Proofs
set_option linter.unusedSimpArgs false
theorem tm_nat {i : Int} {b : Nat} (hi : 0 <= i) (hb : 0 < b) : ∃ n : Nat, i.tmod b = (n : Int) /\ n < b := by
 have h1 := Int.tmod_nonneg (b : Int) hi
 have h2 := Int.tmod_lt_of_pos i (show (0 : Int) < b by omega)
 exact ⟨(i.tmod b).toNat, oM, oM⟩
theorem set_end {α : Type} (l t : List α) (n : Nat) (a : α) : (l ++ t).set (l.length + n) a = l ++ t.set n a := by
 rw [List.set_append, if_neg (by omega), Nat.add_sub_cancel_left]
theorem zrow (x : Nat) (v : Int) : ((List.replicate (x + 2) (cF 0)).set x (cF 60)).set (x + 1) (cF v) = (List.replicate x 0 ++ [60, v]).map cF := by
 have e : List.replicate (x + 2) (cF 0) = List.replicate x (cF 0) ++ [cF 0, cF 0] := by
  rw [show [cF 0, cF 0] = List.replicate 2 (cF 0) from rfl, List.replicate_append_replicate]
 have h1 := set_end (List.replicate x (cF 0)) [cF 0, cF 0] 0 (cF 60)
 have h2 := set_end (List.replicate x (cF 0)) [cF 60, cF 0] 1 (cF v)
 rw [List.length_replicate] at h1 h2
 rw [e, show (List.replicate x (cF 0) ++ [cF 0, cF 0]).set x (cF 60) = _ from h1, show ([cF 0, cF 0].set 0 (cF 60)) = [cF 60, cF 0] from rfl, h2, List.map_append, List.map_replicate]
 rfl
theorem zrows (i x y : Nat) : ((List.replicate (y + 1) (List.replicate (x + 2) (cF 0))).set y (((List.replicate (x + 2) (cF 0)).set x (cF 60)).set (x + 1) (cF (dgt i)))) = cellsF (lblR i x y) := by
 have h1 : (List.replicate y (List.replicate (x + 2) (cF 0)) ++ [List.replicate (x + 2) (cF 0)]).set y ((List.replicate x 0 ++ [60, dgt i]).map cF) = List.replicate y (List.replicate (x + 2) (cF 0)) ++ [(List.replicate x 0 ++ [60, dgt i]).map cF] := by
  have h := set_end (List.replicate y (List.replicate (x + 2) (cF 0))) [List.replicate (x + 2) (cF 0)] 0 ((List.replicate x 0 ++ [60, dgt i]).map cF)
  rw [List.length_replicate] at h
  exact h
 rw [zrow, List.replicate_succ', h1]
 simp [cellsF, lblR]
set_option maxHeartbeats 8000000 in
theorem d_lcells {i k a b : Int} (hi : 0 <= i /\ i < 256) (hk : 0 <= k /\ k < 256) (ha : 0 <= a /\ a < 256) (hb : 0 <= b /\ b < 256) : DK 3 [.one (.f (.c (.int .u8 i))), .one (.f (.c (.int .u8 k))), .agg [.f (.c (.int .u8 a)), .f (.c (.int .u8 b))]] fun d => d = .bool true := by
 refine dfn_ok cp3 rfl GHro fun Z0 lo => ?_
 obtain ⟨n, hn, hn8⟩ := tm_nat (b := 8) hi.1 oM
 obtain ⟨m, hm, hm8⟩ := tm_nat (b := 8) hk.1 oM
 obtain ⟨x, hx, hx20⟩ := tm_nat (b := 20) ha.1 oM
 obtain ⟨y, hy, hy20⟩ := tm_nat (b := 20) hb.1 oM
 have hn : i.tmod 8 = (n : Int) := hn
 have hm : k.tmod 8 = (m : Int) := hm
 have hx : a.tmod 20 = (x : Int) := hx
 have hy : b.tmod 20 = (y : Int) := hy
 have w0 : IntKind.i64.wrap i = i := dwrap oM oM
 have w1 : IntKind.i64.wrap k = k := dwrap oM oM
 have w2 : IntKind.i64.wrap a = a := dwrap oM oM
 have w3 : IntKind.i64.wrap b = b := dwrap oM oM
 have hb1 : (dgt n == dgt m) = decide (n = m) := dgt_inj n hn8 m hm8
 have hb2 : (i.tmod 8 == k.tmod 8) = decide (n = m) := by
  rw [hn, hm]
  by_cases h : n = m
  ·subst h; simp
  ·rw [decide_eq_false h]; simp; omega
 have hbb : ((dgt n == dgt m) != (i.tmod 8 == k.tmod 8)) = false := by rw [hb1, hb2]; simp
 refine goD ?_; intros
 refine dw_cf rfl rfl d_sanity ?_
 rintro _ rfl
 refine goD ?_; intros
 rw [w0, hn]
 refine dw_cf rfl rfl (d_cells hn8) ?_
 rintro _ rfl
 refine goD ?_; intros
 rw [w1, hm]
 refine dw_cf rfl rfl (d_cells hm8) ?_
 rintro _ rfl
 refine goD ?_; intros
 refine dw_if (j := 0) (q := [.c (.int .u8 60)]) rfl rfl (by decide) (by decide) rfl ?_
 refine goB ?_; intros
 refine dw_if (j := 0) (q := [.c (.int .u8 60)]) rfl rfl (by decide) (by decide) rfl ?_
 refine goB ?_; intros
 refine dw_if (j := 1) (q := [.c (.int .u8 (dgt n))]) rfl rfl (by decide) (by decide) rfl ?_
 refine goB ?_; intros
 refine dw_if (j := 1) (q := [.c (.int .u8 (dgt m))]) rfl rfl (by decide) (by decide) rfl ?_
 refine goB ?_; intros
 refine ds_if rfl (fun h => by simp at h) (fun _ => ?_)
 refine goD ?_; intros
 rw [w2, hx, w3, hy]
 refine ds_d2t 1 rfl ?_
 have hxy : IntKind.i64.wrap ((x : Int) + 2) = ((x + 2 : Nat) : Int) := by rw [dwrap (by omega) (by omega)]; omega
 refine ds_loop (fun m' E S nk => ∃ r : Nat, r + m' = y + 1 /\ E = [(0, .one (.f (.c (.int .u8 i)))), (7, .bool true), (8, cell2 n), (10, .int x), (11, .int y), (12, .one (.own 1 0 r 1)), (13, .int r)] /\ S = [(1, .tree (List.replicate r (List.replicate (x + 2) (cF 0))))] /\ nk = 2)
  ⟨y + 1, _, _, _, [], ?wk, 0, oM, rfl, rfl, rfl⟩ ?_
 case wk => exact wkA
 rintro m' E S nk ⟨r, hr, rfl, rfl, rfl⟩
 refine goD ?_; intros
 refine ds_if rfl (fun ht => ?_) (fun ht => ?_)
 ·have ht := of_decide_eq_true ht
  refine goD ?_; intros
  rw [hxy]
  refine dw_mk [.c (.int .u8 0)] rfl rfl ⟨rfl, rfl, trivial⟩ rfl (by decide) (Nat.le_refl _) oM oM ?_
  refine goD ?_; intros
  refine dw_appt rfl rfl rfl (by simp) rfl rfl (by rw [reps'_len]; simp) (by omega) (by omega) rfl ?_
  refine goD ?_; intros
  have hrw : List.replicate r (List.replicate (x + 2) (cF 0)) ++ [reps' [.c (.int .u8 0)] (x + 2)] = List.replicate (r + 1) (List.replicate (x + 2) (cF 0)) := by
   rw [reps'_one, List.replicate_succ' (n := r)]
   rfl
  refine ⟨m' - 1, oM, _, _, _, [(1, 4)], ?wk2, r + 1, oM, rfl, rfl, rfl⟩
  case wk2 => exact ⟨(by repeat (first|exact trivial|refine ⟨by first|rfl|exact cgI oM oM, rfl, ?_⟩)), ⟨congrArg (fun z => some (Bk.tree z)) hrw, rfl, rfl, trivial⟩, rfl, rfl⟩
 ·have ht := of_decide_eq_false ht
  have hr : r = y + 1 := by omega
  subst hr
  have e1 : (List.replicate (y + 1) (List.replicate (x + 2) (cF 0)))[y]? = some (List.replicate (x + 2) (cF 0)) := by rw [List.getElem?_replicate, if_pos (by omega)]
  refine goD ?_; intros
  rw [show IntKind.i64.wrap ((x : Int) + 1) = ((x + 1 : Nat) : Int) by rw [dwrap (by omega) (by omega)]; omega, Int.toNat_natCast]
  refine dw_if (j := 0) (q := [.c (.int .u8 60)]) rfl rfl (by decide) (by decide) rfl ?_
  refine goD ?_; intros
  refine dw_if (j := 1) (q := [.c (.int .u8 (dgt n))]) rfl rfl (by decide) (by decide) rfl ?_
  refine goD ?_; intros
  have hl1 : x < (List.replicate (x + 2) (cF 0)).length := by simp
  refine dw_it0 rfl rfl (by omega) (by rw [List.length_replicate]; omega) ?_
  refine dw_stt (i := y) (o := x) rfl rfl rfl e1 hl1 rfl ?_
  refine dw_it0 rfl rfl (by omega) (by rw [List.length_replicate]; omega) ?_
  have e2 : ((List.replicate (y + 1) (List.replicate (x + 2) (cF 0))).set y ((List.replicate (x + 2) (cF 0)).set x (cF 60)))[y]? = some ((List.replicate (x + 2) (cF 0)).set x (cF 60)) := by
   rw [List.getElem?_set, if_pos rfl, if_pos (by simp)]
  have hl2 : x + 1 < ((List.replicate (x + 2) (cF 0)).set x (cF 60)).length := by simp
  refine dw_stt (i := y) (o := x + 1) rfl rfl rfl e2 hl2 rfl ?_
  have e3 : (((List.replicate (y + 1) (List.replicate (x + 2) (cF 0))).set y ((List.replicate (x + 2) (cF 0)).set x (cF 60))).set y (((List.replicate (x + 2) (cF 0)).set x (cF 60)).set (x + 1) (cF (dgt n)))) = cellsF (lblR n x y) := by
   rw [List.set_set, zrows]
  refine goD ?_; intros
  rw [show IntKind.i64.wrap (2 * (x : Int)) = 2 * (x : Int) from dwrap (by omega) (by omega), show IntKind.i64.wrap (3 * (y : Int)) = 3 * (y : Int) from dwrap (by omega) (by omega)]
  rw [show IntKind.i64.wrap (2 * (x : Int) + 4) = ((2 * x + 4 : Nat) : Int) by rw [dwrap (by omega) (by omega)]; omega, show IntKind.i64.wrap (3 * (y : Int) + 3) = ((3 * y + 3 : Nat) : Int) by rw [dwrap (by omega) (by omega)]; omega]
  have hL : (lblR n x y).length = y + 1 := lblR_len n x y
  refine dw_keep (E0 := [(0, .one (.f (.c (.int .u8 i)))), (7, .bool true), (10, .int x), (11, .int y), (100, .one (.own 1 0 (lblR n x y).length 1)), (103, .int (2 * x + 4 : Nat)), (106, .int (3 * y + 3 : Nat))]) (S0 := [(1, .tree (cellsF (lblR n x y)))])
   (SubA.cons rfl (SubA.cons rfl (SubA.cons rfl (SubA.cons rfl (SubA.cons (congrArg (fun z => some (DV.one (.own 1 0 z 1))) hL.symm) (SubA.cons rfl (SubA.cons rfl (SubA.nil _)))))))) (SubA.cons (congrArg (fun z => some (Bk.tree z)) e3) (SubA.nil _)) ?_
  have hLF : (lblR n x y).length = (cellsF (lblR n x y)).length := by simp [cellsF]
  refine dw_frzT 1 rfl okZ okZ ?_
  refine dw_cf rfl rfl (d_rfrom (l := lblR n x y) (w := (2 * x + 4 : Nat)) (h := (3 * y + 3 : Nat)) (fun r hr => ?_)) ?_
  ·have := ((lblR_fit hn8 hx20 hy20).2 r hr).1
   omega
  rintro _ (⟨_, _, rfl⟩|⟨hf, rfl⟩)
  ·rw [Int.toNat_natCast, Int.toNat_natCast]
   have hq : Small 1000000 ((x : Int), (y : Int)) := by unfold Small; simp only; omega
   have hll := lblP_len n ((x : Int), (y : Int))
   refine goD ?_; intros
   rw [w0, hn]
   refine dw_cf rfl rfl (d_lpoints (i := n) (q := ((x : Int), (y : Int))) hn8 hq) ?_
   rintro _ rfl
   refine goD ?_; intros
   refine dw_cf rfl rfl (d_rpoints oM oM (fromC_sz (2 * x + 4) (3 * y + 3) (lblR n x y))) ?_
   rintro _ rfl
   rw [lbl_points hn8]
   refine goD ?_; intros
   refine dw_cf rfl rfl (d_same (l := lblP n ((x : Int), (y : Int))) (r := lblP n ((x : Int), (y : Int))) oM) ?_
   rintro _ rfl
   rw [decide_eq_true (rfl : lblP n ((x : Int), (y : Int)) = lblP n ((x : Int), (y : Int)))]
   refine goD ?_; intros
   exact ds_ret ⟨_, rfl, rfl, rfl⟩
  ·exact absurd (lblR_fit hn8 hx20 hy20) hf
end Go.Af

namespace Go.Af
open Go.Ab Go.Proofs
theorem wf_u8 {n : Int} (h : (Lit.int .u8 n).wf = true) : isB n := by
 simp [Lit.wf, IntKind.min, IntKind.max, IntKind.signed, IntKind.bits] at h
 unfold isB
 omega
end Go.Af
