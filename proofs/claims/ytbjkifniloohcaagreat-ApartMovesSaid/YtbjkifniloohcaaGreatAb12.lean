/- Contracts of functions of the program over the abstract semantics. -/
import Derived.Test.YtbjkifniloohcaaGreatAb11
set_option linter.unusedVariables false
set_option linter.unusedSimpArgs false
namespace Go.Ad
open Go.Ab Go.Proofs
set_option linter.unusedSimpArgs false
structure Pic where
 w : Int
 h : Int
 gap : Int
 fs : List Ft
def picC (p : Pic) : List DC := [.f (.c (.int .i64 p.w)), .f (.c (.int .i64 p.h)), .f (.c (.int .i64 p.gap)), .f (.sl 3 p.fs.length (p.fs.flatMap ftF))]
def picD (p : Pic) : DV := .agg (picC p)
theorem ftF_at {l : List Ft} {i : Nat} {x : Ft} (h : l[i]? = some x) : subL (l.flatMap ftF) (i * 3) 3 = some (ftF x) := subL_flat (e := 3) (fun _ => rfl) h
theorem ftF_len (l : List Ft) : (l.flatMap ftF).length = l.length * 3 := flat_length (f := ftF) (e := 3) (fun _ => rfl) l
def headOk (p : Pic) : Bool := (decide (4 <= p.w) && decide (p.w <= 60) && decide (p.w.tmod 2 = 0)) && (decide (3 <= p.h) && decide (p.h <= 60) && decide (p.h.tmod 3 = 0))
def gapOk (p : Pic) : Bool := (decide (2 <= p.gap) && decide (p.gap <= 6)) && (decide (1 <= p.fs.length) && decide (p.fs.length <= 8))
def ptIn (w h : Int) (q : Pt2) : Bool := decide (q.1 < w) && decide (q.2 < h)
def ftOk (p : Pic) (f : Ft) : Bool := validF f && f.pts.all (ptIn p.w p.h)
def validPic (p : Pic) : Bool := (headOk p && gapOk p) && p.fs.all (ftOk p)
def Fine (p : Pic) : Prop := p.fs.length < 1000 /\ ∀ f ∈ p.fs, f.pts.length < 1000
theorem bne0 {a : Int} : (a != 0) = !decide (a = 0) := by
 by_cases h : a = 0
 ·simp [h]
 ·rw [decide_eq_false h]; simpa using h
theorem headOk_bad {p : Pic} (h : (p.w < 4 \/ 60 < p.w \/ ¬ p.w.tmod 2 = 0 \/ p.h < 3 \/ 60 < p.h \/ ¬ p.h.tmod 3 = 0)) : headOk p = false := by
 rw [Bool.eq_false_iff]
 intro h2
 simp only [headOk, Bool.and_eq_true, decide_eq_true_eq] at h2
 omega
theorem all_bad {α : Type} {f : α -> Bool} {l : List α} {i : Nat} {x : α} (hx : l[i]? = some x) (h : f x = false) : l.all f = false := by
 rw [List.all_eq_false]
 exact ⟨x, List.mem_of_getElem? hx, by rw [h]; decide⟩
theorem all_good {α : Type} {f : α -> Bool} {l : List α} (h : ∀ (j : Nat) x, j < l.length -> l[j]? = some x -> f x = true) : l.all f = true := by
 rw [List.all_eq_true]
 intro x hx
 obtain ⟨j, hj⟩ := List.getElem?_of_mem hx
 exact h j x (List.getElem?_eq_some_iff.1 hj).1 hj
set_option maxHeartbeats 4000000 in
theorem d_apvalid {p : Pic} (hF : Fine p) : DK 11 [picD p] fun d => d = .bool (validPic p) := by
 refine dfn_ok cp11 rfl GHro fun Z0 lo => ?_
 repeat (first|refine dw_pick rfl dgA dgA ?_|refine dw_p rfl ?_|refine dw_l rfl ?_|refine dw_pg rfl dgA ?_|refine dw_lg rfl dgA ?_|refine dw_a rfl ?_|refine dw_nil ?_|refine ds_seq ?_|refine ds_ops mix (fun base => ?_))
 refine ds_if rfl (fun ht => ?_) (fun ht => ?_)
 ·rw [itOr, itOr, itOr, itOr, itOr] at ht
  simp only [bne0, Bool.or_eq_true, decide_eq_true_eq, Bool.not_eq_true', decide_eq_false_iff_not] at ht
  repeat (first|refine dw_p rfl ?_|refine dw_nil ?_|refine ds_seq ?_|refine ds_ops mix (fun base => ?_))
  refine ds_ret ⟨_, rfl, rfl, ?_⟩
  rw [validPic, headOk_bad (by omega)]
  rfl
 ·rw [itOr, itOr, itOr, itOr, itOr] at ht
  simp only [bne0, Bool.or_eq_false_iff, decide_eq_false_iff_not, Bool.not_eq_false', decide_eq_true_eq] at ht
  have hh : headOk p = true := by simp only [headOk, Bool.and_eq_true, decide_eq_true_eq]; omega
  repeat (first|refine dw_pick rfl dgA dgA ?_|refine dw_p rfl ?_|refine dw_l rfl ?_|refine dw_pg rfl dgA ?_|refine dw_lg rfl dgA ?_|refine dw_nil ?_|refine ds_seq ?_|refine ds_ops mix (fun base => ?_)|refine ds_skip ?_)
  refine ds_if rfl (fun ht2 => ?_) (fun ht2 => ?_)
  ·rw [itOr, itOr, itOr] at ht2
   simp only [Bool.or_eq_true, decide_eq_true_eq] at ht2
   have hg : gapOk p = false := by
    rw [Bool.eq_false_iff]
    intro h2
    simp only [gapOk, Bool.and_eq_true, decide_eq_true_eq] at h2
    omega
   repeat (first|refine dw_p rfl ?_|refine dw_nil ?_|refine ds_seq ?_|refine ds_ops mix (fun base => ?_))
   refine ds_ret ⟨_, rfl, rfl, ?_⟩
   rw [validPic, hg, Bool.and_false]
   rfl
  ·rw [itOr, itOr, itOr] at ht2
   simp only [Bool.or_eq_false_iff, decide_eq_false_iff_not] at ht2
   have hg : gapOk p = true := by simp only [gapOk, Bool.and_eq_true, decide_eq_true_eq]; omega
   have hv : validPic p = p.fs.all (ftOk p) := by rw [validPic, hh, hg]; rfl
   rw [hv]
   repeat (first|refine dw_p rfl ?_|refine dw_l rfl ?_|refine dw_nil ?_|refine ds_seq ?_|refine ds_ops mix (fun base => ?_)|refine ds_skip ?_|refine ds_block ?_)
   refine ds_loop (fun m E S nk => ∃ i : Nat, i + m = p.fs.length /\ (∀ (j : Nat) f, j < i -> p.fs[j]? = some f -> ftOk p f = true) /\ E = [(1, .one (.ptr 0 0)), (58, .one (.f (.sl 3 p.fs.length (p.fs.flatMap ftF)))), (59, .int p.fs.length), (60, .int i)] /\ S = [(0, .cells (picC p))] /\ nk = 1)
    ⟨p.fs.length, _, _, _, [], ?wk, 0, oM, fun j q hj => oM, rfl, rfl, rfl⟩ ?_
   case wk => exact wkA
   rintro m E S nk ⟨i, hi, hok, rfl, rfl, rfl⟩
   repeat (first|refine dw_p rfl ?_|refine dw_nil ?_|refine ds_seq ?_|refine ds_ops mix (fun base => ?_))
   refine ds_if rfl (fun hi2 => ?_) (fun hi2 => ?_)
   ·have hi2 : i < p.fs.length := by have := of_decide_eq_true hi2; omega
    obtain ⟨f, hf⟩ : ∃ f, p.fs[i]? = some f := ⟨_, List.getElem?_eq_getElem hi2⟩
    have e1 := ftF_at hf
    have hfl := hF.2 f (List.mem_of_getElem? hf)
    repeat (first|refine dw_l rfl ?_|refine dw_if rfl rfl oM (by decide) aM ?_|refine dw_a rfl ?_|refine dw_st rfl rfl rfl rfl rfl (Nat.le_of_ble_eq_true rfl) rfl ?_|refine dw_nil ?_|refine ds_seq ?_|refine ds_ops mix (fun base => ?_)|refine ds_skip ?_|refine ds_block ?_)
    refine dw_cf rfl rfl (d_valid hfl) ?_
    rintro _ rfl
    repeat (first|refine dw_p rfl ?_|refine dw_nil ?_)
    refine ds_if rfl (fun hv1 => ?_) (fun hv1 => ?_)
    ·have hv1 : validF f = false := by simpa using hv1
     repeat (first|refine dw_p rfl ?_|refine dw_nil ?_|refine ds_seq ?_|refine ds_ops mix (fun base => ?_))
     refine ds_ret ⟨_, rfl, rfl, ?_⟩
     rw [all_bad hf (by rw [ftOk, hv1]; rfl)]
    ·have hv1 : validF f = true := by simpa using hv1
     repeat (first|refine dw_p rfl ?_|refine dw_l rfl ?_|refine dw_nil ?_|refine ds_seq ?_|refine ds_ops mix (fun base => ?_)|refine ds_skip ?_|refine ds_block ?_)
     refine ds_loop (fun m E S nk => ∃ j : Nat, j + m = f.pts.length /\ (∀ (k : Nat) q, k < j -> f.pts[k]? = some q -> ptIn p.w p.h q = true) /\ E = [(1, .one (.ptr 0 0)), (58, .one (.f (.sl 3 p.fs.length (p.fs.flatMap ftF)))), (59, .int p.fs.length), (60, .int i), (68, ptsD f.pts), (69, .int f.pts.length), (70, .int j)] /\ S = [(0, .cells (picC p))] /\ nk = 1)
      ⟨f.pts.length, _, _, _, [], ?wk2, 0, oM, fun j q hj => oM, rfl, rfl, rfl⟩ ?_
     case wk2 => exact wkA
     rintro m2 E S nk ⟨j, hj, hok2, rfl, rfl, rfl⟩
     repeat (first|refine dw_p rfl ?_|refine dw_nil ?_|refine ds_seq ?_|refine ds_ops mix (fun base => ?_))
     refine ds_if rfl (fun hj2 => ?_) (fun hj2 => ?_)
     ·have hj2 : j < f.pts.length := by have := of_decide_eq_true hj2; omega
      obtain ⟨q, hq⟩ : ∃ q, f.pts[j]? = some q := ⟨_, List.getElem?_eq_getElem hj2⟩
      have e2 := ptF_at hq
      repeat (first|refine dw_pick rfl dgA dgA ?_|refine dw_p rfl ?_|refine dw_l rfl ?_|refine dw_pg rfl dgA ?_|refine dw_lg rfl dgA ?_|refine dw_if rfl rfl oM (by decide) aM ?_|refine dw_a rfl ?_|refine dw_st rfl rfl rfl rfl rfl (Nat.le_of_ble_eq_true rfl) rfl ?_|refine dw_nil ?_|refine ds_seq ?_|refine ds_ops mix (fun base => ?_)|refine ds_skip ?_|refine ds_block ?_)
      refine ds_if rfl (fun hb => ?_) (fun hb => ?_)
      ·rw [itOr] at hb
       simp only [Bool.or_eq_true, decide_eq_true_eq] at hb
       have hb : ptIn p.w p.h q = false := by
        rw [Bool.eq_false_iff]
        intro h2
        simp only [ptIn, Bool.and_eq_true, decide_eq_true_eq] at h2
        omega
       repeat (first|refine dw_p rfl ?_|refine dw_nil ?_|refine ds_seq ?_|refine ds_ops mix (fun base => ?_))
       refine ds_ret ⟨_, rfl, rfl, ?_⟩
       rw [all_bad hf (by rw [ftOk, all_bad hq hb, Bool.and_false])]
      ·rw [itOr] at hb
       simp only [Bool.or_eq_false_iff, decide_eq_false_iff_not] at hb
       have hb : ptIn p.w p.h q = true := by simp only [ptIn, Bool.and_eq_true, decide_eq_true_eq]; omega
       repeat (first|refine dw_p rfl ?_|refine dw_nil ?_|refine ds_ops mix (fun base => ?_)|refine ds_skip ?_)
       refine ⟨m2 - 1, oM, _, _, _, [], ?wk3, j + 1, oM, ?hno, rfl, rfl, rfl⟩
       case hno =>
        intro k q' hk hq'
        by_cases hkj : k = j
        ·subst hkj; rw [hq] at hq'; rw [<- Option.some.inj hq']; exact hb
        ·exact hok2 k q' oM hq'
       case wk3 => exact wkA
     ·have hj2 : j = f.pts.length := by have := of_decide_eq_false hj2; omega
      subst hj2
      repeat (first|refine dw_p rfl ?_|refine dw_nil ?_|refine ds_ops mix (fun base => ?_)|refine ds_exit ?_)
      refine ⟨m - 1, oM, _, _, _, [], ?wk4, i + 1, oM, ?hno2, rfl, rfl, rfl⟩
      case hno2 =>
       intro k f' hk hf'
       by_cases hki : k = i
       ·subst hki; rw [hf] at hf'; rw [<- Option.some.inj hf', ftOk, hv1, all_good hok2]; rfl
       ·exact hok k f' oM hf'
      case wk4 => exact wkA
   ·have hi2 : i = p.fs.length := by have := of_decide_eq_false hi2; omega
    subst hi2
    repeat (first|refine dw_p rfl ?_|refine dw_nil ?_|refine ds_seq ?_|refine ds_ops mix (fun base => ?_)|refine ds_exit ?_)
    refine ds_ret ⟨_, rfl, rfl, ?_⟩
    rw [all_good hok]
def ptIn2 (w h : Int) (q : Pt2) : Bool := (decide (0 <= q.1) && decide (q.1 < w)) && (decide (0 <= q.2) && decide (q.2 < h))
theorem ptIn2_bad {w h : Int} {q : Pt2} (hb : q.1 < 0 \/ q.1 >= w \/ q.2 < 0 \/ q.2 >= h) : ptIn2 w h q = false := by
 rw [Bool.eq_false_iff]
 intro h2
 simp only [ptIn2, Bool.and_eq_true, decide_eq_true_eq] at h2
 omega
set_option maxHeartbeats 4000000 in
theorem d_rinside31 {l : List Pt2} {w h : Int} (hn : l.length < 1000000) : DK 31 [ptsD l, .int w, .int h] fun d => d = .bool (l.all (ptIn2 w h)) := by
 refine dfn_ok cp31 rfl GHro fun Z0 lo => ?_
 repeat (first|refine dw_p rfl ?_|refine dw_nil ?_|refine ds_seq ?_|refine ds_ops mix (fun base => ?_)|refine ds_block ?_)
 refine ds_loop (fun m E S nk => ∃ i : Nat, i + m = l.length /\ (∀ (j : Nat) q, j < i -> l[j]? = some q -> ptIn2 w h q = true) /\ E = [(0, ptsD l), (1, .int w), (2, .int h), (7, .int i)] /\ S = [] /\ nk = 0)
  ⟨l.length, _, _, _, [], ?wk, 0, oM, fun j q hj => oM, rfl, rfl, rfl⟩ ?_
 case wk => exact wkA
 rintro m E S nk ⟨i, hi, hok, rfl, rfl, rfl⟩
 repeat (first|refine dw_p rfl ?_|refine dw_nil ?_|refine ds_seq ?_|refine ds_ops mix (fun base => ?_))
 refine ds_if rfl (fun ht => ?_) (fun ht => ?_)
 ·have ht : i < l.length := by have := of_decide_eq_true ht; omega
  obtain ⟨q, hq⟩ : ∃ q, l[i]? = some q := ⟨_, List.getElem?_eq_getElem ht⟩
  have e1 := ptF_at hq
  by_cases h1 : q.1 < 0
  ·have b1 : decide (q.1 < 0) = true := decide_eq_true h1
   repeat (first|refine dw_skip rfl rfl ?_|refine dw_pickT rfl rfl ?_|refine dw_pB rfl aM ?_|refine dw_p rfl ?_|refine dw_l rfl ?_|refine dw_if rfl rfl oM (by decide) aM ?_|refine dw_nil ?_|refine ds_seq ?_|refine ds_ops mix (fun base => ?_)|refine ds_skip ?_|refine ds_block ?_)
   refine ds_if rfl (fun _ => ?_) (fun ht => by cases ht)
   repeat (first|refine dw_p rfl ?_|refine dw_nil ?_|refine ds_seq ?_|refine ds_ops mix (fun base => ?_))
   refine ds_ret ⟨_, rfl, rfl, ?_⟩
   rw [all_bad hq (ptIn2_bad (by omega))]
  ·have b1 : decide (q.1 < 0) = false := decide_eq_false h1
   by_cases h2 : q.1 >= w
   ·have b2 : decide (q.1 >= w) = true := decide_eq_true h2
    repeat (first|refine dw_want rfl rfl ?_|refine dw_skip rfl rfl ?_|refine dw_pickT rfl rfl ?_|refine dw_pickF rfl rfl ?_|refine dw_pB rfl aM ?_|refine dw_p rfl ?_|refine dw_l rfl ?_|refine dw_if rfl rfl oM (by decide) aM ?_|refine dw_nil ?_|refine ds_seq ?_|refine ds_ops mix (fun base => ?_)|refine ds_skip ?_|refine ds_block ?_)
    refine ds_if rfl (fun _ => ?_) (fun ht => by cases ht)
    repeat (first|refine dw_p rfl ?_|refine dw_nil ?_|refine ds_seq ?_|refine ds_ops mix (fun base => ?_))
    refine ds_ret ⟨_, rfl, rfl, ?_⟩
    rw [all_bad hq (ptIn2_bad (by omega))]
   ·have b2 : decide (q.1 >= w) = false := decide_eq_false h2
    by_cases h3 : q.2 < 0
    ·have b3 : decide (q.2 < 0) = true := decide_eq_true h3
     repeat (first|refine dw_want rfl rfl ?_|refine dw_skip rfl rfl ?_|refine dw_pickT rfl rfl ?_|refine dw_pickF rfl rfl ?_|refine dw_pB rfl aM ?_|refine dw_p rfl ?_|refine dw_l rfl ?_|refine dw_if rfl rfl oM (by decide) aM ?_|refine dw_nil ?_|refine ds_seq ?_|refine ds_ops mix (fun base => ?_)|refine ds_skip ?_|refine ds_block ?_)
     refine ds_if rfl (fun _ => ?_) (fun ht => by cases ht)
     repeat (first|refine dw_p rfl ?_|refine dw_nil ?_|refine ds_seq ?_|refine ds_ops mix (fun base => ?_))
     refine ds_ret ⟨_, rfl, rfl, ?_⟩
     rw [all_bad hq (ptIn2_bad (by omega))]
    ·have b3 : decide (q.2 < 0) = false := decide_eq_false h3
     by_cases h4 : q.2 >= h
     ·have b4 : decide (q.2 >= h) = true := decide_eq_true h4
      repeat (first|refine dw_want rfl rfl ?_|refine dw_pickF rfl rfl ?_|refine dw_pB rfl aM ?_|refine dw_p rfl ?_|refine dw_l rfl ?_|refine dw_if rfl rfl oM (by decide) aM ?_|refine dw_nil ?_|refine ds_seq ?_|refine ds_ops mix (fun base => ?_)|refine ds_skip ?_|refine ds_block ?_)
      refine ds_if rfl (fun _ => ?_) (fun ht => by cases ht)
      repeat (first|refine dw_p rfl ?_|refine dw_nil ?_|refine ds_seq ?_|refine ds_ops mix (fun base => ?_))
      refine ds_ret ⟨_, rfl, rfl, ?_⟩
      rw [all_bad hq (ptIn2_bad (by omega))]
     ·have b4 : decide (q.2 >= h) = false := decide_eq_false h4
      repeat (first|refine dw_want rfl rfl ?_|refine dw_pickF rfl rfl ?_|refine dw_pB rfl aM ?_|refine dw_p rfl ?_|refine dw_l rfl ?_|refine dw_if rfl rfl oM (by decide) aM ?_|refine dw_nil ?_|refine ds_seq ?_|refine ds_ops mix (fun base => ?_)|refine ds_skip ?_|refine ds_block ?_)
      refine ds_if rfl (fun ht => by cases ht) (fun _ => ?_)
      repeat (first|refine dw_p rfl ?_|refine dw_nil ?_|refine ds_ops mix (fun base => ?_)|refine ds_skip ?_)
      refine ⟨m - 1, oM, _, _, _, [], ?wk1, i + 1, oM, ?hno, rfl, rfl, rfl⟩
      case hno =>
       intro k q' hk hq'
       by_cases hki : k = i
       ·subst hki
        rw [hq] at hq'
        rw [<- Option.some.inj hq']
        simp only [ptIn2, Bool.and_eq_true, decide_eq_true_eq]
        omega
       ·exact hok k q' oM hq'
      case wk1 => exact wkA
 ·have ht : i = l.length := by have := of_decide_eq_false ht; omega
  subst ht
  repeat (first|refine dw_p rfl ?_|refine dw_nil ?_|refine ds_seq ?_|refine ds_ops mix (fun base => ?_)|refine ds_exit ?_)
  refine ds_ret ⟨_, rfl, rfl, ?_⟩
  rw [all_good hok]
theorem pointsF_box {f : Ft} {lo hi : Pt2} (h : ∀ q ∈ f.pts, InBox lo hi q) : ∀ p ∈ pointsF f, InBox lo hi p := by
 have hline : ∀ {a b p : Pt2}, InBox lo hi a -> InBox lo hi b -> p ∈ lineP a b -> InBox lo hi p := by
  intro a b p ha hb hp
  obtain ⟨k, hk⟩ := List.getElem?_of_mem hp
  have h1 := (List.getElem?_eq_some_iff.1 hk).1
  rw [lineP_len] at h1
  have hf := far_abs a b
  have h2 : (k : Int) <= far a b := by omega
  rw [lineP_at a b h2] at hk
  obtain rfl := Option.some.inj hk
  have h3 := lineAt_in a b h2
  unfold InBox at *
  omega
 have hlines : ∀ {n : Nat} {p : Pt2}, n <= f.pts.length -> p ∈ linesN f.pts n -> InBox lo hi p := by
  intro n p hn hp
  simp only [linesN, List.mem_flatMap, List.mem_range] at hp
  obtain ⟨i, hi, hp⟩ := hp
  exact hline (h _ (at0_mem oM)) (h _ (at0_mem (nxt_lt oM))) hp
 intro p hp
 unfold pointsF at hp
 split at hp
 ·exact h p hp
 ·split at hp
  ·rw [sortedP_mem] at hp
   exact hlines (n := f.pts.length - 1) oM hp
  ·rw [sortedP_mem, List.mem_append] at hp
   rcases hp with hp|hp
   ·exact hlines (Nat.le_refl _) hp
   ·have := (List.mem_filter.1 hp).2
    rw [Bool.and_eq_true] at this
    exact inP_box h this.2
theorem lineP_last (a b : Pt2) : b ∈ lineP a b := by
 have hf := far_abs a b
 have h := lineP_at a b (k := (far a b).toNat) oM
 rw [lineAt_full] at h
 exact List.mem_of_getElem? h
theorem corner_mem {f : Ft} (hv : validF f = true) {q : Pt2} (hq : q ∈ f.pts) : q ∈ pointsF f := by
 obtain ⟨⟨hn1, hn2⟩, hin, hk⟩ := valid_pts hv
 obtain ⟨i, hi⟩ := List.getElem?_of_mem hq
 have hlt := (List.getElem?_eq_some_iff.1 hi).1
 have hsome : ∀ j, j < f.pts.length -> f.pts[j]? = some (at0 f.pts j) := fun j hj => by rw [at0, List.getElem?_eq_getElem hj]; rfl
 unfold pointsF
 split
 ·exact hq
 ·split
  ·rename_i h1 h2
   have hl2 : 2 <= f.pts.length := by
    rw [kindOk, if_neg h1, if_pos h2] at hk
    simp at hk
    exact hk.1
   rw [sortedP_mem, alongL_mem]
   by_cases hl : i < f.pts.length - 1
   ·exact ⟨i, _, _, hl, hi, hsome _ oM, lineP_fst _ _⟩
   ·obtain rfl : i = (f.pts.length - 2) + 1 := by omega
    exact ⟨f.pts.length - 2, _, _, oM, hsome _ oM, hi, lineP_last _ _⟩
  ·rw [sortedP_mem, List.mem_append]
   exact .inl (aroundL_mem.2 ⟨i, _, _, hi, hsome _ (nxt_lt hlt), lineP_fst _ _⟩)
theorem inside_eq {f : Ft} (hv : validF f = true) (w h : Int) : (pointsF f).all (ptIn2 w h) = f.pts.all (ptIn w h) := by
 obtain ⟨_, hin, _⟩ := valid_pts hv
 rw [Bool.eq_iff_iff, List.all_eq_true, List.all_eq_true]
 constructor
 ·intro h1 q hq
  have := h1 q (corner_mem hv hq)
  simp only [ptIn2, ptIn, Bool.and_eq_true, decide_eq_true_eq] at *
  omega
 ·intro h1 q hq
  have := pointsF_box (lo := (0, 0)) (hi := (w - 1, h - 1)) (fun q hq => by
   have g1 := h1 q hq
   have g2 := hin q hq
   rw [in60_iff] at g2
   simp only [ptIn, Bool.and_eq_true, decide_eq_true_eq] at g1
   unfold InBox
   simp only
   omega) q hq
  unfold InBox at this
  simp only [ptIn2, Bool.and_eq_true, decide_eq_true_eq] at *
  omega
theorem pointsF_in60 {f : Ft} (hv : validF f = true) : ∀ p ∈ pointsF f, in60 p = true := by
 intro p hp
 obtain ⟨_, hin, _⟩ := valid_pts hv
 have := pointsF_box (lo := (0, 0)) (hi := (59, 59)) (fun q hq => by
  have g2 := hin q hq
  rw [in60_iff] at g2
  unfold InBox
  simp only
  omega) p hp
 unfold InBox at this
 rw [in60_iff]
 simp only at this
 omega
theorem pointsF_nodup {f : Ft} (hv : validF f = true) : (pointsF f).Nodup := by
 obtain ⟨⟨hn1, hn2⟩, hin, hk⟩ := valid_pts hv
 unfold pointsF
 split
 ·rename_i h1
  have hl : f.pts.length = 1 := by
   rw [kindOk, if_pos h1] at hk
   simp at hk
   exact hk.1
  obtain ⟨x, hx⟩ := List.length_eq_one_iff.1 hl
  rw [hx]
  simp
 ·split
  ·exact (sortedP_rows _).nodup
  ·exact (sortedP_rows _).nodup
theorem pointsF_len {f : Ft} (hv : validF f = true) : (pointsF f).length <= 3600 := by
 have := sub_len (pointsF_nodup hv) fun x hx => gridL_mem.2 (pointsF_in60 hv x hx)
 rw [<- gridN_all, gridN_len] at this
 omega
set_option maxHeartbeats 4000000 in
theorem d_rapvalid {p : Pic} (hF : Fine p) : DK 12 [picD p] fun d => d = .bool (validPic p) := by
 refine dfn_ok cp12 rfl GHro fun Z0 lo => ?_
 repeat (first|refine dw_pick rfl dgA dgA ?_|refine dw_p rfl ?_|refine dw_l rfl ?_|refine dw_pg rfl dgA ?_|refine dw_lg rfl dgA ?_|refine dw_a rfl ?_|refine dw_nil ?_|refine ds_seq ?_|refine ds_ops mix (fun base => ?_))
 refine ds_if rfl (fun ht => ?_) (fun ht => ?_)
 ·rw [itOr, itOr, itOr, itOr, itOr, itOr, itOr, itOr, itOr] at ht
  simp only [bne0, Bool.or_eq_true, decide_eq_true_eq, Bool.not_eq_true', decide_eq_false_iff_not] at ht
  repeat (first|refine dw_p rfl ?_|refine dw_nil ?_|refine ds_seq ?_|refine ds_ops mix (fun base => ?_))
  refine ds_ret ⟨_, rfl, rfl, ?_⟩
  have hb : (headOk p && gapOk p) = false := by
   rw [Bool.eq_false_iff]
   intro h2
   simp only [headOk, gapOk, Bool.and_eq_true, decide_eq_true_eq] at h2
   omega
  rw [validPic, hb]
  rfl
 ·rw [itOr, itOr, itOr, itOr, itOr, itOr, itOr, itOr, itOr] at ht
  simp only [bne0, Bool.or_eq_false_iff, decide_eq_false_iff_not, Bool.not_eq_false', decide_eq_true_eq] at ht
  have hh : headOk p = true := by simp only [headOk, Bool.and_eq_true, decide_eq_true_eq]; omega
  have hg : gapOk p = true := by simp only [gapOk, Bool.and_eq_true, decide_eq_true_eq]; omega
  have hv : validPic p = p.fs.all (ftOk p) := by rw [validPic, hh, hg]; rfl
  rw [hv]
  repeat (first|refine dw_p rfl ?_|refine dw_nil ?_|refine ds_seq ?_|refine ds_ops mix (fun base => ?_)|refine ds_skip ?_|refine ds_block ?_)
  refine ds_loop (fun m E S nk => ∃ i : Nat, i + m = p.fs.length /\ (∀ (j : Nat) f, j < i -> p.fs[j]? = some f -> ftOk p f = true) /\ E = [(1, .one (.ptr 0 0)), (3, .int i)] /\ S = [(0, .cells (picC p))] /\ nk = 1)
    ⟨p.fs.length, _, _, _, [], ?wk, 0, oM, fun j q hj => oM, rfl, rfl, rfl⟩ ?_
  case wk => exact wkA
  rintro m E S nk ⟨i, hi, hok, rfl, rfl, rfl⟩
  repeat (first|refine dw_p rfl ?_|refine dw_l rfl ?_|refine dw_nil ?_|refine ds_seq ?_|refine ds_ops mix (fun base => ?_))
  refine ds_if rfl (fun hi2 => ?_) (fun hi2 => ?_)
  ·have hi2 : i < p.fs.length := by have := of_decide_eq_true hi2; omega
   obtain ⟨f, hf⟩ : ∃ f, p.fs[i]? = some f := ⟨_, List.getElem?_eq_getElem hi2⟩
   have e1 := ftF_at hf
   have hfl := hF.2 f (List.mem_of_getElem? hf)
   repeat (first|refine dw_p rfl ?_|refine dw_l rfl ?_|refine dw_if rfl rfl oM (by decide) aM ?_|refine ds_seq ?_|refine ds_ops mix (fun base => ?_)|refine ds_skip ?_|refine ds_block ?_)
   refine dw_cf rfl rfl (d_rvalid hfl) ?_
   rintro _ rfl
   cases hv1 : validF f with
   | false =>
    repeat (first|refine dw_skip rfl rfl ?_|refine dw_pickT rfl rfl ?_|refine dw_p rfl ?_|refine dw_nil ?_|refine ds_seq ?_|refine ds_ops mix (fun base => ?_))
    refine ds_if rfl (fun _ => ?_) (fun ht => by cases ht)
    repeat (first|refine dw_p rfl ?_|refine dw_nil ?_|refine ds_seq ?_|refine ds_ops mix (fun base => ?_))
    refine ds_ret ⟨_, rfl, rfl, ?_⟩
    rw [all_bad hf (by rw [ftOk, hv1]; rfl)]
   | true =>
    repeat (first|refine dw_want rfl rfl ?_|refine dw_p rfl ?_|refine dw_l rfl ?_|refine dw_lk rfl ?_|refine dw_if rfl rfl oM (by decide) aM ?_|refine dw_nil ?_|refine ds_seq ?_|refine ds_ops mix (fun base => ?_))
    refine dw_cf rfl rfl (d_rpoints hv1) ?_
    rintro _ rfl
    repeat (first|refine dw_want rfl rfl ?_)
    refine dw_cf rfl rfl (d_rinside31 (by have := pointsF_len hv1; omega)) ?_
    rintro _ rfl
    rw [inside_eq hv1]
    repeat (first|refine dw_want rfl rfl ?_|refine dw_pickF rfl rfl ?_|refine dw_p rfl ?_|refine dw_nil ?_)
    refine ds_if rfl (fun hb => ?_) (fun hb => ?_)
    ·have hb : f.pts.all (ptIn p.w p.h) = false := by simpa using hb
     repeat (first|refine dw_p rfl ?_|refine dw_nil ?_|refine ds_seq ?_|refine ds_ops mix (fun base => ?_))
     refine ds_ret ⟨_, rfl, rfl, ?_⟩
     rw [all_bad hf (by rw [ftOk, hb, Bool.and_false])]
    ·have hb : f.pts.all (ptIn p.w p.h) = true := by simpa using hb
     repeat (first|refine dw_p rfl ?_|refine dw_nil ?_|refine ds_ops mix (fun base => ?_)|refine ds_skip ?_)
     refine ⟨m - 1, oM, _, _, _, [], ?wk4, i + 1, oM, ?hno2, rfl, rfl, rfl⟩
     case hno2 =>
      intro k f' hk hf'
      by_cases hki : k = i
      ·subst hki; rw [hf] at hf'; rw [<- Option.some.inj hf', ftOk, hv1, hb]; rfl
      ·exact hok k f' oM hf'
     case wk4 => exact wkA
  ·have hi2 : i = p.fs.length := by have := of_decide_eq_false hi2; omega
   subst hi2
   repeat (first|refine dw_p rfl ?_|refine dw_nil ?_|refine ds_seq ?_|refine ds_ops mix (fun base => ?_)|refine ds_exit ?_)
   refine ds_ret ⟨_, rfl, rfl, ?_⟩
   rw [all_good hok]
def ptsOf (p : Pic) : List (List Pt2) := p.fs.map pointsF
def Half (p : Pic) (i : Nat) (L : List FD) : Prop := L.length = p.fs.length /\ ∀ (j : Nat) f, j < i -> p.fs[j]? = some f -> L[j]? = some (ptsF (pointsF f))
theorem Half.all {p : Pic} {L : List FD} (h : Half p p.fs.length L) : L = (ptsOf p).map ptsF := by
 refine List.ext_getElem? fun j => ?_
 by_cases hj : j < p.fs.length
 ·rw [h.2 j _ hj (List.getElem?_eq_getElem hj)]
  simp [ptsOf, List.getElem?_eq_getElem hj]
 ·rw [List.getElem?_eq_none (by rw [h.1]; omega), List.getElem?_eq_none (by simp [ptsOf]; omega)]
theorem Half.step {p : Pic} {L : List FD} {i : Nat} {f : Ft} (h : Half p i L) (hf : p.fs[i]? = some f) : Half p (i + 1) (L.set i (ptsF (pointsF f))) := by
 have hi := (List.getElem?_eq_some_iff.1 hf).1
 refine ⟨by rw [List.length_set]; exact h.1, fun j g hj hg => ?_⟩
 rw [List.getElem?_set]
 by_cases hij : i = j
 ·subst hij
  rw [hf] at hg
  obtain rfl := Option.some.inj hg
  rw [if_pos rfl, if_pos (by rw [h.1]; exact hi)]
 ·rw [if_neg hij]
  exact h.2 j g oM hg
theorem d_appoints {p : Pic} (hv : ∀ f ∈ p.fs, validF f = true) (hn : p.fs.length < 1000) : DK 33 [picD p] fun d => d = ptssD (ptsOf p) := by
 refine dfn_ok cp33 rfl GHro fun Z0 lo => ?_
 repeat (first|refine dw_p rfl ?_|refine dw_l rfl ?_|refine dw_a rfl ?_|refine dw_nil ?_|refine ds_seq ?_|refine ds_ops mix (fun base => ?_))
 refine dw_mk [.c .nils] rfl rfl ⟨rfl, rfl, trivial⟩ rfl (by decide) (Nat.le_refl _) oM oM ?_
 repeat (first|refine dw_p rfl ?_|refine dw_l rfl ?_|refine dw_nil ?_|refine ds_seq ?_|refine ds_ops mix (fun base => ?_)|refine ds_block ?_)
 refine ds_loop (fun m E S nk => ∃ (i : Nat) (L : List FD), i + m = p.fs.length /\ Half p i L /\ E = [(1, .one (.ptr 0 0)), (3, .one (.own 1 0 p.fs.length 1)), (11, .int p.fs.length), (12, .int i)] /\ S = [(0, .cells (picC p)), (1, .data L)] /\ nk = 2)
  ⟨p.fs.length, _, _, _, [], ?wk, 0, reps' [.c .nils] p.fs.length, oM, ⟨?hl, fun j f hj => oM⟩, rfl, rfl, rfl⟩ ?_
 case wk => exact wkA
 case hl => rw [reps'_len]; simp
 rintro m E S nk ⟨i, L, hi, hL, rfl, rfl, rfl⟩
 repeat (first|refine dw_p rfl ?_|refine dw_nil ?_|refine ds_seq ?_|refine ds_ops mix (fun base => ?_))
 refine ds_if rfl (fun hi2 => ?_) (fun hi2 => ?_)
 ·have hi2 : i < p.fs.length := by have := of_decide_eq_true hi2; omega
  obtain ⟨f, hf⟩ : ∃ f, p.fs[i]? = some f := ⟨_, List.getElem?_eq_getElem hi2⟩
  have e1 := ftF_at hf
  have hLl := hL.1
  repeat (first|refine dw_p rfl ?_|refine dw_l rfl ?_|refine dw_if rfl rfl oM (by decide) aM ?_|refine dw_nil ?_|refine ds_seq ?_|refine ds_ops mix (fun base => ?_)|refine ds_skip ?_|refine ds_block ?_)
  refine dw_cf rfl rfl (d_points (hv f (List.mem_of_getElem? hf))) ?_
  rintro _ rfl
  repeat (first|refine dw_io1 rfl rfl oM oM ?_)
  have hle : i + 1 <= (Bk.data L).len := by simp only [Bk.len]; omega
  refine dw_st rfl rfl rfl rfl rfl hle rfl ?_
  refine dw_nil ?_
  repeat (first|refine dw_p rfl ?_|refine dw_nil ?_|refine ds_ops mix (fun base => ?_))
  refine ⟨m - 1, oM, _, _, _, [], ?wk1, i + 1, L.set i (ptsF (pointsF f)), oM, hL.step hf, rfl, rfl, rfl⟩
  case wk1 => exact wkA
 ·have hi2 : i = p.fs.length := by have := of_decide_eq_false hi2; omega
  subst hi2
  have hLl : L.length = p.fs.length * 1 := by rw [hL.1]; omega
  repeat (first|refine dw_p rfl ?_|refine dw_nil ?_|refine ds_seq ?_|refine ds_ops mix (fun base => ?_)|refine ds_exit ?_)
  refine ds_keep (SubA.cons (k := 2) rfl (SubA.nil _)) (SubA.cons (k := 1) rfl (SubA.nil _)) ?_
  refine ds_frz 1 rfl okZ okZ ?_
  refine ds_ret ⟨_, rfl, rfl, ?_⟩
  rw [hL.all, show p.fs.length = (ptsOf p).length by simp [ptsOf]]
  rfl
def intsF (r : List Int) : FD := .sl 1 r.length (r.map iF)
def rowsD (R : List (List Int)) : DV := .one (.f (.sl 1 R.length (R.map intsF)))
theorem intsF_at {cs : List (List Int)} {i : Nat} {c : List Int} (h : cs[i]? = some c) : subL (cs.map intsF) (i * 1) 1 = some [intsF c] := by
 have hi : i < cs.length := (List.getElem?_eq_some_iff.1 h).1
 rw [subL_of (by simp; omega)]
 rw [Nat.mul_one, List.drop_eq_getElem_cons (by simpa using hi)]
 have : cs[i] = c := (List.getElem?_eq_some_iff.1 h).2
 simp [this]
theorem natcast_bne (a b : Nat) : ((a : Int) != (b : Int)) = !decide (a = b) := by
 by_cases h : a = b
 ·simp [h]
 ·have : ¬ (a : Int) = b := by omega
  rw [decide_eq_false h]
  simpa using this
theorem rows_len_ne {A B : List (List Int)} (h : ¬ A.length = B.length) : decide (A = B) = false := decide_eq_false fun e => h (by rw [e])
set_option maxHeartbeats 4000000 in
theorem d_samerows {A B : List (List Int)} (hn : A.length < 1000000) (hr : ∀ r ∈ A, r.length < 1000000) : DK 15 [rowsD A, rowsD B] fun d => d = .bool (decide (A = B)) := by
 refine dfn_ok cp15 rfl GHro fun Z0 lo => ?_
 repeat (first|refine dw_p rfl ?_|refine dw_nil ?_|refine ds_seq ?_|refine ds_ops mix (fun base => ?_))
 refine ds_if rfl (fun hb => ?_) (fun hb => ?_)
 ·rw [natcast_bne] at hb
  have hb : ¬ A.length = B.length := by simpa using hb
  repeat (first|refine dw_p rfl ?_|refine dw_nil ?_|refine ds_seq ?_|refine ds_ops mix (fun base => ?_))
  refine ds_ret ⟨_, rfl, rfl, ?_⟩
  rw [rows_len_ne hb]
 ·rw [natcast_bne] at hb
  have hlen : A.length = B.length := by simpa using hb
  repeat (first|refine dw_p rfl ?_|refine dw_nil ?_|refine ds_seq ?_|refine ds_ops mix (fun base => ?_)|refine ds_skip ?_|refine ds_block ?_)
  refine ds_loop (fun m E S nk => ∃ i : Nat, i + m = A.length /\ (∀ j, j < i -> A[j]? = B[j]?) /\ E = [(0, rowsD A), (1, rowsD B), (5, .int i)] /\ S = [] /\ nk = 0)
   ⟨A.length, _, _, _, [], ?wk, 0, oM, fun j hj => oM, rfl, rfl, rfl⟩ ?_
  case wk => exact wkA
  rintro m E S nk ⟨i, hi, hok, rfl, rfl, rfl⟩
  repeat (first|refine dw_p rfl ?_|refine dw_nil ?_|refine ds_seq ?_|refine ds_ops mix (fun base => ?_))
  refine ds_if rfl (fun hi2 => ?_) (fun hi2 => ?_)
  ·have hi2 : i < A.length := by have := of_decide_eq_true hi2; omega
   obtain ⟨a, ha⟩ : ∃ r, A[i]? = some r := ⟨_, List.getElem?_eq_getElem hi2⟩
   obtain ⟨b, hb⟩ : ∃ r, B[i]? = some r := ⟨_, List.getElem?_eq_getElem oM⟩
   have e1 := intsF_at ha
   have e2 := intsF_at hb
   have hal := hr a (List.mem_of_getElem? ha)
   have hne : ¬ a = b -> decide (A = B) = false := fun h => decide_eq_false fun e => h (by rw [e, hb] at ha; exact (Option.some.inj ha).symm)
   repeat (first|refine dw_p rfl ?_|refine dw_l rfl ?_|refine dw_if rfl rfl oM (by decide) aM ?_|refine dw_nil ?_|refine ds_seq ?_|refine ds_ops mix (fun base => ?_)|refine ds_skip ?_|refine ds_block ?_)
   refine ds_if rfl (fun hc => ?_) (fun hc => ?_)
   ·rw [natcast_bne] at hc
    have hc : ¬ a.length = b.length := by simpa using hc
    repeat (first|refine dw_p rfl ?_|refine dw_nil ?_|refine ds_seq ?_|refine ds_ops mix (fun base => ?_))
    refine ds_ret ⟨_, rfl, rfl, ?_⟩
    rw [hne fun e => hc (by rw [e])]
   ·rw [natcast_bne] at hc
    have hlen2 : a.length = b.length := by simpa using hc
    repeat (first|refine dw_p rfl ?_|refine dw_nil ?_|refine ds_seq ?_|refine ds_ops mix (fun base => ?_)|refine ds_skip ?_|refine ds_block ?_)
    refine ds_loop (fun m E S nk => ∃ k : Nat, k + m = a.length /\ (∀ j, j < k -> a[j]? = b[j]?) /\ E = [(0, rowsD A), (1, rowsD B), (5, .int i), (6, .int k)] /\ S = [] /\ nk = 0)
     ⟨a.length, _, _, _, [], ?wk2, 0, oM, fun j hj => oM, rfl, rfl, rfl⟩ ?_
    case wk2 => exact wkA
    rintro m2 E S nk ⟨k, hk, hok2, rfl, rfl, rfl⟩
    repeat (first|refine dw_p rfl ?_|refine dw_l rfl ?_|refine dw_if rfl rfl oM (by decide) aM ?_|refine dw_nil ?_|refine ds_seq ?_|refine ds_ops mix (fun base => ?_))
    refine ds_if rfl (fun hk2 => ?_) (fun hk2 => ?_)
    ·have hk2 : k < a.length := by have := of_decide_eq_true hk2; omega
     obtain ⟨x, hx⟩ : ∃ r, a[k]? = some r := ⟨_, List.getElem?_eq_getElem hk2⟩
     obtain ⟨y, hy⟩ : ∃ r, b[k]? = some r := ⟨_, List.getElem?_eq_getElem oM⟩
     have e3 := iF_at hx
     have e4 := iF_at hy
     repeat (first|refine dw_p rfl ?_|refine dw_l rfl ?_|refine dw_if rfl rfl oM (by decide) aM ?_|refine dw_nil ?_|refine ds_seq ?_|refine ds_ops mix (fun base => ?_)|refine ds_skip ?_|refine ds_block ?_)
     refine ds_if rfl (fun hd => ?_) (fun hd => ?_)
     ·have hd : ¬ x = y := by simpa using hd
      repeat (first|refine dw_p rfl ?_|refine dw_nil ?_|refine ds_seq ?_|refine ds_ops mix (fun base => ?_))
      refine ds_ret ⟨_, rfl, rfl, ?_⟩
      rw [hne fun e => hd (by rw [e, hy] at hx; exact (Option.some.inj hx).symm)]
     ·have hd : x = y := by simpa using hd
      repeat (first|refine dw_p rfl ?_|refine dw_nil ?_|refine ds_ops mix (fun base => ?_)|refine ds_skip ?_)
      refine ⟨m2 - 1, oM, _, _, _, [], ?wk3, k + 1, oM, ?hno2, rfl, rfl, rfl⟩
      case hno2 =>
       intro j hj
       by_cases hjk : j = k
       ·rw [hjk, hx, hy, hd]
       ·exact hok2 j oM
      case wk3 => exact wkA
    ·have hk2 : k = a.length := by have := of_decide_eq_false hk2; omega
     subst hk2
     have hab : a = b := List.ext_getElem? fun j => by
      by_cases hj : j < a.length
      ·exact hok2 j hj
      ·rw [List.getElem?_eq_none (by omega), List.getElem?_eq_none (by omega)]
     repeat (first|refine dw_p rfl ?_|refine dw_nil ?_|refine ds_ops mix (fun base => ?_)|refine ds_exit ?_)
     refine ⟨m - 1, oM, _, _, _, [], ?wk4, i + 1, oM, ?hno, rfl, rfl, rfl⟩
     case hno =>
      intro j hj
      by_cases hji : j = i
      ·rw [hji, ha, hb, hab]
      ·exact hok j oM
     case wk4 => exact wkA
  ·have hi2 : i = A.length := by have := of_decide_eq_false hi2; omega
   subst hi2
   have hab : A = B := List.ext_getElem? fun j => by
    by_cases hj : j < A.length
    ·exact hok j hj
    ·rw [List.getElem?_eq_none (by omega), List.getElem?_eq_none (by omega)]
   repeat (first|refine dw_p rfl ?_|refine dw_nil ?_|refine ds_seq ?_|refine ds_ops mix (fun base => ?_)|refine ds_exit ?_)
   refine ds_ret ⟨_, rfl, rfl, ?_⟩
   rw [decide_eq_true hab]
def tbl (l : List (List Pt2)) : List (List Int) := l.map fun a => l.map fun b => dist a b
def distT (p : Pic) : List (List Int) := if validPic p = true then tbl (ptsOf p) else []
theorem validPic_fs {p : Pic} (h : validPic p = true) : (1 <= p.fs.length /\ p.fs.length <= 8) /\ (∀ f ∈ p.fs, ftOk p f = true) /\ headOk p = true /\ gapOk p = true := by
 simp only [validPic, Bool.and_eq_true, List.all_eq_true] at h
 obtain ⟨⟨h1, h2⟩, h3⟩ := h
 refine ⟨?_, h3, h1, h2⟩
 simp only [gapOk, Bool.and_eq_true, decide_eq_true_eq] at h2
 exact h2.2
theorem validPic_v {p : Pic} (h : validPic p = true) : ∀ f ∈ p.fs, validF f = true := fun f hf => by
 have := (validPic_fs h).2.1 f hf
 rw [ftOk, Bool.and_eq_true] at this
 exact this.1
theorem ptsOf_small {p : Pic} (h : validPic p = true) : ∀ l ∈ ptsOf p, (∀ q ∈ l, in60 q = true) /\ l.length <= 3600 := fun l hl => by
 obtain ⟨f, hf, rfl⟩ := List.mem_map.1 hl
 exact ⟨pointsF_in60 (validPic_v h f hf), pointsF_len (validPic_v h f hf)⟩
theorem smalls60 {l : List Pt2} (h : ∀ q ∈ l, in60 q = true) : Smalls l := fun q hq => by
 have := h q hq
 rw [in60_iff] at this
 unfold Small
 omega
open Classical in
noncomputable def cl1 (g : Int) (l : List Pt2) : Bool := decide (∃ cs, ClS g (sortedP l) cs /\ cs.length = 1)
open Classical in
theorem cl1_of {g : Int} {l : List Pt2} {cs : List (List Pt2)} (h : ClS g (sortedP l) cs) : cl1 g l = decide (cs.length = 1) := by
 unfold cl1
 by_cases h1 : cs.length = 1
 ·rw [decide_eq_true h1]
  exact decide_eq_true ⟨cs, h, h1⟩
 ·rw [decide_eq_false h1]
  exact decide_eq_false fun ⟨cs', h', h2⟩ => h1 (by rw [h.uniq h']; exact h2)
def Bad1 (g : Int) (l : List (List Pt2)) (i : Nat) : Prop := (∃ a, l[i]? = some a /\ cl1 g a = false) /\ ∀ (j : Nat) b, j < i -> l[j]? = some b -> cl1 g b = true
def Bad2 (g : Int) (l : List (List Pt2)) (i k : Nat) : Prop := (∃ a b, i < k /\ l[i]? = some a /\ l[k]? = some b /\ dist a b <= g) /\ ∀ (i' k' : Nat) a b, i' < k' -> (i' < i \/ (i' = i /\ k' < k)) -> l[i']? = some a -> l[k']? = some b -> ¬ dist a b <= g
def Good1 (g : Int) (l : List (List Pt2)) : Prop := ∀ a ∈ l, cl1 g a = true
def Good2 (g : Int) (l : List (List Pt2)) : Prop := ∀ (i k : Nat) a b, i < k -> l[i]? = some a -> l[k]? = some b -> ¬ dist a b <= g
abbrev Res := Int × Int × Int
inductive Chk (p : Pic) : Res -> Prop
 | arg (h : ¬ validPic p = true) : Chk p (0, 0, 1)
 | bad1 (i : Nat) (h : validPic p = true) (hb : Bad1 p.gap (ptsOf p) i) : Chk p ((i : Int), (i : Int), 130)
 | bad2 (i k : Nat) (h : validPic p = true) (hg : Good1 p.gap (ptsOf p)) (hb : Bad2 p.gap (ptsOf p) i k) : Chk p ((i : Int), (k : Int), 140)
 | ok (h : validPic p = true) (hg : Good1 p.gap (ptsOf p)) (hb : Good2 p.gap (ptsOf p)) : Chk p (0, 0, 0)
theorem Bad1.not {g : Int} {l : List (List Pt2)} {i : Nat} (h : Bad1 g l i) (hg : Good1 g l) : False := by
 obtain ⟨⟨a, ha, hb⟩, _⟩ := h
 rw [hg a (List.mem_of_getElem? ha)] at hb
 cases hb
theorem Bad2.not {g : Int} {l : List (List Pt2)} {i k : Nat} (h : Bad2 g l i k) (hg : Good2 g l) : False := by
 obtain ⟨⟨a, b, h1, h2, h3, h4⟩, _⟩ := h
 exact hg i k a b h1 h2 h3 h4
theorem Bad1.uniq {g : Int} {l : List (List Pt2)} {i j : Nat} (h : Bad1 g l i) (h' : Bad1 g l j) : i = j := by
 obtain ⟨⟨a, ha, hb⟩, h2⟩ := h
 obtain ⟨⟨a', ha', hb'⟩, h2'⟩ := h'
 rcases Nat.lt_trichotomy i j with hl|hl|hl
 ·have := h2' i a hl ha
  rw [hb] at this
  cases this
 ·exact hl
 ·have := h2 j a' hl ha'
  rw [hb'] at this
  cases this
theorem Bad2.uniq {g : Int} {l : List (List Pt2)} {i k i' k' : Nat} (h : Bad2 g l i k) (h' : Bad2 g l i' k') : i = i' /\ k = k' := by
 obtain ⟨⟨a, b, g1, g2, g3, g4⟩, h2⟩ := h
 obtain ⟨⟨a', b', g1', g2', g3', g4'⟩, h2'⟩ := h'
 have n1 : ¬ (i < i' \/ (i = i' /\ k < k')) := fun hl => h2' i k a b g1 hl g2 g3 g4
 have n2 : ¬ (i' < i \/ (i' = i /\ k' < k)) := fun hl => h2 i' k' a' b' g1' hl g2' g3' g4'
 omega
theorem Chk.uniq {p : Pic} {r r' : Res} (h : Chk p r) (h' : Chk p r') : r = r' := by
 cases h with
 | arg h => cases h' with
  | arg => rfl
  | bad1 i h' => exact absurd h' h
  | bad2 i k h' => exact absurd h' h
  | ok h' => exact absurd h' h
 | bad1 i h hb => cases h' with
  | arg h' => exact absurd h h'
  | bad1 j _ hb' => rw [hb.uniq hb']
  | bad2 j k _ hg => exact (hb.not hg).elim
  | ok _ hg => exact (hb.not hg).elim
 | bad2 i k h hg hb => cases h' with
  | arg h' => exact absurd h h'
  | bad1 j _ hb' => exact (hb'.not hg).elim
  | bad2 j m _ _ hb' => obtain ⟨rfl, rfl⟩ := hb.uniq hb'; rfl
  | ok _ _ hb' => exact (hb.not hb').elim
 | ok h hg hb => cases h' with
  | arg h' => exact absurd h h'
  | bad1 j _ hb' => exact (hb'.not hg).elim
  | bad2 j m _ _ hb' => exact (hb'.not hb).elim
  | ok => rfl
def resD (r : Res) : DV := .agg [.f (.c (.int .i64 r.1)), .f (.c (.int .i64 r.2.1)), .f (.c (.int .i64 r.2.2))]
def cS (p : Pic) (l : List (List Pt2)) (a b c : Int) (rec : Bk) : Bx := [(0, .cells (picC p)), (1, .cells [.f (.c (.int .i64 a))]), (2, .cells [.f (.c (.int .i64 b))]), (3, .cells [.f (.c (.int .i64 c))]), (4, .cells [.f (.sl 1 l.length (l.map ptsF))]), (5, .cells [.f (.c (.int .i64 l.length))]), (6, rec)]
def lpC (st : LoopState) (j : Option Code) (fid : FuncId) (sg bd : Code) : Bk := .mp (.lp st j fid f32.n [1, 2, 3, 4, 5] [34, 35] sg bd) [.ptr 0 0, .ptr 1 0, .ptr 2 0, .ptr 3 0, .ptr 4 0]
set_option maxHeartbeats 4000000 in
theorem yl_chk {Z0 : Nat -> Prop} {lo anc : Nat} {β0 : Beta} {H1 : Hp} {pc : Pic} {l : List (List Pt2)} {i k : Nat} {a b : List Pt2} (ha : l[i]? = some a) (hb : l[k]? = some b) (hsm : ∀ c ∈ l, (∀ q ∈ c, in60 q = true) /\ c.length <= 256)
  {fid : FuncId} {sg bd : Code} (hsg : cpCode Tryz.prog 0 f32.n sg = some (.seq (.ops f32r11 0) (.ops f32r12 0))) (hbd : cpCode Tryz.prog 0 f32.n bd = some f32b1)
  {base rs : Nat} {Q : DEnv -> Bx -> Nat -> Prop} {r : List SOper} {A : List Nat} {E : DEnv} {S : Bx} {nk : Nat} {id : Nat} {dst : Option Nat} {aid : Option Nat} {ws : List Nat} {keep : Bool} {x y z : Opd}
  (hnk : nk = 7) (hS : SubA (cS pc l 0 0 0 (lpC .ready none fid sg bd)) S)
  (hx : ro E x = some (.one (.yl 6))) (hvs : ros E [y, z] = some [.int i, .int k]) (hT : noT E = true)
  (h1 : dist a b <= pc.gap -> DPW (parK Z0 lo anc β0 H1) base 0 Q r [] A (setD E dst (.bool false)) (cS pc l i k 140 (lpC .done (some .ret) fid sg bd)) 7)
  (h2 : ¬ dist a b <= pc.gap -> DPW (parK Z0 lo anc β0 H1) base 0 Q r [] A (setD E dst (.bool true)) (cS pc l 0 0 0 (lpC .ready none fid sg bd)) 7) :
  DPW (parK Z0 lo anc β0 H1) base rs Q (⟨id, dst, .cv x [y, z], none, aid, ws, keep⟩ :: r) [] A E S nk := by
 subst hnk
 have h6 : lk S 6 = some (lpC .ready none fid sg bd) := hS 6 _ rfl
 refine dw_yl (R := fun d S' nk' => (dist a b <= pc.gap /\ d = .bool false /\ SubA (cS pc l i k 140 (lpC .done (some .ret) fid sg bd)) S' /\ nk' = 7) \/ (¬ dist a b <= pc.gap /\ d = .bool true /\ SubA (cS pc l 0 0 0 (lpC .ready none fid sg bd)) S' /\ nk' = 7)) hx hvs h6 rfl rfl hT hsg hbd (fun ρ Z β H => ?_) ?_
 ·have mixp : ((parK Z0 lo anc β0 H1).round ρ Z 7 β H).P.follows .mixedOrders = true := mix
  refine ds_keep (E0 := [(34, .int i), (35, .int k), (1, .one (.ptr 0 0)), (2, .one (.ptr 1 0)), (3, .one (.ptr 2 0)), (4, .one (.ptr 3 0)), (5, .one (.ptr 4 0))]) (S0 := cS pc l 0 0 0 (lpC .ready none fid sg bd)) (SubA.cons rfl (SubA.cons rfl (SubA.cons rfl (SubA.cons rfl (SubA.cons rfl (SubA.cons rfl (SubA.cons rfl (SubA.nil _)))))))) hS ?_
  have e1 := ptsF_at ha
  have e2 := ptsF_at hb
  have hi := (List.getElem?_eq_some_iff.1 ha).1
  have hk := (List.getElem?_eq_some_iff.1 hb).1
  have hsa := hsm a (List.mem_of_getElem? ha)
  have hsb := hsm b (List.mem_of_getElem? hb)
  repeat (first|refine dw_p rfl ?_|refine dw_nil ?_|refine ds_seq ?_|refine ds_ops mix (fun base => ?_))
  refine ⟨rfl, _, _, _, _, _, _, _, _, _, rfl, rfl, ?_⟩
  repeat (first|refine dw_p rfl ?_|refine dw_l rfl ?_|refine dw_lk rfl ?_|refine dw_if rfl rfl oM (by decide) aM ?_|refine ds_seq ?_|refine ds_ops mix (fun base => ?_)|refine ds_block ?_)
  refine dw_cf rfl rfl (d_distance (smalls60 hsa.1) (smalls60 hsb.1) oM oM) ?_
  rintro _ rfl
  repeat (first|refine dw_p rfl ?_|refine dw_nil ?_)
  refine ds_if rfl (fun hd => ?_) (fun hd => ?_)
  ·have hd := of_decide_eq_true hd
   repeat (first|refine dw_p rfl ?_|refine dw_st rfl rfl rfl rfl rfl (Nat.le_of_ble_eq_true rfl) rfl ?_|refine dw_nil ?_|refine ds_seq ?_|refine ds_ops mix (fun base => ?_))
   refine ds_ret ?_
   exact ⟨_, _, _, _, _, _, _, _, _, rfl, .inl ⟨hd, rfl, SubA.cons rfl (SubA.cons rfl (SubA.cons rfl (SubA.cons rfl (SubA.cons rfl (SubA.cons rfl (SubA.cons rfl (SubA.nil _))))))), rfl⟩⟩
  ·have hd := of_decide_eq_false hd
   repeat (first|refine ds_skip ?_)
   exact ⟨_, _, _, _, _, _, _, _, _, rfl, .inr ⟨hd, rfl, SubA.cons rfl (SubA.cons rfl (SubA.cons rfl (SubA.cons rfl (SubA.cons rfl (SubA.cons rfl (SubA.cons rfl (SubA.nil _))))))), rfl⟩⟩
 ·rintro _ S' _ (⟨hd, rfl, hs, rfl⟩|⟨hd, rfl, hs, rfl⟩)
  ·exact dw_keep (SubA.refl _) hs (h1 hd)
  ·exact dw_keep (SubA.refl _) hs (h2 hd)
set_option maxHeartbeats 4000000 in
theorem x_cpairs {pc : Pic} {l : List (List Pt2)} (hsm : ∀ c ∈ l, (∀ q ∈ c, in60 q = true) /\ c.length <= 256) (hn : l.length < 1000)
  {fid : FuncId} {sg bd : Code} (hsg : cpCode Tryz.prog 0 f32.n sg = some (.seq (.ops f32r11 0) (.ops f32r12 0))) (hbd : cpCode Tryz.prog 0 f32.n bd = some f32b1) :
  DKX 45 [.one (.yl 6), .one (.ptr 5 0)] (cS pc l 0 0 0 (lpC .ready none fid sg bd)) 7 fun _ S' nk' =>
   (Good2 pc.gap l /\ S' = cS pc l 0 0 0 (lpC .ready none fid sg bd) /\ nk' = 7) \/ (∃ i k : Nat, Bad2 pc.gap l i k /\ S' = cS pc l i k 140 (lpC .done (some .ret) fid sg bd) /\ nk' = 7) := by
 refine dxk_ok cp45 rfl fun Z β H lo => ?_
 repeat (first|refine dw_p rfl ?_|refine dw_l rfl ?_|refine dw_nil ?_|refine ds_seq ?_|refine ds_ops mix (fun base => ?_)|refine ds_block ?_)
 refine ds_loop (fun m E S nk => ∃ i : Nat, i + m = l.length /\ (∀ (i' k' : Nat) a b, i' < k' -> i' < i -> l[i']? = some a -> l[k']? = some b -> ¬ dist a b <= pc.gap) /\ E = [(0, .one (.yl 6)), (1, .one (.ptr 5 0)), (5, .int l.length), (6, .int i)] /\ S = cS pc l 0 0 0 (lpC .ready none fid sg bd) /\ nk = 7)
  ⟨l.length, _, _, _, [], ?wk, 0, oM, fun i' k' a b _ h => oM, rfl, rfl, rfl⟩ ?_
 case wk => exact wkA
 rintro m E S nk ⟨i, hi, hok, rfl, rfl, rfl⟩
 repeat (first|refine dw_p rfl ?_|refine dw_nil ?_|refine ds_seq ?_|refine ds_ops mix (fun base => ?_))
 refine ds_if rfl (fun ht => ?_) (fun ht => ?_)
 ·have ht : i < l.length := by have := of_decide_eq_true ht; omega
  obtain ⟨a, ha⟩ : ∃ r, l[i]? = some r := ⟨_, List.getElem?_eq_getElem ht⟩
  repeat (first|refine dw_p rfl ?_|refine dw_nil ?_|refine ds_seq ?_|refine ds_ops mix (fun base => ?_)|refine ds_skip ?_|refine ds_block ?_)
  refine ds_loop (fun m E S nk => ∃ k : Nat, k + m = l.length /\ i < k /\ (∀ (k' : Nat) b, i < k' -> k' < k -> l[k']? = some b -> ¬ dist a b <= pc.gap) /\ E = [(0, .one (.yl 6)), (1, .one (.ptr 5 0)), (3, .int i), (4, .int k), (5, .int l.length), (6, .int i)] /\ S = cS pc l 0 0 0 (lpC .ready none fid sg bd) /\ nk = 7)
   ⟨l.length - (i + 1), _, _, _, [], ?wk2, i + 1, oM, oM, fun k' b _ h => oM, rfl, rfl, rfl⟩ ?_
  case wk2 => exact wkA
  rintro m2 E S nk ⟨k, hk, hik, hok2, rfl, rfl, rfl⟩
  repeat (first|refine dw_p rfl ?_|refine dw_l rfl ?_|refine dw_nil ?_|refine ds_seq ?_|refine ds_ops mix (fun base => ?_))
  refine ds_if rfl (fun ht2 => ?_) (fun ht2 => ?_)
  ·have ht2 : k < l.length := by have := of_decide_eq_true ht2; omega
   obtain ⟨b, hb⟩ : ∃ r, l[k]? = some r := ⟨_, List.getElem?_eq_getElem ht2⟩
   repeat (first|refine dw_p rfl ?_|refine ds_seq ?_|refine ds_ops mix (fun base => ?_)|refine ds_skip ?_|refine ds_block ?_)
   refine yl_chk (i := i) (k := k) ha hb hsm hsg hbd rfl (SubA.refl _) rfl rfl rfl (fun hd => ?_) (fun hd => ?_)
   ·repeat (first|refine dw_p rfl ?_|refine dw_nil ?_)
    refine ds_if rfl (fun _ => ?_) (fun h => by cases h)
    refine ds_ret ⟨_, rfl, rfl, _, SubA.refl _, .inr ⟨i, k, ⟨⟨a, b, hik, ha, hb, hd⟩, fun i' k' a' b' h1 h2 h3 h4 => ?_⟩, rfl, rfl⟩⟩
    rcases h2 with h2|⟨rfl, h2⟩
    ·exact hok i' k' a' b' h1 h2 h3 h4
    ·rw [ha] at h3
     rw [<- Option.some.inj h3]
     exact hok2 k' b' h1 h2 h4
   ·repeat (first|refine dw_p rfl ?_|refine dw_nil ?_)
    refine ds_if rfl (fun h => by cases h) (fun _ => ?_)
    repeat (first|refine dw_p rfl ?_|refine dw_nil ?_|refine ds_ops mix (fun base => ?_)|refine ds_skip ?_)
    refine ⟨m2 - 1, oM, _, _, _, [], ?wk3, k + 1, oM, oM, ?hno, rfl, rfl, rfl⟩
    case hno =>
     intro k' b' h1 h2 h3
     by_cases hkk : k' = k
     ·subst hkk
      rw [hb] at h3
      rw [<- Option.some.inj h3]
      exact hd
     ·exact hok2 k' b' h1 oM h3
    case wk3 => exact wkA
  ·have ht2 : k = l.length := by have := of_decide_eq_false ht2; omega
   repeat (first|refine dw_p rfl ?_|refine dw_nil ?_|refine ds_ops mix (fun base => ?_)|refine ds_exit ?_)
   refine ⟨m - 1, oM, _, _, _, [], ?wk4, i + 1, oM, ?hno3, rfl, rfl, rfl⟩
   case hno3 =>
    intro i' k' a' b' h1 h2 h3 h4
    by_cases hii : i' = i
    ·subst hii
     rw [ha] at h3
     rw [<- Option.some.inj h3]
     exact hok2 k' b' h1 (by have := (List.getElem?_eq_some_iff.1 h4).1; omega) h4
    ·exact hok i' k' a' b' h1 oM h3 h4
   case wk4 => exact wkA
 ·have ht : i = l.length := by have := of_decide_eq_false ht; omega
  subst ht
  repeat (first|refine ds_exit ?_)
  exact ⟨_, rfl, rfl, _, SubA.refl _, .inl ⟨fun i k a b h1 h2 h3 => hok i k a b h1 (List.getElem?_eq_some_iff.1 h2).1 h2 h3, rfl, rfl⟩⟩
theorem do_pairs {n : Int} : DKO 34 [.int n] fun d S nk => d = .one (.fn 45 [(0, 0)]) /\ S = [(0, .cells [.f (.c (.int .i64 n))])] /\ nk = 1 := by
 refine dfnO_ok cp34 rfl GHro fun Z0 lo => ?_
 repeat (first|refine dw_p rfl ?_|refine dw_a rfl ?_|refine dw_nil ?_|refine ds_seq ?_|refine ds_ops mix (fun base => ?_))
 exact ds_ret ⟨_, rfl, rfl, _, SubA.refl _, rfl, rfl, rfl⟩
theorem ds_dummy {p : Par} {n : Nat} {Q : Exit -> DEnv -> Bx -> Nat -> Prop} {E : DEnv} {S : Bx} {nk : Nat} {s : SC} (h : DPS p n s Q E ((nk, .data []) :: S) (nk + 1)) : DPS p n s Q E S nk := .mk fun Z β H F hS hE =>
 h.run Z _ H F (virt_ok hS) (hE.mono (ZLe.refl Z H) (hS.ble .nil))
structure Grow (g : Int) (rest : List Pt2) (x : Pt2) (c : List Pt2) (R : RowsL) : Prop where
 inc : x ∈ c
 nd : c.Nodup
 conn : ∀ y ∈ c, Conn g rest x y
 holds : Holds R (minus rest c)
def Done (g : Int) (rest c : List Pt2) (i : Nat) : Prop := ∀ (k : Nat) (q : Pt2), k < i -> c[k]? = some q -> ∀ y ∈ rest, far q y <= g -> y ∈ c
theorem Grow.len {g : Int} {rest c : List Pt2} {x : Pt2} {R : RowsL} (h : Grow g rest x c R) : c.length <= rest.length := sub_len h.nd fun y hy => (h.conn y hy).mem
theorem Grow.take {g : Int} {rest c : List Pt2} {x q : Pt2} {R : RowsL} {dy : Int} (h : Grow g rest x c R) (hr : rest.Nodup) (hq : q ∈ c) (h1 : -g <= dy) (h2 : dy <= g) :
  Grow g rest x (c ++ tkn R (q.2 + dy) (q.1 - g) (q.1 + g)) (lft R (q.2 + dy) (q.1 - g) (q.1 + g)) /\ ((minus rest (c ++ tkn R (q.2 + dy) (q.1 - g) (q.1 + g))).length : Int) = (minus rest c).length - (tkn R (q.2 + dy) (q.1 - g) (q.1 + g)).length /\
   ∀ y ∈ rest, far q y <= g -> y.2 = q.2 + dy -> y ∈ c ++ tkn R (q.2 + dy) (q.1 - g) (q.1 + g) := by
 obtain ⟨t1, t2, t3, t4⟩ := h.holds.take (List.Pairwise.filter _ hr) (q.2 + dy) (q.1 - g) (q.1 + g)
 generalize tkn R (q.2 + dy) (q.1 - g) (q.1 + g) = T at *
 refine ⟨⟨List.mem_append_left _ h.inc, ?_, fun y hy => ?_, ?_⟩, ?_, fun y hy hf hd => ?_⟩
 ·rw [List.nodup_append]
  refine ⟨h.nd, t2, fun a ha b hb e => ?_⟩
  subst e
  exact (minus_mem.1 ((t3 a).1 hb).1).2 ha
 ·rcases List.mem_append.1 hy with hy|hy
  ·exact h.conn y hy
  ·obtain ⟨h3, h4, h5, h6⟩ := (t3 y).1 hy
   exact .step (h.conn q hq) (minus_mem.1 h3).1 ((far_le q y g).2 ⟨h5, h6, oM, oM⟩)
 ·rw [<- minus_app]; exact t1
 ·rw [<- minus_app]; omega
 ·by_cases hc : y ∈ c
  ·exact List.mem_append_left _ hc
  ·have := (far_le q y g).1 hf
   exact List.mem_append_right _ ((t3 y).2 ⟨minus_mem.2 ⟨hy, hc⟩, hd, this.1, this.2.1⟩)
set_option maxHeartbeats 16000000 in
theorem d_clusters {l : List Pt2} {gap : Int} (hs : ∀ p ∈ l, Small 1000000 p) (hn : l.length < 100000) : DK 43 [ptsD l, .int gap] fun d => ∃ cs, d = ptssD cs /\ ClS (min (max gap 0) 2000) (sortedP l) cs := by
 refine dfn_ok cp43 rfl GHro fun Z0 lo => ?_
 have hsl : (sortedP l).length < 100000 := by
  have := sub_len (sortedP_rows l).nodup (fun x hx => sortedP_mem.1 hx)
  omega
 have hss : ∀ p ∈ sortedP l, Small 1000000 p := fun x hx => hs x (sortedP_mem.1 hx)
 have hP := sortedP_rows l
 have fin : DPS (Par.base Tryz.prog 0 (H00 1) Z0 lo) f43.n (.seq (.ops f43r4 0) (.seq (.seq (.ops f43r5 0) (.block 0 (.loop f43b0))) (.seq (.ops f43r10 0) (.seq (.ops f43r11 0) (.seq (.ops f43r12 0) (.seq (.seq (.ops f43r13 0) (.block 2 (.loop f43b3))) (.seq (.ops f43r29 0) .ret))))))) (retD (Par.base Tryz.prog 0 (H00 1) Z0 lo) f43.res fun d => ∃ cs, d = ptssD cs /\ ClS (min (max gap 0) 2000) (sortedP l) cs)
   [(1, .int gap), (4, .one (.f (.c .nils))), (5, ptsD (sortedP l))] [] 0 := by
  generalize sortedP l = P at *
  refine ds_seq ?_
  refine ds_ops mix (fun base => ?_)
  refine dw_mkmap ?_
  repeat (first|refine dw_p rfl ?_|refine dw_a rfl ?_|refine dw_st rfl rfl rfl rfl rfl (Nat.le_of_ble_eq_true rfl) rfl ?_|refine dw_nil ?_|refine ds_seq ?_|refine ds_ops mix (fun base => ?_)|refine ds_block ?_)
  refine ds_wk [] (n0 := 3) (E0 := [(1, .int gap), (4, .one (.f (.c .nils))), (5, ptsD P), (6, .one (.ptr 1 0)), (7, .one (.ptr 2 0)), (27, ptsD P), (28, .int P.length), (29, .int 0)]) (S0 := S3 [] P.length) ⟨(by repeat (first|exact trivial|refine ⟨by first|rfl|exact cgI oM oM, rfl, ?_⟩)), wkS3 rfl rfl rfl oM, rfl, rfl⟩ ?_
  refine clu_rows hP oM fun R0 hR0 => ?_
  repeat (first|refine dw_max rfl rfl ?_|refine dw_min rfl rfl ?_|refine dw_p rfl ?_|refine dw_nil ?_|refine ds_seq ?_|refine ds_ops mix (fun base => ?_)|refine ds_block ?_)
  refine ds_virt 11 1 rfl ?_
  obtain ⟨g, hg⟩ : ∃ g, min (max gap 0) 2000 = g := ⟨_, rfl⟩
  have hg0 : 0 <= g := by omega
  have hg1 : g <= 2000 := by omega
  rw [hg]
  obtain ⟨N, hN⟩ : ∃ N, P.length = N := ⟨_, rfl⟩
  refine ds_loop (fun m E S nk => ∃ (j : Nat) (rest : List Pt2) (out : List (List Pt2)) (R : RowsL), j + m = N /\ ByRows rest /\ (∀ x ∈ rest, x ∈ P.drop j) /\ Holds R rest /\ out.length + rest.length <= N /\ (∀ cs, ClS g rest cs -> ClS g P (out ++ cs)) /\ E = [(1, .int g), (7, .one (.ptr 2 0)), (10, .one (.fn 57 [(1, 0), (2, 0)])), (11, .one (.own 3 0 out.length 1)), (49, ptsD P), (50, .int N), (51, .int j)] /\ S = S4 R rest.length (out.map ptsF) /\ nk = 4) ⟨N, _, _, _, [], ?wk, 0, P, [], R0, by omega, hP, fun x hx => by simpa using hx, hR0, by simp; omega, fun cs h => h, rfl, rfl, rfl⟩ ?_
  case wk => rw [<- hN]; exact ⟨(by repeat (first|exact trivial|refine ⟨by first|rfl|exact cgI (by omega) (by omega), rfl, ?_⟩)), wkS4 rfl rfl rfl rfl (by omega), rfl, rfl⟩
  rintro m E S nk ⟨j, rest, out, R, hjm, hro, hsub, hR, hout, hcl, rfl, rfl, rfl⟩
  have hrP : ∀ x ∈ rest, x ∈ P := fun x hx => List.mem_of_mem_drop (hsub x hx)
  have hol : (out.map ptsF).length = out.length * 1 := by simp
  repeat (first|refine dw_p rfl ?_|refine dw_nil ?_|refine ds_seq ?_|refine ds_ops mix (fun base => ?_))
  refine ds_if rfl (fun ht => ?_) (fun ht => ?_)
  ·simp at ht
   obtain ⟨x, hx⟩ : ∃ x, P[j]? = some x := ⟨_, List.getElem?_eq_getElem oM⟩
   have e1 := ptF_at hx
   refine ds_dummy ?_
   have hdr : P.drop j = x :: P.drop (j + 1) := by
    rw [List.drop_eq_getElem_cons (by omega), (List.getElem?_eq_some_iff.1 hx).2]
   obtain ⟨t1, t2, t3, t4⟩ := hR.take hro.nodup x.2 x.1 x.1
   have tx : ∀ y ∈ tkn R x.2 x.1 x.1, y = x := fun y hy => by
    obtain ⟨_, h1, h2, h3⟩ := (t3 y).1 hy
    exact Prod.ext oM h1
   repeat (first|refine dw_p rfl ?_|refine dw_l rfl ?_|refine dw_if rfl rfl oM (by decide) aM ?_|refine dw_a rfl ?_|refine dw_st rfl rfl rfl rfl rfl (Nat.le_of_ble_eq_true rfl) rfl ?_|refine dw_nil ?_|refine ds_seq ?_|refine ds_ops mix (fun base => ?_)|refine ds_skip ?_|refine ds_block ?_)
   refine dw_keep (E0 := [(1, .int g), (7, .one (.ptr 2 0)), (10, .one (.fn 57 [(1, 0), (2, 0)])), (11, .one (.own 3 0 out.length 1)), (49, ptsD P), (50, .int N), (51, .int j), (55, .one (.fn 57 [(1, 0), (2, 0)])), (57, .int x.2), (59, .int x.1), (61, .int x.1)]) (S0 := SS R rest.length (out.map ptsF) [] x.1 x.2)
    (SubA.cons (k := 1) rfl (SubA.cons (k := 7) rfl (SubA.cons (k := 10) rfl (SubA.cons (k := 11) rfl (SubA.cons (k := 49) rfl (SubA.cons (k := 50) rfl (SubA.cons (k := 51) rfl (SubA.cons (k := 55) rfl (SubA.cons (k := 57) rfl (SubA.cons (k := 59) rfl (SubA.cons (k := 61) rfl (SubA.nil _))))))))))))
    (SubA.cons (k := 0) rfl (SubA.cons (k := 1) rfl (SubA.cons (k := 2) rfl (SubA.cons (k := 3) rfl (SubA.cons (k := 4) rfl (SubA.cons (k := 5) rfl (SubA.nil _))))))) ?_
   refine dw_cxv rfl is57 rfl rfl rfl (dx_take (R := R) (left := rest.length) (y := x.2) (low := x.1) (high := x.1) (A := out.map ptsF) (B := []) (a := x.1) (b := x.2) hR.1.ok oM oM _ _ _ _ _) ?_
   rintro _ _ _ ⟨rfl, rfl, rfl⟩
   by_cases hxr : x ∈ rest
   ·have hT : tkn R x.2 x.1 x.1 = [x] := by
     rcases only t2 tx with h|h
     ·have := (t3 x).2 ⟨hxr, rfl, oM, oM⟩
      rw [h] at this; simp at this
     ·exact h
    rw [hT] at t1 t4 ⊢
    obtain ⟨r, rfl⟩ : ∃ r, rest = x :: r := by
     cases rest with
     | nil => simp at hxr
     | cons a r =>
      refine ⟨r, ?_⟩
      by_cases hax : a = x
      ·rw [hax]
      ·have ha := hsub a (by simp)
       rw [hdr] at ha
       rcases List.mem_cons.1 ha with h|h
       ·exact absurd h hax
       ·have hb1 : before x a = true := by
         have h5 : ByRows (P.drop j) := List.Pairwise.sublist (List.drop_sublist j P) hP
         rw [hdr, ByRows, List.pairwise_cons] at h5
         exact h5.1 a h
        have hb2 : before a x = true := by
         rcases List.mem_cons.1 hxr with h6|h6
         ·exact absurd h6.symm hax
         ·rw [ByRows, List.pairwise_cons] at hro
          exact hro.1 x h6
        exact absurd (before_trans hb1 hb2) before_irrefl
    have hrn := hro.nodup
    have hL1 : (((x :: r).length : Nat) : Int) - (([x].length : Nat) : Int) = ((minus (x :: r) [x]).length : Nat) := by omega
    rw [hL1]
    generalize hlf : lft R x.2 x.1 x.1 = R1 at t1 ⊢
    clear hlf
    obtain ⟨M, hM⟩ : ∃ M, (x :: r).length = M := ⟨_, rfl⟩
    have hM2 : M = r.length + 1 := by rw [<- hM]; simp
    repeat (first|refine dw_p rfl ?_|refine dw_nil ?_|refine ds_seq ?_|refine ds_ops mix (fun base => ?_))
    refine ds_if rfl (fun h => by simp at h) (fun _ => ?_)
    repeat (first|refine dw_p rfl ?_|refine dw_nil ?_|refine ds_seq ?_|refine ds_ops mix (fun base => ?_)|refine ds_skip ?_|refine ds_block ?_)
    refine ds_loop (fun m E S nk => ∃ (i : Nat) (c : List Pt2) (R : RowsL), Grow g (x :: r) x c R /\ Done g (x :: r) c i /\ i <= c.length /\ m = M - i /\ E = [(1, .int g), (7, .one (.ptr 2 0)), (10, .one (.fn 57 [(1, 0), (2, 0)])), (11, .one (.own 3 0 out.length 1)), (14, .one (.own 4 0 c.length 2)), (15, .int i), (49, ptsD P), (50, .int N), (51, .int j)] /\ S = S5 R (minus (x :: r) c).length (out.map ptsF) (c.flatMap ptF) /\ nk = 5) ⟨M, _, _, _, [(4, 7)], ?wk1, 0, [x], R1, ⟨by simp, by simp, fun y hy => ?hy, t1⟩, fun k q h => (by omega), by omega, by omega, rfl, rfl, rfl⟩ ?_
    case wk1 => exact ⟨(by repeat (first|exact trivial|refine ⟨by first|rfl|exact cgI oM oM, rfl, ?_⟩)), wkS5 rfl rfl rfl rfl rfl oM, rfl, rfl⟩
    case hy => simp at hy; subst hy; exact .base (by simp)
    rintro m2 E S nk ⟨i, c, R, hG, hD, hic, hm2, rfl, rfl, rfl⟩
    have hcM := hG.len
    rw [hM] at hcM
    have hcP : ∀ y ∈ c, y ∈ P := fun y hy => hrP y (hG.conn y hy).mem
    have hcf := ptF_len c
    have hpos : 0 < c.length := List.length_pos_of_mem hG.inc
    have hms : minus (x :: r) (sortedP c) = minus (x :: r) c := by unfold minus; congr 1; funext z; simp [sortedP_mem]
    have hmr : (minus (x :: r) c).length <= r.length := minus_len hG.inc
    simp only [List.length_cons] at hout
    have step : (∀ q ∈ c, ∀ y ∈ (x :: r), far q y <= g -> y ∈ c) -> ∀ cs, ClS g (minus (x :: r) c) cs -> ClS g P (out ++ [sortedP c] ++ cs) := fun hclo cs hcs => by
     rw [List.append_assoc]
     refine hcl _ (.cons (sortedP_rows c) (fun y => sortedP_mem.trans (conn_closed hG.inc hG.conn hclo y)) ?_)
     rw [hms]; exact hcs
    have hdrop : ∀ y ∈ minus (x :: r) c, y ∈ P.drop (j + 1) := fun y hy => by
     obtain ⟨h1, h2⟩ := minus_mem.1 hy
     have h3 := hsub y h1
     rw [hdr] at h3
     rcases List.mem_cons.1 h3 with h|h
     ·subst h; exact absurd hG.inc h2
     ·exact h
    by_cases hi : i < c.length
    ·have g1 : decide ((i : Int) < c.length) = true := by simpa using hi
     by_cases hl : 0 < (minus (x :: r) c).length
     ·have g2 : decide (((minus (x :: r) c).length : Int) > 0) = true := by simpa using hl
      repeat (first|refine dw_want rfl rfl ?_|refine dw_pickT rfl rfl ?_|refine dw_pB rfl aM ?_|refine dw_p rfl ?_|refine dw_l rfl ?_|refine dw_nil ?_|refine ds_seq ?_|refine ds_ops mix (fun base => ?_))
      refine ds_if rfl (fun _ => ?_) (fun h => by cases h)
      obtain ⟨q, hq⟩ : ∃ q, c[i]? = some q := ⟨_, List.getElem?_eq_getElem hi⟩
      have hqc : q ∈ c := List.mem_of_getElem? hq
      obtain ⟨q1, q2, q3, q4⟩ := hss q (hcP q hqc)
      have e2 : subL (c.flatMap ptF) (Int.toNat ((i : Nat) : Int) * 2) 2 = some (ptF q) := ptF_at hq
      repeat (first|refine dw_p rfl ?_|refine dw_io0 rfl rfl oM oM ?_|refine dw_l (dload_data rfl rfl aM rfl) ?_|refine dw_a rfl ?_|refine dw_st rfl rfl rfl rfl rfl (Nat.le_of_ble_eq_true rfl) rfl ?_|refine dw_nil ?_|refine ds_seq ?_|refine ds_ops mix (fun base => ?_)|refine ds_skip ?_|refine ds_block ?_)
      rw [show IntKind.i64.wrap (0 - g) = -g by rw [dwrap (by omega) (by omega)]; omega]
      refine ds_loop (fun k E S nk => ∃ (dy : Int) (c' ext : List Pt2) (R : RowsL), -g <= dy /\ dy <= g + 1 /\ k = (g + 1 - dy).toNat /\ c' = c ++ ext /\ Grow g (x :: r) x c' R /\ (∀ y ∈ (x :: r), far q y <= g -> y.2 < q.2 + dy -> y ∈ c') /\ E = [(1, .int g), (7, .one (.ptr 2 0)), (10, .one (.fn 57 [(1, 0), (2, 0)])), (11, .one (.own 3 0 out.length 1)), (14, .one (.own 4 0 c'.length 2)), (15, .int i), (16, .one (.ptr 5 0)), (17, .int dy), (49, ptsD P), (50, .int N), (51, .int j)] /\ S = SS R (minus (x :: r) c').length (out.map ptsF) (c'.flatMap ptF) q.1 q.2 /\ nk = 6) ⟨(g + 1 - -g).toNat, _, _, _, [], ?wk3, -g, c, [], R, by omega, by omega, rfl, by simp, hG, fun y hy hf h => ?h0, rfl, rfl, rfl⟩ ?_
      case wk3 => exact ⟨(by repeat (first|exact trivial|refine ⟨by first|rfl|exact cgI oM oM, rfl, ?_⟩)), wkSS rfl rfl rfl rfl rfl rfl oM, rfl, rfl⟩
      case h0 => have := (far_le q y g).1 hf; omega
      rintro k E S nk ⟨dy, c', ext, R', hd1, hd2, hk, hce, hG', hnear, rfl, rfl, rfl⟩
      have hcM' := hG'.len
      rw [hM] at hcM'
      have hcl' : c'.length = c.length + ext.length := by rw [hce]; simp
      have hqc' : q ∈ c' := by rw [hce]; exact List.mem_append_left _ hqc
      have hcf' := ptF_len c'
      repeat (first|refine dw_p rfl ?_|refine dw_nil ?_|refine ds_seq ?_|refine ds_ops mix (fun base => ?_))
      refine ds_if rfl (fun ht2 => ?_) (fun ht2 => ?_)
      ·simp at ht2
       obtain ⟨k1, k2, k3⟩ := hG'.take hrn hqc' hd1 ht2
       have hmr' : (minus (x :: r) c').length <= r.length := minus_len hG'.inc
       have w1 : IntKind.i64.wrap (q.2 + dy) = q.2 + dy := dwrap oM oM
       have w2 : IntKind.i64.wrap (q.1 - g) = q.1 - g := dwrap oM oM
       have w3 : IntKind.i64.wrap (q.1 + g) = q.1 + g := dwrap oM oM
       repeat (first|refine dw_p rfl ?_|refine dw_l rfl ?_|refine ds_seq ?_|refine ds_ops mix (fun base => ?_)|refine ds_skip ?_|refine ds_block ?_)
       rw [w1, w2, w3]
       refine dw_cxv rfl is57 rfl rfl rfl (dx_take (R := R') (left := (minus (x :: r) c').length) (y := q.2 + dy) (low := q.1 - g) (high := q.1 + g) (A := out.map ptsF) (B := c'.flatMap ptF) (a := q.1) (b := q.2) hG'.holds.1.ok oM oM _ _ _ _ _) ?_
       rintro _ _ _ ⟨rfl, rfl, rfl⟩
       generalize tkn R' (q.2 + dy) (q.1 - g) (q.1 + g) = T at *
       generalize lft R' (q.2 + dy) (q.1 - g) (q.1 + g) = R2 at *
       have hTM := k1.len
       rw [hM, List.length_append] at hTM
       have hTf := ptF_len T
       skip
       refine dw_app (q := T.flatMap ptF) rfl rfl rfl (subL_all _ hcf') ⟨rfl, rfl, _, rfl, subL_all _ hTf⟩ oM oM (by decide) rfl ?_
       repeat (first|refine dw_p rfl ?_|refine dw_nil ?_|refine ds_ops mix (fun base => ?_))
       refine ⟨(g + 1 - (dy + 1)).toNat, by omega, _, _, _, [(4, 8)], ?wk4, dy + 1, c' ++ T, ext ++ T, R2, by omega, by omega, rfl, by rw [hce, List.append_assoc], k1, fun y hy hf h => ?hn, rfl, rfl, rfl⟩
       case wk4 => rw [k2, List.length_append, List.flatMap_append]; exact ⟨(by repeat (first|exact trivial|refine ⟨by first|rfl|exact cgI (by omega) (by omega), rfl, ?_⟩)), wkSS rfl rfl rfl rfl rfl rfl (by omega), rfl, rfl⟩
       case hn =>
        by_cases h5 : y.2 < q.2 + dy
        ·exact List.mem_append_left _ (hnear y hy hf h5)
        ·exact k3 y hy hf oM
      ·simp at ht2
       repeat (first|refine dw_p rfl ?_|refine dw_nil ?_|refine ds_ops mix (fun base => ?_)|refine ds_exit ?_)
       refine ⟨M - (i + 1), oM, _, _, _, [], ?wk5, i + 1, c', R', hG', fun k z hk hz y hy hf => ?hdn, oM, rfl, rfl, rfl, rfl⟩
       case wk5 => exact ⟨(by repeat (first|exact trivial|refine ⟨by first|rfl|exact cgI oM oM, rfl, ?_⟩)), wkS5 rfl rfl rfl rfl rfl oM, rfl, rfl⟩
       case hdn =>
        by_cases hki : k = i
        ·subst hki
         rw [hce, List.getElem?_append_left hi, hq] at hz
         obtain rfl := Option.some.inj hz
         have := (far_le q y g).1 hf
         exact hnear y hy hf oM
        ·rw [hce, List.getElem?_append_left (by omega)] at hz
         rw [hce]
         exact List.mem_append_left _ (hD k z oM hz y hy hf)
     ·have g2 : decide (((minus (x :: r) c).length : Int) > 0) = false := by simpa using hl
      have hm0 : minus (x :: r) c = [] := List.eq_nil_of_length_eq_zero oM
      have hclo : ∀ q ∈ c, ∀ y ∈ (x :: r), far q y <= g -> y ∈ c := fun q _ y hy _ => Classical.byContradiction fun h => by
       have := minus_mem.2 ⟨hy, h⟩
       rw [hm0] at this; simp at this
      repeat (first|refine dw_want rfl rfl ?_|refine dw_pickT rfl rfl ?_|refine dw_pB rfl aM ?_|refine dw_p rfl ?_|refine dw_l rfl ?_|refine dw_nil ?_|refine ds_seq ?_|refine ds_ops mix (fun base => ?_))
      refine ds_if rfl (fun h => by cases h) (fun _ => ?_)
      refine ds_exit ?_
      refine ds_keep (SubA.cons (k := 1) rfl (SubA.cons (k := 7) rfl (SubA.cons (k := 10) rfl (SubA.cons (k := 11) rfl (SubA.cons (k := 14) rfl (SubA.cons (k := 49) rfl (SubA.cons (k := 50) rfl (SubA.cons (k := 51) rfl (SubA.nil _))))))))) (SubA.refl _) ?_
      refine clu_after hpos hG.nd oM oM ?_
      repeat (first|refine dw_p rfl ?_|refine dw_nil ?_|refine ds_ops mix (fun base => ?_))
      refine ⟨m - 1, by omega, _, _, _, [(3, 6)], ?wka, j + 1, minus (x :: r) c, out ++ [sortedP c], R, by omega, hro.minus _, hdrop, hG.holds, by simp; omega, step hclo, rfl, rfl, rfl⟩
      case wka => rw [List.length_append]; exact ⟨(by repeat (first|exact trivial|refine ⟨by first|rfl|exact cgI (by omega) (by omega), rfl, ?_⟩)), wkS4 rfl rfl rfl rfl (by omega), rfl, rfl⟩
    ·have g1 : decide ((i : Int) < c.length) = false := by simpa using hi
     have hclo : ∀ q ∈ c, ∀ y ∈ (x :: r), far q y <= g -> y ∈ c := fun q hq y hy hf => by
      obtain ⟨k, hk⟩ := List.getElem?_of_mem hq
      exact hD k q (by have := (List.getElem?_eq_some_iff.1 hk).1; omega) hk y hy hf
     repeat (first|refine dw_skip rfl rfl ?_|refine dw_pickF rfl rfl ?_|refine dw_pB rfl aM ?_|refine dw_p rfl ?_|refine dw_nil ?_|refine ds_seq ?_|refine ds_ops mix (fun base => ?_))
     refine ds_if rfl (fun h => by cases h) (fun _ => ?_)
     refine ds_exit ?_
     refine ds_keep (SubA.cons (k := 1) rfl (SubA.cons (k := 7) rfl (SubA.cons (k := 10) rfl (SubA.cons (k := 11) rfl (SubA.cons (k := 14) rfl (SubA.cons (k := 49) rfl (SubA.cons (k := 50) rfl (SubA.cons (k := 51) rfl (SubA.nil _))))))))) (SubA.refl _) ?_
     refine clu_after hpos hG.nd oM oM ?_
     repeat (first|refine dw_p rfl ?_|refine dw_nil ?_|refine ds_ops mix (fun base => ?_))
     refine ⟨m - 1, by omega, _, _, _, [(3, 6)], ?wkb, j + 1, minus (x :: r) c, out ++ [sortedP c], R, by omega, hro.minus _, hdrop, hG.holds, by simp; omega, step hclo, rfl, rfl, rfl⟩
     case wkb => rw [List.length_append]; exact ⟨(by repeat (first|exact trivial|refine ⟨by first|rfl|exact cgI (by omega) (by omega), rfl, ?_⟩)), wkS4 rfl rfl rfl rfl (by omega), rfl, rfl⟩
   ·have hT : tkn R x.2 x.1 x.1 = [] := by
     rcases only t2 tx with h|h
     ·exact h
     ·have := (t3 x).1 (by rw [h]; simp)
      exact absurd this.1 hxr
    rw [hT] at t1 ⊢
    rw [minus_nil] at t1
    generalize hlf : lft R x.2 x.1 x.1 = R1 at t1 ⊢
    clear hlf
    repeat (first|refine dw_p rfl ?_|refine dw_nil ?_|refine ds_seq ?_|refine ds_ops mix (fun base => ?_))
    refine ds_if rfl (fun _ => ?_) (fun h => by simp at h)
    refine ds_exit ?_
    repeat (first|refine dw_p rfl ?_|refine dw_nil ?_|refine ds_ops mix (fun base => ?_))
    refine ⟨m - 1, oM, _, _, _, [], ?wkc, j + 1, rest, out, R1, oM, hro, fun y hy => ?hy2, t1, hout, hcl, rfl, rfl, rfl⟩
    case wkc => exact ⟨(by repeat (first|exact trivial|refine ⟨by first|rfl|exact cgI oM oM, rfl, ?_⟩)), wkS4 rfl rfl rfl rfl oM, rfl, rfl⟩
    case hy2 =>
     have h3 := hsub y hy
     rw [hdr] at h3
     rcases List.mem_cons.1 h3 with h|h
     ·subst h; exact absurd hy hxr
     ·exact h
  ·simp at ht
   have hr0 : rest = [] := by
    cases rest with
    | nil => rfl
    | cons a r =>
     have := hsub a (by simp)
     rw [List.drop_of_length_le (by omega)] at this
     simp at this
   subst hr0
   refine ds_keep (SubA.cons (k := 11) rfl (SubA.nil _)) (SubA.cons (k := 3) rfl (SubA.nil _)) ?_
   refine ds_frz 3 rfl okZ okZ ?_
   repeat (first|refine dw_p rfl ?_|refine dw_nil ?_|refine ds_seq ?_|refine ds_ops mix (fun base => ?_)|refine ds_exit ?_)
   refine ds_ret ⟨_, rfl, rfl, out, rfl, ?_⟩
   have := hcl [] .nil
   simpa using this
 have mid : 0 < l.length -> DPS (Par.base Tryz.prog 0 (H00 1) Z0 lo) f43.n (.seq (.ops f43r2 0) (.seq (.ops f43r3 0) (.seq (.ops f43r4 0) (.seq (.seq (.ops f43r5 0) (.block 0 (.loop f43b0))) (.seq (.ops f43r10 0) (.seq (.ops f43r11 0) (.seq (.ops f43r12 0) (.seq (.seq (.ops f43r13 0) (.block 2 (.loop f43b3))) (.seq (.ops f43r29 0) .ret))))))))) (retD (Par.base Tryz.prog 0 (H00 1) Z0 lo) f43.res fun d => ∃ cs, d = ptssD cs /\ ClS (min (max gap 0) 2000) (sortedP l) cs)
   [(1, .int gap), (4, .one (.f (.c .nils))), (5, .one (.own 0 0 l.length 2))] [(0, .data (l.flatMap ptF))] 1 := by
  intro hpos
  repeat (first|refine dw_p rfl ?_|refine ds_seq ?_|refine ds_ops mix (fun base => ?_))
  refine dw_cx rfl rfl rfl (dx_sort (k := 0) (l := l) rfl hpos oM _ _ _ _ _) ?_
  rintro _ _ _ ⟨rfl, rfl, l', hperm, hsort, rfl⟩
  have hll := hperm.length_eq
  have hco := dx_compact (l := l') hsort oM oM
  have hso : sortedP l' = sortedP l := ByRows.ext (sortedP_rows _) (sortedP_rows _) fun p => by rw [sortedP_mem, sortedP_mem, hperm.mem_iff]
  rw [hll, hso] at hco
  repeat (first|refine dw_p rfl ?_|refine dw_nil ?_|refine ds_seq ?_|refine ds_ops mix (fun base => ?_))
  refine dw_cx rfl rfl rfl (hco _ _ _ _ _) ?_
  rintro _ _ _ ⟨rfl, rfl, rest, rfl⟩
  refine dw_p rfl ?_
  refine dw_nil ?_
  refine ds_keep (SubA.cons (k := 1) rfl (SubA.cons (k := 4) rfl (SubA.cons (k := 5) rfl (SubA.nil _)))) (SubA.cons (k := 0) rfl (SubA.nil _)) ?_
  refine ds_shrink 0 ((sortedP l).length * 2) rfl ?_
  have hfl := ptF_len (sortedP l)
  rw [List.take_append_of_le_length (by omega), List.take_of_length_le (by omega)]
  refine ds_frz 0 rfl okZ okZ ?_
  refine ds_wk [] (n0 := 0) (E0 := [(1, .int gap), (4, .one (.f (.c .nils))), (5, ptsD (sortedP l))]) (S0 := []) ⟨(by repeat (first|exact trivial|refine ⟨by first|rfl|exact cgI oM oM, rfl, ?_⟩)), trivial, rfl, rfl⟩ ?_
  exact fin
 repeat (first|refine dw_p rfl ?_|refine dw_nil ?_|refine ds_seq ?_|refine ds_ops mix (fun base => ?_))
 refine dw_cfr rfl rfl (do_clone oM) ?_
 rintro _ _ _ ⟨k, hk, rfl, rfl, rfl⟩
 refine dw_p rfl ?_
 refine dw_nil ?_
 by_cases h0 : l = []
 ·subst h0
  refine ds_seq ?_
  refine ds_own0 5 rfl ?_
  repeat (first|refine dw_p rfl ?_|refine ds_ops mix (fun base => ?_))
  refine dw_cf rfl rfl d_sort0 ?_
  rintro _ rfl
  repeat (first|refine dw_p rfl ?_|refine dw_nil ?_|refine ds_seq ?_|refine ds_ops mix (fun base => ?_))
  refine dw_cf rfl rfl d_compact0 ?_
  rintro _ rfl
  refine dw_p rfl ?_
  refine dw_nil ?_
  refine ds_wk [] (n0 := 0) (E0 := [(1, .int gap), (4, .one (.f (.c .nils))), (5, ptsD (sortedP []))]) (S0 := []) ⟨(by repeat (first|exact trivial|refine ⟨by first|rfl|exact cgI oM oM, rfl, ?_⟩)), trivial, rfl, rfl⟩ ?_
  exact fin
 ·have hpos : 0 < l.length := List.length_pos_iff.2 h0
  rcases hk with rfl|rfl
  ·refine ds_wk [] (n0 := 1) (E0 := [(1, .int gap), (4, .one (.f (.c .nils))), (5, .one (.own 0 0 l.length 2))]) (S0 := [(0, .data (l.flatMap ptF))]) ⟨(by repeat (first|exact trivial|refine ⟨by first|rfl|exact cgI oM oM, rfl, ?_⟩)), ⟨rfl, rfl, rfl, trivial⟩, rfl, rfl⟩ ?_
   exact mid hpos
  ·refine ds_wk [(0, 1)] (n0 := 1) (E0 := [(1, .int gap), (4, .one (.f (.c .nils))), (5, .one (.own 0 0 l.length 2))]) (S0 := [(0, .data (l.flatMap ptF))]) ⟨(by repeat (first|exact trivial|refine ⟨by first|rfl|exact cgI oM oM, rfl, ?_⟩)), ⟨rfl, rfl, rfl, trivial⟩, rfl, rfl⟩ ?_
   exact mid hpos
def Few (p : Pic) : Prop := ∀ f ∈ p.fs, validF f = true -> (pointsF f).length <= 256
theorem cl1_gap {g : Int} {l : List Pt2} {cs : List (List Pt2)} (h1 : 2 <= g) (h2 : g <= 6) (h : ClS (min (max g 0) 2000) (sortedP l) cs) : cl1 g l = decide (cs.length = 1) := by
 rw [show min (max g 0) 2000 = g by omega] at h
 exact cl1_of h
set_option maxHeartbeats 4000000 in
theorem d_check {p : Pic} (hF : Fine p) (hw : Few p) : DK 32 [picD p] fun d => ∃ r : Res, Chk p r /\ d = .tup [.int r.1, .int r.2.1, .int r.2.2] := by
 refine dfn_ok cp32 rfl GHro fun Z0 lo => ?_
 repeat (first|refine dw_l rfl ?_|refine dw_a rfl ?_|refine dw_nil ?_|refine ds_seq ?_|refine ds_ops mix (fun base => ?_))
 refine dw_cf rfl rfl (d_apvalid hF) ?_
 rintro _ rfl
 repeat (first|refine dw_p rfl ?_|refine dw_nil ?_)
 refine ds_if rfl (fun hv => ?_) (fun hv => ?_)
 ·have hv : ¬ validPic p = true := by simpa using hv
  repeat (first|refine dw_st rfl rfl rfl rfl rfl (Nat.le_of_ble_eq_true rfl) rfl ?_|refine dw_nil ?_|refine ds_seq ?_|refine ds_ops mix (fun base => ?_))
  exact ds_ret ⟨_, rfl, rfl, _, .arg hv, rfl⟩
 ·have hv : validPic p = true := by simpa using hv
  have hsm : ∀ l ∈ ptsOf p, (∀ q ∈ l, in60 q = true) /\ l.length <= 256 := fun l hl => by
   refine ⟨(ptsOf_small hv l hl).1, ?_⟩
   obtain ⟨f, hf, rfl⟩ := List.mem_map.1 hl
   exact hw f hf (validPic_v hv f hf)
  have hpl : (ptsOf p).length = p.fs.length := by simp [ptsOf]
  have hl8 := (validPic_fs hv).1
  have hgap : 2 <= p.gap /\ p.gap <= 6 := by
   have := (validPic_fs hv).2.2.2
   simp only [gapOk, Bool.and_eq_true, decide_eq_true_eq] at this
   exact this.1
  repeat (first|refine dw_l rfl ?_|refine ds_seq ?_|refine ds_ops mix (fun base => ?_)|refine ds_skip ?_)
  refine dw_cf rfl rfl (d_appoints (validPic_v hv) oM) ?_
  rintro _ rfl
  generalize hl : ptsOf p = l at *
  repeat (first|refine dw_p rfl ?_|refine dw_l rfl ?_|refine dw_a rfl ?_|refine dw_st rfl rfl rfl rfl rfl (Nat.le_of_ble_eq_true rfl) rfl ?_|refine dw_nil ?_|refine ds_seq ?_|refine ds_ops mix (fun base => ?_)|refine ds_block ?_)
  refine ds_loop (fun m E S nk => ∃ i : Nat, i + m = l.length /\ (∀ (j : Nat) b, j < i -> l[j]? = some b -> cl1 p.gap b = true) /\ E = [(1, .one (.ptr 0 0)), (2, .one (.ptr 1 0)), (3, .one (.ptr 2 0)), (4, .one (.ptr 3 0)), (5, .one (.ptr 4 0)), (15, ptssD l), (16, .int l.length), (17, .int i)] /\ S = [(0, .cells (picC p)), (1, .cells [.f (.c (.int .i64 0))]), (2, .cells [.f (.c (.int .i64 0))]), (3, .cells [.f (.c (.int .i64 0))]), (4, .cells [.f (.sl 1 l.length (l.map ptsF))])] /\ nk = 5)
   ⟨l.length, _, _, _, [], ?wk, 0, oM, fun j b hj => oM, rfl, rfl, rfl⟩ ?_
  case wk => exact wkA
  rintro m E S nk ⟨i, hi, hok, rfl, rfl, rfl⟩
  repeat (first|refine dw_p rfl ?_|refine dw_nil ?_|refine ds_seq ?_|refine ds_ops mix (fun base => ?_))
  refine ds_if rfl (fun hi2 => ?_) (fun hi2 => ?_)
  ·have hi2 : i < l.length := by have := of_decide_eq_true hi2; omega
   obtain ⟨a, ha⟩ : ∃ r, l[i]? = some r := ⟨_, List.getElem?_eq_getElem hi2⟩
   have e1 := ptsF_at ha
   have hsa := hsm a (List.mem_of_getElem? ha)
   repeat (first|refine dw_p rfl ?_|refine dw_l rfl ?_|refine dw_if rfl rfl oM (by decide) aM ?_|refine dw_nil ?_|refine ds_seq ?_|refine ds_ops mix (fun base => ?_)|refine ds_skip ?_|refine ds_block ?_)
   refine dw_cf rfl rfl (d_clusters (fun q hq => by have := hsa.1 q hq; rw [in60_iff] at this; unfold Small; omega) (by omega)) ?_
   rintro _ ⟨cs, rfl, hcs⟩
   have hc1 := cl1_gap hgap.1 hgap.2 hcs
   repeat (first|refine dw_p rfl ?_|refine dw_nil ?_)
   refine ds_if rfl (fun hb => ?_) (fun hb => ?_)
   ·have hb : ¬ (cs.length : Int) = 1 := bne_true' hb
    repeat (first|refine dw_p rfl ?_|refine dw_st rfl rfl rfl rfl rfl (Nat.le_of_ble_eq_true rfl) rfl ?_|refine dw_nil ?_|refine ds_seq ?_|refine ds_ops mix (fun base => ?_))
    exact ds_ret ⟨_, rfl, rfl, _, .bad1 i hv (by rw [hl]; exact ⟨⟨a, ha, by rw [hc1]; exact decide_eq_false (by omega)⟩, hok⟩), rfl⟩
   ·have hb : (cs.length : Int) = 1 := bne_false' hb
    repeat (first|refine dw_p rfl ?_|refine dw_nil ?_|refine ds_ops mix (fun base => ?_)|refine ds_skip ?_)
    refine ⟨m - 1, oM, _, _, _, [], ?wk1, i + 1, oM, ?hno, rfl, rfl, rfl⟩
    case hno =>
     intro j b hj hbj
     by_cases hji : j = i
     ·subst hji
      rw [ha] at hbj
      rw [<- Option.some.inj hbj, hc1]
      exact decide_eq_true oM
     ·exact hok j b oM hbj
    case wk1 => exact wkA
  ·have hi2 : i = l.length := by have := of_decide_eq_false hi2; omega
   subst hi2
   have hg1 : Good1 p.gap (ptsOf p) := fun a ha => by
    rw [hl] at ha
    obtain ⟨j, hj⟩ := List.getElem?_of_mem ha
    exact hok j a (List.getElem?_eq_some_iff.1 hj).1 hj
   repeat (first|refine dw_p rfl ?_|refine dw_l rfl ?_|refine ds_seq ?_|refine ds_ops mix (fun base => ?_)|refine ds_exit ?_)
   refine dw_cfr rfl rfl do_pairs ?_
   rintro _ _ _ ⟨rfl, rfl, rfl⟩
   repeat (first|refine dw_nil ?_|refine ds_block ?_)
   refine ds_keep (SubA.cons (k := 1) rfl (SubA.cons (k := 2) rfl (SubA.cons (k := 3) rfl (SubA.cons (k := 4) rfl (SubA.cons (k := 5) rfl (SubA.cons (k := 33) rfl (SubA.nil _))))))) (SubA.cons (k := 0) rfl (SubA.cons (k := 1) rfl (SubA.cons (k := 2) rfl (SubA.cons (k := 3) rfl (SubA.cons (k := 4) rfl (SubA.cons (k := 5) rfl (SubA.nil _))))))) ?_
   refine ds_rf rfl [1, 2, 3, 4, 5] rfl (by show isFn Tryz.prog 45 = true; kernel_rfl) rfl rfl (fun fid sg bd hsg hbd => ?_)
   refine DX.sub (S0 := cS p l 0 0 0 (lpC .ready none fid sg bd)) ((x_cpairs hsm oM hsg hbd _ _ _ _ _).mono ?_) (SubA.cons rfl (SubA.cons rfl (SubA.cons rfl (SubA.cons rfl (SubA.cons rfl (SubA.cons rfl (SubA.cons rfl (SubA.nil _))))))))
   rintro _ _ _ (⟨hg2, rfl, rfl⟩|⟨i, k, hb2, rfl, rfl⟩)
   ·refine ⟨_, _, _, _, _, _, _, _, _, rfl, by simp, ?_⟩
    repeat (first|refine dw_st rfl rfl rfl rfl rfl (Nat.le_of_ble_eq_true rfl) rfl ?_|refine dw_nil ?_|refine ds_seq ?_|refine ds_ops mix (fun base => ?_))
    exact ds_ret ⟨_, rfl, rfl, _, .ok hv hg1 (by rw [hl]; exact hg2), rfl⟩
   ·refine ⟨_, _, _, _, _, _, _, _, _, rfl, by simp, ?_⟩
    exact ⟨_, rfl, rfl, _, .bad2 i k hv hg1 (by rw [hl]; exact hb2), rfl⟩
structure Rw where
 x0 : Int
 x1 : Int
 x2 : Int
 x3 : Int
 x4 : Int
 x5 : Int
def rwF (x : Rw) : List FD := [.c (.int .u8 x.x0), .c (.int .u8 x.x1), .c (.int .u8 x.x2), .c (.int .u8 x.x3), .c (.int .u8 x.x4), .c (.int .u8 x.x5)]
def rwD (x : Rw) : DV := .agg ((rwF x).map .f)
def isB (n : Int) : Prop := 0 <= n /\ n < 256
def Rw.ok (x : Rw) : Prop := (isB x.x0 /\ isB x.x1 /\ isB x.x2) /\ isB x.x3 /\ isB x.x4 /\ isB x.x5
def fA (x : Rw) (w : Int) : Int := x.x1.tmod w
def fB (x : Rw) (h : Int) : Int := x.x2.tmod h
def fR (x : Rw) (w : Int) : Int := min (fA x w + (1 + x.x3.tmod 8)) (w - 1)
def fL (x : Rw) (h : Int) : Int := min (fB x h + (1 + x.x4.tmod 8)) (h - 1)
def featM (x : Rw) (w h : Int) : Ft :=
 if x.x0.tmod 3 = 0 then ⟨1, 0, [(fA x w, fB x h)]⟩
 else if x.x0.tmod 3 = 1 then ⟨2, 0, [(fA x w, fB x h), (fR x w, fL x h)] ++ if x.x5.tmod 2 = 1 then [(fA x w, fL x h)] else []⟩
 else ⟨3, (x.x0.tdiv 3).tmod 4, [(fA x w, fB x h), (fR x w, fB x h), (fR x w, fL x h)] ++ if x.x5.tmod 2 = 1 then [(fA x w, fL x h)] else []⟩
set_option maxHeartbeats 4000000 in
theorem d_feature {x : Rw} {w h : Int} (hx : x.ok) (hw : 4 <= w /\ w <= 60) (hh : 3 <= h /\ h <= 60) : DK 28 [rwD x, .int w, .int h] fun d => d = ftD (featM x w h) := by
 refine dfn_ok cp28 rfl GHro fun Z0 lo => ?_
 obtain ⟨⟨hx0, hx1, hx2⟩, hx3, hx4, hx5⟩ := hx
 unfold isB at *
 have w1 : IntKind.i64.wrap x.x1 = x.x1 := dwrap oM oM
 have w2 : IntKind.i64.wrap x.x2 = x.x2 := dwrap oM oM
 have w3 : IntKind.i64.wrap x.x3 = x.x3 := dwrap oM oM
 have w4 : IntKind.i64.wrap x.x4 = x.x4 := dwrap oM oM
 have t1 : 0 <= x.x1.tmod w /\ x.x1.tmod w < w := ⟨Int.tmod_nonneg _ hx1.1, Int.tmod_lt_of_pos _ oM⟩
 have t2 : 0 <= x.x2.tmod h /\ x.x2.tmod h < h := ⟨Int.tmod_nonneg _ hx2.1, Int.tmod_lt_of_pos _ oM⟩
 have t3 : 0 <= x.x3.tmod 8 /\ x.x3.tmod 8 < 8 := ⟨Int.tmod_nonneg _ hx3.1, Int.tmod_lt_of_pos _ oM⟩
 have t4 : 0 <= x.x4.tmod 8 /\ x.x4.tmod 8 < 8 := ⟨Int.tmod_nonneg _ hx4.1, Int.tmod_lt_of_pos _ oM⟩
 repeat (first|refine dw_p rfl ?_|refine dw_l rfl ?_|refine dw_a rfl ?_|refine dw_nil ?_|refine ds_seq ?_|refine ds_ops mix (fun base => ?_))
 rw [w1]
 refine dw_rem rfl rfl oM ?_
 repeat (first|refine dw_p rfl ?_|refine dw_l rfl ?_)
 rw [w2]
 refine dw_rem rfl rfl oM ?_
 repeat (first|refine dw_min rfl rfl ?_|refine dw_p rfl ?_|refine dw_l rfl ?_|refine dw_a rfl ?_|refine dw_st rfl rfl rfl rfl rfl (Nat.le_of_ble_eq_true rfl) rfl ?_|refine dw_nil ?_|refine ds_seq ?_|refine ds_ops mix (fun base => ?_))
 have q1 : 0 <= x.x0.tdiv 3 /\ x.x0.tdiv 3 < 256 := by rw [Int.tdiv_eq_ediv_of_nonneg hx0.1]; omega
 have u1 : IntKind.u8.wrap (x.x0.tdiv 3) = x.x0.tdiv 3 := by
  simp [IntKind.wrap, IntKind.signed, IntKind.bits]
  omega
 have t5 : 0 <= (x.x0.tdiv 3).tmod 4 /\ (x.x0.tdiv 3).tmod 4 < 4 := ⟨Int.tmod_nonneg _ q1.1, Int.tmod_lt_of_pos _ oM⟩
 have t6 : 0 <= x.x0.tmod 3 /\ x.x0.tmod 3 < 3 := ⟨Int.tmod_nonneg _ hx0.1, Int.tmod_lt_of_pos _ oM⟩
 have hK : IntKind.i64.wrap (1 + IntKind.i64.wrap (x.x0.tmod 3)) = 1 + x.x0.tmod 3 := by rw [dwrap (n := x.x0.tmod 3) (by omega) (by omega), dwrap (by omega) (by omega)]
 have hT : IntKind.i64.wrap ((IntKind.u8.wrap (x.x0.tdiv 3)).tmod 4) = (x.x0.tdiv 3).tmod 4 := by rw [u1, dwrap (by omega) (by omega)]
 have hR : min (IntKind.i64.wrap (x.x1.tmod w + IntKind.i64.wrap (1 + (IntKind.i64.wrap x.x3).tmod 8))) (IntKind.i64.wrap (w - 1)) = fR x w := by
  rw [w3, dwrap (n := 1 + x.x3.tmod 8) (by omega) (by omega), dwrap (n := x.x1.tmod w + (1 + x.x3.tmod 8)) (by omega) (by omega), dwrap (n := w - 1) (by omega) (by omega)]
  rfl
 have hL : min (IntKind.i64.wrap (x.x2.tmod h + IntKind.i64.wrap (1 + (IntKind.i64.wrap x.x4).tmod 8))) (IntKind.i64.wrap (h - 1)) = fL x h := by
  rw [w4, dwrap (n := 1 + x.x4.tmod 8) (by omega) (by omega), dwrap (n := x.x2.tmod h + (1 + x.x4.tmod 8)) (by omega) (by omega), dwrap (n := h - 1) (by omega) (by omega)]
  rfl
 refine ds_keep (E0 := [(3, .one (.ptr 0 0)), (6, .one (.ptr 1 0)), (7, .int (fA x w)), (8, .int (fB x h)), (11, .int (fR x w)), (12, .int (fL x h)), (13, .one (.ptr 2 0)), (14, .one (.ptr 3 0)), (15, .int (1 + x.x0.tmod 3)), (16, .int ((x.x0.tdiv 3).tmod 4)), (68, .bool (1 + x.x0.tmod 3 == 1))])
  (S0 := [(0, .cells ((rwF x).map .f)), (1, .cells [.f (.c (.int .i64 0)), .f (.c (.int .i64 0)), .f (.c .nils)]), (2, .cells [.f (.c (.int .i64 (fA x w))), .f (.c (.int .i64 (fB x h)))]), (3, .cells [.f (.c (.int .i64 (fR x w))), .f (.c (.int .i64 (fL x h)))])])
  (SubA.cons rfl (SubA.cons rfl (SubA.cons rfl (SubA.cons rfl (SubA.cons (congrArg (fun z => some (DV.int z)) hR) (SubA.cons (congrArg (fun z => some (DV.int z)) hL) (SubA.cons rfl (SubA.cons rfl (SubA.cons (congrArg (fun z => some (DV.int z)) hK) (SubA.cons (congrArg (fun z => some (DV.int z)) hT) (SubA.cons (congrArg (fun z => some (DV.bool (z == 1))) hK) (SubA.nil _))))))))))))
  (SubA.cons rfl (SubA.cons rfl (SubA.cons rfl (SubA.cons (by rw [<- hR, <- hL]; rfl) (SubA.nil _))))) ?_
 refine ds_if rfl (fun h1 => ?_) (fun h1 => ?_)
 ·have h1 : x.x0.tmod 3 = 0 := by have : 1 + x.x0.tmod 3 = 1 := by simpa using h1
                                  omega
  repeat (first|refine dw_p rfl ?_|refine dw_l rfl ?_|refine dw_a rfl ?_|refine dw_st rfl rfl rfl rfl rfl (Nat.le_of_ble_eq_true rfl) rfl ?_|refine dw_nil ?_|refine ds_seq ?_|refine ds_ops mix (fun base => ?_))
  refine ds_keep (E0 := [(6, .one (.ptr 1 0))]) (S0 := [(1, .cells [.f (.c (.int .i64 (1 + x.x0.tmod 3))), .f (.c (.int .i64 0)), .own 4 0 1 2]), (4, .data (ptF (fA x w, fB x h)))]) (SubA.cons rfl (SubA.nil _)) (SubA.cons rfl (SubA.cons rfl (SubA.nil _))) ?_
  refine ds_frz 4 rfl okZ okZ ?_
  refine ds_ret ⟨_, rfl, rfl, ?_⟩
  rw [featM, if_pos h1, h1]
  rfl
 ·have h1 : ¬ x.x0.tmod 3 = 0 := fun h => by rw [h] at h1; simp at h1
  repeat (first|refine dw_p rfl ?_|refine dw_nil ?_|refine ds_seq ?_|refine ds_ops mix (fun base => ?_)|refine ds_skip ?_)
  refine ds_if rfl (fun h2 => ?_) (fun h2 => ?_)
  ·have h2 : x.x0.tmod 3 = 1 := by have : 1 + x.x0.tmod 3 = 2 := by simpa using h2
                                   omega
   repeat (first|refine dw_p rfl ?_|refine dw_l rfl ?_|refine dw_a rfl ?_|refine dw_nil ?_|refine ds_seq ?_|refine ds_ops mix (fun base => ?_))
   refine ds_if rfl (fun h5 => ?_) (fun h5 => ?_)
   ·have h5 : x.x5.tmod 2 = 1 := by simpa using h5
    repeat (first|refine dw_p rfl ?_|refine dw_a rfl ?_|refine ds_ops mix (fun base => ?_))
    refine dw_app (m := 1) (q := ptF (fA x w, fL x h)) (l := ptF (fA x w, fB x h) ++ ptF (fR x w, fL x h)) rfl rfl rfl rfl ⟨rfl, rfl, _, rfl, rfl⟩ oM oM (by decide) rfl ?_
    repeat (first|refine dw_p rfl ?_|refine dw_st rfl rfl rfl rfl rfl (Nat.le_of_ble_eq_true rfl) rfl ?_|refine dw_nil ?_|refine ds_seq ?_|refine ds_ops mix (fun base => ?_))
    refine ds_keep (E0 := [(6, .one (.ptr 1 0))]) (S0 := [(1, .cells [.f (.c (.int .i64 (1 + x.x0.tmod 3))), .f (.c (.int .i64 0)), .own 6 0 3 2]), (6, .data [.c (.int .i64 (fA x w)), .c (.int .i64 (fB x h)), .c (.int .i64 (fR x w)), .c (.int .i64 (fL x h)), .c (.int .i64 (fA x w)), .c (.int .i64 (fL x h))])]) (SubA.cons rfl (SubA.nil _)) (SubA.cons rfl (SubA.cons rfl (SubA.nil _))) ?_
    refine ds_frz 6 rfl okZ okZ ?_
    refine ds_ret ⟨_, rfl, rfl, ?_⟩
    rw [featM, if_neg h1, if_pos h2, if_pos h5, h2]
    rfl
   ·have h5 : ¬ x.x5.tmod 2 = 1 := by simpa using h5
    repeat (first|refine dw_p rfl ?_|refine dw_st rfl rfl rfl rfl rfl (Nat.le_of_ble_eq_true rfl) rfl ?_|refine dw_nil ?_|refine ds_seq ?_|refine ds_ops mix (fun base => ?_)|refine ds_skip ?_)
    refine ds_keep (E0 := [(6, .one (.ptr 1 0))]) (S0 := [(1, .cells [.f (.c (.int .i64 (1 + x.x0.tmod 3))), .f (.c (.int .i64 0)), .own 4 0 2 2]), (4, .data [.c (.int .i64 (fA x w)), .c (.int .i64 (fB x h)), .c (.int .i64 (fR x w)), .c (.int .i64 (fL x h))])]) (SubA.cons rfl (SubA.nil _)) (SubA.cons rfl (SubA.cons rfl (SubA.nil _))) ?_
    refine ds_frz 4 rfl okZ okZ ?_
    refine ds_ret ⟨_, rfl, rfl, ?_⟩
    rw [featM, if_neg h1, if_pos h2, if_neg h5, h2]
    rfl
  ·have h2 : ¬ x.x0.tmod 3 = 1 := fun h => by rw [h] at h2; simp at h2
   have h3 : x.x0.tmod 3 = 2 := by omega
   repeat (first|refine dw_p rfl ?_|refine dw_l rfl ?_|refine dw_a rfl ?_|refine dw_nil ?_|refine ds_seq ?_|refine ds_ops mix (fun base => ?_)|refine ds_skip ?_)
   refine ds_if rfl (fun h5 => ?_) (fun h5 => ?_)
   ·have h5 : x.x5.tmod 2 = 1 := by simpa using h5
    repeat (first|refine dw_p rfl ?_|refine dw_a rfl ?_|refine ds_ops mix (fun base => ?_))
    refine dw_app (m := 1) (q := ptF (fA x w, fL x h)) (l := ptF (fA x w, fB x h) ++ ptF (fR x w, fB x h) ++ ptF (fR x w, fL x h)) rfl rfl rfl rfl ⟨rfl, rfl, _, rfl, rfl⟩ oM oM (by decide) rfl ?_
    repeat (first|refine dw_p rfl ?_|refine dw_st rfl rfl rfl rfl rfl (Nat.le_of_ble_eq_true rfl) rfl ?_|refine dw_nil ?_|refine ds_seq ?_|refine ds_ops mix (fun base => ?_))
    refine ds_keep (E0 := [(6, .one (.ptr 1 0))]) (S0 := [(1, .cells [.f (.c (.int .i64 (1 + x.x0.tmod 3))), .f (.c (.int .i64 ((x.x0.tdiv 3).tmod 4))), .own 6 0 4 2]), (6, .data [.c (.int .i64 (fA x w)), .c (.int .i64 (fB x h)), .c (.int .i64 (fR x w)), .c (.int .i64 (fB x h)), .c (.int .i64 (fR x w)), .c (.int .i64 (fL x h)), .c (.int .i64 (fA x w)), .c (.int .i64 (fL x h))])]) (SubA.cons rfl (SubA.nil _)) (SubA.cons rfl (SubA.cons rfl (SubA.nil _))) ?_
    refine ds_frz 6 rfl okZ okZ ?_
    refine ds_ret ⟨_, rfl, rfl, ?_⟩
    rw [featM, if_neg h1, if_neg h2, if_pos h5, h3]
    rfl
   ·have h5 : ¬ x.x5.tmod 2 = 1 := by simpa using h5
    repeat (first|refine dw_p rfl ?_|refine dw_st rfl rfl rfl rfl rfl (Nat.le_of_ble_eq_true rfl) rfl ?_|refine dw_nil ?_|refine ds_seq ?_|refine ds_ops mix (fun base => ?_)|refine ds_skip ?_)
    refine ds_keep (E0 := [(6, .one (.ptr 1 0))]) (S0 := [(1, .cells [.f (.c (.int .i64 (1 + x.x0.tmod 3))), .f (.c (.int .i64 ((x.x0.tdiv 3).tmod 4))), .own 4 0 3 2]), (4, .data [.c (.int .i64 (fA x w)), .c (.int .i64 (fB x h)), .c (.int .i64 (fR x w)), .c (.int .i64 (fB x h)), .c (.int .i64 (fR x w)), .c (.int .i64 (fL x h))])]) (SubA.cons rfl (SubA.nil _)) (SubA.cons rfl (SubA.cons rfl (SubA.nil _))) ?_
    refine ds_frz 4 rfl okZ okZ ?_
    refine ds_ret ⟨_, rfl, rfl, ?_⟩
    rw [featM, if_neg h1, if_neg h2, if_neg h5, h3]
    rfl
end Go.Ad

namespace Go.Ab
def noWs : List SOper -> Bool
 | [] => true
 | o :: r => match o.watch with
  | [] => noWs r
  | _ :: _ => false
section
variable {P : Program} {G base : Nat} {Q : T V -> Hp -> Prop}
theorem ctx_drop : ∀ {l : List SOper} {ctx ctx' : Ctx} {F : T V} {H : Hp}, noWs l = true -> wOps P G base Q l ctx F H -> wOps P G base Q l ctx' F H
 | [], _, _, _, _, _, h => h
 | o :: r, ctx, ctx', F, H, hn, h => by
  have hn' : o.watch = [] /\ noWs r = true := by
   unfold noWs at hn
   split at hn
   ·rename_i e; exact ⟨e, hn⟩
   ·cases hn
  obtain ⟨ho, hr⟩ := hn'
  rw [wOps] at h ⊢
  split at h
  ·rename_i hw
   rw [if_pos hw]
   cases hop : o.op with
   | p op =>
    simp only [hop] at h ⊢
    cases hv : aPure F op with
    | none => simp [hv] at h
    | some v => simp only [hv] at h ⊢; exact ctx_drop hr h
   | l op =>
    simp only [hop] at h ⊢
    cases hv : aLoad F H op with
    | none => simp [hv] at h
    | some v => simp only [hv] at h ⊢; exact ctx_drop hr h
   | a op =>
    simp only [hop] at h ⊢
    cases hv : aAlloc F op with
    | none => simp [hv] at h
    | some v =>
     simp only [hv] at h ⊢
     cases hai : o.aid with
     | none => simp only [hai] at h ⊢; exact ctx_drop hr h
     | some k => simp only [hai] at h ⊢; exact ctx_drop hr h
   | e op =>
    simp only [hop] at h ⊢
    cases hv : aEff F H op with
    | none => simp [hv] at h
    | some v => simp only [hv] at h ⊢; exact ⟨by rw [ho]; trivial, ctx_drop hr h.2⟩
   | cf f args =>
    simp only [hop] at h ⊢
    exact h.mono fun v H' hh => ⟨by rw [ho]; trivial, ctx_drop hr hh.2⟩
   | cv x args =>
    simp only [hop] at h ⊢
    split at h
    ·exact ⟨h.1, h.2.mono fun v H' hh => ⟨by rw [ho]; trivial, ctx_drop hr hh.2⟩⟩
    ·exact AYield.mono h fun v H' hh => ⟨by rw [ho]; trivial, ctx_drop hr hh.2⟩
    ·exact h.elim
   | nx x =>
    simp only [hop] at h ⊢
    split at h
    ·exact ANext.mono h fun v H' hh => ⟨by rw [ho]; trivial, ctx_drop hr hh.2⟩
    ·exact h.elim
   | no => simp only [hop] at h
  ·rename_i hw
   rw [if_neg hw]
   exact ctx_drop hr h
end
section
variable {p : Par} {base rs : Nat} {Q : DEnv -> Bx -> Nat -> Prop} {r : List SOper} {W : Wt} {A : List Nat} {E : DEnv} {S : Bx} {nk : Nat}
theorem dw_fgt (hn : noWs r = true) (h : DPW p base rs Q r [] A E S nk) : DPW p base rs Q r W A E S nk := .mk fun Z β H F c hS hE _ hA =>
 ctx_drop hn (h.run Z β H F [] hS hE (fun x hx => by cases hx) hA)
end
end Go.Ab

namespace Go.Ad
open Go.Ab Go.Proofs
set_option linter.unusedSimpArgs false
structure Raw where
 w : Int
 h : Int
 g : Int
 f : List Rw
def Raw.ok (x : Raw) : Prop := (isB x.w /\ isB x.h /\ isB x.g) /\ ∀ r ∈ x.f, r.ok
def rawC (x : Raw) : List DC := [.f (.c (.int .u8 x.w)), .f (.c (.int .u8 x.h)), .f (.c (.int .u8 x.g)), .f (.sl 6 x.f.length (x.f.flatMap rwF))]
def rawD (x : Raw) : DV := .agg (rawC x)
def mW (x : Raw) : Int := 12 + 2 * x.w.tmod 13
def mH (x : Raw) : Int := 12 + 3 * x.h.tmod 9
def mG (x : Raw) : Int := 2 + x.g.tmod 3
def oneF : Ft := ⟨1, 0, [(1, 1)]⟩
def mF (x : Raw) : List Ft := match (x.f.take 4).map (fun r => featM r (mW x) (mH x)) with
 | [] => [oneF]
 | l => l
def madeP14 (x : Raw) : Pic := ⟨mW x, mH x, mG x, mF x⟩
theorem rwF_at {l : List Rw} {i : Nat} {x : Rw} (h : l[i]? = some x) : subL (l.flatMap rwF) (i * 6) 6 = some (rwF x) := subL_flat (e := 6) (fun _ => rfl) h
set_option maxHeartbeats 4000000 in
theorem d_made {x : Raw} (hx : x.ok) : DK 10 [rawD x] fun d => d = picD (madeP14 x) := by
 refine dfn_ok cp10 rfl GHro fun Z0 lo => ?_
 obtain ⟨⟨hw, hh, hg⟩, hf⟩ := hx
 unfold isB at hw hh hg
 have t1 : 0 <= x.w.tmod 13 /\ x.w.tmod 13 < 13 := ⟨Int.tmod_nonneg _ hw.1, Int.tmod_lt_of_pos _ oM⟩
 have t2 : 0 <= x.h.tmod 9 /\ x.h.tmod 9 < 9 := ⟨Int.tmod_nonneg _ hh.1, Int.tmod_lt_of_pos _ oM⟩
 have t3 : 0 <= x.g.tmod 3 /\ x.g.tmod 3 < 3 := ⟨Int.tmod_nonneg _ hg.1, Int.tmod_lt_of_pos _ oM⟩
 have hW : IntKind.i64.wrap (12 + IntKind.i64.wrap (2 * IntKind.i64.wrap (x.w.tmod 13))) = mW x := by
  rw [dwrap (n := x.w.tmod 13) (by omega) (by omega), dwrap (n := 2 * x.w.tmod 13) (by omega) (by omega), dwrap (by omega) (by omega)]; rfl
 have hH : IntKind.i64.wrap (12 + IntKind.i64.wrap (3 * IntKind.i64.wrap (x.h.tmod 9))) = mH x := by
  rw [dwrap (n := x.h.tmod 9) (by omega) (by omega), dwrap (n := 3 * x.h.tmod 9) (by omega) (by omega), dwrap (by omega) (by omega)]; rfl
 have hG : IntKind.i64.wrap (2 + IntKind.i64.wrap (x.g.tmod 3)) = mG x := by
  rw [dwrap (n := x.g.tmod 3) (by omega) (by omega), dwrap (by omega) (by omega)]; rfl
 repeat (first|refine dw_p rfl ?_|refine dw_l rfl ?_|refine dw_a rfl ?_|refine dw_st rfl rfl rfl rfl rfl (Nat.le_of_ble_eq_true rfl) rfl ?_|refine dw_nil ?_|refine ds_seq ?_|refine ds_ops mix (fun base => ?_)|refine ds_block ?_)
 refine ds_keep (E0 := [(1, .one (.ptr 0 0)), (2, .one (.ptr 1 0)), (3, .one (.ptr 2 0)), (4, .int 0)])
  (S0 := [(0, .cells (rawC x)), (1, .cells [.f (.c (.int .i64 0)), .f (.c (.int .i64 0)), .f (.c (.int .i64 0)), .f (.c .nils)]), (2, .cells [.f (.c (.int .i64 (mW x))), .f (.c (.int .i64 (mH x))), .f (.c (.int .i64 (mG x))), .f (.c .nils)])])
  (SubA.cons rfl (SubA.cons rfl (SubA.cons rfl (SubA.cons rfl (SubA.nil _)))))
  (SubA.cons rfl (SubA.cons rfl (SubA.cons (by rw [<- hW, <- hH, <- hG]; rfl) (SubA.nil _)))) ?_
 refine ds_virtD 2 3 3 rfl rfl ?_
 refine ds_loop (fun m E S nk => ∃ (i : Nat) (out : List Ft), i + m = min x.f.length 4 /\ out = (x.f.take i).map (fun r => featM r (mW x) (mH x)) /\ E = [(1, .one (.ptr 0 0)), (2, .one (.ptr 1 0)), (3, .one (.ptr 2 0)), (4, .int i)] /\
   S = [(0, .cells (rawC x)), (1, .cells [.f (.c (.int .i64 0)), .f (.c (.int .i64 0)), .f (.c (.int .i64 0)), .f (.c .nils)]), (2, .cells [.f (.c (.int .i64 (mW x))), .f (.c (.int .i64 (mH x))), .f (.c (.int .i64 (mG x))), .own 3 0 out.length 3]), (3, .data (out.flatMap ftF))] /\ nk = 4)
  ⟨min x.f.length 4, _, _, _, [], ?wk, 0, [], oM, rfl, rfl, rfl, rfl⟩ ?_
 case wk => exact wkA
 rintro m E S nk ⟨i, out, hi, ho, rfl, rfl, rfl⟩
 repeat (first|refine dw_pick rfl dgA dgA ?_|refine dw_p rfl ?_|refine dw_l rfl ?_|refine dw_pg rfl dgA ?_|refine dw_nil ?_|refine ds_seq ?_|refine ds_ops mix (fun base => ?_))
 refine ds_if rfl (fun ht => ?_) (fun ht => ?_)
 ·rw [itAnd, Bool.and_eq_true] at ht
  have h1 := of_decide_eq_true ht.1
  have h2 := of_decide_eq_true ht.2
  obtain ⟨r, hr⟩ : ∃ r, x.f[i]? = some r := ⟨_, List.getElem?_eq_getElem oM⟩
  have e1 := rwF_at hr
  have hol : out.length = i := by rw [ho, List.length_map, List.length_take]; omega
  have hfl := ftF_len out
  repeat (first|refine dw_p rfl ?_|refine dw_l rfl ?_|refine dw_lk rfl ?_|refine dw_if rfl rfl oM (by decide) aM ?_|refine ds_seq ?_|refine ds_ops mix (fun base => ?_)|refine ds_skip ?_|refine ds_block ?_)
  refine dw_cf rfl rfl (d_feature (x := r) (w := mW x) (h := mH x) (hf r (List.mem_of_getElem? hr)) (by unfold mW; omega) (by unfold mH; omega)) ?_
  rintro _ rfl
  repeat (first|refine dw_ai rfl rfl rfl ?_)
  refine dw_app (m := 1) (q := ftF (featM r (mW x) (mH x))) rfl rfl rfl (subL_all _ hfl) ⟨rfl, rfl, _, rfl, rfl⟩ oM oM (by decide) rfl ?_
  rw [show out.flatMap ftF ++ ftF (featM r (mW x) (mH x)) = (out ++ [featM r (mW x) (mH x)]).flatMap ftF by simp, show out.length + 1 = (out ++ [featM r (mW x) (mH x)]).length by simp]
  refine dw_fgt rfl ?_
  repeat (first|refine dw_p rfl ?_|refine dw_st rfl rfl rfl rfl rfl (Nat.le_of_ble_eq_true rfl) rfl ?_|refine dw_nil ?_|refine ds_ops mix (fun base => ?_))
  refine ⟨m - 1, by omega, _, _, _, [(3, 5)], ?wk1, i + 1, out ++ [featM r (mW x) (mH x)], by omega, by rw [List.take_add_one, hr, ho]; simp, rfl, rfl, rfl⟩
  case wk1 => exact wkA
 ·rw [itAnd] at ht
  have hi4 : i = min x.f.length 4 := by
   rcases Bool.and_eq_false_iff.1 ht with h|h
   ·have := of_decide_eq_false h
    omega
   ·have := of_decide_eq_false h
    omega
  have ho4 : out = (x.f.take 4).map (fun r => featM r (mW x) (mH x)) := by
   rw [ho, hi4]
   by_cases h4 : x.f.length <= 4
   ·rw [List.take_of_length_le (by omega), List.take_of_length_le h4]
   ·rw [show min x.f.length 4 = 4 by omega]
  clear ho
  repeat (first|refine dw_p rfl ?_|refine dw_l rfl ?_|refine dw_nil ?_|refine ds_seq ?_|refine ds_ops mix (fun base => ?_)|refine ds_exit ?_)
  refine ds_if rfl (fun hz => ?_) (fun hz => ?_)
  ·have hz : out = [] := by
    have h : (out.length : Int) = 0 := by simpa using hz
    exact List.length_eq_zero_iff.1 oM
   have hmF : mF x = [oneF] := by rw [mF, <- ho4, hz]
   clear ho4
   subst hz
   refine ds_keep (SubA.cons (k := 2) rfl (SubA.cons (k := 3) rfl (SubA.nil _))) (SubA.refl _) ?_
   iterate 4 (first|refine dw_p rfl ?_|refine dw_a rfl ?_|refine ds_ops mix (fun base => ?_))
   have hq2 : (ptF (1, 1)).length = 1 * 2 := rfl
   refine dw_frz 4 rfl okZ okZ ?_
   repeat (first|refine dw_p rfl ?_|refine dw_l rfl ?_|refine dw_a rfl ?_|refine dw_st rfl rfl rfl rfl rfl (Nat.le_of_ble_eq_true rfl) rfl ?_|refine dw_nil ?_|refine ds_seq ?_|refine ds_ops mix (fun base => ?_))
   refine ds_keep (SubA.cons (k := 2) rfl (SubA.nil _)) (SubA.cons (k := 1) rfl (SubA.cons (k := 5) rfl (SubA.nil _))) ?_
   have hq3 : (ftF oneF).length = 1 * 3 := rfl
   refine ds_frz 5 rfl okZ okZ ?_
   refine ds_ret ⟨_, rfl, rfl, ?_⟩
   rw [madeP14, hmF]
   rfl
  ·have hz : out ≠ [] := fun h => by
    subst h
    cases hz
   have hmF : mF x = out := by
    rw [mF, <- ho4]
    cases out with
    | nil => exact absurd rfl hz
    | cons => rfl
   have hfl := ftF_len out
   repeat (first|refine dw_l rfl ?_|refine dw_st rfl rfl rfl rfl rfl (Nat.le_of_ble_eq_true rfl) rfl ?_|refine dw_nil ?_|refine ds_seq ?_|refine ds_ops mix (fun base => ?_)|refine ds_skip ?_)
   refine ds_keep (SubA.cons (k := 2) rfl (SubA.nil _)) (SubA.cons (k := 1) rfl (SubA.cons (k := 3) rfl (SubA.nil _))) ?_
   refine ds_frz 3 rfl okZ okZ ?_
   refine ds_ret ⟨_, rfl, rfl, ?_⟩
   rw [madeP14, hmF]
   rfl
def boxL (a : Pt2) : List Pt2 := (List.range 9).flatMap fun (y : Nat) => (List.range 9).map fun (x : Nat) => (a.1 + (x : Int), a.2 + (y : Int))
theorem boxL_len (a : Pt2) : (boxL a).length = 81 := rfl
theorem boxL_mem {a p : Pt2} (h : InBox a (a.1 + 8, a.2 + 8) p) : p ∈ boxL a := by
 obtain ⟨p1, p2⟩ := p
 unfold InBox at h
 simp only at h
 simp only [boxL, List.mem_flatMap, List.mem_map, List.mem_range, Prod.mk.injEq]
 exact ⟨(p2 - a.2).toNat, oM, (p1 - a.1).toNat, oM, oM, oM⟩
theorem pointsF_few {f : Ft} {a : Pt2} (hv : validF f = true) (h : ∀ q ∈ f.pts, InBox a (a.1 + 8, a.2 + 8) q) : (pointsF f).length <= 256 := by
 have := sub_len (pointsF_nodup hv) (b := boxL a) fun p hp => boxL_mem (pointsF_box h p hp)
 rw [boxL_len] at this
 omega
theorem featM_box {x : Rw} {w h : Int} (hx : x.ok) (hw : 0 < w) (hh : 0 < h) : ∀ q ∈ (featM x w h).pts, InBox (fA x w, fB x h) (fA x w + 8, fB x h + 8) q := by
 obtain ⟨⟨_, hx1, hx2⟩, hx3, hx4, _⟩ := hx
 unfold isB at *
 have t1 : 0 <= x.x1.tmod w /\ x.x1.tmod w < w := ⟨Int.tmod_nonneg _ hx1.1, Int.tmod_lt_of_pos _ hw⟩
 have t2 : 0 <= x.x2.tmod h /\ x.x2.tmod h < h := ⟨Int.tmod_nonneg _ hx2.1, Int.tmod_lt_of_pos _ hh⟩
 have t3 : 0 <= x.x3.tmod 8 /\ x.x3.tmod 8 < 8 := ⟨Int.tmod_nonneg _ hx3.1, Int.tmod_lt_of_pos _ oM⟩
 have t4 : 0 <= x.x4.tmod 8 /\ x.x4.tmod 8 < 8 := ⟨Int.tmod_nonneg _ hx4.1, Int.tmod_lt_of_pos _ oM⟩
 have hR : fA x w <= fR x w /\ fR x w <= fA x w + 8 := by unfold fR fA; omega
 have hL : fB x h <= fL x h /\ fL x h <= fB x h + 8 := by unfold fL fB; omega
 have b1 : InBox (fA x w, fB x h) (fA x w + 8, fB x h + 8) (fA x w, fB x h) := by unfold InBox; simp only; omega
 have b2 : InBox (fA x w, fB x h) (fA x w + 8, fB x h + 8) (fR x w, fL x h) := by unfold InBox; simp only; omega
 have b3 : InBox (fA x w, fB x h) (fA x w + 8, fB x h + 8) (fA x w, fL x h) := by unfold InBox; simp only; omega
 have b4 : InBox (fA x w, fB x h) (fA x w + 8, fB x h + 8) (fR x w, fB x h) := by unfold InBox; simp only; omega
 intro q hq
 unfold featM at hq
 split at hq
 ·simp only [List.mem_singleton] at hq
  subst hq
  exact b1
 ·split at hq
  ·simp only [List.mem_append, List.mem_cons, List.not_mem_nil, or_false] at hq
   rcases hq with (rfl|rfl)|hq
   ·exact b1
   ·exact b2
   ·split at hq
    ·simp only [List.mem_singleton] at hq
     subst hq
     exact b3
    ·cases hq
  ·simp only [List.mem_append, List.mem_cons, List.not_mem_nil, or_false] at hq
   rcases hq with (rfl|rfl|rfl)|hq
   ·exact b1
   ·exact b4
   ·exact b2
   ·split at hq
    ·simp only [List.mem_singleton] at hq
     subst hq
     exact b3
    ·cases hq
theorem featM_pts {x : Rw} {w h : Int} : (featM x w h).pts.length <= 4 := by
 unfold featM
 split
 ·exact Nat.le_add_left 1 3
 ·split
  ·split <;> simp
  ·split <;> simp
end Go.Ad

namespace Go.Ad
open Go.Ab
theorem Conn.mono {g g' : Int} {l l' : List Pt2} {p x : Pt2} (h : Conn g l p x) (hg : g <= g') (hl : ∀ y ∈ l, y ∈ l') : Conn g' l' p x := by
 induction h with
 | base h => exact .base (hl _ h)
 | step _ h2 h3 ih => exact .step ih (hl _ h2) oM
theorem Conn.trans {g : Int} {l : List Pt2} {p x y : Pt2} (h1 : Conn g l p x) (h2 : Conn g l x y) : Conn g l p y := by
 induction h2 with
 | base _ => exact h1
 | step _ h2 h3 ih => exact .step ih h2 h3
theorem Conn.symm {g : Int} {l : List Pt2} {p x : Pt2} (h : Conn g l p x) : Conn g l x p := by
 induction h with
 | base h => exact .base h
 | step h1 h2 h3 ih => exact Conn.trans (.step (.base h2) h1.mem (by rw [far_comm]; exact h3)) ih
theorem ClS.mem {g : Int} {l : List Pt2} {cs : List (List Pt2)} (h : ClS g l cs) : ∀ c ∈ cs, ∀ x ∈ c, x ∈ l := by
 induction h with
 | nil => intro c hc; cases hc
 | cons h1 h2 _ ih =>
  intro c hc x hx
  rcases List.mem_cons.1 hc with rfl|hc
  ·exact ((h2 x).1 hx).mem
  ·exact (minus_mem.1 (ih c hc x hx)).1
theorem ClS.cover {g : Int} {l : List Pt2} {cs : List (List Pt2)} (h : ClS g l cs) : ∀ x ∈ l, ∃ c ∈ cs, x ∈ c := by
 induction h with
 | nil => intro c hc; cases hc
 | @cons p r c cs h1 h2 _ ih =>
  intro x hx
  by_cases hc : x ∈ c
  ·exact ⟨c, by simp, hc⟩
  ·obtain ⟨d, hd, hx⟩ := ih x (minus_mem.2 ⟨hx, hc⟩)
   exact ⟨d, by simp [hd], hx⟩
theorem ClS.first {g : Int} {l : List Pt2} {cs : List (List Pt2)} (hl : ByRows l) (h : ClS g l cs) : ∀ c ∈ cs, ∃ p t, c = p :: t /\ ∀ x, x ∈ c ↔ Conn g c p x := by
 induction h with
 | nil => intro c hc; cases hc
 | @cons p r c cs h1 h2 h3 ih =>
  intro d hd
  rcases List.mem_cons.1 hd with rfl|hd
  ·have hp : p ∈ d := (h2 p).2 (.base (by simp))
   have hin : ∀ x, Conn g (p :: r) p x -> Conn g d p x := fun x hx => by
    induction hx with
    | base _ => exact .base hp
    | step k1 k2 k3 ih => exact .step ih ((h2 _).2 (.step k1 k2 k3)) k3
   have hdc : ∀ x, x ∈ d ↔ Conn g d p x := fun x => ⟨fun hx => hin x ((h2 x).1 hx), fun hx => hx.mem⟩
   cases d with
   | nil => cases hp
   | cons a t =>
    have hap : a = p := by
     rcases List.mem_cons.1 hp with e|e
     ·exact e.symm
     ·rw [ByRows, List.pairwise_cons] at h1
      have ha := h1.1 p e
      have hal := ((h2 a).1 (by simp)).mem
      rcases List.mem_cons.1 hal with e2|e2
      ·exact e2
      ·rw [ByRows, List.pairwise_cons] at hl
       exact absurd (before_trans ha (hl.1 a e2)) before_irrefl
    subst hap
    exact ⟨a, t, rfl, hdc⟩
  ·exact ih (hl.minus c) d hd
def hd (c : List Pt2) : Pt2 := c.headD (0, 0)
end Go.Ad

namespace Go.Ad
open Go.Ab Go.Proofs
theorem ClS.conn {g : Int} {l : List Pt2} {cs : List (List Pt2)} (hl : ByRows l) (h : ClS g l cs) {c : List Pt2} (hc : c ∈ cs) {x y : Pt2} (hx : x ∈ c) (hy : y ∈ c) : Conn g c x y := by
 obtain ⟨p, t, _, hp⟩ := h.first hl c hc
 exact ((hp x).1 hx).symm.trans ((hp y).1 hy)
open Classical in
theorem cl1_true {g : Int} {a : List Pt2} : cl1 g a = true ↔ ∃ cs, ClS g (sortedP a) cs /\ cs.length = 1 := by
 unfold cl1
 exact decide_eq_true_iff
theorem cl1_iff {g : Int} {a : List Pt2} (hne : a ≠ []) : cl1 g a = true ↔ ∀ x ∈ a, ∀ y ∈ a, Conn g a x y := by
 rw [cl1_true]
 constructor
 ·rintro ⟨cs, h, h1⟩ x hx y hy
  obtain ⟨k, rfl⟩ := List.length_eq_one_iff.1 h1
  have hin : ∀ z ∈ a, z ∈ k := fun z hz => by
   obtain ⟨c, hc, hz⟩ := h.cover z (sortedP_mem.2 hz)
   rw [List.mem_singleton] at hc
   rw [<- hc]
   exact hz
  exact (h.conn (sortedP_rows _) (c := k) (by simp) (hin x hx) (hin y hy)).mono (Int.le_refl g) fun z hz => sortedP_mem.1 (h.mem k (by simp) z hz)
 ·intro h
  have hm : ∀ z, z ∈ sortedP a ↔ z ∈ a := fun z => sortedP_mem
  have hr := sortedP_rows a
  generalize sortedP a = s at *
  cases s with
  | nil =>
   cases a with
   | nil => exact absurd rfl hne
   | cons x t => exact absurd ((hm x).2 (by simp)) (by simp)
  | cons p r =>
   refine ⟨[p :: r], .cons hr (fun x => ⟨fun hx => ?_, fun hx => hx.mem⟩) ?_, rfl⟩
   ·exact (h p ((hm p).1 (by simp)) x ((hm x).1 hx)).mono (Int.le_refl g) fun z hz => (hm z).2 hz
   ·rw [show minus (p :: r) (p :: r) = [] from List.filter_eq_nil_iff.2 fun x hx => by simp only [decide_eq_true hx]; decide]
    exact .nil
theorem dist_le {a b : List Pt2} (ha : a ≠ []) (hb : b ≠ []) {g : Int} : dist a b <= g ↔ ∃ x ∈ a, ∃ y ∈ b, far x y <= g := by
 obtain ⟨⟨x, hx, y, hy, h1⟩, h2⟩ := dist_spec ha hb
 constructor
 ·intro h; exact ⟨x, hx, y, hy, oM⟩
 ·rintro ⟨x, hx, y, hy, h⟩
  have := h2 x hx y hy
  omega
end Go.Ad

namespace Go.Ad
open Go.Ab Go.Proofs
set_option linter.unusedSimpArgs false
def mv (v q : Pt2) : Pt2 := (q.1 + v.1, q.2 + v.2)
def mvF (v : Pt2) (f : Ft) : Ft := ⟨f.kind, f.tex, f.pts.map (mv v)⟩
theorem far_move (v a b : Pt2) : far (mv v a) (mv v b) = far a b := by simp only [far, mv]; omega
theorem mv_back (v q : Pt2) : mv v (mv (-v.1, -v.2) q) = q := by
 obtain ⟨a1, a2⟩ := q
 simp only [mv, Prod.mk.injEq]
 omega
theorem lineP_move (v a b : Pt2) : lineP (mv v a) (mv v b) = (lineP a b).map (mv v) := by
 refine List.ext_getElem? fun k => ?_
 rw [List.getElem?_map]
 by_cases hk : (k : Int) <= far a b
 ·rw [lineP_at a b hk, lineP_at _ _ (by rw [far_move]; exact hk)]
  exact congrArg some (lineAt_move a b v.1 v.2 k)
 ·have hf := far_nonneg a b
  rw [List.getElem?_eq_none (by rw [lineP_len, far_move]; omega), List.getElem?_eq_none (by rw [lineP_len]; omega)]
  rfl
theorem along_move {v : Pt2} {L : List Pt2} {p : Pt2} : p ∈ alongL (L.map (mv v)) ↔ p ∈ (alongL L).map (mv v) := by
 simp only [List.mem_map, alongL_mem, List.getElem?_map, List.length_map]
 constructor
 ·rintro ⟨i, a, b, hi, ha, hb, hp⟩
  obtain ⟨a', ha', rfl⟩ := Option.map_eq_some_iff.1 ha
  obtain ⟨b', hb', rfl⟩ := Option.map_eq_some_iff.1 hb
  rw [lineP_move, List.mem_map] at hp
  obtain ⟨q, hq, rfl⟩ := hp
  exact ⟨q, ⟨i, a', b', hi, ha', hb', hq⟩, rfl⟩
 ·rintro ⟨q, ⟨i, a, b, hi, ha, hb, hq⟩, rfl⟩
  exact ⟨i, mv v a, mv v b, hi, by rw [ha]; rfl, by rw [hb]; rfl, by rw [lineP_move]; exact List.mem_map.2 ⟨q, hq, rfl⟩⟩
theorem nxt_move {v : Pt2} {L : List Pt2} {i : Nat} : nxt (L.map (mv v)) i = nxt L i := by simp only [nxt, List.length_map]
theorem around_move {v : Pt2} {L : List Pt2} {p : Pt2} : p ∈ aroundL (L.map (mv v)) ↔ p ∈ (aroundL L).map (mv v) := by
 simp only [List.mem_map, aroundL_mem, List.getElem?_map, nxt_move]
 constructor
 ·rintro ⟨i, a, b, ha, hb, hp⟩
  obtain ⟨a', ha', rfl⟩ := Option.map_eq_some_iff.1 ha
  obtain ⟨b', hb', rfl⟩ := Option.map_eq_some_iff.1 hb
  rw [lineP_move, List.mem_map] at hp
  obtain ⟨q, hq, rfl⟩ := hp
  exact ⟨q, ⟨i, a', b', ha', hb', hq⟩, rfl⟩
 ·rintro ⟨q, ⟨i, a, b, ha, hb, hq⟩, rfl⟩
  exact ⟨i, mv v a, mv v b, by rw [ha]; rfl, by rw [hb]; rfl, by rw [lineP_move]; exact List.mem_map.2 ⟨q, hq, rfl⟩⟩
theorem before_move (v a b : Pt2) : before (mv v a) (mv v b) = before a b := by
 have h1 : decide ((mv v a).2 < (mv v b).2) = decide (a.2 < b.2) := decide_eq_decide.2 (by simp only [mv]; omega)
 have h2 : decide ((mv v a).1 < (mv v b).1) = decide (a.1 < b.1) := decide_eq_decide.2 (by simp only [mv]; omega)
 have h3 : ((mv v a).2 == (mv v b).2) = (a.2 == b.2) := by
  rw [Bool.eq_iff_iff, beq_iff_eq, beq_iff_eq]
  simp only [mv]
  omega
 unfold before
 rw [h1, h2, h3]
theorem sorted_move {v : Pt2} {l m : List Pt2} (h : ∀ p, p ∈ m ↔ p ∈ l.map (mv v)) : sortedP m = (sortedP l).map (mv v) := by
 refine ByRows.ext (sortedP_rows m) ?_ fun p => ?_
 ·rw [ByRows, List.pairwise_map]
  exact List.Pairwise.imp (fun {a b} hab => by rw [before_move]; exact hab) (sortedP_rows l)
 ·rw [sortedP_mem, h]
  simp only [List.mem_map, sortedP_mem]
theorem sub_move (x y z : Int) : x + z - (y + z) = x - y := by omega
theorem onP_move (v a b p : Pt2) : onP (mv v a) (mv v b) (mv v p) = onP a b p := by
 have h0 : crs (mv v a) (mv v b) (mv v p) = crs a b p := by simp only [crs, mv, sub_move]
 have h1 : decide (min (mv v a).1 (mv v b).1 <= (mv v p).1) = decide (min a.1 b.1 <= p.1) := decide_eq_decide.2 (by simp only [mv]; omega)
 have h2 : decide ((mv v p).1 <= max (mv v a).1 (mv v b).1) = decide (p.1 <= max a.1 b.1) := decide_eq_decide.2 (by simp only [mv]; omega)
 have h3 : decide (min (mv v a).2 (mv v b).2 <= (mv v p).2) = decide (min a.2 b.2 <= p.2) := decide_eq_decide.2 (by simp only [mv]; omega)
 have h4 : decide ((mv v p).2 <= max (mv v a).2 (mv v b).2) = decide (p.2 <= max a.2 b.2) := decide_eq_decide.2 (by simp only [mv]; omega)
 unfold onP
 rw [h0, h1, h2, h3, h4]
theorem pasP_move (v a b p : Pt2) : pasP (mv v a) (mv v b) (mv v p) = pasP a b p := by
 have h1 : decide ((mv v a).2 <= (mv v p).2) = decide (a.2 <= p.2) := decide_eq_decide.2 (by simp only [mv]; omega)
 have h2 : decide ((mv v b).2 <= (mv v p).2) = decide (b.2 <= p.2) := decide_eq_decide.2 (by simp only [mv]; omega)
 have h3 : ((mv v a).2 < (mv v b).2) = (a.2 < b.2) := propext (by simp only [mv]; omega)
 have e1 : (mv v p).1 - (mv v a).1 = p.1 - a.1 := sub_move _ _ _
 have e2 : (mv v b).2 - (mv v a).2 = b.2 - a.2 := sub_move _ _ _
 have e3 : (mv v p).2 - (mv v a).2 = p.2 - a.2 := sub_move _ _ _
 have e4 : (mv v b).1 - (mv v a).1 = b.1 - a.1 := sub_move _ _ _
 unfold pasP
 simp only [h1, h2, h3, e1, e2, e3, e4]
theorem at0_move {v : Pt2} {L : List Pt2} {i : Nat} (hi : i < L.length) : at0 (L.map (mv v)) i = mv v (at0 L i) := by
 rw [at0, at0, List.getElem?_map, List.getElem?_eq_getElem hi]
 rfl
theorem odds_move {v : Pt2} {L : List Pt2} {p : Pt2} : ∀ {n : Nat}, n <= L.length -> odds (L.map (mv v)) (mv v p) n = odds L p n
 | 0, _ => rfl
 | n + 1, h => by
  rw [odds, odds, odds_move (n := n) (by omega), sPas, sPas, nxt_move, at0_move (by omega), at0_move (nxt_lt (by omega)), pasP_move]
theorem any_congr' {α : Type} {f g : α -> Bool} : ∀ {l : List α}, (∀ x ∈ l, f x = g x) -> l.any f = l.any g
 | [], _ => rfl
 | x :: l, h => by rw [List.any_cons, List.any_cons, h x (by simp), any_congr' (l := l) fun y hy => h y (by simp [hy])]
theorem inP_move {v : Pt2} {L : List Pt2} {p : Pt2} : inP (L.map (mv v)) (mv v p) = inP L p := by
 unfold inP
 rw [List.length_map, odds_move (Nat.le_refl _)]
 congr 1
 refine any_congr' fun i hi => ?_
 have hi := List.mem_range.1 hi
 rw [sOn, sOn, nxt_move, at0_move hi, at0_move (nxt_lt hi), onP_move]
theorem texP_plain {k : Int} (h1 : k ≠ 1) (h2 : k ≠ 2) (p q : Pt2) : texP k p = texP k q := by
 unfold texP
 rw [decide_eq_false h1, decide_eq_false h2]
 rfl
theorem fill_move {v : Pt2} {f : Ft} (hv : ∀ q ∈ f.pts, in60 q = true) (hv' : ∀ q ∈ f.pts.map (mv v), in60 q = true) (h1 : f.tex ≠ 1) (h2 : f.tex ≠ 2) {p : Pt2} : p ∈ fillL (mvF v f) ↔ p ∈ (fillL f).map (mv v) := by
 have hbox : ∀ {L : List Pt2} {q : Pt2}, (∀ q ∈ L, in60 q = true) -> inP L q = true -> in60 q = true := fun {L q} hL hq => by
  have := inP_box (lo := (0, 0)) (hi := (59, 59)) (fun x hx => by
   have g2 := hL x hx
   rw [in60_iff] at g2
   unfold InBox
   simp only
   omega) hq
  unfold InBox at this
  rw [in60_iff]
  simp only at this
  omega
 simp only [fillL, List.mem_map, List.mem_filter, gridL_mem, Bool.and_eq_true, mvF]
 constructor
 ·rintro ⟨h3, h4, h5⟩
  have e := mv_back v p
  rw [<- e, inP_move] at h5
  exact ⟨_, ⟨hbox hv h5, (by rw [texP_plain h1 h2 _ p]; exact h4), h5⟩, e⟩
 ·rintro ⟨q, ⟨h3, h4, h5⟩, rfl⟩
  have h6 : inP (f.pts.map (mv v)) (mv v q) = true := by rw [inP_move]; exact h5
  exact ⟨hbox hv' h6, (by rw [texP_plain h1 h2 _ q]; exact h4), h6⟩
theorem pointsF_move {v : Pt2} {f : Ft} (hv : validF f = true) (hv' : validF (mvF v f) = true) (h1 : f.tex ≠ 1) (h2 : f.tex ≠ 2) : pointsF (mvF v f) = (pointsF f).map (mv v) := by
 unfold pointsF
 rw [show (mvF v f).kind = f.kind from rfl, show (mvF v f).pts = f.pts.map (mv v) from rfl]
 split
 ·rfl
 ·split
  ·exact sorted_move fun p => along_move
  ·refine sorted_move fun p => ?_
   rw [List.map_append, List.mem_append, List.mem_append, around_move, fill_move (valid_pts hv).2.1 (valid_pts hv').2.1 h1 h2]
theorem conn_move {g : Int} {v : Pt2} {a : List Pt2} {x y : Pt2} (h : Conn g a x y) : Conn g (a.map (mv v)) (mv v x) (mv v y) := by
 induction h with
 | base h => exact .base (List.mem_map.2 ⟨_, h, rfl⟩)
 | step _ h2 h3 ih => exact .step ih (List.mem_map.2 ⟨_, h2, rfl⟩) (by rw [far_move]; exact h3)
theorem map_back (v : Pt2) (a : List Pt2) : (a.map (mv v)).map (mv (-v.1, -v.2)) = a := by
 rw [List.map_map]
 refine (List.map_congr_left fun q _ => ?_).trans (List.map_id a)
 obtain ⟨q1, q2⟩ := q
 simp only [Function.comp, mv, id, Prod.mk.injEq]
 omega
theorem cl1_move {g : Int} {v : Pt2} {a : List Pt2} (hne : a ≠ []) : cl1 g (a.map (mv v)) = cl1 g a := by
 have key : ∀ {u : Pt2} {b : List Pt2}, b ≠ [] -> cl1 g b = true -> cl1 g (b.map (mv u)) = true := fun {u b} hb h => by
  refine (cl1_iff (by simpa using hb)).2 fun x hx y hy => ?_
  obtain ⟨x1, hx1, rfl⟩ := List.mem_map.1 hx
  obtain ⟨y1, hy1, rfl⟩ := List.mem_map.1 hy
  exact conn_move ((cl1_iff hb).1 h x1 hx1 y1 hy1)
 rw [Bool.eq_iff_iff]
 refine ⟨fun h => ?_, key hne⟩
 have := key (u := (-v.1, -v.2)) (b := a.map (mv v)) (by simpa using hne) h
 rw [map_back] at this
 exact this
theorem dist_move {v : Pt2} {a b : List Pt2} (ha : a ≠ []) (hb : b ≠ []) : dist (a.map (mv v)) (b.map (mv v)) = dist a b := by
 have ha' : a.map (mv v) ≠ [] := by simpa using ha
 have hb' : b.map (mv v) ≠ [] := by simpa using hb
 obtain ⟨x, hx, y, hy, h⟩ := (dist_le ha hb).1 (Int.le_refl _)
 obtain ⟨x', hx', y', hy', h'⟩ := (dist_le ha' hb').1 (Int.le_refl _)
 obtain ⟨x2, hx2, rfl⟩ := List.mem_map.1 hx'
 obtain ⟨y2, hy2, rfl⟩ := List.mem_map.1 hy'
 rw [far_move] at h'
 have g1 := (dist_le ha hb).2 ⟨x2, hx2, y2, hy2, h'⟩
 have g2 := (dist_le ha' hb').2 ⟨_, List.mem_map.2 ⟨x, hx, rfl⟩, _, List.mem_map.2 ⟨y, hy, rfl⟩, by rw [far_move]; exact h⟩
 omega
theorem tbl_move {v : Pt2} {l : List (List Pt2)} (hne : ∀ a ∈ l, a ≠ []) : tbl (l.map (List.map (mv v))) = tbl l := by
 simp only [tbl, List.map_map]
 refine List.map_congr_left fun a ha => List.map_congr_left fun b hb => ?_
 exact dist_move (hne a ha) (hne b hb)
structure Like (g : Int) (l l' : List (List Pt2)) (F : List Pt2 -> List Pt2) : Prop where
 map : l' = l.map F
 cl : ∀ a ∈ l, cl1 g (F a) = cl1 g a
 ds : ∀ a ∈ l, ∀ b ∈ l, dist (F a) (F b) = dist a b
theorem Like.at {g : Int} {l l' : List (List Pt2)} {F : List Pt2 -> List Pt2} (h : Like g l l' F) {i : Nat} {a' : List Pt2} (ha : l'[i]? = some a') : ∃ a, l[i]? = some a /\ a' = F a := by
 rw [h.map, List.getElem?_map] at ha
 obtain ⟨a, h1, h2⟩ := Option.map_eq_some_iff.1 ha
 exact ⟨a, h1, h2.symm⟩
theorem Like.to {g : Int} {l l' : List (List Pt2)} {F : List Pt2 -> List Pt2} (h : Like g l l' F) {i : Nat} {a : List Pt2} (ha : l[i]? = some a) : l'[i]? = some (F a) := by
 rw [h.map, List.getElem?_map, ha]
 rfl
theorem Chk.like {p q : Pic} {r : Res} {F : List Pt2 -> List Pt2} (h : Chk p r) (hp : validPic p = true) (hq : validPic q = true) (hg : q.gap = p.gap) (hl : Like p.gap (ptsOf p) (ptsOf q) F) : Chk q r := by
 have good1 : Good1 p.gap (ptsOf p) -> Good1 q.gap (ptsOf q) := fun h a ha => by
  obtain ⟨i, hi⟩ := List.getElem?_of_mem ha
  obtain ⟨b, hb, rfl⟩ := hl.at hi
  rw [hg, hl.cl b (List.mem_of_getElem? hb)]
  exact h b (List.mem_of_getElem? hb)
 have nod : ∀ {i k : Nat} {a b : List Pt2}, (∀ a' b', (ptsOf p)[i]? = some a' -> (ptsOf p)[k]? = some b' -> ¬ dist a' b' <= p.gap) -> (ptsOf q)[i]? = some a -> (ptsOf q)[k]? = some b -> ¬ dist a b <= q.gap := fun {i k a b} h ha hb => by
  obtain ⟨a', ha', rfl⟩ := hl.at ha
  obtain ⟨b', hb', rfl⟩ := hl.at hb
  rw [hg, hl.ds a' (List.mem_of_getElem? ha') b' (List.mem_of_getElem? hb')]
  exact h a' b' ha' hb'
 cases h with
 | arg h => exact absurd hp h
 | bad1 i _ hb =>
  obtain ⟨⟨a, ha, h1⟩, h2⟩ := hb
  refine .bad1 i hq ⟨⟨F a, hl.to ha, by rw [hg, hl.cl a (List.mem_of_getElem? ha)]; exact h1⟩, fun j b hj hb => ?_⟩
  obtain ⟨b', hb', rfl⟩ := hl.at hb
  rw [hg, hl.cl b' (List.mem_of_getElem? hb')]
  exact h2 j b' hj hb'
 | bad2 i k _ h1 hb =>
  obtain ⟨⟨a, b, h2, h3, h4, h5⟩, h6⟩ := hb
  refine .bad2 i k hq (good1 h1) ⟨⟨F a, F b, h2, hl.to h3, hl.to h4, by rw [hg, hl.ds a (List.mem_of_getElem? h3) b (List.mem_of_getElem? h4)]; exact h5⟩, fun i' k' a' b' g1 g2 g3 g4 => ?_⟩
  exact nod (fun a b ha hb => h6 i' k' a b g1 g2 ha hb) g3 g4
 | ok _ h1 h2 => exact .ok hq (good1 h1) fun i k a b hik ha hb => nod (fun a' b' ha' hb' => h2 i k a' b' hik ha' hb') ha hb
theorem pointsF_ne {f : Ft} (hv : validF f = true) : pointsF f ≠ [] := fun e => by
 obtain ⟨⟨hn1, _⟩, _⟩ := valid_pts hv
 have h := corner_mem hv (at0_mem (L := f.pts) (i := 0) oM)
 rw [e] at h
 cases h
theorem ptsOf_ne {p : Pic} (hv : validPic p = true) : ∀ a ∈ ptsOf p, a ≠ [] := fun a ha => by
 obtain ⟨f, hf, rfl⟩ := List.mem_map.1 ha
 exact pointsF_ne (validPic_v hv f hf)
theorem mF_mem {x : Raw} {f : Ft} (h : f ∈ mF x) : f = oneF \/ ∃ r ∈ x.f, f = featM r (mW x) (mH x) := by
 unfold mF at h
 split at h
 ·simp only [List.mem_singleton] at h
  exact .inl h
 ·rename_i l hl
  obtain ⟨r, hr, rfl⟩ := List.mem_map.1 h
  exact .inr ⟨r, List.mem_of_mem_take hr, rfl⟩
theorem mF_len (x : Raw) : 1 <= (mF x).length /\ (mF x).length <= 4 := by
 unfold mF
 split
 ·decide
 ·rename_i l hl
  refine ⟨?_, ?_⟩
  ·cases h : (x.f.take 4).map (fun r => featM r (mW x) (mH x)) with
   | nil => exact absurd h hl
   | cons => simp
  ·rw [List.length_map, List.length_take]
   omega
theorem mWH {x : Raw} (hx : x.ok) : (12 <= mW x /\ mW x <= 36) /\ (12 <= mH x /\ mH x <= 36) /\ 2 <= mG x /\ mG x <= 4 := by
 obtain ⟨⟨hw, hh, hg⟩, hf⟩ := hx
 unfold isB at hw hh hg
 have t1 : 0 <= x.w.tmod 13 /\ x.w.tmod 13 < 13 := ⟨Int.tmod_nonneg _ hw.1, Int.tmod_lt_of_pos _ oM⟩
 have t2 : 0 <= x.h.tmod 9 /\ x.h.tmod 9 < 9 := ⟨Int.tmod_nonneg _ hh.1, Int.tmod_lt_of_pos _ oM⟩
 have t3 : 0 <= x.g.tmod 3 /\ x.g.tmod 3 < 3 := ⟨Int.tmod_nonneg _ hg.1, Int.tmod_lt_of_pos _ oM⟩
 unfold mW mH mG
 omega
theorem made_fine (x : Raw) : Fine (madeP14 x) := by
 refine ⟨?_, fun f hf => ?_⟩
 ·have := mF_len x
  show (mF x).length < 1000
  omega
 ·rcases mF_mem hf with rfl|⟨r, _, rfl⟩
  ·decide
  ·have := featM_pts (x := r) (w := mW x) (h := mH x)
   omega
theorem few_one {f : Ft} {q : Pt2} (h1 : f.kind = 1) (h2 : f.pts = [q]) : (pointsF f).length <= 256 := by
 unfold pointsF
 rw [if_pos h1, h2]
 exact Nat.le_add_left 1 255
theorem made_few {x : Raw} (hx : x.ok) : Few (madeP14 x) := fun f hf hv => by
 have hb := mWH hx
 rcases mF_mem hf with rfl|⟨r, hr, rfl⟩
 ·exact few_one (q := (1, 1)) rfl rfl
 ·exact pointsF_few hv (featM_box (hx.2 r hr) oM oM)
theorem aEqs_res (p q : Res) : aEqs [.int .i64 p.1, .int .i64 p.2.1, .int .i64 p.2.2] [.int .i64 q.1, .int .i64 q.2.1, .int .i64 q.2.2] [(0, false), (1, false), (2, false)] = some (decide (p = q)) := by
 obtain ⟨p1, p2, p3⟩ := p
 obtain ⟨q1, q2, q3⟩ := q
 simp only [aEqs, aEq, List.getElem?_cons_zero, List.getElem?_cons_succ, if_true]
 by_cases h1 : p1 = q1
 ·by_cases h2 : p2 = q2
  ·by_cases h3 : p3 = q3
   ·subst h1; subst h2; subst h3; simp
   ·have e3 : (p3 == q3) = false := by simpa using h3
    subst h1; subst h2; simp [h3, e3]
  ·have e2 : (p2 == q2) = false := by simpa using h2
   subst h1; simp [h2, e2]
 ·have e1 : (p1 == q1) = false := by simpa using h1
  simp [h1, e1]
theorem d_eqres {neg : Bool} {E : DEnv} {x y : Opd} {p q : Res} (hx : ro E x = some (resD p)) (hy : ro E y = some (resD q)) : dPure E (.eqs neg [(0, false), (1, false), (2, false)] x y) = some (.bool (match neg with|true => !decide (p = q)|false => decide (p = q))) := by
 have ex : exO E x = some (.agg [.int .i64 p.1, .int .i64 p.2.1, .int .i64 p.2.2]) := by simp [exO, hx, resD, exV, exL, exC]
 have ey : exO E y = some (.agg [.int .i64 q.1, .int .i64 q.2.1, .int .i64 q.2.2]) := by simp [exO, hy, resD, exV, exL, exC]
 simp only [dPure, dEx, PureOp.opds, allB, isEx, ex, ey, Option.isSome_some, PureOp.mp, rx, aPure, Opd.ev, aEqs_res]
 cases neg <;> rfl
theorem d_chk13 {p : Pic} (hF : Fine p) (hw : Few p) : DK 13 [picD p] fun d => ∃ r, Chk p r /\ d = resD r := by
 refine dfn_ok cp13 rfl GHro fun Z0 lo => ?_
 repeat (first|refine dw_l rfl ?_|refine dw_a rfl ?_|refine dw_nil ?_|refine ds_seq ?_|refine ds_ops mix (fun base => ?_))
 refine dw_cf rfl rfl (d_check hF hw) ?_
 rintro _ ⟨r, hr, rfl⟩
 repeat (first|refine dw_p rfl ?_|refine dw_st rfl rfl rfl rfl rfl (Nat.le_of_ble_eq_true rfl) rfl ?_|refine dw_nil ?_|refine ds_seq ?_|refine ds_ops mix (fun base => ?_))
 exact ds_ret ⟨_, rfl, rfl, r, hr, rfl⟩
theorem d_chkU {p : Pic} {r : Res} (hF : Fine p) (hw : Few p) (h : Chk p r) : DK 13 [picD p] fun d => d = resD r := (d_chk13 hF hw).mono fun d => by
 rintro ⟨r', hr, rfl⟩
 rw [hr.uniq h]
theorem d_moved {l : List Pt2} {v : Pt2} (hl : ∀ q ∈ l, Small 1000 q) (hv : Small 1000 v) (hn : l.length < 100000) : DK 26 [ptsD l, ptD v] fun d => d = ptsD (l.map (mv v)) := by
 refine dfn_ok cp26 rfl GHro fun Z0 lo => ?_
 repeat (first|refine dw_p rfl ?_|refine dw_a rfl ?_|refine dw_nil ?_|refine ds_seq ?_|refine ds_ops mix (fun base => ?_)|refine ds_block ?_)
 refine ds_loop (fun m E S nk => ∃ (i : Nat) (out : List Pt2), i + m = l.length /\ out = (l.take i).map (mv v) /\ E = [(0, ptsD l), (3, .one (.ptr 0 0)), (5, .one (.own 1 0 out.length 2)), (6, .int i)] /\ S = [(0, .cells [.f (.c (.int .i64 v.1)), .f (.c (.int .i64 v.2))]), (1, .data (out.flatMap ptF))] /\ nk = 2)
  ⟨l.length, _, _, _, [], ?wk, 0, [], oM, rfl, rfl, rfl, rfl⟩ ?_
 case wk => exact wkA
 rintro m E S nk ⟨i, out, hi, ho, rfl, rfl, rfl⟩
 repeat (first|refine dw_p rfl ?_|refine dw_nil ?_|refine ds_seq ?_|refine ds_ops mix (fun base => ?_))
 refine ds_if rfl (fun hi2 => ?_) (fun hi2 => ?_)
 ·have hi2 : i < l.length := by have := of_decide_eq_true hi2; omega
  obtain ⟨q, hq⟩ : ∃ q, l[i]? = some q := ⟨_, List.getElem?_eq_getElem hi2⟩
  have e1 := ptF_at hq
  have hol : out.length = i := by rw [ho, List.length_map, List.length_take]; omega
  have hfl := ptF_len out
  have hs := hl q (List.mem_of_getElem? hq)
  unfold Small at hs hv
  have w1 : IntKind.i64.wrap (q.1 + v.1) = q.1 + v.1 := dwrap oM oM
  have w2 : IntKind.i64.wrap (q.2 + v.2) = q.2 + v.2 := dwrap oM oM
  repeat (first|refine dw_p rfl ?_|refine dw_l rfl ?_|refine dw_if rfl rfl oM (by decide) aM ?_|refine dw_ai rfl rfl rfl ?_|refine ds_seq ?_|refine ds_ops mix (fun base => ?_)|refine ds_skip ?_|refine ds_block ?_)
  refine dw_app (m := 1) (q := ptF (mv v q)) rfl rfl rfl (subL_all _ hfl) ⟨rfl, rfl, _, rfl, by rw [w1, w2]; rfl⟩ (by omega) (by omega) (by decide) rfl ?_
  rw [show out.flatMap ptF ++ ptF (mv v q) = (out ++ [mv v q]).flatMap ptF by simp, show out.length + 1 = (out ++ [mv v q]).length by simp]
  repeat (first|refine dw_p rfl ?_|refine dw_nil ?_|refine ds_ops mix (fun base => ?_))
  refine ⟨m - 1, by omega, _, _, _, [(1, 3)], ?wk1, i + 1, out ++ [mv v q], by omega, by rw [List.take_add_one, hq, ho]; simp, rfl, rfl, rfl⟩
  case wk1 => exact wkA
 ·have hi2 : i = l.length := by have := of_decide_eq_false hi2; omega
  subst hi2
  rw [List.take_length] at ho
  have hfl := ptF_len out
  repeat (first|refine dw_p rfl ?_|refine dw_nil ?_|refine ds_seq ?_|refine ds_ops mix (fun base => ?_)|refine ds_exit ?_)
  refine ds_keep (SubA.cons (k := 4) rfl (SubA.nil _)) (SubA.cons (k := 1) rfl (SubA.nil _)) ?_
  refine ds_frz 1 rfl okZ okZ ?_
  refine ds_ret ⟨_, rfl, rfl, ?_⟩
  rw [<- ho]
  rfl
def spotF (q : Pt2) : Ft := ⟨1, 0, [q]⟩
def spotsP (l : List Pt2) : Pic := ⟨60, 60, 3, l.map spotF⟩
theorem d_spots {l : List Pt2} (hn : l.length < 1000) : DK 27 [ptsD l] fun d => d = picD (spotsP l) := by
 refine dfn_ok cp27 rfl GHro fun Z0 lo => ?_
 repeat (first|refine dw_p rfl ?_|refine dw_a rfl ?_|refine dw_st rfl rfl rfl rfl rfl (Nat.le_of_ble_eq_true rfl) rfl ?_|refine dw_nil ?_|refine ds_seq ?_|refine ds_ops mix (fun base => ?_)|refine ds_block ?_)
 refine ds_virtD 1 3 3 rfl rfl ?_
 refine ds_loop (fun m E S nk => ∃ (i : Nat) (out : List Ft), i + m = l.length /\ out = (l.take i).map spotF /\ E = [(0, ptsD l), (2, .one (.ptr 0 0)), (3, .one (.ptr 1 0)), (4, .int i)] /\
   S = [(0, .cells [.f (.c (.int .i64 0)), .f (.c (.int .i64 0)), .f (.c (.int .i64 0)), .f (.c .nils)]), (1, .cells [.f (.c (.int .i64 60)), .f (.c (.int .i64 60)), .f (.c (.int .i64 3)), .own 2 0 out.length 3]), (2, .data (out.flatMap ftF))] /\ nk = 3)
  ⟨l.length, _, _, _, [], ?wk, 0, [], oM, rfl, rfl, rfl, rfl⟩ ?_
 case wk => exact wkA
 rintro m E S nk ⟨i, out, hi, ho, rfl, rfl, rfl⟩
 repeat (first|refine dw_p rfl ?_|refine dw_nil ?_|refine ds_seq ?_|refine ds_ops mix (fun base => ?_))
 refine ds_if rfl (fun hi2 => ?_) (fun hi2 => ?_)
 ·have hi2 : i < l.length := by have := of_decide_eq_true hi2; omega
  obtain ⟨q, hq⟩ : ∃ q, l[i]? = some q := ⟨_, List.getElem?_eq_getElem hi2⟩
  have e1 := ptF_at hq
  have hol : out.length = i := by rw [ho, List.length_map, List.length_take]; omega
  have hfl := ftF_len out
  iterate 12 (first|refine dw_p rfl ?_|refine dw_l rfl ?_|refine dw_if rfl rfl oM (by decide) aM ?_|refine dw_ai rfl rfl rfl ?_|refine ds_seq ?_|refine ds_ops mix (fun base => ?_)|refine ds_skip ?_|refine ds_block ?_)
  have hq2 : (ptF q).length = 1 * 2 := rfl
  refine dw_frz 3 rfl okZ okZ ?_
  repeat (first|refine dw_ai rfl rfl rfl ?_)
  refine dw_app (m := 1) (q := ftF (spotF q)) rfl rfl rfl (subL_all _ hfl) ⟨rfl, rfl, _, rfl, rfl⟩ oM oM (by decide) rfl ?_
  rw [show out.flatMap ftF ++ ftF (spotF q) = (out ++ [spotF q]).flatMap ftF by simp, show out.length + 1 = (out ++ [spotF q]).length by simp]
  repeat (first|refine dw_p rfl ?_|refine dw_st rfl rfl rfl rfl rfl (Nat.le_of_ble_eq_true rfl) rfl ?_|refine dw_nil ?_|refine ds_ops mix (fun base => ?_))
  refine ⟨m - 1, by omega, _, _, _, [(2, 5)], ?wk1, i + 1, out ++ [spotF q], by omega, by rw [List.take_add_one, hq, ho]; simp, rfl, rfl, rfl⟩
  case wk1 => exact wkA
 ·have hi2 : i = l.length := by have := of_decide_eq_false hi2; omega
  subst hi2
  rw [List.take_length] at ho
  have hfl := ftF_len out
  repeat (first|refine dw_l rfl ?_|refine dw_st rfl rfl rfl rfl rfl (Nat.le_of_ble_eq_true rfl) rfl ?_|refine dw_nil ?_|refine ds_seq ?_|refine ds_ops mix (fun base => ?_)|refine ds_exit ?_)
  refine ds_keep (SubA.cons (k := 2) rfl (SubA.nil _)) (SubA.cons (k := 0) rfl (SubA.cons (k := 2) rfl (SubA.nil _))) ?_
  refine ds_frz 2 rfl okZ okZ ?_
  refine ds_ret ⟨_, rfl, rfl, ?_⟩
  rw [spotsP, <- ho]
  rfl
def mkT (n : Nat) (f : Nat -> Nat -> Int) : List (List Int) := (List.range n).map fun a => (List.range n).map (f a)
def rI (r : List Int) : List FD := r.map iF
theorem mkT_congr {n : Nat} {f g : Nat -> Nat -> Int} (h : ∀ a b, a < n -> b < n -> f a b = g a b) : mkT n f = mkT n g := by
 unfold mkT
 refine List.map_congr_left fun a ha => List.map_congr_left fun b hb => ?_
 exact h a b (List.mem_range.1 ha) (List.mem_range.1 hb)
theorem mkT_at {n a : Nat} {f : Nat -> Nat -> Int} (h : a < n) : ((mkT n f).map rI)[a]? = some (rI ((List.range n).map (f a))) := by simp [mkT, h]
theorem rI_set {n k : Nat} {g : Nat -> Int} {d : Int} (hk : k < n) : (rI ((List.range n).map g)).set k (iF d) = rI ((List.range n).map fun b => if b = k then d else g b) := by
 refine List.ext_getElem? fun b => ?_
 rw [List.getElem?_set]
 by_cases hb : b < n
 ·by_cases hbk : k = b
  ·subst hbk
   simp [rI, hb]
  ·have hbk' : ¬ b = k := fun e => hbk e.symm
   simp [rI, hb, hbk, hbk']
 ·have hbk : ¬ k = b := by omega
  simp [rI, hb, hbk]
theorem mkT_set {n i k : Nat} {f : Nat -> Nat -> Int} {d : Int} (hi : i < n) (hk : k < n) : ((mkT n f).map rI).set i ((rI ((List.range n).map (f i))).set k (iF d)) = (mkT n fun a b => if a = i /\ b = k then d else f a b).map rI := by
 refine List.ext_getElem? fun a => ?_
 rw [List.getElem?_set, rI_set hk]
 by_cases ha : a < n
 ·by_cases hai : i = a
  ·subst hai
   rw [if_pos rfl, mkT_at ha, if_pos (by simp [mkT]; exact hi)]
   simp
  ·have hai' : ¬ a = i := fun e => hai e.symm
   rw [if_neg hai, mkT_at ha, mkT_at ha]
   simp [hai']
 ·have hai : ¬ i = a := by omega
  rw [if_neg hai, List.getElem?_eq_none (by simp [mkT]; omega), List.getElem?_eq_none (by simp [mkT]; omega)]
def dS (p : Pic) (l : List (List Pt2)) (T : List (List Int)) (rec : Bk) : Bx := [(0, .cells (picC p)), (1, .cells [.f (.sl 1 l.length (l.map ptsF))]), (2, .tree (T.map rI)), (3, .cells [.own 2 0 l.length 1]), (4, .cells [.f (.c (.int .i64 l.length))]), (5, rec)]
def lpD (fid : FuncId) (sg bd : Code) : Bk := .mp (.lp .ready none fid f16.n [3, 4] [32, 33] sg bd) [.ptr 1 0, .ptr 3 0]
def put2 (f : Nat -> Nat -> Int) (i k : Nat) (d : Int) (a b : Nat) : Int := if a = k /\ b = i then d else if a = i /\ b = k then d else f a b
set_option maxHeartbeats 4000000 in
theorem yl_dist {Z0 : Nat -> Prop} {lo anc : Nat} {β0 : Beta} {H1 : Hp} {pc : Pic} {l : List (List Pt2)} {i k : Nat} {a b : List Pt2} {f : Nat -> Nat -> Int} (ha : l[i]? = some a) (hb : l[k]? = some b) (hik : i < k) (hsm : ∀ c ∈ l, (∀ q ∈ c, in60 q = true) /\ c.length <= 256)
  {fid : FuncId} {sg bd : Code} (hsg : cpCode Tryz.prog 0 f16.n sg = some (.seq (.ops f16r11 0) (.ops f16r12 0))) (hbd : cpCode Tryz.prog 0 f16.n bd = some f16b1)
  {base rs : Nat} {Q : DEnv -> Bx -> Nat -> Prop} {r : List SOper} {A : List Nat} {E : DEnv} {S : Bx} {nk : Nat} {id : Nat} {dst : Option Nat} {aid : Option Nat} {ws : List Nat} {keep : Bool} {x y z : Opd}
  (hnk : nk = 6) (hS : SubA (dS pc l (mkT l.length f) (lpD fid sg bd)) S)
  (hx : ro E x = some (.one (.yl 5))) (hvs : ros E [y, z] = some [.int i, .int k]) (hT : noT E = true)
  (h1 : DPW (parK Z0 lo anc β0 H1) base 0 Q r [] A (setD E dst (.bool true)) (dS pc l (mkT l.length (put2 f i k (dist a b))) (lpD fid sg bd)) 6) :
  DPW (parK Z0 lo anc β0 H1) base rs Q (⟨id, dst, .cv x [y, z], none, aid, ws, keep⟩ :: r) [] A E S nk := by
 subst hnk
 have h6 : lk S 5 = some (lpD fid sg bd) := hS 5 _ rfl
 refine dw_yl (R := fun d S' nk' => d = .bool true /\ SubA (dS pc l (mkT l.length (put2 f i k (dist a b))) (lpD fid sg bd)) S' /\ nk' = 6) hx hvs h6 rfl rfl hT hsg hbd (fun ρ Z β H => ?_) ?_
 ·have mixp : ((parK Z0 lo anc β0 H1).round ρ Z 6 β H).P.follows .mixedOrders = true := mix
  refine ds_keep (E0 := [(32, .int i), (33, .int k), (3, .one (.ptr 1 0)), (4, .one (.ptr 3 0))]) (S0 := dS pc l (mkT l.length f) (lpD fid sg bd)) (SubA.cons rfl (SubA.cons rfl (SubA.cons rfl (SubA.cons rfl (SubA.nil _))))) hS ?_
  have e1 := ptsF_at ha
  have e2 := ptsF_at hb
  have hi := (List.getElem?_eq_some_iff.1 ha).1
  have hk := (List.getElem?_eq_some_iff.1 hb).1
  have hsa := hsm a (List.mem_of_getElem? ha)
  have hsb := hsm b (List.mem_of_getElem? hb)
  have e3 := mkT_at (f := f) hi
  have e4 := mkT_at (f := f) hk
  have l1 : k < (rI ((List.range l.length).map (f i))).length := by simp [rI]; exact hk
  have l2 : i < (rI ((List.range l.length).map (f k))).length := by simp [rI]; exact hi
  repeat (first|refine dw_p rfl ?_|refine dw_nil ?_|refine ds_seq ?_|refine ds_ops mix (fun base => ?_))
  refine ⟨rfl, _, _, _, _, _, _, _, _, _, rfl, rfl, ?_⟩
  repeat (first|refine dw_p rfl ?_|refine dw_l rfl ?_|refine dw_if rfl rfl oM (by decide) aM ?_|refine ds_seq ?_|refine ds_ops mix (fun base => ?_)|refine ds_block ?_)
  refine dw_cf rfl rfl (d_distance (smalls60 hsa.1) (smalls60 hsb.1) oM oM) ?_
  rintro _ rfl
  repeat (first|refine dw_p rfl ?_|refine dw_l rfl ?_|refine dw_io1 rfl rfl oM oM ?_|refine dw_it0 rfl rfl oM oM ?_|refine dw_l (dload_tree rfl rfl aM) ?_|refine dw_nil ?_|refine ds_ops mix (fun base => ?_))
  refine dw_stt (i := i) (o := k) (x := iF (dist a b)) rfl rfl rfl e3 l1 rfl ?_
  rw [mkT_set hi hk]
  have e5 := mkT_at (f := fun a' b' => if a' = i /\ b' = k then dist a b else f a' b') hk
  have l3 : i < (rI ((List.range l.length).map ((fun a' b' => if a' = i /\ b' = k then dist a b else f a' b') k))).length := by simp [rI]; exact hi
  repeat (first|refine dw_it0 rfl rfl oM oM ?_)
  refine dw_stt (i := k) (o := i) (x := iF (dist a b)) rfl rfl rfl e5 l3 rfl ?_
  rw [mkT_set hk hi]
  repeat (first|refine dw_nil ?_)
  exact ⟨_, _, _, _, _, _, _, _, _, rfl, rfl, SubA.cons rfl (SubA.cons rfl (SubA.cons rfl (SubA.cons rfl (SubA.cons rfl (SubA.cons rfl (SubA.nil _)))))), rfl⟩
 ·rintro _ S' _ ⟨rfl, hs, rfl⟩
  exact dw_keep (SubA.refl _) hs h1
def fD (l : List (List Pt2)) (i k a b : Nat) : Int := if a ≠ b /\ (min a b < i \/ (min a b = i /\ max a b < k)) then dist ((l[a]?).getD []) ((l[b]?).getD []) else 0
theorem fD_step {l : List (List Pt2)} {i k : Nat} {x y : List Pt2} (hx : l[i]? = some x) (hy : l[k]? = some y) (hik : i < k) (a b : Nat) : put2 (fD l i k) i k (dist x y) a b = fD l i (k + 1) a b := by
 unfold put2 fD
 by_cases h1 : a = k /\ b = i
 ·obtain ⟨rfl, rfl⟩ := h1
  rw [if_pos ⟨rfl, rfl⟩, if_pos (by omega), hx, hy]
  exact dist_comm x y
 ·rw [if_neg h1]
  by_cases h2 : a = i /\ b = k
  ·obtain ⟨rfl, rfl⟩ := h2
   rw [if_pos ⟨rfl, rfl⟩, if_pos (by omega), hx, hy]
   rfl
  ·rw [if_neg h2]
   by_cases h3 : a ≠ b /\ (min a b < i \/ (min a b = i /\ max a b < k))
   ·rw [if_pos h3, if_pos (by omega)]
   ·rw [if_neg h3, if_neg (by omega)]
theorem fD_next {l : List (List Pt2)} {i n a b : Nat} (ha : a < n) (hb : b < n) : fD l i n a b = fD l (i + 1) (i + 2) a b := by
 unfold fD
 by_cases h : a ≠ b /\ (min a b < i \/ (min a b = i /\ max a b < n))
 ·rw [if_pos h, if_pos (by omega)]
 ·rw [if_neg h, if_neg (by omega)]
theorem fD_zero {l : List (List Pt2)} {a b : Nat} : fD l 0 1 a b = 0 := by
 unfold fD
 rw [if_neg (by omega)]
theorem fD_end {l : List (List Pt2)} (hne : ∀ c ∈ l, c ≠ []) : mkT l.length (fD l l.length (l.length + 1)) = tbl l := by
 refine List.ext_getElem? fun a => ?_
 by_cases ha : a < l.length
 ·have e1 : l[a]? = some l[a] := List.getElem?_eq_getElem ha
  simp only [mkT, tbl, List.getElem?_map, List.getElem?_range ha, e1, Option.map_some]
  refine congrArg some (List.ext_getElem? fun b => ?_)
  by_cases hb : b < l.length
  ·have e2 : l[b]? = some l[b] := List.getElem?_eq_getElem hb
   simp only [List.getElem?_map, List.getElem?_range hb, e2, Option.map_some]
   refine congrArg some ?_
   unfold fD
   by_cases hab : a = b
   ·subst hab
    rw [if_neg (by omega)]
    obtain ⟨x, hx⟩ := List.exists_mem_of_ne_nil _ (hne l[a] (List.getElem_mem ha))
    exact ((dist_zero _ _).2 ⟨x, hx, hx⟩).symm
   ·rw [if_pos (by omega), e1, e2]
    rfl
  ·rw [List.getElem?_eq_none (by simp; omega), List.getElem?_eq_none (by simp; omega)]
 ·rw [List.getElem?_eq_none (by simp [mkT]; omega), List.getElem?_eq_none (by simp [tbl]; omega)]
set_option maxHeartbeats 4000000 in
theorem x_dpairs {pc : Pic} {l : List (List Pt2)} (hsm : ∀ c ∈ l, (∀ q ∈ c, in60 q = true) /\ c.length <= 256) (hn : l.length < 1000)
  {fid : FuncId} {sg bd : Code} (hsg : cpCode Tryz.prog 0 f16.n sg = some (.seq (.ops f16r11 0) (.ops f16r12 0))) (hbd : cpCode Tryz.prog 0 f16.n bd = some f16b1) :
  DKX 45 [.one (.yl 5), .one (.ptr 4 0)] (dS pc l (mkT l.length fun _ _ => 0) (lpD fid sg bd)) 6 fun _ S' nk' =>
   S' = dS pc l (mkT l.length (fD l l.length (l.length + 1))) (lpD fid sg bd) /\ nk' = 6 := by
 refine dxk_ok cp45 rfl fun Z β H lo => ?_
 repeat (first|refine dw_p rfl ?_|refine dw_l rfl ?_|refine dw_nil ?_|refine ds_seq ?_|refine ds_ops mix (fun base => ?_)|refine ds_block ?_)
 refine ds_loop (fun m E S nk => ∃ (i : Nat) (T : List (List Int)), i + m = l.length /\ T = mkT l.length (fD l i (i + 1)) /\ E = [(0, .one (.yl 5)), (1, .one (.ptr 4 0)), (5, .int l.length), (6, .int i)] /\ S = dS pc l T (lpD fid sg bd) /\ nk = 6)
  ⟨l.length, _, _, _, [], ?wk, 0, mkT l.length (fun _ _ => 0), oM, mkT_congr (fun a b _ _ => fD_zero.symm), rfl, rfl, rfl⟩ ?_
 case wk => exact wkA
 rintro m E S nk ⟨i, T, hi, rfl, rfl, rfl, rfl⟩
 repeat (first|refine dw_p rfl ?_|refine dw_nil ?_|refine ds_seq ?_|refine ds_ops mix (fun base => ?_))
 refine ds_if rfl (fun ht => ?_) (fun ht => ?_)
 ·have ht : i < l.length := by have := of_decide_eq_true ht; omega
  obtain ⟨a, ha⟩ : ∃ r, l[i]? = some r := ⟨_, List.getElem?_eq_getElem ht⟩
  repeat (first|refine dw_p rfl ?_|refine dw_nil ?_|refine ds_seq ?_|refine ds_ops mix (fun base => ?_)|refine ds_skip ?_|refine ds_block ?_)
  refine ds_loop (fun m E S nk => ∃ (k : Nat) (T : List (List Int)), k + m = l.length /\ i < k /\ T = mkT l.length (fD l i k) /\ E = [(0, .one (.yl 5)), (1, .one (.ptr 4 0)), (3, .int i), (4, .int k), (5, .int l.length), (6, .int i)] /\ S = dS pc l T (lpD fid sg bd) /\ nk = 6)
   ⟨l.length - (i + 1), _, _, _, [], ?wk2, i + 1, _, oM, oM, rfl, rfl, rfl, rfl⟩ ?_
  case wk2 => exact wkA
  rintro m2 E S nk ⟨k, T, hk, hik, rfl, rfl, rfl, rfl⟩
  repeat (first|refine dw_p rfl ?_|refine dw_l rfl ?_|refine dw_nil ?_|refine ds_seq ?_|refine ds_ops mix (fun base => ?_))
  refine ds_if rfl (fun ht2 => ?_) (fun ht2 => ?_)
  ·have ht2 : k < l.length := by have := of_decide_eq_true ht2; omega
   obtain ⟨b, hb⟩ : ∃ r, l[k]? = some r := ⟨_, List.getElem?_eq_getElem ht2⟩
   repeat (first|refine dw_p rfl ?_|refine ds_seq ?_|refine ds_ops mix (fun base => ?_)|refine ds_skip ?_|refine ds_block ?_)
   refine yl_dist (i := i) (k := k) ha hb hik hsm hsg hbd rfl (SubA.refl _) rfl rfl rfl ?_
   rw [mkT_congr fun x y _ _ => fD_step ha hb hik x y]
   repeat (first|refine dw_p rfl ?_|refine dw_nil ?_)
   refine ds_if rfl (fun h => by cases h) (fun _ => ?_)
   repeat (first|refine dw_p rfl ?_|refine dw_nil ?_|refine ds_ops mix (fun base => ?_)|refine ds_skip ?_)
   refine ⟨m2 - 1, oM, _, _, _, [], ?wk3, k + 1, _, oM, oM, rfl, rfl, rfl, rfl⟩
   case wk3 => exact wkA
  ·have ht2 : k = l.length := by have := of_decide_eq_false ht2; omega
   subst ht2
   repeat (first|refine dw_p rfl ?_|refine dw_nil ?_|refine ds_ops mix (fun base => ?_)|refine ds_exit ?_)
   refine ⟨m - 1, oM, _, _, _, [], ?wk4, i + 1, _, oM, mkT_congr (fun x y hx hy => fD_next hx hy), rfl, rfl, rfl⟩
   case wk4 => exact wkA
 ·have ht : i = l.length := by have := of_decide_eq_false ht; omega
  subst ht
  repeat (first|refine ds_exit ?_)
  exact ⟨_, rfl, rfl, _, SubA.refl _, rfl, rfl⟩
theorem reps_i0 (n : Nat) : reps' [.c (.int .i64 0)] n = rI (List.replicate n 0) := by
 induction n with
 | zero => rfl
 | succ n ih => rw [reps', ih]; rfl
theorem mkT_rows {n : Nat} {T : List (List Int)} (hl : T.length = n) (h : ∀ j, j < n -> T[j]? = some (List.replicate n 0)) : T = mkT n fun _ _ => 0 := by
 refine List.ext_getElem? fun a => ?_
 by_cases ha : a < n
 ·rw [h a ha]
  simp [mkT, ha, List.map_const']
 ·rw [List.getElem?_eq_none (by omega), List.getElem?_eq_none (by simp [mkT]; omega)]
theorem rowF_rI (T : List (List Int)) : (T.map rI).map rowF = T.map intsF := by
 rw [List.map_map]
 refine List.map_congr_left fun r _ => ?_
 simp only [Function.comp, rowF, intsF, rI, List.length_map]
set_option maxHeartbeats 4000000 in
theorem d_apdistances {p : Pic} (hF : Fine p) (hw : Few p) : DK 16 [picD p] fun d => d = rowsD (distT p) := by
 refine dfn_ok cp16 rfl GHro fun Z0 lo => ?_
 repeat (first|refine dw_p rfl ?_|refine dw_l rfl ?_|refine dw_a rfl ?_|refine dw_nil ?_|refine ds_seq ?_|refine ds_ops mix (fun base => ?_))
 refine dw_cf rfl rfl (d_apvalid hF) ?_
 rintro _ rfl
 repeat (first|refine dw_p rfl ?_|refine dw_nil ?_)
 refine ds_if rfl (fun hv => ?_) (fun hv => ?_)
 ·have hv : ¬ validPic p = true := by simpa using hv
  repeat (first|refine dw_p rfl ?_|refine dw_nil ?_|refine ds_seq ?_|refine ds_ops mix (fun base => ?_))
  refine ds_nil 2 1 rfl ?_
  refine ds_ret ⟨_, rfl, rfl, ?_⟩
  rw [distT, if_neg hv]
  rfl
 ·have hv : validPic p = true := by simpa using hv
  have hT : distT p = tbl (ptsOf p) := by rw [distT, if_pos hv]
  have hsm : ∀ l ∈ ptsOf p, (∀ q ∈ l, in60 q = true) /\ l.length <= 256 := fun l hl => by
   refine ⟨(ptsOf_small hv l hl).1, ?_⟩
   obtain ⟨f, hf, rfl⟩ := List.mem_map.1 hl
   exact hw f hf (validPic_v hv f hf)
  have hpl : (ptsOf p).length = p.fs.length := by simp [ptsOf]
  have hl8 := (validPic_fs hv).1
  have hne := ptsOf_ne hv
  repeat (first|refine dw_l rfl ?_|refine ds_seq ?_|refine ds_ops mix (fun base => ?_)|refine ds_skip ?_)
  refine dw_cf rfl rfl (d_appoints (validPic_v hv) oM) ?_
  rintro _ rfl
  rw [hT]
  generalize ptsOf p = l at *
  repeat (first|refine dw_p rfl ?_|refine dw_l rfl ?_|refine dw_a rfl ?_|refine dw_st rfl rfl rfl rfl rfl (Nat.le_of_ble_eq_true rfl) rfl ?_|refine dw_nil ?_|refine ds_seq ?_|refine ds_ops mix (fun base => ?_))
  refine dw_mkt (n := l.length) rfl rfl oM oM ?_
  repeat (first|refine dw_p rfl ?_|refine dw_l rfl ?_|refine dw_a rfl ?_|refine dw_st rfl rfl rfl rfl rfl (Nat.le_of_ble_eq_true rfl) rfl ?_|refine dw_nil ?_|refine ds_seq ?_|refine ds_ops mix (fun base => ?_)|refine ds_block ?_)
  refine ds_loop (fun m E S nk => ∃ (i : Nat) (T : List (List Int)), i + m = l.length /\ T.length = l.length /\ (∀ j, j < i -> T[j]? = some (List.replicate l.length 0)) /\ E = [(1, .one (.ptr 0 0)), (3, .one (.ptr 1 0)), (4, .one (.ptr 3 0)), (18, .int l.length), (19, .int i)] /\ S = [(0, .cells (picC p)), (1, .cells [.f (.sl 1 l.length (l.map ptsF))]), (2, .tree (T.map rI)), (3, .cells [.own 2 0 l.length 1])] /\ nk = 4)
   ⟨l.length, _, _, _, [], ?wk, 0, List.replicate l.length [], by omega, by simp, by omega, rfl, rfl, rfl⟩ ?_
  case wk => exact ⟨by repeat (first|exact trivial|refine ⟨rfl, rfl, ?_⟩), by repeat (first|exact trivial|refine ⟨by first|rfl|exact congrArg (fun z => some (Bk.tree z)) (by simp [rI]), rfl, rfl, ?_⟩), rfl, rfl⟩
  rintro m E S nk ⟨i, T, hi, hTl, hTr, rfl, rfl, rfl⟩
  repeat (first|refine dw_p rfl ?_|refine dw_nil ?_|refine ds_seq ?_|refine ds_ops mix (fun base => ?_))
  refine ds_if rfl (fun hi2 => ?_) (fun hi2 => ?_)
  ·have hi2 : i < l.length := by have := of_decide_eq_true hi2; omega
   repeat (first|refine dw_p rfl ?_|refine dw_l rfl ?_|refine dw_nil ?_|refine ds_seq ?_|refine ds_ops mix (fun base => ?_)|refine ds_skip ?_|refine ds_block ?_)
   refine dw_mki [.c (.int .i64 0)] rfl rfl rfl rfl ⟨rfl, rfl, trivial⟩ rfl (by decide) (Nat.le_refl _) oM oM ?_
   repeat (first|refine dw_io1 rfl rfl oM oM ?_)
   refine dw_strow (o := i) rfl rfl rfl rfl (by rw [reps'_len]; simp) (by rw [List.length_map]; omega) rfl ?_
   rw [reps_i0, show (T.map rI).set i (rI (List.replicate l.length 0)) = (T.set i (List.replicate l.length 0)).map rI from List.map_set.symm]
   repeat (first|refine dw_p rfl ?_|refine dw_nil ?_|refine ds_ops mix (fun base => ?_))
   refine ⟨m - 1, by omega, _, _, _, [(2, 5)], ?wk1, i + 1, T.set i (List.replicate l.length 0), by omega, by simpa using hTl, fun j hj => ?_, rfl, rfl, rfl⟩
   case wk1 => exact wkA
   rw [List.getElem?_set]
   split
   ·rw [if_pos (by omega)]
   ·exact hTr j oM
  ·have hi2 : i = l.length := by have := of_decide_eq_false hi2; omega
   subst hi2
   have hTz := mkT_rows hTl hTr
   subst hTz
   repeat (first|refine dw_p rfl ?_|refine dw_l rfl ?_|refine ds_seq ?_|refine ds_ops mix (fun base => ?_)|refine ds_exit ?_)
   refine dw_cfr rfl rfl do_pairs ?_
   rintro _ _ _ ⟨rfl, rfl, rfl⟩
   repeat (first|refine dw_nil ?_|refine ds_block ?_)
   refine ds_keep (SubA.cons (k := 3) rfl (SubA.cons (k := 4) rfl (SubA.cons (k := 31) rfl (SubA.nil _)))) (SubA.cons (k := 0) rfl (SubA.cons (k := 1) rfl (SubA.cons (k := 2) rfl (SubA.cons (k := 3) rfl (SubA.cons (k := 4) rfl (SubA.nil _)))))) ?_
   refine ds_rf rfl [3, 4] rfl (by show isFn Tryz.prog 45 = true; kernel_rfl) rfl rfl (fun fid sg bd hsg hbd => ?_)
   refine DX.sub (S0 := dS p l (mkT l.length fun _ _ => 0) (lpD fid sg bd)) ((x_dpairs hsm oM hsg hbd _ _ _ _ _).mono ?_) (SubA.cons rfl (SubA.cons rfl (SubA.cons rfl (SubA.cons rfl (SubA.cons rfl (SubA.cons rfl (SubA.nil _)))))))
   rintro _ _ _ ⟨rfl, rfl⟩
   refine ⟨_, _, _, _, _, _, _, _, _, rfl, by simp, ?_⟩
   rw [fD_end hne]
   repeat (first|refine dw_p rfl ?_|refine dw_l rfl ?_|refine dw_nil ?_|refine ds_seq ?_|refine ds_ops mix (fun base => ?_))
   refine ds_keep (SubA.cons (k := 2) rfl (SubA.nil _)) (SubA.cons (k := 2) rfl (SubA.nil _)) ?_
   have hlen : l.length = ((tbl l).map rI).length := by simp [tbl]
   refine ds_frzT 2 rfl okZ okZ ?_
   refine ds_ret ⟨_, rfl, rfl, ?_⟩
   rw [rowF_rI]
   show _ = DV.one (.f (.sl 1 (tbl l).length ((tbl l).map intsF)))
   rw [show (tbl l).length = l.length by simp [tbl]]
   rfl
def spo (w h g : Int) (l : List Pt2) : Pic := ⟨w, h, g, l.map spotF⟩
theorem spo_fine {w h g : Int} {l : List Pt2} (hn : l.length < 1000) : Fine (spo w h g l) := by
 refine ⟨by simpa [spo] using hn, fun f hf => ?_⟩
 obtain ⟨q, _, rfl⟩ := List.mem_map.1 hf
 exact Nat.lt_of_lt_of_le (Nat.lt_succ_self 1) (Nat.le_add_left 2 998)
theorem spo_few {w h g : Int} {l : List Pt2} : Few (spo w h g l) := fun f hf _ => by
 obtain ⟨q, _, rfl⟩ := List.mem_map.1 hf
 exact few_one (q := q) rfl rfl
theorem cl1_single {g : Int} {q : Pt2} : cl1 g [q] = true := (cl1_iff (by simp)).2 fun x hx y hy => by
 rw [List.mem_singleton] at hx hy
 subst hx
 subst hy
 exact .base (by simp)
theorem spo_good {w h g : Int} {l : List Pt2} {k : Int} : Good1 k (ptsOf (spo w h g l)) := fun a ha => by
 obtain ⟨f, hf, rfl⟩ := List.mem_map.1 ha
 obtain ⟨q, _, rfl⟩ := List.mem_map.1 hf
 exact cl1_single
theorem chk_far : Chk (spo 60 60 3 [(0, 0), (4, 0)]) (0, 0, 0) := .ok (by decide) spo_good fun i k a b hik ha hb => by
 have hk := (List.getElem?_eq_some_iff.1 hb).1
 have hk : k < 2 := hk
 obtain rfl : i = 0 := by omega
 obtain rfl : k = 1 := by omega
 rw [<- Option.some.inj ha, <- Option.some.inj hb]
 decide
theorem chk_two {q : Pt2} (hv : validPic (spo 60 60 3 [(0, 0), q]) = true) (hd : dist [(0, 0)] [q] <= 3) : Chk (spo 60 60 3 [(0, 0), q]) (0, 1, 140) :=
 .bad2 0 1 hv spo_good ⟨⟨[(0, 0)], [q], oM, rfl, rfl, hd⟩, fun i' k' a b h1 h2 => oM⟩
theorem dist_far : distT (spo 60 60 3 [(0, 0), (4, 0)]) = [[0, 4], [4, 0]] := by decide
theorem d_spots0 : DK 27 [.one (.f (.c .nils))] fun d => d = picD (spo 60 60 3 []) := fun H Z args hw hz hg ha => by
 refine d_spots (l := []) (by decide) H Z args hw hz hg ?_
 match args, ha with
 | [v], ⟨⟨c, hv, hc⟩, _⟩ =>
  refine ⟨⟨c, hv, ?_⟩, trivial⟩
  cases hc
  exact (RF.nil 2 : RF Z H (.sl 2 0 []) .nils)
set_option maxHeartbeats 4000000 in
theorem d_sanity : DK 9 [] fun d => d = .bool true := by
 refine dfn_ok cp9 rfl GHro fun Z0 lo => ?_
 repeat (first|refine dw_p rfl ?_|refine dw_a rfl ?_|refine dw_nil ?_|refine ds_seq ?_|refine ds_ops mix (fun base => ?_))
 refine dw_frz 0 rfl okZ okZ ?_
 refine dw_cf rfl rfl (d_spots (l := [(0, 0), (4, 0)]) (by decide)) ?_
 rintro _ rfl
 repeat (first|refine dw_p rfl ?_|refine dw_a rfl ?_)
 refine dw_frz 1 rfl okZ okZ ?_
 refine dw_cf rfl rfl (d_spots (l := [(0, 0), (3, 0)]) (by decide)) ?_
 rintro _ rfl
 repeat (first|refine dw_p rfl ?_|refine dw_a rfl ?_)
 refine dw_frz 2 rfl okZ okZ ?_
 refine dw_cf rfl rfl (d_spots (l := [(0, 0), (0, 0)]) (by decide)) ?_
 rintro _ rfl
 iterate 7 (first|refine dw_a rfl ?_|refine dw_st rfl rfl rfl rfl rfl (Nat.le_of_ble_eq_true rfl) rfl ?_|refine dw_nil ?_)
 refine ds_keep (E0 := [(1, .one (.ptr 3 0)), (2, .one (.ptr 4 0)), (3, .one (.ptr 5 0))])
  (S0 := [(3, .cells (picC (spo 60 60 3 [(0, 0), (4, 0)]))), (4, .cells (picC (spo 60 60 3 [(0, 0), (3, 0)]))), (5, .cells (picC (spo 60 60 3 [(0, 0), (0, 0)])))])
  (SubA.cons rfl (SubA.cons rfl (SubA.cons rfl (SubA.nil _)))) (SubA.cons rfl (SubA.cons rfl (SubA.cons rfl (SubA.nil _)))) ?_
 repeat (first|refine dw_p rfl ?_|refine dw_lk rfl ?_|refine dw_ai rfl rfl rfl ?_|refine ds_seq ?_|refine ds_ops mix (fun base => ?_))
 refine dw_frz 6 rfl okZ okZ ?_
 refine dw_cf rfl rfl (d_spots (l := [(0, 59)]) (by decide)) ?_
 rintro _ rfl
 iterate 7 (first|refine dw_ai rfl rfl rfl ?_|refine dw_st rfl rfl rfl rfl rfl (Nat.le_of_ble_eq_true rfl) rfl ?_|refine dw_nil ?_)
 refine ds_keep (E0 := [(1, .one (.ptr 3 0)), (2, .one (.ptr 4 0)), (3, .one (.ptr 5 0)), (4, .one (.ptr 7 0)), (5, .one (.ptr 8 0)), (6, .one (.ptr 9 0))])
  (S0 := [(3, .cells (picC (spo 60 60 3 [(0, 0), (4, 0)]))), (4, .cells (picC (spo 60 60 3 [(0, 0), (3, 0)]))), (5, .cells (picC (spo 60 60 3 [(0, 0), (0, 0)]))), (7, .cells (picC (spo 60 60 3 [(0, 0), (4, 0)]))), (8, .cells (picC (spo 60 60 3 [(0, 0), (4, 0)]))), (9, .cells (picC (spo 60 60 3 [(0, 59)])))])
  (SubA.cons rfl (SubA.cons rfl (SubA.cons rfl (SubA.cons rfl (SubA.cons rfl (SubA.cons rfl (SubA.nil _))))))) (SubA.cons rfl (SubA.cons rfl (SubA.cons rfl (SubA.cons rfl (SubA.cons rfl (SubA.cons rfl (SubA.nil _))))))) ?_
 iterate 15 (first|refine dw_p rfl ?_|refine dw_a rfl ?_|refine dw_st rfl rfl rfl rfl rfl (Nat.le_of_ble_eq_true rfl) rfl ?_|refine dw_nil ?_|refine ds_seq ?_|refine ds_ops mix (fun base => ?_))
 refine ds_keep (E0 := [(1, .one (.ptr 3 0)), (2, .one (.ptr 4 0)), (3, .one (.ptr 5 0)), (4, .one (.ptr 7 0)), (5, .one (.ptr 8 0)), (6, .one (.ptr 9 0)), (7, .one (.ptr 10 0))])
  (S0 := [(3, .cells (picC (spo 60 60 3 [(0, 0), (4, 0)]))), (4, .cells (picC (spo 60 60 3 [(0, 0), (3, 0)]))), (5, .cells (picC (spo 60 60 3 [(0, 0), (0, 0)]))), (7, .cells (picC (spo 60 60 7 [(0, 0), (4, 0)]))), (8, .cells (picC (spo 5 60 3 [(0, 0), (4, 0)]))), (9, .cells (picC (spo 60 30 3 [(0, 59)]))), (10, .cells [.f (.c (.int .i64 0)), .f (.c (.int .i64 0)), .f (.c (.int .i64 1))])])
  (SubA.cons rfl (SubA.cons rfl (SubA.cons rfl (SubA.cons rfl (SubA.cons rfl (SubA.cons rfl (SubA.cons rfl (SubA.nil _)))))))) (SubA.cons rfl (SubA.cons rfl (SubA.cons rfl (SubA.cons rfl (SubA.cons rfl (SubA.cons rfl (SubA.cons rfl (SubA.nil _)))))))) ?_
 repeat (first|refine dw_l rfl ?_|refine ds_seq ?_|refine ds_ops mix (fun base => ?_))
 refine dw_cf rfl rfl (d_chkU (p := (spo 60 60 3 [(0, 0), (4, 0)])) (spo_fine (by decide)) spo_few chk_far) ?_
 rintro _ rfl
 iterate 1 (first|refine dw_p rfl ?_)
 refine dw_pB (d_eqres (p := (0, 0, 0)) (q := (0, 0, 0)) rfl rfl) (b := true) (by decide) ?_
 repeat (first|refine dw_want rfl rfl ?_|refine dw_p rfl ?_|refine dw_l rfl ?_)
 refine dw_cf rfl rfl (d_apdistances (p := (spo 60 60 3 [(0, 0), (4, 0)])) (spo_fine (by decide)) spo_few) ?_
 rintro _ rfl
 rw [dist_far]
 iterate 4 (first|refine dw_want rfl rfl ?_|refine dw_a rfl ?_)
 refine dw_frz 11 rfl okZ okZ ?_
 refine dw_frz 12 rfl okZ okZ ?_
 repeat (first|refine dw_want rfl rfl ?_|refine dw_a rfl ?_)
 refine dw_frz 13 rfl okZ okZ ?_
 refine dw_cf rfl rfl (d_samerows (A := [[0, 4], [4, 0]]) (B := [[0, 4], [4, 0]]) (by decide) (by decide)) ?_
 rintro _ rfl
 rw [show decide (([[0, 4], [4, 0]] : List (List Int)) = [[0, 4], [4, 0]]) = true from rfl]
 repeat (first|refine dw_want rfl rfl ?_|refine dw_pickT rfl rfl ?_|refine dw_p rfl ?_|refine dw_l rfl ?_)
 refine dw_cf rfl rfl (d_chkU (p := (spo 60 60 3 [(0, 0), (3, 0)])) (r := (0, 1, 140)) (spo_fine (by decide)) spo_few (chk_two (by decide) (by decide))) ?_
 rintro _ rfl
 iterate 3 (first|refine dw_want rfl rfl ?_|refine dw_p rfl ?_)
 refine dw_pB (d_eqres (p := (0, 1, 140)) (q := (0, 1, 140)) rfl rfl) (b := true) (by decide) ?_
 repeat (first|refine dw_want rfl rfl ?_|refine dw_pickT rfl rfl ?_|refine dw_p rfl ?_|refine dw_l rfl ?_)
 refine dw_cf rfl rfl (d_chkU (p := (spo 60 60 3 [(0, 0), (0, 0)])) (r := (0, 1, 140)) (spo_fine (by decide)) spo_few (chk_two (by decide) (by decide))) ?_
 rintro _ rfl
 iterate 3 (first|refine dw_want rfl rfl ?_|refine dw_p rfl ?_)
 refine dw_pB (d_eqres (p := (0, 1, 140)) (q := (0, 1, 140)) rfl rfl) (b := true) (by decide) ?_
 repeat (first|refine dw_want rfl rfl ?_|refine dw_pickT rfl rfl ?_|refine dw_p rfl ?_|refine dw_lk rfl ?_|refine dw_nil ?_|refine ds_seq ?_|refine ds_ops mix (fun base => ?_))
 refine dw_cf rfl rfl d_spots0 ?_
 rintro _ rfl
 repeat (first|refine dw_want rfl rfl ?_)
 refine dw_cf rfl rfl (d_chkU (p := (spo 60 60 3 [])) (r := (0, 0, 1)) (spo_fine (by decide)) spo_few (.arg (by decide))) ?_
 rintro _ rfl
 iterate 1 (first|refine dw_want rfl rfl ?_)
 refine dw_pB (d_eqres (p := (0, 0, 1)) (q := (0, 0, 1)) rfl rfl) (b := true) (by decide) ?_
 repeat (first|refine dw_want rfl rfl ?_|refine dw_pickT rfl rfl ?_|refine dw_p rfl ?_|refine dw_l rfl ?_|refine dw_lk rfl ?_)
 refine dw_cf rfl rfl (d_chkU (p := (spo 60 60 7 [(0, 0), (4, 0)])) (r := (0, 0, 1)) (spo_fine (by decide)) spo_few (.arg (by decide))) ?_
 rintro _ rfl
 iterate 1 (first|refine dw_want rfl rfl ?_)
 refine dw_pB (d_eqres (p := (0, 0, 1)) (q := (0, 0, 1)) rfl rfl) (b := true) (by decide) ?_
 repeat (first|refine dw_want rfl rfl ?_|refine dw_pickT rfl rfl ?_|refine dw_p rfl ?_|refine dw_l rfl ?_|refine dw_lk rfl ?_)
 refine dw_cf rfl rfl (d_chkU (p := (spo 5 60 3 [(0, 0), (4, 0)])) (r := (0, 0, 1)) (spo_fine (by decide)) spo_few (.arg (by decide))) ?_
 rintro _ rfl
 iterate 1 (first|refine dw_want rfl rfl ?_)
 refine dw_pB (d_eqres (p := (0, 0, 1)) (q := (0, 0, 1)) rfl rfl) (b := true) (by decide) ?_
 repeat (first|refine dw_want rfl rfl ?_|refine dw_pickT rfl rfl ?_|refine dw_p rfl ?_|refine dw_l rfl ?_|refine dw_lk rfl ?_)
 refine dw_cf rfl rfl (d_chkU (p := (spo 60 30 3 [(0, 59)])) (r := (0, 0, 1)) (spo_fine (by decide)) spo_few (.arg (by decide))) ?_
 rintro _ rfl
 iterate 1 (first|refine dw_want rfl rfl ?_)
 refine dw_pB (d_eqres (p := (0, 0, 1)) (q := (0, 0, 1)) rfl rfl) (b := true) (by decide) ?_
 repeat (first|refine dw_want rfl rfl ?_|refine dw_pickT rfl rfl ?_|refine dw_p rfl ?_|refine dw_l rfl ?_)
 refine dw_cf rfl rfl (d_apdistances (p := (spo 60 30 3 [(0, 59)])) (spo_fine (by decide)) spo_few) ?_
 rintro _ rfl
 rw [show distT (spo 60 30 3 [(0, 59)]) = [] from by decide]
 repeat (first|refine dw_want rfl rfl ?_|refine dw_pickT rfl rfl ?_|refine dw_p rfl ?_|refine dw_l rfl ?_)
 refine dw_cf rfl rfl (d_apvalid (p := (spo 60 60 3 [(0, 0), (4, 0)])) (spo_fine (by decide))) ?_
 rintro _ rfl
 rw [show validPic (spo 60 60 3 [(0, 0), (4, 0)]) = true from by decide]
 repeat (first|refine dw_want rfl rfl ?_|refine dw_pickT rfl rfl ?_|refine dw_p rfl ?_|refine dw_l rfl ?_)
 refine dw_cf rfl rfl (d_apvalid (p := (spo 60 30 3 [(0, 59)])) (spo_fine (by decide))) ?_
 rintro _ rfl
 rw [show validPic (spo 60 30 3 [(0, 59)]) = false from by decide]
 repeat (first|refine dw_want rfl rfl ?_|refine dw_pickT rfl rfl ?_|refine dw_p rfl ?_|refine dw_nil ?_)
 exact ds_ret ⟨_, rfl, rfl, rfl⟩
theorem made_box {x : Raw} (hx : x.ok) : ∀ f ∈ (madeP14 x).fs, ∃ a : Pt2, (0 <= a.1 /\ a.1 < 60 /\ 0 <= a.2 /\ a.2 < 60) /\ ∀ q ∈ f.pts, InBox a (a.1 + 8, a.2 + 8) q := fun f hf => by
 have hb := mWH hx
 rcases mF_mem hf with rfl|⟨r, hr, rfl⟩
 ·refine ⟨(1, 1), by decide, fun q hq => ?_⟩
  have hq : q ∈ [((1 : Int), (1 : Int))] := hq
  rw [List.mem_singleton] at hq
  subst hq
  unfold InBox
  decide
 ·obtain ⟨⟨_, h1, h2⟩, _⟩ := hx.2 r hr
  unfold isB at h1 h2
  refine ⟨(fA r (mW x), fB r (mH x)), ?_, featM_box (hx.2 r hr) oM oM⟩
  have t1 : 0 <= fA r (mW x) /\ fA r (mW x) < mW x := ⟨Int.tmod_nonneg _ h1.1, Int.tmod_lt_of_pos _ oM⟩
  have t2 : 0 <= fB r (mH x) /\ fB r (mH x) < mH x := ⟨Int.tmod_nonneg _ h2.1, Int.tmod_lt_of_pos _ oM⟩
  simp only
  omega
def mvP (w h : Int) (p : Pic) (v : Pt2) : Pic := ⟨w, h, p.gap, p.fs.map (mvF v)⟩
theorem mv_few {w h : Int} {p : Pic} {v : Pt2} (hb : ∀ f ∈ p.fs, ∃ a : Pt2, (0 <= a.1 /\ a.1 < 60 /\ 0 <= a.2 /\ a.2 < 60) /\ ∀ q ∈ f.pts, InBox a (a.1 + 8, a.2 + 8) q) : Few (mvP w h p v) := fun f hf hv => by
 obtain ⟨f0, hf0, rfl⟩ := List.mem_map.1 hf
 obtain ⟨a, _, h⟩ := hb f0 hf0
 refine pointsF_few (a := mv v a) hv fun q hq => ?_
 obtain ⟨q0, hq0, rfl⟩ := List.mem_map.1 hq
 have := h q0 hq0
 unfold InBox at *
 simp only [mv]
 simp only at this
 omega
theorem mv_fine {w h : Int} {p : Pic} {v : Pt2} (hF : Fine p) : Fine (mvP w h p v) := by
 refine ⟨by simpa [mvP] using hF.1, fun f hf => ?_⟩
 obtain ⟨f0, hf0, rfl⟩ := List.mem_map.1 hf
 simpa [mvF] using hF.2 f0 hf0
theorem mv_pts {w h : Int} {p : Pic} {v : Pt2} (ht : ∀ f ∈ p.fs, f.tex ≠ 1 /\ f.tex ≠ 2) (hv : validPic p = true) (hq : validPic (mvP w h p v) = true) : ptsOf (mvP w h p v) = (ptsOf p).map (List.map (mv v)) := by
 simp only [ptsOf, mvP, List.map_map]
 refine List.map_congr_left fun f hf => ?_
 exact pointsF_move (validPic_v hv f hf) (validPic_v hq _ (List.mem_map.2 ⟨f, hf, rfl⟩)) (ht f hf).1 (ht f hf).2
theorem mv_like {w h : Int} {p : Pic} {v : Pt2} (ht : ∀ f ∈ p.fs, f.tex ≠ 1 /\ f.tex ≠ 2) (hv : validPic p = true) (hq : validPic (mvP w h p v) = true) : Like p.gap (ptsOf p) (ptsOf (mvP w h p v)) (List.map (mv v)) :=
 ⟨mv_pts ht hv hq, fun a ha => cl1_move (ptsOf_ne hv a ha), fun a ha b hb => dist_move (ptsOf_ne hv a ha) (ptsOf_ne hv b hb)⟩
set_option maxHeartbeats 4000000 in
theorem d_moves {x : Raw} {w0 w1 : Int} (hx : x.ok) (h0 : isB w0) (h1 : isB w1) : DK 6 [rawD x, .agg [.f (.c (.int .u8 w0)), .f (.c (.int .u8 w1))]] fun d => d = .bool true := by
 refine dfn_ok cp6 rfl GHro fun Z0 lo => ?_
 unfold isB at h0 h1
 have hF := made_fine x
 have hw := made_few hx
 have hbx := made_box hx
 have t0 : 0 <= w0.tmod 4 /\ w0.tmod 4 < 4 := ⟨Int.tmod_nonneg _ h0.1, Int.tmod_lt_of_pos _ oM⟩
 have t1 : 0 <= w1.tmod 3 /\ w1.tmod 3 < 3 := ⟨Int.tmod_nonneg _ h1.1, Int.tmod_lt_of_pos _ oM⟩
 have hX : IntKind.i64.wrap (2 * IntKind.i64.wrap (w0.tmod 4)) = 2 * w0.tmod 4 := by rw [dwrap (n := w0.tmod 4) (by omega) (by omega), dwrap (by omega) (by omega)]
 have hY : IntKind.i64.wrap (3 * IntKind.i64.wrap (w1.tmod 3)) = 3 * w1.tmod 3 := by rw [dwrap (n := w1.tmod 3) (by omega) (by omega), dwrap (by omega) (by omega)]
 repeat (first|refine dw_p rfl ?_|refine dw_a rfl ?_|refine dw_nil ?_|refine ds_seq ?_|refine ds_ops mix (fun base => ?_))
 refine dw_cf rfl rfl d_sanity ?_
 rintro _ rfl
 repeat (first|refine dw_p rfl ?_|refine dw_l rfl ?_|refine dw_nil ?_|refine ds_seq ?_|refine ds_ops mix (fun base => ?_))
 refine dw_cf rfl rfl (d_made hx) ?_
 rintro _ rfl
 generalize madeP14 x = p at *
 iterate 19 (first|refine dw_p rfl ?_|refine dw_l rfl ?_|refine dw_a rfl ?_|refine dw_st rfl rfl rfl rfl rfl (Nat.le_of_ble_eq_true rfl) rfl ?_|refine dw_nil ?_|refine ds_seq ?_|refine ds_ops mix (fun base => ?_))
 rw [hX, hY]
 obtain ⟨v, hv⟩ : ∃ v : Pt2, v = (2 * w0.tmod 4, 3 * w1.tmod 3) := ⟨_, rfl⟩
 have hvs : Small 1000 v := by rw [hv]; unfold Small; simp only; omega
 refine ds_keep (E0 := [(5, .bool true), (6, .one (.ptr 2 0)), (7, .one (.ptr 3 0))])
  (S0 := [(2, .cells (picC p)), (3, .cells [.f (.c (.int .i64 v.1)), .f (.c (.int .i64 v.2))])])
  (SubA.cons rfl (SubA.cons rfl (SubA.cons rfl (SubA.nil _)))) (SubA.cons rfl (SubA.cons (by rw [hv]; rfl) (SubA.nil _))) ?_
 clear hv hX hY t0 t1 h0 h1
 have hvf : ∀ f ∈ p.fs, ∀ q ∈ f.pts, Small 1000 q := fun f hf q hq => by
  obtain ⟨a, ha, h⟩ := hbx f hf
  have := h q hq
  unfold InBox at this
  unfold Small
  simp only at this
  omega
 generalize hW : min (IntKind.i64.wrap (p.w + v.1)) 60 = W'
 generalize hH : min (IntKind.i64.wrap (p.h + v.2)) 60 = H'
 iterate 20 (first|refine dw_min rfl rfl ?_|refine dw_p rfl ?_|refine dw_l rfl ?_|refine dw_a rfl ?_|refine dw_st rfl rfl rfl rfl rfl (Nat.le_of_ble_eq_true rfl) rfl ?_|refine dw_nil ?_|refine ds_seq ?_|refine ds_ops mix (fun base => ?_))
 rw [hW, hH]
 refine ds_virtD 4 3 3 rfl rfl ?_
 refine ds_keep (E0 := [(5, .bool true), (6, .one (.ptr 2 0)), (7, .one (.ptr 3 0)), (8, .one (.ptr 4 0))])
  (S0 := [(2, .cells (picC p)), (3, .cells [.f (.c (.int .i64 v.1)), .f (.c (.int .i64 v.2))]), (4, .cells [.f (.c (.int .i64 W')), .f (.c (.int .i64 H')), .f (.c (.int .i64 p.gap)), .own 5 0 0 3]), (5, .data [])])
  (SubA.cons rfl (SubA.cons rfl (SubA.cons rfl (SubA.cons rfl (SubA.nil _))))) (SubA.cons rfl (SubA.cons rfl (SubA.cons rfl (SubA.cons rfl (SubA.nil _))))) ?_
 have hn := hF.1
 repeat (first|refine dw_p rfl ?_|refine dw_nil ?_|refine ds_seq ?_|refine ds_ops mix (fun base => ?_)|refine ds_block ?_)
 refine ds_loop (fun m E S nk => ∃ (i : Nat) (out : List Ft), i + m = p.fs.length /\ out = (p.fs.take i).map (mvF v) /\ (∀ f ∈ p.fs.take i, f.tex ≠ 1 /\ f.tex ≠ 2) /\ E = [(5, .bool true), (6, .one (.ptr 2 0)), (7, .one (.ptr 3 0)), (8, .one (.ptr 4 0)), (9, .int i)] /\
   S = [(2, .cells (picC p)), (3, .cells [.f (.c (.int .i64 v.1)), .f (.c (.int .i64 v.2))]), (4, .cells [.f (.c (.int .i64 W')), .f (.c (.int .i64 H')), .f (.c (.int .i64 p.gap)), .own 5 0 out.length 3]), (5, .data (out.flatMap ftF))] /\ nk = 6)
  ⟨p.fs.length, _, _, _, [], ?wk, 0, [], by omega, rfl, fun f hf => (by simp at hf), rfl, rfl, rfl⟩ ?_
 case wk => exact wkA
 rintro m E S nk ⟨i, out, hi, ho, ht, rfl, rfl, rfl⟩
 repeat (first|refine dw_p rfl ?_|refine dw_l rfl ?_|refine dw_nil ?_|refine ds_seq ?_|refine ds_ops mix (fun base => ?_))
 refine ds_if rfl (fun hi2 => ?_) (fun hi2 => ?_)
 ·have hi2 : i < p.fs.length := by have := of_decide_eq_true hi2; omega
  obtain ⟨f, hf⟩ : ∃ r, p.fs[i]? = some r := ⟨_, List.getElem?_eq_getElem hi2⟩
  have e1 := ftF_at hf
  have hol : out.length = i := by rw [ho, List.length_map, List.length_take]; omega
  have hfl := ftF_len out
  by_cases h1 : f.tex = 1
  ·have b1 : (f.tex == 1) = true := by simpa using h1
   repeat (first|refine dw_skip rfl rfl ?_|refine dw_pickT rfl rfl ?_|refine dw_pB rfl aM ?_|refine dw_p rfl ?_|refine dw_l rfl ?_|refine dw_if rfl rfl oM (by decide) aM ?_|refine dw_a rfl ?_|refine dw_st rfl rfl rfl rfl rfl (Nat.le_of_ble_eq_true rfl) rfl ?_|refine dw_nil ?_|refine ds_seq ?_|refine ds_ops mix (fun base => ?_)|refine ds_skip ?_|refine ds_block ?_)
   refine ds_if rfl (fun _ => ?_) (fun h => by cases h)
   repeat (first|refine dw_pB rfl aM ?_|refine dw_nil ?_|refine ds_seq ?_|refine ds_ops mix (fun base => ?_))
   exact ds_ret ⟨_, rfl, rfl, rfl⟩
  ·have b1 : (f.tex == 1) = false := by simpa using h1
   by_cases h2 : f.tex = 2
   ·have b2 : (f.tex == 2) = true := by simpa using h2
    repeat (first|refine dw_want rfl rfl ?_|refine dw_pickF rfl rfl ?_|refine dw_pB rfl aM ?_|refine dw_p rfl ?_|refine dw_l rfl ?_|refine dw_if rfl rfl oM (by decide) aM ?_|refine dw_a rfl ?_|refine dw_st rfl rfl rfl rfl rfl (Nat.le_of_ble_eq_true rfl) rfl ?_|refine dw_nil ?_|refine ds_seq ?_|refine ds_ops mix (fun base => ?_)|refine ds_skip ?_|refine ds_block ?_)
    refine ds_if rfl (fun _ => ?_) (fun h => by cases h)
    repeat (first|refine dw_pB rfl aM ?_|refine dw_nil ?_|refine ds_seq ?_|refine ds_ops mix (fun base => ?_))
    exact ds_ret ⟨_, rfl, rfl, rfl⟩
   ·have b2 : (f.tex == 2) = false := by simpa using h2
    have hfn := hF.2 f (List.mem_of_getElem? hf)
    repeat (first|refine dw_want rfl rfl ?_|refine dw_pickF rfl rfl ?_|refine dw_pB rfl aM ?_|refine dw_p rfl ?_|refine dw_l rfl ?_|refine dw_if rfl rfl oM (by decide) aM ?_|refine dw_a rfl ?_|refine dw_st rfl rfl rfl rfl rfl (Nat.le_of_ble_eq_true rfl) rfl ?_|refine dw_nil ?_|refine ds_seq ?_|refine ds_ops mix (fun base => ?_)|refine ds_skip ?_|refine ds_block ?_)
    refine ds_if rfl (fun h => by cases h) (fun _ => ?_)
    repeat (first|refine dw_p rfl ?_|refine dw_l rfl ?_|refine ds_seq ?_|refine ds_ops mix (fun base => ?_)|refine ds_skip ?_)
    refine dw_cf rfl rfl (d_moved (l := f.pts) (v := v) (hvf f (List.mem_of_getElem? hf)) hvs oM) ?_
    rintro _ rfl
    repeat (first|refine dw_p rfl ?_|refine dw_l rfl ?_|refine dw_a rfl ?_|refine dw_st rfl rfl rfl rfl rfl (Nat.le_of_ble_eq_true rfl) rfl ?_|refine dw_nil ?_|refine ds_ops mix (fun base => ?_))
    refine dw_app (m := 1) (q := ftF (mvF v f)) rfl rfl rfl (subL_all _ hfl) ⟨rfl, rfl, _, rfl, rfl⟩ oM oM (by decide) rfl ?_
    rw [show out.flatMap ftF ++ ftF (mvF v f) = (out ++ [mvF v f]).flatMap ftF by simp, show out.length + 1 = (out ++ [mvF v f]).length by simp]
    repeat (first|refine dw_p rfl ?_|refine dw_st rfl rfl rfl rfl rfl (Nat.le_of_ble_eq_true rfl) rfl ?_|refine dw_nil ?_|refine ds_ops mix (fun base => ?_))
    refine ⟨m - 1, by omega, _, _, _, [(5, 8)], ?wk1, i + 1, out ++ [mvF v f], by omega, by rw [List.take_add_one, hf, ho]; simp, ?_, rfl, rfl, rfl⟩
    case wk1 => exact wkA
    intro g hg
    rw [List.take_add_one, hf] at hg
    rcases List.mem_append.1 hg with hg|hg
    ·exact ht g hg
    ·simp only [Option.toList_some, List.mem_singleton] at hg
     subst hg
     exact ⟨h1, h2⟩
 ·have hi2 : i = p.fs.length := by have := of_decide_eq_false hi2; omega
  subst hi2
  rw [List.take_length] at ho ht
  have hfl := ftF_len out
  refine ds_exit ?_
  refine ds_keep (SubA.cons (k := 5) rfl (SubA.cons (k := 6) rfl (SubA.cons (k := 8) rfl (SubA.nil _)))) (SubA.cons (k := 2) rfl (SubA.cons (k := 4) rfl (SubA.cons (k := 5) rfl (SubA.nil _)))) ?_
  refine ds_frz 5 rfl okZ okZ ?_
  subst ho
  refine ds_keep (E0 := [(5, .bool true), (6, .one (.ptr 2 0)), (8, .one (.ptr 4 0))]) (S0 := [(2, .cells (picC p)), (4, .cells (picC (mvP W' H' p v)))])
   (SubA.cons rfl (SubA.cons rfl (SubA.cons rfl (SubA.nil _)))) (SubA.cons rfl (SubA.cons rfl (SubA.nil _))) ?_
  have hFq := mv_fine (w := W') (h := H') (v := v) hF
  have hwq := mv_few (w := W') (h := H') (v := v) hbx
  have hlk := mv_like (w := W') (h := H') (v := v) ht
  have hTT : validPic p = true -> validPic (mvP W' H' p v) = true -> distT (mvP W' H' p v) = distT p := fun hv hq => by
   rw [distT, if_pos hq, distT, if_pos hv, mv_pts ht hv hq, tbl_move (ptsOf_ne hv)]
  have hgq : (mvP W' H' p v).gap = p.gap := rfl
  generalize mvP W' H' p v = q at *
  clear hfl hvf hvs hbx
  repeat (first|refine dw_l rfl ?_|refine ds_seq ?_|refine ds_ops mix (fun base => ?_))
  refine dw_cf rfl rfl (d_rapvalid (p := p) hF) ?_
  rintro _ rfl
  cases hv : validPic p with
  | false =>
   repeat (first|refine dw_skip rfl rfl ?_|refine dw_pickT rfl rfl ?_|refine dw_p rfl ?_|refine dw_nil ?_)
   refine ds_if rfl (fun _ => ?_) (fun h => by cases h)
   repeat (first|refine dw_p rfl ?_|refine dw_nil ?_|refine ds_seq ?_|refine ds_ops mix (fun base => ?_))
   exact ds_ret ⟨_, rfl, rfl, rfl⟩
  | true =>
   repeat (first|refine dw_want rfl rfl ?_|refine dw_p rfl ?_|refine dw_l rfl ?_)
   refine dw_cf rfl rfl (d_rapvalid (p := q) hFq) ?_
   rintro _ rfl
   cases hq : validPic q with
   | false =>
    repeat (first|refine dw_want rfl rfl ?_|refine dw_pickF rfl rfl ?_|refine dw_p rfl ?_|refine dw_nil ?_)
    refine ds_if rfl (fun _ => ?_) (fun h => by cases h)
    repeat (first|refine dw_p rfl ?_|refine dw_nil ?_|refine ds_seq ?_|refine ds_ops mix (fun base => ?_))
    exact ds_ret ⟨_, rfl, rfl, rfl⟩
   | true =>
    have hT : distT p = tbl (ptsOf p) := by rw [distT, if_pos hv]
    have hpl : (ptsOf p).length = p.fs.length := by simp [ptsOf]
    repeat (first|refine dw_want rfl rfl ?_|refine dw_pickF rfl rfl ?_|refine dw_p rfl ?_|refine dw_nil ?_)
    refine ds_if rfl (fun h => by cases h) (fun _ => ?_)
    repeat (first|refine dw_l rfl ?_|refine dw_lk rfl ?_|refine ds_seq ?_|refine ds_ops mix (fun base => ?_)|refine ds_skip ?_)
    refine dw_cf rfl rfl (d_chk13 (p := p) hF hw) ?_
    rintro _ ⟨r, hr, rfl⟩
    refine dw_cf rfl rfl (d_chkU (p := q) hFq hwq (hr.like hv hq hgq (hlk hv hq))) ?_
    rintro _ rfl
    refine dw_pB (d_eqres (p := r) (q := r) rfl rfl) (b := true) (by simp) ?_
    repeat (first|refine dw_want rfl rfl ?_|refine dw_p rfl ?_|refine dw_l rfl ?_|refine dw_lk rfl ?_)
    refine dw_cf rfl rfl (d_apdistances (p := p) hF hw) ?_
    rintro _ rfl
    repeat (first|refine dw_want rfl rfl ?_)
    refine dw_cf rfl rfl (d_apdistances (p := q) hFq hwq) ?_
    rintro _ rfl
    rw [hTT hv hq]
    repeat (first|refine dw_want rfl rfl ?_)
    refine dw_cf rfl rfl (d_samerows (A := distT p) (B := distT p) (by rw [hT]; simp only [tbl, List.length_map]; omega) (fun z hz => ?hz)) ?_
    case hz =>
     rw [hT] at hz
     obtain ⟨a, _, rfl⟩ := List.mem_map.1 hz
     rw [List.length_map]
     omega
    rintro _ rfl
    rw [decide_eq_true (rfl : distT p = distT p)]
    repeat (first|refine dw_want rfl rfl ?_|refine dw_pickT rfl rfl ?_|refine dw_p rfl ?_|refine dw_nil ?_)
    exact ds_ret ⟨_, rfl, rfl, rfl⟩
end Go.Ad

namespace Go.Ad
open Go.Ab Go.Proofs
theorem wf_u8 {n : Int} (h : (Lit.int .u8 n).wf = true) : isB n := by
 simp [Lit.wf, IntKind.min, IntKind.max, IntKind.signed, IntKind.bits] at h
 unfold isB
 omega
def arrT : Ty := .agg (.pair (.int .u8) (.pair (.int .u8) (.pair (.int .u8) (.pair (.int .u8) (.pair (.int .u8) (.pair (.int .u8) .unit))))))
def rawT : Ty := .agg (.pair (.int .u8) (.pair (.int .u8) (.pair (.int .u8) (.pair (.slice arrT) .unit))))
def arrR (y : Int × Int × Int × Int × Int × Int × Unit) : Rw := ⟨y.1, y.2.1, y.2.2.1, y.2.2.2.1, y.2.2.2.2.1, y.2.2.2.2.2.1⟩
def rawR (a : Int × Int × Int × List (Int × Int × Int × Int × Int × Int × Unit) × Unit) : Raw := ⟨a.1, a.2.1, a.2.2.1, a.2.2.2.1.map arrR⟩
theorem rawR_ok {a : rawT.den} (h : Ty.okD rawT a) : (rawR a).ok := by
 obtain ⟨h1, h2, h3, h4, _⟩ := h
 refine ⟨⟨wf_u8 h1, wf_u8 h2, wf_u8 h3⟩, fun r hr => ?_⟩
 obtain ⟨y, hy, rfl⟩ := List.mem_map.1 hr
 obtain ⟨g1, g2, g3, g4, g5, g6, _⟩ := h4.1 y hy
 exact ⟨⟨wf_u8 g1, wf_u8 g2, wf_u8 g3⟩, wf_u8 g4, wf_u8 g5, wf_u8 g6⟩
theorem rawR_d (a : Int × Int × Int × List (Int × Int × Int × Int × Int × Int × Unit) × Unit) : rawD (rawR a) = argD rawT (show rawT.den from a) := by
 obtain ⟨a1, a2, a3, l, u⟩ := a
 have h : ∀ l : List (Int × Int × Int × Int × Int × Int × Unit), (l.map arrR).flatMap rwF = List.flatMap (Ty.fd arrT) l := by
  intro l
  induction l with
  | nil => rfl
  | cons y l ih => rw [List.map_cons, List.flatMap_cons, ih]; rfl
 show DV.agg [.f (.c (.int .u8 a1)), .f (.c (.int .u8 a2)), .f (.c (.int .u8 a3)), .f (.sl 6 (List.map arrR l).length ((List.map arrR l).flatMap rwF))] = _
 rw [h l, List.length_map]
 rfl
end Go.Ad
