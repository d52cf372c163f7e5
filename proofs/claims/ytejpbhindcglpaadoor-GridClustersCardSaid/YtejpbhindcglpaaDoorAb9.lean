/- Deep contracts: the points of a grid. -/
import Derived.Test.YtejpbhindcglpaaDoorAb8
set_option linter.unusedVariables false
set_option linter.unusedSimpArgs false
namespace Go.Ab.Fn
open Go.Ab Go.Proofs
set_option linter.unusedSimpArgs false

def rowPts (d : DotsL) (w y : Nat) : List Pt2 := ((List.range w).filter (dot d · y)).map fun (x : Nat) => ((x : Int), (y : Int))
def pointsP (d : DotsL) (w h : Nat) : List Pt2 := (List.range h).flatMap (rowPts d w)
theorem rowPts_succ (d : DotsL) (x y : Nat) : rowPts d (x + 1) y = rowPts d x y ++ if dot d x y = true then [((x : Int), (y : Int))] else [] := by
  simp only [rowPts, List.range_succ, List.filter_append, List.map_append]
  congr 1
  by_cases h : dot d x y = true
  · simp [h]
  · simp [h]
theorem rowPts_len (d : DotsL) (y : Nat) : ∀ w, (rowPts d w y).length ≤ w
  | 0 => by simp [rowPts]
  | w + 1 => by
    rw [rowPts_succ, List.length_append]
    have := rowPts_len d y w
    split <;> simp <;> omega
theorem pointsP_succ (d : DotsL) (w y : Nat) : pointsP d w (y + 1) = pointsP d w y ++ rowPts d w y := by simp [pointsP, List.range_succ]
theorem pointsP_len (d : DotsL) (w : Nat) : ∀ h, (pointsP d w h).length ≤ h * w
  | 0 => by simp [pointsP]
  | h + 1 => by
    have h1 := pointsP_len d w h
    have h2 := rowPts_len d h w
    rw [pointsP_succ, List.length_append, Nat.add_mul]
    omega

set_option maxHeartbeats 4000000 in
theorem d_points {w h : Nat} {d : DotsL} (hw : w ≤ 200) (hh : h ≤ 200) (hd : Sz w h d) : DK 34 [gridD w h d] fun r => r = ptsD (pointsP d w h) := by
  refine dfn_ok cp34 rfl GHro fun Z0 lo => ?_
  have hl := hd.1
  repeat (first | refine dw_p rfl ?_ | refine dw_l rfl ?_ | refine dw_a rfl ?_ | refine dw_nil ?_ | refine ds_seq ?_ | refine ds_ops mix (fun base => ?_) | refine ds_block ?_)
  refine ds_virt 3 2 rfl ?_
  refine ds_loop (fun k E S nk => ∃ y : Nat, y + k = h ∧ E = [(3, .one (.own 0 0 (pointsP d w y).length 2)), (9, .one (.f (.sl 1 d.length ((rowsF d).map rowF)))), (10, .int d.length), (11, .int y)] ∧ S = [(0, .data ((pointsP d w y).flatMap ptF))] ∧ nk = 1) ⟨h, _, _, _, [(0, 1)], ?wk, 0, by omega, rfl, rfl, rfl⟩ ?_
  case wk => exact ⟨by repeat (first | exact trivial | refine ⟨by first | rfl | exact congrArg (fun z => some (DV.int z)) (dwrap (by omega) (by omega)), rfl, ?_⟩), by repeat (first | exact trivial | refine ⟨by first | rfl | exact congrArg (fun z => some (Bk.data z)) (by assumption), rfl, rfl, ?_⟩), rfl, rfl⟩
  rintro k E S nk ⟨y, hy, rfl, rfl, rfl⟩
  have hpl : (pointsP d w y).length ≤ 200 * 200 := Nat.le_trans (pointsP_len d w y) (Nat.mul_le_mul (by omega) hw)
  repeat (first | refine dw_p rfl ?_ | refine dw_nil ?_ | refine ds_seq ?_ | refine ds_ops mix (fun base => ?_))
  refine ds_if rfl (fun ht => ?_) (fun ht => ?_)
  · simp at ht
    obtain ⟨r, hr, hrl⟩ := hd.row (y := y) (by omega)
    have e1 := rowF_at (rowsF_at hr)
    repeat (first | refine dw_p rfl ?_ | refine dw_l rfl ?_ | refine dw_if rfl rfl (by omega) (by decide) (by assumption) ?_ | refine dw_nil ?_ | refine ds_seq ?_ | refine ds_ops mix (fun base => ?_) | refine ds_skip ?_ | refine ds_block ?_)
    refine ds_loop (fun k2 E S nk => ∃ x : Nat, x + k2 = w ∧ ∃ l : List Pt2, l = pointsP d w y ++ rowPts d x y ∧ E = [(3, .one (.own 0 0 l.length 2)), (4, .int y), (9, .one (.f (.sl 1 d.length ((rowsF d).map rowF)))), (10, .int d.length), (11, .int y), (16, .one (.f (rowF (r.map boF)))), (17, .int (r.map boF).length), (18, .int x)] ∧ S = [(0, .data (l.flatMap ptF))] ∧ nk = 1) ⟨w, _, _, _, [], ?wk1, 0, by omega, pointsP d w y, by simp [rowPts], rfl, rfl, rfl⟩ ?_
    case wk1 => exact ⟨by repeat (first | exact trivial | refine ⟨by first | rfl | exact congrArg (fun z => some (DV.int z)) (dwrap (by omega) (by omega)), rfl, ?_⟩), by repeat (first | exact trivial | refine ⟨by first | rfl | exact congrArg (fun z => some (Bk.data z)) (by assumption), rfl, rfl, ?_⟩), rfl, rfl⟩
    rintro k2 E S nk ⟨x, hx, l, hll, rfl, rfl, rfl⟩
    have hl2 : l.length ≤ 200 * 200 + 200 := by
      have := rowPts_len d y x
      rw [hll, List.length_append]; omega
    repeat (first | refine dw_p rfl ?_ | refine dw_nil ?_ | refine ds_seq ?_ | refine ds_ops mix (fun base => ?_))
    refine ds_if rfl (fun ht2 => ?_) (fun ht2 => ?_)
    · simp at ht2
      obtain ⟨r', hr', _, hrx⟩ := hd.cell (x := x) (y := y) (by omega) (by omega)
      rw [hr] at hr'
      obtain rfl := Option.some.inj hr'
      have e2 := one_at (boF_at hrx)
      have l1 : x < (r.map boF).length := by simp; omega
      repeat (first | refine dw_p rfl ?_ | refine dw_l rfl ?_ | refine dw_if rfl rfl (by omega) (by decide) (by assumption) ?_ | refine dw_nil ?_ | refine ds_seq ?_ | refine ds_ops mix (fun base => ?_) | refine ds_skip ?_ | refine ds_block ?_)
      refine ds_if (t := dot d x y) rfl (fun ht3 => ?_) (fun ht3 => ?_)
      · repeat (first | refine dw_p rfl ?_ | refine dw_a rfl ?_ | refine ds_ops mix (fun base => ?_))
        refine dw_app (l' := l.flatMap ptF) (q := ptF ((x : Int), (y : Int))) rfl rfl rfl (subL_all _ (ptF_len l)) ⟨rfl, rfl, _, rfl, rfl⟩ (by omega) (by omega) (by decide) rfl ?_
        rw [show l.flatMap ptF ++ ptF ((x : Int), (y : Int)) = (l ++ [((x : Int), (y : Int))]).flatMap ptF by simp, show l.length + 1 = (l ++ [((x : Int), (y : Int))]).length by simp]
        repeat (first | refine dw_p rfl ?_ | refine dw_nil ?_ | refine ds_ops mix (fun base => ?_))
        refine ⟨k2 - 1, by omega, _, _, _, [(0, 2)], ?wk2, x + 1, by omega, l ++ [((x : Int), (y : Int))], ?_, rfl, rfl, rfl⟩
        case wk2 => exact ⟨by repeat (first | exact trivial | refine ⟨by first | rfl | exact congrArg (fun z => some (DV.int z)) (dwrap (by omega) (by omega)), rfl, ?_⟩), by repeat (first | exact trivial | refine ⟨by first | rfl | exact congrArg (fun z => some (Bk.data z)) (by assumption), rfl, rfl, ?_⟩), rfl, rfl⟩
        rw [rowPts_succ, if_pos ht3, hll, List.append_assoc]
      · repeat (first | refine dw_p rfl ?_ | refine dw_nil ?_ | refine ds_ops mix (fun base => ?_) | refine ds_skip ?_)
        refine ⟨k2 - 1, by omega, _, _, _, [], ?wk3, x + 1, by omega, l, ?_, rfl, rfl, rfl⟩
        case wk3 => exact ⟨by repeat (first | exact trivial | refine ⟨by first | rfl | exact congrArg (fun z => some (DV.int z)) (dwrap (by omega) (by omega)), rfl, ?_⟩), by repeat (first | exact trivial | refine ⟨by first | rfl | exact congrArg (fun z => some (Bk.data z)) (by assumption), rfl, rfl, ?_⟩), rfl, rfl⟩
        rw [rowPts_succ, if_neg (by rw [ht3]; decide), hll, List.append_nil]
    · simp at ht2
      obtain rfl : x = w := by omega
      rw [← pointsP_succ] at hll
      subst hll
      repeat (first | refine dw_p rfl ?_ | refine dw_nil ?_ | refine ds_ops mix (fun base => ?_) | refine ds_exit ?_)
      refine ⟨k - 1, by omega, _, _, _, [], ?wk4, y + 1, by omega, rfl, rfl, rfl⟩
      case wk4 => exact ⟨by repeat (first | exact trivial | refine ⟨by first | rfl | exact congrArg (fun z => some (DV.int z)) (dwrap (by omega) (by omega)), rfl, ?_⟩), by repeat (first | exact trivial | refine ⟨by first | rfl | exact congrArg (fun z => some (Bk.data z)) (by assumption), rfl, rfl, ?_⟩), rfl, rfl⟩
  · simp at ht
    obtain rfl : y = h := by omega
    have hflat := ptF_len (pointsP d w y)
    refine ds_keep (SubA.cons (k := 3) rfl (SubA.nil _)) (SubA.cons (k := 0) rfl (SubA.nil _)) ?_
    refine ds_frz 0 rfl (by repeat' (first | exact trivial | rfl | assumption | refine ⟨?_, ?_⟩)) (by repeat' (first | exact trivial | rfl | assumption | refine ⟨?_, ?_⟩)) ?_
    repeat (first | refine dw_p rfl ?_ | refine dw_nil ?_ | refine ds_seq ?_ | refine ds_ops mix (fun base => ?_) | refine ds_exit ?_)
    exact ds_ret ⟨_, rfl, rfl, rfl⟩

set_option maxHeartbeats 4000000 in
theorem d_rpoints {w h : Nat} {d : DotsL} (hw : w ≤ 200) (hh : h ≤ 200) (hd : Sz w h d) : DK 35 [gridD w h d] fun r => r = ptsD (pointsP d w h) := by
  refine dfn_ok cp35 rfl GHro fun Z0 lo => ?_
  have hl := hd.1
  repeat (first | refine dw_p rfl ?_ | refine dw_a rfl ?_ | refine dw_nil ?_ | refine ds_seq ?_ | refine ds_ops mix (fun base => ?_) | refine ds_block ?_)
  refine ds_loop (fun k E S nk => ∃ y : Nat, y + k = h ∧ E = [(1, .one (.ptr 0 0)), (3, .one (.own 1 0 (pointsP d w y).length 2)), (4, .int y)] ∧ S = [(0, .cells [.f (.c (.int .i64 w)), .f (.c (.int .i64 h)), .f (.sl 1 d.length ((rowsF d).map rowF))]), (1, .data ((pointsP d w y).flatMap ptF))] ∧ nk = 2) ⟨h, _, _, _, [], ?wk, 0, by omega, rfl, rfl, rfl⟩ ?_
  case wk => exact ⟨by repeat (first | exact trivial | refine ⟨by first | rfl | exact congrArg (fun z => some (DV.int z)) (dwrap (by omega) (by omega)), rfl, ?_⟩), by repeat (first | exact trivial | refine ⟨by first | rfl | exact congrArg (fun z => some (Bk.data z)) (by assumption), rfl, rfl, ?_⟩), rfl, rfl⟩
  rintro k E S nk ⟨y, hy, rfl, rfl, rfl⟩
  have hpl : (pointsP d w y).length ≤ 200 * 200 := Nat.le_trans (pointsP_len d w y) (Nat.mul_le_mul (by omega) hw)
  repeat (first | refine dw_p rfl ?_ | refine dw_l rfl ?_ | refine dw_nil ?_ | refine ds_seq ?_ | refine ds_ops mix (fun base => ?_))
  refine ds_if rfl (fun ht => ?_) (fun ht => ?_)
  · simp at ht
    obtain ⟨r, hr, hrl⟩ := hd.row (y := y) (by omega)
    have e1 := rowF_at (rowsF_at hr)
    repeat (first | refine dw_p rfl ?_ | refine dw_nil ?_ | refine ds_seq ?_ | refine ds_ops mix (fun base => ?_) | refine ds_skip ?_ | refine ds_block ?_)
    refine ds_loop (fun k2 E S nk => ∃ x : Nat, x + k2 = w ∧ ∃ l : List Pt2, l = pointsP d w y ++ rowPts d x y ∧ E = [(1, .one (.ptr 0 0)), (3, .one (.own 1 0 l.length 2)), (4, .int y), (5, .int x)] ∧ S = [(0, .cells [.f (.c (.int .i64 w)), .f (.c (.int .i64 h)), .f (.sl 1 d.length ((rowsF d).map rowF))]), (1, .data (l.flatMap ptF))] ∧ nk = 2) ⟨w, _, _, _, [], ?wk1, 0, by omega, pointsP d w y, by simp [rowPts], rfl, rfl, rfl⟩ ?_
    case wk1 => exact ⟨by repeat (first | exact trivial | refine ⟨by first | rfl | exact congrArg (fun z => some (DV.int z)) (dwrap (by omega) (by omega)), rfl, ?_⟩), by repeat (first | exact trivial | refine ⟨by first | rfl | exact congrArg (fun z => some (Bk.data z)) (by assumption), rfl, rfl, ?_⟩), rfl, rfl⟩
    rintro k2 E S nk ⟨x, hx, l, hll, rfl, rfl, rfl⟩
    have hl2 : l.length ≤ 200 * 200 + 200 := by
      have := rowPts_len d y x
      rw [hll, List.length_append]; omega
    repeat (first | refine dw_p rfl ?_ | refine dw_l rfl ?_ | refine dw_nil ?_ | refine ds_seq ?_ | refine ds_ops mix (fun base => ?_))
    refine ds_if rfl (fun ht2 => ?_) (fun ht2 => ?_)
    · simp at ht2
      obtain ⟨r', hr', _, hrx⟩ := hd.cell (x := x) (y := y) (by omega) (by omega)
      rw [hr] at hr'
      obtain rfl := Option.some.inj hr'
      have e2 := one_at (boF_at hrx)
      have l1 : x < (r.map boF).length := by simp; omega
      repeat (first | refine dw_p rfl ?_ | refine dw_l rfl ?_ | refine dw_if rfl rfl (by omega) (by decide) (by assumption) ?_ | refine dw_nil ?_ | refine ds_seq ?_ | refine ds_ops mix (fun base => ?_) | refine ds_skip ?_ | refine ds_block ?_)
      refine ds_if (t := dot d x y) rfl (fun ht3 => ?_) (fun ht3 => ?_)
      · repeat (first | refine dw_p rfl ?_ | refine dw_a rfl ?_ | refine ds_ops mix (fun base => ?_))
        refine dw_app (l' := l.flatMap ptF) (q := ptF ((x : Int), (y : Int))) rfl rfl rfl (subL_all _ (ptF_len l)) ⟨rfl, rfl, _, rfl, rfl⟩ (by omega) (by omega) (by decide) rfl ?_
        rw [show l.flatMap ptF ++ ptF ((x : Int), (y : Int)) = (l ++ [((x : Int), (y : Int))]).flatMap ptF by simp, show l.length + 1 = (l ++ [((x : Int), (y : Int))]).length by simp]
        repeat (first | refine dw_p rfl ?_ | refine dw_nil ?_ | refine ds_ops mix (fun base => ?_))
        refine ⟨k2 - 1, by omega, _, _, _, [(1, 3)], ?wk2, x + 1, by omega, l ++ [((x : Int), (y : Int))], ?_, rfl, rfl, rfl⟩
        case wk2 => exact ⟨by repeat (first | exact trivial | refine ⟨by first | rfl | exact congrArg (fun z => some (DV.int z)) (dwrap (by omega) (by omega)), rfl, ?_⟩), by repeat (first | exact trivial | refine ⟨by first | rfl | exact congrArg (fun z => some (Bk.data z)) (by assumption), rfl, rfl, ?_⟩), rfl, rfl⟩
        rw [rowPts_succ, if_pos ht3, hll, List.append_assoc]
      · repeat (first | refine dw_p rfl ?_ | refine dw_nil ?_ | refine ds_ops mix (fun base => ?_) | refine ds_skip ?_)
        refine ⟨k2 - 1, by omega, _, _, _, [], ?wk3, x + 1, by omega, l, ?_, rfl, rfl, rfl⟩
        case wk3 => exact ⟨by repeat (first | exact trivial | refine ⟨by first | rfl | exact congrArg (fun z => some (DV.int z)) (dwrap (by omega) (by omega)), rfl, ?_⟩), by repeat (first | exact trivial | refine ⟨by first | rfl | exact congrArg (fun z => some (Bk.data z)) (by assumption), rfl, rfl, ?_⟩), rfl, rfl⟩
        rw [rowPts_succ, if_neg (by rw [ht3]; decide), hll, List.append_nil]
    · simp at ht2
      obtain rfl : x = w := by omega
      rw [← pointsP_succ] at hll
      subst hll
      repeat (first | refine dw_p rfl ?_ | refine dw_nil ?_ | refine ds_ops mix (fun base => ?_) | refine ds_exit ?_)
      refine ⟨k - 1, by omega, _, _, _, [], ?wk4, y + 1, by omega, rfl, rfl, rfl⟩
      case wk4 => exact ⟨by repeat (first | exact trivial | refine ⟨by first | rfl | exact congrArg (fun z => some (DV.int z)) (dwrap (by omega) (by omega)), rfl, ?_⟩), by repeat (first | exact trivial | refine ⟨by first | rfl | exact congrArg (fun z => some (Bk.data z)) (by assumption), rfl, rfl, ?_⟩), rfl, rfl⟩
  · simp at ht
    obtain rfl : y = h := by omega
    have hflat := ptF_len (pointsP d w y)
    refine ds_keep (SubA.cons (k := 3) rfl (SubA.nil _)) (SubA.cons (k := 1) rfl (SubA.nil _)) ?_
    refine ds_frz 1 rfl (by repeat' (first | exact trivial | rfl | assumption | refine ⟨?_, ?_⟩)) (by repeat' (first | exact trivial | rfl | assumption | refine ⟨?_, ?_⟩)) ?_
    repeat (first | refine dw_p rfl ?_ | refine dw_nil ?_ | refine ds_seq ?_ | refine ds_ops mix (fun base => ?_) | refine ds_exit ?_)
    exact ds_ret ⟨_, rfl, rfl, rfl⟩
end Go.Ab.Fn

/- Plain: points by rows. -/
namespace Go.Ab.Fn
open Go.Ab Go.Proofs
set_option linter.unusedSimpArgs false

theorem before_iff {a b : Pt2} : before a b = true ↔ a.2 < b.2 ∨ (a.2 = b.2 ∧ a.1 < b.1) := by
  unfold before
  by_cases h1 : a.2 < b.2
  · simp [h1]
  · by_cases h2 : a.2 = b.2
    · simp [h1, h2]
    · simp [h1, h2]
abbrev ByRows (l : List Pt2) : Prop := l.Pairwise fun a b => before a b = true
theorem before_trans {a b c : Pt2} (h1 : before a b = true) (h2 : before b c = true) : before a c = true := by
  rw [before_iff] at *; omega
theorem before_irrefl {a : Pt2} : ¬ before a a = true := by rw [before_iff]; omega
theorem before_total {a b : Pt2} (h : ¬ before a b = true) (hne : a ≠ b) : before b a = true := by
  rw [before_iff] at *
  have : ¬ (a.1 = b.1 ∧ a.2 = b.2) := fun h => hne (Prod.ext h.1 h.2)
  omega
/-- lists by rows with the same points are equal -/
theorem ByRows.ext : ∀ {l m : List Pt2}, ByRows l → ByRows m → (∀ p, p ∈ l ↔ p ∈ m) → l = m
  | [], [], _, _, _ => rfl
  | [], b :: m, _, _, h => by have := (h b).2 (by simp); simp at this
  | a :: l, [], _, _, h => by have := (h a).1 (by simp); simp at this
  | a :: l, b :: m, hl, hm, h => by
    rw [ByRows, List.pairwise_cons] at hl hm
    have hab : a = b := by
      rcases List.mem_cons.1 ((h a).1 (by simp)) with e | e
      · exact e
      · rcases List.mem_cons.1 ((h b).2 (by simp)) with e' | e'
        · exact e'.symm
        · exact absurd (before_trans (hl.1 b e') (hm.1 a e)) before_irrefl
    subst hab
    congr 1
    refine ByRows.ext hl.2 hm.2 fun p => ?_
    constructor
    · intro hp
      rcases List.mem_cons.1 ((h p).1 (by simp [hp])) with e | e
      · subst e; exact absurd (hl.1 p hp) before_irrefl
      · exact e
    · intro hp
      rcases List.mem_cons.1 ((h p).2 (by simp [hp])) with e | e
      · subst e; exact absurd (hm.1 p hp) before_irrefl
      · exact e
theorem posR_spec (x : Pt2) (out : List Pt2) : ∀ n, n ≤ out.length → (∀ j z, posR x out n ≤ j → j < n → out[j]? = some z → before x z = true) ∧ (∀ z, 0 < posR x out n → out[posR x out n - 1]? = some z → ¬ before x z = true)
  | 0, _ => ⟨fun j z h1 h2 => by omega, fun z h => by simp [posR] at h⟩
  | n + 1, hn => by
    obtain ⟨z, hz⟩ : ∃ z, out[n]? = some z := ⟨_, List.getElem?_eq_getElem (by omega)⟩
    have ih := posR_spec x out n (by omega)
    have e : posR x out (n + 1) = if before x z = true then posR x out n else n + 1 := by simp only [posR, hz]
    rw [e]
    by_cases hb : before x z = true
    · rw [if_pos hb]
      refine ⟨fun j y h1 h2 hy => ?_, ih.2⟩
      by_cases hj : j = n
      · subst hj; rw [hz] at hy; obtain rfl := Option.some.inj hy; exact hb
      · exact ih.1 j y h1 (by omega) hy
    · rw [if_neg hb]
      refine ⟨fun j y h1 h2 => by omega, fun y _ hy => ?_⟩
      rw [Nat.add_sub_cancel, hz] at hy
      obtain rfl := Option.some.inj hy
      exact hb
theorem insP_ok {x : Pt2} {out : List Pt2} (ho : ByRows out) (hx : x ∉ out) : ByRows (insP x out) := by
  obtain ⟨h1, h2⟩ := posR_spec x out out.length (Nat.le_refl _)
  have hp := posR_le x out out.length
  generalize hP : posR x out out.length = P at h1 h2 hp
  have hsplit : out = out.take P ++ out.drop P := (List.take_append_drop P out).symm
  have hlow : ∀ z ∈ out.take P, before z x = true := fun z hz => by
    obtain ⟨j, hj⟩ := List.getElem?_of_mem hz
    rw [List.getElem?_take] at hj
    split at hj
    · rename_i hjP
      have hP1 : P - 1 < out.length := by omega
      have hnb := h2 out[P - 1] (by omega) (List.getElem?_eq_getElem hP1)
      have hb := before_total hnb (fun e => hx (by rw [e]; exact List.getElem_mem hP1))
      by_cases hj1 : j = P - 1
      · subst hj1; rw [List.getElem?_eq_getElem hP1] at hj; obtain rfl := Option.some.inj hj; exact hb
      · have hjl : j < out.length := by omega
        rw [List.getElem?_eq_getElem hjl] at hj
        obtain rfl := Option.some.inj hj
        exact before_trans (List.pairwise_iff_getElem.1 ho j (P - 1) hjl hP1 (by omega)) hb
    · cases hj
  have hhigh : ∀ z ∈ out.drop P, before x z = true := fun z hz => by
    obtain ⟨j, hj⟩ := List.getElem?_of_mem hz
    rw [List.getElem?_drop] at hj
    exact h1 (P + j) z (by omega) (List.getElem?_eq_some_iff.1 hj).1 hj
  rw [hsplit, ByRows, List.pairwise_append] at ho
  rw [insP, hP, ByRows, List.append_assoc, List.pairwise_append]
  refine ⟨ho.1, ?_, fun a ha b hb => ?_⟩
  · simp only [List.singleton_append, List.pairwise_cons]
    exact ⟨hhigh, ho.2.1⟩
  · simp only [List.singleton_append, List.mem_cons] at hb
    rcases hb with rfl | hb
    · exact hlow a ha
    · exact ho.2.2 a ha b hb
theorem insP_mem {x p : Pt2} {out : List Pt2} : p ∈ insP x out ↔ p = x ∨ p ∈ out := by
  simp only [insP, List.mem_append, List.mem_singleton]
  constructor
  · rintro ((h | h) | h)
    · exact .inr (List.mem_of_mem_take h)
    · exact .inl h
    · exact .inr (List.mem_of_mem_drop h)
  · rintro (h | h)
    · exact .inl (.inr h)
    · rw [← List.take_append_drop (posR x out out.length) out, List.mem_append] at h
      exact h.elim (fun h => .inl (.inl h)) .inr
theorem addP_ok {x : Pt2} {out : List Pt2} (ho : ByRows out) : ByRows (addP out x) := by
  unfold addP
  split
  · exact ho
  · exact insP_ok ho (by assumption)
theorem addP_mem {x p : Pt2} {out : List Pt2} : p ∈ addP out x ↔ p = x ∨ p ∈ out := by
  unfold addP
  split
  · rename_i h
    exact ⟨.inr, fun h' => h'.elim (fun e => e ▸ h) fun h => h⟩
  · exact insP_mem
theorem sortedP_go : ∀ (l out : List Pt2), ByRows out → ByRows (l.foldl addP out) ∧ ∀ p, p ∈ l.foldl addP out ↔ p ∈ out ∨ p ∈ l
  | [], out, h => ⟨h, by simp⟩
  | x :: l, out, h => by
    obtain ⟨h1, h2⟩ := sortedP_go l (addP out x) (addP_ok h)
    refine ⟨h1, fun p => ?_⟩
    rw [List.foldl_cons, h2, addP_mem, List.mem_cons]
    constructor
    · rintro ((h | h) | h)
      · exact .inr (.inl h)
      · exact .inl h
      · exact .inr (.inr h)
    · rintro (h | h | h)
      · exact .inl (.inr h)
      · exact .inl (.inl h)
      · exact .inr h
theorem sortedP_rows (l : List Pt2) : ByRows (sortedP l) := (sortedP_go l [] List.Pairwise.nil).1
theorem sortedP_mem {l : List Pt2} {p : Pt2} : p ∈ sortedP l ↔ p ∈ l := by rw [sortedP, (sortedP_go l [] List.Pairwise.nil).2]; simp

theorem rowPts_mem {d : DotsL} {w y : Nat} {p : Pt2} : p ∈ rowPts d w y ↔ ∃ x : Nat, x < w ∧ dot d x y = true ∧ p = ((x : Int), (y : Int)) := by
  simp only [rowPts, List.mem_map, List.mem_filter, List.mem_range]
  constructor
  · rintro ⟨x, ⟨h1, h2⟩, rfl⟩; exact ⟨x, h1, h2, rfl⟩
  · rintro ⟨x, h1, h2, rfl⟩; exact ⟨x, ⟨h1, h2⟩, rfl⟩
theorem pointsP_mem {d : DotsL} {w h : Nat} {p : Pt2} : p ∈ pointsP d w h ↔ ∃ x y : Nat, x < w ∧ y < h ∧ dot d x y = true ∧ p = ((x : Int), (y : Int)) := by
  simp only [pointsP, List.mem_flatMap, List.mem_range, rowPts_mem]
  constructor
  · rintro ⟨y, hy, x, hx, hd, rfl⟩; exact ⟨x, y, hx, hy, hd, rfl⟩
  · rintro ⟨x, y, hx, hy, hd, rfl⟩; exact ⟨y, hy, x, hx, hd, rfl⟩
theorem rowPts_rows (d : DotsL) (y : Nat) : ∀ w, ByRows (rowPts d w y)
  | 0 => by simp [rowPts]
  | w + 1 => by
    rw [rowPts_succ, ByRows, List.pairwise_append]
    refine ⟨rowPts_rows d y w, ?_, fun a ha b hb => ?_⟩
    · split <;> simp
    · obtain ⟨x, hx, _, rfl⟩ := rowPts_mem.1 ha
      split at hb
      · simp at hb; subst hb; rw [before_iff]; simp; omega
      · simp at hb
theorem pointsP_rows (d : DotsL) (w : Nat) : ∀ h, ByRows (pointsP d w h)
  | 0 => by simp [pointsP]
  | h + 1 => by
    rw [pointsP_succ, ByRows, List.pairwise_append]
    refine ⟨pointsP_rows d w h, rowPts_rows d h w, fun a ha b hb => ?_⟩
    obtain ⟨x, y, _, hy, _, rfl⟩ := pointsP_mem.1 ha
    obtain ⟨x', _, _, rfl⟩ := rowPts_mem.1 hb
    rw [before_iff]; simp; omega
theorem dot_plot {w h : Nat} : ∀ (l : List Pt2) {d : DotsL}, Sz w h d → ∀ x y, x < w → y < h → (dot (plotP w h d l) x y = true ↔ dot d x y = true ∨ ((x : Int), (y : Int)) ∈ l)
  | [], d, hd, x, y, hx, hy => by simp [plotP]
  | p :: l, d, hd, x, y, hx, hy => by
    have ih := dot_plot l (plot1_sz hd p) x y hx hy
    have e : plotP w h d (p :: l) = plotP w h (plot1 w h d p) l := rfl
    rw [e, ih, List.mem_cons]
    have h1 : dot (plot1 w h d p) x y = true ↔ dot d x y = true ∨ ((x : Int), (y : Int)) = p := by
      unfold plot1
      by_cases hon : onG w h p = true
      · have hp : 0 ≤ p.1 ∧ p.1 < w ∧ 0 ≤ p.2 ∧ p.2 < h := by simpa [onG] using hon
        rw [if_pos hon, dot_set hd (by omega) (by omega)]
        by_cases e : x = p.1.toNat ∧ y = p.2.toNat
        · rw [if_pos e]
          have : ((x : Int), (y : Int)) = p := Prod.ext (by simp only; omega) (by simp only; omega)
          simp [this]
        · rw [if_neg e]
          have : ¬ ((x : Int), (y : Int)) = p := fun h => e (by rw [← h]; simp)
          simp [this]
      · rw [if_neg hon]
        have : ¬ ((x : Int), (y : Int)) = p := fun h => hon (by rw [← h]; simp [onG]; omega)
        simp [this]
    rw [h1]
    constructor
    · rintro ((h | h) | h)
      · exact .inl h
      · exact .inr (.inl h)
      · exact .inr (.inr h)
    · rintro (h | h | h)
      · exact .inl (.inl h)
      · exact .inl (.inr h)
      · exact .inr h
/-- the points of a plotted grid are those of the grid and those of the list that are on it -/
theorem plot_points {w h : Nat} {d : DotsL} (hd : Sz w h d) (l : List Pt2) : pointsP (plotP w h d l) w h = sortedP (pointsP d w h ++ l.filter (onG w h ·)) := by
  refine ByRows.ext (pointsP_rows _ _ _) (sortedP_rows _) fun p => ?_
  rw [sortedP_mem, List.mem_append, pointsP_mem, pointsP_mem, List.mem_filter]
  constructor
  · rintro ⟨x, y, hx, hy, hdot, rfl⟩
    rcases (dot_plot l hd x y hx hy).1 hdot with h1 | h1
    · exact .inl ⟨x, y, hx, hy, h1, rfl⟩
    · exact .inr ⟨h1, by simp [onG]; omega⟩
  · rintro (⟨x, y, hx, hy, h1, rfl⟩ | ⟨h1, h2⟩)
    · exact ⟨x, y, hx, hy, (dot_plot l hd x y hx hy).2 (.inl h1), rfl⟩
    · have hp : 0 ≤ p.1 ∧ p.1 < w ∧ 0 ≤ p.2 ∧ p.2 < h := by simpa [onG] using h2
      have e : p = ((p.1.toNat : Int), (p.2.toNat : Int)) := Prod.ext (by simp only; omega) (by simp only; omega)
      refine ⟨p.1.toNat, p.2.toNat, by omega, by omega, (dot_plot l hd _ _ (by omega) (by omega)).2 (.inr ?_), e⟩
      rw [← e]; exact h1
end Go.Ab.Fn

/- The law GridDistances. -/
namespace Go.Ab.Fn
open Go.Ab Go.Proofs
set_option linter.unusedSimpArgs false

theorem far_nonneg (p q : Pt2) : 0 ≤ far p q := by simp only [far]; omega
theorem far_comm (p q : Pt2) : far p q = far q p := by simp only [far]; omega
theorem far_zero (p q : Pt2) : far p q = 0 ↔ p = q := by
  obtain ⟨p1, p2⟩ := p
  obtain ⟨q1, q2⟩ := q
  simp only [far, Prod.mk.injEq]
  omega
theorem mem_fars {a b : List Pt2} {z : Int} : z ∈ fars a b ↔ ∃ x ∈ a, ∃ y ∈ b, far x y = z := by simp [fars]
theorem dist_spec {a b : List Pt2} (ha : a ≠ []) (hb : b ≠ []) : (∃ x ∈ a, ∃ y ∈ b, far x y = dist a b) ∧ ∀ x ∈ a, ∀ y ∈ b, dist a b ≤ far x y := by
  obtain ⟨p, a', rfl⟩ := List.exists_cons_of_ne_nil ha
  obtain ⟨q, b', rfl⟩ := List.exists_cons_of_ne_nil hb
  have hd : dist (p :: a') (q :: b') = (fars (p :: a') (q :: b')).foldl min (far p q) := rfl
  refine ⟨?_, fun x hx y hy => ?_⟩
  · rcases foldl_min_mem (fars (p :: a') (q :: b')) (far p q) with h | h
    · exact ⟨p, by simp, q, by simp, by rw [hd, h]⟩
    · exact mem_fars.1 (hd ▸ h)
  · rw [hd]
    exact (foldl_min_le _ _).2 _ (mem_fars.2 ⟨x, hx, y, hy, rfl⟩)
theorem dist_neg {a b : List Pt2} : dist a b < 0 ↔ a = [] ∨ b = [] := by
  by_cases ha : a = []
  · subst ha; simp [dist]
  · by_cases hb : b = []
    · subst hb
      obtain ⟨p, a', rfl⟩ := List.exists_cons_of_ne_nil ha
      simp [dist]
    · obtain ⟨⟨x, _, y, _, h⟩, _⟩ := dist_spec ha hb
      have := far_nonneg x y
      simp [ha, hb]
      omega
theorem dist_comm (a b : List Pt2) : dist a b = dist b a := by
  by_cases ha : a = []
  · subst ha; cases b <;> rfl
  · by_cases hb : b = []
    · subst hb; cases a <;> rfl
    · obtain ⟨⟨x, hx, y, hy, h⟩, h1⟩ := dist_spec ha hb
      obtain ⟨⟨x', hx', y', hy', h'⟩, h2⟩ := dist_spec hb ha
      have g1 := h1 y' hy' x' hx'
      have g2 := h2 y hy x hx
      rw [far_comm] at g1 g2
      omega
theorem dist_zero (a b : List Pt2) : dist a b = 0 ↔ ∃ x ∈ a, x ∈ b := by
  by_cases ha : a = []
  · subst ha; simp [dist]
  · by_cases hb : b = []
    · subst hb
      obtain ⟨p, a', rfl⟩ := List.exists_cons_of_ne_nil ha
      simp [dist]
    · obtain ⟨⟨x, hx, y, hy, h⟩, h1⟩ := dist_spec ha hb
      constructor
      · intro h0
        rw [h0] at h
        exact ⟨x, hx, (far_zero x y).1 h ▸ hy⟩
      · rintro ⟨z, hz, hz'⟩
        have := h1 z hz z hz'
        rw [(far_zero z z).2 rfl] at this
        have := far_nonneg x y
        omega
theorem dist_more {a b r : List Pt2} (ha : a ≠ []) (hb : b ≠ []) : 0 ≤ dist (a ++ r) b ∧ dist (a ++ r) b ≤ dist a b := by
  obtain ⟨⟨x, hx, y, hy, h⟩, h1⟩ := dist_spec ha hb
  have ha' : a ++ r ≠ [] := by simp [ha]
  obtain ⟨⟨x', hx', y', hy', h'⟩, h2⟩ := dist_spec ha' hb
  have := far_nonneg x' y'
  have := h2 x (by simp [hx]) y hy
  omega

theorem made_small {l : List (Int × Int)} {n : Nat} : ∀ p ∈ (l.take n).map madeP, -2 ≤ p.1 ∧ p.1 ≤ 13 ∧ -2 ≤ p.2 ∧ p.2 ≤ 13 := by
  intro p hp
  obtain ⟨q, _, rfl⟩ := List.mem_map.1 hp
  simp only [madeP]
  omega
theorem made_smalls (l : List (Int × Int)) (n : Nat) : Smalls ((l.take n).map madeP) := fun p hp => by
  have := made_small p hp
  exact ⟨by omega, by omega, by omega, by omega⟩
theorem made_len (l : List (Int × Int)) (n : Nat) : ((l.take n).map madeP).length ≤ n := by simp; omega

set_option maxHeartbeats 4000000 in
theorem d_gridDistances {a b c : List (Int × Int)} (ha : Bys a) (hb : Bys b) (hc : Bys c) : DK 5 [bysD a, bysD b, bysD c] fun d => d = .bool true := by
  refine dfn_ok cp5 rfl GHro fun Z0 lo => ?_
  repeat (first | refine dw_p rfl ?_ | refine dw_nil ?_ | refine ds_seq ?_ | refine ds_ops mix (fun base => ?_))
  refine dw_cf rfl rfl d_sanity ?_
  rintro _ rfl
  repeat (first | refine dw_p rfl ?_ | refine dw_nil ?_ | refine ds_seq ?_ | refine ds_ops mix (fun base => ?_))
  refine dw_cf rfl rfl (d_made (n := 12) ha (by omega)) ?_
  rintro _ rfl
  repeat (first | refine dw_p rfl ?_)
  refine dw_cf rfl rfl (d_made (n := 12) hb (by omega)) ?_
  rintro _ rfl
  repeat (first | refine dw_p rfl ?_)
  refine dw_cf rfl rfl (d_made (n := 12) hc (by omega)) ?_
  rintro _ rfl
  have sp := made_smalls a 12
  have sq := made_smalls b 12
  have sr := made_smalls c 12
  have lp := made_len a 12
  have lq := made_len b 12
  have lr := made_len c 12
  generalize (a.take 12).map madeP = p at *
  generalize (b.take 12).map madeP = q at *
  generalize (c.take 12).map madeP = r at *
  repeat (first | refine dw_p rfl ?_ | refine dw_nil ?_ | refine ds_seq ?_ | refine ds_ops mix (fun base => ?_))
  refine dw_cf rfl rfl (d_distance sp sq (by omega) (by omega)) ?_
  rintro _ rfl
  repeat (first | refine dw_p rfl ?_ | refine dw_nil ?_ | refine ds_seq ?_ | refine ds_ops mix (fun base => ?_))
  refine dw_cf rfl rfl (d_distance sq sp (by omega) (by omega)) ?_
  rintro _ rfl
  rw [dist_comm q p]
  iterate 1 (first | refine dw_p rfl ?_)
  rw [show (dist p q != dist p q) = false by simp]
  repeat (first | refine dw_want rfl rfl ?_ | refine dw_pickF rfl rfl ?_ | refine dw_pick rfl (by first | exact fun _ => rfl | exact fun h => (by simp only [if_pos h]; rfl) | exact fun h => (by simp only [h, if_true, if_false]; rfl)) (by first | exact fun _ => rfl | exact fun h => (by simp only [if_pos h]; rfl) | exact fun h => (by simp only [h, if_true, if_false]; rfl)) ?_ | refine dw_p rfl ?_ | refine dw_pg rfl (by first | exact fun _ => rfl | exact fun h => (by simp only [if_pos h]; rfl) | exact fun h => (by simp only [h, if_true, if_false]; rfl)) ?_ | refine dw_nil ?_)
  refine ds_if rfl (fun ht => ?_) (fun _ => ?_)
  · exfalso
    by_cases h1 : p = []
    · subst h1; simp [dist] at ht
    · have h1' : p.length ≠ 0 := fun h => h1 (List.eq_nil_of_length_eq_zero h)
      by_cases h2 : q = []
      · subst h2
        have := (dist_neg (a := p) (b := [])).2 (.inr rfl)
        simp [this] at ht
      · have h2' : q.length ≠ 0 := fun h => h2 (List.eq_nil_of_length_eq_zero h)
        have : ¬ dist p q < 0 := fun h => (dist_neg.1 h).elim h1 h2
        simp [this, h1, h2] at ht
  · repeat (first | refine dw_p rfl ?_ | refine dw_nil ?_ | refine ds_seq ?_ | refine ds_ops mix (fun base => ?_) | refine ds_skip ?_ | refine ds_block ?_)
    refine ds_loop (fun m E S nk => ∃ k : Nat, k + m = p.length ∧ E = [(7, .bool true), (8, ptsD p), (9, ptsD q), (10, ptsD r), (11, .int (dist p q)), (12, .bool (((p.take k).any fun x => decide (x ∈ q)))), (13, .int k)] ∧ S = [] ∧ nk = 0) ⟨p.length, _, _, _, [], ?wk, 0, by omega, rfl, rfl, rfl⟩ ?_
    case wk => exact ⟨by repeat (first | exact trivial | refine ⟨by first | rfl | exact congrArg (fun z => some (DV.int z)) (dwrap (by omega) (by omega)), rfl, ?_⟩), by repeat (first | exact trivial | refine ⟨by first | rfl | exact congrArg (fun z => some (Bk.data z)) (by assumption), rfl, rfl, ?_⟩), rfl, rfl⟩
    rintro m E S nk ⟨k, hk, rfl, rfl, rfl⟩
    repeat (first | refine dw_p rfl ?_ | refine dw_nil ?_ | refine ds_seq ?_ | refine ds_ops mix (fun base => ?_))
    refine ds_if rfl (fun ht => ?_) (fun ht => ?_)
    · simp at ht
      obtain ⟨x, hx⟩ : ∃ x, p[k]? = some x := ⟨_, List.getElem?_eq_getElem (by omega)⟩
      have e1 := ptF_at hx
      have hD : ((p.take (k + 1)).any fun x => decide (x ∈ q)) = (((p.take k).any fun x => decide (x ∈ q)) || decide (x ∈ q)) := by
        rw [List.take_add_one, hx]
        simp
      generalize ((p.take k).any fun x => decide (x ∈ q)) = cm at *
      cases cm with
      | true =>
        repeat (first | refine dw_skip rfl rfl ?_ | refine dw_pickT rfl rfl ?_ | refine dw_p rfl ?_ | refine dw_nil ?_ | refine ds_seq ?_ | refine ds_ops mix (fun base => ?_) | refine ds_skip ?_ | refine ds_block ?_)
        refine ⟨m - 1, by omega, _, _, _, [], ?wk1, k + 1, by omega, rfl, rfl, rfl⟩
        case wk1 => rw [hD]; exact ⟨by repeat (first | exact trivial | refine ⟨by first | rfl | exact congrArg (fun z => some (DV.int z)) (dwrap (by omega) (by omega)), rfl, ?_⟩), by repeat (first | exact trivial | refine ⟨by first | rfl | exact congrArg (fun z => some (Bk.data z)) (by assumption), rfl, rfl, ?_⟩), rfl, rfl⟩
      | false =>
        repeat (first | refine dw_want rfl rfl ?_ | refine dw_p rfl ?_ | refine dw_l rfl ?_ | refine dw_if rfl rfl (by omega) (by decide) (by assumption) ?_ | refine ds_seq ?_ | refine ds_ops mix (fun base => ?_) | refine ds_skip ?_ | refine ds_block ?_)
        refine dw_cf rfl rfl (d_has (l := q) (p := x) (by omega)) ?_
        rintro _ rfl
        repeat (first | refine dw_pickF rfl rfl ?_ | refine dw_p rfl ?_ | refine dw_nil ?_ | refine ds_ops mix (fun base => ?_))
        refine ⟨m - 1, by omega, _, _, _, [], ?wk1, k + 1, by omega, rfl, rfl, rfl⟩
        case wk1 => rw [hD, Bool.false_or]; exact ⟨by repeat (first | exact trivial | refine ⟨by first | rfl | exact congrArg (fun z => some (DV.int z)) (dwrap (by omega) (by omega)), rfl, ?_⟩), by repeat (first | exact trivial | refine ⟨by first | rfl | exact congrArg (fun z => some (Bk.data z)) (by assumption), rfl, rfl, ?_⟩), rfl, rfl⟩
    · simp at ht
      obtain rfl : k = p.length := by omega
      rw [List.take_length]
      repeat (first | refine dw_p rfl ?_ | refine dw_a rfl ?_ | refine ds_seq ?_ | refine ds_ops mix (fun base => ?_) | refine ds_exit ?_)
      refine dw_app (l' := []) rfl rfl rfl rfl ⟨rfl, rfl, rfl⟩ (by omega) (by omega) (by decide) rfl ?_
      rw [Nat.zero_add p.length, List.nil_append]
      repeat (first | refine dw_p rfl ?_)
      refine dw_app rfl rfl rfl (subL_all _ (ptF_len p)) ⟨rfl, rfl, rfl⟩ (by omega) (by omega) (by decide) rfl ?_
      repeat (first | refine dw_p rfl ?_)
      have hmore := d_distance (a := p ++ r) (b := q) (fun x hx => (List.mem_append.1 hx).elim (sp x) (sr x)) sq (by simp; omega) (by omega)
      rw [ptsD, List.length_append, List.flatMap_append] at hmore
      refine dw_cfo (ds := [.one _, ptsD q]) rfl ⟨⟨_, rfl, _, _, rfl, subL_all _ (by rw [List.length_append, ptF_len, ptF_len]; omega), rfl⟩, ⟨_, rfl, rfl, rfl⟩, trivial⟩ hmore (by rintro _ rfl; rfl) ?_
      rintro _ rfl
      have hcm : ((dist p q == 0) == p.any fun x => decide (x ∈ q)) = true := by
        rw [beq_iff_eq, Bool.eq_iff_iff, beq_iff_eq, dist_zero]
        simp
      iterate 8 (first | refine dw_p rfl ?_ | refine dw_nil ?_ | refine ds_seq ?_ | refine ds_ops mix (fun base => ?_))
      simp only [Bool.false_eq_true, if_false, hcm]
      iterate 5 (first | refine dw_want rfl rfl ?_ | refine dw_p rfl ?_)
      by_cases hneg : dist p q < 0
      · rw [decide_eq_true hneg]
        repeat (first | refine dw_want rfl rfl ?_ | refine dw_skip rfl rfl ?_ | refine dw_skipU rfl ?_ | refine dw_pickT rfl rfl ?_ | refine dw_p rfl ?_ | refine dw_nil ?_)
        exact ds_ret ⟨_, rfl, rfl, rfl⟩
      · rw [decide_eq_false hneg]
        rw [dist_neg, not_or] at hneg
        have hm := dist_more (r := r) hneg.1 hneg.2
        iterate 6 (first | refine dw_want rfl rfl ?_ | refine dw_p rfl ?_)
        rw [decide_eq_true (p := dist (p ++ r) q ≥ 0) hm.1]
        iterate 8 (first | refine dw_want rfl rfl ?_ | refine dw_p rfl ?_)
        rw [decide_eq_true hm.2]
        repeat (first | refine dw_want rfl rfl ?_ | refine dw_pickT rfl rfl ?_ | refine dw_pickF rfl rfl ?_ | refine dw_p rfl ?_ | refine dw_nil ?_)
        exact ds_ret ⟨_, rfl, rfl, rfl⟩
end Go.Ab.Fn

/- Plain: clusters. -/
namespace Go.Ab.Fn
open Go.Ab

/-- x is reached from p by steps of at most the gap -/
inductive Conn (gap : Int) (rest : List Pt2) (p : Pt2) : Pt2 → Prop
  | base : p ∈ rest → Conn gap rest p p
  | step {x y : Pt2} : Conn gap rest p x → y ∈ rest → far x y ≤ gap → Conn gap rest p y

def minus (l c : List Pt2) : List Pt2 := l.filter fun x => !decide (x ∈ c)
theorem minus_mem {l c : List Pt2} {x : Pt2} : x ∈ minus l c ↔ x ∈ l ∧ x ∉ c := by simp [minus]

/-- the clusters of points by rows -/
inductive ClS (gap : Int) : List Pt2 → List (List Pt2) → Prop
  | nil : ClS gap [] []
  | cons {p : Pt2} {r c : List Pt2} {cs : List (List Pt2)} : ByRows c → (∀ x, x ∈ c ↔ Conn gap (p :: r) p x) → ClS gap (minus (p :: r) c) cs → ClS gap (p :: r) (c :: cs)

theorem ClS.uniq {gap : Int} {l : List Pt2} {a b : List (List Pt2)} (ha : ClS gap l a) (hb : ClS gap l b) : a = b := by
  induction ha generalizing b with
  | nil => cases hb; rfl
  | cons h1 h2 h3 ih =>
    cases hb with
    | cons g1 g2 g3 =>
      have e := ByRows.ext h1 g1 fun p => (h2 p).trans (g2 p).symm
      subst e
      rw [ih g3]

theorem Conn.mem {gap : Int} {rest : List Pt2} {p x : Pt2} (h : Conn gap rest p x) : x ∈ rest := by
  cases h with
  | base h => exact h
  | step _ h _ => exact h
theorem Conn.start {gap : Int} {rest : List Pt2} {p x : Pt2} (h : Conn gap rest p x) : p ∈ rest := by
  induction h with
  | base h => exact h
  | step _ _ _ ih => exact ih
/-- a part that is reached, and from which no step leads out, is what is reached -/
theorem conn_closed {gap : Int} {rest one : List Pt2} {p : Pt2} (hp : p ∈ one) (hc : ∀ x ∈ one, Conn gap rest p x) (hcl : ∀ x ∈ one, ∀ y ∈ rest, far x y ≤ gap → y ∈ one) (x : Pt2) : x ∈ one ↔ Conn gap rest p x := by
  constructor
  · exact hc x
  · intro h
    induction h with
    | base _ => exact hp
    | step _ h2 h3 ih => exact hcl _ ih _ h2 h3
theorem ByRows.filter {l : List Pt2} (h : ByRows l) (f : Pt2 → Bool) : ByRows (l.filter f) := List.Pairwise.filter f h
theorem ByRows.minus {l : List Pt2} (h : ByRows l) (c : List Pt2) : ByRows (minus l c) := h.filter _
theorem ByRows.nodup {l : List Pt2} (h : ByRows l) : l.Nodup := by
  refine List.Pairwise.imp ?_ h
  intro a b hab e
  subst e
  exact before_irrefl hab
theorem minus_len {p : Pt2} {r c : List Pt2} (hp : p ∈ c) : (minus (p :: r) c).length ≤ r.length := by
  unfold minus
  rw [List.filter_cons, if_neg (by simp [hp])]
  exact List.length_filter_le _ _
/-- points that are different and in a list are no more than it has -/
theorem sub_len : ∀ {a b : List Pt2}, a.Nodup → (∀ x ∈ a, x ∈ b) → a.length ≤ b.length
  | [], b, _, _ => Nat.zero_le _
  | x :: a, b, hn, h => by
    rw [List.nodup_cons] at hn
    have hx := h x (by simp)
    have := sub_len (a := a) (b := b.erase x) hn.2 fun y hy => by
      rw [List.mem_erase_of_ne (fun e => hn.1 (by rw [← e]; exact hy))]
      exact h y (by simp [hy])
    rw [List.length_erase_of_mem hx] at this
    have hpos : 0 < b.length := List.length_pos_of_mem hx
    simp only [List.length_cons]; omega
/-- the distance to one point -/
theorem dist_one {one : List Pt2} (h : one ≠ []) (y : Pt2) {gap : Int} : dist one [y] ≤ gap ↔ ∃ x ∈ one, far x y ≤ gap := by
  obtain ⟨⟨x, hx, z, hz, he⟩, h2⟩ := dist_spec h (b := [y]) (by simp)
  simp only [List.mem_singleton] at hz
  subst hz
  constructor
  · intro hg; exact ⟨x, hx, by omega⟩
  · rintro ⟨w, hw, hg⟩
    have := h2 w hw z (by simp)
    omega
end Go.Ab.Fn

/- Deep contracts: sorted points without doubles. -/
namespace Go.Ab.Fn
open Go.Ab Go.Proofs
set_option linter.unusedSimpArgs false

theorem d_compact0 : DK 49 [noPts] fun d => d = noPts := by
  refine dfn_ok cp49 rfl GHro fun Z0 lo => ?_
  repeat (first | refine dw_p rfl ?_ | refine dw_nil ?_ | refine ds_seq ?_ | refine ds_ops mix (fun base => ?_))
  refine ds_if rfl (fun _ => ?_) (fun h => by cases h)
  repeat (first | refine dw_p rfl ?_ | refine dw_nil ?_ | refine ds_seq ?_ | refine ds_ops mix (fun base => ?_))
  exact ds_ret ⟨_, rfl, rfl, rfl⟩
theorem sortedP_self {l : List Pt2} (h : ByRows l) : sortedP l = l := ByRows.ext (sortedP_rows l) h fun p => sortedP_mem
theorem setLs_nil {α : Type} (l : List α) (i : Nat) : setLs l i [] = l := rfl
theorem setLs_take {α : Type} : ∀ (cs l : List α) (i : Nat), (setLs l i cs).take i = l.take i
  | [], _, _ => rfl
  | c :: cs, l, i => by
    simp only [setLs]
    have h := setLs_take cs (l.set i c) (i + 1)
    have h2 := congrArg (List.take i) h
    rw [List.take_take, List.take_take, Nat.min_eq_left (by omega)] at h2
    rw [h2, List.take_set_of_le (Nat.le_refl i)]
theorem setLs_pt : ∀ (l : List Pt2) (i : Nat) (x : Pt2), setLs (l.flatMap ptF) (i * 2) (ptF x) = (l.set i x).flatMap ptF
  | [], i, x => by simp [setLs, ptF]
  | y :: l, 0, x => by simp [setLs, ptF]
  | y :: l, i + 1, x => by
    have := setLs_pt l i x
    simp only [setLs, ptF] at this
    simp only [List.flatMap_cons, List.set_cons_succ, setLs, ptF]
    rw [show (i + 1) * 2 = i * 2 + 1 + 1 by omega]
    simp only [List.cons_append, List.nil_append, List.set_cons_succ]
    rw [← this]
theorem setLs_ptD (l : List Pt2) (i : Nat) (x : Pt2) : stB (.data (l.flatMap ptF)) (i * 2) [.f (.c (.int .i64 x.1)), .f (.c (.int .i64 x.2))] = .data ((l.set i x).flatMap ptF) := congrArg Bk.data (setLs_pt l i x)
theorem SortedP.step {l : List Pt2} (hs : SortedP l) {i j : Nat} {x y : Pt2} (hi : l[i]? = some x) (hj : l[j]? = some y) (hij : i < j) (hne : y ≠ x) : before x y = true := before_total (by rw [hs i j x y hi hj hij]; decide) (fun e => hne e)
/-- one more point behind points by rows -/
theorem ByRows.snoc {c : List Pt2} (h : ByRows c) {y x : Pt2} (hl : c.getLast? = some y) (hb : before y x = true) : ByRows (c ++ [x]) := by
  rw [ByRows, List.pairwise_append]
  refine ⟨h, by simp, fun a ha b hb' => ?_⟩
  simp only [List.mem_singleton] at hb'
  subst hb'
  obtain ⟨i, hi⟩ := List.getElem?_of_mem ha
  rw [List.getLast?_eq_getElem?] at hl
  have h1 := (List.getElem?_eq_some_iff.1 hi).1
  have h2 := (List.getElem?_eq_some_iff.1 hl).1
  by_cases e : i = c.length - 1
  · subst e; rw [hi] at hl; rw [Option.some.inj hl]; exact hb
  · have := List.pairwise_iff_getElem.1 h i (c.length - 1) h1 h2 (by omega)
    rw [(List.getElem?_eq_some_iff.1 hi).2, (List.getElem?_eq_some_iff.1 hl).2] at this
    exact before_trans this hb

set_option maxHeartbeats 8000000 in
theorem dx_compact {l : List Pt2} (hs : SortedP l) (hp : 0 < l.length) (hb : l.length < 1000000) : DKX 49 [.one (.own 0 0 l.length 2)] [(0, .data (l.flatMap ptF))] 1 fun d S nk => nk = 1 ∧ d = .one (.own 0 0 (sortedP l).length 2) ∧ ∃ rest, S = [(0, .data ((sortedP l).flatMap ptF ++ rest))] := by
  refine dxk_ok cp49 rfl fun Z β H lo => ?_
  obtain ⟨n, hn⟩ : ∃ n, l.length = n := ⟨_, rfl⟩
  have hflat := ptF_len l
  rw [hn]
  repeat (first | refine dw_p rfl ?_ | refine dw_nil ?_ | refine ds_seq ?_ | refine ds_ops mix (fun base => ?_))
  refine ds_if rfl (fun ht => ?_) (fun ht => ?_)
  · simp at ht
    obtain ⟨x, rfl⟩ : ∃ x, l = [x] := by
      match l, hn, hp with
      | [x], _, _ => exact ⟨x, rfl⟩
      | x :: y :: l, hn, _ => simp at hn; omega
    simp at hn
    subst hn
    have hso : sortedP [x] = [x] := sortedP_self (by simp)
    rw [hso]
    repeat (first | refine dw_p rfl ?_ | refine dw_nil ?_ | refine ds_seq ?_ | refine ds_ops mix (fun base => ?_))
    exact ds_ret ⟨_, rfl, rfl, _, SubA.refl _, rfl, rfl, [], by simp⟩
  · simp at ht
    repeat (first | refine dw_p rfl ?_ | refine dw_nil ?_ | refine ds_seq ?_ | refine ds_ops mix (fun base => ?_) | refine ds_skip ?_ | refine ds_block ?_)
    refine ds_loop (fun m E S nk => ∃ k : Nat, 1 ≤ k ∧ k ≤ n ∧ m = n - k ∧ ByRows (l.take k) ∧ E = [(0, .one (.own 0 0 n 2)), (3, .int k)] ∧ S = [(0, .data (l.flatMap ptF))] ∧ nk = 1) ⟨n - 1, _, _, _, [], ?wk, 1, by omega, by omega, rfl, ?h1, rfl, rfl, rfl⟩ ?_
    case wk => exact ⟨by repeat (first | exact trivial | refine ⟨by first | rfl | exact congrArg (fun z => some (DV.int z)) (dwrap (by omega) (by omega)), rfl, ?_⟩), by repeat (first | exact trivial | refine ⟨by first | rfl | exact congrArg (fun z => some (Bk.data z)) (by assumption), rfl, rfl, ?_⟩), rfl, rfl⟩
    case h1 =>
      cases l with
      | nil => simp at hp
      | cons x l => simp
    rintro m E S nk ⟨k, hk1, hkn, hm, hro, rfl, rfl, rfl⟩
    repeat (first | refine dw_p rfl ?_ | refine dw_nil ?_ | refine ds_seq ?_ | refine ds_ops mix (fun base => ?_))
    refine ds_if rfl (fun ht2 => ?_) (fun ht2 => ?_)
    · simp at ht2
      obtain ⟨j, rfl⟩ : ∃ j, k = j + 1 := ⟨k - 1, by omega⟩
      obtain ⟨x, hx⟩ : ∃ x, l[j + 1]? = some x := ⟨_, List.getElem?_eq_getElem (by omega)⟩
      obtain ⟨y, hy⟩ : ∃ y, l[j]? = some y := ⟨_, List.getElem?_eq_getElem (by omega)⟩
      have e1 : subL (l.flatMap ptF) (Int.toNat ((j + 1 : Nat) : Int) * 2) 2 = some (ptF x) := ptF_at hx
      have e2 : subL (l.flatMap ptF) (Int.toNat ((j : Nat) : Int) * 2) 2 = some (ptF y) := ptF_at hy
      repeat (first | refine dw_p rfl ?_ | refine dw_io0 rfl rfl (by omega) (by omega) ?_ | refine dw_l (dload_data rfl rfl (by assumption) rfl) ?_ | refine ds_seq ?_ | refine ds_ops mix (fun base => ?_) | refine ds_skip ?_ | refine ds_block ?_)
      rw [show IntKind.i64.wrap (((j + 1 : Nat) : Int) - 1) = (j : Nat) by rw [dwrap (by omega) (by omega)]; omega]
      repeat (first | refine dw_io0 rfl rfl (by omega) (by omega) ?_ | refine dw_l (dload_data rfl rfl (by assumption) rfl) ?_)
      refine dw_p (d_eqpt (p := x) (q := y) rfl rfl) ?_
      repeat (first | refine dw_nil ?_)
      refine ds_if rfl (fun he => ?_) (fun he => ?_)
      · have hxy : x = y := by simpa using he
        subst hxy
        repeat (first | refine dw_p rfl ?_ | refine ds_seq ?_ | refine ds_ops mix (fun base => ?_))
        refine dw_slo (o' := (j + 1) * 2) (n' := n - (j + 1)) rfl rfl rfl (by omega) (by omega) (by omega) rfl ?_
        repeat (first | refine dw_p rfl ?_ | refine dw_nil ?_ | refine ds_seq ?_ | refine ds_ops mix (fun base => ?_) | refine ds_block ?_)
        refine ds_loop (fun m E S nk => ∃ (w k2 : Nat) (cur : List Pt2), 1 ≤ k2 ∧ j + 1 + k2 ≤ n ∧ m = n - (j + 1 + k2) ∧ j + 1 ≤ w ∧ w ≤ j + k2 ∧ cur.length = n ∧ ByRows (cur.take w) ∧ (∀ p, p ∈ cur.take w ↔ p ∈ l.take (j + 1 + k2)) ∧ (∀ i, j + k2 ≤ i → cur[i]? = l[i]?) ∧ cur[w - 1]? = l[j + k2]? ∧ E = [(0, .one (.own 0 0 n 2)), (3, .int w), (4, .one (.own 0 ((j + 1) * 2) (n - (j + 1)) 2)), (5, .int k2)] ∧ S = [(0, .data (cur.flatMap ptF))] ∧ nk = 1) ⟨n - (j + 1 + 1), _, _, _, [], ?wk1, j + 1, 1, l, by omega, by omega, rfl, by omega, by omega, hn, hro, fun p => ?hm1, fun i _ => rfl, by rw [Nat.add_sub_cancel, hx, hy], rfl, rfl, rfl⟩ ?_
        case wk1 => exact ⟨by repeat (first | exact trivial | refine ⟨by first | rfl | exact congrArg (fun z => some (DV.int z)) (dwrap (by omega) (by omega)), rfl, ?_⟩), by repeat (first | exact trivial | refine ⟨by first | rfl | exact congrArg (fun z => some (Bk.data z)) (by assumption), rfl, rfl, ?_⟩), rfl, rfl⟩
        case hm1 =>
          rw [List.take_add_one (i := j + 1), hx, List.mem_append]
          simp only [Option.toList_some, List.mem_singleton]
          refine ⟨.inl, fun h => h.elim id fun e => ?_⟩
          subst e
          rw [List.take_add_one, hy]
          simp
        rintro m E S nk ⟨w, k2, cur, hk2, hkn2, hm2, hw1, hw2, hcl, hcr, hcm, hcu, hla, rfl, rfl, rfl⟩
        have hcf := ptF_len cur
        repeat (first | refine dw_p rfl ?_ | refine dw_nil ?_ | refine ds_seq ?_ | refine ds_ops mix (fun base => ?_))
        refine ds_if rfl (fun ht3 => ?_) (fun ht3 => ?_)
        · simp at ht3
          obtain ⟨i, rfl⟩ : ∃ i, k2 = i + 1 := ⟨k2 - 1, by omega⟩
          obtain ⟨a, ha⟩ : ∃ a, l[j + 1 + (i + 1)]? = some a := ⟨_, List.getElem?_eq_getElem (by omega)⟩
          obtain ⟨b, hb2⟩ : ∃ b, l[j + (i + 1)]? = some b := ⟨_, List.getElem?_eq_getElem (by omega)⟩
          have ha' : cur[j + 1 + (i + 1)]? = some a := by rw [hcu _ (by omega)]; exact ha
          have hb' : cur[j + 1 + i]? = some b := by rw [hcu _ (by omega), ← hb2]; congr 1; omega
          have e3 : subL (cur.flatMap ptF) ((j + 1) * 2 + Int.toNat ((i + 1 : Nat) : Int) * 2) 2 = some (ptF a) := by
            have := ptF_at ha'
            rwa [Nat.add_mul] at this
          have e4 : subL (cur.flatMap ptF) ((j + 1) * 2 + Int.toNat ((i : Nat) : Int) * 2) 2 = some (ptF b) := by
            have := ptF_at hb'
            rwa [Nat.add_mul] at this
          repeat (first | refine dw_p rfl ?_ | refine ds_seq ?_ | refine ds_ops mix (fun base => ?_) | refine ds_skip ?_ | refine ds_block ?_)
          refine dw_io rfl rfl (by omega) (by omega) ?_
          repeat (first | refine dw_p rfl ?_ | refine dw_l (dload_data rfl rfl (by assumption) rfl) ?_)
          rw [show IntKind.i64.wrap (((i + 1 : Nat) : Int) - 1) = (i : Nat) by rw [dwrap (by omega) (by omega)]; omega]
          refine dw_io rfl rfl (by omega) (by omega) ?_
          repeat (first | refine dw_l (dload_data rfl rfl (by assumption) rfl) ?_)
          refine dw_p (d_eqpt (neg := true) (p := a) (q := b) rfl rfl) ?_
          repeat (first | refine dw_nil ?_)
          refine ds_if rfl (fun hne => ?_) (fun heq => ?_)
          · have hab : a ≠ b := by simpa using hne
            have hba : before b a = true := hs.step hb2 ha (by omega) hab
            repeat (first | refine dw_p rfl ?_ | refine ds_seq ?_ | refine ds_ops mix (fun base => ?_))
            refine dw_io rfl rfl (by omega) (by omega) ?_
            repeat (first | refine dw_io0 rfl rfl (by omega) (by omega) ?_ | refine dw_l (dload_data rfl rfl (by assumption) rfl) ?_)
            refine dw_st rfl rfl rfl rfl rfl ?hle rfl ?_
            case hle => show Int.toNat (w : Int) * 2 + 2 ≤ (cur.flatMap ptF).length; rw [hcf]; simp; omega
            rw [Int.toNat_natCast w, show stB (.data (cur.flatMap ptF)) (w * 2) (List.map DC.f (ptF a)) = .data ((cur.set w a).flatMap ptF) from setLs_ptD cur w a]
            repeat (first | refine dw_p rfl ?_ | refine dw_nil ?_ | refine ds_ops mix (fun base => ?_))
            have htk : (cur.set w a).take (w + 1) = cur.take w ++ [a] := by
              rw [List.take_add_one, List.take_set_of_le (Nat.le_refl w), List.getElem?_set_self (by omega)]
              rfl
            refine ⟨n - (j + 1 + (i + 1 + 1)), by omega, _, _, _, [], ?wk2, w + 1, i + 1 + 1, cur.set w a, by omega, by omega, rfl, by omega, by omega, by simpa using hcl, ?hr, fun p => ?hm2, fun q hq => ?hu, ?hl, rfl, rfl, rfl⟩
            case wk2 => exact ⟨by repeat (first | exact trivial | refine ⟨by first | rfl | exact congrArg (fun z => some (DV.int z)) (dwrap (by omega) (by omega)), rfl, ?_⟩), by repeat (first | exact trivial | refine ⟨by first | rfl | exact congrArg (fun z => some (Bk.data z)) (by assumption), rfl, rfl, ?_⟩), rfl, rfl⟩
            case hr =>
              rw [htk]
              refine hcr.snoc (y := b) ?_ hba
              rw [List.getLast?_eq_getElem?, List.length_take, Nat.min_eq_left (by omega), List.getElem?_take, if_pos (by omega), hla]
              exact hb2
            case hm2 =>
              rw [htk, List.mem_append, hcm, show j + 1 + (i + 1 + 1) = j + 1 + (i + 1) + 1 by omega, List.take_add_one, ha, List.mem_append]
              simp
            case hu => rw [List.getElem?_set_ne (by omega), hcu q (by omega)]
            case hl => rw [Nat.add_sub_cancel, List.getElem?_set_self (by omega), ← ha]; congr 1; omega
          · have hab : a = b := by simpa using heq
            subst hab
            repeat (first | refine dw_p rfl ?_ | refine dw_nil ?_ | refine ds_ops mix (fun base => ?_) | refine ds_skip ?_)
            refine ⟨n - (j + 1 + (i + 1 + 1)), by omega, _, _, _, [], ?wk3, w, i + 1 + 1, cur, by omega, by omega, rfl, by omega, by omega, hcl, hcr, fun p => ?hm3, fun q hq => hcu q (by omega), ?hl3, rfl, rfl, rfl⟩
            case wk3 => exact ⟨by repeat (first | exact trivial | refine ⟨by first | rfl | exact congrArg (fun z => some (DV.int z)) (dwrap (by omega) (by omega)), rfl, ?_⟩), by repeat (first | exact trivial | refine ⟨by first | rfl | exact congrArg (fun z => some (Bk.data z)) (by assumption), rfl, rfl, ?_⟩), rfl, rfl⟩
            case hm3 =>
              rw [hcm, show j + 1 + (i + 1 + 1) = j + 1 + (i + 1) + 1 by omega, List.take_add_one (i := j + 1 + (i + 1)), ha, List.mem_append]
              simp only [Option.toList_some, List.mem_singleton]
              refine ⟨.inl, fun h => h.elim id fun e => ?_⟩
              subst e
              refine List.mem_of_getElem? (i := j + (i + 1)) ?_
              rw [List.getElem?_take, if_pos (by omega)]
              exact hb2
            case hl3 => rw [hla, hb2, ← ha]; congr 1; omega
        · simp at ht3
          have hk : j + 1 + k2 = n := by omega
          have hso : sortedP l = cur.take w := ByRows.ext (sortedP_rows l) hcr fun p => by
            rw [sortedP_mem, hcm, hk, List.take_of_length_le (by omega)]
          repeat (first | refine dw_p rfl ?_ | refine ds_seq ?_ | refine ds_ops mix (fun base => ?_) | refine ds_exit ?_)
          refine dw_slo (o' := w * 2) (n' := n - w) rfl rfl rfl (by omega) (by omega) (by omega) rfl ?_
          refine dw_clr (zf := [.c (.int .i64 0), .c (.int .i64 0)]) rfl rfl ?hle ⟨rfl, rfl, rfl, rfl, trivial⟩ rfl (by decide) (by omega) rfl ?_
          case hle => rw [hcf]; omega
          repeat (first | refine dw_p rfl ?_ | refine dw_nil ?_ | refine ds_seq ?_ | refine ds_ops mix (fun base => ?_))
          refine dw_slo (o' := 0) (n' := w) rfl rfl rfl (by omega) (by omega) (by omega) rfl ?_
          repeat (first | refine dw_p rfl ?_ | refine dw_nil ?_)
          have hwl : (sortedP l).length = w := by rw [hso, List.length_take]; omega
          rw [hwl]
          refine ds_ret ⟨_, rfl, rfl, _, SubA.cons (k := 0) rfl (SubA.nil _), rfl, rfl, (setLs (cur.flatMap ptF) (w * 2) (reps' [.c (.int .i64 0), .c (.int .i64 0)] (n - w))).drop (w * 2), ?_⟩
          have h1 : (sortedP l).flatMap ptF = (setLs (cur.flatMap ptF) (w * 2) (reps' [.c (.int .i64 0), .c (.int .i64 0)] (n - w))).take (w * 2) := by
            rw [setLs_take, hso]
            have hsp : cur.flatMap ptF = (cur.take w).flatMap ptF ++ (cur.drop w).flatMap ptF := by rw [← List.flatMap_append, List.take_append_drop]
            have hl2 : ((cur.take w).flatMap ptF).length = w * 2 := by rw [ptF_len, List.length_take]; omega
            rw [hsp, ← hl2, List.take_left]
          rw [h1, List.take_append_drop]
      · have hxy : x ≠ y := by simpa using he
        have hyx : before y x = true := hs.step hy hx (by omega) hxy
        repeat (first | refine dw_p rfl ?_ | refine dw_nil ?_ | refine ds_ops mix (fun base => ?_) | refine ds_skip ?_)
        refine ⟨n - (j + 1 + 1), by omega, _, _, _, [], ?wk5, j + 1 + 1, by omega, by omega, rfl, ?hr5, rfl, rfl, rfl⟩
        case wk5 => exact ⟨by repeat (first | exact trivial | refine ⟨by first | rfl | exact congrArg (fun z => some (DV.int z)) (dwrap (by omega) (by omega)), rfl, ?_⟩), by repeat (first | exact trivial | refine ⟨by first | rfl | exact congrArg (fun z => some (Bk.data z)) (by assumption), rfl, rfl, ?_⟩), rfl, rfl⟩
        case hr5 =>
          rw [List.take_add_one, hx]
          refine hro.snoc (y := y) ?_ hyx
          rw [List.getLast?_eq_getElem?, List.length_take, Nat.min_eq_left (by omega), List.getElem?_take, if_pos (by omega), Nat.add_sub_cancel]
          exact hy
    · simp at ht2
      obtain rfl : k = n := by omega
      rw [List.take_of_length_le (by omega)] at hro
      rw [sortedP_self hro, hn]
      repeat (first | refine dw_p rfl ?_ | refine dw_nil ?_ | refine ds_seq ?_ | refine ds_ops mix (fun base => ?_) | refine ds_exit ?_)
      exact ds_ret ⟨_, rfl, rfl, _, SubA.refl _, rfl, rfl, [], by simp⟩
end Go.Ab.Fn

/- Plain: points taken out of rows. -/
namespace Go.Ab.Fn
open Go.Ab

def InR (R : RowsL) (p : Pt2) : Prop := ∃ e ∈ R, e.1 = p.2 ∧ p.1 ∈ e.2
structure RowsS (R : RowsL) : Prop where
  nd : (R.map (·.1)).Nodup
  str : ∀ e ∈ R, e.2.Pairwise (· < ·)
  len : ∀ e ∈ R, e.2.length < 1000000
theorem RowsS.ok {R : RowsL} (h : RowsS R) : RowsOk R := ⟨h.nd, fun e he i j x y hij hi hj => by
  obtain ⟨hi', hi2⟩ := List.getElem?_eq_some_iff.1 hi
  obtain ⟨hj', hj2⟩ := List.getElem?_eq_some_iff.1 hj
  have := List.pairwise_iff_getElem.1 (h.str e he) i j hi' hj' hij
  omega, h.len⟩
theorem RowsS.nil : RowsS [] := ⟨by simp, by simp, by simp⟩
theorem RowsS.lft {R : RowsL} (h : RowsS R) (y low high : Int) : RowsS (lft R y low high) := by
  refine ⟨?_, fun e he => ?_, fun e he => ?_⟩
  · have : (Fn.lft R y low high).map (·.1) = R.map (·.1) := by unfold Fn.lft; rw [List.map_map]; rfl
    rw [this]; exact h.nd
  · simp only [Fn.lft, List.mem_map] at he
    obtain ⟨e', he', rfl⟩ := he
    simp only
    split
    · exact (h.str e' he').filter _
    · exact h.str e' he'
  · simp only [Fn.lft, List.mem_map] at he
    obtain ⟨e', he', rfl⟩ := he
    have := h.len e' he'
    simp only
    split
    · exact Nat.lt_of_le_of_lt (List.length_filter_le _ _) this
    · exact this
def inBox (y low high : Int) (p : Pt2) : Prop := p.2 = y ∧ low ≤ p.1 ∧ p.1 ≤ high
theorem tkn_mem {R : RowsL} {y low high : Int} {p : Pt2} : p ∈ tkn R y low high ↔ InR R p ∧ inBox y low high p := by
  simp only [tkn, List.mem_flatMap, List.mem_filter, List.mem_map, decide_eq_true_eq, InR, inBox, inB', Bool.and_eq_true]
  constructor
  · rintro ⟨e, ⟨he, hy⟩, x, ⟨hx, h1, h2⟩, rfl⟩
    exact ⟨⟨e, he, hy, hx⟩, rfl, h1, h2⟩
  · rintro ⟨⟨e, he, h1, h2⟩, h3, h4, h5⟩
    exact ⟨e, ⟨he, by rw [h1, h3]⟩, p.1, ⟨h2, h4, h5⟩, by rw [← h3]⟩
theorem lft_in {R : RowsL} {y low high : Int} {p : Pt2} (h : (R.map (·.1)).Nodup) : InR (lft R y low high) p ↔ InR R p ∧ ¬ inBox y low high p := by
  simp only [lft, InR, List.mem_map, inBox]
  constructor
  · rintro ⟨e, ⟨e', he', rfl⟩, h1, h2⟩
    simp only at h1 h2
    split at h2
    · rename_i hy
      simp only [List.mem_filter, inB', Bool.not_eq_true', Bool.and_eq_false_iff, decide_eq_false_iff_not] at h2
      refine ⟨⟨e', he', h1, h2.1⟩, ?_⟩
      rintro ⟨_, h3, h4⟩
      rcases h2.2 with h | h
      · exact h h3
      · exact h h4
    · rename_i hy
      refine ⟨⟨e', he', h1, h2⟩, ?_⟩
      rintro ⟨h3, _⟩
      exact hy (by rw [h1, h3])
  · rintro ⟨⟨e, he, h1, h2⟩, h3⟩
    refine ⟨_, ⟨e, he, rfl⟩, h1, ?_⟩
    simp only
    split
    · rename_i hy
      simp only [List.mem_filter, inB', Bool.not_eq_true', Bool.and_eq_false_iff, decide_eq_false_iff_not]
      refine ⟨h2, ?_⟩
      by_cases h4 : low ≤ p.1
      · right; intro h5; exact h3 ⟨by rw [← h1, hy], h4, h5⟩
      · left; exact h4
    · exact h2
theorem flatMap_nodup {α β : Type} (f : α → List β) (hf : ∀ a, (f a).Nodup) : ∀ {l : List α}, l.Pairwise (fun a b => ∀ x ∈ f a, x ∉ f b) → (l.flatMap f).Nodup
  | [], _ => by simp
  | a :: l, h => by
    rw [List.pairwise_cons] at h
    rw [List.flatMap_cons, List.nodup_append]
    refine ⟨hf a, flatMap_nodup f hf h.2, fun x hx y hy e => ?_⟩
    subst e
    obtain ⟨b, hb, hy⟩ := List.mem_flatMap.1 hy
    exact h.1 b hb x hx hy
theorem tkn_nodup {R : RowsL} (h : RowsS R) (y low high : Int) : (tkn R y low high).Nodup := by
  by_cases hy : ∃ (i : Nat) (xs : List Int), R[i]? = some (y, xs)
  · obtain ⟨i, xs, hi⟩ := hy
    obtain ⟨t1, _⟩ := tkn_at (low := low) (high := high) h.nd hi
    rw [t1]
    have hs := h.str _ (List.mem_of_getElem? hi)
    have : (xs.filter (inB' low high)).Pairwise (· < ·) := hs.filter _
    have h2 : (xs.filter (inB' low high)).Nodup := List.Pairwise.imp (fun {a b} hab => Int.ne_of_lt hab) this
    rw [List.Nodup, List.pairwise_map]
    exact List.Pairwise.imp (fun {a b} hab e => hab (by injection e)) h2
  · have hn : ∀ e ∈ R, e.1 ≠ y := fun e he h => hy (by
      obtain ⟨i, hi⟩ := List.getElem?_of_mem he
      exact ⟨i, e.2, by rw [hi, ← h]⟩)
    rw [(tkn_none (low := low) (high := high) hn).1]
    exact List.nodup_nil

/-- the rows hold the points of a list -/
def Holds (R : RowsL) (rest : List Pt2) : Prop := RowsS R ∧ ∀ p, InR R p ↔ p ∈ rest
theorem minus_length {rest t : List Pt2} (hr : rest.Nodup) (ht : t.Nodup) (hs : ∀ x ∈ t, x ∈ rest) : (minus rest t).length + t.length = rest.length := by
  have h1 : (minus rest t ++ t).Perm rest := by
    refine (List.perm_ext_iff_of_nodup ?_ hr).2 fun x => ?_
    · rw [List.nodup_append]
      refine ⟨List.Pairwise.filter _ hr, ht, fun a ha b hb e => ?_⟩
      subst e
      exact (minus_mem.1 ha).2 hb
    · rw [List.mem_append, minus_mem]
      constructor
      · rintro (h | h)
        · exact h.1
        · exact hs x h
      · intro h
        by_cases hx : x ∈ t
        · exact .inr hx
        · exact .inl ⟨h, hx⟩
  have := h1.length_eq
  simpa using this
theorem Holds.take {R : RowsL} {rest : List Pt2} (h : Holds R rest) (hr : rest.Nodup) (y low high : Int) : Holds (lft R y low high) (minus rest (tkn R y low high)) ∧ (tkn R y low high).Nodup ∧ (∀ x, x ∈ tkn R y low high ↔ x ∈ rest ∧ inBox y low high x) ∧ (minus rest (tkn R y low high)).length + (tkn R y low high).length = rest.length := by
  have hm : ∀ x, x ∈ tkn R y low high ↔ x ∈ rest ∧ inBox y low high x := fun x => by rw [tkn_mem, h.2]
  refine ⟨⟨h.1.lft y low high, fun p => ?_⟩, tkn_nodup h.1 y low high, hm, minus_length hr (tkn_nodup h.1 y low high) fun x hx => ((hm x).1 hx).1⟩
  rw [lft_in h.1.nd, minus_mem, hm, h.2]
  constructor
  · rintro ⟨a, b⟩; exact ⟨a, fun c => b c.2⟩
  · rintro ⟨a, b⟩; exact ⟨a, fun c => b ⟨a, c⟩⟩
/-- a list without doubles, all of whose elements are p -/
theorem only {t : List Pt2} {p : Pt2} (hn : t.Nodup) (h : ∀ x ∈ t, x = p) : t = [] ∨ t = [p] := by
  match t, hn, h with
  | [], _, _ => exact .inl rfl
  | [x], _, h => right; rw [h x (by simp)]
  | x :: y :: t, hn, h =>
    rw [List.nodup_cons] at hn
    have h1 := h x (by simp)
    have h2 := h y (by simp)
    exact absurd (by rw [h1, h2]; simp) hn.1
/-- a point is added to the rows -/
theorem Holds.set {R : RowsL} {rest : List Pt2} (h : Holds R rest) {i : Nat} {x y : Int} {xs : List Int} (hi : R[i]? = some (y, xs)) (hlt : ∀ z ∈ xs, z < x) (hl : xs.length + 1 < 1000000) : Holds (R.set i (y, xs ++ [x])) (rest ++ [(x, y)]) := by
  have hil : i < R.length := (List.getElem?_eq_some_iff.1 hi).1
  have hmem : (y, xs) ∈ R := List.mem_of_getElem? hi
  refine ⟨⟨?_, fun e he => ?_, fun e he => ?_⟩, fun p => ?_⟩
  · have : (R.set i (y, xs ++ [x])).map (·.1) = R.map (·.1) := by
      rw [List.map_set]
      apply List.ext_getElem?
      intro j
      rw [List.getElem?_set]
      split
      · rename_i e; subst e
        have := (List.getElem?_eq_some_iff.1 hi).2
        simp [hil, this]
      · rfl
    rw [this]; exact h.1.nd
  · rcases List.mem_or_eq_of_mem_set he with h' | h'
    · exact h.1.str e h'
    · subst h'
      simp only
      rw [List.pairwise_append]
      exact ⟨h.1.str _ hmem, by simp, fun a ha b hb => by simp at hb; subst hb; exact hlt a ha⟩
  · rcases List.mem_or_eq_of_mem_set he with h' | h'
    · exact h.1.len e h'
    · subst h'; simpa using hl
  · have hset : ∀ e, e ∈ R.set i (y, xs ++ [x]) ↔ e = (y, xs ++ [x]) ∨ (e ∈ R ∧ e.1 ≠ y) := by
      intro e
      constructor
      · intro he
        obtain ⟨j, hj⟩ := List.getElem?_of_mem he
        rw [List.getElem?_set] at hj
        split at hj
        · left
          exact (Option.some.inj (by simpa [hil] using hj)).symm
        · rename_i hne
          right
          refine ⟨List.mem_of_getElem? hj, fun hy => hne ?_⟩
          have hjl : j < R.length := (List.getElem?_eq_some_iff.1 hj).1
          have k1 : (R.map (·.1))[j]? = some y := by simp [hj, hy]
          have k2 : (R.map (·.1))[i]? = some y := by simp [hi]
          exact (List.getElem?_inj (by simpa using hil) h.1.nd).1 (k2.trans k1.symm)
      · rintro (rfl | ⟨he, hne⟩)
        · exact List.mem_iff_getElem?.2 ⟨i, by rw [List.getElem?_set_self hil]⟩
        · obtain ⟨j, hj⟩ := List.getElem?_of_mem he
          refine List.mem_iff_getElem?.2 ⟨j, ?_⟩
          rw [List.getElem?_set_ne (fun e => hne ?_)]
          · exact hj
          · subst e; rw [hi] at hj; rw [← Option.some.inj hj]
    rw [List.mem_append, List.mem_singleton, ← h.2]
    constructor
    · rintro ⟨e, he, h1, h2⟩
      rcases (hset e).1 he with rfl | ⟨he', hne⟩
      · simp only at h1 h2
        rcases List.mem_append.1 h2 with h3 | h3
        · exact .inl ⟨_, hmem, h1, h3⟩
        · right
          simp at h3
          exact Prod.ext h3 h1.symm
      · exact .inl ⟨e, he', h1, h2⟩
    · rintro (⟨e, he, h1, h2⟩ | rfl)
      · by_cases hy : e.1 = y
        · have : e = (y, xs) := by
            obtain ⟨j, hj⟩ := List.getElem?_of_mem he
            have hjl : j < R.length := (List.getElem?_eq_some_iff.1 hj).1
            have k1 : (R.map (·.1))[j]? = some y := by simp [hj, hy]
            have k2 : (R.map (·.1))[i]? = some y := by simp [hi]
            have := (List.getElem?_inj (by simpa using hil) h.1.nd).1 (k2.trans k1.symm)
            subst this
            rw [hi] at hj; exact (Option.some.inj hj).symm
          subst this
          exact ⟨_, (hset _).2 (.inl rfl), h1, List.mem_append_left _ h2⟩
        · exact ⟨e, (hset e).2 (.inr ⟨he, hy⟩), h1, h2⟩
      · exact ⟨_, (hset _).2 (.inl rfl), rfl, by simp⟩
theorem Holds.push {R : RowsL} {rest : List Pt2} (h : Holds R rest) {x y : Int} (hn : ∀ e ∈ R, e.1 ≠ y) : Holds (R ++ [(y, [x])]) (rest ++ [(x, y)]) := by
  refine ⟨⟨?_, fun e he => ?_, fun e he => ?_⟩, fun p => ?_⟩
  · rw [List.map_append, List.nodup_append]
    refine ⟨h.1.nd, by simp, fun a ha b hb e => ?_⟩
    simp at hb
    subst hb; subst e
    obtain ⟨e', he', h'⟩ := List.mem_map.1 ha
    exact hn e' he' h'
  · rcases List.mem_append.1 he with h' | h'
    · exact h.1.str e h'
    · simp at h'; subst h'; simp
  · rcases List.mem_append.1 he with h' | h'
    · exact h.1.len e h'
    · simp at h'; subst h'; simp
  · rw [List.mem_append, List.mem_singleton, ← h.2]
    constructor
    · rintro ⟨e, he, h1, h2⟩
      rcases List.mem_append.1 he with h' | h'
      · exact .inl ⟨e, h', h1, h2⟩
      · simp at h'; subst h'
        simp at h1 h2
        exact .inr (Prod.ext h2 h1.symm)
    · rintro (⟨e, he, h1, h2⟩ | rfl)
      · exact ⟨e, List.mem_append_left _ he, h1, h2⟩
      · exact ⟨(y, [x]), List.mem_append_right _ (by simp), rfl, by simp⟩
end Go.Ab.Fn

/- Deep contracts: the reference's distance. -/
namespace Go.Ab.Fn
open Go.Ab Go.Proofs
set_option linter.unusedSimpArgs false

def accS (o d : Int) : Int := if o < 0 ∨ d < o then d else o
theorem acc_min : ∀ (L : List Int) (o : Int), 0 ≤ o → (∀ d ∈ L, 0 ≤ d) → L.foldl accS o = L.foldl min o
  | [], _, _, _ => rfl
  | d :: L, o, ho, hL => by
    have hd := hL d (by simp)
    simp only [List.foldl_cons]
    have e : accS o d = min o d := by unfold accS; split <;> omega
    rw [e]
    exact acc_min L (min o d) (by omega) fun x hx => hL x (by simp [hx])
theorem acc_dist (a b : List Pt2) : (fars a b).foldl accS (-1) = dist a b := by
  by_cases ha : a = []
  · subst ha; simp [fars, dist]
  · by_cases hb : b = []
    · subst hb
      obtain ⟨p, a', rfl⟩ := List.exists_cons_of_ne_nil ha
      have : ∀ l : List Pt2, fars l [] = [] := fun l => by simp [fars]
      rw [this]; rfl
    · obtain ⟨p, a', rfl⟩ := List.exists_cons_of_ne_nil ha
      obtain ⟨q, b', rfl⟩ := List.exists_cons_of_ne_nil hb
      have hd : dist (p :: a') (q :: b') = (fars (p :: a') (q :: b')).foldl min (far p q) := rfl
      have hnn : ∀ d ∈ fars (p :: a') (q :: b'), 0 ≤ d := fun d hd => by
        obtain ⟨x, _, y, _, rfl⟩ := mem_fars.1 hd
        exact far_nonneg x y
      have hf : ∃ L, fars (p :: a') (q :: b') = far p q :: L := ⟨_, by simp [fars]; rfl⟩
      obtain ⟨L, hL⟩ := hf
      rw [hd]
      rw [hL] at hnn ⊢
      simp only [List.foldl_cons]
      rw [show accS (-1) (far p q) = far p q by simp [accS], show min (far p q) (far p q) = far p q by omega]
      exact acc_min L _ (far_nonneg p q) fun x hx => hnn x (by simp [hx])

set_option maxHeartbeats 4000000 in
theorem d_rdistance {a b : List Pt2} (ha : Smalls a) (hb : Smalls b) (hn : a.length < 1000000) (hm : b.length < 1000000) : DK 24 [ptsD a, ptsD b] fun d => d = .int (dist a b) := by
  refine dfn_ok cp24 rfl GHro fun Z0 lo => ?_
  repeat (first | refine dw_p rfl ?_ | refine dw_nil ?_ | refine ds_seq ?_ | refine ds_ops mix (fun base => ?_) | refine ds_block ?_)
  refine ds_loop (fun m E S nk => ∃ k : Nat, k + m = a.length ∧ E = [(0, ptsD a), (1, ptsD b), (5, .int ((fars (a.take k) b).foldl accS (-1))), (6, .int k)] ∧ S = [] ∧ nk = 0) ⟨a.length, _, _, _, [], ?wk, 0, by omega, rfl, rfl, rfl⟩ ?_
  case wk => exact ⟨by repeat (first | exact trivial | refine ⟨by first | rfl | exact congrArg (fun z => some (DV.int z)) (dwrap (by omega) (by omega)), rfl, ?_⟩), by repeat (first | exact trivial | refine ⟨by first | rfl | exact congrArg (fun z => some (Bk.data z)) (by assumption), rfl, rfl, ?_⟩), rfl, rfl⟩
  rintro m E S nk ⟨k, hk, rfl, rfl, rfl⟩
  repeat (first | refine dw_p rfl ?_ | refine dw_nil ?_ | refine ds_seq ?_ | refine ds_ops mix (fun base => ?_))
  refine ds_if rfl (fun ht => ?_) (fun ht => ?_)
  · simp at ht
    obtain ⟨p, hp⟩ : ∃ q, a[k]? = some q := ⟨_, List.getElem?_eq_getElem (by omega)⟩
    have e3 := ptF_at hp
    have hps := ha p (List.mem_of_getElem? hp)
    repeat (first | refine dw_p rfl ?_ | refine dw_nil ?_ | refine ds_seq ?_ | refine ds_ops mix (fun base => ?_) | refine ds_skip ?_ | refine ds_block ?_)
    refine ds_loop (fun m E S nk => ∃ j : Nat, j + m = b.length ∧ E = [(0, ptsD a), (1, ptsD b), (5, .int (((b.take j).map (far p)).foldl accS ((fars (a.take k) b).foldl accS (-1)))), (6, .int k), (7, .int j)] ∧ S = [] ∧ nk = 0) ⟨b.length, _, _, _, [], ?wk2, 0, by omega, rfl, rfl, rfl⟩ ?_
    case wk2 => exact ⟨by repeat (first | exact trivial | refine ⟨by first | rfl | exact congrArg (fun z => some (DV.int z)) (dwrap (by omega) (by omega)), rfl, ?_⟩), by repeat (first | exact trivial | refine ⟨by first | rfl | exact congrArg (fun z => some (Bk.data z)) (by assumption), rfl, rfl, ?_⟩), rfl, rfl⟩
    rintro m2 E S nk ⟨j, hj, rfl, rfl, rfl⟩
    repeat (first | refine dw_p rfl ?_ | refine dw_nil ?_ | refine ds_seq ?_ | refine ds_ops mix (fun base => ?_))
    refine ds_if rfl (fun ht2 => ?_) (fun ht2 => ?_)
    · simp at ht2
      obtain ⟨q, hq⟩ : ∃ q, b[j]? = some q := ⟨_, List.getElem?_eq_getElem (by omega)⟩
      have e4 := ptF_at hq
      have hqs := hb q (List.mem_of_getElem? hq)
      have hD : ((b.take (j + 1)).map (far p)).foldl accS ((fars (a.take k) b).foldl accS (-1)) = accS (((b.take j).map (far p)).foldl accS ((fars (a.take k) b).foldl accS (-1))) (far p q) := by
        rw [List.take_add_one, hq]
        simp
      repeat (first | refine dw_p rfl ?_ | refine dw_l rfl ?_ | refine dw_if rfl rfl (by omega) (by decide) (by assumption) ?_ | refine ds_seq ?_ | refine ds_ops mix (fun base => ?_) | refine ds_skip ?_ | refine ds_block ?_)
      refine dw_cf rfl rfl (d_far (p := p) (q := q) hps hqs) ?_
      rintro _ rfl
      generalize ((b.take j).map (far p)).foldl accS ((fars (a.take k) b).foldl accS (-1)) = o at *
      repeat (first | refine dw_pick rfl (by first | exact fun _ => rfl | exact fun h => (by simp only [if_pos h]; rfl) | exact fun h => (by simp only [h, if_true, if_false]; rfl)) (by first | exact fun _ => rfl | exact fun h => (by simp only [if_pos h]; rfl) | exact fun h => (by simp only [h, if_true, if_false]; rfl)) ?_ | refine dw_p rfl ?_ | refine dw_pg rfl (by first | exact fun _ => rfl | exact fun h => (by simp only [if_pos h]; rfl) | exact fun h => (by simp only [h, if_true, if_false]; rfl)) ?_ | refine dw_nil ?_ | refine ds_seq ?_ | refine ds_ops mix (fun base => ?_))
      refine ds_if rfl (fun ht3 => ?_) (fun ht3 => ?_)
      · have hc : accS o (far p q) = far p q := by unfold accS; simp at ht3; rw [if_pos (by omega)]
        rw [hc] at hD
        repeat (first | refine dw_p rfl ?_ | refine dw_nil ?_ | refine ds_ops mix (fun base => ?_))
        refine ⟨m2 - 1, by omega, _, _, _, [], ?wk3, j + 1, by omega, rfl, rfl, rfl⟩
        case wk3 => rw [hD]; exact ⟨by repeat (first | exact trivial | refine ⟨by first | rfl | exact congrArg (fun z => some (DV.int z)) (dwrap (by omega) (by omega)), rfl, ?_⟩), by repeat (first | exact trivial | refine ⟨by first | rfl | exact congrArg (fun z => some (Bk.data z)) (by assumption), rfl, rfl, ?_⟩), rfl, rfl⟩
      · have hc : accS o (far p q) = o := by unfold accS; simp at ht3; rw [if_neg (by omega)]
        rw [hc] at hD
        repeat (first | refine dw_p rfl ?_ | refine dw_nil ?_ | refine ds_ops mix (fun base => ?_) | refine ds_skip ?_)
        refine ⟨m2 - 1, by omega, _, _, _, [], ?wk3, j + 1, by omega, rfl, rfl, rfl⟩
        case wk3 => rw [hD]; exact ⟨by repeat (first | exact trivial | refine ⟨by first | rfl | exact congrArg (fun z => some (DV.int z)) (dwrap (by omega) (by omega)), rfl, ?_⟩), by repeat (first | exact trivial | refine ⟨by first | rfl | exact congrArg (fun z => some (Bk.data z)) (by assumption), rfl, rfl, ?_⟩), rfl, rfl⟩
    · simp at ht2
      obtain rfl : j = b.length := by omega
      repeat (first | refine dw_p rfl ?_ | refine dw_nil ?_ | refine ds_ops mix (fun base => ?_) | refine ds_exit ?_)
      have hD : ((b.take b.length).map (far p)).foldl accS ((fars (a.take k) b).foldl accS (-1)) = (fars (a.take (k + 1)) b).foldl accS (-1) := by
        rw [List.take_add_one, hp, List.take_length]
        simp [fars]
      rw [hD]
      refine ⟨m - 1, by omega, _, _, _, [], ?wk3, k + 1, by omega, rfl, rfl, rfl⟩
      case wk3 => exact ⟨by repeat (first | exact trivial | refine ⟨by first | rfl | exact congrArg (fun z => some (DV.int z)) (dwrap (by omega) (by omega)), rfl, ?_⟩), by repeat (first | exact trivial | refine ⟨by first | rfl | exact congrArg (fun z => some (Bk.data z)) (by assumption), rfl, rfl, ?_⟩), rfl, rfl⟩
  · simp at ht
    obtain rfl : k = a.length := by omega
    repeat (first | refine dw_p rfl ?_ | refine dw_nil ?_ | refine ds_seq ?_ | refine ds_ops mix (fun base => ?_) | refine ds_exit ?_)
    refine ds_ret ⟨_, rfl, rfl, ?_⟩
    rw [List.take_length, acc_dist]
end Go.Ab.Fn

/- Deep contracts: the reference's clusters. -/
namespace Go.Ab.Fn
open Go.Ab Go.Proofs
set_option linter.unusedSimpArgs false

def ptsF (l : List Pt2) : FD := .sl 2 l.length (l.flatMap ptF)
def ptssD (cs : List (List Pt2)) : DV := .one (.f (.sl 1 cs.length (cs.map ptsF)))
theorem ptsF_at {cs : List (List Pt2)} {i : Nat} {c : List Pt2} (h : cs[i]? = some c) : subL (cs.map ptsF) (i * 1) 1 = some [ptsF c] := by
  have hi : i < cs.length := (List.getElem?_eq_some_iff.1 h).1
  rw [subL_of (by simp; omega)]
  rw [Nat.mul_one, List.drop_eq_getElem_cons (by simpa using hi)]
  have : cs[i] = c := (List.getElem?_eq_some_iff.1 h).2
  simp [this]
theorem dist_empty {b : List Pt2} : dist [] b = -1 := by cases b <;> rfl

set_option maxHeartbeats 8000000 in
theorem d_rclusters {l : List Pt2} {gap : Int} (hs : Smalls l) (hn : l.length < 100000) : DK 25 [ptsD l, .int gap] fun d => ∃ cs, d = ptssD cs ∧ ClS gap (sortedP l) cs := by
  have hsl : (sortedP l).length < 100000 := by
    have := sub_len (sortedP_rows l).nodup (fun x hx => sortedP_mem.1 hx)
    omega
  have hss : Smalls (sortedP l) := fun x hx => hs x (sortedP_mem.1 hx)
  refine dfn_ok cp25 rfl GHro fun Z0 lo => ?_
  repeat (first | refine dw_p rfl ?_ | refine dw_nil ?_ | refine ds_seq ?_ | refine ds_ops mix (fun base => ?_))
  refine dw_cf rfl rfl (d_sorted (by omega)) ?_
  rintro _ rfl
  repeat (first | refine dw_p rfl ?_ | refine dw_a rfl ?_ | refine dw_nil ?_ | refine ds_seq ?_ | refine ds_block ?_)
  refine ds_keep (SubA.cons (k := 1) rfl (SubA.cons (k := 5) rfl (SubA.cons (k := 6) rfl (SubA.nil _)))) (SubA.refl _) ?_
  refine ds_loop (fun m E S nk => ∃ rest out, m = rest.length ∧ ByRows rest ∧ (∀ x ∈ rest, x ∈ sortedP l) ∧ out.length + rest.length ≤ (sortedP l).length ∧ (∀ cs, ClS gap rest cs → ClS gap (sortedP l) (out ++ cs)) ∧ E = [(1, .int gap), (5, ptsD rest), (6, .one (.own 0 0 out.length 1))] ∧ S = [(0, .data (out.map ptsF))] ∧ nk = 1) ⟨(sortedP l).length, _, _, _, [], ?wk, sortedP l, [], rfl, sortedP_rows l, fun x h => h, by simp, fun cs h => h, rfl, rfl, rfl⟩ ?_
  case wk => exact ⟨by repeat (first | exact trivial | refine ⟨by first | rfl | exact congrArg (fun z => some (DV.int z)) (dwrap (by omega) (by omega)), rfl, ?_⟩), by repeat (first | exact trivial | refine ⟨by first | rfl | exact congrArg (fun z => some (Bk.data z)) (by assumption), rfl, rfl, ?_⟩), rfl, rfl⟩
  rintro m E S nk ⟨rest, out, hm, hrows, hsub, hout, hcls, rfl, rfl, rfl⟩
  have hrl : rest.length < 100000 := by omega
  have hol : (out.map ptsF).length = out.length * 1 := by simp
  have hrs : Smalls rest := fun x hx => hss x (hsub x hx)
  repeat (first | refine dw_p rfl ?_ | refine dw_nil ?_ | refine ds_seq ?_ | refine ds_ops mix (fun base => ?_))
  refine ds_if rfl (fun ht => ?_) (fun ht => ?_)
  · simp at ht
    obtain ⟨p, r, rfl⟩ : ∃ p r, rest = p :: r := by
      cases rest with
      | nil => simp at ht
      | cons p r => exact ⟨p, r, rfl⟩
    have e0 := ptF_at (l := p :: r) (i := 0) (x := p) rfl
    obtain ⟨N, hN⟩ : ∃ N, (p :: r).length = N := ⟨_, rfl⟩
    repeat (first | refine dw_p rfl ?_ | refine dw_l rfl ?_ | refine dw_if0 rfl rfl (by omega) (by decide) (by assumption) ?_ | refine dw_a rfl ?_ | refine dw_nil ?_ | refine ds_seq ?_ | refine ds_ops mix (fun base => ?_) | refine ds_skip ?_ | refine ds_block ?_)
    refine ds_keep (SubA.cons (k := 1) rfl (SubA.cons (k := 5) rfl (SubA.cons (k := 6) rfl (SubA.cons (k := 7) rfl (SubA.cons (k := 8) rfl (SubA.nil _)))))) (SubA.refl _) ?_
    refine ds_loop (fun m E S nk => ∃ (one : List Pt2) (g : Bool), p ∈ one ∧ one.Nodup ∧ (∀ x ∈ one, Conn gap (p :: r) p x) ∧ (g = false → ∀ x ∈ one, ∀ y ∈ (p :: r), far x y ≤ gap → y ∈ one) ∧ m = 2 * (N - one.length) + (if g = true then 1 else 0) ∧ E = [(1, .int gap), (5, ptsD (p :: r)), (6, .one (.own 0 0 out.length 1)), (7, .one (.own 1 0 one.length 2)), (8, .bool g)] ∧ S = [(0, .data (out.map ptsF)), (1, .data (one.flatMap ptF))] ∧ nk = 2) ⟨2 * (N - 1) + 1, _, _, _, [], ?wk1, [p], true, by simp, by simp, fun x hx => ?hx, fun h => (by cases h), by simp, rfl, rfl, rfl⟩ ?_
    case wk1 => exact ⟨by repeat (first | exact trivial | refine ⟨by first | rfl | exact congrArg (fun z => some (DV.int z)) (dwrap (by omega) (by omega)), rfl, ?_⟩), by repeat (first | exact trivial | refine ⟨by first | rfl | exact congrArg (fun z => some (Bk.data z)) (by assumption), rfl, rfl, ?_⟩), rfl, rfl⟩
    case hx => simp at hx; subst hx; exact .base (by simp)
    rintro m2 E S nk ⟨one, g, hp, hnd, hconn, hclo, hm2, rfl, rfl, rfl⟩
    have honl := sub_len hnd fun x hx => (hconn x hx).mem
    repeat (first | refine dw_p rfl ?_ | refine dw_nil ?_ | refine ds_seq ?_ | refine ds_ops mix (fun base => ?_))
    refine ds_if rfl (fun hg => ?_) (fun hg => ?_)
    · subst hg
      repeat (first | refine dw_p rfl ?_ | refine dw_nil ?_ | refine ds_seq ?_ | refine ds_ops mix (fun base => ?_) | refine ds_skip ?_ | refine ds_block ?_)
      refine ds_keep (SubA.cons (k := 1) rfl (SubA.cons (k := 5) rfl (SubA.cons (k := 6) rfl (SubA.cons (k := 7) rfl (SubA.cons (k := 8) rfl (SubA.cons (k := 9) rfl (SubA.nil _))))))) (SubA.refl _) ?_
      refine ds_loop (fun k E S nk => ∃ (i : Nat) (one' : List Pt2) (g : Bool), i + k = N ∧ p ∈ one' ∧ one'.Nodup ∧ (∀ x ∈ one', Conn gap (p :: r) p x) ∧ one.length ≤ one'.length ∧ (g = true → one.length < one'.length) ∧ (g = false → ∀ (j : Nat) y, j < i → (p :: r)[j]? = some y → ∀ x ∈ one', far x y ≤ gap → y ∈ one') ∧ E = [(1, .int gap), (5, ptsD (p :: r)), (6, .one (.own 0 0 out.length 1)), (7, .one (.own 1 0 one'.length 2)), (8, .bool g), (9, .int i)] ∧ S = [(0, .data (out.map ptsF)), (1, .data (one'.flatMap ptF))] ∧ nk = 2) ⟨N, _, _, _, [], ?wk2, 0, one, false, by omega, hp, hnd, hconn, Nat.le_refl _, fun h => (by cases h), fun _ j y h => (by omega), rfl, rfl, rfl⟩ ?_
      case wk2 => exact ⟨by repeat (first | exact trivial | refine ⟨by first | rfl | exact congrArg (fun z => some (DV.int z)) (dwrap (by omega) (by omega)), rfl, ?_⟩), by repeat (first | exact trivial | refine ⟨by first | rfl | exact congrArg (fun z => some (Bk.data z)) (by assumption), rfl, rfl, ?_⟩), rfl, rfl⟩
      rintro k E S nk ⟨i, one', g, hik, hp', hnd', hconn', hle, hgt, hg', rfl, rfl, rfl⟩
      have honl' := sub_len hnd' fun x hx => (hconn' x hx).mem
      have hflat := ptF_len one'
      have hos : Smalls one' := fun x hx => hrs x (hconn' x hx).mem
      repeat (first | refine dw_p rfl ?_ | refine dw_nil ?_ | refine ds_seq ?_ | refine ds_ops mix (fun base => ?_))
      refine ds_if rfl (fun ht2 => ?_) (fun ht2 => ?_)
      · simp at ht2
        have hil : i < (p :: r).length := by simp only [List.length_cons]; omega
        obtain ⟨y, hy⟩ : ∃ y, (p :: r)[i]? = some y := ⟨_, List.getElem?_eq_getElem hil⟩
        have hym : y ∈ (p :: r) := List.mem_of_getElem? hy
        have e1 := ptF_at hy
        repeat (first | refine dw_p rfl ?_ | refine dw_l rfl ?_ | refine dw_if rfl rfl (by omega) (by decide) (by assumption) ?_ | refine ds_seq ?_ | refine ds_ops mix (fun base => ?_) | refine ds_skip ?_ | refine ds_block ?_)
        refine dw_cfo (ds := [ptsD one', ptD y]) rfl ⟨⟨_, rfl, _, _, rfl, subL_all _ hflat, rfl⟩, ⟨_, rfl, ⟨rfl, rfl⟩, ⟨rfl, rfl⟩, trivial⟩, trivial⟩ (d_has (l := one') (p := y) (by omega)) (by rintro _ rfl; rfl) ?_
        rintro _ rfl
        by_cases hyo : y ∈ one'
        · have g1 : (!decide (y ∈ one')) = false := by simp [hyo]
          repeat (first | refine dw_skip rfl rfl ?_ | refine dw_pickF rfl rfl ?_ | refine dw_pB rfl (by assumption) ?_ | refine dw_p rfl ?_ | refine dw_nil ?_)
          refine ds_if rfl (fun h => by cases h) (fun _ => ?_)
          repeat (first | refine dw_p rfl ?_ | refine dw_nil ?_ | refine ds_ops mix (fun base => ?_) | refine ds_skip ?_)
          refine ⟨k - 1, by omega, _, _, _, [], ?wk3, i + 1, one', g, by omega, hp', hnd', hconn', hle, hgt, fun hg j z hj hz x hx hf => ?_, rfl, rfl, rfl⟩
          case wk3 => exact ⟨by repeat (first | exact trivial | refine ⟨by first | rfl | exact congrArg (fun z => some (DV.int z)) (dwrap (by omega) (by omega)), rfl, ?_⟩), by repeat (first | exact trivial | refine ⟨by first | rfl | exact congrArg (fun z => some (Bk.data z)) (by assumption), rfl, rfl, ?_⟩), rfl, rfl⟩
          by_cases hji : j = i
          · subst hji; rw [hy] at hz; obtain rfl := Option.some.inj hz; exact hyo
          · exact hg' hg j z (by omega) hz x hx hf
        · have g1 : (!decide (y ∈ one')) = true := by simp [hyo]
          repeat (first | refine dw_want rfl rfl ?_ | refine dw_pB rfl (by assumption) ?_ | refine dw_p rfl ?_)
          rw [show IntKind.i64.wrap ((i : Int) + 1) = ((i + 1 : Nat) : Int) by rw [dwrap (by omega) (by omega)]; omega]
          refine dw_slf (q := ptF y) (n' := 1) rfl rfl rfl (by omega) (by simp; omega) (by omega) e1 ?_
          repeat (first | refine dw_want rfl rfl ?_)
          refine dw_cfo (ds := [ptsD one', ptsD [y]]) rfl ⟨⟨_, rfl, _, _, rfl, subL_all _ hflat, rfl⟩, ⟨_, rfl, rfl, rfl⟩, trivial⟩ (d_rdistance hos (fun x hx => by simp at hx; subst hx; exact hrs x hym) (by omega) (by simp)) (by rintro _ rfl; rfl) ?_
          rintro _ rfl
          by_cases hd : dist one' [y] ≤ gap
          · have g2 : decide (dist one' [y] ≤ gap) = true := by simpa using hd
            obtain ⟨x, hx, hxy⟩ := (dist_one (fun e => by rw [e] at hp'; simp at hp') y).1 hd
            repeat (first | refine dw_want rfl rfl ?_ | refine dw_pickT rfl rfl ?_ | refine dw_pB rfl (by assumption) ?_ | refine dw_p rfl ?_ | refine dw_nil ?_)
            refine ds_if rfl (fun _ => ?_) (fun h => by cases h)
            repeat (first | refine dw_p rfl ?_ | refine dw_l rfl ?_ | refine dw_if rfl rfl (by omega) (by decide) (by assumption) ?_ | refine dw_a rfl ?_ | refine ds_seq ?_ | refine ds_ops mix (fun base => ?_))
            refine dw_app rfl rfl rfl (subL_all _ hflat) ⟨rfl, rfl, _, rfl, rfl⟩ (by omega) (by omega) (by decide) rfl ?_
            repeat (first | refine dw_p rfl ?_ | refine dw_nil ?_ | refine ds_ops mix (fun base => ?_))
            have hD : one'.flatMap ptF ++ ptF y = (one' ++ [y]).flatMap ptF := by simp
            have hL : one'.length + 1 = (one' ++ [y]).length := by simp
            refine ⟨k - 1, by omega, _, _, _, [(1, 3)], ?wk4, i + 1, one' ++ [y], true, by omega, by simp [hp'], ?hnd, fun z hz => ?hc, by simp; omega, fun _ => by simp; omega, fun h => (by cases h), rfl, rfl, rfl⟩
            case wk4 => rw [← hD, ← hL]; exact ⟨by repeat (first | exact trivial | refine ⟨by first | rfl | exact congrArg (fun z => some (DV.int z)) (dwrap (by omega) (by omega)), rfl, ?_⟩), by repeat (first | exact trivial | refine ⟨by first | rfl | exact congrArg (fun z => some (Bk.data z)) (by assumption), rfl, rfl, ?_⟩), rfl, rfl⟩
            case hnd => exact List.nodup_append.2 ⟨hnd', by simp, fun a ha b hb e => by simp at hb; subst hb; subst e; exact hyo ha⟩
            case hc =>
              rcases List.mem_append.1 hz with h | h
              · exact hconn' z h
              · simp at h; subst h; exact .step (hconn' x hx) hym hxy
          · have g2 : decide (dist one' [y] ≤ gap) = false := by simpa using hd
            repeat (first | refine dw_want rfl rfl ?_ | refine dw_pickT rfl rfl ?_ | refine dw_pB rfl (by assumption) ?_ | refine dw_p rfl ?_ | refine dw_nil ?_)
            refine ds_if rfl (fun h => by cases h) (fun _ => ?_)
            repeat (first | refine dw_p rfl ?_ | refine dw_nil ?_ | refine ds_ops mix (fun base => ?_) | refine ds_skip ?_)
            refine ⟨k - 1, by omega, _, _, _, [], ?wk5, i + 1, one', g, by omega, hp', hnd', hconn', hle, hgt, fun hg j z hj hz x hx hf => ?_, rfl, rfl, rfl⟩
            case wk5 => exact ⟨by repeat (first | exact trivial | refine ⟨by first | rfl | exact congrArg (fun z => some (DV.int z)) (dwrap (by omega) (by omega)), rfl, ?_⟩), by repeat (first | exact trivial | refine ⟨by first | rfl | exact congrArg (fun z => some (Bk.data z)) (by assumption), rfl, rfl, ?_⟩), rfl, rfl⟩
            by_cases hji : j = i
            · subst hji; rw [hy] at hz; obtain rfl := Option.some.inj hz
              exact absurd ((dist_one (fun e => by rw [e] at hx; simp at hx) y).2 ⟨x, hx, hf⟩) hd
            · exact hg' hg j z (by omega) hz x hx hf
      · simp at ht2
        repeat (first | refine ds_exit ?_)
        refine ⟨2 * (N - one'.length) + (if g = true then 1 else 0), ?hlt, _, _, _, [], ?wk6, one', g, hp', hnd', hconn', fun hg x hx y hy hf => ?_, rfl, rfl, rfl, rfl⟩
        case wk6 => exact ⟨by repeat (first | exact trivial | refine ⟨by first | rfl | exact congrArg (fun z => some (DV.int z)) (dwrap (by omega) (by omega)), rfl, ?_⟩), by repeat (first | exact trivial | refine ⟨by first | rfl | exact congrArg (fun z => some (Bk.data z)) (by assumption), rfl, rfl, ?_⟩), rfl, rfl⟩
        case hlt =>
          rw [hm2]
          cases g with
          | true => have := hgt rfl; simp; omega
          | false => simp; omega
        obtain ⟨j, hj⟩ := List.getElem?_of_mem hy
        have hjl := (List.getElem?_eq_some_iff.1 hj).1
        simp at hjl
        exact hg' hg j y (by simp at hN; omega) hj x hx hf
    · subst hg
      have hclo := hclo rfl
      have hcc := conn_closed hp hconn hclo
      have hflat := ptF_len one
      repeat (first | refine dw_p rfl ?_ | refine dw_a rfl ?_ | refine dw_nil ?_ | refine ds_seq ?_ | refine ds_ops mix (fun base => ?_) | refine ds_block ?_ | refine ds_exit ?_)
      refine ds_keep (SubA.cons (k := 1) rfl (SubA.cons (k := 5) rfl (SubA.cons (k := 6) rfl (SubA.cons (k := 7) rfl (SubA.cons (k := 10) rfl (SubA.cons (k := 11) rfl (SubA.nil _))))))) (SubA.refl _) ?_
      refine ds_loop (fun k E S nk => ∃ (i : Nat) (left : List Pt2), i + k = N ∧ left = minus ((p :: r).take i) one ∧ E = [(1, .int gap), (5, ptsD (p :: r)), (6, .one (.own 0 0 out.length 1)), (7, .one (.own 1 0 one.length 2)), (10, .one (.own 2 0 left.length 2)), (11, .int i)] ∧ S = [(0, .data (out.map ptsF)), (1, .data (one.flatMap ptF)), (2, .data (left.flatMap ptF))] ∧ nk = 3) ⟨N, _, _, _, [], ?wk7, 0, [], by omega, by simp [minus], rfl, rfl, rfl⟩ ?_
      case wk7 => exact ⟨by repeat (first | exact trivial | refine ⟨by first | rfl | exact congrArg (fun z => some (DV.int z)) (dwrap (by omega) (by omega)), rfl, ?_⟩), by repeat (first | exact trivial | refine ⟨by first | rfl | exact congrArg (fun z => some (Bk.data z)) (by assumption), rfl, rfl, ?_⟩), rfl, rfl⟩
      rintro k E S nk ⟨i, left, hik, hleft, rfl, rfl, rfl⟩
      have hll : left.length ≤ i := by
        rw [hleft]; unfold minus
        have := List.length_filter_le (fun x => !decide (x ∈ one)) ((p :: r).take i)
        have h2 := List.length_take_le i (p :: r)
        omega
      have hlfl := ptF_len left
      repeat (first | refine dw_p rfl ?_ | refine dw_nil ?_ | refine ds_seq ?_ | refine ds_ops mix (fun base => ?_))
      refine ds_if rfl (fun ht2 => ?_) (fun ht2 => ?_)
      · simp at ht2
        have hil : i < (p :: r).length := by simp only [List.length_cons]; omega
        obtain ⟨y, hy⟩ : ∃ y, (p :: r)[i]? = some y := ⟨_, List.getElem?_eq_getElem hil⟩
        have e1 := ptF_at hy
        repeat (first | refine dw_p rfl ?_ | refine dw_l rfl ?_ | refine dw_if rfl rfl (by omega) (by decide) (by assumption) ?_ | refine ds_seq ?_ | refine ds_ops mix (fun base => ?_) | refine ds_skip ?_ | refine ds_block ?_)
        refine dw_cfo (ds := [ptsD one, ptD y]) rfl ⟨⟨_, rfl, _, _, rfl, subL_all _ hflat, rfl⟩, ⟨_, rfl, ⟨rfl, rfl⟩, ⟨rfl, rfl⟩, trivial⟩, trivial⟩ (d_has (l := one) (p := y) (by omega)) (by rintro _ rfl; rfl) ?_
        rintro _ rfl
        repeat (first | refine dw_p rfl ?_ | refine dw_nil ?_)
        have hstep : minus ((p :: r).take (i + 1)) one = if y ∈ one then left else left ++ [y] := by
          rw [List.take_add_one, hy, minus, List.filter_append, hleft, minus]
          by_cases hyo : y ∈ one <;> simp [hyo]
        refine ds_if rfl (fun hb => ?_) (fun hb => ?_)
        · have hyo : y ∉ one := by simpa using hb
          rw [if_neg hyo] at hstep
          repeat (first | refine dw_p rfl ?_ | refine dw_l rfl ?_ | refine dw_if rfl rfl (by omega) (by decide) (by assumption) ?_ | refine dw_a rfl ?_ | refine ds_ops mix (fun base => ?_))
          refine dw_app rfl rfl rfl (subL_all _ hlfl) ⟨rfl, rfl, _, rfl, rfl⟩ (by omega) (by omega) (by decide) rfl ?_
          repeat (first | refine dw_p rfl ?_ | refine dw_nil ?_ | refine ds_ops mix (fun base => ?_))
          have hD : left.flatMap ptF ++ ptF y = (left ++ [y]).flatMap ptF := by simp
          have hL : left.length + 1 = (left ++ [y]).length := by simp
          refine ⟨k - 1, by omega, _, _, _, [(2, 4)], ?wk8, i + 1, left ++ [y], by omega, hstep.symm, rfl, rfl, rfl⟩
          case wk8 => rw [← hD, ← hL]; exact ⟨by repeat (first | exact trivial | refine ⟨by first | rfl | exact congrArg (fun z => some (DV.int z)) (dwrap (by omega) (by omega)), rfl, ?_⟩), by repeat (first | exact trivial | refine ⟨by first | rfl | exact congrArg (fun z => some (Bk.data z)) (by assumption), rfl, rfl, ?_⟩), rfl, rfl⟩
        · have hyo : y ∈ one := by simpa using hb
          rw [if_pos hyo] at hstep
          repeat (first | refine dw_p rfl ?_ | refine dw_nil ?_ | refine ds_ops mix (fun base => ?_) | refine ds_skip ?_)
          refine ⟨k - 1, by omega, _, _, _, [], ?wk9, i + 1, left, by omega, hstep.symm, rfl, rfl, rfl⟩
          case wk9 => exact ⟨by repeat (first | exact trivial | refine ⟨by first | rfl | exact congrArg (fun z => some (DV.int z)) (dwrap (by omega) (by omega)), rfl, ?_⟩), by repeat (first | exact trivial | refine ⟨by first | rfl | exact congrArg (fun z => some (Bk.data z)) (by assumption), rfl, rfl, ?_⟩), rfl, rfl⟩
      · simp at ht2
        have hlr : left = minus (p :: r) one := by rw [hleft, List.take_of_length_le (by simp at hN ⊢; omega)]
        refine ds_frz 1 rfl (by repeat' (first | exact trivial | rfl | assumption | refine ⟨?_, ?_⟩)) (by repeat' (first | exact trivial | rfl | assumption | refine ⟨?_, ?_⟩)) ?_
        repeat (first | refine dw_p rfl ?_ | refine ds_ops mix (fun base => ?_) | refine ds_exit ?_)
        refine dw_cf (ds := [ptsD one]) rfl rfl (d_sorted (l := one) (by omega)) ?_
        rintro _ rfl
        repeat (first | refine dw_a rfl ?_)
        refine dw_app rfl rfl rfl (subL_all _ hol) ⟨rfl, rfl, _, rfl, rfl⟩ (by omega) (by omega) (by decide) rfl ?_
        refine dw_frz 2 rfl (by repeat' (first | exact trivial | rfl | assumption | refine ⟨?_, ?_⟩)) (by repeat' (first | exact trivial | rfl | assumption | refine ⟨?_, ?_⟩)) ?_
        repeat (first | refine dw_p rfl ?_ | refine dw_nil ?_)
        have hD : out.map ptsF ++ [ptsF (sortedP one)] = (out ++ [sortedP one]).map ptsF := by simp
        have hL : out.length + 1 = (out ++ [sortedP one]).length := by simp
        refine ⟨left.length, ?hlt, _, _, _, [(0, 4)], ?wka, left, out ++ [sortedP one], rfl, ?hr, fun x hx => ?hs2, ?hle, fun cs hcs => ?hcl, rfl, rfl, rfl⟩
        case wka => rw [← hD, ← hL]; exact ⟨by repeat (first | exact trivial | refine ⟨by first | rfl | exact congrArg (fun z => some (DV.int z)) (dwrap (by omega) (by omega)), rfl, ?_⟩), by repeat (first | exact trivial | refine ⟨by first | rfl | exact congrArg (fun z => some (Bk.data z)) (by assumption), rfl, rfl, ?_⟩), rfl, rfl⟩
        case hlt => have := minus_len (r := r) hp; rw [hlr, hm]; simp; omega
        case hr => rw [hlr]; exact hrows.minus _
        case hs2 => rw [hlr, minus_mem] at hx; exact hsub x hx.1
        case hle => have := minus_len (r := r) hp; rw [hlr]; simp at hout ⊢; omega
        case hcl =>
          rw [List.append_assoc]
          refine hcls _ (.cons (sortedP_rows one) (fun x => sortedP_mem.trans (hcc x)) ?_)
          have : minus (p :: r) (sortedP one) = left := by
            rw [hlr]; unfold minus; congr 1; funext x; simp [sortedP_mem]
          rw [this]; exact hcs
  · simp at ht
    subst ht
    repeat (first | refine dw_p rfl ?_ | refine dw_nil ?_ | refine ds_seq ?_ | refine ds_ops mix (fun base => ?_) | refine ds_exit ?_)
    refine ds_keep (SubA.cons (k := 4) rfl (SubA.nil _)) (SubA.refl _) ?_
    refine ds_frz 0 rfl (by repeat' (first | exact trivial | rfl | assumption | refine ⟨?_, ?_⟩)) (by repeat' (first | exact trivial | rfl | assumption | refine ⟨?_, ?_⟩)) ?_
    skip
    refine ds_ret ⟨_, rfl, rfl, out, rfl, ?_⟩
    have := hcls [] .nil
    simpa using this
end Go.Ab.Fn

/- Deep contracts: clusters. -/
namespace Go.Ab.Fn
open Go.Ab Go.Proofs
set_option linter.unusedSimpArgs false

def S3 (R : RowsL) (left : Int) : Bx := [(0, .mt (rowsM R)), (1, .cells [.om 0]), (2, .cells [.f (.c (.int .i64 left))])]
def S4 (R : RowsL) (left : Int) (A : List FD) : Bx := [(0, .mt (rowsM R)), (1, .cells [.om 0]), (2, .cells [.f (.c (.int .i64 left))]), (3, .data A)]
def S5 (R : RowsL) (left : Int) (A B : List FD) : Bx := [(0, .mt (rowsM R)), (1, .cells [.om 0]), (2, .cells [.f (.c (.int .i64 left))]), (3, .data A), (4, .data B)]
theorem wkS3 {ρ : List (Nat × Nat)} {n0 : Nat} {S : Bx} {R : RowsL} {left : Int} (h0 : lk S (rn ρ 0) = some (.mt (rowsM R))) (h1 : lk S (rn ρ 1) = some (.cells [.om (rn ρ 0)])) (h2 : lk S (rn ρ 2) = some (.cells [.f (.c (.int .i64 left))])) (hn : 3 ≤ n0) : WkS ρ n0 S (S3 R left) := by
  have hb : ∀ k, k < 3 → Nat.blt k n0 = true := fun k hk => Nat.ble_eq_true_of_le (by omega)
  have hb0 := hb 0 (by omega)
  refine ⟨?_, smM_rows n0 R, hb 0 (by omega), h1, ?_, hb 1 (by omega), h2, rfl, hb 2 (by omega), trivial⟩
  · rw [h0]; simp only [rnB, mtMap_rows]
  · simp only [smB, allB, smC, hb0]
theorem wkS4 {ρ : List (Nat × Nat)} {n0 : Nat} {S : Bx} {R : RowsL} {left : Int} {A : List FD} (h0 : lk S (rn ρ 0) = some (.mt (rowsM R))) (h1 : lk S (rn ρ 1) = some (.cells [.om (rn ρ 0)])) (h2 : lk S (rn ρ 2) = some (.cells [.f (.c (.int .i64 left))])) (h3 : lk S (rn ρ 3) = some (.data A)) (hn : 4 ≤ n0) : WkS ρ n0 S (S4 R left A) := by
  have hb : ∀ k, k < 4 → Nat.blt k n0 = true := fun k hk => Nat.ble_eq_true_of_le (by omega)
  have hb0 := hb 0 (by omega)
  refine ⟨?_, smM_rows n0 R, hb 0 (by omega), h1, ?_, hb 1 (by omega), h2, rfl, hb 2 (by omega), h3, rfl, hb 3 (by omega), trivial⟩
  · rw [h0]; simp only [rnB, mtMap_rows]
  · simp only [smB, allB, smC, hb0]
theorem wkS5 {ρ : List (Nat × Nat)} {n0 : Nat} {S : Bx} {R : RowsL} {left : Int} {A B : List FD} (h0 : lk S (rn ρ 0) = some (.mt (rowsM R))) (h1 : lk S (rn ρ 1) = some (.cells [.om (rn ρ 0)])) (h2 : lk S (rn ρ 2) = some (.cells [.f (.c (.int .i64 left))])) (h3 : lk S (rn ρ 3) = some (.data A)) (h4 : lk S (rn ρ 4) = some (.data B)) (hn : 5 ≤ n0) : WkS ρ n0 S (S5 R left A B) := by
  have hb : ∀ k, k < 5 → Nat.blt k n0 = true := fun k hk => Nat.ble_eq_true_of_le (by omega)
  have hb0 := hb 0 (by omega)
  refine ⟨?_, smM_rows n0 R, hb 0 (by omega), h1, ?_, hb 1 (by omega), h2, rfl, hb 2 (by omega), h3, rfl, hb 3 (by omega), h4, rfl, hb 4 (by omega), trivial⟩
  · rw [h0]; simp only [rnB, mtMap_rows]
  · simp only [smB, allB, smC, hb0]
theorem okM_rows {k : Nat} {ok : Nat → Nat → Nat → Prop} (R : RowsL) : okM k ok (rowsM R) := by
  unfold rowsM
  induction R with
  | nil => trivial
  | cons e R ih => exact ih
theorem noKM_snoc {d : DC} (hd : noKC 0 d = true) (y : Int) : ∀ R : RowsL, noKM 0 (rowsM R ++ [(y, .out d)]) = true
  | [] => by
    show noKM 0 [(y, .out d)] = true
    simp only [noKM, hd]
  | e :: R => noKM_snoc hd y R
theorem rowsM_snoc (R : RowsL) (y : Int) (xs : List Int) : rowsM (R ++ [(y, xs)]) = rowsM R ++ [(y, .row (xs.map iF))] := by simp [rowsM]
theorem set_snoc {α : Type} (l : List α) (a b : α) : (l ++ [a]).set l.length b = l ++ [b] := by
  rw [List.set_append_right _ _ (Nat.le_refl _)]; simp
theorem minus_app (l a b : List Pt2) : minus (minus l a) b = minus l (a ++ b) := by
  unfold minus
  rw [List.filter_filter]
  congr 1
  funext x
  by_cases h1 : x ∈ a <;> by_cases h2 : x ∈ b <;> simp [h1, h2]
theorem minus_nil (l : List Pt2) : minus l [] = l := by unfold minus; exact List.filter_eq_self.2 (by simp)
theorem rows_of_sorted {c : List Pt2} (hs : SortedP c) (hn : c.Nodup) : ByRows c := by
  rw [ByRows, List.pairwise_iff_getElem]
  intro i j hi hj hij
  refine hs.step (List.getElem?_eq_getElem hi) (List.getElem?_eq_getElem hj) hij fun e => ?_
  have := (List.getElem?_inj (i := i) (j := j) hi hn).1 (by rw [List.getElem?_eq_getElem hi, List.getElem?_eq_getElem hj, e])
  omega
theorem far_le (q y : Pt2) (g : Int) : far q y ≤ g ↔ q.1 - g ≤ y.1 ∧ y.1 ≤ q.1 + g ∧ q.2 - g ≤ y.2 ∧ y.2 ≤ q.2 + g := by
  simp only [far]; omega

set_option maxHeartbeats 4000000 in
theorem clu_after {Z0 : Nat → Prop} {lo : Nat} {R : RowsL} {L g : Int} {out : List (List Pt2)} {c P : List Pt2} {N j : Nat} (hc : 0 < c.length) (hcn : c.Nodup) (hcl : c.length < 1000000) (hol : out.length < 1000000) {Q : Exit → DEnv → Bx → Nat → Prop}
    (hQ : Q .normal [(1, .int g), (7, .one (.ptr 2 0)), (10, .one (.fn 50 [(1, 0), (2, 0)])), (11, .one (.own 6 0 (out.length + 1) 1)), (49, ptsD P), (50, .int N), (51, .int j)] [(0, .mt (rowsM R)), (1, .cells [.om 0]), (2, .cells [.f (.c (.int .i64 L))]), (6, .data ((out ++ [sortedP c]).map ptsF))] 7) :
    DPS (Par.base Tryd.prog 1 (H00 1) Z0 lo) f21.n (.seq (.ops f21r26 0) (.ops f21r27 0)) Q [(1, .int g), (7, .one (.ptr 2 0)), (10, .one (.fn 50 [(1, 0), (2, 0)])), (11, .one (.own 3 0 out.length 1)), (14, .one (.own 4 0 c.length 2)), (49, ptsD P), (50, .int N), (51, .int j)] (S5 R L (out.map ptsF) (c.flatMap ptF)) 5 := by
  repeat (first | refine dw_p rfl ?_ | refine ds_seq ?_ | refine ds_ops mix (fun base => ?_))
  refine dw_cx rfl rfl rfl (dx_sort (k := 4) (l := c) rfl hc (by omega) _ _ _ _ _) ?_
  rintro _ _ _ ⟨rfl, rfl, c', hperm, hsort, rfl⟩
  have hfl : (c'.flatMap ptF).length = c.length * 2 := by rw [ptF_len, hperm.length_eq]
  have hcl' : c'.length = c.length := hperm.length_eq
  have hc' : c' = sortedP c := ByRows.ext (rows_of_sorted hsort (hperm.nodup_iff.2 hcn)) (sortedP_rows c) (fun p => by rw [hperm.mem_iff, sortedP_mem])
  rw [← hc'] at hQ
  have hok := okM_rows (k := 4) (ok := okW (c'.flatMap ptF)) R
  have hol' : (out.map ptsF).length = out.length * 1 := by simp
  refine dw_nil ?_
  refine ds_frz 4 rfl (by repeat' (first | exact trivial | rfl | assumption | refine ⟨?_, ?_⟩)) (by repeat' (first | exact trivial | rfl | assumption | refine ⟨?_, ?_⟩)) ?_
  refine ds_wk [] (n0 := 5) (E0 := [(1, .int g), (7, .one (.ptr 2 0)), (10, .one (.fn 50 [(1, 0), (2, 0)])), (11, .one (.own 3 0 out.length 1)), (14, .one (.f (.sl 2 c.length (c'.flatMap ptF)))), (49, ptsD P), (50, .int N), (51, .int j)]) (S0 := S4 R L (out.map ptsF)) ⟨(by repeat (first | exact trivial | refine ⟨by first | rfl | exact congrArg (fun z => some (DV.int z)) (dwrap (by omega) (by omega)), rfl, ?_⟩)), wkS4 (congrArg (fun z => some (Bk.mt z)) (mtMap_rows _ R)) rfl rfl rfl (by omega), rfl, rfl⟩ ?_
  repeat (first | refine dw_p rfl ?_ | refine dw_a rfl ?_ | refine ds_ops mix (fun base => ?_))
  refine dw_app (q := [.sl 2 c.length (c'.flatMap ptF)]) rfl rfl rfl (subL_all _ hol') ⟨rfl, rfl, _, rfl, rfl⟩ (by omega) (by omega) (by decide) rfl ?_
  have hD : out.map ptsF ++ [.sl 2 c.length (c'.flatMap ptF)] = (out ++ [c']).map ptsF := by simp [ptsF, hcl']
  refine dw_p rfl ?_
  rw [hD]
  refine dw_keep (SubA.cons (k := 1) rfl (SubA.cons (k := 7) rfl (SubA.cons (k := 10) rfl (SubA.cons (k := 11) rfl (SubA.cons (k := 49) rfl (SubA.cons (k := 50) rfl (SubA.cons (k := 51) rfl (SubA.nil _)))))))) (SubA.cons (k := 0) rfl (SubA.cons (k := 1) rfl (SubA.cons (k := 2) rfl (SubA.cons (k := 6) rfl (SubA.nil _))))) ?_
  exact dw_nil hQ

set_option maxHeartbeats 4000000 in
theorem clu_rows {Z0 : Nat → Prop} {lo : Nat} {gap : Int} {P : List Pt2} (hP : ByRows P) (hl : P.length < 900000) {Q : Exit → DEnv → Bx → Nat → Prop}
    (hQ : ∀ R, Holds R P → Q (.exit 0) [(1, .int gap), (4, .one (.f (.c .nils))), (5, ptsD P), (6, .one (.ptr 1 0)), (7, .one (.ptr 2 0))] (S3 R P.length) 3) :
    DPS (Par.base Tryd.prog 1 (H00 1) Z0 lo) f21.n (.loop f21b0) Q [(1, .int gap), (4, .one (.f (.c .nils))), (5, ptsD P), (6, .one (.ptr 1 0)), (7, .one (.ptr 2 0)), (27, ptsD P), (28, .int P.length), (29, .int 0)] (S3 [] P.length) 3 := by
  refine ds_loop (fun m E S nk => ∃ (i : Nat) (R : RowsL), i + m = P.length ∧ Holds R (P.take i) ∧ E = [(1, .int gap), (4, .one (.f (.c .nils))), (5, ptsD P), (6, .one (.ptr 1 0)), (7, .one (.ptr 2 0)), (27, ptsD P), (28, .int P.length), (29, .int i)] ∧ S = S3 R P.length ∧ nk = 3) ⟨P.length, _, _, _, [], ?wk, 0, [], by omega, ⟨RowsS.nil, fun p => by simp [InR]⟩, rfl, rfl, rfl⟩ ?_
  case wk => exact ⟨(by repeat (first | exact trivial | refine ⟨by first | rfl | exact congrArg (fun z => some (DV.int z)) (dwrap (by omega) (by omega)), rfl, ?_⟩)), wkS3 rfl rfl rfl (by omega), rfl, rfl⟩
  rintro m E S nk ⟨i, R, him, hR, rfl, rfl, rfl⟩
  repeat (first | refine dw_p rfl ?_ | refine dw_nil ?_ | refine ds_seq ?_ | refine ds_ops mix (fun base => ?_))
  refine ds_if rfl (fun ht => ?_) (fun ht => ?_)
  · simp at ht
    obtain ⟨⟨px, py⟩, hp⟩ : ∃ p, P[i]? = some p := ⟨_, List.getElem?_eq_getElem (by omega)⟩
    have e1 := ptF_at hp
    have htk : P.take (i + 1) = P.take i ++ [(px, py)] := by rw [List.take_add_one, hp]; rfl
    have hPl : ∀ e ∈ R, e.2.length ≤ i := fun e he => by
      have h1 := hR.1.str e he
      have h2 : (e.2.map fun x => (x, e.1)).Nodup := by
        rw [List.Nodup, List.pairwise_map]
        exact List.Pairwise.imp (fun {a b} hab h => by injection h; omega) h1
      have h3 := sub_len h2 (b := P.take i) fun x hx => by
        obtain ⟨z, hz, rfl⟩ := List.mem_map.1 hx
        exact (hR.2 _).1 ⟨e, he, rfl, hz⟩
      have h4 := List.length_take_le i P
      simp at h3; omega
    repeat (first | refine dw_p rfl ?_ | refine dw_l rfl ?_ | refine dw_lk rfl ?_ | refine dw_if rfl rfl (by omega) (by decide) (by assumption) ?_ | refine dw_a rfl ?_ | refine dw_st rfl rfl rfl rfl rfl (Nat.le_of_ble_eq_true rfl) rfl ?_ | refine dw_nil ?_ | refine ds_seq ?_ | refine ds_ops mix (fun base => ?_) | refine ds_skip ?_ | refine ds_block ?_)
    by_cases hy : ∃ (i0 : Nat) (xs : List Int), R[i0]? = some (py, xs)
    · obtain ⟨i0, xs, hi0⟩ := hy
      obtain ⟨M, hM⟩ : ∃ M, (xs.map iF).length = M := ⟨_, rfl⟩
      have hM' : xs.length = M := by rw [← hM]; simp
      have hMi := hPl _ (List.mem_of_getElem? hi0)
      simp only at hMi
      have hlt : ∀ z ∈ xs, z < px := fun z hz => by
        have : (z, py) ∈ P.take i := (hR.2 _).1 ⟨_, List.mem_of_getElem? hi0, rfl, hz⟩
        obtain ⟨k, hk⟩ := List.getElem?_of_mem this
        rw [List.getElem?_take] at hk
        split at hk
        · rename_i hki
          obtain ⟨a1, a2⟩ := List.getElem?_eq_some_iff.1 hk
          obtain ⟨b1, b2⟩ := List.getElem?_eq_some_iff.1 hp
          have := List.pairwise_iff_getElem.1 hP k i a1 b1 hki
          rw [a2, b2, before_iff] at this
          simp at this
          exact this
        · cases hk
      have hset := hR.set hi0 hlt (by omega)
      rw [← htk] at hset
      have hes : ∀ d : DC, ((rowsM R).set i0 (py, .out d))[i0]? = some (py, .out d) := fun d => by
        have : i0 < (rowsM R).length := by have := (List.getElem?_eq_some_iff.1 hi0).1; simpa [rowsM] using this
        rw [List.getElem?_set_self this]
      have hfs : ∀ (d : DC) (j : Nat) (e' : Int × ME), j < i0 → ((rowsM R).set i0 (py, .out d))[j]? = some e' → e'.1 ≠ py := fun d j e' hj he => by
        rcases set_at he with ⟨h, _⟩ | ⟨_, h⟩
        · omega
        · exact first_at hR.1.nd hi0 j e' hj h
      refine dw_mlook (y := py) (q := xs.map iF) rfl rfl rfl (rowsM_at hi0) (first_at hR.1.nd hi0) rfl (noKM_rows R) rfl rfl ?_
      rw [hM]
      repeat (first | refine dw_p rfl ?_ | refine dw_l rfl ?_ | refine dw_ai rfl rfl rfl ?_)
      refine dw_app (l' := xs.map iF) (q := [iF px]) rfl rfl rfl (subL_all _ (by omega)) ⟨rfl, rfl, _, rfl, rfl⟩ (by omega) (by omega) (by decide) rfl ?_
      refine dw_mupd (y := py) rfl rfl rfl rfl (hes _) (hfs _) rfl ?_
      rw [List.set_set]
      have hq : (xs.map iF ++ [iF px]).length = M + 1 := by simp; omega
      refine dw_att 0 6 i0 rfl rfl (by rw [hq]; exact hes _) rfl (noKM_set rfl py R i0) rfl rfl ?_
      rw [List.set_set]
      have hm1 : rowsM (R.set i0 (py, xs ++ [px])) = (rowsM R).set i0 (py, .row (xs.map iF ++ [iF px])) := by rw [rowsM_set]; simp
      repeat (first | refine dw_p rfl ?_ | refine dw_nil ?_ | refine ds_ops mix (fun base => ?_))
      refine ⟨m - 1, by omega, _, _, _, [], ?wk1, i + 1, R.set i0 (py, xs ++ [px]), by omega, hset, rfl, rfl, rfl⟩
      case wk1 => exact ⟨(by repeat (first | exact trivial | refine ⟨by first | rfl | exact congrArg (fun z => some (DV.int z)) (dwrap (by omega) (by omega)), rfl, ?_⟩)), wkS3 (congrArg (fun z => some (Bk.mt z)) hm1.symm) rfl rfl (by omega), rfl, rfl⟩
    · have hn : ∀ e ∈ R, e.1 ≠ py := fun e he h => hy (by
        obtain ⟨k, hk⟩ := List.getElem?_of_mem he
        exact ⟨k, e.2, by rw [hk, ← h]⟩)
      have hn' : ∀ e ∈ rowsM R, e.1 ≠ py := fun e he => by
        simp only [rowsM, List.mem_map] at he
        obtain ⟨e', he', rfl⟩ := he
        exact hn e' he'
      have hpush := hR.push (x := px) hn
      rw [← htk] at hpush
      refine dw_mlook0 rfl rfl rfl hn' rfl ?_
      repeat (first | refine dw_p rfl ?_ | refine dw_l rfl ?_ | refine dw_ai rfl rfl rfl ?_)
      refine dw_virt 39 1 rfl ?_
      refine dw_app (l' := []) (q := [iF px]) rfl rfl rfl rfl ⟨rfl, rfl, _, rfl, rfl⟩ (by omega) (by omega) (by decide) rfl ?_
      refine dw_mupd0 (y := py) rfl rfl rfl rfl hn' rfl ?_
      refine dw_att (y := py) (q := [] ++ [iF px]) 0 6 (rowsM R).length rfl rfl (by simp) rfl (noKM_snoc rfl py R) rfl rfl ?_
      rw [set_snoc]
      repeat (first | refine dw_p rfl ?_ | refine dw_nil ?_ | refine ds_ops mix (fun base => ?_))
      refine ⟨m - 1, by omega, _, _, _, [], ?wk2, i + 1, R ++ [(py, [px])], by omega, hpush, rfl, rfl, rfl⟩
      case wk2 => exact ⟨(by repeat (first | exact trivial | refine ⟨by first | rfl | exact congrArg (fun z => some (DV.int z)) (dwrap (by omega) (by omega)), rfl, ?_⟩)), wkS3 (congrArg (fun z => some (Bk.mt z)) (rowsM_snoc R py [px]).symm) rfl rfl (by omega), rfl, rfl⟩
  · simp at ht
    rw [List.take_of_length_le (by omega)] at hR
    refine ds_keep (SubA.cons (k := 1) rfl (SubA.cons (k := 4) rfl (SubA.cons (k := 5) rfl (SubA.cons (k := 6) rfl (SubA.cons (k := 7) rfl (SubA.nil _)))))) (SubA.cons (k := 0) rfl (SubA.cons (k := 1) rfl (SubA.cons (k := 2) rfl (SubA.nil _)))) ?_
    exact ds_exit (hQ R hR)
end Go.Ab.Fn

/- Deep contracts: clusters, joined. -/
namespace Go.Ab.Fn
open Go.Ab Go.Proofs
set_option linter.unusedSimpArgs false

/-- a box that nothing names -/
theorem ds_dummy {p : Par} {n : Nat} {Q : Exit → DEnv → Bx → Nat → Prop} {E : DEnv} {S : Bx} {nk : Nat} {s : SC} (h : DPS p n s Q E ((nk, .data []) :: S) (nk + 1)) : DPS p n s Q E S nk := .mk fun Z β H F hS hE =>
  h.run Z _ H F (virt_ok hS) (hE.mono (ZLe.refl Z H) (hS.ble .nil))
/-- the state in which a cluster grows -/
structure Grow (g : Int) (rest : List Pt2) (x : Pt2) (c : List Pt2) (R : RowsL) : Prop where
  inc : x ∈ c
  nd : c.Nodup
  conn : ∀ y ∈ c, Conn g rest x y
  holds : Holds R (minus rest c)
/-- what is near to the first i points of a cluster is in it -/
def Done (g : Int) (rest c : List Pt2) (i : Nat) : Prop := ∀ (k : Nat) (q : Pt2), k < i → c[k]? = some q → ∀ y ∈ rest, far q y ≤ g → y ∈ c
theorem Grow.len {g : Int} {rest c : List Pt2} {x : Pt2} {R : RowsL} (h : Grow g rest x c R) : c.length ≤ rest.length := sub_len h.nd fun y hy => (h.conn y hy).mem
theorem Grow.take {g : Int} {rest c : List Pt2} {x q : Pt2} {R : RowsL} {dy : Int} (h : Grow g rest x c R) (hr : rest.Nodup) (hq : q ∈ c) (h1 : -g ≤ dy) (h2 : dy ≤ g) :
    Grow g rest x (c ++ tkn R (q.2 + dy) (q.1 - g) (q.1 + g)) (lft R (q.2 + dy) (q.1 - g) (q.1 + g)) ∧ ((minus rest (c ++ tkn R (q.2 + dy) (q.1 - g) (q.1 + g))).length : Int) = (minus rest c).length - (tkn R (q.2 + dy) (q.1 - g) (q.1 + g)).length ∧
      ∀ y ∈ rest, far q y ≤ g → y.2 = q.2 + dy → y ∈ c ++ tkn R (q.2 + dy) (q.1 - g) (q.1 + g) := by
  obtain ⟨t1, t2, t3, t4⟩ := h.holds.take (List.Pairwise.filter _ hr) (q.2 + dy) (q.1 - g) (q.1 + g)
  generalize tkn R (q.2 + dy) (q.1 - g) (q.1 + g) = T at *
  refine ⟨⟨List.mem_append_left _ h.inc, ?_, fun y hy => ?_, ?_⟩, ?_, fun y hy hf hd => ?_⟩
  · rw [List.nodup_append]
    refine ⟨h.nd, t2, fun a ha b hb e => ?_⟩
    subst e
    exact (minus_mem.1 ((t3 a).1 hb).1).2 ha
  · rcases List.mem_append.1 hy with hy | hy
    · exact h.conn y hy
    · obtain ⟨h3, h4, h5, h6⟩ := (t3 y).1 hy
      exact .step (h.conn q hq) (minus_mem.1 h3).1 ((far_le q y g).2 ⟨h5, h6, by omega, by omega⟩)
  · rw [← minus_app]; exact t1
  · rw [← minus_app]; omega
  · by_cases hc : y ∈ c
    · exact List.mem_append_left _ hc
    · have := (far_le q y g).1 hf
      exact List.mem_append_right _ ((t3 y).2 ⟨minus_mem.2 ⟨hy, hc⟩, hd, this.1, this.2.1⟩)

set_option maxHeartbeats 16000000 in
theorem d_clusters {l : List Pt2} {gap : Int} (hs : ∀ p ∈ l, Small 1000000 p) (hn : l.length < 100000) : DK 21 [ptsD l, .int gap] fun d => ∃ cs, d = ptssD cs ∧ ClS (min (max gap 0) 2000) (sortedP l) cs := by
  refine dfn_ok cp21 rfl GHro fun Z0 lo => ?_
  have hsl : (sortedP l).length < 100000 := by
    have := sub_len (sortedP_rows l).nodup (fun x hx => sortedP_mem.1 hx)
    omega
  have hss : ∀ p ∈ sortedP l, Small 1000000 p := fun x hx => hs x (sortedP_mem.1 hx)
  have hP := sortedP_rows l
  have fin : DPS (Par.base Tryd.prog 1 (H00 1) Z0 lo) f21.n (.seq (.ops f21r4 0) (.seq (.seq (.ops f21r5 0) (.block 0 (.loop f21b0))) (.seq (.ops f21r10 0) (.seq (.ops f21r11 0) (.seq (.ops f21r12 0) (.seq (.seq (.ops f21r13 0) (.block 2 (.loop f21b3))) (.seq (.ops f21r29 0) .ret))))))) (retD (Par.base Tryd.prog 1 (H00 1) Z0 lo) f21.res fun d => ∃ cs, d = ptssD cs ∧ ClS (min (max gap 0) 2000) (sortedP l) cs)
      [(1, .int gap), (4, .one (.f (.c .nils))), (5, ptsD (sortedP l))] [] 0 := by
    generalize sortedP l = P at *
    refine ds_seq ?_
    refine ds_ops mix (fun base => ?_)
    refine dw_mkmap ?_
    repeat (first | refine dw_p rfl ?_ | refine dw_a rfl ?_ | refine dw_st rfl rfl rfl rfl rfl (Nat.le_of_ble_eq_true rfl) rfl ?_ | refine dw_nil ?_ | refine ds_seq ?_ | refine ds_ops mix (fun base => ?_) | refine ds_block ?_)
    refine ds_wk [] (n0 := 3) (E0 := [(1, .int gap), (4, .one (.f (.c .nils))), (5, ptsD P), (6, .one (.ptr 1 0)), (7, .one (.ptr 2 0)), (27, ptsD P), (28, .int P.length), (29, .int 0)]) (S0 := S3 [] P.length) ⟨(by repeat (first | exact trivial | refine ⟨by first | rfl | exact congrArg (fun z => some (DV.int z)) (dwrap (by omega) (by omega)), rfl, ?_⟩)), wkS3 rfl rfl rfl (by omega), rfl, rfl⟩ ?_
    refine clu_rows hP (by omega) fun R0 hR0 => ?_
    repeat (first | refine dw_max rfl rfl ?_ | refine dw_min rfl rfl ?_ | refine dw_p rfl ?_ | refine dw_nil ?_ | refine ds_seq ?_ | refine ds_ops mix (fun base => ?_) | refine ds_block ?_)
    refine ds_virt 11 1 rfl ?_
    obtain ⟨g, hg⟩ : ∃ g, min (max gap 0) 2000 = g := ⟨_, rfl⟩
    have hg0 : 0 ≤ g := by omega
    have hg1 : g ≤ 2000 := by omega
    rw [hg]
    obtain ⟨N, hN⟩ : ∃ N, P.length = N := ⟨_, rfl⟩
    refine ds_loop (fun m E S nk => ∃ (j : Nat) (rest : List Pt2) (out : List (List Pt2)) (R : RowsL), j + m = N ∧ ByRows rest ∧ (∀ x ∈ rest, x ∈ P.drop j) ∧ Holds R rest ∧ out.length + rest.length ≤ N ∧ (∀ cs, ClS g rest cs → ClS g P (out ++ cs)) ∧ E = [(1, .int g), (7, .one (.ptr 2 0)), (10, .one (.fn 50 [(1, 0), (2, 0)])), (11, .one (.own 3 0 out.length 1)), (49, ptsD P), (50, .int N), (51, .int j)] ∧ S = S4 R rest.length (out.map ptsF) ∧ nk = 4) ⟨N, _, _, _, [], ?wk, 0, P, [], R0, by omega, hP, fun x hx => by simpa using hx, hR0, by simp; omega, fun cs h => h, rfl, rfl, rfl⟩ ?_
    case wk => rw [← hN]; exact ⟨(by repeat (first | exact trivial | refine ⟨by first | rfl | exact congrArg (fun z => some (DV.int z)) (dwrap (by omega) (by omega)), rfl, ?_⟩)), wkS4 rfl rfl rfl rfl (by omega), rfl, rfl⟩
    rintro m E S nk ⟨j, rest, out, R, hjm, hro, hsub, hR, hout, hcl, rfl, rfl, rfl⟩
    have hrP : ∀ x ∈ rest, x ∈ P := fun x hx => List.mem_of_mem_drop (hsub x hx)
    have hol : (out.map ptsF).length = out.length * 1 := by simp
    repeat (first | refine dw_p rfl ?_ | refine dw_nil ?_ | refine ds_seq ?_ | refine ds_ops mix (fun base => ?_))
    refine ds_if rfl (fun ht => ?_) (fun ht => ?_)
    · simp at ht
      obtain ⟨x, hx⟩ : ∃ x, P[j]? = some x := ⟨_, List.getElem?_eq_getElem (by omega)⟩
      have e1 := ptF_at hx
      refine ds_dummy ?_
      have hdr : P.drop j = x :: P.drop (j + 1) := by
        rw [List.drop_eq_getElem_cons (by omega), (List.getElem?_eq_some_iff.1 hx).2]
      obtain ⟨t1, t2, t3, t4⟩ := hR.take hro.nodup x.2 x.1 x.1
      have tx : ∀ y ∈ tkn R x.2 x.1 x.1, y = x := fun y hy => by
        obtain ⟨_, h1, h2, h3⟩ := (t3 y).1 hy
        exact Prod.ext (by omega) h1
      repeat (first | refine dw_p rfl ?_ | refine dw_l rfl ?_ | refine dw_if rfl rfl (by omega) (by decide) (by assumption) ?_ | refine dw_a rfl ?_ | refine dw_st rfl rfl rfl rfl rfl (Nat.le_of_ble_eq_true rfl) rfl ?_ | refine dw_nil ?_ | refine ds_seq ?_ | refine ds_ops mix (fun base => ?_) | refine ds_skip ?_ | refine ds_block ?_)
      refine dw_keep (E0 := [(1, .int g), (7, .one (.ptr 2 0)), (10, .one (.fn 50 [(1, 0), (2, 0)])), (11, .one (.own 3 0 out.length 1)), (49, ptsD P), (50, .int N), (51, .int j), (55, .one (.fn 50 [(1, 0), (2, 0)])), (57, .int x.2), (59, .int x.1), (61, .int x.1)]) (S0 := SS R rest.length (out.map ptsF) [] x.1 x.2)
        (SubA.cons (k := 1) rfl (SubA.cons (k := 7) rfl (SubA.cons (k := 10) rfl (SubA.cons (k := 11) rfl (SubA.cons (k := 49) rfl (SubA.cons (k := 50) rfl (SubA.cons (k := 51) rfl (SubA.cons (k := 55) rfl (SubA.cons (k := 57) rfl (SubA.cons (k := 59) rfl (SubA.cons (k := 61) rfl (SubA.nil _))))))))))))
        (SubA.cons (k := 0) rfl (SubA.cons (k := 1) rfl (SubA.cons (k := 2) rfl (SubA.cons (k := 3) rfl (SubA.cons (k := 4) rfl (SubA.cons (k := 5) rfl (SubA.nil _))))))) ?_
      refine dw_cxv rfl is50 rfl rfl rfl (dx_take (R := R) (left := rest.length) (y := x.2) (low := x.1) (high := x.1) (A := out.map ptsF) (B := []) (a := x.1) (b := x.2) hR.1.ok (by omega) (by omega) _ _ _ _ _) ?_
      rintro _ _ _ ⟨rfl, rfl, rfl⟩
      by_cases hxr : x ∈ rest
      · have hT : tkn R x.2 x.1 x.1 = [x] := by
          rcases only t2 tx with h | h
          · have := (t3 x).2 ⟨hxr, rfl, by omega, by omega⟩
            rw [h] at this; simp at this
          · exact h
        rw [hT] at t1 t4 ⊢
        obtain ⟨r, rfl⟩ : ∃ r, rest = x :: r := by
          cases rest with
          | nil => simp at hxr
          | cons a r =>
            refine ⟨r, ?_⟩
            by_cases hax : a = x
            · rw [hax]
            · have ha := hsub a (by simp)
              rw [hdr] at ha
              rcases List.mem_cons.1 ha with h | h
              · exact absurd h hax
              · have hb1 : before x a = true := by
                  have h5 : ByRows (P.drop j) := List.Pairwise.sublist (List.drop_sublist j P) hP
                  rw [hdr, ByRows, List.pairwise_cons] at h5
                  exact h5.1 a h
                have hb2 : before a x = true := by
                  rcases List.mem_cons.1 hxr with h6 | h6
                  · exact absurd h6.symm hax
                  · rw [ByRows, List.pairwise_cons] at hro
                    exact hro.1 x h6
                exact absurd (before_trans hb1 hb2) before_irrefl
        have hrn := hro.nodup
        have hL1 : (((x :: r).length : Nat) : Int) - (([x].length : Nat) : Int) = ((minus (x :: r) [x]).length : Nat) := by omega
        rw [hL1]
        generalize hlf : lft R x.2 x.1 x.1 = R1 at t1 ⊢
        clear hlf
        obtain ⟨M, hM⟩ : ∃ M, (x :: r).length = M := ⟨_, rfl⟩
        have hM2 : M = r.length + 1 := by rw [← hM]; simp
        repeat (first | refine dw_p rfl ?_ | refine dw_nil ?_ | refine ds_seq ?_ | refine ds_ops mix (fun base => ?_))
        refine ds_if rfl (fun h => by simp at h) (fun _ => ?_)
        repeat (first | refine dw_p rfl ?_ | refine dw_nil ?_ | refine ds_seq ?_ | refine ds_ops mix (fun base => ?_) | refine ds_skip ?_ | refine ds_block ?_)
        refine ds_loop (fun m E S nk => ∃ (i : Nat) (c : List Pt2) (R : RowsL), Grow g (x :: r) x c R ∧ Done g (x :: r) c i ∧ i ≤ c.length ∧ m = M - i ∧ E = [(1, .int g), (7, .one (.ptr 2 0)), (10, .one (.fn 50 [(1, 0), (2, 0)])), (11, .one (.own 3 0 out.length 1)), (14, .one (.own 4 0 c.length 2)), (15, .int i), (49, ptsD P), (50, .int N), (51, .int j)] ∧ S = S5 R (minus (x :: r) c).length (out.map ptsF) (c.flatMap ptF) ∧ nk = 5) ⟨M, _, _, _, [(4, 7)], ?wk1, 0, [x], R1, ⟨by simp, by simp, fun y hy => ?hy, t1⟩, fun k q h => (by omega), by omega, by omega, rfl, rfl, rfl⟩ ?_
        case wk1 => exact ⟨(by repeat (first | exact trivial | refine ⟨by first | rfl | exact congrArg (fun z => some (DV.int z)) (dwrap (by omega) (by omega)), rfl, ?_⟩)), wkS5 rfl rfl rfl rfl rfl (by omega), rfl, rfl⟩
        case hy => simp at hy; subst hy; exact .base (by simp)
        rintro m2 E S nk ⟨i, c, R, hG, hD, hic, hm2, rfl, rfl, rfl⟩
        have hcM := hG.len
        rw [hM] at hcM
        have hcP : ∀ y ∈ c, y ∈ P := fun y hy => hrP y (hG.conn y hy).mem
        have hcf := ptF_len c
        have hpos : 0 < c.length := List.length_pos_of_mem hG.inc
        have hms : minus (x :: r) (sortedP c) = minus (x :: r) c := by unfold minus; congr 1; funext z; simp [sortedP_mem]
        have hmr : (minus (x :: r) c).length ≤ r.length := minus_len hG.inc
        simp only [List.length_cons] at hout
        have step : (∀ q ∈ c, ∀ y ∈ (x :: r), far q y ≤ g → y ∈ c) → ∀ cs, ClS g (minus (x :: r) c) cs → ClS g P (out ++ [sortedP c] ++ cs) := fun hclo cs hcs => by
          rw [List.append_assoc]
          refine hcl _ (.cons (sortedP_rows c) (fun y => sortedP_mem.trans (conn_closed hG.inc hG.conn hclo y)) ?_)
          rw [hms]; exact hcs
        have hdrop : ∀ y ∈ minus (x :: r) c, y ∈ P.drop (j + 1) := fun y hy => by
          obtain ⟨h1, h2⟩ := minus_mem.1 hy
          have h3 := hsub y h1
          rw [hdr] at h3
          rcases List.mem_cons.1 h3 with h | h
          · subst h; exact absurd hG.inc h2
          · exact h
        by_cases hi : i < c.length
        · have g1 : decide ((i : Int) < c.length) = true := by simpa using hi
          by_cases hl : 0 < (minus (x :: r) c).length
          · have g2 : decide (((minus (x :: r) c).length : Int) > 0) = true := by simpa using hl
            repeat (first | refine dw_want rfl rfl ?_ | refine dw_pickT rfl rfl ?_ | refine dw_pB rfl (by assumption) ?_ | refine dw_p rfl ?_ | refine dw_l rfl ?_ | refine dw_nil ?_ | refine ds_seq ?_ | refine ds_ops mix (fun base => ?_))
            refine ds_if rfl (fun _ => ?_) (fun h => by cases h)
            obtain ⟨q, hq⟩ : ∃ q, c[i]? = some q := ⟨_, List.getElem?_eq_getElem hi⟩
            have hqc : q ∈ c := List.mem_of_getElem? hq
            obtain ⟨q1, q2, q3, q4⟩ := hss q (hcP q hqc)
            have e2 : subL (c.flatMap ptF) (Int.toNat ((i : Nat) : Int) * 2) 2 = some (ptF q) := ptF_at hq
            repeat (first | refine dw_p rfl ?_ | refine dw_io0 rfl rfl (by omega) (by omega) ?_ | refine dw_l (dload_data rfl rfl (by assumption) rfl) ?_ | refine dw_a rfl ?_ | refine dw_st rfl rfl rfl rfl rfl (Nat.le_of_ble_eq_true rfl) rfl ?_ | refine dw_nil ?_ | refine ds_seq ?_ | refine ds_ops mix (fun base => ?_) | refine ds_skip ?_ | refine ds_block ?_)
            rw [show IntKind.i64.wrap (0 - g) = -g by rw [dwrap (by omega) (by omega)]; omega]
            refine ds_loop (fun k E S nk => ∃ (dy : Int) (c' ext : List Pt2) (R : RowsL), -g ≤ dy ∧ dy ≤ g + 1 ∧ k = (g + 1 - dy).toNat ∧ c' = c ++ ext ∧ Grow g (x :: r) x c' R ∧ (∀ y ∈ (x :: r), far q y ≤ g → y.2 < q.2 + dy → y ∈ c') ∧ E = [(1, .int g), (7, .one (.ptr 2 0)), (10, .one (.fn 50 [(1, 0), (2, 0)])), (11, .one (.own 3 0 out.length 1)), (14, .one (.own 4 0 c'.length 2)), (15, .int i), (16, .one (.ptr 5 0)), (17, .int dy), (49, ptsD P), (50, .int N), (51, .int j)] ∧ S = SS R (minus (x :: r) c').length (out.map ptsF) (c'.flatMap ptF) q.1 q.2 ∧ nk = 6) ⟨(g + 1 - -g).toNat, _, _, _, [], ?wk3, -g, c, [], R, by omega, by omega, rfl, by simp, hG, fun y hy hf h => ?h0, rfl, rfl, rfl⟩ ?_
            case wk3 => exact ⟨(by repeat (first | exact trivial | refine ⟨by first | rfl | exact congrArg (fun z => some (DV.int z)) (dwrap (by omega) (by omega)), rfl, ?_⟩)), wkSS rfl rfl rfl rfl rfl rfl (by omega), rfl, rfl⟩
            case h0 => have := (far_le q y g).1 hf; omega
            rintro k E S nk ⟨dy, c', ext, R', hd1, hd2, hk, hce, hG', hnear, rfl, rfl, rfl⟩
            have hcM' := hG'.len
            rw [hM] at hcM'
            have hcl' : c'.length = c.length + ext.length := by rw [hce]; simp
            have hqc' : q ∈ c' := by rw [hce]; exact List.mem_append_left _ hqc
            have hcf' := ptF_len c'
            repeat (first | refine dw_p rfl ?_ | refine dw_nil ?_ | refine ds_seq ?_ | refine ds_ops mix (fun base => ?_))
            refine ds_if rfl (fun ht2 => ?_) (fun ht2 => ?_)
            · simp at ht2
              obtain ⟨k1, k2, k3⟩ := hG'.take hrn hqc' hd1 ht2
              have hmr' : (minus (x :: r) c').length ≤ r.length := minus_len hG'.inc
              have w1 : IntKind.i64.wrap (q.2 + dy) = q.2 + dy := dwrap (by omega) (by omega)
              have w2 : IntKind.i64.wrap (q.1 - g) = q.1 - g := dwrap (by omega) (by omega)
              have w3 : IntKind.i64.wrap (q.1 + g) = q.1 + g := dwrap (by omega) (by omega)
              repeat (first | refine dw_p rfl ?_ | refine dw_l rfl ?_ | refine ds_seq ?_ | refine ds_ops mix (fun base => ?_) | refine ds_skip ?_ | refine ds_block ?_)
              rw [w1, w2, w3]
              refine dw_cxv rfl is50 rfl rfl rfl (dx_take (R := R') (left := (minus (x :: r) c').length) (y := q.2 + dy) (low := q.1 - g) (high := q.1 + g) (A := out.map ptsF) (B := c'.flatMap ptF) (a := q.1) (b := q.2) hG'.holds.1.ok (by omega) (by omega) _ _ _ _ _) ?_
              rintro _ _ _ ⟨rfl, rfl, rfl⟩
              generalize tkn R' (q.2 + dy) (q.1 - g) (q.1 + g) = T at *
              generalize lft R' (q.2 + dy) (q.1 - g) (q.1 + g) = R2 at *
              have hTM := k1.len
              rw [hM, List.length_append] at hTM
              have hTf := ptF_len T
              skip
              refine dw_app (q := T.flatMap ptF) rfl rfl rfl (subL_all _ hcf') ⟨rfl, rfl, _, rfl, subL_all _ hTf⟩ (by omega) (by omega) (by decide) rfl ?_
              repeat (first | refine dw_p rfl ?_ | refine dw_nil ?_ | refine ds_ops mix (fun base => ?_))
              refine ⟨(g + 1 - (dy + 1)).toNat, by omega, _, _, _, [(4, 8)], ?wk4, dy + 1, c' ++ T, ext ++ T, R2, by omega, by omega, rfl, by rw [hce, List.append_assoc], k1, fun y hy hf h => ?hn, rfl, rfl, rfl⟩
              case wk4 => rw [k2, List.length_append, List.flatMap_append]; exact ⟨(by repeat (first | exact trivial | refine ⟨by first | rfl | exact congrArg (fun z => some (DV.int z)) (dwrap (by omega) (by omega)), rfl, ?_⟩)), wkSS rfl rfl rfl rfl rfl rfl (by omega), rfl, rfl⟩
              case hn =>
                by_cases h5 : y.2 < q.2 + dy
                · exact List.mem_append_left _ (hnear y hy hf h5)
                · exact k3 y hy hf (by omega)
            · simp at ht2
              repeat (first | refine dw_p rfl ?_ | refine dw_nil ?_ | refine ds_ops mix (fun base => ?_) | refine ds_exit ?_)
              refine ⟨M - (i + 1), by omega, _, _, _, [], ?wk5, i + 1, c', R', hG', fun k z hk hz y hy hf => ?hdn, by omega, rfl, rfl, rfl, rfl⟩
              case wk5 => exact ⟨(by repeat (first | exact trivial | refine ⟨by first | rfl | exact congrArg (fun z => some (DV.int z)) (dwrap (by omega) (by omega)), rfl, ?_⟩)), wkS5 rfl rfl rfl rfl rfl (by omega), rfl, rfl⟩
              case hdn =>
                by_cases hki : k = i
                · subst hki
                  rw [hce, List.getElem?_append_left hi, hq] at hz
                  obtain rfl := Option.some.inj hz
                  have := (far_le q y g).1 hf
                  exact hnear y hy hf (by omega)
                · rw [hce, List.getElem?_append_left (by omega)] at hz
                  rw [hce]
                  exact List.mem_append_left _ (hD k z (by omega) hz y hy hf)
          · have g2 : decide (((minus (x :: r) c).length : Int) > 0) = false := by simpa using hl
            have hm0 : minus (x :: r) c = [] := List.eq_nil_of_length_eq_zero (by omega)
            have hclo : ∀ q ∈ c, ∀ y ∈ (x :: r), far q y ≤ g → y ∈ c := fun q _ y hy _ => Classical.byContradiction fun h => by
              have := minus_mem.2 ⟨hy, h⟩
              rw [hm0] at this; simp at this
            repeat (first | refine dw_want rfl rfl ?_ | refine dw_pickT rfl rfl ?_ | refine dw_pB rfl (by assumption) ?_ | refine dw_p rfl ?_ | refine dw_l rfl ?_ | refine dw_nil ?_ | refine ds_seq ?_ | refine ds_ops mix (fun base => ?_))
            refine ds_if rfl (fun h => by cases h) (fun _ => ?_)
            refine ds_exit ?_
            refine ds_keep (SubA.cons (k := 1) rfl (SubA.cons (k := 7) rfl (SubA.cons (k := 10) rfl (SubA.cons (k := 11) rfl (SubA.cons (k := 14) rfl (SubA.cons (k := 49) rfl (SubA.cons (k := 50) rfl (SubA.cons (k := 51) rfl (SubA.nil _))))))))) (SubA.refl _) ?_
            refine clu_after hpos hG.nd (by omega) (by omega) ?_
            repeat (first | refine dw_p rfl ?_ | refine dw_nil ?_ | refine ds_ops mix (fun base => ?_))
            refine ⟨m - 1, by omega, _, _, _, [(3, 6)], ?wka, j + 1, minus (x :: r) c, out ++ [sortedP c], R, by omega, hro.minus _, hdrop, hG.holds, by simp; omega, step hclo, rfl, rfl, rfl⟩
            case wka => rw [List.length_append]; exact ⟨(by repeat (first | exact trivial | refine ⟨by first | rfl | exact congrArg (fun z => some (DV.int z)) (dwrap (by omega) (by omega)), rfl, ?_⟩)), wkS4 rfl rfl rfl rfl (by omega), rfl, rfl⟩
        · have g1 : decide ((i : Int) < c.length) = false := by simpa using hi
          have hclo : ∀ q ∈ c, ∀ y ∈ (x :: r), far q y ≤ g → y ∈ c := fun q hq y hy hf => by
            obtain ⟨k, hk⟩ := List.getElem?_of_mem hq
            exact hD k q (by have := (List.getElem?_eq_some_iff.1 hk).1; omega) hk y hy hf
          repeat (first | refine dw_skip rfl rfl ?_ | refine dw_pickF rfl rfl ?_ | refine dw_pB rfl (by assumption) ?_ | refine dw_p rfl ?_ | refine dw_nil ?_ | refine ds_seq ?_ | refine ds_ops mix (fun base => ?_))
          refine ds_if rfl (fun h => by cases h) (fun _ => ?_)
          refine ds_exit ?_
          refine ds_keep (SubA.cons (k := 1) rfl (SubA.cons (k := 7) rfl (SubA.cons (k := 10) rfl (SubA.cons (k := 11) rfl (SubA.cons (k := 14) rfl (SubA.cons (k := 49) rfl (SubA.cons (k := 50) rfl (SubA.cons (k := 51) rfl (SubA.nil _))))))))) (SubA.refl _) ?_
          refine clu_after hpos hG.nd (by omega) (by omega) ?_
          repeat (first | refine dw_p rfl ?_ | refine dw_nil ?_ | refine ds_ops mix (fun base => ?_))
          refine ⟨m - 1, by omega, _, _, _, [(3, 6)], ?wkb, j + 1, minus (x :: r) c, out ++ [sortedP c], R, by omega, hro.minus _, hdrop, hG.holds, by simp; omega, step hclo, rfl, rfl, rfl⟩
          case wkb => rw [List.length_append]; exact ⟨(by repeat (first | exact trivial | refine ⟨by first | rfl | exact congrArg (fun z => some (DV.int z)) (dwrap (by omega) (by omega)), rfl, ?_⟩)), wkS4 rfl rfl rfl rfl (by omega), rfl, rfl⟩
      · have hT : tkn R x.2 x.1 x.1 = [] := by
          rcases only t2 tx with h | h
          · exact h
          · have := (t3 x).1 (by rw [h]; simp)
            exact absurd this.1 hxr
        rw [hT] at t1 ⊢
        rw [minus_nil] at t1
        generalize hlf : lft R x.2 x.1 x.1 = R1 at t1 ⊢
        clear hlf
        repeat (first | refine dw_p rfl ?_ | refine dw_nil ?_ | refine ds_seq ?_ | refine ds_ops mix (fun base => ?_))
        refine ds_if rfl (fun _ => ?_) (fun h => by simp at h)
        refine ds_exit ?_
        repeat (first | refine dw_p rfl ?_ | refine dw_nil ?_ | refine ds_ops mix (fun base => ?_))
        refine ⟨m - 1, by omega, _, _, _, [], ?wkc, j + 1, rest, out, R1, by omega, hro, fun y hy => ?hy2, t1, hout, hcl, rfl, rfl, rfl⟩
        case wkc => exact ⟨(by repeat (first | exact trivial | refine ⟨by first | rfl | exact congrArg (fun z => some (DV.int z)) (dwrap (by omega) (by omega)), rfl, ?_⟩)), wkS4 rfl rfl rfl rfl (by omega), rfl, rfl⟩
        case hy2 =>
          have h3 := hsub y hy
          rw [hdr] at h3
          rcases List.mem_cons.1 h3 with h | h
          · subst h; exact absurd hy hxr
          · exact h
    · simp at ht
      have hr0 : rest = [] := by
        cases rest with
        | nil => rfl
        | cons a r =>
          have := hsub a (by simp)
          rw [List.drop_of_length_le (by omega)] at this
          simp at this
      subst hr0
      refine ds_keep (SubA.cons (k := 11) rfl (SubA.nil _)) (SubA.cons (k := 3) rfl (SubA.nil _)) ?_
      refine ds_frz 3 rfl (by repeat' (first | exact trivial | rfl | assumption | refine ⟨?_, ?_⟩)) (by repeat' (first | exact trivial | rfl | assumption | refine ⟨?_, ?_⟩)) ?_
      repeat (first | refine dw_p rfl ?_ | refine dw_nil ?_ | refine ds_seq ?_ | refine ds_ops mix (fun base => ?_) | refine ds_exit ?_)
      refine ds_ret ⟨_, rfl, rfl, out, rfl, ?_⟩
      have := hcl [] .nil
      simpa using this
  have mid : 0 < l.length → DPS (Par.base Tryd.prog 1 (H00 1) Z0 lo) f21.n (.seq (.ops f21r2 0) (.seq (.ops f21r3 0) (.seq (.ops f21r4 0) (.seq (.seq (.ops f21r5 0) (.block 0 (.loop f21b0))) (.seq (.ops f21r10 0) (.seq (.ops f21r11 0) (.seq (.ops f21r12 0) (.seq (.seq (.ops f21r13 0) (.block 2 (.loop f21b3))) (.seq (.ops f21r29 0) .ret))))))))) (retD (Par.base Tryd.prog 1 (H00 1) Z0 lo) f21.res fun d => ∃ cs, d = ptssD cs ∧ ClS (min (max gap 0) 2000) (sortedP l) cs)
      [(1, .int gap), (4, .one (.f (.c .nils))), (5, .one (.own 0 0 l.length 2))] [(0, .data (l.flatMap ptF))] 1 := by
    intro hpos
    repeat (first | refine dw_p rfl ?_ | refine ds_seq ?_ | refine ds_ops mix (fun base => ?_))
    refine dw_cx rfl rfl rfl (dx_sort (k := 0) (l := l) rfl hpos (by omega) _ _ _ _ _) ?_
    rintro _ _ _ ⟨rfl, rfl, l', hperm, hsort, rfl⟩
    have hll := hperm.length_eq
    have hco := dx_compact (l := l') hsort (by omega) (by omega)
    have hso : sortedP l' = sortedP l := ByRows.ext (sortedP_rows _) (sortedP_rows _) fun p => by rw [sortedP_mem, sortedP_mem, hperm.mem_iff]
    rw [hll, hso] at hco
    repeat (first | refine dw_p rfl ?_ | refine dw_nil ?_ | refine ds_seq ?_ | refine ds_ops mix (fun base => ?_))
    refine dw_cx rfl rfl rfl (hco _ _ _ _ _) ?_
    rintro _ _ _ ⟨rfl, rfl, rest, rfl⟩
    refine dw_p rfl ?_
    refine dw_nil ?_
    refine ds_keep (SubA.cons (k := 1) rfl (SubA.cons (k := 4) rfl (SubA.cons (k := 5) rfl (SubA.nil _)))) (SubA.cons (k := 0) rfl (SubA.nil _)) ?_
    refine ds_shrink 0 ((sortedP l).length * 2) rfl ?_
    have hfl := ptF_len (sortedP l)
    rw [List.take_append_of_le_length (by omega), List.take_of_length_le (by omega)]
    refine ds_frz 0 rfl (by repeat' (first | exact trivial | rfl | assumption | refine ⟨?_, ?_⟩)) (by repeat' (first | exact trivial | rfl | assumption | refine ⟨?_, ?_⟩)) ?_
    refine ds_wk [] (n0 := 0) (E0 := [(1, .int gap), (4, .one (.f (.c .nils))), (5, ptsD (sortedP l))]) (S0 := []) ⟨(by repeat (first | exact trivial | refine ⟨by first | rfl | exact congrArg (fun z => some (DV.int z)) (dwrap (by omega) (by omega)), rfl, ?_⟩)), trivial, rfl, rfl⟩ ?_
    exact fin
  repeat (first | refine dw_p rfl ?_ | refine dw_nil ?_ | refine ds_seq ?_ | refine ds_ops mix (fun base => ?_))
  refine dw_cfr rfl rfl (do_clone (by omega)) ?_
  rintro _ _ _ ⟨k, hk, rfl, rfl, rfl⟩
  refine dw_p rfl ?_
  refine dw_nil ?_
  by_cases h0 : l = []
  · subst h0
    refine ds_seq ?_
    refine ds_own0 5 rfl ?_
    repeat (first | refine dw_p rfl ?_ | refine ds_ops mix (fun base => ?_))
    refine dw_cf rfl rfl d_sort0 ?_
    rintro _ rfl
    repeat (first | refine dw_p rfl ?_ | refine dw_nil ?_ | refine ds_seq ?_ | refine ds_ops mix (fun base => ?_))
    refine dw_cf rfl rfl d_compact0 ?_
    rintro _ rfl
    refine dw_p rfl ?_
    refine dw_nil ?_
    refine ds_wk [] (n0 := 0) (E0 := [(1, .int gap), (4, .one (.f (.c .nils))), (5, ptsD (sortedP []))]) (S0 := []) ⟨(by repeat (first | exact trivial | refine ⟨by first | rfl | exact congrArg (fun z => some (DV.int z)) (dwrap (by omega) (by omega)), rfl, ?_⟩)), trivial, rfl, rfl⟩ ?_
    exact fin
  · have hpos : 0 < l.length := List.length_pos_iff.2 h0
    rcases hk with rfl | rfl
    · refine ds_wk [] (n0 := 1) (E0 := [(1, .int gap), (4, .one (.f (.c .nils))), (5, .one (.own 0 0 l.length 2))]) (S0 := [(0, .data (l.flatMap ptF))]) ⟨(by repeat (first | exact trivial | refine ⟨by first | rfl | exact congrArg (fun z => some (DV.int z)) (dwrap (by omega) (by omega)), rfl, ?_⟩)), ⟨rfl, rfl, rfl, trivial⟩, rfl, rfl⟩ ?_
      exact mid hpos
    · refine ds_wk [(0, 1)] (n0 := 1) (E0 := [(1, .int gap), (4, .one (.f (.c .nils))), (5, .one (.own 0 0 l.length 2))]) (S0 := [(0, .data (l.flatMap ptF))]) ⟨(by repeat (first | exact trivial | refine ⟨by first | rfl | exact congrArg (fun z => some (DV.int z)) (dwrap (by omega) (by omega)), rfl, ?_⟩)), ⟨rfl, rfl, rfl, trivial⟩, rfl, rfl⟩ ?_
      exact mid hpos
end Go.Ab.Fn

/- Plain: what clusters are. -/
namespace Go.Ab.Fn
open Go.Ab

theorem Conn.mono {g g' : Int} {l l' : List Pt2} {p x : Pt2} (h : Conn g l p x) (hg : g ≤ g') (hl : ∀ y ∈ l, y ∈ l') : Conn g' l' p x := by
  induction h with
  | base h => exact .base (hl _ h)
  | step _ h2 h3 ih => exact .step ih (hl _ h2) (by omega)
theorem Conn.trans {g : Int} {l : List Pt2} {p x y : Pt2} (h1 : Conn g l p x) (h2 : Conn g l x y) : Conn g l p y := by
  induction h2 with
  | base _ => exact h1
  | step _ h2 h3 ih => exact .step ih h2 h3
theorem Conn.symm {g : Int} {l : List Pt2} {p x : Pt2} (h : Conn g l p x) : Conn g l x p := by
  induction h with
  | base h => exact .base h
  | step h1 h2 h3 ih => exact Conn.trans (.step (.base h2) h1.mem (by rw [far_comm]; exact h3)) ih
theorem ClS.congr {g g' : Int} (hc : ∀ (l : List Pt2) (p x : Pt2), Conn g l p x ↔ Conn g' l p x) {l : List Pt2} {cs : List (List Pt2)} (h : ClS g l cs) : ClS g' l cs := by
  induction h with
  | nil => exact .nil
  | cons h1 h2 _ ih => exact .cons h1 (fun x => (h2 x).trans (hc _ _ _)) ih
theorem Conn.small {g : Int} (hg : g ≤ 0) {l : List Pt2} {p x : Pt2} : Conn g l p x ↔ p ∈ l ∧ x = p := by
  constructor
  · intro h
    refine ⟨h.start, ?_⟩
    induction h with
    | base _ => rfl
    | @step a b h1 h2 h3 ih =>
      have h5 := far_nonneg a b
      have := (far_zero a b).1 (by omega)
      rw [← this, ih]
  · rintro ⟨h, rfl⟩; exact .base h
/-- gaps below 0 are as 0 -/
theorem ClS.clamp {g : Int} {l : List Pt2} {cs : List (List Pt2)} (h : ClS g l cs) : ClS (max g 0) l cs := by
  by_cases hg : 0 ≤ g
  · rw [Int.max_eq_left hg]; exact h
  · rw [Int.max_eq_right (by omega)]
    exact h.congr fun l p x => by rw [Conn.small (by omega), Conn.small (by omega)]

theorem ClS.mem {g : Int} {l : List Pt2} {cs : List (List Pt2)} (h : ClS g l cs) : ∀ c ∈ cs, ∀ x ∈ c, x ∈ l := by
  induction h with
  | nil => intro c hc; cases hc
  | cons h1 h2 _ ih =>
    intro c hc x hx
    rcases List.mem_cons.1 hc with rfl | hc
    · exact ((h2 x).1 hx).mem
    · exact (minus_mem.1 (ih c hc x hx)).1
theorem ClS.rows {g : Int} {l : List Pt2} {cs : List (List Pt2)} (h : ClS g l cs) : ∀ c ∈ cs, ByRows c := by
  induction h with
  | nil => intro c hc; cases hc
  | cons h1 h2 _ ih =>
    intro c hc
    rcases List.mem_cons.1 hc with rfl | hc
    · exact h1
    · exact ih c hc
theorem ClS.cover {g : Int} {l : List Pt2} {cs : List (List Pt2)} (h : ClS g l cs) : ∀ x ∈ l, ∃ c ∈ cs, x ∈ c := by
  induction h with
  | nil => intro c hc; cases hc
  | @cons p r c cs h1 h2 _ ih =>
    intro x hx
    by_cases hc : x ∈ c
    · exact ⟨c, by simp, hc⟩
    · obtain ⟨d, hd, hx⟩ := ih x (minus_mem.2 ⟨hx, hc⟩)
      exact ⟨d, by simp [hd], hx⟩
theorem ClS.closed {g : Int} {l : List Pt2} {cs : List (List Pt2)} (h : ClS g l cs) : ∀ c ∈ cs, ∀ x ∈ c, ∀ y ∈ l, far x y ≤ g → y ∈ c := by
  induction h with
  | nil => intro c hc; cases hc
  | @cons p r c cs h1 h2 h3 ih =>
    intro d hd x hx y hy hf
    rcases List.mem_cons.1 hd with rfl | hd
    · exact (h2 y).2 (.step ((h2 x).1 hx) hy hf)
    · have hxm := minus_mem.1 (h3.mem d hd x hx)
      by_cases hyc : y ∈ c
      · exact absurd ((h2 x).2 (.step ((h2 y).1 hyc) hxm.1 (by rw [far_comm]; exact hf))) hxm.2
      · exact ih d hd x hx y (minus_mem.2 ⟨hy, hyc⟩) hf
/-- a cluster has a first point, from which all of it is reached within it -/
theorem ClS.first {g : Int} {l : List Pt2} {cs : List (List Pt2)} (hl : ByRows l) (h : ClS g l cs) : ∀ c ∈ cs, ∃ p t, c = p :: t ∧ ∀ x, x ∈ c ↔ Conn g c p x := by
  induction h with
  | nil => intro c hc; cases hc
  | @cons p r c cs h1 h2 h3 ih =>
    intro d hd
    rcases List.mem_cons.1 hd with rfl | hd
    · have hp : p ∈ d := (h2 p).2 (.base (by simp))
      have hin : ∀ x, Conn g (p :: r) p x → Conn g d p x := fun x hx => by
        induction hx with
        | base _ => exact .base hp
        | step k1 k2 k3 ih => exact .step ih ((h2 _).2 (.step k1 k2 k3)) k3
      have hdc : ∀ x, x ∈ d ↔ Conn g d p x := fun x => ⟨fun hx => hin x ((h2 x).1 hx), fun hx => hx.mem⟩
      cases d with
      | nil => cases hp
      | cons a t =>
        have hap : a = p := by
          rcases List.mem_cons.1 hp with e | e
          · exact e.symm
          · rw [ByRows, List.pairwise_cons] at h1
            have ha := h1.1 p e
            have hal := ((h2 a).1 (by simp)).mem
            rcases List.mem_cons.1 hal with e2 | e2
            · exact e2
            · rw [ByRows, List.pairwise_cons] at hl
              exact absurd (before_trans ha (hl.1 a e2)) before_irrefl
        subst hap
        exact ⟨a, t, rfl, hdc⟩
    · exact ih (hl.minus c) d hd
def hd (c : List Pt2) : Pt2 := c.headD (0, 0)
/-- the first points come by rows -/
theorem ClS.heads {g : Int} {l : List Pt2} {cs : List (List Pt2)} (hl : ByRows l) (h : ClS g l cs) : ByRows (cs.map hd) := by
  induction h with
  | nil => exact List.Pairwise.nil
  | @cons p r c cs h1 h2 h3 ih =>
    obtain ⟨q, t, hc, hq⟩ := (ClS.cons h1 h2 h3).first hl c (by simp)
    have hp : p ∈ c := (h2 p).2 (.base (by simp))
    have hqp : q = p := by
      rw [hc] at hp h1
      rcases List.mem_cons.1 hp with e | e
      · exact e.symm
      · rw [ByRows, List.pairwise_cons] at h1
        have ha := h1.1 p e
        have hal := ((h2 q).1 (by rw [hc]; simp)).mem
        rcases List.mem_cons.1 hal with e2 | e2
        · exact e2
        · rw [ByRows, List.pairwise_cons] at hl
          exact absurd (before_trans ha (hl.1 q e2)) before_irrefl
    rw [List.map_cons, ByRows, List.pairwise_cons]
    refine ⟨fun y hy => ?_, ih (hl.minus c)⟩
    obtain ⟨d, hdm, rfl⟩ := List.mem_map.1 hy
    obtain ⟨a, t', hd', _⟩ := h3.first (hl.minus c) d hdm
    have h5 : a ∈ minus (p :: r) c := h3.mem d hdm a (by rw [hd']; simp)
    have h6 := minus_mem.1 h5
    have : before p a = true := by
      rcases List.mem_cons.1 h6.1 with e | e
      · subst e; exact absurd hp h6.2
      · rw [ByRows, List.pairwise_cons] at hl
        exact hl.1 a e
    rw [hc, hd', hqp]
    exact this
theorem ClS.part {g : Int} {l : List Pt2} {cs : List (List Pt2)} (hl : ByRows l) (h : ClS g l cs) {c : List Pt2} (hc : c ∈ cs) : ClS g c [c] := by
  obtain ⟨p, t, rfl, hp⟩ := h.first hl c hc
  refine .cons (h.rows _ hc) hp ?_
  have : minus (p :: t) (p :: t) = [] := by
    unfold minus
    exact List.filter_eq_nil_iff.2 fun x hx => by simp only [decide_eq_true hx]; decide
  rw [this]
  exact .nil
theorem minus_len2 {rest t : List Pt2} (hr : rest.Nodup) (ht : t.Nodup) (hs : ∀ x ∈ t, x ∈ rest) : (minus rest t).length + t.length = rest.length := by
  have h1 : (minus rest t ++ t).Perm rest := by
    refine (List.perm_ext_iff_of_nodup ?_ hr).2 fun x => ?_
    · rw [List.nodup_append]
      refine ⟨List.Pairwise.filter _ hr, ht, fun a ha b hb e => ?_⟩
      subst e
      exact (minus_mem.1 ha).2 hb
    · rw [List.mem_append, minus_mem]
      constructor
      · rintro (h | h)
        · exact h.1
        · exact hs x h
      · intro h
        by_cases hx : x ∈ t
        · exact .inr hx
        · exact .inl ⟨h, hx⟩
  have := h1.length_eq
  simpa using this
def total (cs : List (List Pt2)) : Nat := (cs.map List.length).sum
theorem ClS.total {g : Int} {l : List Pt2} {cs : List (List Pt2)} (hl : ByRows l) (h : ClS g l cs) : total cs = l.length := by
  induction h with
  | nil => rfl
  | @cons p r c cs h1 h2 h3 ih =>
    have := minus_len2 hl.nodup h1.nodup fun x hx => ((h2 x).1 hx).mem
    have h4 := ih (hl.minus c)
    simp only [Fn.total, List.map_cons, List.sum_cons] at h4 ⊢
    omega
/-- a greater gap has no more clusters -/
theorem ClS.fewer {g g' : Int} {l : List Pt2} {cs cs' : List (List Pt2)} (hl : ByRows l) (h : ClS g l cs) (h' : ClS g' l cs') (hg : g ≤ g') : cs'.length ≤ cs.length := by
  have hn := (h'.heads hl).nodup
  have := sub_len hn (b := cs.map hd) fun x hx => by
    obtain ⟨c', hc', rfl⟩ := List.mem_map.1 hx
    obtain ⟨p, t, hpt, hp⟩ := h'.first hl c' hc'
    have hpl : p ∈ l := h'.mem c' hc' p (by rw [hpt]; simp)
    obtain ⟨c, hc, hpc⟩ := h.cover p hpl
    obtain ⟨q, s, hqs, hq⟩ := h.first hl c hc
    refine List.mem_map.2 ⟨c, hc, ?_⟩
    have hqp : q ∈ c' := by
      -- q is reached from p
      have h1 : Conn g l p q := (((hq p).1 hpc).mono (Int.le_refl g) (h.mem c hc)).symm
      clear hq hqs
      have h2 : p ∈ c' := by rw [hpt]; simp
      induction h1 with
      | base _ => exact h2
      | step _ k2 k3 ih => exact h'.closed c' hc' _ ih _ k2 (by omega)
    have h3 := h'.rows c' hc'
    have h4 := h.rows c hc
    have : q = p := by
      rw [hpt] at hqp h3
      rw [hqs] at hpc h4
      rw [ByRows, List.pairwise_cons] at h3 h4
      rcases List.mem_cons.1 hqp with e | e
      · exact e
      · rcases List.mem_cons.1 hpc with e2 | e2
        · exact e2.symm
        · exact absurd (before_trans (h3.1 q e) (h4.1 p e2)) before_irrefl
    rw [hqs, hpt, this]
    rfl
  simpa using this
end Go.Ab.Fn

/- Deep contracts: some grid; the reference's points, handed back. -/
namespace Go.Ab.Fn
open Go.Ab Go.Proofs
set_option linter.unusedSimpArgs false

set_option maxHeartbeats 4000000 in
theorem o_rpoints {w h : Nat} {d : DotsL} (hw : w ≤ 200) (hh : h ≤ 200) (hd : Sz w h d) : DKO 35 [gridD w h d] fun r S nk => r = .one (.own 1 0 (pointsP d w h).length 2) ∧ S = [(1, .data ((pointsP d w h).flatMap ptF))] ∧ nk = 2 := by
  refine dfnO_ok cp35 rfl GHro fun Z0 lo => ?_
  have hl := hd.1
  repeat (first | refine dw_p rfl ?_ | refine dw_a rfl ?_ | refine dw_nil ?_ | refine ds_seq ?_ | refine ds_ops mix (fun base => ?_) | refine ds_block ?_)
  refine ds_loop (fun k E S nk => ∃ y : Nat, y + k = h ∧ E = [(1, .one (.ptr 0 0)), (3, .one (.own 1 0 (pointsP d w y).length 2)), (4, .int y)] ∧ S = [(0, .cells [.f (.c (.int .i64 w)), .f (.c (.int .i64 h)), .f (.sl 1 d.length ((rowsF d).map rowF))]), (1, .data ((pointsP d w y).flatMap ptF))] ∧ nk = 2) ⟨h, _, _, _, [], ?wk, 0, by omega, rfl, rfl, rfl⟩ ?_
  case wk => exact ⟨by repeat (first | exact trivial | refine ⟨by first | rfl | exact congrArg (fun z => some (DV.int z)) (dwrap (by omega) (by omega)), rfl, ?_⟩), by repeat (first | exact trivial | refine ⟨by first | rfl | exact congrArg (fun z => some (Bk.data z)) (by assumption), rfl, rfl, ?_⟩), rfl, rfl⟩
  rintro k E S nk ⟨y, hy, rfl, rfl, rfl⟩
  have hpl : (pointsP d w y).length ≤ 200 * 200 := Nat.le_trans (pointsP_len d w y) (Nat.mul_le_mul (by omega) hw)
  repeat (first | refine dw_p rfl ?_ | refine dw_l rfl ?_ | refine dw_nil ?_ | refine ds_seq ?_ | refine ds_ops mix (fun base => ?_))
  refine ds_if rfl (fun ht => ?_) (fun ht => ?_)
  · simp at ht
    obtain ⟨r, hr, hrl⟩ := hd.row (y := y) (by omega)
    have e1 := rowF_at (rowsF_at hr)
    repeat (first | refine dw_p rfl ?_ | refine dw_nil ?_ | refine ds_seq ?_ | refine ds_ops mix (fun base => ?_) | refine ds_skip ?_ | refine ds_block ?_)
    refine ds_loop (fun k2 E S nk => ∃ x : Nat, x + k2 = w ∧ ∃ l : List Pt2, l = pointsP d w y ++ rowPts d x y ∧ E = [(1, .one (.ptr 0 0)), (3, .one (.own 1 0 l.length 2)), (4, .int y), (5, .int x)] ∧ S = [(0, .cells [.f (.c (.int .i64 w)), .f (.c (.int .i64 h)), .f (.sl 1 d.length ((rowsF d).map rowF))]), (1, .data (l.flatMap ptF))] ∧ nk = 2) ⟨w, _, _, _, [], ?wk1, 0, by omega, pointsP d w y, by simp [rowPts], rfl, rfl, rfl⟩ ?_
    case wk1 => exact ⟨by repeat (first | exact trivial | refine ⟨by first | rfl | exact congrArg (fun z => some (DV.int z)) (dwrap (by omega) (by omega)), rfl, ?_⟩), by repeat (first | exact trivial | refine ⟨by first | rfl | exact congrArg (fun z => some (Bk.data z)) (by assumption), rfl, rfl, ?_⟩), rfl, rfl⟩
    rintro k2 E S nk ⟨x, hx, l, hll, rfl, rfl, rfl⟩
    have hl2 : l.length ≤ 200 * 200 + 200 := by
      have := rowPts_len d y x
      rw [hll, List.length_append]; omega
    repeat (first | refine dw_p rfl ?_ | refine dw_l rfl ?_ | refine dw_nil ?_ | refine ds_seq ?_ | refine ds_ops mix (fun base => ?_))
    refine ds_if rfl (fun ht2 => ?_) (fun ht2 => ?_)
    · simp at ht2
      obtain ⟨r', hr', _, hrx⟩ := hd.cell (x := x) (y := y) (by omega) (by omega)
      rw [hr] at hr'
      obtain rfl := Option.some.inj hr'
      have e2 := one_at (boF_at hrx)
      have l1 : x < (r.map boF).length := by simp; omega
      repeat (first | refine dw_p rfl ?_ | refine dw_l rfl ?_ | refine dw_if rfl rfl (by omega) (by decide) (by assumption) ?_ | refine dw_nil ?_ | refine ds_seq ?_ | refine ds_ops mix (fun base => ?_) | refine ds_skip ?_ | refine ds_block ?_)
      refine ds_if (t := dot d x y) rfl (fun ht3 => ?_) (fun ht3 => ?_)
      · repeat (first | refine dw_p rfl ?_ | refine dw_a rfl ?_ | refine ds_ops mix (fun base => ?_))
        refine dw_app (l' := l.flatMap ptF) (q := ptF ((x : Int), (y : Int))) rfl rfl rfl (subL_all _ (ptF_len l)) ⟨rfl, rfl, _, rfl, rfl⟩ (by omega) (by omega) (by decide) rfl ?_
        rw [show l.flatMap ptF ++ ptF ((x : Int), (y : Int)) = (l ++ [((x : Int), (y : Int))]).flatMap ptF by simp, show l.length + 1 = (l ++ [((x : Int), (y : Int))]).length by simp]
        repeat (first | refine dw_p rfl ?_ | refine dw_nil ?_ | refine ds_ops mix (fun base => ?_))
        refine ⟨k2 - 1, by omega, _, _, _, [(1, 3)], ?wk2, x + 1, by omega, l ++ [((x : Int), (y : Int))], ?_, rfl, rfl, rfl⟩
        case wk2 => exact ⟨by repeat (first | exact trivial | refine ⟨by first | rfl | exact congrArg (fun z => some (DV.int z)) (dwrap (by omega) (by omega)), rfl, ?_⟩), by repeat (first | exact trivial | refine ⟨by first | rfl | exact congrArg (fun z => some (Bk.data z)) (by assumption), rfl, rfl, ?_⟩), rfl, rfl⟩
        rw [rowPts_succ, if_pos ht3, hll, List.append_assoc]
      · repeat (first | refine dw_p rfl ?_ | refine dw_nil ?_ | refine ds_ops mix (fun base => ?_) | refine ds_skip ?_)
        refine ⟨k2 - 1, by omega, _, _, _, [], ?wk3, x + 1, by omega, l, ?_, rfl, rfl, rfl⟩
        case wk3 => exact ⟨by repeat (first | exact trivial | refine ⟨by first | rfl | exact congrArg (fun z => some (DV.int z)) (dwrap (by omega) (by omega)), rfl, ?_⟩), by repeat (first | exact trivial | refine ⟨by first | rfl | exact congrArg (fun z => some (Bk.data z)) (by assumption), rfl, rfl, ?_⟩), rfl, rfl⟩
        rw [rowPts_succ, if_neg (by rw [ht3]; decide), hll, List.append_nil]
    · simp at ht2
      obtain rfl : x = w := by omega
      rw [← pointsP_succ] at hll
      subst hll
      repeat (first | refine dw_p rfl ?_ | refine dw_nil ?_ | refine ds_ops mix (fun base => ?_) | refine ds_exit ?_)
      refine ⟨k - 1, by omega, _, _, _, [], ?wk4, y + 1, by omega, rfl, rfl, rfl⟩
      case wk4 => exact ⟨by repeat (first | exact trivial | refine ⟨by first | rfl | exact congrArg (fun z => some (DV.int z)) (dwrap (by omega) (by omega)), rfl, ?_⟩), by repeat (first | exact trivial | refine ⟨by first | rfl | exact congrArg (fun z => some (Bk.data z)) (by assumption), rfl, rfl, ?_⟩), rfl, rfl⟩
  · simp at ht
    obtain rfl : y = h := by omega
    repeat (first | refine dw_p rfl ?_ | refine dw_nil ?_ | refine ds_seq ?_ | refine ds_ops mix (fun base => ?_) | refine ds_exit ?_)
    exact ds_ret ⟨_, rfl, rfl, _, SubA.cons (k := 1) rfl (SubA.nil _), rfl, rfl, rfl⟩

def someD (w h : Int) (l : List (Int × Int)) : DotsL := plotP (w.toNat % 17) (h.toNat % 17) (blankD (w.toNat % 17) (h.toNat % 17)) ((l.take 40).map madeP)
theorem d_some {w h : Int} {l : List (Int × Int)} (hw : 0 ≤ w ∧ w < 256) (hh : 0 ≤ h ∧ h < 256) (hl : Bys l) : DK 30 [.one (.f (.c (.int .u8 w))), .one (.f (.c (.int .u8 h))), bysD l] fun d => d = gridD (w.toNat % 17 : Nat) (h.toNat % 17 : Nat) (someD w h l) := by
  refine dfn_ok cp30 rfl GHro fun Z0 lo => ?_
  have hw17 : (IntKind.i64.wrap w).tmod 17 = ((w.toNat % 17 : Nat) : Int) := by rw [dwrap (by omega) (by omega), Int.tmod_eq_emod_of_nonneg (by omega)]; omega
  have hh17 : (IntKind.i64.wrap h).tmod 17 = ((h.toNat % 17 : Nat) : Int) := by rw [dwrap (by omega) (by omega), Int.tmod_eq_emod_of_nonneg (by omega)]; omega
  repeat (first | refine dw_p rfl ?_ | refine dw_a rfl ?_ | refine dw_nil ?_ | refine ds_seq ?_ | refine ds_ops mix (fun base => ?_))
  rw [hw17, hh17]
  refine dw_cfr rfl rfl (o_rnew (w.toNat % 17 : Nat) (h.toNat % 17 : Nat)) ?_
  rintro _ _ _ ⟨n, m, hn, hm, _, _, rfl, rfl, rfl⟩
  obtain rfl := side_of hn (by omega)
  obtain rfl := side_of hm (by omega)
  have hsz := Sz.blankD (w.toNat % 17) (h.toNat % 17)
  have hlen : h.toNat % 17 = (rowsF (blankD (w.toNat % 17) (h.toNat % 17))).length := by rw [rowsF_len, hsz.1]
  repeat (first | refine dw_p rfl ?_)
  refine dw_cf rfl rfl (d_made (n := 40) hl (by omega)) ?_
  rintro _ rfl
  refine dw_keep (SubA.cons (k := 6) rfl (SubA.cons (k := 13) rfl (SubA.cons (k := 15) rfl (SubA.nil _)))) (SubA.cons (k := 0) rfl (SubA.cons (k := 3) rfl (SubA.nil _))) ?_
  refine dw_frzT 3 rfl (by repeat' (first | exact trivial | rfl | assumption | refine ⟨?_, ?_⟩)) (by repeat' (first | exact trivial | rfl | assumption | refine ⟨?_, ?_⟩)) ?_
  refine dw_cf (ds := [gridD (w.toNat % 17 : Nat) (h.toNat % 17 : Nat) (blankD (w.toNat % 17) (h.toNat % 17)), ptsD ((l.take 40).map madeP)]) ?_ rfl (d_rplot (by omega) (by omega) hsz (by simp; omega)) ?_
  · simp only [gridD, hsz.1]; rfl
  rintro _ rfl
  repeat (first | refine dw_st rfl rfl rfl rfl rfl (Nat.le_of_ble_eq_true rfl) rfl ?_ | refine dw_nil ?_)
  exact ds_ret ⟨_, rfl, rfl, rfl⟩
end Go.Ab.Fn

namespace Go.Ab.Fn
open Go.Ab Go.Proofs
set_option linter.unusedSimpArgs false

theorem eqs_pt (neg : Bool) (p q : Pt) : aPure .lf (.eqs neg [(0, false), (1, false)] (.c (.agg (ptC p))) (.c (.agg (ptC q)))) = some (.bool (if neg then !decide (p = q) else decide (p = q))) := by
  obtain ⟨p1, p2⟩ := p
  obtain ⟨q1, q2⟩ := q
  simp only [aPure, Opd.ev, ptC, aEqs, aEq, List.getElem?_cons_zero, List.getElem?_cons_succ, if_true]
  by_cases h1 : p1 = q1
  · by_cases h2 : p2 = q2
    · subst h1; subst h2; simp
    · subst h1
      have e2 : (p2 == q2) = false := by simpa using h2
      simp [h2, e2]
  · have e1 : (p1 == q1) = false := by simpa using h1
    simp [h1, e1]

theorem samePts_ro {H : Hp} {l r : List Pt} {v u : V} (hl : Pts H l v) (hr : Pts H r u) (hn : l.length < 1000000000000) : ACalls Tryd.prog 1 16 [v, u] H fun x _ => x = .bool (decide (l = r)) := by
  refine pfn_ok cp16 (by simp [f16]) fun hwf => ?_
  have hlen := hl.len
  have hlen' := hr.len
  repeat (first | refine pw_mvt rfl ?_ | refine pw_mvc ?_ | refine pw_p rfl rfl ?_ | refine pw_p rfl (by assumption) ?_ | refine pw_nil ?_ | refine ps_seq ?_ | refine ps_ops0 mix ?_)
  refine ps_if rfl rfl (fun ht => ?_) (fun ht => ?_)
  · repeat (first | refine pw_mvc ?_ | refine pw_nil ?_ | refine ps_seq ?_ | refine ps_ops0 mix ?_)
    refine ps_ret ⟨_, rfl, ?_⟩
    simp at ht
    congr 2
    symm
    simp
    intro h
    exact ht (by rw [h])
  · repeat (first | refine pw_mvc ?_ | refine pw_nil ?_ | refine ps_seq ?_ | refine ps_ops0 mix ?_ | refine ps_skip ?_ | refine ps_block ?_)
    simp at ht
    refine ps_loop (fun m E H' => Pts H' l v ∧ Pts H' r u ∧ ∃ k : Nat, k + m = l.length ∧ E = [(0, v), (1, u), (5, .int k)] ∧ l.take k = r.take k) (m := l.length) ⟨_, (SubE.cons (k := 0) rfl (SubE.cons (k := 1) rfl (SubE.cons (k := 5) rfl (SubE.nil _)))), hl, hr, 0, by omega, rfl, rfl⟩ ?_
    rintro m E H' hwf' ⟨hl', hr', k, hk, rfl, hno⟩
    repeat (first | refine pw_mvt rfl ?_ | refine pw_p rfl rfl ?_ | refine pw_p rfl (by assumption) ?_ | refine pw_nil ?_ | refine ps_seq ?_ | refine ps_ops0 mix ?_)
    refine ps_if rfl rfl (fun ht => ?_) (fun ht => ?_)
    · simp at ht
      obtain ⟨p, hp⟩ : ∃ p, l[k]? = some p := ⟨_, List.getElem?_eq_getElem (by omega)⟩
      obtain ⟨q, hq⟩ : ∃ p, r[k]? = some p := ⟨_, List.getElem?_eq_getElem (by omega)⟩
      obtain ⟨b, o, e1, e2⟩ := hl'.at hp .i64
      obtain ⟨b', o', e1', e2'⟩ := hr'.at hq .i64
      repeat (first | refine ps_seq ?_ | refine ps_skip ?_ | refine ps_block ?_)
      refine ps_ops mix ?_
      repeat (first | refine pw_mvt rfl ?_ | refine pw_ln rfl rfl (by assumption) ?_ | refine pw_p rfl (by assumption) ?_)
      refine pw_p rfl (eqs_pt true p q) ?_
      repeat (first | refine pw_nil ?_)
      refine ps_if rfl rfl (fun ht2 => ?_) (fun ht2 => ?_)
      · repeat (first | refine pw_mvc ?_ | refine pw_nil ?_ | refine ps_seq ?_ | refine ps_ops0 mix ?_)
        refine ps_ret ⟨_, rfl, ?_⟩
        simp at ht2
        congr 2
        symm
        simp
        intro h
        subst h
        rw [hp] at hq
        exact ht2 (Option.some.inj hq)
      · repeat (first | refine pw_mvt rfl ?_ | refine pw_p rfl rfl ?_ | refine pw_nil ?_ | refine ps_ops0 mix ?_ | refine ps_skip ?_)
        simp at ht2
        subst ht2
        refine ⟨m - 1, by omega, _, (SubE.cons (k := 0) rfl (SubE.cons (k := 1) rfl (SubE.cons (k := 5) rfl (SubE.nil _)))), hl'.le (fun _ _ _ h => h), hr'.le (fun _ _ _ h => h), k + 1, by omega, ?_, ?_⟩
        · rw [wrap_i64 (by omega) (by omega)]; rfl
        · rw [List.take_add_one, List.take_add_one, hp, hq, hno]
    · simp at ht
      obtain rfl : k = l.length := by omega
      rw [List.take_length, List.take_of_length_le (by omega)] at hno
      refine ps_exit ?_
      repeat (first | refine pw_mvc ?_ | refine pw_nil ?_ | refine ps_seq ?_ | refine ps_ops0 mix ?_)
      exact ps_ret ⟨_, rfl, by simp [hno]⟩
theorem samePts_ok {H : Hp} {l r : List Pt} {v u : V} (hl : Pts H l v) (hr : Pts H r u) (hn : l.length < 1000000000000) : ACalls Tryd.prog 1 16 [v, u] H fun x H' => x = .bool (decide (l = r)) ∧ H' = H :=
  (ACalls.pure (samePts_ro (hl.le (Le.ro H)) (hr.le (Le.ro H)) hn) (fun v _ h => by rw [h]; rfl)).mono fun v H' ⟨⟨_, h⟩, e⟩ => ⟨h, e⟩
end Go.Ab.Fn

/- Deep contracts: points compared; from contracts over heaps. -/
namespace Go.Ab.Fn
open Go.Ab Go.Proofs
set_option linter.unusedSimpArgs false

theorem ptsF_eq (l : List Pt2) : l.flatMap ptF = (ptsC l).map .c := by
  induction l with
  | nil => rfl
  | cons p l ih => rw [List.flatMap_cons, ih]; rfl
theorem ptsC_closed (l : List Pt2) : ∀ c ∈ ptsC l, c.closed = true := by
  intro c hc
  obtain ⟨p, _, hp⟩ := List.mem_flatMap.1 hc
  simp only [ptC, List.mem_cons, List.not_mem_nil, or_false] at hp
  rcases hp with rfl | rfl <;> rfl
theorem rd_of_own {Z : Nat → Prop} {H' : Hp} {lo hi : Nat} {l : List Pt2} {v : V} (h : POwn H' lo hi l v) (hz : ∀ b, lo ≤ b → b < hi → Z b) : RDV Z H' nob (ptsD l) v := by
  obtain ⟨⟨h1, h2⟩, h3⟩ := h
  rcases h2 with ⟨rfl, h0⟩ | ⟨b, ex, rfl, hlo, hr⟩
  · obtain rfl : l = [] := List.eq_nil_of_length_eq_zero h0
    exact ⟨_, rfl, .nil 2⟩
  · have hb := h3 b rfl
    refine ⟨_, rfl, .sl (fun _ => hz b hb.1 hb.2) (by rw [ptF_len]) (Nat.le_refl _) (by rw [← h1]; exact hr.2) fun i d c hd hc => ?_⟩
    rw [ptsF_eq, List.getElem?_map, hc] at hd
    obtain rfl := Option.some.inj hd
    exact .c c (ptsC_closed l c (List.mem_of_getElem? hc))
theorem pts_of_rd {Z : Nat → Prop} {H : Hp} {l : List Pt2} {v : V} (h : RDV Z H nob (ptsD l) v) : Pts H l v := by
  obtain ⟨c, rfl, h⟩ := h
  refine ⟨ptsC_len l, ?_⟩
  generalize hn : l.length = n at h
  generalize hq : l.flatMap ptF = q at h
  cases h with
  | nil => exact .inl ⟨rfl, rfl⟩
  | sl hz hl hcap hld hel =>
    rename_i b o cap ex cs
    refine .inr ⟨b, o, cap, ex, rfl, ?_⟩
    rw [hld]
    congr 1
    refine List.ext_getElem? fun i => ?_
    have hlen : cs.length = (ptsC l).length := by rw [loads_len hld, ptsC_len, hn]
    by_cases hi : i < cs.length
    · have e1 : q[i]? = some (.c (ptsC l)[i]) := by rw [← hq, ptsF_eq, List.getElem?_map, List.getElem?_eq_getElem (by omega)]; rfl
      have := hel i _ _ e1 (List.getElem?_eq_getElem hi)
      rw [List.getElem?_eq_getElem hi, List.getElem?_eq_getElem (by omega)]
      generalize (ptsC l)[i] = z at *
      cases this
      rfl
    · rw [List.getElem?_eq_none (by omega), List.getElem?_eq_none (by omega)]

theorem d_same {l r : List Pt2} (hn : l.length < 1000000000000) : DK 16 [ptsD l, ptsD r] fun d => d = .bool (decide (l = r)) := fun H Z args hw hz hg ha => by
  match args, ha with
  | [v, u], ⟨h1, h2, _⟩ =>
    refine (samePts_ok (pts_of_rd h1) (pts_of_rd h2) hn).mono ?_
    rintro x H' ⟨rfl, rfl⟩
    exact ⟨hw, Nat.le_refl _, fun _ _ => rfl, _, exact_ok rfl, rfl⟩

end Go.Ab.Fn

/- The law GridMatchesReference over the deep contracts. -/
namespace Go.Ab.Fn
open Go.Ab Go.Proofs
set_option linter.unusedSimpArgs false

theorem ClS.count {g : Int} {l : List Pt2} {cs : List (List Pt2)} (hl : ByRows l) (h : ClS g l cs) : cs.length ≤ l.length ∧ ∀ c ∈ cs, c.length ≤ l.length := by
  constructor
  · have := sub_len (h.heads hl).nodup (b := l) fun x hx => by
      obtain ⟨c, hc, rfl⟩ := List.mem_map.1 hx
      obtain ⟨p, t, hpt, _⟩ := h.first hl c hc
      rw [hpt]
      exact h.mem c hc p (by rw [hpt]; simp)
    simpa using this
  · intro c hc
    exact sub_len (h.rows c hc).nodup (h.mem c hc)
theorem d_samecl {cs : List (List Pt2)} (hl : cs.length < 1000000) (hr : ∀ c ∈ cs, c.length < 1000000) : DK 36 [ptssD cs, ptssD cs] fun d => d = .bool true := by
  refine dfn_ok cp36 rfl GHro fun Z0 lo => ?_
  have g0 := neq_self (cs.length : Int)
  repeat (first | refine dw_pB rfl (by assumption) ?_ | refine dw_p rfl ?_ | refine dw_nil ?_ | refine ds_seq ?_ | refine ds_ops mix (fun base => ?_))
  refine ds_if rfl (fun h => by cases h) (fun _ => ?_)
  repeat (first | refine dw_p rfl ?_ | refine dw_nil ?_ | refine ds_seq ?_ | refine ds_ops mix (fun base => ?_) | refine ds_skip ?_ | refine ds_block ?_)
  refine ds_loop (fun m E S nk => ∃ k : Nat, k + m = cs.length ∧ E = [(0, ptssD cs), (1, ptssD cs), (5, .int k)] ∧ S = [] ∧ nk = 0) ⟨cs.length, _, _, _, [], ?wk, 0, by omega, rfl, rfl, rfl⟩ ?_
  case wk => exact ⟨by repeat (first | exact trivial | refine ⟨by first | rfl | exact congrArg (fun z => some (DV.int z)) (dwrap (by omega) (by omega)), rfl, ?_⟩), by repeat (first | exact trivial | refine ⟨by first | rfl | exact congrArg (fun z => some (Bk.data z)) (by assumption), rfl, rfl, ?_⟩), rfl, rfl⟩
  rintro m E S nk ⟨k, hk, rfl, rfl, rfl⟩
  repeat (first | refine dw_p rfl ?_ | refine dw_nil ?_ | refine ds_seq ?_ | refine ds_ops mix (fun base => ?_))
  refine ds_if rfl (fun ht => ?_) (fun ht => ?_)
  · simp at ht
    obtain ⟨c, hc⟩ : ∃ c, cs[k]? = some c := ⟨_, List.getElem?_eq_getElem (by omega)⟩
    have e1 := ptsF_at hc
    have hcl := hr c (List.mem_of_getElem? hc)
    repeat (first | refine dw_p rfl ?_ | refine dw_l rfl ?_ | refine dw_if rfl rfl (by omega) (by decide) (by assumption) ?_ | refine ds_seq ?_ | refine ds_ops mix (fun base => ?_) | refine ds_skip ?_ | refine ds_block ?_)
    refine dw_cf (ds := [ptsD c, ptsD c]) rfl rfl (d_same (l := c) (r := c) (by omega)) ?_
    rintro _ rfl
    rw [decide_eq_true rfl]
    repeat (first | refine dw_p rfl ?_ | refine dw_nil ?_)
    refine ds_if rfl (fun h => by cases h) (fun _ => ?_)
    repeat (first | refine dw_p rfl ?_ | refine dw_nil ?_ | refine ds_ops mix (fun base => ?_) | refine ds_skip ?_)
    refine ⟨m - 1, by omega, _, _, _, [], ?wk1, k + 1, by omega, rfl, rfl, rfl⟩
    case wk1 => exact ⟨by repeat (first | exact trivial | refine ⟨by first | rfl | exact congrArg (fun z => some (DV.int z)) (dwrap (by omega) (by omega)), rfl, ?_⟩), by repeat (first | exact trivial | refine ⟨by first | rfl | exact congrArg (fun z => some (Bk.data z)) (by assumption), rfl, rfl, ?_⟩), rfl, rfl⟩
  · repeat (first | refine dw_p rfl ?_ | refine dw_nil ?_ | refine ds_seq ?_ | refine ds_ops mix (fun base => ?_) | refine ds_exit ?_)
    exact ds_ret ⟨_, rfl, rfl, rfl⟩
theorem Bys.take {l : List (Int × Int)} (h : Bys l) (n : Nat) : Bys (l.take n) := fun p hp => h p (List.mem_of_mem_take hp)
theorem Bys.drop {l : List (Int × Int)} (h : Bys l) (n : Nat) : Bys (l.drop n) := fun p hp => h p (List.mem_of_mem_drop hp)
theorem byF_take {l : List (Int × Int)} {k : Nat} (hk : k ≤ l.length) : subL (l.flatMap byF) (0 * 2) (k * 2) = some ((l.take k).flatMap byF) := by
  have hsp : l.flatMap byF = (l.take k).flatMap byF ++ (l.drop k).flatMap byF := by rw [← List.flatMap_append, List.take_append_drop]
  have hl2 : ((l.take k).flatMap byF).length = k * 2 := by rw [byF_len, List.length_take]; omega
  rw [subL_of (by rw [byF_len]; omega), Nat.zero_mul, List.drop_zero, hsp, ← hl2, List.take_left]
theorem byF_drop {l : List (Int × Int)} {k : Nat} (hk : k ≤ l.length) : subL (l.flatMap byF) (k * 2) ((l.length - k) * 2) = some ((l.drop k).flatMap byF) := by
  have hsp : l.flatMap byF = (l.take k).flatMap byF ++ (l.drop k).flatMap byF := by rw [← List.flatMap_append, List.take_append_drop]
  have hl2 : ((l.take k).flatMap byF).length = k * 2 := by rw [byF_len, List.length_take]; omega
  have hl3 : ((l.drop k).flatMap byF).length = (l.length - k) * 2 := by rw [byF_len, List.length_drop]
  rw [subL_of (by rw [byF_len]; omega), hsp, ← hl2, List.drop_left, ← hl3, List.take_length]
theorem blank_len (n m : Nat) : (blankD n m).length = m := by simp [blankD]

set_option maxHeartbeats 8000000 in
theorem d_gridMatches {w0 w1 gap : Int} {l : List (Int × Int)} (hw0 : 0 ≤ w0 ∧ w0 < 256) (hw1 : 0 ≤ w1 ∧ w1 < 256) (hg : -128 ≤ gap ∧ gap < 128) (hl : Bys l) (hll : l.length ≤ 9223372036854775807) : DK 8 [.agg [.f (.c (.int .u8 w0)), .f (.c (.int .u8 w1))], bysD l, .one (.f (.c (.int .i8 gap)))] fun d => d = .bool true := by
  refine dfn_ok cp8 rfl GHro fun Z0 lo => ?_
  obtain ⟨k, hk⟩ : ∃ k, l.length / 2 = k := ⟨_, rfl⟩
  have hkl : k ≤ l.length := by omega
  have hq : IntKind.i64.wrap ((l.length : Int).tdiv 2) = (k : Int) := by
    rw [Int.tdiv_eq_ediv_of_nonneg (by omega), dwrap (by omega) (by omega)]; omega
  have hsm := d_some hw0 hw1 (hl.take k)
  rw [show bysD (l.take k) = DV.one (.f (.sl 2 k ((l.take k).flatMap byF))) by rw [bysD, List.length_take, Nat.min_eq_left hkl]] at hsm
  have hmd := d_made (n := 12) (hl.drop k) (by omega)
  rw [show bysD (l.drop k) = DV.one (.f (.sl 2 (l.length - k) ((l.drop k).flatMap byF))) by rw [bysD, List.length_drop]] at hmd
  have hp13 := made_small (l := l.drop k) (n := 12)
  have hq13 := made_small (l := l) (n := 12)
  have hpl := made_len (l.drop k) 12
  have hql := made_len l 12
  have hn16 : w0.toNat % 17 ≤ 200 := by omega
  have hm16 : w1.toNat % 17 ≤ 200 := by omega
  have hsz : Sz (w0.toNat % 17) (w1.toNat % 17) (someD w0 w1 (l.take k)) := plotP_sz _ (Sz.blankD _ _)
  repeat (first | refine dw_p rfl ?_ | refine dw_a rfl ?_ | refine dw_nil ?_ | refine ds_seq ?_ | refine ds_ops mix (fun base => ?_))
  refine dw_cf rfl rfl d_sanity ?_
  rintro _ rfl
  repeat (first | refine dw_p rfl ?_ | refine dw_l rfl ?_ | refine dw_nil ?_ | refine ds_seq ?_ | refine ds_ops mix (fun base => ?_))
  rw [hq]
  refine dw_slf (q := (l.take k).flatMap byF) (n' := k) rfl rfl rfl (by omega) hkl (by omega) (byF_take hkl) ?_
  repeat (first | refine dw_p rfl ?_)
  rw [hq]
  refine dw_slf (q := (l.drop k).flatMap byF) (n' := l.length - k) rfl rfl rfl hkl (by omega) (by omega) (byF_drop hkl) ?_
  refine dw_cf rfl rfl hsm ?_
  rintro _ rfl
  refine dw_cf rfl rfl hmd ?_
  rintro _ rfl
  repeat (first | refine dw_p rfl ?_ | refine dw_ai rfl rfl rfl ?_ | refine dw_st rfl rfl rfl rfl rfl (Nat.le_of_ble_eq_true rfl) rfl ?_ | refine dw_nil ?_ | refine ds_seq ?_ | refine ds_ops mix (fun base => ?_))
  refine dw_cf rfl rfl (d_made (n := 12) hl (by omega)) ?_
  rintro _ rfl
  generalize (l.drop k).take 12 = pl at *
  generalize l.take 12 = ql at *
  generalize pl.map madeP = p at *
  generalize ql.map madeP = q at *
  generalize hN : w0.toNat % 17 = n at *
  generalize hM : w1.toNat % 17 = h at *
  generalize someD w0 w1 (l.take k) = d at *
  repeat (first | refine dw_p rfl ?_ | refine dw_l rfl ?_ | refine dw_lk rfl ?_ | refine dw_nil ?_ | refine ds_seq ?_ | refine ds_ops mix (fun base => ?_))
  rw [show IntKind.i64.wrap gap = gap from dwrap (by omega) (by omega), show IntKind.i64.wrap w0 = w0 from dwrap (by omega) (by omega)]
  refine dw_cfr rfl rfl (o_new gap w0) ?_
  rintro _ _ _ ⟨n1, m1, hn1, hm1, hb1, hb2, rfl, rfl, rfl⟩
  refine dw_cfr rfl rfl (o_rnew gap w0) ?_
  rintro _ _ _ ⟨n2, m2, hn2, hm2, _, _, rfl, rfl, rfl⟩
  obtain rfl : n2 = n1 := by omega
  obtain rfl : m2 = m1 := by omega
  have hs1 := d_sameG (w := n2) (h := m2) (d := blankD n2 m2) (by rw [blank_len]; omega) (fun r hr => by rw [(Sz.blankD n2 m2).2 r hr]; omega)
  rw [show gridD n2 m2 (blankD n2 m2) = .agg [.f (.c (.int .i64 n2)), .f (.c (.int .i64 m2)), .f (.sl 1 m2 ((rowsF (blankD n2 m2)).map rowF))] by rw [gridD, blank_len]] at hs1
  have hrl : m2 = (rowsF (blankD n2 m2)).length := by rw [rowsF_len, blank_len]
  refine dw_cfo (ds := [.agg [.f (.c (.int .i64 n2)), .f (.c (.int .i64 m2)), .f (.sl 1 m2 ((rowsF (blankD n2 m2)).map rowF))], .agg [.f (.c (.int .i64 n2)), .f (.c (.int .i64 m2)), .f (.sl 1 m2 ((rowsF (blankD n2 m2)).map rowF))]]) rfl ⟨⟨_, rfl, ⟨rfl, rfl⟩, ⟨rfl, rfl⟩, ⟨rfl, hrl, rfl, rfl⟩, trivial⟩, ⟨_, rfl, ⟨rfl, rfl⟩, ⟨rfl, rfl⟩, ⟨rfl, hrl, rfl, rfl⟩, trivial⟩, trivial⟩ hs1 (by rintro _ rfl; rfl) ?_
  rintro _ rfl
  repeat (first | refine dw_want rfl rfl ?_ | refine dw_p rfl ?_ | refine dw_l rfl ?_ | refine dw_lk rfl ?_)
  refine dw_cf (ds := [gridD n h d, ptsD p]) rfl rfl (d_plot hn16 hm16 hsz (by omega)) ?_
  rintro _ rfl
  repeat (first | refine dw_want rfl rfl ?_)
  refine dw_cf (ds := [gridD n h d, ptsD p]) rfl rfl (d_rplot hn16 hm16 hsz (by omega)) ?_
  rintro _ rfl
  have hszp := plotP_sz (w := n) (h := h) p hsz
  generalize plotP n h d p = e at *
  repeat (first | refine dw_want rfl rfl ?_)
  refine dw_cf rfl rfl (d_sameG (by rw [hszp.1]; omega) fun r hr => by rw [hszp.2 r hr]; omega) ?_
  rintro _ rfl
  repeat (first | refine dw_want rfl rfl ?_ | refine dw_pickT rfl rfl ?_ | refine dw_p rfl ?_ | refine dw_l rfl ?_ | refine dw_lk rfl ?_)
  refine dw_cf (ds := [gridD n h d]) rfl rfl (d_points hn16 hm16 hsz) ?_
  rintro _ rfl
  repeat (first | refine dw_want rfl rfl ?_)
  refine dw_cf (ds := [gridD n h d]) rfl rfl (d_rpoints hn16 hm16 hsz) ?_
  rintro _ rfl
  have hppl : (pointsP d n h).length ≤ 200 * 200 := Nat.le_trans (pointsP_len _ n h) (Nat.mul_le_mul hm16 hn16)
  repeat (first | refine dw_want rfl rfl ?_)
  refine dw_cf rfl rfl (d_same (by omega)) ?_
  rintro _ rfl
  rw [decide_eq_true rfl]
  repeat (first | refine dw_want rfl rfl ?_ | refine dw_pickT rfl rfl ?_ | refine dw_p rfl ?_ | refine dw_l rfl ?_ | refine dw_lk rfl ?_ | refine dw_nil ?_ | refine ds_seq ?_ | refine ds_ops mix (fun base => ?_))
  rw [hq]
  refine dw_slf (q := (l.take k).flatMap byF) (n' := k) rfl rfl rfl (by omega) hkl (by omega) (byF_take hkl) ?_
  repeat (first | refine dw_want rfl rfl ?_)
  refine dw_cf rfl rfl hsm ?_
  rintro _ rfl
  repeat (first | refine dw_want rfl rfl ?_)
  refine dw_cf rfl rfl (d_sameG (by rw [hsz.1]; omega) fun r hr => by rw [hsz.2 r hr]; omega) ?_
  rintro _ rfl
  have hps : Smalls p := fun x hx => by have := hp13 x hx; exact ⟨by omega, by omega, by omega, by omega⟩
  have hqs : Smalls q := fun x hx => by have := hq13 x hx; exact ⟨by omega, by omega, by omega, by omega⟩
  have hq6 : ∀ x ∈ q, Small 1000000 x := fun x hx => by have := hq13 x hx; exact ⟨by omega, by omega, by omega, by omega⟩
  repeat (first | refine dw_want rfl rfl ?_ | refine dw_pickT rfl rfl ?_ | refine dw_p rfl ?_)
  refine dw_cf rfl rfl (d_distance hps hqs (by omega) (by omega)) ?_
  rintro _ rfl
  repeat (first | refine dw_want rfl rfl ?_)
  refine dw_cf rfl rfl (d_rdistance hps hqs (by omega) (by omega)) ?_
  rintro _ rfl
  have g1 : (dist p q == dist p q) = true := by simp
  repeat (first | refine dw_want rfl rfl ?_ | refine dw_pickT rfl rfl ?_ | refine dw_pB rfl (by assumption) ?_ | refine dw_p rfl ?_)
  rw [show IntKind.i64.wrap gap = gap from dwrap (by omega) (by omega)]
  have ht1 : -6 < gap.tmod 6 := Int.lt_tmod_of_pos gap (by decide)
  have ht2 : gap.tmod 6 < 6 := Int.tmod_lt_of_pos gap (by decide)
  skip
  refine dw_cf rfl rfl (d_clusters hq6 (by omega)) ?_
  rintro _ ⟨cs, rfl, hcs⟩
  repeat (first | refine dw_want rfl rfl ?_)
  refine dw_cf rfl rfl (d_rclusters hqs (by omega)) ?_
  rintro _ ⟨cs', rfl, hcs'⟩
  have hcc := hcs'.clamp
  rw [show min (max (gap.tmod 6) 0) 2000 = max (gap.tmod 6) 0 by omega] at hcs
  obtain rfl := hcs.uniq hcc
  have hsl : (sortedP q).length ≤ 12 := by
    have := sub_len (sortedP_rows q).nodup (fun x hx => sortedP_mem.1 hx)
    omega
  obtain ⟨hc1, hc2⟩ := hcs.count (sortedP_rows q)
  repeat (first | refine dw_want rfl rfl ?_)
  refine dw_cf rfl rfl (d_samecl (by omega) fun c hc => by have := hc2 c hc; omega) ?_
  rintro _ rfl
  repeat (first | refine dw_want rfl rfl ?_ | refine dw_pickT rfl rfl ?_ | refine dw_p rfl ?_ | refine dw_nil ?_)
  exact ds_ret ⟨_, rfl, rfl, rfl⟩
end Go.Ab.Fn

/- The law GridClusters over the deep contracts. -/
namespace Go.Ab.Fn
open Go.Ab Go.Proofs
set_option linter.unusedSimpArgs false

/-- what the loop asks of each cluster -/
structure Part (p : List Pt2) (n : Int) (cs : List (List Pt2)) (i : Nat) (c : List Pt2) : Prop where
  rows : ByRows c
  sub : ∀ x ∈ c, x ∈ p
  one : ∀ cs', ClS n (sortedP c) cs' → cs' = [c]
  pos : 0 < c.length
  lt : c.length ≤ 16
  far : ∀ (j : Nat) (d : List Pt2), j < i → cs[j]? = some d → d ≠ [] ∧ n < dist c d
  bef : ∀ (j : Nat) (d : List Pt2), j + 1 = i → cs[j]? = some d → ∃ a b, c[0]? = some a ∧ d[0]? = some b ∧ before b a = true
theorem parts {p : List Pt2} {n : Int} {cs : List (List Pt2)} (hp : p.length ≤ 16) (h : ClS n (sortedP p) cs) {i : Nat} {c : List Pt2} (hc : cs[i]? = some c) : Part p n cs i c := by
  have hP := sortedP_rows p
  have hcm : c ∈ cs := List.mem_of_getElem? hc
  have hrows := h.rows c hcm
  obtain ⟨a, t, rfl, ha⟩ := h.first hP c hcm
  have hsl : (sortedP p).length ≤ p.length := sub_len hP.nodup fun x hx => sortedP_mem.1 hx
  have hcl : (a :: t).length ≤ 16 := Nat.le_trans ((h.count hP).2 _ hcm) (by omega)
  refine ⟨hrows, fun x hx => sortedP_mem.1 (h.mem _ hcm x hx), fun cs' h' => ?_, by simp, hcl, fun j d hj hdj => ?_, fun j d hj hdj => ?_⟩
  · rw [sortedP_self hrows] at h'
    exact h'.uniq (h.part hP hcm)
  · have hdm : d ∈ cs := List.mem_of_getElem? hdj
    obtain ⟨b, s, rfl, hb⟩ := h.first hP d hdm
    refine ⟨by simp, ?_⟩
    obtain ⟨⟨x, hx, y, hy, he⟩, _⟩ := dist_spec (a := a :: t) (b := b :: s) (by simp) (by simp)
    refine Int.not_le.1 fun hle => ?_
    have hxd := h.closed _ hdm y hy x (h.mem _ hcm x hx) (by rw [far_comm, he]; exact hle)
    -- x is in both
    have hn := h.heads hP
    have hij : hd (a :: t) = hd (b :: s) := by
      have k1 : ∀ z, z ∈ (a :: t) → z ∈ (b :: s) := by
        have hxa : Conn n (a :: t) x a := ((ha x).1 hx).symm
        intro z hz
        have hxz : Conn n (a :: t) x z := hxa.trans ((ha z).1 hz)
        clear hz
        induction hxz with
        | base _ => exact hxd
        | step k1 k2 k3 ih => exact h.closed _ hdm _ ih _ (h.mem _ hcm _ k2) k3
      have k2 : ∀ z, z ∈ (b :: s) → z ∈ (a :: t) := by
        have hxa : Conn n (b :: s) x b := ((hb x).1 hxd).symm
        intro z hz
        have hxz : Conn n (b :: s) x z := hxa.trans ((hb z).1 hz)
        clear hz
        induction hxz with
        | base _ => exact hx
        | step k1 k2 k3 ih => exact h.closed _ hcm _ ih _ (h.mem _ hdm _ k2) k3
      have := ByRows.ext hrows (h.rows _ hdm) fun z => ⟨k1 z, k2 z⟩
      rw [this]
    have hil := (List.getElem?_eq_some_iff.1 hc).1
    have := (List.getElem?_inj (i := j) (j := i) (l := cs.map hd) (by simp; omega) hn.nodup).1 (by rw [List.getElem?_map, List.getElem?_map, hdj, hc]; simp [hij])
    omega
  · have hdm : d ∈ cs := List.mem_of_getElem? hdj
    obtain ⟨b, s, rfl, hb⟩ := h.first hP d hdm
    refine ⟨a, b, rfl, rfl, ?_⟩
    have hil := (List.getElem?_eq_some_iff.1 hc).1
    have hjl := (List.getElem?_eq_some_iff.1 hdj).1
    have := List.pairwise_iff_getElem.1 (h.heads hP) j i (by simpa using hjl) (by simpa using hil) (by omega)
    simp only [List.getElem_map] at this
    rw [(List.getElem?_eq_some_iff.1 hc).2, (List.getElem?_eq_some_iff.1 hdj).2] at this
    exact this
theorem total_snoc {cs : List (List Pt2)} {i : Nat} {c : List Pt2} (h : cs[i]? = some c) : total (cs.take (i + 1)) = total (cs.take i) + c.length := by
  rw [List.take_add_one, h]
  simp [total]

set_option maxHeartbeats 16000000 in
theorem d_gridClusters {l : List (Int × Int)} {gp ku : Int} (hl : Bys l) (hg : 0 ≤ gp ∧ gp < 256) (hk : 0 ≤ ku ∧ ku < 256) : DK 6 [bysD l, .one (.f (.c (.int .u8 gp))), .one (.f (.c (.int .u8 ku)))] fun d => d = .bool true := by
  refine dfn_ok cp6 rfl GHro fun Z0 lo => ?_
  have hp13 := made_small (l := l) (n := 16)
  have hpl := made_len l 16
  have ht1 : 0 ≤ gp.tmod 6 := Int.tmod_nonneg _ hg.1
  have ht2 : gp.tmod 6 < 6 := Int.tmod_lt_of_pos gp (by decide)
  repeat (first | refine dw_p rfl ?_ | refine dw_nil ?_ | refine ds_seq ?_ | refine ds_ops mix (fun base => ?_))
  refine dw_cf rfl rfl d_sanity ?_
  rintro _ rfl
  repeat (first | refine dw_p rfl ?_ | refine dw_nil ?_ | refine ds_seq ?_ | refine ds_ops mix (fun base => ?_))
  refine dw_cf rfl rfl (d_made (n := 16) hl (by omega)) ?_
  rintro _ rfl
  generalize l.take 16 = pl at *
  generalize pl.map madeP = p at *
  repeat (first | refine dw_p rfl ?_ | refine dw_nil ?_ | refine ds_seq ?_ | refine ds_ops mix (fun base => ?_))
  rw [show IntKind.i64.wrap gp = gp from dwrap (by omega) (by omega)]
  generalize gp.tmod 6 = n at *
  have hps : Smalls p := fun x hx => by have := hp13 x hx; exact ⟨by omega, by omega, by omega, by omega⟩
  have hp6 : ∀ x ∈ p, Small 1000000 x := fun x hx => by have := hp13 x hx; exact ⟨by omega, by omega, by omega, by omega⟩
  have hcl := d_clusters (gap := n) hp6 (by omega)
  rw [show min (max n 0) 2000 = n by omega] at hcl
  have hcl2 := d_clusters (gap := n + 1) hp6 (by omega)
  rw [show min (max (n + 1) 0) 2000 = n + 1 by omega] at hcl2
  refine dw_cf rfl rfl hcl ?_
  rintro _ ⟨cs, rfl, hcs⟩
  have hP := sortedP_rows p
  have hsl : (sortedP p).length ≤ 16 := by
    have := sub_len hP.nodup (fun x hx => sortedP_mem.1 hx)
    omega
  have hcount := (hcs.count hP).1
  have htot := hcs.total hP
  repeat (first | refine dw_p rfl ?_ | refine dw_nil ?_ | refine ds_seq ?_ | refine ds_ops mix (fun base => ?_) | refine ds_block ?_)
  refine ds_keep (SubA.cons (k := 2) rfl (SubA.cons (k := 7) rfl (SubA.cons (k := 8) rfl (SubA.cons (k := 9) rfl (SubA.cons (k := 10) rfl (SubA.cons (k := 11) rfl (SubA.cons (k := 12) rfl (SubA.nil _)))))))) (SubA.refl _) ?_
  refine ds_loop (fun m E S nk => ∃ (i : Nat) (t : Nat), i + m = cs.length ∧ t = total (cs.take i) ∧ t ≤ 16 * i ∧ E = [(2, .one (.f (.c (.int .u8 ku)))), (7, .bool true), (8, ptsD p), (9, .int n), (10, .int t), (11, ptssD cs), (12, .int i)] ∧ S = [] ∧ nk = 0) ⟨cs.length, _, _, _, [], ?wk, 0, 0, by omega, by simp [total], by omega, rfl, rfl, rfl⟩ ?_
  case wk => exact ⟨by repeat (first | exact trivial | refine ⟨by first | rfl | exact congrArg (fun z => some (DV.int z)) (dwrap (by omega) (by omega)), rfl, ?_⟩), by repeat (first | exact trivial | refine ⟨by first | rfl | exact congrArg (fun z => some (Bk.data z)) (by assumption), rfl, rfl, ?_⟩), rfl, rfl⟩
  rintro m E S nk ⟨i, t, him, htt, ht16, rfl, rfl, rfl⟩
  repeat (first | refine dw_p rfl ?_ | refine dw_nil ?_ | refine ds_seq ?_ | refine ds_ops mix (fun base => ?_))
  refine ds_if rfl (fun ht => ?_) (fun ht => ?_)
  · simp at ht
    obtain ⟨c, hc⟩ : ∃ c, cs[i]? = some c := ⟨_, List.getElem?_eq_getElem (by omega)⟩
    obtain ⟨crows, csub, cone, cpos, clt, cfar, cbef⟩ := parts (by omega) hcs hc
    have e1 := ptsF_at hc
    have hcs' : Smalls c := fun x hx => hps x (csub x hx)
    obtain ⟨a, ha⟩ : ∃ a, c[0]? = some a := ⟨_, List.getElem?_eq_getElem cpos⟩
    have ea : subL (c.flatMap ptF) (0 * 2) 2 = some (ptF a) := ptF_at ha
    have hsame : DK 16 [ptsD c, ptsD c] fun d => d = .bool true := (d_same (by omega)).mono fun d h => by rw [h]; simp
    have hsort : DK 22 [ptsD c] fun d => d = ptsD c := (d_sorted (by omega)).mono fun d h => by rw [h, sortedP_self crows]
    have g0 : ((c.length : Int) == 0) = false := beq_false_of_ne (by omega)
    repeat (first | refine dw_want rfl rfl ?_ | refine dw_pB rfl (by assumption) ?_ | refine dw_p rfl ?_ | refine dw_l rfl ?_ | refine dw_lk rfl ?_ | refine dw_if rfl rfl (by omega) (by decide) (by assumption) ?_ | refine dw_nil ?_ | refine ds_seq ?_ | refine ds_ops mix (fun base => ?_) | refine ds_skip ?_ | refine ds_block ?_)
    rw [show IntKind.i64.wrap ((t : Int) + c.length) = ((t + c.length : Nat) : Int) by rw [dwrap (by omega) (by omega)]; omega]
    skip
    refine dw_cf (ds := [ptsD c]) rfl rfl hsort ?_
    rintro _ rfl
    repeat (first | refine dw_want rfl rfl ?_)
    refine dw_cf (ds := [ptsD c, ptsD c]) rfl rfl hsame ?_
    rintro _ rfl
    have main : ∀ Q : Exit → DEnv → Bx → Nat → Prop, Q .normal [(2, .one (.f (.c (.int .u8 ku)))), (7, .bool true), (8, ptsD p), (9, .int n), (10, .int (t + c.length : Nat)), (11, ptssD cs), (12, .int i)] [] 0 → DPS (Par.base Tryd.prog 1 (H00 1) Z0 lo) f6.n (.seq (.seq (.ops f6r9 0) (.block 2 (.loop f6b0))) (.seq (.seq (.ops f6r14 0) (.block 4 (.loop f6b1))) (.seq (.ops f6r19 0) (.seq (.ops f6r20 0) (.cond (.t 154) (.seq (.ops f6r21 0) .ret) .skip))))) Q [(2, .one (.f (.c (.int .u8 ku)))), (7, .bool true), (8, ptsD p), (9, .int n), (10, .int (t + c.length : Nat)), (11, ptssD cs), (12, .int i)] [] 0 := by
      intro Q hQ
      repeat (first | refine dw_p rfl ?_ | refine dw_nil ?_ | refine ds_seq ?_ | refine ds_ops mix (fun base => ?_) | refine ds_block ?_)
      refine ds_keep (SubA.cons (k := 2) rfl (SubA.cons (k := 7) rfl (SubA.cons (k := 8) rfl (SubA.cons (k := 9) rfl (SubA.cons (k := 10) rfl (SubA.cons (k := 11) rfl (SubA.cons (k := 12) rfl (SubA.cons (k := 13) rfl (SubA.nil _))))))))) (SubA.refl _) ?_
      refine ds_loop (fun m E S nk => ∃ j : Nat, j + m = c.length ∧ E = [(2, .one (.f (.c (.int .u8 ku)))), (7, .bool true), (8, ptsD p), (9, .int n), (10, .int (t + c.length : Nat)), (11, ptssD cs), (12, .int i), (13, .int j)] ∧ S = [] ∧ nk = 0) ⟨c.length, _, _, _, [], ?wk1, 0, by omega, rfl, rfl, rfl⟩ ?_
      case wk1 => exact ⟨by repeat (first | exact trivial | refine ⟨by first | rfl | exact congrArg (fun z => some (DV.int z)) (dwrap (by omega) (by omega)), rfl, ?_⟩), by repeat (first | exact trivial | refine ⟨by first | rfl | exact congrArg (fun z => some (Bk.data z)) (by assumption), rfl, rfl, ?_⟩), rfl, rfl⟩
      rintro m E S nk ⟨j, hjm, rfl, rfl, rfl⟩
      repeat (first | refine dw_p rfl ?_ | refine dw_l rfl ?_ | refine dw_if rfl rfl (by omega) (by decide) (by assumption) ?_ | refine dw_nil ?_ | refine ds_seq ?_ | refine ds_ops mix (fun base => ?_))
      refine ds_if rfl (fun ht2 => ?_) (fun ht2 => ?_)
      · simp at ht2
        obtain ⟨x, hx⟩ : ∃ x, c[j]? = some x := ⟨_, List.getElem?_eq_getElem (by omega)⟩
        have ex := ptF_at hx
        have g1 : (!decide (x ∈ p)) = false := by simp [csub x (List.mem_of_getElem? hx)]
        repeat (first | refine dw_p rfl ?_ | refine dw_l rfl ?_ | refine dw_if rfl rfl (by omega) (by decide) (by assumption) ?_ | refine ds_seq ?_ | refine ds_ops mix (fun base => ?_) | refine ds_skip ?_ | refine ds_block ?_)
        refine dw_cf (ds := [ptsD p, ptD x]) rfl rfl (d_has (by omega)) ?_
        rintro _ rfl
        repeat (first | refine dw_pB rfl (by assumption) ?_ | refine dw_nil ?_)
        refine ds_if rfl (fun h => by cases h) (fun _ => ?_)
        repeat (first | refine dw_p rfl ?_ | refine dw_nil ?_ | refine ds_ops mix (fun base => ?_) | refine ds_skip ?_)
        refine ⟨m - 1, by omega, _, _, _, [], ?wk2, j + 1, by omega, rfl, rfl, rfl⟩
        case wk2 => exact ⟨by repeat (first | exact trivial | refine ⟨by first | rfl | exact congrArg (fun z => some (DV.int z)) (dwrap (by omega) (by omega)), rfl, ?_⟩), by repeat (first | exact trivial | refine ⟨by first | rfl | exact congrArg (fun z => some (Bk.data z)) (by assumption), rfl, rfl, ?_⟩), rfl, rfl⟩
      · simp at ht2
        repeat (first | refine dw_p rfl ?_ | refine dw_nil ?_ | refine ds_seq ?_ | refine ds_ops mix (fun base => ?_) | refine ds_block ?_ | refine ds_exit ?_)
        refine ds_keep (SubA.cons (k := 2) rfl (SubA.cons (k := 7) rfl (SubA.cons (k := 8) rfl (SubA.cons (k := 9) rfl (SubA.cons (k := 10) rfl (SubA.cons (k := 11) rfl (SubA.cons (k := 12) rfl (SubA.cons (k := 14) rfl (SubA.nil _))))))))) (SubA.refl _) ?_
        refine ds_loop (fun m E S nk => ∃ j : Nat, j + m = i ∧ E = [(2, .one (.f (.c (.int .u8 ku)))), (7, .bool true), (8, ptsD p), (9, .int n), (10, .int (t + c.length : Nat)), (11, ptssD cs), (12, .int i), (14, .int j)] ∧ S = [] ∧ nk = 0) ⟨i, _, _, _, [], ?wk3, 0, by omega, rfl, rfl, rfl⟩ ?_
        case wk3 => exact ⟨by repeat (first | exact trivial | refine ⟨by first | rfl | exact congrArg (fun z => some (DV.int z)) (dwrap (by omega) (by omega)), rfl, ?_⟩), by repeat (first | exact trivial | refine ⟨by first | rfl | exact congrArg (fun z => some (Bk.data z)) (by assumption), rfl, rfl, ?_⟩), rfl, rfl⟩
        rintro m E S nk ⟨j, hjm, rfl, rfl, rfl⟩
        repeat (first | refine dw_p rfl ?_ | refine dw_nil ?_ | refine ds_seq ?_ | refine ds_ops mix (fun base => ?_))
        refine ds_if rfl (fun ht3 => ?_) (fun ht3 => ?_)
        · simp at ht3
          obtain ⟨d, hdj⟩ : ∃ d, cs[j]? = some d := ⟨_, List.getElem?_eq_getElem (by omega)⟩
          have ed := ptsF_at hdj
          have hdp := parts (by omega) hcs hdj
          have hds : Smalls d := fun x hx => hps x (hdp.sub x hx)
          have hdl := hdp.lt
          obtain ⟨dne, dfar⟩ := cfar j d ht3 hdj
          have hdist := d_rdistance (a := c) (b := d) hcs' hds (by omega) (by omega)
          have g1 : decide (dist c d ≤ n) = false := by simp; omega
          have g2 : (dist c d == 0) = false := beq_false_of_ne (by omega)
          repeat (first | refine dw_p rfl ?_ | refine dw_l rfl ?_ | refine dw_if rfl rfl (by omega) (by decide) (by assumption) ?_ | refine ds_seq ?_ | refine ds_ops mix (fun base => ?_) | refine ds_skip ?_ | refine ds_block ?_)
          refine dw_cf (ds := [ptsD c, ptsD d]) rfl rfl hdist ?_
          rintro _ rfl
          repeat (first | refine dw_want rfl rfl ?_ | refine dw_skip rfl rfl ?_ | refine dw_pickF rfl rfl ?_ | refine dw_pB rfl (by assumption) ?_ | refine dw_p rfl ?_ | refine dw_l rfl ?_ | refine dw_if rfl rfl (by omega) (by decide) (by assumption) ?_)
          refine dw_cf (ds := [ptsD c, ptsD d]) rfl rfl hdist ?_
          rintro _ rfl
          repeat (first | refine dw_want rfl rfl ?_ | refine dw_pickF rfl rfl ?_ | refine dw_pB rfl (by assumption) ?_ | refine dw_nil ?_)
          refine ds_if rfl (fun h => by cases h) (fun _ => ?_)
          repeat (first | refine dw_p rfl ?_ | refine dw_nil ?_ | refine ds_ops mix (fun base => ?_) | refine ds_skip ?_)
          refine ⟨m - 1, by omega, _, _, _, [], ?wk4, j + 1, by omega, rfl, rfl, rfl⟩
          case wk4 => exact ⟨by repeat (first | exact trivial | refine ⟨by first | rfl | exact congrArg (fun z => some (DV.int z)) (dwrap (by omega) (by omega)), rfl, ?_⟩), by repeat (first | exact trivial | refine ⟨by first | rfl | exact congrArg (fun z => some (Bk.data z)) (by assumption), rfl, rfl, ?_⟩), rfl, rfl⟩
        · simp at ht3
          repeat (first | refine dw_p rfl ?_ | refine dw_l rfl ?_ | refine dw_if rfl rfl (by omega) (by decide) (by assumption) ?_ | refine ds_seq ?_ | refine ds_ops mix (fun base => ?_) | refine ds_exit ?_)
          rw [show IntKind.i64.wrap ku = ku from dwrap (by omega) (by omega)]
          refine dw_rem rfl rfl (by omega) ?_
          by_cases hz : IntKind.i64.wrap (1 + ku.tmod c.length) < c.length
          · have g1 : decide (IntKind.i64.wrap (1 + ku.tmod c.length) < (c.length : Int)) = true := by simpa using hz
            repeat (first | refine dw_want rfl rfl ?_ | refine dw_pB rfl (by assumption) ?_ | refine dw_p rfl ?_ | refine dw_l rfl ?_ | refine dw_if rfl rfl (by omega) (by decide) (by assumption) ?_ | refine dw_nil ?_ | refine ds_seq ?_ | refine ds_ops mix (fun base => ?_))
            refine dw_cf (ds := [ptsD c, .int n]) rfl rfl (d_rclusters hcs' (by omega)) ?_
            rintro _ ⟨cs', rfl, h'⟩
            obtain rfl := cone cs' h'
            repeat (first | refine dw_want rfl rfl ?_ | refine dw_pickT rfl rfl ?_ | refine dw_p rfl ?_ | refine dw_nil ?_)
            refine ds_if rfl (fun h => by cases h) (fun _ => ?_)
            refine ds_keep (SubA.cons rfl (SubA.cons rfl (SubA.cons rfl (SubA.cons rfl (SubA.cons rfl (SubA.cons rfl (SubA.cons rfl (SubA.nil _)))))))) (SubA.nil _) (ds_skip hQ)
          · have g1 : decide (IntKind.i64.wrap (1 + ku.tmod c.length) < (c.length : Int)) = false := by simpa using hz
            repeat (first | refine dw_skip rfl rfl ?_ | refine dw_pickF rfl rfl ?_ | refine dw_pB rfl (by assumption) ?_ | refine dw_p rfl ?_ | refine dw_l rfl ?_ | refine dw_if rfl rfl (by omega) (by decide) (by assumption) ?_ | refine dw_nil ?_ | refine ds_seq ?_ | refine ds_ops mix (fun base => ?_))
            refine ds_if rfl (fun h => by cases h) (fun _ => ?_)
            refine ds_keep (SubA.cons rfl (SubA.cons rfl (SubA.cons rfl (SubA.cons rfl (SubA.cons rfl (SubA.cons rfl (SubA.cons rfl (SubA.nil _)))))))) (SubA.nil _) (ds_skip hQ)
    have htk := total_snoc hc
    by_cases hi0 : i = 0
    · subst hi0
      have g1 : decide (((0 : Nat) : Int) > 0) = false := by simp
      repeat (first | refine dw_want rfl rfl ?_ | refine dw_skip rfl rfl ?_ | refine dw_pickF rfl rfl ?_ | refine dw_pB rfl (by assumption) ?_ | refine dw_p rfl ?_ | refine dw_nil ?_)
      refine ds_if rfl (fun h => by cases h) (fun _ => ?_)
      refine ds_skip ?_
      refine ds_keep (SubA.cons (k := 2) rfl (SubA.cons (k := 7) rfl (SubA.cons (k := 8) rfl (SubA.cons (k := 9) rfl (SubA.cons (k := 10) rfl (SubA.cons (k := 11) rfl (SubA.cons (k := 12) rfl (SubA.nil _)))))))) (SubA.refl _) ?_
      refine main _ ?_
      repeat (first | refine dw_p rfl ?_ | refine dw_nil ?_ | refine ds_ops mix (fun base => ?_))
      refine ⟨m - 1, by omega, _, _, _, [], ?wk5, 0 + 1, t + c.length, by omega, by rw [htk, htt], by omega, rfl, rfl, rfl⟩
      case wk5 => exact ⟨by repeat (first | exact trivial | refine ⟨by first | rfl | exact congrArg (fun z => some (DV.int z)) (dwrap (by omega) (by omega)), rfl, ?_⟩), by repeat (first | exact trivial | refine ⟨by first | rfl | exact congrArg (fun z => some (Bk.data z)) (by assumption), rfl, rfl, ?_⟩), rfl, rfl⟩
    · obtain ⟨j, rfl⟩ : ∃ j, i = j + 1 := ⟨i - 1, by omega⟩
      obtain ⟨d, hdj⟩ : ∃ d, cs[j]? = some d := ⟨_, List.getElem?_eq_getElem (by omega)⟩
      have ed := ptsF_at hdj
      obtain ⟨a', b, ha', hb, hbef⟩ := cbef j d rfl hdj
      obtain rfl := Option.some.inj (ha.symm.trans ha')
      have hdpos : 0 < d.length := (List.getElem?_eq_some_iff.1 hb).1
      have eb : subL (d.flatMap ptF) (0 * 2) 2 = some (ptF b) := ptF_at hb
      have hbf : DK 23 [ptD b, ptD a] fun d => d = .bool true := d_before.mono fun d h => by rw [h, hbef]
      have g1 : decide (((j + 1 : Nat) : Int) > 0) = true := by simp
      repeat (first | refine dw_want rfl rfl ?_ | refine dw_pickF rfl rfl ?_ | refine dw_pB rfl (by assumption) ?_ | refine dw_p rfl ?_)
      rw [show IntKind.i64.wrap (((j + 1 : Nat) : Int) - 1) = (j : Nat) by rw [dwrap (by omega) (by omega)]; omega]
      repeat (first | refine dw_want rfl rfl ?_ | refine dw_p rfl ?_ | refine dw_l rfl ?_ | refine dw_if0 rfl rfl (by omega) (by decide) (by assumption) ?_ | refine dw_if rfl rfl (by omega) (by decide) (by assumption) ?_)
      refine dw_cf (ds := [ptD b, ptD a]) rfl rfl hbf ?_
      rintro _ rfl
      repeat (first | refine dw_want rfl rfl ?_ | refine dw_pickT rfl rfl ?_ | refine dw_pickF rfl rfl ?_ | refine dw_p rfl ?_ | refine dw_nil ?_)
      refine ds_if rfl (fun h => by cases h) (fun _ => ?_)
      refine ds_skip ?_
      refine ds_keep (SubA.cons (k := 2) rfl (SubA.cons (k := 7) rfl (SubA.cons (k := 8) rfl (SubA.cons (k := 9) rfl (SubA.cons (k := 10) rfl (SubA.cons (k := 11) rfl (SubA.cons (k := 12) rfl (SubA.nil _)))))))) (SubA.refl _) ?_
      refine main _ ?_
      repeat (first | refine dw_p rfl ?_ | refine dw_nil ?_ | refine ds_ops mix (fun base => ?_))
      refine ⟨m - 1, by omega, _, _, _, [], ?wk6, j + 1 + 1, t + c.length, by omega, by rw [htk, htt], by omega, rfl, rfl, rfl⟩
      case wk6 => exact ⟨by repeat (first | exact trivial | refine ⟨by first | rfl | exact congrArg (fun z => some (DV.int z)) (dwrap (by omega) (by omega)), rfl, ?_⟩), by repeat (first | exact trivial | refine ⟨by first | rfl | exact congrArg (fun z => some (Bk.data z)) (by assumption), rfl, rfl, ?_⟩), rfl, rfl⟩
  · simp at ht
    rw [List.take_of_length_le (by omega), htot] at htt
    subst htt
    repeat (first | refine dw_p rfl ?_ | refine ds_seq ?_ | refine ds_ops mix (fun base => ?_) | refine ds_exit ?_)
    refine dw_cf (ds := [ptsD p]) rfl rfl (d_sorted (by omega)) ?_
    rintro _ rfl
    have g1 : (((sortedP p).length : Int) == (sortedP p).length) = true := by simp
    repeat (first | refine dw_want rfl rfl ?_ | refine dw_pB rfl (by assumption) ?_ | refine dw_p rfl ?_)
    rw [show IntKind.i64.wrap (n + 1) = n + 1 from dwrap (by omega) (by omega)]
    refine dw_cf (ds := [ptsD p, .int (n + 1)]) rfl rfl hcl2 ?_
    rintro _ ⟨cs2, rfl, hcs2⟩
    have hfew := hcs.fewer hP hcs2 (by omega)
    have g2 : decide ((cs2.length : Int) ≤ cs.length) = true := by simp; omega
    repeat (first | refine dw_want rfl rfl ?_ | refine dw_pickT rfl rfl ?_ | refine dw_pB rfl (by assumption) ?_ | refine dw_p rfl ?_ | refine dw_nil ?_)
    exact ds_ret ⟨_, rfl, rfl, rfl⟩
end Go.Ab.Fn
