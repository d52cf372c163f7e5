/- The law GridCells over the deep contracts. -/
import Derived.Test.YtejpbhindcglpaaDoorAb8
set_option linter.unusedVariables false
set_option linter.unusedSimpArgs false
namespace Go.Ab.Fn
open Go.Ab Go.Proofs
set_option linter.unusedSimpArgs false

/-- the cell that has the dots b -/
def cellB (b : Nat → Bool) : Nat → Int
  | 0 => 0
  | k + 1 => if b k = true then orC (cellB b k) k else cellB b k
theorem cellUp_B (d : DotsL) (r i : Nat) : ∀ k, cellUp d r i k = cellB (fun k => dot d (2 * i + k / 3) (3 * r + k % 3)) k
  | 0 => rfl
  | k + 1 => by simp only [cellUp, cellB, cellUp_B d r i k]
theorem cellB_congr {b b' : Nat → Bool} : ∀ {k : Nat}, (∀ j, j < k → b j = b' j) → cellB b k = cellB b' k
  | 0, _ => rfl
  | k + 1, h => by
    simp only [cellB]
    rw [cellB_congr (k := k) fun j hj => h j (by omega), h k (by omega)]
theorem cellB_bits : ∀ c : Fin 64, cellB (bitC (c.val : Int)) 6 = (c.val : Int) := by decide +kernel
theorem cellB_none : cellB (fun _ => false) 6 = 0 := rfl
theorem bitC_cellB : ∀ (b0 b1 b2 b3 b4 b5 : Bool) (k : Fin 6), bitC (cellB (fun k => match k with | 0 => b0 | 1 => b1 | 2 => b2 | 3 => b3 | 4 => b4 | _ => b5) 6) k.val = (match k.val with | 0 => b0 | 1 => b1 | 2 => b2 | 3 => b3 | 4 => b4 | _ => b5) := by decide +kernel
theorem cellB_lt : ∀ (b0 b1 b2 b3 b4 b5 : Bool), 0 ≤ cellB (fun k => match k with | 0 => b0 | 1 => b1 | 2 => b2 | 3 => b3 | 4 => b4 | _ => b5) 6 ∧ cellB (fun k => match k with | 0 => b0 | 1 => b1 | 2 => b2 | 3 => b3 | 4 => b4 | _ => b5) 6 < 64 := by decide +kernel
theorem cellUp_from {n m : Nat} {l : Cells} (hp : ∀ r ∈ l, ∀ c ∈ r, 0 ≤ c ∧ c < 64) {r i : Nat} (hr : 3 * r + 2 < m) (hi : 2 * i + 1 < n) : cellUp (fromC n m l) r i 6 = match l[r]? with
    | some row => (row[i]?).getD 0
    | none => 0 := by
  have key : ∀ k, k < 6 → dot (fromC n m l) (2 * i + k / 3) (3 * r + k % 3) = match l[r]? with
      | some row => match row[i]? with
        | some c => bitC c k
        | none => false
      | none => false := fun k hk => by
    rw [fromC_dot l (by omega) (by omega)]
    have e1 : (3 * r + k % 3) / 3 = r := by omega
    have e2 : (2 * i + k / 3) / 2 = i := by omega
    have e3 : (2 * i + k / 3) % 2 * 3 + (3 * r + k % 3) % 3 = k := by omega
    simp only [bitAt, e1, e2, e3]
    cases l[r]? with
    | none => rfl
    | some row => cases hri : row[i]? <;> simp only [hri]
  rw [cellUp_B, cellB_congr key]
  cases hrow : l[r]? with
  | none => simp only; exact cellB_none
  | some row =>
    simp only
    cases hc : row[i]? with
    | none => simp only; exact cellB_none
    | some c =>
      simp only [Option.getD_some]
      obtain ⟨h1, h2⟩ := hp row (List.mem_of_getElem? hrow) c (List.mem_of_getElem? hc)
      have := cellB_bits ⟨c.toNat, by omega⟩
      simp only [Int.toNat_of_nonneg h1] at this
      exact this

def lineC (r : List Int) : List Int := (r.take 8).map fun c => c.tmod 66
def linesC (a : Cells) : Cells := (a.take 5).map lineC
theorem linesC_len (a : Cells) : (linesC a).length ≤ 5 := by simp [linesC]; omega
theorem lineC_len (r : List Int) : (lineC r).length ≤ 8 := by simp [lineC]; omega
theorem d_same0 : DK 28 [.agg [.f (.c (.int .i64 0)), .f (.c (.int .i64 0)), .f (.c .nils)], .agg [.f (.c (.int .i64 0)), .f (.c (.int .i64 0)), .f (.c .nils)]] fun d => d = .bool true := by
  refine dfn_ok cp28 rfl GHro fun Z0 lo => ?_
  repeat (first | refine dw_want rfl rfl ?_ | refine dw_pickF rfl rfl ?_ | refine dw_p rfl ?_ | refine dw_l rfl ?_ | refine dw_a rfl ?_ | refine dw_nil ?_ | refine ds_seq ?_ | refine ds_ops mix (fun base => ?_))
  refine ds_if (t := false) rfl (fun ht => by cases ht) (fun _ => ?_)
  repeat (first | refine dw_p rfl ?_ | refine dw_nil ?_ | refine ds_seq ?_ | refine ds_ops mix (fun base => ?_) | refine ds_skip ?_ | refine ds_block ?_)
  refine ds_loop (fun m E S nk => E = [(2, .one (.ptr 0 0)), (3, .one (.ptr 1 0)), (5, .int 0)] ∧ S = [(0, .cells [.f (.c (.int .i64 0)), .f (.c (.int .i64 0)), .f (.c .nils)]), (1, .cells [.f (.c (.int .i64 0)), .f (.c (.int .i64 0)), .f (.c .nils)])] ∧ nk = 2) ⟨0, _, _, _, [], ?wk, rfl, rfl, rfl⟩ ?_
  case wk => exact ⟨by repeat (first | exact trivial | refine ⟨by first | rfl | exact congrArg (fun z => some (DV.int z)) (dwrap (by omega) (by omega)), rfl, ?_⟩), by repeat (first | exact trivial | refine ⟨by first | rfl | exact congrArg (fun z => some (Bk.data z)) (by assumption), rfl, rfl, ?_⟩), rfl⟩
  rintro m E S nk ⟨rfl, rfl, rfl⟩
  repeat (first | refine dw_p rfl ?_ | refine dw_l rfl ?_ | refine dw_nil ?_ | refine ds_seq ?_ | refine ds_ops mix (fun base => ?_))
  refine ds_if (t := false) rfl (fun ht => by cases ht) (fun _ => ?_)
  repeat (first | refine dw_p rfl ?_ | refine dw_nil ?_ | refine ds_seq ?_ | refine ds_ops mix (fun base => ?_) | refine ds_exit ?_)
  exact ds_ret ⟨_, rfl, rfl, rfl⟩

set_option maxHeartbeats 8000000 in
theorem d_gridCells {a : Cells} {w h : Int} (ha : ∀ r ∈ a, ∀ c ∈ r, 0 ≤ c ∧ c < 256) : DK 7 [cellsV a, .one (.f (.c (.int .u8 w))), .one (.f (.c (.int .u8 h)))] fun d => d = .bool true := by
  refine dfn_ok cp7 rfl GHro fun Z0 lo => ?_
  repeat (first | refine dw_p rfl ?_ | refine dw_nil ?_ | refine ds_seq ?_ | refine ds_ops mix (fun base => ?_))
  refine dw_cf rfl rfl d_sanity ?_
  rintro _ rfl
  repeat (first | refine dw_p rfl ?_ | refine dw_a rfl ?_ | refine dw_nil ?_ | refine ds_seq ?_ | refine ds_ops mix (fun base => ?_) | refine ds_block ?_)
  refine ds_loop (fun m E S nk => ∃ k : Nat, k + m = min 5 a.length ∧ ∃ ls : Cells, ls = linesC (a.take k) ∧ E = [(0, cellsV a), (1, .one (.f (.c (.int .u8 w)))), (2, .one (.f (.c (.int .u8 h)))), (7, .bool true), (8, .one (.own 0 0 ls.length 1)), (9, .int k)] ∧ S = [(0, .data ((cellsF ls).map rowF))] ∧ nk = 1) ⟨min 5 a.length, _, _, _, [], ?wk, 0, by omega, [], rfl, rfl, rfl, rfl⟩ ?_
  case wk => exact ⟨by repeat (first | exact trivial | refine ⟨by first | rfl | exact congrArg (fun z => some (DV.int z)) (dwrap (by omega) (by omega)), rfl, ?_⟩), by repeat (first | exact trivial | refine ⟨by first | rfl | exact congrArg (fun z => some (Bk.data z)) (by assumption), rfl, rfl, ?_⟩), rfl⟩
  rintro m E S nk ⟨k, hk, ls, hls, rfl, rfl, rfl⟩
  have hlsl : ls.length ≤ 5 := by rw [hls]; exact linesC_len _
  repeat (first | refine dw_pick rfl (by first | exact fun _ => rfl | exact fun h => (by simp only [if_pos h]; rfl) | exact fun h => (by simp only [h, if_true, if_false]; rfl)) (by first | exact fun _ => rfl | exact fun h => (by simp only [if_pos h]; rfl) | exact fun h => (by simp only [h, if_true, if_false]; rfl)) ?_ | refine dw_p rfl ?_ | refine dw_pg rfl (by first | exact fun _ => rfl | exact fun h => (by simp only [if_pos h]; rfl) | exact fun h => (by simp only [h, if_true, if_false]; rfl)) ?_ | refine dw_nil ?_ | refine ds_seq ?_ | refine ds_ops mix (fun base => ?_))
  refine ds_if rfl (fun ht => ?_) (fun ht => ?_)
  · simp at ht
    obtain ⟨row, hrow⟩ : ∃ q, a[k]? = some q := ⟨_, List.getElem?_eq_getElem (by omega)⟩
    have e1 := rowF_at (cellsF_at hrow)
    repeat (first | refine dw_p rfl ?_ | refine dw_a rfl ?_ | refine dw_nil ?_ | refine ds_seq ?_ | refine ds_ops mix (fun base => ?_) | refine ds_skip ?_ | refine ds_block ?_)
    refine ds_loop (fun m2 E S nk => ∃ i : Nat, i + m2 = min 8 row.length ∧ ∃ q : List Int, q = lineC (row.take i) ∧ E = [(0, cellsV a), (1, .one (.f (.c (.int .u8 w)))), (2, .one (.f (.c (.int .u8 h)))), (7, .bool true), (8, .one (.own 0 0 ls.length 1)), (9, .int k), (10, .one (.own 1 0 q.length 1)), (11, .int i)] ∧ S = [(0, .data ((cellsF ls).map rowF)), (1, .data (q.map cF))] ∧ nk = 2) ⟨min 8 row.length, _, _, _, [], ?wk1, 0, by omega, [], rfl, rfl, rfl, rfl⟩ ?_
    case wk1 => exact ⟨by repeat (first | exact trivial | refine ⟨by first | rfl | exact congrArg (fun z => some (DV.int z)) (dwrap (by omega) (by omega)), rfl, ?_⟩), by repeat (first | exact trivial | refine ⟨by first | rfl | exact congrArg (fun z => some (Bk.data z)) (by assumption), rfl, rfl, ?_⟩), rfl⟩
    rintro m2 E S nk ⟨i, hi, q, hq, rfl, rfl, rfl⟩
    have hql : q.length ≤ 8 := by rw [hq]; exact lineC_len _
    repeat (first | refine dw_pick rfl (by first | exact fun _ => rfl | exact fun h => (by simp only [if_pos h]; rfl) | exact fun h => (by simp only [h, if_true, if_false]; rfl)) (by first | exact fun _ => rfl | exact fun h => (by simp only [if_pos h]; rfl) | exact fun h => (by simp only [h, if_true, if_false]; rfl)) ?_ | refine dw_p rfl ?_ | refine dw_l rfl ?_ | refine dw_pg rfl (by first | exact fun _ => rfl | exact fun h => (by simp only [if_pos h]; rfl) | exact fun h => (by simp only [h, if_true, if_false]; rfl)) ?_ | refine dw_if rfl rfl (by omega) (by decide) (by assumption) ?_ | refine dw_nil ?_ | refine ds_seq ?_ | refine ds_ops mix (fun base => ?_))
    refine ds_if rfl (fun ht2 => ?_) (fun ht2 => ?_)
    · simp at ht2
      obtain ⟨c, hc⟩ : ∃ c, row[i]? = some c := ⟨_, List.getElem?_eq_getElem (by omega)⟩
      have e2 := one_at (cF_at hc)
      have l1 : i < (row.map cF).length := by simp; omega
      repeat (first | refine dw_p rfl ?_ | refine dw_l rfl ?_ | refine dw_if rfl rfl (by omega) (by decide) (by assumption) ?_ | refine dw_a rfl ?_ | refine ds_seq ?_ | refine ds_ops mix (fun base => ?_) | refine ds_skip ?_ | refine ds_block ?_)
      refine dw_app (l' := q.map cF) (q := [cF (c.tmod 66)]) rfl rfl rfl (subL_all _ (by simp)) ⟨rfl, rfl, _, rfl, rfl⟩ (by omega) (by omega) (by decide) rfl ?_
      rw [show q.map cF ++ [cF (c.tmod 66)] = (q ++ [c.tmod 66]).map cF by simp, show q.length + 1 = (q ++ [c.tmod 66]).length by simp]
      repeat (first | refine dw_p rfl ?_ | refine dw_nil ?_ | refine ds_ops mix (fun base => ?_))
      refine ⟨m2 - 1, by omega, _, _, _, [(1, 3)], ?wk2, i + 1, by omega, q ++ [c.tmod 66], ?_, rfl, rfl, rfl⟩
      case wk2 => exact ⟨by repeat (first | exact trivial | refine ⟨by first | rfl | exact congrArg (fun z => some (DV.int z)) (dwrap (by omega) (by omega)), rfl, ?_⟩), by repeat (first | exact trivial | refine ⟨by first | rfl | exact congrArg (fun z => some (Bk.data z)) (by assumption), rfl, rfl, ?_⟩), rfl⟩
      rw [hq, List.take_add_one, hc]
      simp only [lineC, Option.toList_some]
      rw [List.take_append, List.map_append]
      congr 1
      · rw [List.length_take, show 8 - min i row.length = (7 - i) + 1 by omega]; simp
    · simp at ht2
      have hfl : (q.map cF).length = q.length * 1 := by simp
      have hqe : q = lineC row := by
        rw [hq]; simp only [lineC]; rw [List.take_take, show min 8 i = min 8 row.length by omega]
        by_cases h8 : 8 ≤ row.length
        · rw [Nat.min_eq_left h8]
        · rw [Nat.min_eq_right (by omega), List.take_length, List.take_of_length_le (by omega)]
      have hflat0 : ((cellsF ls).map rowF).length = ls.length * 1 := by simp [cellsF]
      refine ds_keep (SubA.cons (k := 0) rfl (SubA.cons (k := 1) rfl (SubA.cons (k := 2) rfl (SubA.cons (k := 7) rfl (SubA.cons (k := 8) rfl (SubA.cons (k := 9) rfl (SubA.cons (k := 10) rfl (SubA.nil _)))))))) (SubA.refl _) ?_
      refine ds_frz 1 rfl (by repeat' (first | exact trivial | rfl | assumption | refine ⟨?_, ?_⟩)) (by repeat' (first | exact trivial | rfl | assumption | refine ⟨?_, ?_⟩)) ?_
      repeat (first | refine dw_p rfl ?_ | refine dw_a rfl ?_ | refine ds_ops mix (fun base => ?_) | refine ds_exit ?_)
      refine dw_app (l' := (cellsF ls).map rowF) (q := [.sl 1 q.length (q.map cF)]) rfl rfl rfl (subL_all _ hflat0) ⟨rfl, rfl, _, rfl, rfl⟩ (by omega) (by omega) (by decide) rfl ?_
      rw [show (cellsF ls).map rowF ++ [.sl 1 q.length (q.map cF)] = (cellsF (ls ++ [q])).map rowF by simp [cellsF, rowF], show ls.length + 1 = (ls ++ [q]).length by simp]
      repeat (first | refine dw_p rfl ?_ | refine dw_nil ?_ | refine ds_ops mix (fun base => ?_))
      refine ⟨m - 1, by omega, _, _, _, [(0, 3)], ?wk3, k + 1, by omega, ls ++ [q], ?_, rfl, rfl, rfl⟩
      case wk3 => exact ⟨by repeat (first | exact trivial | refine ⟨by first | rfl | exact congrArg (fun z => some (DV.int z)) (dwrap (by omega) (by omega)), rfl, ?_⟩), by repeat (first | exact trivial | refine ⟨by first | rfl | exact congrArg (fun z => some (Bk.data z)) (by assumption), rfl, rfl, ?_⟩), rfl⟩
      rw [hls, hqe, List.take_add_one, hrow]
      simp only [linesC, Option.toList_some]
      rw [List.take_append, List.map_append]
      congr 1
      · rw [List.length_take, show 5 - min k a.length = (4 - k) + 1 by omega]; simp
  · simp at ht
    have hlse : ls = linesC a := by
      rw [hls]; simp only [linesC]; rw [List.take_take, show min 5 k = min 5 a.length by omega]
      by_cases h8 : 5 ≤ a.length
      · rw [Nat.min_eq_left h8]
      · rw [Nat.min_eq_right (by omega), List.take_length, List.take_of_length_le (by omega)]
    have hflat0 : ((cellsF ls).map rowF).length = ls.length * 1 := by simp [cellsF]
    have hsm : ∀ r ∈ ls, r.length < 1000000 := fun r hr => by
      rw [hlse] at hr
      simp only [linesC, List.mem_map] at hr
      obtain ⟨q, _, rfl⟩ := hr
      have := lineC_len q
      omega
    have hpos : ∀ r ∈ ls, ∀ c ∈ r, 0 ≤ c := fun r hr c hc => by
      rw [hlse] at hr
      simp only [linesC, List.mem_map] at hr
      obtain ⟨q, hq, rfl⟩ := hr
      simp only [lineC, List.mem_map] at hc
      obtain ⟨c', hc', rfl⟩ := hc
      obtain ⟨h0, _⟩ := ha q (List.mem_of_mem_take hq) c' (List.mem_of_mem_take hc')
      exact Int.tmod_nonneg _ h0
    clear hls hlse hk ht ha
    refine ds_keep (SubA.cons (k := 1) rfl (SubA.cons (k := 2) rfl (SubA.cons (k := 7) rfl (SubA.cons (k := 8) rfl (SubA.nil _))))) (SubA.refl _) ?_
    refine ds_frz 0 rfl (by repeat' (first | exact trivial | rfl | assumption | refine ⟨?_, ?_⟩)) (by repeat' (first | exact trivial | rfl | assumption | refine ⟨?_, ?_⟩)) ?_
    repeat (first | refine dw_p rfl ?_ | refine ds_seq ?_ | refine ds_ops mix (fun base => ?_) | refine ds_exit ?_)
    refine dw_cf rfl rfl (d_from (l := ls) hsm) ?_
    rintro d1 (⟨hf, hfr, rfl⟩ | ⟨hno, rfl⟩)
    · repeat (first | refine dw_p rfl ?_ | refine dw_a rfl ?_ | refine dw_st rfl rfl rfl rfl rfl (Nat.le_of_ble_eq_true rfl) rfl ?_ | refine dw_nil ?_ | refine ds_seq ?_ | refine ds_ops mix (fun base => ?_))
      refine dw_cf rfl rfl (d_rfrom (l := ls) hsm) ?_
      rintro d2 (⟨_, _, rfl⟩ | ⟨hno, rfl⟩)
      · have hfw := hf
        unfold fitH at hfw
        obtain ⟨n, hn, m, hm, hn2, hm3, hn200, hm200, hlm, hrn⟩ : ∃ n, (IntKind.i64.wrap ((IntKind.i64.wrap w).tmod 20 - 1)).toNat = n ∧ ∃ m, (IntKind.i64.wrap ((IntKind.i64.wrap h).tmod 20 - 1)).toNat = m ∧ n % 2 = 0 ∧ m % 3 = 0 ∧ n ≤ 200 ∧ m ≤ 200 ∧ ls.length ≤ m / 3 ∧ ∀ r ∈ ls, r.length ≤ n / 2 := by
          refine ⟨_, rfl, _, rfl, by omega, by omega, by omega, by omega, by omega, fun r hr => ?_⟩
          have := (hfr r hr).1
          omega
        rw [hn, hm]
        have hp : ∀ r ∈ ls, ∀ c ∈ r, 0 ≤ c ∧ c < 64 := fun r hr c hc => ⟨hpos r hr c hc, (hfr r hr).2 c hc⟩
        clear hf hfr hfw hn hm hpos
        have hsz := fromC_sz n m ls
        repeat (first | refine dw_want rfl rfl ?_ | refine dw_p rfl ?_ | refine dw_l rfl ?_ | refine dw_a rfl ?_ | refine dw_st rfl rfl rfl rfl rfl (Nat.le_of_ble_eq_true rfl) rfl ?_ | refine dw_nil ?_ | refine ds_seq ?_ | refine ds_ops mix (fun base => ?_))
        refine dw_cf rfl rfl (d_sameG (by rw [hsz.1]; omega) fun r hr => by rw [hsz.2 r hr]; omega) ?_
        rintro _ rfl
        repeat (first | refine dw_want rfl rfl ?_ | refine dw_pickF rfl rfl ?_ | refine dw_p rfl ?_ | refine dw_nil ?_)
        refine ds_if rfl (fun ht => by cases ht) (fun _ => ?_)
        repeat (first | refine dw_p rfl ?_ | refine dw_nil ?_ | refine ds_seq ?_ | refine ds_ops mix (fun base => ?_) | refine ds_skip ?_)
        refine ds_if (t := false) rfl (fun ht => by cases ht) (fun _ => ?_)
        repeat (first | refine dw_l rfl ?_ | refine ds_seq ?_ | refine ds_ops mix (fun base => ?_) | refine ds_skip ?_)
        refine dw_cf rfl rfl (d_to hn200 hm200 hsz) ?_
        rintro e (⟨_, _, rfl⟩ | ⟨hno, rfl⟩)
        · have hbl : (toC' n m (fromC n m ls)).length = m / 3 := by simp [toC']
          have hw3 : IntKind.i64.wrap ((m : Int).tdiv 3) = ((m / 3 : Nat) : Int) := by rw [td (by omega), dwrap (by omega) (by omega)]; omega
          have hw2 : IntKind.i64.wrap ((n : Int).tdiv 2) = ((n / 2 : Nat) : Int) := by rw [td (by omega), dwrap (by omega) (by omega)]; omega
          have g1 : ((((toC' n m (fromC n m ls)).length : Nat) : Int) != IntKind.i64.wrap ((m : Int).tdiv 3)) = false := by rw [hw3, hbl]; simp
          repeat (first | refine dw_want rfl rfl ?_ | refine dw_pickF rfl rfl ?_ | refine dw_pB rfl (by assumption) ?_ | refine dw_p rfl ?_ | refine dw_l rfl ?_ | refine dw_nil ?_ | refine ds_seq ?_ | refine ds_ops mix (fun base => ?_))
          refine ds_if (t := false) rfl (fun ht => by cases ht) (fun _ => ?_)
          repeat (first | refine dw_p rfl ?_ | refine dw_nil ?_ | refine ds_seq ?_ | refine ds_ops mix (fun base => ?_) | refine ds_skip ?_ | refine ds_block ?_)
          refine ds_keep (SubA.cons (k := 7) rfl (SubA.cons (k := 8) rfl (SubA.cons (k := 12) rfl (SubA.cons (k := 16) rfl (SubA.cons (k := 18) rfl (SubA.nil _)))))) (SubA.cons (k := 1) rfl (SubA.nil _)) ?_
          refine ds_loop (fun k E S nk => ∃ r : Nat, r + k = m / 3 ∧ E = [(7, .bool true), (8, cellsV ls), (12, .one (.ptr 1 0)), (16, cellsV (toC' n m (fromC n m ls))), (18, .int r)] ∧ S = [(1, .cells [.f (.c (.int .i64 n)), .f (.c (.int .i64 m)), .f (.sl 1 (fromC n m ls).length ((rowsF (fromC n m ls)).map rowF))])] ∧ nk = 2) ⟨m / 3, _, _, _, [], ?wk4, 0, by omega, rfl, rfl, rfl⟩ ?_
          case wk4 => exact ⟨by repeat (first | exact trivial | refine ⟨by first | rfl | exact congrArg (fun z => some (DV.int z)) (dwrap (by omega) (by omega)), rfl, ?_⟩), by repeat (first | exact trivial | refine ⟨by first | rfl | exact congrArg (fun z => some (Bk.data z)) (by assumption), rfl, rfl, ?_⟩), rfl⟩
          rintro k E S nk ⟨r, hr, rfl, rfl, rfl⟩
          repeat (first | refine dw_p rfl ?_ | refine dw_nil ?_ | refine ds_seq ?_ | refine ds_ops mix (fun base => ?_))
          refine ds_if rfl (fun ht => ?_) (fun ht => ?_)
          · simp at ht
            rw [hbl] at ht
            have hrow : (toC' n m (fromC n m ls))[r]? = some ((List.range (n / 2)).map fun i => cellUp (fromC n m ls) r i 6) := by simp [toC', ht]
            have e1 := rowF_at (cellsF_at hrow)
            have g2 : ((((((List.range (n / 2)).map fun i => cellUp (fromC n m ls) r i 6).map cF).length : Nat) : Int) != IntKind.i64.wrap ((n : Int).tdiv 2)) = false := by rw [hw2]; simp
            repeat (first | refine dw_pB rfl (by assumption) ?_ | refine dw_p rfl ?_ | refine dw_l rfl ?_ | refine dw_if rfl rfl (by omega) (by decide) (by assumption) ?_ | refine dw_nil ?_ | refine ds_seq ?_ | refine ds_ops mix (fun base => ?_) | refine ds_skip ?_ | refine ds_block ?_)
            refine ds_if (t := false) rfl (fun ht => by cases ht) (fun _ => ?_)
            repeat (first | refine dw_p rfl ?_ | refine dw_nil ?_ | refine ds_seq ?_ | refine ds_ops mix (fun base => ?_) | refine ds_skip ?_ | refine ds_block ?_)
            refine ds_loop (fun k2 E S nk => ∃ i : Nat, i + k2 = n / 2 ∧ E = [(7, .bool true), (8, cellsV ls), (12, .one (.ptr 1 0)), (16, cellsV (toC' n m (fromC n m ls))), (18, .int r), (19, .int i)] ∧ S = [(1, .cells [.f (.c (.int .i64 n)), .f (.c (.int .i64 m)), .f (.sl 1 (fromC n m ls).length ((rowsF (fromC n m ls)).map rowF))])] ∧ nk = 2) ⟨n / 2, _, _, _, [], ?wk5, 0, by omega, rfl, rfl, rfl⟩ ?_
            case wk5 => exact ⟨by repeat (first | exact trivial | refine ⟨by first | rfl | exact congrArg (fun z => some (DV.int z)) (dwrap (by omega) (by omega)), rfl, ?_⟩), by repeat (first | exact trivial | refine ⟨by first | rfl | exact congrArg (fun z => some (Bk.data z)) (by assumption), rfl, rfl, ?_⟩), rfl⟩
            rintro k2 E S nk ⟨i, hi, rfl, rfl, rfl⟩
            repeat (first | refine dw_p rfl ?_ | refine dw_l rfl ?_ | refine dw_if rfl rfl (by omega) (by decide) (by assumption) ?_ | refine dw_nil ?_ | refine ds_seq ?_ | refine ds_ops mix (fun base => ?_))
            refine ds_if rfl (fun ht2 => ?_) (fun ht2 => ?_)
            · simp at ht2
              have ht2 : i < n / 2 := by omega
              have hcell : ((List.range (n / 2)).map fun i => cellUp (fromC n m ls) r i 6)[i]? = some (cellUp (fromC n m ls) r i 6) := by simp [ht2]
              have e2 := one_at (cF_at hcell)
              have l1 : i < (((List.range (n / 2)).map fun i => cellUp (fromC n m ls) r i 6).map cF).length := by simp; omega
              have hval := cellUp_from hp (r := r) (i := i) (n := n) (m := m) (by omega) (by omega)
              by_cases h1 : r < ls.length
              · obtain ⟨row, hrow2⟩ : ∃ q, ls[r]? = some q := ⟨_, List.getElem?_eq_getElem h1⟩
                have g3 : decide ((r : Int) < (ls.length : Nat)) = true := by simpa using h1
                have e3 := rowF_at (cellsF_at hrow2)
                rw [hrow2] at hval
                simp only at hval
                by_cases h2 : i < row.length
                · obtain ⟨c, hc⟩ : ∃ c, row[i]? = some c := ⟨_, List.getElem?_eq_getElem h2⟩
                  have g4 : decide ((i : Int) < ((row.map cF).length : Nat)) = true := by simpa using h2
                  have e4 := one_at (cF_at hc)
                  have l2 : i < (row.map cF).length := by simpa using h2
                  rw [hc, Option.getD_some] at hval
                  have g5 : (cellUp (fromC n m ls) r i 6 != c) = false := by rw [hval]; simp
                  repeat (first | refine dw_want rfl rfl ?_ | refine dw_pickT rfl rfl ?_ | refine dw_pB rfl (by assumption) ?_ | refine dw_p rfl ?_ | refine dw_l rfl ?_ | refine dw_if rfl rfl (by omega) (by decide) (by assumption) ?_ | refine dw_nil ?_ | refine ds_seq ?_ | refine ds_ops mix (fun base => ?_) | refine ds_skip ?_ | refine ds_block ?_)
                  refine ds_if (t := true) rfl (fun _ => ?_) (fun ht => by cases ht)
                  repeat (first | refine dw_pB rfl (by assumption) ?_ | refine dw_p rfl ?_ | refine dw_l rfl ?_ | refine dw_if rfl rfl (by omega) (by decide) (by assumption) ?_ | refine dw_nil ?_ | refine ds_seq ?_ | refine ds_ops mix (fun base => ?_))
                  refine ds_if (t := false) rfl (fun ht => by cases ht) (fun _ => ?_)
                  repeat (first | refine dw_p rfl ?_ | refine dw_nil ?_ | refine ds_ops mix (fun base => ?_) | refine ds_skip ?_)
                  refine ⟨k2 - 1, by omega, _, _, _, [], ?wk6, i + 1, by omega, rfl, rfl, rfl⟩
                  case wk6 => exact ⟨by repeat (first | exact trivial | refine ⟨by first | rfl | exact congrArg (fun z => some (DV.int z)) (dwrap (by omega) (by omega)), rfl, ?_⟩), by repeat (first | exact trivial | refine ⟨by first | rfl | exact congrArg (fun z => some (Bk.data z)) (by assumption), rfl, rfl, ?_⟩), rfl⟩
                · have g4 : decide ((i : Int) < ((row.map cF).length : Nat)) = false := by simpa using h2
                  rw [List.getElem?_eq_none (by omega)] at hval
                  have g5 : (cellUp (fromC n m ls) r i 6 != 0) = false := by rw [hval]; simp
                  repeat (first | refine dw_want rfl rfl ?_ | refine dw_pickT rfl rfl ?_ | refine dw_pB rfl (by assumption) ?_ | refine dw_p rfl ?_ | refine dw_l rfl ?_ | refine dw_if rfl rfl (by omega) (by decide) (by assumption) ?_ | refine dw_nil ?_ | refine ds_seq ?_ | refine ds_ops mix (fun base => ?_) | refine ds_skip ?_ | refine ds_block ?_)
                  refine ds_if (t := false) rfl (fun ht => by cases ht) (fun _ => ?_)
                  repeat (first | refine dw_pB rfl (by assumption) ?_ | refine dw_p rfl ?_ | refine dw_l rfl ?_ | refine dw_if rfl rfl (by omega) (by decide) (by assumption) ?_ | refine dw_nil ?_ | refine ds_seq ?_ | refine ds_ops mix (fun base => ?_) | refine ds_skip ?_)
                  refine ds_if (t := false) rfl (fun ht => by cases ht) (fun _ => ?_)
                  repeat (first | refine dw_p rfl ?_ | refine dw_nil ?_ | refine ds_ops mix (fun base => ?_) | refine ds_skip ?_)
                  refine ⟨k2 - 1, by omega, _, _, _, [], ?wk6, i + 1, by omega, rfl, rfl, rfl⟩
                  case wk6 => exact ⟨by repeat (first | exact trivial | refine ⟨by first | rfl | exact congrArg (fun z => some (DV.int z)) (dwrap (by omega) (by omega)), rfl, ?_⟩), by repeat (first | exact trivial | refine ⟨by first | rfl | exact congrArg (fun z => some (Bk.data z)) (by assumption), rfl, rfl, ?_⟩), rfl⟩
              · have g3 : decide ((r : Int) < (ls.length : Nat)) = false := by simpa using h1
                rw [List.getElem?_eq_none (by omega)] at hval
                have g5 : (cellUp (fromC n m ls) r i 6 != 0) = false := by rw [hval]; simp
                repeat (first | refine dw_skip rfl rfl ?_ | refine dw_pickF rfl rfl ?_ | refine dw_pB rfl (by assumption) ?_ | refine dw_p rfl ?_ | refine dw_nil ?_ | refine ds_seq ?_ | refine ds_ops mix (fun base => ?_) | refine ds_skip ?_ | refine ds_block ?_)
                refine ds_if (t := false) rfl (fun ht => by cases ht) (fun _ => ?_)
                repeat (first | refine dw_pB rfl (by assumption) ?_ | refine dw_p rfl ?_ | refine dw_l rfl ?_ | refine dw_if rfl rfl (by omega) (by decide) (by assumption) ?_ | refine dw_nil ?_ | refine ds_seq ?_ | refine ds_ops mix (fun base => ?_) | refine ds_skip ?_)
                refine ds_if (t := false) rfl (fun ht => by cases ht) (fun _ => ?_)
                repeat (first | refine dw_p rfl ?_ | refine dw_nil ?_ | refine ds_ops mix (fun base => ?_) | refine ds_skip ?_)
                refine ⟨k2 - 1, by omega, _, _, _, [], ?wk6, i + 1, by omega, rfl, rfl, rfl⟩
                case wk6 => exact ⟨by repeat (first | exact trivial | refine ⟨by first | rfl | exact congrArg (fun z => some (DV.int z)) (dwrap (by omega) (by omega)), rfl, ?_⟩), by repeat (first | exact trivial | refine ⟨by first | rfl | exact congrArg (fun z => some (Bk.data z)) (by assumption), rfl, rfl, ?_⟩), rfl⟩
            · simp at ht2
              repeat (first | refine dw_p rfl ?_ | refine dw_nil ?_ | refine ds_ops mix (fun base => ?_) | refine ds_exit ?_)
              refine ⟨k - 1, by omega, _, _, _, [], ?wk7, r + 1, by omega, rfl, rfl, rfl⟩
              case wk7 => exact ⟨by repeat (first | exact trivial | refine ⟨by first | rfl | exact congrArg (fun z => some (DV.int z)) (dwrap (by omega) (by omega)), rfl, ?_⟩), by repeat (first | exact trivial | refine ⟨by first | rfl | exact congrArg (fun z => some (Bk.data z)) (by assumption), rfl, rfl, ?_⟩), rfl⟩
          · simp at ht
            repeat (first | refine dw_p rfl ?_ | refine dw_nil ?_ | refine ds_seq ?_ | refine ds_ops mix (fun base => ?_) | refine ds_exit ?_)
            exact ds_ret ⟨_, rfl, rfl, rfl⟩
        · exact absurd ⟨hn2, hm3⟩ hno
      · exact absurd ⟨hf, hfr⟩ hno
    · repeat (first | refine dw_p rfl ?_ | refine dw_a rfl ?_ | refine dw_st rfl rfl rfl rfl rfl (Nat.le_of_ble_eq_true rfl) rfl ?_ | refine dw_nil ?_ | refine ds_seq ?_ | refine ds_ops mix (fun base => ?_))
      refine dw_cf rfl rfl (d_rfrom (l := ls) hsm) ?_
      rintro d2 (⟨h1, h2, rfl⟩ | ⟨_, rfl⟩)
      · exact absurd ⟨h1, h2⟩ hno
      · repeat (first | refine dw_want rfl rfl ?_ | refine dw_p rfl ?_ | refine dw_l rfl ?_ | refine dw_a rfl ?_ | refine dw_st rfl rfl rfl rfl rfl (Nat.le_of_ble_eq_true rfl) rfl ?_ | refine dw_nil ?_ | refine ds_seq ?_ | refine ds_ops mix (fun base => ?_))
        refine dw_cf rfl rfl d_same0 ?_
        rintro _ rfl
        repeat (first | refine dw_want rfl rfl ?_ | refine dw_pickF rfl rfl ?_ | refine dw_p rfl ?_ | refine dw_nil ?_)
        refine ds_if rfl (fun ht => by cases ht) (fun _ => ?_)
        repeat (first | refine dw_p rfl ?_ | refine dw_nil ?_ | refine ds_seq ?_ | refine ds_ops mix (fun base => ?_) | refine ds_skip ?_)
        refine ds_if (t := true) rfl (fun _ => ?_) (fun ht => by cases ht)
        repeat (first | refine dw_p rfl ?_ | refine dw_nil ?_ | refine ds_seq ?_ | refine ds_ops mix (fun base => ?_))
        exact ds_ret ⟨_, rfl, rfl, rfl⟩
end Go.Ab.Fn

/- Deep contracts: points by rows. -/
namespace Go.Ab.Fn
open Go.Ab Go.Proofs
set_option linter.unusedSimpArgs false

def before (a b : Pt2) : Bool := if decide (a.2 < b.2) = true then true else if (a.2 == b.2) = true then decide (a.1 < b.1) else false
theorem d_before {a b : Pt2} : DK 23 [ptD a, ptD b] fun d => d = .bool (before a b) := by
  refine dfn_ok cp23 rfl GHro fun Z0 lo => ?_
  by_cases h1 : a.2 < b.2
  · have g1 : decide (a.2 < b.2) = true := by simpa using h1
    repeat (first | refine dw_skip rfl rfl ?_ | refine dw_skipU rfl ?_ | refine dw_pickT rfl rfl ?_ | refine dw_pB rfl (by assumption) ?_ | refine dw_p rfl ?_ | refine dw_l rfl ?_ | refine dw_a rfl ?_ | refine dw_nil ?_ | refine ds_seq ?_ | refine ds_ops mix (fun base => ?_))
    exact ds_ret ⟨_, rfl, rfl, by simp [before, h1]⟩
  · have g1 : decide (a.2 < b.2) = false := by simpa using h1
    by_cases h2 : a.2 = b.2
    · have g2 : (a.2 == b.2) = true := by simpa using h2
      repeat (first | refine dw_want rfl rfl ?_ | refine dw_pickT rfl rfl ?_ | refine dw_pickF rfl rfl ?_ | refine dw_pB rfl (by assumption) ?_ | refine dw_p rfl ?_ | refine dw_l rfl ?_ | refine dw_a rfl ?_ | refine dw_nil ?_ | refine ds_seq ?_ | refine ds_ops mix (fun base => ?_))
      exact ds_ret ⟨_, rfl, rfl, by simp [before, h1, h2]⟩
    · have g2 : (a.2 == b.2) = false := by simpa using h2
      repeat (first | refine dw_want rfl rfl ?_ | refine dw_skip rfl rfl ?_ | refine dw_pickF rfl rfl ?_ | refine dw_pB rfl (by assumption) ?_ | refine dw_p rfl ?_ | refine dw_l rfl ?_ | refine dw_a rfl ?_ | refine dw_nil ?_ | refine ds_seq ?_ | refine ds_ops mix (fun base => ?_))
      exact ds_ret ⟨_, rfl, rfl, by simp [before, h1, h2]⟩

def posR (x : Pt2) (out : List Pt2) : Nat → Nat
  | 0 => 0
  | n + 1 => match out[n]? with
    | some z => if before x z = true then posR x out n else n + 1
    | none => n + 1
def insP (x : Pt2) (out : List Pt2) : List Pt2 := out.take (posR x out out.length) ++ [x] ++ out.drop (posR x out out.length)
def addP (out : List Pt2) (x : Pt2) : List Pt2 := if x ∈ out then out else insP x out
def sortedP (l : List Pt2) : List Pt2 := l.foldl addP []
theorem posR_le (x : Pt2) (out : List Pt2) : ∀ n, posR x out n ≤ n
  | 0 => Nat.le_refl 0
  | n + 1 => by
    simp only [posR]
    have := posR_le x out n
    split
    · split <;> omega
    · omega
theorem sortedP_len : ∀ (l out : List Pt2), (l.foldl addP out).length ≤ out.length + l.length
  | [], out => by simp
  | x :: l, out => by
    have := sortedP_len l (addP out x)
    have h2 : (addP out x).length ≤ out.length + 1 := by
      unfold addP
      split
      · omega
      · simp [insP]; omega
    simp only [List.foldl_cons, List.length_cons]
    omega

set_option maxHeartbeats 4000000 in
theorem d_sorted {l : List Pt2} (hn : l.length < 1000000) : DK 22 [ptsD l] fun d => d = ptsD (sortedP l) := by
  refine dfn_ok cp22 rfl GHro fun Z0 lo => ?_
  repeat (first | refine dw_p rfl ?_ | refine dw_a rfl ?_ | refine dw_nil ?_ | refine ds_seq ?_ | refine ds_ops mix (fun base => ?_) | refine ds_block ?_)
  refine ds_loop (fun m E S nk => ∃ k : Nat, k + m = l.length ∧ ∃ out : List Pt2, out = sortedP (l.take k) ∧ E = [(0, ptsD l), (3, .one (.own 0 0 out.length 2)), (4, .int k)] ∧ S = [(0, .data (out.flatMap ptF))] ∧ nk = 1) ⟨l.length, _, _, _, [], ?wk, 0, by omega, [], rfl, rfl, rfl, rfl⟩ ?_
  case wk => exact ⟨by repeat (first | exact trivial | refine ⟨by first | rfl | exact congrArg (fun z => some (DV.int z)) (dwrap (by omega) (by omega)), rfl, ?_⟩), by repeat (first | exact trivial | refine ⟨by first | rfl | exact congrArg (fun z => some (Bk.data z)) (by assumption), rfl, rfl, ?_⟩), rfl⟩
  rintro m E S nk ⟨k, hk, out, hout, rfl, rfl, rfl⟩
  have hol : out.length ≤ 1000000 := by
    have := sortedP_len (l.take k) []
    rw [hout, sortedP]
    simp at this
    omega
  have hflat := ptF_len out
  repeat (first | refine dw_p rfl ?_ | refine dw_nil ?_ | refine ds_seq ?_ | refine ds_ops mix (fun base => ?_))
  refine ds_if rfl (fun ht => ?_) (fun ht => ?_)
  · simp at ht
    obtain ⟨x, hx⟩ : ∃ x, l[k]? = some x := ⟨_, List.getElem?_eq_getElem (by omega)⟩
    have e1 := ptF_at hx
    have hstep : sortedP (l.take (k + 1)) = addP out x := by
      rw [List.take_add_one, hx, hout, sortedP, sortedP]
      simp
    repeat (first | refine dw_p rfl ?_ | refine dw_l rfl ?_ | refine dw_if rfl rfl (by omega) (by decide) (by assumption) ?_ | refine ds_seq ?_ | refine ds_ops mix (fun base => ?_) | refine ds_skip ?_ | refine ds_block ?_)
    refine dw_cfo (ds := [.one _, ptD x]) rfl ⟨⟨_, rfl, _, _, rfl, subL_all _ hflat, rfl⟩, ⟨_, rfl, ⟨rfl, rfl⟩, ⟨rfl, rfl⟩, trivial⟩, trivial⟩ (d_has (l := out) (p := x) (by omega)) (by rintro _ rfl; rfl) ?_
    rintro _ rfl
    repeat (first | refine dw_nil ?_)
    refine ds_if rfl (fun ht2 => ?_) (fun ht2 => ?_)
    · simp at ht2
      repeat (first | refine dw_p rfl ?_ | refine dw_nil ?_ | refine ds_ops mix (fun base => ?_) | refine ds_exit ?_)
      refine ⟨m - 1, by omega, _, _, _, [], ?wk1, k + 1, by omega, out, ?ho, rfl, rfl, rfl⟩
      case wk1 => exact ⟨by repeat (first | exact trivial | refine ⟨by first | rfl | exact congrArg (fun z => some (DV.int z)) (dwrap (by omega) (by omega)), rfl, ?_⟩), by repeat (first | exact trivial | refine ⟨by first | rfl | exact congrArg (fun z => some (Bk.data z)) (by assumption), rfl, rfl, ?_⟩), rfl⟩
      case ho => rw [hstep, addP, if_pos ht2]
    · simp at ht2
      repeat (first | refine dw_p rfl ?_ | refine dw_nil ?_ | refine ds_seq ?_ | refine ds_ops mix (fun base => ?_) | refine ds_skip ?_ | refine ds_block ?_)
      refine ds_loop (fun m E S nk => ∃ j : Nat, j = m ∧ j ≤ out.length ∧ posR x out j = posR x out out.length ∧ E = [(0, ptsD l), (3, .one (.own 0 0 out.length 2)), (4, .int k), (5, .int j)] ∧ S = [(0, .data (out.flatMap ptF))] ∧ nk = 1) ⟨out.length, _, _, _, [], ?wk2, out.length, rfl, Nat.le_refl _, rfl, rfl, rfl, rfl⟩ ?_
      case wk2 => exact ⟨by repeat (first | exact trivial | refine ⟨by first | rfl | exact congrArg (fun z => some (DV.int z)) (dwrap (by omega) (by omega)), rfl, ?_⟩), by repeat (first | exact trivial | refine ⟨by first | rfl | exact congrArg (fun z => some (Bk.data z)) (by assumption), rfl, rfl, ?_⟩), rfl⟩
      rintro m2 E S nk ⟨j, hj, hjl, hpos, rfl, rfl, rfl⟩
      have fin : j = posR x out out.length → ∀ Q : Exit → DEnv → Bx → Nat → Prop, Q .normal [(0, ptsD l), (3, .one (.own 5 0 (insP x out).length 2)), (4, .int k)] [(5, .data ((insP x out).flatMap ptF))] 6 → DPS ⟨Tryd.prog, 1, H00 1, Z0, lo⟩ f22.n (.seq (.ops f22r8 0) (.seq (.ops f22r9 10) (.ops f22r10 0))) Q [(0, ptsD l), (3, .one (.own 0 0 out.length 2)), (4, .int k), (5, .int j)] [(0, .data (out.flatMap ptF))] 1 := by
        intro hjp Q hQ
        have hsplit : out.flatMap ptF = (out.take j).flatMap ptF ++ (out.drop j).flatMap ptF := by rw [← List.flatMap_append, List.take_append_drop]
        have hlt : ((out.take j).flatMap ptF).length = j * 2 := by rw [ptF_len, List.length_take]; omega
        have hld : ((out.drop j).flatMap ptF).length = (out.length - j) * 2 := by rw [ptF_len, List.length_drop]
        have htake : subL (out.flatMap ptF) 0 (j * 2) = some ((out.take j).flatMap ptF) := by
          rw [subL_of (by omega), hsplit, List.drop_zero, List.take_append_of_le_length (by omega), List.take_of_length_le (by omega)]
        have hdrop : subL (out.flatMap ptF) (j * 2) ((out.length - j) * 2) = some ((out.drop j).flatMap ptF) := by
          rw [subL_of (by omega), hsplit, ← hlt, List.drop_left, List.take_of_length_le (by omega)]
        have hL : j + 1 + (out.length - j) = (insP x out).length := by simp [insP, ← hjp]; omega
        have hD : ((out.take j).flatMap ptF ++ [.c (.int .i64 x.1), .c (.int .i64 x.2)]) ++ (out.drop j).flatMap ptF = (insP x out).flatMap ptF := by
          rw [insP, ← hjp, List.flatMap_append, List.flatMap_append]; rfl
        repeat (first | refine dw_p rfl ?_ | refine dw_a rfl ?_ | refine ds_seq ?_ | refine ds_ops mix (fun base => ?_))
        refine dw_slo (o' := j * 2) (n' := out.length - j) rfl rfl rfl hjl (Nat.le_refl _) (by omega) rfl ?_
        refine dw_app (l' := []) (q := (out.drop j).flatMap ptF) (m := out.length - j) rfl rfl rfl rfl ⟨rfl, rfl, _, rfl, hdrop⟩ (by omega) (by omega) (by decide) rfl ?_
        rw [Nat.zero_add (out.length - j), List.nil_append]
        repeat (first | refine dw_p rfl ?_ | refine dw_nil ?_ | refine ds_seq ?_ | refine ds_ops mix (fun base => ?_))
        refine dw_slo (o' := 0) (n' := j) rfl rfl rfl (Nat.zero_le _) hjl (by omega) (by omega) ?_
        repeat (first | refine dw_p rfl ?_ | refine dw_l rfl ?_ | refine dw_if rfl rfl (by omega) (by decide) (by assumption) ?_ | refine dw_ai rfl rfl rfl ?_)
        refine dw_app (l' := (out.take j).flatMap ptF) (q := [.c (.int .i64 x.1), .c (.int .i64 x.2)]) rfl rfl rfl htake ⟨rfl, rfl, _, rfl, rfl⟩ (by omega) (by omega) (by decide) rfl ?_
        repeat (first | refine dw_p rfl ?_ | refine dw_nil ?_ | refine ds_ops mix (fun base => ?_))
        refine dw_app (q := (out.drop j).flatMap ptF) (m := out.length - j) rfl rfl rfl (subL_all _ (by rw [List.length_append, hlt]; simp; omega)) ⟨rfl, rfl, _, rfl, subL_all _ hld⟩ (by omega) (by omega) (by decide) rfl ?_
        rw [hL, hD]
        refine dw_p rfl ?_
        refine dw_keep (SubA.cons (k := 0) rfl (SubA.cons (k := 3) rfl (SubA.cons (k := 4) rfl (SubA.nil _)))) (SubA.cons (k := 5) rfl (SubA.nil _)) ?_
        exact dw_nil hQ
      by_cases hj0 : j = 0
      · have g0 : decide ((j : Int) > 0) = false := by simp; omega
        repeat (first | refine dw_skip rfl rfl ?_ | refine dw_pickF rfl rfl ?_ | refine dw_pB rfl (by assumption) ?_ | refine dw_p rfl ?_ | refine dw_nil ?_ | refine ds_seq ?_ | refine ds_ops mix (fun base => ?_))
        refine ds_if rfl (fun ht => by cases ht) (fun _ => ?_)
        refine ds_exit ?_
        refine ds_keep (SubA.cons (k := 0) rfl (SubA.cons (k := 3) rfl (SubA.cons (k := 4) rfl (SubA.cons (k := 5) rfl (SubA.nil _))))) (SubA.cons (k := 0) rfl (SubA.nil _)) ?_
        refine fin (by rw [← hpos, hj0]; rfl) _ ?_
        repeat (first | refine dw_p rfl ?_ | refine dw_nil ?_ | refine ds_ops mix (fun base => ?_))
        refine ⟨m - 1, by omega, _, _, _, [(0, 5)], ?wa, k + 1, by omega, insP x out, ?ha, rfl, rfl, rfl⟩
        case wa => exact ⟨by repeat (first | exact trivial | refine ⟨by first | rfl | exact congrArg (fun z => some (DV.int z)) (dwrap (by omega) (by omega)), rfl, ?_⟩), by repeat (first | exact trivial | refine ⟨by first | rfl | exact congrArg (fun z => some (Bk.data z)) (by assumption), rfl, rfl, ?_⟩), rfl⟩
        case ha => rw [hstep, addP, if_neg ht2]
      · obtain ⟨i, rfl⟩ : ∃ i, j = i + 1 := ⟨j - 1, by omega⟩
        have g0 : decide (((i + 1 : Nat) : Int) > 0) = true := by simp
        obtain ⟨z, hz⟩ : ∃ z, out[i]? = some z := ⟨_, List.getElem?_eq_getElem (by omega)⟩
        have ez := ptF_at hz
        have hp1 : posR x out (i + 1) = if before x z = true then posR x out i else i + 1 := by simp only [posR, hz]
        repeat (first | refine dw_want rfl rfl ?_ | refine dw_pB rfl (by assumption) ?_ | refine dw_p rfl ?_ | refine dw_l rfl ?_ | refine dw_if rfl rfl (by omega) (by decide) (by assumption) ?_ | refine ds_seq ?_ | refine ds_ops mix (fun base => ?_))
        rw [show IntKind.i64.wrap (((i + 1 : Nat) : Int) - 1) = (i : Nat) by rw [dwrap (by omega) (by omega)]; omega]
        repeat (first | refine dw_want rfl rfl ?_ | refine dw_io0 rfl rfl (by omega) (by omega) ?_ | refine dw_l (dload_data rfl rfl (by assumption) rfl) ?_)
        refine dw_cf rfl rfl (d_before (a := x) (b := z)) ?_
        rintro _ rfl
        cases hb : before x z with
        | true =>
          repeat (first | refine dw_pickT rfl rfl ?_ | refine dw_nil ?_)
          refine ds_if rfl (fun _ => ?_) (fun ht => by cases ht)
          repeat (first | refine dw_p rfl ?_ | refine dw_nil ?_ | refine ds_ops mix (fun base => ?_) | refine ds_skip ?_ | refine ds_block ?_)
          rw [show IntKind.i64.wrap (((i + 1 : Nat) : Int) - 1) = (i : Nat) by rw [dwrap (by omega) (by omega)]; omega]
          refine ⟨i, by omega, _, _, _, [], ?wk3, i, rfl, by omega, ?hp, rfl, rfl, rfl⟩
          case wk3 => exact ⟨by repeat (first | exact trivial | refine ⟨by first | rfl | exact congrArg (fun z => some (DV.int z)) (dwrap (by omega) (by omega)), rfl, ?_⟩), by repeat (first | exact trivial | refine ⟨by first | rfl | exact congrArg (fun z => some (Bk.data z)) (by assumption), rfl, rfl, ?_⟩), rfl⟩
          case hp => rw [← hpos, hp1, if_pos hb]
        | false =>
          repeat (first | refine dw_pickT rfl rfl ?_ | refine dw_nil ?_)
          refine ds_if rfl (fun ht => by cases ht) (fun _ => ?_)
          refine ds_exit ?_
          refine ds_keep (SubA.cons (k := 0) rfl (SubA.cons (k := 3) rfl (SubA.cons (k := 4) rfl (SubA.cons (k := 5) rfl (SubA.nil _))))) (SubA.cons (k := 0) rfl (SubA.nil _)) ?_
          refine fin (by rw [← hpos, hp1, if_neg (by rw [hb]; decide)]) _ ?_
          repeat (first | refine dw_p rfl ?_ | refine dw_nil ?_ | refine ds_ops mix (fun base => ?_))
          refine ⟨m - 1, by omega, _, _, _, [(0, 5)], ?wb, k + 1, by omega, insP x out, ?hb2, rfl, rfl, rfl⟩
          case wb => exact ⟨by repeat (first | exact trivial | refine ⟨by first | rfl | exact congrArg (fun z => some (DV.int z)) (dwrap (by omega) (by omega)), rfl, ?_⟩), by repeat (first | exact trivial | refine ⟨by first | rfl | exact congrArg (fun z => some (Bk.data z)) (by assumption), rfl, rfl, ?_⟩), rfl⟩
          case hb2 => rw [hstep, addP, if_neg ht2]
  · simp at ht
    refine ds_keep (SubA.cons (k := 3) rfl (SubA.nil _)) (SubA.cons (k := 0) rfl (SubA.nil _)) ?_
    refine ds_frz 0 rfl (by repeat' (first | exact trivial | rfl | assumption | refine ⟨?_, ?_⟩)) (by repeat' (first | exact trivial | rfl | assumption | refine ⟨?_, ?_⟩)) ?_
    repeat (first | refine dw_p rfl ?_ | refine dw_nil ?_ | refine ds_seq ?_ | refine ds_ops mix (fun base => ?_) | refine ds_exit ?_)
    refine ds_ret ⟨_, rfl, rfl, ?_⟩
    rw [List.take_of_length_le (by omega)] at hout
    subst hout
    rfl
end Go.Ab.Fn

/- Plain: points by rows. -/
namespace Go.Ab.Fn
open Go.Ab Go.Proofs
set_option linter.unusedSimpArgs false

theorem before_iff {a b : Pt2} : before a b = true ↔ a.2 < b.2 ∨ (a.2 = b.2 ∧ a.1 < b.1) := by
  unfold before
  by_cases h1 : a.2 < b.2
  · simp [h1]
  · by_cases h2 : a.2 = b.2
    · simp [h1, h2]
    · simp [h1, h2]
abbrev ByRows (l : List Pt2) : Prop := l.Pairwise fun a b => before a b = true
theorem before_trans {a b c : Pt2} (h1 : before a b = true) (h2 : before b c = true) : before a c = true := by
  rw [before_iff] at *; omega
theorem before_irrefl {a : Pt2} : ¬ before a a = true := by rw [before_iff]; omega
theorem before_total {a b : Pt2} (h : ¬ before a b = true) (hne : a ≠ b) : before b a = true := by
  rw [before_iff] at *
  have : ¬ (a.1 = b.1 ∧ a.2 = b.2) := fun h => hne (Prod.ext h.1 h.2)
  omega
/-- lists by rows with the same points are equal -/
theorem ByRows.ext : ∀ {l m : List Pt2}, ByRows l → ByRows m → (∀ p, p ∈ l ↔ p ∈ m) → l = m
  | [], [], _, _, _ => rfl
  | [], b :: m, _, _, h => by have := (h b).2 (by simp); simp at this
  | a :: l, [], _, _, h => by have := (h a).1 (by simp); simp at this
  | a :: l, b :: m, hl, hm, h => by
    rw [ByRows, List.pairwise_cons] at hl hm
    have hab : a = b := by
      rcases List.mem_cons.1 ((h a).1 (by simp)) with e | e
      · exact e
      · rcases List.mem_cons.1 ((h b).2 (by simp)) with e' | e'
        · exact e'.symm
        · exact absurd (before_trans (hl.1 b e') (hm.1 a e)) before_irrefl
    subst hab
    congr 1
    refine ByRows.ext hl.2 hm.2 fun p => ?_
    constructor
    · intro hp
      rcases List.mem_cons.1 ((h p).1 (by simp [hp])) with e | e
      · subst e; exact absurd (hl.1 p hp) before_irrefl
      · exact e
    · intro hp
      rcases List.mem_cons.1 ((h p).2 (by simp [hp])) with e | e
      · subst e; exact absurd (hm.1 p hp) before_irrefl
      · exact e
theorem posR_spec (x : Pt2) (out : List Pt2) : ∀ n, n ≤ out.length → (∀ j z, posR x out n ≤ j → j < n → out[j]? = some z → before x z = true) ∧ (∀ z, 0 < posR x out n → out[posR x out n - 1]? = some z → ¬ before x z = true)
  | 0, _ => ⟨fun j z h1 h2 => by omega, fun z h => by simp [posR] at h⟩
  | n + 1, hn => by
    obtain ⟨z, hz⟩ : ∃ z, out[n]? = some z := ⟨_, List.getElem?_eq_getElem (by omega)⟩
    have ih := posR_spec x out n (by omega)
    have e : posR x out (n + 1) = if before x z = true then posR x out n else n + 1 := by simp only [posR, hz]
    rw [e]
    by_cases hb : before x z = true
    · rw [if_pos hb]
      refine ⟨fun j y h1 h2 hy => ?_, ih.2⟩
      by_cases hj : j = n
      · subst hj; rw [hz] at hy; obtain rfl := Option.some.inj hy; exact hb
      · exact ih.1 j y h1 (by omega) hy
    · rw [if_neg hb]
      refine ⟨fun j y h1 h2 => by omega, fun y _ hy => ?_⟩
      rw [Nat.add_sub_cancel, hz] at hy
      obtain rfl := Option.some.inj hy
      exact hb
theorem insP_ok {x : Pt2} {out : List Pt2} (ho : ByRows out) (hx : x ∉ out) : ByRows (insP x out) := by
  obtain ⟨h1, h2⟩ := posR_spec x out out.length (Nat.le_refl _)
  have hp := posR_le x out out.length
  generalize hP : posR x out out.length = P at h1 h2 hp
  have hsplit : out = out.take P ++ out.drop P := (List.take_append_drop P out).symm
  have hlow : ∀ z ∈ out.take P, before z x = true := fun z hz => by
    obtain ⟨j, hj⟩ := List.getElem?_of_mem hz
    rw [List.getElem?_take] at hj
    split at hj
    · rename_i hjP
      have hP1 : P - 1 < out.length := by omega
      have hnb := h2 out[P - 1] (by omega) (List.getElem?_eq_getElem hP1)
      have hb := before_total hnb (fun e => hx (by rw [e]; exact List.getElem_mem hP1))
      by_cases hj1 : j = P - 1
      · subst hj1; rw [List.getElem?_eq_getElem hP1] at hj; obtain rfl := Option.some.inj hj; exact hb
      · have hjl : j < out.length := by omega
        rw [List.getElem?_eq_getElem hjl] at hj
        obtain rfl := Option.some.inj hj
        exact before_trans (List.pairwise_iff_getElem.1 ho j (P - 1) hjl hP1 (by omega)) hb
    · cases hj
  have hhigh : ∀ z ∈ out.drop P, before x z = true := fun z hz => by
    obtain ⟨j, hj⟩ := List.getElem?_of_mem hz
    rw [List.getElem?_drop] at hj
    exact h1 (P + j) z (by omega) (List.getElem?_eq_some_iff.1 hj).1 hj
  rw [hsplit, ByRows, List.pairwise_append] at ho
  rw [insP, hP, ByRows, List.append_assoc, List.pairwise_append]
  refine ⟨ho.1, ?_, fun a ha b hb => ?_⟩
  · simp only [List.singleton_append, List.pairwise_cons]
    exact ⟨hhigh, ho.2.1⟩
  · simp only [List.singleton_append, List.mem_cons] at hb
    rcases hb with rfl | hb
    · exact hlow a ha
    · exact ho.2.2 a ha b hb
theorem insP_mem {x p : Pt2} {out : List Pt2} : p ∈ insP x out ↔ p = x ∨ p ∈ out := by
  simp only [insP, List.mem_append, List.mem_singleton]
  constructor
  · rintro ((h | h) | h)
    · exact .inr (List.mem_of_mem_take h)
    · exact .inl h
    · exact .inr (List.mem_of_mem_drop h)
  · rintro (h | h)
    · exact .inl (.inr h)
    · rw [← List.take_append_drop (posR x out out.length) out, List.mem_append] at h
      exact h.elim (fun h => .inl (.inl h)) .inr
theorem addP_ok {x : Pt2} {out : List Pt2} (ho : ByRows out) : ByRows (addP out x) := by
  unfold addP
  split
  · exact ho
  · exact insP_ok ho (by assumption)
theorem addP_mem {x p : Pt2} {out : List Pt2} : p ∈ addP out x ↔ p = x ∨ p ∈ out := by
  unfold addP
  split
  · rename_i h
    exact ⟨.inr, fun h' => h'.elim (fun e => e ▸ h) fun h => h⟩
  · exact insP_mem
theorem sortedP_go : ∀ (l out : List Pt2), ByRows out → ByRows (l.foldl addP out) ∧ ∀ p, p ∈ l.foldl addP out ↔ p ∈ out ∨ p ∈ l
  | [], out, h => ⟨h, by simp⟩
  | x :: l, out, h => by
    obtain ⟨h1, h2⟩ := sortedP_go l (addP out x) (addP_ok h)
    refine ⟨h1, fun p => ?_⟩
    rw [List.foldl_cons, h2, addP_mem, List.mem_cons]
    constructor
    · rintro ((h | h) | h)
      · exact .inr (.inl h)
      · exact .inl h
      · exact .inr (.inr h)
    · rintro (h | h | h)
      · exact .inl (.inr h)
      · exact .inl (.inl h)
      · exact .inr h
theorem sortedP_rows (l : List Pt2) : ByRows (sortedP l) := (sortedP_go l [] List.Pairwise.nil).1
theorem sortedP_mem {l : List Pt2} {p : Pt2} : p ∈ sortedP l ↔ p ∈ l := by rw [sortedP, (sortedP_go l [] List.Pairwise.nil).2]; simp

theorem rowPts_mem {d : DotsL} {w y : Nat} {p : Pt2} : p ∈ rowPts d w y ↔ ∃ x : Nat, x < w ∧ dot d x y = true ∧ p = ((x : Int), (y : Int)) := by
  simp only [rowPts, List.mem_map, List.mem_filter, List.mem_range]
  constructor
  · rintro ⟨x, ⟨h1, h2⟩, rfl⟩; exact ⟨x, h1, h2, rfl⟩
  · rintro ⟨x, h1, h2, rfl⟩; exact ⟨x, ⟨h1, h2⟩, rfl⟩
theorem pointsP_mem {d : DotsL} {w h : Nat} {p : Pt2} : p ∈ pointsP d w h ↔ ∃ x y : Nat, x < w ∧ y < h ∧ dot d x y = true ∧ p = ((x : Int), (y : Int)) := by
  simp only [pointsP, List.mem_flatMap, List.mem_range, rowPts_mem]
  constructor
  · rintro ⟨y, hy, x, hx, hd, rfl⟩; exact ⟨x, y, hx, hy, hd, rfl⟩
  · rintro ⟨x, y, hx, hy, hd, rfl⟩; exact ⟨y, hy, x, hx, hd, rfl⟩
theorem rowPts_rows (d : DotsL) (y : Nat) : ∀ w, ByRows (rowPts d w y)
  | 0 => by simp [rowPts]
  | w + 1 => by
    rw [rowPts_succ, ByRows, List.pairwise_append]
    refine ⟨rowPts_rows d y w, ?_, fun a ha b hb => ?_⟩
    · split <;> simp
    · obtain ⟨x, hx, _, rfl⟩ := rowPts_mem.1 ha
      split at hb
      · simp at hb; subst hb; rw [before_iff]; simp; omega
      · simp at hb
theorem pointsP_rows (d : DotsL) (w : Nat) : ∀ h, ByRows (pointsP d w h)
  | 0 => by simp [pointsP]
  | h + 1 => by
    rw [pointsP_succ, ByRows, List.pairwise_append]
    refine ⟨pointsP_rows d w h, rowPts_rows d h w, fun a ha b hb => ?_⟩
    obtain ⟨x, y, _, hy, _, rfl⟩ := pointsP_mem.1 ha
    obtain ⟨x', _, _, rfl⟩ := rowPts_mem.1 hb
    rw [before_iff]; simp; omega
theorem dot_plot {w h : Nat} : ∀ (l : List Pt2) {d : DotsL}, Sz w h d → ∀ x y, x < w → y < h → (dot (plotP w h d l) x y = true ↔ dot d x y = true ∨ ((x : Int), (y : Int)) ∈ l)
  | [], d, hd, x, y, hx, hy => by simp [plotP]
  | p :: l, d, hd, x, y, hx, hy => by
    have ih := dot_plot l (plot1_sz hd p) x y hx hy
    have e : plotP w h d (p :: l) = plotP w h (plot1 w h d p) l := rfl
    rw [e, ih, List.mem_cons]
    have h1 : dot (plot1 w h d p) x y = true ↔ dot d x y = true ∨ ((x : Int), (y : Int)) = p := by
      unfold plot1
      by_cases hon : onG w h p = true
      · have hp : 0 ≤ p.1 ∧ p.1 < w ∧ 0 ≤ p.2 ∧ p.2 < h := by simpa [onG] using hon
        rw [if_pos hon, dot_set hd (by omega) (by omega)]
        by_cases e : x = p.1.toNat ∧ y = p.2.toNat
        · rw [if_pos e]
          have : ((x : Int), (y : Int)) = p := Prod.ext (by simp only; omega) (by simp only; omega)
          simp [this]
        · rw [if_neg e]
          have : ¬ ((x : Int), (y : Int)) = p := fun h => e (by rw [← h]; simp)
          simp [this]
      · rw [if_neg hon]
        have : ¬ ((x : Int), (y : Int)) = p := fun h => hon (by rw [← h]; simp [onG]; omega)
        simp [this]
    rw [h1]
    constructor
    · rintro ((h | h) | h)
      · exact .inl h
      · exact .inr (.inl h)
      · exact .inr (.inr h)
    · rintro (h | h | h)
      · exact .inl (.inl h)
      · exact .inl (.inr h)
      · exact .inr h
/-- the points of a plotted grid are those of the grid and those of the list that are on it -/
theorem plot_points {w h : Nat} {d : DotsL} (hd : Sz w h d) (l : List Pt2) : pointsP (plotP w h d l) w h = sortedP (pointsP d w h ++ l.filter (onG w h ·)) := by
  refine ByRows.ext (pointsP_rows _ _ _) (sortedP_rows _) fun p => ?_
  rw [sortedP_mem, List.mem_append, pointsP_mem, pointsP_mem, List.mem_filter]
  constructor
  · rintro ⟨x, y, hx, hy, hdot, rfl⟩
    rcases (dot_plot l hd x y hx hy).1 hdot with h1 | h1
    · exact .inl ⟨x, y, hx, hy, h1, rfl⟩
    · exact .inr ⟨h1, by simp [onG]; omega⟩
  · rintro (⟨x, y, hx, hy, h1, rfl⟩ | ⟨h1, h2⟩)
    · exact ⟨x, y, hx, hy, (dot_plot l hd x y hx hy).2 (.inl h1), rfl⟩
    · have hp : 0 ≤ p.1 ∧ p.1 < w ∧ 0 ≤ p.2 ∧ p.2 < h := by simpa [onG] using h2
      have e : p = ((p.1.toNat : Int), (p.2.toNat : Int)) := Prod.ext (by simp only; omega) (by simp only; omega)
      refine ⟨p.1.toNat, p.2.toNat, by omega, by omega, (dot_plot l hd _ _ (by omega) (by omega)).2 (.inr ?_), e⟩
      rw [← e]; exact h1
end Go.Ab.Fn

/- Deep contracts: some grid; the reference's points, handed back. -/
namespace Go.Ab.Fn
open Go.Ab Go.Proofs
set_option linter.unusedSimpArgs false

set_option maxHeartbeats 4000000 in
theorem o_rpoints {w h : Nat} {d : DotsL} (hw : w ≤ 200) (hh : h ≤ 200) (hd : Sz w h d) : DKO 35 [gridD w h d] fun r S nk => r = .one (.own 1 0 (pointsP d w h).length 2) ∧ S = [(1, .data ((pointsP d w h).flatMap ptF))] ∧ nk = 2 := by
  refine dfnO_ok cp35 rfl GHro fun Z0 lo => ?_
  have hl := hd.1
  repeat (first | refine dw_p rfl ?_ | refine dw_a rfl ?_ | refine dw_nil ?_ | refine ds_seq ?_ | refine ds_ops mix (fun base => ?_) | refine ds_block ?_)
  refine ds_loop (fun k E S nk => ∃ y : Nat, y + k = h ∧ E = [(1, .one (.ptr 0 0)), (3, .one (.own 1 0 (pointsP d w y).length 2)), (4, .int y)] ∧ S = [(0, .cells [.f (.c (.int .i64 w)), .f (.c (.int .i64 h)), .f (.sl 1 d.length ((rowsF d).map rowF))]), (1, .data ((pointsP d w y).flatMap ptF))] ∧ nk = 2) ⟨h, _, _, _, [], ?wk, 0, by omega, rfl, rfl, rfl⟩ ?_
  case wk => exact ⟨by repeat (first | exact trivial | refine ⟨by first | rfl | exact congrArg (fun z => some (DV.int z)) (dwrap (by omega) (by omega)), rfl, ?_⟩), by repeat (first | exact trivial | refine ⟨by first | rfl | exact congrArg (fun z => some (Bk.data z)) (by assumption), rfl, rfl, ?_⟩), rfl⟩
  rintro k E S nk ⟨y, hy, rfl, rfl, rfl⟩
  have hpl : (pointsP d w y).length ≤ 200 * 200 := Nat.le_trans (pointsP_len d w y) (Nat.mul_le_mul (by omega) hw)
  repeat (first | refine dw_p rfl ?_ | refine dw_l rfl ?_ | refine dw_nil ?_ | refine ds_seq ?_ | refine ds_ops mix (fun base => ?_))
  refine ds_if rfl (fun ht => ?_) (fun ht => ?_)
  · simp at ht
    obtain ⟨r, hr, hrl⟩ := hd.row (y := y) (by omega)
    have e1 := rowF_at (rowsF_at hr)
    repeat (first | refine dw_p rfl ?_ | refine dw_nil ?_ | refine ds_seq ?_ | refine ds_ops mix (fun base => ?_) | refine ds_skip ?_ | refine ds_block ?_)
    refine ds_loop (fun k2 E S nk => ∃ x : Nat, x + k2 = w ∧ ∃ l : List Pt2, l = pointsP d w y ++ rowPts d x y ∧ E = [(1, .one (.ptr 0 0)), (3, .one (.own 1 0 l.length 2)), (4, .int y), (5, .int x)] ∧ S = [(0, .cells [.f (.c (.int .i64 w)), .f (.c (.int .i64 h)), .f (.sl 1 d.length ((rowsF d).map rowF))]), (1, .data (l.flatMap ptF))] ∧ nk = 2) ⟨w, _, _, _, [], ?wk1, 0, by omega, pointsP d w y, by simp [rowPts], rfl, rfl, rfl⟩ ?_
    case wk1 => exact ⟨by repeat (first | exact trivial | refine ⟨by first | rfl | exact congrArg (fun z => some (DV.int z)) (dwrap (by omega) (by omega)), rfl, ?_⟩), by repeat (first | exact trivial | refine ⟨by first | rfl | exact congrArg (fun z => some (Bk.data z)) (by assumption), rfl, rfl, ?_⟩), rfl⟩
    rintro k2 E S nk ⟨x, hx, l, hll, rfl, rfl, rfl⟩
    have hl2 : l.length ≤ 200 * 200 + 200 := by
      have := rowPts_len d y x
      rw [hll, List.length_append]; omega
    repeat (first | refine dw_p rfl ?_ | refine dw_l rfl ?_ | refine dw_nil ?_ | refine ds_seq ?_ | refine ds_ops mix (fun base => ?_))
    refine ds_if rfl (fun ht2 => ?_) (fun ht2 => ?_)
    · simp at ht2
      obtain ⟨r', hr', _, hrx⟩ := hd.cell (x := x) (y := y) (by omega) (by omega)
      rw [hr] at hr'
      obtain rfl := Option.some.inj hr'
      have e2 := one_at (boF_at hrx)
      have l1 : x < (r.map boF).length := by simp; omega
      repeat (first | refine dw_p rfl ?_ | refine dw_l rfl ?_ | refine dw_if rfl rfl (by omega) (by decide) (by assumption) ?_ | refine dw_nil ?_ | refine ds_seq ?_ | refine ds_ops mix (fun base => ?_) | refine ds_skip ?_ | refine ds_block ?_)
      refine ds_if (t := dot d x y) rfl (fun ht3 => ?_) (fun ht3 => ?_)
      · repeat (first | refine dw_p rfl ?_ | refine dw_a rfl ?_ | refine ds_ops mix (fun base => ?_))
        refine dw_app (l' := l.flatMap ptF) (q := ptF ((x : Int), (y : Int))) rfl rfl rfl (subL_all _ (ptF_len l)) ⟨rfl, rfl, _, rfl, rfl⟩ (by omega) (by omega) (by decide) rfl ?_
        rw [show l.flatMap ptF ++ ptF ((x : Int), (y : Int)) = (l ++ [((x : Int), (y : Int))]).flatMap ptF by simp, show l.length + 1 = (l ++ [((x : Int), (y : Int))]).length by simp]
        repeat (first | refine dw_p rfl ?_ | refine dw_nil ?_ | refine ds_ops mix (fun base => ?_))
        refine ⟨k2 - 1, by omega, _, _, _, [(1, 3)], ?wk2, x + 1, by omega, l ++ [((x : Int), (y : Int))], ?_, rfl, rfl, rfl⟩
        case wk2 => exact ⟨by repeat (first | exact trivial | refine ⟨by first | rfl | exact congrArg (fun z => some (DV.int z)) (dwrap (by omega) (by omega)), rfl, ?_⟩), by repeat (first | exact trivial | refine ⟨by first | rfl | exact congrArg (fun z => some (Bk.data z)) (by assumption), rfl, rfl, ?_⟩), rfl⟩
        rw [rowPts_succ, if_pos ht3, hll, List.append_assoc]
      · repeat (first | refine dw_p rfl ?_ | refine dw_nil ?_ | refine ds_ops mix (fun base => ?_) | refine ds_skip ?_)
        refine ⟨k2 - 1, by omega, _, _, _, [], ?wk3, x + 1, by omega, l, ?_, rfl, rfl, rfl⟩
        case wk3 => exact ⟨by repeat (first | exact trivial | refine ⟨by first | rfl | exact congrArg (fun z => some (DV.int z)) (dwrap (by omega) (by omega)), rfl, ?_⟩), by repeat (first | exact trivial | refine ⟨by first | rfl | exact congrArg (fun z => some (Bk.data z)) (by assumption), rfl, rfl, ?_⟩), rfl⟩
        rw [rowPts_succ, if_neg (by rw [ht3]; decide), hll, List.append_nil]
    · simp at ht2
      obtain rfl : x = w := by omega
      rw [← pointsP_succ] at hll
      subst hll
      repeat (first | refine dw_p rfl ?_ | refine dw_nil ?_ | refine ds_ops mix (fun base => ?_) | refine ds_exit ?_)
      refine ⟨k - 1, by omega, _, _, _, [], ?wk4, y + 1, by omega, rfl, rfl, rfl⟩
      case wk4 => exact ⟨by repeat (first | exact trivial | refine ⟨by first | rfl | exact congrArg (fun z => some (DV.int z)) (dwrap (by omega) (by omega)), rfl, ?_⟩), by repeat (first | exact trivial | refine ⟨by first | rfl | exact congrArg (fun z => some (Bk.data z)) (by assumption), rfl, rfl, ?_⟩), rfl⟩
  · simp at ht
    obtain rfl : y = h := by omega
    repeat (first | refine dw_p rfl ?_ | refine dw_nil ?_ | refine ds_seq ?_ | refine ds_ops mix (fun base => ?_) | refine ds_exit ?_)
    exact ds_ret ⟨_, rfl, rfl, _, SubA.cons (k := 1) rfl (SubA.nil _), rfl, rfl, rfl⟩

def someD (w h : Int) (l : List (Int × Int)) : DotsL := plotP (w.toNat % 17) (h.toNat % 17) (blankD (w.toNat % 17) (h.toNat % 17)) ((l.take 40).map madeP)
theorem d_some {w h : Int} {l : List (Int × Int)} (hw : 0 ≤ w ∧ w < 256) (hh : 0 ≤ h ∧ h < 256) (hl : Bys l) : DK 30 [.one (.f (.c (.int .u8 w))), .one (.f (.c (.int .u8 h))), bysD l] fun d => d = gridD (w.toNat % 17 : Nat) (h.toNat % 17 : Nat) (someD w h l) := by
  refine dfn_ok cp30 rfl GHro fun Z0 lo => ?_
  have hw17 : (IntKind.i64.wrap w).tmod 17 = ((w.toNat % 17 : Nat) : Int) := by rw [dwrap (by omega) (by omega), Int.tmod_eq_emod_of_nonneg (by omega)]; omega
  have hh17 : (IntKind.i64.wrap h).tmod 17 = ((h.toNat % 17 : Nat) : Int) := by rw [dwrap (by omega) (by omega), Int.tmod_eq_emod_of_nonneg (by omega)]; omega
  repeat (first | refine dw_p rfl ?_ | refine dw_a rfl ?_ | refine dw_nil ?_ | refine ds_seq ?_ | refine ds_ops mix (fun base => ?_))
  rw [hw17, hh17]
  refine dw_cfr rfl rfl (o_rnew (w.toNat % 17 : Nat) (h.toNat % 17 : Nat)) ?_
  rintro _ _ _ ⟨n, m, hn, hm, _, _, rfl, rfl, rfl⟩
  obtain rfl := side_of hn (by omega)
  obtain rfl := side_of hm (by omega)
  have hsz := Sz.blankD (w.toNat % 17) (h.toNat % 17)
  have hlen : h.toNat % 17 = (rowsF (blankD (w.toNat % 17) (h.toNat % 17))).length := by rw [rowsF_len, hsz.1]
  repeat (first | refine dw_p rfl ?_)
  refine dw_cf rfl rfl (d_made (n := 40) hl (by omega)) ?_
  rintro _ rfl
  refine dw_keep (SubA.cons (k := 6) rfl (SubA.cons (k := 13) rfl (SubA.cons (k := 15) rfl (SubA.nil _)))) (SubA.cons (k := 0) rfl (SubA.cons (k := 3) rfl (SubA.nil _))) ?_
  refine dw_frzT 3 rfl (by repeat' (first | exact trivial | rfl | assumption | refine ⟨?_, ?_⟩)) (by repeat' (first | exact trivial | rfl | assumption | refine ⟨?_, ?_⟩)) ?_
  refine dw_cf (ds := [gridD (w.toNat % 17 : Nat) (h.toNat % 17 : Nat) (blankD (w.toNat % 17) (h.toNat % 17)), ptsD ((l.take 40).map madeP)]) ?_ rfl (d_rplot (by omega) (by omega) hsz (by simp; omega)) ?_
  · simp only [gridD, hsz.1]; rfl
  rintro _ rfl
  repeat (first | refine dw_st rfl rfl rfl rfl rfl (Nat.le_of_ble_eq_true rfl) rfl ?_ | refine dw_nil ?_)
  exact ds_ret ⟨_, rfl, rfl, rfl⟩
end Go.Ab.Fn

namespace Go.Ab.Fn
open Go.Ab Go.Proofs
set_option linter.unusedSimpArgs false

theorem eqs_pt (neg : Bool) (p q : Pt) : aPure .lf (.eqs neg [(0, false), (1, false)] (.c (.agg (ptC p))) (.c (.agg (ptC q)))) = some (.bool (if neg then !decide (p = q) else decide (p = q))) := by
  obtain ⟨p1, p2⟩ := p
  obtain ⟨q1, q2⟩ := q
  simp only [aPure, Opd.ev, ptC, aEqs, aEq, List.getElem?_cons_zero, List.getElem?_cons_succ, if_true]
  by_cases h1 : p1 = q1
  · by_cases h2 : p2 = q2
    · subst h1; subst h2; simp
    · subst h1
      have e2 : (p2 == q2) = false := by simpa using h2
      simp [h2, e2]
  · have e1 : (p1 == q1) = false := by simpa using h1
    simp [h1, e1]

theorem samePts_ro {H : Hp} {l r : List Pt} {v u : V} (hl : Pts H l v) (hr : Pts H r u) (hn : l.length < 1000000000000) : ACalls Tryd.prog 1 16 [v, u] H fun x _ => x = .bool (decide (l = r)) := by
  refine pfn_ok cp16 (by simp [f16]) fun hwf => ?_
  have hlen := hl.len
  have hlen' := hr.len
  repeat (first | refine pw_mvt rfl ?_ | refine pw_mvc ?_ | refine pw_p rfl rfl ?_ | refine pw_p rfl (by assumption) ?_ | refine pw_nil ?_ | refine ps_seq ?_ | refine ps_ops0 mix ?_)
  refine ps_if rfl rfl (fun ht => ?_) (fun ht => ?_)
  · repeat (first | refine pw_mvc ?_ | refine pw_nil ?_ | refine ps_seq ?_ | refine ps_ops0 mix ?_)
    refine ps_ret ⟨_, rfl, ?_⟩
    simp at ht
    congr 2
    symm
    simp
    intro h
    exact ht (by rw [h])
  · repeat (first | refine pw_mvc ?_ | refine pw_nil ?_ | refine ps_seq ?_ | refine ps_ops0 mix ?_ | refine ps_skip ?_ | refine ps_block ?_)
    simp at ht
    refine ps_loop (fun m E H' => Pts H' l v ∧ Pts H' r u ∧ ∃ k : Nat, k + m = l.length ∧ E = [(0, v), (1, u), (5, .int k)] ∧ l.take k = r.take k) (m := l.length) ⟨_, (SubE.cons (k := 0) rfl (SubE.cons (k := 1) rfl (SubE.cons (k := 5) rfl (SubE.nil _)))), hl, hr, 0, by omega, rfl, rfl⟩ ?_
    rintro m E H' hwf' ⟨hl', hr', k, hk, rfl, hno⟩
    repeat (first | refine pw_mvt rfl ?_ | refine pw_p rfl rfl ?_ | refine pw_p rfl (by assumption) ?_ | refine pw_nil ?_ | refine ps_seq ?_ | refine ps_ops0 mix ?_)
    refine ps_if rfl rfl (fun ht => ?_) (fun ht => ?_)
    · simp at ht
      obtain ⟨p, hp⟩ : ∃ p, l[k]? = some p := ⟨_, List.getElem?_eq_getElem (by omega)⟩
      obtain ⟨q, hq⟩ : ∃ p, r[k]? = some p := ⟨_, List.getElem?_eq_getElem (by omega)⟩
      obtain ⟨b, o, e1, e2⟩ := hl'.at hp .i64
      obtain ⟨b', o', e1', e2'⟩ := hr'.at hq .i64
      repeat (first | refine ps_seq ?_ | refine ps_skip ?_ | refine ps_block ?_)
      refine ps_ops mix ?_
      repeat (first | refine pw_mvt rfl ?_ | refine pw_ln rfl rfl (by assumption) ?_ | refine pw_p rfl (by assumption) ?_)
      refine pw_p rfl (eqs_pt true p q) ?_
      repeat (first | refine pw_nil ?_)
      refine ps_if rfl rfl (fun ht2 => ?_) (fun ht2 => ?_)
      · repeat (first | refine pw_mvc ?_ | refine pw_nil ?_ | refine ps_seq ?_ | refine ps_ops0 mix ?_)
        refine ps_ret ⟨_, rfl, ?_⟩
        simp at ht2
        congr 2
        symm
        simp
        intro h
        subst h
        rw [hp] at hq
        exact ht2 (Option.some.inj hq)
      · repeat (first | refine pw_mvt rfl ?_ | refine pw_p rfl rfl ?_ | refine pw_nil ?_ | refine ps_ops0 mix ?_ | refine ps_skip ?_)
        simp at ht2
        subst ht2
        refine ⟨m - 1, by omega, _, (SubE.cons (k := 0) rfl (SubE.cons (k := 1) rfl (SubE.cons (k := 5) rfl (SubE.nil _)))), hl'.le (fun _ _ _ h => h), hr'.le (fun _ _ _ h => h), k + 1, by omega, ?_, ?_⟩
        · rw [wrap_i64 (by omega) (by omega)]; rfl
        · rw [List.take_add_one, List.take_add_one, hp, hq, hno]
    · simp at ht
      obtain rfl : k = l.length := by omega
      rw [List.take_length, List.take_of_length_le (by omega)] at hno
      refine ps_exit ?_
      repeat (first | refine pw_mvc ?_ | refine pw_nil ?_ | refine ps_seq ?_ | refine ps_ops0 mix ?_)
      exact ps_ret ⟨_, rfl, by simp [hno]⟩
theorem samePts_ok {H : Hp} {l r : List Pt} {v u : V} (hl : Pts H l v) (hr : Pts H r u) (hn : l.length < 1000000000000) : ACalls Tryd.prog 1 16 [v, u] H fun x H' => x = .bool (decide (l = r)) ∧ H' = H :=
  (ACalls.pure (samePts_ro (hl.le (Le.ro H)) (hr.le (Le.ro H)) hn) (fun v _ h => by rw [h]; rfl)).mono fun v H' ⟨⟨_, h⟩, e⟩ => ⟨h, e⟩
end Go.Ab.Fn

/- Deep contracts: points compared; from contracts over heaps. -/
namespace Go.Ab.Fn
open Go.Ab Go.Proofs
set_option linter.unusedSimpArgs false

theorem ptsF_eq (l : List Pt2) : l.flatMap ptF = (ptsC l).map .c := by
  induction l with
  | nil => rfl
  | cons p l ih => rw [List.flatMap_cons, ih]; rfl
theorem ptsC_closed (l : List Pt2) : ∀ c ∈ ptsC l, c.closed = true := by
  intro c hc
  obtain ⟨p, _, hp⟩ := List.mem_flatMap.1 hc
  simp only [ptC, List.mem_cons, List.not_mem_nil, or_false] at hp
  rcases hp with rfl | rfl <;> rfl
theorem rd_of_own {Z : Nat → Prop} {H' : Hp} {lo hi : Nat} {l : List Pt2} {v : V} (h : POwn H' lo hi l v) (hz : ∀ b, lo ≤ b → b < hi → Z b) : RDV Z H' nob (ptsD l) v := by
  obtain ⟨⟨h1, h2⟩, h3⟩ := h
  rcases h2 with ⟨rfl, h0⟩ | ⟨b, ex, rfl, hlo, hr⟩
  · obtain rfl : l = [] := List.eq_nil_of_length_eq_zero h0
    exact ⟨_, rfl, .nil 2⟩
  · have hb := h3 b rfl
    refine ⟨_, rfl, .sl (fun _ => hz b hb.1 hb.2) (by rw [ptF_len]) (Nat.le_refl _) (by rw [← h1]; exact hr.2) fun i d c hd hc => ?_⟩
    rw [ptsF_eq, List.getElem?_map, hc] at hd
    obtain rfl := Option.some.inj hd
    exact .c c (ptsC_closed l c (List.mem_of_getElem? hc))
theorem pts_of_rd {Z : Nat → Prop} {H : Hp} {l : List Pt2} {v : V} (h : RDV Z H nob (ptsD l) v) : Pts H l v := by
  obtain ⟨c, rfl, h⟩ := h
  refine ⟨ptsC_len l, ?_⟩
  generalize hn : l.length = n at h
  generalize hq : l.flatMap ptF = q at h
  cases h with
  | nil => exact .inl ⟨rfl, rfl⟩
  | sl hz hl hcap hld hel =>
    rename_i b o cap ex cs
    refine .inr ⟨b, o, cap, ex, rfl, ?_⟩
    rw [hld]
    congr 1
    refine List.ext_getElem? fun i => ?_
    have hlen : cs.length = (ptsC l).length := by rw [loads_len hld, ptsC_len, hn]
    by_cases hi : i < cs.length
    · have e1 : q[i]? = some (.c (ptsC l)[i]) := by rw [← hq, ptsF_eq, List.getElem?_map, List.getElem?_eq_getElem (by omega)]; rfl
      have := hel i _ _ e1 (List.getElem?_eq_getElem hi)
      rw [List.getElem?_eq_getElem hi, List.getElem?_eq_getElem (by omega)]
      generalize (ptsC l)[i] = z at *
      cases this
      rfl
    · rw [List.getElem?_eq_none (by omega), List.getElem?_eq_none (by omega)]

theorem d_same {l r : List Pt2} (hn : l.length < 1000000000000) : DK 16 [ptsD l, ptsD r] fun d => d = .bool (decide (l = r)) := fun H Z args hw hz hg ha => by
  match args, ha with
  | [v, u], ⟨h1, h2, _⟩ =>
    refine (samePts_ok (pts_of_rd h1) (pts_of_rd h2) hn).mono ?_
    rintro x H' ⟨rfl, rfl⟩
    exact ⟨hw, Nat.le_refl _, fun _ _ => rfl, _, exact_ok rfl, rfl⟩

end Go.Ab.Fn

/- The law GridPlots over the deep contracts. -/
namespace Go.Ab.Fn
open Go.Ab Go.Proofs
set_option linter.unusedSimpArgs false

theorem cellB_six (b : Nat → Bool) : cellB b 6 = cellB (fun k => match k with | 0 => b 0 | 1 => b 1 | 2 => b 2 | 3 => b 3 | 4 => b 4 | _ => b 5) 6 := cellB_congr fun j hj => by
  have : j = 0 ∨ j = 1 ∨ j = 2 ∨ j = 3 ∨ j = 4 ∨ j = 5 := by omega
  rcases this with rfl | rfl | rfl | rfl | rfl | rfl <;> rfl
theorem bit_cell (d : DotsL) (r i : Nat) {k : Nat} (hk : k < 6) : bitC (cellUp d r i 6) k = dot d (2 * i + k / 3) (3 * r + k % 3) := by
  rw [cellUp_B, cellB_six]
  have := bitC_cellB (dot d (2 * i + 0 / 3) (3 * r + 0 % 3)) (dot d (2 * i + 1 / 3) (3 * r + 1 % 3)) (dot d (2 * i + 2 / 3) (3 * r + 2 % 3)) (dot d (2 * i + 3 / 3) (3 * r + 3 % 3)) (dot d (2 * i + 4 / 3) (3 * r + 4 % 3)) (dot d (2 * i + 5 / 3) (3 * r + 5 % 3)) ⟨k, hk⟩
  refine this.trans ?_
  have : k = 0 ∨ k = 1 ∨ k = 2 ∨ k = 3 ∨ k = 4 ∨ k = 5 := by omega
  rcases this with rfl | rfl | rfl | rfl | rfl | rfl <;> rfl
theorem cell_lt (d : DotsL) (r i : Nat) : cellUp d r i 6 < 64 := by
  rw [cellUp_B, cellB_six]
  exact (cellB_lt _ _ _ _ _ _).2
theorem from_to {n m : Nat} {d : DotsL} (hd : Sz n m d) (hn : n % 2 = 0) (hm : m % 3 = 0) : fromC n m (toC' n m d) = d := (fromC_sz n m _).ext hd fun x y hx hy => by
  rw [fromC_dot _ hx hy]
  have h1 : (toC' n m d)[y / 3]? = some ((List.range (n / 2)).map fun i => cellUp d (y / 3) i 6) := by simp [toC', show y / 3 < m / 3 by omega]
  have h2 : ((List.range (n / 2)).map fun i => cellUp d (y / 3) i 6)[x / 2]? = some (cellUp d (y / 3) (x / 2) 6) := by simp [show x / 2 < n / 2 by omega]
  simp only [bitAt, h1, h2]
  rw [bit_cell d (y / 3) (x / 2) (by omega)]
  congr 1 <;> omega
theorem fit_to {n m : Nat} {d : DotsL} (hn200 : n ≤ 200) (hm200 : m ≤ 200) (hn : n % 2 = 0) (hm : m % 3 = 0) : fitH (toC' n m d) n m ∧ fitR (toC' n m d) n := by
  refine ⟨?_, fun r hr => ?_⟩
  · unfold fitH
    have : (toC' n m d).length = m / 3 := by simp [toC']
    omega
  · simp only [toC', List.mem_map] at hr
    obtain ⟨y, _, rfl⟩ := hr
    refine ⟨by simp, fun c hc => ?_⟩
    simp only [List.mem_map] at hc
    obtain ⟨x, _, rfl⟩ := hc
    exact cell_lt d y x

set_option maxHeartbeats 8000000 in
theorem d_gridPlots {w0 w1 : Int} {l m : List (Int × Int)} (hw0 : 0 ≤ w0 ∧ w0 < 256) (hw1 : 0 ≤ w1 ∧ w1 < 256) (hl : Bys l) (hm : Bys m) : DK 9 [.agg [.f (.c (.int .u8 w0)), .f (.c (.int .u8 w1))], bysD l, bysD m] fun d => d = .bool true := by
  refine dfn_ok cp9 rfl GHro fun Z0 lo => ?_
  repeat (first | refine dw_p rfl ?_ | refine dw_a rfl ?_ | refine dw_nil ?_ | refine ds_seq ?_ | refine ds_ops mix (fun base => ?_))
  refine dw_cf rfl rfl d_sanity ?_
  rintro _ rfl
  repeat (first | refine dw_p rfl ?_ | refine dw_l rfl ?_ | refine dw_nil ?_ | refine ds_seq ?_ | refine ds_ops mix (fun base => ?_))
  refine dw_cf rfl rfl (d_some hw0 hw1 hl) ?_
  rintro _ rfl
  repeat (first | refine dw_p rfl ?_)
  refine dw_cf rfl rfl (d_made (n := 20) hm (by omega)) ?_
  rintro _ rfl
  have hn16 : w0.toNat % 17 ≤ 200 := by omega
  have hm16 : w1.toNat % 17 ≤ 200 := by omega
  have hsz : Sz (w0.toNat % 17) (w1.toNat % 17) (someD w0 w1 l) := plotP_sz _ (Sz.blankD _ _)
  generalize w0.toNat % 17 = n at hn16 hsz ⊢
  generalize w1.toNat % 17 = h at hm16 hsz ⊢
  generalize someD w0 w1 l = d at hsz ⊢
  have hpl : ((m.take 20).map madeP).length ≤ 20 := by simp; omega
  generalize (m.take 20).map madeP = p at hpl ⊢
  repeat (first | refine dw_p rfl ?_ | refine dw_l rfl ?_ | refine dw_a rfl ?_ | refine dw_st rfl rfl rfl rfl rfl (Nat.le_of_ble_eq_true rfl) rfl ?_ | refine dw_nil ?_ | refine ds_seq ?_ | refine ds_ops mix (fun base => ?_))
  refine dw_cfr rfl rfl (o_rpoints hn16 hm16 hsz) ?_
  rintro _ _ _ ⟨rfl, rfl, rfl⟩
  have hpp : (pointsP d n h).length ≤ 200 * 200 := Nat.le_trans (pointsP_len d n h) (Nat.mul_le_mul hm16 hn16)
  repeat (first | refine dw_p rfl ?_ | refine dw_nil ?_ | refine ds_seq ?_ | refine ds_ops mix (fun base => ?_) | refine ds_block ?_)
  refine ds_keep (SubA.cons (k := 7) rfl (SubA.cons (k := 8) rfl (SubA.cons (k := 9) rfl (SubA.cons (k := 10) rfl (SubA.cons (k := 11) rfl (SubA.nil _)))))) (SubA.cons (k := 1) rfl (SubA.cons (k := 3) rfl (SubA.nil _))) ?_
  refine ds_loop (fun j E S nk => ∃ k : Nat, k + j = p.length ∧ ∃ q : List Pt2, q = pointsP d n h ++ (p.take k).filter (onG n h ·) ∧ E = [(7, .bool true), (8, .one (.ptr 1 0)), (9, ptsD p), (10, .one (.own 3 0 q.length 2)), (11, .int k)] ∧ S = [(1, .cells [.f (.c (.int .i64 n)), .f (.c (.int .i64 h)), .f (.sl 1 d.length ((rowsF d).map rowF))]), (3, .data (q.flatMap ptF))] ∧ nk = 4) ⟨p.length, _, _, _, [], ?wk, 0, by omega, pointsP d n h, by simp, rfl, rfl, rfl⟩ ?_
  case wk => exact ⟨by repeat (first | exact trivial | refine ⟨by first | rfl | exact congrArg (fun z => some (DV.int z)) (dwrap (by omega) (by omega)), rfl, ?_⟩), by repeat (first | exact trivial | refine ⟨by first | rfl | exact congrArg (fun z => some (Bk.data z)) (by assumption), rfl, rfl, ?_⟩), rfl⟩
  rintro j E S nk ⟨k, hk, q, hq, rfl, rfl, rfl⟩
  have hql : q.length ≤ 200 * 200 + 20 := by
    have := List.length_filter_le (onG n h ·) (p.take k)
    rw [hq, List.length_append]
    simp at this
    omega
  repeat (first | refine dw_p rfl ?_ | refine dw_nil ?_ | refine ds_seq ?_ | refine ds_ops mix (fun base => ?_))
  refine ds_if rfl (fun ht => ?_) (fun ht => ?_)
  · simp at ht
    obtain ⟨x, hx⟩ : ∃ x, p[k]? = some x := ⟨_, List.getElem?_eq_getElem (by omega)⟩
    have e1 := ptF_at hx
    have hstep : (p.take (k + 1)).filter (onG n h ·) = (p.take k).filter (onG n h ·) ++ if onG n h x = true then [x] else [] := by
      rw [List.take_add_one, hx, List.filter_append]
      congr 1
      by_cases hon : onG n h x = true
      · simp [hon]
      · simp [hon]
    repeat (first | refine dw_p rfl ?_ | refine dw_l rfl ?_ | refine dw_if rfl rfl (by omega) (by decide) (by assumption) ?_ | refine ds_seq ?_ | refine ds_ops mix (fun base => ?_) | refine ds_skip ?_ | refine ds_block ?_)
    refine dw_cf rfl rfl (d_on (p := x)) ?_
    rintro _ rfl
    repeat (first | refine dw_nil ?_)
    refine ds_if rfl (fun ht2 => ?_) (fun ht2 => ?_)
    · repeat (first | refine dw_p rfl ?_ | refine dw_l rfl ?_ | refine dw_if rfl rfl (by omega) (by decide) (by assumption) ?_ | refine dw_a rfl ?_ | refine ds_ops mix (fun base => ?_))
      refine dw_app (l' := q.flatMap ptF) (q := ptF x) rfl rfl rfl (subL_all _ (ptF_len q)) ⟨rfl, rfl, _, rfl, rfl⟩ (by omega) (by omega) (by decide) rfl ?_
      rw [show q.flatMap ptF ++ ptF x = (q ++ [x]).flatMap ptF by simp, show q.length + 1 = (q ++ [x]).length by simp]
      repeat (first | refine dw_p rfl ?_ | refine dw_nil ?_ | refine ds_ops mix (fun base => ?_))
      refine ⟨j - 1, by omega, _, _, _, [(3, 5)], ?wk1, k + 1, by omega, q ++ [x], ?_, rfl, rfl, rfl⟩
      case wk1 => exact ⟨by repeat (first | exact trivial | refine ⟨by first | rfl | exact congrArg (fun z => some (DV.int z)) (dwrap (by omega) (by omega)), rfl, ?_⟩), by repeat (first | exact trivial | refine ⟨by first | rfl | exact congrArg (fun z => some (Bk.data z)) (by assumption), rfl, rfl, ?_⟩), rfl⟩
      rw [hstep, if_pos ht2, hq, List.append_assoc]
    · repeat (first | refine dw_p rfl ?_ | refine dw_nil ?_ | refine ds_ops mix (fun base => ?_) | refine ds_skip ?_)
      refine ⟨j - 1, by omega, _, _, _, [], ?wk2, k + 1, by omega, q, ?_, rfl, rfl, rfl⟩
      case wk2 => exact ⟨by repeat (first | exact trivial | refine ⟨by first | rfl | exact congrArg (fun z => some (DV.int z)) (dwrap (by omega) (by omega)), rfl, ?_⟩), by repeat (first | exact trivial | refine ⟨by first | rfl | exact congrArg (fun z => some (Bk.data z)) (by assumption), rfl, rfl, ?_⟩), rfl⟩
      rw [hstep, if_neg (by rw [ht2]; decide), List.append_nil, hq]
  · simp at ht
    rw [List.take_of_length_le (by omega)] at hq
    have hflat := ptF_len q
    have hszp := plotP_sz (w := n) (h := h) p hsz
    have hsame := plot_points hsz p
    rw [← hq] at hsame
    have hppl : (pointsP (plotP n h d p) n h).length ≤ 200 * 200 := Nat.le_trans (pointsP_len _ n h) (Nat.mul_le_mul hm16 hn16)
    refine ds_keep (SubA.cons (k := 7) rfl (SubA.cons (k := 8) rfl (SubA.cons (k := 9) rfl (SubA.cons (k := 10) rfl (SubA.nil _))))) (SubA.refl _) ?_
    refine ds_frz 3 rfl (by repeat' (first | exact trivial | rfl | assumption | refine ⟨?_, ?_⟩)) (by repeat' (first | exact trivial | rfl | assumption | refine ⟨?_, ?_⟩)) ?_
    repeat (first | refine dw_p rfl ?_ | refine dw_l rfl ?_ | refine ds_seq ?_ | refine ds_ops mix (fun base => ?_) | refine ds_exit ?_)
    refine dw_cf rfl rfl (d_plot hn16 hm16 hsz (by omega)) ?_
    rintro _ rfl
    generalize plotP n h d p = e at hszp hsame hppl ⊢
    repeat (first | refine dw_l rfl ?_ | refine dw_a rfl ?_ | refine dw_st rfl rfl rfl rfl rfl (Nat.le_of_ble_eq_true rfl) rfl ?_ | refine dw_nil ?_ | refine ds_seq ?_ | refine ds_ops mix (fun base => ?_))
    refine dw_cf rfl rfl (d_rvalid hn16 hm16 hszp) ?_
    rintro _ rfl
    repeat (first | refine dw_want rfl rfl ?_ | refine dw_p rfl ?_ | refine dw_l rfl ?_)
    refine dw_cf rfl rfl (d_points hn16 hm16 hszp) ?_
    rintro _ rfl
    repeat (first | refine dw_want rfl rfl ?_ | refine dw_p rfl ?_)
    refine dw_cf rfl rfl (d_sorted (l := q) (by omega)) ?_
    rintro _ rfl
    repeat (first | refine dw_want rfl rfl ?_)
    refine dw_cf rfl rfl (d_same (by omega)) ?_
    rintro _ rfl
    rw [hsame, decide_eq_true rfl]
    repeat (first | refine dw_want rfl rfl ?_ | refine dw_pickF rfl rfl ?_ | refine dw_p rfl ?_ | refine dw_nil ?_)
    refine ds_if rfl (fun ht => by cases ht) (fun _ => ?_)
    repeat (first | refine dw_l rfl ?_ | refine ds_seq ?_ | refine ds_ops mix (fun base => ?_) | refine ds_skip ?_)
    refine dw_cf rfl rfl (d_to hn16 hm16 hszp) ?_
    rintro c (⟨h2, h3, rfl⟩ | ⟨hno, rfl⟩)
    · obtain ⟨f1, f2⟩ := fit_to (d := e) hn16 hm16 h2 h3
      have g1 : ((n : Int).tmod 2 != 0) = false := by rw [tm (by omega)]; simp; omega
      have g2 : ((h : Int).tmod 3 != 0) = false := by rw [tm (by omega)]; simp; omega
      repeat (first | refine dw_want rfl rfl ?_ | refine dw_pickF rfl rfl ?_ | refine dw_pB rfl (by assumption) ?_ | refine dw_p rfl ?_ | refine dw_l rfl ?_ | refine dw_nil ?_ | refine ds_seq ?_ | refine ds_ops mix (fun base => ?_))
      refine ds_if (t := false) rfl (fun ht => by cases ht) (fun _ => ?_)
      repeat (first | refine dw_p rfl ?_ | refine dw_l rfl ?_ | refine ds_seq ?_ | refine ds_ops mix (fun base => ?_) | refine ds_skip ?_)
      refine dw_cf rfl rfl (d_from (l := toC' n h e) fun r hr => ?_) ?_
      · simp only [toC', List.mem_map] at hr
        obtain ⟨y, _, rfl⟩ := hr
        simp; omega
      rintro c (⟨_, _, rfl⟩ | ⟨hno, rfl⟩)
      · rw [Int.toNat_natCast, Int.toNat_natCast, okGrid, from_to hszp h2 h3]
        repeat (first | refine dw_want rfl rfl ?_ | refine dw_pickT rfl rfl ?_ | refine dw_p rfl ?_ | refine dw_l rfl ?_ | refine dw_a rfl ?_ | refine dw_st rfl rfl rfl rfl rfl (Nat.le_of_ble_eq_true rfl) rfl ?_ | refine dw_nil ?_ | refine ds_seq ?_ | refine ds_ops mix (fun base => ?_))
        refine dw_cf rfl rfl (d_sameG (by rw [hszp.1]; omega) fun r hr => by rw [hszp.2 r hr]; omega) ?_
        rintro _ rfl
        repeat (first | refine dw_want rfl rfl ?_ | refine dw_pickT rfl rfl ?_ | refine dw_p rfl ?_ | refine dw_nil ?_)
        exact ds_ret ⟨_, rfl, rfl, rfl⟩
      · exact absurd ⟨f1, f2⟩ hno
    · by_cases h2 : n % 2 = 0
      · have g1 : ((n : Int).tmod 2 != 0) = false := by rw [tm (by omega)]; simp; omega
        have g2 : ((h : Int).tmod 3 != 0) = true := by rw [tm (by omega)]; simp; omega
        repeat (first | refine dw_want rfl rfl ?_ | refine dw_pickF rfl rfl ?_ | refine dw_pB rfl (by assumption) ?_ | refine dw_p rfl ?_ | refine dw_l rfl ?_ | refine dw_nil ?_ | refine ds_seq ?_ | refine ds_ops mix (fun base => ?_))
        refine ds_if (t := true) rfl (fun _ => ?_) (fun ht => by cases ht)
        repeat (first | refine dw_want rfl rfl ?_ | refine dw_pickT rfl rfl ?_ | refine dw_p rfl ?_ | refine dw_nil ?_ | refine ds_seq ?_ | refine ds_ops mix (fun base => ?_))
        exact ds_ret ⟨_, rfl, rfl, rfl⟩
      · have g1 : ((n : Int).tmod 2 != 0) = true := by rw [tm (by omega)]; simp; omega
        repeat (first | refine dw_skip rfl rfl ?_ | refine dw_pickT rfl rfl ?_ | refine dw_pB rfl (by assumption) ?_ | refine dw_p rfl ?_ | refine dw_l rfl ?_ | refine dw_nil ?_ | refine ds_seq ?_ | refine ds_ops mix (fun base => ?_))
        refine ds_if (t := true) rfl (fun _ => ?_) (fun ht => by cases ht)
        repeat (first | refine dw_want rfl rfl ?_ | refine dw_pickT rfl rfl ?_ | refine dw_p rfl ?_ | refine dw_nil ?_ | refine ds_seq ?_ | refine ds_ops mix (fun base => ?_))
        exact ds_ret ⟨_, rfl, rfl, rfl⟩
end Go.Ab.Fn
